/- Pruned for this claim by a program. -/
import Derived.Test.YtkjjdpnpcjfgeaaBaX0
import Derived.Test.YtkjjdpnpcjfgeaaBaShort
import Derived.Test.YtkjjdpnpcjfgeaaBaAwk1
import Derived.Test.YtkjjdpnpcjfgeaaBaX1
namespace Go.Proofs.Ytkjjdpnpcjfgeaa.QAgg
open Go.RowKit Go.Proofs.YtkjjdpnpcjfgeaaW.PrintWords Go.Proofs.YtkjjdpnpcjfgeaaW.PrintLast Go.Proofs.YtkjjdpnpcjfgeaaW.PrintMore Go.Proofs.Ytkjjdpnpcjfgeaa.Short
attribute [local go_sem] max2_int min2_int max_two min_two max_three min_three max_four min_four   -- for this text's walks alone
set_option linter.unusedVariables false
set_option linter.unusedSimpArgs false

def gristmilllaw06_awake.f  : Option (Bool) := (agg_Start.f 2 0).bind fun bt115 => ((agg_Add.f 2 0 bt115.1 bt115.2.1 bt115.2.2 0 ([] : List ByteArray) (([3] : List Int)) 2).bind fun bt123 => ((agg_Add.f 2 0 bt123.1 bt123.2.1 bt123.2.2 0 ([] : List ByteArray) (([(-1)] : List Int)) 1).bind fun bt132 => ((agg_Start.f 5 0).bind fun bt138 => ((agg_Add.f 5 0 bt138.1 bt138.2.1 bt138.2.2 0 (([(⟨#[98]⟩ : ByteArray)] : List ByteArray)) ([] : List Int) 1).bind fun bt146 => ((agg_Start.f 5 0).bind fun bt152 => ((agg_Add.f 5 0 bt152.1 bt152.2.1 bt152.2.2 0 (([(⟨#[97]⟩ : ByteArray)] : List ByteArray)) ([] : List Int) 1).bind fun bt160 => ((agg_Merge.f 5 0 bt146.1 bt146.2.1 bt146.2.2 bt160.1 bt160.2.1 bt160.2.2).bind fun bt165 => (some true))))))))
def gristmilllaw06_awake.T2 : Bool × List (List Nat × List Nat) := (true, [([], []), ([], []), ([1], [1]), ([], []), ([3], [3]), ([0, 2, 4, 2], [0, 2, 4]), ([], []), ([6, 5, 5, 0, 1, 2, 3, 4, 5, 6], [5, 6])])
def gristmilllaw06_awake.B2 : List Nat := [0, 0, 2, 0, 8, 31, 0, 127]
theorem gristmilllaw06_awake.tab2 : rtab .any (opsOf Try.f6 2) = gristmilllaw06_awake.T2 := by kernel_rfl
theorem gristmilllaw06_awake.bits2 : waitsOk gristmilllaw06_awake.T2.2 gristmilllaw06_awake.B2 = true := by kernel_rfl
def gristmilllaw06_awake.T5 : Bool × List (List Nat × List Nat) := (true, [([], []), ([], []), ([1], [1]), ([], []), ([3], [3]), ([0, 2, 4, 2], [0, 2, 4]), ([], []), ([6, 5, 5, 0, 1, 2, 3, 4, 5, 6], [5, 6])])
def gristmilllaw06_awake.B5 : List Nat := [0, 0, 2, 0, 8, 31, 0, 127]
theorem gristmilllaw06_awake.tab5 : rtab .any (opsOf Try.f6 5) = gristmilllaw06_awake.T5 := by kernel_rfl
theorem gristmilllaw06_awake.bits5 : waitsOk gristmilllaw06_awake.T5.2 gristmilllaw06_awake.B5 = true := by kernel_rfl
def gristmilllaw06_awake.T6 : Bool × List (List Nat × List Nat) := (true, [([], []), ([], []), ([], []), ([], []), ([3], [3]), ([], []), ([5], [5]), ([2, 4, 6, 4], [2, 4, 6]), ([0, 1, 7, 7], [0, 1, 7]), ([8, 8, 0, 1, 2, 3, 4, 5, 6, 7, 8], [8])])
def gristmilllaw06_awake.B6 : List Nat := [0, 0, 0, 0, 8, 0, 32, 124, 255, 511]
theorem gristmilllaw06_awake.tab6 : rtab .any (opsOf Try.f6 6) = gristmilllaw06_awake.T6 := by kernel_rfl
theorem gristmilllaw06_awake.bits6 : waitsOk gristmilllaw06_awake.T6.2 gristmilllaw06_awake.B6 = true := by kernel_rfl
set_option maxHeartbeats 8000000 in
set_option maxRecDepth 100000 in
theorem gristmilllaw06_awake.calls  (r : Bool) (w : World) (h : gristmilllaw06_awake.f  = some r) :
  Calls Try.prog 6 #[] w fun e w' => e = .returned (.bool r) ∧ Below w.heap.size w w' := by
 have hu23 := Try.underlying23
 have hu37 := Try.underlying37
 have hu33 := Try.underlying33
 have HB := aMk (Below.refl w.heap.size w)
 have H : ((agg_Start.f 2 0).bind fun bt115 => ((agg_Add.f 2 0 bt115.1 bt115.2.1 bt115.2.2 0 ([] : List ByteArray) (([3] : List Int)) 2).bind fun bt123 => ((agg_Add.f 2 0 bt123.1 bt123.2.1 bt123.2.2 0 ([] : List ByteArray) (([(-1)] : List Int)) 1).bind fun bt132 => ((agg_Start.f 5 0).bind fun bt138 => ((agg_Add.f 5 0 bt138.1 bt138.2.1 bt138.2.2 0 (([(⟨#[98]⟩ : ByteArray)] : List ByteArray)) ([] : List Int) 1).bind fun bt146 => ((agg_Start.f 5 0).bind fun bt152 => ((agg_Add.f 5 0 bt152.1 bt152.2.1 bt152.2.2 0 (([(⟨#[97]⟩ : ByteArray)] : List ByteArray)) ([] : List Int) 1).bind fun bt160 => ((agg_Merge.f 5 0 bt146.1 bt146.2.1 bt146.2.2 bt160.1 bt160.2.1 bt160.2.2).bind fun bt165 => (some true))))))))) = some r := h
 clear h
 replace H := Option.bind_eq_some_iff.mp H
 obtain ⟨⟨t115, t116, t117⟩, A10, H⟩ := H
 replace H : ((agg_Add.f 2 0 t115 t116 t117 0 ([] : List ByteArray) (([3] : List Int)) 2).bind fun bt123 => ((agg_Add.f 2 0 bt123.1 bt123.2.1 bt123.2.2 0 ([] : List ByteArray) (([(-1)] : List Int)) 1).bind fun bt132 => ((agg_Start.f 5 0).bind fun bt138 => ((agg_Add.f 5 0 bt138.1 bt138.2.1 bt138.2.2 0 (([(⟨#[98]⟩ : ByteArray)] : List ByteArray)) ([] : List Int) 1).bind fun bt146 => ((agg_Start.f 5 0).bind fun bt152 => ((agg_Add.f 5 0 bt152.1 bt152.2.1 bt152.2.2 0 (([(⟨#[97]⟩ : ByteArray)] : List ByteArray)) ([] : List Int) 1).bind fun bt160 => ((agg_Merge.f 5 0 bt146.1 bt146.2.1 bt146.2.2 bt160.1 bt160.2.1 bt160.2.2).bind fun bt165 => (some true)))))))) = some r := H
 have A1 := aMk A10
 clear A10
 obtain ⟨y120, hy120⟩ : ∃ y_ : List Int, y_ = (([3] : List Int)) := ⟨_, rfl⟩
 replace H : ((agg_Add.f 2 0 t115 t116 t117 0 ([] : List ByteArray) y120 2).bind fun bt123 => ((agg_Add.f 2 0 bt123.1 bt123.2.1 bt123.2.2 0 ([] : List ByteArray) (([(-1)] : List Int)) 1).bind fun bt132 => ((agg_Start.f 5 0).bind fun bt138 => ((agg_Add.f 5 0 bt138.1 bt138.2.1 bt138.2.2 0 (([(⟨#[98]⟩ : ByteArray)] : List ByteArray)) ([] : List Int) 1).bind fun bt146 => ((agg_Start.f 5 0).bind fun bt152 => ((agg_Add.f 5 0 bt152.1 bt152.2.1 bt152.2.2 0 (([(⟨#[97]⟩ : ByteArray)] : List ByteArray)) ([] : List Int) 1).bind fun bt160 => ((agg_Merge.f 5 0 bt146.1 bt146.2.1 bt146.2.2 bt160.1 bt160.2.1 bt160.2.2).bind fun bt165 => (some true)))))))) = some r := by first | (rw [hy120]; with_reducible exact H) | (have H2_ := (Option.bind_some _ _).symm.trans H; rw [hy120]; with_reducible exact H2_) | (have H2_ := (Option.bind_some _ _).symm.trans H; with_reducible exact H2_) | with_reducible exact H | (rw [hy120]; exact H) | exact H
 have Ny120 := aMk hy120
 clear hy120
 replace H := Option.bind_eq_some_iff.mp H
 obtain ⟨⟨t123, t124, t125⟩, A20, H⟩ := H
 replace H : ((agg_Add.f 2 0 t123 t124 t125 0 ([] : List ByteArray) (([(-1)] : List Int)) 1).bind fun bt132 => ((agg_Start.f 5 0).bind fun bt138 => ((agg_Add.f 5 0 bt138.1 bt138.2.1 bt138.2.2 0 (([(⟨#[98]⟩ : ByteArray)] : List ByteArray)) ([] : List Int) 1).bind fun bt146 => ((agg_Start.f 5 0).bind fun bt152 => ((agg_Add.f 5 0 bt152.1 bt152.2.1 bt152.2.2 0 (([(⟨#[97]⟩ : ByteArray)] : List ByteArray)) ([] : List Int) 1).bind fun bt160 => ((agg_Merge.f 5 0 bt146.1 bt146.2.1 bt146.2.2 bt160.1 bt160.2.1 bt160.2.2).bind fun bt165 => (some true))))))) = some r := H
 have A2 := aMk A20
 clear A20
 obtain ⟨y129, hy129⟩ : ∃ y_ : List Int, y_ = (([(-1)] : List Int)) := ⟨_, rfl⟩
 replace H : ((agg_Add.f 2 0 t123 t124 t125 0 ([] : List ByteArray) y129 1).bind fun bt132 => ((agg_Start.f 5 0).bind fun bt138 => ((agg_Add.f 5 0 bt138.1 bt138.2.1 bt138.2.2 0 (([(⟨#[98]⟩ : ByteArray)] : List ByteArray)) ([] : List Int) 1).bind fun bt146 => ((agg_Start.f 5 0).bind fun bt152 => ((agg_Add.f 5 0 bt152.1 bt152.2.1 bt152.2.2 0 (([(⟨#[97]⟩ : ByteArray)] : List ByteArray)) ([] : List Int) 1).bind fun bt160 => ((agg_Merge.f 5 0 bt146.1 bt146.2.1 bt146.2.2 bt160.1 bt160.2.1 bt160.2.2).bind fun bt165 => (some true))))))) = some r := by first | (rw [hy129]; with_reducible exact H) | (have H2_ := (Option.bind_some _ _).symm.trans H; rw [hy129]; with_reducible exact H2_) | (have H2_ := (Option.bind_some _ _).symm.trans H; with_reducible exact H2_) | with_reducible exact H | (rw [hy129]; exact H) | exact H
 have Ny129 := aMk hy129
 clear hy129
 replace H := Option.bind_eq_some_iff.mp H
 obtain ⟨⟨t132, t133, t134⟩, A30, H⟩ := H
 replace H : ((agg_Start.f 5 0).bind fun bt138 => ((agg_Add.f 5 0 bt138.1 bt138.2.1 bt138.2.2 0 (([(⟨#[98]⟩ : ByteArray)] : List ByteArray)) ([] : List Int) 1).bind fun bt146 => ((agg_Start.f 5 0).bind fun bt152 => ((agg_Add.f 5 0 bt152.1 bt152.2.1 bt152.2.2 0 (([(⟨#[97]⟩ : ByteArray)] : List ByteArray)) ([] : List Int) 1).bind fun bt160 => ((agg_Merge.f 5 0 bt146.1 bt146.2.1 bt146.2.2 bt160.1 bt160.2.1 bt160.2.2).bind fun bt165 => (some true)))))) = some r := H
 have A3 := aMk A30
 clear A30
 replace H := Option.bind_eq_some_iff.mp H
 obtain ⟨⟨t138, t139, t140⟩, A40, H⟩ := H
 replace H : ((agg_Add.f 5 0 t138 t139 t140 0 (([(⟨#[98]⟩ : ByteArray)] : List ByteArray)) ([] : List Int) 1).bind fun bt146 => ((agg_Start.f 5 0).bind fun bt152 => ((agg_Add.f 5 0 bt152.1 bt152.2.1 bt152.2.2 0 (([(⟨#[97]⟩ : ByteArray)] : List ByteArray)) ([] : List Int) 1).bind fun bt160 => ((agg_Merge.f 5 0 bt146.1 bt146.2.1 bt146.2.2 bt160.1 bt160.2.1 bt160.2.2).bind fun bt165 => (some true))))) = some r := H
 have A4 := aMk A40
 clear A40
 obtain ⟨y143, hy143⟩ : ∃ y_ : List ByteArray, y_ = (([(⟨#[98]⟩ : ByteArray)] : List ByteArray)) := ⟨_, rfl⟩
 replace H : ((agg_Add.f 5 0 t138 t139 t140 0 y143 ([] : List Int) 1).bind fun bt146 => ((agg_Start.f 5 0).bind fun bt152 => ((agg_Add.f 5 0 bt152.1 bt152.2.1 bt152.2.2 0 (([(⟨#[97]⟩ : ByteArray)] : List ByteArray)) ([] : List Int) 1).bind fun bt160 => ((agg_Merge.f 5 0 bt146.1 bt146.2.1 bt146.2.2 bt160.1 bt160.2.1 bt160.2.2).bind fun bt165 => (some true))))) = some r := by first | (rw [hy143]; with_reducible exact H) | (have H2_ := (Option.bind_some _ _).symm.trans H; rw [hy143]; with_reducible exact H2_) | (have H2_ := (Option.bind_some _ _).symm.trans H; with_reducible exact H2_) | with_reducible exact H | (rw [hy143]; exact H) | exact H
 have Ny143 := aMk hy143
 clear hy143
 replace H := Option.bind_eq_some_iff.mp H
 obtain ⟨⟨t146, t147, t148⟩, A50, H⟩ := H
 replace H : ((agg_Start.f 5 0).bind fun bt152 => ((agg_Add.f 5 0 bt152.1 bt152.2.1 bt152.2.2 0 (([(⟨#[97]⟩ : ByteArray)] : List ByteArray)) ([] : List Int) 1).bind fun bt160 => ((agg_Merge.f 5 0 t146 t147 t148 bt160.1 bt160.2.1 bt160.2.2).bind fun bt165 => (some true)))) = some r := H
 have A5 := aMk A50
 clear A50
 replace H := Option.bind_eq_some_iff.mp H
 obtain ⟨⟨t152, t153, t154⟩, A60, H⟩ := H
 replace H : ((agg_Add.f 5 0 t152 t153 t154 0 (([(⟨#[97]⟩ : ByteArray)] : List ByteArray)) ([] : List Int) 1).bind fun bt160 => ((agg_Merge.f 5 0 t146 t147 t148 bt160.1 bt160.2.1 bt160.2.2).bind fun bt165 => (some true))) = some r := H
 have A6 := aMk A60
 clear A60
 obtain ⟨y157, hy157⟩ : ∃ y_ : List ByteArray, y_ = (([(⟨#[97]⟩ : ByteArray)] : List ByteArray)) := ⟨_, rfl⟩
 replace H : ((agg_Add.f 5 0 t152 t153 t154 0 y157 ([] : List Int) 1).bind fun bt160 => ((agg_Merge.f 5 0 t146 t147 t148 bt160.1 bt160.2.1 bt160.2.2).bind fun bt165 => (some true))) = some r := by first | (rw [hy157]; with_reducible exact H) | (have H2_ := (Option.bind_some _ _).symm.trans H; rw [hy157]; with_reducible exact H2_) | (have H2_ := (Option.bind_some _ _).symm.trans H; with_reducible exact H2_) | with_reducible exact H | (rw [hy157]; exact H) | exact H
 have Ny157 := aMk hy157
 clear hy157
 replace H := Option.bind_eq_some_iff.mp H
 obtain ⟨⟨t160, t161, t162⟩, A70, H⟩ := H
 replace H : ((agg_Merge.f 5 0 t146 t147 t148 t160 t161 t162).bind fun bt165 => (some true)) = some r := H
 have A7 := aMk A70
 clear A70
 replace H := Option.bind_eq_some_iff.mp H
 obtain ⟨⟨t165, t166, t167⟩, A80, H⟩ := H
 replace H : (some true) = some r := H
 have A8 := aMk A80
 clear A80
 obtain rfl := Option.some.inj H
 go_enter Try.func6, Try.ntmps6
 try go_wp2_with (first | ((with_reducible refine gate_dst (N := 1) rfl ?_); refine box_event ?hg (N := 1) ?hd (cs := #[.int .i64 0, .int .i64 0]) (t := 23) ?hr ?_; (case hd => rfl); (case hg => rfl); (case hr => first | (go_simp; done) | (go_simp; rfl)); intro gb114 hg w9 hbox hb; have BK114 := aMk (hbox); have GW114 := aMk ((by rw [hg]; exact (below_size (by repeat (first | (with_reducible first | exact HB.out | apply eA | apply eN | apply eD) | exact HB.out))) : w.heap.size ≤ gb114)); have GE114 := aMk ((by rw [hg]; exact (below_size (by repeat (first | (with_reducible first | exact HB.out | apply eA | apply eN | apply eD) | exact HB.out))) : w.heap.size ≤ gb114)); replace HB := aMk (below_step (by repeat (first | (with_reducible first | exact HB.out | apply eA | apply eN | apply eD) | exact HB.out)) hb); clear hb hbox hg; have hcz10_0 : w9.cell? ⟨gb114, 0, none⟩ = some (.int .i64 0) := (blk_cell BK114.out 0).trans rfl; have hcz10_1 : w9.cell? ⟨gb114, 1, none⟩ = some (.int .i64 0) := (blk_cell BK114.out 1).trans rfl; have hfz10_0 := blk_frozen BK114.out 0; have hfz10_1 := blk_frozen BK114.out 1))
 have n0_ : Aside0 (((w9.setCell ⟨gb114, 0, none⟩ (.int .i64 2)).setCell ⟨gb114, 1, none⟩ (.int .i64 0)).heap[gb114]? = some (.cells #[.int .i64 2, .int .i64 0] 23 (0, 0))) := ⟨by (with_reducible repeat (first | apply bA | apply bN | apply bD)); refine blk_put (cs := #[.int .i64 2, .int .i64 0]) ?_ 1 _ rfl; (with_reducible repeat (first | apply bA | apply bN | apply bD)); refine blk_put (cs := #[.int .i64 0, .int .i64 0]) ?_ 0 _ rfl; (with_reducible repeat (first | apply bA | apply bN | apply bD)); exact BK114.out⟩
 have n1_ : Aside0 (Below w.heap.size w ((w9.setCell ⟨gb114, 0, none⟩ (.int .i64 2)).setCell ⟨gb114, 1, none⟩ (.int .i64 0))) := ⟨by repeat (first | (with_reducible first | exact HB.out | apply eA | apply eN | apply eD | refine eS ?_ GE114.out) | exact HB.out)⟩
 (try clear BK114)
 (try clear HB)
 generalize ((w9.setCell ⟨gb114, 0, none⟩ (.int .i64 2)).setCell ⟨gb114, 1, none⟩ (.int .i64 0)) = w11 at n0_ n1_ ⊢
 have BK114 := n0_
 have HB := n1_
 clear n0_ n1_
 replace BK114 := aMk (bD BK114.out)
 replace HB := aMk (eD HB.out)
 refine start_ (n := 8) (S := fun w' => w'.cell? ⟨gb114, 0, none⟩ = some (.int .i64 2) ∧ w'.cell? ⟨gb114, 1, none⟩ = some (.int .i64 0)) (ds := []) #[false, false, false, false, false, false, false, false] (by kernel_rfl) rfl rfl ⟨(blk_cell BK114.out 0).trans rfl, (blk_cell BK114.out 1).trans rfl⟩ (fun hHeld => ?_); refine with_tabW gristmilllaw06_awake.tab2 gristmilllaw06_awake.bits2 (fun HT_ HW_ => ?_)
 generalize w11.drew = w12 at BK114 HB hHeld ⊢
 refine take_ (i := 0) (N := some 6) (v := ?_) (a' := ?_) #[true, false, false, false, false, false, false, false] rfl rfl (take_ofW HT_.out HW_.out (by kernel_rfl)) (fun _ _ _ h => h) (Or.inl ⟨by rfl, ?_⟩) hHeld ?_ ?_
 rotate_left
 ·rintro w' ⟨s0, s1⟩
  go_simp
  with_reducible rfl
 rotate_left
 ·simp only [Act.put, sA, sB, sC, i64_w, i32_w]
  rfl
 refine take_ (i := 1) (N := some 7) (v := ?_) (a' := ?_) #[true, true, false, false, false, false, false, false] rfl rfl (take_ofW HT_.out HW_.out (by kernel_rfl)) (fun _ _ _ h => h) (Or.inl ⟨by rfl, ?_⟩) hHeld ?_ ?_
 rotate_left
 ·rintro w' ⟨s0, s1⟩
  go_simp
  with_reducible rfl
 rotate_left
 ·simp only [Act.put, sA, sB, sC, i64_w, i32_w]
  rfl
 refine join_ (σ := Value × Value × Value × Nat) 1 #[true, true, true, true, true, true, true, false] (fun s_ => [(8, .agg #[.int .u64 t115, .int .i64 t116, s_.1]), (9, s_.2.1), (11, .agg #[.int .u64 t123, .int .i64 t124, s_.2.2.1]), (2, .pointer (some ⟨s_.2.2.2, 0, none⟩)), (10, .agg #[.int .i64 0, .slice none 0 0, s_.2.1])]) (fun s_ w' => (w'.cell? ⟨gb114, 0, none⟩ = some (.int .i64 2) ∧ w'.cell? ⟨gb114, 1, none⟩ = some (.int .i64 0)) ∧ (Kd.R Kd.string 9 w' w.heap.size (fun k_ => some k_ ≠ (s_.2.2.1 : Value).ownBlock) s_.1 t117) ∧ (Kd.R (Kd.int .i64) 2 w' w.heap.size (fun _ => True) s_.2.1 y120) ∧ (Kd.R Kd.string 9 w' w.heap.size (fun k_ => some k_ ≠ (s_.1 : Value).ownBlock) s_.2.2.1 t125) ∧ (w'.heap[gb114]? = some (.cells #[.int .i64 2, .int .i64 0] 23 (0, 0))) ∧ (w'.heap[s_.2.2.2]? = some (.cells #[.int .u64 0, .int .i64 0, .slice none 0 0] 33 (0, 0))) ∧ (w.heap.size ≤ s_.2.2.2) ∧ (w.heap.size ≤ s_.2.2.2) ∧ (gb114 ≠ s_.2.2.2) ∧ (s_.2.2.2 ≠ gb114) ∧ (Below w.heap.size w w')) ?_ ?_
 rotate_left
 ·intro hJ2_3_5_6
  refine join_ (σ := Value × Value × Value) 2 #[true, true, true, true, true, true, false, false] (fun s_ => [(8, .agg #[.int .u64 t115, .int .i64 t116, s_.1]), (9, s_.2.1), (11, .agg #[.int .u64 t123, .int .i64 t124, s_.2.2]), (10, .agg #[.int .i64 0, .slice none 0 0, s_.2.1])]) (fun s_ w' => (w'.cell? ⟨gb114, 0, none⟩ = some (.int .i64 2) ∧ w'.cell? ⟨gb114, 1, none⟩ = some (.int .i64 0)) ∧ (Kd.R Kd.string 9 w' w.heap.size (fun k_ => some k_ ≠ (s_.2.2 : Value).ownBlock) s_.1 t117) ∧ (Kd.R (Kd.int .i64) 2 w' w.heap.size (fun _ => True) s_.2.1 y120) ∧ (Kd.R Kd.string 9 w' w.heap.size (fun k_ => some k_ ≠ (s_.1 : Value).ownBlock) s_.2.2 t125) ∧ (w'.heap[gb114]? = some (.cells #[.int .i64 2, .int .i64 0] 23 (0, 0))) ∧ (Below w.heap.size w w')) ?_ ?_
  rotate_left
  ·intro hJ2_3_5
   refine join_ (σ := Value × Value × Nat) 2 #[true, true, true, true, true, false, true, false] (fun s_ => [(8, .agg #[.int .u64 t115, .int .i64 t116, s_.1]), (9, s_.2.1), (2, .pointer (some ⟨s_.2.2, 0, none⟩)), (10, .agg #[.int .i64 0, .slice none 0 0, s_.2.1])]) (fun s_ w' => (w'.cell? ⟨gb114, 0, none⟩ = some (.int .i64 2) ∧ w'.cell? ⟨gb114, 1, none⟩ = some (.int .i64 0)) ∧ (Kd.R Kd.string 9 w' w.heap.size (fun _ => True) s_.1 t117) ∧ (Kd.R (Kd.int .i64) 2 w' w.heap.size (fun _ => True) s_.2.1 y120) ∧ (w'.heap[gb114]? = some (.cells #[.int .i64 2, .int .i64 0] 23 (0, 0))) ∧ (w'.heap[s_.2.2]? = some (.cells #[.int .u64 0, .int .i64 0, .slice none 0 0] 33 (0, 0))) ∧ (w.heap.size ≤ s_.2.2) ∧ (w.heap.size ≤ s_.2.2) ∧ (gb114 ≠ s_.2.2) ∧ (s_.2.2 ≠ gb114) ∧ (Below w.heap.size w w')) ?_ ?_
   rotate_left
   ·intro hJ2_3_6
    refine join_ (σ := Value × Value) 3 #[true, true, true, true, true, false, false, false] (fun s_ => [(8, .agg #[.int .u64 t115, .int .i64 t116, s_.1]), (9, s_.2), (10, .agg #[.int .i64 0, .slice none 0 0, s_.2])]) (fun s_ w' => (w'.cell? ⟨gb114, 0, none⟩ = some (.int .i64 2) ∧ w'.cell? ⟨gb114, 1, none⟩ = some (.int .i64 0)) ∧ (Kd.R Kd.string 9 w' w.heap.size (fun _ => True) s_.1 t117) ∧ (Kd.R (Kd.int .i64) 2 w' w.heap.size (fun _ => True) s_.2 y120) ∧ (w'.heap[gb114]? = some (.cells #[.int .i64 2, .int .i64 0] 23 (0, 0))) ∧ (Below w.heap.size w w')) ?_ ?_
    rotate_left
    ·intro hJ2_3
     refine join_ (σ := Value × Nat) 4 #[true, true, true, false, false, false, true, false] (fun s_ => [(8, .agg #[.int .u64 t115, .int .i64 t116, s_.1]), (2, .pointer (some ⟨s_.2, 0, none⟩))]) (fun s_ w' => (w'.cell? ⟨gb114, 0, none⟩ = some (.int .i64 2) ∧ w'.cell? ⟨gb114, 1, none⟩ = some (.int .i64 0)) ∧ (Kd.R Kd.string 9 w' w.heap.size (fun _ => True) s_.1 t117) ∧ (w'.heap[gb114]? = some (.cells #[.int .i64 2, .int .i64 0] 23 (0, 0))) ∧ (w'.heap[s_.2]? = some (.cells #[.int .u64 0, .int .i64 0, .slice none 0 0] 33 (0, 0))) ∧ (w.heap.size ≤ s_.2) ∧ (w.heap.size ≤ s_.2) ∧ (gb114 ≠ s_.2) ∧ (s_.2 ≠ gb114) ∧ (Below w.heap.size w w')) ?_ ?_
     rotate_left
     ·intro hJ2_6
      refine join_ (σ := Value × Nat) 3 #[true, true, false, true, true, false, true, false] (fun s_ => [(9, s_.1), (2, .pointer (some ⟨s_.2, 0, none⟩)), (10, .agg #[.int .i64 0, .slice none 0 0, s_.1])]) (fun s_ w' => (w'.cell? ⟨gb114, 0, none⟩ = some (.int .i64 2) ∧ w'.cell? ⟨gb114, 1, none⟩ = some (.int .i64 0)) ∧ (Kd.R (Kd.int .i64) 2 w' w.heap.size (fun _ => True) s_.1 y120) ∧ (w'.heap[gb114]? = some (.cells #[.int .i64 2, .int .i64 0] 23 (0, 0))) ∧ (w'.heap[s_.2]? = some (.cells #[.int .u64 0, .int .i64 0, .slice none 0 0] 33 (0, 0))) ∧ (w.heap.size ≤ s_.2) ∧ (w.heap.size ≤ s_.2) ∧ (gb114 ≠ s_.2) ∧ (s_.2 ≠ gb114) ∧ (Below w.heap.size w w')) ?_ ?_
      rotate_left
      ·intro hJ3_6
       refine join_ (σ := Value) 5 #[true, true, true, false, false, false, false, false] (fun s_ => [(8, .agg #[.int .u64 t115, .int .i64 t116, s_])]) (fun s_ w' => (w'.cell? ⟨gb114, 0, none⟩ = some (.int .i64 2) ∧ w'.cell? ⟨gb114, 1, none⟩ = some (.int .i64 0)) ∧ (Kd.R Kd.string 9 w' w.heap.size (fun _ => True) s_ t117) ∧ (w'.heap[gb114]? = some (.cells #[.int .i64 2, .int .i64 0] 23 (0, 0))) ∧ (Below w.heap.size w w')) ?_ ?_
       rotate_left
       ·intro hJ2
        refine join_ (σ := Value) 4 #[true, true, false, true, true, false, false, false] (fun s_ => [(9, s_), (10, .agg #[.int .i64 0, .slice none 0 0, s_])]) (fun s_ w' => (w'.cell? ⟨gb114, 0, none⟩ = some (.int .i64 2) ∧ w'.cell? ⟨gb114, 1, none⟩ = some (.int .i64 0)) ∧ (Kd.R (Kd.int .i64) 2 w' w.heap.size (fun _ => True) s_ y120) ∧ (w'.heap[gb114]? = some (.cells #[.int .i64 2, .int .i64 0] 23 (0, 0))) ∧ (Below w.heap.size w w')) ?_ ?_
        rotate_left
        ·intro hJ3
         refine join_ (σ := Nat) 5 #[true, true, false, false, false, false, true, false] (fun s_ => [(2, .pointer (some ⟨s_, 0, none⟩))]) (fun s_ w' => (w'.cell? ⟨gb114, 0, none⟩ = some (.int .i64 2) ∧ w'.cell? ⟨gb114, 1, none⟩ = some (.int .i64 0)) ∧ (w'.heap[gb114]? = some (.cells #[.int .i64 2, .int .i64 0] 23 (0, 0))) ∧ (w'.heap[s_]? = some (.cells #[.int .u64 0, .int .i64 0, .slice none 0 0] 33 (0, 0))) ∧ (w.heap.size ≤ s_) ∧ (w.heap.size ≤ s_) ∧ (gb114 ≠ s_) ∧ (s_ ≠ gb114) ∧ (Below w.heap.size w w')) ?_ ?_
         rotate_left
         ·intro hJ6
          refine three_ (i := 2) (j := 3) (k := 6) (Ni := some 8) (Nj := some 9) (Nk := some 2) #[true, true, true, false, false, false, false, false] #[true, true, false, true, false, false, false, false] #[true, true, false, false, false, false, true, false] rfl rfl rfl rfl rfl rfl (three_of HT_.out (by kernel_rfl)) (by decide) (by decide) (by decide) (fun K hK => ?_) (fun K hK => ?_) (fun K hK => ?_)
          ·skip
           refine goes_ Try.func11 (by kernel_rfl) rfl #[.agg #[.int .i64 2, .int .i64 0]] (by rfl) rfl rfl (by (try simp only [List.map_toArray, List.map_cons, List.map_nil]); first | done | rfl | (simp only [List.length_drop, List.length_take]; rfl)) ?_
           with_reducible refine (agg_Start.calls 2 0 t115 t116 t117 _ A1.out).mono ?_
           rintro e w13 ⟨v118, rfl, ho0, hb⟩
           refine ⟨_, rfl, ?_⟩
           have HO119 := aMk (Kd.R_lower ho0 (below_size (by repeat (first | (with_reducible first | exact HB.out | apply eA | apply eN | apply eD | refine eS ?_ GE114.out) | exact HB.out))))
           replace BK114 := aMk (blk_below (g := gb114) (o := .cells #[.int .i64 2, .int .i64 0] 23 (0, 0)) (by (with_reducible repeat (first | apply bA | apply bN | apply bD)); exact BK114.out) hb)
           replace HB := aMk (below_step (by repeat (first | (with_reducible first | exact HB.out | apply eA | apply eN | apply eD | refine eS ?_ GE114.out) | exact HB.out)) hb)
           (try clear hb)
           (try clear ho0)
           refine hK.out _ _ ⟨(blk_cell BK114.out 0).trans rfl, (blk_cell BK114.out 1).trans rfl⟩ (fun hHeld => ?_)
           clear hK K
           refine norm_ (a' := ?_) ?_ ?_
           rotate_left
           ·show Act.put _ (some 8) _ = _
            simp only [Act.put, sA, sB, sC, i64_w, i32_w]
            rfl
           exact norm_ (by simp only [putAll, Act.put, sA, sB, sC] <;> rfl) (hJ2 (v118) _ ⟨hHeld, (by (with_reducible repeat (first | apply rA | apply rN | apply rD)); exact HO119.out), (by (with_reducible repeat (first | apply bA | apply bN | apply bD)); exact BK114.out), (by repeat (first | (with_reducible first | exact HB.out | apply eA | apply eN | apply eD | refine eS ?_ GE114.out) | exact HB.out))⟩)
          ·skip
           refine Kd.R_lit_step (Kd.int .i64) _ 2 ?hg (N := 9) ?hd (xs := ([3] : List Int)) (inner := [.int .i64 3]) (ok := fun _ => True) (okp := fun _ => True) ?hr ?hp (fun _ hk => hk) trivial (Below.refl _ _) (Nat.le_refl _) (by simp) ?_; (case hd => rfl); (case hg => rfl); (case hr => first | (go_simp; done) | (go_simp; rfl)); (case hp => exact (Reps.one (show Kd.M (Kd.int .i64) _ _ _ 3 [.int .i64 3] from rfl) (Reps.none _ _)))
           intro v121 w13 ho14 hb hg_ hnew_
           clear hg_ hnew_
           (first | rw [← Ny120.out] at ho14 | (simp only [Int.reduceToNat] at ho14; rw [← Ny120.out] at ho14))
           have HO122 := aMk (Kd.R_lower ho14 (below_size (by repeat (first | (with_reducible first | exact HB.out | apply eA | apply eN | apply eD | refine eS ?_ GE114.out) | exact HB.out))))
           replace BK114 := aMk (blk_below (g := gb114) (o := .cells #[.int .i64 2, .int .i64 0] 23 (0, 0)) (by (with_reducible repeat (first | apply bA | apply bN | apply bD)); exact BK114.out) hb)
           replace HB := aMk (below_step (by repeat (first | (with_reducible first | exact HB.out | apply eA | apply eN | apply eD | refine eS ?_ GE114.out) | exact HB.out)) hb)
           clear hb ho14
           obtain ⟨Ao15, co15, eo15⟩ := Kd.R_slice HO122.out
           (first | subst eo15 | (injection eo15 with f1_ f2_ f3_; have f4_ := f1_.symm; have f5_ := f3_.symm; clear f1_ f2_ f3_; subst f4_; subst f5_))
           refine hK.out _ _ ⟨(blk_cell BK114.out 0).trans rfl, (blk_cell BK114.out 1).trans rfl⟩ (fun hHeld => ?_)
           clear hK K
           refine norm_ (a' := ?_) ?_ ?_
           rotate_left
           ·show Act.put _ (some 9) _ = _
            simp only [Act.put, sA, sB, sC, i64_w, i32_w]
            rfl
           refine pure_ (i := 4) (N := some 10) (v := ?_) (a' := ?_) #[true, true, false, true, true, false, false, false] rfl rfl (any_of HT_.out (by kernel_rfl)) (fun _ _ _ h => h) (Or.inl ⟨by rfl, ?_⟩) ?_ ?_
           rotate_left
           ·intro w'
            go_simp
            with_reducible rfl
           rotate_left
           ·simp only [Act.put, sA, sB, sC, i64_w, i32_w]
            rfl
           exact norm_ (by simp only [putAll, Act.put, sA, sB, sC] <;> rfl) (hJ3 (.slice Ao15 y120.length co15) _ ⟨hHeld, (by (with_reducible repeat (first | apply rA | apply rN | apply rD)); exact HO122.out), (by (with_reducible repeat (first | apply bA | apply bN | apply bD)); exact BK114.out), (by repeat (first | (with_reducible first | exact HB.out | apply eA | apply eN | apply eD | refine eS ?_ GE114.out) | exact HB.out))⟩)
          ·skip
           refine box_step ?hg (N := 2) ?hd (cs := #[.int .u64 0, .int .i64 0, .slice none 0 0]) (t := 33) ?hr ?_; (case hd => rfl); (case hg => rfl); (case hr => first | (go_simp; done) | (go_simp; rfl))
           intro gb128 hg w13 hbox hb
           have BK128 := aMk (hbox)
           have GW128 := aMk ((by rw [hg]; exact (below_size (by repeat (first | (with_reducible first | exact HB.out | apply eA | apply eN | apply eD | refine eS ?_ GE114.out) | exact HB.out))) : w.heap.size ≤ gb128))
           have GE128 := GW128
           have NB114_128 := aMk ((by rw [hg]; exact Nat.ne_of_lt (blk_lt (g := gb114) (o := .cells #[.int .i64 2, .int .i64 0] 23 (0, 0)) (by (with_reducible repeat (first | apply bA | apply bN | apply bD)); exact BK114.out)) : gb114 ≠ gb128))
           have NB128_114 := aMk (Ne.symm NB114_128.out)
           replace BK114 := aMk (blk_below (g := gb114) (o := .cells #[.int .i64 2, .int .i64 0] 23 (0, 0)) (by (with_reducible repeat (first | apply bA | apply bN | apply bD)); exact BK114.out) hb)
           replace HB := aMk (below_step (by repeat (first | (with_reducible first | exact HB.out | apply eA | apply eN | apply eD | refine eS ?_ GE114.out) | exact HB.out)) hb)
           clear hb hbox hg
           refine hK.out _ _ ⟨(blk_cell BK114.out 0).trans rfl, (blk_cell BK114.out 1).trans rfl⟩ (fun hHeld => ?_)
           clear hK K
           refine norm_ (a' := ?_) ?_ ?_
           rotate_left
           ·show Act.put _ (some 2) _ = _
            simp only [Act.put, sA, sB, sC, i64_w, i32_w]
            rfl
           exact norm_ (by simp only [putAll, Act.put, sA, sB, sC] <;> rfl) (hJ6 (gb128) _ ⟨hHeld, (by (with_reducible repeat (first | apply bA | apply bN | apply bD)); exact BK114.out), (by (with_reducible repeat (first | apply bA | apply bN | apply bD)); exact BK128.out), GW128.out, GE128.out, NB114_128.out, NB128_114.out, (by repeat (first | (with_reducible first | exact HB.out | apply eA | apply eN | apply eD | refine eS ?_ GE114.out | refine eS ?_ GE128.out) | exact HB.out))⟩)
         ·skip
          rintro gb128 w14 ⟨hS_, h0_, h1_, h2_, h3_, h4_, h5_, h6_⟩
          have n0_ : Aside0 (w14.heap[gb114]? = some (.cells #[.int .i64 2, .int .i64 0] 23 (0, 0))) := ⟨h0_⟩
          have n1_ : Aside0 (w14.heap[gb128]? = some (.cells #[.int .u64 0, .int .i64 0, .slice none 0 0] 33 (0, 0))) := ⟨h1_⟩
          have n2_ : Aside0 (w.heap.size ≤ gb128) := ⟨h2_⟩
          have n3_ : Aside0 (w.heap.size ≤ gb128) := ⟨h3_⟩
          have n4_ : Aside0 (gb114 ≠ gb128) := ⟨h4_⟩
          have n5_ : Aside0 (gb128 ≠ gb114) := ⟨h5_⟩
          have n6_ : Aside0 (Below w.heap.size w w14) := ⟨h6_⟩
          clear BK114
          clear HB
          clear h0_ h1_ h2_ h3_ h4_ h5_ h6_
          have BK114 := n0_
          have BK128 := n1_
          have GW128 := n2_
          have GE128 := n3_
          have NB114_128 := n4_
          have NB128_114 := n5_
          have HB := n6_
          clear n0_ n1_ n2_ n3_ n4_ n5_ n6_
          have hHeld : w14.cell? ⟨gb114, 0, none⟩ = some (.int .i64 2) ∧ w14.cell? ⟨gb114, 1, none⟩ = some (.int .i64 0) := hS_
          refine norm_ (a' := ?_) ?_ ?_
          rotate_left
          ·simp only [putAll, Act.put, sA, sB, sC]
           rfl
          refine two_ (i := 2) (j := 3) (Ni := some 8) (Nj := some 9) #[true, true, true, false, false, false, true, false] #[true, true, false, true, false, false, true, false] rfl rfl rfl rfl (two_of HT_.out (by kernel_rfl)) (by decide) (by decide) (fun K hK => ?_) (fun K hK => ?_)
          ·skip
           refine goes_ Try.func11 (by kernel_rfl) rfl #[.agg #[.int .i64 2, .int .i64 0]] (by rfl) rfl rfl (by (try simp only [List.map_toArray, List.map_cons, List.map_nil]); first | done | rfl | (simp only [List.length_drop, List.length_take]; rfl)) ?_
           with_reducible refine (agg_Start.calls 2 0 t115 t116 t117 _ A1.out).mono ?_
           rintro e w15 ⟨v118, rfl, ho0, hb⟩
           refine ⟨_, rfl, ?_⟩
           have HO119 := aMk (Kd.R_lower ho0 (below_size (by repeat (first | (with_reducible first | exact HB.out | apply eA | apply eN | apply eD | refine eS ?_ GE114.out | refine eS ?_ GE128.out) | exact HB.out))))
           replace BK114 := aMk (blk_below (g := gb114) (o := .cells #[.int .i64 2, .int .i64 0] 23 (0, 0)) (by (with_reducible repeat (first | apply bA | apply bN | apply bD)); exact BK114.out) hb)
           replace BK128 := aMk (blk_below (g := gb128) (o := .cells #[.int .u64 0, .int .i64 0, .slice none 0 0] 33 (0, 0)) (by (with_reducible repeat (first | apply bA | apply bN | apply bD)); exact BK128.out) hb)
           replace HB := aMk (below_step (by repeat (first | (with_reducible first | exact HB.out | apply eA | apply eN | apply eD | refine eS ?_ GE114.out | refine eS ?_ GE128.out) | exact HB.out)) hb)
           (try clear hb)
           (try clear ho0)
           refine hK.out _ _ ⟨(blk_cell BK114.out 0).trans rfl, (blk_cell BK114.out 1).trans rfl⟩ (fun hHeld => ?_)
           clear hK K
           refine norm_ (a' := ?_) ?_ ?_
           rotate_left
           ·show Act.put _ (some 8) _ = _
            simp only [Act.put, sA, sB, sC, i64_w, i32_w]
            rfl
           exact norm_ (by simp only [putAll, Act.put, sA, sB, sC] <;> rfl) (hJ2_6 (v118, gb128) _ ⟨hHeld, (by (with_reducible repeat (first | apply rA | apply rN | apply rD)); exact HO119.out), (by (with_reducible repeat (first | apply bA | apply bN | apply bD)); exact BK114.out), (by (with_reducible repeat (first | apply bA | apply bN | apply bD)); exact BK128.out), GW128.out, GE128.out, NB114_128.out, NB128_114.out, (by repeat (first | (with_reducible first | exact HB.out | apply eA | apply eN | apply eD | refine eS ?_ GE114.out | refine eS ?_ GE128.out) | exact HB.out))⟩)
          ·skip
           refine Kd.R_lit_step (Kd.int .i64) _ 2 ?hg (N := 9) ?hd (xs := ([3] : List Int)) (inner := [.int .i64 3]) (ok := fun _ => True) (okp := fun _ => True) ?hr ?hp (fun _ hk => hk) trivial (Below.refl _ _) (Nat.le_refl _) (by simp) ?_; (case hd => rfl); (case hg => rfl); (case hr => first | (go_simp; done) | (go_simp; rfl)); (case hp => exact (Reps.one (show Kd.M (Kd.int .i64) _ _ _ 3 [.int .i64 3] from rfl) (Reps.none _ _)))
           intro v121 w15 ho16 hb hg_ hnew_
           clear hg_ hnew_
           (first | rw [← Ny120.out] at ho16 | (simp only [Int.reduceToNat] at ho16; rw [← Ny120.out] at ho16))
           have HO122 := aMk (Kd.R_lower ho16 (below_size (by repeat (first | (with_reducible first | exact HB.out | apply eA | apply eN | apply eD | refine eS ?_ GE114.out | refine eS ?_ GE128.out) | exact HB.out))))
           replace BK114 := aMk (blk_below (g := gb114) (o := .cells #[.int .i64 2, .int .i64 0] 23 (0, 0)) (by (with_reducible repeat (first | apply bA | apply bN | apply bD)); exact BK114.out) hb)
           replace BK128 := aMk (blk_below (g := gb128) (o := .cells #[.int .u64 0, .int .i64 0, .slice none 0 0] 33 (0, 0)) (by (with_reducible repeat (first | apply bA | apply bN | apply bD)); exact BK128.out) hb)
           replace HB := aMk (below_step (by repeat (first | (with_reducible first | exact HB.out | apply eA | apply eN | apply eD | refine eS ?_ GE114.out | refine eS ?_ GE128.out) | exact HB.out)) hb)
           clear hb ho16
           obtain ⟨Ao17, co17, eo17⟩ := Kd.R_slice HO122.out
           (first | subst eo17 | (injection eo17 with f1_ f2_ f3_; have f4_ := f1_.symm; have f5_ := f3_.symm; clear f1_ f2_ f3_; subst f4_; subst f5_))
           refine hK.out _ _ ⟨(blk_cell BK114.out 0).trans rfl, (blk_cell BK114.out 1).trans rfl⟩ (fun hHeld => ?_)
           clear hK K
           refine norm_ (a' := ?_) ?_ ?_
           rotate_left
           ·show Act.put _ (some 9) _ = _
            simp only [Act.put, sA, sB, sC, i64_w, i32_w]
            rfl
           refine pure_ (i := 4) (N := some 10) (v := ?_) (a' := ?_) #[true, true, false, true, true, false, true, false] rfl rfl (any_of HT_.out (by kernel_rfl)) (fun _ _ _ h => h) (Or.inl ⟨by rfl, ?_⟩) ?_ ?_
           rotate_left
           ·intro w'
            go_simp
            with_reducible rfl
           rotate_left
           ·simp only [Act.put, sA, sB, sC, i64_w, i32_w]
            rfl
           exact norm_ (by simp only [putAll, Act.put, sA, sB, sC] <;> rfl) (hJ3_6 (.slice Ao17 y120.length co17, gb128) _ ⟨hHeld, (by (with_reducible repeat (first | apply rA | apply rN | apply rD)); exact HO122.out), (by (with_reducible repeat (first | apply bA | apply bN | apply bD)); exact BK114.out), (by (with_reducible repeat (first | apply bA | apply bN | apply bD)); exact BK128.out), GW128.out, GE128.out, NB114_128.out, NB128_114.out, (by repeat (first | (with_reducible first | exact HB.out | apply eA | apply eN | apply eD | refine eS ?_ GE114.out | refine eS ?_ GE128.out) | exact HB.out))⟩)
        ·skip
         rintro v121 w16 ⟨hS_, h0_, h1_, h2_⟩
         have n0_ : Aside0 (Kd.R (Kd.int .i64) 2 w16 w.heap.size (fun _ => True) v121 y120) := ⟨h0_⟩
         have n1_ : Aside0 (w16.heap[gb114]? = some (.cells #[.int .i64 2, .int .i64 0] 23 (0, 0))) := ⟨h1_⟩
         have n2_ : Aside0 (Below w.heap.size w w16) := ⟨h2_⟩
         clear BK114
         clear HB
         clear h0_ h1_ h2_
         have HO122 := n0_
         have BK114 := n1_
         have HB := n2_
         clear n0_ n1_ n2_
         have hHeld : w16.cell? ⟨gb114, 0, none⟩ = some (.int .i64 2) ∧ w16.cell? ⟨gb114, 1, none⟩ = some (.int .i64 0) := hS_
         obtain ⟨Ao17, co17, eo17⟩ := Kd.R_slice HO122.out
         (first | subst eo17 | (injection eo17 with f1_ f2_ f3_; have f4_ := f1_.symm; have f5_ := f3_.symm; clear f1_ f2_ f3_; subst f4_; subst f5_))
         refine norm_ (a' := ?_) ?_ ?_
         rotate_left
         ·simp only [putAll, Act.put, sA, sB, sC]
          rfl
         refine two_ (i := 2) (j := 6) (Ni := some 8) (Nj := some 2) #[true, true, true, true, true, false, false, false] #[true, true, false, true, true, false, true, false] rfl rfl rfl rfl (two_of HT_.out (by kernel_rfl)) (by decide) (by decide) (fun K hK => ?_) (fun K hK => ?_)
         ·skip
          refine goes_ Try.func11 (by kernel_rfl) rfl #[.agg #[.int .i64 2, .int .i64 0]] (by rfl) rfl rfl (by (try simp only [List.map_toArray, List.map_cons, List.map_nil]); first | done | rfl | (simp only [List.length_drop, List.length_take]; rfl)) ?_
          with_reducible refine (agg_Start.calls 2 0 t115 t116 t117 _ A1.out).mono ?_
          rintro e w18 ⟨v118, rfl, ho0, hb⟩
          refine ⟨_, rfl, ?_⟩
          have HO119 := aMk (Kd.R_lower ho0 (below_size (by repeat (first | (with_reducible first | exact HB.out | apply eA | apply eN | apply eD | refine eS ?_ GE114.out) | exact HB.out))))
          replace HO122 := aMk (Kd.R_below (by (with_reducible repeat (first | apply rA | apply rN | apply rD)); exact HO122.out) hb)
          replace BK114 := aMk (blk_below (g := gb114) (o := .cells #[.int .i64 2, .int .i64 0] 23 (0, 0)) (by (with_reducible repeat (first | apply bA | apply bN | apply bD)); exact BK114.out) hb)
          replace HB := aMk (below_step (by repeat (first | (with_reducible first | exact HB.out | apply eA | apply eN | apply eD | refine eS ?_ GE114.out) | exact HB.out)) hb)
          (try clear hb)
          (try clear ho0)
          refine hK.out _ _ ⟨(blk_cell BK114.out 0).trans rfl, (blk_cell BK114.out 1).trans rfl⟩ (fun hHeld => ?_)
          clear hK K
          refine norm_ (a' := ?_) ?_ ?_
          rotate_left
          ·show Act.put _ (some 8) _ = _
           simp only [Act.put, sA, sB, sC, i64_w, i32_w]
           rfl
          exact norm_ (by simp only [putAll, Act.put, sA, sB, sC] <;> rfl) (hJ2_3 (v118, .slice Ao17 y120.length co17) _ ⟨hHeld, (by (with_reducible repeat (first | apply rA | apply rN | apply rD)); exact HO119.out), (by (with_reducible repeat (first | apply rA | apply rN | apply rD)); exact HO122.out), (by (with_reducible repeat (first | apply bA | apply bN | apply bD)); exact BK114.out), (by repeat (first | (with_reducible first | exact HB.out | apply eA | apply eN | apply eD | refine eS ?_ GE114.out) | exact HB.out))⟩)
         ·skip
          refine box_step ?hg (N := 2) ?hd (cs := #[.int .u64 0, .int .i64 0, .slice none 0 0]) (t := 33) ?hr ?_; (case hd => rfl); (case hg => rfl); (case hr => first | (go_simp; done) | (go_simp; rfl))
          intro gb128 hg w18 hbox hb
          have BK128 := aMk (hbox)
          have GW128 := aMk ((by rw [hg]; exact (below_size (by repeat (first | (with_reducible first | exact HB.out | apply eA | apply eN | apply eD | refine eS ?_ GE114.out) | exact HB.out))) : w.heap.size ≤ gb128))
          have GE128 := GW128
          have NB114_128 := aMk ((by rw [hg]; exact Nat.ne_of_lt (blk_lt (g := gb114) (o := .cells #[.int .i64 2, .int .i64 0] 23 (0, 0)) (by (with_reducible repeat (first | apply bA | apply bN | apply bD)); exact BK114.out)) : gb114 ≠ gb128))
          have NB128_114 := aMk (Ne.symm NB114_128.out)
          replace HO122 := aMk (Kd.R_below (by (with_reducible repeat (first | apply rA | apply rN | apply rD)); exact HO122.out) hb)
          replace BK114 := aMk (blk_below (g := gb114) (o := .cells #[.int .i64 2, .int .i64 0] 23 (0, 0)) (by (with_reducible repeat (first | apply bA | apply bN | apply bD)); exact BK114.out) hb)
          replace HB := aMk (below_step (by repeat (first | (with_reducible first | exact HB.out | apply eA | apply eN | apply eD | refine eS ?_ GE114.out) | exact HB.out)) hb)
          clear hb hbox hg
          refine hK.out _ _ ⟨(blk_cell BK114.out 0).trans rfl, (blk_cell BK114.out 1).trans rfl⟩ (fun hHeld => ?_)
          clear hK K
          refine norm_ (a' := ?_) ?_ ?_
          rotate_left
          ·show Act.put _ (some 2) _ = _
           simp only [Act.put, sA, sB, sC, i64_w, i32_w]
           rfl
          exact norm_ (by simp only [putAll, Act.put, sA, sB, sC] <;> rfl) (hJ3_6 (.slice Ao17 y120.length co17, gb128) _ ⟨hHeld, (by (with_reducible repeat (first | apply rA | apply rN | apply rD)); exact HO122.out), (by (with_reducible repeat (first | apply bA | apply bN | apply bD)); exact BK114.out), (by (with_reducible repeat (first | apply bA | apply bN | apply bD)); exact BK128.out), GW128.out, GE128.out, NB114_128.out, NB128_114.out, (by repeat (first | (with_reducible first | exact HB.out | apply eA | apply eN | apply eD | refine eS ?_ GE114.out | refine eS ?_ GE128.out) | exact HB.out))⟩)
       ·skip
        rintro v118 w14 ⟨hS_, h0_, h1_, h2_⟩
        have n0_ : Aside0 (Kd.R Kd.string 9 w14 w.heap.size (fun _ => True) v118 t117) := ⟨h0_⟩
        have n1_ : Aside0 (w14.heap[gb114]? = some (.cells #[.int .i64 2, .int .i64 0] 23 (0, 0))) := ⟨h1_⟩
        have n2_ : Aside0 (Below w.heap.size w w14) := ⟨h2_⟩
        clear BK114
        clear HB
        clear h0_ h1_ h2_
        have HO119 := n0_
        have BK114 := n1_
        have HB := n2_
        clear n0_ n1_ n2_
        have hHeld : w14.cell? ⟨gb114, 0, none⟩ = some (.int .i64 2) ∧ w14.cell? ⟨gb114, 1, none⟩ = some (.int .i64 0) := hS_
        refine norm_ (a' := ?_) ?_ ?_
        rotate_left
        ·simp only [putAll, Act.put, sA, sB, sC]
         rfl
        refine two_ (i := 3) (j := 6) (Ni := some 9) (Nj := some 2) #[true, true, true, true, false, false, false, false] #[true, true, true, false, false, false, true, false] rfl rfl rfl rfl (two_of HT_.out (by kernel_rfl)) (by decide) (by decide) (fun K hK => ?_) (fun K hK => ?_)
        ·skip
         refine Kd.R_lit_step (Kd.int .i64) _ 2 ?hg (N := 9) ?hd (xs := ([3] : List Int)) (inner := [.int .i64 3]) (ok := fun _ => True) (okp := fun _ => True) ?hr ?hp (fun _ hk => hk) trivial (Below.refl _ _) (Nat.le_refl _) (by simp) ?_; (case hd => rfl); (case hg => rfl); (case hr => first | (go_simp; done) | (go_simp; rfl)); (case hp => exact (Reps.one (show Kd.M (Kd.int .i64) _ _ _ 3 [.int .i64 3] from rfl) (Reps.none _ _)))
         intro v121 w15 ho16 hb hg_ hnew_
         clear hg_ hnew_
         (first | rw [← Ny120.out] at ho16 | (simp only [Int.reduceToNat] at ho16; rw [← Ny120.out] at ho16))
         have HO122 := aMk (Kd.R_lower ho16 (below_size (by repeat (first | (with_reducible first | exact HB.out | apply eA | apply eN | apply eD | refine eS ?_ GE114.out) | exact HB.out))))
         replace HO119 := aMk (Kd.R_below (by (with_reducible repeat (first | apply rA | apply rN | apply rD)); exact HO119.out) hb)
         replace BK114 := aMk (blk_below (g := gb114) (o := .cells #[.int .i64 2, .int .i64 0] 23 (0, 0)) (by (with_reducible repeat (first | apply bA | apply bN | apply bD)); exact BK114.out) hb)
         replace HB := aMk (below_step (by repeat (first | (with_reducible first | exact HB.out | apply eA | apply eN | apply eD | refine eS ?_ GE114.out) | exact HB.out)) hb)
         clear hb ho16
         obtain ⟨Ao17, co17, eo17⟩ := Kd.R_slice HO122.out
         (first | subst eo17 | (injection eo17 with f1_ f2_ f3_; have f4_ := f1_.symm; have f5_ := f3_.symm; clear f1_ f2_ f3_; subst f4_; subst f5_))
         refine hK.out _ _ ⟨(blk_cell BK114.out 0).trans rfl, (blk_cell BK114.out 1).trans rfl⟩ (fun hHeld => ?_)
         clear hK K
         refine norm_ (a' := ?_) ?_ ?_
         rotate_left
         ·show Act.put _ (some 9) _ = _
          simp only [Act.put, sA, sB, sC, i64_w, i32_w]
          rfl
         refine pure_ (i := 4) (N := some 10) (v := ?_) (a' := ?_) #[true, true, true, true, true, false, false, false] rfl rfl (any_of HT_.out (by kernel_rfl)) (fun _ _ _ h => h) (Or.inl ⟨by rfl, ?_⟩) ?_ ?_
         rotate_left
         ·intro w'
          go_simp
          with_reducible rfl
         rotate_left
         ·simp only [Act.put, sA, sB, sC, i64_w, i32_w]
          rfl
         exact norm_ (by simp only [putAll, Act.put, sA, sB, sC] <;> rfl) (hJ2_3 (v118, .slice Ao17 y120.length co17) _ ⟨hHeld, (by (with_reducible repeat (first | apply rA | apply rN | apply rD)); exact HO119.out), (by (with_reducible repeat (first | apply rA | apply rN | apply rD)); exact HO122.out), (by (with_reducible repeat (first | apply bA | apply bN | apply bD)); exact BK114.out), (by repeat (first | (with_reducible first | exact HB.out | apply eA | apply eN | apply eD | refine eS ?_ GE114.out) | exact HB.out))⟩)
        ·skip
         refine box_step ?hg (N := 2) ?hd (cs := #[.int .u64 0, .int .i64 0, .slice none 0 0]) (t := 33) ?hr ?_; (case hd => rfl); (case hg => rfl); (case hr => first | (go_simp; done) | (go_simp; rfl))
         intro gb128 hg w15 hbox hb
         have BK128 := aMk (hbox)
         have GW128 := aMk ((by rw [hg]; exact (below_size (by repeat (first | (with_reducible first | exact HB.out | apply eA | apply eN | apply eD | refine eS ?_ GE114.out) | exact HB.out))) : w.heap.size ≤ gb128))
         have GE128 := GW128
         have NB114_128 := aMk ((by rw [hg]; exact Nat.ne_of_lt (blk_lt (g := gb114) (o := .cells #[.int .i64 2, .int .i64 0] 23 (0, 0)) (by (with_reducible repeat (first | apply bA | apply bN | apply bD)); exact BK114.out)) : gb114 ≠ gb128))
         have NB128_114 := aMk (Ne.symm NB114_128.out)
         replace HO119 := aMk (Kd.R_below (by (with_reducible repeat (first | apply rA | apply rN | apply rD)); exact HO119.out) hb)
         replace BK114 := aMk (blk_below (g := gb114) (o := .cells #[.int .i64 2, .int .i64 0] 23 (0, 0)) (by (with_reducible repeat (first | apply bA | apply bN | apply bD)); exact BK114.out) hb)
         replace HB := aMk (below_step (by repeat (first | (with_reducible first | exact HB.out | apply eA | apply eN | apply eD | refine eS ?_ GE114.out) | exact HB.out)) hb)
         clear hb hbox hg
         refine hK.out _ _ ⟨(blk_cell BK114.out 0).trans rfl, (blk_cell BK114.out 1).trans rfl⟩ (fun hHeld => ?_)
         clear hK K
         refine norm_ (a' := ?_) ?_ ?_
         rotate_left
         ·show Act.put _ (some 2) _ = _
          simp only [Act.put, sA, sB, sC, i64_w, i32_w]
          rfl
         exact norm_ (by simp only [putAll, Act.put, sA, sB, sC] <;> rfl) (hJ2_6 (v118, gb128) _ ⟨hHeld, (by (with_reducible repeat (first | apply rA | apply rN | apply rD)); exact HO119.out), (by (with_reducible repeat (first | apply bA | apply bN | apply bD)); exact BK114.out), (by (with_reducible repeat (first | apply bA | apply bN | apply bD)); exact BK128.out), GW128.out, GE128.out, NB114_128.out, NB128_114.out, (by repeat (first | (with_reducible first | exact HB.out | apply eA | apply eN | apply eD | refine eS ?_ GE114.out | refine eS ?_ GE128.out) | exact HB.out))⟩)
      ·skip
       rintro ⟨v121, gb128⟩ w17 ⟨hS_, h0_, h1_, h2_, h3_, h4_, h5_, h6_, h7_⟩
       have n0_ : Aside0 (Kd.R (Kd.int .i64) 2 w17 w.heap.size (fun _ => True) v121 y120) := ⟨h0_⟩
       have n1_ : Aside0 (w17.heap[gb114]? = some (.cells #[.int .i64 2, .int .i64 0] 23 (0, 0))) := ⟨h1_⟩
       have n2_ : Aside0 (w17.heap[gb128]? = some (.cells #[.int .u64 0, .int .i64 0, .slice none 0 0] 33 (0, 0))) := ⟨h2_⟩
       have n3_ : Aside0 (w.heap.size ≤ gb128) := ⟨h3_⟩
       have n4_ : Aside0 (w.heap.size ≤ gb128) := ⟨h4_⟩
       have n5_ : Aside0 (gb114 ≠ gb128) := ⟨h5_⟩
       have n6_ : Aside0 (gb128 ≠ gb114) := ⟨h6_⟩
       have n7_ : Aside0 (Below w.heap.size w w17) := ⟨h7_⟩
       clear BK114
       clear HB
       clear h0_ h1_ h2_ h3_ h4_ h5_ h6_ h7_
       have HO122 := n0_
       have BK114 := n1_
       have BK128 := n2_
       have GW128 := n3_
       have GE128 := n4_
       have NB114_128 := n5_
       have NB128_114 := n6_
       have HB := n7_
       clear n0_ n1_ n2_ n3_ n4_ n5_ n6_ n7_
       have hHeld : w17.cell? ⟨gb114, 0, none⟩ = some (.int .i64 2) ∧ w17.cell? ⟨gb114, 1, none⟩ = some (.int .i64 0) := hS_
       obtain ⟨Ao18, co18, eo18⟩ := Kd.R_slice HO122.out
       (first | subst eo18 | (injection eo18 with f1_ f2_ f3_; have f4_ := f1_.symm; have f5_ := f3_.symm; clear f1_ f2_ f3_; subst f4_; subst f5_))
       refine norm_ (a' := ?_) ?_ ?_
       rotate_left
       ·simp only [putAll, Act.put, sA, sB, sC]
        rfl
       refine one_ (i := 2) (N := some 8) #[true, true, true, true, true, false, true, false] rfl rfl (one_of HT_.out (by kernel_rfl)) (by decide) (fun K hK => ?_)
       refine goes_ Try.func11 (by kernel_rfl) rfl #[.agg #[.int .i64 2, .int .i64 0]] (by rfl) rfl rfl (by (try simp only [List.map_toArray, List.map_cons, List.map_nil]); first | done | rfl | (simp only [List.length_drop, List.length_take]; rfl)) ?_
       with_reducible refine (agg_Start.calls 2 0 t115 t116 t117 _ A1.out).mono ?_
       rintro e w19 ⟨v118, rfl, ho0, hb⟩
       refine ⟨_, rfl, ?_⟩
       have HO119 := aMk (Kd.R_lower ho0 (below_size (by repeat (first | (with_reducible first | exact HB.out | apply eA | apply eN | apply eD | refine eS ?_ GE114.out | refine eS ?_ GE128.out) | exact HB.out))))
       replace HO122 := aMk (Kd.R_below (by (with_reducible repeat (first | apply rA | apply rN | apply rD)); exact HO122.out) hb)
       replace BK114 := aMk (blk_below (g := gb114) (o := .cells #[.int .i64 2, .int .i64 0] 23 (0, 0)) (by (with_reducible repeat (first | apply bA | apply bN | apply bD)); exact BK114.out) hb)
       replace BK128 := aMk (blk_below (g := gb128) (o := .cells #[.int .u64 0, .int .i64 0, .slice none 0 0] 33 (0, 0)) (by (with_reducible repeat (first | apply bA | apply bN | apply bD)); exact BK128.out) hb)
       replace HB := aMk (below_step (by repeat (first | (with_reducible first | exact HB.out | apply eA | apply eN | apply eD | refine eS ?_ GE114.out | refine eS ?_ GE128.out) | exact HB.out)) hb)
       (try clear hb)
       (try clear ho0)
       refine hK.out _ _ ⟨(blk_cell BK114.out 0).trans rfl, (blk_cell BK114.out 1).trans rfl⟩ (fun hHeld => ?_)
       clear hK K
       refine norm_ (a' := ?_) ?_ ?_
       rotate_left
       ·show Act.put _ (some 8) _ = _
        simp only [Act.put, sA, sB, sC, i64_w, i32_w]
        rfl
       exact norm_ (by simp only [putAll, Act.put, sA, sB, sC] <;> rfl) (hJ2_3_6 (v118, .slice Ao18 y120.length co18, gb128) _ ⟨hHeld, (by (with_reducible repeat (first | apply rA | apply rN | apply rD)); exact HO119.out), (by (with_reducible repeat (first | apply rA | apply rN | apply rD)); exact HO122.out), (by (with_reducible repeat (first | apply bA | apply bN | apply bD)); exact BK114.out), (by (with_reducible repeat (first | apply bA | apply bN | apply bD)); exact BK128.out), GW128.out, GE128.out, NB114_128.out, NB128_114.out, (by repeat (first | (with_reducible first | exact HB.out | apply eA | apply eN | apply eD | refine eS ?_ GE114.out | refine eS ?_ GE128.out) | exact HB.out))⟩)
     ·skip
      rintro ⟨v118, gb128⟩ w15 ⟨hS_, h0_, h1_, h2_, h3_, h4_, h5_, h6_, h7_⟩
      have n0_ : Aside0 (Kd.R Kd.string 9 w15 w.heap.size (fun _ => True) v118 t117) := ⟨h0_⟩
      have n1_ : Aside0 (w15.heap[gb114]? = some (.cells #[.int .i64 2, .int .i64 0] 23 (0, 0))) := ⟨h1_⟩
      have n2_ : Aside0 (w15.heap[gb128]? = some (.cells #[.int .u64 0, .int .i64 0, .slice none 0 0] 33 (0, 0))) := ⟨h2_⟩
      have n3_ : Aside0 (w.heap.size ≤ gb128) := ⟨h3_⟩
      have n4_ : Aside0 (w.heap.size ≤ gb128) := ⟨h4_⟩
      have n5_ : Aside0 (gb114 ≠ gb128) := ⟨h5_⟩
      have n6_ : Aside0 (gb128 ≠ gb114) := ⟨h6_⟩
      have n7_ : Aside0 (Below w.heap.size w w15) := ⟨h7_⟩
      clear BK114
      clear HB
      clear h0_ h1_ h2_ h3_ h4_ h5_ h6_ h7_
      have HO119 := n0_
      have BK114 := n1_
      have BK128 := n2_
      have GW128 := n3_
      have GE128 := n4_
      have NB114_128 := n5_
      have NB128_114 := n6_
      have HB := n7_
      clear n0_ n1_ n2_ n3_ n4_ n5_ n6_ n7_
      have hHeld : w15.cell? ⟨gb114, 0, none⟩ = some (.int .i64 2) ∧ w15.cell? ⟨gb114, 1, none⟩ = some (.int .i64 0) := hS_
      refine norm_ (a' := ?_) ?_ ?_
      rotate_left
      ·simp only [putAll, Act.put, sA, sB, sC]
       rfl
      refine one_ (i := 3) (N := some 9) #[true, true, true, true, false, false, true, false] rfl rfl (one_of HT_.out (by kernel_rfl)) (by decide) (fun K hK => ?_)
      refine Kd.R_lit_step (Kd.int .i64) _ 2 ?hg (N := 9) ?hd (xs := ([3] : List Int)) (inner := [.int .i64 3]) (ok := fun _ => True) (okp := fun _ => True) ?hr ?hp (fun _ hk => hk) trivial (Below.refl _ _) (Nat.le_refl _) (by simp) ?_; (case hd => rfl); (case hg => rfl); (case hr => first | (go_simp; done) | (go_simp; rfl)); (case hp => exact (Reps.one (show Kd.M (Kd.int .i64) _ _ _ 3 [.int .i64 3] from rfl) (Reps.none _ _)))
      intro v121 w16 ho17 hb hg_ hnew_
      clear hg_ hnew_
      (first | rw [← Ny120.out] at ho17 | (simp only [Int.reduceToNat] at ho17; rw [← Ny120.out] at ho17))
      have HO122 := aMk (Kd.R_lower ho17 (below_size (by repeat (first | (with_reducible first | exact HB.out | apply eA | apply eN | apply eD | refine eS ?_ GE114.out | refine eS ?_ GE128.out) | exact HB.out))))
      replace HO119 := aMk (Kd.R_below (by (with_reducible repeat (first | apply rA | apply rN | apply rD)); exact HO119.out) hb)
      replace BK114 := aMk (blk_below (g := gb114) (o := .cells #[.int .i64 2, .int .i64 0] 23 (0, 0)) (by (with_reducible repeat (first | apply bA | apply bN | apply bD)); exact BK114.out) hb)
      replace BK128 := aMk (blk_below (g := gb128) (o := .cells #[.int .u64 0, .int .i64 0, .slice none 0 0] 33 (0, 0)) (by (with_reducible repeat (first | apply bA | apply bN | apply bD)); exact BK128.out) hb)
      replace HB := aMk (below_step (by repeat (first | (with_reducible first | exact HB.out | apply eA | apply eN | apply eD | refine eS ?_ GE114.out | refine eS ?_ GE128.out) | exact HB.out)) hb)
      clear hb ho17
      obtain ⟨Ao18, co18, eo18⟩ := Kd.R_slice HO122.out
      (first | subst eo18 | (injection eo18 with f1_ f2_ f3_; have f4_ := f1_.symm; have f5_ := f3_.symm; clear f1_ f2_ f3_; subst f4_; subst f5_))
      refine hK.out _ _ ⟨(blk_cell BK114.out 0).trans rfl, (blk_cell BK114.out 1).trans rfl⟩ (fun hHeld => ?_)
      clear hK K
      refine norm_ (a' := ?_) ?_ ?_
      rotate_left
      ·show Act.put _ (some 9) _ = _
       simp only [Act.put, sA, sB, sC, i64_w, i32_w]
       rfl
      refine pure_ (i := 4) (N := some 10) (v := ?_) (a' := ?_) #[true, true, true, true, true, false, true, false] rfl rfl (any_of HT_.out (by kernel_rfl)) (fun _ _ _ h => h) (Or.inl ⟨by rfl, ?_⟩) ?_ ?_
      rotate_left
      ·intro w'
       go_simp
       with_reducible rfl
      rotate_left
      ·simp only [Act.put, sA, sB, sC, i64_w, i32_w]
       rfl
      exact norm_ (by simp only [putAll, Act.put, sA, sB, sC] <;> rfl) (hJ2_3_6 (v118, .slice Ao18 y120.length co18, gb128) _ ⟨hHeld, (by (with_reducible repeat (first | apply rA | apply rN | apply rD)); exact HO119.out), (by (with_reducible repeat (first | apply rA | apply rN | apply rD)); exact HO122.out), (by (with_reducible repeat (first | apply bA | apply bN | apply bD)); exact BK114.out), (by (with_reducible repeat (first | apply bA | apply bN | apply bD)); exact BK128.out), GW128.out, GE128.out, NB114_128.out, NB128_114.out, (by repeat (first | (with_reducible first | exact HB.out | apply eA | apply eN | apply eD | refine eS ?_ GE114.out | refine eS ?_ GE128.out) | exact HB.out))⟩)
    ·skip
     rintro ⟨v118, v121⟩ w17 ⟨hS_, h0_, h1_, h2_, h3_⟩
     have n0_ : Aside0 (Kd.R Kd.string 9 w17 w.heap.size (fun _ => True) v118 t117) := ⟨h0_⟩
     have n1_ : Aside0 (Kd.R (Kd.int .i64) 2 w17 w.heap.size (fun _ => True) v121 y120) := ⟨h1_⟩
     have n2_ : Aside0 (w17.heap[gb114]? = some (.cells #[.int .i64 2, .int .i64 0] 23 (0, 0))) := ⟨h2_⟩
     have n3_ : Aside0 (Below w.heap.size w w17) := ⟨h3_⟩
     clear BK114
     clear HB
     clear h0_ h1_ h2_ h3_
     have HO119 := n0_
     have HO122 := n1_
     have BK114 := n2_
     have HB := n3_
     clear n0_ n1_ n2_ n3_
     have hHeld : w17.cell? ⟨gb114, 0, none⟩ = some (.int .i64 2) ∧ w17.cell? ⟨gb114, 1, none⟩ = some (.int .i64 0) := hS_
     obtain ⟨Ao18, co18, eo18⟩ := Kd.R_slice HO122.out
     (first | subst eo18 | (injection eo18 with f1_ f2_ f3_; have f4_ := f1_.symm; have f5_ := f3_.symm; clear f1_ f2_ f3_; subst f4_; subst f5_))
     obtain ⟨Ao19, co19, eo19⟩ := Kd.R_slice HO119.out
     (first | subst eo19 | (injection eo19 with f1_ f2_ f3_; have f4_ := f1_.symm; have f5_ := f3_.symm; clear f1_ f2_ f3_; subst f4_; subst f5_))
     refine norm_ (a' := ?_) ?_ ?_
     rotate_left
     ·simp only [putAll, Act.put, sA, sB, sC]
      rfl
     refine two_ (i := 5) (j := 6) (Ni := some 11) (Nj := some 2) #[true, true, true, true, true, true, false, false] #[true, true, true, true, true, false, true, false] rfl rfl rfl rfl (two_of HT_.out (by kernel_rfl)) (by decide) (by decide) (fun K hK => ?_) (fun K hK => ?_)
     ·skip
      refine goes_ Try.func12 (by kernel_rfl) rfl #[.agg #[.int .i64 2, .int .i64 0], .agg #[.int .u64 t115, .int .i64 t116, .slice Ao19 t117.length co19], .agg #[.int .i64 0, .slice none 0 0, .slice Ao18 y120.length co18], .int .u64 2] (by rfl) rfl rfl (by (try simp only [List.map_toArray, List.map_cons, List.map_nil]); first | done | rfl | (simp only [List.length_drop, List.length_take]; rfl)) ?_
      refine (agg_Add.calls 2 0 t115 t116 _ _ t117 0 _ _ ([] : List ByteArray) _ _ y120 2 t123 t124 t125 _ ?side1 ?side2 ?side3 ?side4 ?side5 ?side6 A2.out).mono ?_
      (case side1 => repeat (first | exact (Kd.R_reads' HO119.out).2.2 | (with_reducible refine cA ?_ _) | (with_reducible refine cN ?_ _) | (with_reducible refine cD ?_)))
      (case side2 => exact (Kd.R_reads' HO119.out).2.1)
      (case side3 => exact Kd.C_nil _ _)
      (case side4 => exact Nat.le_refl _)
      (case side5 => repeat (first | exact (Kd.R_reads' HO122.out).2.2 | (with_reducible refine cA ?_ _) | (with_reducible refine cN ?_ _) | (with_reducible refine cD ?_)))
      (case side6 => exact (Kd.R_reads' HO122.out).2.1)
      rintro e w20 ⟨v126, rfl, ho0, hb⟩
      refine ⟨_, rfl, ?_⟩
      have HO127 := aMk (Kd.R_lower (Kd.R_new' ho0 (Kd.R_lt (by (with_reducible repeat (first | apply rA | apply rN | apply rD)); exact HO119.out))) (below_size (by repeat (first | (with_reducible first | exact HB.out | apply eA | apply eN | apply eD | refine eS ?_ GE114.out) | exact HB.out))))
      replace HO119 := aMk (Kd.R_elder' (by (with_reducible repeat (first | apply rA | apply rN | apply rD)); exact HO119.out) (Kd.R_base ho0) hb)
      replace HO122 := aMk (Kd.R_below (by (with_reducible repeat (first | apply rA | apply rN | apply rD)); exact HO122.out) hb)
      replace BK114 := aMk (blk_below (g := gb114) (o := .cells #[.int .i64 2, .int .i64 0] 23 (0, 0)) (by (with_reducible repeat (first | apply bA | apply bN | apply bD)); exact BK114.out) hb)
      replace HB := aMk (below_step (by repeat (first | (with_reducible first | exact HB.out | apply eA | apply eN | apply eD | refine eS ?_ GE114.out) | exact HB.out)) hb)
      (try clear hb)
      (try clear ho0)
      refine hK.out _ _ ⟨(blk_cell BK114.out 0).trans rfl, (blk_cell BK114.out 1).trans rfl⟩ (fun hHeld => ?_)
      clear hK K
      refine norm_ (a' := ?_) ?_ ?_
      rotate_left
      ·show Act.put _ (some 11) _ = _
       simp only [Act.put, sA, sB, sC, i64_w, i32_w]
       rfl
      exact norm_ (by simp only [putAll, Act.put, sA, sB, sC] <;> rfl) (hJ2_3_5 (.slice Ao19 t117.length co19, .slice Ao18 y120.length co18, v126) _ ⟨hHeld, (by (with_reducible repeat (first | apply rA | apply rN | apply rD)); exact Kd.R_mono HO119.out (fun _ hk => hk.2)), (by (with_reducible repeat (first | apply rA | apply rN | apply rD)); exact HO122.out), (by (with_reducible repeat (first | apply rA | apply rN | apply rD)); exact Kd.R_mono HO127.out (fun _ hk => hk.2)), (by (with_reducible repeat (first | apply bA | apply bN | apply bD)); exact BK114.out), (by repeat (first | (with_reducible first | exact HB.out | apply eA | apply eN | apply eD | refine eS ?_ GE114.out) | exact HB.out))⟩)
     ·skip
      refine box_step ?hg (N := 2) ?hd (cs := #[.int .u64 0, .int .i64 0, .slice none 0 0]) (t := 33) ?hr ?_; (case hd => rfl); (case hg => rfl); (case hr => first | (go_simp; done) | (go_simp; rfl))
      intro gb128 hg w19 hbox hb
      have BK128 := aMk (hbox)
      have GW128 := aMk ((by rw [hg]; exact (below_size (by repeat (first | (with_reducible first | exact HB.out | apply eA | apply eN | apply eD | refine eS ?_ GE114.out) | exact HB.out))) : w.heap.size ≤ gb128))
      have GE128 := GW128
      have NB114_128 := aMk ((by rw [hg]; exact Nat.ne_of_lt (blk_lt (g := gb114) (o := .cells #[.int .i64 2, .int .i64 0] 23 (0, 0)) (by (with_reducible repeat (first | apply bA | apply bN | apply bD)); exact BK114.out)) : gb114 ≠ gb128))
      have NB128_114 := aMk (Ne.symm NB114_128.out)
      replace HO119 := aMk (Kd.R_below (by (with_reducible repeat (first | apply rA | apply rN | apply rD)); exact HO119.out) hb)
      replace HO122 := aMk (Kd.R_below (by (with_reducible repeat (first | apply rA | apply rN | apply rD)); exact HO122.out) hb)
      replace BK114 := aMk (blk_below (g := gb114) (o := .cells #[.int .i64 2, .int .i64 0] 23 (0, 0)) (by (with_reducible repeat (first | apply bA | apply bN | apply bD)); exact BK114.out) hb)
      replace HB := aMk (below_step (by repeat (first | (with_reducible first | exact HB.out | apply eA | apply eN | apply eD | refine eS ?_ GE114.out) | exact HB.out)) hb)
      clear hb hbox hg
      refine hK.out _ _ ⟨(blk_cell BK114.out 0).trans rfl, (blk_cell BK114.out 1).trans rfl⟩ (fun hHeld => ?_)
      clear hK K
      refine norm_ (a' := ?_) ?_ ?_
      rotate_left
      ·show Act.put _ (some 2) _ = _
       simp only [Act.put, sA, sB, sC, i64_w, i32_w]
       rfl
      exact norm_ (by simp only [putAll, Act.put, sA, sB, sC] <;> rfl) (hJ2_3_6 (.slice Ao19 t117.length co19, .slice Ao18 y120.length co18, gb128) _ ⟨hHeld, (by (with_reducible repeat (first | apply rA | apply rN | apply rD)); exact HO119.out), (by (with_reducible repeat (first | apply rA | apply rN | apply rD)); exact HO122.out), (by (with_reducible repeat (first | apply bA | apply bN | apply bD)); exact BK114.out), (by (with_reducible repeat (first | apply bA | apply bN | apply bD)); exact BK128.out), GW128.out, GE128.out, NB114_128.out, NB128_114.out, (by repeat (first | (with_reducible first | exact HB.out | apply eA | apply eN | apply eD | refine eS ?_ GE114.out | refine eS ?_ GE128.out) | exact HB.out))⟩)
   ·skip
    rintro ⟨v118, v121, gb128⟩ w18 ⟨hS_, h0_, h1_, h2_, h3_, h4_, h5_, h6_, h7_, h8_⟩
    have n0_ : Aside0 (Kd.R Kd.string 9 w18 w.heap.size (fun _ => True) v118 t117) := ⟨h0_⟩
    have n1_ : Aside0 (Kd.R (Kd.int .i64) 2 w18 w.heap.size (fun _ => True) v121 y120) := ⟨h1_⟩
    have n2_ : Aside0 (w18.heap[gb114]? = some (.cells #[.int .i64 2, .int .i64 0] 23 (0, 0))) := ⟨h2_⟩
    have n3_ : Aside0 (w18.heap[gb128]? = some (.cells #[.int .u64 0, .int .i64 0, .slice none 0 0] 33 (0, 0))) := ⟨h3_⟩
    have n4_ : Aside0 (w.heap.size ≤ gb128) := ⟨h4_⟩
    have n5_ : Aside0 (w.heap.size ≤ gb128) := ⟨h5_⟩
    have n6_ : Aside0 (gb114 ≠ gb128) := ⟨h6_⟩
    have n7_ : Aside0 (gb128 ≠ gb114) := ⟨h7_⟩
    have n8_ : Aside0 (Below w.heap.size w w18) := ⟨h8_⟩
    clear BK114
    clear HB
    clear h0_ h1_ h2_ h3_ h4_ h5_ h6_ h7_ h8_
    have HO119 := n0_
    have HO122 := n1_
    have BK114 := n2_
    have BK128 := n3_
    have GW128 := n4_
    have GE128 := n5_
    have NB114_128 := n6_
    have NB128_114 := n7_
    have HB := n8_
    clear n0_ n1_ n2_ n3_ n4_ n5_ n6_ n7_ n8_
    have hHeld : w18.cell? ⟨gb114, 0, none⟩ = some (.int .i64 2) ∧ w18.cell? ⟨gb114, 1, none⟩ = some (.int .i64 0) := hS_
    obtain ⟨Ao19, co19, eo19⟩ := Kd.R_slice HO122.out
    (first | subst eo19 | (injection eo19 with f1_ f2_ f3_; have f4_ := f1_.symm; have f5_ := f3_.symm; clear f1_ f2_ f3_; subst f4_; subst f5_))
    obtain ⟨Ao20, co20, eo20⟩ := Kd.R_slice HO119.out
    (first | subst eo20 | (injection eo20 with f1_ f2_ f3_; have f4_ := f1_.symm; have f5_ := f3_.symm; clear f1_ f2_ f3_; subst f4_; subst f5_))
    refine norm_ (a' := ?_) ?_ ?_
    rotate_left
    ·simp only [putAll, Act.put, sA, sB, sC]
     rfl
    refine one_ (i := 5) (N := some 11) #[true, true, true, true, true, true, true, false] rfl rfl (one_of HT_.out (by kernel_rfl)) (by decide) (fun K hK => ?_)
    refine goes_ Try.func12 (by kernel_rfl) rfl #[.agg #[.int .i64 2, .int .i64 0], .agg #[.int .u64 t115, .int .i64 t116, .slice Ao20 t117.length co20], .agg #[.int .i64 0, .slice none 0 0, .slice Ao19 y120.length co19], .int .u64 2] (by rfl) rfl rfl (by (try simp only [List.map_toArray, List.map_cons, List.map_nil]); first | done | rfl | (simp only [List.length_drop, List.length_take]; rfl)) ?_
    refine (agg_Add.calls 2 0 t115 t116 _ _ t117 0 _ _ ([] : List ByteArray) _ _ y120 2 t123 t124 t125 _ ?side1 ?side2 ?side3 ?side4 ?side5 ?side6 A2.out).mono ?_
    (case side1 => repeat (first | exact (Kd.R_reads' HO119.out).2.2 | (with_reducible refine cA ?_ _) | (with_reducible refine cN ?_ _) | (with_reducible refine cD ?_)))
    (case side2 => exact (Kd.R_reads' HO119.out).2.1)
    (case side3 => exact Kd.C_nil _ _)
    (case side4 => exact Nat.le_refl _)
    (case side5 => repeat (first | exact (Kd.R_reads' HO122.out).2.2 | (with_reducible refine cA ?_ _) | (with_reducible refine cN ?_ _) | (with_reducible refine cD ?_)))
    (case side6 => exact (Kd.R_reads' HO122.out).2.1)
    rintro e w21 ⟨v126, rfl, ho0, hb⟩
    refine ⟨_, rfl, ?_⟩
    have HO127 := aMk (Kd.R_lower (Kd.R_new' ho0 (Kd.R_lt (by (with_reducible repeat (first | apply rA | apply rN | apply rD)); exact HO119.out))) (below_size (by repeat (first | (with_reducible first | exact HB.out | apply eA | apply eN | apply eD | refine eS ?_ GE114.out | refine eS ?_ GE128.out) | exact HB.out))))
    replace HO119 := aMk (Kd.R_elder' (by (with_reducible repeat (first | apply rA | apply rN | apply rD)); exact HO119.out) (Kd.R_base ho0) hb)
    replace HO122 := aMk (Kd.R_below (by (with_reducible repeat (first | apply rA | apply rN | apply rD)); exact HO122.out) hb)
    replace BK114 := aMk (blk_below (g := gb114) (o := .cells #[.int .i64 2, .int .i64 0] 23 (0, 0)) (by (with_reducible repeat (first | apply bA | apply bN | apply bD)); exact BK114.out) hb)
    replace BK128 := aMk (blk_below (g := gb128) (o := .cells #[.int .u64 0, .int .i64 0, .slice none 0 0] 33 (0, 0)) (by (with_reducible repeat (first | apply bA | apply bN | apply bD)); exact BK128.out) hb)
    replace HB := aMk (below_step (by repeat (first | (with_reducible first | exact HB.out | apply eA | apply eN | apply eD | refine eS ?_ GE114.out | refine eS ?_ GE128.out) | exact HB.out)) hb)
    (try clear hb)
    (try clear ho0)
    refine hK.out _ _ ⟨(blk_cell BK114.out 0).trans rfl, (blk_cell BK114.out 1).trans rfl⟩ (fun hHeld => ?_)
    clear hK K
    refine norm_ (a' := ?_) ?_ ?_
    rotate_left
    ·show Act.put _ (some 11) _ = _
     simp only [Act.put, sA, sB, sC, i64_w, i32_w]
     rfl
    exact norm_ (by simp only [putAll, Act.put, sA, sB, sC] <;> rfl) (hJ2_3_5_6 (.slice Ao20 t117.length co20, .slice Ao19 y120.length co19, v126, gb128) _ ⟨hHeld, (by (with_reducible repeat (first | apply rA | apply rN | apply rD)); exact Kd.R_mono HO119.out (fun _ hk => hk.2)), (by (with_reducible repeat (first | apply rA | apply rN | apply rD)); exact HO122.out), (by (with_reducible repeat (first | apply rA | apply rN | apply rD)); exact Kd.R_mono HO127.out (fun _ hk => hk.2)), (by (with_reducible repeat (first | apply bA | apply bN | apply bD)); exact BK114.out), (by (with_reducible repeat (first | apply bA | apply bN | apply bD)); exact BK128.out), GW128.out, GE128.out, NB114_128.out, NB128_114.out, (by repeat (first | (with_reducible first | exact HB.out | apply eA | apply eN | apply eD | refine eS ?_ GE114.out | refine eS ?_ GE128.out) | exact HB.out))⟩)
  ·skip
   rintro ⟨v118, v121, v126⟩ w19 ⟨hS_, h0_, h1_, h2_, h3_, h4_⟩
   have n0_ : Aside0 (Kd.R Kd.string 9 w19 w.heap.size (fun k_ => some k_ ≠ (v126 : Value).ownBlock) v118 t117) := ⟨h0_⟩
   have n1_ : Aside0 (Kd.R (Kd.int .i64) 2 w19 w.heap.size (fun _ => True) v121 y120) := ⟨h1_⟩
   have n2_ : Aside0 (Kd.R Kd.string 9 w19 w.heap.size (fun k_ => some k_ ≠ (v118 : Value).ownBlock) v126 t125) := ⟨h2_⟩
   have n3_ : Aside0 (w19.heap[gb114]? = some (.cells #[.int .i64 2, .int .i64 0] 23 (0, 0))) := ⟨h3_⟩
   have n4_ : Aside0 (Below w.heap.size w w19) := ⟨h4_⟩
   clear BK114
   clear HB
   clear h0_ h1_ h2_ h3_ h4_
   have HO119 := n0_
   have HO122 := n1_
   have HO127 := n2_
   have BK114 := n3_
   have HB := n4_
   clear n0_ n1_ n2_ n3_ n4_
   have hHeld : w19.cell? ⟨gb114, 0, none⟩ = some (.int .i64 2) ∧ w19.cell? ⟨gb114, 1, none⟩ = some (.int .i64 0) := hS_
   obtain ⟨Ao20, co20, eo20⟩ := Kd.R_slice HO122.out
   (first | subst eo20 | (injection eo20 with f1_ f2_ f3_; have f4_ := f1_.symm; have f5_ := f3_.symm; clear f1_ f2_ f3_; subst f4_; subst f5_))
   refine norm_ (a' := ?_) ?_ ?_
   rotate_left
   ·simp only [putAll, Act.put, sA, sB, sC]
    rfl
   refine one_ (i := 6) (N := some 2) #[true, true, true, true, true, true, true, false] rfl rfl (one_of HT_.out (by kernel_rfl)) (by decide) (fun K hK => ?_)
   refine box_step ?hg (N := 2) ?hd (cs := #[.int .u64 0, .int .i64 0, .slice none 0 0]) (t := 33) ?hr ?_; (case hd => rfl); (case hg => rfl); (case hr => first | (go_simp; done) | (go_simp; rfl))
   intro gb128 hg w21 hbox hb
   have BK128 := aMk (hbox)
   have GW128 := aMk ((by rw [hg]; exact (below_size (by repeat (first | (with_reducible first | exact HB.out | apply eA | apply eN | apply eD | refine eS ?_ GE114.out) | exact HB.out))) : w.heap.size ≤ gb128))
   have GE128 := GW128
   have NB114_128 := aMk ((by rw [hg]; exact Nat.ne_of_lt (blk_lt (g := gb114) (o := .cells #[.int .i64 2, .int .i64 0] 23 (0, 0)) (by (with_reducible repeat (first | apply bA | apply bN | apply bD)); exact BK114.out)) : gb114 ≠ gb128))
   have NB128_114 := aMk (Ne.symm NB114_128.out)
   replace HO119 := aMk (Kd.R_below (by (with_reducible repeat (first | apply rA | apply rN | apply rD)); exact HO119.out) hb)
   replace HO122 := aMk (Kd.R_below (by (with_reducible repeat (first | apply rA | apply rN | apply rD)); exact HO122.out) hb)
   replace HO127 := aMk (Kd.R_below (by (with_reducible repeat (first | apply rA | apply rN | apply rD)); exact HO127.out) hb)
   replace BK114 := aMk (blk_below (g := gb114) (o := .cells #[.int .i64 2, .int .i64 0] 23 (0, 0)) (by (with_reducible repeat (first | apply bA | apply bN | apply bD)); exact BK114.out) hb)
   replace HB := aMk (below_step (by repeat (first | (with_reducible first | exact HB.out | apply eA | apply eN | apply eD | refine eS ?_ GE114.out) | exact HB.out)) hb)
   clear hb hbox hg
   refine hK.out _ _ ⟨(blk_cell BK114.out 0).trans rfl, (blk_cell BK114.out 1).trans rfl⟩ (fun hHeld => ?_)
   clear hK K
   refine norm_ (a' := ?_) ?_ ?_
   rotate_left
   ·show Act.put _ (some 2) _ = _
    simp only [Act.put, sA, sB, sC, i64_w, i32_w]
    rfl
   exact norm_ (by simp only [putAll, Act.put, sA, sB, sC] <;> rfl) (hJ2_3_5_6 (v118, .slice Ao20 y120.length co20, v126, gb128) _ ⟨hHeld, (by (with_reducible repeat (first | apply rA | apply rN | apply rD)); exact HO119.out), (by (with_reducible repeat (first | apply rA | apply rN | apply rD)); exact HO122.out), (by (with_reducible repeat (first | apply rA | apply rN | apply rD)); exact HO127.out), (by (with_reducible repeat (first | apply bA | apply bN | apply bD)); exact BK114.out), (by (with_reducible repeat (first | apply bA | apply bN | apply bD)); exact BK128.out), GW128.out, GE128.out, NB114_128.out, NB128_114.out, (by repeat (first | (with_reducible first | exact HB.out | apply eA | apply eN | apply eD | refine eS ?_ GE114.out | refine eS ?_ GE128.out) | exact HB.out))⟩)
 rintro ⟨v118, v121, v126, gb128⟩ w20 ⟨hS_, h0_, h1_, h2_, h3_, h4_, h5_, h6_, h7_, h8_, h9_⟩
 have n0_ : Aside0 (Kd.R Kd.string 9 w20 w.heap.size (fun k_ => some k_ ≠ (v126 : Value).ownBlock) v118 t117) := ⟨h0_⟩
 have n1_ : Aside0 (Kd.R (Kd.int .i64) 2 w20 w.heap.size (fun _ => True) v121 y120) := ⟨h1_⟩
 have n2_ : Aside0 (Kd.R Kd.string 9 w20 w.heap.size (fun k_ => some k_ ≠ (v118 : Value).ownBlock) v126 t125) := ⟨h2_⟩
 have n3_ : Aside0 (w20.heap[gb114]? = some (.cells #[.int .i64 2, .int .i64 0] 23 (0, 0))) := ⟨h3_⟩
 have n4_ : Aside0 (w20.heap[gb128]? = some (.cells #[.int .u64 0, .int .i64 0, .slice none 0 0] 33 (0, 0))) := ⟨h4_⟩
 have n5_ : Aside0 (w.heap.size ≤ gb128) := ⟨h5_⟩
 have n6_ : Aside0 (w.heap.size ≤ gb128) := ⟨h6_⟩
 have n7_ : Aside0 (gb114 ≠ gb128) := ⟨h7_⟩
 have n8_ : Aside0 (gb128 ≠ gb114) := ⟨h8_⟩
 have n9_ : Aside0 (Below w.heap.size w w20) := ⟨h9_⟩
 clear BK114
 clear HB
 clear h0_ h1_ h2_ h3_ h4_ h5_ h6_ h7_ h8_ h9_
 have HO119 := n0_
 have HO122 := n1_
 have HO127 := n2_
 have BK114 := n3_
 have BK128 := n4_
 have GW128 := n5_
 have GE128 := n6_
 have NB114_128 := n7_
 have NB128_114 := n8_
 have HB := n9_
 clear n0_ n1_ n2_ n3_ n4_ n5_ n6_ n7_ n8_ n9_
 have hHeld : w20.cell? ⟨gb114, 0, none⟩ = some (.int .i64 2) ∧ w20.cell? ⟨gb114, 1, none⟩ = some (.int .i64 0) := hS_
 obtain ⟨Ao21, co21, eo21⟩ := Kd.R_slice HO122.out
 (first | subst eo21 | (injection eo21 with f1_ f2_ f3_; have f4_ := f1_.symm; have f5_ := f3_.symm; clear f1_ f2_ f3_; subst f4_; subst f5_))
 obtain ⟨Ao24, co24, eo24⟩ := Kd.R_slice HO127.out
 (first | subst eo24 | (injection eo24 with f1_ f2_ f3_; have f4_ := f1_.symm; have f5_ := f3_.symm; clear f1_ f2_ f3_; subst f4_; subst f5_))
 refine norm_ (a' := ?_) ?_ ?_
 rotate_left
 ·simp only [putAll, Act.put, sA, sB, sC]
  rfl
 refine one_ (i := 7) (N := none) #[true, true, true, true, true, true, true, true] rfl rfl (one_of HT_.out (by kernel_rfl)) (by decide) (fun K hK => ?_)
 have hs22 : w20.cell? ⟨gb128, 0, none⟩ = some (.int .u64 0) := (blk_cell BK128.out 0).trans rfl
 have hfs22 := blk_frozen BK128.out 0
 have hns22_0 := NB114_128.out
 have hms22_0 := NB128_114.out
 have hs23 : w20.cell? ⟨gb128, 1, none⟩ = some (.int .i64 0) := (blk_cell BK128.out 1).trans rfl
 have hfs23 := blk_frozen BK128.out 1
 have hns23_0 := NB114_128.out
 have hms23_0 := NB128_114.out
 have hs25 : w20.cell? ⟨gb128, 2, none⟩ = some (.slice none 0 0) := (blk_cell BK128.out 2).trans rfl
 have hfs25 := blk_frozen BK128.out 2
 have hns25_0 := NB114_128.out
 have hms25_0 := NB128_114.out
 refine skip_ (w1 := ?_) (by rfl) rfl ?_ ?_
 rotate_left
 ·go_simp
  rfl
 refine hK.out _ _ ⟨((cell_far (p := ⟨gb128, _, none⟩) NB114_128.out _).trans (((cell_far (p := ⟨gb128, _, none⟩) NB114_128.out _).trans (((cell_far (p := ⟨gb128, _, none⟩) NB114_128.out _).trans (hHeld.1)))))), ((cell_far (p := ⟨gb128, _, none⟩) NB114_128.out _).trans (((cell_far (p := ⟨gb128, _, none⟩) NB114_128.out _).trans (((cell_far (p := ⟨gb128, _, none⟩) NB114_128.out _).trans (hHeld.2))))))⟩ (fun hHeld => ?_)
 clear hK K
 refine done_ (done_of HT_.out (by kernel_rfl)) ?_
 have hnb26 := NB114_128.out
 have hnc26 := NB128_114.out
 have hcz27_0 : w20.cell? ⟨gb114, 0, none⟩ = some (.int .i64 2) := (blk_cell BK114.out 0).trans rfl
 have hcz27_1 : w20.cell? ⟨gb114, 1, none⟩ = some (.int .i64 0) := (blk_cell BK114.out 1).trans rfl
 have hfz27_0 := blk_frozen BK114.out 0
 have hfz27_1 := blk_frozen BK114.out 1
 have hcz28_0 : w20.cell? ⟨gb128, 0, none⟩ = some (.int .u64 0) := (blk_cell BK128.out 0).trans rfl
 have hcz28_1 : w20.cell? ⟨gb128, 1, none⟩ = some (.int .i64 0) := (blk_cell BK128.out 1).trans rfl
 have hcz28_2 : w20.cell? ⟨gb128, 2, none⟩ = some (.slice none 0 0) := (blk_cell BK128.out 2).trans rfl
 have hfz28_0 := blk_frozen BK128.out 0
 have hfz28_1 := blk_frozen BK128.out 1
 have hfz28_2 := blk_frozen BK128.out 2
 try go_wp2_with (first | ((with_reducible refine gate_dst (N := 14) rfl ?_); refine Kd.R_lit (Kd.int .i64) _ 2 ?hg (N := 14) ?hd (xs := ([(-1)] : List Int)) (inner := [.int .i64 (-1)]) (ok := fun _ => True) (okp := fun _ => True) ?hr ?hp (fun _ hk => hk) trivial (Below.refl _ _) (Nat.le_refl _) (by simp) ?_; (case hd => rfl); (case hg => rfl); (case hr => first | (go_simp; done) | (go_simp; rfl)); (case hp => exact (Reps.one (show Kd.M (Kd.int .i64) _ _ _ (-1) [.int .i64 (-1)] from rfl) (Reps.none _ _))); intro v130 w29 ho30 hb hg_ hnew_; clear hg_ hnew_; (first | rw [← Ny129.out] at ho30 | (simp only [Int.reduceToNat] at ho30; rw [← Ny129.out] at ho30)); have HO131 := aMk (Kd.R_lower (Kd.R_new' ho30 (Kd.R_lt (by (with_reducible repeat (first | apply rA | apply rN | apply rD)); exact (Kd.R_mono (Kd.R_far (p := ⟨gb128, 2, none⟩) (Kd.R_far (p := ⟨gb128, 1, none⟩) (Kd.R_far (p := ⟨gb128, 0, none⟩) (Kd.R_types HO122.out BK128.out (by decide)) (fun _ hk => hk.2) (.int .u64 t123)) (fun _ hk => hk.2) (.int .i64 t124)) (fun _ hk => hk.2) (.slice Ao24 t125.length co24)) (fun _ h_ => h_.1))))) (below_size (by repeat (first | (with_reducible first | exact HB.out | apply eA | apply eN | apply eD | refine eS ?_ GE114.out | refine eS ?_ GE128.out) | exact HB.out)))); replace HO119 := aMk (Kd.R_below (by (with_reducible repeat (first | apply rA | apply rN | apply rD)); exact (Kd.R_mono (Kd.R_far (p := ⟨gb128, 2, none⟩) (Kd.R_far (p := ⟨gb128, 1, none⟩) (Kd.R_far (p := ⟨gb128, 0, none⟩) (Kd.R_types HO119.out BK128.out (by decide)) (fun _ hk => hk.2) (.int .u64 t123)) (fun _ hk => hk.2) (.int .i64 t124)) (fun _ hk => hk.2) (.slice Ao24 t125.length co24)) (fun _ h_ => h_.1))) hb); replace HO122 := aMk (Kd.R_elder' (by (with_reducible repeat (first | apply rA | apply rN | apply rD)); exact (Kd.R_mono (Kd.R_far (p := ⟨gb128, 2, none⟩) (Kd.R_far (p := ⟨gb128, 1, none⟩) (Kd.R_far (p := ⟨gb128, 0, none⟩) (Kd.R_types HO122.out BK128.out (by decide)) (fun _ hk => hk.2) (.int .u64 t123)) (fun _ hk => hk.2) (.int .i64 t124)) (fun _ hk => hk.2) (.slice Ao24 t125.length co24)) (fun _ h_ => h_.1))) (Kd.R_base ho30) hb); replace HO127 := aMk (Kd.R_below (by (with_reducible repeat (first | apply rA | apply rN | apply rD)); exact (Kd.R_mono (Kd.R_far (p := ⟨gb128, 2, none⟩) (Kd.R_far (p := ⟨gb128, 1, none⟩) (Kd.R_far (p := ⟨gb128, 0, none⟩) (Kd.R_types HO127.out BK128.out (by decide)) (fun _ hk => hk.2) (.int .u64 t123)) (fun _ hk => hk.2) (.int .i64 t124)) (fun _ hk => hk.2) (.slice Ao24 t125.length co24)) (fun _ h_ => h_.1))) hb); replace BK114 := aMk (blk_below (g := gb114) (o := .cells #[.int .i64 2, .int .i64 0] 23 (0, 0)) (by (with_reducible repeat (first | apply bA | apply bN | apply bD)); refine blk_far ?_ NB114_128.out _; (with_reducible repeat (first | apply bA | apply bN | apply bD)); refine blk_far ?_ NB114_128.out _; (with_reducible repeat (first | apply bA | apply bN | apply bD)); refine blk_far ?_ NB114_128.out _; (with_reducible repeat (first | apply bA | apply bN | apply bD)); exact BK114.out) hb); replace BK128 := aMk (blk_below (g := gb128) (o := .cells #[.int .u64 t123, .int .i64 t124, .slice Ao24 t125.length co24] 33 (0, 0)) (by (with_reducible repeat (first | apply bA | apply bN | apply bD)); refine blk_put (cs := #[.int .u64 t123, .int .i64 t124, .slice none 0 0]) ?_ 2 _ rfl; (with_reducible repeat (first | apply bA | apply bN | apply bD)); refine blk_put (cs := #[.int .u64 t123, .int .i64 0, .slice none 0 0]) ?_ 1 _ rfl; (with_reducible repeat (first | apply bA | apply bN | apply bD)); refine blk_put (cs := #[.int .u64 0, .int .i64 0, .slice none 0 0]) ?_ 0 _ rfl; (with_reducible repeat (first | apply bA | apply bN | apply bD)); exact BK128.out) hb); replace HB := aMk (below_step (by repeat (first | (with_reducible first | exact HB.out | apply eA | apply eN | apply eD | refine eS ?_ GE114.out | refine eS ?_ GE128.out) | exact HB.out)) hb); clear hb ho30; obtain ⟨Ao31, co31, eo31⟩ := Kd.R_slice HO131.out; subst eo31) | ((with_reducible refine gate_callee (f := 12) rfl ?_); refine goesL_ (some 16) rfl rfl Try.func12 (by kernel_rfl) rfl #[.agg #[.int .i64 2, .int .i64 0], .agg #[.int .u64 t123, .int .i64 t124, .slice Ao24 t125.length co24], .agg #[.int .i64 0, .slice none 0 0, .slice Ao31 y129.length co31], .int .u64 1] rfl (by (try simp only [List.map_toArray, List.map_cons, List.map_nil]); first | done | rfl | (simp only [List.length_drop, List.length_take]; rfl)) ?_; (refine (agg_Add.calls 2 0 t123 t124 _ _ t125 0 _ _ ([] : List ByteArray) _ _ y129 1 t132 t133 t134 _ ?side1 ?side2 ?side3 ?side4 ?side5 ?side6 A3.out).mono ?_); (case side1 => repeat (first | exact (Kd.R_reads' HO127.out).2.2 | (with_reducible refine cA ?_ _) | (with_reducible refine cN ?_ _) | (with_reducible refine cD ?_))); (case side2 => exact (Kd.R_reads' HO127.out).2.1); (case side3 => exact Kd.C_nil _ _); (case side4 => exact Nat.le_refl _); (case side5 => repeat (first | exact (Kd.R_reads' HO131.out).2.2 | (with_reducible refine cA ?_ _) | (with_reducible refine cN ?_ _) | (with_reducible refine cD ?_))); (case side6 => exact (Kd.R_reads' HO131.out).2.1); rintro e w32 ⟨v135, rfl, ho0, hb⟩; refine ⟨_, rfl, ?_⟩; have HO136 := aMk (Kd.R_lower (Kd.R_new' (Kd.R_new' ho0 (Kd.R_lt (by (with_reducible repeat (first | apply rA | apply rN | apply rD)); exact HO119.out))) (Kd.R_lt (by (with_reducible repeat (first | apply rA | apply rN | apply rD)); exact HO127.out))) (below_size (by repeat (first | (with_reducible first | exact HB.out | apply eA | apply eN | apply eD | refine eS ?_ GE114.out | refine eS ?_ GE128.out) | exact HB.out)))); replace HO119 := aMk (Kd.R_elder' (by (with_reducible repeat (first | apply rA | apply rN | apply rD)); exact HO119.out) (Kd.R_base ho0) hb); replace HO122 := aMk (Kd.R_below (by (with_reducible repeat (first | apply rA | apply rN | apply rD)); exact HO122.out) hb); replace HO127 := aMk (Kd.R_elder' (by (with_reducible repeat (first | apply rA | apply rN | apply rD)); exact HO127.out) (Kd.R_base ho0) hb); replace HO131 := aMk (Kd.R_below (by (with_reducible repeat (first | apply rA | apply rN | apply rD)); exact HO131.out) hb); replace BK114 := aMk (blk_below (g := gb114) (o := .cells #[.int .i64 2, .int .i64 0] 23 (0, 0)) (by (with_reducible repeat (first | apply bA | apply bN | apply bD)); exact BK114.out) hb); replace BK128 := aMk (blk_below (g := gb128) (o := .cells #[.int .u64 t123, .int .i64 t124, .slice Ao24 t125.length co24] 33 (0, 0)) (by (with_reducible repeat (first | apply bA | apply bN | apply bD)); exact BK128.out) hb); replace HB := aMk (below_step (by repeat (first | (with_reducible first | exact HB.out | apply eA | apply eN | apply eD | refine eS ?_ GE114.out | refine eS ?_ GE128.out) | exact HB.out)) hb); (try clear hb); (try clear hb2); (try clear hk); (try clear hi); (try clear ho0); have hcz33_0 : w32.cell? ⟨gb128, 0, none⟩ = some (.int .u64 t123) := (blk_cell BK128.out 0).trans rfl; have hcz33_1 : w32.cell? ⟨gb128, 1, none⟩ = some (.int .i64 t124) := (blk_cell BK128.out 1).trans rfl; have hcz33_2 : w32.cell? ⟨gb128, 2, none⟩ = some (.slice Ao24 t125.length co24) := (blk_cell BK128.out 2).trans rfl; have hfz33_0 := blk_frozen BK128.out 0; have hfz33_1 := blk_frozen BK128.out 1; have hfz33_2 := blk_frozen BK128.out 2; obtain ⟨Ao34, co34, eo34⟩ := Kd.R_slice HO136.out; subst eo34) | ((with_reducible refine gate_dst (N := 3) rfl ?_); refine box_event ?hg (N := 3) ?hd (cs := #[.int .i64 0, .int .i64 0]) (t := 23) ?hr ?_; (case hd => rfl); (case hg => rfl); (case hr => first | (go_simp; done) | (go_simp; rfl)); intro gb137 hg w35 hbox hb; have BK137 := aMk (hbox); have GW137 := aMk ((by rw [hg]; exact (below_size (by repeat (first | (with_reducible first | exact HB.out | apply eA | apply eN | apply eD | refine eS ?_ GE114.out | refine eS ?_ GE128.out) | exact HB.out))) : w.heap.size ≤ gb137)); have GE137 := aMk ((by rw [hg]; exact (below_size (by repeat (first | (with_reducible first | exact HB.out | apply eA | apply eN | apply eD | refine eS ?_ GE114.out | refine eS ?_ GE128.out) | exact HB.out))) : w.heap.size ≤ gb137)); have NB114_137 := aMk ((by rw [hg]; exact Nat.ne_of_lt (blk_lt (g := gb114) (o := .cells #[.int .i64 2, .int .i64 0] 23 (0, 0)) (by (with_reducible repeat (first | apply bA | apply bN | apply bD)); refine blk_far ?_ NB114_128.out _; (with_reducible repeat (first | apply bA | apply bN | apply bD)); refine blk_far ?_ NB114_128.out _; (with_reducible repeat (first | apply bA | apply bN | apply bD)); refine blk_far ?_ NB114_128.out _; (with_reducible repeat (first | apply bA | apply bN | apply bD)); exact BK114.out)) : gb114 ≠ gb137)); have NB137_114 := aMk ((by rw [hg]; exact Nat.ne_of_gt (blk_lt (g := gb114) (o := .cells #[.int .i64 2, .int .i64 0] 23 (0, 0)) (by (with_reducible repeat (first | apply bA | apply bN | apply bD)); refine blk_far ?_ NB114_128.out _; (with_reducible repeat (first | apply bA | apply bN | apply bD)); refine blk_far ?_ NB114_128.out _; (with_reducible repeat (first | apply bA | apply bN | apply bD)); refine blk_far ?_ NB114_128.out _; (with_reducible repeat (first | apply bA | apply bN | apply bD)); exact BK114.out)) : gb137 ≠ gb114)); have NB128_137 := aMk ((by rw [hg]; exact Nat.ne_of_lt (blk_lt (g := gb128) (o := .cells #[.int .u64 t132, .int .i64 t133, .slice Ao34 t134.length co34] 33 (0, 0)) (by (with_reducible repeat (first | apply bA | apply bN | apply bD)); refine blk_put (cs := #[.int .u64 t132, .int .i64 t133, .slice Ao24 t125.length co24]) ?_ 2 _ rfl; (with_reducible repeat (first | apply bA | apply bN | apply bD)); refine blk_put (cs := #[.int .u64 t132, .int .i64 t124, .slice Ao24 t125.length co24]) ?_ 1 _ rfl; (with_reducible repeat (first | apply bA | apply bN | apply bD)); refine blk_put (cs := #[.int .u64 t123, .int .i64 t124, .slice Ao24 t125.length co24]) ?_ 0 _ rfl; (with_reducible repeat (first | apply bA | apply bN | apply bD)); exact BK128.out)) : gb128 ≠ gb137)); have NB137_128 := aMk ((by rw [hg]; exact Nat.ne_of_gt (blk_lt (g := gb128) (o := .cells #[.int .u64 t132, .int .i64 t133, .slice Ao34 t134.length co34] 33 (0, 0)) (by (with_reducible repeat (first | apply bA | apply bN | apply bD)); refine blk_put (cs := #[.int .u64 t132, .int .i64 t133, .slice Ao24 t125.length co24]) ?_ 2 _ rfl; (with_reducible repeat (first | apply bA | apply bN | apply bD)); refine blk_put (cs := #[.int .u64 t132, .int .i64 t124, .slice Ao24 t125.length co24]) ?_ 1 _ rfl; (with_reducible repeat (first | apply bA | apply bN | apply bD)); refine blk_put (cs := #[.int .u64 t123, .int .i64 t124, .slice Ao24 t125.length co24]) ?_ 0 _ rfl; (with_reducible repeat (first | apply bA | apply bN | apply bD)); exact BK128.out)) : gb137 ≠ gb128)); replace HO119 := aMk (Kd.R_below (by (with_reducible repeat (first | apply rA | apply rN | apply rD)); exact (Kd.R_mono (Kd.R_far (p := ⟨gb128, 2, none⟩) (Kd.R_far (p := ⟨gb128, 1, none⟩) (Kd.R_far (p := ⟨gb128, 0, none⟩) (Kd.R_types HO119.out BK128.out (by decide)) (fun _ hk => hk.2) (.int .u64 t132)) (fun _ hk => hk.2) (.int .i64 t133)) (fun _ hk => hk.2) (.slice Ao34 t134.length co34)) (fun _ h_ => h_.1))) hb); replace HO122 := aMk (Kd.R_below (by (with_reducible repeat (first | apply rA | apply rN | apply rD)); exact (Kd.R_mono (Kd.R_far (p := ⟨gb128, 2, none⟩) (Kd.R_far (p := ⟨gb128, 1, none⟩) (Kd.R_far (p := ⟨gb128, 0, none⟩) (Kd.R_types HO122.out BK128.out (by decide)) (fun _ hk => hk.2) (.int .u64 t132)) (fun _ hk => hk.2) (.int .i64 t133)) (fun _ hk => hk.2) (.slice Ao34 t134.length co34)) (fun _ h_ => h_.1))) hb); replace HO127 := aMk (Kd.R_below (by (with_reducible repeat (first | apply rA | apply rN | apply rD)); exact (Kd.R_mono (Kd.R_far (p := ⟨gb128, 2, none⟩) (Kd.R_far (p := ⟨gb128, 1, none⟩) (Kd.R_far (p := ⟨gb128, 0, none⟩) (Kd.R_types HO127.out BK128.out (by decide)) (fun _ hk => hk.2) (.int .u64 t132)) (fun _ hk => hk.2) (.int .i64 t133)) (fun _ hk => hk.2) (.slice Ao34 t134.length co34)) (fun _ h_ => h_.1))) hb); replace HO131 := aMk (Kd.R_below (by (with_reducible repeat (first | apply rA | apply rN | apply rD)); exact (Kd.R_mono (Kd.R_far (p := ⟨gb128, 2, none⟩) (Kd.R_far (p := ⟨gb128, 1, none⟩) (Kd.R_far (p := ⟨gb128, 0, none⟩) (Kd.R_types HO131.out BK128.out (by decide)) (fun _ hk => hk.2) (.int .u64 t132)) (fun _ hk => hk.2) (.int .i64 t133)) (fun _ hk => hk.2) (.slice Ao34 t134.length co34)) (fun _ h_ => h_.1))) hb); replace HO136 := aMk (Kd.R_below (by (with_reducible repeat (first | apply rA | apply rN | apply rD)); exact (Kd.R_mono (Kd.R_far (p := ⟨gb128, 2, none⟩) (Kd.R_far (p := ⟨gb128, 1, none⟩) (Kd.R_far (p := ⟨gb128, 0, none⟩) (Kd.R_types HO136.out BK128.out (by decide)) (fun _ hk => hk.2) (.int .u64 t132)) (fun _ hk => hk.2) (.int .i64 t133)) (fun _ hk => hk.2) (.slice Ao34 t134.length co34)) (fun _ h_ => h_.1))) hb); replace BK114 := aMk (blk_below (g := gb114) (o := .cells #[.int .i64 2, .int .i64 0] 23 (0, 0)) (by (with_reducible repeat (first | apply bA | apply bN | apply bD)); refine blk_far ?_ NB114_128.out _; (with_reducible repeat (first | apply bA | apply bN | apply bD)); refine blk_far ?_ NB114_128.out _; (with_reducible repeat (first | apply bA | apply bN | apply bD)); refine blk_far ?_ NB114_128.out _; (with_reducible repeat (first | apply bA | apply bN | apply bD)); exact BK114.out) hb); replace BK128 := aMk (blk_below (g := gb128) (o := .cells #[.int .u64 t132, .int .i64 t133, .slice Ao34 t134.length co34] 33 (0, 0)) (by (with_reducible repeat (first | apply bA | apply bN | apply bD)); refine blk_put (cs := #[.int .u64 t132, .int .i64 t133, .slice Ao24 t125.length co24]) ?_ 2 _ rfl; (with_reducible repeat (first | apply bA | apply bN | apply bD)); refine blk_put (cs := #[.int .u64 t132, .int .i64 t124, .slice Ao24 t125.length co24]) ?_ 1 _ rfl; (with_reducible repeat (first | apply bA | apply bN | apply bD)); refine blk_put (cs := #[.int .u64 t123, .int .i64 t124, .slice Ao24 t125.length co24]) ?_ 0 _ rfl; (with_reducible repeat (first | apply bA | apply bN | apply bD)); exact BK128.out) hb); replace HB := aMk (below_step (by repeat (first | (with_reducible first | exact HB.out | apply eA | apply eN | apply eD | refine eS ?_ GE114.out | refine eS ?_ GE128.out) | exact HB.out)) hb); clear hb hbox hg; have hnb36 := NB137_114.out; have hnc36 := NB114_137.out; have hnb37 := NB137_128.out; have hnc37 := NB128_137.out; have hcz38_0 : w35.cell? ⟨gb137, 0, none⟩ = some (.int .i64 0) := (blk_cell BK137.out 0).trans rfl; have hcz38_1 : w35.cell? ⟨gb137, 1, none⟩ = some (.int .i64 0) := (blk_cell BK137.out 1).trans rfl; have hfz38_0 := blk_frozen BK137.out 0; have hfz38_1 := blk_frozen BK137.out 1))
 have n0_ : Aside0 (Kd.R Kd.string 9 ((w35.setCell ⟨gb137, 0, none⟩ (.int .i64 5)).setCell ⟨gb137, 1, none⟩ (.int .i64 0)) w.heap.size (fun k_ => some k_ ≠ (.slice Ao24 t125.length co24 : Value).ownBlock ∧ some k_ ≠ (.slice Ao34 t134.length co34 : Value).ownBlock) v118 t117) := ⟨by (with_reducible repeat (first | apply rA | apply rN | apply rD)); exact Kd.R_mono (Kd.R_far (p := ⟨gb137, 1, none⟩) (Kd.R_far (p := ⟨gb137, 0, none⟩) (Kd.R_types HO119.out BK137.out (by decide)) (fun _ hk => hk.2) (.int .i64 5)) (fun _ hk => hk.2) (.int .i64 0)) (fun _ hk => ⟨hk.1.1, hk.1.2⟩)⟩
 have n1_ : Aside0 (Kd.R (Kd.int .i64) 2 ((w35.setCell ⟨gb137, 0, none⟩ (.int .i64 5)).setCell ⟨gb137, 1, none⟩ (.int .i64 0)) w.heap.size (fun k_ => some k_ ≠ (.slice Ao31 y129.length co31 : Value).ownBlock) (.slice Ao21 y120.length co21) y120) := ⟨by (with_reducible repeat (first | apply rA | apply rN | apply rD)); exact Kd.R_mono (Kd.R_far (p := ⟨gb137, 1, none⟩) (Kd.R_far (p := ⟨gb137, 0, none⟩) (Kd.R_types HO122.out BK137.out (by decide)) (fun _ hk => hk.2) (.int .i64 5)) (fun _ hk => hk.2) (.int .i64 0)) (fun _ hk => hk.1.2)⟩
 have n2_ : Aside0 (Kd.R Kd.string 9 ((w35.setCell ⟨gb137, 0, none⟩ (.int .i64 5)).setCell ⟨gb137, 1, none⟩ (.int .i64 0)) w.heap.size (fun k_ => some k_ ≠ (v118 : Value).ownBlock ∧ some k_ ≠ (.slice Ao34 t134.length co34 : Value).ownBlock) (.slice Ao24 t125.length co24) t125) := ⟨by (with_reducible repeat (first | apply rA | apply rN | apply rD)); exact Kd.R_mono (Kd.R_far (p := ⟨gb137, 1, none⟩) (Kd.R_far (p := ⟨gb137, 0, none⟩) (Kd.R_types HO127.out BK137.out (by decide)) (fun _ hk => hk.2) (.int .i64 5)) (fun _ hk => hk.2) (.int .i64 0)) (fun _ hk => ⟨hk.1.1, hk.1.2⟩)⟩
 have n3_ : Aside0 (Kd.R (Kd.int .i64) 2 ((w35.setCell ⟨gb137, 0, none⟩ (.int .i64 5)).setCell ⟨gb137, 1, none⟩ (.int .i64 0)) w.heap.size (fun k_ => some k_ ≠ (.slice Ao21 y120.length co21 : Value).ownBlock) (.slice Ao31 y129.length co31) y129) := ⟨by (with_reducible repeat (first | apply rA | apply rN | apply rD)); exact Kd.R_mono (Kd.R_far (p := ⟨gb137, 1, none⟩) (Kd.R_far (p := ⟨gb137, 0, none⟩) (Kd.R_types HO131.out BK137.out (by decide)) (fun _ hk => hk.2) (.int .i64 5)) (fun _ hk => hk.2) (.int .i64 0)) (fun _ hk => hk.1.2)⟩
 have n4_ : Aside0 (Kd.R Kd.string 9 ((w35.setCell ⟨gb137, 0, none⟩ (.int .i64 5)).setCell ⟨gb137, 1, none⟩ (.int .i64 0)) w.heap.size (fun k_ => some k_ ≠ (v118 : Value).ownBlock ∧ some k_ ≠ (.slice Ao24 t125.length co24 : Value).ownBlock) (.slice Ao34 t134.length co34) t134) := ⟨by (with_reducible repeat (first | apply rA | apply rN | apply rD)); exact Kd.R_mono (Kd.R_far (p := ⟨gb137, 1, none⟩) (Kd.R_far (p := ⟨gb137, 0, none⟩) (Kd.R_types HO136.out BK137.out (by decide)) (fun _ hk => hk.2) (.int .i64 5)) (fun _ hk => hk.2) (.int .i64 0)) (fun _ hk => ⟨hk.1.1.2, hk.1.2⟩)⟩
 have n5_ : Aside0 (((w35.setCell ⟨gb137, 0, none⟩ (.int .i64 5)).setCell ⟨gb137, 1, none⟩ (.int .i64 0)).heap[gb114]? = some (.cells #[.int .i64 2, .int .i64 0] 23 (0, 0))) := ⟨by (with_reducible repeat (first | apply bA | apply bN | apply bD)); refine blk_far ?_ NB114_137.out _; (with_reducible repeat (first | apply bA | apply bN | apply bD)); refine blk_far ?_ NB114_137.out _; (with_reducible repeat (first | apply bA | apply bN | apply bD)); exact BK114.out⟩
 have n6_ : Aside0 (((w35.setCell ⟨gb137, 0, none⟩ (.int .i64 5)).setCell ⟨gb137, 1, none⟩ (.int .i64 0)).heap[gb128]? = some (.cells #[.int .u64 t132, .int .i64 t133, .slice Ao34 t134.length co34] 33 (0, 0))) := ⟨by (with_reducible repeat (first | apply bA | apply bN | apply bD)); refine blk_far ?_ NB128_137.out _; (with_reducible repeat (first | apply bA | apply bN | apply bD)); refine blk_far ?_ NB128_137.out _; (with_reducible repeat (first | apply bA | apply bN | apply bD)); exact BK128.out⟩
 have n7_ : Aside0 (((w35.setCell ⟨gb137, 0, none⟩ (.int .i64 5)).setCell ⟨gb137, 1, none⟩ (.int .i64 0)).heap[gb137]? = some (.cells #[.int .i64 5, .int .i64 0] 23 (0, 0))) := ⟨by (with_reducible repeat (first | apply bA | apply bN | apply bD)); refine blk_put (cs := #[.int .i64 5, .int .i64 0]) ?_ 1 _ rfl; (with_reducible repeat (first | apply bA | apply bN | apply bD)); refine blk_put (cs := #[.int .i64 0, .int .i64 0]) ?_ 0 _ rfl; (with_reducible repeat (first | apply bA | apply bN | apply bD)); exact BK137.out⟩
 have n8_ : Aside0 (Below w.heap.size w ((w35.setCell ⟨gb137, 0, none⟩ (.int .i64 5)).setCell ⟨gb137, 1, none⟩ (.int .i64 0))) := ⟨by repeat (first | (with_reducible first | exact HB.out | apply eA | apply eN | apply eD | refine eS ?_ GE114.out | refine eS ?_ GE128.out | refine eS ?_ GE137.out) | exact HB.out)⟩
 (try clear HO119)
 (try clear HO122)
 (try clear HO127)
 (try clear HO131)
 (try clear HO136)
 (try clear BK114)
 (try clear BK128)
 (try clear BK137)
 (try clear HB)
 generalize ((w35.setCell ⟨gb137, 0, none⟩ (.int .i64 5)).setCell ⟨gb137, 1, none⟩ (.int .i64 0)) = w39 at n0_ n1_ n2_ n3_ n4_ n5_ n6_ n7_ n8_ ⊢
 have HO119 := n0_
 have HO122 := n1_
 have HO127 := n2_
 have HO131 := n3_
 have HO136 := n4_
 have BK114 := n5_
 have BK128 := n6_
 have BK137 := n7_
 have HB := n8_
 clear n0_ n1_ n2_ n3_ n4_ n5_ n6_ n7_ n8_
 replace HO119 := aMk (rD HO119.out)
 replace HO122 := aMk (rD HO122.out)
 replace HO127 := aMk (rD HO127.out)
 replace HO131 := aMk (rD HO131.out)
 replace HO136 := aMk (rD HO136.out)
 replace BK114 := aMk (bD BK114.out)
 replace BK128 := aMk (bD BK128.out)
 replace BK137 := aMk (bD BK137.out)
 replace HB := aMk (eD HB.out)
 refine start_ (n := 8) (S := fun w' => w'.cell? ⟨gb137, 0, none⟩ = some (.int .i64 5) ∧ w'.cell? ⟨gb137, 1, none⟩ = some (.int .i64 0)) (ds := []) #[false, false, false, false, false, false, false, false] (by kernel_rfl) rfl rfl ⟨(blk_cell BK137.out 0).trans rfl, (blk_cell BK137.out 1).trans rfl⟩ (fun hHeld => ?_); refine with_tabW gristmilllaw06_awake.tab5 gristmilllaw06_awake.bits5 (fun HT_ HW_ => ?_)
 generalize w39.drew = w40 at HO119 HO122 HO127 HO131 HO136 BK114 BK128 BK137 HB hHeld ⊢
 refine take_ (i := 0) (N := some 18) (v := ?_) (a' := ?_) #[true, false, false, false, false, false, false, false] rfl rfl (take_ofW HT_.out HW_.out (by kernel_rfl)) (fun _ _ _ h => h) (Or.inl ⟨by rfl, ?_⟩) hHeld ?_ ?_
 rotate_left
 ·rintro w' ⟨s0, s1⟩
  go_simp
  with_reducible rfl
 rotate_left
 ·simp only [Act.put, sA, sB, sC, i64_w, i32_w]
  rfl
 refine take_ (i := 1) (N := some 19) (v := ?_) (a' := ?_) #[true, true, false, false, false, false, false, false] rfl rfl (take_ofW HT_.out HW_.out (by kernel_rfl)) (fun _ _ _ h => h) (Or.inl ⟨by rfl, ?_⟩) hHeld ?_ ?_
 rotate_left
 ·rintro w' ⟨s0, s1⟩
  go_simp
  with_reducible rfl
 rotate_left
 ·simp only [Act.put, sA, sB, sC, i64_w, i32_w]
  rfl
 refine join_ (σ := Value × Value × Value × Nat) 1 #[true, true, true, true, true, true, true, false] (fun s_ => [(20, .agg #[.int .u64 t138, .int .i64 t139, s_.1]), (21, s_.2.1), (23, .agg #[.int .u64 t146, .int .i64 t147, s_.2.2.1]), (4, .pointer (some ⟨s_.2.2.2, 0, none⟩)), (22, .agg #[.int .i64 0, s_.2.1, .slice none 0 0])]) (fun s_ w' => (w'.cell? ⟨gb137, 0, none⟩ = some (.int .i64 5) ∧ w'.cell? ⟨gb137, 1, none⟩ = some (.int .i64 0)) ∧ (Kd.R Kd.string 9 w' w.heap.size (fun k_ => some k_ ≠ (.slice Ao24 t125.length co24 : Value).ownBlock ∧ some k_ ≠ (.slice Ao34 t134.length co34 : Value).ownBlock ∧ some k_ ≠ (s_.1 : Value).ownBlock ∧ some k_ ≠ (s_.2.1 : Value).ownBlock ∧ some k_ ≠ (s_.2.2.1 : Value).ownBlock) v118 t117) ∧ (Kd.R (Kd.int .i64) 2 w' w.heap.size (fun k_ => some k_ ≠ (.slice Ao31 y129.length co31 : Value).ownBlock) (.slice Ao21 y120.length co21) y120) ∧ (Kd.R Kd.string 9 w' w.heap.size (fun k_ => some k_ ≠ (v118 : Value).ownBlock ∧ some k_ ≠ (.slice Ao34 t134.length co34 : Value).ownBlock ∧ some k_ ≠ (s_.1 : Value).ownBlock ∧ some k_ ≠ (s_.2.1 : Value).ownBlock ∧ some k_ ≠ (s_.2.2.1 : Value).ownBlock) (.slice Ao24 t125.length co24) t125) ∧ (Kd.R (Kd.int .i64) 2 w' w.heap.size (fun k_ => some k_ ≠ (.slice Ao21 y120.length co21 : Value).ownBlock) (.slice Ao31 y129.length co31) y129) ∧ (Kd.R Kd.string 9 w' w.heap.size (fun k_ => some k_ ≠ (v118 : Value).ownBlock ∧ some k_ ≠ (.slice Ao24 t125.length co24 : Value).ownBlock ∧ some k_ ≠ (s_.1 : Value).ownBlock ∧ some k_ ≠ (s_.2.1 : Value).ownBlock ∧ some k_ ≠ (s_.2.2.1 : Value).ownBlock) (.slice Ao34 t134.length co34) t134) ∧ (Kd.R Kd.string 9 w' w.heap.size (fun k_ => some k_ ≠ (v118 : Value).ownBlock ∧ some k_ ≠ (.slice Ao24 t125.length co24 : Value).ownBlock ∧ some k_ ≠ (.slice Ao34 t134.length co34 : Value).ownBlock ∧ some k_ ≠ (s_.2.1 : Value).ownBlock ∧ some k_ ≠ (s_.2.2.1 : Value).ownBlock) s_.1 t140) ∧ (Kd.R Kd.string 9 w' w.heap.size (fun k_ => some k_ ≠ (v118 : Value).ownBlock ∧ some k_ ≠ (.slice Ao24 t125.length co24 : Value).ownBlock ∧ some k_ ≠ (.slice Ao34 t134.length co34 : Value).ownBlock ∧ some k_ ≠ (s_.1 : Value).ownBlock ∧ some k_ ≠ (s_.2.2.1 : Value).ownBlock) s_.2.1 y143) ∧ (Kd.R Kd.string 9 w' w.heap.size (fun k_ => some k_ ≠ (v118 : Value).ownBlock ∧ some k_ ≠ (.slice Ao24 t125.length co24 : Value).ownBlock ∧ some k_ ≠ (.slice Ao34 t134.length co34 : Value).ownBlock ∧ some k_ ≠ (s_.1 : Value).ownBlock ∧ some k_ ≠ (s_.2.1 : Value).ownBlock) s_.2.2.1 t148) ∧ (w'.heap[gb114]? = some (.cells #[.int .i64 2, .int .i64 0] 23 (0, 0))) ∧ (w'.heap[gb128]? = some (.cells #[.int .u64 t132, .int .i64 t133, .slice Ao34 t134.length co34] 33 (0, 0))) ∧ (w'.heap[gb137]? = some (.cells #[.int .i64 5, .int .i64 0] 23 (0, 0))) ∧ (w'.heap[s_.2.2.2]? = some (.cells #[.int .u64 0, .int .i64 0, .slice none 0 0] 33 (0, 0))) ∧ (w.heap.size ≤ s_.2.2.2) ∧ (w.heap.size ≤ s_.2.2.2) ∧ (gb114 ≠ s_.2.2.2) ∧ (s_.2.2.2 ≠ gb114) ∧ (gb128 ≠ s_.2.2.2) ∧ (s_.2.2.2 ≠ gb128) ∧ (gb137 ≠ s_.2.2.2) ∧ (s_.2.2.2 ≠ gb137) ∧ (Below w.heap.size w w')) ?_ ?_
 rotate_left
 ·intro hJ2_3_5_6
  refine join_ (σ := Value × Value × Value) 2 #[true, true, true, true, true, true, false, false] (fun s_ => [(20, .agg #[.int .u64 t138, .int .i64 t139, s_.1]), (21, s_.2.1), (23, .agg #[.int .u64 t146, .int .i64 t147, s_.2.2]), (22, .agg #[.int .i64 0, s_.2.1, .slice none 0 0])]) (fun s_ w' => (w'.cell? ⟨gb137, 0, none⟩ = some (.int .i64 5) ∧ w'.cell? ⟨gb137, 1, none⟩ = some (.int .i64 0)) ∧ (Kd.R Kd.string 9 w' w.heap.size (fun k_ => some k_ ≠ (.slice Ao24 t125.length co24 : Value).ownBlock ∧ some k_ ≠ (.slice Ao34 t134.length co34 : Value).ownBlock ∧ some k_ ≠ (s_.1 : Value).ownBlock ∧ some k_ ≠ (s_.2.1 : Value).ownBlock ∧ some k_ ≠ (s_.2.2 : Value).ownBlock) v118 t117) ∧ (Kd.R (Kd.int .i64) 2 w' w.heap.size (fun k_ => some k_ ≠ (.slice Ao31 y129.length co31 : Value).ownBlock) (.slice Ao21 y120.length co21) y120) ∧ (Kd.R Kd.string 9 w' w.heap.size (fun k_ => some k_ ≠ (v118 : Value).ownBlock ∧ some k_ ≠ (.slice Ao34 t134.length co34 : Value).ownBlock ∧ some k_ ≠ (s_.1 : Value).ownBlock ∧ some k_ ≠ (s_.2.1 : Value).ownBlock ∧ some k_ ≠ (s_.2.2 : Value).ownBlock) (.slice Ao24 t125.length co24) t125) ∧ (Kd.R (Kd.int .i64) 2 w' w.heap.size (fun k_ => some k_ ≠ (.slice Ao21 y120.length co21 : Value).ownBlock) (.slice Ao31 y129.length co31) y129) ∧ (Kd.R Kd.string 9 w' w.heap.size (fun k_ => some k_ ≠ (v118 : Value).ownBlock ∧ some k_ ≠ (.slice Ao24 t125.length co24 : Value).ownBlock ∧ some k_ ≠ (s_.1 : Value).ownBlock ∧ some k_ ≠ (s_.2.1 : Value).ownBlock ∧ some k_ ≠ (s_.2.2 : Value).ownBlock) (.slice Ao34 t134.length co34) t134) ∧ (Kd.R Kd.string 9 w' w.heap.size (fun k_ => some k_ ≠ (v118 : Value).ownBlock ∧ some k_ ≠ (.slice Ao24 t125.length co24 : Value).ownBlock ∧ some k_ ≠ (.slice Ao34 t134.length co34 : Value).ownBlock ∧ some k_ ≠ (s_.2.1 : Value).ownBlock ∧ some k_ ≠ (s_.2.2 : Value).ownBlock) s_.1 t140) ∧ (Kd.R Kd.string 9 w' w.heap.size (fun k_ => some k_ ≠ (v118 : Value).ownBlock ∧ some k_ ≠ (.slice Ao24 t125.length co24 : Value).ownBlock ∧ some k_ ≠ (.slice Ao34 t134.length co34 : Value).ownBlock ∧ some k_ ≠ (s_.1 : Value).ownBlock ∧ some k_ ≠ (s_.2.2 : Value).ownBlock) s_.2.1 y143) ∧ (Kd.R Kd.string 9 w' w.heap.size (fun k_ => some k_ ≠ (v118 : Value).ownBlock ∧ some k_ ≠ (.slice Ao24 t125.length co24 : Value).ownBlock ∧ some k_ ≠ (.slice Ao34 t134.length co34 : Value).ownBlock ∧ some k_ ≠ (s_.1 : Value).ownBlock ∧ some k_ ≠ (s_.2.1 : Value).ownBlock) s_.2.2 t148) ∧ (w'.heap[gb114]? = some (.cells #[.int .i64 2, .int .i64 0] 23 (0, 0))) ∧ (w'.heap[gb128]? = some (.cells #[.int .u64 t132, .int .i64 t133, .slice Ao34 t134.length co34] 33 (0, 0))) ∧ (w'.heap[gb137]? = some (.cells #[.int .i64 5, .int .i64 0] 23 (0, 0))) ∧ (Below w.heap.size w w')) ?_ ?_
  rotate_left
  ·intro hJ2_3_5
   refine join_ (σ := Value × Value × Nat) 2 #[true, true, true, true, true, false, true, false] (fun s_ => [(20, .agg #[.int .u64 t138, .int .i64 t139, s_.1]), (21, s_.2.1), (4, .pointer (some ⟨s_.2.2, 0, none⟩)), (22, .agg #[.int .i64 0, s_.2.1, .slice none 0 0])]) (fun s_ w' => (w'.cell? ⟨gb137, 0, none⟩ = some (.int .i64 5) ∧ w'.cell? ⟨gb137, 1, none⟩ = some (.int .i64 0)) ∧ (Kd.R Kd.string 9 w' w.heap.size (fun k_ => some k_ ≠ (.slice Ao24 t125.length co24 : Value).ownBlock ∧ some k_ ≠ (.slice Ao34 t134.length co34 : Value).ownBlock ∧ some k_ ≠ (s_.1 : Value).ownBlock ∧ some k_ ≠ (s_.2.1 : Value).ownBlock) v118 t117) ∧ (Kd.R (Kd.int .i64) 2 w' w.heap.size (fun k_ => some k_ ≠ (.slice Ao31 y129.length co31 : Value).ownBlock) (.slice Ao21 y120.length co21) y120) ∧ (Kd.R Kd.string 9 w' w.heap.size (fun k_ => some k_ ≠ (v118 : Value).ownBlock ∧ some k_ ≠ (.slice Ao34 t134.length co34 : Value).ownBlock ∧ some k_ ≠ (s_.1 : Value).ownBlock ∧ some k_ ≠ (s_.2.1 : Value).ownBlock) (.slice Ao24 t125.length co24) t125) ∧ (Kd.R (Kd.int .i64) 2 w' w.heap.size (fun k_ => some k_ ≠ (.slice Ao21 y120.length co21 : Value).ownBlock) (.slice Ao31 y129.length co31) y129) ∧ (Kd.R Kd.string 9 w' w.heap.size (fun k_ => some k_ ≠ (v118 : Value).ownBlock ∧ some k_ ≠ (.slice Ao24 t125.length co24 : Value).ownBlock ∧ some k_ ≠ (s_.1 : Value).ownBlock ∧ some k_ ≠ (s_.2.1 : Value).ownBlock) (.slice Ao34 t134.length co34) t134) ∧ (Kd.R Kd.string 9 w' w.heap.size (fun k_ => some k_ ≠ (v118 : Value).ownBlock ∧ some k_ ≠ (.slice Ao24 t125.length co24 : Value).ownBlock ∧ some k_ ≠ (.slice Ao34 t134.length co34 : Value).ownBlock ∧ some k_ ≠ (s_.2.1 : Value).ownBlock) s_.1 t140) ∧ (Kd.R Kd.string 9 w' w.heap.size (fun k_ => some k_ ≠ (v118 : Value).ownBlock ∧ some k_ ≠ (.slice Ao24 t125.length co24 : Value).ownBlock ∧ some k_ ≠ (.slice Ao34 t134.length co34 : Value).ownBlock ∧ some k_ ≠ (s_.1 : Value).ownBlock) s_.2.1 y143) ∧ (w'.heap[gb114]? = some (.cells #[.int .i64 2, .int .i64 0] 23 (0, 0))) ∧ (w'.heap[gb128]? = some (.cells #[.int .u64 t132, .int .i64 t133, .slice Ao34 t134.length co34] 33 (0, 0))) ∧ (w'.heap[gb137]? = some (.cells #[.int .i64 5, .int .i64 0] 23 (0, 0))) ∧ (w'.heap[s_.2.2]? = some (.cells #[.int .u64 0, .int .i64 0, .slice none 0 0] 33 (0, 0))) ∧ (w.heap.size ≤ s_.2.2) ∧ (w.heap.size ≤ s_.2.2) ∧ (gb114 ≠ s_.2.2) ∧ (s_.2.2 ≠ gb114) ∧ (gb128 ≠ s_.2.2) ∧ (s_.2.2 ≠ gb128) ∧ (gb137 ≠ s_.2.2) ∧ (s_.2.2 ≠ gb137) ∧ (Below w.heap.size w w')) ?_ ?_
   rotate_left
   ·intro hJ2_3_6
    refine join_ (σ := Value × Value) 3 #[true, true, true, true, true, false, false, false] (fun s_ => [(20, .agg #[.int .u64 t138, .int .i64 t139, s_.1]), (21, s_.2), (22, .agg #[.int .i64 0, s_.2, .slice none 0 0])]) (fun s_ w' => (w'.cell? ⟨gb137, 0, none⟩ = some (.int .i64 5) ∧ w'.cell? ⟨gb137, 1, none⟩ = some (.int .i64 0)) ∧ (Kd.R Kd.string 9 w' w.heap.size (fun k_ => some k_ ≠ (.slice Ao24 t125.length co24 : Value).ownBlock ∧ some k_ ≠ (.slice Ao34 t134.length co34 : Value).ownBlock ∧ some k_ ≠ (s_.1 : Value).ownBlock ∧ some k_ ≠ (s_.2 : Value).ownBlock) v118 t117) ∧ (Kd.R (Kd.int .i64) 2 w' w.heap.size (fun k_ => some k_ ≠ (.slice Ao31 y129.length co31 : Value).ownBlock) (.slice Ao21 y120.length co21) y120) ∧ (Kd.R Kd.string 9 w' w.heap.size (fun k_ => some k_ ≠ (v118 : Value).ownBlock ∧ some k_ ≠ (.slice Ao34 t134.length co34 : Value).ownBlock ∧ some k_ ≠ (s_.1 : Value).ownBlock ∧ some k_ ≠ (s_.2 : Value).ownBlock) (.slice Ao24 t125.length co24) t125) ∧ (Kd.R (Kd.int .i64) 2 w' w.heap.size (fun k_ => some k_ ≠ (.slice Ao21 y120.length co21 : Value).ownBlock) (.slice Ao31 y129.length co31) y129) ∧ (Kd.R Kd.string 9 w' w.heap.size (fun k_ => some k_ ≠ (v118 : Value).ownBlock ∧ some k_ ≠ (.slice Ao24 t125.length co24 : Value).ownBlock ∧ some k_ ≠ (s_.1 : Value).ownBlock ∧ some k_ ≠ (s_.2 : Value).ownBlock) (.slice Ao34 t134.length co34) t134) ∧ (Kd.R Kd.string 9 w' w.heap.size (fun k_ => some k_ ≠ (v118 : Value).ownBlock ∧ some k_ ≠ (.slice Ao24 t125.length co24 : Value).ownBlock ∧ some k_ ≠ (.slice Ao34 t134.length co34 : Value).ownBlock ∧ some k_ ≠ (s_.2 : Value).ownBlock) s_.1 t140) ∧ (Kd.R Kd.string 9 w' w.heap.size (fun k_ => some k_ ≠ (v118 : Value).ownBlock ∧ some k_ ≠ (.slice Ao24 t125.length co24 : Value).ownBlock ∧ some k_ ≠ (.slice Ao34 t134.length co34 : Value).ownBlock ∧ some k_ ≠ (s_.1 : Value).ownBlock) s_.2 y143) ∧ (w'.heap[gb114]? = some (.cells #[.int .i64 2, .int .i64 0] 23 (0, 0))) ∧ (w'.heap[gb128]? = some (.cells #[.int .u64 t132, .int .i64 t133, .slice Ao34 t134.length co34] 33 (0, 0))) ∧ (w'.heap[gb137]? = some (.cells #[.int .i64 5, .int .i64 0] 23 (0, 0))) ∧ (Below w.heap.size w w')) ?_ ?_
    rotate_left
    ·intro hJ2_3
     refine join_ (σ := Value × Nat) 4 #[true, true, true, false, false, false, true, false] (fun s_ => [(20, .agg #[.int .u64 t138, .int .i64 t139, s_.1]), (4, .pointer (some ⟨s_.2, 0, none⟩))]) (fun s_ w' => (w'.cell? ⟨gb137, 0, none⟩ = some (.int .i64 5) ∧ w'.cell? ⟨gb137, 1, none⟩ = some (.int .i64 0)) ∧ (Kd.R Kd.string 9 w' w.heap.size (fun k_ => some k_ ≠ (.slice Ao24 t125.length co24 : Value).ownBlock ∧ some k_ ≠ (.slice Ao34 t134.length co34 : Value).ownBlock ∧ some k_ ≠ (s_.1 : Value).ownBlock) v118 t117) ∧ (Kd.R (Kd.int .i64) 2 w' w.heap.size (fun k_ => some k_ ≠ (.slice Ao31 y129.length co31 : Value).ownBlock) (.slice Ao21 y120.length co21) y120) ∧ (Kd.R Kd.string 9 w' w.heap.size (fun k_ => some k_ ≠ (v118 : Value).ownBlock ∧ some k_ ≠ (.slice Ao34 t134.length co34 : Value).ownBlock ∧ some k_ ≠ (s_.1 : Value).ownBlock) (.slice Ao24 t125.length co24) t125) ∧ (Kd.R (Kd.int .i64) 2 w' w.heap.size (fun k_ => some k_ ≠ (.slice Ao21 y120.length co21 : Value).ownBlock) (.slice Ao31 y129.length co31) y129) ∧ (Kd.R Kd.string 9 w' w.heap.size (fun k_ => some k_ ≠ (v118 : Value).ownBlock ∧ some k_ ≠ (.slice Ao24 t125.length co24 : Value).ownBlock ∧ some k_ ≠ (s_.1 : Value).ownBlock) (.slice Ao34 t134.length co34) t134) ∧ (Kd.R Kd.string 9 w' w.heap.size (fun k_ => some k_ ≠ (v118 : Value).ownBlock ∧ some k_ ≠ (.slice Ao24 t125.length co24 : Value).ownBlock ∧ some k_ ≠ (.slice Ao34 t134.length co34 : Value).ownBlock) s_.1 t140) ∧ (w'.heap[gb114]? = some (.cells #[.int .i64 2, .int .i64 0] 23 (0, 0))) ∧ (w'.heap[gb128]? = some (.cells #[.int .u64 t132, .int .i64 t133, .slice Ao34 t134.length co34] 33 (0, 0))) ∧ (w'.heap[gb137]? = some (.cells #[.int .i64 5, .int .i64 0] 23 (0, 0))) ∧ (w'.heap[s_.2]? = some (.cells #[.int .u64 0, .int .i64 0, .slice none 0 0] 33 (0, 0))) ∧ (w.heap.size ≤ s_.2) ∧ (w.heap.size ≤ s_.2) ∧ (gb114 ≠ s_.2) ∧ (s_.2 ≠ gb114) ∧ (gb128 ≠ s_.2) ∧ (s_.2 ≠ gb128) ∧ (gb137 ≠ s_.2) ∧ (s_.2 ≠ gb137) ∧ (Below w.heap.size w w')) ?_ ?_
     rotate_left
     ·intro hJ2_6
      refine join_ (σ := Value × Nat) 3 #[true, true, false, true, true, false, true, false] (fun s_ => [(21, s_.1), (4, .pointer (some ⟨s_.2, 0, none⟩)), (22, .agg #[.int .i64 0, s_.1, .slice none 0 0])]) (fun s_ w' => (w'.cell? ⟨gb137, 0, none⟩ = some (.int .i64 5) ∧ w'.cell? ⟨gb137, 1, none⟩ = some (.int .i64 0)) ∧ (Kd.R Kd.string 9 w' w.heap.size (fun k_ => some k_ ≠ (.slice Ao24 t125.length co24 : Value).ownBlock ∧ some k_ ≠ (.slice Ao34 t134.length co34 : Value).ownBlock ∧ some k_ ≠ (s_.1 : Value).ownBlock) v118 t117) ∧ (Kd.R (Kd.int .i64) 2 w' w.heap.size (fun k_ => some k_ ≠ (.slice Ao31 y129.length co31 : Value).ownBlock) (.slice Ao21 y120.length co21) y120) ∧ (Kd.R Kd.string 9 w' w.heap.size (fun k_ => some k_ ≠ (v118 : Value).ownBlock ∧ some k_ ≠ (.slice Ao34 t134.length co34 : Value).ownBlock ∧ some k_ ≠ (s_.1 : Value).ownBlock) (.slice Ao24 t125.length co24) t125) ∧ (Kd.R (Kd.int .i64) 2 w' w.heap.size (fun k_ => some k_ ≠ (.slice Ao21 y120.length co21 : Value).ownBlock) (.slice Ao31 y129.length co31) y129) ∧ (Kd.R Kd.string 9 w' w.heap.size (fun k_ => some k_ ≠ (v118 : Value).ownBlock ∧ some k_ ≠ (.slice Ao24 t125.length co24 : Value).ownBlock ∧ some k_ ≠ (s_.1 : Value).ownBlock) (.slice Ao34 t134.length co34) t134) ∧ (Kd.R Kd.string 9 w' w.heap.size (fun k_ => some k_ ≠ (v118 : Value).ownBlock ∧ some k_ ≠ (.slice Ao24 t125.length co24 : Value).ownBlock ∧ some k_ ≠ (.slice Ao34 t134.length co34 : Value).ownBlock) s_.1 y143) ∧ (w'.heap[gb114]? = some (.cells #[.int .i64 2, .int .i64 0] 23 (0, 0))) ∧ (w'.heap[gb128]? = some (.cells #[.int .u64 t132, .int .i64 t133, .slice Ao34 t134.length co34] 33 (0, 0))) ∧ (w'.heap[gb137]? = some (.cells #[.int .i64 5, .int .i64 0] 23 (0, 0))) ∧ (w'.heap[s_.2]? = some (.cells #[.int .u64 0, .int .i64 0, .slice none 0 0] 33 (0, 0))) ∧ (w.heap.size ≤ s_.2) ∧ (w.heap.size ≤ s_.2) ∧ (gb114 ≠ s_.2) ∧ (s_.2 ≠ gb114) ∧ (gb128 ≠ s_.2) ∧ (s_.2 ≠ gb128) ∧ (gb137 ≠ s_.2) ∧ (s_.2 ≠ gb137) ∧ (Below w.heap.size w w')) ?_ ?_
      rotate_left
      ·intro hJ3_6
       refine join_ (σ := Value) 5 #[true, true, true, false, false, false, false, false] (fun s_ => [(20, .agg #[.int .u64 t138, .int .i64 t139, s_])]) (fun s_ w' => (w'.cell? ⟨gb137, 0, none⟩ = some (.int .i64 5) ∧ w'.cell? ⟨gb137, 1, none⟩ = some (.int .i64 0)) ∧ (Kd.R Kd.string 9 w' w.heap.size (fun k_ => some k_ ≠ (.slice Ao24 t125.length co24 : Value).ownBlock ∧ some k_ ≠ (.slice Ao34 t134.length co34 : Value).ownBlock ∧ some k_ ≠ (s_ : Value).ownBlock) v118 t117) ∧ (Kd.R (Kd.int .i64) 2 w' w.heap.size (fun k_ => some k_ ≠ (.slice Ao31 y129.length co31 : Value).ownBlock) (.slice Ao21 y120.length co21) y120) ∧ (Kd.R Kd.string 9 w' w.heap.size (fun k_ => some k_ ≠ (v118 : Value).ownBlock ∧ some k_ ≠ (.slice Ao34 t134.length co34 : Value).ownBlock ∧ some k_ ≠ (s_ : Value).ownBlock) (.slice Ao24 t125.length co24) t125) ∧ (Kd.R (Kd.int .i64) 2 w' w.heap.size (fun k_ => some k_ ≠ (.slice Ao21 y120.length co21 : Value).ownBlock) (.slice Ao31 y129.length co31) y129) ∧ (Kd.R Kd.string 9 w' w.heap.size (fun k_ => some k_ ≠ (v118 : Value).ownBlock ∧ some k_ ≠ (.slice Ao24 t125.length co24 : Value).ownBlock ∧ some k_ ≠ (s_ : Value).ownBlock) (.slice Ao34 t134.length co34) t134) ∧ (Kd.R Kd.string 9 w' w.heap.size (fun k_ => some k_ ≠ (v118 : Value).ownBlock ∧ some k_ ≠ (.slice Ao24 t125.length co24 : Value).ownBlock ∧ some k_ ≠ (.slice Ao34 t134.length co34 : Value).ownBlock) s_ t140) ∧ (w'.heap[gb114]? = some (.cells #[.int .i64 2, .int .i64 0] 23 (0, 0))) ∧ (w'.heap[gb128]? = some (.cells #[.int .u64 t132, .int .i64 t133, .slice Ao34 t134.length co34] 33 (0, 0))) ∧ (w'.heap[gb137]? = some (.cells #[.int .i64 5, .int .i64 0] 23 (0, 0))) ∧ (Below w.heap.size w w')) ?_ ?_
       rotate_left
       ·intro hJ2
        refine join_ (σ := Value) 4 #[true, true, false, true, true, false, false, false] (fun s_ => [(21, s_), (22, .agg #[.int .i64 0, s_, .slice none 0 0])]) (fun s_ w' => (w'.cell? ⟨gb137, 0, none⟩ = some (.int .i64 5) ∧ w'.cell? ⟨gb137, 1, none⟩ = some (.int .i64 0)) ∧ (Kd.R Kd.string 9 w' w.heap.size (fun k_ => some k_ ≠ (.slice Ao24 t125.length co24 : Value).ownBlock ∧ some k_ ≠ (.slice Ao34 t134.length co34 : Value).ownBlock ∧ some k_ ≠ (s_ : Value).ownBlock) v118 t117) ∧ (Kd.R (Kd.int .i64) 2 w' w.heap.size (fun k_ => some k_ ≠ (.slice Ao31 y129.length co31 : Value).ownBlock) (.slice Ao21 y120.length co21) y120) ∧ (Kd.R Kd.string 9 w' w.heap.size (fun k_ => some k_ ≠ (v118 : Value).ownBlock ∧ some k_ ≠ (.slice Ao34 t134.length co34 : Value).ownBlock ∧ some k_ ≠ (s_ : Value).ownBlock) (.slice Ao24 t125.length co24) t125) ∧ (Kd.R (Kd.int .i64) 2 w' w.heap.size (fun k_ => some k_ ≠ (.slice Ao21 y120.length co21 : Value).ownBlock) (.slice Ao31 y129.length co31) y129) ∧ (Kd.R Kd.string 9 w' w.heap.size (fun k_ => some k_ ≠ (v118 : Value).ownBlock ∧ some k_ ≠ (.slice Ao24 t125.length co24 : Value).ownBlock ∧ some k_ ≠ (s_ : Value).ownBlock) (.slice Ao34 t134.length co34) t134) ∧ (Kd.R Kd.string 9 w' w.heap.size (fun k_ => some k_ ≠ (v118 : Value).ownBlock ∧ some k_ ≠ (.slice Ao24 t125.length co24 : Value).ownBlock ∧ some k_ ≠ (.slice Ao34 t134.length co34 : Value).ownBlock) s_ y143) ∧ (w'.heap[gb114]? = some (.cells #[.int .i64 2, .int .i64 0] 23 (0, 0))) ∧ (w'.heap[gb128]? = some (.cells #[.int .u64 t132, .int .i64 t133, .slice Ao34 t134.length co34] 33 (0, 0))) ∧ (w'.heap[gb137]? = some (.cells #[.int .i64 5, .int .i64 0] 23 (0, 0))) ∧ (Below w.heap.size w w')) ?_ ?_
        rotate_left
        ·intro hJ3
         refine join_ (σ := Nat) 5 #[true, true, false, false, false, false, true, false] (fun s_ => [(4, .pointer (some ⟨s_, 0, none⟩))]) (fun s_ w' => (w'.cell? ⟨gb137, 0, none⟩ = some (.int .i64 5) ∧ w'.cell? ⟨gb137, 1, none⟩ = some (.int .i64 0)) ∧ (Kd.R Kd.string 9 w' w.heap.size (fun k_ => some k_ ≠ (.slice Ao24 t125.length co24 : Value).ownBlock ∧ some k_ ≠ (.slice Ao34 t134.length co34 : Value).ownBlock) v118 t117) ∧ (Kd.R (Kd.int .i64) 2 w' w.heap.size (fun k_ => some k_ ≠ (.slice Ao31 y129.length co31 : Value).ownBlock) (.slice Ao21 y120.length co21) y120) ∧ (Kd.R Kd.string 9 w' w.heap.size (fun k_ => some k_ ≠ (v118 : Value).ownBlock ∧ some k_ ≠ (.slice Ao34 t134.length co34 : Value).ownBlock) (.slice Ao24 t125.length co24) t125) ∧ (Kd.R (Kd.int .i64) 2 w' w.heap.size (fun k_ => some k_ ≠ (.slice Ao21 y120.length co21 : Value).ownBlock) (.slice Ao31 y129.length co31) y129) ∧ (Kd.R Kd.string 9 w' w.heap.size (fun k_ => some k_ ≠ (v118 : Value).ownBlock ∧ some k_ ≠ (.slice Ao24 t125.length co24 : Value).ownBlock) (.slice Ao34 t134.length co34) t134) ∧ (w'.heap[gb114]? = some (.cells #[.int .i64 2, .int .i64 0] 23 (0, 0))) ∧ (w'.heap[gb128]? = some (.cells #[.int .u64 t132, .int .i64 t133, .slice Ao34 t134.length co34] 33 (0, 0))) ∧ (w'.heap[gb137]? = some (.cells #[.int .i64 5, .int .i64 0] 23 (0, 0))) ∧ (w'.heap[s_]? = some (.cells #[.int .u64 0, .int .i64 0, .slice none 0 0] 33 (0, 0))) ∧ (w.heap.size ≤ s_) ∧ (w.heap.size ≤ s_) ∧ (gb114 ≠ s_) ∧ (s_ ≠ gb114) ∧ (gb128 ≠ s_) ∧ (s_ ≠ gb128) ∧ (gb137 ≠ s_) ∧ (s_ ≠ gb137) ∧ (Below w.heap.size w w')) ?_ ?_
         rotate_left
         ·intro hJ6
          refine three_ (i := 2) (j := 3) (k := 6) (Ni := some 20) (Nj := some 21) (Nk := some 4) #[true, true, true, false, false, false, false, false] #[true, true, false, true, false, false, false, false] #[true, true, false, false, false, false, true, false] rfl rfl rfl rfl rfl rfl (three_of HT_.out (by kernel_rfl)) (by decide) (by decide) (by decide) (fun K hK => ?_) (fun K hK => ?_) (fun K hK => ?_)
          ·skip
           refine goes_ Try.func11 (by kernel_rfl) rfl #[.agg #[.int .i64 5, .int .i64 0]] (by rfl) rfl rfl (by (try simp only [List.map_toArray, List.map_cons, List.map_nil]); first | done | rfl | (simp only [List.length_drop, List.length_take]; rfl)) ?_
           with_reducible refine (agg_Start.calls 5 0 t138 t139 t140 _ A4.out).mono ?_
           rintro e w41 ⟨v141, rfl, ho0, hb⟩
           refine ⟨_, rfl, ?_⟩
           have HO142 := aMk (Kd.R_lower (Kd.R_new' (Kd.R_new' (Kd.R_new' ho0 (Kd.R_lt (by (with_reducible repeat (first | apply rA | apply rN | apply rD)); exact HO119.out))) (Kd.R_lt (by (with_reducible repeat (first | apply rA | apply rN | apply rD)); exact HO127.out))) (Kd.R_lt (by (with_reducible repeat (first | apply rA | apply rN | apply rD)); exact HO136.out))) (below_size (by repeat (first | (with_reducible first | exact HB.out | apply eA | apply eN | apply eD | refine eS ?_ GE114.out | refine eS ?_ GE128.out | refine eS ?_ GE137.out) | exact HB.out))))
           replace HO119 := aMk (Kd.R_elder' (by (with_reducible repeat (first | apply rA | apply rN | apply rD)); exact HO119.out) (Kd.R_base ho0) hb)
           replace HO122 := aMk (Kd.R_below (by (with_reducible repeat (first | apply rA | apply rN | apply rD)); exact HO122.out) hb)
           replace HO127 := aMk (Kd.R_elder' (by (with_reducible repeat (first | apply rA | apply rN | apply rD)); exact HO127.out) (Kd.R_base ho0) hb)
           replace HO131 := aMk (Kd.R_below (by (with_reducible repeat (first | apply rA | apply rN | apply rD)); exact HO131.out) hb)
           replace HO136 := aMk (Kd.R_elder' (by (with_reducible repeat (first | apply rA | apply rN | apply rD)); exact HO136.out) (Kd.R_base ho0) hb)
           replace BK114 := aMk (blk_below (g := gb114) (o := .cells #[.int .i64 2, .int .i64 0] 23 (0, 0)) (by (with_reducible repeat (first | apply bA | apply bN | apply bD)); exact BK114.out) hb)
           replace BK128 := aMk (blk_below (g := gb128) (o := .cells #[.int .u64 t132, .int .i64 t133, .slice Ao34 t134.length co34] 33 (0, 0)) (by (with_reducible repeat (first | apply bA | apply bN | apply bD)); exact BK128.out) hb)
           replace BK137 := aMk (blk_below (g := gb137) (o := .cells #[.int .i64 5, .int .i64 0] 23 (0, 0)) (by (with_reducible repeat (first | apply bA | apply bN | apply bD)); exact BK137.out) hb)
           replace HB := aMk (below_step (by repeat (first | (with_reducible first | exact HB.out | apply eA | apply eN | apply eD | refine eS ?_ GE114.out | refine eS ?_ GE128.out | refine eS ?_ GE137.out) | exact HB.out)) hb)
           (try clear hb)
           (try clear ho0)
           refine hK.out _ _ ⟨(blk_cell BK137.out 0).trans rfl, (blk_cell BK137.out 1).trans rfl⟩ (fun hHeld => ?_)
           clear hK K
           refine norm_ (a' := ?_) ?_ ?_
           rotate_left
           ·show Act.put _ (some 20) _ = _
            simp only [Act.put, sA, sB, sC, i64_w, i32_w]
            rfl
           exact norm_ (by simp only [putAll, Act.put, sA, sB, sC] <;> rfl) (hJ2 (v141) _ ⟨hHeld, (by (with_reducible repeat (first | apply rA | apply rN | apply rD)); exact Kd.R_mono HO119.out (fun _ hk => ⟨hk.1.1, ⟨hk.1.2, hk.2⟩⟩)), (by (with_reducible repeat (first | apply rA | apply rN | apply rD)); exact HO122.out), (by (with_reducible repeat (first | apply rA | apply rN | apply rD)); exact Kd.R_mono HO127.out (fun _ hk => ⟨hk.1.1, ⟨hk.1.2, hk.2⟩⟩)), (by (with_reducible repeat (first | apply rA | apply rN | apply rD)); exact HO131.out), (by (with_reducible repeat (first | apply rA | apply rN | apply rD)); exact Kd.R_mono HO136.out (fun _ hk => ⟨hk.1.1, ⟨hk.1.2, hk.2⟩⟩)), (by (with_reducible repeat (first | apply rA | apply rN | apply rD)); exact Kd.R_mono HO142.out (fun _ hk => ⟨hk.1.1.2, ⟨hk.1.2, hk.2⟩⟩)), (by (with_reducible repeat (first | apply bA | apply bN | apply bD)); exact BK114.out), (by (with_reducible repeat (first | apply bA | apply bN | apply bD)); exact BK128.out), (by (with_reducible repeat (first | apply bA | apply bN | apply bD)); exact BK137.out), (by repeat (first | (with_reducible first | exact HB.out | apply eA | apply eN | apply eD | refine eS ?_ GE114.out | refine eS ?_ GE128.out | refine eS ?_ GE137.out) | exact HB.out))⟩)
          ·skip
           refine Kd.R_lit_step Kd.string _ 9 ?hg (N := 21) ?hd (xs := ([(⟨#[98]⟩ : ByteArray)] : List ByteArray)) (inner := [.string (⟨#[98]⟩ : ByteArray)]) (ok := fun _ => True) (okp := fun _ => True) ?hr ?hp (fun _ hk => hk) trivial (Below.refl _ _) (Nat.le_refl _) (by simp) ?_; (case hd => rfl); (case hg => rfl); (case hr => first | (go_simp; done) | (go_simp; rfl)); (case hp => exact (Reps.one (show Kd.M Kd.string _ _ _ (⟨#[98]⟩ : ByteArray) [.string (⟨#[98]⟩ : ByteArray)] from rfl) (Reps.none _ _)))
           intro v144 w41 ho42 hb hg_ hnew_
           clear hg_ hnew_
           (first | rw [← Ny143.out] at ho42 | (simp only [Int.reduceToNat] at ho42; rw [← Ny143.out] at ho42))
           have HO145 := aMk (Kd.R_lower (Kd.R_new' (Kd.R_new' (Kd.R_new' ho42 (Kd.R_lt (by (with_reducible repeat (first | apply rA | apply rN | apply rD)); exact HO119.out))) (Kd.R_lt (by (with_reducible repeat (first | apply rA | apply rN | apply rD)); exact HO127.out))) (Kd.R_lt (by (with_reducible repeat (first | apply rA | apply rN | apply rD)); exact HO136.out))) (below_size (by repeat (first | (with_reducible first | exact HB.out | apply eA | apply eN | apply eD | refine eS ?_ GE114.out | refine eS ?_ GE128.out | refine eS ?_ GE137.out) | exact HB.out))))
           replace HO119 := aMk (Kd.R_elder' (by (with_reducible repeat (first | apply rA | apply rN | apply rD)); exact HO119.out) (Kd.R_base ho42) hb)
           replace HO122 := aMk (Kd.R_below (by (with_reducible repeat (first | apply rA | apply rN | apply rD)); exact HO122.out) hb)
           replace HO127 := aMk (Kd.R_elder' (by (with_reducible repeat (first | apply rA | apply rN | apply rD)); exact HO127.out) (Kd.R_base ho42) hb)
           replace HO131 := aMk (Kd.R_below (by (with_reducible repeat (first | apply rA | apply rN | apply rD)); exact HO131.out) hb)
           replace HO136 := aMk (Kd.R_elder' (by (with_reducible repeat (first | apply rA | apply rN | apply rD)); exact HO136.out) (Kd.R_base ho42) hb)
           replace BK114 := aMk (blk_below (g := gb114) (o := .cells #[.int .i64 2, .int .i64 0] 23 (0, 0)) (by (with_reducible repeat (first | apply bA | apply bN | apply bD)); exact BK114.out) hb)
           replace BK128 := aMk (blk_below (g := gb128) (o := .cells #[.int .u64 t132, .int .i64 t133, .slice Ao34 t134.length co34] 33 (0, 0)) (by (with_reducible repeat (first | apply bA | apply bN | apply bD)); exact BK128.out) hb)
           replace BK137 := aMk (blk_below (g := gb137) (o := .cells #[.int .i64 5, .int .i64 0] 23 (0, 0)) (by (with_reducible repeat (first | apply bA | apply bN | apply bD)); exact BK137.out) hb)
           replace HB := aMk (below_step (by repeat (first | (with_reducible first | exact HB.out | apply eA | apply eN | apply eD | refine eS ?_ GE114.out | refine eS ?_ GE128.out | refine eS ?_ GE137.out) | exact HB.out)) hb)
           clear hb ho42
           obtain ⟨Ao43, co43, eo43⟩ := Kd.R_slice HO145.out
           (first | subst eo43 | (injection eo43 with f1_ f2_ f3_; have f4_ := f1_.symm; have f5_ := f3_.symm; clear f1_ f2_ f3_; subst f4_; subst f5_))
           refine hK.out _ _ ⟨(blk_cell BK137.out 0).trans rfl, (blk_cell BK137.out 1).trans rfl⟩ (fun hHeld => ?_)
           clear hK K
           refine norm_ (a' := ?_) ?_ ?_
           rotate_left
           ·show Act.put _ (some 21) _ = _
            simp only [Act.put, sA, sB, sC, i64_w, i32_w]
            rfl
           refine pure_ (i := 4) (N := some 22) (v := ?_) (a' := ?_) #[true, true, false, true, true, false, false, false] rfl rfl (any_of HT_.out (by kernel_rfl)) (fun _ _ _ h => h) (Or.inl ⟨by rfl, ?_⟩) ?_ ?_
           rotate_left
           ·intro w'
            go_simp
            with_reducible rfl
           rotate_left
           ·simp only [Act.put, sA, sB, sC, i64_w, i32_w]
            rfl
           exact norm_ (by simp only [putAll, Act.put, sA, sB, sC] <;> rfl) (hJ3 (.slice Ao43 y143.length co43) _ ⟨hHeld, (by (with_reducible repeat (first | apply rA | apply rN | apply rD)); exact Kd.R_mono HO119.out (fun _ hk => ⟨hk.1.1, ⟨hk.1.2, hk.2⟩⟩)), (by (with_reducible repeat (first | apply rA | apply rN | apply rD)); exact HO122.out), (by (with_reducible repeat (first | apply rA | apply rN | apply rD)); exact Kd.R_mono HO127.out (fun _ hk => ⟨hk.1.1, ⟨hk.1.2, hk.2⟩⟩)), (by (with_reducible repeat (first | apply rA | apply rN | apply rD)); exact HO131.out), (by (with_reducible repeat (first | apply rA | apply rN | apply rD)); exact Kd.R_mono HO136.out (fun _ hk => ⟨hk.1.1, ⟨hk.1.2, hk.2⟩⟩)), (by (with_reducible repeat (first | apply rA | apply rN | apply rD)); exact Kd.R_mono HO145.out (fun _ hk => ⟨hk.1.1.2, ⟨hk.1.2, hk.2⟩⟩)), (by (with_reducible repeat (first | apply bA | apply bN | apply bD)); exact BK114.out), (by (with_reducible repeat (first | apply bA | apply bN | apply bD)); exact BK128.out), (by (with_reducible repeat (first | apply bA | apply bN | apply bD)); exact BK137.out), (by repeat (first | (with_reducible first | exact HB.out | apply eA | apply eN | apply eD | refine eS ?_ GE114.out | refine eS ?_ GE128.out | refine eS ?_ GE137.out) | exact HB.out))⟩)
          ·skip
           refine box_step ?hg (N := 4) ?hd (cs := #[.int .u64 0, .int .i64 0, .slice none 0 0]) (t := 33) ?hr ?_; (case hd => rfl); (case hg => rfl); (case hr => first | (go_simp; done) | (go_simp; rfl))
           intro gb151 hg w41 hbox hb
           have BK151 := aMk (hbox)
           have GW151 := aMk ((by rw [hg]; exact (below_size (by repeat (first | (with_reducible first | exact HB.out | apply eA | apply eN | apply eD | refine eS ?_ GE114.out | refine eS ?_ GE128.out | refine eS ?_ GE137.out) | exact HB.out))) : w.heap.size ≤ gb151))
           have GE151 := GW151
           have NB114_151 := aMk ((by rw [hg]; exact Nat.ne_of_lt (blk_lt (g := gb114) (o := .cells #[.int .i64 2, .int .i64 0] 23 (0, 0)) (by (with_reducible repeat (first | apply bA | apply bN | apply bD)); exact BK114.out)) : gb114 ≠ gb151))
           have NB151_114 := aMk (Ne.symm NB114_151.out)
           have NB128_151 := aMk ((by rw [hg]; exact Nat.ne_of_lt (blk_lt (g := gb128) (o := .cells #[.int .u64 t132, .int .i64 t133, .slice Ao34 t134.length co34] 33 (0, 0)) (by (with_reducible repeat (first | apply bA | apply bN | apply bD)); exact BK128.out)) : gb128 ≠ gb151))
           have NB151_128 := aMk (Ne.symm NB128_151.out)
           have NB137_151 := aMk ((by rw [hg]; exact Nat.ne_of_lt (blk_lt (g := gb137) (o := .cells #[.int .i64 5, .int .i64 0] 23 (0, 0)) (by (with_reducible repeat (first | apply bA | apply bN | apply bD)); exact BK137.out)) : gb137 ≠ gb151))
           have NB151_137 := aMk (Ne.symm NB137_151.out)
           replace HO119 := aMk (Kd.R_below (by (with_reducible repeat (first | apply rA | apply rN | apply rD)); exact HO119.out) hb)
           replace HO122 := aMk (Kd.R_below (by (with_reducible repeat (first | apply rA | apply rN | apply rD)); exact HO122.out) hb)
           replace HO127 := aMk (Kd.R_below (by (with_reducible repeat (first | apply rA | apply rN | apply rD)); exact HO127.out) hb)
           replace HO131 := aMk (Kd.R_below (by (with_reducible repeat (first | apply rA | apply rN | apply rD)); exact HO131.out) hb)
           replace HO136 := aMk (Kd.R_below (by (with_reducible repeat (first | apply rA | apply rN | apply rD)); exact HO136.out) hb)
           replace BK114 := aMk (blk_below (g := gb114) (o := .cells #[.int .i64 2, .int .i64 0] 23 (0, 0)) (by (with_reducible repeat (first | apply bA | apply bN | apply bD)); exact BK114.out) hb)
           replace BK128 := aMk (blk_below (g := gb128) (o := .cells #[.int .u64 t132, .int .i64 t133, .slice Ao34 t134.length co34] 33 (0, 0)) (by (with_reducible repeat (first | apply bA | apply bN | apply bD)); exact BK128.out) hb)
           replace BK137 := aMk (blk_below (g := gb137) (o := .cells #[.int .i64 5, .int .i64 0] 23 (0, 0)) (by (with_reducible repeat (first | apply bA | apply bN | apply bD)); exact BK137.out) hb)
           replace HB := aMk (below_step (by repeat (first | (with_reducible first | exact HB.out | apply eA | apply eN | apply eD | refine eS ?_ GE114.out | refine eS ?_ GE128.out | refine eS ?_ GE137.out) | exact HB.out)) hb)
           clear hb hbox hg
           refine hK.out _ _ ⟨(blk_cell BK137.out 0).trans rfl, (blk_cell BK137.out 1).trans rfl⟩ (fun hHeld => ?_)
           clear hK K
           refine norm_ (a' := ?_) ?_ ?_
           rotate_left
           ·show Act.put _ (some 4) _ = _
            simp only [Act.put, sA, sB, sC, i64_w, i32_w]
            rfl
           exact norm_ (by simp only [putAll, Act.put, sA, sB, sC] <;> rfl) (hJ6 (gb151) _ ⟨hHeld, (by (with_reducible repeat (first | apply rA | apply rN | apply rD)); exact HO119.out), (by (with_reducible repeat (first | apply rA | apply rN | apply rD)); exact HO122.out), (by (with_reducible repeat (first | apply rA | apply rN | apply rD)); exact HO127.out), (by (with_reducible repeat (first | apply rA | apply rN | apply rD)); exact HO131.out), (by (with_reducible repeat (first | apply rA | apply rN | apply rD)); exact HO136.out), (by (with_reducible repeat (first | apply bA | apply bN | apply bD)); exact BK114.out), (by (with_reducible repeat (first | apply bA | apply bN | apply bD)); exact BK128.out), (by (with_reducible repeat (first | apply bA | apply bN | apply bD)); exact BK137.out), (by (with_reducible repeat (first | apply bA | apply bN | apply bD)); exact BK151.out), GW151.out, GE151.out, NB114_151.out, NB151_114.out, NB128_151.out, NB151_128.out, NB137_151.out, NB151_137.out, (by repeat (first | (with_reducible first | exact HB.out | apply eA | apply eN | apply eD | refine eS ?_ GE114.out | refine eS ?_ GE128.out | refine eS ?_ GE137.out | refine eS ?_ GE151.out) | exact HB.out))⟩)
         ·skip
          rintro gb151 w42 ⟨hS_, h0_, h1_, h2_, h3_, h4_, h5_, h6_, h7_, h8_, h9_, h10_, h11_, h12_, h13_, h14_, h15_, h16_, h17_⟩
          have n0_ : Aside0 (Kd.R Kd.string 9 w42 w.heap.size (fun k_ => some k_ ≠ (.slice Ao24 t125.length co24 : Value).ownBlock ∧ some k_ ≠ (.slice Ao34 t134.length co34 : Value).ownBlock) v118 t117) := ⟨h0_⟩
          have n1_ : Aside0 (Kd.R (Kd.int .i64) 2 w42 w.heap.size (fun k_ => some k_ ≠ (.slice Ao31 y129.length co31 : Value).ownBlock) (.slice Ao21 y120.length co21) y120) := ⟨h1_⟩
          have n2_ : Aside0 (Kd.R Kd.string 9 w42 w.heap.size (fun k_ => some k_ ≠ (v118 : Value).ownBlock ∧ some k_ ≠ (.slice Ao34 t134.length co34 : Value).ownBlock) (.slice Ao24 t125.length co24) t125) := ⟨h2_⟩
          have n3_ : Aside0 (Kd.R (Kd.int .i64) 2 w42 w.heap.size (fun k_ => some k_ ≠ (.slice Ao21 y120.length co21 : Value).ownBlock) (.slice Ao31 y129.length co31) y129) := ⟨h3_⟩
          have n4_ : Aside0 (Kd.R Kd.string 9 w42 w.heap.size (fun k_ => some k_ ≠ (v118 : Value).ownBlock ∧ some k_ ≠ (.slice Ao24 t125.length co24 : Value).ownBlock) (.slice Ao34 t134.length co34) t134) := ⟨h4_⟩
          have n5_ : Aside0 (w42.heap[gb114]? = some (.cells #[.int .i64 2, .int .i64 0] 23 (0, 0))) := ⟨h5_⟩
          have n6_ : Aside0 (w42.heap[gb128]? = some (.cells #[.int .u64 t132, .int .i64 t133, .slice Ao34 t134.length co34] 33 (0, 0))) := ⟨h6_⟩
          have n7_ : Aside0 (w42.heap[gb137]? = some (.cells #[.int .i64 5, .int .i64 0] 23 (0, 0))) := ⟨h7_⟩
          have n8_ : Aside0 (w42.heap[gb151]? = some (.cells #[.int .u64 0, .int .i64 0, .slice none 0 0] 33 (0, 0))) := ⟨h8_⟩
          have n9_ : Aside0 (w.heap.size ≤ gb151) := ⟨h9_⟩
          have n10_ : Aside0 (w.heap.size ≤ gb151) := ⟨h10_⟩
          have n11_ : Aside0 (gb114 ≠ gb151) := ⟨h11_⟩
          have n12_ : Aside0 (gb151 ≠ gb114) := ⟨h12_⟩
          have n13_ : Aside0 (gb128 ≠ gb151) := ⟨h13_⟩
          have n14_ : Aside0 (gb151 ≠ gb128) := ⟨h14_⟩
          have n15_ : Aside0 (gb137 ≠ gb151) := ⟨h15_⟩
          have n16_ : Aside0 (gb151 ≠ gb137) := ⟨h16_⟩
          have n17_ : Aside0 (Below w.heap.size w w42) := ⟨h17_⟩
          clear HO119
          clear HO122
          clear HO127
          clear HO131
          clear HO136
          clear BK114
          clear BK128
          clear BK137
          clear HB
          clear h0_ h1_ h2_ h3_ h4_ h5_ h6_ h7_ h8_ h9_ h10_ h11_ h12_ h13_ h14_ h15_ h16_ h17_
          have HO119 := n0_
          have HO122 := n1_
          have HO127 := n2_
          have HO131 := n3_
          have HO136 := n4_
          have BK114 := n5_
          have BK128 := n6_
          have BK137 := n7_
          have BK151 := n8_
          have GW151 := n9_
          have GE151 := n10_
          have NB114_151 := n11_
          have NB151_114 := n12_
          have NB128_151 := n13_
          have NB151_128 := n14_
          have NB137_151 := n15_
          have NB151_137 := n16_
          have HB := n17_
          clear n0_ n1_ n2_ n3_ n4_ n5_ n6_ n7_ n8_ n9_ n10_ n11_ n12_ n13_ n14_ n15_ n16_ n17_
          have hHeld : w42.cell? ⟨gb137, 0, none⟩ = some (.int .i64 5) ∧ w42.cell? ⟨gb137, 1, none⟩ = some (.int .i64 0) := hS_
          refine norm_ (a' := ?_) ?_ ?_
          rotate_left
          ·simp only [putAll, Act.put, sA, sB, sC]
           rfl
          refine two_ (i := 2) (j := 3) (Ni := some 20) (Nj := some 21) #[true, true, true, false, false, false, true, false] #[true, true, false, true, false, false, true, false] rfl rfl rfl rfl (two_of HT_.out (by kernel_rfl)) (by decide) (by decide) (fun K hK => ?_) (fun K hK => ?_)
          ·skip
           refine goes_ Try.func11 (by kernel_rfl) rfl #[.agg #[.int .i64 5, .int .i64 0]] (by rfl) rfl rfl (by (try simp only [List.map_toArray, List.map_cons, List.map_nil]); first | done | rfl | (simp only [List.length_drop, List.length_take]; rfl)) ?_
           with_reducible refine (agg_Start.calls 5 0 t138 t139 t140 _ A4.out).mono ?_
           rintro e w43 ⟨v141, rfl, ho0, hb⟩
           refine ⟨_, rfl, ?_⟩
           have HO142 := aMk (Kd.R_lower (Kd.R_new' (Kd.R_new' (Kd.R_new' ho0 (Kd.R_lt (by (with_reducible repeat (first | apply rA | apply rN | apply rD)); exact HO119.out))) (Kd.R_lt (by (with_reducible repeat (first | apply rA | apply rN | apply rD)); exact HO127.out))) (Kd.R_lt (by (with_reducible repeat (first | apply rA | apply rN | apply rD)); exact HO136.out))) (below_size (by repeat (first | (with_reducible first | exact HB.out | apply eA | apply eN | apply eD | refine eS ?_ GE114.out | refine eS ?_ GE128.out | refine eS ?_ GE137.out | refine eS ?_ GE151.out) | exact HB.out))))
           replace HO119 := aMk (Kd.R_elder' (by (with_reducible repeat (first | apply rA | apply rN | apply rD)); exact HO119.out) (Kd.R_base ho0) hb)
           replace HO122 := aMk (Kd.R_below (by (with_reducible repeat (first | apply rA | apply rN | apply rD)); exact HO122.out) hb)
           replace HO127 := aMk (Kd.R_elder' (by (with_reducible repeat (first | apply rA | apply rN | apply rD)); exact HO127.out) (Kd.R_base ho0) hb)
           replace HO131 := aMk (Kd.R_below (by (with_reducible repeat (first | apply rA | apply rN | apply rD)); exact HO131.out) hb)
           replace HO136 := aMk (Kd.R_elder' (by (with_reducible repeat (first | apply rA | apply rN | apply rD)); exact HO136.out) (Kd.R_base ho0) hb)
           replace BK114 := aMk (blk_below (g := gb114) (o := .cells #[.int .i64 2, .int .i64 0] 23 (0, 0)) (by (with_reducible repeat (first | apply bA | apply bN | apply bD)); exact BK114.out) hb)
           replace BK128 := aMk (blk_below (g := gb128) (o := .cells #[.int .u64 t132, .int .i64 t133, .slice Ao34 t134.length co34] 33 (0, 0)) (by (with_reducible repeat (first | apply bA | apply bN | apply bD)); exact BK128.out) hb)
           replace BK137 := aMk (blk_below (g := gb137) (o := .cells #[.int .i64 5, .int .i64 0] 23 (0, 0)) (by (with_reducible repeat (first | apply bA | apply bN | apply bD)); exact BK137.out) hb)
           replace BK151 := aMk (blk_below (g := gb151) (o := .cells #[.int .u64 0, .int .i64 0, .slice none 0 0] 33 (0, 0)) (by (with_reducible repeat (first | apply bA | apply bN | apply bD)); exact BK151.out) hb)
           replace HB := aMk (below_step (by repeat (first | (with_reducible first | exact HB.out | apply eA | apply eN | apply eD | refine eS ?_ GE114.out | refine eS ?_ GE128.out | refine eS ?_ GE137.out | refine eS ?_ GE151.out) | exact HB.out)) hb)
           (try clear hb)
           (try clear ho0)
           refine hK.out _ _ ⟨(blk_cell BK137.out 0).trans rfl, (blk_cell BK137.out 1).trans rfl⟩ (fun hHeld => ?_)
           clear hK K
           refine norm_ (a' := ?_) ?_ ?_
           rotate_left
           ·show Act.put _ (some 20) _ = _
            simp only [Act.put, sA, sB, sC, i64_w, i32_w]
            rfl
           exact norm_ (by simp only [putAll, Act.put, sA, sB, sC] <;> rfl) (hJ2_6 (v141, gb151) _ ⟨hHeld, (by (with_reducible repeat (first | apply rA | apply rN | apply rD)); exact Kd.R_mono HO119.out (fun _ hk => ⟨hk.1.1, ⟨hk.1.2, hk.2⟩⟩)), (by (with_reducible repeat (first | apply rA | apply rN | apply rD)); exact HO122.out), (by (with_reducible repeat (first | apply rA | apply rN | apply rD)); exact Kd.R_mono HO127.out (fun _ hk => ⟨hk.1.1, ⟨hk.1.2, hk.2⟩⟩)), (by (with_reducible repeat (first | apply rA | apply rN | apply rD)); exact HO131.out), (by (with_reducible repeat (first | apply rA | apply rN | apply rD)); exact Kd.R_mono HO136.out (fun _ hk => ⟨hk.1.1, ⟨hk.1.2, hk.2⟩⟩)), (by (with_reducible repeat (first | apply rA | apply rN | apply rD)); exact Kd.R_mono HO142.out (fun _ hk => ⟨hk.1.1.2, ⟨hk.1.2, hk.2⟩⟩)), (by (with_reducible repeat (first | apply bA | apply bN | apply bD)); exact BK114.out), (by (with_reducible repeat (first | apply bA | apply bN | apply bD)); exact BK128.out), (by (with_reducible repeat (first | apply bA | apply bN | apply bD)); exact BK137.out), (by (with_reducible repeat (first | apply bA | apply bN | apply bD)); exact BK151.out), GW151.out, GE151.out, NB114_151.out, NB151_114.out, NB128_151.out, NB151_128.out, NB137_151.out, NB151_137.out, (by repeat (first | (with_reducible first | exact HB.out | apply eA | apply eN | apply eD | refine eS ?_ GE114.out | refine eS ?_ GE128.out | refine eS ?_ GE137.out | refine eS ?_ GE151.out) | exact HB.out))⟩)
          ·skip
           refine Kd.R_lit_step Kd.string _ 9 ?hg (N := 21) ?hd (xs := ([(⟨#[98]⟩ : ByteArray)] : List ByteArray)) (inner := [.string (⟨#[98]⟩ : ByteArray)]) (ok := fun _ => True) (okp := fun _ => True) ?hr ?hp (fun _ hk => hk) trivial (Below.refl _ _) (Nat.le_refl _) (by simp) ?_; (case hd => rfl); (case hg => rfl); (case hr => first | (go_simp; done) | (go_simp; rfl)); (case hp => exact (Reps.one (show Kd.M Kd.string _ _ _ (⟨#[98]⟩ : ByteArray) [.string (⟨#[98]⟩ : ByteArray)] from rfl) (Reps.none _ _)))
           intro v144 w43 ho44 hb hg_ hnew_
           clear hg_ hnew_
           (first | rw [← Ny143.out] at ho44 | (simp only [Int.reduceToNat] at ho44; rw [← Ny143.out] at ho44))
           have HO145 := aMk (Kd.R_lower (Kd.R_new' (Kd.R_new' (Kd.R_new' ho44 (Kd.R_lt (by (with_reducible repeat (first | apply rA | apply rN | apply rD)); exact HO119.out))) (Kd.R_lt (by (with_reducible repeat (first | apply rA | apply rN | apply rD)); exact HO127.out))) (Kd.R_lt (by (with_reducible repeat (first | apply rA | apply rN | apply rD)); exact HO136.out))) (below_size (by repeat (first | (with_reducible first | exact HB.out | apply eA | apply eN | apply eD | refine eS ?_ GE114.out | refine eS ?_ GE128.out | refine eS ?_ GE137.out | refine eS ?_ GE151.out) | exact HB.out))))
           replace HO119 := aMk (Kd.R_elder' (by (with_reducible repeat (first | apply rA | apply rN | apply rD)); exact HO119.out) (Kd.R_base ho44) hb)
           replace HO122 := aMk (Kd.R_below (by (with_reducible repeat (first | apply rA | apply rN | apply rD)); exact HO122.out) hb)
           replace HO127 := aMk (Kd.R_elder' (by (with_reducible repeat (first | apply rA | apply rN | apply rD)); exact HO127.out) (Kd.R_base ho44) hb)
           replace HO131 := aMk (Kd.R_below (by (with_reducible repeat (first | apply rA | apply rN | apply rD)); exact HO131.out) hb)
           replace HO136 := aMk (Kd.R_elder' (by (with_reducible repeat (first | apply rA | apply rN | apply rD)); exact HO136.out) (Kd.R_base ho44) hb)
           replace BK114 := aMk (blk_below (g := gb114) (o := .cells #[.int .i64 2, .int .i64 0] 23 (0, 0)) (by (with_reducible repeat (first | apply bA | apply bN | apply bD)); exact BK114.out) hb)
           replace BK128 := aMk (blk_below (g := gb128) (o := .cells #[.int .u64 t132, .int .i64 t133, .slice Ao34 t134.length co34] 33 (0, 0)) (by (with_reducible repeat (first | apply bA | apply bN | apply bD)); exact BK128.out) hb)
           replace BK137 := aMk (blk_below (g := gb137) (o := .cells #[.int .i64 5, .int .i64 0] 23 (0, 0)) (by (with_reducible repeat (first | apply bA | apply bN | apply bD)); exact BK137.out) hb)
           replace BK151 := aMk (blk_below (g := gb151) (o := .cells #[.int .u64 0, .int .i64 0, .slice none 0 0] 33 (0, 0)) (by (with_reducible repeat (first | apply bA | apply bN | apply bD)); exact BK151.out) hb)
           replace HB := aMk (below_step (by repeat (first | (with_reducible first | exact HB.out | apply eA | apply eN | apply eD | refine eS ?_ GE114.out | refine eS ?_ GE128.out | refine eS ?_ GE137.out | refine eS ?_ GE151.out) | exact HB.out)) hb)
           clear hb ho44
           obtain ⟨Ao45, co45, eo45⟩ := Kd.R_slice HO145.out
           (first | subst eo45 | (injection eo45 with f1_ f2_ f3_; have f4_ := f1_.symm; have f5_ := f3_.symm; clear f1_ f2_ f3_; subst f4_; subst f5_))
           refine hK.out _ _ ⟨(blk_cell BK137.out 0).trans rfl, (blk_cell BK137.out 1).trans rfl⟩ (fun hHeld => ?_)
           clear hK K
           refine norm_ (a' := ?_) ?_ ?_
           rotate_left
           ·show Act.put _ (some 21) _ = _
            simp only [Act.put, sA, sB, sC, i64_w, i32_w]
            rfl
           refine pure_ (i := 4) (N := some 22) (v := ?_) (a' := ?_) #[true, true, false, true, true, false, true, false] rfl rfl (any_of HT_.out (by kernel_rfl)) (fun _ _ _ h => h) (Or.inl ⟨by rfl, ?_⟩) ?_ ?_
           rotate_left
           ·intro w'
            go_simp
            with_reducible rfl
           rotate_left
           ·simp only [Act.put, sA, sB, sC, i64_w, i32_w]
            rfl
           exact norm_ (by simp only [putAll, Act.put, sA, sB, sC] <;> rfl) (hJ3_6 (.slice Ao45 y143.length co45, gb151) _ ⟨hHeld, (by (with_reducible repeat (first | apply rA | apply rN | apply rD)); exact Kd.R_mono HO119.out (fun _ hk => ⟨hk.1.1, ⟨hk.1.2, hk.2⟩⟩)), (by (with_reducible repeat (first | apply rA | apply rN | apply rD)); exact HO122.out), (by (with_reducible repeat (first | apply rA | apply rN | apply rD)); exact Kd.R_mono HO127.out (fun _ hk => ⟨hk.1.1, ⟨hk.1.2, hk.2⟩⟩)), (by (with_reducible repeat (first | apply rA | apply rN | apply rD)); exact HO131.out), (by (with_reducible repeat (first | apply rA | apply rN | apply rD)); exact Kd.R_mono HO136.out (fun _ hk => ⟨hk.1.1, ⟨hk.1.2, hk.2⟩⟩)), (by (with_reducible repeat (first | apply rA | apply rN | apply rD)); exact Kd.R_mono HO145.out (fun _ hk => ⟨hk.1.1.2, ⟨hk.1.2, hk.2⟩⟩)), (by (with_reducible repeat (first | apply bA | apply bN | apply bD)); exact BK114.out), (by (with_reducible repeat (first | apply bA | apply bN | apply bD)); exact BK128.out), (by (with_reducible repeat (first | apply bA | apply bN | apply bD)); exact BK137.out), (by (with_reducible repeat (first | apply bA | apply bN | apply bD)); exact BK151.out), GW151.out, GE151.out, NB114_151.out, NB151_114.out, NB128_151.out, NB151_128.out, NB137_151.out, NB151_137.out, (by repeat (first | (with_reducible first | exact HB.out | apply eA | apply eN | apply eD | refine eS ?_ GE114.out | refine eS ?_ GE128.out | refine eS ?_ GE137.out | refine eS ?_ GE151.out) | exact HB.out))⟩)
        ·skip
         rintro v144 w44 ⟨hS_, h0_, h1_, h2_, h3_, h4_, h5_, h6_, h7_, h8_, h9_⟩
         have n0_ : Aside0 (Kd.R Kd.string 9 w44 w.heap.size (fun k_ => some k_ ≠ (.slice Ao24 t125.length co24 : Value).ownBlock ∧ some k_ ≠ (.slice Ao34 t134.length co34 : Value).ownBlock ∧ some k_ ≠ (v144 : Value).ownBlock) v118 t117) := ⟨h0_⟩
         have n1_ : Aside0 (Kd.R (Kd.int .i64) 2 w44 w.heap.size (fun k_ => some k_ ≠ (.slice Ao31 y129.length co31 : Value).ownBlock) (.slice Ao21 y120.length co21) y120) := ⟨h1_⟩
         have n2_ : Aside0 (Kd.R Kd.string 9 w44 w.heap.size (fun k_ => some k_ ≠ (v118 : Value).ownBlock ∧ some k_ ≠ (.slice Ao34 t134.length co34 : Value).ownBlock ∧ some k_ ≠ (v144 : Value).ownBlock) (.slice Ao24 t125.length co24) t125) := ⟨h2_⟩
         have n3_ : Aside0 (Kd.R (Kd.int .i64) 2 w44 w.heap.size (fun k_ => some k_ ≠ (.slice Ao21 y120.length co21 : Value).ownBlock) (.slice Ao31 y129.length co31) y129) := ⟨h3_⟩
         have n4_ : Aside0 (Kd.R Kd.string 9 w44 w.heap.size (fun k_ => some k_ ≠ (v118 : Value).ownBlock ∧ some k_ ≠ (.slice Ao24 t125.length co24 : Value).ownBlock ∧ some k_ ≠ (v144 : Value).ownBlock) (.slice Ao34 t134.length co34) t134) := ⟨h4_⟩
         have n5_ : Aside0 (Kd.R Kd.string 9 w44 w.heap.size (fun k_ => some k_ ≠ (v118 : Value).ownBlock ∧ some k_ ≠ (.slice Ao24 t125.length co24 : Value).ownBlock ∧ some k_ ≠ (.slice Ao34 t134.length co34 : Value).ownBlock) v144 y143) := ⟨h5_⟩
         have n6_ : Aside0 (w44.heap[gb114]? = some (.cells #[.int .i64 2, .int .i64 0] 23 (0, 0))) := ⟨h6_⟩
         have n7_ : Aside0 (w44.heap[gb128]? = some (.cells #[.int .u64 t132, .int .i64 t133, .slice Ao34 t134.length co34] 33 (0, 0))) := ⟨h7_⟩
         have n8_ : Aside0 (w44.heap[gb137]? = some (.cells #[.int .i64 5, .int .i64 0] 23 (0, 0))) := ⟨h8_⟩
         have n9_ : Aside0 (Below w.heap.size w w44) := ⟨h9_⟩
         clear HO119
         clear HO122
         clear HO127
         clear HO131
         clear HO136
         clear BK114
         clear BK128
         clear BK137
         clear HB
         clear h0_ h1_ h2_ h3_ h4_ h5_ h6_ h7_ h8_ h9_
         have HO119 := n0_
         have HO122 := n1_
         have HO127 := n2_
         have HO131 := n3_
         have HO136 := n4_
         have HO145 := n5_
         have BK114 := n6_
         have BK128 := n7_
         have BK137 := n8_
         have HB := n9_
         clear n0_ n1_ n2_ n3_ n4_ n5_ n6_ n7_ n8_ n9_
         have hHeld : w44.cell? ⟨gb137, 0, none⟩ = some (.int .i64 5) ∧ w44.cell? ⟨gb137, 1, none⟩ = some (.int .i64 0) := hS_
         obtain ⟨Ao45, co45, eo45⟩ := Kd.R_slice HO145.out
         (first | subst eo45 | (injection eo45 with f1_ f2_ f3_; have f4_ := f1_.symm; have f5_ := f3_.symm; clear f1_ f2_ f3_; subst f4_; subst f5_))
         refine norm_ (a' := ?_) ?_ ?_
         rotate_left
         ·simp only [putAll, Act.put, sA, sB, sC]
          rfl
         refine two_ (i := 2) (j := 6) (Ni := some 20) (Nj := some 4) #[true, true, true, true, true, false, false, false] #[true, true, false, true, true, false, true, false] rfl rfl rfl rfl (two_of HT_.out (by kernel_rfl)) (by decide) (by decide) (fun K hK => ?_) (fun K hK => ?_)
         ·skip
          refine goes_ Try.func11 (by kernel_rfl) rfl #[.agg #[.int .i64 5, .int .i64 0]] (by rfl) rfl rfl (by (try simp only [List.map_toArray, List.map_cons, List.map_nil]); first | done | rfl | (simp only [List.length_drop, List.length_take]; rfl)) ?_
          with_reducible refine (agg_Start.calls 5 0 t138 t139 t140 _ A4.out).mono ?_
          rintro e w46 ⟨v141, rfl, ho0, hb⟩
          refine ⟨_, rfl, ?_⟩
          have HO142 := aMk (Kd.R_lower (Kd.R_new' (Kd.R_new' (Kd.R_new' (Kd.R_new' ho0 (Kd.R_lt (by (with_reducible repeat (first | apply rA | apply rN | apply rD)); exact HO119.out))) (Kd.R_lt (by (with_reducible repeat (first | apply rA | apply rN | apply rD)); exact HO127.out))) (Kd.R_lt (by (with_reducible repeat (first | apply rA | apply rN | apply rD)); exact HO136.out))) (Kd.R_lt (by (with_reducible repeat (first | apply rA | apply rN | apply rD)); exact HO145.out))) (below_size (by repeat (first | (with_reducible first | exact HB.out | apply eA | apply eN | apply eD | refine eS ?_ GE114.out | refine eS ?_ GE128.out | refine eS ?_ GE137.out) | exact HB.out))))
          replace HO119 := aMk (Kd.R_elder' (by (with_reducible repeat (first | apply rA | apply rN | apply rD)); exact HO119.out) (Kd.R_base ho0) hb)
          replace HO122 := aMk (Kd.R_below (by (with_reducible repeat (first | apply rA | apply rN | apply rD)); exact HO122.out) hb)
          replace HO127 := aMk (Kd.R_elder' (by (with_reducible repeat (first | apply rA | apply rN | apply rD)); exact HO127.out) (Kd.R_base ho0) hb)
          replace HO131 := aMk (Kd.R_below (by (with_reducible repeat (first | apply rA | apply rN | apply rD)); exact HO131.out) hb)
          replace HO136 := aMk (Kd.R_elder' (by (with_reducible repeat (first | apply rA | apply rN | apply rD)); exact HO136.out) (Kd.R_base ho0) hb)
          replace HO145 := aMk (Kd.R_elder' (by (with_reducible repeat (first | apply rA | apply rN | apply rD)); exact HO145.out) (Kd.R_base ho0) hb)
          replace BK114 := aMk (blk_below (g := gb114) (o := .cells #[.int .i64 2, .int .i64 0] 23 (0, 0)) (by (with_reducible repeat (first | apply bA | apply bN | apply bD)); exact BK114.out) hb)
          replace BK128 := aMk (blk_below (g := gb128) (o := .cells #[.int .u64 t132, .int .i64 t133, .slice Ao34 t134.length co34] 33 (0, 0)) (by (with_reducible repeat (first | apply bA | apply bN | apply bD)); exact BK128.out) hb)
          replace BK137 := aMk (blk_below (g := gb137) (o := .cells #[.int .i64 5, .int .i64 0] 23 (0, 0)) (by (with_reducible repeat (first | apply bA | apply bN | apply bD)); exact BK137.out) hb)
          replace HB := aMk (below_step (by repeat (first | (with_reducible first | exact HB.out | apply eA | apply eN | apply eD | refine eS ?_ GE114.out | refine eS ?_ GE128.out | refine eS ?_ GE137.out) | exact HB.out)) hb)
          (try clear hb)
          (try clear ho0)
          refine hK.out _ _ ⟨(blk_cell BK137.out 0).trans rfl, (blk_cell BK137.out 1).trans rfl⟩ (fun hHeld => ?_)
          clear hK K
          refine norm_ (a' := ?_) ?_ ?_
          rotate_left
          ·show Act.put _ (some 20) _ = _
           simp only [Act.put, sA, sB, sC, i64_w, i32_w]
           rfl
          exact norm_ (by simp only [putAll, Act.put, sA, sB, sC] <;> rfl) (hJ2_3 (v141, .slice Ao45 y143.length co45) _ ⟨hHeld, (by (with_reducible repeat (first | apply rA | apply rN | apply rD)); exact Kd.R_mono HO119.out (fun _ hk => ⟨hk.1.1, ⟨hk.1.2.1, ⟨hk.2, hk.1.2.2⟩⟩⟩)), (by (with_reducible repeat (first | apply rA | apply rN | apply rD)); exact HO122.out), (by (with_reducible repeat (first | apply rA | apply rN | apply rD)); exact Kd.R_mono HO127.out (fun _ hk => ⟨hk.1.1, ⟨hk.1.2.1, ⟨hk.2, hk.1.2.2⟩⟩⟩)), (by (with_reducible repeat (first | apply rA | apply rN | apply rD)); exact HO131.out), (by (with_reducible repeat (first | apply rA | apply rN | apply rD)); exact Kd.R_mono HO136.out (fun _ hk => ⟨hk.1.1, ⟨hk.1.2.1, ⟨hk.2, hk.1.2.2⟩⟩⟩)), (by (with_reducible repeat (first | apply rA | apply rN | apply rD)); exact Kd.R_mono HO142.out (fun _ hk => ⟨hk.1.1.1.2, ⟨hk.1.1.2, ⟨hk.1.2, hk.2⟩⟩⟩)), (by (with_reducible repeat (first | apply rA | apply rN | apply rD)); exact Kd.R_mono HO145.out (fun _ hk => ⟨hk.1.1, ⟨hk.1.2.1, ⟨hk.1.2.2, hk.2⟩⟩⟩)), (by (with_reducible repeat (first | apply bA | apply bN | apply bD)); exact BK114.out), (by (with_reducible repeat (first | apply bA | apply bN | apply bD)); exact BK128.out), (by (with_reducible repeat (first | apply bA | apply bN | apply bD)); exact BK137.out), (by repeat (first | (with_reducible first | exact HB.out | apply eA | apply eN | apply eD | refine eS ?_ GE114.out | refine eS ?_ GE128.out | refine eS ?_ GE137.out) | exact HB.out))⟩)
         ·skip
          refine box_step ?hg (N := 4) ?hd (cs := #[.int .u64 0, .int .i64 0, .slice none 0 0]) (t := 33) ?hr ?_; (case hd => rfl); (case hg => rfl); (case hr => first | (go_simp; done) | (go_simp; rfl))
          intro gb151 hg w46 hbox hb
          have BK151 := aMk (hbox)
          have GW151 := aMk ((by rw [hg]; exact (below_size (by repeat (first | (with_reducible first | exact HB.out | apply eA | apply eN | apply eD | refine eS ?_ GE114.out | refine eS ?_ GE128.out | refine eS ?_ GE137.out) | exact HB.out))) : w.heap.size ≤ gb151))
          have GE151 := GW151
          have NB114_151 := aMk ((by rw [hg]; exact Nat.ne_of_lt (blk_lt (g := gb114) (o := .cells #[.int .i64 2, .int .i64 0] 23 (0, 0)) (by (with_reducible repeat (first | apply bA | apply bN | apply bD)); exact BK114.out)) : gb114 ≠ gb151))
          have NB151_114 := aMk (Ne.symm NB114_151.out)
          have NB128_151 := aMk ((by rw [hg]; exact Nat.ne_of_lt (blk_lt (g := gb128) (o := .cells #[.int .u64 t132, .int .i64 t133, .slice Ao34 t134.length co34] 33 (0, 0)) (by (with_reducible repeat (first | apply bA | apply bN | apply bD)); exact BK128.out)) : gb128 ≠ gb151))
          have NB151_128 := aMk (Ne.symm NB128_151.out)
          have NB137_151 := aMk ((by rw [hg]; exact Nat.ne_of_lt (blk_lt (g := gb137) (o := .cells #[.int .i64 5, .int .i64 0] 23 (0, 0)) (by (with_reducible repeat (first | apply bA | apply bN | apply bD)); exact BK137.out)) : gb137 ≠ gb151))
          have NB151_137 := aMk (Ne.symm NB137_151.out)
          replace HO119 := aMk (Kd.R_below (by (with_reducible repeat (first | apply rA | apply rN | apply rD)); exact HO119.out) hb)
          replace HO122 := aMk (Kd.R_below (by (with_reducible repeat (first | apply rA | apply rN | apply rD)); exact HO122.out) hb)
          replace HO127 := aMk (Kd.R_below (by (with_reducible repeat (first | apply rA | apply rN | apply rD)); exact HO127.out) hb)
          replace HO131 := aMk (Kd.R_below (by (with_reducible repeat (first | apply rA | apply rN | apply rD)); exact HO131.out) hb)
          replace HO136 := aMk (Kd.R_below (by (with_reducible repeat (first | apply rA | apply rN | apply rD)); exact HO136.out) hb)
          replace HO145 := aMk (Kd.R_below (by (with_reducible repeat (first | apply rA | apply rN | apply rD)); exact HO145.out) hb)
          replace BK114 := aMk (blk_below (g := gb114) (o := .cells #[.int .i64 2, .int .i64 0] 23 (0, 0)) (by (with_reducible repeat (first | apply bA | apply bN | apply bD)); exact BK114.out) hb)
          replace BK128 := aMk (blk_below (g := gb128) (o := .cells #[.int .u64 t132, .int .i64 t133, .slice Ao34 t134.length co34] 33 (0, 0)) (by (with_reducible repeat (first | apply bA | apply bN | apply bD)); exact BK128.out) hb)
          replace BK137 := aMk (blk_below (g := gb137) (o := .cells #[.int .i64 5, .int .i64 0] 23 (0, 0)) (by (with_reducible repeat (first | apply bA | apply bN | apply bD)); exact BK137.out) hb)
          replace HB := aMk (below_step (by repeat (first | (with_reducible first | exact HB.out | apply eA | apply eN | apply eD | refine eS ?_ GE114.out | refine eS ?_ GE128.out | refine eS ?_ GE137.out) | exact HB.out)) hb)
          clear hb hbox hg
          refine hK.out _ _ ⟨(blk_cell BK137.out 0).trans rfl, (blk_cell BK137.out 1).trans rfl⟩ (fun hHeld => ?_)
          clear hK K
          refine norm_ (a' := ?_) ?_ ?_
          rotate_left
          ·show Act.put _ (some 4) _ = _
           simp only [Act.put, sA, sB, sC, i64_w, i32_w]
           rfl
          exact norm_ (by simp only [putAll, Act.put, sA, sB, sC] <;> rfl) (hJ3_6 (.slice Ao45 y143.length co45, gb151) _ ⟨hHeld, (by (with_reducible repeat (first | apply rA | apply rN | apply rD)); exact HO119.out), (by (with_reducible repeat (first | apply rA | apply rN | apply rD)); exact HO122.out), (by (with_reducible repeat (first | apply rA | apply rN | apply rD)); exact HO127.out), (by (with_reducible repeat (first | apply rA | apply rN | apply rD)); exact HO131.out), (by (with_reducible repeat (first | apply rA | apply rN | apply rD)); exact HO136.out), (by (with_reducible repeat (first | apply rA | apply rN | apply rD)); exact HO145.out), (by (with_reducible repeat (first | apply bA | apply bN | apply bD)); exact BK114.out), (by (with_reducible repeat (first | apply bA | apply bN | apply bD)); exact BK128.out), (by (with_reducible repeat (first | apply bA | apply bN | apply bD)); exact BK137.out), (by (with_reducible repeat (first | apply bA | apply bN | apply bD)); exact BK151.out), GW151.out, GE151.out, NB114_151.out, NB151_114.out, NB128_151.out, NB151_128.out, NB137_151.out, NB151_137.out, (by repeat (first | (with_reducible first | exact HB.out | apply eA | apply eN | apply eD | refine eS ?_ GE114.out | refine eS ?_ GE128.out | refine eS ?_ GE137.out | refine eS ?_ GE151.out) | exact HB.out))⟩)
       ·skip
        rintro v141 w42 ⟨hS_, h0_, h1_, h2_, h3_, h4_, h5_, h6_, h7_, h8_, h9_⟩
        have n0_ : Aside0 (Kd.R Kd.string 9 w42 w.heap.size (fun k_ => some k_ ≠ (.slice Ao24 t125.length co24 : Value).ownBlock ∧ some k_ ≠ (.slice Ao34 t134.length co34 : Value).ownBlock ∧ some k_ ≠ (v141 : Value).ownBlock) v118 t117) := ⟨h0_⟩
        have n1_ : Aside0 (Kd.R (Kd.int .i64) 2 w42 w.heap.size (fun k_ => some k_ ≠ (.slice Ao31 y129.length co31 : Value).ownBlock) (.slice Ao21 y120.length co21) y120) := ⟨h1_⟩
        have n2_ : Aside0 (Kd.R Kd.string 9 w42 w.heap.size (fun k_ => some k_ ≠ (v118 : Value).ownBlock ∧ some k_ ≠ (.slice Ao34 t134.length co34 : Value).ownBlock ∧ some k_ ≠ (v141 : Value).ownBlock) (.slice Ao24 t125.length co24) t125) := ⟨h2_⟩
        have n3_ : Aside0 (Kd.R (Kd.int .i64) 2 w42 w.heap.size (fun k_ => some k_ ≠ (.slice Ao21 y120.length co21 : Value).ownBlock) (.slice Ao31 y129.length co31) y129) := ⟨h3_⟩
        have n4_ : Aside0 (Kd.R Kd.string 9 w42 w.heap.size (fun k_ => some k_ ≠ (v118 : Value).ownBlock ∧ some k_ ≠ (.slice Ao24 t125.length co24 : Value).ownBlock ∧ some k_ ≠ (v141 : Value).ownBlock) (.slice Ao34 t134.length co34) t134) := ⟨h4_⟩
        have n5_ : Aside0 (Kd.R Kd.string 9 w42 w.heap.size (fun k_ => some k_ ≠ (v118 : Value).ownBlock ∧ some k_ ≠ (.slice Ao24 t125.length co24 : Value).ownBlock ∧ some k_ ≠ (.slice Ao34 t134.length co34 : Value).ownBlock) v141 t140) := ⟨h5_⟩
        have n6_ : Aside0 (w42.heap[gb114]? = some (.cells #[.int .i64 2, .int .i64 0] 23 (0, 0))) := ⟨h6_⟩
        have n7_ : Aside0 (w42.heap[gb128]? = some (.cells #[.int .u64 t132, .int .i64 t133, .slice Ao34 t134.length co34] 33 (0, 0))) := ⟨h7_⟩
        have n8_ : Aside0 (w42.heap[gb137]? = some (.cells #[.int .i64 5, .int .i64 0] 23 (0, 0))) := ⟨h8_⟩
        have n9_ : Aside0 (Below w.heap.size w w42) := ⟨h9_⟩
        clear HO119
        clear HO122
        clear HO127
        clear HO131
        clear HO136
        clear BK114
        clear BK128
        clear BK137
        clear HB
        clear h0_ h1_ h2_ h3_ h4_ h5_ h6_ h7_ h8_ h9_
        have HO119 := n0_
        have HO122 := n1_
        have HO127 := n2_
        have HO131 := n3_
        have HO136 := n4_
        have HO142 := n5_
        have BK114 := n6_
        have BK128 := n7_
        have BK137 := n8_
        have HB := n9_
        clear n0_ n1_ n2_ n3_ n4_ n5_ n6_ n7_ n8_ n9_
        have hHeld : w42.cell? ⟨gb137, 0, none⟩ = some (.int .i64 5) ∧ w42.cell? ⟨gb137, 1, none⟩ = some (.int .i64 0) := hS_
        refine norm_ (a' := ?_) ?_ ?_
        rotate_left
        ·simp only [putAll, Act.put, sA, sB, sC]
         rfl
        refine two_ (i := 3) (j := 6) (Ni := some 21) (Nj := some 4) #[true, true, true, true, false, false, false, false] #[true, true, true, false, false, false, true, false] rfl rfl rfl rfl (two_of HT_.out (by kernel_rfl)) (by decide) (by decide) (fun K hK => ?_) (fun K hK => ?_)
        ·skip
         refine Kd.R_lit_step Kd.string _ 9 ?hg (N := 21) ?hd (xs := ([(⟨#[98]⟩ : ByteArray)] : List ByteArray)) (inner := [.string (⟨#[98]⟩ : ByteArray)]) (ok := fun _ => True) (okp := fun _ => True) ?hr ?hp (fun _ hk => hk) trivial (Below.refl _ _) (Nat.le_refl _) (by simp) ?_; (case hd => rfl); (case hg => rfl); (case hr => first | (go_simp; done) | (go_simp; rfl)); (case hp => exact (Reps.one (show Kd.M Kd.string _ _ _ (⟨#[98]⟩ : ByteArray) [.string (⟨#[98]⟩ : ByteArray)] from rfl) (Reps.none _ _)))
         intro v144 w43 ho44 hb hg_ hnew_
         clear hg_ hnew_
         (first | rw [← Ny143.out] at ho44 | (simp only [Int.reduceToNat] at ho44; rw [← Ny143.out] at ho44))
         have HO145 := aMk (Kd.R_lower (Kd.R_new' (Kd.R_new' (Kd.R_new' (Kd.R_new' ho44 (Kd.R_lt (by (with_reducible repeat (first | apply rA | apply rN | apply rD)); exact HO119.out))) (Kd.R_lt (by (with_reducible repeat (first | apply rA | apply rN | apply rD)); exact HO127.out))) (Kd.R_lt (by (with_reducible repeat (first | apply rA | apply rN | apply rD)); exact HO136.out))) (Kd.R_lt (by (with_reducible repeat (first | apply rA | apply rN | apply rD)); exact HO142.out))) (below_size (by repeat (first | (with_reducible first | exact HB.out | apply eA | apply eN | apply eD | refine eS ?_ GE114.out | refine eS ?_ GE128.out | refine eS ?_ GE137.out) | exact HB.out))))
         replace HO119 := aMk (Kd.R_elder' (by (with_reducible repeat (first | apply rA | apply rN | apply rD)); exact HO119.out) (Kd.R_base ho44) hb)
         replace HO122 := aMk (Kd.R_below (by (with_reducible repeat (first | apply rA | apply rN | apply rD)); exact HO122.out) hb)
         replace HO127 := aMk (Kd.R_elder' (by (with_reducible repeat (first | apply rA | apply rN | apply rD)); exact HO127.out) (Kd.R_base ho44) hb)
         replace HO131 := aMk (Kd.R_below (by (with_reducible repeat (first | apply rA | apply rN | apply rD)); exact HO131.out) hb)
         replace HO136 := aMk (Kd.R_elder' (by (with_reducible repeat (first | apply rA | apply rN | apply rD)); exact HO136.out) (Kd.R_base ho44) hb)
         replace HO142 := aMk (Kd.R_elder' (by (with_reducible repeat (first | apply rA | apply rN | apply rD)); exact HO142.out) (Kd.R_base ho44) hb)
         replace BK114 := aMk (blk_below (g := gb114) (o := .cells #[.int .i64 2, .int .i64 0] 23 (0, 0)) (by (with_reducible repeat (first | apply bA | apply bN | apply bD)); exact BK114.out) hb)
         replace BK128 := aMk (blk_below (g := gb128) (o := .cells #[.int .u64 t132, .int .i64 t133, .slice Ao34 t134.length co34] 33 (0, 0)) (by (with_reducible repeat (first | apply bA | apply bN | apply bD)); exact BK128.out) hb)
         replace BK137 := aMk (blk_below (g := gb137) (o := .cells #[.int .i64 5, .int .i64 0] 23 (0, 0)) (by (with_reducible repeat (first | apply bA | apply bN | apply bD)); exact BK137.out) hb)
         replace HB := aMk (below_step (by repeat (first | (with_reducible first | exact HB.out | apply eA | apply eN | apply eD | refine eS ?_ GE114.out | refine eS ?_ GE128.out | refine eS ?_ GE137.out) | exact HB.out)) hb)
         clear hb ho44
         obtain ⟨Ao45, co45, eo45⟩ := Kd.R_slice HO145.out
         (first | subst eo45 | (injection eo45 with f1_ f2_ f3_; have f4_ := f1_.symm; have f5_ := f3_.symm; clear f1_ f2_ f3_; subst f4_; subst f5_))
         refine hK.out _ _ ⟨(blk_cell BK137.out 0).trans rfl, (blk_cell BK137.out 1).trans rfl⟩ (fun hHeld => ?_)
         clear hK K
         refine norm_ (a' := ?_) ?_ ?_
         rotate_left
         ·show Act.put _ (some 21) _ = _
          simp only [Act.put, sA, sB, sC, i64_w, i32_w]
          rfl
         refine pure_ (i := 4) (N := some 22) (v := ?_) (a' := ?_) #[true, true, true, true, true, false, false, false] rfl rfl (any_of HT_.out (by kernel_rfl)) (fun _ _ _ h => h) (Or.inl ⟨by rfl, ?_⟩) ?_ ?_
         rotate_left
         ·intro w'
          go_simp
          with_reducible rfl
         rotate_left
         ·simp only [Act.put, sA, sB, sC, i64_w, i32_w]
          rfl
         exact norm_ (by simp only [putAll, Act.put, sA, sB, sC] <;> rfl) (hJ2_3 (v141, .slice Ao45 y143.length co45) _ ⟨hHeld, (by (with_reducible repeat (first | apply rA | apply rN | apply rD)); exact Kd.R_mono HO119.out (fun _ hk => ⟨hk.1.1, ⟨hk.1.2.1, ⟨hk.1.2.2, hk.2⟩⟩⟩)), (by (with_reducible repeat (first | apply rA | apply rN | apply rD)); exact HO122.out), (by (with_reducible repeat (first | apply rA | apply rN | apply rD)); exact Kd.R_mono HO127.out (fun _ hk => ⟨hk.1.1, ⟨hk.1.2.1, ⟨hk.1.2.2, hk.2⟩⟩⟩)), (by (with_reducible repeat (first | apply rA | apply rN | apply rD)); exact HO131.out), (by (with_reducible repeat (first | apply rA | apply rN | apply rD)); exact Kd.R_mono HO136.out (fun _ hk => ⟨hk.1.1, ⟨hk.1.2.1, ⟨hk.1.2.2, hk.2⟩⟩⟩)), (by (with_reducible repeat (first | apply rA | apply rN | apply rD)); exact Kd.R_mono HO142.out (fun _ hk => ⟨hk.1.1, ⟨hk.1.2.1, ⟨hk.1.2.2, hk.2⟩⟩⟩)), (by (with_reducible repeat (first | apply rA | apply rN | apply rD)); exact Kd.R_mono HO145.out (fun _ hk => ⟨hk.1.1.1.2, ⟨hk.1.1.2, ⟨hk.1.2, hk.2⟩⟩⟩)), (by (with_reducible repeat (first | apply bA | apply bN | apply bD)); exact BK114.out), (by (with_reducible repeat (first | apply bA | apply bN | apply bD)); exact BK128.out), (by (with_reducible repeat (first | apply bA | apply bN | apply bD)); exact BK137.out), (by repeat (first | (with_reducible first | exact HB.out | apply eA | apply eN | apply eD | refine eS ?_ GE114.out | refine eS ?_ GE128.out | refine eS ?_ GE137.out) | exact HB.out))⟩)
        ·skip
         refine box_step ?hg (N := 4) ?hd (cs := #[.int .u64 0, .int .i64 0, .slice none 0 0]) (t := 33) ?hr ?_; (case hd => rfl); (case hg => rfl); (case hr => first | (go_simp; done) | (go_simp; rfl))
         intro gb151 hg w43 hbox hb
         have BK151 := aMk (hbox)
         have GW151 := aMk ((by rw [hg]; exact (below_size (by repeat (first | (with_reducible first | exact HB.out | apply eA | apply eN | apply eD | refine eS ?_ GE114.out | refine eS ?_ GE128.out | refine eS ?_ GE137.out) | exact HB.out))) : w.heap.size ≤ gb151))
         have GE151 := GW151
         have NB114_151 := aMk ((by rw [hg]; exact Nat.ne_of_lt (blk_lt (g := gb114) (o := .cells #[.int .i64 2, .int .i64 0] 23 (0, 0)) (by (with_reducible repeat (first | apply bA | apply bN | apply bD)); exact BK114.out)) : gb114 ≠ gb151))
         have NB151_114 := aMk (Ne.symm NB114_151.out)
         have NB128_151 := aMk ((by rw [hg]; exact Nat.ne_of_lt (blk_lt (g := gb128) (o := .cells #[.int .u64 t132, .int .i64 t133, .slice Ao34 t134.length co34] 33 (0, 0)) (by (with_reducible repeat (first | apply bA | apply bN | apply bD)); exact BK128.out)) : gb128 ≠ gb151))
         have NB151_128 := aMk (Ne.symm NB128_151.out)
         have NB137_151 := aMk ((by rw [hg]; exact Nat.ne_of_lt (blk_lt (g := gb137) (o := .cells #[.int .i64 5, .int .i64 0] 23 (0, 0)) (by (with_reducible repeat (first | apply bA | apply bN | apply bD)); exact BK137.out)) : gb137 ≠ gb151))
         have NB151_137 := aMk (Ne.symm NB137_151.out)
         replace HO119 := aMk (Kd.R_below (by (with_reducible repeat (first | apply rA | apply rN | apply rD)); exact HO119.out) hb)
         replace HO122 := aMk (Kd.R_below (by (with_reducible repeat (first | apply rA | apply rN | apply rD)); exact HO122.out) hb)
         replace HO127 := aMk (Kd.R_below (by (with_reducible repeat (first | apply rA | apply rN | apply rD)); exact HO127.out) hb)
         replace HO131 := aMk (Kd.R_below (by (with_reducible repeat (first | apply rA | apply rN | apply rD)); exact HO131.out) hb)
         replace HO136 := aMk (Kd.R_below (by (with_reducible repeat (first | apply rA | apply rN | apply rD)); exact HO136.out) hb)
         replace HO142 := aMk (Kd.R_below (by (with_reducible repeat (first | apply rA | apply rN | apply rD)); exact HO142.out) hb)
         replace BK114 := aMk (blk_below (g := gb114) (o := .cells #[.int .i64 2, .int .i64 0] 23 (0, 0)) (by (with_reducible repeat (first | apply bA | apply bN | apply bD)); exact BK114.out) hb)
         replace BK128 := aMk (blk_below (g := gb128) (o := .cells #[.int .u64 t132, .int .i64 t133, .slice Ao34 t134.length co34] 33 (0, 0)) (by (with_reducible repeat (first | apply bA | apply bN | apply bD)); exact BK128.out) hb)
         replace BK137 := aMk (blk_below (g := gb137) (o := .cells #[.int .i64 5, .int .i64 0] 23 (0, 0)) (by (with_reducible repeat (first | apply bA | apply bN | apply bD)); exact BK137.out) hb)
         replace HB := aMk (below_step (by repeat (first | (with_reducible first | exact HB.out | apply eA | apply eN | apply eD | refine eS ?_ GE114.out | refine eS ?_ GE128.out | refine eS ?_ GE137.out) | exact HB.out)) hb)
         clear hb hbox hg
         refine hK.out _ _ ⟨(blk_cell BK137.out 0).trans rfl, (blk_cell BK137.out 1).trans rfl⟩ (fun hHeld => ?_)
         clear hK K
         refine norm_ (a' := ?_) ?_ ?_
         rotate_left
         ·show Act.put _ (some 4) _ = _
          simp only [Act.put, sA, sB, sC, i64_w, i32_w]
          rfl
         exact norm_ (by simp only [putAll, Act.put, sA, sB, sC] <;> rfl) (hJ2_6 (v141, gb151) _ ⟨hHeld, (by (with_reducible repeat (first | apply rA | apply rN | apply rD)); exact HO119.out), (by (with_reducible repeat (first | apply rA | apply rN | apply rD)); exact HO122.out), (by (with_reducible repeat (first | apply rA | apply rN | apply rD)); exact HO127.out), (by (with_reducible repeat (first | apply rA | apply rN | apply rD)); exact HO131.out), (by (with_reducible repeat (first | apply rA | apply rN | apply rD)); exact HO136.out), (by (with_reducible repeat (first | apply rA | apply rN | apply rD)); exact HO142.out), (by (with_reducible repeat (first | apply bA | apply bN | apply bD)); exact BK114.out), (by (with_reducible repeat (first | apply bA | apply bN | apply bD)); exact BK128.out), (by (with_reducible repeat (first | apply bA | apply bN | apply bD)); exact BK137.out), (by (with_reducible repeat (first | apply bA | apply bN | apply bD)); exact BK151.out), GW151.out, GE151.out, NB114_151.out, NB151_114.out, NB128_151.out, NB151_128.out, NB137_151.out, NB151_137.out, (by repeat (first | (with_reducible first | exact HB.out | apply eA | apply eN | apply eD | refine eS ?_ GE114.out | refine eS ?_ GE128.out | refine eS ?_ GE137.out | refine eS ?_ GE151.out) | exact HB.out))⟩)
      ·skip
       rintro ⟨v144, gb151⟩ w45 ⟨hS_, h0_, h1_, h2_, h3_, h4_, h5_, h6_, h7_, h8_, h9_, h10_, h11_, h12_, h13_, h14_, h15_, h16_, h17_, h18_⟩
       have n0_ : Aside0 (Kd.R Kd.string 9 w45 w.heap.size (fun k_ => some k_ ≠ (.slice Ao24 t125.length co24 : Value).ownBlock ∧ some k_ ≠ (.slice Ao34 t134.length co34 : Value).ownBlock ∧ some k_ ≠ (v144 : Value).ownBlock) v118 t117) := ⟨h0_⟩
       have n1_ : Aside0 (Kd.R (Kd.int .i64) 2 w45 w.heap.size (fun k_ => some k_ ≠ (.slice Ao31 y129.length co31 : Value).ownBlock) (.slice Ao21 y120.length co21) y120) := ⟨h1_⟩
       have n2_ : Aside0 (Kd.R Kd.string 9 w45 w.heap.size (fun k_ => some k_ ≠ (v118 : Value).ownBlock ∧ some k_ ≠ (.slice Ao34 t134.length co34 : Value).ownBlock ∧ some k_ ≠ (v144 : Value).ownBlock) (.slice Ao24 t125.length co24) t125) := ⟨h2_⟩
       have n3_ : Aside0 (Kd.R (Kd.int .i64) 2 w45 w.heap.size (fun k_ => some k_ ≠ (.slice Ao21 y120.length co21 : Value).ownBlock) (.slice Ao31 y129.length co31) y129) := ⟨h3_⟩
       have n4_ : Aside0 (Kd.R Kd.string 9 w45 w.heap.size (fun k_ => some k_ ≠ (v118 : Value).ownBlock ∧ some k_ ≠ (.slice Ao24 t125.length co24 : Value).ownBlock ∧ some k_ ≠ (v144 : Value).ownBlock) (.slice Ao34 t134.length co34) t134) := ⟨h4_⟩
       have n5_ : Aside0 (Kd.R Kd.string 9 w45 w.heap.size (fun k_ => some k_ ≠ (v118 : Value).ownBlock ∧ some k_ ≠ (.slice Ao24 t125.length co24 : Value).ownBlock ∧ some k_ ≠ (.slice Ao34 t134.length co34 : Value).ownBlock) v144 y143) := ⟨h5_⟩
       have n6_ : Aside0 (w45.heap[gb114]? = some (.cells #[.int .i64 2, .int .i64 0] 23 (0, 0))) := ⟨h6_⟩
       have n7_ : Aside0 (w45.heap[gb128]? = some (.cells #[.int .u64 t132, .int .i64 t133, .slice Ao34 t134.length co34] 33 (0, 0))) := ⟨h7_⟩
       have n8_ : Aside0 (w45.heap[gb137]? = some (.cells #[.int .i64 5, .int .i64 0] 23 (0, 0))) := ⟨h8_⟩
       have n9_ : Aside0 (w45.heap[gb151]? = some (.cells #[.int .u64 0, .int .i64 0, .slice none 0 0] 33 (0, 0))) := ⟨h9_⟩
       have n10_ : Aside0 (w.heap.size ≤ gb151) := ⟨h10_⟩
       have n11_ : Aside0 (w.heap.size ≤ gb151) := ⟨h11_⟩
       have n12_ : Aside0 (gb114 ≠ gb151) := ⟨h12_⟩
       have n13_ : Aside0 (gb151 ≠ gb114) := ⟨h13_⟩
       have n14_ : Aside0 (gb128 ≠ gb151) := ⟨h14_⟩
       have n15_ : Aside0 (gb151 ≠ gb128) := ⟨h15_⟩
       have n16_ : Aside0 (gb137 ≠ gb151) := ⟨h16_⟩
       have n17_ : Aside0 (gb151 ≠ gb137) := ⟨h17_⟩
       have n18_ : Aside0 (Below w.heap.size w w45) := ⟨h18_⟩
       clear HO119
       clear HO122
       clear HO127
       clear HO131
       clear HO136
       clear BK114
       clear BK128
       clear BK137
       clear HB
       clear h0_ h1_ h2_ h3_ h4_ h5_ h6_ h7_ h8_ h9_ h10_ h11_ h12_ h13_ h14_ h15_ h16_ h17_ h18_
       have HO119 := n0_
       have HO122 := n1_
       have HO127 := n2_
       have HO131 := n3_
       have HO136 := n4_
       have HO145 := n5_
       have BK114 := n6_
       have BK128 := n7_
       have BK137 := n8_
       have BK151 := n9_
       have GW151 := n10_
       have GE151 := n11_
       have NB114_151 := n12_
       have NB151_114 := n13_
       have NB128_151 := n14_
       have NB151_128 := n15_
       have NB137_151 := n16_
       have NB151_137 := n17_
       have HB := n18_
       clear n0_ n1_ n2_ n3_ n4_ n5_ n6_ n7_ n8_ n9_ n10_ n11_ n12_ n13_ n14_ n15_ n16_ n17_ n18_
       have hHeld : w45.cell? ⟨gb137, 0, none⟩ = some (.int .i64 5) ∧ w45.cell? ⟨gb137, 1, none⟩ = some (.int .i64 0) := hS_
       obtain ⟨Ao46, co46, eo46⟩ := Kd.R_slice HO145.out
       (first | subst eo46 | (injection eo46 with f1_ f2_ f3_; have f4_ := f1_.symm; have f5_ := f3_.symm; clear f1_ f2_ f3_; subst f4_; subst f5_))
       refine norm_ (a' := ?_) ?_ ?_
       rotate_left
       ·simp only [putAll, Act.put, sA, sB, sC]
        rfl
       refine one_ (i := 2) (N := some 20) #[true, true, true, true, true, false, true, false] rfl rfl (one_of HT_.out (by kernel_rfl)) (by decide) (fun K hK => ?_)
       refine goes_ Try.func11 (by kernel_rfl) rfl #[.agg #[.int .i64 5, .int .i64 0]] (by rfl) rfl rfl (by (try simp only [List.map_toArray, List.map_cons, List.map_nil]); first | done | rfl | (simp only [List.length_drop, List.length_take]; rfl)) ?_
       with_reducible refine (agg_Start.calls 5 0 t138 t139 t140 _ A4.out).mono ?_
       rintro e w47 ⟨v141, rfl, ho0, hb⟩
       refine ⟨_, rfl, ?_⟩
       have HO142 := aMk (Kd.R_lower (Kd.R_new' (Kd.R_new' (Kd.R_new' (Kd.R_new' ho0 (Kd.R_lt (by (with_reducible repeat (first | apply rA | apply rN | apply rD)); exact HO119.out))) (Kd.R_lt (by (with_reducible repeat (first | apply rA | apply rN | apply rD)); exact HO127.out))) (Kd.R_lt (by (with_reducible repeat (first | apply rA | apply rN | apply rD)); exact HO136.out))) (Kd.R_lt (by (with_reducible repeat (first | apply rA | apply rN | apply rD)); exact HO145.out))) (below_size (by repeat (first | (with_reducible first | exact HB.out | apply eA | apply eN | apply eD | refine eS ?_ GE114.out | refine eS ?_ GE128.out | refine eS ?_ GE137.out | refine eS ?_ GE151.out) | exact HB.out))))
       replace HO119 := aMk (Kd.R_elder' (by (with_reducible repeat (first | apply rA | apply rN | apply rD)); exact HO119.out) (Kd.R_base ho0) hb)
       replace HO122 := aMk (Kd.R_below (by (with_reducible repeat (first | apply rA | apply rN | apply rD)); exact HO122.out) hb)
       replace HO127 := aMk (Kd.R_elder' (by (with_reducible repeat (first | apply rA | apply rN | apply rD)); exact HO127.out) (Kd.R_base ho0) hb)
       replace HO131 := aMk (Kd.R_below (by (with_reducible repeat (first | apply rA | apply rN | apply rD)); exact HO131.out) hb)
       replace HO136 := aMk (Kd.R_elder' (by (with_reducible repeat (first | apply rA | apply rN | apply rD)); exact HO136.out) (Kd.R_base ho0) hb)
       replace HO145 := aMk (Kd.R_elder' (by (with_reducible repeat (first | apply rA | apply rN | apply rD)); exact HO145.out) (Kd.R_base ho0) hb)
       replace BK114 := aMk (blk_below (g := gb114) (o := .cells #[.int .i64 2, .int .i64 0] 23 (0, 0)) (by (with_reducible repeat (first | apply bA | apply bN | apply bD)); exact BK114.out) hb)
       replace BK128 := aMk (blk_below (g := gb128) (o := .cells #[.int .u64 t132, .int .i64 t133, .slice Ao34 t134.length co34] 33 (0, 0)) (by (with_reducible repeat (first | apply bA | apply bN | apply bD)); exact BK128.out) hb)
       replace BK137 := aMk (blk_below (g := gb137) (o := .cells #[.int .i64 5, .int .i64 0] 23 (0, 0)) (by (with_reducible repeat (first | apply bA | apply bN | apply bD)); exact BK137.out) hb)
       replace BK151 := aMk (blk_below (g := gb151) (o := .cells #[.int .u64 0, .int .i64 0, .slice none 0 0] 33 (0, 0)) (by (with_reducible repeat (first | apply bA | apply bN | apply bD)); exact BK151.out) hb)
       replace HB := aMk (below_step (by repeat (first | (with_reducible first | exact HB.out | apply eA | apply eN | apply eD | refine eS ?_ GE114.out | refine eS ?_ GE128.out | refine eS ?_ GE137.out | refine eS ?_ GE151.out) | exact HB.out)) hb)
       (try clear hb)
       (try clear ho0)
       refine hK.out _ _ ⟨(blk_cell BK137.out 0).trans rfl, (blk_cell BK137.out 1).trans rfl⟩ (fun hHeld => ?_)
       clear hK K
       refine norm_ (a' := ?_) ?_ ?_
       rotate_left
       ·show Act.put _ (some 20) _ = _
        simp only [Act.put, sA, sB, sC, i64_w, i32_w]
        rfl
       exact norm_ (by simp only [putAll, Act.put, sA, sB, sC] <;> rfl) (hJ2_3_6 (v141, .slice Ao46 y143.length co46, gb151) _ ⟨hHeld, (by (with_reducible repeat (first | apply rA | apply rN | apply rD)); exact Kd.R_mono HO119.out (fun _ hk => ⟨hk.1.1, ⟨hk.1.2.1, ⟨hk.2, hk.1.2.2⟩⟩⟩)), (by (with_reducible repeat (first | apply rA | apply rN | apply rD)); exact HO122.out), (by (with_reducible repeat (first | apply rA | apply rN | apply rD)); exact Kd.R_mono HO127.out (fun _ hk => ⟨hk.1.1, ⟨hk.1.2.1, ⟨hk.2, hk.1.2.2⟩⟩⟩)), (by (with_reducible repeat (first | apply rA | apply rN | apply rD)); exact HO131.out), (by (with_reducible repeat (first | apply rA | apply rN | apply rD)); exact Kd.R_mono HO136.out (fun _ hk => ⟨hk.1.1, ⟨hk.1.2.1, ⟨hk.2, hk.1.2.2⟩⟩⟩)), (by (with_reducible repeat (first | apply rA | apply rN | apply rD)); exact Kd.R_mono HO142.out (fun _ hk => ⟨hk.1.1.1.2, ⟨hk.1.1.2, ⟨hk.1.2, hk.2⟩⟩⟩)), (by (with_reducible repeat (first | apply rA | apply rN | apply rD)); exact Kd.R_mono HO145.out (fun _ hk => ⟨hk.1.1, ⟨hk.1.2.1, ⟨hk.1.2.2, hk.2⟩⟩⟩)), (by (with_reducible repeat (first | apply bA | apply bN | apply bD)); exact BK114.out), (by (with_reducible repeat (first | apply bA | apply bN | apply bD)); exact BK128.out), (by (with_reducible repeat (first | apply bA | apply bN | apply bD)); exact BK137.out), (by (with_reducible repeat (first | apply bA | apply bN | apply bD)); exact BK151.out), GW151.out, GE151.out, NB114_151.out, NB151_114.out, NB128_151.out, NB151_128.out, NB137_151.out, NB151_137.out, (by repeat (first | (with_reducible first | exact HB.out | apply eA | apply eN | apply eD | refine eS ?_ GE114.out | refine eS ?_ GE128.out | refine eS ?_ GE137.out | refine eS ?_ GE151.out) | exact HB.out))⟩)
     ·skip
      rintro ⟨v141, gb151⟩ w43 ⟨hS_, h0_, h1_, h2_, h3_, h4_, h5_, h6_, h7_, h8_, h9_, h10_, h11_, h12_, h13_, h14_, h15_, h16_, h17_, h18_⟩
      have n0_ : Aside0 (Kd.R Kd.string 9 w43 w.heap.size (fun k_ => some k_ ≠ (.slice Ao24 t125.length co24 : Value).ownBlock ∧ some k_ ≠ (.slice Ao34 t134.length co34 : Value).ownBlock ∧ some k_ ≠ (v141 : Value).ownBlock) v118 t117) := ⟨h0_⟩
      have n1_ : Aside0 (Kd.R (Kd.int .i64) 2 w43 w.heap.size (fun k_ => some k_ ≠ (.slice Ao31 y129.length co31 : Value).ownBlock) (.slice Ao21 y120.length co21) y120) := ⟨h1_⟩
      have n2_ : Aside0 (Kd.R Kd.string 9 w43 w.heap.size (fun k_ => some k_ ≠ (v118 : Value).ownBlock ∧ some k_ ≠ (.slice Ao34 t134.length co34 : Value).ownBlock ∧ some k_ ≠ (v141 : Value).ownBlock) (.slice Ao24 t125.length co24) t125) := ⟨h2_⟩
      have n3_ : Aside0 (Kd.R (Kd.int .i64) 2 w43 w.heap.size (fun k_ => some k_ ≠ (.slice Ao21 y120.length co21 : Value).ownBlock) (.slice Ao31 y129.length co31) y129) := ⟨h3_⟩
      have n4_ : Aside0 (Kd.R Kd.string 9 w43 w.heap.size (fun k_ => some k_ ≠ (v118 : Value).ownBlock ∧ some k_ ≠ (.slice Ao24 t125.length co24 : Value).ownBlock ∧ some k_ ≠ (v141 : Value).ownBlock) (.slice Ao34 t134.length co34) t134) := ⟨h4_⟩
      have n5_ : Aside0 (Kd.R Kd.string 9 w43 w.heap.size (fun k_ => some k_ ≠ (v118 : Value).ownBlock ∧ some k_ ≠ (.slice Ao24 t125.length co24 : Value).ownBlock ∧ some k_ ≠ (.slice Ao34 t134.length co34 : Value).ownBlock) v141 t140) := ⟨h5_⟩
      have n6_ : Aside0 (w43.heap[gb114]? = some (.cells #[.int .i64 2, .int .i64 0] 23 (0, 0))) := ⟨h6_⟩
      have n7_ : Aside0 (w43.heap[gb128]? = some (.cells #[.int .u64 t132, .int .i64 t133, .slice Ao34 t134.length co34] 33 (0, 0))) := ⟨h7_⟩
      have n8_ : Aside0 (w43.heap[gb137]? = some (.cells #[.int .i64 5, .int .i64 0] 23 (0, 0))) := ⟨h8_⟩
      have n9_ : Aside0 (w43.heap[gb151]? = some (.cells #[.int .u64 0, .int .i64 0, .slice none 0 0] 33 (0, 0))) := ⟨h9_⟩
      have n10_ : Aside0 (w.heap.size ≤ gb151) := ⟨h10_⟩
      have n11_ : Aside0 (w.heap.size ≤ gb151) := ⟨h11_⟩
      have n12_ : Aside0 (gb114 ≠ gb151) := ⟨h12_⟩
      have n13_ : Aside0 (gb151 ≠ gb114) := ⟨h13_⟩
      have n14_ : Aside0 (gb128 ≠ gb151) := ⟨h14_⟩
      have n15_ : Aside0 (gb151 ≠ gb128) := ⟨h15_⟩
      have n16_ : Aside0 (gb137 ≠ gb151) := ⟨h16_⟩
      have n17_ : Aside0 (gb151 ≠ gb137) := ⟨h17_⟩
      have n18_ : Aside0 (Below w.heap.size w w43) := ⟨h18_⟩
      clear HO119
      clear HO122
      clear HO127
      clear HO131
      clear HO136
      clear BK114
      clear BK128
      clear BK137
      clear HB
      clear h0_ h1_ h2_ h3_ h4_ h5_ h6_ h7_ h8_ h9_ h10_ h11_ h12_ h13_ h14_ h15_ h16_ h17_ h18_
      have HO119 := n0_
      have HO122 := n1_
      have HO127 := n2_
      have HO131 := n3_
      have HO136 := n4_
      have HO142 := n5_
      have BK114 := n6_
      have BK128 := n7_
      have BK137 := n8_
      have BK151 := n9_
      have GW151 := n10_
      have GE151 := n11_
      have NB114_151 := n12_
      have NB151_114 := n13_
      have NB128_151 := n14_
      have NB151_128 := n15_
      have NB137_151 := n16_
      have NB151_137 := n17_
      have HB := n18_
      clear n0_ n1_ n2_ n3_ n4_ n5_ n6_ n7_ n8_ n9_ n10_ n11_ n12_ n13_ n14_ n15_ n16_ n17_ n18_
      have hHeld : w43.cell? ⟨gb137, 0, none⟩ = some (.int .i64 5) ∧ w43.cell? ⟨gb137, 1, none⟩ = some (.int .i64 0) := hS_
      refine norm_ (a' := ?_) ?_ ?_
      rotate_left
      ·simp only [putAll, Act.put, sA, sB, sC]
       rfl
      refine one_ (i := 3) (N := some 21) #[true, true, true, true, false, false, true, false] rfl rfl (one_of HT_.out (by kernel_rfl)) (by decide) (fun K hK => ?_)
      refine Kd.R_lit_step Kd.string _ 9 ?hg (N := 21) ?hd (xs := ([(⟨#[98]⟩ : ByteArray)] : List ByteArray)) (inner := [.string (⟨#[98]⟩ : ByteArray)]) (ok := fun _ => True) (okp := fun _ => True) ?hr ?hp (fun _ hk => hk) trivial (Below.refl _ _) (Nat.le_refl _) (by simp) ?_; (case hd => rfl); (case hg => rfl); (case hr => first | (go_simp; done) | (go_simp; rfl)); (case hp => exact (Reps.one (show Kd.M Kd.string _ _ _ (⟨#[98]⟩ : ByteArray) [.string (⟨#[98]⟩ : ByteArray)] from rfl) (Reps.none _ _)))
      intro v144 w44 ho45 hb hg_ hnew_
      clear hg_ hnew_
      (first | rw [← Ny143.out] at ho45 | (simp only [Int.reduceToNat] at ho45; rw [← Ny143.out] at ho45))
      have HO145 := aMk (Kd.R_lower (Kd.R_new' (Kd.R_new' (Kd.R_new' (Kd.R_new' ho45 (Kd.R_lt (by (with_reducible repeat (first | apply rA | apply rN | apply rD)); exact HO119.out))) (Kd.R_lt (by (with_reducible repeat (first | apply rA | apply rN | apply rD)); exact HO127.out))) (Kd.R_lt (by (with_reducible repeat (first | apply rA | apply rN | apply rD)); exact HO136.out))) (Kd.R_lt (by (with_reducible repeat (first | apply rA | apply rN | apply rD)); exact HO142.out))) (below_size (by repeat (first | (with_reducible first | exact HB.out | apply eA | apply eN | apply eD | refine eS ?_ GE114.out | refine eS ?_ GE128.out | refine eS ?_ GE137.out | refine eS ?_ GE151.out) | exact HB.out))))
      replace HO119 := aMk (Kd.R_elder' (by (with_reducible repeat (first | apply rA | apply rN | apply rD)); exact HO119.out) (Kd.R_base ho45) hb)
      replace HO122 := aMk (Kd.R_below (by (with_reducible repeat (first | apply rA | apply rN | apply rD)); exact HO122.out) hb)
      replace HO127 := aMk (Kd.R_elder' (by (with_reducible repeat (first | apply rA | apply rN | apply rD)); exact HO127.out) (Kd.R_base ho45) hb)
      replace HO131 := aMk (Kd.R_below (by (with_reducible repeat (first | apply rA | apply rN | apply rD)); exact HO131.out) hb)
      replace HO136 := aMk (Kd.R_elder' (by (with_reducible repeat (first | apply rA | apply rN | apply rD)); exact HO136.out) (Kd.R_base ho45) hb)
      replace HO142 := aMk (Kd.R_elder' (by (with_reducible repeat (first | apply rA | apply rN | apply rD)); exact HO142.out) (Kd.R_base ho45) hb)
      replace BK114 := aMk (blk_below (g := gb114) (o := .cells #[.int .i64 2, .int .i64 0] 23 (0, 0)) (by (with_reducible repeat (first | apply bA | apply bN | apply bD)); exact BK114.out) hb)
      replace BK128 := aMk (blk_below (g := gb128) (o := .cells #[.int .u64 t132, .int .i64 t133, .slice Ao34 t134.length co34] 33 (0, 0)) (by (with_reducible repeat (first | apply bA | apply bN | apply bD)); exact BK128.out) hb)
      replace BK137 := aMk (blk_below (g := gb137) (o := .cells #[.int .i64 5, .int .i64 0] 23 (0, 0)) (by (with_reducible repeat (first | apply bA | apply bN | apply bD)); exact BK137.out) hb)
      replace BK151 := aMk (blk_below (g := gb151) (o := .cells #[.int .u64 0, .int .i64 0, .slice none 0 0] 33 (0, 0)) (by (with_reducible repeat (first | apply bA | apply bN | apply bD)); exact BK151.out) hb)
      replace HB := aMk (below_step (by repeat (first | (with_reducible first | exact HB.out | apply eA | apply eN | apply eD | refine eS ?_ GE114.out | refine eS ?_ GE128.out | refine eS ?_ GE137.out | refine eS ?_ GE151.out) | exact HB.out)) hb)
      clear hb ho45
      obtain ⟨Ao46, co46, eo46⟩ := Kd.R_slice HO145.out
      (first | subst eo46 | (injection eo46 with f1_ f2_ f3_; have f4_ := f1_.symm; have f5_ := f3_.symm; clear f1_ f2_ f3_; subst f4_; subst f5_))
      refine hK.out _ _ ⟨(blk_cell BK137.out 0).trans rfl, (blk_cell BK137.out 1).trans rfl⟩ (fun hHeld => ?_)
      clear hK K
      refine norm_ (a' := ?_) ?_ ?_
      rotate_left
      ·show Act.put _ (some 21) _ = _
       simp only [Act.put, sA, sB, sC, i64_w, i32_w]
       rfl
      refine pure_ (i := 4) (N := some 22) (v := ?_) (a' := ?_) #[true, true, true, true, true, false, true, false] rfl rfl (any_of HT_.out (by kernel_rfl)) (fun _ _ _ h => h) (Or.inl ⟨by rfl, ?_⟩) ?_ ?_
      rotate_left
      ·intro w'
       go_simp
       with_reducible rfl
      rotate_left
      ·simp only [Act.put, sA, sB, sC, i64_w, i32_w]
       rfl
      exact norm_ (by simp only [putAll, Act.put, sA, sB, sC] <;> rfl) (hJ2_3_6 (v141, .slice Ao46 y143.length co46, gb151) _ ⟨hHeld, (by (with_reducible repeat (first | apply rA | apply rN | apply rD)); exact Kd.R_mono HO119.out (fun _ hk => ⟨hk.1.1, ⟨hk.1.2.1, ⟨hk.1.2.2, hk.2⟩⟩⟩)), (by (with_reducible repeat (first | apply rA | apply rN | apply rD)); exact HO122.out), (by (with_reducible repeat (first | apply rA | apply rN | apply rD)); exact Kd.R_mono HO127.out (fun _ hk => ⟨hk.1.1, ⟨hk.1.2.1, ⟨hk.1.2.2, hk.2⟩⟩⟩)), (by (with_reducible repeat (first | apply rA | apply rN | apply rD)); exact HO131.out), (by (with_reducible repeat (first | apply rA | apply rN | apply rD)); exact Kd.R_mono HO136.out (fun _ hk => ⟨hk.1.1, ⟨hk.1.2.1, ⟨hk.1.2.2, hk.2⟩⟩⟩)), (by (with_reducible repeat (first | apply rA | apply rN | apply rD)); exact Kd.R_mono HO142.out (fun _ hk => ⟨hk.1.1, ⟨hk.1.2.1, ⟨hk.1.2.2, hk.2⟩⟩⟩)), (by (with_reducible repeat (first | apply rA | apply rN | apply rD)); exact Kd.R_mono HO145.out (fun _ hk => ⟨hk.1.1.1.2, ⟨hk.1.1.2, ⟨hk.1.2, hk.2⟩⟩⟩)), (by (with_reducible repeat (first | apply bA | apply bN | apply bD)); exact BK114.out), (by (with_reducible repeat (first | apply bA | apply bN | apply bD)); exact BK128.out), (by (with_reducible repeat (first | apply bA | apply bN | apply bD)); exact BK137.out), (by (with_reducible repeat (first | apply bA | apply bN | apply bD)); exact BK151.out), GW151.out, GE151.out, NB114_151.out, NB151_114.out, NB128_151.out, NB151_128.out, NB137_151.out, NB151_137.out, (by repeat (first | (with_reducible first | exact HB.out | apply eA | apply eN | apply eD | refine eS ?_ GE114.out | refine eS ?_ GE128.out | refine eS ?_ GE137.out | refine eS ?_ GE151.out) | exact HB.out))⟩)
    ·skip
     rintro ⟨v141, v144⟩ w45 ⟨hS_, h0_, h1_, h2_, h3_, h4_, h5_, h6_, h7_, h8_, h9_, h10_⟩
     have n0_ : Aside0 (Kd.R Kd.string 9 w45 w.heap.size (fun k_ => some k_ ≠ (.slice Ao24 t125.length co24 : Value).ownBlock ∧ some k_ ≠ (.slice Ao34 t134.length co34 : Value).ownBlock ∧ some k_ ≠ (v141 : Value).ownBlock ∧ some k_ ≠ (v144 : Value).ownBlock) v118 t117) := ⟨h0_⟩
     have n1_ : Aside0 (Kd.R (Kd.int .i64) 2 w45 w.heap.size (fun k_ => some k_ ≠ (.slice Ao31 y129.length co31 : Value).ownBlock) (.slice Ao21 y120.length co21) y120) := ⟨h1_⟩
     have n2_ : Aside0 (Kd.R Kd.string 9 w45 w.heap.size (fun k_ => some k_ ≠ (v118 : Value).ownBlock ∧ some k_ ≠ (.slice Ao34 t134.length co34 : Value).ownBlock ∧ some k_ ≠ (v141 : Value).ownBlock ∧ some k_ ≠ (v144 : Value).ownBlock) (.slice Ao24 t125.length co24) t125) := ⟨h2_⟩
     have n3_ : Aside0 (Kd.R (Kd.int .i64) 2 w45 w.heap.size (fun k_ => some k_ ≠ (.slice Ao21 y120.length co21 : Value).ownBlock) (.slice Ao31 y129.length co31) y129) := ⟨h3_⟩
     have n4_ : Aside0 (Kd.R Kd.string 9 w45 w.heap.size (fun k_ => some k_ ≠ (v118 : Value).ownBlock ∧ some k_ ≠ (.slice Ao24 t125.length co24 : Value).ownBlock ∧ some k_ ≠ (v141 : Value).ownBlock ∧ some k_ ≠ (v144 : Value).ownBlock) (.slice Ao34 t134.length co34) t134) := ⟨h4_⟩
     have n5_ : Aside0 (Kd.R Kd.string 9 w45 w.heap.size (fun k_ => some k_ ≠ (v118 : Value).ownBlock ∧ some k_ ≠ (.slice Ao24 t125.length co24 : Value).ownBlock ∧ some k_ ≠ (.slice Ao34 t134.length co34 : Value).ownBlock ∧ some k_ ≠ (v144 : Value).ownBlock) v141 t140) := ⟨h5_⟩
     have n6_ : Aside0 (Kd.R Kd.string 9 w45 w.heap.size (fun k_ => some k_ ≠ (v118 : Value).ownBlock ∧ some k_ ≠ (.slice Ao24 t125.length co24 : Value).ownBlock ∧ some k_ ≠ (.slice Ao34 t134.length co34 : Value).ownBlock ∧ some k_ ≠ (v141 : Value).ownBlock) v144 y143) := ⟨h6_⟩
     have n7_ : Aside0 (w45.heap[gb114]? = some (.cells #[.int .i64 2, .int .i64 0] 23 (0, 0))) := ⟨h7_⟩
     have n8_ : Aside0 (w45.heap[gb128]? = some (.cells #[.int .u64 t132, .int .i64 t133, .slice Ao34 t134.length co34] 33 (0, 0))) := ⟨h8_⟩
     have n9_ : Aside0 (w45.heap[gb137]? = some (.cells #[.int .i64 5, .int .i64 0] 23 (0, 0))) := ⟨h9_⟩
     have n10_ : Aside0 (Below w.heap.size w w45) := ⟨h10_⟩
     clear HO119
     clear HO122
     clear HO127
     clear HO131
     clear HO136
     clear BK114
     clear BK128
     clear BK137
     clear HB
     clear h0_ h1_ h2_ h3_ h4_ h5_ h6_ h7_ h8_ h9_ h10_
     have HO119 := n0_
     have HO122 := n1_
     have HO127 := n2_
     have HO131 := n3_
     have HO136 := n4_
     have HO142 := n5_
     have HO145 := n6_
     have BK114 := n7_
     have BK128 := n8_
     have BK137 := n9_
     have HB := n10_
     clear n0_ n1_ n2_ n3_ n4_ n5_ n6_ n7_ n8_ n9_ n10_
     have hHeld : w45.cell? ⟨gb137, 0, none⟩ = some (.int .i64 5) ∧ w45.cell? ⟨gb137, 1, none⟩ = some (.int .i64 0) := hS_
     obtain ⟨Ao46, co46, eo46⟩ := Kd.R_slice HO145.out
     (first | subst eo46 | (injection eo46 with f1_ f2_ f3_; have f4_ := f1_.symm; have f5_ := f3_.symm; clear f1_ f2_ f3_; subst f4_; subst f5_))
     obtain ⟨Ao47, co47, eo47⟩ := Kd.R_slice HO142.out
     (first | subst eo47 | (injection eo47 with f1_ f2_ f3_; have f4_ := f1_.symm; have f5_ := f3_.symm; clear f1_ f2_ f3_; subst f4_; subst f5_))
     refine norm_ (a' := ?_) ?_ ?_
     rotate_left
     ·simp only [putAll, Act.put, sA, sB, sC]
      rfl
     refine two_ (i := 5) (j := 6) (Ni := some 23) (Nj := some 4) #[true, true, true, true, true, true, false, false] #[true, true, true, true, true, false, true, false] rfl rfl rfl rfl (two_of HT_.out (by kernel_rfl)) (by decide) (by decide) (fun K hK => ?_) (fun K hK => ?_)
     ·skip
      refine goes_ Try.func12 (by kernel_rfl) rfl #[.agg #[.int .i64 5, .int .i64 0], .agg #[.int .u64 t138, .int .i64 t139, .slice Ao47 t140.length co47], .agg #[.int .i64 0, .slice Ao46 y143.length co46, .slice none 0 0], .int .u64 1] (by rfl) rfl rfl (by (try simp only [List.map_toArray, List.map_cons, List.map_nil]); first | done | rfl | (simp only [List.length_drop, List.length_take]; rfl)) ?_
      refine (agg_Add.calls 5 0 t138 t139 _ _ t140 0 _ _ y143 _ _ ([] : List Int) 1 t146 t147 t148 _ ?side1 ?side2 ?side3 ?side4 ?side5 ?side6 A5.out).mono ?_
      (case side1 => repeat (first | exact (Kd.R_reads' HO142.out).2.2 | (with_reducible refine cA ?_ _) | (with_reducible refine cN ?_ _) | (with_reducible refine cD ?_)))
      (case side2 => exact (Kd.R_reads' HO142.out).2.1)
      (case side3 => repeat (first | exact (Kd.R_reads' HO145.out).2.2 | (with_reducible refine cA ?_ _) | (with_reducible refine cN ?_ _) | (with_reducible refine cD ?_)))
      (case side4 => exact (Kd.R_reads' HO145.out).2.1)
      (case side5 => exact Kd.C_nil _ _)
      (case side6 => exact Nat.le_refl _)
      rintro e w48 ⟨v149, rfl, ho0, hb⟩
      refine ⟨_, rfl, ?_⟩
      have HO150 := aMk (Kd.R_lower (Kd.R_new' (Kd.R_new' (Kd.R_new' (Kd.R_new' (Kd.R_new' ho0 (Kd.R_lt (by (with_reducible repeat (first | apply rA | apply rN | apply rD)); exact HO119.out))) (Kd.R_lt (by (with_reducible repeat (first | apply rA | apply rN | apply rD)); exact HO127.out))) (Kd.R_lt (by (with_reducible repeat (first | apply rA | apply rN | apply rD)); exact HO136.out))) (Kd.R_lt (by (with_reducible repeat (first | apply rA | apply rN | apply rD)); exact HO142.out))) (Kd.R_lt (by (with_reducible repeat (first | apply rA | apply rN | apply rD)); exact HO145.out))) (below_size (by repeat (first | (with_reducible first | exact HB.out | apply eA | apply eN | apply eD | refine eS ?_ GE114.out | refine eS ?_ GE128.out | refine eS ?_ GE137.out) | exact HB.out))))
      replace HO119 := aMk (Kd.R_elder' (by (with_reducible repeat (first | apply rA | apply rN | apply rD)); exact HO119.out) (Kd.R_base ho0) hb)
      replace HO122 := aMk (Kd.R_below (by (with_reducible repeat (first | apply rA | apply rN | apply rD)); exact HO122.out) hb)
      replace HO127 := aMk (Kd.R_elder' (by (with_reducible repeat (first | apply rA | apply rN | apply rD)); exact HO127.out) (Kd.R_base ho0) hb)
      replace HO131 := aMk (Kd.R_below (by (with_reducible repeat (first | apply rA | apply rN | apply rD)); exact HO131.out) hb)
      replace HO136 := aMk (Kd.R_elder' (by (with_reducible repeat (first | apply rA | apply rN | apply rD)); exact HO136.out) (Kd.R_base ho0) hb)
      replace HO142 := aMk (Kd.R_elder' (by (with_reducible repeat (first | apply rA | apply rN | apply rD)); exact HO142.out) (Kd.R_base ho0) hb)
      replace HO145 := aMk (Kd.R_elder' (by (with_reducible repeat (first | apply rA | apply rN | apply rD)); exact HO145.out) (Kd.R_base ho0) hb)
      replace BK114 := aMk (blk_below (g := gb114) (o := .cells #[.int .i64 2, .int .i64 0] 23 (0, 0)) (by (with_reducible repeat (first | apply bA | apply bN | apply bD)); exact BK114.out) hb)
      replace BK128 := aMk (blk_below (g := gb128) (o := .cells #[.int .u64 t132, .int .i64 t133, .slice Ao34 t134.length co34] 33 (0, 0)) (by (with_reducible repeat (first | apply bA | apply bN | apply bD)); exact BK128.out) hb)
      replace BK137 := aMk (blk_below (g := gb137) (o := .cells #[.int .i64 5, .int .i64 0] 23 (0, 0)) (by (with_reducible repeat (first | apply bA | apply bN | apply bD)); exact BK137.out) hb)
      replace HB := aMk (below_step (by repeat (first | (with_reducible first | exact HB.out | apply eA | apply eN | apply eD | refine eS ?_ GE114.out | refine eS ?_ GE128.out | refine eS ?_ GE137.out) | exact HB.out)) hb)
      (try clear hb)
      (try clear ho0)
      refine hK.out _ _ ⟨(blk_cell BK137.out 0).trans rfl, (blk_cell BK137.out 1).trans rfl⟩ (fun hHeld => ?_)
      clear hK K
      refine norm_ (a' := ?_) ?_ ?_
      rotate_left
      ·show Act.put _ (some 23) _ = _
       simp only [Act.put, sA, sB, sC, i64_w, i32_w]
       rfl
      exact norm_ (by simp only [putAll, Act.put, sA, sB, sC] <;> rfl) (hJ2_3_5 (.slice Ao47 t140.length co47, .slice Ao46 y143.length co46, v149) _ ⟨hHeld, (by (with_reducible repeat (first | apply rA | apply rN | apply rD)); exact Kd.R_mono HO119.out (fun _ hk => ⟨hk.1.1, ⟨hk.1.2.1, ⟨hk.1.2.2.1, ⟨hk.1.2.2.2, hk.2⟩⟩⟩⟩)), (by (with_reducible repeat (first | apply rA | apply rN | apply rD)); exact HO122.out), (by (with_reducible repeat (first | apply rA | apply rN | apply rD)); exact Kd.R_mono HO127.out (fun _ hk => ⟨hk.1.1, ⟨hk.1.2.1, ⟨hk.1.2.2.1, ⟨hk.1.2.2.2, hk.2⟩⟩⟩⟩)), (by (with_reducible repeat (first | apply rA | apply rN | apply rD)); exact HO131.out), (by (with_reducible repeat (first | apply rA | apply rN | apply rD)); exact Kd.R_mono HO136.out (fun _ hk => ⟨hk.1.1, ⟨hk.1.2.1, ⟨hk.1.2.2.1, ⟨hk.1.2.2.2, hk.2⟩⟩⟩⟩)), (by (with_reducible repeat (first | apply rA | apply rN | apply rD)); exact Kd.R_mono HO142.out (fun _ hk => ⟨hk.1.1, ⟨hk.1.2.1, ⟨hk.1.2.2.1, ⟨hk.1.2.2.2, hk.2⟩⟩⟩⟩)), (by (with_reducible repeat (first | apply rA | apply rN | apply rD)); exact Kd.R_mono HO145.out (fun _ hk => ⟨hk.1.1, ⟨hk.1.2.1, ⟨hk.1.2.2.1, ⟨hk.1.2.2.2, hk.2⟩⟩⟩⟩)), (by (with_reducible repeat (first | apply rA | apply rN | apply rD)); exact Kd.R_mono HO150.out (fun _ hk => ⟨hk.1.1.1.1.2, ⟨hk.1.1.1.2, ⟨hk.1.1.2, ⟨hk.1.2, hk.2⟩⟩⟩⟩)), (by (with_reducible repeat (first | apply bA | apply bN | apply bD)); exact BK114.out), (by (with_reducible repeat (first | apply bA | apply bN | apply bD)); exact BK128.out), (by (with_reducible repeat (first | apply bA | apply bN | apply bD)); exact BK137.out), (by repeat (first | (with_reducible first | exact HB.out | apply eA | apply eN | apply eD | refine eS ?_ GE114.out | refine eS ?_ GE128.out | refine eS ?_ GE137.out) | exact HB.out))⟩)
     ·skip
      refine box_step ?hg (N := 4) ?hd (cs := #[.int .u64 0, .int .i64 0, .slice none 0 0]) (t := 33) ?hr ?_; (case hd => rfl); (case hg => rfl); (case hr => first | (go_simp; done) | (go_simp; rfl))
      intro gb151 hg w47 hbox hb
      have BK151 := aMk (hbox)
      have GW151 := aMk ((by rw [hg]; exact (below_size (by repeat (first | (with_reducible first | exact HB.out | apply eA | apply eN | apply eD | refine eS ?_ GE114.out | refine eS ?_ GE128.out | refine eS ?_ GE137.out) | exact HB.out))) : w.heap.size ≤ gb151))
      have GE151 := GW151
      have NB114_151 := aMk ((by rw [hg]; exact Nat.ne_of_lt (blk_lt (g := gb114) (o := .cells #[.int .i64 2, .int .i64 0] 23 (0, 0)) (by (with_reducible repeat (first | apply bA | apply bN | apply bD)); exact BK114.out)) : gb114 ≠ gb151))
      have NB151_114 := aMk (Ne.symm NB114_151.out)
      have NB128_151 := aMk ((by rw [hg]; exact Nat.ne_of_lt (blk_lt (g := gb128) (o := .cells #[.int .u64 t132, .int .i64 t133, .slice Ao34 t134.length co34] 33 (0, 0)) (by (with_reducible repeat (first | apply bA | apply bN | apply bD)); exact BK128.out)) : gb128 ≠ gb151))
      have NB151_128 := aMk (Ne.symm NB128_151.out)
      have NB137_151 := aMk ((by rw [hg]; exact Nat.ne_of_lt (blk_lt (g := gb137) (o := .cells #[.int .i64 5, .int .i64 0] 23 (0, 0)) (by (with_reducible repeat (first | apply bA | apply bN | apply bD)); exact BK137.out)) : gb137 ≠ gb151))
      have NB151_137 := aMk (Ne.symm NB137_151.out)
      replace HO119 := aMk (Kd.R_below (by (with_reducible repeat (first | apply rA | apply rN | apply rD)); exact HO119.out) hb)
      replace HO122 := aMk (Kd.R_below (by (with_reducible repeat (first | apply rA | apply rN | apply rD)); exact HO122.out) hb)
      replace HO127 := aMk (Kd.R_below (by (with_reducible repeat (first | apply rA | apply rN | apply rD)); exact HO127.out) hb)
      replace HO131 := aMk (Kd.R_below (by (with_reducible repeat (first | apply rA | apply rN | apply rD)); exact HO131.out) hb)
      replace HO136 := aMk (Kd.R_below (by (with_reducible repeat (first | apply rA | apply rN | apply rD)); exact HO136.out) hb)
      replace HO142 := aMk (Kd.R_below (by (with_reducible repeat (first | apply rA | apply rN | apply rD)); exact HO142.out) hb)
      replace HO145 := aMk (Kd.R_below (by (with_reducible repeat (first | apply rA | apply rN | apply rD)); exact HO145.out) hb)
      replace BK114 := aMk (blk_below (g := gb114) (o := .cells #[.int .i64 2, .int .i64 0] 23 (0, 0)) (by (with_reducible repeat (first | apply bA | apply bN | apply bD)); exact BK114.out) hb)
      replace BK128 := aMk (blk_below (g := gb128) (o := .cells #[.int .u64 t132, .int .i64 t133, .slice Ao34 t134.length co34] 33 (0, 0)) (by (with_reducible repeat (first | apply bA | apply bN | apply bD)); exact BK128.out) hb)
      replace BK137 := aMk (blk_below (g := gb137) (o := .cells #[.int .i64 5, .int .i64 0] 23 (0, 0)) (by (with_reducible repeat (first | apply bA | apply bN | apply bD)); exact BK137.out) hb)
      replace HB := aMk (below_step (by repeat (first | (with_reducible first | exact HB.out | apply eA | apply eN | apply eD | refine eS ?_ GE114.out | refine eS ?_ GE128.out | refine eS ?_ GE137.out) | exact HB.out)) hb)
      clear hb hbox hg
      refine hK.out _ _ ⟨(blk_cell BK137.out 0).trans rfl, (blk_cell BK137.out 1).trans rfl⟩ (fun hHeld => ?_)
      clear hK K
      refine norm_ (a' := ?_) ?_ ?_
      rotate_left
      ·show Act.put _ (some 4) _ = _
       simp only [Act.put, sA, sB, sC, i64_w, i32_w]
       rfl
      exact norm_ (by simp only [putAll, Act.put, sA, sB, sC] <;> rfl) (hJ2_3_6 (.slice Ao47 t140.length co47, .slice Ao46 y143.length co46, gb151) _ ⟨hHeld, (by (with_reducible repeat (first | apply rA | apply rN | apply rD)); exact HO119.out), (by (with_reducible repeat (first | apply rA | apply rN | apply rD)); exact HO122.out), (by (with_reducible repeat (first | apply rA | apply rN | apply rD)); exact HO127.out), (by (with_reducible repeat (first | apply rA | apply rN | apply rD)); exact HO131.out), (by (with_reducible repeat (first | apply rA | apply rN | apply rD)); exact HO136.out), (by (with_reducible repeat (first | apply rA | apply rN | apply rD)); exact HO142.out), (by (with_reducible repeat (first | apply rA | apply rN | apply rD)); exact HO145.out), (by (with_reducible repeat (first | apply bA | apply bN | apply bD)); exact BK114.out), (by (with_reducible repeat (first | apply bA | apply bN | apply bD)); exact BK128.out), (by (with_reducible repeat (first | apply bA | apply bN | apply bD)); exact BK137.out), (by (with_reducible repeat (first | apply bA | apply bN | apply bD)); exact BK151.out), GW151.out, GE151.out, NB114_151.out, NB151_114.out, NB128_151.out, NB151_128.out, NB137_151.out, NB151_137.out, (by repeat (first | (with_reducible first | exact HB.out | apply eA | apply eN | apply eD | refine eS ?_ GE114.out | refine eS ?_ GE128.out | refine eS ?_ GE137.out | refine eS ?_ GE151.out) | exact HB.out))⟩)
   ·skip
    rintro ⟨v141, v144, gb151⟩ w46 ⟨hS_, h0_, h1_, h2_, h3_, h4_, h5_, h6_, h7_, h8_, h9_, h10_, h11_, h12_, h13_, h14_, h15_, h16_, h17_, h18_, h19_⟩
    have n0_ : Aside0 (Kd.R Kd.string 9 w46 w.heap.size (fun k_ => some k_ ≠ (.slice Ao24 t125.length co24 : Value).ownBlock ∧ some k_ ≠ (.slice Ao34 t134.length co34 : Value).ownBlock ∧ some k_ ≠ (v141 : Value).ownBlock ∧ some k_ ≠ (v144 : Value).ownBlock) v118 t117) := ⟨h0_⟩
    have n1_ : Aside0 (Kd.R (Kd.int .i64) 2 w46 w.heap.size (fun k_ => some k_ ≠ (.slice Ao31 y129.length co31 : Value).ownBlock) (.slice Ao21 y120.length co21) y120) := ⟨h1_⟩
    have n2_ : Aside0 (Kd.R Kd.string 9 w46 w.heap.size (fun k_ => some k_ ≠ (v118 : Value).ownBlock ∧ some k_ ≠ (.slice Ao34 t134.length co34 : Value).ownBlock ∧ some k_ ≠ (v141 : Value).ownBlock ∧ some k_ ≠ (v144 : Value).ownBlock) (.slice Ao24 t125.length co24) t125) := ⟨h2_⟩
    have n3_ : Aside0 (Kd.R (Kd.int .i64) 2 w46 w.heap.size (fun k_ => some k_ ≠ (.slice Ao21 y120.length co21 : Value).ownBlock) (.slice Ao31 y129.length co31) y129) := ⟨h3_⟩
    have n4_ : Aside0 (Kd.R Kd.string 9 w46 w.heap.size (fun k_ => some k_ ≠ (v118 : Value).ownBlock ∧ some k_ ≠ (.slice Ao24 t125.length co24 : Value).ownBlock ∧ some k_ ≠ (v141 : Value).ownBlock ∧ some k_ ≠ (v144 : Value).ownBlock) (.slice Ao34 t134.length co34) t134) := ⟨h4_⟩
    have n5_ : Aside0 (Kd.R Kd.string 9 w46 w.heap.size (fun k_ => some k_ ≠ (v118 : Value).ownBlock ∧ some k_ ≠ (.slice Ao24 t125.length co24 : Value).ownBlock ∧ some k_ ≠ (.slice Ao34 t134.length co34 : Value).ownBlock ∧ some k_ ≠ (v144 : Value).ownBlock) v141 t140) := ⟨h5_⟩
    have n6_ : Aside0 (Kd.R Kd.string 9 w46 w.heap.size (fun k_ => some k_ ≠ (v118 : Value).ownBlock ∧ some k_ ≠ (.slice Ao24 t125.length co24 : Value).ownBlock ∧ some k_ ≠ (.slice Ao34 t134.length co34 : Value).ownBlock ∧ some k_ ≠ (v141 : Value).ownBlock) v144 y143) := ⟨h6_⟩
    have n7_ : Aside0 (w46.heap[gb114]? = some (.cells #[.int .i64 2, .int .i64 0] 23 (0, 0))) := ⟨h7_⟩
    have n8_ : Aside0 (w46.heap[gb128]? = some (.cells #[.int .u64 t132, .int .i64 t133, .slice Ao34 t134.length co34] 33 (0, 0))) := ⟨h8_⟩
    have n9_ : Aside0 (w46.heap[gb137]? = some (.cells #[.int .i64 5, .int .i64 0] 23 (0, 0))) := ⟨h9_⟩
    have n10_ : Aside0 (w46.heap[gb151]? = some (.cells #[.int .u64 0, .int .i64 0, .slice none 0 0] 33 (0, 0))) := ⟨h10_⟩
    have n11_ : Aside0 (w.heap.size ≤ gb151) := ⟨h11_⟩
    have n12_ : Aside0 (w.heap.size ≤ gb151) := ⟨h12_⟩
    have n13_ : Aside0 (gb114 ≠ gb151) := ⟨h13_⟩
    have n14_ : Aside0 (gb151 ≠ gb114) := ⟨h14_⟩
    have n15_ : Aside0 (gb128 ≠ gb151) := ⟨h15_⟩
    have n16_ : Aside0 (gb151 ≠ gb128) := ⟨h16_⟩
    have n17_ : Aside0 (gb137 ≠ gb151) := ⟨h17_⟩
    have n18_ : Aside0 (gb151 ≠ gb137) := ⟨h18_⟩
    have n19_ : Aside0 (Below w.heap.size w w46) := ⟨h19_⟩
    clear HO119
    clear HO122
    clear HO127
    clear HO131
    clear HO136
    clear BK114
    clear BK128
    clear BK137
    clear HB
    clear h0_ h1_ h2_ h3_ h4_ h5_ h6_ h7_ h8_ h9_ h10_ h11_ h12_ h13_ h14_ h15_ h16_ h17_ h18_ h19_
    have HO119 := n0_
    have HO122 := n1_
    have HO127 := n2_
    have HO131 := n3_
    have HO136 := n4_
    have HO142 := n5_
    have HO145 := n6_
    have BK114 := n7_
    have BK128 := n8_
    have BK137 := n9_
    have BK151 := n10_
    have GW151 := n11_
    have GE151 := n12_
    have NB114_151 := n13_
    have NB151_114 := n14_
    have NB128_151 := n15_
    have NB151_128 := n16_
    have NB137_151 := n17_
    have NB151_137 := n18_
    have HB := n19_
    clear n0_ n1_ n2_ n3_ n4_ n5_ n6_ n7_ n8_ n9_ n10_ n11_ n12_ n13_ n14_ n15_ n16_ n17_ n18_ n19_
    have hHeld : w46.cell? ⟨gb137, 0, none⟩ = some (.int .i64 5) ∧ w46.cell? ⟨gb137, 1, none⟩ = some (.int .i64 0) := hS_
    obtain ⟨Ao47, co47, eo47⟩ := Kd.R_slice HO145.out
    (first | subst eo47 | (injection eo47 with f1_ f2_ f3_; have f4_ := f1_.symm; have f5_ := f3_.symm; clear f1_ f2_ f3_; subst f4_; subst f5_))
    obtain ⟨Ao48, co48, eo48⟩ := Kd.R_slice HO142.out
    (first | subst eo48 | (injection eo48 with f1_ f2_ f3_; have f4_ := f1_.symm; have f5_ := f3_.symm; clear f1_ f2_ f3_; subst f4_; subst f5_))
    refine norm_ (a' := ?_) ?_ ?_
    rotate_left
    ·simp only [putAll, Act.put, sA, sB, sC]
     rfl
    refine one_ (i := 5) (N := some 23) #[true, true, true, true, true, true, true, false] rfl rfl (one_of HT_.out (by kernel_rfl)) (by decide) (fun K hK => ?_)
    refine goes_ Try.func12 (by kernel_rfl) rfl #[.agg #[.int .i64 5, .int .i64 0], .agg #[.int .u64 t138, .int .i64 t139, .slice Ao48 t140.length co48], .agg #[.int .i64 0, .slice Ao47 y143.length co47, .slice none 0 0], .int .u64 1] (by rfl) rfl rfl (by (try simp only [List.map_toArray, List.map_cons, List.map_nil]); first | done | rfl | (simp only [List.length_drop, List.length_take]; rfl)) ?_
    refine (agg_Add.calls 5 0 t138 t139 _ _ t140 0 _ _ y143 _ _ ([] : List Int) 1 t146 t147 t148 _ ?side1 ?side2 ?side3 ?side4 ?side5 ?side6 A5.out).mono ?_
    (case side1 => repeat (first | exact (Kd.R_reads' HO142.out).2.2 | (with_reducible refine cA ?_ _) | (with_reducible refine cN ?_ _) | (with_reducible refine cD ?_)))
    (case side2 => exact (Kd.R_reads' HO142.out).2.1)
    (case side3 => repeat (first | exact (Kd.R_reads' HO145.out).2.2 | (with_reducible refine cA ?_ _) | (with_reducible refine cN ?_ _) | (with_reducible refine cD ?_)))
    (case side4 => exact (Kd.R_reads' HO145.out).2.1)
    (case side5 => exact Kd.C_nil _ _)
    (case side6 => exact Nat.le_refl _)
    rintro e w49 ⟨v149, rfl, ho0, hb⟩
    refine ⟨_, rfl, ?_⟩
    have HO150 := aMk (Kd.R_lower (Kd.R_new' (Kd.R_new' (Kd.R_new' (Kd.R_new' (Kd.R_new' ho0 (Kd.R_lt (by (with_reducible repeat (first | apply rA | apply rN | apply rD)); exact HO119.out))) (Kd.R_lt (by (with_reducible repeat (first | apply rA | apply rN | apply rD)); exact HO127.out))) (Kd.R_lt (by (with_reducible repeat (first | apply rA | apply rN | apply rD)); exact HO136.out))) (Kd.R_lt (by (with_reducible repeat (first | apply rA | apply rN | apply rD)); exact HO142.out))) (Kd.R_lt (by (with_reducible repeat (first | apply rA | apply rN | apply rD)); exact HO145.out))) (below_size (by repeat (first | (with_reducible first | exact HB.out | apply eA | apply eN | apply eD | refine eS ?_ GE114.out | refine eS ?_ GE128.out | refine eS ?_ GE137.out | refine eS ?_ GE151.out) | exact HB.out))))
    replace HO119 := aMk (Kd.R_elder' (by (with_reducible repeat (first | apply rA | apply rN | apply rD)); exact HO119.out) (Kd.R_base ho0) hb)
    replace HO122 := aMk (Kd.R_below (by (with_reducible repeat (first | apply rA | apply rN | apply rD)); exact HO122.out) hb)
    replace HO127 := aMk (Kd.R_elder' (by (with_reducible repeat (first | apply rA | apply rN | apply rD)); exact HO127.out) (Kd.R_base ho0) hb)
    replace HO131 := aMk (Kd.R_below (by (with_reducible repeat (first | apply rA | apply rN | apply rD)); exact HO131.out) hb)
    replace HO136 := aMk (Kd.R_elder' (by (with_reducible repeat (first | apply rA | apply rN | apply rD)); exact HO136.out) (Kd.R_base ho0) hb)
    replace HO142 := aMk (Kd.R_elder' (by (with_reducible repeat (first | apply rA | apply rN | apply rD)); exact HO142.out) (Kd.R_base ho0) hb)
    replace HO145 := aMk (Kd.R_elder' (by (with_reducible repeat (first | apply rA | apply rN | apply rD)); exact HO145.out) (Kd.R_base ho0) hb)
    replace BK114 := aMk (blk_below (g := gb114) (o := .cells #[.int .i64 2, .int .i64 0] 23 (0, 0)) (by (with_reducible repeat (first | apply bA | apply bN | apply bD)); exact BK114.out) hb)
    replace BK128 := aMk (blk_below (g := gb128) (o := .cells #[.int .u64 t132, .int .i64 t133, .slice Ao34 t134.length co34] 33 (0, 0)) (by (with_reducible repeat (first | apply bA | apply bN | apply bD)); exact BK128.out) hb)
    replace BK137 := aMk (blk_below (g := gb137) (o := .cells #[.int .i64 5, .int .i64 0] 23 (0, 0)) (by (with_reducible repeat (first | apply bA | apply bN | apply bD)); exact BK137.out) hb)
    replace BK151 := aMk (blk_below (g := gb151) (o := .cells #[.int .u64 0, .int .i64 0, .slice none 0 0] 33 (0, 0)) (by (with_reducible repeat (first | apply bA | apply bN | apply bD)); exact BK151.out) hb)
    replace HB := aMk (below_step (by repeat (first | (with_reducible first | exact HB.out | apply eA | apply eN | apply eD | refine eS ?_ GE114.out | refine eS ?_ GE128.out | refine eS ?_ GE137.out | refine eS ?_ GE151.out) | exact HB.out)) hb)
    (try clear hb)
    (try clear ho0)
    refine hK.out _ _ ⟨(blk_cell BK137.out 0).trans rfl, (blk_cell BK137.out 1).trans rfl⟩ (fun hHeld => ?_)
    clear hK K
    refine norm_ (a' := ?_) ?_ ?_
    rotate_left
    ·show Act.put _ (some 23) _ = _
     simp only [Act.put, sA, sB, sC, i64_w, i32_w]
     rfl
    exact norm_ (by simp only [putAll, Act.put, sA, sB, sC] <;> rfl) (hJ2_3_5_6 (.slice Ao48 t140.length co48, .slice Ao47 y143.length co47, v149, gb151) _ ⟨hHeld, (by (with_reducible repeat (first | apply rA | apply rN | apply rD)); exact Kd.R_mono HO119.out (fun _ hk => ⟨hk.1.1, ⟨hk.1.2.1, ⟨hk.1.2.2.1, ⟨hk.1.2.2.2, hk.2⟩⟩⟩⟩)), (by (with_reducible repeat (first | apply rA | apply rN | apply rD)); exact HO122.out), (by (with_reducible repeat (first | apply rA | apply rN | apply rD)); exact Kd.R_mono HO127.out (fun _ hk => ⟨hk.1.1, ⟨hk.1.2.1, ⟨hk.1.2.2.1, ⟨hk.1.2.2.2, hk.2⟩⟩⟩⟩)), (by (with_reducible repeat (first | apply rA | apply rN | apply rD)); exact HO131.out), (by (with_reducible repeat (first | apply rA | apply rN | apply rD)); exact Kd.R_mono HO136.out (fun _ hk => ⟨hk.1.1, ⟨hk.1.2.1, ⟨hk.1.2.2.1, ⟨hk.1.2.2.2, hk.2⟩⟩⟩⟩)), (by (with_reducible repeat (first | apply rA | apply rN | apply rD)); exact Kd.R_mono HO142.out (fun _ hk => ⟨hk.1.1, ⟨hk.1.2.1, ⟨hk.1.2.2.1, ⟨hk.1.2.2.2, hk.2⟩⟩⟩⟩)), (by (with_reducible repeat (first | apply rA | apply rN | apply rD)); exact Kd.R_mono HO145.out (fun _ hk => ⟨hk.1.1, ⟨hk.1.2.1, ⟨hk.1.2.2.1, ⟨hk.1.2.2.2, hk.2⟩⟩⟩⟩)), (by (with_reducible repeat (first | apply rA | apply rN | apply rD)); exact Kd.R_mono HO150.out (fun _ hk => ⟨hk.1.1.1.1.2, ⟨hk.1.1.1.2, ⟨hk.1.1.2, ⟨hk.1.2, hk.2⟩⟩⟩⟩)), (by (with_reducible repeat (first | apply bA | apply bN | apply bD)); exact BK114.out), (by (with_reducible repeat (first | apply bA | apply bN | apply bD)); exact BK128.out), (by (with_reducible repeat (first | apply bA | apply bN | apply bD)); exact BK137.out), (by (with_reducible repeat (first | apply bA | apply bN | apply bD)); exact BK151.out), GW151.out, GE151.out, NB114_151.out, NB151_114.out, NB128_151.out, NB151_128.out, NB137_151.out, NB151_137.out, (by repeat (first | (with_reducible first | exact HB.out | apply eA | apply eN | apply eD | refine eS ?_ GE114.out | refine eS ?_ GE128.out | refine eS ?_ GE137.out | refine eS ?_ GE151.out) | exact HB.out))⟩)
  ·skip
   rintro ⟨v141, v144, v149⟩ w47 ⟨hS_, h0_, h1_, h2_, h3_, h4_, h5_, h6_, h7_, h8_, h9_, h10_, h11_⟩
   have n0_ : Aside0 (Kd.R Kd.string 9 w47 w.heap.size (fun k_ => some k_ ≠ (.slice Ao24 t125.length co24 : Value).ownBlock ∧ some k_ ≠ (.slice Ao34 t134.length co34 : Value).ownBlock ∧ some k_ ≠ (v141 : Value).ownBlock ∧ some k_ ≠ (v144 : Value).ownBlock ∧ some k_ ≠ (v149 : Value).ownBlock) v118 t117) := ⟨h0_⟩
   have n1_ : Aside0 (Kd.R (Kd.int .i64) 2 w47 w.heap.size (fun k_ => some k_ ≠ (.slice Ao31 y129.length co31 : Value).ownBlock) (.slice Ao21 y120.length co21) y120) := ⟨h1_⟩
   have n2_ : Aside0 (Kd.R Kd.string 9 w47 w.heap.size (fun k_ => some k_ ≠ (v118 : Value).ownBlock ∧ some k_ ≠ (.slice Ao34 t134.length co34 : Value).ownBlock ∧ some k_ ≠ (v141 : Value).ownBlock ∧ some k_ ≠ (v144 : Value).ownBlock ∧ some k_ ≠ (v149 : Value).ownBlock) (.slice Ao24 t125.length co24) t125) := ⟨h2_⟩
   have n3_ : Aside0 (Kd.R (Kd.int .i64) 2 w47 w.heap.size (fun k_ => some k_ ≠ (.slice Ao21 y120.length co21 : Value).ownBlock) (.slice Ao31 y129.length co31) y129) := ⟨h3_⟩
   have n4_ : Aside0 (Kd.R Kd.string 9 w47 w.heap.size (fun k_ => some k_ ≠ (v118 : Value).ownBlock ∧ some k_ ≠ (.slice Ao24 t125.length co24 : Value).ownBlock ∧ some k_ ≠ (v141 : Value).ownBlock ∧ some k_ ≠ (v144 : Value).ownBlock ∧ some k_ ≠ (v149 : Value).ownBlock) (.slice Ao34 t134.length co34) t134) := ⟨h4_⟩
   have n5_ : Aside0 (Kd.R Kd.string 9 w47 w.heap.size (fun k_ => some k_ ≠ (v118 : Value).ownBlock ∧ some k_ ≠ (.slice Ao24 t125.length co24 : Value).ownBlock ∧ some k_ ≠ (.slice Ao34 t134.length co34 : Value).ownBlock ∧ some k_ ≠ (v144 : Value).ownBlock ∧ some k_ ≠ (v149 : Value).ownBlock) v141 t140) := ⟨h5_⟩
   have n6_ : Aside0 (Kd.R Kd.string 9 w47 w.heap.size (fun k_ => some k_ ≠ (v118 : Value).ownBlock ∧ some k_ ≠ (.slice Ao24 t125.length co24 : Value).ownBlock ∧ some k_ ≠ (.slice Ao34 t134.length co34 : Value).ownBlock ∧ some k_ ≠ (v141 : Value).ownBlock ∧ some k_ ≠ (v149 : Value).ownBlock) v144 y143) := ⟨h6_⟩
   have n7_ : Aside0 (Kd.R Kd.string 9 w47 w.heap.size (fun k_ => some k_ ≠ (v118 : Value).ownBlock ∧ some k_ ≠ (.slice Ao24 t125.length co24 : Value).ownBlock ∧ some k_ ≠ (.slice Ao34 t134.length co34 : Value).ownBlock ∧ some k_ ≠ (v141 : Value).ownBlock ∧ some k_ ≠ (v144 : Value).ownBlock) v149 t148) := ⟨h7_⟩
   have n8_ : Aside0 (w47.heap[gb114]? = some (.cells #[.int .i64 2, .int .i64 0] 23 (0, 0))) := ⟨h8_⟩
   have n9_ : Aside0 (w47.heap[gb128]? = some (.cells #[.int .u64 t132, .int .i64 t133, .slice Ao34 t134.length co34] 33 (0, 0))) := ⟨h9_⟩
   have n10_ : Aside0 (w47.heap[gb137]? = some (.cells #[.int .i64 5, .int .i64 0] 23 (0, 0))) := ⟨h10_⟩
   have n11_ : Aside0 (Below w.heap.size w w47) := ⟨h11_⟩
   clear HO119
   clear HO122
   clear HO127
   clear HO131
   clear HO136
   clear BK114
   clear BK128
   clear BK137
   clear HB
   clear h0_ h1_ h2_ h3_ h4_ h5_ h6_ h7_ h8_ h9_ h10_ h11_
   have HO119 := n0_
   have HO122 := n1_
   have HO127 := n2_
   have HO131 := n3_
   have HO136 := n4_
   have HO142 := n5_
   have HO145 := n6_
   have HO150 := n7_
   have BK114 := n8_
   have BK128 := n9_
   have BK137 := n10_
   have HB := n11_
   clear n0_ n1_ n2_ n3_ n4_ n5_ n6_ n7_ n8_ n9_ n10_ n11_
   have hHeld : w47.cell? ⟨gb137, 0, none⟩ = some (.int .i64 5) ∧ w47.cell? ⟨gb137, 1, none⟩ = some (.int .i64 0) := hS_
   obtain ⟨Ao48, co48, eo48⟩ := Kd.R_slice HO145.out
   (first | subst eo48 | (injection eo48 with f1_ f2_ f3_; have f4_ := f1_.symm; have f5_ := f3_.symm; clear f1_ f2_ f3_; subst f4_; subst f5_))
   refine norm_ (a' := ?_) ?_ ?_
   rotate_left
   ·simp only [putAll, Act.put, sA, sB, sC]
    rfl
   refine one_ (i := 6) (N := some 4) #[true, true, true, true, true, true, true, false] rfl rfl (one_of HT_.out (by kernel_rfl)) (by decide) (fun K hK => ?_)
   refine box_step ?hg (N := 4) ?hd (cs := #[.int .u64 0, .int .i64 0, .slice none 0 0]) (t := 33) ?hr ?_; (case hd => rfl); (case hg => rfl); (case hr => first | (go_simp; done) | (go_simp; rfl))
   intro gb151 hg w49 hbox hb
   have BK151 := aMk (hbox)
   have GW151 := aMk ((by rw [hg]; exact (below_size (by repeat (first | (with_reducible first | exact HB.out | apply eA | apply eN | apply eD | refine eS ?_ GE114.out | refine eS ?_ GE128.out | refine eS ?_ GE137.out) | exact HB.out))) : w.heap.size ≤ gb151))
   have GE151 := GW151
   have NB114_151 := aMk ((by rw [hg]; exact Nat.ne_of_lt (blk_lt (g := gb114) (o := .cells #[.int .i64 2, .int .i64 0] 23 (0, 0)) (by (with_reducible repeat (first | apply bA | apply bN | apply bD)); exact BK114.out)) : gb114 ≠ gb151))
   have NB151_114 := aMk (Ne.symm NB114_151.out)
   have NB128_151 := aMk ((by rw [hg]; exact Nat.ne_of_lt (blk_lt (g := gb128) (o := .cells #[.int .u64 t132, .int .i64 t133, .slice Ao34 t134.length co34] 33 (0, 0)) (by (with_reducible repeat (first | apply bA | apply bN | apply bD)); exact BK128.out)) : gb128 ≠ gb151))
   have NB151_128 := aMk (Ne.symm NB128_151.out)
   have NB137_151 := aMk ((by rw [hg]; exact Nat.ne_of_lt (blk_lt (g := gb137) (o := .cells #[.int .i64 5, .int .i64 0] 23 (0, 0)) (by (with_reducible repeat (first | apply bA | apply bN | apply bD)); exact BK137.out)) : gb137 ≠ gb151))
   have NB151_137 := aMk (Ne.symm NB137_151.out)
   replace HO119 := aMk (Kd.R_below (by (with_reducible repeat (first | apply rA | apply rN | apply rD)); exact HO119.out) hb)
   replace HO122 := aMk (Kd.R_below (by (with_reducible repeat (first | apply rA | apply rN | apply rD)); exact HO122.out) hb)
   replace HO127 := aMk (Kd.R_below (by (with_reducible repeat (first | apply rA | apply rN | apply rD)); exact HO127.out) hb)
   replace HO131 := aMk (Kd.R_below (by (with_reducible repeat (first | apply rA | apply rN | apply rD)); exact HO131.out) hb)
   replace HO136 := aMk (Kd.R_below (by (with_reducible repeat (first | apply rA | apply rN | apply rD)); exact HO136.out) hb)
   replace HO142 := aMk (Kd.R_below (by (with_reducible repeat (first | apply rA | apply rN | apply rD)); exact HO142.out) hb)
   replace HO145 := aMk (Kd.R_below (by (with_reducible repeat (first | apply rA | apply rN | apply rD)); exact HO145.out) hb)
   replace HO150 := aMk (Kd.R_below (by (with_reducible repeat (first | apply rA | apply rN | apply rD)); exact HO150.out) hb)
   replace BK114 := aMk (blk_below (g := gb114) (o := .cells #[.int .i64 2, .int .i64 0] 23 (0, 0)) (by (with_reducible repeat (first | apply bA | apply bN | apply bD)); exact BK114.out) hb)
   replace BK128 := aMk (blk_below (g := gb128) (o := .cells #[.int .u64 t132, .int .i64 t133, .slice Ao34 t134.length co34] 33 (0, 0)) (by (with_reducible repeat (first | apply bA | apply bN | apply bD)); exact BK128.out) hb)
   replace BK137 := aMk (blk_below (g := gb137) (o := .cells #[.int .i64 5, .int .i64 0] 23 (0, 0)) (by (with_reducible repeat (first | apply bA | apply bN | apply bD)); exact BK137.out) hb)
   replace HB := aMk (below_step (by repeat (first | (with_reducible first | exact HB.out | apply eA | apply eN | apply eD | refine eS ?_ GE114.out | refine eS ?_ GE128.out | refine eS ?_ GE137.out) | exact HB.out)) hb)
   clear hb hbox hg
   refine hK.out _ _ ⟨(blk_cell BK137.out 0).trans rfl, (blk_cell BK137.out 1).trans rfl⟩ (fun hHeld => ?_)
   clear hK K
   refine norm_ (a' := ?_) ?_ ?_
   rotate_left
   ·show Act.put _ (some 4) _ = _
    simp only [Act.put, sA, sB, sC, i64_w, i32_w]
    rfl
   exact norm_ (by simp only [putAll, Act.put, sA, sB, sC] <;> rfl) (hJ2_3_5_6 (v141, .slice Ao48 y143.length co48, v149, gb151) _ ⟨hHeld, (by (with_reducible repeat (first | apply rA | apply rN | apply rD)); exact HO119.out), (by (with_reducible repeat (first | apply rA | apply rN | apply rD)); exact HO122.out), (by (with_reducible repeat (first | apply rA | apply rN | apply rD)); exact HO127.out), (by (with_reducible repeat (first | apply rA | apply rN | apply rD)); exact HO131.out), (by (with_reducible repeat (first | apply rA | apply rN | apply rD)); exact HO136.out), (by (with_reducible repeat (first | apply rA | apply rN | apply rD)); exact HO142.out), (by (with_reducible repeat (first | apply rA | apply rN | apply rD)); exact HO145.out), (by (with_reducible repeat (first | apply rA | apply rN | apply rD)); exact HO150.out), (by (with_reducible repeat (first | apply bA | apply bN | apply bD)); exact BK114.out), (by (with_reducible repeat (first | apply bA | apply bN | apply bD)); exact BK128.out), (by (with_reducible repeat (first | apply bA | apply bN | apply bD)); exact BK137.out), (by (with_reducible repeat (first | apply bA | apply bN | apply bD)); exact BK151.out), GW151.out, GE151.out, NB114_151.out, NB151_114.out, NB128_151.out, NB151_128.out, NB137_151.out, NB151_137.out, (by repeat (first | (with_reducible first | exact HB.out | apply eA | apply eN | apply eD | refine eS ?_ GE114.out | refine eS ?_ GE128.out | refine eS ?_ GE137.out | refine eS ?_ GE151.out) | exact HB.out))⟩)
 rintro ⟨v141, v144, v149, gb151⟩ w48 ⟨hS_, h0_, h1_, h2_, h3_, h4_, h5_, h6_, h7_, h8_, h9_, h10_, h11_, h12_, h13_, h14_, h15_, h16_, h17_, h18_, h19_, h20_⟩
 have n0_ : Aside0 (Kd.R Kd.string 9 w48 w.heap.size (fun k_ => some k_ ≠ (.slice Ao24 t125.length co24 : Value).ownBlock ∧ some k_ ≠ (.slice Ao34 t134.length co34 : Value).ownBlock ∧ some k_ ≠ (v141 : Value).ownBlock ∧ some k_ ≠ (v144 : Value).ownBlock ∧ some k_ ≠ (v149 : Value).ownBlock) v118 t117) := ⟨h0_⟩
 have n1_ : Aside0 (Kd.R (Kd.int .i64) 2 w48 w.heap.size (fun k_ => some k_ ≠ (.slice Ao31 y129.length co31 : Value).ownBlock) (.slice Ao21 y120.length co21) y120) := ⟨h1_⟩
 have n2_ : Aside0 (Kd.R Kd.string 9 w48 w.heap.size (fun k_ => some k_ ≠ (v118 : Value).ownBlock ∧ some k_ ≠ (.slice Ao34 t134.length co34 : Value).ownBlock ∧ some k_ ≠ (v141 : Value).ownBlock ∧ some k_ ≠ (v144 : Value).ownBlock ∧ some k_ ≠ (v149 : Value).ownBlock) (.slice Ao24 t125.length co24) t125) := ⟨h2_⟩
 have n3_ : Aside0 (Kd.R (Kd.int .i64) 2 w48 w.heap.size (fun k_ => some k_ ≠ (.slice Ao21 y120.length co21 : Value).ownBlock) (.slice Ao31 y129.length co31) y129) := ⟨h3_⟩
 have n4_ : Aside0 (Kd.R Kd.string 9 w48 w.heap.size (fun k_ => some k_ ≠ (v118 : Value).ownBlock ∧ some k_ ≠ (.slice Ao24 t125.length co24 : Value).ownBlock ∧ some k_ ≠ (v141 : Value).ownBlock ∧ some k_ ≠ (v144 : Value).ownBlock ∧ some k_ ≠ (v149 : Value).ownBlock) (.slice Ao34 t134.length co34) t134) := ⟨h4_⟩
 have n5_ : Aside0 (Kd.R Kd.string 9 w48 w.heap.size (fun k_ => some k_ ≠ (v118 : Value).ownBlock ∧ some k_ ≠ (.slice Ao24 t125.length co24 : Value).ownBlock ∧ some k_ ≠ (.slice Ao34 t134.length co34 : Value).ownBlock ∧ some k_ ≠ (v144 : Value).ownBlock ∧ some k_ ≠ (v149 : Value).ownBlock) v141 t140) := ⟨h5_⟩
 have n6_ : Aside0 (Kd.R Kd.string 9 w48 w.heap.size (fun k_ => some k_ ≠ (v118 : Value).ownBlock ∧ some k_ ≠ (.slice Ao24 t125.length co24 : Value).ownBlock ∧ some k_ ≠ (.slice Ao34 t134.length co34 : Value).ownBlock ∧ some k_ ≠ (v141 : Value).ownBlock ∧ some k_ ≠ (v149 : Value).ownBlock) v144 y143) := ⟨h6_⟩
 have n7_ : Aside0 (Kd.R Kd.string 9 w48 w.heap.size (fun k_ => some k_ ≠ (v118 : Value).ownBlock ∧ some k_ ≠ (.slice Ao24 t125.length co24 : Value).ownBlock ∧ some k_ ≠ (.slice Ao34 t134.length co34 : Value).ownBlock ∧ some k_ ≠ (v141 : Value).ownBlock ∧ some k_ ≠ (v144 : Value).ownBlock) v149 t148) := ⟨h7_⟩
 have n8_ : Aside0 (w48.heap[gb114]? = some (.cells #[.int .i64 2, .int .i64 0] 23 (0, 0))) := ⟨h8_⟩
 have n9_ : Aside0 (w48.heap[gb128]? = some (.cells #[.int .u64 t132, .int .i64 t133, .slice Ao34 t134.length co34] 33 (0, 0))) := ⟨h9_⟩
 have n10_ : Aside0 (w48.heap[gb137]? = some (.cells #[.int .i64 5, .int .i64 0] 23 (0, 0))) := ⟨h10_⟩
 have n11_ : Aside0 (w48.heap[gb151]? = some (.cells #[.int .u64 0, .int .i64 0, .slice none 0 0] 33 (0, 0))) := ⟨h11_⟩
 have n12_ : Aside0 (w.heap.size ≤ gb151) := ⟨h12_⟩
 have n13_ : Aside0 (w.heap.size ≤ gb151) := ⟨h13_⟩
 have n14_ : Aside0 (gb114 ≠ gb151) := ⟨h14_⟩
 have n15_ : Aside0 (gb151 ≠ gb114) := ⟨h15_⟩
 have n16_ : Aside0 (gb128 ≠ gb151) := ⟨h16_⟩
 have n17_ : Aside0 (gb151 ≠ gb128) := ⟨h17_⟩
 have n18_ : Aside0 (gb137 ≠ gb151) := ⟨h18_⟩
 have n19_ : Aside0 (gb151 ≠ gb137) := ⟨h19_⟩
 have n20_ : Aside0 (Below w.heap.size w w48) := ⟨h20_⟩
 clear HO119
 clear HO122
 clear HO127
 clear HO131
 clear HO136
 clear BK114
 clear BK128
 clear BK137
 clear HB
 clear h0_ h1_ h2_ h3_ h4_ h5_ h6_ h7_ h8_ h9_ h10_ h11_ h12_ h13_ h14_ h15_ h16_ h17_ h18_ h19_ h20_
 have HO119 := n0_
 have HO122 := n1_
 have HO127 := n2_
 have HO131 := n3_
 have HO136 := n4_
 have HO142 := n5_
 have HO145 := n6_
 have HO150 := n7_
 have BK114 := n8_
 have BK128 := n9_
 have BK137 := n10_
 have BK151 := n11_
 have GW151 := n12_
 have GE151 := n13_
 have NB114_151 := n14_
 have NB151_114 := n15_
 have NB128_151 := n16_
 have NB151_128 := n17_
 have NB137_151 := n18_
 have NB151_137 := n19_
 have HB := n20_
 clear n0_ n1_ n2_ n3_ n4_ n5_ n6_ n7_ n8_ n9_ n10_ n11_ n12_ n13_ n14_ n15_ n16_ n17_ n18_ n19_ n20_
 have hHeld : w48.cell? ⟨gb137, 0, none⟩ = some (.int .i64 5) ∧ w48.cell? ⟨gb137, 1, none⟩ = some (.int .i64 0) := hS_
 obtain ⟨Ao49, co49, eo49⟩ := Kd.R_slice HO145.out
 (first | subst eo49 | (injection eo49 with f1_ f2_ f3_; have f4_ := f1_.symm; have f5_ := f3_.symm; clear f1_ f2_ f3_; subst f4_; subst f5_))
 obtain ⟨Ao52, co52, eo52⟩ := Kd.R_slice HO150.out
 (first | subst eo52 | (injection eo52 with f1_ f2_ f3_; have f4_ := f1_.symm; have f5_ := f3_.symm; clear f1_ f2_ f3_; subst f4_; subst f5_))
 refine norm_ (a' := ?_) ?_ ?_
 rotate_left
 ·simp only [putAll, Act.put, sA, sB, sC]
  rfl
 refine one_ (i := 7) (N := none) #[true, true, true, true, true, true, true, true] rfl rfl (one_of HT_.out (by kernel_rfl)) (by decide) (fun K hK => ?_)
 have hs50 : w48.cell? ⟨gb151, 0, none⟩ = some (.int .u64 0) := (blk_cell BK151.out 0).trans rfl
 have hfs50 := blk_frozen BK151.out 0
 have hns50_0 := NB114_151.out
 have hns50_1 := NB128_151.out
 have hns50_2 := NB137_151.out
 have hms50_0 := NB151_114.out
 have hms50_1 := NB151_128.out
 have hms50_2 := NB151_137.out
 have hs51 : w48.cell? ⟨gb151, 1, none⟩ = some (.int .i64 0) := (blk_cell BK151.out 1).trans rfl
 have hfs51 := blk_frozen BK151.out 1
 have hns51_0 := NB114_151.out
 have hns51_1 := NB128_151.out
 have hns51_2 := NB137_151.out
 have hms51_0 := NB151_114.out
 have hms51_1 := NB151_128.out
 have hms51_2 := NB151_137.out
 have hs53 : w48.cell? ⟨gb151, 2, none⟩ = some (.slice none 0 0) := (blk_cell BK151.out 2).trans rfl
 have hfs53 := blk_frozen BK151.out 2
 have hns53_0 := NB114_151.out
 have hns53_1 := NB128_151.out
 have hns53_2 := NB137_151.out
 have hms53_0 := NB151_114.out
 have hms53_1 := NB151_128.out
 have hms53_2 := NB151_137.out
 refine skip_ (w1 := ?_) (by rfl) rfl ?_ ?_
 rotate_left
 ·go_simp
  rfl
 refine hK.out _ _ ⟨((cell_far (p := ⟨gb151, _, none⟩) NB137_151.out _).trans (((cell_far (p := ⟨gb151, _, none⟩) NB137_151.out _).trans (((cell_far (p := ⟨gb151, _, none⟩) NB137_151.out _).trans (hHeld.1)))))), ((cell_far (p := ⟨gb151, _, none⟩) NB137_151.out _).trans (((cell_far (p := ⟨gb151, _, none⟩) NB137_151.out _).trans (((cell_far (p := ⟨gb151, _, none⟩) NB137_151.out _).trans (hHeld.2))))))⟩ (fun hHeld => ?_)
 clear hK K
 refine done_ (done_of HT_.out (by kernel_rfl)) ?_
 try go_wp2
 have n0_ : Aside0 (Kd.R Kd.string 9 (((w48.setCell ⟨gb151, 0, none⟩ (.int .u64 t146)).setCell ⟨gb151, 1, none⟩ (.int .i64 t147)).setCell ⟨gb151, 2, none⟩ (.slice Ao52 t148.length co52)) w.heap.size (fun k_ => some k_ ≠ (.slice Ao24 t125.length co24 : Value).ownBlock ∧ some k_ ≠ (.slice Ao34 t134.length co34 : Value).ownBlock ∧ some k_ ≠ (v141 : Value).ownBlock ∧ some k_ ≠ (.slice Ao49 y143.length co49 : Value).ownBlock ∧ some k_ ≠ (.slice Ao52 t148.length co52 : Value).ownBlock) v118 t117) := ⟨by (with_reducible repeat (first | apply rA | apply rN | apply rD)); exact Kd.R_mono (Kd.R_far (p := ⟨gb151, 2, none⟩) (Kd.R_far (p := ⟨gb151, 1, none⟩) (Kd.R_far (p := ⟨gb151, 0, none⟩) (Kd.R_types HO119.out BK151.out (by decide)) (fun _ hk => hk.2) (.int .u64 t146)) (fun _ hk => hk.2) (.int .i64 t147)) (fun _ hk => hk.2) (.slice Ao52 t148.length co52)) (fun _ hk => ⟨hk.1.1, ⟨hk.1.2.1, ⟨hk.1.2.2.1, ⟨hk.1.2.2.2.1, hk.1.2.2.2.2⟩⟩⟩⟩)⟩
 have n1_ : Aside0 (Kd.R (Kd.int .i64) 2 (((w48.setCell ⟨gb151, 0, none⟩ (.int .u64 t146)).setCell ⟨gb151, 1, none⟩ (.int .i64 t147)).setCell ⟨gb151, 2, none⟩ (.slice Ao52 t148.length co52)) w.heap.size (fun k_ => some k_ ≠ (.slice Ao31 y129.length co31 : Value).ownBlock) (.slice Ao21 y120.length co21) y120) := ⟨by (with_reducible repeat (first | apply rA | apply rN | apply rD)); exact Kd.R_mono (Kd.R_far (p := ⟨gb151, 2, none⟩) (Kd.R_far (p := ⟨gb151, 1, none⟩) (Kd.R_far (p := ⟨gb151, 0, none⟩) (Kd.R_types HO122.out BK151.out (by decide)) (fun _ hk => hk.2) (.int .u64 t146)) (fun _ hk => hk.2) (.int .i64 t147)) (fun _ hk => hk.2) (.slice Ao52 t148.length co52)) (fun _ hk => hk.1)⟩
 have n2_ : Aside0 (Kd.R Kd.string 9 (((w48.setCell ⟨gb151, 0, none⟩ (.int .u64 t146)).setCell ⟨gb151, 1, none⟩ (.int .i64 t147)).setCell ⟨gb151, 2, none⟩ (.slice Ao52 t148.length co52)) w.heap.size (fun k_ => some k_ ≠ (v118 : Value).ownBlock ∧ some k_ ≠ (.slice Ao34 t134.length co34 : Value).ownBlock ∧ some k_ ≠ (v141 : Value).ownBlock ∧ some k_ ≠ (.slice Ao49 y143.length co49 : Value).ownBlock ∧ some k_ ≠ (.slice Ao52 t148.length co52 : Value).ownBlock) (.slice Ao24 t125.length co24) t125) := ⟨by (with_reducible repeat (first | apply rA | apply rN | apply rD)); exact Kd.R_mono (Kd.R_far (p := ⟨gb151, 2, none⟩) (Kd.R_far (p := ⟨gb151, 1, none⟩) (Kd.R_far (p := ⟨gb151, 0, none⟩) (Kd.R_types HO127.out BK151.out (by decide)) (fun _ hk => hk.2) (.int .u64 t146)) (fun _ hk => hk.2) (.int .i64 t147)) (fun _ hk => hk.2) (.slice Ao52 t148.length co52)) (fun _ hk => ⟨hk.1.1, ⟨hk.1.2.1, ⟨hk.1.2.2.1, ⟨hk.1.2.2.2.1, hk.1.2.2.2.2⟩⟩⟩⟩)⟩
 have n3_ : Aside0 (Kd.R (Kd.int .i64) 2 (((w48.setCell ⟨gb151, 0, none⟩ (.int .u64 t146)).setCell ⟨gb151, 1, none⟩ (.int .i64 t147)).setCell ⟨gb151, 2, none⟩ (.slice Ao52 t148.length co52)) w.heap.size (fun k_ => some k_ ≠ (.slice Ao21 y120.length co21 : Value).ownBlock) (.slice Ao31 y129.length co31) y129) := ⟨by (with_reducible repeat (first | apply rA | apply rN | apply rD)); exact Kd.R_mono (Kd.R_far (p := ⟨gb151, 2, none⟩) (Kd.R_far (p := ⟨gb151, 1, none⟩) (Kd.R_far (p := ⟨gb151, 0, none⟩) (Kd.R_types HO131.out BK151.out (by decide)) (fun _ hk => hk.2) (.int .u64 t146)) (fun _ hk => hk.2) (.int .i64 t147)) (fun _ hk => hk.2) (.slice Ao52 t148.length co52)) (fun _ hk => hk.1)⟩
 have n4_ : Aside0 (Kd.R Kd.string 9 (((w48.setCell ⟨gb151, 0, none⟩ (.int .u64 t146)).setCell ⟨gb151, 1, none⟩ (.int .i64 t147)).setCell ⟨gb151, 2, none⟩ (.slice Ao52 t148.length co52)) w.heap.size (fun k_ => some k_ ≠ (v118 : Value).ownBlock ∧ some k_ ≠ (.slice Ao24 t125.length co24 : Value).ownBlock ∧ some k_ ≠ (v141 : Value).ownBlock ∧ some k_ ≠ (.slice Ao49 y143.length co49 : Value).ownBlock ∧ some k_ ≠ (.slice Ao52 t148.length co52 : Value).ownBlock) (.slice Ao34 t134.length co34) t134) := ⟨by (with_reducible repeat (first | apply rA | apply rN | apply rD)); exact Kd.R_mono (Kd.R_far (p := ⟨gb151, 2, none⟩) (Kd.R_far (p := ⟨gb151, 1, none⟩) (Kd.R_far (p := ⟨gb151, 0, none⟩) (Kd.R_types HO136.out BK151.out (by decide)) (fun _ hk => hk.2) (.int .u64 t146)) (fun _ hk => hk.2) (.int .i64 t147)) (fun _ hk => hk.2) (.slice Ao52 t148.length co52)) (fun _ hk => ⟨hk.1.1, ⟨hk.1.2.1, ⟨hk.1.2.2.1, ⟨hk.1.2.2.2.1, hk.1.2.2.2.2⟩⟩⟩⟩)⟩
 have n5_ : Aside0 (Kd.R Kd.string 9 (((w48.setCell ⟨gb151, 0, none⟩ (.int .u64 t146)).setCell ⟨gb151, 1, none⟩ (.int .i64 t147)).setCell ⟨gb151, 2, none⟩ (.slice Ao52 t148.length co52)) w.heap.size (fun k_ => some k_ ≠ (v118 : Value).ownBlock ∧ some k_ ≠ (.slice Ao24 t125.length co24 : Value).ownBlock ∧ some k_ ≠ (.slice Ao34 t134.length co34 : Value).ownBlock ∧ some k_ ≠ (.slice Ao49 y143.length co49 : Value).ownBlock ∧ some k_ ≠ (.slice Ao52 t148.length co52 : Value).ownBlock) v141 t140) := ⟨by (with_reducible repeat (first | apply rA | apply rN | apply rD)); exact Kd.R_mono (Kd.R_far (p := ⟨gb151, 2, none⟩) (Kd.R_far (p := ⟨gb151, 1, none⟩) (Kd.R_far (p := ⟨gb151, 0, none⟩) (Kd.R_types HO142.out BK151.out (by decide)) (fun _ hk => hk.2) (.int .u64 t146)) (fun _ hk => hk.2) (.int .i64 t147)) (fun _ hk => hk.2) (.slice Ao52 t148.length co52)) (fun _ hk => ⟨hk.1.1, ⟨hk.1.2.1, ⟨hk.1.2.2.1, ⟨hk.1.2.2.2.1, hk.1.2.2.2.2⟩⟩⟩⟩)⟩
 have n6_ : Aside0 (Kd.R Kd.string 9 (((w48.setCell ⟨gb151, 0, none⟩ (.int .u64 t146)).setCell ⟨gb151, 1, none⟩ (.int .i64 t147)).setCell ⟨gb151, 2, none⟩ (.slice Ao52 t148.length co52)) w.heap.size (fun k_ => some k_ ≠ (v118 : Value).ownBlock ∧ some k_ ≠ (.slice Ao24 t125.length co24 : Value).ownBlock ∧ some k_ ≠ (.slice Ao34 t134.length co34 : Value).ownBlock ∧ some k_ ≠ (v141 : Value).ownBlock ∧ some k_ ≠ (.slice Ao52 t148.length co52 : Value).ownBlock) (.slice Ao49 y143.length co49) y143) := ⟨by (with_reducible repeat (first | apply rA | apply rN | apply rD)); exact Kd.R_mono (Kd.R_far (p := ⟨gb151, 2, none⟩) (Kd.R_far (p := ⟨gb151, 1, none⟩) (Kd.R_far (p := ⟨gb151, 0, none⟩) (Kd.R_types HO145.out BK151.out (by decide)) (fun _ hk => hk.2) (.int .u64 t146)) (fun _ hk => hk.2) (.int .i64 t147)) (fun _ hk => hk.2) (.slice Ao52 t148.length co52)) (fun _ hk => ⟨hk.1.1, ⟨hk.1.2.1, ⟨hk.1.2.2.1, ⟨hk.1.2.2.2.1, hk.1.2.2.2.2⟩⟩⟩⟩)⟩
 have n7_ : Aside0 (Kd.R Kd.string 9 (((w48.setCell ⟨gb151, 0, none⟩ (.int .u64 t146)).setCell ⟨gb151, 1, none⟩ (.int .i64 t147)).setCell ⟨gb151, 2, none⟩ (.slice Ao52 t148.length co52)) w.heap.size (fun k_ => some k_ ≠ (v118 : Value).ownBlock ∧ some k_ ≠ (.slice Ao24 t125.length co24 : Value).ownBlock ∧ some k_ ≠ (.slice Ao34 t134.length co34 : Value).ownBlock ∧ some k_ ≠ (v141 : Value).ownBlock ∧ some k_ ≠ (.slice Ao49 y143.length co49 : Value).ownBlock) (.slice Ao52 t148.length co52) t148) := ⟨by (with_reducible repeat (first | apply rA | apply rN | apply rD)); exact Kd.R_mono (Kd.R_far (p := ⟨gb151, 2, none⟩) (Kd.R_far (p := ⟨gb151, 1, none⟩) (Kd.R_far (p := ⟨gb151, 0, none⟩) (Kd.R_types HO150.out BK151.out (by decide)) (fun _ hk => hk.2) (.int .u64 t146)) (fun _ hk => hk.2) (.int .i64 t147)) (fun _ hk => hk.2) (.slice Ao52 t148.length co52)) (fun _ hk => ⟨hk.1.1, ⟨hk.1.2.1, ⟨hk.1.2.2.1, ⟨hk.1.2.2.2.1, hk.1.2.2.2.2⟩⟩⟩⟩)⟩
 have n8_ : Aside0 ((((w48.setCell ⟨gb151, 0, none⟩ (.int .u64 t146)).setCell ⟨gb151, 1, none⟩ (.int .i64 t147)).setCell ⟨gb151, 2, none⟩ (.slice Ao52 t148.length co52)).heap[gb114]? = some (.cells #[.int .i64 2, .int .i64 0] 23 (0, 0))) := ⟨by (with_reducible repeat (first | apply bA | apply bN | apply bD)); refine blk_far ?_ NB114_151.out _; (with_reducible repeat (first | apply bA | apply bN | apply bD)); refine blk_far ?_ NB114_151.out _; (with_reducible repeat (first | apply bA | apply bN | apply bD)); refine blk_far ?_ NB114_151.out _; (with_reducible repeat (first | apply bA | apply bN | apply bD)); exact BK114.out⟩
 have n9_ : Aside0 ((((w48.setCell ⟨gb151, 0, none⟩ (.int .u64 t146)).setCell ⟨gb151, 1, none⟩ (.int .i64 t147)).setCell ⟨gb151, 2, none⟩ (.slice Ao52 t148.length co52)).heap[gb128]? = some (.cells #[.int .u64 t132, .int .i64 t133, .slice Ao34 t134.length co34] 33 (0, 0))) := ⟨by (with_reducible repeat (first | apply bA | apply bN | apply bD)); refine blk_far ?_ NB128_151.out _; (with_reducible repeat (first | apply bA | apply bN | apply bD)); refine blk_far ?_ NB128_151.out _; (with_reducible repeat (first | apply bA | apply bN | apply bD)); refine blk_far ?_ NB128_151.out _; (with_reducible repeat (first | apply bA | apply bN | apply bD)); exact BK128.out⟩
 have n10_ : Aside0 ((((w48.setCell ⟨gb151, 0, none⟩ (.int .u64 t146)).setCell ⟨gb151, 1, none⟩ (.int .i64 t147)).setCell ⟨gb151, 2, none⟩ (.slice Ao52 t148.length co52)).heap[gb137]? = some (.cells #[.int .i64 5, .int .i64 0] 23 (0, 0))) := ⟨by (with_reducible repeat (first | apply bA | apply bN | apply bD)); refine blk_far ?_ NB137_151.out _; (with_reducible repeat (first | apply bA | apply bN | apply bD)); refine blk_far ?_ NB137_151.out _; (with_reducible repeat (first | apply bA | apply bN | apply bD)); refine blk_far ?_ NB137_151.out _; (with_reducible repeat (first | apply bA | apply bN | apply bD)); exact BK137.out⟩
 have n11_ : Aside0 ((((w48.setCell ⟨gb151, 0, none⟩ (.int .u64 t146)).setCell ⟨gb151, 1, none⟩ (.int .i64 t147)).setCell ⟨gb151, 2, none⟩ (.slice Ao52 t148.length co52)).heap[gb151]? = some (.cells #[.int .u64 t146, .int .i64 t147, .slice Ao52 t148.length co52] 33 (0, 0))) := ⟨by (with_reducible repeat (first | apply bA | apply bN | apply bD)); refine blk_put (cs := #[.int .u64 t146, .int .i64 t147, .slice none 0 0]) ?_ 2 _ rfl; (with_reducible repeat (first | apply bA | apply bN | apply bD)); refine blk_put (cs := #[.int .u64 t146, .int .i64 0, .slice none 0 0]) ?_ 1 _ rfl; (with_reducible repeat (first | apply bA | apply bN | apply bD)); refine blk_put (cs := #[.int .u64 0, .int .i64 0, .slice none 0 0]) ?_ 0 _ rfl; (with_reducible repeat (first | apply bA | apply bN | apply bD)); exact BK151.out⟩
 have n12_ : Aside0 (Below w.heap.size w (((w48.setCell ⟨gb151, 0, none⟩ (.int .u64 t146)).setCell ⟨gb151, 1, none⟩ (.int .i64 t147)).setCell ⟨gb151, 2, none⟩ (.slice Ao52 t148.length co52))) := ⟨by repeat (first | (with_reducible first | exact HB.out | apply eA | apply eN | apply eD | refine eS ?_ GE114.out | refine eS ?_ GE128.out | refine eS ?_ GE137.out | refine eS ?_ GE151.out) | exact HB.out)⟩
 (try clear HO119)
 (try clear HO122)
 (try clear HO127)
 (try clear HO131)
 (try clear HO136)
 (try clear HO142)
 (try clear HO145)
 (try clear HO150)
 (try clear BK114)
 (try clear BK128)
 (try clear BK137)
 (try clear BK151)
 (try clear HB)
 generalize (((w48.setCell ⟨gb151, 0, none⟩ (.int .u64 t146)).setCell ⟨gb151, 1, none⟩ (.int .i64 t147)).setCell ⟨gb151, 2, none⟩ (.slice Ao52 t148.length co52)) = w54 at n0_ n1_ n2_ n3_ n4_ n5_ n6_ n7_ n8_ n9_ n10_ n11_ n12_ ⊢
 have HO119 := n0_
 have HO122 := n1_
 have HO127 := n2_
 have HO131 := n3_
 have HO136 := n4_
 have HO142 := n5_
 have HO145 := n6_
 have HO150 := n7_
 have BK114 := n8_
 have BK128 := n9_
 have BK137 := n10_
 have BK151 := n11_
 have HB := n12_
 clear n0_ n1_ n2_ n3_ n4_ n5_ n6_ n7_ n8_ n9_ n10_ n11_ n12_
 replace HO119 := aMk (rD HO119.out)
 replace HO122 := aMk (rD HO122.out)
 replace HO127 := aMk (rD HO127.out)
 replace HO131 := aMk (rD HO131.out)
 replace HO136 := aMk (rD HO136.out)
 replace HO142 := aMk (rD HO142.out)
 replace HO145 := aMk (rD HO145.out)
 replace HO150 := aMk (rD HO150.out)
 replace BK114 := aMk (bD BK114.out)
 replace BK128 := aMk (bD BK128.out)
 replace BK137 := aMk (bD BK137.out)
 replace BK151 := aMk (bD BK151.out)
 replace HB := aMk (eD HB.out)
 refine start_ (n := 10) (S := fun w' => w'.cell? ⟨gb137, 0, none⟩ = some (.int .i64 5) ∧ w'.cell? ⟨gb137, 1, none⟩ = some (.int .i64 0) ∧ w'.cell? ⟨gb151, 0, none⟩ = some (.int .u64 t146) ∧ w'.cell? ⟨gb151, 1, none⟩ = some (.int .i64 t147) ∧ w'.cell? ⟨gb151, 2, none⟩ = some (.slice Ao52 t148.length co52)) (ds := [9]) #[false, false, false, false, false, false, false, false, false, false] (by kernel_rfl) rfl rfl ⟨(blk_cell BK137.out 0).trans rfl, (blk_cell BK137.out 1).trans rfl, (blk_cell BK151.out 0).trans rfl, (blk_cell BK151.out 1).trans rfl, (blk_cell BK151.out 2).trans rfl⟩ (fun hHeld => ?_); refine with_tabW gristmilllaw06_awake.tab6 gristmilllaw06_awake.bits6 (fun HT_ HW_ => ?_)
 generalize w54.drew = w55 at HO119 HO122 HO127 HO131 HO136 HO142 HO145 HO150 BK114 BK128 BK137 BK151 HB hHeld ⊢
 refine take_ (i := 0) (N := some 24) (v := ?_) (a' := ?_) #[true, false, false, false, false, false, false, false, false, false] rfl rfl (take_ofW HT_.out HW_.out (by kernel_rfl)) (fun _ _ _ h => h) (Or.inl ⟨by rfl, ?_⟩) hHeld ?_ ?_
 rotate_left
 ·rintro w' ⟨s0, s1, s2, s3, s4⟩
  go_simp
  with_reducible rfl
 rotate_left
 ·simp only [Act.put, sA, sB, sC, i64_w, i32_w]
  rfl
 refine take_ (i := 1) (N := some 25) (v := ?_) (a' := ?_) #[true, true, false, false, false, false, false, false, false, false] rfl rfl (take_ofW HT_.out HW_.out (by kernel_rfl)) (fun _ _ _ h => h) (Or.inl ⟨by rfl, ?_⟩) hHeld ?_ ?_
 rotate_left
 ·rintro w' ⟨s0, s1, s2, s3, s4⟩
  go_simp
  with_reducible rfl
 rotate_left
 ·simp only [Act.put, sA, sB, sC, i64_w, i32_w]
  rfl
 refine take_ (i := 2) (N := some 26) (v := ?_) (a' := ?_) #[true, true, true, false, false, false, false, false, false, false] rfl rfl (take_ofW HT_.out HW_.out (by kernel_rfl)) (fun _ _ _ h => h) (Or.inl ⟨by rfl, ?_⟩) hHeld ?_ ?_
 rotate_left
 ·rintro w' ⟨s0, s1, s2, s3, s4⟩
  go_simp
  with_reducible rfl
 rotate_left
 ·simp only [Act.put, sA, sB, sC, i64_w, i32_w]
  rfl
 refine take_ (i := 3) (N := some 27) (v := ?_) (a' := ?_) #[true, true, true, true, false, false, false, false, false, false] rfl rfl (take_ofW HT_.out HW_.out (by kernel_rfl)) (fun _ _ _ h => h) (Or.inl ⟨by rfl, ?_⟩) hHeld ?_ ?_
 rotate_left
 ·rintro w' ⟨s0, s1, s2, s3, s4⟩
  go_simp
  with_reducible rfl
 rotate_left
 ·simp only [Act.put, sA, sB, sC, i64_w, i32_w]
  rfl
 refine join_ (σ := Value × Value) 3 #[true, true, true, true, true, true, true, false, false, false] (fun s_ => [(28, .agg #[.int .u64 t152, .int .i64 t153, s_.1]), (29, s_.2), (30, .agg #[.int .i64 0, s_.2, .slice none 0 0])]) (fun s_ w' => (w'.cell? ⟨gb137, 0, none⟩ = some (.int .i64 5) ∧ w'.cell? ⟨gb137, 1, none⟩ = some (.int .i64 0) ∧ w'.cell? ⟨gb151, 0, none⟩ = some (.int .u64 t146) ∧ w'.cell? ⟨gb151, 1, none⟩ = some (.int .i64 t147) ∧ w'.cell? ⟨gb151, 2, none⟩ = some (.slice Ao52 t148.length co52)) ∧ (Kd.R Kd.string 9 w' w.heap.size (fun k_ => some k_ ≠ (.slice Ao24 t125.length co24 : Value).ownBlock ∧ some k_ ≠ (.slice Ao34 t134.length co34 : Value).ownBlock ∧ some k_ ≠ (v141 : Value).ownBlock ∧ some k_ ≠ (.slice Ao49 y143.length co49 : Value).ownBlock ∧ some k_ ≠ (.slice Ao52 t148.length co52 : Value).ownBlock ∧ some k_ ≠ (s_.1 : Value).ownBlock ∧ some k_ ≠ (s_.2 : Value).ownBlock) v118 t117) ∧ (Kd.R (Kd.int .i64) 2 w' w.heap.size (fun k_ => some k_ ≠ (.slice Ao31 y129.length co31 : Value).ownBlock) (.slice Ao21 y120.length co21) y120) ∧ (Kd.R Kd.string 9 w' w.heap.size (fun k_ => some k_ ≠ (v118 : Value).ownBlock ∧ some k_ ≠ (.slice Ao34 t134.length co34 : Value).ownBlock ∧ some k_ ≠ (v141 : Value).ownBlock ∧ some k_ ≠ (.slice Ao49 y143.length co49 : Value).ownBlock ∧ some k_ ≠ (.slice Ao52 t148.length co52 : Value).ownBlock ∧ some k_ ≠ (s_.1 : Value).ownBlock ∧ some k_ ≠ (s_.2 : Value).ownBlock) (.slice Ao24 t125.length co24) t125) ∧ (Kd.R (Kd.int .i64) 2 w' w.heap.size (fun k_ => some k_ ≠ (.slice Ao21 y120.length co21 : Value).ownBlock) (.slice Ao31 y129.length co31) y129) ∧ (Kd.R Kd.string 9 w' w.heap.size (fun k_ => some k_ ≠ (v118 : Value).ownBlock ∧ some k_ ≠ (.slice Ao24 t125.length co24 : Value).ownBlock ∧ some k_ ≠ (v141 : Value).ownBlock ∧ some k_ ≠ (.slice Ao49 y143.length co49 : Value).ownBlock ∧ some k_ ≠ (.slice Ao52 t148.length co52 : Value).ownBlock ∧ some k_ ≠ (s_.1 : Value).ownBlock ∧ some k_ ≠ (s_.2 : Value).ownBlock) (.slice Ao34 t134.length co34) t134) ∧ (Kd.R Kd.string 9 w' w.heap.size (fun k_ => some k_ ≠ (v118 : Value).ownBlock ∧ some k_ ≠ (.slice Ao24 t125.length co24 : Value).ownBlock ∧ some k_ ≠ (.slice Ao34 t134.length co34 : Value).ownBlock ∧ some k_ ≠ (.slice Ao49 y143.length co49 : Value).ownBlock ∧ some k_ ≠ (.slice Ao52 t148.length co52 : Value).ownBlock ∧ some k_ ≠ (s_.1 : Value).ownBlock ∧ some k_ ≠ (s_.2 : Value).ownBlock) v141 t140) ∧ (Kd.R Kd.string 9 w' w.heap.size (fun k_ => some k_ ≠ (v118 : Value).ownBlock ∧ some k_ ≠ (.slice Ao24 t125.length co24 : Value).ownBlock ∧ some k_ ≠ (.slice Ao34 t134.length co34 : Value).ownBlock ∧ some k_ ≠ (v141 : Value).ownBlock ∧ some k_ ≠ (.slice Ao52 t148.length co52 : Value).ownBlock ∧ some k_ ≠ (s_.1 : Value).ownBlock ∧ some k_ ≠ (s_.2 : Value).ownBlock) (.slice Ao49 y143.length co49) y143) ∧ (Kd.R Kd.string 9 w' w.heap.size (fun k_ => some k_ ≠ (v118 : Value).ownBlock ∧ some k_ ≠ (.slice Ao24 t125.length co24 : Value).ownBlock ∧ some k_ ≠ (.slice Ao34 t134.length co34 : Value).ownBlock ∧ some k_ ≠ (v141 : Value).ownBlock ∧ some k_ ≠ (.slice Ao49 y143.length co49 : Value).ownBlock ∧ some k_ ≠ (s_.1 : Value).ownBlock ∧ some k_ ≠ (s_.2 : Value).ownBlock) (.slice Ao52 t148.length co52) t148) ∧ (Kd.R Kd.string 9 w' w.heap.size (fun k_ => some k_ ≠ (v118 : Value).ownBlock ∧ some k_ ≠ (.slice Ao24 t125.length co24 : Value).ownBlock ∧ some k_ ≠ (.slice Ao34 t134.length co34 : Value).ownBlock ∧ some k_ ≠ (v141 : Value).ownBlock ∧ some k_ ≠ (.slice Ao49 y143.length co49 : Value).ownBlock ∧ some k_ ≠ (.slice Ao52 t148.length co52 : Value).ownBlock ∧ some k_ ≠ (s_.2 : Value).ownBlock) s_.1 t154) ∧ (Kd.R Kd.string 9 w' w.heap.size (fun k_ => some k_ ≠ (v118 : Value).ownBlock ∧ some k_ ≠ (.slice Ao24 t125.length co24 : Value).ownBlock ∧ some k_ ≠ (.slice Ao34 t134.length co34 : Value).ownBlock ∧ some k_ ≠ (v141 : Value).ownBlock ∧ some k_ ≠ (.slice Ao49 y143.length co49 : Value).ownBlock ∧ some k_ ≠ (.slice Ao52 t148.length co52 : Value).ownBlock ∧ some k_ ≠ (s_.1 : Value).ownBlock) s_.2 y157) ∧ (w'.heap[gb114]? = some (.cells #[.int .i64 2, .int .i64 0] 23 (0, 0))) ∧ (w'.heap[gb128]? = some (.cells #[.int .u64 t132, .int .i64 t133, .slice Ao34 t134.length co34] 33 (0, 0))) ∧ (w'.heap[gb137]? = some (.cells #[.int .i64 5, .int .i64 0] 23 (0, 0))) ∧ (w'.heap[gb151]? = some (.cells #[.int .u64 t146, .int .i64 t147, .slice Ao52 t148.length co52] 33 (0, 0))) ∧ (Below w.heap.size w w')) ?_ ?_
 rotate_left
 ·intro hCont
  refine two_ (i := 4) (j := 5) (Ni := some 28) (Nj := some 29) #[true, true, true, true, true, false, false, false, false, false] #[true, true, true, true, false, true, false, false, false, false] rfl rfl rfl rfl (two_of HT_.out (by kernel_rfl)) (by decide) (by decide) (fun K hK => ?_) (fun K hK => ?_)
  ·skip
   refine goes_ Try.func11 (by kernel_rfl) rfl #[.agg #[.int .i64 5, .int .i64 0]] (by rfl) rfl rfl (by (try simp only [List.map_toArray, List.map_cons, List.map_nil]); first | done | rfl | (simp only [List.length_drop, List.length_take]; rfl)) ?_
   with_reducible refine (agg_Start.calls 5 0 t152 t153 t154 _ A6.out).mono ?_
   rintro e w56 ⟨v155, rfl, ho0, hb⟩
   refine ⟨_, rfl, ?_⟩
   have HO156 := aMk (Kd.R_lower (Kd.R_new' (Kd.R_new' (Kd.R_new' (Kd.R_new' (Kd.R_new' (Kd.R_new' ho0 (Kd.R_lt (by (with_reducible repeat (first | apply rA | apply rN | apply rD)); exact HO119.out))) (Kd.R_lt (by (with_reducible repeat (first | apply rA | apply rN | apply rD)); exact HO127.out))) (Kd.R_lt (by (with_reducible repeat (first | apply rA | apply rN | apply rD)); exact HO136.out))) (Kd.R_lt (by (with_reducible repeat (first | apply rA | apply rN | apply rD)); exact HO142.out))) (Kd.R_lt (by (with_reducible repeat (first | apply rA | apply rN | apply rD)); exact HO145.out))) (Kd.R_lt (by (with_reducible repeat (first | apply rA | apply rN | apply rD)); exact HO150.out))) (below_size (by repeat (first | (with_reducible first | exact HB.out | apply eA | apply eN | apply eD | refine eS ?_ GE114.out | refine eS ?_ GE128.out | refine eS ?_ GE137.out | refine eS ?_ GE151.out) | exact HB.out))))
   replace HO119 := aMk (Kd.R_elder' (by (with_reducible repeat (first | apply rA | apply rN | apply rD)); exact HO119.out) (Kd.R_base ho0) hb)
   replace HO122 := aMk (Kd.R_below (by (with_reducible repeat (first | apply rA | apply rN | apply rD)); exact HO122.out) hb)
   replace HO127 := aMk (Kd.R_elder' (by (with_reducible repeat (first | apply rA | apply rN | apply rD)); exact HO127.out) (Kd.R_base ho0) hb)
   replace HO131 := aMk (Kd.R_below (by (with_reducible repeat (first | apply rA | apply rN | apply rD)); exact HO131.out) hb)
   replace HO136 := aMk (Kd.R_elder' (by (with_reducible repeat (first | apply rA | apply rN | apply rD)); exact HO136.out) (Kd.R_base ho0) hb)
   replace HO142 := aMk (Kd.R_elder' (by (with_reducible repeat (first | apply rA | apply rN | apply rD)); exact HO142.out) (Kd.R_base ho0) hb)
   replace HO145 := aMk (Kd.R_elder' (by (with_reducible repeat (first | apply rA | apply rN | apply rD)); exact HO145.out) (Kd.R_base ho0) hb)
   replace HO150 := aMk (Kd.R_elder' (by (with_reducible repeat (first | apply rA | apply rN | apply rD)); exact HO150.out) (Kd.R_base ho0) hb)
   replace BK114 := aMk (blk_below (g := gb114) (o := .cells #[.int .i64 2, .int .i64 0] 23 (0, 0)) (by (with_reducible repeat (first | apply bA | apply bN | apply bD)); exact BK114.out) hb)
   replace BK128 := aMk (blk_below (g := gb128) (o := .cells #[.int .u64 t132, .int .i64 t133, .slice Ao34 t134.length co34] 33 (0, 0)) (by (with_reducible repeat (first | apply bA | apply bN | apply bD)); exact BK128.out) hb)
   replace BK137 := aMk (blk_below (g := gb137) (o := .cells #[.int .i64 5, .int .i64 0] 23 (0, 0)) (by (with_reducible repeat (first | apply bA | apply bN | apply bD)); exact BK137.out) hb)
   replace BK151 := aMk (blk_below (g := gb151) (o := .cells #[.int .u64 t146, .int .i64 t147, .slice Ao52 t148.length co52] 33 (0, 0)) (by (with_reducible repeat (first | apply bA | apply bN | apply bD)); exact BK151.out) hb)
   replace HB := aMk (below_step (by repeat (first | (with_reducible first | exact HB.out | apply eA | apply eN | apply eD | refine eS ?_ GE114.out | refine eS ?_ GE128.out | refine eS ?_ GE137.out | refine eS ?_ GE151.out) | exact HB.out)) hb)
   (try clear hb)
   (try clear ho0)
   refine hK.out _ _ ⟨(blk_cell BK137.out 0).trans rfl, (blk_cell BK137.out 1).trans rfl, (blk_cell BK151.out 0).trans rfl, (blk_cell BK151.out 1).trans rfl, (blk_cell BK151.out 2).trans rfl⟩ (fun hHeld => ?_)
   clear hK K
   refine norm_ (a' := ?_) ?_ ?_
   rotate_left
   ·show Act.put _ (some 28) _ = _
    simp only [Act.put, sA, sB, sC, i64_w, i32_w]
    rfl
   refine one_ (i := 5) (N := some 29) #[true, true, true, true, true, true, false, false, false, false] rfl rfl (one_of HT_.out (by kernel_rfl)) (by decide) (fun K hK => ?_)
   refine Kd.R_lit_step Kd.string _ 9 ?hg (N := 29) ?hd (xs := ([(⟨#[97]⟩ : ByteArray)] : List ByteArray)) (inner := [.string (⟨#[97]⟩ : ByteArray)]) (ok := fun _ => True) (okp := fun _ => True) ?hr ?hp (fun _ hk => hk) trivial (Below.refl _ _) (Nat.le_refl _) (by simp) ?_; (case hd => rfl); (case hg => rfl); (case hr => first | (go_simp; done) | (go_simp; rfl)); (case hp => exact (Reps.one (show Kd.M Kd.string _ _ _ (⟨#[97]⟩ : ByteArray) [.string (⟨#[97]⟩ : ByteArray)] from rfl) (Reps.none _ _)))
   intro v158 w57 ho58 hb hg_ hnew_
   clear hg_ hnew_
   (first | rw [← Ny157.out] at ho58 | (simp only [Int.reduceToNat] at ho58; rw [← Ny157.out] at ho58))
   have HO159 := aMk (Kd.R_lower (Kd.R_new' (Kd.R_new' (Kd.R_new' (Kd.R_new' (Kd.R_new' (Kd.R_new' (Kd.R_new' ho58 (Kd.R_lt (by (with_reducible repeat (first | apply rA | apply rN | apply rD)); exact HO119.out))) (Kd.R_lt (by (with_reducible repeat (first | apply rA | apply rN | apply rD)); exact HO127.out))) (Kd.R_lt (by (with_reducible repeat (first | apply rA | apply rN | apply rD)); exact HO136.out))) (Kd.R_lt (by (with_reducible repeat (first | apply rA | apply rN | apply rD)); exact HO142.out))) (Kd.R_lt (by (with_reducible repeat (first | apply rA | apply rN | apply rD)); exact HO145.out))) (Kd.R_lt (by (with_reducible repeat (first | apply rA | apply rN | apply rD)); exact HO150.out))) (Kd.R_lt (by (with_reducible repeat (first | apply rA | apply rN | apply rD)); exact HO156.out))) (below_size (by repeat (first | (with_reducible first | exact HB.out | apply eA | apply eN | apply eD | refine eS ?_ GE114.out | refine eS ?_ GE128.out | refine eS ?_ GE137.out | refine eS ?_ GE151.out) | exact HB.out))))
   replace HO119 := aMk (Kd.R_elder' (by (with_reducible repeat (first | apply rA | apply rN | apply rD)); exact HO119.out) (Kd.R_base ho58) hb)
   replace HO122 := aMk (Kd.R_below (by (with_reducible repeat (first | apply rA | apply rN | apply rD)); exact HO122.out) hb)
   replace HO127 := aMk (Kd.R_elder' (by (with_reducible repeat (first | apply rA | apply rN | apply rD)); exact HO127.out) (Kd.R_base ho58) hb)
   replace HO131 := aMk (Kd.R_below (by (with_reducible repeat (first | apply rA | apply rN | apply rD)); exact HO131.out) hb)
   replace HO136 := aMk (Kd.R_elder' (by (with_reducible repeat (first | apply rA | apply rN | apply rD)); exact HO136.out) (Kd.R_base ho58) hb)
   replace HO142 := aMk (Kd.R_elder' (by (with_reducible repeat (first | apply rA | apply rN | apply rD)); exact HO142.out) (Kd.R_base ho58) hb)
   replace HO145 := aMk (Kd.R_elder' (by (with_reducible repeat (first | apply rA | apply rN | apply rD)); exact HO145.out) (Kd.R_base ho58) hb)
   replace HO150 := aMk (Kd.R_elder' (by (with_reducible repeat (first | apply rA | apply rN | apply rD)); exact HO150.out) (Kd.R_base ho58) hb)
   replace HO156 := aMk (Kd.R_elder' (by (with_reducible repeat (first | apply rA | apply rN | apply rD)); exact HO156.out) (Kd.R_base ho58) hb)
   replace BK114 := aMk (blk_below (g := gb114) (o := .cells #[.int .i64 2, .int .i64 0] 23 (0, 0)) (by (with_reducible repeat (first | apply bA | apply bN | apply bD)); exact BK114.out) hb)
   replace BK128 := aMk (blk_below (g := gb128) (o := .cells #[.int .u64 t132, .int .i64 t133, .slice Ao34 t134.length co34] 33 (0, 0)) (by (with_reducible repeat (first | apply bA | apply bN | apply bD)); exact BK128.out) hb)
   replace BK137 := aMk (blk_below (g := gb137) (o := .cells #[.int .i64 5, .int .i64 0] 23 (0, 0)) (by (with_reducible repeat (first | apply bA | apply bN | apply bD)); exact BK137.out) hb)
   replace BK151 := aMk (blk_below (g := gb151) (o := .cells #[.int .u64 t146, .int .i64 t147, .slice Ao52 t148.length co52] 33 (0, 0)) (by (with_reducible repeat (first | apply bA | apply bN | apply bD)); exact BK151.out) hb)
   replace HB := aMk (below_step (by repeat (first | (with_reducible first | exact HB.out | apply eA | apply eN | apply eD | refine eS ?_ GE114.out | refine eS ?_ GE128.out | refine eS ?_ GE137.out | refine eS ?_ GE151.out) | exact HB.out)) hb)
   clear hb ho58
   obtain ⟨Ao59, co59, eo59⟩ := Kd.R_slice HO159.out
   (first | subst eo59 | (injection eo59 with f1_ f2_ f3_; have f4_ := f1_.symm; have f5_ := f3_.symm; clear f1_ f2_ f3_; subst f4_; subst f5_))
   refine hK.out _ _ ⟨(blk_cell BK137.out 0).trans rfl, (blk_cell BK137.out 1).trans rfl, (blk_cell BK151.out 0).trans rfl, (blk_cell BK151.out 1).trans rfl, (blk_cell BK151.out 2).trans rfl⟩ (fun hHeld => ?_)
   clear hK K
   refine norm_ (a' := ?_) ?_ ?_
   rotate_left
   ·show Act.put _ (some 29) _ = _
    simp only [Act.put, sA, sB, sC, i64_w, i32_w]
    rfl
   refine pure_ (i := 6) (N := some 30) (v := ?_) (a' := ?_) #[true, true, true, true, true, true, true, false, false, false] rfl rfl (any_of HT_.out (by kernel_rfl)) (fun _ _ _ h => h) (Or.inl ⟨by rfl, ?_⟩) ?_ ?_
   rotate_left
   ·intro w'
    go_simp
    with_reducible rfl
   rotate_left
   ·simp only [Act.put, sA, sB, sC, i64_w, i32_w]
    rfl
   exact norm_ (by simp only [putAll, Act.put, sA, sB, sC]) (hCont (v155, .slice Ao59 y157.length co59) _ ⟨hHeld, (by (with_reducible repeat (first | apply rA | apply rN | apply rD)); exact Kd.R_mono HO119.out (fun _ hk => ⟨hk.1.1.1, ⟨hk.1.1.2.1, ⟨hk.1.1.2.2.1, ⟨hk.1.1.2.2.2.1, ⟨hk.1.1.2.2.2.2, ⟨hk.1.2, hk.2⟩⟩⟩⟩⟩⟩)), (by (with_reducible repeat (first | apply rA | apply rN | apply rD)); exact HO122.out), (by (with_reducible repeat (first | apply rA | apply rN | apply rD)); exact Kd.R_mono HO127.out (fun _ hk => ⟨hk.1.1.1, ⟨hk.1.1.2.1, ⟨hk.1.1.2.2.1, ⟨hk.1.1.2.2.2.1, ⟨hk.1.1.2.2.2.2, ⟨hk.1.2, hk.2⟩⟩⟩⟩⟩⟩)), (by (with_reducible repeat (first | apply rA | apply rN | apply rD)); exact HO131.out), (by (with_reducible repeat (first | apply rA | apply rN | apply rD)); exact Kd.R_mono HO136.out (fun _ hk => ⟨hk.1.1.1, ⟨hk.1.1.2.1, ⟨hk.1.1.2.2.1, ⟨hk.1.1.2.2.2.1, ⟨hk.1.1.2.2.2.2, ⟨hk.1.2, hk.2⟩⟩⟩⟩⟩⟩)), (by (with_reducible repeat (first | apply rA | apply rN | apply rD)); exact Kd.R_mono HO142.out (fun _ hk => ⟨hk.1.1.1, ⟨hk.1.1.2.1, ⟨hk.1.1.2.2.1, ⟨hk.1.1.2.2.2.1, ⟨hk.1.1.2.2.2.2, ⟨hk.1.2, hk.2⟩⟩⟩⟩⟩⟩)), (by (with_reducible repeat (first | apply rA | apply rN | apply rD)); exact Kd.R_mono HO145.out (fun _ hk => ⟨hk.1.1.1, ⟨hk.1.1.2.1, ⟨hk.1.1.2.2.1, ⟨hk.1.1.2.2.2.1, ⟨hk.1.1.2.2.2.2, ⟨hk.1.2, hk.2⟩⟩⟩⟩⟩⟩)), (by (with_reducible repeat (first | apply rA | apply rN | apply rD)); exact Kd.R_mono HO150.out (fun _ hk => ⟨hk.1.1.1, ⟨hk.1.1.2.1, ⟨hk.1.1.2.2.1, ⟨hk.1.1.2.2.2.1, ⟨hk.1.1.2.2.2.2, ⟨hk.1.2, hk.2⟩⟩⟩⟩⟩⟩)), (by (with_reducible repeat (first | apply rA | apply rN | apply rD)); exact Kd.R_mono HO156.out (fun _ hk => ⟨hk.1.1.1.1.1.1.2, ⟨hk.1.1.1.1.1.2, ⟨hk.1.1.1.1.2, ⟨hk.1.1.1.2, ⟨hk.1.1.2, ⟨hk.1.2, hk.2⟩⟩⟩⟩⟩⟩)), (by (with_reducible repeat (first | apply rA | apply rN | apply rD)); exact Kd.R_mono HO159.out (fun _ hk => ⟨hk.1.1.1.1.1.1.2, ⟨hk.1.1.1.1.1.2, ⟨hk.1.1.1.1.2, ⟨hk.1.1.1.2, ⟨hk.1.1.2, ⟨hk.1.2, hk.2⟩⟩⟩⟩⟩⟩)), (by (with_reducible repeat (first | apply bA | apply bN | apply bD)); exact BK114.out), (by (with_reducible repeat (first | apply bA | apply bN | apply bD)); exact BK128.out), (by (with_reducible repeat (first | apply bA | apply bN | apply bD)); exact BK137.out), (by (with_reducible repeat (first | apply bA | apply bN | apply bD)); exact BK151.out), (by repeat (first | (with_reducible first | exact HB.out | apply eA | apply eN | apply eD | refine eS ?_ GE114.out | refine eS ?_ GE128.out | refine eS ?_ GE137.out | refine eS ?_ GE151.out) | exact HB.out))⟩)
  ·skip
   refine Kd.R_lit_step Kd.string _ 9 ?hg (N := 29) ?hd (xs := ([(⟨#[97]⟩ : ByteArray)] : List ByteArray)) (inner := [.string (⟨#[97]⟩ : ByteArray)]) (ok := fun _ => True) (okp := fun _ => True) ?hr ?hp (fun _ hk => hk) trivial (Below.refl _ _) (Nat.le_refl _) (by simp) ?_; (case hd => rfl); (case hg => rfl); (case hr => first | (go_simp; done) | (go_simp; rfl)); (case hp => exact (Reps.one (show Kd.M Kd.string _ _ _ (⟨#[97]⟩ : ByteArray) [.string (⟨#[97]⟩ : ByteArray)] from rfl) (Reps.none _ _)))
   intro v158 w56 ho57 hb hg_ hnew_
   clear hg_ hnew_
   (first | rw [← Ny157.out] at ho57 | (simp only [Int.reduceToNat] at ho57; rw [← Ny157.out] at ho57))
   have HO159 := aMk (Kd.R_lower (Kd.R_new' (Kd.R_new' (Kd.R_new' (Kd.R_new' (Kd.R_new' (Kd.R_new' ho57 (Kd.R_lt (by (with_reducible repeat (first | apply rA | apply rN | apply rD)); exact HO119.out))) (Kd.R_lt (by (with_reducible repeat (first | apply rA | apply rN | apply rD)); exact HO127.out))) (Kd.R_lt (by (with_reducible repeat (first | apply rA | apply rN | apply rD)); exact HO136.out))) (Kd.R_lt (by (with_reducible repeat (first | apply rA | apply rN | apply rD)); exact HO142.out))) (Kd.R_lt (by (with_reducible repeat (first | apply rA | apply rN | apply rD)); exact HO145.out))) (Kd.R_lt (by (with_reducible repeat (first | apply rA | apply rN | apply rD)); exact HO150.out))) (below_size (by repeat (first | (with_reducible first | exact HB.out | apply eA | apply eN | apply eD | refine eS ?_ GE114.out | refine eS ?_ GE128.out | refine eS ?_ GE137.out | refine eS ?_ GE151.out) | exact HB.out))))
   replace HO119 := aMk (Kd.R_elder' (by (with_reducible repeat (first | apply rA | apply rN | apply rD)); exact HO119.out) (Kd.R_base ho57) hb)
   replace HO122 := aMk (Kd.R_below (by (with_reducible repeat (first | apply rA | apply rN | apply rD)); exact HO122.out) hb)
   replace HO127 := aMk (Kd.R_elder' (by (with_reducible repeat (first | apply rA | apply rN | apply rD)); exact HO127.out) (Kd.R_base ho57) hb)
   replace HO131 := aMk (Kd.R_below (by (with_reducible repeat (first | apply rA | apply rN | apply rD)); exact HO131.out) hb)
   replace HO136 := aMk (Kd.R_elder' (by (with_reducible repeat (first | apply rA | apply rN | apply rD)); exact HO136.out) (Kd.R_base ho57) hb)
   replace HO142 := aMk (Kd.R_elder' (by (with_reducible repeat (first | apply rA | apply rN | apply rD)); exact HO142.out) (Kd.R_base ho57) hb)
   replace HO145 := aMk (Kd.R_elder' (by (with_reducible repeat (first | apply rA | apply rN | apply rD)); exact HO145.out) (Kd.R_base ho57) hb)
   replace HO150 := aMk (Kd.R_elder' (by (with_reducible repeat (first | apply rA | apply rN | apply rD)); exact HO150.out) (Kd.R_base ho57) hb)
   replace BK114 := aMk (blk_below (g := gb114) (o := .cells #[.int .i64 2, .int .i64 0] 23 (0, 0)) (by (with_reducible repeat (first | apply bA | apply bN | apply bD)); exact BK114.out) hb)
   replace BK128 := aMk (blk_below (g := gb128) (o := .cells #[.int .u64 t132, .int .i64 t133, .slice Ao34 t134.length co34] 33 (0, 0)) (by (with_reducible repeat (first | apply bA | apply bN | apply bD)); exact BK128.out) hb)
   replace BK137 := aMk (blk_below (g := gb137) (o := .cells #[.int .i64 5, .int .i64 0] 23 (0, 0)) (by (with_reducible repeat (first | apply bA | apply bN | apply bD)); exact BK137.out) hb)
   replace BK151 := aMk (blk_below (g := gb151) (o := .cells #[.int .u64 t146, .int .i64 t147, .slice Ao52 t148.length co52] 33 (0, 0)) (by (with_reducible repeat (first | apply bA | apply bN | apply bD)); exact BK151.out) hb)
   replace HB := aMk (below_step (by repeat (first | (with_reducible first | exact HB.out | apply eA | apply eN | apply eD | refine eS ?_ GE114.out | refine eS ?_ GE128.out | refine eS ?_ GE137.out | refine eS ?_ GE151.out) | exact HB.out)) hb)
   clear hb ho57
   obtain ⟨Ao58, co58, eo58⟩ := Kd.R_slice HO159.out
   (first | subst eo58 | (injection eo58 with f1_ f2_ f3_; have f4_ := f1_.symm; have f5_ := f3_.symm; clear f1_ f2_ f3_; subst f4_; subst f5_))
   refine hK.out _ _ ⟨(blk_cell BK137.out 0).trans rfl, (blk_cell BK137.out 1).trans rfl, (blk_cell BK151.out 0).trans rfl, (blk_cell BK151.out 1).trans rfl, (blk_cell BK151.out 2).trans rfl⟩ (fun hHeld => ?_)
   clear hK K
   refine norm_ (a' := ?_) ?_ ?_
   rotate_left
   ·show Act.put _ (some 29) _ = _
    simp only [Act.put, sA, sB, sC, i64_w, i32_w]
    rfl
   refine pure_ (i := 6) (N := some 30) (v := ?_) (a' := ?_) #[true, true, true, true, false, true, true, false, false, false] rfl rfl (any_of HT_.out (by kernel_rfl)) (fun _ _ _ h => h) (Or.inl ⟨by rfl, ?_⟩) ?_ ?_
   rotate_left
   ·intro w'
    go_simp
    with_reducible rfl
   rotate_left
   ·simp only [Act.put, sA, sB, sC, i64_w, i32_w]
    rfl
   refine one_ (i := 4) (N := some 28) #[true, true, true, true, true, true, true, false, false, false] rfl rfl (one_of HT_.out (by kernel_rfl)) (by decide) (fun K hK => ?_)
   refine goes_ Try.func11 (by kernel_rfl) rfl #[.agg #[.int .i64 5, .int .i64 0]] (by rfl) rfl rfl (by (try simp only [List.map_toArray, List.map_cons, List.map_nil]); first | done | rfl | (simp only [List.length_drop, List.length_take]; rfl)) ?_
   with_reducible refine (agg_Start.calls 5 0 t152 t153 t154 _ A6.out).mono ?_
   rintro e w59 ⟨v155, rfl, ho0, hb⟩
   refine ⟨_, rfl, ?_⟩
   have HO156 := aMk (Kd.R_lower (Kd.R_new' (Kd.R_new' (Kd.R_new' (Kd.R_new' (Kd.R_new' (Kd.R_new' (Kd.R_new' ho0 (Kd.R_lt (by (with_reducible repeat (first | apply rA | apply rN | apply rD)); exact HO119.out))) (Kd.R_lt (by (with_reducible repeat (first | apply rA | apply rN | apply rD)); exact HO127.out))) (Kd.R_lt (by (with_reducible repeat (first | apply rA | apply rN | apply rD)); exact HO136.out))) (Kd.R_lt (by (with_reducible repeat (first | apply rA | apply rN | apply rD)); exact HO142.out))) (Kd.R_lt (by (with_reducible repeat (first | apply rA | apply rN | apply rD)); exact HO145.out))) (Kd.R_lt (by (with_reducible repeat (first | apply rA | apply rN | apply rD)); exact HO150.out))) (Kd.R_lt (by (with_reducible repeat (first | apply rA | apply rN | apply rD)); exact HO159.out))) (below_size (by repeat (first | (with_reducible first | exact HB.out | apply eA | apply eN | apply eD | refine eS ?_ GE114.out | refine eS ?_ GE128.out | refine eS ?_ GE137.out | refine eS ?_ GE151.out) | exact HB.out))))
   replace HO119 := aMk (Kd.R_elder' (by (with_reducible repeat (first | apply rA | apply rN | apply rD)); exact HO119.out) (Kd.R_base ho0) hb)
   replace HO122 := aMk (Kd.R_below (by (with_reducible repeat (first | apply rA | apply rN | apply rD)); exact HO122.out) hb)
   replace HO127 := aMk (Kd.R_elder' (by (with_reducible repeat (first | apply rA | apply rN | apply rD)); exact HO127.out) (Kd.R_base ho0) hb)
   replace HO131 := aMk (Kd.R_below (by (with_reducible repeat (first | apply rA | apply rN | apply rD)); exact HO131.out) hb)
   replace HO136 := aMk (Kd.R_elder' (by (with_reducible repeat (first | apply rA | apply rN | apply rD)); exact HO136.out) (Kd.R_base ho0) hb)
   replace HO142 := aMk (Kd.R_elder' (by (with_reducible repeat (first | apply rA | apply rN | apply rD)); exact HO142.out) (Kd.R_base ho0) hb)
   replace HO145 := aMk (Kd.R_elder' (by (with_reducible repeat (first | apply rA | apply rN | apply rD)); exact HO145.out) (Kd.R_base ho0) hb)
   replace HO150 := aMk (Kd.R_elder' (by (with_reducible repeat (first | apply rA | apply rN | apply rD)); exact HO150.out) (Kd.R_base ho0) hb)
   replace HO159 := aMk (Kd.R_elder' (by (with_reducible repeat (first | apply rA | apply rN | apply rD)); exact HO159.out) (Kd.R_base ho0) hb)
   replace BK114 := aMk (blk_below (g := gb114) (o := .cells #[.int .i64 2, .int .i64 0] 23 (0, 0)) (by (with_reducible repeat (first | apply bA | apply bN | apply bD)); exact BK114.out) hb)
   replace BK128 := aMk (blk_below (g := gb128) (o := .cells #[.int .u64 t132, .int .i64 t133, .slice Ao34 t134.length co34] 33 (0, 0)) (by (with_reducible repeat (first | apply bA | apply bN | apply bD)); exact BK128.out) hb)
   replace BK137 := aMk (blk_below (g := gb137) (o := .cells #[.int .i64 5, .int .i64 0] 23 (0, 0)) (by (with_reducible repeat (first | apply bA | apply bN | apply bD)); exact BK137.out) hb)
   replace BK151 := aMk (blk_below (g := gb151) (o := .cells #[.int .u64 t146, .int .i64 t147, .slice Ao52 t148.length co52] 33 (0, 0)) (by (with_reducible repeat (first | apply bA | apply bN | apply bD)); exact BK151.out) hb)
   replace HB := aMk (below_step (by repeat (first | (with_reducible first | exact HB.out | apply eA | apply eN | apply eD | refine eS ?_ GE114.out | refine eS ?_ GE128.out | refine eS ?_ GE137.out | refine eS ?_ GE151.out) | exact HB.out)) hb)
   (try clear hb)
   (try clear ho0)
   refine hK.out _ _ ⟨(blk_cell BK137.out 0).trans rfl, (blk_cell BK137.out 1).trans rfl, (blk_cell BK151.out 0).trans rfl, (blk_cell BK151.out 1).trans rfl, (blk_cell BK151.out 2).trans rfl⟩ (fun hHeld => ?_)
   clear hK K
   refine norm_ (a' := ?_) ?_ ?_
   rotate_left
   ·show Act.put _ (some 28) _ = _
    simp only [Act.put, sA, sB, sC, i64_w, i32_w]
    rfl
   exact norm_ (by simp only [putAll, Act.put, sA, sB, sC]) (hCont (v155, .slice Ao58 y157.length co58) _ ⟨hHeld, (by (with_reducible repeat (first | apply rA | apply rN | apply rD)); exact Kd.R_mono HO119.out (fun _ hk => ⟨hk.1.1.1, ⟨hk.1.1.2.1, ⟨hk.1.1.2.2.1, ⟨hk.1.1.2.2.2.1, ⟨hk.1.1.2.2.2.2, ⟨hk.2, hk.1.2⟩⟩⟩⟩⟩⟩)), (by (with_reducible repeat (first | apply rA | apply rN | apply rD)); exact HO122.out), (by (with_reducible repeat (first | apply rA | apply rN | apply rD)); exact Kd.R_mono HO127.out (fun _ hk => ⟨hk.1.1.1, ⟨hk.1.1.2.1, ⟨hk.1.1.2.2.1, ⟨hk.1.1.2.2.2.1, ⟨hk.1.1.2.2.2.2, ⟨hk.2, hk.1.2⟩⟩⟩⟩⟩⟩)), (by (with_reducible repeat (first | apply rA | apply rN | apply rD)); exact HO131.out), (by (with_reducible repeat (first | apply rA | apply rN | apply rD)); exact Kd.R_mono HO136.out (fun _ hk => ⟨hk.1.1.1, ⟨hk.1.1.2.1, ⟨hk.1.1.2.2.1, ⟨hk.1.1.2.2.2.1, ⟨hk.1.1.2.2.2.2, ⟨hk.2, hk.1.2⟩⟩⟩⟩⟩⟩)), (by (with_reducible repeat (first | apply rA | apply rN | apply rD)); exact Kd.R_mono HO142.out (fun _ hk => ⟨hk.1.1.1, ⟨hk.1.1.2.1, ⟨hk.1.1.2.2.1, ⟨hk.1.1.2.2.2.1, ⟨hk.1.1.2.2.2.2, ⟨hk.2, hk.1.2⟩⟩⟩⟩⟩⟩)), (by (with_reducible repeat (first | apply rA | apply rN | apply rD)); exact Kd.R_mono HO145.out (fun _ hk => ⟨hk.1.1.1, ⟨hk.1.1.2.1, ⟨hk.1.1.2.2.1, ⟨hk.1.1.2.2.2.1, ⟨hk.1.1.2.2.2.2, ⟨hk.2, hk.1.2⟩⟩⟩⟩⟩⟩)), (by (with_reducible repeat (first | apply rA | apply rN | apply rD)); exact Kd.R_mono HO150.out (fun _ hk => ⟨hk.1.1.1, ⟨hk.1.1.2.1, ⟨hk.1.1.2.2.1, ⟨hk.1.1.2.2.2.1, ⟨hk.1.1.2.2.2.2, ⟨hk.2, hk.1.2⟩⟩⟩⟩⟩⟩)), (by (with_reducible repeat (first | apply rA | apply rN | apply rD)); exact Kd.R_mono HO156.out (fun _ hk => ⟨hk.1.1.1.1.1.1.2, ⟨hk.1.1.1.1.1.2, ⟨hk.1.1.1.1.2, ⟨hk.1.1.1.2, ⟨hk.1.1.2, ⟨hk.1.2, hk.2⟩⟩⟩⟩⟩⟩)), (by (with_reducible repeat (first | apply rA | apply rN | apply rD)); exact Kd.R_mono HO159.out (fun _ hk => ⟨hk.1.1.1.1.1.1.2, ⟨hk.1.1.1.1.1.2, ⟨hk.1.1.1.1.2, ⟨hk.1.1.1.2, ⟨hk.1.1.2, ⟨hk.1.2, hk.2⟩⟩⟩⟩⟩⟩)), (by (with_reducible repeat (first | apply bA | apply bN | apply bD)); exact BK114.out), (by (with_reducible repeat (first | apply bA | apply bN | apply bD)); exact BK128.out), (by (with_reducible repeat (first | apply bA | apply bN | apply bD)); exact BK137.out), (by (with_reducible repeat (first | apply bA | apply bN | apply bD)); exact BK151.out), (by repeat (first | (with_reducible first | exact HB.out | apply eA | apply eN | apply eD | refine eS ?_ GE114.out | refine eS ?_ GE128.out | refine eS ?_ GE137.out | refine eS ?_ GE151.out) | exact HB.out))⟩)
 rintro ⟨v155, v158⟩ w60 ⟨hS_, h0_, h1_, h2_, h3_, h4_, h5_, h6_, h7_, h8_, h9_, h10_, h11_, h12_, h13_, h14_⟩
 have n0_ : Aside0 (Kd.R Kd.string 9 w60 w.heap.size (fun k_ => some k_ ≠ (.slice Ao24 t125.length co24 : Value).ownBlock ∧ some k_ ≠ (.slice Ao34 t134.length co34 : Value).ownBlock ∧ some k_ ≠ (v141 : Value).ownBlock ∧ some k_ ≠ (.slice Ao49 y143.length co49 : Value).ownBlock ∧ some k_ ≠ (.slice Ao52 t148.length co52 : Value).ownBlock ∧ some k_ ≠ (v155 : Value).ownBlock ∧ some k_ ≠ (v158 : Value).ownBlock) v118 t117) := ⟨h0_⟩
 have n1_ : Aside0 (Kd.R (Kd.int .i64) 2 w60 w.heap.size (fun k_ => some k_ ≠ (.slice Ao31 y129.length co31 : Value).ownBlock) (.slice Ao21 y120.length co21) y120) := ⟨h1_⟩
 have n2_ : Aside0 (Kd.R Kd.string 9 w60 w.heap.size (fun k_ => some k_ ≠ (v118 : Value).ownBlock ∧ some k_ ≠ (.slice Ao34 t134.length co34 : Value).ownBlock ∧ some k_ ≠ (v141 : Value).ownBlock ∧ some k_ ≠ (.slice Ao49 y143.length co49 : Value).ownBlock ∧ some k_ ≠ (.slice Ao52 t148.length co52 : Value).ownBlock ∧ some k_ ≠ (v155 : Value).ownBlock ∧ some k_ ≠ (v158 : Value).ownBlock) (.slice Ao24 t125.length co24) t125) := ⟨h2_⟩
 have n3_ : Aside0 (Kd.R (Kd.int .i64) 2 w60 w.heap.size (fun k_ => some k_ ≠ (.slice Ao21 y120.length co21 : Value).ownBlock) (.slice Ao31 y129.length co31) y129) := ⟨h3_⟩
 have n4_ : Aside0 (Kd.R Kd.string 9 w60 w.heap.size (fun k_ => some k_ ≠ (v118 : Value).ownBlock ∧ some k_ ≠ (.slice Ao24 t125.length co24 : Value).ownBlock ∧ some k_ ≠ (v141 : Value).ownBlock ∧ some k_ ≠ (.slice Ao49 y143.length co49 : Value).ownBlock ∧ some k_ ≠ (.slice Ao52 t148.length co52 : Value).ownBlock ∧ some k_ ≠ (v155 : Value).ownBlock ∧ some k_ ≠ (v158 : Value).ownBlock) (.slice Ao34 t134.length co34) t134) := ⟨h4_⟩
 have n5_ : Aside0 (Kd.R Kd.string 9 w60 w.heap.size (fun k_ => some k_ ≠ (v118 : Value).ownBlock ∧ some k_ ≠ (.slice Ao24 t125.length co24 : Value).ownBlock ∧ some k_ ≠ (.slice Ao34 t134.length co34 : Value).ownBlock ∧ some k_ ≠ (.slice Ao49 y143.length co49 : Value).ownBlock ∧ some k_ ≠ (.slice Ao52 t148.length co52 : Value).ownBlock ∧ some k_ ≠ (v155 : Value).ownBlock ∧ some k_ ≠ (v158 : Value).ownBlock) v141 t140) := ⟨h5_⟩
 have n6_ : Aside0 (Kd.R Kd.string 9 w60 w.heap.size (fun k_ => some k_ ≠ (v118 : Value).ownBlock ∧ some k_ ≠ (.slice Ao24 t125.length co24 : Value).ownBlock ∧ some k_ ≠ (.slice Ao34 t134.length co34 : Value).ownBlock ∧ some k_ ≠ (v141 : Value).ownBlock ∧ some k_ ≠ (.slice Ao52 t148.length co52 : Value).ownBlock ∧ some k_ ≠ (v155 : Value).ownBlock ∧ some k_ ≠ (v158 : Value).ownBlock) (.slice Ao49 y143.length co49) y143) := ⟨h6_⟩
 have n7_ : Aside0 (Kd.R Kd.string 9 w60 w.heap.size (fun k_ => some k_ ≠ (v118 : Value).ownBlock ∧ some k_ ≠ (.slice Ao24 t125.length co24 : Value).ownBlock ∧ some k_ ≠ (.slice Ao34 t134.length co34 : Value).ownBlock ∧ some k_ ≠ (v141 : Value).ownBlock ∧ some k_ ≠ (.slice Ao49 y143.length co49 : Value).ownBlock ∧ some k_ ≠ (v155 : Value).ownBlock ∧ some k_ ≠ (v158 : Value).ownBlock) (.slice Ao52 t148.length co52) t148) := ⟨h7_⟩
 have n8_ : Aside0 (Kd.R Kd.string 9 w60 w.heap.size (fun k_ => some k_ ≠ (v118 : Value).ownBlock ∧ some k_ ≠ (.slice Ao24 t125.length co24 : Value).ownBlock ∧ some k_ ≠ (.slice Ao34 t134.length co34 : Value).ownBlock ∧ some k_ ≠ (v141 : Value).ownBlock ∧ some k_ ≠ (.slice Ao49 y143.length co49 : Value).ownBlock ∧ some k_ ≠ (.slice Ao52 t148.length co52 : Value).ownBlock ∧ some k_ ≠ (v158 : Value).ownBlock) v155 t154) := ⟨h8_⟩
 have n9_ : Aside0 (Kd.R Kd.string 9 w60 w.heap.size (fun k_ => some k_ ≠ (v118 : Value).ownBlock ∧ some k_ ≠ (.slice Ao24 t125.length co24 : Value).ownBlock ∧ some k_ ≠ (.slice Ao34 t134.length co34 : Value).ownBlock ∧ some k_ ≠ (v141 : Value).ownBlock ∧ some k_ ≠ (.slice Ao49 y143.length co49 : Value).ownBlock ∧ some k_ ≠ (.slice Ao52 t148.length co52 : Value).ownBlock ∧ some k_ ≠ (v155 : Value).ownBlock) v158 y157) := ⟨h9_⟩
 have n10_ : Aside0 (w60.heap[gb114]? = some (.cells #[.int .i64 2, .int .i64 0] 23 (0, 0))) := ⟨h10_⟩
 have n11_ : Aside0 (w60.heap[gb128]? = some (.cells #[.int .u64 t132, .int .i64 t133, .slice Ao34 t134.length co34] 33 (0, 0))) := ⟨h11_⟩
 have n12_ : Aside0 (w60.heap[gb137]? = some (.cells #[.int .i64 5, .int .i64 0] 23 (0, 0))) := ⟨h12_⟩
 have n13_ : Aside0 (w60.heap[gb151]? = some (.cells #[.int .u64 t146, .int .i64 t147, .slice Ao52 t148.length co52] 33 (0, 0))) := ⟨h13_⟩
 have n14_ : Aside0 (Below w.heap.size w w60) := ⟨h14_⟩
 clear HO119
 clear HO122
 clear HO127
 clear HO131
 clear HO136
 clear HO142
 clear HO145
 clear HO150
 clear BK114
 clear BK128
 clear BK137
 clear BK151
 clear HB
 clear h0_ h1_ h2_ h3_ h4_ h5_ h6_ h7_ h8_ h9_ h10_ h11_ h12_ h13_ h14_
 have HO119 := n0_
 have HO122 := n1_
 have HO127 := n2_
 have HO131 := n3_
 have HO136 := n4_
 have HO142 := n5_
 have HO145 := n6_
 have HO150 := n7_
 have HO156 := n8_
 have HO159 := n9_
 have BK114 := n10_
 have BK128 := n11_
 have BK137 := n12_
 have BK151 := n13_
 have HB := n14_
 clear n0_ n1_ n2_ n3_ n4_ n5_ n6_ n7_ n8_ n9_ n10_ n11_ n12_ n13_ n14_
 have hHeld : w60.cell? ⟨gb137, 0, none⟩ = some (.int .i64 5) ∧ w60.cell? ⟨gb137, 1, none⟩ = some (.int .i64 0) ∧ w60.cell? ⟨gb151, 0, none⟩ = some (.int .u64 t146) ∧ w60.cell? ⟨gb151, 1, none⟩ = some (.int .i64 t147) ∧ w60.cell? ⟨gb151, 2, none⟩ = some (.slice Ao52 t148.length co52) := hS_
 obtain ⟨Ao61, co61, eo61⟩ := Kd.R_slice HO159.out
 (first | subst eo61 | (injection eo61 with f1_ f2_ f3_; have f4_ := f1_.symm; have f5_ := f3_.symm; clear f1_ f2_ f3_; subst f4_; subst f5_))
 obtain ⟨Ao62, co62, eo62⟩ := Kd.R_slice HO156.out
 (first | subst eo62 | (injection eo62 with f1_ f2_ f3_; have f4_ := f1_.symm; have f5_ := f3_.symm; clear f1_ f2_ f3_; subst f4_; subst f5_))
 refine norm_ (a' := ?_) ?_ ?_
 rotate_left
 ·simp only [putAll, Act.put, sA, sB, sC]
  rfl
 refine one_ (i := 7) (N := some 31) #[true, true, true, true, true, true, true, true, false, false] rfl rfl (one_of HT_.out (by kernel_rfl)) (by decide) (fun K hK => ?_)
 refine goes_ Try.func12 (by kernel_rfl) rfl #[.agg #[.int .i64 5, .int .i64 0], .agg #[.int .u64 t152, .int .i64 t153, .slice Ao62 t154.length co62], .agg #[.int .i64 0, .slice Ao61 y157.length co61, .slice none 0 0], .int .u64 1] (by rfl) rfl rfl (by (try simp only [List.map_toArray, List.map_cons, List.map_nil]); first | done | rfl | (simp only [List.length_drop, List.length_take]; rfl)) ?_
 refine (agg_Add.calls 5 0 t152 t153 _ _ t154 0 _ _ y157 _ _ ([] : List Int) 1 t160 t161 t162 _ ?side1 ?side2 ?side3 ?side4 ?side5 ?side6 A7.out).mono ?_
 (case side1 => repeat (first | exact (Kd.R_reads' HO156.out).2.2 | (with_reducible refine cA ?_ _) | (with_reducible refine cN ?_ _) | (with_reducible refine cD ?_)))
 (case side2 => exact (Kd.R_reads' HO156.out).2.1)
 (case side3 => repeat (first | exact (Kd.R_reads' HO159.out).2.2 | (with_reducible refine cA ?_ _) | (with_reducible refine cN ?_ _) | (with_reducible refine cD ?_)))
 (case side4 => exact (Kd.R_reads' HO159.out).2.1)
 (case side5 => exact Kd.C_nil _ _)
 (case side6 => exact Nat.le_refl _)
 rintro e w63 ⟨v163, rfl, ho0, hb⟩
 refine ⟨_, rfl, ?_⟩
 have HO164 := aMk (Kd.R_lower (Kd.R_new' (Kd.R_new' (Kd.R_new' (Kd.R_new' (Kd.R_new' (Kd.R_new' (Kd.R_new' (Kd.R_new' ho0 (Kd.R_lt (by (with_reducible repeat (first | apply rA | apply rN | apply rD)); exact HO119.out))) (Kd.R_lt (by (with_reducible repeat (first | apply rA | apply rN | apply rD)); exact HO127.out))) (Kd.R_lt (by (with_reducible repeat (first | apply rA | apply rN | apply rD)); exact HO136.out))) (Kd.R_lt (by (with_reducible repeat (first | apply rA | apply rN | apply rD)); exact HO142.out))) (Kd.R_lt (by (with_reducible repeat (first | apply rA | apply rN | apply rD)); exact HO145.out))) (Kd.R_lt (by (with_reducible repeat (first | apply rA | apply rN | apply rD)); exact HO150.out))) (Kd.R_lt (by (with_reducible repeat (first | apply rA | apply rN | apply rD)); exact HO156.out))) (Kd.R_lt (by (with_reducible repeat (first | apply rA | apply rN | apply rD)); exact HO159.out))) (below_size (by repeat (first | (with_reducible first | exact HB.out | apply eA | apply eN | apply eD | refine eS ?_ GE114.out | refine eS ?_ GE128.out | refine eS ?_ GE137.out | refine eS ?_ GE151.out) | exact HB.out))))
 replace HO119 := aMk (Kd.R_elder' (by (with_reducible repeat (first | apply rA | apply rN | apply rD)); exact HO119.out) (Kd.R_base ho0) hb)
 replace HO122 := aMk (Kd.R_below (by (with_reducible repeat (first | apply rA | apply rN | apply rD)); exact HO122.out) hb)
 replace HO127 := aMk (Kd.R_elder' (by (with_reducible repeat (first | apply rA | apply rN | apply rD)); exact HO127.out) (Kd.R_base ho0) hb)
 replace HO131 := aMk (Kd.R_below (by (with_reducible repeat (first | apply rA | apply rN | apply rD)); exact HO131.out) hb)
 replace HO136 := aMk (Kd.R_elder' (by (with_reducible repeat (first | apply rA | apply rN | apply rD)); exact HO136.out) (Kd.R_base ho0) hb)
 replace HO142 := aMk (Kd.R_elder' (by (with_reducible repeat (first | apply rA | apply rN | apply rD)); exact HO142.out) (Kd.R_base ho0) hb)
 replace HO145 := aMk (Kd.R_elder' (by (with_reducible repeat (first | apply rA | apply rN | apply rD)); exact HO145.out) (Kd.R_base ho0) hb)
 replace HO150 := aMk (Kd.R_elder' (by (with_reducible repeat (first | apply rA | apply rN | apply rD)); exact HO150.out) (Kd.R_base ho0) hb)
 replace HO156 := aMk (Kd.R_elder' (by (with_reducible repeat (first | apply rA | apply rN | apply rD)); exact HO156.out) (Kd.R_base ho0) hb)
 replace HO159 := aMk (Kd.R_elder' (by (with_reducible repeat (first | apply rA | apply rN | apply rD)); exact HO159.out) (Kd.R_base ho0) hb)
 replace BK114 := aMk (blk_below (g := gb114) (o := .cells #[.int .i64 2, .int .i64 0] 23 (0, 0)) (by (with_reducible repeat (first | apply bA | apply bN | apply bD)); exact BK114.out) hb)
 replace BK128 := aMk (blk_below (g := gb128) (o := .cells #[.int .u64 t132, .int .i64 t133, .slice Ao34 t134.length co34] 33 (0, 0)) (by (with_reducible repeat (first | apply bA | apply bN | apply bD)); exact BK128.out) hb)
 replace BK137 := aMk (blk_below (g := gb137) (o := .cells #[.int .i64 5, .int .i64 0] 23 (0, 0)) (by (with_reducible repeat (first | apply bA | apply bN | apply bD)); exact BK137.out) hb)
 replace BK151 := aMk (blk_below (g := gb151) (o := .cells #[.int .u64 t146, .int .i64 t147, .slice Ao52 t148.length co52] 33 (0, 0)) (by (with_reducible repeat (first | apply bA | apply bN | apply bD)); exact BK151.out) hb)
 replace HB := aMk (below_step (by repeat (first | (with_reducible first | exact HB.out | apply eA | apply eN | apply eD | refine eS ?_ GE114.out | refine eS ?_ GE128.out | refine eS ?_ GE137.out | refine eS ?_ GE151.out) | exact HB.out)) hb)
 (try clear hb)
 (try clear ho0)
 obtain ⟨Ao64, co64, eo64⟩ := Kd.R_slice HO164.out
 (first | subst eo64 | (injection eo64 with f1_ f2_ f3_; have f4_ := f1_.symm; have f5_ := f3_.symm; clear f1_ f2_ f3_; subst f4_; subst f5_))
 refine hK.out _ _ ⟨(blk_cell BK137.out 0).trans rfl, (blk_cell BK137.out 1).trans rfl, (blk_cell BK151.out 0).trans rfl, (blk_cell BK151.out 1).trans rfl, (blk_cell BK151.out 2).trans rfl⟩ (fun hHeld => ?_)
 clear hK K
 refine norm_ (a' := ?_) ?_ ?_
 rotate_left
 ·show Act.put _ (some 31) _ = _
  simp only [Act.put, sA, sB, sC, i64_w, i32_w]
  rfl
 refine one_ (i := 8) (N := some 32) #[true, true, true, true, true, true, true, true, true, false] rfl rfl (one_of HT_.out (by kernel_rfl)) (by decide) (fun K hK => ?_)
 refine goes_ Try.func10 (by kernel_rfl) rfl #[.agg #[.int .i64 5, .int .i64 0], .agg #[.int .u64 t146, .int .i64 t147, .slice Ao52 t148.length co52], .agg #[.int .u64 t160, .int .i64 t161, .slice Ao64 t162.length co64]] (by rfl) rfl rfl (by (try simp only [List.map_toArray, List.map_cons, List.map_nil]); first | done | rfl | (simp only [List.length_drop, List.length_take]; rfl)) ?_
 with_reducible refine (agg_Merge.calls 5 0 t146 t147 _ _ t148 t160 t161 _ _ t162 t165 t166 t167 _ ?side1 ?side2 ?side3 ?side4 A8.out).mono ?_
 (case side1 => repeat (first | exact (Kd.R_reads' HO150.out).2.2 | (with_reducible refine cA ?_ _) | (with_reducible refine cN ?_ _) | (with_reducible refine cD ?_)))
 (case side2 => exact (Kd.R_reads' HO150.out).2.1)
 (case side3 => repeat (first | exact (Kd.R_reads' HO164.out).2.2 | (with_reducible refine cA ?_ _) | (with_reducible refine cN ?_ _) | (with_reducible refine cD ?_)))
 (case side4 => exact (Kd.R_reads' HO164.out).2.1)
 rintro e w65 ⟨v168, rfl, ho0, hb⟩
 refine ⟨_, rfl, ?_⟩
 have HO169 := aMk (Kd.R_lower (Kd.R_new' (Kd.R_new' (Kd.R_new' (Kd.R_new' (Kd.R_new' (Kd.R_new' (Kd.R_new' (Kd.R_new' (Kd.R_new' ho0 (Kd.R_lt (by (with_reducible repeat (first | apply rA | apply rN | apply rD)); exact HO119.out))) (Kd.R_lt (by (with_reducible repeat (first | apply rA | apply rN | apply rD)); exact HO127.out))) (Kd.R_lt (by (with_reducible repeat (first | apply rA | apply rN | apply rD)); exact HO136.out))) (Kd.R_lt (by (with_reducible repeat (first | apply rA | apply rN | apply rD)); exact HO142.out))) (Kd.R_lt (by (with_reducible repeat (first | apply rA | apply rN | apply rD)); exact HO145.out))) (Kd.R_lt (by (with_reducible repeat (first | apply rA | apply rN | apply rD)); exact HO150.out))) (Kd.R_lt (by (with_reducible repeat (first | apply rA | apply rN | apply rD)); exact HO156.out))) (Kd.R_lt (by (with_reducible repeat (first | apply rA | apply rN | apply rD)); exact HO159.out))) (Kd.R_lt (by (with_reducible repeat (first | apply rA | apply rN | apply rD)); exact HO164.out))) (below_size (by repeat (first | (with_reducible first | exact HB.out | apply eA | apply eN | apply eD | refine eS ?_ GE114.out | refine eS ?_ GE128.out | refine eS ?_ GE137.out | refine eS ?_ GE151.out) | exact HB.out))))
 replace HO119 := aMk (Kd.R_elder' (by (with_reducible repeat (first | apply rA | apply rN | apply rD)); exact HO119.out) (Kd.R_base ho0) hb)
 replace HO122 := aMk (Kd.R_below (by (with_reducible repeat (first | apply rA | apply rN | apply rD)); exact HO122.out) hb)
 replace HO127 := aMk (Kd.R_elder' (by (with_reducible repeat (first | apply rA | apply rN | apply rD)); exact HO127.out) (Kd.R_base ho0) hb)
 replace HO131 := aMk (Kd.R_below (by (with_reducible repeat (first | apply rA | apply rN | apply rD)); exact HO131.out) hb)
 replace HO136 := aMk (Kd.R_elder' (by (with_reducible repeat (first | apply rA | apply rN | apply rD)); exact HO136.out) (Kd.R_base ho0) hb)
 replace HO142 := aMk (Kd.R_elder' (by (with_reducible repeat (first | apply rA | apply rN | apply rD)); exact HO142.out) (Kd.R_base ho0) hb)
 replace HO145 := aMk (Kd.R_elder' (by (with_reducible repeat (first | apply rA | apply rN | apply rD)); exact HO145.out) (Kd.R_base ho0) hb)
 replace HO150 := aMk (Kd.R_elder' (by (with_reducible repeat (first | apply rA | apply rN | apply rD)); exact HO150.out) (Kd.R_base ho0) hb)
 replace HO156 := aMk (Kd.R_elder' (by (with_reducible repeat (first | apply rA | apply rN | apply rD)); exact HO156.out) (Kd.R_base ho0) hb)
 replace HO159 := aMk (Kd.R_elder' (by (with_reducible repeat (first | apply rA | apply rN | apply rD)); exact HO159.out) (Kd.R_base ho0) hb)
 replace HO164 := aMk (Kd.R_elder' (by (with_reducible repeat (first | apply rA | apply rN | apply rD)); exact HO164.out) (Kd.R_base ho0) hb)
 replace BK114 := aMk (blk_below (g := gb114) (o := .cells #[.int .i64 2, .int .i64 0] 23 (0, 0)) (by (with_reducible repeat (first | apply bA | apply bN | apply bD)); exact BK114.out) hb)
 replace BK128 := aMk (blk_below (g := gb128) (o := .cells #[.int .u64 t132, .int .i64 t133, .slice Ao34 t134.length co34] 33 (0, 0)) (by (with_reducible repeat (first | apply bA | apply bN | apply bD)); exact BK128.out) hb)
 replace BK137 := aMk (blk_below (g := gb137) (o := .cells #[.int .i64 5, .int .i64 0] 23 (0, 0)) (by (with_reducible repeat (first | apply bA | apply bN | apply bD)); exact BK137.out) hb)
 replace BK151 := aMk (blk_below (g := gb151) (o := .cells #[.int .u64 t146, .int .i64 t147, .slice Ao52 t148.length co52] 33 (0, 0)) (by (with_reducible repeat (first | apply bA | apply bN | apply bD)); exact BK151.out) hb)
 replace HB := aMk (below_step (by repeat (first | (with_reducible first | exact HB.out | apply eA | apply eN | apply eD | refine eS ?_ GE114.out | refine eS ?_ GE128.out | refine eS ?_ GE137.out | refine eS ?_ GE151.out) | exact HB.out)) hb)
 (try clear hb)
 (try clear ho0)
 obtain ⟨Ao68, co68, eo68⟩ := Kd.R_slice HO169.out
 (first | subst eo68 | (injection eo68 with f1_ f2_ f3_; have f4_ := f1_.symm; have f5_ := f3_.symm; clear f1_ f2_ f3_; subst f4_; subst f5_))
 refine hK.out _ _ ⟨(blk_cell BK137.out 0).trans rfl, (blk_cell BK137.out 1).trans rfl, (blk_cell BK151.out 0).trans rfl, (blk_cell BK151.out 1).trans rfl, (blk_cell BK151.out 2).trans rfl⟩ (fun hHeld => ?_)
 clear hK K
 refine norm_ (a' := ?_) ?_ ?_
 rotate_left
 ·show Act.put _ (some 32) _ = _
  simp only [Act.put, sA, sB, sC, i64_w, i32_w]
  rfl
 refine last_ (i := 9) (N := none) #[true, true, true, true, true, true, true, true, true, true] rfl rfl (one_of HT_.out (by kernel_rfl)) (by decide) (fun K hK => ?_)
 have hs66 : w65.cell? ⟨gb151, 0, none⟩ = some (.int .u64 t146) := (blk_cell BK151.out 0).trans rfl
 have hfs66 := blk_frozen BK151.out 0
 have hns66_0 := NB114_151.out
 have hns66_1 := NB128_151.out
 have hns66_2 := NB137_151.out
 have hms66_0 := NB151_114.out
 have hms66_1 := NB151_128.out
 have hms66_2 := NB151_137.out
 have hs67 : w65.cell? ⟨gb151, 1, none⟩ = some (.int .i64 t147) := (blk_cell BK151.out 1).trans rfl
 have hfs67 := blk_frozen BK151.out 1
 have hns67_0 := NB114_151.out
 have hns67_1 := NB128_151.out
 have hns67_2 := NB137_151.out
 have hms67_0 := NB151_114.out
 have hms67_1 := NB151_128.out
 have hms67_2 := NB151_137.out
 have hs69 : w65.cell? ⟨gb151, 2, none⟩ = some (.slice Ao52 t148.length co52) := (blk_cell BK151.out 2).trans rfl
 have hfs69 := blk_frozen BK151.out 2
 have hns69_0 := NB114_151.out
 have hns69_1 := NB128_151.out
 have hns69_2 := NB137_151.out
 have hms69_0 := NB151_114.out
 have hms69_1 := NB151_128.out
 have hms69_2 := NB151_137.out
 refine skip_ (w1 := ?_) (by rfl) rfl ?_ ?_
 rotate_left
 ·go_simp
  rfl
 refine hK.out _ _ ?_
 clear hK K
 refine done_ (done_of HT_.out (by kernel_rfl)) ?_
 obtain ⟨e1, e2, e3⟩ := awake_vals A1.out Ny120.out A2.out Ny129.out A3.out A4.out Ny143.out A5.out A6.out Ny157.out A7.out A8.out
 have BKa := blk_far (p := ⟨gb151, 2, none⟩) (blk_far (p := ⟨gb151, 1, none⟩) (blk_far (p := ⟨gb151, 0, none⟩) BK114.out NB114_151.out (.int .u64 t165)) NB114_151.out (.int .i64 t166)) NB114_151.out (.slice Ao68 t167.length co68)
 have BKb := blk_far (p := ⟨gb151, 2, none⟩) (blk_far (p := ⟨gb151, 1, none⟩) (blk_far (p := ⟨gb151, 0, none⟩) BK128.out NB128_151.out (.int .u64 t165)) NB128_151.out (.int .i64 t166)) NB128_151.out (.slice Ao68 t167.length co68)
 have BKc := blk_far (p := ⟨gb151, 2, none⟩) (blk_far (p := ⟨gb151, 1, none⟩) (blk_far (p := ⟨gb151, 0, none⟩) BK137.out NB137_151.out (.int .u64 t165)) NB137_151.out (.int .i64 t166)) NB137_151.out (.slice Ao68 t167.length co68)
 have BKd := blk_put (blk_put (blk_put BK151.out 0 (.int .u64 t165) rfl) 1 (.int .i64 t166) rfl) 2 (.slice Ao68 t167.length co68) rfl
 have HBz := eS (eS (eS (j := 0) (v := .int .u64 t165) HB.out GE151.out) (j := 1) (v := .int .i64 t166) GE151.out) (j := 2) (v := .slice Ao68 t167.length co68) GE151.out
 revert BKa BKb BKc BKd HBz
 generalize ((w65.setCell ⟨gb151, 0, none⟩ (.int .u64 t165)).setCell ⟨gb151, 1, none⟩ (.int .i64 t166)).setCell ⟨gb151, 2, none⟩ (.slice Ao68 t167.length co68) = wz
 clear HO122 HO131 HO169 HO119 HO127 HO136 HO142 HO145 HO150 HO156 HO159 hHeld
 intro BKa BKb BKc BKd HBz
 obtain ⟨a0, a1, b0, b1, b2, c0, c1, d0, d1, d2⟩ := awake_cells BKa BKb BKc BKd
 go_wp2_with (fail)
 refine (value2 0 t132 t133 Ao34 t134.length co34 _).mono ?_
 rintro e wa ⟨rfl, hb⟩
 clear a0 a1 b0 b1 b2 c0 c1 d0 d1 d2
 replace BKa := blk_below BKa hb
 replace BKb := blk_below BKb hb
 replace BKc := blk_below BKc hb
 replace BKd := blk_below BKd hb
 replace HBz := below_step HBz hb
 obtain ⟨a0, a1, b0, b1, b2, c0, c1, d0, d1, d2⟩ := awake_cells BKa BKb BKc BKd
 go_wp2_with (fail)
 refine (value5 0 t165 t166 Ao68 t167.length co68 _).mono ?_
 rintro e wb ⟨rfl, hb2⟩
 clear a0 a1 b0 b1 b2 c0 c1 d0 d1 d2
 replace BKa := blk_below BKa hb2
 replace BKb := blk_below BKb hb2
 replace BKc := blk_below BKc hb2
 replace BKd := blk_below BKd hb2
 replace HBz := below_step HBz hb2
 obtain ⟨a0, a1, b0, b1, b2, c0, c1, d0, d1, d2⟩ := awake_cells BKa BKb BKc BKd
 go_wp2_with (fail)
 refine (check_one _ wb.heap.size (blk_new wb _)).mono ?_
 rintro e wc ⟨rfl, hb3⟩
 go_wp2_with (fail)
 go_ret
 exact ⟨rfl, below_step (eA HBz _) hb3⟩
end Go.Proofs.Ytkjjdpnpcjfgeaa.QAgg
