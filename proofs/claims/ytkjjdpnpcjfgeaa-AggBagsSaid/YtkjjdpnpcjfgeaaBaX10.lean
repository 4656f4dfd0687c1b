/- Pruned for this claim by a program. -/
import Derived.Test.YtkjjdpnpcjfgeaaBaX0
import Derived.Test.YtkjjdpnpcjfgeaaBaShort
import Derived.Test.YtkjjdpnpcjfgeaaBaHand1
import Derived.Test.YtkjjdpnpcjfgeaaBaX9
namespace Go.Proofs.Ytkjjdpnpcjfgeaa.QAgg
open Go.RowKit Go.Proofs.YtkjjdpnpcjfgeaaW.PrintWords Go.Proofs.YtkjjdpnpcjfgeaaW.PrintLast Go.Proofs.YtkjjdpnpcjfgeaaW.PrintMore Go.Proofs.Ytkjjdpnpcjfgeaa.Short
attribute [local go_sem] max2_int min2_int max_two min_two max_three min_three max_four min_four   -- for this text's walks alone
set_option linter.unusedVariables false
set_option linter.unusedSimpArgs false

def gristmillref04_Put.l0 : Nat → List (S39) → Int → Int → Int → List ByteArray → List Int → Option ((List (S39)))
 | 0, _, _, _, _, _, _ => none
 | k + 1, x0, x2, x7, x330000, x330001, x330002 => if x7 < (x0.length : Int) then (if 0 ≤ x7 then ((gristmillref04_Compare.f k ((rd_T39 x0 x7).f0.f0) ((rd_T39 x0 x7).f0.f1) ((rd_T39 x0 x7).f0.f2) x330000 x330001 x330002).bind fun t331 => (if t331 < 0 then (gristmillref04_Put.l0 k x0 x2 (wrap64 (x7 + 1)) x330000 x330001 x330002) else (if x7 ≤ (x0.length : Int) then ((some (x0.take (x7 : Int).toNat : List (S39))).bind fun y332 => (if ([] : List (S39)).length + y332.length < 2199023255552 then ((some (([] : List (S39)) ++ y332 : List (S39))).bind fun y337 => ((gristmillref04_Compare.f k ((rd_T39 x0 x7).f0.f0) ((rd_T39 x0 x7).f0.f1) ((rd_T39 x0 x7).f0.f2) x330000 x330001 x330002).bind fun t341 => (if t341 = 0 then (if y337.length < 2199023255552 then ((some (y337 ++ [(⟨(⟨x330000, x330001, x330002⟩ : S37), IntKind.u64.wrap (((rd_T39 x0 x7).f1) + x2)⟩ : S39)] : List (S39))).bind fun y343 => (if 0 ≤ (wrap64 (x7 + 1)) then (if (wrap64 (x7 + 1)) ≤ (x0.length : Int) then ((some (x0.drop ((wrap64 (x7 + 1)) : Int).toNat : List (S39))).bind fun y346 => (if y343.length + y346.length < 2199023255552 then (some (y343 ++ y346)) else (none))) else (none)) else (none))) else (none)) else (if y337.length < 2199023255552 then ((some (y337 ++ [(⟨(⟨x330000, x330001, x330002⟩ : S37), x2⟩ : S39)] : List (S39))).bind fun y354 => ((some (x0.drop (x7 : Int).toNat : List (S39))).bind fun y357 => (if y354.length + y357.length < 2199023255552 then (some (y354 ++ y357)) else (none)))) else (none))))) else (none))) else (none)))) else (none)) else (if 0 ≤ x7 then (if x7 ≤ (x0.length : Int) then ((some (x0.take (x7 : Int).toNat : List (S39))).bind fun y365 => (if ([] : List (S39)).length + y365.length < 2199023255552 then ((some (([] : List (S39)) ++ y365 : List (S39))).bind fun y370 => (if y370.length < 2199023255552 then ((some (y370 ++ [(⟨(⟨x330000, x330001, x330002⟩ : S37), x2⟩ : S39)] : List (S39))).bind fun y373 => ((some (x0.drop (x7 : Int).toNat : List (S39))).bind fun y376 => (if y373.length + y376.length < 2199023255552 then (some (y373 ++ y376)) else (none)))) else (none))) else (none))) else (none)) else (none))
def gristmillref04_Put.f (k : Nat) (l0 : List (S39)) (a1_0 : Int) (l1_1 : List ByteArray) (l1_2 : List Int) (a2 : Int) : Option ((List (S39))) := gristmillref04_Put.l0 k l0 a2 0 a1_0 l1_1 l1_2
def gristmillref04_Put.T2 : Bool × List (List Nat × List Nat) := (true, [([], []), ([], []), ([1], [1]), ([0, 2], [0, 2]), ([3], [3]), ([4], [4]), ([4], [4]), ([5, 6, 4], [4, 5, 6]), ([7, 4], [4, 7]), ([8, 4], [4, 8]), ([4], [4]), ([9, 10, 4, 4], [4, 9, 10]), ([11, 4], [4, 11]), ([4, 12], [4, 12])])
def gristmillref04_Put.B2 : List Nat := [0, 0, 2, 7, 15, 31, 31, 127, 255, 511, 31, 2047, 4095, 8191]
theorem gristmillref04_Put.tab2 : rtab .any (opsOf Try.f24 2) = gristmillref04_Put.T2 := by kernel_rfl
theorem gristmillref04_Put.bits2 : waitsOk gristmillref04_Put.T2.2 gristmillref04_Put.B2 = true := by kernel_rfl
def gristmillref04_Put.T6 : Bool × List (List Nat × List Nat) := (true, [([], []), ([], []), ([1], [1]), ([0, 2], [0, 2]), ([3], [3]), ([4], [4]), ([4], [4]), ([5, 6, 4], [4, 5, 6]), ([7, 4], [4, 7]), ([8, 4], [4, 8]), ([4], [4]), ([9, 10, 4, 4], [4, 9, 10]), ([11, 4], [4, 11]), ([4, 12], [4, 12])])
def gristmillref04_Put.B6 : List Nat := [0, 0, 2, 7, 15, 31, 31, 127, 255, 511, 31, 2047, 4095, 8191]
theorem gristmillref04_Put.tab6 : rtab .any (opsOf Try.f24 6) = gristmillref04_Put.T6 := by kernel_rfl
theorem gristmillref04_Put.bits6 : waitsOk gristmillref04_Put.T6.2 gristmillref04_Put.B6 = true := by kernel_rfl
def gristmillref04_Put.T7 : Bool × List (List Nat × List Nat) := (true, [([], []), ([], []), ([], []), ([], []), ([2, 3], [2, 3]), ([4], [4]), ([5], [5]), ([], []), ([6, 7], [6, 7]), ([1, 8], [1, 8]), ([9], [9]), ([0, 10], [0, 10]), ([11, 11, 0, 1, 2, 3, 4, 5, 6, 7, 8, 9, 10, 11], [0, 11])])
def gristmillref04_Put.B7 : List Nat := [0, 0, 0, 0, 12, 28, 60, 0, 252, 510, 1022, 2047, 4095]
theorem gristmillref04_Put.tab7 : rtab .any (opsOf Try.f24 7) = gristmillref04_Put.T7 := by kernel_rfl
theorem gristmillref04_Put.bits7 : waitsOk gristmillref04_Put.T7.2 gristmillref04_Put.B7 = true := by kernel_rfl
set_option maxHeartbeats 8000000 in
set_option maxRecDepth 100000 in
theorem gristmillref04_Put.calls (k : Nat) (P0_ : Nat → Prop) (A0 : Option Addr) (c0 : Nat) (l0 : List (S39)) (a1_0 : Int) (P1_1_ : Nat → Prop) (A1_1 : Option Addr) (c1_1 : Nat) (l1_1 : List ByteArray) (P1_2_ : Nat → Prop) (A1_2 : Option Addr) (c1_2 : Nat) (l1_2 : List Int) (a2 : Int) (r : List (S39)) (w : World) (hs0 : Kd.V k39 39 w w.heap.size (fun k_ => P0_ k_) (.slice A0 l0.length c0) l0) (hs1_1 : Kd.V Kd.string 9 w w.heap.size (fun k_ => P1_1_ k_) (.slice A1_1 l1_1.length c1_1) l1_1) (hs1_2 : Kd.V (Kd.int .i64) 2 w w.heap.size (fun k_ => P1_2_ k_) (.slice A1_2 l1_2.length c1_2) l1_2) (h : gristmillref04_Put.f k l0 a1_0 l1_1 l1_2 a2 = some r) :
  Calls Try.prog 24 #[.slice A0 l0.length c0, .agg #[.int .i64 a1_0, .slice A1_1 l1_1.length c1_1, .slice A1_2 l1_2.length c1_2], .int .u64 a2] w fun e w' => ∃ v0_ : Value, e = .returned (v0_) ∧ Kd.N k39 39 w' w.heap.size (fun k_ => ((P0_ k_ ∨ P1_1_ k_ ∨ P1_2_ k_) ∨ w.heap.size ≤ k_)) v0_ r ∧ Below w.heap.size w w' := by
 have hu37 := Try.underlying37
 have hu39 := Try.underlying39
 have HO0 := aMk (show Kd.V k39 39 w w.heap.size (fun k_ => ((P0_ k_ ∨ P1_1_ k_ ∨ P1_2_ k_) ∨ w.heap.size ≤ k_)) (.slice A0 l0.length c0) l0 from Kd.V_mono hs0 (fun k_ hk => .inl (.inl hk)))
 have HO1_1 := aMk (show Kd.V Kd.string 9 w w.heap.size (fun k_ => ((P0_ k_ ∨ P1_1_ k_ ∨ P1_2_ k_) ∨ w.heap.size ≤ k_)) (.slice A1_1 l1_1.length c1_1) l1_1 from Kd.V_mono hs1_1 (fun k_ hk => .inl (.inr (.inl hk))))
 have HO1_2 := aMk (show Kd.V (Kd.int .i64) 2 w w.heap.size (fun k_ => ((P0_ k_ ∨ P1_1_ k_ ∨ P1_2_ k_) ∨ w.heap.size ≤ k_)) (.slice A1_2 l1_2.length c1_2) l1_2 from Kd.V_mono hs1_2 (fun k_ hk => .inl (.inr (.inr hk))))
 have HB := aMk (Below.refl w.heap.size w)
 have H : (gristmillref04_Put.l0 k l0 a2 0 a1_0 l1_1 l1_2) = some r := h
 clear h
 have H' := aMk H
 clear H
 go_enter Try.func24, Try.ntmps24
 go_wp2_with (first | ((with_reducible refine gate_dst (N := 4) rfl ?_); refine box_event ?hg (N := 4) ?hd (cs := #[.int .i64 a1_0, .slice A1_1 l1_1.length c1_1, .slice A1_2 l1_2.length c1_2]) (t := 37) ?hr ?_; (case hd => rfl); (case hg => rfl); (case hr => first | (go_simp; done) | (go_simp; rfl)); intro gb329 hg w4 hbox hb; have BK329 := aMk (hbox); have GW329 := aMk ((by rw [hg]; exact (below_size (by repeat (first | (with_reducible first | exact HB.out | apply eA | apply eN | apply eD) | exact HB.out))) : w.heap.size ≤ gb329)); have GE329 := aMk ((by rw [hg]; exact (below_size (by repeat (first | (with_reducible first | exact HB.out | apply eA | apply eN | apply eD) | exact HB.out))) : w.heap.size ≤ gb329)); replace HO0 := aMk (Kd.V_below (Kd.V_elderB (by (with_reducible repeat (first | apply Kd.V_alloc | apply Kd.V_drewN | apply Kd.V_drew)); exact HO0.out) gb329 (Nat.le_of_eq hg.symm)) hb); replace HO1_1 := aMk (Kd.V_below (Kd.V_elderB (by (with_reducible repeat (first | apply Kd.V_alloc | apply Kd.V_drewN | apply Kd.V_drew)); exact HO1_1.out) gb329 (Nat.le_of_eq hg.symm)) hb); replace HO1_2 := aMk (Kd.V_below (Kd.V_elderB (by (with_reducible repeat (first | apply Kd.V_alloc | apply Kd.V_drewN | apply Kd.V_drew)); exact HO1_2.out) gb329 (Nat.le_of_eq hg.symm)) hb); replace HB := aMk (below_step (by repeat (first | (with_reducible first | exact HB.out | apply eA | apply eN | apply eD) | exact HB.out)) hb); clear hb hbox hg))
 go_loopg [7] k (fun kq v7 w' => ∃ (x7_1 : Int), v7 = .int .i64 x7_1 ∧ Aside0 (gristmillref04_Put.l0 kq l0 a2 x7_1 a1_0 l1_1 l1_2 = some r) ∧ Aside0 (kq ≤ k) ∧ Aside0 (Kd.V k39 39 w' w.heap.size (fun k_ => ((P0_ k_ ∨ P1_1_ k_ ∨ P1_2_ k_) ∨ w.heap.size ≤ k_) ∧ k_ ≠ gb329) (.slice A0 l0.length c0) l0) ∧ Aside0 (Kd.V Kd.string 9 w' w.heap.size (fun k_ => ((P0_ k_ ∨ P1_1_ k_ ∨ P1_2_ k_) ∨ w.heap.size ≤ k_) ∧ k_ ≠ gb329) (.slice A1_1 l1_1.length c1_1) l1_1) ∧ Aside0 (Kd.V (Kd.int .i64) 2 w' w.heap.size (fun k_ => ((P0_ k_ ∨ P1_1_ k_ ∨ P1_2_ k_) ∨ w.heap.size ≤ k_) ∧ k_ ≠ gb329) (.slice A1_2 l1_2.length c1_2) l1_2) ∧ Aside0 (w'.heap[gb329]? = some (.cells #[.int .i64 a1_0, (.slice A1_1 l1_1.length c1_1), (.slice A1_2 l1_2.length c1_2)] 37 (0, 0))) ∧ Aside0 (Below w.heap.size w w'))
 case atStart => exact ⟨(0), (by first | rfl | (simp; done) | (simp [*]; done)), H', ⟨Nat.le_refl _⟩, ⟨by (with_reducible repeat (first | apply Kd.V_alloc | apply Kd.V_drewN | apply Kd.V_drew)); exact HO0.out⟩, ⟨by (with_reducible repeat (first | apply Kd.V_alloc | apply Kd.V_drewN | apply Kd.V_drew)); exact HO1_1.out⟩, ⟨by (with_reducible repeat (first | apply Kd.V_alloc | apply Kd.V_drewN | apply Kd.V_drew)); exact HO1_2.out⟩, ⟨by (with_reducible repeat (first | apply bA | apply bN | apply bD)); exact BK329.out⟩, ⟨by repeat (first | (with_reducible first | exact HB.out | apply eA | apply eN | apply eD | refine eS ?_ GE329.out) | exact HB.out)⟩⟩
 case round =>
  clear H'
  try clear c1
  try clear c2
  try clear p2
  obtain ⟨x7_1, rfl, HA, HK1, HO_0, HO_330001, HO_330002, BK329, HB⟩ := hrel
  cases gk with
  | zero => exact absurd HA.out (by simp [gristmillref04_Put.l0])
  | succ k1 =>
   have H := HA.out
   clear HA
   simp only [gristmillref04_Put.l0] at H
   by_cases c5 : x7_1 < (l0.length : Int)
   ·rw [if_pos c5] at H
    have c5b0 : decide (x7_1 < (l0.length : Int)) = true := decide_eq_true c5
    clear c5
    by_cases c6 : 0 ≤ x7_1
    ·rw [if_pos c6] at H
     have c6b0 : decide (0 ≤ x7_1) = true := decide_eq_true c6
     clear c6
     replace H := Option.bind_eq_some_iff.mp H
     obtain ⟨t331, A70, H⟩ := H
     replace H : (if t331 < 0 then (gristmillref04_Put.l0 k1 l0 a2 (wrap64 (x7_1 + 1)) a1_0 l1_1 l1_2) else (if x7_1 ≤ (l0.length : Int) then ((some (l0.take (x7_1 : Int).toNat : List (S39))).bind fun y332 => (if ([] : List (S39)).length + y332.length < 2199023255552 then ((some (([] : List (S39)) ++ y332 : List (S39))).bind fun y337 => ((gristmillref04_Compare.f k1 ((rd_T39 l0 x7_1).f0.f0) ((rd_T39 l0 x7_1).f0.f1) ((rd_T39 l0 x7_1).f0.f2) a1_0 l1_1 l1_2).bind fun t341 => (if t341 = 0 then (if y337.length < 2199023255552 then ((some (y337 ++ [(⟨(⟨a1_0, l1_1, l1_2⟩ : S37), IntKind.u64.wrap (((rd_T39 l0 x7_1).f1) + a2)⟩ : S39)] : List (S39))).bind fun y343 => (if 0 ≤ (wrap64 (x7_1 + 1)) then (if (wrap64 (x7_1 + 1)) ≤ (l0.length : Int) then ((some (l0.drop ((wrap64 (x7_1 + 1)) : Int).toNat : List (S39))).bind fun y346 => (if y343.length + y346.length < 2199023255552 then (some (y343 ++ y346)) else (none))) else (none)) else (none))) else (none)) else (if y337.length < 2199023255552 then ((some (y337 ++ [(⟨(⟨a1_0, l1_1, l1_2⟩ : S37), a2⟩ : S39)] : List (S39))).bind fun y354 => ((some (l0.drop (x7_1 : Int).toNat : List (S39))).bind fun y357 => (if y354.length + y357.length < 2199023255552 then (some (y354 ++ y357)) else (none)))) else (none))))) else (none))) else (none))) = some r := H
     have A7 := aMk A70
     clear A70
     by_cases c8 : t331 < 0
     ·rw [if_pos c8] at H
      have c8b0 : decide (t331 < 0) = true := decide_eq_true c8
      clear c8
      have H' := aMk H
      clear H
      try go_wp2
      replace HO_0 := aMk (Kd.V_drew HO_0.out)
      replace HO_330001 := aMk (Kd.V_drew HO_330001.out)
      replace HO_330002 := aMk (Kd.V_drew HO_330002.out)
      replace BK329 := aMk (bD BK329.out)
      replace HB := aMk (eD HB.out)
      have p330 : 0 ≤ (x7_1 : Int) := of_decide_eq_true (by first | (with_reducible assumption) | assumption)
      have q330 : x7_1 < (l0.length : Int) := of_decide_eq_true (by first | (with_reducible assumption) | assumption)
      obtain ⟨ad330, A330_1, c330_1, A330_2, c330_2, e330, hx330_0, hx330_1, hx330_2, hx330_3, hl330_1, hi330_1, hl330_2, hi330_2⟩ := at_T39 (Kd.V_reads' HO_0.out).2.2 x7_1 p330 q330
      cases e330
      obtain ⟨ce330, hce330, hMe330, hcc330⟩ := Kd.V_get HO_0.out z39 x7_1 p330 (by first | exact q330 | exact of_decide_eq_true (by first | (with_reducible assumption) | assumption) | (have e_ := (Kd.V_reads' HO_0.out).1; omega))
      obtain ⟨ua330_1, uc330_1, ua330_2, uc330_2, rfl, ul330_1, ge330_1, ul330_2, ge330_2⟩ := k39_openF hMe330
      have hv330_1 := hcc330 1 _ rfl
      rw [add_field _ _ 1 (by omega)] at hv330_1
      replace hv330_1 := Option.some.inj (hv330_1.symm.trans hx330_1)
      injection hv330_1 with hva_ hvn_ hvc_
      rw [hva_] at ge330_1
      rw [hvc_] at ul330_1
      have HL330_1 := aMk (show Kd.V Kd.string 9 _ w.heap.size _ _ ((rd_T39 l0 x7_1).f0.f1) from Kd.V_mk ul330_1 ge330_1)
      clear hva_ hvn_ hvc_ ge330_1 ul330_1
      have hv330_2 := hcc330 2 _ rfl
      rw [add_field _ _ 2 (by omega)] at hv330_2
      replace hv330_2 := Option.some.inj (hv330_2.symm.trans hx330_2)
      injection hv330_2 with hva_ hvn_ hvc_
      rw [hva_] at ge330_2
      rw [hvc_] at ul330_2
      have HL330_2 := aMk (show Kd.V (Kd.int .i64) 2 _ w.heap.size _ _ ((rd_T39 l0 x7_1).f0.f2) from Kd.V_mk ul330_2 ge330_2)
      clear hva_ hvn_ hvc_ ge330_2 ul330_2
      clear hcc330 hce330
      have HR330_1 := aMk hi330_1
      have HC330_1 := aMk hl330_1
      clear hi330_1 hl330_1
      have HR330_2 := aMk hi330_2
      have HC330_2 := aMk hl330_2
      clear hi330_2 hl330_2
      replace p330 := eq_true p330
      replace q330 := eq_true q330
      refine start_ (n := 14) (S := fun w' => w'.cell? ⟨gb329, 0, none⟩ = some (.int .i64 a1_0) ∧ w'.cell? ⟨gb329, 1, none⟩ = some (.slice A1_1 l1_1.length c1_1) ∧ w'.cell? ⟨gb329, 2, none⟩ = some (.slice A1_2 l1_2.length c1_2) ∧ w'.cell? (ad330.add ((x7_1).toNat * 4)) = some (.int .i64 ((rd_T39 l0 x7_1).f0.f0)) ∧ w'.cell? ⟨(ad330.add ((x7_1).toNat * 4)).block, (ad330.add ((x7_1).toNat * 4)).off + 1, none⟩ = some (.slice A330_1 ((rd_T39 l0 x7_1).f0.f1).length c330_1) ∧ w'.cell? ⟨(ad330.add ((x7_1).toNat * 4)).block, (ad330.add ((x7_1).toNat * 4)).off + 2, none⟩ = some (.slice A330_2 ((rd_T39 l0 x7_1).f0.f2).length c330_2) ∧ w'.cell? ⟨(ad330.add ((x7_1).toNat * 4)).block, (ad330.add ((x7_1).toNat * 4)).off + 3, none⟩ = some (.int .u64 ((rd_T39 l0 x7_1).f1))) (ds := []) #[false, false, false, false, false, false, false, false, false, false, false, false, false, false] (by kernel_rfl) rfl rfl ⟨(blk_cell BK329.out 0).trans rfl, (blk_cell BK329.out 1).trans rfl, (blk_cell BK329.out 2).trans rfl, hx330_0, hx330_1, hx330_2, hx330_3⟩ (fun hHeld => ?_); refine with_tabW gristmillref04_Put.tab2 gristmillref04_Put.bits2 (fun HT_ HW_ => ?_)
      generalize wr.drew = w9 at HO_0 HO_330001 HO_330002 BK329 HB HL330_1 HL330_2 HR330_1 HR330_2 hx330_0 hx330_1 hx330_2 hx330_3 hHeld ⊢
      refine pure_ (i := 0) (N := some 9) (v := ?_) (a' := ?_) #[true, false, false, false, false, false, false, false, false, false, false, false, false, false] rfl rfl (any_of HT_.out (by kernel_rfl)) (fun _ _ _ h => h) (Or.inl ⟨by rfl, ?_⟩) ?_ ?_
      rotate_left
      ·intro w'
       go_simp
       with_reducible rfl
      rotate_left
      ·simp only [Act.put, sA, sB, sC, i64_w, i32_w]
       rfl
      refine pure_ (i := 1) (N := some 10) (v := ?_) (a' := ?_) #[true, true, false, false, false, false, false, false, false, false, false, false, false, false] rfl rfl (any_of HT_.out (by kernel_rfl)) (fun _ _ _ h => h) (Or.inl ⟨by rfl, ?_⟩) ?_ ?_
      rotate_left
      ·intro w'
       go_simp
       with_reducible rfl
      rotate_left
      ·simp only [Act.put, sA, sB, sC, i64_w, i32_w]
       rfl
      refine pure_ (i := 2) (N := some 11) (v := ?_) (a' := ?_) #[true, true, true, false, false, false, false, false, false, false, false, false, false, false] rfl rfl (any_of HT_.out (by kernel_rfl)) (fun _ _ _ h => h) (Or.inl ⟨by rfl, ?_⟩) ?_ ?_
      rotate_left
      ·intro w'
       go_simp
       with_reducible rfl
      rotate_left
      ·simp only [Act.put, sA, sB, sC, i64_w, i32_w]
       rfl
      refine pure_ (i := 3) (N := some 12) (v := ?_) (a' := ?_) #[true, true, true, true, false, false, false, false, false, false, false, false, false, false] rfl rfl (any_of HT_.out (by kernel_rfl)) (fun _ _ _ h => h) (Or.inl ⟨by rfl, ?_⟩) ?_ ?_
      rotate_left
      ·intro w'
       go_simp
       with_reducible rfl
      rotate_left
      ·simp only [Act.put, sA, sB, sC, i64_w, i32_w]
       rfl
      refine pure_ (i := 4) (N := some 13) (v := ?_) (a' := ?_) #[true, true, true, true, true, false, false, false, false, false, false, false, false, false] rfl rfl (any_of HT_.out (by kernel_rfl)) (fun _ _ _ h => h) (Or.inl ⟨by rfl, ?_⟩) ?_ ?_
      rotate_left
      ·intro w'
       go_simp
       with_reducible rfl
      rotate_left
      ·simp only [Act.put, sA, sB, sC, i64_w, i32_w]
       rfl
      refine pure_ (i := 5) (N := some 14) (v := ?_) (a' := ?_) #[true, true, true, true, true, true, false, false, false, false, false, false, false, false] rfl rfl (any_of HT_.out (by kernel_rfl)) (fun _ _ _ h => h) (Or.inl ⟨by rfl, ?_⟩) ?_ ?_
      rotate_left
      ·intro w'
       go_simp
       with_reducible rfl
      rotate_left
      ·simp only [Act.put, sA, sB, sC, i64_w, i32_w]
       rfl
      refine pure_ (i := 6) (N := some 15) (v := ?_) (a' := ?_) #[true, true, true, true, true, true, true, false, false, false, false, false, false, false] rfl rfl (any_of HT_.out (by kernel_rfl)) (fun _ _ _ h => h) (Or.inl ⟨by rfl, ?_⟩) ?_ ?_
      rotate_left
      ·intro w'
       go_simp
       with_reducible rfl
      rotate_left
      ·simp only [Act.put, sA, sB, sC, i64_w, i32_w]
       rfl
      refine pure_ (i := 7) (N := some 16) (v := ?_) (a' := ?_) #[true, true, true, true, true, true, true, true, false, false, false, false, false, false] rfl rfl (any_of HT_.out (by kernel_rfl)) (fun _ _ _ h => h) (Or.inl ⟨by rfl, ?_⟩) ?_ ?_
      rotate_left
      ·intro w'
       go_simp
       with_reducible rfl
      rotate_left
      ·simp only [Act.put, sA, sB, sC, i64_w, i32_w]
       rfl
      refine pure_ (i := 8) (N := some 17) (v := ?_) (a' := ?_) #[true, true, true, true, true, true, true, true, true, false, false, false, false, false] rfl rfl (any_of HT_.out (by kernel_rfl)) (fun _ _ _ h => h) (Or.inl ⟨by rfl, ?_⟩) ?_ ?_
      rotate_left
      ·intro w'
       go_simp
       with_reducible rfl
      rotate_left
      ·simp only [Act.put, sA, sB, sC, i64_w, i32_w]
       rfl
      refine take_ (i := 9) (N := some 18) (v := ?_) (a' := ?_) #[true, true, true, true, true, true, true, true, true, true, false, false, false, false] rfl rfl (take_ofW HT_.out HW_.out (by kernel_rfl)) (fun _ _ _ h => h) (Or.inl ⟨by rfl, ?_⟩) hHeld ?_ ?_
      rotate_left
      ·rintro w' ⟨s0, s1, s2, s3, s4, s5, s6⟩
       go_simp
       with_reducible rfl
      rotate_left
      ·simp only [Act.put, sA, sB, sC, i64_w, i32_w]
       rfl
      refine take_ (i := 10) (N := some 19) (v := ?_) (a' := ?_) #[true, true, true, true, true, true, true, true, true, true, true, false, false, false] rfl rfl (take_ofW HT_.out HW_.out (by kernel_rfl)) (fun _ _ _ h => h) (Or.inl ⟨by rfl, ?_⟩) hHeld ?_ ?_
      rotate_left
      ·rintro w' ⟨s0, s1, s2, s3, s4, s5, s6⟩
       go_simp
       with_reducible rfl
      rotate_left
      ·simp only [Act.put, sA, sB, sC, i64_w, i32_w]
       rfl
      refine one_ (i := 11) (N := some 20) #[true, true, true, true, true, true, true, true, true, true, true, true, false, false] rfl rfl (one_of HT_.out (by kernel_rfl)) (by decide) (fun K hK => ?_)
      refine goes_ Try.func31 (by kernel_rfl) rfl #[.agg #[.int .i64 ((rd_T39 l0 x7_1).f0.f0), .slice A330_1 ((rd_T39 l0 x7_1).f0.f1).length c330_1, .slice A330_2 ((rd_T39 l0 x7_1).f0.f2).length c330_2], .agg #[.int .i64 a1_0, .slice A1_1 l1_1.length c1_1, .slice A1_2 l1_2.length c1_2]] (by rfl) rfl rfl (by (try simp only [List.map_toArray, List.map_cons, List.map_nil]); first | done | rfl | (simp only [List.length_drop, List.length_take]; rfl)) ?_
      with_reducible refine (gristmillref04_Compare.calls k1 ((rd_T39 l0 x7_1).f0.f0) _ _ ((rd_T39 l0 x7_1).f0.f1) _ _ ((rd_T39 l0 x7_1).f0.f2) a1_0 _ _ l1_1 _ _ l1_2 t331 _ ?side1 ?side2 ?side3 ?side4 ?side5 ?side6 ?side7 ?side8 A7.out).mono ?_
      (case side1 => repeat (first | exact (by repeat (first | (with_reducible exact HR330_1.out) | (with_reducible refine cA ?_ _) | (with_reducible refine cN ?_ _) | (with_reducible refine cD ?_) | exact HR330_1.out)) | (with_reducible refine cA ?_ _) | (with_reducible refine cN ?_ _) | (with_reducible refine cD ?_)))
      (case side2 => exact HC330_1.out)
      (case side3 => repeat (first | exact (by repeat (first | (with_reducible exact HR330_2.out) | (with_reducible refine cA ?_ _) | (with_reducible refine cN ?_ _) | (with_reducible refine cD ?_) | exact HR330_2.out)) | (with_reducible refine cA ?_ _) | (with_reducible refine cN ?_ _) | (with_reducible refine cD ?_)))
      (case side4 => exact HC330_2.out)
      (case side5 => repeat (first | exact (Kd.V_reads' HO_330001.out).2.2 | (with_reducible refine cA ?_ _) | (with_reducible refine cN ?_ _) | (with_reducible refine cD ?_)))
      (case side6 => exact (Kd.V_reads' HO_330001.out).2.1)
      (case side7 => repeat (first | exact (Kd.V_reads' HO_330002.out).2.2 | (with_reducible refine cA ?_ _) | (with_reducible refine cN ?_ _) | (with_reducible refine cD ?_)))
      (case side8 => exact (Kd.V_reads' HO_330002.out).2.1)
      rintro e w10 ⟨rfl, hb⟩
      have HS3_ := (hb.cell (World.block_lt_of_cell? _ _ (hHeld.2.2.2.1))).trans (hHeld.2.2.2.1)
      have HS4_ := (hb.cell (World.block_lt_of_cell? _ _ (hHeld.2.2.2.2.1))).trans (hHeld.2.2.2.2.1)
      have HS5_ := (hb.cell (World.block_lt_of_cell? _ _ (hHeld.2.2.2.2.2.1))).trans (hHeld.2.2.2.2.2.1)
      have HS6_ := (hb.cell (World.block_lt_of_cell? _ _ (hHeld.2.2.2.2.2.2))).trans (hHeld.2.2.2.2.2.2)
      refine ⟨_, rfl, ?_⟩
      replace HO_0 := aMk (Kd.V_below (by (with_reducible repeat (first | apply Kd.V_alloc | apply Kd.V_drewN | apply Kd.V_drew)); exact HO_0.out) hb)
      replace HO_330001 := aMk (Kd.V_below (by (with_reducible repeat (first | apply Kd.V_alloc | apply Kd.V_drewN | apply Kd.V_drew)); exact HO_330001.out) hb)
      replace HO_330002 := aMk (Kd.V_below (by (with_reducible repeat (first | apply Kd.V_alloc | apply Kd.V_drewN | apply Kd.V_drew)); exact HO_330002.out) hb)
      replace HL330_1 := aMk (Kd.V_below (by (with_reducible repeat (first | apply Kd.V_alloc | apply Kd.V_drewN | apply Kd.V_drew)); exact HL330_1.out) hb)
      replace HL330_2 := aMk (Kd.V_below (by (with_reducible repeat (first | apply Kd.V_alloc | apply Kd.V_drewN | apply Kd.V_drew)); exact HL330_2.out) hb)
      replace BK329 := aMk (blk_below (g := gb329) (o := .cells #[.int .i64 a1_0, .slice A1_1 l1_1.length c1_1, .slice A1_2 l1_2.length c1_2] 37 (0, 0)) (by (with_reducible repeat (first | apply bA | apply bN | apply bD)); exact BK329.out) hb)
      replace HR330_1 := aMk (Kd.C_below (by repeat (first | (with_reducible exact HR330_1.out) | (with_reducible refine cA ?_ _) | (with_reducible refine cN ?_ _) | (with_reducible refine cD ?_) | exact HR330_1.out)) hb)
      replace HR330_2 := aMk (Kd.C_below (by repeat (first | (with_reducible exact HR330_2.out) | (with_reducible refine cA ?_ _) | (with_reducible refine cN ?_ _) | (with_reducible refine cD ?_) | exact HR330_2.out)) hb)
      replace HB := aMk (below_step (by repeat (first | (with_reducible first | exact HB.out | apply eA | apply eN | apply eD | refine eS ?_ GE329.out) | exact HB.out)) hb)
      (try clear hb)
      refine hK.out _ _ ⟨(blk_cell BK329.out 0).trans rfl, (blk_cell BK329.out 1).trans rfl, (blk_cell BK329.out 2).trans rfl, HS3_, HS4_, HS5_, HS6_⟩ (fun hHeld => ?_)
      clear hK K
      refine norm_ (a' := ?_) ?_ ?_
      rotate_left
      ·show Act.put _ (some 20) _ = _
       simp only [Act.put, sA, sB, sC, i64_w, i32_w]
       rfl
      refine pure_ (i := 12) (N := some 21) (v := ?_) (a' := ?_) #[true, true, true, true, true, true, true, true, true, true, true, true, true, false] rfl rfl (any_of HT_.out (by kernel_rfl)) (fun _ _ _ h => h) (Or.inl ⟨by rfl, ?_⟩) ?_ ?_
      rotate_left
      ·intro w'
       go_simp
       with_reducible rfl
      rotate_left
      ·simp only [Act.put, sA, sB, sC, i64_w, i32_w]
       rfl
      refine pure_ (i := 13) (N := some 22) (v := ?_) (a' := ?_) #[true, true, true, true, true, true, true, true, true, true, true, true, true, true] rfl rfl (any_of HT_.out (by kernel_rfl)) (fun _ _ _ h => h) (Or.inl ⟨by rfl, ?_⟩) ?_ ?_
      rotate_left
      ·intro w'
       go_simp
       with_reducible rfl
      rotate_left
      ·simp only [Act.put, sA, sB, sC, i64_w, i32_w]
       rfl
      refine done_ (done_of HT_.out (by kernel_rfl)) ?_
      try go_wp2
      go_roundg k1
      case measure => have := HK1.out; omega
      case rel => exact ⟨(wrap64 (x7_1 + 1)), (by first | rfl | (simp; done) | (simp [*]; done)), H', ⟨by have := HK1.out; omega⟩, ⟨by (with_reducible repeat (first | apply Kd.V_alloc | apply Kd.V_drewN | apply Kd.V_drew)); exact HO_0.out⟩, ⟨by (with_reducible repeat (first | apply Kd.V_alloc | apply Kd.V_drewN | apply Kd.V_drew)); exact HO_330001.out⟩, ⟨by (with_reducible repeat (first | apply Kd.V_alloc | apply Kd.V_drewN | apply Kd.V_drew)); exact HO_330002.out⟩, ⟨by (with_reducible repeat (first | apply bA | apply bN | apply bD)); exact BK329.out⟩, ⟨by repeat (first | (with_reducible first | exact HB.out | apply eA | apply eN | apply eD | refine eS ?_ GE329.out) | exact HB.out)⟩⟩
     ·rw [if_neg c8] at H
      have c8b0 : decide (t331 < 0) = false := decide_eq_false c8
      clear c8
      have c11b0 := eq_true (of_decide_eq_true (by first | (with_reducible assumption) | assumption) : 0 ≤ x7_1)
      by_cases c12 : x7_1 ≤ (l0.length : Int)
      ·rw [if_pos c12] at H
       have c12b0 := eq_true c12
       have c12b1 : decide (x7_1 ≤ (l0.length : Int)) = true := decide_eq_true c12
       clear c12
       obtain ⟨y332, hy332⟩ : ∃ y_ : List (S39), y_ = (l0.take (x7_1 : Int).toNat) := ⟨_, rfl⟩
       replace H : (if ([] : List (S39)).length + y332.length < 2199023255552 then ((some (([] : List (S39)) ++ y332 : List (S39))).bind fun y337 => ((gristmillref04_Compare.f k1 ((rd_T39 l0 x7_1).f0.f0) ((rd_T39 l0 x7_1).f0.f1) ((rd_T39 l0 x7_1).f0.f2) a1_0 l1_1 l1_2).bind fun t341 => (if t341 = 0 then (if y337.length < 2199023255552 then ((some (y337 ++ [(⟨(⟨a1_0, l1_1, l1_2⟩ : S37), IntKind.u64.wrap (((rd_T39 l0 x7_1).f1) + a2)⟩ : S39)] : List (S39))).bind fun y343 => (if 0 ≤ (wrap64 (x7_1 + 1)) then (if (wrap64 (x7_1 + 1)) ≤ (l0.length : Int) then ((some (l0.drop ((wrap64 (x7_1 + 1)) : Int).toNat : List (S39))).bind fun y346 => (if y343.length + y346.length < 2199023255552 then (some (y343 ++ y346)) else (none))) else (none)) else (none))) else (none)) else (if y337.length < 2199023255552 then ((some (y337 ++ [(⟨(⟨a1_0, l1_1, l1_2⟩ : S37), a2⟩ : S39)] : List (S39))).bind fun y354 => ((some (l0.drop (x7_1 : Int).toNat : List (S39))).bind fun y357 => (if y354.length + y357.length < 2199023255552 then (some (y354 ++ y357)) else (none)))) else (none))))) else (none)) = some r := by first | (rw [hy332]; with_reducible exact H) | (have H2_ := (Option.bind_some _ _).symm.trans H; rw [hy332]; with_reducible exact H2_) | (have H2_ := (Option.bind_some _ _).symm.trans H; with_reducible exact H2_) | with_reducible exact H | (rw [hy332]; exact H) | exact H
       have Ny332 := aMk hy332
       clear hy332
       by_cases c13 : ([] : List (S39)).length + y332.length < 2199023255552
       ·rw [if_pos c13] at H
        have LMc13 := aMk c13
        clear c13
        obtain ⟨y337, hy337⟩ : ∃ y_ : List (S39), y_ = (([] : List (S39)) ++ y332) := ⟨_, rfl⟩
        replace H : ((gristmillref04_Compare.f k1 ((rd_T39 l0 x7_1).f0.f0) ((rd_T39 l0 x7_1).f0.f1) ((rd_T39 l0 x7_1).f0.f2) a1_0 l1_1 l1_2).bind fun t341 => (if t341 = 0 then (if y337.length < 2199023255552 then ((some (y337 ++ [(⟨(⟨a1_0, l1_1, l1_2⟩ : S37), IntKind.u64.wrap (((rd_T39 l0 x7_1).f1) + a2)⟩ : S39)] : List (S39))).bind fun y343 => (if 0 ≤ (wrap64 (x7_1 + 1)) then (if (wrap64 (x7_1 + 1)) ≤ (l0.length : Int) then ((some (l0.drop ((wrap64 (x7_1 + 1)) : Int).toNat : List (S39))).bind fun y346 => (if y343.length + y346.length < 2199023255552 then (some (y343 ++ y346)) else (none))) else (none)) else (none))) else (none)) else (if y337.length < 2199023255552 then ((some (y337 ++ [(⟨(⟨a1_0, l1_1, l1_2⟩ : S37), a2⟩ : S39)] : List (S39))).bind fun y354 => ((some (l0.drop (x7_1 : Int).toNat : List (S39))).bind fun y357 => (if y354.length + y357.length < 2199023255552 then (some (y354 ++ y357)) else (none)))) else (none)))) = some r := by first | (rw [hy337]; with_reducible exact H) | (have H2_ := (Option.bind_some _ _).symm.trans H; rw [hy337]; with_reducible exact H2_) | (have H2_ := (Option.bind_some _ _).symm.trans H; with_reducible exact H2_) | with_reducible exact H | (rw [hy337]; exact H) | exact H
        have Ny337 := aMk hy337
        clear hy337
        replace H := Option.bind_eq_some_iff.mp H
        obtain ⟨t341, A140, H⟩ := H
        replace H : (if t341 = 0 then (if y337.length < 2199023255552 then ((some (y337 ++ [(⟨(⟨a1_0, l1_1, l1_2⟩ : S37), IntKind.u64.wrap (((rd_T39 l0 x7_1).f1) + a2)⟩ : S39)] : List (S39))).bind fun y343 => (if 0 ≤ (wrap64 (x7_1 + 1)) then (if (wrap64 (x7_1 + 1)) ≤ (l0.length : Int) then ((some (l0.drop ((wrap64 (x7_1 + 1)) : Int).toNat : List (S39))).bind fun y346 => (if y343.length + y346.length < 2199023255552 then (some (y343 ++ y346)) else (none))) else (none)) else (none))) else (none)) else (if y337.length < 2199023255552 then ((some (y337 ++ [(⟨(⟨a1_0, l1_1, l1_2⟩ : S37), a2⟩ : S39)] : List (S39))).bind fun y354 => ((some (l0.drop (x7_1 : Int).toNat : List (S39))).bind fun y357 => (if y354.length + y357.length < 2199023255552 then (some (y354 ++ y357)) else (none)))) else (none))) = some r := H
        have A14 := aMk A140
        clear A140
        by_cases c15 : t341 = 0
        ·rw [if_pos c15] at H
         have c15b0 : (t341 == 0) = true := beq_iff_eq.mpr c15
         have c15b1 : (t341 != 0) = false := bne_eq_false_iff_eq.mpr c15
         clear c15
         by_cases c16 : y337.length < 2199023255552
         ·rw [if_pos c16] at H
          have LMc16 := aMk c16
          clear c16
          obtain ⟨y343, hy343⟩ : ∃ y_ : List (S39), y_ = (y337 ++ [(⟨(⟨a1_0, l1_1, l1_2⟩ : S37), IntKind.u64.wrap (((rd_T39 l0 x7_1).f1) + a2)⟩ : S39)]) := ⟨_, rfl⟩
          replace H : (if 0 ≤ (wrap64 (x7_1 + 1)) then (if (wrap64 (x7_1 + 1)) ≤ (l0.length : Int) then ((some (l0.drop ((wrap64 (x7_1 + 1)) : Int).toNat : List (S39))).bind fun y346 => (if y343.length + y346.length < 2199023255552 then (some (y343 ++ y346)) else (none))) else (none)) else (none)) = some r := by first | (rw [hy343]; with_reducible exact H) | (have H2_ := (Option.bind_some _ _).symm.trans H; rw [hy343]; with_reducible exact H2_) | (have H2_ := (Option.bind_some _ _).symm.trans H; with_reducible exact H2_) | with_reducible exact H | (rw [hy343]; exact H) | exact H
          have Ny343 := aMk hy343
          clear hy343
          obtain ⟨ji17, hji17⟩ : ∃ j_ : Int, (wrap64 (x7_1 + 1)) = j_ := ⟨_, rfl⟩
          replace H : (if 0 ≤ (ji17) then (if (ji17) ≤ (l0.length : Int) then ((some (l0.drop ((ji17) : Int).toNat : List (S39))).bind fun y346 => (if y343.length + y346.length < 2199023255552 then (some (y343 ++ y346)) else (none))) else (none)) else (none)) = some r := by first | (rw [hji17] at H; exact H) | (simp only [hji17] at H ⊢; exact H)
          (try rw [hji17] at A7)
          (try rw [hji17] at A14)
          have hji17w : (IntKind.i64.wrap (x7_1 + 1)) = ji17 := (i64_w _).trans hji17
          by_cases c18 : 0 ≤ (ji17)
          ·rw [if_pos c18] at H
           have c18b0 := eq_true c18
           have c18b1 : decide (0 ≤ (ji17)) = true := decide_eq_true c18
           clear c18
           by_cases c19 : (ji17) ≤ (l0.length : Int)
           ·rw [if_pos c19] at H
            have c19b0 := eq_true c19
            have c19b1 : decide ((ji17) ≤ (l0.length : Int)) = true := decide_eq_true c19
            clear c19
            obtain ⟨y346, hy346⟩ : ∃ y_ : List (S39), y_ = (l0.drop ((ji17) : Int).toNat) := ⟨_, rfl⟩
            replace H : (if y343.length + y346.length < 2199023255552 then (some (y343 ++ y346)) else (none)) = some r := by first | (rw [hy346]; with_reducible exact H) | (have H2_ := (Option.bind_some _ _).symm.trans H; rw [hy346]; with_reducible exact H2_) | (have H2_ := (Option.bind_some _ _).symm.trans H; with_reducible exact H2_) | with_reducible exact H | (rw [hy346]; exact H) | exact H
            have Ny346 := aMk hy346
            clear hy346
            by_cases c20 : y343.length + y346.length < 2199023255552
            ·rw [if_pos c20] at H
             have LMc20 := aMk c20
             clear c20
             obtain ⟨y351, hy351⟩ : ∃ y_ : List (S39), y_ = (y343 ++ y346) := ⟨_, rfl⟩
             replace H : (some y351) = some r := by first | (rw [hy351]; with_reducible exact H) | (have H2_ := (Option.bind_some _ _).symm.trans H; rw [hy351]; with_reducible exact H2_) | (have H2_ := (Option.bind_some _ _).symm.trans H; with_reducible exact H2_) | with_reducible exact H | (rw [hy351]; exact H) | exact H
             have Ny351 := aMk hy351
             clear hy351
             obtain rfl := Option.some.inj H
             try go_wp2
             replace HO_0 := aMk (Kd.V_drew HO_0.out)
             replace HO_330001 := aMk (Kd.V_drew HO_330001.out)
             replace HO_330002 := aMk (Kd.V_drew HO_330002.out)
             replace BK329 := aMk (bD BK329.out)
             replace HB := aMk (eD HB.out)
             have p330 : 0 ≤ (x7_1 : Int) := of_decide_eq_true (by first | (with_reducible assumption) | assumption)
             have q330 : x7_1 < (l0.length : Int) := of_decide_eq_true (by first | (with_reducible assumption) | assumption)
             obtain ⟨ad330, A330_1, c330_1, A330_2, c330_2, e330, hx330_0, hx330_1, hx330_2, hx330_3, hl330_1, hi330_1, hl330_2, hi330_2⟩ := at_T39 (Kd.V_reads' HO_0.out).2.2 x7_1 p330 q330
             cases e330
             obtain ⟨ce330, hce330, hMe330, hcc330⟩ := Kd.V_get HO_0.out z39 x7_1 p330 (by first | exact q330 | exact of_decide_eq_true (by first | (with_reducible assumption) | assumption) | (have e_ := (Kd.V_reads' HO_0.out).1; omega))
             obtain ⟨ua330_1, uc330_1, ua330_2, uc330_2, rfl, ul330_1, ge330_1, ul330_2, ge330_2⟩ := k39_openF hMe330
             have hv330_1 := hcc330 1 _ rfl
             rw [add_field _ _ 1 (by omega)] at hv330_1
             replace hv330_1 := Option.some.inj (hv330_1.symm.trans hx330_1)
             injection hv330_1 with hva_ hvn_ hvc_
             rw [hva_] at ge330_1
             rw [hvc_] at ul330_1
             have HL330_1 := aMk (show Kd.V Kd.string 9 _ w.heap.size _ _ ((rd_T39 l0 x7_1).f0.f1) from Kd.V_mk ul330_1 ge330_1)
             clear hva_ hvn_ hvc_ ge330_1 ul330_1
             have hv330_2 := hcc330 2 _ rfl
             rw [add_field _ _ 2 (by omega)] at hv330_2
             replace hv330_2 := Option.some.inj (hv330_2.symm.trans hx330_2)
             injection hv330_2 with hva_ hvn_ hvc_
             rw [hva_] at ge330_2
             rw [hvc_] at ul330_2
             have HL330_2 := aMk (show Kd.V (Kd.int .i64) 2 _ w.heap.size _ _ ((rd_T39 l0 x7_1).f0.f2) from Kd.V_mk ul330_2 ge330_2)
             clear hva_ hvn_ hvc_ ge330_2 ul330_2
             clear hcc330 hce330
             have HR330_1 := aMk hi330_1
             have HC330_1 := aMk hl330_1
             clear hi330_1 hl330_1
             have HR330_2 := aMk hi330_2
             have HC330_2 := aMk hl330_2
             clear hi330_2 hl330_2
             replace p330 := eq_true p330
             replace q330 := eq_true q330
             refine start_ (n := 14) (S := fun w' => w'.cell? ⟨gb329, 0, none⟩ = some (.int .i64 a1_0) ∧ w'.cell? ⟨gb329, 1, none⟩ = some (.slice A1_1 l1_1.length c1_1) ∧ w'.cell? ⟨gb329, 2, none⟩ = some (.slice A1_2 l1_2.length c1_2) ∧ w'.cell? (ad330.add ((x7_1).toNat * 4)) = some (.int .i64 ((rd_T39 l0 x7_1).f0.f0)) ∧ w'.cell? ⟨(ad330.add ((x7_1).toNat * 4)).block, (ad330.add ((x7_1).toNat * 4)).off + 1, none⟩ = some (.slice A330_1 ((rd_T39 l0 x7_1).f0.f1).length c330_1) ∧ w'.cell? ⟨(ad330.add ((x7_1).toNat * 4)).block, (ad330.add ((x7_1).toNat * 4)).off + 2, none⟩ = some (.slice A330_2 ((rd_T39 l0 x7_1).f0.f2).length c330_2) ∧ w'.cell? ⟨(ad330.add ((x7_1).toNat * 4)).block, (ad330.add ((x7_1).toNat * 4)).off + 3, none⟩ = some (.int .u64 ((rd_T39 l0 x7_1).f1))) (ds := []) #[false, false, false, false, false, false, false, false, false, false, false, false, false, false] (by kernel_rfl) rfl rfl ⟨(blk_cell BK329.out 0).trans rfl, (blk_cell BK329.out 1).trans rfl, (blk_cell BK329.out 2).trans rfl, hx330_0, hx330_1, hx330_2, hx330_3⟩ (fun hHeld => ?_); refine with_tabW gristmillref04_Put.tab2 gristmillref04_Put.bits2 (fun HT_ HW_ => ?_)
             generalize wr.drew = w21 at HO_0 HO_330001 HO_330002 BK329 HB HL330_1 HL330_2 HR330_1 HR330_2 hx330_0 hx330_1 hx330_2 hx330_3 hHeld ⊢
             refine pure_ (i := 0) (N := some 9) (v := ?_) (a' := ?_) #[true, false, false, false, false, false, false, false, false, false, false, false, false, false] rfl rfl (any_of HT_.out (by kernel_rfl)) (fun _ _ _ h => h) (Or.inl ⟨by rfl, ?_⟩) ?_ ?_
             rotate_left
             ·intro w'
              go_simp
              with_reducible rfl
             rotate_left
             ·simp only [Act.put, sA, sB, sC, i64_w, i32_w]
              rfl
             refine pure_ (i := 1) (N := some 10) (v := ?_) (a' := ?_) #[true, true, false, false, false, false, false, false, false, false, false, false, false, false] rfl rfl (any_of HT_.out (by kernel_rfl)) (fun _ _ _ h => h) (Or.inl ⟨by rfl, ?_⟩) ?_ ?_
             rotate_left
             ·intro w'
              go_simp
              with_reducible rfl
             rotate_left
             ·simp only [Act.put, sA, sB, sC, i64_w, i32_w]
              rfl
             refine pure_ (i := 2) (N := some 11) (v := ?_) (a' := ?_) #[true, true, true, false, false, false, false, false, false, false, false, false, false, false] rfl rfl (any_of HT_.out (by kernel_rfl)) (fun _ _ _ h => h) (Or.inl ⟨by rfl, ?_⟩) ?_ ?_
             rotate_left
             ·intro w'
              go_simp
              with_reducible rfl
             rotate_left
             ·simp only [Act.put, sA, sB, sC, i64_w, i32_w]
              rfl
             refine pure_ (i := 3) (N := some 12) (v := ?_) (a' := ?_) #[true, true, true, true, false, false, false, false, false, false, false, false, false, false] rfl rfl (any_of HT_.out (by kernel_rfl)) (fun _ _ _ h => h) (Or.inl ⟨by rfl, ?_⟩) ?_ ?_
             rotate_left
             ·intro w'
              go_simp
              with_reducible rfl
             rotate_left
             ·simp only [Act.put, sA, sB, sC, i64_w, i32_w]
              rfl
             refine pure_ (i := 4) (N := some 13) (v := ?_) (a' := ?_) #[true, true, true, true, true, false, false, false, false, false, false, false, false, false] rfl rfl (any_of HT_.out (by kernel_rfl)) (fun _ _ _ h => h) (Or.inl ⟨by rfl, ?_⟩) ?_ ?_
             rotate_left
             ·intro w'
              go_simp
              with_reducible rfl
             rotate_left
             ·simp only [Act.put, sA, sB, sC, i64_w, i32_w]
              rfl
             refine pure_ (i := 5) (N := some 14) (v := ?_) (a' := ?_) #[true, true, true, true, true, true, false, false, false, false, false, false, false, false] rfl rfl (any_of HT_.out (by kernel_rfl)) (fun _ _ _ h => h) (Or.inl ⟨by rfl, ?_⟩) ?_ ?_
             rotate_left
             ·intro w'
              go_simp
              with_reducible rfl
             rotate_left
             ·simp only [Act.put, sA, sB, sC, i64_w, i32_w]
              rfl
             refine pure_ (i := 6) (N := some 15) (v := ?_) (a' := ?_) #[true, true, true, true, true, true, true, false, false, false, false, false, false, false] rfl rfl (any_of HT_.out (by kernel_rfl)) (fun _ _ _ h => h) (Or.inl ⟨by rfl, ?_⟩) ?_ ?_
             rotate_left
             ·intro w'
              go_simp
              with_reducible rfl
             rotate_left
             ·simp only [Act.put, sA, sB, sC, i64_w, i32_w]
              rfl
             refine pure_ (i := 7) (N := some 16) (v := ?_) (a' := ?_) #[true, true, true, true, true, true, true, true, false, false, false, false, false, false] rfl rfl (any_of HT_.out (by kernel_rfl)) (fun _ _ _ h => h) (Or.inl ⟨by rfl, ?_⟩) ?_ ?_
             rotate_left
             ·intro w'
              go_simp
              with_reducible rfl
             rotate_left
             ·simp only [Act.put, sA, sB, sC, i64_w, i32_w]
              rfl
             refine pure_ (i := 8) (N := some 17) (v := ?_) (a' := ?_) #[true, true, true, true, true, true, true, true, true, false, false, false, false, false] rfl rfl (any_of HT_.out (by kernel_rfl)) (fun _ _ _ h => h) (Or.inl ⟨by rfl, ?_⟩) ?_ ?_
             rotate_left
             ·intro w'
              go_simp
              with_reducible rfl
             rotate_left
             ·simp only [Act.put, sA, sB, sC, i64_w, i32_w]
              rfl
             refine take_ (i := 9) (N := some 18) (v := ?_) (a' := ?_) #[true, true, true, true, true, true, true, true, true, true, false, false, false, false] rfl rfl (take_ofW HT_.out HW_.out (by kernel_rfl)) (fun _ _ _ h => h) (Or.inl ⟨by rfl, ?_⟩) hHeld ?_ ?_
             rotate_left
             ·rintro w' ⟨s0, s1, s2, s3, s4, s5, s6⟩
              go_simp
              with_reducible rfl
             rotate_left
             ·simp only [Act.put, sA, sB, sC, i64_w, i32_w]
              rfl
             refine take_ (i := 10) (N := some 19) (v := ?_) (a' := ?_) #[true, true, true, true, true, true, true, true, true, true, true, false, false, false] rfl rfl (take_ofW HT_.out HW_.out (by kernel_rfl)) (fun _ _ _ h => h) (Or.inl ⟨by rfl, ?_⟩) hHeld ?_ ?_
             rotate_left
             ·rintro w' ⟨s0, s1, s2, s3, s4, s5, s6⟩
              go_simp
              with_reducible rfl
             rotate_left
             ·simp only [Act.put, sA, sB, sC, i64_w, i32_w]
              rfl
             refine one_ (i := 11) (N := some 20) #[true, true, true, true, true, true, true, true, true, true, true, true, false, false] rfl rfl (one_of HT_.out (by kernel_rfl)) (by decide) (fun K hK => ?_)
             refine goes_ Try.func31 (by kernel_rfl) rfl #[.agg #[.int .i64 ((rd_T39 l0 x7_1).f0.f0), .slice A330_1 ((rd_T39 l0 x7_1).f0.f1).length c330_1, .slice A330_2 ((rd_T39 l0 x7_1).f0.f2).length c330_2], .agg #[.int .i64 a1_0, .slice A1_1 l1_1.length c1_1, .slice A1_2 l1_2.length c1_2]] (by rfl) rfl rfl (by (try simp only [List.map_toArray, List.map_cons, List.map_nil]); first | done | rfl | (simp only [List.length_drop, List.length_take]; rfl)) ?_
             with_reducible refine (gristmillref04_Compare.calls k1 ((rd_T39 l0 x7_1).f0.f0) _ _ ((rd_T39 l0 x7_1).f0.f1) _ _ ((rd_T39 l0 x7_1).f0.f2) a1_0 _ _ l1_1 _ _ l1_2 t331 _ ?side1 ?side2 ?side3 ?side4 ?side5 ?side6 ?side7 ?side8 A7.out).mono ?_
             (case side1 => repeat (first | exact (by repeat (first | (with_reducible exact HR330_1.out) | (with_reducible refine cA ?_ _) | (with_reducible refine cN ?_ _) | (with_reducible refine cD ?_) | exact HR330_1.out)) | (with_reducible refine cA ?_ _) | (with_reducible refine cN ?_ _) | (with_reducible refine cD ?_)))
             (case side2 => exact HC330_1.out)
             (case side3 => repeat (first | exact (by repeat (first | (with_reducible exact HR330_2.out) | (with_reducible refine cA ?_ _) | (with_reducible refine cN ?_ _) | (with_reducible refine cD ?_) | exact HR330_2.out)) | (with_reducible refine cA ?_ _) | (with_reducible refine cN ?_ _) | (with_reducible refine cD ?_)))
             (case side4 => exact HC330_2.out)
             (case side5 => repeat (first | exact (Kd.V_reads' HO_330001.out).2.2 | (with_reducible refine cA ?_ _) | (with_reducible refine cN ?_ _) | (with_reducible refine cD ?_)))
             (case side6 => exact (Kd.V_reads' HO_330001.out).2.1)
             (case side7 => repeat (first | exact (Kd.V_reads' HO_330002.out).2.2 | (with_reducible refine cA ?_ _) | (with_reducible refine cN ?_ _) | (with_reducible refine cD ?_)))
             (case side8 => exact (Kd.V_reads' HO_330002.out).2.1)
             rintro e w22 ⟨rfl, hb⟩
             have HS3_ := (hb.cell (World.block_lt_of_cell? _ _ (hHeld.2.2.2.1))).trans (hHeld.2.2.2.1)
             have HS4_ := (hb.cell (World.block_lt_of_cell? _ _ (hHeld.2.2.2.2.1))).trans (hHeld.2.2.2.2.1)
             have HS5_ := (hb.cell (World.block_lt_of_cell? _ _ (hHeld.2.2.2.2.2.1))).trans (hHeld.2.2.2.2.2.1)
             have HS6_ := (hb.cell (World.block_lt_of_cell? _ _ (hHeld.2.2.2.2.2.2))).trans (hHeld.2.2.2.2.2.2)
             refine ⟨_, rfl, ?_⟩
             replace HO_0 := aMk (Kd.V_below (by (with_reducible repeat (first | apply Kd.V_alloc | apply Kd.V_drewN | apply Kd.V_drew)); exact HO_0.out) hb)
             replace HO_330001 := aMk (Kd.V_below (by (with_reducible repeat (first | apply Kd.V_alloc | apply Kd.V_drewN | apply Kd.V_drew)); exact HO_330001.out) hb)
             replace HO_330002 := aMk (Kd.V_below (by (with_reducible repeat (first | apply Kd.V_alloc | apply Kd.V_drewN | apply Kd.V_drew)); exact HO_330002.out) hb)
             replace HL330_1 := aMk (Kd.V_below (by (with_reducible repeat (first | apply Kd.V_alloc | apply Kd.V_drewN | apply Kd.V_drew)); exact HL330_1.out) hb)
             replace HL330_2 := aMk (Kd.V_below (by (with_reducible repeat (first | apply Kd.V_alloc | apply Kd.V_drewN | apply Kd.V_drew)); exact HL330_2.out) hb)
             replace BK329 := aMk (blk_below (g := gb329) (o := .cells #[.int .i64 a1_0, .slice A1_1 l1_1.length c1_1, .slice A1_2 l1_2.length c1_2] 37 (0, 0)) (by (with_reducible repeat (first | apply bA | apply bN | apply bD)); exact BK329.out) hb)
             replace HR330_1 := aMk (Kd.C_below (by repeat (first | (with_reducible exact HR330_1.out) | (with_reducible refine cA ?_ _) | (with_reducible refine cN ?_ _) | (with_reducible refine cD ?_) | exact HR330_1.out)) hb)
             replace HR330_2 := aMk (Kd.C_below (by repeat (first | (with_reducible exact HR330_2.out) | (with_reducible refine cA ?_ _) | (with_reducible refine cN ?_ _) | (with_reducible refine cD ?_) | exact HR330_2.out)) hb)
             replace HB := aMk (below_step (by repeat (first | (with_reducible first | exact HB.out | apply eA | apply eN | apply eD | refine eS ?_ GE329.out) | exact HB.out)) hb)
             (try clear hb)
             refine hK.out _ _ ⟨(blk_cell BK329.out 0).trans rfl, (blk_cell BK329.out 1).trans rfl, (blk_cell BK329.out 2).trans rfl, HS3_, HS4_, HS5_, HS6_⟩ (fun hHeld => ?_)
             clear hK K
             refine norm_ (a' := ?_) ?_ ?_
             rotate_left
             ·show Act.put _ (some 20) _ = _
              simp only [Act.put, sA, sB, sC, i64_w, i32_w]
              rfl
             refine pure_ (i := 12) (N := some 21) (v := ?_) (a' := ?_) #[true, true, true, true, true, true, true, true, true, true, true, true, true, false] rfl rfl (any_of HT_.out (by kernel_rfl)) (fun _ _ _ h => h) (Or.inl ⟨by rfl, ?_⟩) ?_ ?_
             rotate_left
             ·intro w'
              go_simp
              with_reducible rfl
             rotate_left
             ·simp only [Act.put, sA, sB, sC, i64_w, i32_w]
              rfl
             refine pure_ (i := 13) (N := some 22) (v := ?_) (a' := ?_) #[true, true, true, true, true, true, true, true, true, true, true, true, true, true] rfl rfl (any_of HT_.out (by kernel_rfl)) (fun _ _ _ h => h) (Or.inl ⟨by rfl, ?_⟩) ?_ ?_
             rotate_left
             ·intro w'
              go_simp
              with_reducible rfl
             rotate_left
             ·simp only [Act.put, sA, sB, sC, i64_w, i32_w]
              rfl
             refine done_ (done_of HT_.out (by kernel_rfl)) ?_
             have q23 : (x7_1 : Int) ≤ ((l0.length : Int) : Int) := of_decide_eq_true (by first | (with_reducible assumption) | assumption)
             obtain ⟨i023, hi023, _, hsz23, _⟩ := info_parts info39
             have hroom23 : l0.length ≤ c0 := (Kd.V_reads' HO_0.out).2.1
             have hC23 : Kd.F k39 _ _ (some ad330) l0.length l0 := (Kd.V_at (base := w.heap.size) HO_0.out).2.2
             have hcut23 := cut_to (P := Try.prog) 24 39 .i64 Try.underlying24 hi023 (some ad330) l0.length c0 x7_1 (of_decide_eq_true (by first | (with_reducible assumption) | assumption)) q23 hroom23
             have hr23 := Kd.F_take (m := (x7_1 : Int).toNat) hC23 (by omega)
             have hy23 : y332.length = (x7_1 : Int).toNat := (by rw [Ny332.out, List.length_take]; omega)
             rw [← Ny332.out] at hr23
             rw [← hy23] at hcut23
             have HO336 := aMk (show Kd.V k39 39 _ w.heap.size _ (.slice (some ad330) y332.length c0) y332 from Kd.V_mk (by omega) hr23)
             have HC336 := aMk (show y332.length ≤ c0 from by omega)
             clear hr23 hC23 hroom23 hi023 hsz23
             have KY23 := aMk hy23
             clear hy23
             replace q23 := eq_true q23
             try go_wp2_with (first | ((with_reducible refine gate_builtin (b := .append) (xs := #[.tmp 25, .tmp 28]) rfl ?_); at_builtin; refine Kd.N_append_rows k39 (w0 := w) w.heap.size rfl (.tmp 25) (.tmp 28) 24 39 (.agg #[(.int .i64 0), (.slice none 0 0), (.slice none 0 0), (.int .u64 0)]) 64 rfl Try.underlying24 info39 rfl (by decide) (by omega) (.slice none 0 0) ([] : List (S39)) y332 _ _ _ (fun k_ => ((P0_ k_ ∨ P1_1_ k_ ∨ P1_2_ k_) ∨ w.heap.size ≤ k_) ∧ k_ ≠ gb329) (fun k_ => ((fun k_ => ((P0_ k_ ∨ P1_1_ k_ ∨ P1_2_ k_) ∨ w.heap.size ≤ k_) ∧ k_ ≠ gb329)) k_ ∧ some k_ ≠ (.slice none 0 0 : Value).ownBlock) rfl rfl ?aO ?aR (fun _ hk => hk) ?aF ?aB ?aS ?aL ?_; (case aR => exact (by skip; exact Kd.V_F (Kd.V_mono (ok' := (fun k_ => ((fun k_ => ((P0_ k_ ∨ P1_1_ k_ ∨ P1_2_ k_) ∨ w.heap.size ≤ k_) ∧ k_ ≠ gb329)) k_ ∧ some k_ ≠ (.slice none 0 0 : Value).ownBlock)) (HO336.out) (fun k_ hk => ⟨⟨hk.1, hk.2⟩, (by simp [Value.ownBlock])⟩)))); (case aB => exact (by repeat (first | (with_reducible first | exact HB.out | apply eA | apply eN | apply eD | refine eS ?_ GE329.out) | exact HB.out))); (case aF => exact (fun k_ hk => ⟨(.inr (Nat.le_trans (below_size (by repeat (first | (with_reducible first | exact HB.out | apply eA | apply eN | apply eD | refine eS ?_ GE329.out) | exact HB.out))) hk)), Kd.freshB (g := gb329) (o := .cells #[.int .i64 a1_0, .slice A1_1 l1_1.length c1_1, .slice A1_2 l1_2.length c1_2] 37 (0, 0)) (by (with_reducible repeat (first | apply bA | apply bN | apply bD)); exact BK329.out) k_ hk⟩)); (case aO => exact ((Kd.N_nil _ _ _ _ (fun k_ => ((P0_ k_ ∨ P1_1_ k_ ∨ P1_2_ k_) ∨ w.heap.size ≤ k_) ∧ k_ ≠ gb329)))); (case aS => exact (below_size (by repeat (first | (with_reducible first | exact HB.out | apply eA | apply eN | apply eD | refine eS ?_ GE329.out) | exact HB.out)))); (case aL => have := LMc13.out; omega); intro v338 w24 ho hb hg hat; rw [← Ny337.out] at ho; have HO339 := aMk (ho); replace HO_0 := aMk (Kd.V_afterv (Kd.V_apart_nil (by (with_reducible repeat (first | apply Kd.V_alloc | apply Kd.V_drewN | apply Kd.V_drew)); exact HO_0.out)) hg hat); replace HO_330001 := aMk (Kd.V_afterv (Kd.V_apart_nil (by (with_reducible repeat (first | apply Kd.V_alloc | apply Kd.V_drewN | apply Kd.V_drew)); exact HO_330001.out)) hg hat); replace HO_330002 := aMk (Kd.V_afterv (Kd.V_apart_nil (by (with_reducible repeat (first | apply Kd.V_alloc | apply Kd.V_drewN | apply Kd.V_drew)); exact HO_330002.out)) hg hat); replace BK329 := aMk (blk_grown (g := gb329) (o := .cells #[.int .i64 a1_0, .slice A1_1 l1_1.length c1_1, .slice A1_2 l1_2.length c1_2] 37 (0, 0)) (by (with_reducible repeat (first | apply bA | apply bN | apply bD)); exact BK329.out) hg (by simp [Value.ownBlock])); replace HL330_1 := aMk (Kd.V_afterv (Kd.V_apart_nil (by (with_reducible repeat (first | apply Kd.V_alloc | apply Kd.V_drewN | apply Kd.V_drew)); exact HL330_1.out)) hg hat); replace HL330_2 := aMk (Kd.V_afterv (Kd.V_apart_nil (by (with_reducible repeat (first | apply Kd.V_alloc | apply Kd.V_drewN | apply Kd.V_drew)); exact HL330_2.out)) hg hat); replace HO336 := aMk (Kd.V_afterv (Kd.V_apart_nil (by (with_reducible repeat (first | apply Kd.V_alloc | apply Kd.V_drewN | apply Kd.V_drew)); exact HO336.out)) hg hat); replace HB := aMk (hb); clear ho hb hg hat))
             replace HO_0 := aMk (Kd.V_drew HO_0.out)
             replace HO_330001 := aMk (Kd.V_drew HO_330001.out)
             replace HO_330002 := aMk (Kd.V_drew HO_330002.out)
             replace HL330_1 := aMk (Kd.V_drew HL330_1.out)
             replace HL330_2 := aMk (Kd.V_drew HL330_2.out)
             replace HO336 := aMk (Kd.V_drew HO336.out)
             replace HO339 := aMk (Kd.N_drew HO339.out)
             replace BK329 := aMk (bD BK329.out)
             replace HB := aMk (eD HB.out)
             have p340 : 0 ≤ (x7_1 : Int) := of_decide_eq_true (by first | (with_reducible assumption) | assumption)
             have q340 : x7_1 < (l0.length : Int) := of_decide_eq_true (by first | (with_reducible assumption) | assumption)
             obtain ⟨ad340, A340_1, c340_1, A340_2, c340_2, e340, hx340_0, hx340_1, hx340_2, hx340_3, hl340_1, hi340_1, hl340_2, hi340_2⟩ := at_T39 (Kd.V_reads' HO_0.out).2.2 x7_1 p340 q340
             obtain rfl : ad330 = ad340 := (by injection e340)
             obtain ⟨ce340, hce340, hMe340, hcc340⟩ := Kd.V_get HO_0.out z39 x7_1 p340 (by first | exact q340 | exact of_decide_eq_true (by first | (with_reducible assumption) | assumption) | (have e_ := (Kd.V_reads' HO_0.out).1; omega))
             obtain ⟨ua340_1, uc340_1, ua340_2, uc340_2, rfl, ul340_1, ge340_1, ul340_2, ge340_2⟩ := k39_openF hMe340
             have hv340_1 := hcc340 1 _ rfl
             rw [add_field _ _ 1 (by omega)] at hv340_1
             replace hv340_1 := Option.some.inj (hv340_1.symm.trans hx340_1)
             injection hv340_1 with hva_ hvn_ hvc_
             rw [hva_] at ge340_1
             rw [hvc_] at ul340_1
             have HL340_1 := aMk (show Kd.V Kd.string 9 _ w.heap.size _ _ ((rd_T39 l0 x7_1).f0.f1) from Kd.V_mk ul340_1 ge340_1)
             clear hva_ hvn_ hvc_ ge340_1 ul340_1
             have hv340_2 := hcc340 2 _ rfl
             rw [add_field _ _ 2 (by omega)] at hv340_2
             replace hv340_2 := Option.some.inj (hv340_2.symm.trans hx340_2)
             injection hv340_2 with hva_ hvn_ hvc_
             rw [hva_] at ge340_2
             rw [hvc_] at ul340_2
             have HL340_2 := aMk (show Kd.V (Kd.int .i64) 2 _ w.heap.size _ _ ((rd_T39 l0 x7_1).f0.f2) from Kd.V_mk ul340_2 ge340_2)
             clear hva_ hvn_ hvc_ ge340_2 ul340_2
             clear hcc340 hce340
             have HR340_1 := aMk hi340_1
             have HC340_1 := aMk hl340_1
             clear hi340_1 hl340_1
             have HR340_2 := aMk hi340_2
             have HC340_2 := aMk hl340_2
             clear hi340_2 hl340_2
             replace p340 := eq_true p340
             replace q340 := eq_true q340
             refine start_ (n := 14) (S := fun w' => w'.cell? ⟨gb329, 0, none⟩ = some (.int .i64 a1_0) ∧ w'.cell? ⟨gb329, 1, none⟩ = some (.slice A1_1 l1_1.length c1_1) ∧ w'.cell? ⟨gb329, 2, none⟩ = some (.slice A1_2 l1_2.length c1_2) ∧ w'.cell? (ad330.add ((x7_1).toNat * 4)) = some (.int .i64 ((rd_T39 l0 x7_1).f0.f0)) ∧ w'.cell? ⟨(ad330.add ((x7_1).toNat * 4)).block, (ad330.add ((x7_1).toNat * 4)).off + 1, none⟩ = some (.slice A340_1 ((rd_T39 l0 x7_1).f0.f1).length c340_1) ∧ w'.cell? ⟨(ad330.add ((x7_1).toNat * 4)).block, (ad330.add ((x7_1).toNat * 4)).off + 2, none⟩ = some (.slice A340_2 ((rd_T39 l0 x7_1).f0.f2).length c340_2) ∧ w'.cell? ⟨(ad330.add ((x7_1).toNat * 4)).block, (ad330.add ((x7_1).toNat * 4)).off + 3, none⟩ = some (.int .u64 ((rd_T39 l0 x7_1).f1))) (ds := []) #[false, false, false, false, false, false, false, false, false, false, false, false, false, false] (by kernel_rfl) rfl rfl ⟨(blk_cell BK329.out 0).trans rfl, (blk_cell BK329.out 1).trans rfl, (blk_cell BK329.out 2).trans rfl, hx340_0, hx340_1, hx340_2, hx340_3⟩ (fun hHeld => ?_); refine with_tabW gristmillref04_Put.tab6 gristmillref04_Put.bits6 (fun HT_ HW_ => ?_)
             generalize w24.drew = w25 at HO_0 HO_330001 HO_330002 HL330_1 HL330_2 HO336 HO339 BK329 HB HL340_1 HL340_2 HR340_1 HR340_2 hx340_0 hx340_1 hx340_2 hx340_3 hHeld ⊢
             refine pure_ (i := 0) (N := some 30) (v := ?_) (a' := ?_) #[true, false, false, false, false, false, false, false, false, false, false, false, false, false] rfl rfl (any_of HT_.out (by kernel_rfl)) (fun _ _ _ h => h) (Or.inl ⟨by rfl, ?_⟩) ?_ ?_
             rotate_left
             ·intro w'
              go_simp
              with_reducible rfl
             rotate_left
             ·simp only [Act.put, sA, sB, sC, i64_w, i32_w]
              rfl
             refine pure_ (i := 1) (N := some 31) (v := ?_) (a' := ?_) #[true, true, false, false, false, false, false, false, false, false, false, false, false, false] rfl rfl (any_of HT_.out (by kernel_rfl)) (fun _ _ _ h => h) (Or.inl ⟨by rfl, ?_⟩) ?_ ?_
             rotate_left
             ·intro w'
              go_simp
              with_reducible rfl
             rotate_left
             ·simp only [Act.put, sA, sB, sC, i64_w, i32_w]
              rfl
             refine pure_ (i := 2) (N := some 32) (v := ?_) (a' := ?_) #[true, true, true, false, false, false, false, false, false, false, false, false, false, false] rfl rfl (any_of HT_.out (by kernel_rfl)) (fun _ _ _ h => h) (Or.inl ⟨by rfl, ?_⟩) ?_ ?_
             rotate_left
             ·intro w'
              go_simp
              with_reducible rfl
             rotate_left
             ·simp only [Act.put, sA, sB, sC, i64_w, i32_w]
              rfl
             refine pure_ (i := 3) (N := some 33) (v := ?_) (a' := ?_) #[true, true, true, true, false, false, false, false, false, false, false, false, false, false] rfl rfl (any_of HT_.out (by kernel_rfl)) (fun _ _ _ h => h) (Or.inl ⟨by rfl, ?_⟩) ?_ ?_
             rotate_left
             ·intro w'
              go_simp
              with_reducible rfl
             rotate_left
             ·simp only [Act.put, sA, sB, sC, i64_w, i32_w]
              rfl
             refine pure_ (i := 4) (N := some 34) (v := ?_) (a' := ?_) #[true, true, true, true, true, false, false, false, false, false, false, false, false, false] rfl rfl (any_of HT_.out (by kernel_rfl)) (fun _ _ _ h => h) (Or.inl ⟨by rfl, ?_⟩) ?_ ?_
             rotate_left
             ·intro w'
              go_simp
              with_reducible rfl
             rotate_left
             ·simp only [Act.put, sA, sB, sC, i64_w, i32_w]
              rfl
             refine pure_ (i := 5) (N := some 35) (v := ?_) (a' := ?_) #[true, true, true, true, true, true, false, false, false, false, false, false, false, false] rfl rfl (any_of HT_.out (by kernel_rfl)) (fun _ _ _ h => h) (Or.inl ⟨by rfl, ?_⟩) ?_ ?_
             rotate_left
             ·intro w'
              go_simp
              with_reducible rfl
             rotate_left
             ·simp only [Act.put, sA, sB, sC, i64_w, i32_w]
              rfl
             refine pure_ (i := 6) (N := some 36) (v := ?_) (a' := ?_) #[true, true, true, true, true, true, true, false, false, false, false, false, false, false] rfl rfl (any_of HT_.out (by kernel_rfl)) (fun _ _ _ h => h) (Or.inl ⟨by rfl, ?_⟩) ?_ ?_
             rotate_left
             ·intro w'
              go_simp
              with_reducible rfl
             rotate_left
             ·simp only [Act.put, sA, sB, sC, i64_w, i32_w]
              rfl
             refine pure_ (i := 7) (N := some 37) (v := ?_) (a' := ?_) #[true, true, true, true, true, true, true, true, false, false, false, false, false, false] rfl rfl (any_of HT_.out (by kernel_rfl)) (fun _ _ _ h => h) (Or.inl ⟨by rfl, ?_⟩) ?_ ?_
             rotate_left
             ·intro w'
              go_simp
              with_reducible rfl
             rotate_left
             ·simp only [Act.put, sA, sB, sC, i64_w, i32_w]
              rfl
             refine pure_ (i := 8) (N := some 38) (v := ?_) (a' := ?_) #[true, true, true, true, true, true, true, true, true, false, false, false, false, false] rfl rfl (any_of HT_.out (by kernel_rfl)) (fun _ _ _ h => h) (Or.inl ⟨by rfl, ?_⟩) ?_ ?_
             rotate_left
             ·intro w'
              go_simp
              with_reducible rfl
             rotate_left
             ·simp only [Act.put, sA, sB, sC, i64_w, i32_w]
              rfl
             refine take_ (i := 9) (N := some 39) (v := ?_) (a' := ?_) #[true, true, true, true, true, true, true, true, true, true, false, false, false, false] rfl rfl (take_ofW HT_.out HW_.out (by kernel_rfl)) (fun _ _ _ h => h) (Or.inl ⟨by rfl, ?_⟩) hHeld ?_ ?_
             rotate_left
             ·rintro w' ⟨s0, s1, s2, s3, s4, s5, s6⟩
              go_simp
              with_reducible rfl
             rotate_left
             ·simp only [Act.put, sA, sB, sC, i64_w, i32_w]
              rfl
             refine take_ (i := 10) (N := some 40) (v := ?_) (a' := ?_) #[true, true, true, true, true, true, true, true, true, true, true, false, false, false] rfl rfl (take_ofW HT_.out HW_.out (by kernel_rfl)) (fun _ _ _ h => h) (Or.inl ⟨by rfl, ?_⟩) hHeld ?_ ?_
             rotate_left
             ·rintro w' ⟨s0, s1, s2, s3, s4, s5, s6⟩
              go_simp
              with_reducible rfl
             rotate_left
             ·simp only [Act.put, sA, sB, sC, i64_w, i32_w]
              rfl
             refine one_ (i := 11) (N := some 41) #[true, true, true, true, true, true, true, true, true, true, true, true, false, false] rfl rfl (one_of HT_.out (by kernel_rfl)) (by decide) (fun K hK => ?_)
             refine goes_ Try.func31 (by kernel_rfl) rfl #[.agg #[.int .i64 ((rd_T39 l0 x7_1).f0.f0), .slice A340_1 ((rd_T39 l0 x7_1).f0.f1).length c340_1, .slice A340_2 ((rd_T39 l0 x7_1).f0.f2).length c340_2], .agg #[.int .i64 a1_0, .slice A1_1 l1_1.length c1_1, .slice A1_2 l1_2.length c1_2]] (by rfl) rfl rfl (by (try simp only [List.map_toArray, List.map_cons, List.map_nil]); first | done | rfl | (simp only [List.length_drop, List.length_take]; rfl)) ?_
             with_reducible refine (gristmillref04_Compare.calls k1 ((rd_T39 l0 x7_1).f0.f0) _ _ ((rd_T39 l0 x7_1).f0.f1) _ _ ((rd_T39 l0 x7_1).f0.f2) a1_0 _ _ l1_1 _ _ l1_2 t341 _ ?side1 ?side2 ?side3 ?side4 ?side5 ?side6 ?side7 ?side8 A14.out).mono ?_
             (case side1 => repeat (first | exact (by repeat (first | (with_reducible exact HR340_1.out) | (with_reducible refine cA ?_ _) | (with_reducible refine cN ?_ _) | (with_reducible refine cD ?_) | exact HR340_1.out)) | (with_reducible refine cA ?_ _) | (with_reducible refine cN ?_ _) | (with_reducible refine cD ?_)))
             (case side2 => exact HC340_1.out)
             (case side3 => repeat (first | exact (by repeat (first | (with_reducible exact HR340_2.out) | (with_reducible refine cA ?_ _) | (with_reducible refine cN ?_ _) | (with_reducible refine cD ?_) | exact HR340_2.out)) | (with_reducible refine cA ?_ _) | (with_reducible refine cN ?_ _) | (with_reducible refine cD ?_)))
             (case side4 => exact HC340_2.out)
             (case side5 => repeat (first | exact (Kd.V_reads' HO_330001.out).2.2 | (with_reducible refine cA ?_ _) | (with_reducible refine cN ?_ _) | (with_reducible refine cD ?_)))
             (case side6 => exact (Kd.V_reads' HO_330001.out).2.1)
             (case side7 => repeat (first | exact (Kd.V_reads' HO_330002.out).2.2 | (with_reducible refine cA ?_ _) | (with_reducible refine cN ?_ _) | (with_reducible refine cD ?_)))
             (case side8 => exact (Kd.V_reads' HO_330002.out).2.1)
             rintro e w26 ⟨rfl, hb⟩
             have HS3_ := (hb.cell (World.block_lt_of_cell? _ _ (hHeld.2.2.2.1))).trans (hHeld.2.2.2.1)
             have HS4_ := (hb.cell (World.block_lt_of_cell? _ _ (hHeld.2.2.2.2.1))).trans (hHeld.2.2.2.2.1)
             have HS5_ := (hb.cell (World.block_lt_of_cell? _ _ (hHeld.2.2.2.2.2.1))).trans (hHeld.2.2.2.2.2.1)
             have HS6_ := (hb.cell (World.block_lt_of_cell? _ _ (hHeld.2.2.2.2.2.2))).trans (hHeld.2.2.2.2.2.2)
             refine ⟨_, rfl, ?_⟩
             replace HO_0 := aMk (Kd.V_below (by (with_reducible repeat (first | apply Kd.V_alloc | apply Kd.V_drewN | apply Kd.V_drew)); exact HO_0.out) hb)
             replace HO_330001 := aMk (Kd.V_below (by (with_reducible repeat (first | apply Kd.V_alloc | apply Kd.V_drewN | apply Kd.V_drew)); exact HO_330001.out) hb)
             replace HO_330002 := aMk (Kd.V_below (by (with_reducible repeat (first | apply Kd.V_alloc | apply Kd.V_drewN | apply Kd.V_drew)); exact HO_330002.out) hb)
             replace HL330_1 := aMk (Kd.V_below (by (with_reducible repeat (first | apply Kd.V_alloc | apply Kd.V_drewN | apply Kd.V_drew)); exact HL330_1.out) hb)
             replace HL330_2 := aMk (Kd.V_below (by (with_reducible repeat (first | apply Kd.V_alloc | apply Kd.V_drewN | apply Kd.V_drew)); exact HL330_2.out) hb)
             replace HO336 := aMk (Kd.V_below (by (with_reducible repeat (first | apply Kd.V_alloc | apply Kd.V_drewN | apply Kd.V_drew)); exact HO336.out) hb)
             replace HO339 := aMk (Kd.N_below (by (with_reducible repeat (first | apply Kd.N_alloc | apply Kd.N_drewN | apply Kd.N_drew)); exact HO339.out) hb)
             replace HL340_1 := aMk (Kd.V_below (by (with_reducible repeat (first | apply Kd.V_alloc | apply Kd.V_drewN | apply Kd.V_drew)); exact HL340_1.out) hb)
             replace HL340_2 := aMk (Kd.V_below (by (with_reducible repeat (first | apply Kd.V_alloc | apply Kd.V_drewN | apply Kd.V_drew)); exact HL340_2.out) hb)
             replace BK329 := aMk (blk_below (g := gb329) (o := .cells #[.int .i64 a1_0, .slice A1_1 l1_1.length c1_1, .slice A1_2 l1_2.length c1_2] 37 (0, 0)) (by (with_reducible repeat (first | apply bA | apply bN | apply bD)); exact BK329.out) hb)
             replace HR340_1 := aMk (Kd.C_below (by repeat (first | (with_reducible exact HR340_1.out) | (with_reducible refine cA ?_ _) | (with_reducible refine cN ?_ _) | (with_reducible refine cD ?_) | exact HR340_1.out)) hb)
             replace HR340_2 := aMk (Kd.C_below (by repeat (first | (with_reducible exact HR340_2.out) | (with_reducible refine cA ?_ _) | (with_reducible refine cN ?_ _) | (with_reducible refine cD ?_) | exact HR340_2.out)) hb)
             replace HB := aMk (below_step (by repeat (first | (with_reducible first | exact HB.out | apply eA | apply eN | apply eD | refine eS ?_ GE329.out) | exact HB.out)) hb)
             (try clear hb)
             refine hK.out _ _ ⟨(blk_cell BK329.out 0).trans rfl, (blk_cell BK329.out 1).trans rfl, (blk_cell BK329.out 2).trans rfl, HS3_, HS4_, HS5_, HS6_⟩ (fun hHeld => ?_)
             clear hK K
             refine norm_ (a' := ?_) ?_ ?_
             rotate_left
             ·show Act.put _ (some 41) _ = _
              simp only [Act.put, sA, sB, sC, i64_w, i32_w]
              rfl
             refine pure_ (i := 12) (N := some 42) (v := ?_) (a' := ?_) #[true, true, true, true, true, true, true, true, true, true, true, true, true, false] rfl rfl (any_of HT_.out (by kernel_rfl)) (fun _ _ _ h => h) (Or.inl ⟨by rfl, ?_⟩) ?_ ?_
             rotate_left
             ·intro w'
              go_simp
              with_reducible rfl
             rotate_left
             ·simp only [Act.put, sA, sB, sC, i64_w, i32_w]
              rfl
             refine pure_ (i := 13) (N := some 43) (v := ?_) (a' := ?_) #[true, true, true, true, true, true, true, true, true, true, true, true, true, true] rfl rfl (any_of HT_.out (by kernel_rfl)) (fun _ _ _ h => h) (Or.inl ⟨by rfl, ?_⟩) ?_ ?_
             rotate_left
             ·intro w'
              go_simp
              with_reducible rfl
             rotate_left
             ·simp only [Act.put, sA, sB, sC, i64_w, i32_w]
              rfl
             refine done_ (done_of HT_.out (by kernel_rfl)) ?_
             try go_wp2
             replace HO_0 := aMk (Kd.V_drew HO_0.out)
             replace HO_330001 := aMk (Kd.V_drew HO_330001.out)
             replace HO_330002 := aMk (Kd.V_drew HO_330002.out)
             replace HL330_1 := aMk (Kd.V_drew HL330_1.out)
             replace HL330_2 := aMk (Kd.V_drew HL330_2.out)
             replace HO336 := aMk (Kd.V_drew HO336.out)
             replace HO339 := aMk (Kd.N_drew HO339.out)
             replace HL340_1 := aMk (Kd.V_drew HL340_1.out)
             replace HL340_2 := aMk (Kd.V_drew HL340_2.out)
             replace BK329 := aMk (bD BK329.out)
             replace HR340_1 := aMk (cD HR340_1.out)
             replace HR340_2 := aMk (cD HR340_2.out)
             replace HB := aMk (eD HB.out)
             have p342 : 0 ≤ (x7_1 : Int) := of_decide_eq_true (by first | (with_reducible assumption) | assumption)
             have q342 : x7_1 < (l0.length : Int) := of_decide_eq_true (by first | (with_reducible assumption) | assumption)
             obtain ⟨ad342, A342_1, c342_1, A342_2, c342_2, e342, hx342_0, hx342_1, hx342_2, hx342_3, hl342_1, hi342_1, hl342_2, hi342_2⟩ := at_T39 (Kd.V_reads' HO_0.out).2.2 x7_1 p342 q342
             obtain rfl : ad330 = ad342 := (by injection e342)
             obtain ⟨ce342, hce342, hMe342, hcc342⟩ := Kd.V_get HO_0.out z39 x7_1 p342 (by first | exact q342 | exact of_decide_eq_true (by first | (with_reducible assumption) | assumption) | (have e_ := (Kd.V_reads' HO_0.out).1; omega))
             obtain ⟨ua342_1, uc342_1, ua342_2, uc342_2, rfl, ul342_1, ge342_1, ul342_2, ge342_2⟩ := k39_openF hMe342
             have hv342_1 := hcc342 1 _ rfl
             rw [add_field _ _ 1 (by omega)] at hv342_1
             replace hv342_1 := Option.some.inj (hv342_1.symm.trans hx342_1)
             injection hv342_1 with hva_ hvn_ hvc_
             rw [hva_] at ge342_1
             rw [hvc_] at ul342_1
             have HL342_1 := aMk (show Kd.V Kd.string 9 _ w.heap.size _ _ ((rd_T39 l0 x7_1).f0.f1) from Kd.V_mk ul342_1 ge342_1)
             clear hva_ hvn_ hvc_ ge342_1 ul342_1
             have hv342_2 := hcc342 2 _ rfl
             rw [add_field _ _ 2 (by omega)] at hv342_2
             replace hv342_2 := Option.some.inj (hv342_2.symm.trans hx342_2)
             injection hv342_2 with hva_ hvn_ hvc_
             rw [hva_] at ge342_2
             rw [hvc_] at ul342_2
             have HL342_2 := aMk (show Kd.V (Kd.int .i64) 2 _ w.heap.size _ _ ((rd_T39 l0 x7_1).f0.f2) from Kd.V_mk ul342_2 ge342_2)
             clear hva_ hvn_ hvc_ ge342_2 ul342_2
             clear hcc342 hce342
             have HR342_1 := aMk hi342_1
             have HC342_1 := aMk hl342_1
             clear hi342_1 hl342_1
             have HR342_2 := aMk hi342_2
             have HC342_2 := aMk hl342_2
             clear hi342_2 hl342_2
             replace p342 := eq_true p342
             replace q342 := eq_true q342
             refine start_ (n := 13) (S := fun w' => w'.cell? ⟨gb329, 0, none⟩ = some (.int .i64 a1_0) ∧ w'.cell? ⟨gb329, 1, none⟩ = some (.slice A1_1 l1_1.length c1_1) ∧ w'.cell? ⟨gb329, 2, none⟩ = some (.slice A1_2 l1_2.length c1_2) ∧ w'.cell? (ad330.add ((x7_1).toNat * 4)) = some (.int .i64 ((rd_T39 l0 x7_1).f0.f0)) ∧ w'.cell? ⟨(ad330.add ((x7_1).toNat * 4)).block, (ad330.add ((x7_1).toNat * 4)).off + 1, none⟩ = some (.slice A342_1 ((rd_T39 l0 x7_1).f0.f1).length c342_1) ∧ w'.cell? ⟨(ad330.add ((x7_1).toNat * 4)).block, (ad330.add ((x7_1).toNat * 4)).off + 2, none⟩ = some (.slice A342_2 ((rd_T39 l0 x7_1).f0.f2).length c342_2) ∧ w'.cell? ⟨(ad330.add ((x7_1).toNat * 4)).block, (ad330.add ((x7_1).toNat * 4)).off + 3, none⟩ = some (.int .u64 ((rd_T39 l0 x7_1).f1))) (ds := [10, 11]) #[false, false, false, false, false, false, false, false, false, false, false, false, false] (by kernel_rfl) rfl rfl ⟨(blk_cell BK329.out 0).trans rfl, (blk_cell BK329.out 1).trans rfl, (blk_cell BK329.out 2).trans rfl, hx342_0, hx342_1, hx342_2, hx342_3⟩ (fun hHeld => ?_); refine with_tabW gristmillref04_Put.tab7 gristmillref04_Put.bits7 (fun HT_ HW_ => ?_)
             generalize w26.drew = w27 at HO_0 HO_330001 HO_330002 HL330_1 HL330_2 HO336 HO339 HL340_1 HL340_2 BK329 HR340_1 HR340_2 HB HL342_1 HL342_2 HR342_1 HR342_2 hx342_0 hx342_1 hx342_2 hx342_3 hHeld ⊢
             refine pure_ (i := 0) (N := some 44) (v := ?_) (a' := ?_) #[true, false, false, false, false, false, false, false, false, false, false, false, false] rfl rfl (any_of HT_.out (by kernel_rfl)) (fun _ _ _ h => h) (Or.inl ⟨by rfl, ?_⟩) ?_ ?_
             rotate_left
             ·intro w'
              go_simp
              with_reducible rfl
             rotate_left
             ·simp only [Act.put, sA, sB, sC, i64_w, i32_w]
              rfl
             refine pure_ (i := 2) (N := some 46) (v := ?_) (a' := ?_) #[true, false, true, false, false, false, false, false, false, false, false, false, false] rfl rfl (any_of HT_.out (by kernel_rfl)) (fun _ _ _ h => h) (Or.inl ⟨by rfl, ?_⟩) ?_ ?_
             rotate_left
             ·intro w'
              go_simp
              with_reducible rfl
             rotate_left
             ·simp only [Act.put, sA, sB, sC, i64_w, i32_w]
              rfl
             refine pure_ (i := 3) (N := some 47) (v := ?_) (a' := ?_) #[true, false, true, true, false, false, false, false, false, false, false, false, false] rfl rfl (any_of HT_.out (by kernel_rfl)) (fun _ _ _ h => h) (Or.inl ⟨by rfl, ?_⟩) ?_ ?_
             rotate_left
             ·intro w'
              go_simp
              with_reducible rfl
             rotate_left
             ·simp only [Act.put, sA, sB, sC, i64_w, i32_w]
              rfl
             refine pure_ (i := 4) (N := some 48) (v := ?_) (a' := ?_) #[true, false, true, true, true, false, false, false, false, false, false, false, false] rfl rfl (any_of HT_.out (by kernel_rfl)) (fun _ _ _ h => h) (Or.inl ⟨by rfl, ?_⟩) ?_ ?_
             rotate_left
             ·intro w'
              go_simp
              with_reducible rfl
             rotate_left
             ·simp only [Act.put, sA, sB, sC, i64_w, i32_w]
              rfl
             refine pure_ (i := 5) (N := some 49) (v := ?_) (a' := ?_) #[true, false, true, true, true, true, false, false, false, false, false, false, false] rfl rfl (any_of HT_.out (by kernel_rfl)) (fun _ _ _ h => h) (Or.inl ⟨by rfl, ?_⟩) ?_ ?_
             rotate_left
             ·intro w'
              go_simp
              with_reducible rfl
             rotate_left
             ·simp only [Act.put, sA, sB, sC, i64_w, i32_w]
              rfl
             refine pure_ (i := 7) (N := some 51) (v := ?_) (a' := ?_) #[true, false, true, true, true, true, false, true, false, false, false, false, false] rfl rfl (any_of HT_.out (by kernel_rfl)) (fun _ _ _ h => h) (Or.inl ⟨by rfl, ?_⟩) ?_ ?_
             rotate_left
             ·intro w'
              go_simp
              with_reducible rfl
             rotate_left
             ·simp only [Act.put, sA, sB, sC, i64_w, i32_w]
              rfl
             refine take_ (i := 1) (N := some 45) (v := ?_) (a' := ?_) #[true, true, true, true, true, true, false, true, false, false, false, false, false] rfl rfl (take_ofW HT_.out HW_.out (by kernel_rfl)) (fun _ _ _ h => h) (Or.inl ⟨by rfl, ?_⟩) hHeld ?_ ?_
             rotate_left
             ·rintro w' ⟨s0, s1, s2, s3, s4, s5, s6⟩
              go_simp
              with_reducible rfl
             rotate_left
             ·simp only [Act.put, sA, sB, sC, i64_w, i32_w]
              rfl
             refine take_ (i := 6) (N := some 50) (v := ?_) (a' := ?_) #[true, true, true, true, true, true, true, true, false, false, false, false, false] rfl rfl (take_ofW HT_.out HW_.out (by kernel_rfl)) (fun _ _ _ h => h) (Or.inl ⟨by rfl, ?_⟩) hHeld ?_ ?_
             rotate_left
             ·rintro w' ⟨s0, s1, s2, s3, s4, s5, s6⟩
              go_simp
              with_reducible rfl
             rotate_left
             ·simp only [Act.put, sA, sB, sC, i64_w, i32_w]
              rfl
             refine pure_ (i := 8) (N := some 52) (v := ?_) (a' := ?_) #[true, true, true, true, true, true, true, true, true, false, false, false, false] rfl rfl (any_of HT_.out (by kernel_rfl)) (fun _ _ _ h => h) (Or.inl ⟨by rfl, ?_⟩) ?_ ?_
             rotate_left
             ·intro w'
              go_simp
              with_reducible rfl
             rotate_left
             ·simp only [Act.put, sA, sB, sC, i64_w, i32_w]
              rfl
             refine pure_ (i := 9) (N := some 53) (v := ?_) (a' := ?_) #[true, true, true, true, true, true, true, true, true, true, false, false, false] rfl rfl (any_of HT_.out (by kernel_rfl)) (fun _ _ _ h => h) (Or.inl ⟨by rfl, ?_⟩) ?_ ?_
             rotate_left
             ·intro w'
              go_simp
              with_reducible rfl
             rotate_left
             ·simp only [Act.put, sA, sB, sC, i64_w, i32_w]
              rfl
             refine last_ (i := 10) (N := some 54) #[true, true, true, true, true, true, true, true, true, true, true, false, false] rfl rfl (one_of HT_.out (by kernel_rfl)) (by decide) (fun K hK => ?_)
             refine value_ (w1 := ?_) (v := ?_) (by rfl) rfl ?_ ?_
             rotate_left 2
             ·go_simp
              constructor
              ·rfl
              ·rfl
             refine hK.out _ _ ?_
             clear hK K
             refine norm_ (a' := ?_) ?_ ?_
             rotate_left
             ·show Act.put _ (some 54) _ = _
              simp only [Act.put, sA, sB, sC, i64_w, i32_w]
              rfl
             refine last_ (i := 11) (N := some 55) #[true, true, true, true, true, true, true, true, true, true, true, true, false] rfl rfl (one_of HT_.out (by kernel_rfl)) (by decide) (fun K hK => ?_)
             refine Kd.N_append_step k39 (w0 := w) w.heap.size (by rfl) (.tmp 44) (.tmp 54) 24 39 (.agg #[(.int .i64 0), (.slice none 0 0), (.slice none 0 0), (.int .u64 0)]) 64 rfl Try.underlying24 info39 rfl (by decide) (by omega) v338 y337 (⟨(⟨a1_0, l1_1, l1_2⟩ : S37), IntKind.u64.wrap (((rd_T39 l0 x7_1).f1) + a2)⟩ : S39) [.int .i64 a1_0, .slice A1_1 l1_1.length c1_1, .slice A1_2 l1_2.length c1_2, .int .u64 (IntKind.u64.wrap (((rd_T39 l0 x7_1).f1) + a2))] (fun k_ => ((P0_ k_ ∨ P1_1_ k_ ∨ P1_2_ k_) ∨ w.heap.size ≤ k_) ∧ k_ ≠ gb329) (fun k_ => ((fun k_ => ((P0_ k_ ∨ P1_1_ k_ ∨ P1_2_ k_) ∨ w.heap.size ≤ k_) ∧ k_ ≠ gb329)) k_ ∧ some k_ ≠ (v338 : Value).ownBlock) rfl rfl ?aP (fun _ hk => hk) ?aF ?aO ?aB ?aS ?aL ?_
             (case aP => exact (k39_mkF _ _ (⟨(⟨a1_0, l1_1, l1_2⟩ : S37), IntKind.u64.wrap (((rd_T39 l0 x7_1).f1) + a2)⟩ : S39) (Kd.V_reads' (Kd.V_mono (ok' := (fun k_ => ((fun k_ => ((P0_ k_ ∨ P1_1_ k_ ∨ P1_2_ k_) ∨ w.heap.size ≤ k_) ∧ k_ ≠ gb329)) k_ ∧ some k_ ≠ (v338 : Value).ownBlock)) (HO_330001.out) (fun k_ hk => ⟨⟨hk.1.1, hk.1.2⟩, hk.2⟩))).2.1 (Kd.V_F (Kd.V_mono (ok' := (fun k_ => ((fun k_ => ((P0_ k_ ∨ P1_1_ k_ ∨ P1_2_ k_) ∨ w.heap.size ≤ k_) ∧ k_ ≠ gb329)) k_ ∧ some k_ ≠ (v338 : Value).ownBlock)) (HO_330001.out) (fun k_ hk => ⟨⟨hk.1.1, hk.1.2⟩, hk.2⟩))) (Kd.V_reads' (Kd.V_mono (ok' := (fun k_ => ((fun k_ => ((P0_ k_ ∨ P1_1_ k_ ∨ P1_2_ k_) ∨ w.heap.size ≤ k_) ∧ k_ ≠ gb329)) k_ ∧ some k_ ≠ (v338 : Value).ownBlock)) (HO_330002.out) (fun k_ hk => ⟨⟨hk.1.1, hk.1.2⟩, hk.2⟩))).2.1 (Kd.V_F (Kd.V_mono (ok' := (fun k_ => ((fun k_ => ((P0_ k_ ∨ P1_1_ k_ ∨ P1_2_ k_) ∨ w.heap.size ≤ k_) ∧ k_ ≠ gb329)) k_ ∧ some k_ ≠ (v338 : Value).ownBlock)) (HO_330002.out) (fun k_ hk => ⟨⟨hk.1.1, hk.1.2⟩, hk.2⟩)))))
             (case aB => exact (by repeat (first | (with_reducible first | exact HB.out | apply eA | apply eN | apply eD | refine eS ?_ GE329.out) | exact HB.out)))
             (case aF => exact (fun k_ hk => ⟨(.inr (Nat.le_trans (below_size (by repeat (first | (with_reducible first | exact HB.out | apply eA | apply eN | apply eD | refine eS ?_ GE329.out) | exact HB.out))) hk)), Kd.freshB (g := gb329) (o := .cells #[.int .i64 a1_0, .slice A1_1 l1_1.length c1_1, .slice A1_2 l1_2.length c1_2] 37 (0, 0)) (by (with_reducible repeat (first | apply bA | apply bN | apply bD)); exact BK329.out) k_ hk⟩))
             (case aO => exact (by (with_reducible repeat (first | apply Kd.N_alloc | apply Kd.N_drewN | apply Kd.N_drew)); exact HO339.out))
             (case aS => exact (below_size (by repeat (first | (with_reducible first | exact HB.out | apply eA | apply eN | apply eD | refine eS ?_ GE329.out) | exact HB.out))))
             (case aL => have := LMc16.out; omega)
             intro v344 w28 ho hb hg hat
             rw [← Ny343.out] at ho
             have HO345 := aMk (ho)
             replace HO_0 := aMk (Kd.V_afterv (ok := (fun k_ => ((P0_ k_ ∨ P1_1_ k_ ∨ P1_2_ k_) ∨ w.heap.size ≤ k_) ∧ k_ ≠ gb329)) (by (with_reducible repeat (first | apply Kd.V_alloc | apply Kd.V_drewN | apply Kd.V_drew)); exact HO_0.out) hg hat)
             replace HO_330001 := aMk (Kd.V_afterv (ok := (fun k_ => ((P0_ k_ ∨ P1_1_ k_ ∨ P1_2_ k_) ∨ w.heap.size ≤ k_) ∧ k_ ≠ gb329)) (by (with_reducible repeat (first | apply Kd.V_alloc | apply Kd.V_drewN | apply Kd.V_drew)); exact HO_330001.out) hg hat)
             replace HO_330002 := aMk (Kd.V_afterv (ok := (fun k_ => ((P0_ k_ ∨ P1_1_ k_ ∨ P1_2_ k_) ∨ w.heap.size ≤ k_) ∧ k_ ≠ gb329)) (by (with_reducible repeat (first | apply Kd.V_alloc | apply Kd.V_drewN | apply Kd.V_drew)); exact HO_330002.out) hg hat)
             replace BK329 := aMk (blk_grown (g := gb329) (o := .cells #[.int .i64 a1_0, .slice A1_1 l1_1.length c1_1, .slice A1_2 l1_2.length c1_2] 37 (0, 0)) (by (with_reducible repeat (first | apply bA | apply bN | apply bD)); exact BK329.out) hg (Kd.N_ne HO339.out BK329.out (by decide)))
             replace HL330_1 := aMk (Kd.V_afterv (ok := (fun k_ => ((P0_ k_ ∨ P1_1_ k_ ∨ P1_2_ k_) ∨ w.heap.size ≤ k_) ∧ k_ ≠ gb329)) (by (with_reducible repeat (first | apply Kd.V_alloc | apply Kd.V_drewN | apply Kd.V_drew)); exact HL330_1.out) hg hat)
             replace HL330_2 := aMk (Kd.V_afterv (ok := (fun k_ => ((P0_ k_ ∨ P1_1_ k_ ∨ P1_2_ k_) ∨ w.heap.size ≤ k_) ∧ k_ ≠ gb329)) (by (with_reducible repeat (first | apply Kd.V_alloc | apply Kd.V_drewN | apply Kd.V_drew)); exact HL330_2.out) hg hat)
             replace HO336 := aMk (Kd.V_afterv (ok := (fun k_ => ((P0_ k_ ∨ P1_1_ k_ ∨ P1_2_ k_) ∨ w.heap.size ≤ k_) ∧ k_ ≠ gb329)) (by (with_reducible repeat (first | apply Kd.V_alloc | apply Kd.V_drewN | apply Kd.V_drew)); exact HO336.out) hg hat)
             replace HL340_1 := aMk (Kd.V_afterv (ok := (fun k_ => ((P0_ k_ ∨ P1_1_ k_ ∨ P1_2_ k_) ∨ w.heap.size ≤ k_) ∧ k_ ≠ gb329)) (by (with_reducible repeat (first | apply Kd.V_alloc | apply Kd.V_drewN | apply Kd.V_drew)); exact HL340_1.out) hg hat)
             replace HL340_2 := aMk (Kd.V_afterv (ok := (fun k_ => ((P0_ k_ ∨ P1_1_ k_ ∨ P1_2_ k_) ∨ w.heap.size ≤ k_) ∧ k_ ≠ gb329)) (by (with_reducible repeat (first | apply Kd.V_alloc | apply Kd.V_drewN | apply Kd.V_drew)); exact HL340_2.out) hg hat)
             replace HL342_1 := aMk (Kd.V_afterv (ok := (fun k_ => ((P0_ k_ ∨ P1_1_ k_ ∨ P1_2_ k_) ∨ w.heap.size ≤ k_) ∧ k_ ≠ gb329)) (by (with_reducible repeat (first | apply Kd.V_alloc | apply Kd.V_drewN | apply Kd.V_drew)); exact HL342_1.out) hg hat)
             replace HL342_2 := aMk (Kd.V_afterv (ok := (fun k_ => ((P0_ k_ ∨ P1_1_ k_ ∨ P1_2_ k_) ∨ w.heap.size ≤ k_) ∧ k_ ≠ gb329)) (by (with_reducible repeat (first | apply Kd.V_alloc | apply Kd.V_drewN | apply Kd.V_drew)); exact HL342_2.out) hg hat)
             replace HB := aMk (hb)
             clear HO339
             clear ho hb hg hat
             refine hK.out _ _ ?_
             clear hK K
             refine norm_ (a' := ?_) ?_ ?_
             rotate_left
             ·show Act.put _ (some 55) _ = _
              simp only [Act.put, sA, sB, sC, i64_w, i32_w]
              rfl
             refine pure_ (i := 12) (N := some 8) (v := ?_) (a' := ?_) #[true, true, true, true, true, true, true, true, true, true, true, true, true] rfl rfl (any_of HT_.out (by kernel_rfl)) (fun _ _ _ h => h) (Or.inl ⟨by rfl, ?_⟩) ?_ ?_
             rotate_left
             ·intro w'
              go_simp
              with_reducible rfl
             rotate_left
             ·simp only [Act.put, sA, sB, sC, i64_w, i32_w]
              rfl
             refine done_ (done_of HT_.out (by kernel_rfl)) ?_
             have q29 : ((ji17) : Int) ≤ ((l0.length : Int) : Int) := of_decide_eq_true (by first | (with_reducible assumption) | assumption)
             obtain ⟨i029, hi029, _, hsz29, _⟩ := info_parts info39
             have hroom29 : l0.length ≤ c0 := (Kd.V_reads' HO_0.out).2.1
             have hC29 : Kd.F k39 _ _ (some ad330) l0.length l0 := (Kd.V_at (base := w.heap.size) HO_0.out).2.2
             have q029 : (0 : Int) ≤ ((ji17) : Int) := of_decide_eq_true (by first | (with_reducible assumption) | assumption)
             have hcut29 := cut_from (P := Try.prog) 24 39 .i64 Try.underlying24 hi029 4 hsz29 (some ad330) l0.length c0 (ji17) q029 q29
             have hr29 := Kd.F_cut (m := ((ji17) : Int).toNat) (c := c0) hC29 (by omega) hroom29
             obtain ⟨A29, hA29⟩ : ∃ A1, A1 = (if c0 = ((ji17) : Int).toNat then (some ad330) else ((some ad330) : Option Addr).map (·.add (((ji17) : Int).toNat * 4))) := ⟨_, rfl⟩
             obtain ⟨c29, hc29⟩ : ∃ c1, c1 = c0 - ((ji17) : Int).toNat := ⟨_, rfl⟩
             have hy29 : y346.length = l0.length - ((ji17) : Int).toNat := (by rw [Ny346.out, List.length_drop] <;> omega)
             rw [show (l0).drop ((ji17) : Int).toNat = y346 from Ny346.out.symm] at hr29
             replace hr29 : Kd.F k39 _ _ A29 y346.length y346 := (by rw [hA29]; exact hr29)
             rw [← hy29, ← hA29, ← hc29] at hcut29
             have HO350 := aMk (show Kd.V k39 39 _ w.heap.size _ (.slice A29 y346.length c29) y346 from Kd.V_mk (by rw [hy29, hc29]; exact Nat.sub_le_sub_right hroom29 _) hr29)
             have HC350 := aMk (show y346.length ≤ c29 from by rw [hy29, hc29]; exact Nat.sub_le_sub_right hroom29 _)
             clear hr29 hC29 hroom29 hi029 hsz29 hc29
             have KY29 := aMk hy29
             have KA29 := aMk hA29
             clear hy29 hA29
             replace q29 := eq_true q29
             try go_wp2_with (first | ((with_reducible refine gate_builtin (b := .append) (xs := #[.tmp 56, .tmp 60]) rfl ?_); at_builtin; refine Kd.N_append_rows k39 (w0 := w) w.heap.size rfl (.tmp 56) (.tmp 60) 24 39 (.agg #[(.int .i64 0), (.slice none 0 0), (.slice none 0 0), (.int .u64 0)]) 64 rfl Try.underlying24 info39 rfl (by decide) (by omega) v344 y343 y346 _ _ _ (fun k_ => ((P0_ k_ ∨ P1_1_ k_ ∨ P1_2_ k_) ∨ w.heap.size ≤ k_) ∧ k_ ≠ gb329) (fun k_ => ((fun k_ => ((P0_ k_ ∨ P1_1_ k_ ∨ P1_2_ k_) ∨ w.heap.size ≤ k_) ∧ k_ ≠ gb329)) k_ ∧ some k_ ≠ (v344 : Value).ownBlock) rfl rfl ?aO ?aR (fun _ hk => hk) ?aF ?aB ?aS ?aL ?_; (case aR => exact (by skip; exact Kd.V_F (Kd.V_mono (ok' := (fun k_ => ((fun k_ => ((P0_ k_ ∨ P1_1_ k_ ∨ P1_2_ k_) ∨ w.heap.size ≤ k_) ∧ k_ ≠ gb329)) k_ ∧ some k_ ≠ (v344 : Value).ownBlock)) (HO350.out) (fun k_ hk => ⟨⟨hk.1.1, hk.1.2⟩, hk.2⟩)))); (case aB => exact (by repeat (first | (with_reducible first | exact HB.out | apply eA | apply eN | apply eD | refine eS ?_ GE329.out) | exact HB.out))); (case aF => exact (fun k_ hk => ⟨(.inr (Nat.le_trans (below_size (by repeat (first | (with_reducible first | exact HB.out | apply eA | apply eN | apply eD | refine eS ?_ GE329.out) | exact HB.out))) hk)), Kd.freshB (g := gb329) (o := .cells #[.int .i64 a1_0, .slice A1_1 l1_1.length c1_1, .slice A1_2 l1_2.length c1_2] 37 (0, 0)) (by (with_reducible repeat (first | apply bA | apply bN | apply bD)); exact BK329.out) k_ hk⟩)); (case aO => exact (by (with_reducible repeat (first | apply Kd.N_alloc | apply Kd.N_drewN | apply Kd.N_drew)); exact HO345.out)); (case aS => exact (below_size (by repeat (first | (with_reducible first | exact HB.out | apply eA | apply eN | apply eD | refine eS ?_ GE329.out) | exact HB.out)))); (case aL => have := LMc20.out; omega); intro v352 w30 ho hb hg hat; rw [← Ny351.out] at ho; have HO353 := aMk (ho); replace HO_0 := aMk (Kd.V_afterv (ok := (fun k_ => ((P0_ k_ ∨ P1_1_ k_ ∨ P1_2_ k_) ∨ w.heap.size ≤ k_) ∧ k_ ≠ gb329)) (by (with_reducible repeat (first | apply Kd.V_alloc | apply Kd.V_drewN | apply Kd.V_drew)); exact HO_0.out) hg hat); replace HO_330001 := aMk (Kd.V_afterv (ok := (fun k_ => ((P0_ k_ ∨ P1_1_ k_ ∨ P1_2_ k_) ∨ w.heap.size ≤ k_) ∧ k_ ≠ gb329)) (by (with_reducible repeat (first | apply Kd.V_alloc | apply Kd.V_drewN | apply Kd.V_drew)); exact HO_330001.out) hg hat); replace HO_330002 := aMk (Kd.V_afterv (ok := (fun k_ => ((P0_ k_ ∨ P1_1_ k_ ∨ P1_2_ k_) ∨ w.heap.size ≤ k_) ∧ k_ ≠ gb329)) (by (with_reducible repeat (first | apply Kd.V_alloc | apply Kd.V_drewN | apply Kd.V_drew)); exact HO_330002.out) hg hat); replace BK329 := aMk (blk_grown (g := gb329) (o := .cells #[.int .i64 a1_0, .slice A1_1 l1_1.length c1_1, .slice A1_2 l1_2.length c1_2] 37 (0, 0)) (by (with_reducible repeat (first | apply bA | apply bN | apply bD)); exact BK329.out) hg (Kd.N_ne HO345.out BK329.out (by decide))); replace HL330_1 := aMk (Kd.V_afterv (ok := (fun k_ => ((P0_ k_ ∨ P1_1_ k_ ∨ P1_2_ k_) ∨ w.heap.size ≤ k_) ∧ k_ ≠ gb329)) (by (with_reducible repeat (first | apply Kd.V_alloc | apply Kd.V_drewN | apply Kd.V_drew)); exact HL330_1.out) hg hat); replace HL330_2 := aMk (Kd.V_afterv (ok := (fun k_ => ((P0_ k_ ∨ P1_1_ k_ ∨ P1_2_ k_) ∨ w.heap.size ≤ k_) ∧ k_ ≠ gb329)) (by (with_reducible repeat (first | apply Kd.V_alloc | apply Kd.V_drewN | apply Kd.V_drew)); exact HL330_2.out) hg hat); replace HO336 := aMk (Kd.V_afterv (ok := (fun k_ => ((P0_ k_ ∨ P1_1_ k_ ∨ P1_2_ k_) ∨ w.heap.size ≤ k_) ∧ k_ ≠ gb329)) (by (with_reducible repeat (first | apply Kd.V_alloc | apply Kd.V_drewN | apply Kd.V_drew)); exact HO336.out) hg hat); replace HL340_1 := aMk (Kd.V_afterv (ok := (fun k_ => ((P0_ k_ ∨ P1_1_ k_ ∨ P1_2_ k_) ∨ w.heap.size ≤ k_) ∧ k_ ≠ gb329)) (by (with_reducible repeat (first | apply Kd.V_alloc | apply Kd.V_drewN | apply Kd.V_drew)); exact HL340_1.out) hg hat); replace HL340_2 := aMk (Kd.V_afterv (ok := (fun k_ => ((P0_ k_ ∨ P1_1_ k_ ∨ P1_2_ k_) ∨ w.heap.size ≤ k_) ∧ k_ ≠ gb329)) (by (with_reducible repeat (first | apply Kd.V_alloc | apply Kd.V_drewN | apply Kd.V_drew)); exact HL340_2.out) hg hat); replace HL342_1 := aMk (Kd.V_afterv (ok := (fun k_ => ((P0_ k_ ∨ P1_1_ k_ ∨ P1_2_ k_) ∨ w.heap.size ≤ k_) ∧ k_ ≠ gb329)) (by (with_reducible repeat (first | apply Kd.V_alloc | apply Kd.V_drewN | apply Kd.V_drew)); exact HL342_1.out) hg hat); replace HL342_2 := aMk (Kd.V_afterv (ok := (fun k_ => ((P0_ k_ ∨ P1_1_ k_ ∨ P1_2_ k_) ∨ w.heap.size ≤ k_) ∧ k_ ≠ gb329)) (by (with_reducible repeat (first | apply Kd.V_alloc | apply Kd.V_drewN | apply Kd.V_drew)); exact HL342_2.out) hg hat); replace HO350 := aMk (Kd.V_afterv (ok := (fun k_ => ((P0_ k_ ∨ P1_1_ k_ ∨ P1_2_ k_) ∨ w.heap.size ≤ k_) ∧ k_ ≠ gb329)) (by (with_reducible repeat (first | apply Kd.V_alloc | apply Kd.V_drewN | apply Kd.V_drew)); exact HO350.out) hg hat); replace HB := aMk (hb); clear HO345; clear ho hb hg hat))
             go_ret
             exact ⟨_, by first | rfl | (simp <;> rfl) | (simp only [← hji17]; first | rfl | (simp <;> rfl)) | (simp [*] <;> rfl), by (with_reducible repeat (first | apply Kd.N_alloc | apply Kd.N_drewN | apply Kd.N_drew)); exact Kd.N_mono HO353.out (fun _ hk => hk.1), by repeat (first | (with_reducible first | exact HB.out | apply eA | apply eN | apply eD | refine eS ?_ GE329.out) | exact HB.out)⟩
            ·rw [if_neg c20] at H
             exact absurd H (by simp)
           ·rw [if_neg c19] at H
            exact absurd H (by simp)
          ·rw [if_neg c18] at H
           exact absurd H (by simp)
         ·rw [if_neg c16] at H
          exact absurd H (by simp)
        ·rw [if_neg c15] at H
         have c15b0 : (t341 == 0) = false := beq_eq_false_iff_ne.mpr c15
         have c15b1 : (t341 != 0) = true := bne_iff_ne.mpr c15
         by_cases c31 : y337.length < 2199023255552
         ·rw [if_pos c31] at H
          have LMc31 := aMk c31
          clear c31
          obtain ⟨y354, hy354⟩ : ∃ y_ : List (S39), y_ = (y337 ++ [(⟨(⟨a1_0, l1_1, l1_2⟩ : S37), a2⟩ : S39)]) := ⟨_, rfl⟩
          replace H : ((some (l0.drop (x7_1 : Int).toNat : List (S39))).bind fun y357 => (if y354.length + y357.length < 2199023255552 then (some (y354 ++ y357)) else (none))) = some r := by first | (rw [hy354]; with_reducible exact H) | (have H2_ := (Option.bind_some _ _).symm.trans H; rw [hy354]; with_reducible exact H2_) | (have H2_ := (Option.bind_some _ _).symm.trans H; with_reducible exact H2_) | with_reducible exact H | (rw [hy354]; exact H) | exact H
          have Ny354 := aMk hy354
          clear hy354
          have c32b0 := eq_true (of_decide_eq_true (by first | (with_reducible assumption) | assumption) : 0 ≤ x7_1)
          have c33b0 := eq_true (of_decide_eq_true (by first | (with_reducible assumption) | assumption) : x7_1 ≤ (l0.length : Int))
          obtain ⟨y357, hy357⟩ : ∃ y_ : List (S39), y_ = (l0.drop (x7_1 : Int).toNat) := ⟨_, rfl⟩
          replace H : (if y354.length + y357.length < 2199023255552 then (some (y354 ++ y357)) else (none)) = some r := by first | (rw [hy357]; with_reducible exact H) | (have H2_ := (Option.bind_some _ _).symm.trans H; rw [hy357]; with_reducible exact H2_) | (have H2_ := (Option.bind_some _ _).symm.trans H; with_reducible exact H2_) | with_reducible exact H | (rw [hy357]; exact H) | exact H
          have Ny357 := aMk hy357
          clear hy357
          by_cases c34 : y354.length + y357.length < 2199023255552
          ·rw [if_pos c34] at H
           have LMc34 := aMk c34
           clear c34
           obtain ⟨y362, hy362⟩ : ∃ y_ : List (S39), y_ = (y354 ++ y357) := ⟨_, rfl⟩
           replace H : (some y362) = some r := by first | (rw [hy362]; with_reducible exact H) | (have H2_ := (Option.bind_some _ _).symm.trans H; rw [hy362]; with_reducible exact H2_) | (have H2_ := (Option.bind_some _ _).symm.trans H; with_reducible exact H2_) | with_reducible exact H | (rw [hy362]; exact H) | exact H
           have Ny362 := aMk hy362
           clear hy362
           obtain rfl := Option.some.inj H
           try go_wp2
           replace HO_0 := aMk (Kd.V_drew HO_0.out)
           replace HO_330001 := aMk (Kd.V_drew HO_330001.out)
           replace HO_330002 := aMk (Kd.V_drew HO_330002.out)
           replace BK329 := aMk (bD BK329.out)
           replace HB := aMk (eD HB.out)
           have p330 : 0 ≤ (x7_1 : Int) := of_decide_eq_true (by first | (with_reducible assumption) | assumption)
           have q330 : x7_1 < (l0.length : Int) := of_decide_eq_true (by first | (with_reducible assumption) | assumption)
           obtain ⟨ad330, A330_1, c330_1, A330_2, c330_2, e330, hx330_0, hx330_1, hx330_2, hx330_3, hl330_1, hi330_1, hl330_2, hi330_2⟩ := at_T39 (Kd.V_reads' HO_0.out).2.2 x7_1 p330 q330
           cases e330
           obtain ⟨ce330, hce330, hMe330, hcc330⟩ := Kd.V_get HO_0.out z39 x7_1 p330 (by first | exact q330 | exact of_decide_eq_true (by first | (with_reducible assumption) | assumption) | (have e_ := (Kd.V_reads' HO_0.out).1; omega))
           obtain ⟨ua330_1, uc330_1, ua330_2, uc330_2, rfl, ul330_1, ge330_1, ul330_2, ge330_2⟩ := k39_openF hMe330
           have hv330_1 := hcc330 1 _ rfl
           rw [add_field _ _ 1 (by omega)] at hv330_1
           replace hv330_1 := Option.some.inj (hv330_1.symm.trans hx330_1)
           injection hv330_1 with hva_ hvn_ hvc_
           rw [hva_] at ge330_1
           rw [hvc_] at ul330_1
           have HL330_1 := aMk (show Kd.V Kd.string 9 _ w.heap.size _ _ ((rd_T39 l0 x7_1).f0.f1) from Kd.V_mk ul330_1 ge330_1)
           clear hva_ hvn_ hvc_ ge330_1 ul330_1
           have hv330_2 := hcc330 2 _ rfl
           rw [add_field _ _ 2 (by omega)] at hv330_2
           replace hv330_2 := Option.some.inj (hv330_2.symm.trans hx330_2)
           injection hv330_2 with hva_ hvn_ hvc_
           rw [hva_] at ge330_2
           rw [hvc_] at ul330_2
           have HL330_2 := aMk (show Kd.V (Kd.int .i64) 2 _ w.heap.size _ _ ((rd_T39 l0 x7_1).f0.f2) from Kd.V_mk ul330_2 ge330_2)
           clear hva_ hvn_ hvc_ ge330_2 ul330_2
           clear hcc330 hce330
           have HR330_1 := aMk hi330_1
           have HC330_1 := aMk hl330_1
           clear hi330_1 hl330_1
           have HR330_2 := aMk hi330_2
           have HC330_2 := aMk hl330_2
           clear hi330_2 hl330_2
           replace p330 := eq_true p330
           replace q330 := eq_true q330
           refine start_ (n := 14) (S := fun w' => w'.cell? ⟨gb329, 0, none⟩ = some (.int .i64 a1_0) ∧ w'.cell? ⟨gb329, 1, none⟩ = some (.slice A1_1 l1_1.length c1_1) ∧ w'.cell? ⟨gb329, 2, none⟩ = some (.slice A1_2 l1_2.length c1_2) ∧ w'.cell? (ad330.add ((x7_1).toNat * 4)) = some (.int .i64 ((rd_T39 l0 x7_1).f0.f0)) ∧ w'.cell? ⟨(ad330.add ((x7_1).toNat * 4)).block, (ad330.add ((x7_1).toNat * 4)).off + 1, none⟩ = some (.slice A330_1 ((rd_T39 l0 x7_1).f0.f1).length c330_1) ∧ w'.cell? ⟨(ad330.add ((x7_1).toNat * 4)).block, (ad330.add ((x7_1).toNat * 4)).off + 2, none⟩ = some (.slice A330_2 ((rd_T39 l0 x7_1).f0.f2).length c330_2) ∧ w'.cell? ⟨(ad330.add ((x7_1).toNat * 4)).block, (ad330.add ((x7_1).toNat * 4)).off + 3, none⟩ = some (.int .u64 ((rd_T39 l0 x7_1).f1))) (ds := []) #[false, false, false, false, false, false, false, false, false, false, false, false, false, false] (by kernel_rfl) rfl rfl ⟨(blk_cell BK329.out 0).trans rfl, (blk_cell BK329.out 1).trans rfl, (blk_cell BK329.out 2).trans rfl, hx330_0, hx330_1, hx330_2, hx330_3⟩ (fun hHeld => ?_); refine with_tabW gristmillref04_Put.tab2 gristmillref04_Put.bits2 (fun HT_ HW_ => ?_)
           generalize wr.drew = w35 at HO_0 HO_330001 HO_330002 BK329 HB HL330_1 HL330_2 HR330_1 HR330_2 hx330_0 hx330_1 hx330_2 hx330_3 hHeld ⊢
           refine pure_ (i := 0) (N := some 9) (v := ?_) (a' := ?_) #[true, false, false, false, false, false, false, false, false, false, false, false, false, false] rfl rfl (any_of HT_.out (by kernel_rfl)) (fun _ _ _ h => h) (Or.inl ⟨by rfl, ?_⟩) ?_ ?_
           rotate_left
           ·intro w'
            go_simp
            with_reducible rfl
           rotate_left
           ·simp only [Act.put, sA, sB, sC, i64_w, i32_w]
            rfl
           refine pure_ (i := 1) (N := some 10) (v := ?_) (a' := ?_) #[true, true, false, false, false, false, false, false, false, false, false, false, false, false] rfl rfl (any_of HT_.out (by kernel_rfl)) (fun _ _ _ h => h) (Or.inl ⟨by rfl, ?_⟩) ?_ ?_
           rotate_left
           ·intro w'
            go_simp
            with_reducible rfl
           rotate_left
           ·simp only [Act.put, sA, sB, sC, i64_w, i32_w]
            rfl
           refine pure_ (i := 2) (N := some 11) (v := ?_) (a' := ?_) #[true, true, true, false, false, false, false, false, false, false, false, false, false, false] rfl rfl (any_of HT_.out (by kernel_rfl)) (fun _ _ _ h => h) (Or.inl ⟨by rfl, ?_⟩) ?_ ?_
           rotate_left
           ·intro w'
            go_simp
            with_reducible rfl
           rotate_left
           ·simp only [Act.put, sA, sB, sC, i64_w, i32_w]
            rfl
           refine pure_ (i := 3) (N := some 12) (v := ?_) (a' := ?_) #[true, true, true, true, false, false, false, false, false, false, false, false, false, false] rfl rfl (any_of HT_.out (by kernel_rfl)) (fun _ _ _ h => h) (Or.inl ⟨by rfl, ?_⟩) ?_ ?_
           rotate_left
           ·intro w'
            go_simp
            with_reducible rfl
           rotate_left
           ·simp only [Act.put, sA, sB, sC, i64_w, i32_w]
            rfl
           refine pure_ (i := 4) (N := some 13) (v := ?_) (a' := ?_) #[true, true, true, true, true, false, false, false, false, false, false, false, false, false] rfl rfl (any_of HT_.out (by kernel_rfl)) (fun _ _ _ h => h) (Or.inl ⟨by rfl, ?_⟩) ?_ ?_
           rotate_left
           ·intro w'
            go_simp
            with_reducible rfl
           rotate_left
           ·simp only [Act.put, sA, sB, sC, i64_w, i32_w]
            rfl
           refine pure_ (i := 5) (N := some 14) (v := ?_) (a' := ?_) #[true, true, true, true, true, true, false, false, false, false, false, false, false, false] rfl rfl (any_of HT_.out (by kernel_rfl)) (fun _ _ _ h => h) (Or.inl ⟨by rfl, ?_⟩) ?_ ?_
           rotate_left
           ·intro w'
            go_simp
            with_reducible rfl
           rotate_left
           ·simp only [Act.put, sA, sB, sC, i64_w, i32_w]
            rfl
           refine pure_ (i := 6) (N := some 15) (v := ?_) (a' := ?_) #[true, true, true, true, true, true, true, false, false, false, false, false, false, false] rfl rfl (any_of HT_.out (by kernel_rfl)) (fun _ _ _ h => h) (Or.inl ⟨by rfl, ?_⟩) ?_ ?_
           rotate_left
           ·intro w'
            go_simp
            with_reducible rfl
           rotate_left
           ·simp only [Act.put, sA, sB, sC, i64_w, i32_w]
            rfl
           refine pure_ (i := 7) (N := some 16) (v := ?_) (a' := ?_) #[true, true, true, true, true, true, true, true, false, false, false, false, false, false] rfl rfl (any_of HT_.out (by kernel_rfl)) (fun _ _ _ h => h) (Or.inl ⟨by rfl, ?_⟩) ?_ ?_
           rotate_left
           ·intro w'
            go_simp
            with_reducible rfl
           rotate_left
           ·simp only [Act.put, sA, sB, sC, i64_w, i32_w]
            rfl
           refine pure_ (i := 8) (N := some 17) (v := ?_) (a' := ?_) #[true, true, true, true, true, true, true, true, true, false, false, false, false, false] rfl rfl (any_of HT_.out (by kernel_rfl)) (fun _ _ _ h => h) (Or.inl ⟨by rfl, ?_⟩) ?_ ?_
           rotate_left
           ·intro w'
            go_simp
            with_reducible rfl
           rotate_left
           ·simp only [Act.put, sA, sB, sC, i64_w, i32_w]
            rfl
           refine take_ (i := 9) (N := some 18) (v := ?_) (a' := ?_) #[true, true, true, true, true, true, true, true, true, true, false, false, false, false] rfl rfl (take_ofW HT_.out HW_.out (by kernel_rfl)) (fun _ _ _ h => h) (Or.inl ⟨by rfl, ?_⟩) hHeld ?_ ?_
           rotate_left
           ·rintro w' ⟨s0, s1, s2, s3, s4, s5, s6⟩
            go_simp
            with_reducible rfl
           rotate_left
           ·simp only [Act.put, sA, sB, sC, i64_w, i32_w]
            rfl
           refine take_ (i := 10) (N := some 19) (v := ?_) (a' := ?_) #[true, true, true, true, true, true, true, true, true, true, true, false, false, false] rfl rfl (take_ofW HT_.out HW_.out (by kernel_rfl)) (fun _ _ _ h => h) (Or.inl ⟨by rfl, ?_⟩) hHeld ?_ ?_
           rotate_left
           ·rintro w' ⟨s0, s1, s2, s3, s4, s5, s6⟩
            go_simp
            with_reducible rfl
           rotate_left
           ·simp only [Act.put, sA, sB, sC, i64_w, i32_w]
            rfl
           refine one_ (i := 11) (N := some 20) #[true, true, true, true, true, true, true, true, true, true, true, true, false, false] rfl rfl (one_of HT_.out (by kernel_rfl)) (by decide) (fun K hK => ?_)
           refine goes_ Try.func31 (by kernel_rfl) rfl #[.agg #[.int .i64 ((rd_T39 l0 x7_1).f0.f0), .slice A330_1 ((rd_T39 l0 x7_1).f0.f1).length c330_1, .slice A330_2 ((rd_T39 l0 x7_1).f0.f2).length c330_2], .agg #[.int .i64 a1_0, .slice A1_1 l1_1.length c1_1, .slice A1_2 l1_2.length c1_2]] (by rfl) rfl rfl (by (try simp only [List.map_toArray, List.map_cons, List.map_nil]); first | done | rfl | (simp only [List.length_drop, List.length_take]; rfl)) ?_
           with_reducible refine (gristmillref04_Compare.calls k1 ((rd_T39 l0 x7_1).f0.f0) _ _ ((rd_T39 l0 x7_1).f0.f1) _ _ ((rd_T39 l0 x7_1).f0.f2) a1_0 _ _ l1_1 _ _ l1_2 t331 _ ?side1 ?side2 ?side3 ?side4 ?side5 ?side6 ?side7 ?side8 A7.out).mono ?_
           (case side1 => repeat (first | exact (by repeat (first | (with_reducible exact HR330_1.out) | (with_reducible refine cA ?_ _) | (with_reducible refine cN ?_ _) | (with_reducible refine cD ?_) | exact HR330_1.out)) | (with_reducible refine cA ?_ _) | (with_reducible refine cN ?_ _) | (with_reducible refine cD ?_)))
           (case side2 => exact HC330_1.out)
           (case side3 => repeat (first | exact (by repeat (first | (with_reducible exact HR330_2.out) | (with_reducible refine cA ?_ _) | (with_reducible refine cN ?_ _) | (with_reducible refine cD ?_) | exact HR330_2.out)) | (with_reducible refine cA ?_ _) | (with_reducible refine cN ?_ _) | (with_reducible refine cD ?_)))
           (case side4 => exact HC330_2.out)
           (case side5 => repeat (first | exact (Kd.V_reads' HO_330001.out).2.2 | (with_reducible refine cA ?_ _) | (with_reducible refine cN ?_ _) | (with_reducible refine cD ?_)))
           (case side6 => exact (Kd.V_reads' HO_330001.out).2.1)
           (case side7 => repeat (first | exact (Kd.V_reads' HO_330002.out).2.2 | (with_reducible refine cA ?_ _) | (with_reducible refine cN ?_ _) | (with_reducible refine cD ?_)))
           (case side8 => exact (Kd.V_reads' HO_330002.out).2.1)
           rintro e w36 ⟨rfl, hb⟩
           have HS3_ := (hb.cell (World.block_lt_of_cell? _ _ (hHeld.2.2.2.1))).trans (hHeld.2.2.2.1)
           have HS4_ := (hb.cell (World.block_lt_of_cell? _ _ (hHeld.2.2.2.2.1))).trans (hHeld.2.2.2.2.1)
           have HS5_ := (hb.cell (World.block_lt_of_cell? _ _ (hHeld.2.2.2.2.2.1))).trans (hHeld.2.2.2.2.2.1)
           have HS6_ := (hb.cell (World.block_lt_of_cell? _ _ (hHeld.2.2.2.2.2.2))).trans (hHeld.2.2.2.2.2.2)
           refine ⟨_, rfl, ?_⟩
           replace HO_0 := aMk (Kd.V_below (by (with_reducible repeat (first | apply Kd.V_alloc | apply Kd.V_drewN | apply Kd.V_drew)); exact HO_0.out) hb)
           replace HO_330001 := aMk (Kd.V_below (by (with_reducible repeat (first | apply Kd.V_alloc | apply Kd.V_drewN | apply Kd.V_drew)); exact HO_330001.out) hb)
           replace HO_330002 := aMk (Kd.V_below (by (with_reducible repeat (first | apply Kd.V_alloc | apply Kd.V_drewN | apply Kd.V_drew)); exact HO_330002.out) hb)
           replace HL330_1 := aMk (Kd.V_below (by (with_reducible repeat (first | apply Kd.V_alloc | apply Kd.V_drewN | apply Kd.V_drew)); exact HL330_1.out) hb)
           replace HL330_2 := aMk (Kd.V_below (by (with_reducible repeat (first | apply Kd.V_alloc | apply Kd.V_drewN | apply Kd.V_drew)); exact HL330_2.out) hb)
           replace BK329 := aMk (blk_below (g := gb329) (o := .cells #[.int .i64 a1_0, .slice A1_1 l1_1.length c1_1, .slice A1_2 l1_2.length c1_2] 37 (0, 0)) (by (with_reducible repeat (first | apply bA | apply bN | apply bD)); exact BK329.out) hb)
           replace HR330_1 := aMk (Kd.C_below (by repeat (first | (with_reducible exact HR330_1.out) | (with_reducible refine cA ?_ _) | (with_reducible refine cN ?_ _) | (with_reducible refine cD ?_) | exact HR330_1.out)) hb)
           replace HR330_2 := aMk (Kd.C_below (by repeat (first | (with_reducible exact HR330_2.out) | (with_reducible refine cA ?_ _) | (with_reducible refine cN ?_ _) | (with_reducible refine cD ?_) | exact HR330_2.out)) hb)
           replace HB := aMk (below_step (by repeat (first | (with_reducible first | exact HB.out | apply eA | apply eN | apply eD | refine eS ?_ GE329.out) | exact HB.out)) hb)
           (try clear hb)
           refine hK.out _ _ ⟨(blk_cell BK329.out 0).trans rfl, (blk_cell BK329.out 1).trans rfl, (blk_cell BK329.out 2).trans rfl, HS3_, HS4_, HS5_, HS6_⟩ (fun hHeld => ?_)
           clear hK K
           refine norm_ (a' := ?_) ?_ ?_
           rotate_left
           ·show Act.put _ (some 20) _ = _
            simp only [Act.put, sA, sB, sC, i64_w, i32_w]
            rfl
           refine pure_ (i := 12) (N := some 21) (v := ?_) (a' := ?_) #[true, true, true, true, true, true, true, true, true, true, true, true, true, false] rfl rfl (any_of HT_.out (by kernel_rfl)) (fun _ _ _ h => h) (Or.inl ⟨by rfl, ?_⟩) ?_ ?_
           rotate_left
           ·intro w'
            go_simp
            with_reducible rfl
           rotate_left
           ·simp only [Act.put, sA, sB, sC, i64_w, i32_w]
            rfl
           refine pure_ (i := 13) (N := some 22) (v := ?_) (a' := ?_) #[true, true, true, true, true, true, true, true, true, true, true, true, true, true] rfl rfl (any_of HT_.out (by kernel_rfl)) (fun _ _ _ h => h) (Or.inl ⟨by rfl, ?_⟩) ?_ ?_
           rotate_left
           ·intro w'
            go_simp
            with_reducible rfl
           rotate_left
           ·simp only [Act.put, sA, sB, sC, i64_w, i32_w]
            rfl
           refine done_ (done_of HT_.out (by kernel_rfl)) ?_
           have q37 : (x7_1 : Int) ≤ ((l0.length : Int) : Int) := of_decide_eq_true (by first | (with_reducible assumption) | assumption)
           obtain ⟨i037, hi037, _, hsz37, _⟩ := info_parts info39
           have hroom37 : l0.length ≤ c0 := (Kd.V_reads' HO_0.out).2.1
           have hC37 : Kd.F k39 _ _ (some ad330) l0.length l0 := (Kd.V_at (base := w.heap.size) HO_0.out).2.2
           have hcut37 := cut_to (P := Try.prog) 24 39 .i64 Try.underlying24 hi037 (some ad330) l0.length c0 x7_1 (of_decide_eq_true (by first | (with_reducible assumption) | assumption)) q37 hroom37
           have hr37 := Kd.F_take (m := (x7_1 : Int).toNat) hC37 (by omega)
           have hy37 : y332.length = (x7_1 : Int).toNat := (by rw [Ny332.out, List.length_take]; omega)
           rw [← Ny332.out] at hr37
           rw [← hy37] at hcut37
           have HO336 := aMk (show Kd.V k39 39 _ w.heap.size _ (.slice (some ad330) y332.length c0) y332 from Kd.V_mk (by omega) hr37)
           have HC336 := aMk (show y332.length ≤ c0 from by omega)
           clear hr37 hC37 hroom37 hi037 hsz37
           have KY37 := aMk hy37
           clear hy37
           replace q37 := eq_true q37
           try go_wp2_with (first | ((with_reducible refine gate_builtin (b := .append) (xs := #[.tmp 25, .tmp 28]) rfl ?_); at_builtin; refine Kd.N_append_rows k39 (w0 := w) w.heap.size rfl (.tmp 25) (.tmp 28) 24 39 (.agg #[(.int .i64 0), (.slice none 0 0), (.slice none 0 0), (.int .u64 0)]) 64 rfl Try.underlying24 info39 rfl (by decide) (by omega) (.slice none 0 0) ([] : List (S39)) y332 _ _ _ (fun k_ => ((P0_ k_ ∨ P1_1_ k_ ∨ P1_2_ k_) ∨ w.heap.size ≤ k_) ∧ k_ ≠ gb329) (fun k_ => ((fun k_ => ((P0_ k_ ∨ P1_1_ k_ ∨ P1_2_ k_) ∨ w.heap.size ≤ k_) ∧ k_ ≠ gb329)) k_ ∧ some k_ ≠ (.slice none 0 0 : Value).ownBlock) rfl rfl ?aO ?aR (fun _ hk => hk) ?aF ?aB ?aS ?aL ?_; (case aR => exact (by skip; exact Kd.V_F (Kd.V_mono (ok' := (fun k_ => ((fun k_ => ((P0_ k_ ∨ P1_1_ k_ ∨ P1_2_ k_) ∨ w.heap.size ≤ k_) ∧ k_ ≠ gb329)) k_ ∧ some k_ ≠ (.slice none 0 0 : Value).ownBlock)) (HO336.out) (fun k_ hk => ⟨⟨hk.1, hk.2⟩, (by simp [Value.ownBlock])⟩)))); (case aB => exact (by repeat (first | (with_reducible first | exact HB.out | apply eA | apply eN | apply eD | refine eS ?_ GE329.out) | exact HB.out))); (case aF => exact (fun k_ hk => ⟨(.inr (Nat.le_trans (below_size (by repeat (first | (with_reducible first | exact HB.out | apply eA | apply eN | apply eD | refine eS ?_ GE329.out) | exact HB.out))) hk)), Kd.freshB (g := gb329) (o := .cells #[.int .i64 a1_0, .slice A1_1 l1_1.length c1_1, .slice A1_2 l1_2.length c1_2] 37 (0, 0)) (by (with_reducible repeat (first | apply bA | apply bN | apply bD)); exact BK329.out) k_ hk⟩)); (case aO => exact ((Kd.N_nil _ _ _ _ (fun k_ => ((P0_ k_ ∨ P1_1_ k_ ∨ P1_2_ k_) ∨ w.heap.size ≤ k_) ∧ k_ ≠ gb329)))); (case aS => exact (below_size (by repeat (first | (with_reducible first | exact HB.out | apply eA | apply eN | apply eD | refine eS ?_ GE329.out) | exact HB.out)))); (case aL => have := LMc13.out; omega); intro v338 w38 ho hb hg hat; rw [← Ny337.out] at ho; have HO339 := aMk (ho); replace HO_0 := aMk (Kd.V_afterv (Kd.V_apart_nil (by (with_reducible repeat (first | apply Kd.V_alloc | apply Kd.V_drewN | apply Kd.V_drew)); exact HO_0.out)) hg hat); replace HO_330001 := aMk (Kd.V_afterv (Kd.V_apart_nil (by (with_reducible repeat (first | apply Kd.V_alloc | apply Kd.V_drewN | apply Kd.V_drew)); exact HO_330001.out)) hg hat); replace HO_330002 := aMk (Kd.V_afterv (Kd.V_apart_nil (by (with_reducible repeat (first | apply Kd.V_alloc | apply Kd.V_drewN | apply Kd.V_drew)); exact HO_330002.out)) hg hat); replace BK329 := aMk (blk_grown (g := gb329) (o := .cells #[.int .i64 a1_0, .slice A1_1 l1_1.length c1_1, .slice A1_2 l1_2.length c1_2] 37 (0, 0)) (by (with_reducible repeat (first | apply bA | apply bN | apply bD)); exact BK329.out) hg (by simp [Value.ownBlock])); replace HL330_1 := aMk (Kd.V_afterv (Kd.V_apart_nil (by (with_reducible repeat (first | apply Kd.V_alloc | apply Kd.V_drewN | apply Kd.V_drew)); exact HL330_1.out)) hg hat); replace HL330_2 := aMk (Kd.V_afterv (Kd.V_apart_nil (by (with_reducible repeat (first | apply Kd.V_alloc | apply Kd.V_drewN | apply Kd.V_drew)); exact HL330_2.out)) hg hat); replace HO336 := aMk (Kd.V_afterv (Kd.V_apart_nil (by (with_reducible repeat (first | apply Kd.V_alloc | apply Kd.V_drewN | apply Kd.V_drew)); exact HO336.out)) hg hat); replace HB := aMk (hb); clear ho hb hg hat))
           replace HO_0 := aMk (Kd.V_drew HO_0.out)
           replace HO_330001 := aMk (Kd.V_drew HO_330001.out)
           replace HO_330002 := aMk (Kd.V_drew HO_330002.out)
           replace HL330_1 := aMk (Kd.V_drew HL330_1.out)
           replace HL330_2 := aMk (Kd.V_drew HL330_2.out)
           replace HO336 := aMk (Kd.V_drew HO336.out)
           replace HO339 := aMk (Kd.N_drew HO339.out)
           replace BK329 := aMk (bD BK329.out)
           replace HB := aMk (eD HB.out)
           have p340 : 0 ≤ (x7_1 : Int) := of_decide_eq_true (by first | (with_reducible assumption) | assumption)
           have q340 : x7_1 < (l0.length : Int) := of_decide_eq_true (by first | (with_reducible assumption) | assumption)
           obtain ⟨ad340, A340_1, c340_1, A340_2, c340_2, e340, hx340_0, hx340_1, hx340_2, hx340_3, hl340_1, hi340_1, hl340_2, hi340_2⟩ := at_T39 (Kd.V_reads' HO_0.out).2.2 x7_1 p340 q340
           obtain rfl : ad330 = ad340 := (by injection e340)
           obtain ⟨ce340, hce340, hMe340, hcc340⟩ := Kd.V_get HO_0.out z39 x7_1 p340 (by first | exact q340 | exact of_decide_eq_true (by first | (with_reducible assumption) | assumption) | (have e_ := (Kd.V_reads' HO_0.out).1; omega))
           obtain ⟨ua340_1, uc340_1, ua340_2, uc340_2, rfl, ul340_1, ge340_1, ul340_2, ge340_2⟩ := k39_openF hMe340
           have hv340_1 := hcc340 1 _ rfl
           rw [add_field _ _ 1 (by omega)] at hv340_1
           replace hv340_1 := Option.some.inj (hv340_1.symm.trans hx340_1)
           injection hv340_1 with hva_ hvn_ hvc_
           rw [hva_] at ge340_1
           rw [hvc_] at ul340_1
           have HL340_1 := aMk (show Kd.V Kd.string 9 _ w.heap.size _ _ ((rd_T39 l0 x7_1).f0.f1) from Kd.V_mk ul340_1 ge340_1)
           clear hva_ hvn_ hvc_ ge340_1 ul340_1
           have hv340_2 := hcc340 2 _ rfl
           rw [add_field _ _ 2 (by omega)] at hv340_2
           replace hv340_2 := Option.some.inj (hv340_2.symm.trans hx340_2)
           injection hv340_2 with hva_ hvn_ hvc_
           rw [hva_] at ge340_2
           rw [hvc_] at ul340_2
           have HL340_2 := aMk (show Kd.V (Kd.int .i64) 2 _ w.heap.size _ _ ((rd_T39 l0 x7_1).f0.f2) from Kd.V_mk ul340_2 ge340_2)
           clear hva_ hvn_ hvc_ ge340_2 ul340_2
           clear hcc340 hce340
           have HR340_1 := aMk hi340_1
           have HC340_1 := aMk hl340_1
           clear hi340_1 hl340_1
           have HR340_2 := aMk hi340_2
           have HC340_2 := aMk hl340_2
           clear hi340_2 hl340_2
           replace p340 := eq_true p340
           replace q340 := eq_true q340
           refine start_ (n := 14) (S := fun w' => w'.cell? ⟨gb329, 0, none⟩ = some (.int .i64 a1_0) ∧ w'.cell? ⟨gb329, 1, none⟩ = some (.slice A1_1 l1_1.length c1_1) ∧ w'.cell? ⟨gb329, 2, none⟩ = some (.slice A1_2 l1_2.length c1_2) ∧ w'.cell? (ad330.add ((x7_1).toNat * 4)) = some (.int .i64 ((rd_T39 l0 x7_1).f0.f0)) ∧ w'.cell? ⟨(ad330.add ((x7_1).toNat * 4)).block, (ad330.add ((x7_1).toNat * 4)).off + 1, none⟩ = some (.slice A340_1 ((rd_T39 l0 x7_1).f0.f1).length c340_1) ∧ w'.cell? ⟨(ad330.add ((x7_1).toNat * 4)).block, (ad330.add ((x7_1).toNat * 4)).off + 2, none⟩ = some (.slice A340_2 ((rd_T39 l0 x7_1).f0.f2).length c340_2) ∧ w'.cell? ⟨(ad330.add ((x7_1).toNat * 4)).block, (ad330.add ((x7_1).toNat * 4)).off + 3, none⟩ = some (.int .u64 ((rd_T39 l0 x7_1).f1))) (ds := []) #[false, false, false, false, false, false, false, false, false, false, false, false, false, false] (by kernel_rfl) rfl rfl ⟨(blk_cell BK329.out 0).trans rfl, (blk_cell BK329.out 1).trans rfl, (blk_cell BK329.out 2).trans rfl, hx340_0, hx340_1, hx340_2, hx340_3⟩ (fun hHeld => ?_); refine with_tabW gristmillref04_Put.tab6 gristmillref04_Put.bits6 (fun HT_ HW_ => ?_)
           generalize w38.drew = w39 at HO_0 HO_330001 HO_330002 HL330_1 HL330_2 HO336 HO339 BK329 HB HL340_1 HL340_2 HR340_1 HR340_2 hx340_0 hx340_1 hx340_2 hx340_3 hHeld ⊢
           refine pure_ (i := 0) (N := some 30) (v := ?_) (a' := ?_) #[true, false, false, false, false, false, false, false, false, false, false, false, false, false] rfl rfl (any_of HT_.out (by kernel_rfl)) (fun _ _ _ h => h) (Or.inl ⟨by rfl, ?_⟩) ?_ ?_
           rotate_left
           ·intro w'
            go_simp
            with_reducible rfl
           rotate_left
           ·simp only [Act.put, sA, sB, sC, i64_w, i32_w]
            rfl
           refine pure_ (i := 1) (N := some 31) (v := ?_) (a' := ?_) #[true, true, false, false, false, false, false, false, false, false, false, false, false, false] rfl rfl (any_of HT_.out (by kernel_rfl)) (fun _ _ _ h => h) (Or.inl ⟨by rfl, ?_⟩) ?_ ?_
           rotate_left
           ·intro w'
            go_simp
            with_reducible rfl
           rotate_left
           ·simp only [Act.put, sA, sB, sC, i64_w, i32_w]
            rfl
           refine pure_ (i := 2) (N := some 32) (v := ?_) (a' := ?_) #[true, true, true, false, false, false, false, false, false, false, false, false, false, false] rfl rfl (any_of HT_.out (by kernel_rfl)) (fun _ _ _ h => h) (Or.inl ⟨by rfl, ?_⟩) ?_ ?_
           rotate_left
           ·intro w'
            go_simp
            with_reducible rfl
           rotate_left
           ·simp only [Act.put, sA, sB, sC, i64_w, i32_w]
            rfl
           refine pure_ (i := 3) (N := some 33) (v := ?_) (a' := ?_) #[true, true, true, true, false, false, false, false, false, false, false, false, false, false] rfl rfl (any_of HT_.out (by kernel_rfl)) (fun _ _ _ h => h) (Or.inl ⟨by rfl, ?_⟩) ?_ ?_
           rotate_left
           ·intro w'
            go_simp
            with_reducible rfl
           rotate_left
           ·simp only [Act.put, sA, sB, sC, i64_w, i32_w]
            rfl
           refine pure_ (i := 4) (N := some 34) (v := ?_) (a' := ?_) #[true, true, true, true, true, false, false, false, false, false, false, false, false, false] rfl rfl (any_of HT_.out (by kernel_rfl)) (fun _ _ _ h => h) (Or.inl ⟨by rfl, ?_⟩) ?_ ?_
           rotate_left
           ·intro w'
            go_simp
            with_reducible rfl
           rotate_left
           ·simp only [Act.put, sA, sB, sC, i64_w, i32_w]
            rfl
           refine pure_ (i := 5) (N := some 35) (v := ?_) (a' := ?_) #[true, true, true, true, true, true, false, false, false, false, false, false, false, false] rfl rfl (any_of HT_.out (by kernel_rfl)) (fun _ _ _ h => h) (Or.inl ⟨by rfl, ?_⟩) ?_ ?_
           rotate_left
           ·intro w'
            go_simp
            with_reducible rfl
           rotate_left
           ·simp only [Act.put, sA, sB, sC, i64_w, i32_w]
            rfl
           refine pure_ (i := 6) (N := some 36) (v := ?_) (a' := ?_) #[true, true, true, true, true, true, true, false, false, false, false, false, false, false] rfl rfl (any_of HT_.out (by kernel_rfl)) (fun _ _ _ h => h) (Or.inl ⟨by rfl, ?_⟩) ?_ ?_
           rotate_left
           ·intro w'
            go_simp
            with_reducible rfl
           rotate_left
           ·simp only [Act.put, sA, sB, sC, i64_w, i32_w]
            rfl
           refine pure_ (i := 7) (N := some 37) (v := ?_) (a' := ?_) #[true, true, true, true, true, true, true, true, false, false, false, false, false, false] rfl rfl (any_of HT_.out (by kernel_rfl)) (fun _ _ _ h => h) (Or.inl ⟨by rfl, ?_⟩) ?_ ?_
           rotate_left
           ·intro w'
            go_simp
            with_reducible rfl
           rotate_left
           ·simp only [Act.put, sA, sB, sC, i64_w, i32_w]
            rfl
           refine pure_ (i := 8) (N := some 38) (v := ?_) (a' := ?_) #[true, true, true, true, true, true, true, true, true, false, false, false, false, false] rfl rfl (any_of HT_.out (by kernel_rfl)) (fun _ _ _ h => h) (Or.inl ⟨by rfl, ?_⟩) ?_ ?_
           rotate_left
           ·intro w'
            go_simp
            with_reducible rfl
           rotate_left
           ·simp only [Act.put, sA, sB, sC, i64_w, i32_w]
            rfl
           refine take_ (i := 9) (N := some 39) (v := ?_) (a' := ?_) #[true, true, true, true, true, true, true, true, true, true, false, false, false, false] rfl rfl (take_ofW HT_.out HW_.out (by kernel_rfl)) (fun _ _ _ h => h) (Or.inl ⟨by rfl, ?_⟩) hHeld ?_ ?_
           rotate_left
           ·rintro w' ⟨s0, s1, s2, s3, s4, s5, s6⟩
            go_simp
            with_reducible rfl
           rotate_left
           ·simp only [Act.put, sA, sB, sC, i64_w, i32_w]
            rfl
           refine take_ (i := 10) (N := some 40) (v := ?_) (a' := ?_) #[true, true, true, true, true, true, true, true, true, true, true, false, false, false] rfl rfl (take_ofW HT_.out HW_.out (by kernel_rfl)) (fun _ _ _ h => h) (Or.inl ⟨by rfl, ?_⟩) hHeld ?_ ?_
           rotate_left
           ·rintro w' ⟨s0, s1, s2, s3, s4, s5, s6⟩
            go_simp
            with_reducible rfl
           rotate_left
           ·simp only [Act.put, sA, sB, sC, i64_w, i32_w]
            rfl
           refine one_ (i := 11) (N := some 41) #[true, true, true, true, true, true, true, true, true, true, true, true, false, false] rfl rfl (one_of HT_.out (by kernel_rfl)) (by decide) (fun K hK => ?_)
           refine goes_ Try.func31 (by kernel_rfl) rfl #[.agg #[.int .i64 ((rd_T39 l0 x7_1).f0.f0), .slice A340_1 ((rd_T39 l0 x7_1).f0.f1).length c340_1, .slice A340_2 ((rd_T39 l0 x7_1).f0.f2).length c340_2], .agg #[.int .i64 a1_0, .slice A1_1 l1_1.length c1_1, .slice A1_2 l1_2.length c1_2]] (by rfl) rfl rfl (by (try simp only [List.map_toArray, List.map_cons, List.map_nil]); first | done | rfl | (simp only [List.length_drop, List.length_take]; rfl)) ?_
           with_reducible refine (gristmillref04_Compare.calls k1 ((rd_T39 l0 x7_1).f0.f0) _ _ ((rd_T39 l0 x7_1).f0.f1) _ _ ((rd_T39 l0 x7_1).f0.f2) a1_0 _ _ l1_1 _ _ l1_2 t341 _ ?side1 ?side2 ?side3 ?side4 ?side5 ?side6 ?side7 ?side8 A14.out).mono ?_
           (case side1 => repeat (first | exact (by repeat (first | (with_reducible exact HR340_1.out) | (with_reducible refine cA ?_ _) | (with_reducible refine cN ?_ _) | (with_reducible refine cD ?_) | exact HR340_1.out)) | (with_reducible refine cA ?_ _) | (with_reducible refine cN ?_ _) | (with_reducible refine cD ?_)))
           (case side2 => exact HC340_1.out)
           (case side3 => repeat (first | exact (by repeat (first | (with_reducible exact HR340_2.out) | (with_reducible refine cA ?_ _) | (with_reducible refine cN ?_ _) | (with_reducible refine cD ?_) | exact HR340_2.out)) | (with_reducible refine cA ?_ _) | (with_reducible refine cN ?_ _) | (with_reducible refine cD ?_)))
           (case side4 => exact HC340_2.out)
           (case side5 => repeat (first | exact (Kd.V_reads' HO_330001.out).2.2 | (with_reducible refine cA ?_ _) | (with_reducible refine cN ?_ _) | (with_reducible refine cD ?_)))
           (case side6 => exact (Kd.V_reads' HO_330001.out).2.1)
           (case side7 => repeat (first | exact (Kd.V_reads' HO_330002.out).2.2 | (with_reducible refine cA ?_ _) | (with_reducible refine cN ?_ _) | (with_reducible refine cD ?_)))
           (case side8 => exact (Kd.V_reads' HO_330002.out).2.1)
           rintro e w40 ⟨rfl, hb⟩
           have HS3_ := (hb.cell (World.block_lt_of_cell? _ _ (hHeld.2.2.2.1))).trans (hHeld.2.2.2.1)
           have HS4_ := (hb.cell (World.block_lt_of_cell? _ _ (hHeld.2.2.2.2.1))).trans (hHeld.2.2.2.2.1)
           have HS5_ := (hb.cell (World.block_lt_of_cell? _ _ (hHeld.2.2.2.2.2.1))).trans (hHeld.2.2.2.2.2.1)
           have HS6_ := (hb.cell (World.block_lt_of_cell? _ _ (hHeld.2.2.2.2.2.2))).trans (hHeld.2.2.2.2.2.2)
           refine ⟨_, rfl, ?_⟩
           replace HO_0 := aMk (Kd.V_below (by (with_reducible repeat (first | apply Kd.V_alloc | apply Kd.V_drewN | apply Kd.V_drew)); exact HO_0.out) hb)
           replace HO_330001 := aMk (Kd.V_below (by (with_reducible repeat (first | apply Kd.V_alloc | apply Kd.V_drewN | apply Kd.V_drew)); exact HO_330001.out) hb)
           replace HO_330002 := aMk (Kd.V_below (by (with_reducible repeat (first | apply Kd.V_alloc | apply Kd.V_drewN | apply Kd.V_drew)); exact HO_330002.out) hb)
           replace HL330_1 := aMk (Kd.V_below (by (with_reducible repeat (first | apply Kd.V_alloc | apply Kd.V_drewN | apply Kd.V_drew)); exact HL330_1.out) hb)
           replace HL330_2 := aMk (Kd.V_below (by (with_reducible repeat (first | apply Kd.V_alloc | apply Kd.V_drewN | apply Kd.V_drew)); exact HL330_2.out) hb)
           replace HO336 := aMk (Kd.V_below (by (with_reducible repeat (first | apply Kd.V_alloc | apply Kd.V_drewN | apply Kd.V_drew)); exact HO336.out) hb)
           replace HO339 := aMk (Kd.N_below (by (with_reducible repeat (first | apply Kd.N_alloc | apply Kd.N_drewN | apply Kd.N_drew)); exact HO339.out) hb)
           replace HL340_1 := aMk (Kd.V_below (by (with_reducible repeat (first | apply Kd.V_alloc | apply Kd.V_drewN | apply Kd.V_drew)); exact HL340_1.out) hb)
           replace HL340_2 := aMk (Kd.V_below (by (with_reducible repeat (first | apply Kd.V_alloc | apply Kd.V_drewN | apply Kd.V_drew)); exact HL340_2.out) hb)
           replace BK329 := aMk (blk_below (g := gb329) (o := .cells #[.int .i64 a1_0, .slice A1_1 l1_1.length c1_1, .slice A1_2 l1_2.length c1_2] 37 (0, 0)) (by (with_reducible repeat (first | apply bA | apply bN | apply bD)); exact BK329.out) hb)
           replace HR340_1 := aMk (Kd.C_below (by repeat (first | (with_reducible exact HR340_1.out) | (with_reducible refine cA ?_ _) | (with_reducible refine cN ?_ _) | (with_reducible refine cD ?_) | exact HR340_1.out)) hb)
           replace HR340_2 := aMk (Kd.C_below (by repeat (first | (with_reducible exact HR340_2.out) | (with_reducible refine cA ?_ _) | (with_reducible refine cN ?_ _) | (with_reducible refine cD ?_) | exact HR340_2.out)) hb)
           replace HB := aMk (below_step (by repeat (first | (with_reducible first | exact HB.out | apply eA | apply eN | apply eD | refine eS ?_ GE329.out) | exact HB.out)) hb)
           (try clear hb)
           refine hK.out _ _ ⟨(blk_cell BK329.out 0).trans rfl, (blk_cell BK329.out 1).trans rfl, (blk_cell BK329.out 2).trans rfl, HS3_, HS4_, HS5_, HS6_⟩ (fun hHeld => ?_)
           clear hK K
           refine norm_ (a' := ?_) ?_ ?_
           rotate_left
           ·show Act.put _ (some 41) _ = _
            simp only [Act.put, sA, sB, sC, i64_w, i32_w]
            rfl
           refine pure_ (i := 12) (N := some 42) (v := ?_) (a' := ?_) #[true, true, true, true, true, true, true, true, true, true, true, true, true, false] rfl rfl (any_of HT_.out (by kernel_rfl)) (fun _ _ _ h => h) (Or.inl ⟨by rfl, ?_⟩) ?_ ?_
           rotate_left
           ·intro w'
            go_simp
            with_reducible rfl
           rotate_left
           ·simp only [Act.put, sA, sB, sC, i64_w, i32_w]
            rfl
           refine pure_ (i := 13) (N := some 43) (v := ?_) (a' := ?_) #[true, true, true, true, true, true, true, true, true, true, true, true, true, true] rfl rfl (any_of HT_.out (by kernel_rfl)) (fun _ _ _ h => h) (Or.inl ⟨by rfl, ?_⟩) ?_ ?_
           rotate_left
           ·intro w'
            go_simp
            with_reducible rfl
           rotate_left
           ·simp only [Act.put, sA, sB, sC, i64_w, i32_w]
            rfl
           refine done_ (done_of HT_.out (by kernel_rfl)) ?_
           have hcz41_0 : w40.cell? ⟨gb329, 0, none⟩ = some (.int .i64 a1_0) := (blk_cell BK329.out 0).trans rfl
           have hcz41_1 : w40.cell? ⟨gb329, 1, none⟩ = some (.slice A1_1 l1_1.length c1_1) := (blk_cell BK329.out 1).trans rfl
           have hcz41_2 : w40.cell? ⟨gb329, 2, none⟩ = some (.slice A1_2 l1_2.length c1_2) := (blk_cell BK329.out 2).trans rfl
           have hfz41_0 := blk_frozen BK329.out 0
           have hfz41_1 := blk_frozen BK329.out 1
           have hfz41_2 := blk_frozen BK329.out 2
           try go_wp2_with (first | ((with_reducible refine gate_builtin (b := .append) (xs := #[.tmp 62, .tmp 66]) rfl ?_); at_builtin; refine Kd.N_append k39 (w0 := w) w.heap.size rfl (.tmp 62) (.tmp 66) 24 39 (.agg #[(.int .i64 0), (.slice none 0 0), (.slice none 0 0), (.int .u64 0)]) 64 rfl Try.underlying24 info39 rfl (by decide) (by omega) v338 y337 (⟨(⟨a1_0, l1_1, l1_2⟩ : S37), a2⟩ : S39) [.int .i64 a1_0, .slice A1_1 l1_1.length c1_1, .slice A1_2 l1_2.length c1_2, .int .u64 a2] (fun k_ => ((P0_ k_ ∨ P1_1_ k_ ∨ P1_2_ k_) ∨ w.heap.size ≤ k_) ∧ k_ ≠ gb329) (fun k_ => ((fun k_ => ((P0_ k_ ∨ P1_1_ k_ ∨ P1_2_ k_) ∨ w.heap.size ≤ k_) ∧ k_ ≠ gb329)) k_ ∧ some k_ ≠ (v338 : Value).ownBlock) rfl rfl ?aP (fun _ hk => hk) ?aF ?aO ?aB ?aS ?aL ?_; (case aP => exact (k39_mkF _ _ (⟨(⟨a1_0, l1_1, l1_2⟩ : S37), a2⟩ : S39) (Kd.V_reads' (Kd.V_mono (ok' := (fun k_ => ((fun k_ => ((P0_ k_ ∨ P1_1_ k_ ∨ P1_2_ k_) ∨ w.heap.size ≤ k_) ∧ k_ ≠ gb329)) k_ ∧ some k_ ≠ (v338 : Value).ownBlock)) (HO_330001.out) (fun k_ hk => ⟨⟨hk.1.1, hk.1.2⟩, hk.2⟩))).2.1 (Kd.V_F (Kd.V_mono (ok' := (fun k_ => ((fun k_ => ((P0_ k_ ∨ P1_1_ k_ ∨ P1_2_ k_) ∨ w.heap.size ≤ k_) ∧ k_ ≠ gb329)) k_ ∧ some k_ ≠ (v338 : Value).ownBlock)) (HO_330001.out) (fun k_ hk => ⟨⟨hk.1.1, hk.1.2⟩, hk.2⟩))) (Kd.V_reads' (Kd.V_mono (ok' := (fun k_ => ((fun k_ => ((P0_ k_ ∨ P1_1_ k_ ∨ P1_2_ k_) ∨ w.heap.size ≤ k_) ∧ k_ ≠ gb329)) k_ ∧ some k_ ≠ (v338 : Value).ownBlock)) (HO_330002.out) (fun k_ hk => ⟨⟨hk.1.1, hk.1.2⟩, hk.2⟩))).2.1 (Kd.V_F (Kd.V_mono (ok' := (fun k_ => ((fun k_ => ((P0_ k_ ∨ P1_1_ k_ ∨ P1_2_ k_) ∨ w.heap.size ≤ k_) ∧ k_ ≠ gb329)) k_ ∧ some k_ ≠ (v338 : Value).ownBlock)) (HO_330002.out) (fun k_ hk => ⟨⟨hk.1.1, hk.1.2⟩, hk.2⟩))))); (case aB => exact (by repeat (first | (with_reducible first | exact HB.out | apply eA | apply eN | apply eD | refine eS ?_ GE329.out) | exact HB.out))); (case aF => exact (fun k_ hk => ⟨(.inr (Nat.le_trans (below_size (by repeat (first | (with_reducible first | exact HB.out | apply eA | apply eN | apply eD | refine eS ?_ GE329.out) | exact HB.out))) hk)), Kd.freshB (g := gb329) (o := .cells #[.int .i64 a1_0, .slice A1_1 l1_1.length c1_1, .slice A1_2 l1_2.length c1_2] 37 (0, 0)) (by (with_reducible repeat (first | apply bA | apply bN | apply bD)); exact BK329.out) k_ hk⟩)); (case aO => exact (by (with_reducible repeat (first | apply Kd.N_alloc | apply Kd.N_drewN | apply Kd.N_drew)); exact HO339.out)); (case aS => exact (below_size (by repeat (first | (with_reducible first | exact HB.out | apply eA | apply eN | apply eD | refine eS ?_ GE329.out) | exact HB.out)))); (case aL => have := LMc31.out; omega); intro v355 w42 ho hb hg hat; rw [← Ny354.out] at ho; have HO356 := aMk (ho); replace HO_0 := aMk (Kd.V_afterv (ok := (fun k_ => ((P0_ k_ ∨ P1_1_ k_ ∨ P1_2_ k_) ∨ w.heap.size ≤ k_) ∧ k_ ≠ gb329)) (by (with_reducible repeat (first | apply Kd.V_alloc | apply Kd.V_drewN | apply Kd.V_drew)); exact HO_0.out) hg hat); replace HO_330001 := aMk (Kd.V_afterv (ok := (fun k_ => ((P0_ k_ ∨ P1_1_ k_ ∨ P1_2_ k_) ∨ w.heap.size ≤ k_) ∧ k_ ≠ gb329)) (by (with_reducible repeat (first | apply Kd.V_alloc | apply Kd.V_drewN | apply Kd.V_drew)); exact HO_330001.out) hg hat); replace HO_330002 := aMk (Kd.V_afterv (ok := (fun k_ => ((P0_ k_ ∨ P1_1_ k_ ∨ P1_2_ k_) ∨ w.heap.size ≤ k_) ∧ k_ ≠ gb329)) (by (with_reducible repeat (first | apply Kd.V_alloc | apply Kd.V_drewN | apply Kd.V_drew)); exact HO_330002.out) hg hat); replace BK329 := aMk (blk_grown (g := gb329) (o := .cells #[.int .i64 a1_0, .slice A1_1 l1_1.length c1_1, .slice A1_2 l1_2.length c1_2] 37 (0, 0)) (by (with_reducible repeat (first | apply bA | apply bN | apply bD)); exact BK329.out) hg (Kd.N_ne HO339.out BK329.out (by decide))); replace HL330_1 := aMk (Kd.V_afterv (ok := (fun k_ => ((P0_ k_ ∨ P1_1_ k_ ∨ P1_2_ k_) ∨ w.heap.size ≤ k_) ∧ k_ ≠ gb329)) (by (with_reducible repeat (first | apply Kd.V_alloc | apply Kd.V_drewN | apply Kd.V_drew)); exact HL330_1.out) hg hat); replace HL330_2 := aMk (Kd.V_afterv (ok := (fun k_ => ((P0_ k_ ∨ P1_1_ k_ ∨ P1_2_ k_) ∨ w.heap.size ≤ k_) ∧ k_ ≠ gb329)) (by (with_reducible repeat (first | apply Kd.V_alloc | apply Kd.V_drewN | apply Kd.V_drew)); exact HL330_2.out) hg hat); replace HO336 := aMk (Kd.V_afterv (ok := (fun k_ => ((P0_ k_ ∨ P1_1_ k_ ∨ P1_2_ k_) ∨ w.heap.size ≤ k_) ∧ k_ ≠ gb329)) (by (with_reducible repeat (first | apply Kd.V_alloc | apply Kd.V_drewN | apply Kd.V_drew)); exact HO336.out) hg hat); replace HL340_1 := aMk (Kd.V_afterv (ok := (fun k_ => ((P0_ k_ ∨ P1_1_ k_ ∨ P1_2_ k_) ∨ w.heap.size ≤ k_) ∧ k_ ≠ gb329)) (by (with_reducible repeat (first | apply Kd.V_alloc | apply Kd.V_drewN | apply Kd.V_drew)); exact HL340_1.out) hg hat); replace HL340_2 := aMk (Kd.V_afterv (ok := (fun k_ => ((P0_ k_ ∨ P1_1_ k_ ∨ P1_2_ k_) ∨ w.heap.size ≤ k_) ∧ k_ ≠ gb329)) (by (with_reducible repeat (first | apply Kd.V_alloc | apply Kd.V_drewN | apply Kd.V_drew)); exact HL340_2.out) hg hat); replace HB := aMk (hb); clear HO339; clear ho hb hg hat; have q43 : (x7_1 : Int) ≤ ((l0.length : Int) : Int) := of_decide_eq_true (by first | (with_reducible assumption) | assumption); obtain ⟨i043, hi043, _, hsz43, _⟩ := info_parts info39; have hroom43 : l0.length ≤ c0 := (Kd.V_reads' HO_0.out).2.1; have hC43 : Kd.F k39 _ _ (some ad330) l0.length l0 := (Kd.V_at (base := w.heap.size) HO_0.out).2.2; have q043 : (0 : Int) ≤ (x7_1 : Int) := of_decide_eq_true (by first | (with_reducible assumption) | assumption); have hcut43 := cut_from (P := Try.prog) 24 39 .i64 Try.underlying24 hi043 4 hsz43 (some ad330) l0.length c0 x7_1 q043 q43; have hr43 := Kd.F_cut (m := (x7_1 : Int).toNat) (c := c0) hC43 (by omega) hroom43; obtain ⟨A43, hA43⟩ : ∃ A1, A1 = (if c0 = (x7_1 : Int).toNat then (some ad330) else ((some ad330) : Option Addr).map (·.add ((x7_1 : Int).toNat * 4))) := ⟨_, rfl⟩; obtain ⟨c43, hc43⟩ : ∃ c1, c1 = c0 - (x7_1 : Int).toNat := ⟨_, rfl⟩; have hy43 : y357.length = l0.length - (x7_1 : Int).toNat := (by rw [Ny357.out, List.length_drop] <;> omega); rw [show (l0).drop (x7_1 : Int).toNat = y357 from Ny357.out.symm] at hr43; replace hr43 : Kd.F k39 _ _ A43 y357.length y357 := (by rw [hA43]; exact hr43); rw [← hy43, ← hA43, ← hc43] at hcut43; have HO361 := aMk (show Kd.V k39 39 _ w.heap.size _ (.slice A43 y357.length c43) y357 from Kd.V_mk (by rw [hy43, hc43]; exact Nat.sub_le_sub_right hroom43 _) hr43); have HC361 := aMk (show y357.length ≤ c43 from by rw [hy43, hc43]; exact Nat.sub_le_sub_right hroom43 _); clear hr43 hC43 hroom43 hi043 hsz43 hc43; have KY43 := aMk hy43; have KA43 := aMk hA43; clear hy43 hA43; replace q43 := eq_true q43) | ((with_reducible refine gate_builtin (b := .append) (xs := #[.tmp 68, .tmp 71]) rfl ?_); at_builtin; refine Kd.N_append_rows k39 (w0 := w) w.heap.size rfl (.tmp 68) (.tmp 71) 24 39 (.agg #[(.int .i64 0), (.slice none 0 0), (.slice none 0 0), (.int .u64 0)]) 64 rfl Try.underlying24 info39 rfl (by decide) (by omega) v355 y354 y357 _ _ _ (fun k_ => ((P0_ k_ ∨ P1_1_ k_ ∨ P1_2_ k_) ∨ w.heap.size ≤ k_) ∧ k_ ≠ gb329) (fun k_ => ((fun k_ => ((P0_ k_ ∨ P1_1_ k_ ∨ P1_2_ k_) ∨ w.heap.size ≤ k_) ∧ k_ ≠ gb329)) k_ ∧ some k_ ≠ (v355 : Value).ownBlock) rfl rfl ?aO ?aR (fun _ hk => hk) ?aF ?aB ?aS ?aL ?_; (case aR => exact (by skip; exact Kd.V_F (Kd.V_mono (ok' := (fun k_ => ((fun k_ => ((P0_ k_ ∨ P1_1_ k_ ∨ P1_2_ k_) ∨ w.heap.size ≤ k_) ∧ k_ ≠ gb329)) k_ ∧ some k_ ≠ (v355 : Value).ownBlock)) (HO361.out) (fun k_ hk => ⟨⟨hk.1.1, hk.1.2⟩, hk.2⟩)))); (case aB => exact (by repeat (first | (with_reducible first | exact HB.out | apply eA | apply eN | apply eD | refine eS ?_ GE329.out) | exact HB.out))); (case aF => exact (fun k_ hk => ⟨(.inr (Nat.le_trans (below_size (by repeat (first | (with_reducible first | exact HB.out | apply eA | apply eN | apply eD | refine eS ?_ GE329.out) | exact HB.out))) hk)), Kd.freshB (g := gb329) (o := .cells #[.int .i64 a1_0, .slice A1_1 l1_1.length c1_1, .slice A1_2 l1_2.length c1_2] 37 (0, 0)) (by (with_reducible repeat (first | apply bA | apply bN | apply bD)); exact BK329.out) k_ hk⟩)); (case aO => exact (by (with_reducible repeat (first | apply Kd.N_alloc | apply Kd.N_drewN | apply Kd.N_drew)); exact HO356.out)); (case aS => exact (below_size (by repeat (first | (with_reducible first | exact HB.out | apply eA | apply eN | apply eD | refine eS ?_ GE329.out) | exact HB.out)))); (case aL => have := LMc34.out; omega); intro v363 w44 ho hb hg hat; rw [← Ny362.out] at ho; have HO364 := aMk (ho); replace HO_0 := aMk (Kd.V_afterv (ok := (fun k_ => ((P0_ k_ ∨ P1_1_ k_ ∨ P1_2_ k_) ∨ w.heap.size ≤ k_) ∧ k_ ≠ gb329)) (by (with_reducible repeat (first | apply Kd.V_alloc | apply Kd.V_drewN | apply Kd.V_drew)); exact HO_0.out) hg hat); replace HO_330001 := aMk (Kd.V_afterv (ok := (fun k_ => ((P0_ k_ ∨ P1_1_ k_ ∨ P1_2_ k_) ∨ w.heap.size ≤ k_) ∧ k_ ≠ gb329)) (by (with_reducible repeat (first | apply Kd.V_alloc | apply Kd.V_drewN | apply Kd.V_drew)); exact HO_330001.out) hg hat); replace HO_330002 := aMk (Kd.V_afterv (ok := (fun k_ => ((P0_ k_ ∨ P1_1_ k_ ∨ P1_2_ k_) ∨ w.heap.size ≤ k_) ∧ k_ ≠ gb329)) (by (with_reducible repeat (first | apply Kd.V_alloc | apply Kd.V_drewN | apply Kd.V_drew)); exact HO_330002.out) hg hat); replace BK329 := aMk (blk_grown (g := gb329) (o := .cells #[.int .i64 a1_0, .slice A1_1 l1_1.length c1_1, .slice A1_2 l1_2.length c1_2] 37 (0, 0)) (by (with_reducible repeat (first | apply bA | apply bN | apply bD)); exact BK329.out) hg (Kd.N_ne HO356.out BK329.out (by decide))); replace HL330_1 := aMk (Kd.V_afterv (ok := (fun k_ => ((P0_ k_ ∨ P1_1_ k_ ∨ P1_2_ k_) ∨ w.heap.size ≤ k_) ∧ k_ ≠ gb329)) (by (with_reducible repeat (first | apply Kd.V_alloc | apply Kd.V_drewN | apply Kd.V_drew)); exact HL330_1.out) hg hat); replace HL330_2 := aMk (Kd.V_afterv (ok := (fun k_ => ((P0_ k_ ∨ P1_1_ k_ ∨ P1_2_ k_) ∨ w.heap.size ≤ k_) ∧ k_ ≠ gb329)) (by (with_reducible repeat (first | apply Kd.V_alloc | apply Kd.V_drewN | apply Kd.V_drew)); exact HL330_2.out) hg hat); replace HO336 := aMk (Kd.V_afterv (ok := (fun k_ => ((P0_ k_ ∨ P1_1_ k_ ∨ P1_2_ k_) ∨ w.heap.size ≤ k_) ∧ k_ ≠ gb329)) (by (with_reducible repeat (first | apply Kd.V_alloc | apply Kd.V_drewN | apply Kd.V_drew)); exact HO336.out) hg hat); replace HL340_1 := aMk (Kd.V_afterv (ok := (fun k_ => ((P0_ k_ ∨ P1_1_ k_ ∨ P1_2_ k_) ∨ w.heap.size ≤ k_) ∧ k_ ≠ gb329)) (by (with_reducible repeat (first | apply Kd.V_alloc | apply Kd.V_drewN | apply Kd.V_drew)); exact HL340_1.out) hg hat); replace HL340_2 := aMk (Kd.V_afterv (ok := (fun k_ => ((P0_ k_ ∨ P1_1_ k_ ∨ P1_2_ k_) ∨ w.heap.size ≤ k_) ∧ k_ ≠ gb329)) (by (with_reducible repeat (first | apply Kd.V_alloc | apply Kd.V_drewN | apply Kd.V_drew)); exact HL340_2.out) hg hat); replace HO361 := aMk (Kd.V_afterv (ok := (fun k_ => ((P0_ k_ ∨ P1_1_ k_ ∨ P1_2_ k_) ∨ w.heap.size ≤ k_) ∧ k_ ≠ gb329)) (by (with_reducible repeat (first | apply Kd.V_alloc | apply Kd.V_drewN | apply Kd.V_drew)); exact HO361.out) hg hat); replace HB := aMk (hb); clear HO356; clear ho hb hg hat))
           go_ret
           exact ⟨_, by first | rfl | (simp <;> rfl) | (simp [*] <;> rfl), by (with_reducible repeat (first | apply Kd.N_alloc | apply Kd.N_drewN | apply Kd.N_drew)); exact Kd.N_mono HO364.out (fun _ hk => hk.1), by repeat (first | (with_reducible first | exact HB.out | apply eA | apply eN | apply eD | refine eS ?_ GE329.out) | exact HB.out)⟩
          ·rw [if_neg c34] at H
           exact absurd H (by simp)
         ·rw [if_neg c31] at H
          exact absurd H (by simp)
       ·rw [if_neg c13] at H
        exact absurd H (by simp)
      ·rw [if_neg c12] at H
       exact absurd H (by simp)
    ·rw [if_neg c6] at H
     exact absurd H (by simp)
   ·rw [if_neg c5] at H
    have c5b0 : decide (x7_1 < (l0.length : Int)) = false := decide_eq_false c5
    clear c5
    by_cases c45 : 0 ≤ x7_1
    ·rw [if_pos c45] at H
     have c45b0 := eq_true c45
     have c45b1 : decide (0 ≤ x7_1) = true := decide_eq_true c45
     clear c45
     by_cases c46 : x7_1 ≤ (l0.length : Int)
     ·rw [if_pos c46] at H
      have c46b0 := eq_true c46
      have c46b1 : decide (x7_1 ≤ (l0.length : Int)) = true := decide_eq_true c46
      clear c46
      obtain ⟨y365, hy365⟩ : ∃ y_ : List (S39), y_ = (l0.take (x7_1 : Int).toNat) := ⟨_, rfl⟩
      replace H : (if ([] : List (S39)).length + y365.length < 2199023255552 then ((some (([] : List (S39)) ++ y365 : List (S39))).bind fun y370 => (if y370.length < 2199023255552 then ((some (y370 ++ [(⟨(⟨a1_0, l1_1, l1_2⟩ : S37), a2⟩ : S39)] : List (S39))).bind fun y373 => ((some (l0.drop (x7_1 : Int).toNat : List (S39))).bind fun y376 => (if y373.length + y376.length < 2199023255552 then (some (y373 ++ y376)) else (none)))) else (none))) else (none)) = some r := by first | (rw [hy365]; with_reducible exact H) | (have H2_ := (Option.bind_some _ _).symm.trans H; rw [hy365]; with_reducible exact H2_) | (have H2_ := (Option.bind_some _ _).symm.trans H; with_reducible exact H2_) | with_reducible exact H | (rw [hy365]; exact H) | exact H
      have Ny365 := aMk hy365
      clear hy365
      by_cases c47 : ([] : List (S39)).length + y365.length < 2199023255552
      ·rw [if_pos c47] at H
       have LMc47 := aMk c47
       clear c47
       obtain ⟨y370, hy370⟩ : ∃ y_ : List (S39), y_ = (([] : List (S39)) ++ y365) := ⟨_, rfl⟩
       replace H : (if y370.length < 2199023255552 then ((some (y370 ++ [(⟨(⟨a1_0, l1_1, l1_2⟩ : S37), a2⟩ : S39)] : List (S39))).bind fun y373 => ((some (l0.drop (x7_1 : Int).toNat : List (S39))).bind fun y376 => (if y373.length + y376.length < 2199023255552 then (some (y373 ++ y376)) else (none)))) else (none)) = some r := by first | (rw [hy370]; with_reducible exact H) | (have H2_ := (Option.bind_some _ _).symm.trans H; rw [hy370]; with_reducible exact H2_) | (have H2_ := (Option.bind_some _ _).symm.trans H; with_reducible exact H2_) | with_reducible exact H | (rw [hy370]; exact H) | exact H
       have Ny370 := aMk hy370
       clear hy370
       by_cases c48 : y370.length < 2199023255552
       ·rw [if_pos c48] at H
        have LMc48 := aMk c48
        clear c48
        obtain ⟨y373, hy373⟩ : ∃ y_ : List (S39), y_ = (y370 ++ [(⟨(⟨a1_0, l1_1, l1_2⟩ : S37), a2⟩ : S39)]) := ⟨_, rfl⟩
        replace H : ((some (l0.drop (x7_1 : Int).toNat : List (S39))).bind fun y376 => (if y373.length + y376.length < 2199023255552 then (some (y373 ++ y376)) else (none))) = some r := by first | (rw [hy373]; with_reducible exact H) | (have H2_ := (Option.bind_some _ _).symm.trans H; rw [hy373]; with_reducible exact H2_) | (have H2_ := (Option.bind_some _ _).symm.trans H; with_reducible exact H2_) | with_reducible exact H | (rw [hy373]; exact H) | exact H
        have Ny373 := aMk hy373
        clear hy373
        have c49b0 := eq_true (of_decide_eq_true (by first | (with_reducible assumption) | assumption) : 0 ≤ x7_1)
        have c50b0 := eq_true (of_decide_eq_true (by first | (with_reducible assumption) | assumption) : x7_1 ≤ (l0.length : Int))
        obtain ⟨y376, hy376⟩ : ∃ y_ : List (S39), y_ = (l0.drop (x7_1 : Int).toNat) := ⟨_, rfl⟩
        replace H : (if y373.length + y376.length < 2199023255552 then (some (y373 ++ y376)) else (none)) = some r := by first | (rw [hy376]; with_reducible exact H) | (have H2_ := (Option.bind_some _ _).symm.trans H; rw [hy376]; with_reducible exact H2_) | (have H2_ := (Option.bind_some _ _).symm.trans H; with_reducible exact H2_) | with_reducible exact H | (rw [hy376]; exact H) | exact H
        have Ny376 := aMk hy376
        clear hy376
        by_cases c51 : y373.length + y376.length < 2199023255552
        ·rw [if_pos c51] at H
         have LMc51 := aMk c51
         clear c51
         obtain ⟨y381, hy381⟩ : ∃ y_ : List (S39), y_ = (y373 ++ y376) := ⟨_, rfl⟩
         replace H : (some y381) = some r := by first | (rw [hy381]; with_reducible exact H) | (have H2_ := (Option.bind_some _ _).symm.trans H; rw [hy381]; with_reducible exact H2_) | (have H2_ := (Option.bind_some _ _).symm.trans H; with_reducible exact H2_) | with_reducible exact H | (rw [hy381]; exact H) | exact H
         have Ny381 := aMk hy381
         clear hy381
         obtain rfl := Option.some.inj H
         try go_wp2
         replace HO_0 := aMk (Kd.V_drew HO_0.out)
         replace HO_330001 := aMk (Kd.V_drew HO_330001.out)
         replace HO_330002 := aMk (Kd.V_drew HO_330002.out)
         replace BK329 := aMk (bD BK329.out)
         replace HB := aMk (eD HB.out)
         refine start_ (n := 14) (S := fun w' => True) (ds := []) #[false, false, false, false, false, false, false, false, false, false, false, false, false, false] (by kernel_rfl) rfl rfl trivial (fun hHeld => ?_); refine with_tabW gristmillref04_Put.tab2 gristmillref04_Put.bits2 (fun HT_ HW_ => ?_)
         generalize wr.drew = w52 at HO_0 HO_330001 HO_330002 BK329 HB hHeld ⊢
         refine pure_ (i := 0) (N := some 9) (v := ?_) (a' := ?_) #[true, false, false, false, false, false, false, false, false, false, false, false, false, false] rfl rfl (any_of HT_.out (by kernel_rfl)) (fun _ _ _ h => h) (Or.inl ⟨by rfl, ?_⟩) ?_ ?_
         rotate_left
         ·intro w'
          go_simp
          with_reducible rfl
         rotate_left
         ·simp only [Act.put, sA, sB, sC, i64_w, i32_w]
          rfl
         refine pure_ (i := 1) (N := some 10) (v := ?_) (a' := ?_) #[true, true, false, false, false, false, false, false, false, false, false, false, false, false] rfl rfl (any_of HT_.out (by kernel_rfl)) (fun _ _ _ h => h) (Or.inl ⟨by rfl, ?_⟩) ?_ ?_
         rotate_left
         ·intro w'
          go_simp
          with_reducible rfl
         rotate_left
         ·simp only [Act.put, sA, sB, sC, i64_w, i32_w]
          rfl
         refine pure_ (i := 2) (N := some 11) (v := ?_) (a' := ?_) #[true, true, true, false, false, false, false, false, false, false, false, false, false, false] rfl rfl (any_of HT_.out (by kernel_rfl)) (fun _ _ _ h => h) (Or.inl ⟨by rfl, ?_⟩) ?_ ?_
         rotate_left
         ·intro w'
          go_simp
          with_reducible rfl
         rotate_left
         ·simp only [Act.put, sA, sB, sC, i64_w, i32_w]
          rfl
         refine pure_ (i := 3) (N := some 12) (v := ?_) (a' := ?_) #[true, true, true, true, false, false, false, false, false, false, false, false, false, false] rfl rfl (any_of HT_.out (by kernel_rfl)) (fun _ _ _ h => h) (Or.inl ⟨by rfl, ?_⟩) ?_ ?_
         rotate_left
         ·intro w'
          go_simp
          with_reducible rfl
         rotate_left
         ·simp only [Act.put, sA, sB, sC, i64_w, i32_w]
          rfl
         refine pure_ (i := 4) (N := some 13) (v := ?_) (a' := ?_) #[true, true, true, true, true, false, false, false, false, false, false, false, false, false] rfl rfl (any_of HT_.out (by kernel_rfl)) (fun _ _ _ h => h) (Or.inl ⟨by rfl, ?_⟩) ?_ ?_
         rotate_left
         ·intro w'
          go_simp
          with_reducible rfl
         rotate_left
         ·simp only [Act.put, sA, sB, sC, i64_w, i32_w]
          rfl
         refine pure_ (i := 5) (N := some 14) (v := undef) (a' := ?_) #[true, true, true, true, true, true, false, false, false, false, false, false, false, false] rfl rfl (any_of HT_.out (by kernel_rfl)) (fun _ _ _ h => h) (Or.inr ⟨by rfl, rfl⟩) ?_ ?_
         rotate_left
         ·simp only [Act.put, sA, sB, sC, i64_w, i32_w]
          rfl
         refine pure_ (i := 6) (N := some 15) (v := undef) (a' := ?_) #[true, true, true, true, true, true, true, false, false, false, false, false, false, false] rfl rfl (any_of HT_.out (by kernel_rfl)) (fun _ _ _ h => h) (Or.inr ⟨by rfl, rfl⟩) ?_ ?_
         rotate_left
         ·simp only [Act.put, sA, sB, sC, i64_w, i32_w]
          rfl
         refine pure_ (i := 7) (N := some 16) (v := undef) (a' := ?_) #[true, true, true, true, true, true, true, true, false, false, false, false, false, false] rfl rfl (any_of HT_.out (by kernel_rfl)) (fun _ _ _ h => h) (Or.inr ⟨by rfl, rfl⟩) ?_ ?_
         rotate_left
         ·simp only [Act.put, sA, sB, sC, i64_w, i32_w]
          rfl
         refine pure_ (i := 8) (N := some 17) (v := undef) (a' := ?_) #[true, true, true, true, true, true, true, true, true, false, false, false, false, false] rfl rfl (any_of HT_.out (by kernel_rfl)) (fun _ _ _ h => h) (Or.inr ⟨by rfl, rfl⟩) ?_ ?_
         rotate_left
         ·simp only [Act.put, sA, sB, sC, i64_w, i32_w]
          rfl
         refine pure_ (i := 9) (N := some 18) (v := undef) (a' := ?_) #[true, true, true, true, true, true, true, true, true, true, false, false, false, false] rfl rfl (any_of HT_.out (by kernel_rfl)) (fun _ _ _ h => h) (Or.inr ⟨by rfl, rfl⟩) ?_ ?_
         rotate_left
         ·simp only [Act.put, sA, sB, sC, i64_w, i32_w]
          rfl
         refine pure_ (i := 10) (N := some 19) (v := undef) (a' := ?_) #[true, true, true, true, true, true, true, true, true, true, true, false, false, false] rfl rfl (any_of HT_.out (by kernel_rfl)) (fun _ _ _ h => h) (Or.inr ⟨by rfl, rfl⟩) ?_ ?_
         rotate_left
         ·simp only [Act.put, sA, sB, sC, i64_w, i32_w]
          rfl
         refine pure_ (i := 11) (N := some 20) (v := undef) (a' := ?_) #[true, true, true, true, true, true, true, true, true, true, true, true, false, false] rfl rfl (any_of HT_.out (by kernel_rfl)) (fun _ _ _ h => h) (Or.inr ⟨by rfl, rfl⟩) ?_ ?_
         rotate_left
         ·simp only [Act.put, sA, sB, sC, i64_w, i32_w]
          rfl
         refine pure_ (i := 12) (N := some 21) (v := undef) (a' := ?_) #[true, true, true, true, true, true, true, true, true, true, true, true, true, false] rfl rfl (any_of HT_.out (by kernel_rfl)) (fun _ _ _ h => h) (Or.inr ⟨by rfl, rfl⟩) ?_ ?_
         rotate_left
         ·simp only [Act.put, sA, sB, sC, i64_w, i32_w]
          rfl
         refine pure_ (i := 13) (N := some 22) (v := ?_) (a' := ?_) #[true, true, true, true, true, true, true, true, true, true, true, true, true, true] rfl rfl (any_of HT_.out (by kernel_rfl)) (fun _ _ _ h => h) (Or.inl ⟨by rfl, ?_⟩) ?_ ?_
         rotate_left
         ·intro w'
          go_simp
          with_reducible rfl
         rotate_left
         ·simp only [Act.put, sA, sB, sC, i64_w, i32_w]
          rfl
         refine done_ (done_of HT_.out (by kernel_rfl)) ?_
         have q53 : (x7_1 : Int) ≤ ((l0.length : Int) : Int) := of_decide_eq_true (by first | (with_reducible assumption) | assumption)
         obtain ⟨i053, hi053, _, hsz53, _⟩ := info_parts info39
         have hroom53 : l0.length ≤ c0 := (Kd.V_reads' HO_0.out).2.1
         have hC53 : Kd.F k39 _ _ A0 l0.length l0 := (Kd.V_at (base := w.heap.size) HO_0.out).2.2
         have hcut53 := cut_to (P := Try.prog) 24 39 .i64 Try.underlying24 hi053 A0 l0.length c0 x7_1 (of_decide_eq_true (by first | (with_reducible assumption) | assumption)) q53 hroom53
         have hr53 := Kd.F_take (m := (x7_1 : Int).toNat) hC53 (by omega)
         have hy53 : y365.length = (x7_1 : Int).toNat := (by rw [Ny365.out, List.length_take]; omega)
         rw [← Ny365.out] at hr53
         rw [← hy53] at hcut53
         have HO369 := aMk (show Kd.V k39 39 _ w.heap.size _ (.slice A0 y365.length c0) y365 from Kd.V_mk (by omega) hr53)
         have HC369 := aMk (show y365.length ≤ c0 from by omega)
         clear hr53 hC53 hroom53 hi053 hsz53
         have KY53 := aMk hy53
         clear hy53
         replace q53 := eq_true q53
         try go_wp2_with (first | ((with_reducible refine gate_builtin (b := .append) (xs := #[.tmp 25, .tmp 28]) rfl ?_); at_builtin; refine Kd.N_append_rows k39 (w0 := w) w.heap.size rfl (.tmp 25) (.tmp 28) 24 39 (.agg #[(.int .i64 0), (.slice none 0 0), (.slice none 0 0), (.int .u64 0)]) 64 rfl Try.underlying24 info39 rfl (by decide) (by omega) (.slice none 0 0) ([] : List (S39)) y365 _ _ _ (fun k_ => ((P0_ k_ ∨ P1_1_ k_ ∨ P1_2_ k_) ∨ w.heap.size ≤ k_) ∧ k_ ≠ gb329) (fun k_ => ((fun k_ => ((P0_ k_ ∨ P1_1_ k_ ∨ P1_2_ k_) ∨ w.heap.size ≤ k_) ∧ k_ ≠ gb329)) k_ ∧ some k_ ≠ (.slice none 0 0 : Value).ownBlock) rfl rfl ?aO ?aR (fun _ hk => hk) ?aF ?aB ?aS ?aL ?_; (case aR => exact (by skip; exact Kd.V_F (Kd.V_mono (ok' := (fun k_ => ((fun k_ => ((P0_ k_ ∨ P1_1_ k_ ∨ P1_2_ k_) ∨ w.heap.size ≤ k_) ∧ k_ ≠ gb329)) k_ ∧ some k_ ≠ (.slice none 0 0 : Value).ownBlock)) (HO369.out) (fun k_ hk => ⟨⟨hk.1, hk.2⟩, (by simp [Value.ownBlock])⟩)))); (case aB => exact (by repeat (first | (with_reducible first | exact HB.out | apply eA | apply eN | apply eD | refine eS ?_ GE329.out) | exact HB.out))); (case aF => exact (fun k_ hk => ⟨(.inr (Nat.le_trans (below_size (by repeat (first | (with_reducible first | exact HB.out | apply eA | apply eN | apply eD | refine eS ?_ GE329.out) | exact HB.out))) hk)), Kd.freshB (g := gb329) (o := .cells #[.int .i64 a1_0, .slice A1_1 l1_1.length c1_1, .slice A1_2 l1_2.length c1_2] 37 (0, 0)) (by (with_reducible repeat (first | apply bA | apply bN | apply bD)); exact BK329.out) k_ hk⟩)); (case aO => exact ((Kd.N_nil _ _ _ _ (fun k_ => ((P0_ k_ ∨ P1_1_ k_ ∨ P1_2_ k_) ∨ w.heap.size ≤ k_) ∧ k_ ≠ gb329)))); (case aS => exact (below_size (by repeat (first | (with_reducible first | exact HB.out | apply eA | apply eN | apply eD | refine eS ?_ GE329.out) | exact HB.out)))); (case aL => have := LMc47.out; omega); intro v371 w54 ho hb hg hat; rw [← Ny370.out] at ho; have HO372 := aMk (ho); replace HO_0 := aMk (Kd.V_afterv (Kd.V_apart_nil (by (with_reducible repeat (first | apply Kd.V_alloc | apply Kd.V_drewN | apply Kd.V_drew)); exact HO_0.out)) hg hat); replace HO_330001 := aMk (Kd.V_afterv (Kd.V_apart_nil (by (with_reducible repeat (first | apply Kd.V_alloc | apply Kd.V_drewN | apply Kd.V_drew)); exact HO_330001.out)) hg hat); replace HO_330002 := aMk (Kd.V_afterv (Kd.V_apart_nil (by (with_reducible repeat (first | apply Kd.V_alloc | apply Kd.V_drewN | apply Kd.V_drew)); exact HO_330002.out)) hg hat); replace BK329 := aMk (blk_grown (g := gb329) (o := .cells #[.int .i64 a1_0, .slice A1_1 l1_1.length c1_1, .slice A1_2 l1_2.length c1_2] 37 (0, 0)) (by (with_reducible repeat (first | apply bA | apply bN | apply bD)); exact BK329.out) hg (by simp [Value.ownBlock])); replace HO369 := aMk (Kd.V_afterv (Kd.V_apart_nil (by (with_reducible repeat (first | apply Kd.V_alloc | apply Kd.V_drewN | apply Kd.V_drew)); exact HO369.out)) hg hat); replace HB := aMk (hb); clear ho hb hg hat))
         replace HO_0 := aMk (Kd.V_drew HO_0.out)
         replace HO_330001 := aMk (Kd.V_drew HO_330001.out)
         replace HO_330002 := aMk (Kd.V_drew HO_330002.out)
         replace HO369 := aMk (Kd.V_drew HO369.out)
         replace HO372 := aMk (Kd.N_drew HO372.out)
         replace BK329 := aMk (bD BK329.out)
         replace HB := aMk (eD HB.out)
         refine start_ (n := 14) (S := fun w' => True) (ds := []) #[false, false, false, false, false, false, false, false, false, false, false, false, false, false] (by kernel_rfl) rfl rfl trivial (fun hHeld => ?_); refine with_tabW gristmillref04_Put.tab6 gristmillref04_Put.bits6 (fun HT_ HW_ => ?_)
         generalize w54.drew = w55 at HO_0 HO_330001 HO_330002 HO369 HO372 BK329 HB hHeld ⊢
         refine pure_ (i := 0) (N := some 30) (v := ?_) (a' := ?_) #[true, false, false, false, false, false, false, false, false, false, false, false, false, false] rfl rfl (any_of HT_.out (by kernel_rfl)) (fun _ _ _ h => h) (Or.inl ⟨by rfl, ?_⟩) ?_ ?_
         rotate_left
         ·intro w'
          go_simp
          with_reducible rfl
         rotate_left
         ·simp only [Act.put, sA, sB, sC, i64_w, i32_w]
          rfl
         refine pure_ (i := 1) (N := some 31) (v := ?_) (a' := ?_) #[true, true, false, false, false, false, false, false, false, false, false, false, false, false] rfl rfl (any_of HT_.out (by kernel_rfl)) (fun _ _ _ h => h) (Or.inl ⟨by rfl, ?_⟩) ?_ ?_
         rotate_left
         ·intro w'
          go_simp
          with_reducible rfl
         rotate_left
         ·simp only [Act.put, sA, sB, sC, i64_w, i32_w]
          rfl
         refine pure_ (i := 2) (N := some 32) (v := ?_) (a' := ?_) #[true, true, true, false, false, false, false, false, false, false, false, false, false, false] rfl rfl (any_of HT_.out (by kernel_rfl)) (fun _ _ _ h => h) (Or.inl ⟨by rfl, ?_⟩) ?_ ?_
         rotate_left
         ·intro w'
          go_simp
          with_reducible rfl
         rotate_left
         ·simp only [Act.put, sA, sB, sC, i64_w, i32_w]
          rfl
         refine pure_ (i := 3) (N := some 33) (v := ?_) (a' := ?_) #[true, true, true, true, false, false, false, false, false, false, false, false, false, false] rfl rfl (any_of HT_.out (by kernel_rfl)) (fun _ _ _ h => h) (Or.inl ⟨by rfl, ?_⟩) ?_ ?_
         rotate_left
         ·intro w'
          go_simp
          with_reducible rfl
         rotate_left
         ·simp only [Act.put, sA, sB, sC, i64_w, i32_w]
          rfl
         refine pure_ (i := 4) (N := some 34) (v := ?_) (a' := ?_) #[true, true, true, true, true, false, false, false, false, false, false, false, false, false] rfl rfl (any_of HT_.out (by kernel_rfl)) (fun _ _ _ h => h) (Or.inl ⟨by rfl, ?_⟩) ?_ ?_
         rotate_left
         ·intro w'
          go_simp
          with_reducible rfl
         rotate_left
         ·simp only [Act.put, sA, sB, sC, i64_w, i32_w]
          rfl
         refine pure_ (i := 5) (N := some 35) (v := undef) (a' := ?_) #[true, true, true, true, true, true, false, false, false, false, false, false, false, false] rfl rfl (any_of HT_.out (by kernel_rfl)) (fun _ _ _ h => h) (Or.inr ⟨by rfl, rfl⟩) ?_ ?_
         rotate_left
         ·simp only [Act.put, sA, sB, sC, i64_w, i32_w]
          rfl
         refine pure_ (i := 6) (N := some 36) (v := undef) (a' := ?_) #[true, true, true, true, true, true, true, false, false, false, false, false, false, false] rfl rfl (any_of HT_.out (by kernel_rfl)) (fun _ _ _ h => h) (Or.inr ⟨by rfl, rfl⟩) ?_ ?_
         rotate_left
         ·simp only [Act.put, sA, sB, sC, i64_w, i32_w]
          rfl
         refine pure_ (i := 7) (N := some 37) (v := undef) (a' := ?_) #[true, true, true, true, true, true, true, true, false, false, false, false, false, false] rfl rfl (any_of HT_.out (by kernel_rfl)) (fun _ _ _ h => h) (Or.inr ⟨by rfl, rfl⟩) ?_ ?_
         rotate_left
         ·simp only [Act.put, sA, sB, sC, i64_w, i32_w]
          rfl
         refine pure_ (i := 8) (N := some 38) (v := undef) (a' := ?_) #[true, true, true, true, true, true, true, true, true, false, false, false, false, false] rfl rfl (any_of HT_.out (by kernel_rfl)) (fun _ _ _ h => h) (Or.inr ⟨by rfl, rfl⟩) ?_ ?_
         rotate_left
         ·simp only [Act.put, sA, sB, sC, i64_w, i32_w]
          rfl
         refine pure_ (i := 9) (N := some 39) (v := undef) (a' := ?_) #[true, true, true, true, true, true, true, true, true, true, false, false, false, false] rfl rfl (any_of HT_.out (by kernel_rfl)) (fun _ _ _ h => h) (Or.inr ⟨by rfl, rfl⟩) ?_ ?_
         rotate_left
         ·simp only [Act.put, sA, sB, sC, i64_w, i32_w]
          rfl
         refine pure_ (i := 10) (N := some 40) (v := undef) (a' := ?_) #[true, true, true, true, true, true, true, true, true, true, true, false, false, false] rfl rfl (any_of HT_.out (by kernel_rfl)) (fun _ _ _ h => h) (Or.inr ⟨by rfl, rfl⟩) ?_ ?_
         rotate_left
         ·simp only [Act.put, sA, sB, sC, i64_w, i32_w]
          rfl
         refine pure_ (i := 11) (N := some 41) (v := undef) (a' := ?_) #[true, true, true, true, true, true, true, true, true, true, true, true, false, false] rfl rfl (any_of HT_.out (by kernel_rfl)) (fun _ _ _ h => h) (Or.inr ⟨by rfl, rfl⟩) ?_ ?_
         rotate_left
         ·simp only [Act.put, sA, sB, sC, i64_w, i32_w]
          rfl
         refine pure_ (i := 12) (N := some 42) (v := undef) (a' := ?_) #[true, true, true, true, true, true, true, true, true, true, true, true, true, false] rfl rfl (any_of HT_.out (by kernel_rfl)) (fun _ _ _ h => h) (Or.inr ⟨by rfl, rfl⟩) ?_ ?_
         rotate_left
         ·simp only [Act.put, sA, sB, sC, i64_w, i32_w]
          rfl
         refine pure_ (i := 13) (N := some 43) (v := ?_) (a' := ?_) #[true, true, true, true, true, true, true, true, true, true, true, true, true, true] rfl rfl (any_of HT_.out (by kernel_rfl)) (fun _ _ _ h => h) (Or.inl ⟨by rfl, ?_⟩) ?_ ?_
         rotate_left
         ·intro w'
          go_simp
          with_reducible rfl
         rotate_left
         ·simp only [Act.put, sA, sB, sC, i64_w, i32_w]
          rfl
         refine done_ (done_of HT_.out (by kernel_rfl)) ?_
         have hcz56_0 : w55.cell? ⟨gb329, 0, none⟩ = some (.int .i64 a1_0) := (blk_cell BK329.out 0).trans rfl
         have hcz56_1 : w55.cell? ⟨gb329, 1, none⟩ = some (.slice A1_1 l1_1.length c1_1) := (blk_cell BK329.out 1).trans rfl
         have hcz56_2 : w55.cell? ⟨gb329, 2, none⟩ = some (.slice A1_2 l1_2.length c1_2) := (blk_cell BK329.out 2).trans rfl
         have hfz56_0 := blk_frozen BK329.out 0
         have hfz56_1 := blk_frozen BK329.out 1
         have hfz56_2 := blk_frozen BK329.out 2
         try go_wp2_with (first | ((with_reducible refine gate_builtin (b := .append) (xs := #[.tmp 62, .tmp 66]) rfl ?_); at_builtin; refine Kd.N_append k39 (w0 := w) w.heap.size rfl (.tmp 62) (.tmp 66) 24 39 (.agg #[(.int .i64 0), (.slice none 0 0), (.slice none 0 0), (.int .u64 0)]) 64 rfl Try.underlying24 info39 rfl (by decide) (by omega) v371 y370 (⟨(⟨a1_0, l1_1, l1_2⟩ : S37), a2⟩ : S39) [.int .i64 a1_0, .slice A1_1 l1_1.length c1_1, .slice A1_2 l1_2.length c1_2, .int .u64 a2] (fun k_ => ((P0_ k_ ∨ P1_1_ k_ ∨ P1_2_ k_) ∨ w.heap.size ≤ k_) ∧ k_ ≠ gb329) (fun k_ => ((fun k_ => ((P0_ k_ ∨ P1_1_ k_ ∨ P1_2_ k_) ∨ w.heap.size ≤ k_) ∧ k_ ≠ gb329)) k_ ∧ some k_ ≠ (v371 : Value).ownBlock) rfl rfl ?aP (fun _ hk => hk) ?aF ?aO ?aB ?aS ?aL ?_; (case aP => exact (k39_mkF _ _ (⟨(⟨a1_0, l1_1, l1_2⟩ : S37), a2⟩ : S39) (Kd.V_reads' (Kd.V_mono (ok' := (fun k_ => ((fun k_ => ((P0_ k_ ∨ P1_1_ k_ ∨ P1_2_ k_) ∨ w.heap.size ≤ k_) ∧ k_ ≠ gb329)) k_ ∧ some k_ ≠ (v371 : Value).ownBlock)) (HO_330001.out) (fun k_ hk => ⟨⟨hk.1.1, hk.1.2⟩, hk.2⟩))).2.1 (Kd.V_F (Kd.V_mono (ok' := (fun k_ => ((fun k_ => ((P0_ k_ ∨ P1_1_ k_ ∨ P1_2_ k_) ∨ w.heap.size ≤ k_) ∧ k_ ≠ gb329)) k_ ∧ some k_ ≠ (v371 : Value).ownBlock)) (HO_330001.out) (fun k_ hk => ⟨⟨hk.1.1, hk.1.2⟩, hk.2⟩))) (Kd.V_reads' (Kd.V_mono (ok' := (fun k_ => ((fun k_ => ((P0_ k_ ∨ P1_1_ k_ ∨ P1_2_ k_) ∨ w.heap.size ≤ k_) ∧ k_ ≠ gb329)) k_ ∧ some k_ ≠ (v371 : Value).ownBlock)) (HO_330002.out) (fun k_ hk => ⟨⟨hk.1.1, hk.1.2⟩, hk.2⟩))).2.1 (Kd.V_F (Kd.V_mono (ok' := (fun k_ => ((fun k_ => ((P0_ k_ ∨ P1_1_ k_ ∨ P1_2_ k_) ∨ w.heap.size ≤ k_) ∧ k_ ≠ gb329)) k_ ∧ some k_ ≠ (v371 : Value).ownBlock)) (HO_330002.out) (fun k_ hk => ⟨⟨hk.1.1, hk.1.2⟩, hk.2⟩))))); (case aB => exact (by repeat (first | (with_reducible first | exact HB.out | apply eA | apply eN | apply eD | refine eS ?_ GE329.out) | exact HB.out))); (case aF => exact (fun k_ hk => ⟨(.inr (Nat.le_trans (below_size (by repeat (first | (with_reducible first | exact HB.out | apply eA | apply eN | apply eD | refine eS ?_ GE329.out) | exact HB.out))) hk)), Kd.freshB (g := gb329) (o := .cells #[.int .i64 a1_0, .slice A1_1 l1_1.length c1_1, .slice A1_2 l1_2.length c1_2] 37 (0, 0)) (by (with_reducible repeat (first | apply bA | apply bN | apply bD)); exact BK329.out) k_ hk⟩)); (case aO => exact (by (with_reducible repeat (first | apply Kd.N_alloc | apply Kd.N_drewN | apply Kd.N_drew)); exact HO372.out)); (case aS => exact (below_size (by repeat (first | (with_reducible first | exact HB.out | apply eA | apply eN | apply eD | refine eS ?_ GE329.out) | exact HB.out)))); (case aL => have := LMc48.out; omega); intro v374 w57 ho hb hg hat; rw [← Ny373.out] at ho; have HO375 := aMk (ho); replace HO_0 := aMk (Kd.V_afterv (ok := (fun k_ => ((P0_ k_ ∨ P1_1_ k_ ∨ P1_2_ k_) ∨ w.heap.size ≤ k_) ∧ k_ ≠ gb329)) (by (with_reducible repeat (first | apply Kd.V_alloc | apply Kd.V_drewN | apply Kd.V_drew)); exact HO_0.out) hg hat); replace HO_330001 := aMk (Kd.V_afterv (ok := (fun k_ => ((P0_ k_ ∨ P1_1_ k_ ∨ P1_2_ k_) ∨ w.heap.size ≤ k_) ∧ k_ ≠ gb329)) (by (with_reducible repeat (first | apply Kd.V_alloc | apply Kd.V_drewN | apply Kd.V_drew)); exact HO_330001.out) hg hat); replace HO_330002 := aMk (Kd.V_afterv (ok := (fun k_ => ((P0_ k_ ∨ P1_1_ k_ ∨ P1_2_ k_) ∨ w.heap.size ≤ k_) ∧ k_ ≠ gb329)) (by (with_reducible repeat (first | apply Kd.V_alloc | apply Kd.V_drewN | apply Kd.V_drew)); exact HO_330002.out) hg hat); replace BK329 := aMk (blk_grown (g := gb329) (o := .cells #[.int .i64 a1_0, .slice A1_1 l1_1.length c1_1, .slice A1_2 l1_2.length c1_2] 37 (0, 0)) (by (with_reducible repeat (first | apply bA | apply bN | apply bD)); exact BK329.out) hg (Kd.N_ne HO372.out BK329.out (by decide))); replace HO369 := aMk (Kd.V_afterv (ok := (fun k_ => ((P0_ k_ ∨ P1_1_ k_ ∨ P1_2_ k_) ∨ w.heap.size ≤ k_) ∧ k_ ≠ gb329)) (by (with_reducible repeat (first | apply Kd.V_alloc | apply Kd.V_drewN | apply Kd.V_drew)); exact HO369.out) hg hat); replace HB := aMk (hb); clear HO372; clear ho hb hg hat; have q58 : (x7_1 : Int) ≤ ((l0.length : Int) : Int) := of_decide_eq_true (by first | (with_reducible assumption) | assumption); obtain ⟨i058, hi058, _, hsz58, _⟩ := info_parts info39; have hroom58 : l0.length ≤ c0 := (Kd.V_reads' HO_0.out).2.1; have hC58 : Kd.F k39 _ _ A0 l0.length l0 := (Kd.V_at (base := w.heap.size) HO_0.out).2.2; have q058 : (0 : Int) ≤ (x7_1 : Int) := of_decide_eq_true (by first | (with_reducible assumption) | assumption); have hcut58 := cut_from (P := Try.prog) 24 39 .i64 Try.underlying24 hi058 4 hsz58 A0 l0.length c0 x7_1 q058 q58; have hr58 := Kd.F_cut (m := (x7_1 : Int).toNat) (c := c0) hC58 (by omega) hroom58; obtain ⟨A58, hA58⟩ : ∃ A1, A1 = (if c0 = (x7_1 : Int).toNat then A0 else (A0 : Option Addr).map (·.add ((x7_1 : Int).toNat * 4))) := ⟨_, rfl⟩; obtain ⟨c58, hc58⟩ : ∃ c1, c1 = c0 - (x7_1 : Int).toNat := ⟨_, rfl⟩; have hy58 : y376.length = l0.length - (x7_1 : Int).toNat := (by rw [Ny376.out, List.length_drop] <;> omega); rw [show (l0).drop (x7_1 : Int).toNat = y376 from Ny376.out.symm] at hr58; replace hr58 : Kd.F k39 _ _ A58 y376.length y376 := (by rw [hA58]; exact hr58); rw [← hy58, ← hA58, ← hc58] at hcut58; have HO380 := aMk (show Kd.V k39 39 _ w.heap.size _ (.slice A58 y376.length c58) y376 from Kd.V_mk (by rw [hy58, hc58]; exact Nat.sub_le_sub_right hroom58 _) hr58); have HC380 := aMk (show y376.length ≤ c58 from by rw [hy58, hc58]; exact Nat.sub_le_sub_right hroom58 _); clear hr58 hC58 hroom58 hi058 hsz58 hc58; have KY58 := aMk hy58; have KA58 := aMk hA58; clear hy58 hA58; replace q58 := eq_true q58) | ((with_reducible refine gate_builtin (b := .append) (xs := #[.tmp 68, .tmp 71]) rfl ?_); at_builtin; refine Kd.N_append_rows k39 (w0 := w) w.heap.size rfl (.tmp 68) (.tmp 71) 24 39 (.agg #[(.int .i64 0), (.slice none 0 0), (.slice none 0 0), (.int .u64 0)]) 64 rfl Try.underlying24 info39 rfl (by decide) (by omega) v374 y373 y376 _ _ _ (fun k_ => ((P0_ k_ ∨ P1_1_ k_ ∨ P1_2_ k_) ∨ w.heap.size ≤ k_) ∧ k_ ≠ gb329) (fun k_ => ((fun k_ => ((P0_ k_ ∨ P1_1_ k_ ∨ P1_2_ k_) ∨ w.heap.size ≤ k_) ∧ k_ ≠ gb329)) k_ ∧ some k_ ≠ (v374 : Value).ownBlock) rfl rfl ?aO ?aR (fun _ hk => hk) ?aF ?aB ?aS ?aL ?_; (case aR => exact (by skip; exact Kd.V_F (Kd.V_mono (ok' := (fun k_ => ((fun k_ => ((P0_ k_ ∨ P1_1_ k_ ∨ P1_2_ k_) ∨ w.heap.size ≤ k_) ∧ k_ ≠ gb329)) k_ ∧ some k_ ≠ (v374 : Value).ownBlock)) (HO380.out) (fun k_ hk => ⟨⟨hk.1.1, hk.1.2⟩, hk.2⟩)))); (case aB => exact (by repeat (first | (with_reducible first | exact HB.out | apply eA | apply eN | apply eD | refine eS ?_ GE329.out) | exact HB.out))); (case aF => exact (fun k_ hk => ⟨(.inr (Nat.le_trans (below_size (by repeat (first | (with_reducible first | exact HB.out | apply eA | apply eN | apply eD | refine eS ?_ GE329.out) | exact HB.out))) hk)), Kd.freshB (g := gb329) (o := .cells #[.int .i64 a1_0, .slice A1_1 l1_1.length c1_1, .slice A1_2 l1_2.length c1_2] 37 (0, 0)) (by (with_reducible repeat (first | apply bA | apply bN | apply bD)); exact BK329.out) k_ hk⟩)); (case aO => exact (by (with_reducible repeat (first | apply Kd.N_alloc | apply Kd.N_drewN | apply Kd.N_drew)); exact HO375.out)); (case aS => exact (below_size (by repeat (first | (with_reducible first | exact HB.out | apply eA | apply eN | apply eD | refine eS ?_ GE329.out) | exact HB.out)))); (case aL => have := LMc51.out; omega); intro v382 w59 ho hb hg hat; rw [← Ny381.out] at ho; have HO383 := aMk (ho); replace HO_0 := aMk (Kd.V_afterv (ok := (fun k_ => ((P0_ k_ ∨ P1_1_ k_ ∨ P1_2_ k_) ∨ w.heap.size ≤ k_) ∧ k_ ≠ gb329)) (by (with_reducible repeat (first | apply Kd.V_alloc | apply Kd.V_drewN | apply Kd.V_drew)); exact HO_0.out) hg hat); replace HO_330001 := aMk (Kd.V_afterv (ok := (fun k_ => ((P0_ k_ ∨ P1_1_ k_ ∨ P1_2_ k_) ∨ w.heap.size ≤ k_) ∧ k_ ≠ gb329)) (by (with_reducible repeat (first | apply Kd.V_alloc | apply Kd.V_drewN | apply Kd.V_drew)); exact HO_330001.out) hg hat); replace HO_330002 := aMk (Kd.V_afterv (ok := (fun k_ => ((P0_ k_ ∨ P1_1_ k_ ∨ P1_2_ k_) ∨ w.heap.size ≤ k_) ∧ k_ ≠ gb329)) (by (with_reducible repeat (first | apply Kd.V_alloc | apply Kd.V_drewN | apply Kd.V_drew)); exact HO_330002.out) hg hat); replace BK329 := aMk (blk_grown (g := gb329) (o := .cells #[.int .i64 a1_0, .slice A1_1 l1_1.length c1_1, .slice A1_2 l1_2.length c1_2] 37 (0, 0)) (by (with_reducible repeat (first | apply bA | apply bN | apply bD)); exact BK329.out) hg (Kd.N_ne HO375.out BK329.out (by decide))); replace HO369 := aMk (Kd.V_afterv (ok := (fun k_ => ((P0_ k_ ∨ P1_1_ k_ ∨ P1_2_ k_) ∨ w.heap.size ≤ k_) ∧ k_ ≠ gb329)) (by (with_reducible repeat (first | apply Kd.V_alloc | apply Kd.V_drewN | apply Kd.V_drew)); exact HO369.out) hg hat); replace HO380 := aMk (Kd.V_afterv (ok := (fun k_ => ((P0_ k_ ∨ P1_1_ k_ ∨ P1_2_ k_) ∨ w.heap.size ≤ k_) ∧ k_ ≠ gb329)) (by (with_reducible repeat (first | apply Kd.V_alloc | apply Kd.V_drewN | apply Kd.V_drew)); exact HO380.out) hg hat); replace HB := aMk (hb); clear HO375; clear ho hb hg hat))
         go_ret
         exact ⟨_, by first | rfl | (simp <;> rfl) | (simp [*] <;> rfl), by (with_reducible repeat (first | apply Kd.N_alloc | apply Kd.N_drewN | apply Kd.N_drew)); exact Kd.N_mono HO383.out (fun _ hk => hk.1), by repeat (first | (with_reducible first | exact HB.out | apply eA | apply eN | apply eD | refine eS ?_ GE329.out) | exact HB.out)⟩
        ·rw [if_neg c51] at H
         exact absurd H (by simp)
       ·rw [if_neg c48] at H
        exact absurd H (by simp)
      ·rw [if_neg c47] at H
       exact absurd H (by simp)
     ·rw [if_neg c46] at H
      exact absurd H (by simp)
    ·rw [if_neg c45] at H
     exact absurd H (by simp)

end Go.Proofs.Ytkjjdpnpcjfgeaa.QAgg
