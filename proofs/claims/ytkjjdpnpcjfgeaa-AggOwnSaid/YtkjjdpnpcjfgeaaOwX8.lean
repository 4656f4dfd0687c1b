/- Pruned for this claim by a program. -/
import Derived.Test.YtkjjdpnpcjfgeaaOwX0
import Derived.Test.YtkjjdpnpcjfgeaaOwShort
import Derived.Test.YtkjjdpnpcjfgeaaOwHand1
import Derived.Test.YtkjjdpnpcjfgeaaOwX1
import Derived.Test.YtkjjdpnpcjfgeaaOwX2
import Derived.Test.YtkjjdpnpcjfgeaaOwX4
import Derived.Test.YtkjjdpnpcjfgeaaOwX5
import Derived.Test.YtkjjdpnpcjfgeaaOwX7
namespace Go.Proofs.Ytkjjdpnpcjfgeaa.QAgg
open Go.RowKit Go.Proofs.YtkjjdpnpcjfgeaaW.PrintWords Go.Proofs.YtkjjdpnpcjfgeaaW.PrintLast Go.Proofs.YtkjjdpnpcjfgeaaW.PrintMore Go.Proofs.Ytkjjdpnpcjfgeaa.Short
attribute [local go_sem] max2_int min2_int max_two min_two max_three min_three max_four min_four   -- for this text's walks alone
set_option linter.unusedVariables false
set_option linter.unusedSimpArgs false

mutual
def gristmilllaw06_AggOwn.l0 : Nat → List (S39) → Int → Int → Int → Int → Int → List ByteArray → Int → Int → List ByteArray → Int → Int → List ByteArray → Option (Bool)
 | 0, _, _, _, _, _, _, _, _, _, _, _, _, _ => none
 | k + 1, x6, x10, x285000, x285001, x291000, x291001, x291002, x302000, x302001, x302002, x311000, x311001, x311002 => if x10 < (x302002.length : Int) then (if 0 ≤ x10 then (gristmilllaw06_AggOwn.l0 k x6 (wrap64 (x10 + 1)) x285000 x285001 x291000 x291001 x291002 x302000 x302001 (x302002.set (x10 : Int).toNat (⟨#[115, 112, 111, 105, 108, 116]⟩ : ByteArray)) x311000 x311001 x311002) else (none)) else (gristmilllaw06_AggOwn.l1 k x6 0 x285000 x285001 x291000 x291001 x291002 x311000 x311001 x311002)
def gristmilllaw06_AggOwn.l1 : Nat → List (S39) → Int → Int → Int → Int → Int → List ByteArray → Int → Int → List ByteArray → Option (Bool)
 | 0, _, _, _, _, _, _, _, _, _, _ => none
 | k + 1, x6, x11, x285000, x285001, x291000, x291001, x291002, x311000, x311001, x311002 => if x11 < (x311002.length : Int) then (if 0 ≤ x11 then (gristmilllaw06_AggOwn.l1 k x6 (wrap64 (x11 + 1)) x285000 x285001 x291000 x291001 x291002 x311000 x311001 (x311002.set (x11 : Int).toNat (⟨#[115, 112, 111, 105, 108, 116]⟩ : ByteArray))) else (none)) else ((gristmillref06_Of.f k x285000 x285001 x6).bind fun bt313 => ((gristmillref06_Same.f k x291000 x291001 x291002 bt313.1 bt313.2.1 bt313.2.2).bind fun t318 => (some t318)))
end
def gristmilllaw06_AggOwn.f (k : Nat) (l0 : List (S39)) : Option (Bool) := (gristmilllaw06_awake.f).bind fun t275 => (if t275 = true then ((gristmilllaw06_right.f k 4 0 l0).bind fun bt276 => ((gristmilllaw06_of.f k bt276.2.2.1 bt276.2.2.2.1 bt276.2.2.2.2).bind fun bt285 => ((agg_Start.f bt276.2.2.1 bt276.2.2.2.1).bind fun bt291 => ((agg_Merge.f bt276.2.2.1 bt276.2.2.2.1 bt285.1 bt285.2.1 bt285.2.2 bt291.1 bt291.2.1 bt291.2.2).bind fun bt296 => ((agg_Add.f bt276.2.2.1 bt276.2.2.2.1 bt285.1 bt285.2.1 bt285.2.2 0 (([(⟨#[97]⟩ : ByteArray), (⟨#[98]⟩ : ByteArray)] : List ByteArray)) ([] : List Int) 0).bind fun bt305 => (gristmilllaw06_AggOwn.l0 k bt276.2.2.2.2 0 bt276.2.2.1 bt276.2.2.2.1 bt285.1 bt285.2.1 bt285.2.2 bt296.1 bt296.2.1 bt296.2.2 bt305.1 bt305.2.1 bt305.2.2)))))) else (some false))
set_option maxHeartbeats 8000000 in
set_option maxRecDepth 100000 in
theorem gristmilllaw06_AggOwn.calls (k : Nat) (A0 : Option Addr) (c0 : Nat) (l0 : List (S39)) (r : Bool) (w : World) (hr0 : Kd.C k39 w A0 l0.length l0) (hc0 : l0.length ≤ c0) (h : gristmilllaw06_AggOwn.f k l0 = some r) :
  Calls Try.prog 4 #[.slice A0 l0.length c0] w fun e w' => e = .returned (.bool r) ∧ Below w.heap.size w w' := by
 have hu23 := Try.underlying23
 have hu27 := Try.underlying27
 have hu33 := Try.underlying33
 have hu37 := Try.underlying37
 have HR0 := aMk hr0
 have HC0 := aMk hc0
 clear hr0 hc0
 have HB := aMk (Below.refl w.heap.size w)
 have H : ((gristmilllaw06_awake.f).bind fun t275 => (if t275 = true then ((gristmilllaw06_right.f k 4 0 l0).bind fun bt276 => ((gristmilllaw06_of.f k bt276.2.2.1 bt276.2.2.2.1 bt276.2.2.2.2).bind fun bt285 => ((agg_Start.f bt276.2.2.1 bt276.2.2.2.1).bind fun bt291 => ((agg_Merge.f bt276.2.2.1 bt276.2.2.2.1 bt285.1 bt285.2.1 bt285.2.2 bt291.1 bt291.2.1 bt291.2.2).bind fun bt296 => ((agg_Add.f bt276.2.2.1 bt276.2.2.2.1 bt285.1 bt285.2.1 bt285.2.2 0 (([(⟨#[97]⟩ : ByteArray), (⟨#[98]⟩ : ByteArray)] : List ByteArray)) ([] : List Int) 0).bind fun bt305 => (gristmilllaw06_AggOwn.l0 k bt276.2.2.2.2 0 bt276.2.2.1 bt276.2.2.2.1 bt285.1 bt285.2.1 bt285.2.2 bt296.1 bt296.2.1 bt296.2.2 bt305.1 bt305.2.1 bt305.2.2)))))) else (some false))) = some r := h
 clear h
 replace H := Option.bind_eq_some_iff.mp H
 obtain ⟨t275, A20, H⟩ := H
 replace H : (if t275 = true then ((gristmilllaw06_right.f k 4 0 l0).bind fun bt276 => ((gristmilllaw06_of.f k bt276.2.2.1 bt276.2.2.2.1 bt276.2.2.2.2).bind fun bt285 => ((agg_Start.f bt276.2.2.1 bt276.2.2.2.1).bind fun bt291 => ((agg_Merge.f bt276.2.2.1 bt276.2.2.2.1 bt285.1 bt285.2.1 bt285.2.2 bt291.1 bt291.2.1 bt291.2.2).bind fun bt296 => ((agg_Add.f bt276.2.2.1 bt276.2.2.2.1 bt285.1 bt285.2.1 bt285.2.2 0 (([(⟨#[97]⟩ : ByteArray), (⟨#[98]⟩ : ByteArray)] : List ByteArray)) ([] : List Int) 0).bind fun bt305 => (gristmilllaw06_AggOwn.l0 k bt276.2.2.2.2 0 bt276.2.2.1 bt276.2.2.2.1 bt285.1 bt285.2.1 bt285.2.2 bt296.1 bt296.2.1 bt296.2.2 bt305.1 bt305.2.1 bt305.2.2)))))) else (some false)) = some r := H
 have A2 := aMk A20
 clear A20
 by_cases c3 : t275 = true
 ·subst c3
  have H1 : ((gristmilllaw06_right.f k 4 0 l0).bind fun bt276 => ((gristmilllaw06_of.f k bt276.2.2.1 bt276.2.2.2.1 bt276.2.2.2.2).bind fun bt285 => ((agg_Start.f bt276.2.2.1 bt276.2.2.2.1).bind fun bt291 => ((agg_Merge.f bt276.2.2.1 bt276.2.2.2.1 bt285.1 bt285.2.1 bt285.2.2 bt291.1 bt291.2.1 bt291.2.2).bind fun bt296 => ((agg_Add.f bt276.2.2.1 bt276.2.2.2.1 bt285.1 bt285.2.1 bt285.2.2 0 (([(⟨#[97]⟩ : ByteArray), (⟨#[98]⟩ : ByteArray)] : List ByteArray)) ([] : List Int) 0).bind fun bt305 => (gristmilllaw06_AggOwn.l0 k bt276.2.2.2.2 0 bt276.2.2.1 bt276.2.2.2.1 bt285.1 bt285.2.1 bt285.2.2 bt296.1 bt296.2.1 bt296.2.2 bt305.1 bt305.2.1 bt305.2.2)))))) = some r := by rw [if_pos rfl] at H; exact H
  clear H
  have H := H1
  clear H1
  replace H := Option.bind_eq_some_iff.mp H
  obtain ⟨⟨t276, t277, t278, t279, t280⟩, A40, H⟩ := H
  replace H : ((gristmilllaw06_of.f k t278 t279 t280).bind fun bt285 => ((agg_Start.f t278 t279).bind fun bt291 => ((agg_Merge.f t278 t279 bt285.1 bt285.2.1 bt285.2.2 bt291.1 bt291.2.1 bt291.2.2).bind fun bt296 => ((agg_Add.f t278 t279 bt285.1 bt285.2.1 bt285.2.2 0 (([(⟨#[97]⟩ : ByteArray), (⟨#[98]⟩ : ByteArray)] : List ByteArray)) ([] : List Int) 0).bind fun bt305 => (gristmilllaw06_AggOwn.l0 k t280 0 t278 t279 bt285.1 bt285.2.1 bt285.2.2 bt296.1 bt296.2.1 bt296.2.2 bt305.1 bt305.2.1 bt305.2.2))))) = some r := H
  have A4 := aMk A40
  clear A40
  replace H := Option.bind_eq_some_iff.mp H
  obtain ⟨⟨t285, t286, t287⟩, A50, H⟩ := H
  replace H : ((agg_Start.f t278 t279).bind fun bt291 => ((agg_Merge.f t278 t279 t285 t286 t287 bt291.1 bt291.2.1 bt291.2.2).bind fun bt296 => ((agg_Add.f t278 t279 t285 t286 t287 0 (([(⟨#[97]⟩ : ByteArray), (⟨#[98]⟩ : ByteArray)] : List ByteArray)) ([] : List Int) 0).bind fun bt305 => (gristmilllaw06_AggOwn.l0 k t280 0 t278 t279 t285 t286 t287 bt296.1 bt296.2.1 bt296.2.2 bt305.1 bt305.2.1 bt305.2.2)))) = some r := H
  have A5 := aMk A50
  clear A50
  replace H := Option.bind_eq_some_iff.mp H
  obtain ⟨⟨t291, t292, t293⟩, A60, H⟩ := H
  replace H : ((agg_Merge.f t278 t279 t285 t286 t287 t291 t292 t293).bind fun bt296 => ((agg_Add.f t278 t279 t285 t286 t287 0 (([(⟨#[97]⟩ : ByteArray), (⟨#[98]⟩ : ByteArray)] : List ByteArray)) ([] : List Int) 0).bind fun bt305 => (gristmilllaw06_AggOwn.l0 k t280 0 t278 t279 t285 t286 t287 bt296.1 bt296.2.1 bt296.2.2 bt305.1 bt305.2.1 bt305.2.2))) = some r := H
  have A6 := aMk A60
  clear A60
  replace H := Option.bind_eq_some_iff.mp H
  obtain ⟨⟨t296, t297, t298⟩, A70, H⟩ := H
  replace H : ((agg_Add.f t278 t279 t285 t286 t287 0 (([(⟨#[97]⟩ : ByteArray), (⟨#[98]⟩ : ByteArray)] : List ByteArray)) ([] : List Int) 0).bind fun bt305 => (gristmilllaw06_AggOwn.l0 k t280 0 t278 t279 t285 t286 t287 t296 t297 t298 bt305.1 bt305.2.1 bt305.2.2)) = some r := H
  have A7 := aMk A70
  clear A70
  obtain ⟨y302, hy302⟩ : ∃ y_ : List ByteArray, y_ = (([(⟨#[97]⟩ : ByteArray), (⟨#[98]⟩ : ByteArray)] : List ByteArray)) := ⟨_, rfl⟩
  replace H : ((agg_Add.f t278 t279 t285 t286 t287 0 y302 ([] : List Int) 0).bind fun bt305 => (gristmilllaw06_AggOwn.l0 k t280 0 t278 t279 t285 t286 t287 t296 t297 t298 bt305.1 bt305.2.1 bt305.2.2)) = some r := by first | (rw [hy302]; with_reducible exact H) | (have H2_ := (Option.bind_some _ _).symm.trans H; rw [hy302]; with_reducible exact H2_) | (have H2_ := (Option.bind_some _ _).symm.trans H; with_reducible exact H2_) | with_reducible exact H | (rw [hy302]; exact H) | exact H
  have Ny302 := aMk hy302
  clear hy302
  replace H := Option.bind_eq_some_iff.mp H
  obtain ⟨⟨t305, t306, t307⟩, A80, H⟩ := H
  replace H : (gristmilllaw06_AggOwn.l0 k t280 0 t278 t279 t285 t286 t287 t296 t297 t298 t305 t306 t307) = some r := H
  have A8 := aMk A80
  clear A80
  have H' := aMk H
  clear H
  go_enter Try.func4, Try.ntmps4
  try go_wp2_with (first | ((with_reducible refine gate_callee (f := 6) rfl ?_); refine goesL_ (some 12) rfl rfl Try.func6 (by kernel_rfl) rfl #[] rfl (by (try simp only [List.map_toArray, List.map_cons, List.map_nil]); first | done | rfl | (simp only [List.length_drop, List.length_take]; rfl)) ?_; (with_reducible refine (gristmilllaw06_awake.calls  true _ A2.out).mono ?_); rintro e w9 ⟨rfl, hb⟩; refine ⟨_, rfl, ?_⟩; replace HB := aMk (below_step (by repeat (first | (with_reducible first | exact HB.out | apply eA | apply eN | apply eD) | exact HB.out)) hb); (try clear hb); (try clear hb2); (try clear hk); (try clear hi)) | ((with_reducible refine gate_callee (f := 7) rfl ?_); refine goesL_ (some 18) rfl rfl Try.func7 (by kernel_rfl) rfl #[.agg #[.int .i64 4, .int .i64 0], .slice A0 l0.length c0] rfl (by (try simp only [List.map_toArray, List.map_cons, List.map_nil]); first | done | rfl | (simp only [List.length_drop, List.length_take]; rfl)) ?_; (with_reducible refine (gristmilllaw06_right.calls k 4 0 _ _ l0 t276 t277 t278 t279 t280 _ ?side1 ?side2 A4.out).mono ?_); (case side1 => repeat (first | exact (Kd.C_below HR0.out HB.out) | (with_reducible refine cA ?_ _) | (with_reducible refine cN ?_ _) | (with_reducible refine cD ?_))); (case side2 => exact HC0.out); rintro e w10 ⟨v281, rfl, ho0, hb⟩; refine ⟨_, rfl, ?_⟩; have HO282 := aMk (Kd.S_lower ho0 (below_size (by repeat (first | (with_reducible first | exact HB.out | apply eA | apply eN | apply eD) | exact HB.out)))); replace HB := aMk (below_step (by repeat (first | (with_reducible first | exact HB.out | apply eA | apply eN | apply eD) | exact HB.out)) hb); (try clear hb); (try clear hb2); (try clear hk); (try clear hi); (try clear ho0)) | ((with_reducible refine gate_dst (N := 4) rfl ?_); refine box_event ?hg (N := 4) ?hd (cs := #[.int .i64 0, .int .i64 0]) (t := 27) ?hr ?_; (case hd => rfl); (case hg => rfl); (case hr => first | (go_simp; done) | (go_simp; rfl)); intro gb283 hg w11 hbox hb; have BK283 := aMk (hbox); have GW283 := aMk ((by rw [hg]; exact (below_size (by repeat (first | (with_reducible first | exact HB.out | apply eA | apply eN | apply eD) | exact HB.out))) : w.heap.size ≤ gb283)); have GE283 := aMk ((by rw [hg]; exact (below_size (by repeat (first | (with_reducible first | exact HB.out | apply eA | apply eN | apply eD) | exact HB.out))) : w.heap.size ≤ gb283)); replace HO282 := aMk (Kd.S_below (by (with_reducible repeat (first | apply Kd.S_alloc | apply Kd.S_drewN | apply Kd.S_drew)); exact HO282.out) hb); replace HB := aMk (below_step (by repeat (first | (with_reducible first | exact HB.out | apply eA | apply eN | apply eD) | exact HB.out)) hb); clear hb hbox hg) | ((with_reducible refine gate_dst (N := 5) rfl ?_); refine box_event ?hg (N := 5) ?hd (cs := #[.int .i64 0, .int .i64 0]) (t := 23) ?hr ?_; (case hd => rfl); (case hg => rfl); (case hr => first | (go_simp; done) | (go_simp; rfl)); intro gb284 hg w12 hbox hb; have BK284 := aMk (hbox); have GW284 := aMk ((by rw [hg]; exact (below_size (by repeat (first | (with_reducible first | exact HB.out | apply eA | apply eN | apply eD | refine eS ?_ GE283.out) | exact HB.out))) : w.heap.size ≤ gb284)); have GE284 := aMk ((by rw [hg]; exact (below_size (by repeat (first | (with_reducible first | exact HB.out | apply eA | apply eN | apply eD | refine eS ?_ GE283.out) | exact HB.out))) : w.heap.size ≤ gb284)); have NB283_284 := aMk ((by rw [hg]; exact Nat.ne_of_lt (blk_lt (g := gb283) (o := .cells #[.int .i64 0, .int .i64 0] 27 (0, 0)) (by (with_reducible repeat (first | apply bA | apply bN | apply bD)); exact BK283.out)) : gb283 ≠ gb284)); have NB284_283 := aMk ((by rw [hg]; exact Nat.ne_of_gt (blk_lt (g := gb283) (o := .cells #[.int .i64 0, .int .i64 0] 27 (0, 0)) (by (with_reducible repeat (first | apply bA | apply bN | apply bD)); exact BK283.out)) : gb284 ≠ gb283)); replace HO282 := aMk (Kd.S_below (by (with_reducible repeat (first | apply Kd.S_alloc | apply Kd.S_drewN | apply Kd.S_drew)); exact HO282.out) hb); replace BK283 := aMk (blk_below (g := gb283) (o := .cells #[.int .i64 0, .int .i64 0] 27 (0, 0)) (by (with_reducible repeat (first | apply bA | apply bN | apply bD)); exact BK283.out) hb); replace HB := aMk (below_step (by repeat (first | (with_reducible first | exact HB.out | apply eA | apply eN | apply eD | refine eS ?_ GE283.out) | exact HB.out)) hb); clear hb hbox hg; have hnb13 := NB283_284.out; have hnc13 := NB284_283.out; have hcz14_0 : w12.cell? ⟨gb283, 0, none⟩ = some (.int .i64 0) := (blk_cell BK283.out 0).trans rfl; have hcz14_1 : w12.cell? ⟨gb283, 1, none⟩ = some (.int .i64 0) := (blk_cell BK283.out 1).trans rfl; have hfz14_0 := blk_frozen BK283.out 0; have hfz14_1 := blk_frozen BK283.out 1; have hcz15_0 : w12.cell? ⟨gb284, 0, none⟩ = some (.int .i64 0) := (blk_cell BK284.out 0).trans rfl; have hcz15_1 : w12.cell? ⟨gb284, 1, none⟩ = some (.int .i64 0) := (blk_cell BK284.out 1).trans rfl; have hfz15_0 := blk_frozen BK284.out 0; have hfz15_1 := blk_frozen BK284.out 1; obtain ⟨Ao16, co16, eo16⟩ := Kd.S_slice HO282.out; subst eo16) | ((with_reducible refine gate_callee (f := 8) rfl ?_); refine goesL_ (some 24) rfl rfl Try.func8 (by kernel_rfl) rfl #[.agg #[.int .i64 t278, .int .i64 t279], .slice Ao16 t280.length co16] rfl (by (try simp only [List.map_toArray, List.map_cons, List.map_nil]); first | done | rfl | (simp only [List.length_drop, List.length_take]; rfl)) ?_; (with_reducible refine (gristmilllaw06_of.calls k t278 t279 _ _ t280 t285 t286 t287 _ ?side1 ?side2 A5.out).mono ?_); (case side1 => refine (Kd.S_reads' (e := 39) (base := w.heap.size) (ok := fun k_ => True) (n := t280.length) (c := co16) ?_).2.2; exact (by (with_reducible repeat (first | apply Kd.S_alloc | apply Kd.S_drewN | apply Kd.S_drew)); exact (Kd.S_mono (Kd.S_mono (Kd.S_far (p := ⟨gb284, 1, none⟩) (Kd.S_far (p := ⟨gb284, 0, none⟩) (Kd.S_far (p := ⟨gb283, 1, none⟩) (Kd.S_far (p := ⟨gb283, 0, none⟩) (Kd.S_types (Kd.S_types HO282.out BK283.out (by decide)) BK284.out (by decide)) (fun _ hk => hk.1.2) (.int .i64 t276)) (fun _ hk => hk.1.2) (.int .i64 t277)) (fun _ hk => hk.2) (.int .i64 t278)) (fun _ hk => hk.2) (.int .i64 t279)) (fun _ h_ => h_.1)) (fun _ h_ => h_.1)))); (case side2 => exact (Kd.S_reads' HO282.out).2.1); rintro e w17 ⟨v288, rfl, ho0, hb⟩; refine ⟨_, rfl, ?_⟩; have HO289 := aMk (Kd.R_lower ho0 (below_size (by repeat (first | (with_reducible first | exact HB.out | apply eA | apply eN | apply eD | refine eS ?_ GE283.out | refine eS ?_ GE284.out) | exact HB.out)))); replace HO282 := aMk (Kd.S_elder' (by (with_reducible repeat (first | apply Kd.S_alloc | apply Kd.S_drewN | apply Kd.S_drew)); exact (Kd.S_mono (Kd.S_mono (Kd.S_far (p := ⟨gb284, 1, none⟩) (Kd.S_far (p := ⟨gb284, 0, none⟩) (Kd.S_far (p := ⟨gb283, 1, none⟩) (Kd.S_far (p := ⟨gb283, 0, none⟩) (Kd.S_types (Kd.S_types HO282.out BK283.out (by decide)) BK284.out (by decide)) (fun _ hk => hk.1.2) (.int .i64 t276)) (fun _ hk => hk.1.2) (.int .i64 t277)) (fun _ hk => hk.2) (.int .i64 t278)) (fun _ hk => hk.2) (.int .i64 t279)) (fun _ h_ => h_.1)) (fun _ h_ => h_.1))) (Kd.R_base ho0) hb); replace BK283 := aMk (blk_below (g := gb283) (o := .cells #[.int .i64 t276, .int .i64 t277] 27 (0, 0)) (by (with_reducible repeat (first | apply bA | apply bN | apply bD)); refine blk_far ?_ NB283_284.out _; (with_reducible repeat (first | apply bA | apply bN | apply bD)); refine blk_far ?_ NB283_284.out _; (with_reducible repeat (first | apply bA | apply bN | apply bD)); refine blk_put (cs := #[.int .i64 t276, .int .i64 0]) ?_ 1 _ rfl; (with_reducible repeat (first | apply bA | apply bN | apply bD)); refine blk_put (cs := #[.int .i64 0, .int .i64 0]) ?_ 0 _ rfl; (with_reducible repeat (first | apply bA | apply bN | apply bD)); exact BK283.out) hb); replace BK284 := aMk (blk_below (g := gb284) (o := .cells #[.int .i64 t278, .int .i64 t279] 23 (0, 0)) (by (with_reducible repeat (first | apply bA | apply bN | apply bD)); refine blk_put (cs := #[.int .i64 t278, .int .i64 0]) ?_ 1 _ rfl; (with_reducible repeat (first | apply bA | apply bN | apply bD)); refine blk_put (cs := #[.int .i64 0, .int .i64 0]) ?_ 0 _ rfl; (with_reducible repeat (first | apply bA | apply bN | apply bD)); refine blk_far ?_ NB284_283.out _; (with_reducible repeat (first | apply bA | apply bN | apply bD)); refine blk_far ?_ NB284_283.out _; (with_reducible repeat (first | apply bA | apply bN | apply bD)); exact BK284.out) hb); replace HB := aMk (below_step (by repeat (first | (with_reducible first | exact HB.out | apply eA | apply eN | apply eD | refine eS ?_ GE283.out | refine eS ?_ GE284.out) | exact HB.out)) hb); (try clear hb); (try clear hb2); (try clear hk); (try clear hi); (try clear ho0)) | ((with_reducible refine gate_dst (N := 7) rfl ?_); refine box_event ?hg (N := 7) ?hd (cs := #[.int .u64 0, .int .i64 0, .slice none 0 0]) (t := 33) ?hr ?_; (case hd => rfl); (case hg => rfl); (case hr => first | (go_simp; done) | (go_simp; rfl)); intro gb290 hg w18 hbox hb; have BK290 := aMk (hbox); have GW290 := aMk ((by rw [hg]; exact (below_size (by repeat (first | (with_reducible first | exact HB.out | apply eA | apply eN | apply eD | refine eS ?_ GE283.out | refine eS ?_ GE284.out) | exact HB.out))) : w.heap.size ≤ gb290)); have GE290 := aMk ((by rw [hg]; exact (below_size (by repeat (first | (with_reducible first | exact HB.out | apply eA | apply eN | apply eD | refine eS ?_ GE283.out | refine eS ?_ GE284.out) | exact HB.out))) : w.heap.size ≤ gb290)); have NB283_290 := aMk ((by rw [hg]; exact Nat.ne_of_lt (blk_lt (g := gb283) (o := .cells #[.int .i64 t276, .int .i64 t277] 27 (0, 0)) (by (with_reducible repeat (first | apply bA | apply bN | apply bD)); exact BK283.out)) : gb283 ≠ gb290)); have NB290_283 := aMk ((by rw [hg]; exact Nat.ne_of_gt (blk_lt (g := gb283) (o := .cells #[.int .i64 t276, .int .i64 t277] 27 (0, 0)) (by (with_reducible repeat (first | apply bA | apply bN | apply bD)); exact BK283.out)) : gb290 ≠ gb283)); have NB284_290 := aMk ((by rw [hg]; exact Nat.ne_of_lt (blk_lt (g := gb284) (o := .cells #[.int .i64 t278, .int .i64 t279] 23 (0, 0)) (by (with_reducible repeat (first | apply bA | apply bN | apply bD)); exact BK284.out)) : gb284 ≠ gb290)); have NB290_284 := aMk ((by rw [hg]; exact Nat.ne_of_gt (blk_lt (g := gb284) (o := .cells #[.int .i64 t278, .int .i64 t279] 23 (0, 0)) (by (with_reducible repeat (first | apply bA | apply bN | apply bD)); exact BK284.out)) : gb290 ≠ gb284)); replace HO282 := aMk (Kd.S_below (by (with_reducible repeat (first | apply Kd.S_alloc | apply Kd.S_drewN | apply Kd.S_drew)); exact HO282.out) hb); replace HO289 := aMk (Kd.R_below (by (with_reducible repeat (first | apply rA | apply rN | apply rD)); exact HO289.out) hb); replace BK283 := aMk (blk_below (g := gb283) (o := .cells #[.int .i64 t276, .int .i64 t277] 27 (0, 0)) (by (with_reducible repeat (first | apply bA | apply bN | apply bD)); exact BK283.out) hb); replace BK284 := aMk (blk_below (g := gb284) (o := .cells #[.int .i64 t278, .int .i64 t279] 23 (0, 0)) (by (with_reducible repeat (first | apply bA | apply bN | apply bD)); exact BK284.out) hb); replace HB := aMk (below_step (by repeat (first | (with_reducible first | exact HB.out | apply eA | apply eN | apply eD | refine eS ?_ GE283.out | refine eS ?_ GE284.out) | exact HB.out)) hb); clear hb hbox hg; have hnb19 := NB290_283.out; have hnc19 := NB283_290.out; have hnb20 := NB290_284.out; have hnc20 := NB284_290.out; have hcz21_0 : w18.cell? ⟨gb290, 0, none⟩ = some (.int .u64 0) := (blk_cell BK290.out 0).trans rfl; have hcz21_1 : w18.cell? ⟨gb290, 1, none⟩ = some (.int .i64 0) := (blk_cell BK290.out 1).trans rfl; have hcz21_2 : w18.cell? ⟨gb290, 2, none⟩ = some (.slice none 0 0) := (blk_cell BK290.out 2).trans rfl; have hfz21_0 := blk_frozen BK290.out 0; have hfz21_1 := blk_frozen BK290.out 1; have hfz21_2 := blk_frozen BK290.out 2; obtain ⟨Ao22, co22, eo22⟩ := Kd.R_slice HO289.out; subst eo22))
  have n0_ : Aside0 (Kd.S k39 39 (((w18.setCell ⟨gb290, 0, none⟩ (.int .u64 t285)).setCell ⟨gb290, 1, none⟩ (.int .i64 t286)).setCell ⟨gb290, 2, none⟩ (.slice Ao22 t287.length co22)) w.heap.size (fun k_ => some k_ ≠ (.slice Ao22 t287.length co22 : Value).ownBlock) (.slice Ao16 t280.length co16) t280) := ⟨by (with_reducible repeat (first | apply Kd.S_alloc | apply Kd.S_drewN | apply Kd.S_drew)); exact Kd.S_mono (Kd.S_far (p := ⟨gb290, 2, none⟩) (Kd.S_far (p := ⟨gb290, 1, none⟩) (Kd.S_far (p := ⟨gb290, 0, none⟩) (Kd.S_types HO282.out BK290.out (by decide)) (fun _ hk => hk.2) (.int .u64 t285)) (fun _ hk => hk.2) (.int .i64 t286)) (fun _ hk => hk.2) (.slice Ao22 t287.length co22)) (fun _ hk => hk.1.2)⟩
  have n1_ : Aside0 (Kd.R Kd.string 9 (((w18.setCell ⟨gb290, 0, none⟩ (.int .u64 t285)).setCell ⟨gb290, 1, none⟩ (.int .i64 t286)).setCell ⟨gb290, 2, none⟩ (.slice Ao22 t287.length co22)) w.heap.size (fun _ => True) (.slice Ao22 t287.length co22) t287) := ⟨by (with_reducible repeat (first | apply rA | apply rN | apply rD)); exact Kd.R_mono (Kd.R_far (p := ⟨gb290, 2, none⟩) (Kd.R_far (p := ⟨gb290, 1, none⟩) (Kd.R_far (p := ⟨gb290, 0, none⟩) (Kd.R_types HO289.out BK290.out (by decide)) (fun _ hk => hk.2) (.int .u64 t285)) (fun _ hk => hk.2) (.int .i64 t286)) (fun _ hk => hk.2) (.slice Ao22 t287.length co22)) (fun _ hk => trivial)⟩
  have n2_ : Aside0 ((((w18.setCell ⟨gb290, 0, none⟩ (.int .u64 t285)).setCell ⟨gb290, 1, none⟩ (.int .i64 t286)).setCell ⟨gb290, 2, none⟩ (.slice Ao22 t287.length co22)).heap[gb283]? = some (.cells #[.int .i64 t276, .int .i64 t277] 27 (0, 0))) := ⟨by (with_reducible repeat (first | apply bA | apply bN | apply bD)); refine blk_far ?_ NB283_290.out _; (with_reducible repeat (first | apply bA | apply bN | apply bD)); refine blk_far ?_ NB283_290.out _; (with_reducible repeat (first | apply bA | apply bN | apply bD)); refine blk_far ?_ NB283_290.out _; (with_reducible repeat (first | apply bA | apply bN | apply bD)); exact BK283.out⟩
  have n3_ : Aside0 ((((w18.setCell ⟨gb290, 0, none⟩ (.int .u64 t285)).setCell ⟨gb290, 1, none⟩ (.int .i64 t286)).setCell ⟨gb290, 2, none⟩ (.slice Ao22 t287.length co22)).heap[gb284]? = some (.cells #[.int .i64 t278, .int .i64 t279] 23 (0, 0))) := ⟨by (with_reducible repeat (first | apply bA | apply bN | apply bD)); refine blk_far ?_ NB284_290.out _; (with_reducible repeat (first | apply bA | apply bN | apply bD)); refine blk_far ?_ NB284_290.out _; (with_reducible repeat (first | apply bA | apply bN | apply bD)); refine blk_far ?_ NB284_290.out _; (with_reducible repeat (first | apply bA | apply bN | apply bD)); exact BK284.out⟩
  have n4_ : Aside0 ((((w18.setCell ⟨gb290, 0, none⟩ (.int .u64 t285)).setCell ⟨gb290, 1, none⟩ (.int .i64 t286)).setCell ⟨gb290, 2, none⟩ (.slice Ao22 t287.length co22)).heap[gb290]? = some (.cells #[.int .u64 t285, .int .i64 t286, .slice Ao22 t287.length co22] 33 (0, 0))) := ⟨by (with_reducible repeat (first | apply bA | apply bN | apply bD)); refine blk_put (cs := #[.int .u64 t285, .int .i64 t286, .slice none 0 0]) ?_ 2 _ rfl; (with_reducible repeat (first | apply bA | apply bN | apply bD)); refine blk_put (cs := #[.int .u64 t285, .int .i64 0, .slice none 0 0]) ?_ 1 _ rfl; (with_reducible repeat (first | apply bA | apply bN | apply bD)); refine blk_put (cs := #[.int .u64 0, .int .i64 0, .slice none 0 0]) ?_ 0 _ rfl; (with_reducible repeat (first | apply bA | apply bN | apply bD)); exact BK290.out⟩
  have n5_ : Aside0 (Below w.heap.size w (((w18.setCell ⟨gb290, 0, none⟩ (.int .u64 t285)).setCell ⟨gb290, 1, none⟩ (.int .i64 t286)).setCell ⟨gb290, 2, none⟩ (.slice Ao22 t287.length co22))) := ⟨by repeat (first | (with_reducible first | exact HB.out | apply eA | apply eN | apply eD | refine eS ?_ GE283.out | refine eS ?_ GE284.out | refine eS ?_ GE290.out) | exact HB.out)⟩
  (try clear HO282)
  (try clear HO289)
  (try clear BK283)
  (try clear BK284)
  (try clear BK290)
  (try clear HB)
  generalize (((w18.setCell ⟨gb290, 0, none⟩ (.int .u64 t285)).setCell ⟨gb290, 1, none⟩ (.int .i64 t286)).setCell ⟨gb290, 2, none⟩ (.slice Ao22 t287.length co22)) = w23 at n0_ n1_ n2_ n3_ n4_ n5_ ⊢
  have HO282 := n0_
  have HO289 := n1_
  have BK283 := n2_
  have BK284 := n3_
  have BK290 := n4_
  have HB := n5_
  clear n0_ n1_ n2_ n3_ n4_ n5_
  replace HO282 := aMk (Kd.S_drew HO282.out)
  replace HO289 := aMk (rD HO289.out)
  replace BK283 := aMk (bD BK283.out)
  replace BK284 := aMk (bD BK284.out)
  replace BK290 := aMk (bD BK290.out)
  replace HB := aMk (eD HB.out)
  refine start_ (n := 7) (S := fun w' => w'.cell? ⟨gb284, 0, none⟩ = some (.int .i64 t278) ∧ w'.cell? ⟨gb284, 1, none⟩ = some (.int .i64 t279) ∧ w'.cell? ⟨gb290, 0, none⟩ = some (.int .u64 t285) ∧ w'.cell? ⟨gb290, 1, none⟩ = some (.int .i64 t286) ∧ w'.cell? ⟨gb290, 2, none⟩ = some (.slice Ao22 t287.length co22)) (ds := []) #[false, false, false, false, false, false, false] (by kernel_rfl) rfl rfl ⟨(blk_cell BK284.out 0).trans rfl, (blk_cell BK284.out 1).trans rfl, (blk_cell BK290.out 0).trans rfl, (blk_cell BK290.out 1).trans rfl, (blk_cell BK290.out 2).trans rfl⟩ (fun hHeld => ?_)
  generalize w23.drew = w24 at HO282 HO289 BK283 BK284 BK290 HB hHeld ⊢
  refine take_ (i := 0) (N := some 25) (v := ?_) (a' := ?_) #[true, false, false, false, false, false, false] rfl rfl (by kernel_rfl) (fun _ _ _ h => h) (Or.inl ⟨by rfl, ?_⟩) hHeld ?_ ?_
  rotate_left
  ·rintro w' ⟨s0, s1, s2, s3, s4⟩
   go_simp
   with_reducible rfl
  rotate_left
  ·simp only [Act.put, sA, sB, sC, i64_w, i32_w]
   rfl
  refine take_ (i := 1) (N := some 26) (v := ?_) (a' := ?_) #[true, true, false, false, false, false, false] rfl rfl (by kernel_rfl) (fun _ _ _ h => h) (Or.inl ⟨by rfl, ?_⟩) hHeld ?_ ?_
  rotate_left
  ·rintro w' ⟨s0, s1, s2, s3, s4⟩
   go_simp
   with_reducible rfl
  rotate_left
  ·simp only [Act.put, sA, sB, sC, i64_w, i32_w]
   rfl
  refine take_ (i := 2) (N := some 27) (v := ?_) (a' := ?_) #[true, true, true, false, false, false, false] rfl rfl (by kernel_rfl) (fun _ _ _ h => h) (Or.inl ⟨by rfl, ?_⟩) hHeld ?_ ?_
  rotate_left
  ·rintro w' ⟨s0, s1, s2, s3, s4⟩
   go_simp
   with_reducible rfl
  rotate_left
  ·simp only [Act.put, sA, sB, sC, i64_w, i32_w]
   rfl
  refine join_ (σ := Value × Value × Nat) 1 #[true, true, true, true, true, true, false] (fun s_ => [(28, .agg #[.int .u64 t291, .int .i64 t292, s_.1]), (29, .agg #[.int .u64 t296, .int .i64 t297, s_.2.1]), (8, .pointer (some ⟨s_.2.2, 0, none⟩))]) (fun s_ w' => (w'.cell? ⟨gb284, 0, none⟩ = some (.int .i64 t278) ∧ w'.cell? ⟨gb284, 1, none⟩ = some (.int .i64 t279) ∧ w'.cell? ⟨gb290, 0, none⟩ = some (.int .u64 t285) ∧ w'.cell? ⟨gb290, 1, none⟩ = some (.int .i64 t286) ∧ w'.cell? ⟨gb290, 2, none⟩ = some (.slice Ao22 t287.length co22)) ∧ (Kd.S k39 39 w' w.heap.size (fun k_ => some k_ ≠ (.slice Ao22 t287.length co22 : Value).ownBlock ∧ some k_ ≠ (s_.1 : Value).ownBlock ∧ some k_ ≠ (s_.2.1 : Value).ownBlock) (.slice Ao16 t280.length co16) t280) ∧ (Kd.R Kd.string 9 w' w.heap.size (fun k_ => some k_ ≠ (s_.1 : Value).ownBlock ∧ some k_ ≠ (s_.2.1 : Value).ownBlock) (.slice Ao22 t287.length co22) t287) ∧ (Kd.R Kd.string 9 w' w.heap.size (fun k_ => some k_ ≠ (.slice Ao22 t287.length co22 : Value).ownBlock ∧ some k_ ≠ (s_.2.1 : Value).ownBlock) s_.1 t293) ∧ (Kd.R Kd.string 9 w' w.heap.size (fun k_ => some k_ ≠ (.slice Ao22 t287.length co22 : Value).ownBlock ∧ some k_ ≠ (s_.1 : Value).ownBlock) s_.2.1 t298) ∧ (w'.heap[gb283]? = some (.cells #[.int .i64 t276, .int .i64 t277] 27 (0, 0))) ∧ (w'.heap[gb284]? = some (.cells #[.int .i64 t278, .int .i64 t279] 23 (0, 0))) ∧ (w'.heap[gb290]? = some (.cells #[.int .u64 t285, .int .i64 t286, .slice Ao22 t287.length co22] 33 (0, 0))) ∧ (w'.heap[s_.2.2]? = some (.cells #[.int .u64 0, .int .i64 0, .slice none 0 0] 33 (0, 0))) ∧ (w.heap.size ≤ s_.2.2) ∧ (w.heap.size ≤ s_.2.2) ∧ (gb283 ≠ s_.2.2) ∧ (s_.2.2 ≠ gb283) ∧ (gb284 ≠ s_.2.2) ∧ (s_.2.2 ≠ gb284) ∧ (gb290 ≠ s_.2.2) ∧ (s_.2.2 ≠ gb290) ∧ (Below w.heap.size w w')) ?_ ?_
  rotate_left
  ·intro hCont
   refine two_ (i := 3) (j := 5) (Ni := some 28) (Nj := some 8) #[true, true, true, true, false, false, false] #[true, true, true, false, false, true, false] rfl rfl rfl rfl (by kernel_rfl) (by decide) (by decide) (fun K hK => ?_) (fun K hK => ?_)
   ·skip
    refine goes_ Try.func11 (by kernel_rfl) rfl #[.agg #[.int .i64 t278, .int .i64 t279]] (by rfl) rfl rfl (by (try simp only [List.map_toArray, List.map_cons, List.map_nil]); first | done | rfl | (simp only [List.length_drop, List.length_take]; rfl)) ?_
    with_reducible refine (agg_Start.calls t278 t279 t291 t292 t293 _ A6.out).mono ?_
    rintro e w25 ⟨v294, rfl, ho0, hb⟩
    refine ⟨_, rfl, ?_⟩
    have HO295 := aMk (Kd.R_lower (Kd.R_new' ho0 (Kd.R_lt (by (with_reducible repeat (first | apply rA | apply rN | apply rD)); exact HO289.out))) (below_size (by repeat (first | (with_reducible first | exact HB.out | apply eA | apply eN | apply eD | refine eS ?_ GE283.out | refine eS ?_ GE284.out | refine eS ?_ GE290.out) | exact HB.out))))
    replace HO282 := aMk (Kd.S_elder' (by (with_reducible repeat (first | apply Kd.S_alloc | apply Kd.S_drewN | apply Kd.S_drew)); exact HO282.out) (Kd.R_base ho0) hb)
    replace HO289 := aMk (Kd.R_elder' (by (with_reducible repeat (first | apply rA | apply rN | apply rD)); exact HO289.out) (Kd.R_base ho0) hb)
    replace BK283 := aMk (blk_below (g := gb283) (o := .cells #[.int .i64 t276, .int .i64 t277] 27 (0, 0)) (by (with_reducible repeat (first | apply bA | apply bN | apply bD)); exact BK283.out) hb)
    replace BK284 := aMk (blk_below (g := gb284) (o := .cells #[.int .i64 t278, .int .i64 t279] 23 (0, 0)) (by (with_reducible repeat (first | apply bA | apply bN | apply bD)); exact BK284.out) hb)
    replace BK290 := aMk (blk_below (g := gb290) (o := .cells #[.int .u64 t285, .int .i64 t286, .slice Ao22 t287.length co22] 33 (0, 0)) (by (with_reducible repeat (first | apply bA | apply bN | apply bD)); exact BK290.out) hb)
    replace HB := aMk (below_step (by repeat (first | (with_reducible first | exact HB.out | apply eA | apply eN | apply eD | refine eS ?_ GE283.out | refine eS ?_ GE284.out | refine eS ?_ GE290.out) | exact HB.out)) hb)
    (try clear hb)
    (try clear ho0)
    obtain ⟨Ao26, co26, eo26⟩ := Kd.R_slice HO295.out
    (first | subst eo26 | (injection eo26 with f1_ f2_ f3_; have f4_ := f1_.symm; have f5_ := f3_.symm; clear f1_ f2_ f3_; subst f4_; subst f5_))
    refine hK.out _ _ ⟨(blk_cell BK284.out 0).trans rfl, (blk_cell BK284.out 1).trans rfl, (blk_cell BK290.out 0).trans rfl, (blk_cell BK290.out 1).trans rfl, (blk_cell BK290.out 2).trans rfl⟩ (fun hHeld => ?_)
    clear hK K
    refine norm_ (a' := ?_) ?_ ?_
    rotate_left
    ·show Act.put _ (some 28) _ = _
     simp only [Act.put, sA, sB, sC, i64_w, i32_w]
     rfl
    refine two_ (i := 4) (j := 5) (Ni := some 29) (Nj := some 8) #[true, true, true, true, true, false, false] #[true, true, true, true, false, true, false] rfl rfl rfl rfl (by kernel_rfl) (by decide) (by decide) (fun K hK => ?_) (fun K hK => ?_)
    ·skip
     refine goes_ Try.func10 (by kernel_rfl) rfl #[.agg #[.int .i64 t278, .int .i64 t279], .agg #[.int .u64 t285, .int .i64 t286, .slice Ao22 t287.length co22], .agg #[.int .u64 t291, .int .i64 t292, .slice Ao26 t293.length co26]] (by rfl) rfl rfl (by (try simp only [List.map_toArray, List.map_cons, List.map_nil]); first | done | rfl | (simp only [List.length_drop, List.length_take]; rfl)) ?_
     with_reducible refine (agg_Merge.calls t278 t279 t285 t286 _ _ t287 t291 t292 _ _ t293 t296 t297 t298 _ ?side1 ?side2 ?side3 ?side4 A7.out).mono ?_
     (case side1 => repeat (first | exact (Kd.R_reads' HO289.out).2.2 | (with_reducible refine cA ?_ _) | (with_reducible refine cN ?_ _) | (with_reducible refine cD ?_)))
     (case side2 => exact (Kd.R_reads' HO289.out).2.1)
     (case side3 => repeat (first | exact (Kd.R_reads' HO295.out).2.2 | (with_reducible refine cA ?_ _) | (with_reducible refine cN ?_ _) | (with_reducible refine cD ?_)))
     (case side4 => exact (Kd.R_reads' HO295.out).2.1)
     rintro e w27 ⟨v299, rfl, ho0, hb⟩
     refine ⟨_, rfl, ?_⟩
     have HO300 := aMk (Kd.R_lower (Kd.R_new' (Kd.R_new' ho0 (Kd.R_lt (by (with_reducible repeat (first | apply rA | apply rN | apply rD)); exact HO289.out))) (Kd.R_lt (by (with_reducible repeat (first | apply rA | apply rN | apply rD)); exact HO295.out))) (below_size (by repeat (first | (with_reducible first | exact HB.out | apply eA | apply eN | apply eD | refine eS ?_ GE283.out | refine eS ?_ GE284.out | refine eS ?_ GE290.out) | exact HB.out))))
     replace HO282 := aMk (Kd.S_elder' (by (with_reducible repeat (first | apply Kd.S_alloc | apply Kd.S_drewN | apply Kd.S_drew)); exact HO282.out) (Kd.R_base ho0) hb)
     replace HO289 := aMk (Kd.R_elder' (by (with_reducible repeat (first | apply rA | apply rN | apply rD)); exact HO289.out) (Kd.R_base ho0) hb)
     replace HO295 := aMk (Kd.R_elder' (by (with_reducible repeat (first | apply rA | apply rN | apply rD)); exact HO295.out) (Kd.R_base ho0) hb)
     replace BK283 := aMk (blk_below (g := gb283) (o := .cells #[.int .i64 t276, .int .i64 t277] 27 (0, 0)) (by (with_reducible repeat (first | apply bA | apply bN | apply bD)); exact BK283.out) hb)
     replace BK284 := aMk (blk_below (g := gb284) (o := .cells #[.int .i64 t278, .int .i64 t279] 23 (0, 0)) (by (with_reducible repeat (first | apply bA | apply bN | apply bD)); exact BK284.out) hb)
     replace BK290 := aMk (blk_below (g := gb290) (o := .cells #[.int .u64 t285, .int .i64 t286, .slice Ao22 t287.length co22] 33 (0, 0)) (by (with_reducible repeat (first | apply bA | apply bN | apply bD)); exact BK290.out) hb)
     replace HB := aMk (below_step (by repeat (first | (with_reducible first | exact HB.out | apply eA | apply eN | apply eD | refine eS ?_ GE283.out | refine eS ?_ GE284.out | refine eS ?_ GE290.out) | exact HB.out)) hb)
     (try clear hb)
     (try clear ho0)
     refine hK.out _ _ ⟨(blk_cell BK284.out 0).trans rfl, (blk_cell BK284.out 1).trans rfl, (blk_cell BK290.out 0).trans rfl, (blk_cell BK290.out 1).trans rfl, (blk_cell BK290.out 2).trans rfl⟩ (fun hHeld => ?_)
     clear hK K
     refine norm_ (a' := ?_) ?_ ?_
     rotate_left
     ·show Act.put _ (some 29) _ = _
      simp only [Act.put, sA, sB, sC, i64_w, i32_w]
      rfl
     refine one_ (i := 5) (N := some 8) #[true, true, true, true, true, true, false] rfl rfl (by kernel_rfl) (by decide) (fun K hK => ?_)
     refine box_step ?hg (N := 8) ?hd (cs := #[.int .u64 0, .int .i64 0, .slice none 0 0]) (t := 33) ?hr ?_; (case hd => rfl); (case hg => rfl); (case hr => first | (go_simp; done) | (go_simp; rfl))
     intro gb301 hg w28 hbox hb
     have BK301 := aMk (hbox)
     have GW301 := aMk ((by rw [hg]; exact (below_size (by repeat (first | (with_reducible first | exact HB.out | apply eA | apply eN | apply eD | refine eS ?_ GE283.out | refine eS ?_ GE284.out | refine eS ?_ GE290.out) | exact HB.out))) : w.heap.size ≤ gb301))
     have GE301 := GW301
     have NB283_301 := aMk ((by rw [hg]; exact Nat.ne_of_lt (blk_lt (g := gb283) (o := .cells #[.int .i64 t276, .int .i64 t277] 27 (0, 0)) (by (with_reducible repeat (first | apply bA | apply bN | apply bD)); exact BK283.out)) : gb283 ≠ gb301))
     have NB301_283 := aMk (Ne.symm NB283_301.out)
     have NB284_301 := aMk ((by rw [hg]; exact Nat.ne_of_lt (blk_lt (g := gb284) (o := .cells #[.int .i64 t278, .int .i64 t279] 23 (0, 0)) (by (with_reducible repeat (first | apply bA | apply bN | apply bD)); exact BK284.out)) : gb284 ≠ gb301))
     have NB301_284 := aMk (Ne.symm NB284_301.out)
     have NB290_301 := aMk ((by rw [hg]; exact Nat.ne_of_lt (blk_lt (g := gb290) (o := .cells #[.int .u64 t285, .int .i64 t286, .slice Ao22 t287.length co22] 33 (0, 0)) (by (with_reducible repeat (first | apply bA | apply bN | apply bD)); exact BK290.out)) : gb290 ≠ gb301))
     have NB301_290 := aMk (Ne.symm NB290_301.out)
     replace HO282 := aMk (Kd.S_below (by (with_reducible repeat (first | apply Kd.S_alloc | apply Kd.S_drewN | apply Kd.S_drew)); exact HO282.out) hb)
     replace HO289 := aMk (Kd.R_below (by (with_reducible repeat (first | apply rA | apply rN | apply rD)); exact HO289.out) hb)
     replace HO295 := aMk (Kd.R_below (by (with_reducible repeat (first | apply rA | apply rN | apply rD)); exact HO295.out) hb)
     replace HO300 := aMk (Kd.R_below (by (with_reducible repeat (first | apply rA | apply rN | apply rD)); exact HO300.out) hb)
     replace BK283 := aMk (blk_below (g := gb283) (o := .cells #[.int .i64 t276, .int .i64 t277] 27 (0, 0)) (by (with_reducible repeat (first | apply bA | apply bN | apply bD)); exact BK283.out) hb)
     replace BK284 := aMk (blk_below (g := gb284) (o := .cells #[.int .i64 t278, .int .i64 t279] 23 (0, 0)) (by (with_reducible repeat (first | apply bA | apply bN | apply bD)); exact BK284.out) hb)
     replace BK290 := aMk (blk_below (g := gb290) (o := .cells #[.int .u64 t285, .int .i64 t286, .slice Ao22 t287.length co22] 33 (0, 0)) (by (with_reducible repeat (first | apply bA | apply bN | apply bD)); exact BK290.out) hb)
     replace HB := aMk (below_step (by repeat (first | (with_reducible first | exact HB.out | apply eA | apply eN | apply eD | refine eS ?_ GE283.out | refine eS ?_ GE284.out | refine eS ?_ GE290.out) | exact HB.out)) hb)
     clear hb hbox hg
     refine hK.out _ _ ⟨(blk_cell BK284.out 0).trans rfl, (blk_cell BK284.out 1).trans rfl, (blk_cell BK290.out 0).trans rfl, (blk_cell BK290.out 1).trans rfl, (blk_cell BK290.out 2).trans rfl⟩ (fun hHeld => ?_)
     clear hK K
     refine norm_ (a' := ?_) ?_ ?_
     rotate_left
     ·show Act.put _ (some 8) _ = _
      simp only [Act.put, sA, sB, sC, i64_w, i32_w]
      rfl
     exact norm_ (by simp only [putAll, Act.put, sA, sB, sC]) (hCont (.slice Ao26 t293.length co26, v299, gb301) _ ⟨hHeld, (by (with_reducible repeat (first | apply Kd.S_alloc | apply Kd.S_drewN | apply Kd.S_drew)); exact Kd.S_mono HO282.out (fun _ hk => ⟨hk.1.1, ⟨hk.1.2, hk.2⟩⟩)), (by (with_reducible repeat (first | apply rA | apply rN | apply rD)); exact Kd.R_mono HO289.out (fun _ hk => ⟨hk.1.2, hk.2⟩)), (by (with_reducible repeat (first | apply rA | apply rN | apply rD)); exact Kd.R_mono HO295.out (fun _ hk => ⟨hk.1.2, hk.2⟩)), (by (with_reducible repeat (first | apply rA | apply rN | apply rD)); exact Kd.R_mono HO300.out (fun _ hk => ⟨hk.1.2, hk.2⟩)), (by (with_reducible repeat (first | apply bA | apply bN | apply bD)); exact BK283.out), (by (with_reducible repeat (first | apply bA | apply bN | apply bD)); exact BK284.out), (by (with_reducible repeat (first | apply bA | apply bN | apply bD)); exact BK290.out), (by (with_reducible repeat (first | apply bA | apply bN | apply bD)); exact BK301.out), GW301.out, GE301.out, NB283_301.out, NB301_283.out, NB284_301.out, NB301_284.out, NB290_301.out, NB301_290.out, (by repeat (first | (with_reducible first | exact HB.out | apply eA | apply eN | apply eD | refine eS ?_ GE283.out | refine eS ?_ GE284.out | refine eS ?_ GE290.out | refine eS ?_ GE301.out) | exact HB.out))⟩)
    ·skip
     refine box_step ?hg (N := 8) ?hd (cs := #[.int .u64 0, .int .i64 0, .slice none 0 0]) (t := 33) ?hr ?_; (case hd => rfl); (case hg => rfl); (case hr => first | (go_simp; done) | (go_simp; rfl))
     intro gb301 hg w26 hbox hb
     have BK301 := aMk (hbox)
     have GW301 := aMk ((by rw [hg]; exact (below_size (by repeat (first | (with_reducible first | exact HB.out | apply eA | apply eN | apply eD | refine eS ?_ GE283.out | refine eS ?_ GE284.out | refine eS ?_ GE290.out) | exact HB.out))) : w.heap.size ≤ gb301))
     have GE301 := GW301
     have NB283_301 := aMk ((by rw [hg]; exact Nat.ne_of_lt (blk_lt (g := gb283) (o := .cells #[.int .i64 t276, .int .i64 t277] 27 (0, 0)) (by (with_reducible repeat (first | apply bA | apply bN | apply bD)); exact BK283.out)) : gb283 ≠ gb301))
     have NB301_283 := aMk (Ne.symm NB283_301.out)
     have NB284_301 := aMk ((by rw [hg]; exact Nat.ne_of_lt (blk_lt (g := gb284) (o := .cells #[.int .i64 t278, .int .i64 t279] 23 (0, 0)) (by (with_reducible repeat (first | apply bA | apply bN | apply bD)); exact BK284.out)) : gb284 ≠ gb301))
     have NB301_284 := aMk (Ne.symm NB284_301.out)
     have NB290_301 := aMk ((by rw [hg]; exact Nat.ne_of_lt (blk_lt (g := gb290) (o := .cells #[.int .u64 t285, .int .i64 t286, .slice Ao22 t287.length co22] 33 (0, 0)) (by (with_reducible repeat (first | apply bA | apply bN | apply bD)); exact BK290.out)) : gb290 ≠ gb301))
     have NB301_290 := aMk (Ne.symm NB290_301.out)
     replace HO282 := aMk (Kd.S_below (by (with_reducible repeat (first | apply Kd.S_alloc | apply Kd.S_drewN | apply Kd.S_drew)); exact HO282.out) hb)
     replace HO289 := aMk (Kd.R_below (by (with_reducible repeat (first | apply rA | apply rN | apply rD)); exact HO289.out) hb)
     replace HO295 := aMk (Kd.R_below (by (with_reducible repeat (first | apply rA | apply rN | apply rD)); exact HO295.out) hb)
     replace BK283 := aMk (blk_below (g := gb283) (o := .cells #[.int .i64 t276, .int .i64 t277] 27 (0, 0)) (by (with_reducible repeat (first | apply bA | apply bN | apply bD)); exact BK283.out) hb)
     replace BK284 := aMk (blk_below (g := gb284) (o := .cells #[.int .i64 t278, .int .i64 t279] 23 (0, 0)) (by (with_reducible repeat (first | apply bA | apply bN | apply bD)); exact BK284.out) hb)
     replace BK290 := aMk (blk_below (g := gb290) (o := .cells #[.int .u64 t285, .int .i64 t286, .slice Ao22 t287.length co22] 33 (0, 0)) (by (with_reducible repeat (first | apply bA | apply bN | apply bD)); exact BK290.out) hb)
     replace HB := aMk (below_step (by repeat (first | (with_reducible first | exact HB.out | apply eA | apply eN | apply eD | refine eS ?_ GE283.out | refine eS ?_ GE284.out | refine eS ?_ GE290.out) | exact HB.out)) hb)
     clear hb hbox hg
     obtain ⟨Ao27, co27, eo27⟩ := Kd.R_slice HO295.out
     (first | subst eo27 | (injection eo27 with f1_ f2_ f3_; have f4_ := f1_.symm; have f5_ := f3_.symm; clear f1_ f2_ f3_; subst f4_; subst f5_))
     refine hK.out _ _ ⟨(blk_cell BK284.out 0).trans rfl, (blk_cell BK284.out 1).trans rfl, (blk_cell BK290.out 0).trans rfl, (blk_cell BK290.out 1).trans rfl, (blk_cell BK290.out 2).trans rfl⟩ (fun hHeld => ?_)
     clear hK K
     refine norm_ (a' := ?_) ?_ ?_
     rotate_left
     ·show Act.put _ (some 8) _ = _
      simp only [Act.put, sA, sB, sC, i64_w, i32_w]
      rfl
     refine one_ (i := 4) (N := some 29) #[true, true, true, true, true, true, false] rfl rfl (by kernel_rfl) (by decide) (fun K hK => ?_)
     refine goes_ Try.func10 (by kernel_rfl) rfl #[.agg #[.int .i64 t278, .int .i64 t279], .agg #[.int .u64 t285, .int .i64 t286, .slice Ao22 t287.length co22], .agg #[.int .u64 t291, .int .i64 t292, .slice Ao27 t293.length co27]] (by rfl) rfl rfl (by (try simp only [List.map_toArray, List.map_cons, List.map_nil]); first | done | rfl | (simp only [List.length_drop, List.length_take]; rfl)) ?_
     with_reducible refine (agg_Merge.calls t278 t279 t285 t286 _ _ t287 t291 t292 _ _ t293 t296 t297 t298 _ ?side1 ?side2 ?side3 ?side4 A7.out).mono ?_
     (case side1 => repeat (first | exact (Kd.R_reads' HO289.out).2.2 | (with_reducible refine cA ?_ _) | (with_reducible refine cN ?_ _) | (with_reducible refine cD ?_)))
     (case side2 => exact (Kd.R_reads' HO289.out).2.1)
     (case side3 => repeat (first | exact (Kd.R_reads' HO295.out).2.2 | (with_reducible refine cA ?_ _) | (with_reducible refine cN ?_ _) | (with_reducible refine cD ?_)))
     (case side4 => exact (Kd.R_reads' HO295.out).2.1)
     rintro e w28 ⟨v299, rfl, ho0, hb⟩
     refine ⟨_, rfl, ?_⟩
     have HO300 := aMk (Kd.R_lower (Kd.R_new' (Kd.R_new' ho0 (Kd.R_lt (by (with_reducible repeat (first | apply rA | apply rN | apply rD)); exact HO289.out))) (Kd.R_lt (by (with_reducible repeat (first | apply rA | apply rN | apply rD)); exact HO295.out))) (below_size (by repeat (first | (with_reducible first | exact HB.out | apply eA | apply eN | apply eD | refine eS ?_ GE283.out | refine eS ?_ GE284.out | refine eS ?_ GE290.out | refine eS ?_ GE301.out) | exact HB.out))))
     replace HO282 := aMk (Kd.S_elder' (by (with_reducible repeat (first | apply Kd.S_alloc | apply Kd.S_drewN | apply Kd.S_drew)); exact HO282.out) (Kd.R_base ho0) hb)
     replace HO289 := aMk (Kd.R_elder' (by (with_reducible repeat (first | apply rA | apply rN | apply rD)); exact HO289.out) (Kd.R_base ho0) hb)
     replace HO295 := aMk (Kd.R_elder' (by (with_reducible repeat (first | apply rA | apply rN | apply rD)); exact HO295.out) (Kd.R_base ho0) hb)
     replace BK283 := aMk (blk_below (g := gb283) (o := .cells #[.int .i64 t276, .int .i64 t277] 27 (0, 0)) (by (with_reducible repeat (first | apply bA | apply bN | apply bD)); exact BK283.out) hb)
     replace BK284 := aMk (blk_below (g := gb284) (o := .cells #[.int .i64 t278, .int .i64 t279] 23 (0, 0)) (by (with_reducible repeat (first | apply bA | apply bN | apply bD)); exact BK284.out) hb)
     replace BK290 := aMk (blk_below (g := gb290) (o := .cells #[.int .u64 t285, .int .i64 t286, .slice Ao22 t287.length co22] 33 (0, 0)) (by (with_reducible repeat (first | apply bA | apply bN | apply bD)); exact BK290.out) hb)
     replace BK301 := aMk (blk_below (g := gb301) (o := .cells #[.int .u64 0, .int .i64 0, .slice none 0 0] 33 (0, 0)) (by (with_reducible repeat (first | apply bA | apply bN | apply bD)); exact BK301.out) hb)
     replace HB := aMk (below_step (by repeat (first | (with_reducible first | exact HB.out | apply eA | apply eN | apply eD | refine eS ?_ GE283.out | refine eS ?_ GE284.out | refine eS ?_ GE290.out | refine eS ?_ GE301.out) | exact HB.out)) hb)
     (try clear hb)
     (try clear ho0)
     refine hK.out _ _ ⟨(blk_cell BK284.out 0).trans rfl, (blk_cell BK284.out 1).trans rfl, (blk_cell BK290.out 0).trans rfl, (blk_cell BK290.out 1).trans rfl, (blk_cell BK290.out 2).trans rfl⟩ (fun hHeld => ?_)
     clear hK K
     refine norm_ (a' := ?_) ?_ ?_
     rotate_left
     ·show Act.put _ (some 29) _ = _
      simp only [Act.put, sA, sB, sC, i64_w, i32_w]
      rfl
     exact norm_ (by simp only [putAll, Act.put, sA, sB, sC]) (hCont (.slice Ao27 t293.length co27, v299, gb301) _ ⟨hHeld, (by (with_reducible repeat (first | apply Kd.S_alloc | apply Kd.S_drewN | apply Kd.S_drew)); exact Kd.S_mono HO282.out (fun _ hk => ⟨hk.1.1, ⟨hk.1.2, hk.2⟩⟩)), (by (with_reducible repeat (first | apply rA | apply rN | apply rD)); exact Kd.R_mono HO289.out (fun _ hk => ⟨hk.1.2, hk.2⟩)), (by (with_reducible repeat (first | apply rA | apply rN | apply rD)); exact Kd.R_mono HO295.out (fun _ hk => ⟨hk.1.2, hk.2⟩)), (by (with_reducible repeat (first | apply rA | apply rN | apply rD)); exact Kd.R_mono HO300.out (fun _ hk => ⟨hk.1.2, hk.2⟩)), (by (with_reducible repeat (first | apply bA | apply bN | apply bD)); exact BK283.out), (by (with_reducible repeat (first | apply bA | apply bN | apply bD)); exact BK284.out), (by (with_reducible repeat (first | apply bA | apply bN | apply bD)); exact BK290.out), (by (with_reducible repeat (first | apply bA | apply bN | apply bD)); exact BK301.out), GW301.out, GE301.out, NB283_301.out, NB301_283.out, NB284_301.out, NB301_284.out, NB290_301.out, NB301_290.out, (by repeat (first | (with_reducible first | exact HB.out | apply eA | apply eN | apply eD | refine eS ?_ GE283.out | refine eS ?_ GE284.out | refine eS ?_ GE290.out | refine eS ?_ GE301.out) | exact HB.out))⟩)
   ·skip
    refine box_step ?hg (N := 8) ?hd (cs := #[.int .u64 0, .int .i64 0, .slice none 0 0]) (t := 33) ?hr ?_; (case hd => rfl); (case hg => rfl); (case hr => first | (go_simp; done) | (go_simp; rfl))
    intro gb301 hg w25 hbox hb
    have BK301 := aMk (hbox)
    have GW301 := aMk ((by rw [hg]; exact (below_size (by repeat (first | (with_reducible first | exact HB.out | apply eA | apply eN | apply eD | refine eS ?_ GE283.out | refine eS ?_ GE284.out | refine eS ?_ GE290.out) | exact HB.out))) : w.heap.size ≤ gb301))
    have GE301 := GW301
    have NB283_301 := aMk ((by rw [hg]; exact Nat.ne_of_lt (blk_lt (g := gb283) (o := .cells #[.int .i64 t276, .int .i64 t277] 27 (0, 0)) (by (with_reducible repeat (first | apply bA | apply bN | apply bD)); exact BK283.out)) : gb283 ≠ gb301))
    have NB301_283 := aMk (Ne.symm NB283_301.out)
    have NB284_301 := aMk ((by rw [hg]; exact Nat.ne_of_lt (blk_lt (g := gb284) (o := .cells #[.int .i64 t278, .int .i64 t279] 23 (0, 0)) (by (with_reducible repeat (first | apply bA | apply bN | apply bD)); exact BK284.out)) : gb284 ≠ gb301))
    have NB301_284 := aMk (Ne.symm NB284_301.out)
    have NB290_301 := aMk ((by rw [hg]; exact Nat.ne_of_lt (blk_lt (g := gb290) (o := .cells #[.int .u64 t285, .int .i64 t286, .slice Ao22 t287.length co22] 33 (0, 0)) (by (with_reducible repeat (first | apply bA | apply bN | apply bD)); exact BK290.out)) : gb290 ≠ gb301))
    have NB301_290 := aMk (Ne.symm NB290_301.out)
    replace HO282 := aMk (Kd.S_below (by (with_reducible repeat (first | apply Kd.S_alloc | apply Kd.S_drewN | apply Kd.S_drew)); exact HO282.out) hb)
    replace HO289 := aMk (Kd.R_below (by (with_reducible repeat (first | apply rA | apply rN | apply rD)); exact HO289.out) hb)
    replace BK283 := aMk (blk_below (g := gb283) (o := .cells #[.int .i64 t276, .int .i64 t277] 27 (0, 0)) (by (with_reducible repeat (first | apply bA | apply bN | apply bD)); exact BK283.out) hb)
    replace BK284 := aMk (blk_below (g := gb284) (o := .cells #[.int .i64 t278, .int .i64 t279] 23 (0, 0)) (by (with_reducible repeat (first | apply bA | apply bN | apply bD)); exact BK284.out) hb)
    replace BK290 := aMk (blk_below (g := gb290) (o := .cells #[.int .u64 t285, .int .i64 t286, .slice Ao22 t287.length co22] 33 (0, 0)) (by (with_reducible repeat (first | apply bA | apply bN | apply bD)); exact BK290.out) hb)
    replace HB := aMk (below_step (by repeat (first | (with_reducible first | exact HB.out | apply eA | apply eN | apply eD | refine eS ?_ GE283.out | refine eS ?_ GE284.out | refine eS ?_ GE290.out) | exact HB.out)) hb)
    clear hb hbox hg
    refine hK.out _ _ ⟨(blk_cell BK284.out 0).trans rfl, (blk_cell BK284.out 1).trans rfl, (blk_cell BK290.out 0).trans rfl, (blk_cell BK290.out 1).trans rfl, (blk_cell BK290.out 2).trans rfl⟩ (fun hHeld => ?_)
    clear hK K
    refine norm_ (a' := ?_) ?_ ?_
    rotate_left
    ·show Act.put _ (some 8) _ = _
     simp only [Act.put, sA, sB, sC, i64_w, i32_w]
     rfl
    refine one_ (i := 3) (N := some 28) #[true, true, true, true, false, true, false] rfl rfl (by kernel_rfl) (by decide) (fun K hK => ?_)
    refine goes_ Try.func11 (by kernel_rfl) rfl #[.agg #[.int .i64 t278, .int .i64 t279]] (by rfl) rfl rfl (by (try simp only [List.map_toArray, List.map_cons, List.map_nil]); first | done | rfl | (simp only [List.length_drop, List.length_take]; rfl)) ?_
    with_reducible refine (agg_Start.calls t278 t279 t291 t292 t293 _ A6.out).mono ?_
    rintro e w26 ⟨v294, rfl, ho0, hb⟩
    refine ⟨_, rfl, ?_⟩
    have HO295 := aMk (Kd.R_lower (Kd.R_new' ho0 (Kd.R_lt (by (with_reducible repeat (first | apply rA | apply rN | apply rD)); exact HO289.out))) (below_size (by repeat (first | (with_reducible first | exact HB.out | apply eA | apply eN | apply eD | refine eS ?_ GE283.out | refine eS ?_ GE284.out | refine eS ?_ GE290.out | refine eS ?_ GE301.out) | exact HB.out))))
    replace HO282 := aMk (Kd.S_elder' (by (with_reducible repeat (first | apply Kd.S_alloc | apply Kd.S_drewN | apply Kd.S_drew)); exact HO282.out) (Kd.R_base ho0) hb)
    replace HO289 := aMk (Kd.R_elder' (by (with_reducible repeat (first | apply rA | apply rN | apply rD)); exact HO289.out) (Kd.R_base ho0) hb)
    replace BK283 := aMk (blk_below (g := gb283) (o := .cells #[.int .i64 t276, .int .i64 t277] 27 (0, 0)) (by (with_reducible repeat (first | apply bA | apply bN | apply bD)); exact BK283.out) hb)
    replace BK284 := aMk (blk_below (g := gb284) (o := .cells #[.int .i64 t278, .int .i64 t279] 23 (0, 0)) (by (with_reducible repeat (first | apply bA | apply bN | apply bD)); exact BK284.out) hb)
    replace BK290 := aMk (blk_below (g := gb290) (o := .cells #[.int .u64 t285, .int .i64 t286, .slice Ao22 t287.length co22] 33 (0, 0)) (by (with_reducible repeat (first | apply bA | apply bN | apply bD)); exact BK290.out) hb)
    replace BK301 := aMk (blk_below (g := gb301) (o := .cells #[.int .u64 0, .int .i64 0, .slice none 0 0] 33 (0, 0)) (by (with_reducible repeat (first | apply bA | apply bN | apply bD)); exact BK301.out) hb)
    replace HB := aMk (below_step (by repeat (first | (with_reducible first | exact HB.out | apply eA | apply eN | apply eD | refine eS ?_ GE283.out | refine eS ?_ GE284.out | refine eS ?_ GE290.out | refine eS ?_ GE301.out) | exact HB.out)) hb)
    (try clear hb)
    (try clear ho0)
    obtain ⟨Ao27, co27, eo27⟩ := Kd.R_slice HO295.out
    (first | subst eo27 | (injection eo27 with f1_ f2_ f3_; have f4_ := f1_.symm; have f5_ := f3_.symm; clear f1_ f2_ f3_; subst f4_; subst f5_))
    refine hK.out _ _ ⟨(blk_cell BK284.out 0).trans rfl, (blk_cell BK284.out 1).trans rfl, (blk_cell BK290.out 0).trans rfl, (blk_cell BK290.out 1).trans rfl, (blk_cell BK290.out 2).trans rfl⟩ (fun hHeld => ?_)
    clear hK K
    refine norm_ (a' := ?_) ?_ ?_
    rotate_left
    ·show Act.put _ (some 28) _ = _
     simp only [Act.put, sA, sB, sC, i64_w, i32_w]
     rfl
    refine one_ (i := 4) (N := some 29) #[true, true, true, true, true, true, false] rfl rfl (by kernel_rfl) (by decide) (fun K hK => ?_)
    refine goes_ Try.func10 (by kernel_rfl) rfl #[.agg #[.int .i64 t278, .int .i64 t279], .agg #[.int .u64 t285, .int .i64 t286, .slice Ao22 t287.length co22], .agg #[.int .u64 t291, .int .i64 t292, .slice Ao27 t293.length co27]] (by rfl) rfl rfl (by (try simp only [List.map_toArray, List.map_cons, List.map_nil]); first | done | rfl | (simp only [List.length_drop, List.length_take]; rfl)) ?_
    with_reducible refine (agg_Merge.calls t278 t279 t285 t286 _ _ t287 t291 t292 _ _ t293 t296 t297 t298 _ ?side1 ?side2 ?side3 ?side4 A7.out).mono ?_
    (case side1 => repeat (first | exact (Kd.R_reads' HO289.out).2.2 | (with_reducible refine cA ?_ _) | (with_reducible refine cN ?_ _) | (with_reducible refine cD ?_)))
    (case side2 => exact (Kd.R_reads' HO289.out).2.1)
    (case side3 => repeat (first | exact (Kd.R_reads' HO295.out).2.2 | (with_reducible refine cA ?_ _) | (with_reducible refine cN ?_ _) | (with_reducible refine cD ?_)))
    (case side4 => exact (Kd.R_reads' HO295.out).2.1)
    rintro e w28 ⟨v299, rfl, ho0, hb⟩
    refine ⟨_, rfl, ?_⟩
    have HO300 := aMk (Kd.R_lower (Kd.R_new' (Kd.R_new' ho0 (Kd.R_lt (by (with_reducible repeat (first | apply rA | apply rN | apply rD)); exact HO289.out))) (Kd.R_lt (by (with_reducible repeat (first | apply rA | apply rN | apply rD)); exact HO295.out))) (below_size (by repeat (first | (with_reducible first | exact HB.out | apply eA | apply eN | apply eD | refine eS ?_ GE283.out | refine eS ?_ GE284.out | refine eS ?_ GE290.out | refine eS ?_ GE301.out) | exact HB.out))))
    replace HO282 := aMk (Kd.S_elder' (by (with_reducible repeat (first | apply Kd.S_alloc | apply Kd.S_drewN | apply Kd.S_drew)); exact HO282.out) (Kd.R_base ho0) hb)
    replace HO289 := aMk (Kd.R_elder' (by (with_reducible repeat (first | apply rA | apply rN | apply rD)); exact HO289.out) (Kd.R_base ho0) hb)
    replace HO295 := aMk (Kd.R_elder' (by (with_reducible repeat (first | apply rA | apply rN | apply rD)); exact HO295.out) (Kd.R_base ho0) hb)
    replace BK283 := aMk (blk_below (g := gb283) (o := .cells #[.int .i64 t276, .int .i64 t277] 27 (0, 0)) (by (with_reducible repeat (first | apply bA | apply bN | apply bD)); exact BK283.out) hb)
    replace BK284 := aMk (blk_below (g := gb284) (o := .cells #[.int .i64 t278, .int .i64 t279] 23 (0, 0)) (by (with_reducible repeat (first | apply bA | apply bN | apply bD)); exact BK284.out) hb)
    replace BK290 := aMk (blk_below (g := gb290) (o := .cells #[.int .u64 t285, .int .i64 t286, .slice Ao22 t287.length co22] 33 (0, 0)) (by (with_reducible repeat (first | apply bA | apply bN | apply bD)); exact BK290.out) hb)
    replace BK301 := aMk (blk_below (g := gb301) (o := .cells #[.int .u64 0, .int .i64 0, .slice none 0 0] 33 (0, 0)) (by (with_reducible repeat (first | apply bA | apply bN | apply bD)); exact BK301.out) hb)
    replace HB := aMk (below_step (by repeat (first | (with_reducible first | exact HB.out | apply eA | apply eN | apply eD | refine eS ?_ GE283.out | refine eS ?_ GE284.out | refine eS ?_ GE290.out | refine eS ?_ GE301.out) | exact HB.out)) hb)
    (try clear hb)
    (try clear ho0)
    refine hK.out _ _ ⟨(blk_cell BK284.out 0).trans rfl, (blk_cell BK284.out 1).trans rfl, (blk_cell BK290.out 0).trans rfl, (blk_cell BK290.out 1).trans rfl, (blk_cell BK290.out 2).trans rfl⟩ (fun hHeld => ?_)
    clear hK K
    refine norm_ (a' := ?_) ?_ ?_
    rotate_left
    ·show Act.put _ (some 29) _ = _
     simp only [Act.put, sA, sB, sC, i64_w, i32_w]
     rfl
    exact norm_ (by simp only [putAll, Act.put, sA, sB, sC]) (hCont (.slice Ao27 t293.length co27, v299, gb301) _ ⟨hHeld, (by (with_reducible repeat (first | apply Kd.S_alloc | apply Kd.S_drewN | apply Kd.S_drew)); exact Kd.S_mono HO282.out (fun _ hk => ⟨hk.1.1, ⟨hk.1.2, hk.2⟩⟩)), (by (with_reducible repeat (first | apply rA | apply rN | apply rD)); exact Kd.R_mono HO289.out (fun _ hk => ⟨hk.1.2, hk.2⟩)), (by (with_reducible repeat (first | apply rA | apply rN | apply rD)); exact Kd.R_mono HO295.out (fun _ hk => ⟨hk.1.2, hk.2⟩)), (by (with_reducible repeat (first | apply rA | apply rN | apply rD)); exact Kd.R_mono HO300.out (fun _ hk => ⟨hk.1.2, hk.2⟩)), (by (with_reducible repeat (first | apply bA | apply bN | apply bD)); exact BK283.out), (by (with_reducible repeat (first | apply bA | apply bN | apply bD)); exact BK284.out), (by (with_reducible repeat (first | apply bA | apply bN | apply bD)); exact BK290.out), (by (with_reducible repeat (first | apply bA | apply bN | apply bD)); exact BK301.out), GW301.out, GE301.out, NB283_301.out, NB301_283.out, NB284_301.out, NB301_284.out, NB290_301.out, NB301_290.out, (by repeat (first | (with_reducible first | exact HB.out | apply eA | apply eN | apply eD | refine eS ?_ GE283.out | refine eS ?_ GE284.out | refine eS ?_ GE290.out | refine eS ?_ GE301.out) | exact HB.out))⟩)
  rintro ⟨v294, v299, gb301⟩ w29 ⟨hS_, h0_, h1_, h2_, h3_, h4_, h5_, h6_, h7_, h8_, h9_, h10_, h11_, h12_, h13_, h14_, h15_, h16_⟩
  have n0_ : Aside0 (Kd.S k39 39 w29 w.heap.size (fun k_ => some k_ ≠ (.slice Ao22 t287.length co22 : Value).ownBlock ∧ some k_ ≠ (v294 : Value).ownBlock ∧ some k_ ≠ (v299 : Value).ownBlock) (.slice Ao16 t280.length co16) t280) := ⟨h0_⟩
  have n1_ : Aside0 (Kd.R Kd.string 9 w29 w.heap.size (fun k_ => some k_ ≠ (v294 : Value).ownBlock ∧ some k_ ≠ (v299 : Value).ownBlock) (.slice Ao22 t287.length co22) t287) := ⟨h1_⟩
  have n2_ : Aside0 (Kd.R Kd.string 9 w29 w.heap.size (fun k_ => some k_ ≠ (.slice Ao22 t287.length co22 : Value).ownBlock ∧ some k_ ≠ (v299 : Value).ownBlock) v294 t293) := ⟨h2_⟩
  have n3_ : Aside0 (Kd.R Kd.string 9 w29 w.heap.size (fun k_ => some k_ ≠ (.slice Ao22 t287.length co22 : Value).ownBlock ∧ some k_ ≠ (v294 : Value).ownBlock) v299 t298) := ⟨h3_⟩
  have n4_ : Aside0 (w29.heap[gb283]? = some (.cells #[.int .i64 t276, .int .i64 t277] 27 (0, 0))) := ⟨h4_⟩
  have n5_ : Aside0 (w29.heap[gb284]? = some (.cells #[.int .i64 t278, .int .i64 t279] 23 (0, 0))) := ⟨h5_⟩
  have n6_ : Aside0 (w29.heap[gb290]? = some (.cells #[.int .u64 t285, .int .i64 t286, .slice Ao22 t287.length co22] 33 (0, 0))) := ⟨h6_⟩
  have n7_ : Aside0 (w29.heap[gb301]? = some (.cells #[.int .u64 0, .int .i64 0, .slice none 0 0] 33 (0, 0))) := ⟨h7_⟩
  have n8_ : Aside0 (w.heap.size ≤ gb301) := ⟨h8_⟩
  have n9_ : Aside0 (w.heap.size ≤ gb301) := ⟨h9_⟩
  have n10_ : Aside0 (gb283 ≠ gb301) := ⟨h10_⟩
  have n11_ : Aside0 (gb301 ≠ gb283) := ⟨h11_⟩
  have n12_ : Aside0 (gb284 ≠ gb301) := ⟨h12_⟩
  have n13_ : Aside0 (gb301 ≠ gb284) := ⟨h13_⟩
  have n14_ : Aside0 (gb290 ≠ gb301) := ⟨h14_⟩
  have n15_ : Aside0 (gb301 ≠ gb290) := ⟨h15_⟩
  have n16_ : Aside0 (Below w.heap.size w w29) := ⟨h16_⟩
  clear HO282
  clear HO289
  clear BK283
  clear BK284
  clear BK290
  clear HB
  clear h0_ h1_ h2_ h3_ h4_ h5_ h6_ h7_ h8_ h9_ h10_ h11_ h12_ h13_ h14_ h15_ h16_
  have HO282 := n0_
  have HO289 := n1_
  have HO295 := n2_
  have HO300 := n3_
  have BK283 := n4_
  have BK284 := n5_
  have BK290 := n6_
  have BK301 := n7_
  have GW301 := n8_
  have GE301 := n9_
  have NB283_301 := n10_
  have NB301_283 := n11_
  have NB284_301 := n12_
  have NB301_284 := n13_
  have NB290_301 := n14_
  have NB301_290 := n15_
  have HB := n16_
  clear n0_ n1_ n2_ n3_ n4_ n5_ n6_ n7_ n8_ n9_ n10_ n11_ n12_ n13_ n14_ n15_ n16_
  have hHeld : w29.cell? ⟨gb284, 0, none⟩ = some (.int .i64 t278) ∧ w29.cell? ⟨gb284, 1, none⟩ = some (.int .i64 t279) ∧ w29.cell? ⟨gb290, 0, none⟩ = some (.int .u64 t285) ∧ w29.cell? ⟨gb290, 1, none⟩ = some (.int .i64 t286) ∧ w29.cell? ⟨gb290, 2, none⟩ = some (.slice Ao22 t287.length co22) := hS_
  obtain ⟨Ao32, co32, eo32⟩ := Kd.R_slice HO300.out
  (first | subst eo32 | (injection eo32 with f1_ f2_ f3_; have f4_ := f1_.symm; have f5_ := f3_.symm; clear f1_ f2_ f3_; subst f4_; subst f5_))
  refine norm_ (a' := ?_) ?_ ?_
  rotate_left
  ·simp only [putAll, Act.put, sA, sB, sC]
   rfl
  refine one_ (i := 6) (N := none) #[true, true, true, true, true, true, true] rfl rfl (by kernel_rfl) (by decide) (fun K hK => ?_)
  have hs30 : w29.cell? ⟨gb301, 0, none⟩ = some (.int .u64 0) := (blk_cell BK301.out 0).trans rfl
  have hfs30 := blk_frozen BK301.out 0
  have hns30_0 := NB283_301.out
  have hns30_1 := NB284_301.out
  have hns30_2 := NB290_301.out
  have hms30_0 := NB301_283.out
  have hms30_1 := NB301_284.out
  have hms30_2 := NB301_290.out
  have hs31 : w29.cell? ⟨gb301, 1, none⟩ = some (.int .i64 0) := (blk_cell BK301.out 1).trans rfl
  have hfs31 := blk_frozen BK301.out 1
  have hns31_0 := NB283_301.out
  have hns31_1 := NB284_301.out
  have hns31_2 := NB290_301.out
  have hms31_0 := NB301_283.out
  have hms31_1 := NB301_284.out
  have hms31_2 := NB301_290.out
  have hs33 : w29.cell? ⟨gb301, 2, none⟩ = some (.slice none 0 0) := (blk_cell BK301.out 2).trans rfl
  have hfs33 := blk_frozen BK301.out 2
  have hns33_0 := NB283_301.out
  have hns33_1 := NB284_301.out
  have hns33_2 := NB290_301.out
  have hms33_0 := NB301_283.out
  have hms33_1 := NB301_284.out
  have hms33_2 := NB301_290.out
  refine skip_ (w1 := ?_) (by rfl) rfl ?_ ?_
  rotate_left
  ·go_simp
   rfl
  refine hK.out _ _ ⟨((cell_far (p := ⟨gb301, _, none⟩) NB284_301.out _).trans (((cell_far (p := ⟨gb301, _, none⟩) NB284_301.out _).trans (((cell_far (p := ⟨gb301, _, none⟩) NB284_301.out _).trans (hHeld.1)))))), ((cell_far (p := ⟨gb301, _, none⟩) NB284_301.out _).trans (((cell_far (p := ⟨gb301, _, none⟩) NB284_301.out _).trans (((cell_far (p := ⟨gb301, _, none⟩) NB284_301.out _).trans (hHeld.2.1)))))), ((cell_far (p := ⟨gb301, _, none⟩) NB290_301.out _).trans (((cell_far (p := ⟨gb301, _, none⟩) NB290_301.out _).trans (((cell_far (p := ⟨gb301, _, none⟩) NB290_301.out _).trans (hHeld.2.2.1)))))), ((cell_far (p := ⟨gb301, _, none⟩) NB290_301.out _).trans (((cell_far (p := ⟨gb301, _, none⟩) NB290_301.out _).trans (((cell_far (p := ⟨gb301, _, none⟩) NB290_301.out _).trans (hHeld.2.2.2.1)))))), ((cell_far (p := ⟨gb301, _, none⟩) NB290_301.out _).trans (((cell_far (p := ⟨gb301, _, none⟩) NB290_301.out _).trans (((cell_far (p := ⟨gb301, _, none⟩) NB290_301.out _).trans (hHeld.2.2.2.2))))))⟩ (fun hHeld => ?_)
  clear hK K
  refine done_ (by kernel_rfl) ?_
  have hnb34 := NB284_301.out
  have hnc34 := NB301_284.out
  have hcz35_0 : w29.cell? ⟨gb284, 0, none⟩ = some (.int .i64 t278) := (blk_cell BK284.out 0).trans rfl
  have hcz35_1 : w29.cell? ⟨gb284, 1, none⟩ = some (.int .i64 t279) := (blk_cell BK284.out 1).trans rfl
  have hfz35_0 := blk_frozen BK284.out 0
  have hfz35_1 := blk_frozen BK284.out 1
  have hnb36 := NB290_301.out
  have hnc36 := NB301_290.out
  have hcz37_0 : w29.cell? ⟨gb290, 0, none⟩ = some (.int .u64 t285) := (blk_cell BK290.out 0).trans rfl
  have hcz37_1 : w29.cell? ⟨gb290, 1, none⟩ = some (.int .i64 t286) := (blk_cell BK290.out 1).trans rfl
  have hcz37_2 : w29.cell? ⟨gb290, 2, none⟩ = some (.slice Ao22 t287.length co22) := (blk_cell BK290.out 2).trans rfl
  have hfz37_0 := blk_frozen BK290.out 0
  have hfz37_1 := blk_frozen BK290.out 1
  have hfz37_2 := blk_frozen BK290.out 2
  try go_wp2_with (first | ((with_reducible refine gate_dst (N := 32) rfl ?_); refine Kd.R_lit Kd.string _ 9 ?hg (N := 32) ?hd (xs := ([(⟨#[97]⟩ : ByteArray), (⟨#[98]⟩ : ByteArray)] : List ByteArray)) (inner := [.string (⟨#[97]⟩ : ByteArray), .string (⟨#[98]⟩ : ByteArray)]) (ok := fun _ => True) (okp := fun _ => True) ?hr ?hp (fun _ hk => hk) trivial (Below.refl _ _) (Nat.le_refl _) (by simp) ?_; (case hd => rfl); (case hg => rfl); (case hr => first | (go_simp; done) | (go_simp; rfl)); (case hp => exact (Reps.one (show Kd.M Kd.string _ _ _ (⟨#[97]⟩ : ByteArray) [.string (⟨#[97]⟩ : ByteArray)] from rfl) (Reps.one (show Kd.M Kd.string _ _ _ (⟨#[98]⟩ : ByteArray) [.string (⟨#[98]⟩ : ByteArray)] from rfl) (Reps.none _ _)))); intro v303 w38 ho39 hb hg_ hnew_; clear hg_ hnew_; (first | rw [← Ny302.out] at ho39 | (simp only [Int.reduceToNat] at ho39; rw [← Ny302.out] at ho39)); have HO304 := aMk (Kd.R_lower (Kd.R_new' (Kd.R_new' (Kd.R_new' ho39 (Kd.R_lt (by (with_reducible repeat (first | apply rA | apply rN | apply rD)); exact (Kd.R_mono (Kd.R_far (p := ⟨gb301, 2, none⟩) (Kd.R_far (p := ⟨gb301, 1, none⟩) (Kd.R_far (p := ⟨gb301, 0, none⟩) (Kd.R_types HO289.out BK301.out (by decide)) (fun _ hk => hk.2) (.int .u64 t296)) (fun _ hk => hk.2) (.int .i64 t297)) (fun _ hk => hk.2) (.slice Ao32 t298.length co32)) (fun _ h_ => h_.1))))) (Kd.R_lt (by (with_reducible repeat (first | apply rA | apply rN | apply rD)); exact (Kd.R_mono (Kd.R_far (p := ⟨gb301, 2, none⟩) (Kd.R_far (p := ⟨gb301, 1, none⟩) (Kd.R_far (p := ⟨gb301, 0, none⟩) (Kd.R_types HO295.out BK301.out (by decide)) (fun _ hk => hk.2) (.int .u64 t296)) (fun _ hk => hk.2) (.int .i64 t297)) (fun _ hk => hk.2) (.slice Ao32 t298.length co32)) (fun _ h_ => h_.1))))) (Kd.R_lt (by (with_reducible repeat (first | apply rA | apply rN | apply rD)); exact (Kd.R_mono (Kd.R_far (p := ⟨gb301, 2, none⟩) (Kd.R_far (p := ⟨gb301, 1, none⟩) (Kd.R_far (p := ⟨gb301, 0, none⟩) (Kd.R_types HO300.out BK301.out (by decide)) (fun _ hk => hk.2) (.int .u64 t296)) (fun _ hk => hk.2) (.int .i64 t297)) (fun _ hk => hk.2) (.slice Ao32 t298.length co32)) (fun _ h_ => h_.1))))) (below_size (by repeat (first | (with_reducible first | exact HB.out | apply eA | apply eN | apply eD | refine eS ?_ GE283.out | refine eS ?_ GE284.out | refine eS ?_ GE290.out | refine eS ?_ GE301.out) | exact HB.out)))); replace HO282 := aMk (Kd.S_elder' (by (with_reducible repeat (first | apply Kd.S_alloc | apply Kd.S_drewN | apply Kd.S_drew)); exact (Kd.S_mono (Kd.S_far (p := ⟨gb301, 2, none⟩) (Kd.S_far (p := ⟨gb301, 1, none⟩) (Kd.S_far (p := ⟨gb301, 0, none⟩) (Kd.S_types HO282.out BK301.out (by decide)) (fun _ hk => hk.2) (.int .u64 t296)) (fun _ hk => hk.2) (.int .i64 t297)) (fun _ hk => hk.2) (.slice Ao32 t298.length co32)) (fun _ h_ => h_.1))) (Kd.R_base ho39) hb); replace HO289 := aMk (Kd.R_elder' (by (with_reducible repeat (first | apply rA | apply rN | apply rD)); exact (Kd.R_mono (Kd.R_far (p := ⟨gb301, 2, none⟩) (Kd.R_far (p := ⟨gb301, 1, none⟩) (Kd.R_far (p := ⟨gb301, 0, none⟩) (Kd.R_types HO289.out BK301.out (by decide)) (fun _ hk => hk.2) (.int .u64 t296)) (fun _ hk => hk.2) (.int .i64 t297)) (fun _ hk => hk.2) (.slice Ao32 t298.length co32)) (fun _ h_ => h_.1))) (Kd.R_base ho39) hb); replace HO295 := aMk (Kd.R_elder' (by (with_reducible repeat (first | apply rA | apply rN | apply rD)); exact (Kd.R_mono (Kd.R_far (p := ⟨gb301, 2, none⟩) (Kd.R_far (p := ⟨gb301, 1, none⟩) (Kd.R_far (p := ⟨gb301, 0, none⟩) (Kd.R_types HO295.out BK301.out (by decide)) (fun _ hk => hk.2) (.int .u64 t296)) (fun _ hk => hk.2) (.int .i64 t297)) (fun _ hk => hk.2) (.slice Ao32 t298.length co32)) (fun _ h_ => h_.1))) (Kd.R_base ho39) hb); replace HO300 := aMk (Kd.R_elder' (by (with_reducible repeat (first | apply rA | apply rN | apply rD)); exact (Kd.R_mono (Kd.R_far (p := ⟨gb301, 2, none⟩) (Kd.R_far (p := ⟨gb301, 1, none⟩) (Kd.R_far (p := ⟨gb301, 0, none⟩) (Kd.R_types HO300.out BK301.out (by decide)) (fun _ hk => hk.2) (.int .u64 t296)) (fun _ hk => hk.2) (.int .i64 t297)) (fun _ hk => hk.2) (.slice Ao32 t298.length co32)) (fun _ h_ => h_.1))) (Kd.R_base ho39) hb); replace BK283 := aMk (blk_below (g := gb283) (o := .cells #[.int .i64 t276, .int .i64 t277] 27 (0, 0)) (by (with_reducible repeat (first | apply bA | apply bN | apply bD)); refine blk_far ?_ NB283_301.out _; (with_reducible repeat (first | apply bA | apply bN | apply bD)); refine blk_far ?_ NB283_301.out _; (with_reducible repeat (first | apply bA | apply bN | apply bD)); refine blk_far ?_ NB283_301.out _; (with_reducible repeat (first | apply bA | apply bN | apply bD)); exact BK283.out) hb); replace BK284 := aMk (blk_below (g := gb284) (o := .cells #[.int .i64 t278, .int .i64 t279] 23 (0, 0)) (by (with_reducible repeat (first | apply bA | apply bN | apply bD)); refine blk_far ?_ NB284_301.out _; (with_reducible repeat (first | apply bA | apply bN | apply bD)); refine blk_far ?_ NB284_301.out _; (with_reducible repeat (first | apply bA | apply bN | apply bD)); refine blk_far ?_ NB284_301.out _; (with_reducible repeat (first | apply bA | apply bN | apply bD)); exact BK284.out) hb); replace BK290 := aMk (blk_below (g := gb290) (o := .cells #[.int .u64 t285, .int .i64 t286, .slice Ao22 t287.length co22] 33 (0, 0)) (by (with_reducible repeat (first | apply bA | apply bN | apply bD)); refine blk_far ?_ NB290_301.out _; (with_reducible repeat (first | apply bA | apply bN | apply bD)); refine blk_far ?_ NB290_301.out _; (with_reducible repeat (first | apply bA | apply bN | apply bD)); refine blk_far ?_ NB290_301.out _; (with_reducible repeat (first | apply bA | apply bN | apply bD)); exact BK290.out) hb); replace BK301 := aMk (blk_below (g := gb301) (o := .cells #[.int .u64 t296, .int .i64 t297, .slice Ao32 t298.length co32] 33 (0, 0)) (by (with_reducible repeat (first | apply bA | apply bN | apply bD)); refine blk_put (cs := #[.int .u64 t296, .int .i64 t297, .slice none 0 0]) ?_ 2 _ rfl; (with_reducible repeat (first | apply bA | apply bN | apply bD)); refine blk_put (cs := #[.int .u64 t296, .int .i64 0, .slice none 0 0]) ?_ 1 _ rfl; (with_reducible repeat (first | apply bA | apply bN | apply bD)); refine blk_put (cs := #[.int .u64 0, .int .i64 0, .slice none 0 0]) ?_ 0 _ rfl; (with_reducible repeat (first | apply bA | apply bN | apply bD)); exact BK301.out) hb); replace HB := aMk (below_step (by repeat (first | (with_reducible first | exact HB.out | apply eA | apply eN | apply eD | refine eS ?_ GE283.out | refine eS ?_ GE284.out | refine eS ?_ GE290.out | refine eS ?_ GE301.out) | exact HB.out)) hb); clear hb ho39; obtain ⟨Ao40, co40, eo40⟩ := Kd.R_slice HO304.out; subst eo40) | ((with_reducible refine gate_callee (f := 12) rfl ?_); refine goesL_ (some 34) rfl rfl Try.func12 (by kernel_rfl) rfl #[.agg #[.int .i64 t278, .int .i64 t279], .agg #[.int .u64 t285, .int .i64 t286, .slice Ao22 t287.length co22], .agg #[.int .i64 0, .slice Ao40 y302.length co40, .slice none 0 0], .int .u64 0] rfl (by (try simp only [List.map_toArray, List.map_cons, List.map_nil]); first | done | rfl | (simp only [List.length_drop, List.length_take]; rfl)) ?_; (refine (agg_Add.calls t278 t279 t285 t286 _ _ t287 0 _ _ y302 _ _ ([] : List Int) 0 t305 t306 t307 _ ?side1 ?side2 ?side3 ?side4 ?side5 ?side6 A8.out).mono ?_); (case side1 => repeat (first | exact (Kd.R_reads' HO289.out).2.2 | (with_reducible refine cA ?_ _) | (with_reducible refine cN ?_ _) | (with_reducible refine cD ?_))); (case side2 => exact (Kd.R_reads' HO289.out).2.1); (case side3 => repeat (first | exact (Kd.R_reads' HO304.out).2.2 | (with_reducible refine cA ?_ _) | (with_reducible refine cN ?_ _) | (with_reducible refine cD ?_))); (case side4 => exact (Kd.R_reads' HO304.out).2.1); (case side5 => exact Kd.C_nil _ _); (case side6 => exact Nat.le_refl _); rintro e w41 ⟨v308, rfl, ho0, hb⟩; refine ⟨_, rfl, ?_⟩; have HO309 := aMk (Kd.R_lower (Kd.R_new' (Kd.R_new' (Kd.R_new' (Kd.R_new' ho0 (Kd.R_lt (by (with_reducible repeat (first | apply rA | apply rN | apply rD)); exact HO289.out))) (Kd.R_lt (by (with_reducible repeat (first | apply rA | apply rN | apply rD)); exact HO295.out))) (Kd.R_lt (by (with_reducible repeat (first | apply rA | apply rN | apply rD)); exact HO300.out))) (Kd.R_lt (by (with_reducible repeat (first | apply rA | apply rN | apply rD)); exact HO304.out))) (below_size (by repeat (first | (with_reducible first | exact HB.out | apply eA | apply eN | apply eD | refine eS ?_ GE283.out | refine eS ?_ GE284.out | refine eS ?_ GE290.out | refine eS ?_ GE301.out) | exact HB.out)))); replace HO282 := aMk (Kd.S_elder' (by (with_reducible repeat (first | apply Kd.S_alloc | apply Kd.S_drewN | apply Kd.S_drew)); exact HO282.out) (Kd.R_base ho0) hb); replace HO289 := aMk (Kd.R_elder' (by (with_reducible repeat (first | apply rA | apply rN | apply rD)); exact HO289.out) (Kd.R_base ho0) hb); replace HO295 := aMk (Kd.R_elder' (by (with_reducible repeat (first | apply rA | apply rN | apply rD)); exact HO295.out) (Kd.R_base ho0) hb); replace HO300 := aMk (Kd.R_elder' (by (with_reducible repeat (first | apply rA | apply rN | apply rD)); exact HO300.out) (Kd.R_base ho0) hb); replace HO304 := aMk (Kd.R_elder' (by (with_reducible repeat (first | apply rA | apply rN | apply rD)); exact HO304.out) (Kd.R_base ho0) hb); replace BK283 := aMk (blk_below (g := gb283) (o := .cells #[.int .i64 t276, .int .i64 t277] 27 (0, 0)) (by (with_reducible repeat (first | apply bA | apply bN | apply bD)); exact BK283.out) hb); replace BK284 := aMk (blk_below (g := gb284) (o := .cells #[.int .i64 t278, .int .i64 t279] 23 (0, 0)) (by (with_reducible repeat (first | apply bA | apply bN | apply bD)); exact BK284.out) hb); replace BK290 := aMk (blk_below (g := gb290) (o := .cells #[.int .u64 t285, .int .i64 t286, .slice Ao22 t287.length co22] 33 (0, 0)) (by (with_reducible repeat (first | apply bA | apply bN | apply bD)); exact BK290.out) hb); replace BK301 := aMk (blk_below (g := gb301) (o := .cells #[.int .u64 t296, .int .i64 t297, .slice Ao32 t298.length co32] 33 (0, 0)) (by (with_reducible repeat (first | apply bA | apply bN | apply bD)); exact BK301.out) hb); replace HB := aMk (below_step (by repeat (first | (with_reducible first | exact HB.out | apply eA | apply eN | apply eD | refine eS ?_ GE283.out | refine eS ?_ GE284.out | refine eS ?_ GE290.out | refine eS ?_ GE301.out) | exact HB.out)) hb); (try clear hb); (try clear hb2); (try clear hk); (try clear hi); (try clear ho0)) | ((with_reducible refine gate_dst (N := 9) rfl ?_); refine box_event ?hg (N := 9) ?hd (cs := #[.int .u64 0, .int .i64 0, .slice none 0 0]) (t := 33) ?hr ?_; (case hd => rfl); (case hg => rfl); (case hr => first | (go_simp; done) | (go_simp; rfl)); intro gb310 hg w42 hbox hb; have BK310 := aMk (hbox); have GW310 := aMk ((by rw [hg]; exact (below_size (by repeat (first | (with_reducible first | exact HB.out | apply eA | apply eN | apply eD | refine eS ?_ GE283.out | refine eS ?_ GE284.out | refine eS ?_ GE290.out | refine eS ?_ GE301.out) | exact HB.out))) : w.heap.size ≤ gb310)); have GE310 := aMk ((by rw [hg]; exact (below_size (by repeat (first | (with_reducible first | exact HB.out | apply eA | apply eN | apply eD | refine eS ?_ GE283.out | refine eS ?_ GE284.out | refine eS ?_ GE290.out | refine eS ?_ GE301.out) | exact HB.out))) : w.heap.size ≤ gb310)); have NB283_310 := aMk ((by rw [hg]; exact Nat.ne_of_lt (blk_lt (g := gb283) (o := .cells #[.int .i64 t276, .int .i64 t277] 27 (0, 0)) (by (with_reducible repeat (first | apply bA | apply bN | apply bD)); exact BK283.out)) : gb283 ≠ gb310)); have NB310_283 := aMk ((by rw [hg]; exact Nat.ne_of_gt (blk_lt (g := gb283) (o := .cells #[.int .i64 t276, .int .i64 t277] 27 (0, 0)) (by (with_reducible repeat (first | apply bA | apply bN | apply bD)); exact BK283.out)) : gb310 ≠ gb283)); have NB284_310 := aMk ((by rw [hg]; exact Nat.ne_of_lt (blk_lt (g := gb284) (o := .cells #[.int .i64 t278, .int .i64 t279] 23 (0, 0)) (by (with_reducible repeat (first | apply bA | apply bN | apply bD)); exact BK284.out)) : gb284 ≠ gb310)); have NB310_284 := aMk ((by rw [hg]; exact Nat.ne_of_gt (blk_lt (g := gb284) (o := .cells #[.int .i64 t278, .int .i64 t279] 23 (0, 0)) (by (with_reducible repeat (first | apply bA | apply bN | apply bD)); exact BK284.out)) : gb310 ≠ gb284)); have NB290_310 := aMk ((by rw [hg]; exact Nat.ne_of_lt (blk_lt (g := gb290) (o := .cells #[.int .u64 t285, .int .i64 t286, .slice Ao22 t287.length co22] 33 (0, 0)) (by (with_reducible repeat (first | apply bA | apply bN | apply bD)); exact BK290.out)) : gb290 ≠ gb310)); have NB310_290 := aMk ((by rw [hg]; exact Nat.ne_of_gt (blk_lt (g := gb290) (o := .cells #[.int .u64 t285, .int .i64 t286, .slice Ao22 t287.length co22] 33 (0, 0)) (by (with_reducible repeat (first | apply bA | apply bN | apply bD)); exact BK290.out)) : gb310 ≠ gb290)); have NB301_310 := aMk ((by rw [hg]; exact Nat.ne_of_lt (blk_lt (g := gb301) (o := .cells #[.int .u64 t296, .int .i64 t297, .slice Ao32 t298.length co32] 33 (0, 0)) (by (with_reducible repeat (first | apply bA | apply bN | apply bD)); exact BK301.out)) : gb301 ≠ gb310)); have NB310_301 := aMk ((by rw [hg]; exact Nat.ne_of_gt (blk_lt (g := gb301) (o := .cells #[.int .u64 t296, .int .i64 t297, .slice Ao32 t298.length co32] 33 (0, 0)) (by (with_reducible repeat (first | apply bA | apply bN | apply bD)); exact BK301.out)) : gb310 ≠ gb301)); replace HO282 := aMk (Kd.S_below (by (with_reducible repeat (first | apply Kd.S_alloc | apply Kd.S_drewN | apply Kd.S_drew)); exact HO282.out) hb); replace HO289 := aMk (Kd.R_below (by (with_reducible repeat (first | apply rA | apply rN | apply rD)); exact HO289.out) hb); replace HO295 := aMk (Kd.R_below (by (with_reducible repeat (first | apply rA | apply rN | apply rD)); exact HO295.out) hb); replace HO300 := aMk (Kd.R_below (by (with_reducible repeat (first | apply rA | apply rN | apply rD)); exact HO300.out) hb); replace HO304 := aMk (Kd.R_below (by (with_reducible repeat (first | apply rA | apply rN | apply rD)); exact HO304.out) hb); replace HO309 := aMk (Kd.R_below (by (with_reducible repeat (first | apply rA | apply rN | apply rD)); exact HO309.out) hb); replace BK283 := aMk (blk_below (g := gb283) (o := .cells #[.int .i64 t276, .int .i64 t277] 27 (0, 0)) (by (with_reducible repeat (first | apply bA | apply bN | apply bD)); exact BK283.out) hb); replace BK284 := aMk (blk_below (g := gb284) (o := .cells #[.int .i64 t278, .int .i64 t279] 23 (0, 0)) (by (with_reducible repeat (first | apply bA | apply bN | apply bD)); exact BK284.out) hb); replace BK290 := aMk (blk_below (g := gb290) (o := .cells #[.int .u64 t285, .int .i64 t286, .slice Ao22 t287.length co22] 33 (0, 0)) (by (with_reducible repeat (first | apply bA | apply bN | apply bD)); exact BK290.out) hb); replace BK301 := aMk (blk_below (g := gb301) (o := .cells #[.int .u64 t296, .int .i64 t297, .slice Ao32 t298.length co32] 33 (0, 0)) (by (with_reducible repeat (first | apply bA | apply bN | apply bD)); exact BK301.out) hb); replace HB := aMk (below_step (by repeat (first | (with_reducible first | exact HB.out | apply eA | apply eN | apply eD | refine eS ?_ GE283.out | refine eS ?_ GE284.out | refine eS ?_ GE290.out | refine eS ?_ GE301.out) | exact HB.out)) hb); clear hb hbox hg; have hnb43 := NB310_283.out; have hnc43 := NB283_310.out; have hnb44 := NB310_284.out; have hnc44 := NB284_310.out; have hnb45 := NB310_290.out; have hnc45 := NB290_310.out; have hnb46 := NB310_301.out; have hnc46 := NB301_310.out; have hcz47_0 : w42.cell? ⟨gb310, 0, none⟩ = some (.int .u64 0) := (blk_cell BK310.out 0).trans rfl; have hcz47_1 : w42.cell? ⟨gb310, 1, none⟩ = some (.int .i64 0) := (blk_cell BK310.out 1).trans rfl; have hcz47_2 : w42.cell? ⟨gb310, 2, none⟩ = some (.slice none 0 0) := (blk_cell BK310.out 2).trans rfl; have hfz47_0 := blk_frozen BK310.out 0; have hfz47_1 := blk_frozen BK310.out 1; have hfz47_2 := blk_frozen BK310.out 2; obtain ⟨Ao48, co48, eo48⟩ := Kd.R_slice HO309.out; subst eo48))
  go_loopg [10] k (fun kq v10 w' => ∃ (x10_1 : Int) (x291002_1 : List ByteArray) (x302002_1 : List ByteArray) (x311002_1 : List ByteArray) (u291002 : Value) (u302002 : Value) (u311002 : Value), v10 = .int .i64 x10_1 ∧ Aside0 (gristmilllaw06_AggOwn.l0 kq t280 x10_1 t278 t279 t285 t286 x291002_1 t296 t297 x302002_1 t305 t306 x311002_1 = some r) ∧ Aside0 (kq ≤ k) ∧ Aside0 (Kd.S k39 39 w' w.heap.size (fun k_ => some k_ ≠ (u291002 : Value).ownBlock ∧ some k_ ≠ (u302002 : Value).ownBlock ∧ some k_ ≠ (u311002 : Value).ownBlock) (.slice Ao16 t280.length co16) t280) ∧ Aside0 (Kd.R Kd.string 9 w' w.heap.size (fun k_ => some k_ ≠ (u302002 : Value).ownBlock ∧ some k_ ≠ (u311002 : Value).ownBlock) u291002 x291002_1) ∧ Aside0 (Kd.R Kd.string 9 w' w.heap.size (fun k_ => some k_ ≠ (u291002 : Value).ownBlock ∧ some k_ ≠ (u311002 : Value).ownBlock) u302002 x302002_1) ∧ Aside0 (Kd.R Kd.string 9 w' w.heap.size (fun k_ => some k_ ≠ (u291002 : Value).ownBlock ∧ some k_ ≠ (u302002 : Value).ownBlock) u311002 x311002_1) ∧ Aside0 (w'.heap[gb283]? = some (.cells #[.int .i64 t276, .int .i64 t277] 27 (0, 0))) ∧ Aside0 (w'.heap[gb284]? = some (.cells #[.int .i64 t278, .int .i64 t279] 23 (0, 0))) ∧ Aside0 (w'.heap[gb290]? = some (.cells #[.int .u64 t285, .int .i64 t286, u291002] 33 (0, 0))) ∧ Aside0 (w'.heap[gb301]? = some (.cells #[.int .u64 t296, .int .i64 t297, u302002] 33 (0, 0))) ∧ Aside0 (w'.heap[gb310]? = some (.cells #[.int .u64 t305, .int .i64 t306, u311002] 33 (0, 0))) ∧ Aside0 (Below w.heap.size w w'))
  case atStart => exact ⟨(0), (t287), (t298), (t307), (.slice Ao22 t287.length co22), (.slice Ao32 t298.length co32), (.slice Ao48 t307.length co48), (by first | rfl | (simp; done) | (simp [*]; done)), H', ⟨Nat.le_refl _⟩, ⟨by (with_reducible repeat (first | apply Kd.S_alloc | apply Kd.S_drewN | apply Kd.S_drew)); exact Kd.S_mono (Kd.S_far (p := ⟨gb310, 2, none⟩) (Kd.S_far (p := ⟨gb310, 1, none⟩) (Kd.S_far (p := ⟨gb310, 0, none⟩) (Kd.S_types HO282.out BK310.out (by decide)) (fun _ hk => hk.2) (.int .u64 t305)) (fun _ hk => hk.2) (.int .i64 t306)) (fun _ hk => hk.2) (.slice Ao48 t307.length co48)) (fun _ hk => ⟨hk.1.1.1.1, ⟨hk.1.1.1.2.2, hk.1.2⟩⟩)⟩, ⟨by (with_reducible repeat (first | apply rA | apply rN | apply rD)); exact Kd.R_mono (Kd.R_far (p := ⟨gb310, 2, none⟩) (Kd.R_far (p := ⟨gb310, 1, none⟩) (Kd.R_far (p := ⟨gb310, 0, none⟩) (Kd.R_types HO289.out BK310.out (by decide)) (fun _ hk => hk.2) (.int .u64 t305)) (fun _ hk => hk.2) (.int .i64 t306)) (fun _ hk => hk.2) (.slice Ao48 t307.length co48)) (fun _ hk => ⟨hk.1.1.1.2, hk.1.2⟩)⟩, ⟨by (with_reducible repeat (first | apply rA | apply rN | apply rD)); exact Kd.R_mono (Kd.R_far (p := ⟨gb310, 2, none⟩) (Kd.R_far (p := ⟨gb310, 1, none⟩) (Kd.R_far (p := ⟨gb310, 0, none⟩) (Kd.R_types HO300.out BK310.out (by decide)) (fun _ hk => hk.2) (.int .u64 t305)) (fun _ hk => hk.2) (.int .i64 t306)) (fun _ hk => hk.2) (.slice Ao48 t307.length co48)) (fun _ hk => ⟨hk.1.1.1.1, hk.1.2⟩)⟩, ⟨by (with_reducible repeat (first | apply rA | apply rN | apply rD)); exact Kd.R_mono (Kd.R_far (p := ⟨gb310, 2, none⟩) (Kd.R_far (p := ⟨gb310, 1, none⟩) (Kd.R_far (p := ⟨gb310, 0, none⟩) (Kd.R_types HO309.out BK310.out (by decide)) (fun _ hk => hk.2) (.int .u64 t305)) (fun _ hk => hk.2) (.int .i64 t306)) (fun _ hk => hk.2) (.slice Ao48 t307.length co48)) (fun _ hk => ⟨hk.1.1.1.1.2, hk.1.1.2⟩)⟩, ⟨by (with_reducible repeat (first | apply bA | apply bN | apply bD)); refine blk_far ?_ NB283_310.out _; (with_reducible repeat (first | apply bA | apply bN | apply bD)); refine blk_far ?_ NB283_310.out _; (with_reducible repeat (first | apply bA | apply bN | apply bD)); refine blk_far ?_ NB283_310.out _; (with_reducible repeat (first | apply bA | apply bN | apply bD)); exact BK283.out⟩, ⟨by (with_reducible repeat (first | apply bA | apply bN | apply bD)); refine blk_far ?_ NB284_310.out _; (with_reducible repeat (first | apply bA | apply bN | apply bD)); refine blk_far ?_ NB284_310.out _; (with_reducible repeat (first | apply bA | apply bN | apply bD)); refine blk_far ?_ NB284_310.out _; (with_reducible repeat (first | apply bA | apply bN | apply bD)); exact BK284.out⟩, ⟨by (with_reducible repeat (first | apply bA | apply bN | apply bD)); refine blk_far ?_ NB290_310.out _; (with_reducible repeat (first | apply bA | apply bN | apply bD)); refine blk_far ?_ NB290_310.out _; (with_reducible repeat (first | apply bA | apply bN | apply bD)); refine blk_far ?_ NB290_310.out _; (with_reducible repeat (first | apply bA | apply bN | apply bD)); exact BK290.out⟩, ⟨by (with_reducible repeat (first | apply bA | apply bN | apply bD)); refine blk_far ?_ NB301_310.out _; (with_reducible repeat (first | apply bA | apply bN | apply bD)); refine blk_far ?_ NB301_310.out _; (with_reducible repeat (first | apply bA | apply bN | apply bD)); refine blk_far ?_ NB301_310.out _; (with_reducible repeat (first | apply bA | apply bN | apply bD)); exact BK301.out⟩, ⟨by (with_reducible repeat (first | apply bA | apply bN | apply bD)); refine blk_put (cs := #[.int .u64 t305, .int .i64 t306, .slice none 0 0]) ?_ 2 _ rfl; (with_reducible repeat (first | apply bA | apply bN | apply bD)); refine blk_put (cs := #[.int .u64 t305, .int .i64 0, .slice none 0 0]) ?_ 1 _ rfl; (with_reducible repeat (first | apply bA | apply bN | apply bD)); refine blk_put (cs := #[.int .u64 0, .int .i64 0, .slice none 0 0]) ?_ 0 _ rfl; (with_reducible repeat (first | apply bA | apply bN | apply bD)); exact BK310.out⟩, ⟨by repeat (first | (with_reducible first | exact HB.out | apply eA | apply eN | apply eD | refine eS ?_ GE283.out | refine eS ?_ GE284.out | refine eS ?_ GE290.out | refine eS ?_ GE301.out | refine eS ?_ GE310.out) | exact HB.out)⟩⟩
  case round =>
   clear H'
   try clear c1
   try clear c2
   try clear p2
   try clear c3
   try clear c4
   try clear c6
   try clear c7
   try clear c8
   try clear c10
   try clear c11
   try clear c12
   try clear c13
   try clear c19
   try clear c20
   try clear c34
   try clear c36
   try clear c43
   try clear c44
   try clear c45
   try clear c46
   try clear hcz14_0
   try clear hcz14_1
   try clear hcz15_0
   try clear hcz15_1
   try clear hcz21_0
   try clear hcz21_1
   try clear hcz21_2
   try clear hcz35_0
   try clear hcz35_1
   try clear hcz37_0
   try clear hcz37_1
   try clear hcz37_2
   try clear hcz47_0
   try clear hcz47_1
   try clear hcz47_2
   try clear hfz14_0
   try clear hfz14_1
   try clear hfz15_0
   try clear hfz15_1
   try clear hfz21_0
   try clear hfz21_1
   try clear hfz21_2
   try clear hfz35_0
   try clear hfz35_1
   try clear hfz37_0
   try clear hfz37_1
   try clear hfz37_2
   try clear hfz47_0
   try clear hfz47_1
   try clear hfz47_2
   obtain ⟨x10_1, x291002_1, x302002_1, x311002_1, u291002, u302002, u311002, rfl, HA, HK1, HO_6, HO_291002, HO_302002, HO_311002, BK283, BK284, BK290, BK301, BK310, HB⟩ := hrel
   cases gk with
   | zero => exact absurd HA.out (by simp [gristmilllaw06_AggOwn.l0])
   | succ k1 =>
    have H := HA.out
    clear HA
    simp only [gristmilllaw06_AggOwn.l0] at H
    by_cases c49 : x10_1 < (x302002_1.length : Int)
    ·rw [if_pos c49] at H
     have c49b0 : decide (x10_1 < (x302002_1.length : Int)) = true := decide_eq_true c49
     clear c49
     by_cases c50 : 0 ≤ x10_1
     ·rw [if_pos c50] at H
      have c50b0 : decide (0 ≤ x10_1) = true := decide_eq_true c50
      clear c50
      obtain ⟨y311, hy311⟩ : ∃ y_ : List ByteArray, y_ = (x302002_1.set (x10_1 : Int).toNat (⟨#[115, 112, 111, 105, 108, 116]⟩ : ByteArray)) := ⟨_, rfl⟩
      replace H : (gristmilllaw06_AggOwn.l0 k1 t280 (wrap64 (x10_1 + 1)) t278 t279 t285 t286 x291002_1 t296 t297 y311 t305 t306 x311002_1) = some r := by first | (rw [hy311]; with_reducible exact H) | (have H2_ := (Option.bind_some _ _).symm.trans H; rw [hy311]; with_reducible exact H2_) | (have H2_ := (Option.bind_some _ _).symm.trans H; with_reducible exact H2_) | with_reducible exact H | (rw [hy311]; exact H) | exact H
      have Ny311 := aMk hy311
      clear hy311
      have H' := aMk H
      clear H
      have hnb52 := NB301_283.out
      have hnc52 := NB283_301.out
      have hnb53 := NB301_284.out
      have hnc53 := NB284_301.out
      have hnb54 := NB301_290.out
      have hnc54 := NB290_301.out
      have hnb55 := NB301_310.out
      have hnc55 := NB310_301.out
      have hcz56_0 : wr.cell? ⟨gb301, 0, none⟩ = some (.int .u64 t296) := (blk_cell BK301.out 0).trans rfl
      have hcz56_1 : wr.cell? ⟨gb301, 1, none⟩ = some (.int .i64 t297) := (blk_cell BK301.out 1).trans rfl
      have hcz56_2 : wr.cell? ⟨gb301, 2, none⟩ = some (u302002) := (blk_cell BK301.out 2).trans rfl
      have hfz56_0 := blk_frozen BK301.out 0
      have hfz56_1 := blk_frozen BK301.out 1
      have hfz56_2 := blk_frozen BK301.out 2
      obtain ⟨Ao57, co57, eo57⟩ := Kd.R_slice HO_302002.out
      subst eo57
      have p51 : 0 ≤ (x10_1 : Int) := of_decide_eq_true (by first | (with_reducible assumption) | assumption)
      have q51 : (x10_1 : Int) < ((x302002_1.length : Int) : Int) := of_decide_eq_true (by first | (with_reducible assumption) | assumption)
      obtain ⟨go51, co51, eo51, gb51, gl51, cl51, HG51⟩ := Kd.R_form HO_302002.out (by omega)
      (first | cases eo51 | (injection eo51 with ea_ en_ ec_; (first | subst ea_ | (injection ea_ with ea_; subst ea_)); subst ec_; clear en_))
      have GB51 := aMk gb51
      have GG51 := aMk HG51
      clear gb51 gl51 HG51
      obtain ⟨hx51_0, hf51_0⟩ := Kd.R_celln (⟨#[]⟩ : ByteArray) HO_302002.out (x10_1 : Int) p51 q51
      replace p51 := eq_true p51
      replace q51 := eq_true q51
      have HP58 := Kd.R_putg HO_302002.out (x10_1 : Int) (⟨#[115, 112, 111, 105, 108, 116]⟩ : ByteArray)
      go_wp2_with (first | ((with_reducible refine gate_store (t := 9) (p := 45) rfl ?_); refine YtkjjdpnpcjfgeaaW.PrintWords.store_event (t := 9) (p := 45) (v := ?vo_w59) (w1 := (wr.setCell ⟨go51, (x10_1 : Int).toNat, none⟩ (.string (⟨#[115, 112, 111, 105, 108, 116]⟩ : ByteArray)))) ?hg ?ho ?hn ?hr ?_; (case ho => rfl); (case hg => rfl); (case hn => rfl); (case hr => first | (go_simp; done) | (go_simp; rfl)); intro w59 hw; have hg : wr.grownBy w59 (some go51) := (by rw [hw]; exact HP58.2); have hp_ : Kd.R Kd.string 9 w59 w.heap.size (fun k_ => some k_ ≠ (u291002 : Value).ownBlock ∧ some k_ ≠ (u311002 : Value).ownBlock) (.slice (some ⟨go51, 0, none⟩) x302002_1.length co57) y311 := (by rw [hw, Ny311.out]; exact HP58.1); clear HP58; have n0_ := aMk (Kd.S_after (v := (.slice (some ⟨go51, 0, none⟩) x302002_1.length co57)) (v1 := (.slice (some ⟨go51, 0, none⟩) x302002_1.length co57)) (ok := (fun k_ => some k_ ≠ (u291002 : Value).ownBlock ∧ some k_ ≠ (u311002 : Value).ownBlock)) (by (with_reducible repeat (first | apply Kd.S_alloc | apply Kd.S_drewN | apply Kd.S_drew)); exact Kd.S_mono HO_6.out (fun _ hk => ⟨⟨hk.1, hk.2.2⟩, hk.2.1⟩)) hg (.inl rfl)); have n1_ := aMk (Kd.R_after (v := (.slice (some ⟨go51, 0, none⟩) x302002_1.length co57)) (v1 := (.slice (some ⟨go51, 0, none⟩) x302002_1.length co57)) (ok := (fun k_ => some k_ ≠ (u311002 : Value).ownBlock)) (by (with_reducible repeat (first | apply rA | apply rN | apply rD)); exact Kd.R_mono HO_291002.out (fun _ hk => ⟨hk.2, hk.1⟩)) hg (.inl rfl)); have n2_ := aMk (hp_); have n3_ := aMk (Kd.R_after (v := (.slice (some ⟨go51, 0, none⟩) x302002_1.length co57)) (v1 := (.slice (some ⟨go51, 0, none⟩) x302002_1.length co57)) (ok := (fun k_ => some k_ ≠ (u291002 : Value).ownBlock)) (by (with_reducible repeat (first | apply rA | apply rN | apply rD)); exact HO_311002.out) hg (.inl rfl)); have n4_ := aMk (blk_grown (g := gb283) (o := .cells #[.int .i64 t276, .int .i64 t277] 27 (0, 0)) (by (with_reducible repeat (first | apply bA | apply bN | apply bD)); exact BK283.out) hg (Kd.R_ne HO_302002.out BK283.out (by decide))); have n5_ := aMk (blk_grown (g := gb284) (o := .cells #[.int .i64 t278, .int .i64 t279] 23 (0, 0)) (by (with_reducible repeat (first | apply bA | apply bN | apply bD)); exact BK284.out) hg (Kd.R_ne HO_302002.out BK284.out (by decide))); have n6_ := aMk (blk_grown (g := gb290) (o := .cells #[.int .u64 t285, .int .i64 t286, u291002] 33 (0, 0)) (by (with_reducible repeat (first | apply bA | apply bN | apply bD)); exact BK290.out) hg (Kd.R_ne HO_302002.out BK290.out (by decide))); have n7_ := aMk (blk_grown (g := gb301) (o := .cells #[.int .u64 t296, .int .i64 t297, .slice (some ⟨go51, 0, none⟩) x302002_1.length co57] 33 (0, 0)) (by (with_reducible repeat (first | apply bA | apply bN | apply bD)); exact BK301.out) hg (Kd.R_ne HO_302002.out BK301.out (by decide))); have n8_ := aMk (blk_grown (g := gb310) (o := .cells #[.int .u64 t305, .int .i64 t306, u311002] 33 (0, 0)) (by (with_reducible repeat (first | apply bA | apply bN | apply bD)); exact BK310.out) hg (Kd.R_ne HO_302002.out BK310.out (by decide))); have n9_ := aMk ((by rw [hw]; exact eS (HB.out) GB51.out : Below w.heap.size w w59)); clear HO_6; clear HO_291002; clear HO_302002; clear HO_311002; clear BK283; clear BK284; clear BK290; clear BK301; clear BK310; clear HB; have HO_6 := n0_; have HO_291002 := n1_; have HO_302002 := n2_; have HO_311002 := n3_; have BK283 := n4_; have BK284 := n5_; have BK290 := n6_; have BK301 := n7_; have BK310 := n8_; have HB := n9_; clear n0_ n1_ n2_ n3_ n4_ n5_ n6_ n7_ n8_ n9_; clear hg hw hp_))
      go_roundg k1
      case measure => have := HK1.out; omega
      case rel => exact ⟨(wrap64 (x10_1 + 1)), (x291002_1), (y311), (x311002_1), (u291002), (.slice (some ⟨go51, 0, none⟩) x302002_1.length co57), (u311002), (by first | rfl | (simp; done) | (simp [*]; done)), H', ⟨by have := HK1.out; omega⟩, ⟨by (with_reducible repeat (first | apply Kd.S_alloc | apply Kd.S_drewN | apply Kd.S_drew)); exact Kd.S_mono HO_6.out (fun _ hk => ⟨hk.1.1, ⟨hk.2, hk.1.2⟩⟩)⟩, ⟨by (with_reducible repeat (first | apply rA | apply rN | apply rD)); exact Kd.R_mono HO_291002.out (fun _ hk => ⟨hk.2, hk.1⟩)⟩, ⟨by (with_reducible repeat (first | apply rA | apply rN | apply rD)); exact HO_302002.out⟩, ⟨by (with_reducible repeat (first | apply rA | apply rN | apply rD)); exact HO_311002.out⟩, ⟨by (with_reducible repeat (first | apply bA | apply bN | apply bD)); exact BK283.out⟩, ⟨by (with_reducible repeat (first | apply bA | apply bN | apply bD)); exact BK284.out⟩, ⟨by (with_reducible repeat (first | apply bA | apply bN | apply bD)); exact BK290.out⟩, ⟨by (with_reducible repeat (first | apply bA | apply bN | apply bD)); exact BK301.out⟩, ⟨by (with_reducible repeat (first | apply bA | apply bN | apply bD)); exact BK310.out⟩, ⟨by repeat (first | (with_reducible first | exact HB.out | apply eA | apply eN | apply eD | refine eS ?_ GE283.out | refine eS ?_ GE284.out | refine eS ?_ GE290.out | refine eS ?_ GE301.out | refine eS ?_ GE310.out) | exact HB.out)⟩⟩
     ·rw [if_neg c50] at H
      exact absurd H (by simp)
    ·rw [if_neg c49] at H
     have c49b0 : decide (x10_1 < (x302002_1.length : Int)) = false := decide_eq_false c49
     clear c49
     have H' := aMk H
     clear H
     have hnb60 := NB301_283.out
     have hnc60 := NB283_301.out
     have hnb61 := NB301_284.out
     have hnc61 := NB284_301.out
     have hnb62 := NB301_290.out
     have hnc62 := NB290_301.out
     have hnb63 := NB301_310.out
     have hnc63 := NB310_301.out
     have hcz64_0 : wr.cell? ⟨gb301, 0, none⟩ = some (.int .u64 t296) := (blk_cell BK301.out 0).trans rfl
     have hcz64_1 : wr.cell? ⟨gb301, 1, none⟩ = some (.int .i64 t297) := (blk_cell BK301.out 1).trans rfl
     have hcz64_2 : wr.cell? ⟨gb301, 2, none⟩ = some (u302002) := (blk_cell BK301.out 2).trans rfl
     have hfz64_0 := blk_frozen BK301.out 0
     have hfz64_1 := blk_frozen BK301.out 1
     have hfz64_2 := blk_frozen BK301.out 2
     obtain ⟨Ao65, co65, eo65⟩ := Kd.R_slice HO_302002.out
     subst eo65
     go_wp2
     go_loopg [11] k1 (fun kq v11 w' => ∃ (x11_2 : Int) (x291002_2 : List ByteArray) (x302002_2 : List ByteArray) (x311002_2 : List ByteArray) (u291002 : Value) (u302002 : Value) (u311002 : Value), v11 = .int .i64 x11_2 ∧ Aside0 (gristmilllaw06_AggOwn.l1 kq t280 x11_2 t278 t279 t285 t286 x291002_2 t305 t306 x311002_2 = some r) ∧ Aside0 (kq ≤ k1) ∧ Aside0 (Kd.S k39 39 w' w.heap.size (fun k_ => some k_ ≠ (u291002 : Value).ownBlock ∧ some k_ ≠ (u302002 : Value).ownBlock ∧ some k_ ≠ (u311002 : Value).ownBlock) (.slice Ao16 t280.length co16) t280) ∧ Aside0 (Kd.R Kd.string 9 w' w.heap.size (fun k_ => some k_ ≠ (u302002 : Value).ownBlock ∧ some k_ ≠ (u311002 : Value).ownBlock) u291002 x291002_2) ∧ Aside0 (Kd.R Kd.string 9 w' w.heap.size (fun k_ => some k_ ≠ (u291002 : Value).ownBlock ∧ some k_ ≠ (u311002 : Value).ownBlock) u302002 x302002_2) ∧ Aside0 (Kd.R Kd.string 9 w' w.heap.size (fun k_ => some k_ ≠ (u291002 : Value).ownBlock ∧ some k_ ≠ (u302002 : Value).ownBlock) u311002 x311002_2) ∧ Aside0 (w'.heap[gb283]? = some (.cells #[.int .i64 t276, .int .i64 t277] 27 (0, 0))) ∧ Aside0 (w'.heap[gb284]? = some (.cells #[.int .i64 t278, .int .i64 t279] 23 (0, 0))) ∧ Aside0 (w'.heap[gb290]? = some (.cells #[.int .u64 t285, .int .i64 t286, u291002] 33 (0, 0))) ∧ Aside0 (w'.heap[gb301]? = some (.cells #[.int .u64 t296, .int .i64 t297, u302002] 33 (0, 0))) ∧ Aside0 (w'.heap[gb310]? = some (.cells #[.int .u64 t305, .int .i64 t306, u311002] 33 (0, 0))) ∧ Aside0 (Below w.heap.size w w'))
     case atStart => exact ⟨(0), (x291002_1), (x302002_1), (x311002_1), (u291002), (.slice Ao65 x302002_1.length co65), (u311002), (by first | rfl | (simp; done) | (simp [*]; done)), H', ⟨Nat.le_refl _⟩, ⟨by (with_reducible repeat (first | apply Kd.S_alloc | apply Kd.S_drewN | apply Kd.S_drew)); exact HO_6.out⟩, ⟨by (with_reducible repeat (first | apply rA | apply rN | apply rD)); exact HO_291002.out⟩, ⟨by (with_reducible repeat (first | apply rA | apply rN | apply rD)); exact HO_302002.out⟩, ⟨by (with_reducible repeat (first | apply rA | apply rN | apply rD)); exact HO_311002.out⟩, ⟨by (with_reducible repeat (first | apply bA | apply bN | apply bD)); exact BK283.out⟩, ⟨by (with_reducible repeat (first | apply bA | apply bN | apply bD)); exact BK284.out⟩, ⟨by (with_reducible repeat (first | apply bA | apply bN | apply bD)); exact BK290.out⟩, ⟨by (with_reducible repeat (first | apply bA | apply bN | apply bD)); exact BK301.out⟩, ⟨by (with_reducible repeat (first | apply bA | apply bN | apply bD)); exact BK310.out⟩, ⟨by repeat (first | (with_reducible first | exact HB.out | apply eA | apply eN | apply eD | refine eS ?_ GE283.out | refine eS ?_ GE284.out | refine eS ?_ GE290.out | refine eS ?_ GE301.out | refine eS ?_ GE310.out) | exact HB.out)⟩⟩
     case round =>
      clear H'
      try clear c1
      try clear c2
      try clear p2
      try clear c3
      try clear c4
      try clear c5
      try clear p5
      try clear q5
      try clear hx5
      try clear hf5
      try clear c6
      try clear p6
      try clear c7
      try clear c8
      try clear c10
      try clear c11
      try clear c12
      try clear c13
      try clear c19
      try clear c20
      try clear c34
      try clear c36
      try clear c43
      try clear c44
      try clear c45
      try clear c46
      try clear c49
      try clear c49b0
      try clear c50
      try clear c50b0
      try clear p51
      try clear q51
      try clear hx51
      try clear hf51
      try clear c52
      try clear c53
      try clear c54
      try clear c55
      try clear c60
      try clear c61
      try clear c62
      try clear c63
      try clear p64
      try clear hcz14_0
      try clear hcz14_1
      try clear hcz15_0
      try clear hcz15_1
      try clear hcz21_0
      try clear hcz21_1
      try clear hcz21_2
      try clear hcz35_0
      try clear hcz35_1
      try clear hcz37_0
      try clear hcz37_1
      try clear hcz37_2
      try clear hcz47_0
      try clear hcz47_1
      try clear hcz47_2
      try clear hcz56_0
      try clear hcz56_1
      try clear hcz56_2
      try clear hcz64_0
      try clear hcz64_1
      try clear hcz64_2
      try clear hfz14_0
      try clear hfz14_1
      try clear hfz15_0
      try clear hfz15_1
      try clear hfz21_0
      try clear hfz21_1
      try clear hfz21_2
      try clear hfz35_0
      try clear hfz35_1
      try clear hfz37_0
      try clear hfz37_1
      try clear hfz37_2
      try clear hfz47_0
      try clear hfz47_1
      try clear hfz47_2
      try clear hfz56_0
      try clear hfz56_1
      try clear hfz56_2
      try clear hfz64_0
      try clear hfz64_1
      try clear hfz64_2
      try clear hx51_0
      try clear p2
      try clear p51
      try clear q51
      obtain ⟨x11_2, x291002_2, x302002_2, x311002_2, u291002, u302002, u311002, rfl, HA, HK2, HO_6, HO_291002, HO_302002, HO_311002, BK283, BK284, BK290, BK301, BK310, HB⟩ := hrel
      cases gk with
      | zero => exact absurd HA.out (by simp [gristmilllaw06_AggOwn.l1])
      | succ k2 =>
       have H := HA.out
       clear HA
       simp only [gristmilllaw06_AggOwn.l1] at H
       by_cases c66 : x11_2 < (x311002_2.length : Int)
       ·rw [if_pos c66] at H
        have c66b0 : decide (x11_2 < (x311002_2.length : Int)) = true := decide_eq_true c66
        clear c66
        by_cases c67 : 0 ≤ x11_2
        ·rw [if_pos c67] at H
         have c67b0 : decide (0 ≤ x11_2) = true := decide_eq_true c67
         clear c67
         obtain ⟨y312, hy312⟩ : ∃ y_ : List ByteArray, y_ = (x311002_2.set (x11_2 : Int).toNat (⟨#[115, 112, 111, 105, 108, 116]⟩ : ByteArray)) := ⟨_, rfl⟩
         replace H : (gristmilllaw06_AggOwn.l1 k2 t280 (wrap64 (x11_2 + 1)) t278 t279 t285 t286 x291002_2 t305 t306 y312) = some r := by first | (rw [hy312]; with_reducible exact H) | (have H2_ := (Option.bind_some _ _).symm.trans H; rw [hy312]; with_reducible exact H2_) | (have H2_ := (Option.bind_some _ _).symm.trans H; with_reducible exact H2_) | with_reducible exact H | (rw [hy312]; exact H) | exact H
         have Ny312 := aMk hy312
         clear hy312
         have H' := aMk H
         clear H
         have hnb69 := NB310_283.out
         have hnc69 := NB283_310.out
         have hnb70 := NB310_284.out
         have hnc70 := NB284_310.out
         have hnb71 := NB310_290.out
         have hnc71 := NB290_310.out
         have hnb72 := NB310_301.out
         have hnc72 := NB301_310.out
         have hcz73_0 : wr.cell? ⟨gb310, 0, none⟩ = some (.int .u64 t305) := (blk_cell BK310.out 0).trans rfl
         have hcz73_1 : wr.cell? ⟨gb310, 1, none⟩ = some (.int .i64 t306) := (blk_cell BK310.out 1).trans rfl
         have hcz73_2 : wr.cell? ⟨gb310, 2, none⟩ = some (u311002) := (blk_cell BK310.out 2).trans rfl
         have hfz73_0 := blk_frozen BK310.out 0
         have hfz73_1 := blk_frozen BK310.out 1
         have hfz73_2 := blk_frozen BK310.out 2
         obtain ⟨Ao74, co74, eo74⟩ := Kd.R_slice HO_311002.out
         subst eo74
         have p68 : 0 ≤ (x11_2 : Int) := of_decide_eq_true (by first | (with_reducible assumption) | assumption)
         have q68 : (x11_2 : Int) < ((x311002_2.length : Int) : Int) := of_decide_eq_true (by first | (with_reducible assumption) | assumption)
         obtain ⟨go68, co68, eo68, gb68, gl68, cl68, HG68⟩ := Kd.R_form HO_311002.out (by omega)
         (first | cases eo68 | (injection eo68 with ea_ en_ ec_; (first | subst ea_ | (injection ea_ with ea_; subst ea_)); subst ec_; clear en_))
         have GB68 := aMk gb68
         have GG68 := aMk HG68
         clear gb68 gl68 HG68
         obtain ⟨hx68_0, hf68_0⟩ := Kd.R_celln (⟨#[]⟩ : ByteArray) HO_311002.out (x11_2 : Int) p68 q68
         replace p68 := eq_true p68
         replace q68 := eq_true q68
         have HP75 := Kd.R_putg HO_311002.out (x11_2 : Int) (⟨#[115, 112, 111, 105, 108, 116]⟩ : ByteArray)
         go_wp2_with (first | ((with_reducible refine gate_store (t := 9) (p := 56) rfl ?_); refine YtkjjdpnpcjfgeaaW.PrintWords.store_event (t := 9) (p := 56) (v := ?vo_w76) (w1 := (wr.setCell ⟨go68, (x11_2 : Int).toNat, none⟩ (.string (⟨#[115, 112, 111, 105, 108, 116]⟩ : ByteArray)))) ?hg ?ho ?hn ?hr ?_; (case ho => rfl); (case hg => rfl); (case hn => rfl); (case hr => first | (go_simp; done) | (go_simp; rfl)); intro w76 hw; have hg : wr.grownBy w76 (some go68) := (by rw [hw]; exact HP75.2); have hp_ : Kd.R Kd.string 9 w76 w.heap.size (fun k_ => some k_ ≠ (u291002 : Value).ownBlock ∧ some k_ ≠ (u302002 : Value).ownBlock) (.slice (some ⟨go68, 0, none⟩) x311002_2.length co74) y312 := (by rw [hw, Ny312.out]; exact HP75.1); clear HP75; have n0_ := aMk (Kd.S_after (v := (.slice (some ⟨go68, 0, none⟩) x311002_2.length co74)) (v1 := (.slice (some ⟨go68, 0, none⟩) x311002_2.length co74)) (ok := (fun k_ => some k_ ≠ (u291002 : Value).ownBlock ∧ some k_ ≠ (u302002 : Value).ownBlock)) (by (with_reducible repeat (first | apply Kd.S_alloc | apply Kd.S_drewN | apply Kd.S_drew)); exact Kd.S_mono HO_6.out (fun _ hk => ⟨⟨hk.1, hk.2.1⟩, hk.2.2⟩)) hg (.inl rfl)); have n1_ := aMk (Kd.R_after (v := (.slice (some ⟨go68, 0, none⟩) x311002_2.length co74)) (v1 := (.slice (some ⟨go68, 0, none⟩) x311002_2.length co74)) (ok := (fun k_ => some k_ ≠ (u302002 : Value).ownBlock)) (by (with_reducible repeat (first | apply rA | apply rN | apply rD)); exact HO_291002.out) hg (.inl rfl)); have n2_ := aMk (Kd.R_after (v := (.slice (some ⟨go68, 0, none⟩) x311002_2.length co74)) (v1 := (.slice (some ⟨go68, 0, none⟩) x311002_2.length co74)) (ok := (fun k_ => some k_ ≠ (u291002 : Value).ownBlock)) (by (with_reducible repeat (first | apply rA | apply rN | apply rD)); exact HO_302002.out) hg (.inl rfl)); have n3_ := aMk (hp_); have n4_ := aMk (blk_grown (g := gb283) (o := .cells #[.int .i64 t276, .int .i64 t277] 27 (0, 0)) (by (with_reducible repeat (first | apply bA | apply bN | apply bD)); exact BK283.out) hg (Kd.R_ne HO_311002.out BK283.out (by decide))); have n5_ := aMk (blk_grown (g := gb284) (o := .cells #[.int .i64 t278, .int .i64 t279] 23 (0, 0)) (by (with_reducible repeat (first | apply bA | apply bN | apply bD)); exact BK284.out) hg (Kd.R_ne HO_311002.out BK284.out (by decide))); have n6_ := aMk (blk_grown (g := gb290) (o := .cells #[.int .u64 t285, .int .i64 t286, u291002] 33 (0, 0)) (by (with_reducible repeat (first | apply bA | apply bN | apply bD)); exact BK290.out) hg (Kd.R_ne HO_311002.out BK290.out (by decide))); have n7_ := aMk (blk_grown (g := gb301) (o := .cells #[.int .u64 t296, .int .i64 t297, u302002] 33 (0, 0)) (by (with_reducible repeat (first | apply bA | apply bN | apply bD)); exact BK301.out) hg (Kd.R_ne HO_311002.out BK301.out (by decide))); have n8_ := aMk (blk_grown (g := gb310) (o := .cells #[.int .u64 t305, .int .i64 t306, .slice (some ⟨go68, 0, none⟩) x311002_2.length co74] 33 (0, 0)) (by (with_reducible repeat (first | apply bA | apply bN | apply bD)); exact BK310.out) hg (Kd.R_ne HO_311002.out BK310.out (by decide))); have n9_ := aMk ((by rw [hw]; exact eS (HB.out) GB68.out : Below w.heap.size w w76)); clear HO_6; clear HO_291002; clear HO_302002; clear HO_311002; clear BK283; clear BK284; clear BK290; clear BK301; clear BK310; clear HB; have HO_6 := n0_; have HO_291002 := n1_; have HO_302002 := n2_; have HO_311002 := n3_; have BK283 := n4_; have BK284 := n5_; have BK290 := n6_; have BK301 := n7_; have BK310 := n8_; have HB := n9_; clear n0_ n1_ n2_ n3_ n4_ n5_ n6_ n7_ n8_ n9_; clear hg hw hp_))
         go_roundg k2
         case measure => have := HK1.out; have := HK2.out; omega
         case rel => exact ⟨(wrap64 (x11_2 + 1)), (x291002_2), (x302002_2), (y312), (u291002), (u302002), (.slice (some ⟨go68, 0, none⟩) x311002_2.length co74), (by first | rfl | (simp; done) | (simp [*]; done)), H', ⟨by have := HK1.out; have := HK2.out; omega⟩, ⟨by (with_reducible repeat (first | apply Kd.S_alloc | apply Kd.S_drewN | apply Kd.S_drew)); exact Kd.S_mono HO_6.out (fun _ hk => ⟨hk.1.1, ⟨hk.1.2, hk.2⟩⟩)⟩, ⟨by (with_reducible repeat (first | apply rA | apply rN | apply rD)); exact HO_291002.out⟩, ⟨by (with_reducible repeat (first | apply rA | apply rN | apply rD)); exact HO_302002.out⟩, ⟨by (with_reducible repeat (first | apply rA | apply rN | apply rD)); exact HO_311002.out⟩, ⟨by (with_reducible repeat (first | apply bA | apply bN | apply bD)); exact BK283.out⟩, ⟨by (with_reducible repeat (first | apply bA | apply bN | apply bD)); exact BK284.out⟩, ⟨by (with_reducible repeat (first | apply bA | apply bN | apply bD)); exact BK290.out⟩, ⟨by (with_reducible repeat (first | apply bA | apply bN | apply bD)); exact BK301.out⟩, ⟨by (with_reducible repeat (first | apply bA | apply bN | apply bD)); exact BK310.out⟩, ⟨by repeat (first | (with_reducible first | exact HB.out | apply eA | apply eN | apply eD | refine eS ?_ GE283.out | refine eS ?_ GE284.out | refine eS ?_ GE290.out | refine eS ?_ GE301.out | refine eS ?_ GE310.out) | exact HB.out)⟩⟩
        ·rw [if_neg c67] at H
         exact absurd H (by simp)
       ·rw [if_neg c66] at H
        have c66b0 : decide (x11_2 < (x311002_2.length : Int)) = false := decide_eq_false c66
        clear c66
        replace H := Option.bind_eq_some_iff.mp H
        obtain ⟨⟨t313, t314, t315⟩, A770, H⟩ := H
        replace H : ((gristmillref06_Same.f k2 t285 t286 x291002_2 t313 t314 t315).bind fun t318 => (some t318)) = some r := H
        have A77 := aMk A770
        clear A770
        replace H := Option.bind_eq_some_iff.mp H
        obtain ⟨t318, A780, H⟩ := H
        replace H : (some t318) = some r := H
        have A78 := aMk A780
        clear A780
        obtain rfl := Option.some.inj H
        have hnb79 := NB310_283.out
        have hnc79 := NB283_310.out
        have hnb80 := NB310_284.out
        have hnc80 := NB284_310.out
        have hnb81 := NB310_290.out
        have hnc81 := NB290_310.out
        have hnb82 := NB310_301.out
        have hnc82 := NB301_310.out
        have hcz83_0 : wr.cell? ⟨gb310, 0, none⟩ = some (.int .u64 t305) := (blk_cell BK310.out 0).trans rfl
        have hcz83_1 : wr.cell? ⟨gb310, 1, none⟩ = some (.int .i64 t306) := (blk_cell BK310.out 1).trans rfl
        have hcz83_2 : wr.cell? ⟨gb310, 2, none⟩ = some (u311002) := (blk_cell BK310.out 2).trans rfl
        have hfz83_0 := blk_frozen BK310.out 0
        have hfz83_1 := blk_frozen BK310.out 1
        have hfz83_2 := blk_frozen BK310.out 2
        obtain ⟨Ao84, co84, eo84⟩ := Kd.R_slice HO_311002.out
        subst eo84
        try go_wp2
        replace HO_6 := aMk (Kd.S_drew HO_6.out)
        replace HO_291002 := aMk (rD HO_291002.out)
        replace HO_302002 := aMk (rD HO_302002.out)
        replace HO_311002 := aMk (rD HO_311002.out)
        replace BK283 := aMk (bD BK283.out)
        replace BK284 := aMk (bD BK284.out)
        replace BK290 := aMk (bD BK290.out)
        replace BK301 := aMk (bD BK301.out)
        replace BK310 := aMk (bD BK310.out)
        replace HB := aMk (eD HB.out)
        refine start_ (n := 6) (S := fun w' => w'.cell? ⟨gb290, 0, none⟩ = some (.int .u64 t285) ∧ w'.cell? ⟨gb290, 1, none⟩ = some (.int .i64 t286) ∧ w'.cell? ⟨gb290, 2, none⟩ = some (u291002) ∧ w'.cell? ⟨gb284, 0, none⟩ = some (.int .i64 t278) ∧ w'.cell? ⟨gb284, 1, none⟩ = some (.int .i64 t279)) (ds := []) #[false, false, false, false, false, false] (by kernel_rfl) rfl rfl ⟨(blk_cell BK290.out 0).trans rfl, (blk_cell BK290.out 1).trans rfl, (blk_cell BK290.out 2).trans rfl, (blk_cell BK284.out 0).trans rfl, (blk_cell BK284.out 1).trans rfl⟩ (fun hHeld => ?_)
        generalize wr.drew = w85 at HO_6 HO_291002 HO_302002 HO_311002 BK283 BK284 BK290 BK301 BK310 HB hHeld ⊢
        refine pure_ (i := 2) (N := some 59) (v := ?_) (a' := ?_) #[false, false, true, false, false, false] rfl rfl (by kernel_rfl) (fun _ _ _ h => h) (Or.inl ⟨by rfl, ?_⟩) ?_ ?_
        rotate_left
        ·intro w'
         go_simp
         with_reducible rfl
        rotate_left
        ·simp only [Act.put, sA, sB, sC, i64_w, i32_w]
         rfl
        refine take_ (i := 0) (N := some 57) (v := ?_) (a' := ?_) #[true, false, true, false, false, false] rfl rfl (by kernel_rfl) (fun _ _ _ h => h) (Or.inl ⟨by rfl, ?_⟩) hHeld ?_ ?_
        rotate_left
        ·rintro w' ⟨s0, s1, s2, s3, s4⟩
         go_simp
         with_reducible rfl
        rotate_left
        ·simp only [Act.put, sA, sB, sC, i64_w, i32_w]
         rfl
        refine take_ (i := 1) (N := some 58) (v := ?_) (a' := ?_) #[true, true, true, false, false, false] rfl rfl (by kernel_rfl) (fun _ _ _ h => h) (Or.inl ⟨by rfl, ?_⟩) hHeld ?_ ?_
        rotate_left
        ·rintro w' ⟨s0, s1, s2, s3, s4⟩
         go_simp
         with_reducible rfl
        rotate_left
        ·simp only [Act.put, sA, sB, sC, i64_w, i32_w]
         rfl
        refine one_ (i := 3) (N := some 60) #[true, true, true, true, false, false] rfl rfl (by kernel_rfl) (by decide) (fun K hK => ?_)
        refine goes_ Try.func13 (by kernel_rfl) rfl #[.agg #[.int .i64 t278, .int .i64 t279], .slice Ao16 t280.length co16] (by rfl) rfl rfl (by (try simp only [List.map_toArray, List.map_cons, List.map_nil]); first | done | rfl | (simp only [List.length_drop, List.length_take]; rfl)) ?_
        with_reducible refine (gristmillref06_Of.calls k2 t278 t279 _ _ t280 t313 t314 t315 _ ?side1 ?side2 A77.out).mono ?_
        (case side1 => repeat (first | exact (Kd.S_reads' HO_6.out).2.2 | (with_reducible refine cA ?_ _) | (with_reducible refine cN ?_ _) | (with_reducible refine cD ?_)))
        (case side2 => exact (Kd.S_reads' HO_6.out).2.1)
        rintro e w86 ⟨v316, rfl, ho0, hb⟩
        refine ⟨_, rfl, ?_⟩
        have HO317 := aMk (Kd.R_lower (Kd.R_new' (Kd.R_new' (Kd.R_new' ho0 (Kd.R_lt (by (with_reducible repeat (first | apply rA | apply rN | apply rD)); exact HO_291002.out))) (Kd.R_lt (by (with_reducible repeat (first | apply rA | apply rN | apply rD)); exact HO_302002.out))) (Kd.R_lt (by (with_reducible repeat (first | apply rA | apply rN | apply rD)); exact HO_311002.out))) (below_size (by repeat (first | (with_reducible first | exact HB.out | apply eA | apply eN | apply eD | refine eS ?_ GE283.out | refine eS ?_ GE284.out | refine eS ?_ GE290.out | refine eS ?_ GE301.out | refine eS ?_ GE310.out) | exact HB.out))))
        replace HO_6 := aMk (Kd.S_elder' (by (with_reducible repeat (first | apply Kd.S_alloc | apply Kd.S_drewN | apply Kd.S_drew)); exact HO_6.out) (Kd.R_base ho0) hb)
        replace HO_291002 := aMk (Kd.R_elder' (by (with_reducible repeat (first | apply rA | apply rN | apply rD)); exact HO_291002.out) (Kd.R_base ho0) hb)
        replace HO_302002 := aMk (Kd.R_elder' (by (with_reducible repeat (first | apply rA | apply rN | apply rD)); exact HO_302002.out) (Kd.R_base ho0) hb)
        replace HO_311002 := aMk (Kd.R_elder' (by (with_reducible repeat (first | apply rA | apply rN | apply rD)); exact HO_311002.out) (Kd.R_base ho0) hb)
        replace BK283 := aMk (blk_below (g := gb283) (o := .cells #[.int .i64 t276, .int .i64 t277] 27 (0, 0)) (by (with_reducible repeat (first | apply bA | apply bN | apply bD)); exact BK283.out) hb)
        replace BK284 := aMk (blk_below (g := gb284) (o := .cells #[.int .i64 t278, .int .i64 t279] 23 (0, 0)) (by (with_reducible repeat (first | apply bA | apply bN | apply bD)); exact BK284.out) hb)
        replace BK290 := aMk (blk_below (g := gb290) (o := .cells #[.int .u64 t285, .int .i64 t286, u291002] 33 (0, 0)) (by (with_reducible repeat (first | apply bA | apply bN | apply bD)); exact BK290.out) hb)
        replace BK301 := aMk (blk_below (g := gb301) (o := .cells #[.int .u64 t296, .int .i64 t297, u302002] 33 (0, 0)) (by (with_reducible repeat (first | apply bA | apply bN | apply bD)); exact BK301.out) hb)
        replace BK310 := aMk (blk_below (g := gb310) (o := .cells #[.int .u64 t305, .int .i64 t306, .slice Ao84 x311002_2.length co84] 33 (0, 0)) (by (with_reducible repeat (first | apply bA | apply bN | apply bD)); exact BK310.out) hb)
        replace HB := aMk (below_step (by repeat (first | (with_reducible first | exact HB.out | apply eA | apply eN | apply eD | refine eS ?_ GE283.out | refine eS ?_ GE284.out | refine eS ?_ GE290.out | refine eS ?_ GE301.out | refine eS ?_ GE310.out) | exact HB.out)) hb)
        (try clear hb)
        (try clear ho0)
        obtain ⟨Ao87, co87, eo87⟩ := Kd.R_slice HO_291002.out
        (first | subst eo87 | (injection eo87 with f1_ f2_ f3_; have f4_ := f1_.symm; have f5_ := f3_.symm; clear f1_ f2_ f3_; subst f4_; subst f5_))
        obtain ⟨Ao88, co88, eo88⟩ := Kd.R_slice HO317.out
        (first | subst eo88 | (injection eo88 with f1_ f2_ f3_; have f4_ := f1_.symm; have f5_ := f3_.symm; clear f1_ f2_ f3_; subst f4_; subst f5_))
        refine hK.out _ _ ⟨(blk_cell BK290.out 0).trans rfl, (blk_cell BK290.out 1).trans rfl, (blk_cell BK290.out 2).trans rfl, (blk_cell BK284.out 0).trans rfl, (blk_cell BK284.out 1).trans rfl⟩ (fun hHeld => ?_)
        clear hK K
        refine norm_ (a' := ?_) ?_ ?_
        rotate_left
        ·show Act.put _ (some 60) _ = _
         simp only [Act.put, sA, sB, sC, i64_w, i32_w]
         rfl
        refine one_ (i := 4) (N := some 61) #[true, true, true, true, true, false] rfl rfl (by kernel_rfl) (by decide) (fun K hK => ?_)
        refine goes_ Try.func9 (by kernel_rfl) rfl #[.agg #[.int .u64 t285, .int .i64 t286, .slice Ao87 x291002_2.length co87], .agg #[.int .u64 t313, .int .i64 t314, .slice Ao88 t315.length co88]] (by rfl) rfl rfl (by (try simp only [List.map_toArray, List.map_cons, List.map_nil]); first | done | rfl | (simp only [List.length_drop, List.length_take]; rfl)) ?_
        with_reducible refine (gristmillref06_Same.calls k2 t285 t286 _ _ x291002_2 t313 t314 _ _ t315 t318 _ ?side1 ?side2 ?side3 ?side4 A78.out).mono ?_
        (case side1 => repeat (first | exact (Kd.R_reads' HO_291002.out).2.2 | (with_reducible refine cA ?_ _) | (with_reducible refine cN ?_ _) | (with_reducible refine cD ?_)))
        (case side2 => exact (Kd.R_reads' HO_291002.out).2.1)
        (case side3 => repeat (first | exact (Kd.R_reads' HO317.out).2.2 | (with_reducible refine cA ?_ _) | (with_reducible refine cN ?_ _) | (with_reducible refine cD ?_)))
        (case side4 => exact (Kd.R_reads' HO317.out).2.1)
        rintro e w89 ⟨rfl, hb⟩
        refine ⟨_, rfl, ?_⟩
        replace HO_6 := aMk (Kd.S_below (by (with_reducible repeat (first | apply Kd.S_alloc | apply Kd.S_drewN | apply Kd.S_drew)); exact HO_6.out) hb)
        replace HO_291002 := aMk (Kd.R_below (by (with_reducible repeat (first | apply rA | apply rN | apply rD)); exact HO_291002.out) hb)
        replace HO_302002 := aMk (Kd.R_below (by (with_reducible repeat (first | apply rA | apply rN | apply rD)); exact HO_302002.out) hb)
        replace HO_311002 := aMk (Kd.R_below (by (with_reducible repeat (first | apply rA | apply rN | apply rD)); exact HO_311002.out) hb)
        replace HO317 := aMk (Kd.R_below (by (with_reducible repeat (first | apply rA | apply rN | apply rD)); exact HO317.out) hb)
        replace BK283 := aMk (blk_below (g := gb283) (o := .cells #[.int .i64 t276, .int .i64 t277] 27 (0, 0)) (by (with_reducible repeat (first | apply bA | apply bN | apply bD)); exact BK283.out) hb)
        replace BK284 := aMk (blk_below (g := gb284) (o := .cells #[.int .i64 t278, .int .i64 t279] 23 (0, 0)) (by (with_reducible repeat (first | apply bA | apply bN | apply bD)); exact BK284.out) hb)
        replace BK290 := aMk (blk_below (g := gb290) (o := .cells #[.int .u64 t285, .int .i64 t286, .slice Ao87 x291002_2.length co87] 33 (0, 0)) (by (with_reducible repeat (first | apply bA | apply bN | apply bD)); exact BK290.out) hb)
        replace BK301 := aMk (blk_below (g := gb301) (o := .cells #[.int .u64 t296, .int .i64 t297, u302002] 33 (0, 0)) (by (with_reducible repeat (first | apply bA | apply bN | apply bD)); exact BK301.out) hb)
        replace BK310 := aMk (blk_below (g := gb310) (o := .cells #[.int .u64 t305, .int .i64 t306, .slice Ao84 x311002_2.length co84] 33 (0, 0)) (by (with_reducible repeat (first | apply bA | apply bN | apply bD)); exact BK310.out) hb)
        replace HB := aMk (below_step (by repeat (first | (with_reducible first | exact HB.out | apply eA | apply eN | apply eD | refine eS ?_ GE283.out | refine eS ?_ GE284.out | refine eS ?_ GE290.out | refine eS ?_ GE301.out | refine eS ?_ GE310.out) | exact HB.out)) hb)
        (try clear hb)
        refine hK.out _ _ ⟨(blk_cell BK290.out 0).trans rfl, (blk_cell BK290.out 1).trans rfl, (blk_cell BK290.out 2).trans rfl, (blk_cell BK284.out 0).trans rfl, (blk_cell BK284.out 1).trans rfl⟩ (fun hHeld => ?_)
        clear hK K
        refine norm_ (a' := ?_) ?_ ?_
        rotate_left
        ·show Act.put _ (some 61) _ = _
         simp only [Act.put, sA, sB, sC, i64_w, i32_w]
         rfl
        refine pure_ (i := 5) (N := some 2) (v := ?_) (a' := ?_) #[true, true, true, true, true, true] rfl rfl (by kernel_rfl) (fun _ _ _ h => h) (Or.inl ⟨by rfl, ?_⟩) ?_ ?_
        rotate_left
        ·intro w'
         go_simp
         with_reducible rfl
        rotate_left
        ·simp only [Act.put, sA, sB, sC, i64_w, i32_w]
         rfl
        refine done_ (by kernel_rfl) ?_
        try go_wp2
        go_ret
        exact ⟨by first | rfl | (simp <;> rfl) | (simp [*] <;> rfl), by repeat (first | (with_reducible first | exact HB.out | apply eA | apply eN | apply eD | refine eS ?_ GE283.out | refine eS ?_ GE284.out | refine eS ?_ GE290.out | refine eS ?_ GE301.out | refine eS ?_ GE310.out) | exact HB.out)⟩
 ·replace c3 := Bool.eq_false_iff.mpr c3
  subst c3
  have H1 : (some false) = some r := by rw [if_neg (show ¬ (false = true) by decide)] at H; exact H
  clear H
  have H := H1
  clear H1
  obtain rfl := Option.some.inj H
  go_enter Try.func4, Try.ntmps4
  go_wp2_with (first | ((with_reducible refine gate_callee (f := 6) rfl ?_); refine goesL_ (some 12) rfl rfl Try.func6 (by kernel_rfl) rfl #[] rfl (by (try simp only [List.map_toArray, List.map_cons, List.map_nil]); first | done | rfl | (simp only [List.length_drop, List.length_take]; rfl)) ?_; (with_reducible refine (gristmilllaw06_awake.calls  false _ A2.out).mono ?_); rintro e w90 ⟨rfl, hb⟩; refine ⟨_, rfl, ?_⟩; replace HB := aMk (below_step (by repeat (first | (with_reducible first | exact HB.out | apply eA | apply eN | apply eD) | exact HB.out)) hb); (try clear hb); (try clear hb2); (try clear hk); (try clear hi)))
  go_ret
  exact ⟨by first | rfl | (simp <;> rfl) | (simp [*] <;> rfl), by repeat (first | (with_reducible first | exact HB.out | apply eA | apply eN | apply eD) | exact HB.out)⟩

end Go.Proofs.Ytkjjdpnpcjfgeaa.QAgg
