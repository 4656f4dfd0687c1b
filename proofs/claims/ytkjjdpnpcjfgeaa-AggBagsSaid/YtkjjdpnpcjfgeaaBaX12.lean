/- Pruned for this claim by a program. -/
import Derived.Test.YtkjjdpnpcjfgeaaBaX0
import Derived.Test.YtkjjdpnpcjfgeaaBaShort
import Derived.Test.YtkjjdpnpcjfgeaaBaHand1
import Derived.Test.YtkjjdpnpcjfgeaaBaX2
import Derived.Test.YtkjjdpnpcjfgeaaBaX4
import Derived.Test.YtkjjdpnpcjfgeaaBaX5
import Derived.Test.YtkjjdpnpcjfgeaaBaX11
namespace Go.Proofs.Ytkjjdpnpcjfgeaa.QAgg
open Go.RowKit Go.Proofs.YtkjjdpnpcjfgeaaW.PrintWords Go.Proofs.YtkjjdpnpcjfgeaaW.PrintLast Go.Proofs.YtkjjdpnpcjfgeaaW.PrintMore Go.Proofs.Ytkjjdpnpcjfgeaa.Short
attribute [local go_sem] max2_int min2_int max_two min_two max_three min_three max_four min_four   -- for this text's walks alone
set_option linter.unusedVariables false
set_option linter.unusedSimpArgs false

mutual
def gristmilllaw06_AggBags.l0 : Nat → List (S39) → List (S39) → Int → Int → Int → Option (Bool)
 | 0, _, _, _, _, _ => none
 | k + 1, x8, x9, x10, x405000, x405001 => if x10 < (x8.length : Int) then (gristmilllaw06_AggBags.l1 k x8 x9 x10 0 x405000 x405001) else ((gristmilllaw06_of.f k x405000 x405001 x9).bind fun bt410 => ((gristmillref04_Own.f k x9).bind fun t415 => ((gristmilllaw06_of.f k x405000 x405001 t415).bind fun bt418 => ((gristmillref06_Same.f k bt410.1 bt410.2.1 bt410.2.2 bt418.1 bt418.2.1 bt418.2.2).bind fun t423 => (some t423)))))
def gristmilllaw06_AggBags.l1 : Nat → List (S39) → List (S39) → Int → Int → Int → Int → Option (Bool)
 | 0, _, _, _, _, _, _ => none
 | k + 1, x8, x9, x10, x11, x405000, x405001 => if 0 ≤ x10 then (if x10 < (x8.length : Int) then (if x11 < (Int.tmod ((rd_T39 x8 x10).f1) 5) then (if x9.length < 2199023255552 then (gristmilllaw06_AggBags.l1 k x8 (x9 ++ [(⟨(⟨(rd_T39 x8 x10).f0.f0, (rd_T39 x8 x10).f0.f1, (rd_T39 x8 x10).f0.f2⟩ : S37), 1⟩ : S39)]) x10 (IntKind.u64.wrap (x11 + 1)) x405000 x405001) else (none)) else (gristmilllaw06_AggBags.l0 k x8 x9 (wrap64 (x10 + 1)) x405000 x405001)) else (none)) else (none)
end
def gristmilllaw06_AggBags.f (k : Nat) (a0_0 : Int) (a0_1 : Int) (l1 : List (S39)) : Option (Bool) := (gristmilllaw06_awake.f).bind fun t395 => (if t395 = true then ((gristmilllaw06_right.f k a0_0 a0_1 l1).bind fun bt396 => (gristmilllaw06_AggBags.l0 k bt396.2.2.2.2 ([] : List (S39)) 0 bt396.2.2.1 bt396.2.2.2.1)) else (some false))
def gristmilllaw06_AggBags.T13 : Bool × List (List Nat × List Nat) := (true, [([], []), ([], []), ([0, 1], [0, 1]), ([], []), ([], []), ([4, 2], [4]), ([3, 5, 5], [3, 5]), ([2, 6, 6], [2, 6]), ([7, 7, 0, 1, 2, 3, 4, 5, 6, 7], [7])])
def gristmilllaw06_AggBags.B13 : List Nat := [0, 0, 3, 0, 0, 23, 63, 127, 255]
theorem gristmilllaw06_AggBags.tab13 : rtab .any (opsOf Try.f5 13) = gristmilllaw06_AggBags.T13 := by kernel_rfl
theorem gristmilllaw06_AggBags.bits13 : waitsOk gristmilllaw06_AggBags.T13.2 gristmilllaw06_AggBags.B13 = true := by kernel_rfl
set_option maxHeartbeats 8000000 in
set_option maxRecDepth 100000 in
theorem gristmilllaw06_AggBags.calls (k : Nat) (a0_0 : Int) (a0_1 : Int) (A1 : Option Addr) (c1 : Nat) (l1 : List (S39)) (r : Bool) (w : World) (hr1 : Kd.C k39 w A1 l1.length l1) (hc1 : l1.length ≤ c1) (h : gristmilllaw06_AggBags.f k a0_0 a0_1 l1 = some r) :
  Calls Try.prog 5 #[.agg #[.int .i64 a0_0, .int .i64 a0_1], .slice A1 l1.length c1] w fun e w' => e = .returned (.bool r) ∧ Below w.heap.size w w' := by
 have hu23 := Try.underlying23
 have hu27 := Try.underlying27
 have hu37 := Try.underlying37
 have hu39 := Try.underlying39
 have HR1 := aMk hr1
 have HC1 := aMk hc1
 clear hr1 hc1
 have HB := aMk (Below.refl w.heap.size w)
 have H : ((gristmilllaw06_awake.f).bind fun t395 => (if t395 = true then ((gristmilllaw06_right.f k a0_0 a0_1 l1).bind fun bt396 => (gristmilllaw06_AggBags.l0 k bt396.2.2.2.2 ([] : List (S39)) 0 bt396.2.2.1 bt396.2.2.2.1)) else (some false))) = some r := h
 clear h
 replace H := Option.bind_eq_some_iff.mp H
 obtain ⟨t395, A30, H⟩ := H
 replace H : (if t395 = true then ((gristmilllaw06_right.f k a0_0 a0_1 l1).bind fun bt396 => (gristmilllaw06_AggBags.l0 k bt396.2.2.2.2 ([] : List (S39)) 0 bt396.2.2.1 bt396.2.2.2.1)) else (some false)) = some r := H
 have A3 := aMk A30
 clear A30
 by_cases c4 : t395 = true
 ·subst c4
  have H1 : ((gristmilllaw06_right.f k a0_0 a0_1 l1).bind fun bt396 => (gristmilllaw06_AggBags.l0 k bt396.2.2.2.2 ([] : List (S39)) 0 bt396.2.2.1 bt396.2.2.2.1)) = some r := by rw [if_pos rfl] at H; exact H
  clear H
  have H := H1
  clear H1
  replace H := Option.bind_eq_some_iff.mp H
  obtain ⟨⟨t396, t397, t398, t399, t400⟩, A50, H⟩ := H
  replace H : (gristmilllaw06_AggBags.l0 k t400 ([] : List (S39)) 0 t398 t399) = some r := H
  have A5 := aMk A50
  clear A50
  have H' := aMk H
  clear H
  go_enter Try.func5, Try.ntmps5
  go_wp2_with (first | ((with_reducible refine gate_dst (N := 2) rfl ?_); refine box_event ?hg (N := 2) ?hd (cs := #[.int .i64 a0_0, .int .i64 a0_1]) (t := 23) ?hr ?_; (case hd => rfl); (case hg => rfl); (case hr => first | (go_simp; done) | (go_simp; rfl)); intro gb394 hg w6 hbox hb; have BK394 := aMk (hbox); have GW394 := aMk ((by rw [hg]; exact (below_size (by repeat (first | (with_reducible first | exact HB.out | apply eA | apply eN | apply eD) | exact HB.out))) : w.heap.size ≤ gb394)); have GE394 := aMk ((by rw [hg]; exact (below_size (by repeat (first | (with_reducible first | exact HB.out | apply eA | apply eN | apply eD) | exact HB.out))) : w.heap.size ≤ gb394)); replace HB := aMk (below_step (by repeat (first | (with_reducible first | exact HB.out | apply eA | apply eN | apply eD) | exact HB.out)) hb); clear hb hbox hg) | ((with_reducible refine gate_callee (f := 6) rfl ?_); refine goesL_ (some 12) rfl rfl Try.func6 (by kernel_rfl) rfl #[] rfl (by (try simp only [List.map_toArray, List.map_cons, List.map_nil]); first | done | rfl | (simp only [List.length_drop, List.length_take]; rfl)) ?_; (with_reducible refine (gristmilllaw06_awake.calls  true _ A3.out).mono ?_); rintro e w7 ⟨rfl, hb⟩; refine ⟨_, rfl, ?_⟩; replace BK394 := aMk (blk_below (g := gb394) (o := .cells #[.int .i64 a0_0, .int .i64 a0_1] 23 (0, 0)) (by (with_reducible repeat (first | apply bA | apply bN | apply bD)); exact BK394.out) hb); replace HB := aMk (below_step (by repeat (first | (with_reducible first | exact HB.out | apply eA | apply eN | apply eD | refine eS ?_ GE394.out) | exact HB.out)) hb); (try clear hb); (try clear hb2); (try clear hk); (try clear hi); have hcz8_0 : w7.cell? ⟨gb394, 0, none⟩ = some (.int .i64 a0_0) := (blk_cell BK394.out 0).trans rfl; have hcz8_1 : w7.cell? ⟨gb394, 1, none⟩ = some (.int .i64 a0_1) := (blk_cell BK394.out 1).trans rfl; have hfz8_0 := blk_frozen BK394.out 0; have hfz8_1 := blk_frozen BK394.out 1) | ((with_reducible refine gate_callee (f := 7) rfl ?_); refine goesL_ (some 18) rfl rfl Try.func7 (by kernel_rfl) rfl #[.agg #[.int .i64 a0_0, .int .i64 a0_1], .slice A1 l1.length c1] rfl (by (try simp only [List.map_toArray, List.map_cons, List.map_nil]); first | done | rfl | (simp only [List.length_drop, List.length_take]; rfl)) ?_; (with_reducible refine (gristmilllaw06_right.calls k a0_0 a0_1 _ _ l1 t396 t397 t398 t399 t400 _ ?side1 ?side2 A5.out).mono ?_); (case side1 => repeat (first | exact (Kd.C_below HR1.out HB.out) | (with_reducible refine cA ?_ _) | (with_reducible refine cN ?_ _) | (with_reducible refine cD ?_))); (case side2 => exact HC1.out); rintro e w9 ⟨v401, rfl, ho0, hb⟩; refine ⟨_, rfl, ?_⟩; have HO402 := aMk (Kd.N_lower (Kd.N_mono (ok' := fun k_ => k_ ≠ gb394) (Kd.S_N (Kd.S_bound ho0)) (fun k_ hk_ => (Kd.freshB (g := gb394) (o := .cells #[.int .i64 a0_0, .int .i64 a0_1] 23 (0, 0)) (by (with_reducible repeat (first | apply bA | apply bN | apply bD)); exact BK394.out) k_ hk_.2.1))) (below_size (by repeat (first | (with_reducible first | exact HB.out | apply eA | apply eN | apply eD | refine eS ?_ GE394.out) | exact HB.out)))); replace BK394 := aMk (blk_below (g := gb394) (o := .cells #[.int .i64 a0_0, .int .i64 a0_1] 23 (0, 0)) (by (with_reducible repeat (first | apply bA | apply bN | apply bD)); exact BK394.out) hb); replace HB := aMk (below_step (by repeat (first | (with_reducible first | exact HB.out | apply eA | apply eN | apply eD | refine eS ?_ GE394.out) | exact HB.out)) hb); (try clear hb); (try clear hb2); (try clear hk); (try clear hi); (try clear ho0)) | ((with_reducible refine gate_dst (N := 6) rfl ?_); refine box_event ?hg (N := 6) ?hd (cs := #[.int .i64 0, .int .i64 0]) (t := 27) ?hr ?_; (case hd => rfl); (case hg => rfl); (case hr => first | (go_simp; done) | (go_simp; rfl)); intro gb403 hg w10 hbox hb; have BK403 := aMk (hbox); have GW403 := aMk ((by rw [hg]; exact (below_size (by repeat (first | (with_reducible first | exact HB.out | apply eA | apply eN | apply eD | refine eS ?_ GE394.out) | exact HB.out))) : w.heap.size ≤ gb403)); have GE403 := aMk ((by rw [hg]; exact (below_size (by repeat (first | (with_reducible first | exact HB.out | apply eA | apply eN | apply eD | refine eS ?_ GE394.out) | exact HB.out))) : w.heap.size ≤ gb403)); have NB394_403 := aMk ((by rw [hg]; exact Nat.ne_of_lt (blk_lt (g := gb394) (o := .cells #[.int .i64 a0_0, .int .i64 a0_1] 23 (0, 0)) (by (with_reducible repeat (first | apply bA | apply bN | apply bD)); exact BK394.out)) : gb394 ≠ gb403)); have NB403_394 := aMk ((by rw [hg]; exact Nat.ne_of_gt (blk_lt (g := gb394) (o := .cells #[.int .i64 a0_0, .int .i64 a0_1] 23 (0, 0)) (by (with_reducible repeat (first | apply bA | apply bN | apply bD)); exact BK394.out)) : gb403 ≠ gb394)); replace HO402 := aMk (Kd.N_below (Kd.N_elderB (by (with_reducible repeat (first | apply Kd.N_alloc | apply Kd.N_drewN | apply Kd.N_drew)); exact HO402.out) gb403 (Nat.le_of_eq hg.symm)) hb); replace BK394 := aMk (blk_below (g := gb394) (o := .cells #[.int .i64 a0_0, .int .i64 a0_1] 23 (0, 0)) (by (with_reducible repeat (first | apply bA | apply bN | apply bD)); exact BK394.out) hb); replace HB := aMk (below_step (by repeat (first | (with_reducible first | exact HB.out | apply eA | apply eN | apply eD | refine eS ?_ GE394.out) | exact HB.out)) hb); clear hb hbox hg) | ((with_reducible refine gate_dst (N := 7) rfl ?_); refine box_event ?hg (N := 7) ?hd (cs := #[.int .i64 0, .int .i64 0]) (t := 23) ?hr ?_; (case hd => rfl); (case hg => rfl); (case hr => first | (go_simp; done) | (go_simp; rfl)); intro gb404 hg w11 hbox hb; have BK404 := aMk (hbox); have GW404 := aMk ((by rw [hg]; exact (below_size (by repeat (first | (with_reducible first | exact HB.out | apply eA | apply eN | apply eD | refine eS ?_ GE394.out | refine eS ?_ GE403.out) | exact HB.out))) : w.heap.size ≤ gb404)); have GE404 := aMk ((by rw [hg]; exact (below_size (by repeat (first | (with_reducible first | exact HB.out | apply eA | apply eN | apply eD | refine eS ?_ GE394.out | refine eS ?_ GE403.out) | exact HB.out))) : w.heap.size ≤ gb404)); have NB394_404 := aMk ((by rw [hg]; exact Nat.ne_of_lt (blk_lt (g := gb394) (o := .cells #[.int .i64 a0_0, .int .i64 a0_1] 23 (0, 0)) (by (with_reducible repeat (first | apply bA | apply bN | apply bD)); exact BK394.out)) : gb394 ≠ gb404)); have NB404_394 := aMk ((by rw [hg]; exact Nat.ne_of_gt (blk_lt (g := gb394) (o := .cells #[.int .i64 a0_0, .int .i64 a0_1] 23 (0, 0)) (by (with_reducible repeat (first | apply bA | apply bN | apply bD)); exact BK394.out)) : gb404 ≠ gb394)); have NB403_404 := aMk ((by rw [hg]; exact Nat.ne_of_lt (blk_lt (g := gb403) (o := .cells #[.int .i64 0, .int .i64 0] 27 (0, 0)) (by (with_reducible repeat (first | apply bA | apply bN | apply bD)); exact BK403.out)) : gb403 ≠ gb404)); have NB404_403 := aMk ((by rw [hg]; exact Nat.ne_of_gt (blk_lt (g := gb403) (o := .cells #[.int .i64 0, .int .i64 0] 27 (0, 0)) (by (with_reducible repeat (first | apply bA | apply bN | apply bD)); exact BK403.out)) : gb404 ≠ gb403)); replace HO402 := aMk (Kd.N_below (Kd.N_elderB (by (with_reducible repeat (first | apply Kd.N_alloc | apply Kd.N_drewN | apply Kd.N_drew)); exact HO402.out) gb404 (Nat.le_of_eq hg.symm)) hb); replace BK394 := aMk (blk_below (g := gb394) (o := .cells #[.int .i64 a0_0, .int .i64 a0_1] 23 (0, 0)) (by (with_reducible repeat (first | apply bA | apply bN | apply bD)); exact BK394.out) hb); replace BK403 := aMk (blk_below (g := gb403) (o := .cells #[.int .i64 0, .int .i64 0] 27 (0, 0)) (by (with_reducible repeat (first | apply bA | apply bN | apply bD)); exact BK403.out) hb); replace HB := aMk (below_step (by repeat (first | (with_reducible first | exact HB.out | apply eA | apply eN | apply eD | refine eS ?_ GE394.out | refine eS ?_ GE403.out) | exact HB.out)) hb); clear hb hbox hg; have hnb12 := NB403_394.out; have hnc12 := NB394_403.out; have hnb13 := NB403_404.out; have hnc13 := NB404_403.out; have hcz14_0 : w11.cell? ⟨gb403, 0, none⟩ = some (.int .i64 0) := (blk_cell BK403.out 0).trans rfl; have hcz14_1 : w11.cell? ⟨gb403, 1, none⟩ = some (.int .i64 0) := (blk_cell BK403.out 1).trans rfl; have hfz14_0 := blk_frozen BK403.out 0; have hfz14_1 := blk_frozen BK403.out 1; have hnb15 := NB404_394.out; have hnc15 := NB394_404.out; have hcz16_0 : w11.cell? ⟨gb404, 0, none⟩ = some (.int .i64 0) := (blk_cell BK404.out 0).trans rfl; have hcz16_1 : w11.cell? ⟨gb404, 1, none⟩ = some (.int .i64 0) := (blk_cell BK404.out 1).trans rfl; have hfz16_0 := blk_frozen BK404.out 0; have hfz16_1 := blk_frozen BK404.out 1))
  go_loopg [9, 10] k (fun kq v9 v10 w' => ∃ (x9_1 : List (S39)) (x10_1 : Int), v10 = .int .i64 x10_1 ∧ Aside0 (gristmilllaw06_AggBags.l0 kq t400 x9_1 x10_1 t398 t399 = some r) ∧ Aside0 (kq ≤ k) ∧ Aside0 (Kd.N k39 39 w' w.heap.size (fun k_ => some k_ ≠ (v9 : Value).ownBlock ∧ k_ ≠ gb394 ∧ k_ ≠ gb403 ∧ k_ ≠ gb404) v401 t400) ∧ Aside0 (Kd.N k39 39 w' w.heap.size (fun k_ => some k_ ≠ (v401 : Value).ownBlock ∧ k_ ≠ gb394 ∧ k_ ≠ gb403 ∧ k_ ≠ gb404) v9 x9_1) ∧ Aside0 (w'.heap[gb394]? = some (.cells #[.int .i64 a0_0, .int .i64 a0_1] 23 (0, 0))) ∧ Aside0 (w'.heap[gb403]? = some (.cells #[.int .i64 t396, .int .i64 t397] 27 (0, 0))) ∧ Aside0 (w'.heap[gb404]? = some (.cells #[.int .i64 t398, .int .i64 t399] 23 (0, 0))) ∧ Aside0 (Below w.heap.size w w'))
  case atStart => exact ⟨(([] : List (S39))), (0), (by first | rfl | (simp; done) | (simp [*]; done)), H', ⟨Nat.le_refl _⟩, ⟨by (with_reducible repeat (first | apply Kd.N_alloc | apply Kd.N_drewN | apply Kd.N_drew)); exact Kd.N_mono (Kd.N_far (p := ⟨gb404, 1, none⟩) (Kd.N_far (p := ⟨gb404, 0, none⟩) (Kd.N_far (p := ⟨gb403, 1, none⟩) (Kd.N_far (p := ⟨gb403, 0, none⟩) (Kd.N_mono (Kd.N_mono HO402.out (fun k_ hk => (⟨hk, hk.1.2⟩ : _ ∧ k_ ≠ gb403))) (fun k_ hk => (⟨hk, hk.1.2⟩ : _ ∧ k_ ≠ gb404))) (fun _ hk => hk.1.2) (.int .i64 t396)) (fun _ hk => hk.1.2) (.int .i64 t397)) (fun _ hk => hk.2) (.int .i64 t398)) (fun _ hk => hk.2) (.int .i64 t399)) (fun _ hk => ⟨(by simp [Value.ownBlock]), ⟨hk.1.1.1.1, ⟨hk.1.1.1.2, hk.1.1.2⟩⟩⟩)⟩, ⟨by first | exact Kd.S_nil _ _ _ _ _ | exact Kd.N_nil _ _ _ _ _ | exact Kd.V_nil _ _ _ _ _ | exact Kd.Q_nil _ _ _ _ _ | exact Kd.R_nil _ _ _ _ _⟩, ⟨by (with_reducible repeat (first | apply bA | apply bN | apply bD)); refine blk_far ?_ NB394_404.out _; (with_reducible repeat (first | apply bA | apply bN | apply bD)); refine blk_far ?_ NB394_404.out _; (with_reducible repeat (first | apply bA | apply bN | apply bD)); refine blk_far ?_ NB394_403.out _; (with_reducible repeat (first | apply bA | apply bN | apply bD)); refine blk_far ?_ NB394_403.out _; (with_reducible repeat (first | apply bA | apply bN | apply bD)); exact BK394.out⟩, ⟨by (with_reducible repeat (first | apply bA | apply bN | apply bD)); refine blk_far ?_ NB403_404.out _; (with_reducible repeat (first | apply bA | apply bN | apply bD)); refine blk_far ?_ NB403_404.out _; (with_reducible repeat (first | apply bA | apply bN | apply bD)); refine blk_put (cs := #[.int .i64 t396, .int .i64 0]) ?_ 1 _ rfl; (with_reducible repeat (first | apply bA | apply bN | apply bD)); refine blk_put (cs := #[.int .i64 0, .int .i64 0]) ?_ 0 _ rfl; (with_reducible repeat (first | apply bA | apply bN | apply bD)); exact BK403.out⟩, ⟨by (with_reducible repeat (first | apply bA | apply bN | apply bD)); refine blk_put (cs := #[.int .i64 t398, .int .i64 0]) ?_ 1 _ rfl; (with_reducible repeat (first | apply bA | apply bN | apply bD)); refine blk_put (cs := #[.int .i64 0, .int .i64 0]) ?_ 0 _ rfl; (with_reducible repeat (first | apply bA | apply bN | apply bD)); refine blk_far ?_ NB404_403.out _; (with_reducible repeat (first | apply bA | apply bN | apply bD)); refine blk_far ?_ NB404_403.out _; (with_reducible repeat (first | apply bA | apply bN | apply bD)); exact BK404.out⟩, ⟨by repeat (first | (with_reducible first | exact HB.out | apply eA | apply eN | apply eD | refine eS ?_ GE394.out | refine eS ?_ GE403.out | refine eS ?_ GE404.out) | exact HB.out)⟩⟩
  case round =>
   clear H'
   try clear c1
   try clear p2
   try clear c4
   try clear c5
   try clear c6
   try clear c7
   try clear c12
   try clear c13
   try clear c15
   try clear hcz14_0
   try clear hcz14_1
   try clear hcz16_0
   try clear hcz16_1
   try clear hcz8_0
   try clear hcz8_1
   try clear hfz14_0
   try clear hfz14_1
   try clear hfz16_0
   try clear hfz16_1
   try clear hfz8_0
   try clear hfz8_1
   obtain ⟨x9_1, x10_1, rfl, HA, HK1, HO_8, HO_9, BK394, BK403, BK404, HB⟩ := hrel
   cases gk with
   | zero => exact absurd HA.out (by simp [gristmilllaw06_AggBags.l0])
   | succ k1 =>
    have H := HA.out
    clear HA
    simp only [gristmilllaw06_AggBags.l0] at H
    by_cases c17 : x10_1 < (t400.length : Int)
    ·rw [if_pos c17] at H
     have c17b0 : decide (x10_1 < (t400.length : Int)) = true := decide_eq_true c17
     clear c17
     have H' := aMk H
     clear H
     obtain ⟨Ao18, co18, eo18⟩ := Kd.N_slice HO_8.out
     subst eo18
     go_wp2
     go_loopg [9, 11] k1 (fun kq v9 v11 w' => ∃ (x9_2 : List (S39)) (x11_2 : Int), v11 = .int .u64 x11_2 ∧ Aside0 (gristmilllaw06_AggBags.l1 kq t400 x9_2 x10_1 x11_2 t398 t399 = some r) ∧ Aside0 (kq ≤ k1) ∧ Aside0 (Kd.N k39 39 w' w.heap.size (fun k_ => some k_ ≠ (v9 : Value).ownBlock ∧ k_ ≠ gb394 ∧ k_ ≠ gb403 ∧ k_ ≠ gb404) (.slice Ao18 t400.length co18) t400) ∧ Aside0 (Kd.N k39 39 w' w.heap.size (fun k_ => some k_ ≠ ((.slice Ao18 t400.length co18) : Value).ownBlock ∧ k_ ≠ gb394 ∧ k_ ≠ gb403 ∧ k_ ≠ gb404) v9 x9_2) ∧ Aside0 (w'.heap[gb394]? = some (.cells #[.int .i64 a0_0, .int .i64 a0_1] 23 (0, 0))) ∧ Aside0 (w'.heap[gb403]? = some (.cells #[.int .i64 t396, .int .i64 t397] 27 (0, 0))) ∧ Aside0 (w'.heap[gb404]? = some (.cells #[.int .i64 t398, .int .i64 t399] 23 (0, 0))) ∧ Aside0 (Below w.heap.size w w'))
     case atStart => exact ⟨(x9_1), (0), (by first | rfl | (simp; done) | (simp [*]; done)), H', ⟨Nat.le_refl _⟩, ⟨by (with_reducible repeat (first | apply Kd.N_alloc | apply Kd.N_drewN | apply Kd.N_drew)); exact HO_8.out⟩, ⟨by (with_reducible repeat (first | apply Kd.N_alloc | apply Kd.N_drewN | apply Kd.N_drew)); exact HO_9.out⟩, ⟨by (with_reducible repeat (first | apply bA | apply bN | apply bD)); exact BK394.out⟩, ⟨by (with_reducible repeat (first | apply bA | apply bN | apply bD)); exact BK403.out⟩, ⟨by (with_reducible repeat (first | apply bA | apply bN | apply bD)); exact BK404.out⟩, ⟨by repeat (first | (with_reducible first | exact HB.out | apply eA | apply eN | apply eD | refine eS ?_ GE394.out | refine eS ?_ GE403.out | refine eS ?_ GE404.out) | exact HB.out)⟩⟩
     case round =>
      clear H'
      try clear c1
      try clear p2
      try clear c4
      try clear c5
      try clear c6
      try clear c7
      try clear c12
      try clear c13
      try clear c15
      try clear c17
      try clear c17b0
      try clear hcz14_0
      try clear hcz14_1
      try clear hcz16_0
      try clear hcz16_1
      try clear hcz8_0
      try clear hcz8_1
      try clear hfz14_0
      try clear hfz14_1
      try clear hfz16_0
      try clear hfz16_1
      try clear hfz8_0
      try clear hfz8_1
      try clear p2
      obtain ⟨x9_2, x11_2, rfl, HA, HK2, HO_8, HO_9, BK394, BK403, BK404, HB⟩ := hrel
      cases gk with
      | zero => exact absurd HA.out (by simp [gristmilllaw06_AggBags.l1])
      | succ k2 =>
       have H := HA.out
       clear HA
       simp only [gristmilllaw06_AggBags.l1] at H
       by_cases c19 : 0 ≤ x10_1
       ·rw [if_pos c19] at H
        have c19b0 : decide (0 ≤ x10_1) = true := decide_eq_true c19
        clear c19
        by_cases c20 : x10_1 < (t400.length : Int)
        ·rw [if_pos c20] at H
         have c20b0 : decide (x10_1 < (t400.length : Int)) = true := decide_eq_true c20
         clear c20
         by_cases c21 : x11_2 < (Int.tmod ((rd_T39 t400 x10_1).f1) 5)
         ·rw [if_pos c21] at H
          have c21b0 : decide (x11_2 < (Int.tmod ((rd_T39 t400 x10_1).f1) 5)) = true := decide_eq_true c21
          clear c21
          by_cases c22 : x9_2.length < 2199023255552
          ·rw [if_pos c22] at H
           have LMc22 := aMk c22
           clear c22
           obtain ⟨y407, hy407⟩ : ∃ y_ : List (S39), y_ = (x9_2 ++ [(⟨(⟨(rd_T39 t400 x10_1).f0.f0, (rd_T39 t400 x10_1).f0.f1, (rd_T39 t400 x10_1).f0.f2⟩ : S37), 1⟩ : S39)]) := ⟨_, rfl⟩
           replace H : (gristmilllaw06_AggBags.l1 k2 t400 y407 x10_1 (IntKind.u64.wrap (x11_2 + 1)) t398 t399) = some r := by first | (rw [hy407]; with_reducible exact H) | (have H2_ := (Option.bind_some _ _).symm.trans H; rw [hy407]; with_reducible exact H2_) | (have H2_ := (Option.bind_some _ _).symm.trans H; with_reducible exact H2_) | with_reducible exact H | (rw [hy407]; exact H) | exact H
           have Ny407 := aMk hy407
           clear hy407
           have H' := aMk H
           clear H
           have p405 : 0 ≤ (x10_1 : Int) := of_decide_eq_true (by first | (with_reducible assumption) | assumption)
           have q405 : x10_1 < (t400.length : Int) := of_decide_eq_true (by first | (with_reducible assumption) | assumption)
           obtain ⟨ad405, A405_1, c405_1, A405_2, c405_2, e405, hx405_0, hx405_1, hx405_2, hx405_3, hl405_1, hi405_1, hl405_2, hi405_2⟩ := at_T39 (Kd.N_reads' HO_8.out).2.2 x10_1 p405 q405
           cases e405
           obtain ⟨ce405, hce405, hMe405, hcc405⟩ := Kd.N_get HO_8.out z39 x10_1 p405 (by first | exact q405 | exact of_decide_eq_true (by first | (with_reducible assumption) | assumption) | (have e_ := (Kd.N_reads' HO_8.out).1; omega))
           obtain ⟨ua405_1, uc405_1, ua405_2, uc405_2, rfl, ul405_1, ge405_1, ul405_2, ge405_2⟩ := k39_openF hMe405
           have hv405_1 := hcc405 1 _ rfl
           rw [add_field _ _ 1 (by omega)] at hv405_1
           replace hv405_1 := Option.some.inj (hv405_1.symm.trans hx405_1)
           injection hv405_1 with hva_ hvn_ hvc_
           rw [hva_] at ge405_1
           rw [hvc_] at ul405_1
           have HL405_1 := aMk (show Kd.V Kd.string 9 _ w.heap.size _ _ ((rd_T39 t400 x10_1).f0.f1) from Kd.V_mk ul405_1 ge405_1)
           clear hva_ hvn_ hvc_ ge405_1 ul405_1
           have hv405_2 := hcc405 2 _ rfl
           rw [add_field _ _ 2 (by omega)] at hv405_2
           replace hv405_2 := Option.some.inj (hv405_2.symm.trans hx405_2)
           injection hv405_2 with hva_ hvn_ hvc_
           rw [hva_] at ge405_2
           rw [hvc_] at ul405_2
           have HL405_2 := aMk (show Kd.V (Kd.int .i64) 2 _ w.heap.size _ _ ((rd_T39 t400 x10_1).f0.f2) from Kd.V_mk ul405_2 ge405_2)
           clear hva_ hvn_ hvc_ ge405_2 ul405_2
           clear hcc405 hce405
           have HR405_1 := aMk hi405_1
           have HC405_1 := aMk hl405_1
           clear hi405_1 hl405_1
           have HR405_2 := aMk hi405_2
           have HC405_2 := aMk hl405_2
           clear hi405_2 hl405_2
           replace p405 := eq_true p405
           replace q405 := eq_true q405
           have p406 : 0 ≤ (x10_1 : Int) := of_decide_eq_true (by first | (with_reducible assumption) | assumption)
           have q406 : x10_1 < (t400.length : Int) := of_decide_eq_true (by first | (with_reducible assumption) | assumption)
           obtain ⟨ad406, A406_1, c406_1, A406_2, c406_2, e406, hx406_0, hx406_1, hx406_2, hx406_3, hl406_1, hi406_1, hl406_2, hi406_2⟩ := at_T39 (Kd.N_reads' HO_8.out).2.2 x10_1 p406 q406
           obtain rfl : ad405 = ad406 := (by injection e406)
           obtain ⟨ce406, hce406, hMe406, hcc406⟩ := Kd.N_get HO_8.out z39 x10_1 p406 (by first | exact q406 | exact of_decide_eq_true (by first | (with_reducible assumption) | assumption) | (have e_ := (Kd.N_reads' HO_8.out).1; omega))
           obtain ⟨ua406_1, uc406_1, ua406_2, uc406_2, rfl, ul406_1, ge406_1, ul406_2, ge406_2⟩ := k39_openF hMe406
           have hv406_1 := hcc406 1 _ rfl
           rw [add_field _ _ 1 (by omega)] at hv406_1
           replace hv406_1 := Option.some.inj (hv406_1.symm.trans hx406_1)
           injection hv406_1 with hva_ hvn_ hvc_
           rw [hva_] at ge406_1
           rw [hvc_] at ul406_1
           have HL406_1 := aMk (show Kd.V Kd.string 9 _ w.heap.size _ _ ((rd_T39 t400 x10_1).f0.f1) from Kd.V_mk ul406_1 ge406_1)
           clear hva_ hvn_ hvc_ ge406_1 ul406_1
           have hv406_2 := hcc406 2 _ rfl
           rw [add_field _ _ 2 (by omega)] at hv406_2
           replace hv406_2 := Option.some.inj (hv406_2.symm.trans hx406_2)
           injection hv406_2 with hva_ hvn_ hvc_
           rw [hva_] at ge406_2
           rw [hvc_] at ul406_2
           have HL406_2 := aMk (show Kd.V (Kd.int .i64) 2 _ w.heap.size _ _ ((rd_T39 t400 x10_1).f0.f2) from Kd.V_mk ul406_2 ge406_2)
           clear hva_ hvn_ hvc_ ge406_2 ul406_2
           clear hcc406 hce406
           have HR406_1 := aMk hi406_1
           have HC406_1 := aMk hl406_1
           clear hi406_1 hl406_1
           have HR406_2 := aMk hi406_2
           have HC406_2 := aMk hl406_2
           clear hi406_2 hl406_2
           replace p406 := eq_true p406
           replace q406 := eq_true q406
           have ea_ := Option.some.inj (hx405_1.symm.trans hx406_1)
           injection ea_ with ea_ en_ ec_
           subst ea_
           subst ec_
           clear en_
           have ea_ := Option.some.inj (hx405_2.symm.trans hx406_2)
           injection ea_ with ea_ en_ ec_
           subst ea_
           subst ec_
           clear en_
           go_wp2_with (first | ((with_reducible refine gate_builtin (b := .append) (xs := #[.tmp 38, .tmp 45]) rfl ?_); at_builtin; refine Kd.N_append k39 (w0 := w) w.heap.size rfl (.tmp 38) (.tmp 45) 24 39 (.agg #[(.int .i64 0), (.slice none 0 0), (.slice none 0 0), (.int .u64 0)]) 64 rfl Try.underlying24 info39 rfl (by decide) (by omega) u9 x9_2 (⟨(⟨(rd_T39 t400 x10_1).f0.f0, (rd_T39 t400 x10_1).f0.f1, (rd_T39 t400 x10_1).f0.f2⟩ : S37), 1⟩ : S39) [.int .i64 ((rd_T39 t400 x10_1).f0.f0), .slice A405_1 ((rd_T39 t400 x10_1).f0.f1).length c405_1, .slice A405_2 ((rd_T39 t400 x10_1).f0.f2).length c405_2, .int .u64 1] (fun k_ => some k_ ≠ (.slice (some ad405) t400.length co18 : Value).ownBlock ∧ k_ ≠ gb394 ∧ k_ ≠ gb403 ∧ k_ ≠ gb404) (fun k_ => ((fun k_ => some k_ ≠ (.slice (some ad405) t400.length co18 : Value).ownBlock ∧ k_ ≠ gb394 ∧ k_ ≠ gb403 ∧ k_ ≠ gb404)) k_ ∧ some k_ ≠ (u9 : Value).ownBlock) rfl rfl ?aP (fun _ hk => hk) ?aF ?aO ?aB ?aS ?aL ?_; (case aP => exact (k39_mkF _ _ (⟨(⟨(rd_T39 t400 x10_1).f0.f0, (rd_T39 t400 x10_1).f0.f1, (rd_T39 t400 x10_1).f0.f2⟩ : S37), 1⟩ : S39) (Kd.V_reads' (Kd.V_mono (ok' := (fun k_ => ((fun k_ => some k_ ≠ (.slice (some ad405) t400.length co18 : Value).ownBlock ∧ k_ ≠ gb394 ∧ k_ ≠ gb403 ∧ k_ ≠ gb404)) k_ ∧ some k_ ≠ (u9 : Value).ownBlock)) (HL406_1.out) (fun k_ hk => ⟨⟨hk.2, ⟨hk.1.2.1, ⟨hk.1.2.2.1, hk.1.2.2.2⟩⟩⟩, hk.1.1⟩))).2.1 (Kd.V_F (Kd.V_mono (ok' := (fun k_ => ((fun k_ => some k_ ≠ (.slice (some ad405) t400.length co18 : Value).ownBlock ∧ k_ ≠ gb394 ∧ k_ ≠ gb403 ∧ k_ ≠ gb404)) k_ ∧ some k_ ≠ (u9 : Value).ownBlock)) (HL406_1.out) (fun k_ hk => ⟨⟨hk.2, ⟨hk.1.2.1, ⟨hk.1.2.2.1, hk.1.2.2.2⟩⟩⟩, hk.1.1⟩))) (Kd.V_reads' (Kd.V_mono (ok' := (fun k_ => ((fun k_ => some k_ ≠ (.slice (some ad405) t400.length co18 : Value).ownBlock ∧ k_ ≠ gb394 ∧ k_ ≠ gb403 ∧ k_ ≠ gb404)) k_ ∧ some k_ ≠ (u9 : Value).ownBlock)) (HL406_2.out) (fun k_ hk => ⟨⟨hk.2, ⟨hk.1.2.1, ⟨hk.1.2.2.1, hk.1.2.2.2⟩⟩⟩, hk.1.1⟩))).2.1 (Kd.V_F (Kd.V_mono (ok' := (fun k_ => ((fun k_ => some k_ ≠ (.slice (some ad405) t400.length co18 : Value).ownBlock ∧ k_ ≠ gb394 ∧ k_ ≠ gb403 ∧ k_ ≠ gb404)) k_ ∧ some k_ ≠ (u9 : Value).ownBlock)) (HL406_2.out) (fun k_ hk => ⟨⟨hk.2, ⟨hk.1.2.1, ⟨hk.1.2.2.1, hk.1.2.2.2⟩⟩⟩, hk.1.1⟩))))); (case aB => exact (by repeat (first | (with_reducible first | exact HB.out | apply eA | apply eN | apply eD | refine eS ?_ GE394.out | refine eS ?_ GE403.out | refine eS ?_ GE404.out) | exact HB.out))); (case aF => exact (fun k_ hk => ⟨Kd.fresh' (Kd.N_lt (by (with_reducible repeat (first | apply Kd.N_alloc | apply Kd.N_drewN | apply Kd.N_drew)); exact HO_8.out)) k_ hk, Kd.freshB (g := gb394) (o := .cells #[.int .i64 a0_0, .int .i64 a0_1] 23 (0, 0)) (by (with_reducible repeat (first | apply bA | apply bN | apply bD)); exact BK394.out) k_ hk, Kd.freshB (g := gb403) (o := .cells #[.int .i64 t396, .int .i64 t397] 27 (0, 0)) (by (with_reducible repeat (first | apply bA | apply bN | apply bD)); exact BK403.out) k_ hk, Kd.freshB (g := gb404) (o := .cells #[.int .i64 t398, .int .i64 t399] 23 (0, 0)) (by (with_reducible repeat (first | apply bA | apply bN | apply bD)); exact BK404.out) k_ hk⟩)); (case aO => exact (by (with_reducible repeat (first | apply Kd.N_alloc | apply Kd.N_drewN | apply Kd.N_drew)); exact HO_9.out)); (case aS => exact (below_size (by repeat (first | (with_reducible first | exact HB.out | apply eA | apply eN | apply eD | refine eS ?_ GE394.out | refine eS ?_ GE403.out | refine eS ?_ GE404.out) | exact HB.out)))); (case aL => have := LMc22.out; omega); intro v408 w23 ho hb hg hat; rw [← Ny407.out] at ho; have HO409 := aMk (ho); replace HO_8 := aMk (Kd.N_afterv (ok := (fun k_ => k_ ≠ gb394 ∧ k_ ≠ gb403 ∧ k_ ≠ gb404)) (by (with_reducible repeat (first | apply Kd.N_alloc | apply Kd.N_drewN | apply Kd.N_drew)); exact Kd.N_mono HO_8.out (fun _ hk => ⟨⟨hk.2.1, ⟨hk.2.2.1, hk.2.2.2⟩⟩, hk.1⟩)) hg hat); replace BK394 := aMk (blk_grown (g := gb394) (o := .cells #[.int .i64 a0_0, .int .i64 a0_1] 23 (0, 0)) (by (with_reducible repeat (first | apply bA | apply bN | apply bD)); exact BK394.out) hg (Kd.N_ne HO_9.out BK394.out (by decide))); replace BK403 := aMk (blk_grown (g := gb403) (o := .cells #[.int .i64 t396, .int .i64 t397] 27 (0, 0)) (by (with_reducible repeat (first | apply bA | apply bN | apply bD)); exact BK403.out) hg (Kd.N_ne HO_9.out BK403.out (by decide))); replace BK404 := aMk (blk_grown (g := gb404) (o := .cells #[.int .i64 t398, .int .i64 t399] 23 (0, 0)) (by (with_reducible repeat (first | apply bA | apply bN | apply bD)); exact BK404.out) hg (Kd.N_ne HO_9.out BK404.out (by decide))); replace HL405_1 := aMk (Kd.V_afterv (ok := (fun k_ => some k_ ≠ (.slice (some ad405) t400.length co18 : Value).ownBlock ∧ k_ ≠ gb394 ∧ k_ ≠ gb403 ∧ k_ ≠ gb404)) (by (with_reducible repeat (first | apply Kd.V_alloc | apply Kd.V_drewN | apply Kd.V_drew)); exact Kd.V_mono HL405_1.out (fun _ hk => ⟨⟨hk.2, ⟨hk.1.2.1, ⟨hk.1.2.2.1, hk.1.2.2.2⟩⟩⟩, hk.1.1⟩)) hg hat); replace HL405_2 := aMk (Kd.V_afterv (ok := (fun k_ => some k_ ≠ (.slice (some ad405) t400.length co18 : Value).ownBlock ∧ k_ ≠ gb394 ∧ k_ ≠ gb403 ∧ k_ ≠ gb404)) (by (with_reducible repeat (first | apply Kd.V_alloc | apply Kd.V_drewN | apply Kd.V_drew)); exact Kd.V_mono HL405_2.out (fun _ hk => ⟨⟨hk.2, ⟨hk.1.2.1, ⟨hk.1.2.2.1, hk.1.2.2.2⟩⟩⟩, hk.1.1⟩)) hg hat); replace HL406_1 := aMk (Kd.V_afterv (ok := (fun k_ => some k_ ≠ (.slice (some ad405) t400.length co18 : Value).ownBlock ∧ k_ ≠ gb394 ∧ k_ ≠ gb403 ∧ k_ ≠ gb404)) (by (with_reducible repeat (first | apply Kd.V_alloc | apply Kd.V_drewN | apply Kd.V_drew)); exact Kd.V_mono HL406_1.out (fun _ hk => ⟨⟨hk.2, ⟨hk.1.2.1, ⟨hk.1.2.2.1, hk.1.2.2.2⟩⟩⟩, hk.1.1⟩)) hg hat); replace HL406_2 := aMk (Kd.V_afterv (ok := (fun k_ => some k_ ≠ (.slice (some ad405) t400.length co18 : Value).ownBlock ∧ k_ ≠ gb394 ∧ k_ ≠ gb403 ∧ k_ ≠ gb404)) (by (with_reducible repeat (first | apply Kd.V_alloc | apply Kd.V_drewN | apply Kd.V_drew)); exact Kd.V_mono HL406_2.out (fun _ hk => ⟨⟨hk.2, ⟨hk.1.2.1, ⟨hk.1.2.2.1, hk.1.2.2.2⟩⟩⟩, hk.1.1⟩)) hg hat); replace HB := aMk (hb); clear HO_9; clear ho hb hg hat))
           go_roundg k2
           case measure => have := HK1.out; have := HK2.out; omega
           case rel => exact ⟨(y407), (IntKind.u64.wrap (x11_2 + 1)), (by first | rfl | (simp; done) | (simp [*]; done)), H', ⟨by have := HK1.out; have := HK2.out; omega⟩, ⟨by (with_reducible repeat (first | apply Kd.N_alloc | apply Kd.N_drewN | apply Kd.N_drew)); exact Kd.N_mono HO_8.out (fun _ hk => ⟨hk.2, ⟨hk.1.1, ⟨hk.1.2.1, hk.1.2.2⟩⟩⟩)⟩, ⟨by (with_reducible repeat (first | apply Kd.N_alloc | apply Kd.N_drewN | apply Kd.N_drew)); exact HO409.out⟩, ⟨by (with_reducible repeat (first | apply bA | apply bN | apply bD)); exact BK394.out⟩, ⟨by (with_reducible repeat (first | apply bA | apply bN | apply bD)); exact BK403.out⟩, ⟨by (with_reducible repeat (first | apply bA | apply bN | apply bD)); exact BK404.out⟩, ⟨by repeat (first | (with_reducible first | exact HB.out | apply eA | apply eN | apply eD | refine eS ?_ GE394.out | refine eS ?_ GE403.out | refine eS ?_ GE404.out) | exact HB.out)⟩⟩
          ·rw [if_neg c22] at H
           exact absurd H (by simp)
         ·rw [if_neg c21] at H
          have c21b0 : decide (x11_2 < (Int.tmod ((rd_T39 t400 x10_1).f1) 5)) = false := decide_eq_false c21
          clear c21
          have H' := aMk H
          clear H
          have p405 : 0 ≤ (x10_1 : Int) := of_decide_eq_true (by first | (with_reducible assumption) | assumption)
          have q405 : x10_1 < (t400.length : Int) := of_decide_eq_true (by first | (with_reducible assumption) | assumption)
          obtain ⟨ad405, A405_1, c405_1, A405_2, c405_2, e405, hx405_0, hx405_1, hx405_2, hx405_3, hl405_1, hi405_1, hl405_2, hi405_2⟩ := at_T39 (Kd.N_reads' HO_8.out).2.2 x10_1 p405 q405
          cases e405
          obtain ⟨ce405, hce405, hMe405, hcc405⟩ := Kd.N_get HO_8.out z39 x10_1 p405 (by first | exact q405 | exact of_decide_eq_true (by first | (with_reducible assumption) | assumption) | (have e_ := (Kd.N_reads' HO_8.out).1; omega))
          obtain ⟨ua405_1, uc405_1, ua405_2, uc405_2, rfl, ul405_1, ge405_1, ul405_2, ge405_2⟩ := k39_openF hMe405
          have hv405_1 := hcc405 1 _ rfl
          rw [add_field _ _ 1 (by omega)] at hv405_1
          replace hv405_1 := Option.some.inj (hv405_1.symm.trans hx405_1)
          injection hv405_1 with hva_ hvn_ hvc_
          rw [hva_] at ge405_1
          rw [hvc_] at ul405_1
          have HL405_1 := aMk (show Kd.V Kd.string 9 _ w.heap.size _ _ ((rd_T39 t400 x10_1).f0.f1) from Kd.V_mk ul405_1 ge405_1)
          clear hva_ hvn_ hvc_ ge405_1 ul405_1
          have hv405_2 := hcc405 2 _ rfl
          rw [add_field _ _ 2 (by omega)] at hv405_2
          replace hv405_2 := Option.some.inj (hv405_2.symm.trans hx405_2)
          injection hv405_2 with hva_ hvn_ hvc_
          rw [hva_] at ge405_2
          rw [hvc_] at ul405_2
          have HL405_2 := aMk (show Kd.V (Kd.int .i64) 2 _ w.heap.size _ _ ((rd_T39 t400 x10_1).f0.f2) from Kd.V_mk ul405_2 ge405_2)
          clear hva_ hvn_ hvc_ ge405_2 ul405_2
          clear hcc405 hce405
          have HR405_1 := aMk hi405_1
          have HC405_1 := aMk hl405_1
          clear hi405_1 hl405_1
          have HR405_2 := aMk hi405_2
          have HC405_2 := aMk hl405_2
          clear hi405_2 hl405_2
          replace p405 := eq_true p405
          replace q405 := eq_true q405
          go_wp2
          go_roundg k2
          case measure => have := HK1.out; have := HK2.out; omega
          case rel => exact ⟨(x9_2), (wrap64 (x10_1 + 1)), (by first | rfl | (simp; done) | (simp [*]; done)), H', ⟨by have := HK1.out; have := HK2.out; omega⟩, ⟨by (with_reducible repeat (first | apply Kd.N_alloc | apply Kd.N_drewN | apply Kd.N_drew)); exact HO_8.out⟩, ⟨by (with_reducible repeat (first | apply Kd.N_alloc | apply Kd.N_drewN | apply Kd.N_drew)); exact HO_9.out⟩, ⟨by (with_reducible repeat (first | apply bA | apply bN | apply bD)); exact BK394.out⟩, ⟨by (with_reducible repeat (first | apply bA | apply bN | apply bD)); exact BK403.out⟩, ⟨by (with_reducible repeat (first | apply bA | apply bN | apply bD)); exact BK404.out⟩, ⟨by repeat (first | (with_reducible first | exact HB.out | apply eA | apply eN | apply eD | refine eS ?_ GE394.out | refine eS ?_ GE403.out | refine eS ?_ GE404.out) | exact HB.out)⟩⟩
        ·rw [if_neg c20] at H
         exact absurd H (by simp)
       ·rw [if_neg c19] at H
        exact absurd H (by simp)
    ·rw [if_neg c17] at H
     have c17b0 : decide (x10_1 < (t400.length : Int)) = false := decide_eq_false c17
     clear c17
     replace H := Option.bind_eq_some_iff.mp H
     obtain ⟨⟨t410, t411, t412⟩, A240, H⟩ := H
     replace H : ((gristmillref04_Own.f k1 x9_1).bind fun t415 => ((gristmilllaw06_of.f k1 t398 t399 t415).bind fun bt418 => ((gristmillref06_Same.f k1 t410 t411 t412 bt418.1 bt418.2.1 bt418.2.2).bind fun t423 => (some t423)))) = some r := H
     have A24 := aMk A240
     clear A240
     replace H := Option.bind_eq_some_iff.mp H
     obtain ⟨t415, A250, H⟩ := H
     replace H : ((gristmilllaw06_of.f k1 t398 t399 t415).bind fun bt418 => ((gristmillref06_Same.f k1 t410 t411 t412 bt418.1 bt418.2.1 bt418.2.2).bind fun t423 => (some t423))) = some r := H
     have A25 := aMk A250
     clear A250
     replace H := Option.bind_eq_some_iff.mp H
     obtain ⟨⟨t418, t419, t420⟩, A260, H⟩ := H
     replace H : ((gristmillref06_Same.f k1 t410 t411 t412 t418 t419 t420).bind fun t423 => (some t423)) = some r := H
     have A26 := aMk A260
     clear A260
     replace H := Option.bind_eq_some_iff.mp H
     obtain ⟨t423, A270, H⟩ := H
     replace H : (some t423) = some r := H
     have A27 := aMk A270
     clear A270
     obtain rfl := Option.some.inj H
     obtain ⟨Ao28, co28, eo28⟩ := Kd.N_slice HO_8.out
     subst eo28
     try go_wp2
     replace HO_8 := aMk (Kd.N_drew HO_8.out)
     replace HO_9 := aMk (Kd.N_drew HO_9.out)
     replace BK394 := aMk (bD BK394.out)
     replace BK403 := aMk (bD BK403.out)
     replace BK404 := aMk (bD BK404.out)
     replace HB := aMk (eD HB.out)
     obtain ⟨Ao30, co30, eo30⟩ := Kd.N_slice HO_9.out
     (first | subst eo30 | (injection eo30 with f1_ f2_ f3_; have f4_ := f1_.symm; have f5_ := f3_.symm; clear f1_ f2_ f3_; subst f4_; subst f5_))
     refine start_ (n := 9) (S := fun w' => w'.cell? ⟨gb404, 0, none⟩ = some (.int .i64 t398) ∧ w'.cell? ⟨gb404, 1, none⟩ = some (.int .i64 t399)) (ds := []) #[false, false, false, false, false, false, false, false, false] (by kernel_rfl) rfl rfl ⟨(blk_cell BK404.out 0).trans rfl, (blk_cell BK404.out 1).trans rfl⟩ (fun hHeld => ?_); refine with_tabW gristmilllaw06_AggBags.tab13 gristmilllaw06_AggBags.bits13 (fun HT_ HW_ => ?_)
     generalize wr.drew = w29 at HO_8 HO_9 BK394 BK403 BK404 HB hHeld ⊢
     refine pure_ (i := 1) (N := some 48) (v := ?_) (a' := ?_) #[false, true, false, false, false, false, false, false, false] rfl rfl (any_of HT_.out (by kernel_rfl)) (fun _ _ _ h => h) (Or.inl ⟨by rfl, ?_⟩) ?_ ?_
     rotate_left
     ·intro w'
      go_simp
      with_reducible rfl
     rotate_left
     ·simp only [Act.put, sA, sB, sC, i64_w, i32_w]
      rfl
     refine pure_ (i := 4) (N := some 51) (v := ?_) (a' := ?_) #[false, true, false, false, true, false, false, false, false] rfl rfl (any_of HT_.out (by kernel_rfl)) (fun _ _ _ h => h) (Or.inl ⟨by rfl, ?_⟩) ?_ ?_
     rotate_left
     ·intro w'
      go_simp
      with_reducible rfl
     rotate_left
     ·simp only [Act.put, sA, sB, sC, i64_w, i32_w]
      rfl
     refine take_ (i := 0) (N := some 47) (v := ?_) (a' := ?_) #[true, true, false, false, true, false, false, false, false] rfl rfl (take_ofW HT_.out HW_.out (by kernel_rfl)) (fun _ _ _ h => h) (Or.inl ⟨by rfl, ?_⟩) hHeld ?_ ?_
     rotate_left
     ·rintro w' ⟨s0, s1⟩
      go_simp
      with_reducible rfl
     rotate_left
     ·simp only [Act.put, sA, sB, sC, i64_w, i32_w]
      rfl
     refine take_ (i := 3) (N := some 50) (v := ?_) (a' := ?_) #[true, true, false, true, true, false, false, false, false] rfl rfl (take_ofW HT_.out HW_.out (by kernel_rfl)) (fun _ _ _ h => h) (Or.inl ⟨by rfl, ?_⟩) hHeld ?_ ?_
     rotate_left
     ·rintro w' ⟨s0, s1⟩
      go_simp
      with_reducible rfl
     rotate_left
     ·simp only [Act.put, sA, sB, sC, i64_w, i32_w]
      rfl
     refine one_ (i := 2) (N := some 49) #[true, true, true, true, true, false, false, false, false] rfl rfl (one_of HT_.out (by kernel_rfl)) (by decide) (fun K hK => ?_)
     refine goes_ Try.func8 (by kernel_rfl) rfl #[.agg #[.int .i64 t398, .int .i64 t399], .slice Ao30 x9_1.length co30] (by rfl) rfl rfl (by (try simp only [List.map_toArray, List.map_cons, List.map_nil]); first | done | rfl | (simp only [List.length_drop, List.length_take]; rfl)) ?_
     with_reducible refine (gristmilllaw06_of.calls k1 t398 t399 _ _ x9_1 t410 t411 t412 _ ?side1 ?side2 A24.out).mono ?_
     (case side1 => repeat (first | exact (Kd.N_reads' HO_9.out).2.2 | (with_reducible refine cA ?_ _) | (with_reducible refine cN ?_ _) | (with_reducible refine cD ?_)))
     (case side2 => exact (Kd.N_reads' HO_9.out).2.1)
     rintro e w31 ⟨v413, rfl, ho0, hb⟩
     refine ⟨_, rfl, ?_⟩
     have HO414 := aMk (Kd.R_lower ho0 (below_size (by repeat (first | (with_reducible first | exact HB.out | apply eA | apply eN | apply eD | refine eS ?_ GE394.out | refine eS ?_ GE403.out | refine eS ?_ GE404.out) | exact HB.out))))
     replace HO_8 := aMk (Kd.N_elder' (by (with_reducible repeat (first | apply Kd.N_alloc | apply Kd.N_drewN | apply Kd.N_drew)); exact HO_8.out) (Kd.R_base ho0) hb)
     replace HO_9 := aMk (Kd.N_elder' (by (with_reducible repeat (first | apply Kd.N_alloc | apply Kd.N_drewN | apply Kd.N_drew)); exact HO_9.out) (Kd.R_base ho0) hb)
     replace BK394 := aMk (blk_below (g := gb394) (o := .cells #[.int .i64 a0_0, .int .i64 a0_1] 23 (0, 0)) (by (with_reducible repeat (first | apply bA | apply bN | apply bD)); exact BK394.out) hb)
     replace BK403 := aMk (blk_below (g := gb403) (o := .cells #[.int .i64 t396, .int .i64 t397] 27 (0, 0)) (by (with_reducible repeat (first | apply bA | apply bN | apply bD)); exact BK403.out) hb)
     replace BK404 := aMk (blk_below (g := gb404) (o := .cells #[.int .i64 t398, .int .i64 t399] 23 (0, 0)) (by (with_reducible repeat (first | apply bA | apply bN | apply bD)); exact BK404.out) hb)
     replace HB := aMk (below_step (by repeat (first | (with_reducible first | exact HB.out | apply eA | apply eN | apply eD | refine eS ?_ GE394.out | refine eS ?_ GE403.out | refine eS ?_ GE404.out) | exact HB.out)) hb)
     (try clear hb)
     (try clear ho0)
     refine hK.out _ _ ⟨(blk_cell BK404.out 0).trans rfl, (blk_cell BK404.out 1).trans rfl⟩ (fun hHeld => ?_)
     clear hK K
     refine norm_ (a' := ?_) ?_ ?_
     rotate_left
     ·show Act.put _ (some 49) _ = _
      simp only [Act.put, sA, sB, sC, i64_w, i32_w]
      rfl
     refine one_ (i := 5) (N := some 52) #[true, true, true, true, true, true, false, false, false] rfl rfl (one_of HT_.out (by kernel_rfl)) (by decide) (fun K hK => ?_)
     refine goes_ Try.func14 (by kernel_rfl) rfl #[.slice Ao30 x9_1.length co30] (by rfl) rfl rfl (by (try simp only [List.map_toArray, List.map_cons, List.map_nil]); first | done | rfl | (simp only [List.length_drop, List.length_take]; rfl)) ?_
     with_reducible refine (gristmillref04_Own.calls k1 (fun k_ => ((some k_ ≠ (.slice Ao28 t400.length co28 : Value).ownBlock ∧ (k_ ≠ gb394 ∧ (k_ ≠ gb403 ∧ k_ ≠ gb404))) ∧ some k_ ≠ (v413 : Value).ownBlock)) _ _ x9_1 t415 _ ?side1 A25.out).mono ?_
     (case side1 => exact Kd.N_V (HO_9.out))
     rintro e w32 ⟨v416, rfl, ho0, hb⟩
     refine ⟨_, rfl, ?_⟩
     have HO417 := aMk (Kd.N_lower (Kd.N_mono (ok' := fun k_ => some k_ ≠ (.slice Ao28 t400.length co28 : Value).ownBlock ∧ some k_ ≠ (v413 : Value).ownBlock ∧ k_ ≠ gb394 ∧ k_ ≠ gb403 ∧ k_ ≠ gb404) ho0 (fun k_ hk_ => ⟨Or.elim hk_ (fun hs_ => hs_.1.1) (fun hn_ => (Kd.fresh' (Kd.N_lt (by (with_reducible repeat (first | apply Kd.N_alloc | apply Kd.N_drewN | apply Kd.N_drew)); exact HO_8.out)) k_ hn_)), Or.elim hk_ (fun hs_ => hs_.2) (fun hn_ => (Kd.fresh' (Kd.R_lt (by (with_reducible repeat (first | apply rA | apply rN | apply rD)); exact HO414.out)) k_ hn_)), Or.elim hk_ (fun hs_ => hs_.1.2.1) (fun hn_ => (Kd.freshB (g := gb394) (o := .cells #[.int .i64 a0_0, .int .i64 a0_1] 23 (0, 0)) (by (with_reducible repeat (first | apply bA | apply bN | apply bD)); exact BK394.out) k_ hn_)), Or.elim hk_ (fun hs_ => hs_.1.2.2.1) (fun hn_ => (Kd.freshB (g := gb403) (o := .cells #[.int .i64 t396, .int .i64 t397] 27 (0, 0)) (by (with_reducible repeat (first | apply bA | apply bN | apply bD)); exact BK403.out) k_ hn_)), Or.elim hk_ (fun hs_ => hs_.1.2.2.2) (fun hn_ => (Kd.freshB (g := gb404) (o := .cells #[.int .i64 t398, .int .i64 t399] 23 (0, 0)) (by (with_reducible repeat (first | apply bA | apply bN | apply bD)); exact BK404.out) k_ hn_))⟩)) (below_size (by repeat (first | (with_reducible first | exact HB.out | apply eA | apply eN | apply eD | refine eS ?_ GE394.out | refine eS ?_ GE403.out | refine eS ?_ GE404.out) | exact HB.out))))
     replace HO_8 := aMk (Kd.N_elder' (by (with_reducible repeat (first | apply Kd.N_alloc | apply Kd.N_drewN | apply Kd.N_drew)); exact HO_8.out) (Kd.N_base ho0) hb)
     replace HO_9 := aMk (Kd.N_elder' (by (with_reducible repeat (first | apply Kd.N_alloc | apply Kd.N_drewN | apply Kd.N_drew)); exact HO_9.out) (Kd.N_base ho0) hb)
     replace HO414 := aMk (Kd.R_below (by (with_reducible repeat (first | apply rA | apply rN | apply rD)); exact HO414.out) hb)
     replace BK394 := aMk (blk_below (g := gb394) (o := .cells #[.int .i64 a0_0, .int .i64 a0_1] 23 (0, 0)) (by (with_reducible repeat (first | apply bA | apply bN | apply bD)); exact BK394.out) hb)
     replace BK403 := aMk (blk_below (g := gb403) (o := .cells #[.int .i64 t396, .int .i64 t397] 27 (0, 0)) (by (with_reducible repeat (first | apply bA | apply bN | apply bD)); exact BK403.out) hb)
     replace BK404 := aMk (blk_below (g := gb404) (o := .cells #[.int .i64 t398, .int .i64 t399] 23 (0, 0)) (by (with_reducible repeat (first | apply bA | apply bN | apply bD)); exact BK404.out) hb)
     replace HB := aMk (below_step (by repeat (first | (with_reducible first | exact HB.out | apply eA | apply eN | apply eD | refine eS ?_ GE394.out | refine eS ?_ GE403.out | refine eS ?_ GE404.out) | exact HB.out)) hb)
     (try clear hb)
     (try clear ho0)
     obtain ⟨Ao33, co33, eo33⟩ := Kd.N_slice HO417.out
     (first | subst eo33 | (injection eo33 with f1_ f2_ f3_; have f4_ := f1_.symm; have f5_ := f3_.symm; clear f1_ f2_ f3_; subst f4_; subst f5_))
     refine hK.out _ _ ⟨(blk_cell BK404.out 0).trans rfl, (blk_cell BK404.out 1).trans rfl⟩ (fun hHeld => ?_)
     clear hK K
     refine norm_ (a' := ?_) ?_ ?_
     rotate_left
     ·show Act.put _ (some 52) _ = _
      simp only [Act.put, sA, sB, sC, i64_w, i32_w]
      rfl
     refine one_ (i := 6) (N := some 53) #[true, true, true, true, true, true, true, false, false] rfl rfl (one_of HT_.out (by kernel_rfl)) (by decide) (fun K hK => ?_)
     refine goes_ Try.func8 (by kernel_rfl) rfl #[.agg #[.int .i64 t398, .int .i64 t399], .slice Ao33 t415.length co33] (by rfl) rfl rfl (by (try simp only [List.map_toArray, List.map_cons, List.map_nil]); first | done | rfl | (simp only [List.length_drop, List.length_take]; rfl)) ?_
     with_reducible refine (gristmilllaw06_of.calls k1 t398 t399 _ _ t415 t418 t419 t420 _ ?side1 ?side2 A26.out).mono ?_
     (case side1 => repeat (first | exact (Kd.N_reads' HO417.out).2.2 | (with_reducible refine cA ?_ _) | (with_reducible refine cN ?_ _) | (with_reducible refine cD ?_)))
     (case side2 => exact (Kd.N_reads' HO417.out).2.1)
     rintro e w34 ⟨v421, rfl, ho0, hb⟩
     refine ⟨_, rfl, ?_⟩
     have HO422 := aMk (Kd.R_lower (Kd.R_new' ho0 (Kd.R_lt (by (with_reducible repeat (first | apply rA | apply rN | apply rD)); exact HO414.out))) (below_size (by repeat (first | (with_reducible first | exact HB.out | apply eA | apply eN | apply eD | refine eS ?_ GE394.out | refine eS ?_ GE403.out | refine eS ?_ GE404.out) | exact HB.out))))
     replace HO_8 := aMk (Kd.N_elder' (by (with_reducible repeat (first | apply Kd.N_alloc | apply Kd.N_drewN | apply Kd.N_drew)); exact HO_8.out) (Kd.R_base ho0) hb)
     replace HO_9 := aMk (Kd.N_elder' (by (with_reducible repeat (first | apply Kd.N_alloc | apply Kd.N_drewN | apply Kd.N_drew)); exact HO_9.out) (Kd.R_base ho0) hb)
     replace HO414 := aMk (Kd.R_elder' (by (with_reducible repeat (first | apply rA | apply rN | apply rD)); exact HO414.out) (Kd.R_base ho0) hb)
     replace HO417 := aMk (Kd.N_elder' (by (with_reducible repeat (first | apply Kd.N_alloc | apply Kd.N_drewN | apply Kd.N_drew)); exact HO417.out) (Kd.R_base ho0) hb)
     replace BK394 := aMk (blk_below (g := gb394) (o := .cells #[.int .i64 a0_0, .int .i64 a0_1] 23 (0, 0)) (by (with_reducible repeat (first | apply bA | apply bN | apply bD)); exact BK394.out) hb)
     replace BK403 := aMk (blk_below (g := gb403) (o := .cells #[.int .i64 t396, .int .i64 t397] 27 (0, 0)) (by (with_reducible repeat (first | apply bA | apply bN | apply bD)); exact BK403.out) hb)
     replace BK404 := aMk (blk_below (g := gb404) (o := .cells #[.int .i64 t398, .int .i64 t399] 23 (0, 0)) (by (with_reducible repeat (first | apply bA | apply bN | apply bD)); exact BK404.out) hb)
     replace HB := aMk (below_step (by repeat (first | (with_reducible first | exact HB.out | apply eA | apply eN | apply eD | refine eS ?_ GE394.out | refine eS ?_ GE403.out | refine eS ?_ GE404.out) | exact HB.out)) hb)
     (try clear hb)
     (try clear ho0)
     obtain ⟨Ao35, co35, eo35⟩ := Kd.R_slice HO414.out
     (first | subst eo35 | (injection eo35 with f1_ f2_ f3_; have f4_ := f1_.symm; have f5_ := f3_.symm; clear f1_ f2_ f3_; subst f4_; subst f5_))
     obtain ⟨Ao36, co36, eo36⟩ := Kd.R_slice HO422.out
     (first | subst eo36 | (injection eo36 with f1_ f2_ f3_; have f4_ := f1_.symm; have f5_ := f3_.symm; clear f1_ f2_ f3_; subst f4_; subst f5_))
     refine hK.out _ _ ⟨(blk_cell BK404.out 0).trans rfl, (blk_cell BK404.out 1).trans rfl⟩ (fun hHeld => ?_)
     clear hK K
     refine norm_ (a' := ?_) ?_ ?_
     rotate_left
     ·show Act.put _ (some 53) _ = _
      simp only [Act.put, sA, sB, sC, i64_w, i32_w]
      rfl
     refine one_ (i := 7) (N := some 54) #[true, true, true, true, true, true, true, true, false] rfl rfl (one_of HT_.out (by kernel_rfl)) (by decide) (fun K hK => ?_)
     refine goes_ Try.func9 (by kernel_rfl) rfl #[.agg #[.int .u64 t410, .int .i64 t411, .slice Ao35 t412.length co35], .agg #[.int .u64 t418, .int .i64 t419, .slice Ao36 t420.length co36]] (by rfl) rfl rfl (by (try simp only [List.map_toArray, List.map_cons, List.map_nil]); first | done | rfl | (simp only [List.length_drop, List.length_take]; rfl)) ?_
     with_reducible refine (gristmillref06_Same.calls k1 t410 t411 _ _ t412 t418 t419 _ _ t420 t423 _ ?side1 ?side2 ?side3 ?side4 A27.out).mono ?_
     (case side1 => repeat (first | exact (Kd.R_reads' HO414.out).2.2 | (with_reducible refine cA ?_ _) | (with_reducible refine cN ?_ _) | (with_reducible refine cD ?_)))
     (case side2 => exact (Kd.R_reads' HO414.out).2.1)
     (case side3 => repeat (first | exact (Kd.R_reads' HO422.out).2.2 | (with_reducible refine cA ?_ _) | (with_reducible refine cN ?_ _) | (with_reducible refine cD ?_)))
     (case side4 => exact (Kd.R_reads' HO422.out).2.1)
     rintro e w37 ⟨rfl, hb⟩
     refine ⟨_, rfl, ?_⟩
     replace HO_8 := aMk (Kd.N_below (by (with_reducible repeat (first | apply Kd.N_alloc | apply Kd.N_drewN | apply Kd.N_drew)); exact HO_8.out) hb)
     replace HO_9 := aMk (Kd.N_below (by (with_reducible repeat (first | apply Kd.N_alloc | apply Kd.N_drewN | apply Kd.N_drew)); exact HO_9.out) hb)
     replace HO414 := aMk (Kd.R_below (by (with_reducible repeat (first | apply rA | apply rN | apply rD)); exact HO414.out) hb)
     replace HO417 := aMk (Kd.N_below (by (with_reducible repeat (first | apply Kd.N_alloc | apply Kd.N_drewN | apply Kd.N_drew)); exact HO417.out) hb)
     replace HO422 := aMk (Kd.R_below (by (with_reducible repeat (first | apply rA | apply rN | apply rD)); exact HO422.out) hb)
     replace BK394 := aMk (blk_below (g := gb394) (o := .cells #[.int .i64 a0_0, .int .i64 a0_1] 23 (0, 0)) (by (with_reducible repeat (first | apply bA | apply bN | apply bD)); exact BK394.out) hb)
     replace BK403 := aMk (blk_below (g := gb403) (o := .cells #[.int .i64 t396, .int .i64 t397] 27 (0, 0)) (by (with_reducible repeat (first | apply bA | apply bN | apply bD)); exact BK403.out) hb)
     replace BK404 := aMk (blk_below (g := gb404) (o := .cells #[.int .i64 t398, .int .i64 t399] 23 (0, 0)) (by (with_reducible repeat (first | apply bA | apply bN | apply bD)); exact BK404.out) hb)
     replace HB := aMk (below_step (by repeat (first | (with_reducible first | exact HB.out | apply eA | apply eN | apply eD | refine eS ?_ GE394.out | refine eS ?_ GE403.out | refine eS ?_ GE404.out) | exact HB.out)) hb)
     (try clear hb)
     refine hK.out _ _ ⟨(blk_cell BK404.out 0).trans rfl, (blk_cell BK404.out 1).trans rfl⟩ (fun hHeld => ?_)
     clear hK K
     refine norm_ (a' := ?_) ?_ ?_
     rotate_left
     ·show Act.put _ (some 54) _ = _
      simp only [Act.put, sA, sB, sC, i64_w, i32_w]
      rfl
     refine pure_ (i := 8) (N := some 4) (v := ?_) (a' := ?_) #[true, true, true, true, true, true, true, true, true] rfl rfl (any_of HT_.out (by kernel_rfl)) (fun _ _ _ h => h) (Or.inl ⟨by rfl, ?_⟩) ?_ ?_
     rotate_left
     ·intro w'
      go_simp
      with_reducible rfl
     rotate_left
     ·simp only [Act.put, sA, sB, sC, i64_w, i32_w]
      rfl
     refine done_ (done_of HT_.out (by kernel_rfl)) ?_
     try go_wp2
     go_ret
     exact ⟨by first | rfl | (simp <;> rfl) | (simp [*] <;> rfl), by repeat (first | (with_reducible first | exact HB.out | apply eA | apply eN | apply eD | refine eS ?_ GE394.out | refine eS ?_ GE403.out | refine eS ?_ GE404.out) | exact HB.out)⟩
 ·replace c4 := Bool.eq_false_iff.mpr c4
  subst c4
  have H1 : (some false) = some r := by rw [if_neg (show ¬ (false = true) by decide)] at H; exact H
  clear H
  have H := H1
  clear H1
  obtain rfl := Option.some.inj H
  go_enter Try.func5, Try.ntmps5
  go_wp2_with (first | ((with_reducible refine gate_dst (N := 2) rfl ?_); refine box_event ?hg (N := 2) ?hd (cs := #[.int .i64 a0_0, .int .i64 a0_1]) (t := 23) ?hr ?_; (case hd => rfl); (case hg => rfl); (case hr => first | (go_simp; done) | (go_simp; rfl)); intro gb394 hg w38 hbox hb; have BK394 := aMk (hbox); have GW394 := aMk ((by rw [hg]; exact (below_size (by repeat (first | (with_reducible first | exact HB.out | apply eA | apply eN | apply eD) | exact HB.out))) : w.heap.size ≤ gb394)); have GE394 := aMk ((by rw [hg]; exact (below_size (by repeat (first | (with_reducible first | exact HB.out | apply eA | apply eN | apply eD) | exact HB.out))) : w.heap.size ≤ gb394)); replace HB := aMk (below_step (by repeat (first | (with_reducible first | exact HB.out | apply eA | apply eN | apply eD) | exact HB.out)) hb); clear hb hbox hg) | ((with_reducible refine gate_callee (f := 6) rfl ?_); refine goesL_ (some 12) rfl rfl Try.func6 (by kernel_rfl) rfl #[] rfl (by (try simp only [List.map_toArray, List.map_cons, List.map_nil]); first | done | rfl | (simp only [List.length_drop, List.length_take]; rfl)) ?_; (with_reducible refine (gristmilllaw06_awake.calls  false _ A3.out).mono ?_); rintro e w39 ⟨rfl, hb⟩; refine ⟨_, rfl, ?_⟩; replace BK394 := aMk (blk_below (g := gb394) (o := .cells #[.int .i64 a0_0, .int .i64 a0_1] 23 (0, 0)) (by (with_reducible repeat (first | apply bA | apply bN | apply bD)); exact BK394.out) hb); replace HB := aMk (below_step (by repeat (first | (with_reducible first | exact HB.out | apply eA | apply eN | apply eD | refine eS ?_ GE394.out) | exact HB.out)) hb); (try clear hb); (try clear hb2); (try clear hk); (try clear hi)))
  go_ret
  exact ⟨by first | rfl | (simp <;> rfl) | (simp [*] <;> rfl), by repeat (first | (with_reducible first | exact HB.out | apply eA | apply eN | apply eD | refine eS ?_ GE394.out) | exact HB.out)⟩

end Go.Proofs.Ytkjjdpnpcjfgeaa.QAgg
