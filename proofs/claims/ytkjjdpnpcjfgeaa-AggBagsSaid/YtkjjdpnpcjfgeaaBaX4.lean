/- Pruned for this claim by a program. -/
import Derived.Test.YtkjjdpnpcjfgeaaBaX0
import Derived.Test.YtkjjdpnpcjfgeaaBaShort
import Derived.Test.YtkjjdpnpcjfgeaaBaHand1
import Derived.Test.YtkjjdpnpcjfgeaaBaX3
namespace Go.Proofs.Ytkjjdpnpcjfgeaa.QAgg
open Go.RowKit Go.Proofs.YtkjjdpnpcjfgeaaW.PrintWords Go.Proofs.YtkjjdpnpcjfgeaaW.PrintLast Go.Proofs.YtkjjdpnpcjfgeaaW.PrintMore Go.Proofs.Ytkjjdpnpcjfgeaa.Short
attribute [local go_sem] max2_int min2_int max_two min_two max_three min_three max_four min_four   -- for this text's walks alone
set_option linter.unusedVariables false
set_option linter.unusedSimpArgs false

mutual
def gristmilllaw06_right.l0 : Nat → List (S39) → List (S39) → Int → Int → Int → Int → Int → Option (Int × Int × Int × Int × (List (S39)))
 | 0, _, _, _, _, _, _, _ => none
 | k + 1, x1, x8, x9, x171000, x171001, x174000, x174001 => if x9 < (x1.length : Int) then (gristmilllaw06_right.j1 k x1 x8 x9 (decide (x9 < 40)) x171000 x171001 x174000 x174001) else (gristmilllaw06_right.j1 k x1 x8 x9 false x171000 x171001 x174000 x174001)
def gristmilllaw06_right.j1 : Nat → List (S39) → List (S39) → Int → Bool → Int → Int → Int → Int → Option (Int × Int × Int × Int × (List (S39)))
 | 0, _, _, _, _, _, _, _, _ => none
 | k + 1, x1, x8, x9, x30, x171000, x171001, x174000, x174001 => if x30 = true then (if 0 ≤ x9 then (if x9 < (x1.length : Int) then (gristmilllaw06_right.l1 k x1 x8 x9 0 x171000 x171001 x174000 x174001 ((rd_T39 x1 x9).f0.f0) (([(⟨#[]⟩ : ByteArray), (⟨#[]⟩ : ByteArray)] : List ByteArray)) (([0, 0] : List Int))) else (none)) else (none)) else (some (x174000, x174001, x171000, x171001, x8))
def gristmilllaw06_right.l1 : Nat → List (S39) → List (S39) → Int → Int → Int → Int → Int → Int → Int → List ByteArray → List Int → Option (Int × Int × Int × Int × (List (S39)))
 | 0, _, _, _, _, _, _, _, _, _, _, _ => none
 | k + 1, x1, x8, x9, x11, x171000, x171001, x174000, x174001, x184000, x184001, x184002 => if x11 < 2 then (if 0 ≤ x9 then (if x9 < (x1.length : Int) then (if x11 < (((rd_T39 x1 x9).f0.f1).length : Int) then (if 0 ≤ x11 then (gristmilllaw06_right.j3 k x1 x8 x9 x11 (decide (((rdOf ByteArray.empty ((rd_T39 x1 x9).f0.f1) x11).size : Int) ≤ 64)) x171000 x171001 x174000 x174001 x184000 x184001 x184002) else (none)) else (gristmilllaw06_right.j3 k x1 x8 x9 x11 false x171000 x171001 x174000 x174001 x184000 x184001 x184002)) else (none)) else (none)) else (if 0 ≤ x9 then (if x9 < (x1.length : Int) then (if x8.length < 2199023255552 then (gristmilllaw06_right.l0 k x1 (x8 ++ [(⟨(⟨x184000, x184001, x184002⟩ : S37), Int.tmod ((rd_T39 x1 x9).f1) 1125899906842624⟩ : S39)]) (wrap64 (x9 + 1)) x171000 x171001 x174000 x174001) else (none)) else (none)) else (none))
def gristmilllaw06_right.j3 : Nat → List (S39) → List (S39) → Int → Int → Bool → Int → Int → Int → Int → Int → List ByteArray → List Int → Option (Int × Int × Int × Int × (List (S39)))
 | 0, _, _, _, _, _, _, _, _, _, _, _, _ => none
 | k + 1, x1, x8, x9, x11, x67, x171000, x171001, x174000, x174001, x184000, x184001, x184002 => if x67 = true then (if 0 ≤ x9 then (if x9 < (x1.length : Int) then (if 0 ≤ x11 then (if x11 < (((rd_T39 x1 x9).f0.f1).length : Int) then (if x11 < (x184001.length : Int) then ((some (x184001.set (x11 : Int).toNat (rdOf ByteArray.empty ((rd_T39 x1 x9).f0.f1) x11) : List ByteArray)).bind fun y193 => (if x11 < (((rd_T39 x1 x9).f0.f2).length : Int) then (if x11 < (x184002.length : Int) then (gristmilllaw06_right.l1 k x1 x8 x9 (wrap64 (x11 + 1)) x171000 x171001 x174000 x174001 x184000 y193 (x184002.set (x11 : Int).toNat (rd ((rd_T39 x1 x9).f0.f2) x11))) else (none)) else (gristmilllaw06_right.l1 k x1 x8 x9 (wrap64 (x11 + 1)) x171000 x171001 x174000 x174001 x184000 y193 x184002))) else (none)) else (none)) else (none)) else (none)) else (none)) else (if 0 ≤ x9 then (if x9 < (x1.length : Int) then (if x11 < (((rd_T39 x1 x9).f0.f2).length : Int) then (if 0 ≤ x11 then (if x11 < (x184002.length : Int) then (gristmilllaw06_right.l1 k x1 x8 x9 (wrap64 (x11 + 1)) x171000 x171001 x174000 x174001 x184000 x184001 (x184002.set (x11 : Int).toNat (rd ((rd_T39 x1 x9).f0.f2) x11))) else (none)) else (none)) else (gristmilllaw06_right.l1 k x1 x8 x9 (wrap64 (x11 + 1)) x171000 x171001 x174000 x174001 x184000 x184001 x184002)) else (none)) else (none))
end
def gristmilllaw06_right.f (k : Nat) (a0_0 : Int) (a0_1 : Int) (l1 : List (S39)) : Option (Int × Int × Int × Int × (List (S39))) := (gristmilllaw06_abs.f a0_0).bind fun t174 => ((gristmilllaw06_abs.f a0_1).bind fun t175 => (gristmilllaw06_right.l0 k l1 ([] : List (S39)) 0 (wrap64 (1 + (Int.tmod t174 5))) (Int.tmod t175 2) 2 2))
def gristmilllaw06_right.T2 : Bool × List (List Nat × List Nat) := (true, [([], []), ([0], [0]), ([1], [1]), ([2], [2]), ([3], [3]), ([], []), ([5], [5]), ([6, 2], [6]), ([7], [7]), ([4, 8], [4, 8]), ([9, 7, 0, 1, 2, 3, 4, 5, 6, 7, 8, 9], [9])])
def gristmilllaw06_right.B2 : List Nat := [0, 1, 3, 7, 15, 0, 32, 103, 231, 511, 1023]
theorem gristmilllaw06_right.tab2 : rtab .any (opsOf Try.f7 2) = gristmilllaw06_right.T2 := by kernel_rfl
theorem gristmilllaw06_right.bits2 : waitsOk gristmilllaw06_right.T2.2 gristmilllaw06_right.B2 = true := by kernel_rfl
def gristmilllaw06_right.T12 : Bool × List (List Nat × List Nat) := (true, [([], []), ([0], [0]), ([], []), ([], []), ([], []), ([3, 4], [3, 4]), ([5], [5]), ([6], [6]), ([7], [7]), ([], []), ([8, 9], [8, 9]), ([10], [10]), ([1, 2, 0, 1, 2, 3, 4, 5, 6, 7, 8, 9, 10, 11], [1, 2]), ([12, 11, 0, 1, 2, 3, 4, 5, 6, 7, 8, 9, 10, 11], [11, 12])])
def gristmilllaw06_right.B12 : List Nat := [0, 1, 0, 0, 0, 24, 56, 120, 248, 0, 1016, 2040, 4095, 8191]
theorem gristmilllaw06_right.tab12 : rtab .any (opsOf Try.f7 12) = gristmilllaw06_right.T12 := by kernel_rfl
theorem gristmilllaw06_right.bits12 : waitsOk gristmilllaw06_right.T12.2 gristmilllaw06_right.B12 = true := by kernel_rfl
def gristmilllaw06_right.T14 : Bool × List (List Nat × List Nat) := (true, [([], []), ([0], [0]), ([], []), ([], []), ([], []), ([3, 4], [3, 4]), ([5], [5]), ([6], [6]), ([7], [7]), ([], []), ([8, 9], [8, 9]), ([10], [10]), ([1, 2, 0, 1, 2, 3, 4, 5, 6, 7, 8, 9, 10, 11], [1, 2]), ([12, 11, 0, 1, 2, 3, 4, 5, 6, 7, 8, 9, 10, 11], [11, 12])])
def gristmilllaw06_right.B14 : List Nat := [0, 1, 0, 0, 0, 24, 56, 120, 248, 0, 1016, 2040, 4095, 8191]
theorem gristmilllaw06_right.tab14 : rtab .any (opsOf Try.f7 14) = gristmilllaw06_right.T14 := by kernel_rfl
theorem gristmilllaw06_right.bits14 : waitsOk gristmilllaw06_right.T14.2 gristmilllaw06_right.B14 = true := by kernel_rfl
def gristmilllaw06_right.T15 : Bool × List (List Nat × List Nat) := (true, [([], []), ([], []), ([], []), ([], []), ([2, 3], [2, 3]), ([4], [4]), ([5], [5]), ([6], [6]), ([1, 7], [1, 7]), ([8], [8]), ([0, 9], [0, 9]), ([10, 10, 0, 1, 2, 3, 4, 5, 6, 7, 8, 9, 10], [0, 10])])
def gristmilllaw06_right.B15 : List Nat := [0, 0, 0, 0, 12, 28, 60, 124, 254, 510, 1023, 2047]
theorem gristmilllaw06_right.tab15 : rtab .any (opsOf Try.f7 15) = gristmilllaw06_right.T15 := by kernel_rfl
theorem gristmilllaw06_right.bits15 : waitsOk gristmilllaw06_right.T15.2 gristmilllaw06_right.B15 = true := by kernel_rfl
set_option maxHeartbeats 8000000 in
set_option maxRecDepth 100000 in
theorem gristmilllaw06_right.calls (k : Nat) (a0_0 : Int) (a0_1 : Int) (A1 : Option Addr) (c1 : Nat) (l1 : List (S39)) (r1 : Int) (r2 : Int) (r3 : Int) (r4 : Int) (r5 : List (S39)) (w : World) (hr1 : Kd.C k39 w A1 l1.length l1) (hc1 : l1.length ≤ c1) (h : gristmilllaw06_right.f k a0_0 a0_1 l1 = some (r1, r2, r3, r4, r5)) :
  Calls Try.prog 7 #[.agg #[.int .i64 a0_0, .int .i64 a0_1], .slice A1 l1.length c1] w fun e w' => ∃ v4_ : Value, e = .returned (.tuple #[.agg #[.int .i64 r1, .int .i64 r2], .agg #[.int .i64 r3, .int .i64 r4], v4_]) ∧ Kd.S k39 39 w' w.heap.size (fun _ => True) v4_ r5 ∧ Below w.heap.size w w' := by
 have hu23 := Try.underlying23
 have hu27 := Try.underlying27
 have hu37 := Try.underlying37
 have hu39 := Try.underlying39
 have HR1 := aMk hr1
 have HC1 := aMk hc1
 clear hr1 hc1
 have HB := aMk (Below.refl w.heap.size w)
 have H : ((gristmilllaw06_abs.f a0_0).bind fun t174 => ((gristmilllaw06_abs.f a0_1).bind fun t175 => (gristmilllaw06_right.l0 k l1 ([] : List (S39)) 0 (wrap64 (1 + (Int.tmod t174 5))) (Int.tmod t175 2) 2 2))) = some (r1, r2, r3, r4, r5) := h
 clear h
 replace H := Option.bind_eq_some_iff.mp H
 obtain ⟨t174, A30, H⟩ := H
 replace H : ((gristmilllaw06_abs.f a0_1).bind fun t175 => (gristmilllaw06_right.l0 k l1 ([] : List (S39)) 0 (wrap64 (1 + (Int.tmod t174 5))) (Int.tmod t175 2) 2 2)) = some (r1, r2, r3, r4, r5) := H
 have A3 := aMk A30
 clear A30
 replace H := Option.bind_eq_some_iff.mp H
 obtain ⟨t175, A40, H⟩ := H
 replace H : (gristmilllaw06_right.l0 k l1 ([] : List (S39)) 0 (wrap64 (1 + (Int.tmod t174 5))) (Int.tmod t175 2) 2 2) = some (r1, r2, r3, r4, r5) := H
 have A4 := aMk A40
 clear A40
 have H' := aMk H
 clear H
 go_enter Try.func7, Try.ntmps7
 try go_wp2_with (first | ((with_reducible refine gate_dst (N := 2) rfl ?_); (try (refine gate_guard (by rfl) ?_; dsimp only)); refine box_event ?hg (N := 2) ?hd (cs := #[.int .i64 a0_0, .int .i64 a0_1]) (t := 23) ?hr ?_; (case hd => rfl); (case hg => rfl); (case hr => first | (go_simp; done) | (go_simp; rfl)); intro gb170 hg w5 hbox hb; have BK170 := aMk (hbox); have GW170 := aMk ((by rw [hg]; exact (below_size (by repeat (first | (with_reducible first | exact HB.out | apply eA | apply eN | apply eD) | exact HB.out))) : w.heap.size ≤ gb170)); have GE170 := aMk ((by rw [hg]; exact (below_size (by repeat (first | (with_reducible first | exact HB.out | apply eA | apply eN | apply eD) | exact HB.out))) : w.heap.size ≤ gb170)); replace HB := aMk (below_step (by repeat (first | (with_reducible first | exact HB.out | apply eA | apply eN | apply eD) | exact HB.out)) hb); clear hb hbox hg) | ((with_reducible refine gate_dst (N := 4) rfl ?_); (try (refine gate_guard (by rfl) ?_; dsimp only)); refine box_event ?hg (N := 4) ?hd (cs := #[.int .i64 0, .int .i64 0]) (t := 27) ?hr ?_; (case hd => rfl); (case hg => rfl); (case hr => first | (go_simp; done) | (go_simp; rfl)); intro gb171 hg w6 hbox hb; have BK171 := aMk (hbox); have GW171 := aMk ((by rw [hg]; exact (below_size (by repeat (first | (with_reducible first | exact HB.out | apply eA | apply eN | apply eD | refine eS ?_ GE170.out) | exact HB.out))) : w.heap.size ≤ gb171)); have GE171 := aMk ((by rw [hg]; exact (below_size (by repeat (first | (with_reducible first | exact HB.out | apply eA | apply eN | apply eD | refine eS ?_ GE170.out) | exact HB.out))) : w.heap.size ≤ gb171)); have NB170_171 := aMk ((by rw [hg]; exact Nat.ne_of_lt (blk_lt (g := gb170) (o := .cells #[.int .i64 a0_0, .int .i64 a0_1] 23 (0, 0)) (by (with_reducible repeat (first | apply bA | apply bN | apply bD)); exact BK170.out)) : gb170 ≠ gb171)); have NB171_170 := aMk ((by rw [hg]; exact Nat.ne_of_gt (blk_lt (g := gb170) (o := .cells #[.int .i64 a0_0, .int .i64 a0_1] 23 (0, 0)) (by (with_reducible repeat (first | apply bA | apply bN | apply bD)); exact BK170.out)) : gb171 ≠ gb170)); replace BK170 := aMk (blk_below (g := gb170) (o := .cells #[.int .i64 a0_0, .int .i64 a0_1] 23 (0, 0)) (by (with_reducible repeat (first | apply bA | apply bN | apply bD)); exact BK170.out) hb); replace HB := aMk (below_step (by repeat (first | (with_reducible first | exact HB.out | apply eA | apply eN | apply eD | refine eS ?_ GE170.out) | exact HB.out)) hb); clear hb hbox hg) | ((with_reducible refine gate_dst (N := 5) rfl ?_); (try (refine gate_guard (by rfl) ?_; dsimp only)); refine box_event ?hg (N := 5) ?hd (cs := #[.int .i64 0, .int .i64 0]) (t := 23) ?hr ?_; (case hd => rfl); (case hg => rfl); (case hr => first | (go_simp; done) | (go_simp; rfl)); intro gb172 hg w7 hbox hb; have BK172 := aMk (hbox); have GW172 := aMk ((by rw [hg]; exact (below_size (by repeat (first | (with_reducible first | exact HB.out | apply eA | apply eN | apply eD | refine eS ?_ GE170.out | refine eS ?_ GE171.out) | exact HB.out))) : w.heap.size ≤ gb172)); have GE172 := aMk ((by rw [hg]; exact (below_size (by repeat (first | (with_reducible first | exact HB.out | apply eA | apply eN | apply eD | refine eS ?_ GE170.out | refine eS ?_ GE171.out) | exact HB.out))) : w.heap.size ≤ gb172)); have NB170_172 := aMk ((by rw [hg]; exact Nat.ne_of_lt (blk_lt (g := gb170) (o := .cells #[.int .i64 a0_0, .int .i64 a0_1] 23 (0, 0)) (by (with_reducible repeat (first | apply bA | apply bN | apply bD)); exact BK170.out)) : gb170 ≠ gb172)); have NB172_170 := aMk ((by rw [hg]; exact Nat.ne_of_gt (blk_lt (g := gb170) (o := .cells #[.int .i64 a0_0, .int .i64 a0_1] 23 (0, 0)) (by (with_reducible repeat (first | apply bA | apply bN | apply bD)); exact BK170.out)) : gb172 ≠ gb170)); have NB171_172 := aMk ((by rw [hg]; exact Nat.ne_of_lt (blk_lt (g := gb171) (o := .cells #[.int .i64 0, .int .i64 0] 27 (0, 0)) (by (with_reducible repeat (first | apply bA | apply bN | apply bD)); exact BK171.out)) : gb171 ≠ gb172)); have NB172_171 := aMk ((by rw [hg]; exact Nat.ne_of_gt (blk_lt (g := gb171) (o := .cells #[.int .i64 0, .int .i64 0] 27 (0, 0)) (by (with_reducible repeat (first | apply bA | apply bN | apply bD)); exact BK171.out)) : gb172 ≠ gb171)); replace BK170 := aMk (blk_below (g := gb170) (o := .cells #[.int .i64 a0_0, .int .i64 a0_1] 23 (0, 0)) (by (with_reducible repeat (first | apply bA | apply bN | apply bD)); exact BK170.out) hb); replace BK171 := aMk (blk_below (g := gb171) (o := .cells #[.int .i64 0, .int .i64 0] 27 (0, 0)) (by (with_reducible repeat (first | apply bA | apply bN | apply bD)); exact BK171.out) hb); replace HB := aMk (below_step (by repeat (first | (with_reducible first | exact HB.out | apply eA | apply eN | apply eD | refine eS ?_ GE170.out | refine eS ?_ GE171.out) | exact HB.out)) hb); clear hb hbox hg) | ((with_reducible refine gate_dst (N := 7) rfl ?_); (try (refine gate_guard (by rfl) ?_; dsimp only)); refine box_event ?hg (N := 7) ?hd (cs := #[.int .i64 0, .int .i64 0]) (t := 27) ?hr ?_; (case hd => rfl); (case hg => rfl); (case hr => first | (go_simp; done) | (go_simp; rfl)); intro gb173 hg w8 hbox hb; have BK173 := aMk (hbox); have GW173 := aMk ((by rw [hg]; exact (below_size (by repeat (first | (with_reducible first | exact HB.out | apply eA | apply eN | apply eD | refine eS ?_ GE170.out | refine eS ?_ GE171.out | refine eS ?_ GE172.out) | exact HB.out))) : w.heap.size ≤ gb173)); have GE173 := aMk ((by rw [hg]; exact (below_size (by repeat (first | (with_reducible first | exact HB.out | apply eA | apply eN | apply eD | refine eS ?_ GE170.out | refine eS ?_ GE171.out | refine eS ?_ GE172.out) | exact HB.out))) : w.heap.size ≤ gb173)); have NB170_173 := aMk ((by rw [hg]; exact Nat.ne_of_lt (blk_lt (g := gb170) (o := .cells #[.int .i64 a0_0, .int .i64 a0_1] 23 (0, 0)) (by (with_reducible repeat (first | apply bA | apply bN | apply bD)); exact BK170.out)) : gb170 ≠ gb173)); have NB173_170 := aMk ((by rw [hg]; exact Nat.ne_of_gt (blk_lt (g := gb170) (o := .cells #[.int .i64 a0_0, .int .i64 a0_1] 23 (0, 0)) (by (with_reducible repeat (first | apply bA | apply bN | apply bD)); exact BK170.out)) : gb173 ≠ gb170)); have NB171_173 := aMk ((by rw [hg]; exact Nat.ne_of_lt (blk_lt (g := gb171) (o := .cells #[.int .i64 0, .int .i64 0] 27 (0, 0)) (by (with_reducible repeat (first | apply bA | apply bN | apply bD)); exact BK171.out)) : gb171 ≠ gb173)); have NB173_171 := aMk ((by rw [hg]; exact Nat.ne_of_gt (blk_lt (g := gb171) (o := .cells #[.int .i64 0, .int .i64 0] 27 (0, 0)) (by (with_reducible repeat (first | apply bA | apply bN | apply bD)); exact BK171.out)) : gb173 ≠ gb171)); have NB172_173 := aMk ((by rw [hg]; exact Nat.ne_of_lt (blk_lt (g := gb172) (o := .cells #[.int .i64 0, .int .i64 0] 23 (0, 0)) (by (with_reducible repeat (first | apply bA | apply bN | apply bD)); exact BK172.out)) : gb172 ≠ gb173)); have NB173_172 := aMk ((by rw [hg]; exact Nat.ne_of_gt (blk_lt (g := gb172) (o := .cells #[.int .i64 0, .int .i64 0] 23 (0, 0)) (by (with_reducible repeat (first | apply bA | apply bN | apply bD)); exact BK172.out)) : gb173 ≠ gb172)); replace BK170 := aMk (blk_below (g := gb170) (o := .cells #[.int .i64 a0_0, .int .i64 a0_1] 23 (0, 0)) (by (with_reducible repeat (first | apply bA | apply bN | apply bD)); exact BK170.out) hb); replace BK171 := aMk (blk_below (g := gb171) (o := .cells #[.int .i64 0, .int .i64 0] 27 (0, 0)) (by (with_reducible repeat (first | apply bA | apply bN | apply bD)); exact BK171.out) hb); replace BK172 := aMk (blk_below (g := gb172) (o := .cells #[.int .i64 0, .int .i64 0] 23 (0, 0)) (by (with_reducible repeat (first | apply bA | apply bN | apply bD)); exact BK172.out) hb); replace HB := aMk (below_step (by repeat (first | (with_reducible first | exact HB.out | apply eA | apply eN | apply eD | refine eS ?_ GE170.out | refine eS ?_ GE171.out | refine eS ?_ GE172.out) | exact HB.out)) hb); clear hb hbox hg; have hnb9 := NB173_170.out; have hnc9 := NB170_173.out; have hnb10 := NB173_171.out; have hnc10 := NB171_173.out; have hnb11 := NB173_172.out; have hnc11 := NB172_173.out; have hcz12_0 : w8.cell? ⟨gb173, 0, none⟩ = some (.int .i64 0) := (blk_cell BK173.out 0).trans rfl; have hcz12_1 : w8.cell? ⟨gb173, 1, none⟩ = some (.int .i64 0) := (blk_cell BK173.out 1).trans rfl; have hfz12_0 := blk_frozen BK173.out 0; have hfz12_1 := blk_frozen BK173.out 1))
 have n0_ : Aside0 (((w8.setCell ⟨gb173, 0, none⟩ (.int .i64 2)).setCell ⟨gb173, 1, none⟩ (.int .i64 2)).heap[gb170]? = some (.cells #[.int .i64 a0_0, .int .i64 a0_1] 23 (0, 0))) := ⟨by (with_reducible repeat (first | apply bA | apply bN | apply bD)); refine blk_far ?_ NB170_173.out _; (with_reducible repeat (first | apply bA | apply bN | apply bD)); refine blk_far ?_ NB170_173.out _; (with_reducible repeat (first | apply bA | apply bN | apply bD)); exact BK170.out⟩
 have n1_ : Aside0 (((w8.setCell ⟨gb173, 0, none⟩ (.int .i64 2)).setCell ⟨gb173, 1, none⟩ (.int .i64 2)).heap[gb171]? = some (.cells #[.int .i64 0, .int .i64 0] 27 (0, 0))) := ⟨by (with_reducible repeat (first | apply bA | apply bN | apply bD)); refine blk_far ?_ NB171_173.out _; (with_reducible repeat (first | apply bA | apply bN | apply bD)); refine blk_far ?_ NB171_173.out _; (with_reducible repeat (first | apply bA | apply bN | apply bD)); exact BK171.out⟩
 have n2_ : Aside0 (((w8.setCell ⟨gb173, 0, none⟩ (.int .i64 2)).setCell ⟨gb173, 1, none⟩ (.int .i64 2)).heap[gb172]? = some (.cells #[.int .i64 0, .int .i64 0] 23 (0, 0))) := ⟨by (with_reducible repeat (first | apply bA | apply bN | apply bD)); refine blk_far ?_ NB172_173.out _; (with_reducible repeat (first | apply bA | apply bN | apply bD)); refine blk_far ?_ NB172_173.out _; (with_reducible repeat (first | apply bA | apply bN | apply bD)); exact BK172.out⟩
 have n3_ : Aside0 (((w8.setCell ⟨gb173, 0, none⟩ (.int .i64 2)).setCell ⟨gb173, 1, none⟩ (.int .i64 2)).heap[gb173]? = some (.cells #[.int .i64 2, .int .i64 2] 27 (0, 0))) := ⟨by (with_reducible repeat (first | apply bA | apply bN | apply bD)); refine blk_put (cs := #[.int .i64 2, .int .i64 0]) ?_ 1 _ rfl; (with_reducible repeat (first | apply bA | apply bN | apply bD)); refine blk_put (cs := #[.int .i64 0, .int .i64 0]) ?_ 0 _ rfl; (with_reducible repeat (first | apply bA | apply bN | apply bD)); exact BK173.out⟩
 have n4_ : Aside0 (Below w.heap.size w ((w8.setCell ⟨gb173, 0, none⟩ (.int .i64 2)).setCell ⟨gb173, 1, none⟩ (.int .i64 2))) := ⟨by repeat (first | (with_reducible first | exact HB.out | apply eA | apply eN | apply eD | refine eS ?_ GE170.out | refine eS ?_ GE171.out | refine eS ?_ GE172.out | refine eS ?_ GE173.out) | exact HB.out)⟩
 (try clear BK170)
 (try clear BK171)
 (try clear BK172)
 (try clear BK173)
 (try clear HB)
 generalize ((w8.setCell ⟨gb173, 0, none⟩ (.int .i64 2)).setCell ⟨gb173, 1, none⟩ (.int .i64 2)) = w13 at n0_ n1_ n2_ n3_ n4_ ⊢
 have BK170 := n0_
 have BK171 := n1_
 have BK172 := n2_
 have BK173 := n3_
 have HB := n4_
 clear n0_ n1_ n2_ n3_ n4_
 replace BK170 := aMk (bD BK170.out)
 replace BK171 := aMk (bD BK171.out)
 replace BK172 := aMk (bD BK172.out)
 replace BK173 := aMk (bD BK173.out)
 replace HB := aMk (eD HB.out)
 refine start_ (n := 11) (S := fun w' => w'.cell? ⟨gb170, 0, none⟩ = some (.int .i64 a0_0) ∧ w'.cell? ⟨gb170, 1, none⟩ = some (.int .i64 a0_1)) (ds := [10]) #[false, false, false, false, false, false, false, false, false, false, false] (by kernel_rfl) rfl rfl ⟨(blk_cell BK170.out 0).trans rfl, (blk_cell BK170.out 1).trans rfl⟩ (fun hHeld => ?_); refine with_tabW gristmilllaw06_right.tab2 gristmilllaw06_right.bits2 (fun HT_ HW_ => ?_)
 generalize w13.drew = w14 at BK170 BK171 BK172 BK173 HB hHeld ⊢
 refine pure_ (i := 0) (N := some 13) (v := ?_) (a' := ?_) #[true, false, false, false, false, false, false, false, false, false, false] rfl rfl (any_of HT_.out (by kernel_rfl)) (fun _ _ _ h => h) (Or.inl ⟨by rfl, ?_⟩) ?_ ?_
 rotate_left
 ·intro w'
  go_simp
  with_reducible rfl
 rotate_left
 ·simp only [Act.put, sA, sB, sC, i64_w, i32_w]
  rfl
 refine pure_ (i := 5) (N := some 18) (v := ?_) (a' := ?_) #[true, false, false, false, false, true, false, false, false, false, false] rfl rfl (any_of HT_.out (by kernel_rfl)) (fun _ _ _ h => h) (Or.inl ⟨by rfl, ?_⟩) ?_ ?_
 rotate_left
 ·intro w'
  go_simp
  with_reducible rfl
 rotate_left
 ·simp only [Act.put, sA, sB, sC, i64_w, i32_w]
  rfl
 refine take_ (i := 1) (N := some 14) (v := ?_) (a' := ?_) #[true, true, false, false, false, true, false, false, false, false, false] rfl rfl (take_ofW HT_.out HW_.out (by kernel_rfl)) (fun _ _ _ h => h) (Or.inl ⟨by rfl, ?_⟩) hHeld ?_ ?_
 rotate_left
 ·rintro w' ⟨s0, s1⟩
  go_simp
  with_reducible rfl
 rotate_left
 ·simp only [Act.put, sA, sB, sC, i64_w, i32_w]
  rfl
 refine take_ (i := 6) (N := some 19) (v := ?_) (a' := ?_) #[true, true, false, false, false, true, true, false, false, false, false] rfl rfl (take_ofW HT_.out HW_.out (by kernel_rfl)) (fun _ _ _ h => h) (Or.inl ⟨by rfl, ?_⟩) hHeld ?_ ?_
 rotate_left
 ·rintro w' ⟨s0, s1⟩
  go_simp
  with_reducible rfl
 rotate_left
 ·simp only [Act.put, sA, sB, sC, i64_w, i32_w]
  rfl
 refine one_ (i := 2) (N := some 15) #[true, true, true, false, false, true, true, false, false, false, false] rfl rfl (one_of HT_.out (by kernel_rfl)) (by decide) (fun K hK => ?_)
 refine goes_ Try.func17 (by kernel_rfl) rfl #[.int .i64 a0_0] (by rfl) rfl rfl (by (try simp only [List.map_toArray, List.map_cons, List.map_nil]); first | done | rfl | (simp only [List.length_drop, List.length_take]; rfl)) ?_
 with_reducible refine (gristmilllaw06_abs.calls a0_0 t174 _ A3.out).mono ?_
 rintro e w' ⟨rfl, ⟨nd, rfl⟩⟩
 refine ⟨_, rfl, ?_⟩
 refine hK.out _ _ ⟨(blk_cell BK170.out 0).trans rfl, (blk_cell BK170.out 1).trans rfl⟩ (fun hHeld => ?_)
 clear hK K
 refine norm_ (a' := ?_) ?_ ?_
 rotate_left
 ·show Act.put _ (some 15) _ = _
  simp only [Act.put, sA, sB, sC, i64_w, i32_w]
  rfl
 refine pure_ (i := 3) (N := some 16) (v := ?_) (a' := ?_) #[true, true, true, true, false, true, true, false, false, false, false] rfl rfl (any_of HT_.out (by kernel_rfl)) (fun _ _ _ h => h) (Or.inl ⟨by rfl, ?_⟩) ?_ ?_
 rotate_left
 ·intro w'
  go_simp
  with_reducible rfl
 rotate_left
 ·simp only [Act.put, sA, sB, sC, i64_w, i32_w]
  rfl
 refine pure_ (i := 4) (N := some 17) (v := ?_) (a' := ?_) #[true, true, true, true, true, true, true, false, false, false, false] rfl rfl (any_of HT_.out (by kernel_rfl)) (fun _ _ _ h => h) (Or.inl ⟨by rfl, ?_⟩) ?_ ?_
 rotate_left
 ·intro w'
  go_simp
  with_reducible rfl
 rotate_left
 ·simp only [Act.put, sA, sB, sC, i64_w, i32_w]
  rfl
 refine one_ (i := 7) (N := some 20) #[true, true, true, true, true, true, true, true, false, false, false] rfl rfl (one_of HT_.out (by kernel_rfl)) (by decide) (fun K hK => ?_)
 refine goes_ Try.func17 (by kernel_rfl) rfl #[.int .i64 a0_1] (by rfl) rfl rfl (by (try simp only [List.map_toArray, List.map_cons, List.map_nil]); first | done | rfl | (simp only [List.length_drop, List.length_take]; rfl)) ?_
 with_reducible refine (gristmilllaw06_abs.calls a0_1 t175 _ A4.out).mono ?_
 rintro e w' ⟨rfl, ⟨nd, rfl⟩⟩
 refine ⟨_, rfl, ?_⟩
 refine hK.out _ _ ⟨(blk_cell BK170.out 0).trans rfl, (blk_cell BK170.out 1).trans rfl⟩ (fun hHeld => ?_)
 clear hK K
 refine norm_ (a' := ?_) ?_ ?_
 rotate_left
 ·show Act.put _ (some 20) _ = _
  simp only [Act.put, sA, sB, sC, i64_w, i32_w]
  rfl
 refine pure_ (i := 8) (N := some 21) (v := ?_) (a' := ?_) #[true, true, true, true, true, true, true, true, true, false, false] rfl rfl (any_of HT_.out (by kernel_rfl)) (fun _ _ _ h => h) (Or.inl ⟨by rfl, ?_⟩) ?_ ?_
 rotate_left
 ·intro w'
  go_simp
  with_reducible rfl
 rotate_left
 ·simp only [Act.put, sA, sB, sC, i64_w, i32_w]
  rfl
 refine pure_ (i := 9) (N := some 22) (v := ?_) (a' := ?_) #[true, true, true, true, true, true, true, true, true, true, false] rfl rfl (any_of HT_.out (by kernel_rfl)) (fun _ _ _ h => h) (Or.inl ⟨by rfl, ?_⟩) ?_ ?_
 rotate_left
 ·intro w'
  go_simp
  with_reducible rfl
 rotate_left
 ·simp only [Act.put, sA, sB, sC, i64_w, i32_w]
  rfl
 refine last_ (i := 10) (N := none) #[true, true, true, true, true, true, true, true, true, true, true] rfl rfl (one_of HT_.out (by kernel_rfl)) (by decide) (fun K hK => ?_)
 have hs15 : w14.cell? ⟨gb170, 0, none⟩ = some (.int .i64 a0_0) := (blk_cell BK170.out 0).trans rfl
 have hfs15 := blk_frozen BK170.out 0
 have hns15_1 := NB171_170.out
 have hns15_2 := NB172_170.out
 have hns15_3 := NB173_170.out
 have hms15_1 := NB170_171.out
 have hms15_2 := NB170_172.out
 have hms15_3 := NB170_173.out
 have hs16 : w14.cell? ⟨gb170, 1, none⟩ = some (.int .i64 a0_1) := (blk_cell BK170.out 1).trans rfl
 have hfs16 := blk_frozen BK170.out 1
 have hns16_1 := NB171_170.out
 have hns16_2 := NB172_170.out
 have hns16_3 := NB173_170.out
 have hms16_1 := NB170_171.out
 have hms16_2 := NB170_172.out
 have hms16_3 := NB170_173.out
 refine skip_ (w1 := ?_) (by rfl) rfl ?_ ?_
 rotate_left
 ·go_simp
  rfl
 refine hK.out _ _ ?_
 clear hK K
 refine done_ (done_of HT_.out (by kernel_rfl)) ?_
 try go_wp2
 go_loopg [8, 9] k (fun kq v8 v9 w' => ∃ (x8_1 : List (S39)) (x9_1 : Int), v9 = .int .i64 x9_1 ∧ Aside0 (gristmilllaw06_right.l0 kq l1 x8_1 x9_1 (wrap64 (1 + (Int.tmod t174 5))) (Int.tmod t175 2) 2 2 = some (r1, r2, r3, r4, r5)) ∧ Aside0 (kq ≤ k) ∧ Aside0 (Kd.S k39 39 w' w.heap.size (fun _ => True) v8 x8_1) ∧ Aside0 (w'.heap[gb170]? = some (.cells #[.int .i64 (wrap64 (1 + (Int.tmod t174 5))), .int .i64 (Int.tmod t175 2)] 23 (0, 0))) ∧ Aside0 (w'.heap[gb171]? = some (.cells #[.int .i64 0, .int .i64 0] 27 (0, 0))) ∧ Aside0 (w'.heap[gb172]? = some (.cells #[.int .i64 0, .int .i64 0] 23 (0, 0))) ∧ Aside0 (w'.heap[gb173]? = some (.cells #[.int .i64 2, .int .i64 2] 27 (0, 0))) ∧ Aside0 (Below w.heap.size w w'))
 case atStart => exact ⟨(([] : List (S39))), (0), (by first | rfl | (simp; done) | (simp [*]; done)), H', ⟨Nat.le_refl _⟩, ⟨by first | exact Kd.S_nil _ _ _ _ _ | exact Kd.N_nil _ _ _ _ _ | exact Kd.V_nil _ _ _ _ _ | exact Kd.Q_nil _ _ _ _ _ | exact Kd.R_nil _ _ _ _ _⟩, ⟨by (with_reducible repeat (first | apply bA | apply bN | apply bD)); refine blk_put (cs := #[.int .i64 (wrap64 (1 + (Int.tmod t174 5))), .int .i64 a0_1]) ?_ 1 _ rfl; (with_reducible repeat (first | apply bA | apply bN | apply bD)); refine blk_put (cs := #[.int .i64 a0_0, .int .i64 a0_1]) ?_ 0 _ rfl; (with_reducible repeat (first | apply bA | apply bN | apply bD)); exact BK170.out⟩, ⟨by (with_reducible repeat (first | apply bA | apply bN | apply bD)); refine blk_far ?_ NB171_170.out _; (with_reducible repeat (first | apply bA | apply bN | apply bD)); refine blk_far ?_ NB171_170.out _; (with_reducible repeat (first | apply bA | apply bN | apply bD)); exact BK171.out⟩, ⟨by (with_reducible repeat (first | apply bA | apply bN | apply bD)); refine blk_far ?_ NB172_170.out _; (with_reducible repeat (first | apply bA | apply bN | apply bD)); refine blk_far ?_ NB172_170.out _; (with_reducible repeat (first | apply bA | apply bN | apply bD)); exact BK172.out⟩, ⟨by (with_reducible repeat (first | apply bA | apply bN | apply bD)); refine blk_far ?_ NB173_170.out _; (with_reducible repeat (first | apply bA | apply bN | apply bD)); refine blk_far ?_ NB173_170.out _; (with_reducible repeat (first | apply bA | apply bN | apply bD)); exact BK173.out⟩, ⟨by repeat (first | (with_reducible first | exact HB.out | apply eA | apply eN | apply eD | refine eS ?_ GE170.out | refine eS ?_ GE171.out | refine eS ?_ GE172.out | refine eS ?_ GE173.out) | exact HB.out)⟩⟩
 case round =>
  clear H'
  try clear c1
  try clear p2
  try clear p6
  try clear c7
  try clear c9
  try clear c10
  try clear c11
  try clear hcz12_0
  try clear hcz12_1
  try clear hfz12_0
  try clear hfz12_1
  obtain ⟨x8_1, x9_1, rfl, HA, HK1, HO_8, BK170, BK171, BK172, BK173, HB⟩ := hrel
  cases gk with
  | zero => exact absurd HA.out (by simp [gristmilllaw06_right.l0])
  | succ k1 =>
   have H := HA.out
   clear HA
   simp only [gristmilllaw06_right.l0] at H
   have HC17 := aMk H
   clear H
   go_upto_region 5 with (fail)
   go_cut [30] (fun v30 wc => ∃ (kq : Nat) (x30_16 : Bool), v30 = .bool x30_16 ∧ Aside0 (gristmilllaw06_right.j1 kq l1 x8_1 x9_1 x30_16 (wrap64 (1 + (Int.tmod t174 5))) (Int.tmod t175 2) 2 2 = some (r1, r2, r3, r4, r5)) ∧ Aside0 (kq ≤ k1) ∧ Aside0 (Kd.S k39 39 wc w.heap.size (fun _ => True) u8 x8_1) ∧ Aside0 (wc.heap[gb170]? = some (.cells #[.int .i64 (wrap64 (1 + (Int.tmod t174 5))), .int .i64 (Int.tmod t175 2)] 23 (0, 0))) ∧ Aside0 (wc.heap[gb171]? = some (.cells #[.int .i64 0, .int .i64 0] 27 (0, 0))) ∧ Aside0 (wc.heap[gb172]? = some (.cells #[.int .i64 0, .int .i64 0] 23 (0, 0))) ∧ Aside0 (wc.heap[gb173]? = some (.cells #[.int .i64 2, .int .i64 2] 27 (0, 0))) ∧ Aside0 (Below w.heap.size w wc))
   case first =>
    have H := HC17.out
    clear HC17
    by_cases c18 : x9_1 < (l1.length : Int)
    ·rw [if_pos c18] at H
     have c18b0 : decide (x9_1 < (l1.length : Int)) = true := decide_eq_true c18
     clear c18
     (first | rw [c18b0] | (simp only [i64_w, i32_w]; rw [c18b0]) | skip)
     have H' := aMk H
     clear H
     go_wp2
     go_meet
     case rel => exact ⟨_, (decide (x9_1 < 40)), (by first | rfl | (simp; done) | (simp [*]; done)), H', ⟨by have := HK1.out; first | omega | exact Nat.le_refl _⟩, ⟨by (with_reducible repeat (first | apply Kd.S_alloc | apply Kd.S_drewN | apply Kd.S_drew)); exact HO_8.out⟩, ⟨by (with_reducible repeat (first | apply bA | apply bN | apply bD)); exact BK170.out⟩, ⟨by (with_reducible repeat (first | apply bA | apply bN | apply bD)); exact BK171.out⟩, ⟨by (with_reducible repeat (first | apply bA | apply bN | apply bD)); exact BK172.out⟩, ⟨by (with_reducible repeat (first | apply bA | apply bN | apply bD)); exact BK173.out⟩, ⟨by repeat (first | (with_reducible first | exact HB.out | apply eA | apply eN | apply eD | refine eS ?_ GE170.out | refine eS ?_ GE171.out | refine eS ?_ GE172.out | refine eS ?_ GE173.out) | exact HB.out)⟩⟩
    ·rw [if_neg c18] at H
     have c18b0 : decide (x9_1 < (l1.length : Int)) = false := decide_eq_false c18
     clear c18
     (first | rw [c18b0] | (simp only [i64_w, i32_w]; rw [c18b0]) | skip)
     have H' := aMk H
     clear H
     go_wp2
     go_meet
     case rel => exact ⟨_, (false), (by first | rfl | (simp; done) | (simp [*]; done)), H', ⟨by have := HK1.out; first | omega | exact Nat.le_refl _⟩, ⟨by (with_reducible repeat (first | apply Kd.S_alloc | apply Kd.S_drewN | apply Kd.S_drew)); exact HO_8.out⟩, ⟨by (with_reducible repeat (first | apply bA | apply bN | apply bD)); exact BK170.out⟩, ⟨by (with_reducible repeat (first | apply bA | apply bN | apply bD)); exact BK171.out⟩, ⟨by (with_reducible repeat (first | apply bA | apply bN | apply bD)); exact BK172.out⟩, ⟨by (with_reducible repeat (first | apply bA | apply bN | apply bD)); exact BK173.out⟩, ⟨by repeat (first | (with_reducible first | exact HB.out | apply eA | apply eN | apply eD | refine eS ?_ GE170.out | refine eS ?_ GE171.out | refine eS ?_ GE172.out | refine eS ?_ GE173.out) | exact HB.out)⟩⟩
   case rest =>
    clear HC17
    try clear c1
    try clear p2
    try clear p6
    try clear c7
    try clear c9
    try clear c10
    try clear c11
    try clear c17
    try clear c18
    try clear c18b0
    try clear hcz12_0
    try clear hcz12_1
    try clear hfz12_0
    try clear hfz12_1
    try clear p2
    try clear p6
    obtain ⟨kq, x30_16, rfl, HA, HJ16, HO_8, BK170, BK171, BK172, BK173, HB⟩ := hcut
    cases kq with
    | zero => exact absurd HA.out (by simp [gristmilllaw06_right.j1])
    | succ kj16 =>
     have H := HA.out
     clear HA
     simp only [gristmilllaw06_right.j1] at H
     by_cases c19 : x30_16 = true
     ·subst c19
      have H1 : (if 0 ≤ x9_1 then (if x9_1 < (l1.length : Int) then (gristmilllaw06_right.l1 kj16 l1 x8_1 x9_1 0 (wrap64 (1 + (Int.tmod t174 5))) (Int.tmod t175 2) 2 2 ((rd_T39 l1 x9_1).f0.f0) (([(⟨#[]⟩ : ByteArray), (⟨#[]⟩ : ByteArray)] : List ByteArray)) (([0, 0] : List Int))) else (none)) else (none)) = some (r1, r2, r3, r4, r5) := by rw [if_pos rfl] at H; exact H
      clear H
      have H := H1
      clear H1
      by_cases c20 : 0 ≤ x9_1
      ·rw [if_pos c20] at H
       have c20b0 : decide (0 ≤ x9_1) = true := decide_eq_true c20
       clear c20
       by_cases c21 : x9_1 < (l1.length : Int)
       ·rw [if_pos c21] at H
        have c21b0 : decide (x9_1 < (l1.length : Int)) = true := decide_eq_true c21
        clear c21
        obtain ⟨y177, hy177⟩ : ∃ y_ : List ByteArray, y_ = (([(⟨#[]⟩ : ByteArray), (⟨#[]⟩ : ByteArray)] : List ByteArray)) := ⟨_, rfl⟩
        replace H : (gristmilllaw06_right.l1 kj16 l1 x8_1 x9_1 0 (wrap64 (1 + (Int.tmod t174 5))) (Int.tmod t175 2) 2 2 ((rd_T39 l1 x9_1).f0.f0) y177 (([0, 0] : List Int))) = some (r1, r2, r3, r4, r5) := by first | (rw [hy177]; with_reducible exact H) | (have H2_ := (Option.bind_some _ _).symm.trans H; rw [hy177]; with_reducible exact H2_) | (have H2_ := (Option.bind_some _ _).symm.trans H; with_reducible exact H2_) | with_reducible exact H | (rw [hy177]; exact H) | exact H
        have Ny177 := aMk hy177
        clear hy177
        obtain ⟨y180, hy180⟩ : ∃ y_ : List Int, y_ = (([0, 0] : List Int)) := ⟨_, rfl⟩
        replace H : (gristmilllaw06_right.l1 kj16 l1 x8_1 x9_1 0 (wrap64 (1 + (Int.tmod t174 5))) (Int.tmod t175 2) 2 2 ((rd_T39 l1 x9_1).f0.f0) y177 y180) = some (r1, r2, r3, r4, r5) := by first | (rw [hy180]; with_reducible exact H) | (have H2_ := (Option.bind_some _ _).symm.trans H; rw [hy180]; with_reducible exact H2_) | (have H2_ := (Option.bind_some _ _).symm.trans H; with_reducible exact H2_) | with_reducible exact H | (rw [hy180]; exact H) | exact H
        have Ny180 := aMk hy180
        clear hy180
        have H' := aMk H
        clear H
        have p176 : 0 ≤ (x9_1 : Int) := of_decide_eq_true (by first | (with_reducible assumption) | assumption)
        have q176 : x9_1 < (l1.length : Int) := of_decide_eq_true (by first | (with_reducible assumption) | assumption)
        obtain ⟨ad176, A176_1, c176_1, A176_2, c176_2, e176, hx176_0, hx176_1, hx176_2, hx176_3, hl176_1, hi176_1, hl176_2, hi176_2⟩ := at_T39 HR1.out x9_1 p176 q176
        cases e176
        replace hx176_0 := (HB.out.cell (World.block_lt_of_cell? w _ hx176_0)).trans hx176_0
        replace hx176_1 := (HB.out.cell (World.block_lt_of_cell? w _ hx176_1)).trans hx176_1
        replace hx176_2 := (HB.out.cell (World.block_lt_of_cell? w _ hx176_2)).trans hx176_2
        replace hx176_3 := (HB.out.cell (World.block_lt_of_cell? w _ hx176_3)).trans hx176_3
        have HR176_1 := aMk hi176_1
        have HC176_1 := aMk hl176_1
        clear hi176_1 hl176_1
        have HR176_2 := aMk hi176_2
        have HC176_2 := aMk hl176_2
        clear hi176_2 hl176_2
        replace p176 := eq_true p176
        replace q176 := eq_true q176
        go_wp2_with (first | ((with_reducible refine gate_dst (N := 39) rfl ?_); (try (refine gate_guard (by rfl) ?_; dsimp only)); refine Kd.R_lit Kd.string _ 9 ?hg (N := 39) ?hd (xs := ([(⟨#[]⟩ : ByteArray), (⟨#[]⟩ : ByteArray)] : List ByteArray)) (inner := [.string (⟨#[]⟩ : ByteArray), .string (⟨#[]⟩ : ByteArray)]) (ok := fun _ => True) (okp := fun _ => True) ?hr ?hp (fun _ hk => hk) trivial (Below.refl _ _) (Nat.le_refl _) (by simp) ?_; (case hd => rfl); (case hg => rfl); (case hr => first | (go_simp; done) | (go_simp; rfl)); (case hp => exact (Reps.one (show Kd.M Kd.string _ _ _ (⟨#[]⟩ : ByteArray) [.string (⟨#[]⟩ : ByteArray)] from rfl) (Reps.one (show Kd.M Kd.string _ _ _ (⟨#[]⟩ : ByteArray) [.string (⟨#[]⟩ : ByteArray)] from rfl) (Reps.none _ _)))); intro v178 w22 ho23 hb hg_ hnew_; clear hg_ hnew_; (first | rw [← Ny177.out] at ho23 | (simp only [Int.reduceToNat] at ho23; rw [← Ny177.out] at ho23)); have HO179 := aMk (Kd.R_lower ho23 (below_size (by repeat (first | (with_reducible first | exact HB.out | apply eA | apply eN | apply eD | refine eS ?_ GE170.out | refine eS ?_ GE171.out | refine eS ?_ GE172.out | refine eS ?_ GE173.out) | exact HB.out)))); replace HO_8 := aMk (Kd.S_elder' (by (with_reducible repeat (first | apply Kd.S_alloc | apply Kd.S_drewN | apply Kd.S_drew)); exact HO_8.out) (Kd.R_base ho23) hb); replace BK170 := aMk (blk_below (g := gb170) (o := .cells #[.int .i64 (wrap64 (1 + (Int.tmod t174 5))), .int .i64 (Int.tmod t175 2)] 23 (0, 0)) (by (with_reducible repeat (first | apply bA | apply bN | apply bD)); exact BK170.out) hb); replace BK171 := aMk (blk_below (g := gb171) (o := .cells #[.int .i64 0, .int .i64 0] 27 (0, 0)) (by (with_reducible repeat (first | apply bA | apply bN | apply bD)); exact BK171.out) hb); replace BK172 := aMk (blk_below (g := gb172) (o := .cells #[.int .i64 0, .int .i64 0] 23 (0, 0)) (by (with_reducible repeat (first | apply bA | apply bN | apply bD)); exact BK172.out) hb); replace BK173 := aMk (blk_below (g := gb173) (o := .cells #[.int .i64 2, .int .i64 2] 27 (0, 0)) (by (with_reducible repeat (first | apply bA | apply bN | apply bD)); exact BK173.out) hb); replace HB := aMk (below_step (by repeat (first | (with_reducible first | exact HB.out | apply eA | apply eN | apply eD | refine eS ?_ GE170.out | refine eS ?_ GE171.out | refine eS ?_ GE172.out | refine eS ?_ GE173.out) | exact HB.out)) hb); clear hb ho23) | ((with_reducible refine gate_dst (N := 40) rfl ?_); (try (refine gate_guard (by rfl) ?_; dsimp only)); refine Kd.R_lit (Kd.int .i64) _ 2 ?hg (N := 40) ?hd (xs := ([0, 0] : List Int)) (inner := [.int .i64 0, .int .i64 0]) (ok := fun _ => True) (okp := fun _ => True) ?hr ?hp (fun _ hk => hk) trivial (Below.refl _ _) (Nat.le_refl _) (by simp) ?_; (case hd => rfl); (case hg => rfl); (case hr => first | (go_simp; done) | (go_simp; rfl)); (case hp => exact (Reps.one (show Kd.M (Kd.int .i64) _ _ _ 0 [.int .i64 0] from rfl) (Reps.one (show Kd.M (Kd.int .i64) _ _ _ 0 [.int .i64 0] from rfl) (Reps.none _ _)))); intro v181 w24 ho25 hb hg_ hnew_; clear hg_ hnew_; (first | rw [← Ny180.out] at ho25 | (simp only [Int.reduceToNat] at ho25; rw [← Ny180.out] at ho25)); have HO182 := aMk (Kd.R_lower ho25 (below_size (by repeat (first | (with_reducible first | exact HB.out | apply eA | apply eN | apply eD | refine eS ?_ GE170.out | refine eS ?_ GE171.out | refine eS ?_ GE172.out | refine eS ?_ GE173.out) | exact HB.out)))); replace HO_8 := aMk (Kd.S_elder' (by (with_reducible repeat (first | apply Kd.S_alloc | apply Kd.S_drewN | apply Kd.S_drew)); exact HO_8.out) (Kd.R_base ho25) hb); replace HO179 := aMk (Kd.R_below (by (with_reducible repeat (first | apply rA | apply rN | apply rD)); exact HO179.out) hb); replace BK170 := aMk (blk_below (g := gb170) (o := .cells #[.int .i64 (wrap64 (1 + (Int.tmod t174 5))), .int .i64 (Int.tmod t175 2)] 23 (0, 0)) (by (with_reducible repeat (first | apply bA | apply bN | apply bD)); exact BK170.out) hb); replace BK171 := aMk (blk_below (g := gb171) (o := .cells #[.int .i64 0, .int .i64 0] 27 (0, 0)) (by (with_reducible repeat (first | apply bA | apply bN | apply bD)); exact BK171.out) hb); replace BK172 := aMk (blk_below (g := gb172) (o := .cells #[.int .i64 0, .int .i64 0] 23 (0, 0)) (by (with_reducible repeat (first | apply bA | apply bN | apply bD)); exact BK172.out) hb); replace BK173 := aMk (blk_below (g := gb173) (o := .cells #[.int .i64 2, .int .i64 2] 27 (0, 0)) (by (with_reducible repeat (first | apply bA | apply bN | apply bD)); exact BK173.out) hb); replace HB := aMk (below_step (by repeat (first | (with_reducible first | exact HB.out | apply eA | apply eN | apply eD | refine eS ?_ GE170.out | refine eS ?_ GE171.out | refine eS ?_ GE172.out | refine eS ?_ GE173.out) | exact HB.out)) hb); clear hb ho25; obtain ⟨Ao26, co26, eo26⟩ := Kd.R_slice HO182.out; subst eo26; obtain ⟨Ao27, co27, eo27⟩ := Kd.R_slice HO179.out; subst eo27) | ((with_reducible refine gate_dst (N := 10) rfl ?_); (try (refine gate_guard (by rfl) ?_; dsimp only)); refine box_event ?hg (N := 10) ?hd (cs := #[.int .i64 0, .slice none 0 0, .slice none 0 0]) (t := 37) ?hr ?_; (case hd => rfl); (case hg => rfl); (case hr => first | (go_simp; done) | (go_simp; rfl)); intro gb183 hg w28 hbox hb; have BK183 := aMk (hbox); have GW183 := aMk ((by rw [hg]; exact (below_size (by repeat (first | (with_reducible first | exact HB.out | apply eA | apply eN | apply eD | refine eS ?_ GE170.out | refine eS ?_ GE171.out | refine eS ?_ GE172.out | refine eS ?_ GE173.out) | exact HB.out))) : w.heap.size ≤ gb183)); have GE183 := aMk ((by rw [hg]; exact (below_size (by repeat (first | (with_reducible first | exact HB.out | apply eA | apply eN | apply eD | refine eS ?_ GE170.out | refine eS ?_ GE171.out | refine eS ?_ GE172.out | refine eS ?_ GE173.out) | exact HB.out))) : w.heap.size ≤ gb183)); have NB170_183 := aMk ((by rw [hg]; exact Nat.ne_of_lt (blk_lt (g := gb170) (o := .cells #[.int .i64 (wrap64 (1 + (Int.tmod t174 5))), .int .i64 (Int.tmod t175 2)] 23 (0, 0)) (by (with_reducible repeat (first | apply bA | apply bN | apply bD)); exact BK170.out)) : gb170 ≠ gb183)); have NB183_170 := aMk ((by rw [hg]; exact Nat.ne_of_gt (blk_lt (g := gb170) (o := .cells #[.int .i64 (wrap64 (1 + (Int.tmod t174 5))), .int .i64 (Int.tmod t175 2)] 23 (0, 0)) (by (with_reducible repeat (first | apply bA | apply bN | apply bD)); exact BK170.out)) : gb183 ≠ gb170)); have NB171_183 := aMk ((by rw [hg]; exact Nat.ne_of_lt (blk_lt (g := gb171) (o := .cells #[.int .i64 0, .int .i64 0] 27 (0, 0)) (by (with_reducible repeat (first | apply bA | apply bN | apply bD)); exact BK171.out)) : gb171 ≠ gb183)); have NB183_171 := aMk ((by rw [hg]; exact Nat.ne_of_gt (blk_lt (g := gb171) (o := .cells #[.int .i64 0, .int .i64 0] 27 (0, 0)) (by (with_reducible repeat (first | apply bA | apply bN | apply bD)); exact BK171.out)) : gb183 ≠ gb171)); have NB172_183 := aMk ((by rw [hg]; exact Nat.ne_of_lt (blk_lt (g := gb172) (o := .cells #[.int .i64 0, .int .i64 0] 23 (0, 0)) (by (with_reducible repeat (first | apply bA | apply bN | apply bD)); exact BK172.out)) : gb172 ≠ gb183)); have NB183_172 := aMk ((by rw [hg]; exact Nat.ne_of_gt (blk_lt (g := gb172) (o := .cells #[.int .i64 0, .int .i64 0] 23 (0, 0)) (by (with_reducible repeat (first | apply bA | apply bN | apply bD)); exact BK172.out)) : gb183 ≠ gb172)); have NB173_183 := aMk ((by rw [hg]; exact Nat.ne_of_lt (blk_lt (g := gb173) (o := .cells #[.int .i64 2, .int .i64 2] 27 (0, 0)) (by (with_reducible repeat (first | apply bA | apply bN | apply bD)); exact BK173.out)) : gb173 ≠ gb183)); have NB183_173 := aMk ((by rw [hg]; exact Nat.ne_of_gt (blk_lt (g := gb173) (o := .cells #[.int .i64 2, .int .i64 2] 27 (0, 0)) (by (with_reducible repeat (first | apply bA | apply bN | apply bD)); exact BK173.out)) : gb183 ≠ gb173)); replace HO_8 := aMk (Kd.S_below (by (with_reducible repeat (first | apply Kd.S_alloc | apply Kd.S_drewN | apply Kd.S_drew)); exact HO_8.out) hb); replace HO179 := aMk (Kd.R_below (by (with_reducible repeat (first | apply rA | apply rN | apply rD)); exact HO179.out) hb); replace HO182 := aMk (Kd.R_below (by (with_reducible repeat (first | apply rA | apply rN | apply rD)); exact HO182.out) hb); replace BK170 := aMk (blk_below (g := gb170) (o := .cells #[.int .i64 (wrap64 (1 + (Int.tmod t174 5))), .int .i64 (Int.tmod t175 2)] 23 (0, 0)) (by (with_reducible repeat (first | apply bA | apply bN | apply bD)); exact BK170.out) hb); replace BK171 := aMk (blk_below (g := gb171) (o := .cells #[.int .i64 0, .int .i64 0] 27 (0, 0)) (by (with_reducible repeat (first | apply bA | apply bN | apply bD)); exact BK171.out) hb); replace BK172 := aMk (blk_below (g := gb172) (o := .cells #[.int .i64 0, .int .i64 0] 23 (0, 0)) (by (with_reducible repeat (first | apply bA | apply bN | apply bD)); exact BK172.out) hb); replace BK173 := aMk (blk_below (g := gb173) (o := .cells #[.int .i64 2, .int .i64 2] 27 (0, 0)) (by (with_reducible repeat (first | apply bA | apply bN | apply bD)); exact BK173.out) hb); replace HB := aMk (below_step (by repeat (first | (with_reducible first | exact HB.out | apply eA | apply eN | apply eD | refine eS ?_ GE170.out | refine eS ?_ GE171.out | refine eS ?_ GE172.out | refine eS ?_ GE173.out) | exact HB.out)) hb); clear hb hbox hg; have hnb29 := NB183_170.out; have hnc29 := NB170_183.out; have hnb30 := NB183_171.out; have hnc30 := NB171_183.out; have hnb31 := NB183_172.out; have hnc31 := NB172_183.out; have hnb32 := NB183_173.out; have hnc32 := NB173_183.out; have hcz33_0 : w28.cell? ⟨gb183, 0, none⟩ = some (.int .i64 0) := (blk_cell BK183.out 0).trans rfl; have hcz33_1 : w28.cell? ⟨gb183, 1, none⟩ = some (.slice none 0 0) := (blk_cell BK183.out 1).trans rfl; have hcz33_2 : w28.cell? ⟨gb183, 2, none⟩ = some (.slice none 0 0) := (blk_cell BK183.out 2).trans rfl; have hfz33_0 := blk_frozen BK183.out 0; have hfz33_1 := blk_frozen BK183.out 1; have hfz33_2 := blk_frozen BK183.out 2))
        go_loopg [11] kj16 (fun kq v11 w' => ∃ (x11_3 : Int) (x184001_3 : List ByteArray) (x184002_3 : List Int) (u184001 : Value) (u184002 : Value), v11 = .int .i64 x11_3 ∧ Aside0 (gristmilllaw06_right.l1 kq l1 x8_1 x9_1 x11_3 (wrap64 (1 + (Int.tmod t174 5))) (Int.tmod t175 2) 2 2 ((rd_T39 l1 x9_1).f0.f0) x184001_3 x184002_3 = some (r1, r2, r3, r4, r5)) ∧ Aside0 (kq ≤ kj16) ∧ Aside0 (Kd.S k39 39 w' w.heap.size (fun k_ => some k_ ≠ (u184001 : Value).ownBlock ∧ some k_ ≠ (u184002 : Value).ownBlock) u8 x8_1) ∧ Aside0 (Kd.R Kd.string 9 w' w.heap.size (fun _ => True) u184001 x184001_3) ∧ Aside0 (Kd.R (Kd.int .i64) 2 w' w.heap.size (fun _ => True) u184002 x184002_3) ∧ Aside0 (w'.heap[gb170]? = some (.cells #[.int .i64 (wrap64 (1 + (Int.tmod t174 5))), .int .i64 (Int.tmod t175 2)] 23 (0, 0))) ∧ Aside0 (w'.heap[gb171]? = some (.cells #[.int .i64 0, .int .i64 0] 27 (0, 0))) ∧ Aside0 (w'.heap[gb172]? = some (.cells #[.int .i64 0, .int .i64 0] 23 (0, 0))) ∧ Aside0 (w'.heap[gb173]? = some (.cells #[.int .i64 2, .int .i64 2] 27 (0, 0))) ∧ Aside0 (w'.heap[gb183]? = some (.cells #[.int .i64 ((rd_T39 l1 x9_1).f0.f0), u184001, u184002] 37 (0, 0))) ∧ Aside0 (Below w.heap.size w w'))
        case atStart => exact ⟨(0), (y177), (y180), (.slice Ao27 y177.length co27), (.slice Ao26 y180.length co26), (by first | rfl | (simp; done) | (simp [*]; done)), H', ⟨Nat.le_refl _⟩, ⟨by (with_reducible repeat (first | apply Kd.S_alloc | apply Kd.S_drewN | apply Kd.S_drew)); exact Kd.S_mono (Kd.S_far (p := ⟨gb183, 2, none⟩) (Kd.S_far (p := ⟨gb183, 1, none⟩) (Kd.S_far (p := ⟨gb183, 0, none⟩) (Kd.S_types HO_8.out BK183.out (by decide)) (fun _ hk => hk.2) (.int .i64 ((rd_T39 l1 x9_1).f0.f0))) (fun _ hk => hk.2) (.slice Ao27 y177.length co27)) (fun _ hk => hk.2) (.slice Ao26 y180.length co26)) (fun _ hk => ⟨hk.1.1.2, hk.1.2⟩)⟩, ⟨by (with_reducible repeat (first | apply rA | apply rN | apply rD)); exact Kd.R_mono (Kd.R_far (p := ⟨gb183, 2, none⟩) (Kd.R_far (p := ⟨gb183, 1, none⟩) (Kd.R_far (p := ⟨gb183, 0, none⟩) (Kd.R_types HO179.out BK183.out (by decide)) (fun _ hk => hk.2) (.int .i64 ((rd_T39 l1 x9_1).f0.f0))) (fun _ hk => hk.2) (.slice Ao27 y177.length co27)) (fun _ hk => hk.2) (.slice Ao26 y180.length co26)) (fun _ hk => trivial)⟩, ⟨by (with_reducible repeat (first | apply rA | apply rN | apply rD)); exact Kd.R_mono (Kd.R_far (p := ⟨gb183, 2, none⟩) (Kd.R_far (p := ⟨gb183, 1, none⟩) (Kd.R_far (p := ⟨gb183, 0, none⟩) (Kd.R_types HO182.out BK183.out (by decide)) (fun _ hk => hk.2) (.int .i64 ((rd_T39 l1 x9_1).f0.f0))) (fun _ hk => hk.2) (.slice Ao27 y177.length co27)) (fun _ hk => hk.2) (.slice Ao26 y180.length co26)) (fun _ hk => trivial)⟩, ⟨by (with_reducible repeat (first | apply bA | apply bN | apply bD)); refine blk_far ?_ NB170_183.out _; (with_reducible repeat (first | apply bA | apply bN | apply bD)); refine blk_far ?_ NB170_183.out _; (with_reducible repeat (first | apply bA | apply bN | apply bD)); refine blk_far ?_ NB170_183.out _; (with_reducible repeat (first | apply bA | apply bN | apply bD)); exact BK170.out⟩, ⟨by (with_reducible repeat (first | apply bA | apply bN | apply bD)); refine blk_far ?_ NB171_183.out _; (with_reducible repeat (first | apply bA | apply bN | apply bD)); refine blk_far ?_ NB171_183.out _; (with_reducible repeat (first | apply bA | apply bN | apply bD)); refine blk_far ?_ NB171_183.out _; (with_reducible repeat (first | apply bA | apply bN | apply bD)); exact BK171.out⟩, ⟨by (with_reducible repeat (first | apply bA | apply bN | apply bD)); refine blk_far ?_ NB172_183.out _; (with_reducible repeat (first | apply bA | apply bN | apply bD)); refine blk_far ?_ NB172_183.out _; (with_reducible repeat (first | apply bA | apply bN | apply bD)); refine blk_far ?_ NB172_183.out _; (with_reducible repeat (first | apply bA | apply bN | apply bD)); exact BK172.out⟩, ⟨by (with_reducible repeat (first | apply bA | apply bN | apply bD)); refine blk_far ?_ NB173_183.out _; (with_reducible repeat (first | apply bA | apply bN | apply bD)); refine blk_far ?_ NB173_183.out _; (with_reducible repeat (first | apply bA | apply bN | apply bD)); refine blk_far ?_ NB173_183.out _; (with_reducible repeat (first | apply bA | apply bN | apply bD)); exact BK173.out⟩, ⟨by (with_reducible repeat (first | apply bA | apply bN | apply bD)); refine blk_put (cs := #[.int .i64 ((rd_T39 l1 x9_1).f0.f0), .slice Ao27 y177.length co27, .slice none 0 0]) ?_ 2 _ rfl; (with_reducible repeat (first | apply bA | apply bN | apply bD)); refine blk_put (cs := #[.int .i64 ((rd_T39 l1 x9_1).f0.f0), .slice none 0 0, .slice none 0 0]) ?_ 1 _ rfl; (with_reducible repeat (first | apply bA | apply bN | apply bD)); refine blk_put (cs := #[.int .i64 0, .slice none 0 0, .slice none 0 0]) ?_ 0 _ rfl; (with_reducible repeat (first | apply bA | apply bN | apply bD)); exact BK183.out⟩, ⟨by repeat (first | (with_reducible first | exact HB.out | apply eA | apply eN | apply eD | refine eS ?_ GE170.out | refine eS ?_ GE171.out | refine eS ?_ GE172.out | refine eS ?_ GE173.out | refine eS ?_ GE183.out) | exact HB.out)⟩⟩
        case round =>
         clear H'
         try clear c1
         try clear p1
         try clear q1
         try clear hx1
         try clear c2
         try clear p2
         try clear c3
         try clear p6
         try clear c7
         try clear c9
         try clear c10
         try clear c11
         try clear c17
         try clear p17
         try clear q17
         try clear hx17
         try clear c18
         try clear c18b0
         try clear c19
         try clear c20
         try clear c20b0
         try clear c21
         try clear c21b0
         try clear c29
         try clear c30
         try clear c31
         try clear c32
         try clear hcz12_0
         try clear hcz12_1
         try clear hcz33_0
         try clear hcz33_1
         try clear hcz33_2
         try clear hfz12_0
         try clear hfz12_1
         try clear hfz33_0
         try clear hfz33_1
         try clear hfz33_2
         try clear hx176_0
         try clear hx176_1
         try clear hx176_2
         try clear hx176_3
         try clear p176
         try clear p2
         try clear p6
         try clear q176
         obtain ⟨x11_3, x184001_3, x184002_3, u184001, u184002, rfl, HA, HK3, HO_8, HO_184001, HO_184002, BK170, BK171, BK172, BK173, BK183, HB⟩ := hrel
         cases gk with
         | zero => exact absurd HA.out (by simp [gristmilllaw06_right.l1])
         | succ k3 =>
          have H := HA.out
          clear HA
          simp only [gristmilllaw06_right.l1] at H
          by_cases c34 : x11_3 < 2
          ·rw [if_pos c34] at H
           have c34b0 : decide (x11_3 < 2) = true := decide_eq_true c34
           clear c34
           have HC35 := aMk H
           clear H
           go_upto_region 11 with (fail)
           go_cut [67] (fun v67 wc => ∃ (kq : Nat) (x67_34 : Bool), v67 = .bool x67_34 ∧ Aside0 (gristmilllaw06_right.j3 kq l1 x8_1 x9_1 x11_3 x67_34 (wrap64 (1 + (Int.tmod t174 5))) (Int.tmod t175 2) 2 2 ((rd_T39 l1 x9_1).f0.f0) x184001_3 x184002_3 = some (r1, r2, r3, r4, r5)) ∧ Aside0 (kq ≤ k3) ∧ Aside0 (Kd.S k39 39 wc w.heap.size (fun k_ => some k_ ≠ (u184001 : Value).ownBlock ∧ some k_ ≠ (u184002 : Value).ownBlock) u8 x8_1) ∧ Aside0 (Kd.R Kd.string 9 wc w.heap.size (fun _ => True) u184001 x184001_3) ∧ Aside0 (Kd.R (Kd.int .i64) 2 wc w.heap.size (fun _ => True) u184002 x184002_3) ∧ Aside0 (wc.heap[gb170]? = some (.cells #[.int .i64 (wrap64 (1 + (Int.tmod t174 5))), .int .i64 (Int.tmod t175 2)] 23 (0, 0))) ∧ Aside0 (wc.heap[gb171]? = some (.cells #[.int .i64 0, .int .i64 0] 27 (0, 0))) ∧ Aside0 (wc.heap[gb172]? = some (.cells #[.int .i64 0, .int .i64 0] 23 (0, 0))) ∧ Aside0 (wc.heap[gb173]? = some (.cells #[.int .i64 2, .int .i64 2] 27 (0, 0))) ∧ Aside0 (wc.heap[gb183]? = some (.cells #[.int .i64 ((rd_T39 l1 x9_1).f0.f0), u184001, u184002] 37 (0, 0))) ∧ Aside0 (Below w.heap.size w wc))
           case first =>
            have H := HC35.out
            clear HC35
            by_cases c36 : 0 ≤ x9_1
            ·rw [if_pos c36] at H
             have c36b0 : decide (0 ≤ x9_1) = true := decide_eq_true c36
             clear c36
             (first | rw [c36b0] | (simp only [i64_w, i32_w]; rw [c36b0]) | skip)
             by_cases c37 : x9_1 < (l1.length : Int)
             ·rw [if_pos c37] at H
              have c37b0 : decide (x9_1 < (l1.length : Int)) = true := decide_eq_true c37
              clear c37
              by_cases c38 : x11_3 < (((rd_T39 l1 x9_1).f0.f1).length : Int)
              ·rw [if_pos c38] at H
               have c38b0 : decide (x11_3 < (((rd_T39 l1 x9_1).f0.f1).length : Int)) = true := decide_eq_true c38
               clear c38
               by_cases c39 : 0 ≤ x11_3
               ·rw [if_pos c39] at H
                have c39b0 : decide (0 ≤ x11_3) = true := decide_eq_true c39
                clear c39
                have H' := aMk H
                clear H
                have p188 : 0 ≤ (x9_1 : Int) := of_decide_eq_true (by first | (with_reducible assumption) | assumption)
                have q188 : x9_1 < (l1.length : Int) := of_decide_eq_true (by first | (with_reducible assumption) | assumption)
                obtain ⟨ad188, A188_1, c188_1, A188_2, c188_2, e188, hx188_0, hx188_1, hx188_2, hx188_3, hl188_1, hi188_1, hl188_2, hi188_2⟩ := at_T39 HR1.out x9_1 p188 q188
                obtain rfl : ad176 = ad188 := (by injection e188)
                replace hx188_0 := (HB.out.cell (World.block_lt_of_cell? w _ hx188_0)).trans hx188_0
                replace hx188_1 := (HB.out.cell (World.block_lt_of_cell? w _ hx188_1)).trans hx188_1
                replace hx188_2 := (HB.out.cell (World.block_lt_of_cell? w _ hx188_2)).trans hx188_2
                replace hx188_3 := (HB.out.cell (World.block_lt_of_cell? w _ hx188_3)).trans hx188_3
                have HR188_1 := aMk hi188_1
                have HC188_1 := aMk hl188_1
                clear hi188_1 hl188_1
                have HR188_2 := aMk hi188_2
                have HC188_2 := aMk hl188_2
                clear hi188_2 hl188_2
                replace p188 := eq_true p188
                replace q188 := eq_true q188
                have p189 : 0 ≤ (x9_1 : Int) := of_decide_eq_true (by first | (with_reducible assumption) | assumption)
                have q189 : x9_1 < (l1.length : Int) := of_decide_eq_true (by first | (with_reducible assumption) | assumption)
                obtain ⟨ad189, A189_1, c189_1, A189_2, c189_2, e189, hx189_0, hx189_1, hx189_2, hx189_3, hl189_1, hi189_1, hl189_2, hi189_2⟩ := at_T39 HR1.out x9_1 p189 q189
                obtain rfl : ad176 = ad189 := (by injection e189)
                replace hx189_0 := (HB.out.cell (World.block_lt_of_cell? w _ hx189_0)).trans hx189_0
                replace hx189_1 := (HB.out.cell (World.block_lt_of_cell? w _ hx189_1)).trans hx189_1
                replace hx189_2 := (HB.out.cell (World.block_lt_of_cell? w _ hx189_2)).trans hx189_2
                replace hx189_3 := (HB.out.cell (World.block_lt_of_cell? w _ hx189_3)).trans hx189_3
                have HR189_1 := aMk hi189_1
                have HC189_1 := aMk hl189_1
                clear hi189_1 hl189_1
                have HR189_2 := aMk hi189_2
                have HC189_2 := aMk hl189_2
                clear hi189_2 hl189_2
                replace p189 := eq_true p189
                replace q189 := eq_true q189
                have ea_ := Option.some.inj (hx188_1.symm.trans hx189_1)
                injection ea_ with ea_ en_ ec_
                subst ea_
                subst ec_
                clear en_
                have ea_ := Option.some.inj (hx188_2.symm.trans hx189_2)
                injection ea_ with ea_ en_ ec_
                subst ea_
                subst ec_
                clear en_
                have p190 : 0 ≤ (x11_3 : Int) := of_decide_eq_true (by first | (with_reducible assumption) | assumption)
                have q190 : x11_3 < (((rd_T39 l1 x9_1).f0.f1).length : Int) := of_decide_eq_true (by first | (with_reducible assumption) | assumption)
                obtain ⟨ad190, e190, hx190_0⟩ := Kd.at_string HR189_1.out x11_3 p190 q190
                cases e190
                replace hx190_0 := (HB.out.cell (World.block_lt_of_cell? w _ hx190_0)).trans hx190_0
                replace p190 := eq_true p190
                replace q190 := eq_true q190
                go_wp2
                go_meet
                case rel => exact ⟨_, (decide (((rdOf ByteArray.empty ((rd_T39 l1 x9_1).f0.f1) x11_3).size : Int) ≤ 64)), (by first | rfl | (simp; done) | (simp [*]; done)), H', ⟨by have := HK1.out; have := HJ16.out; have := HK3.out; first | omega | exact Nat.le_refl _⟩, ⟨by (with_reducible repeat (first | apply Kd.S_alloc | apply Kd.S_drewN | apply Kd.S_drew)); exact HO_8.out⟩, ⟨by (with_reducible repeat (first | apply rA | apply rN | apply rD)); exact HO_184001.out⟩, ⟨by (with_reducible repeat (first | apply rA | apply rN | apply rD)); exact HO_184002.out⟩, ⟨by (with_reducible repeat (first | apply bA | apply bN | apply bD)); exact BK170.out⟩, ⟨by (with_reducible repeat (first | apply bA | apply bN | apply bD)); exact BK171.out⟩, ⟨by (with_reducible repeat (first | apply bA | apply bN | apply bD)); exact BK172.out⟩, ⟨by (with_reducible repeat (first | apply bA | apply bN | apply bD)); exact BK173.out⟩, ⟨by (with_reducible repeat (first | apply bA | apply bN | apply bD)); exact BK183.out⟩, ⟨by repeat (first | (with_reducible first | exact HB.out | apply eA | apply eN | apply eD | refine eS ?_ GE170.out | refine eS ?_ GE171.out | refine eS ?_ GE172.out | refine eS ?_ GE173.out | refine eS ?_ GE183.out) | exact HB.out)⟩⟩
               ·rw [if_neg c39] at H
                exact absurd H (by simp)
              ·rw [if_neg c38] at H
               have c38b0 : decide (x11_3 < (((rd_T39 l1 x9_1).f0.f1).length : Int)) = false := decide_eq_false c38
               clear c38
               have H' := aMk H
               clear H
               have p188 : 0 ≤ (x9_1 : Int) := of_decide_eq_true (by first | (with_reducible assumption) | assumption)
               have q188 : x9_1 < (l1.length : Int) := of_decide_eq_true (by first | (with_reducible assumption) | assumption)
               obtain ⟨ad188, A188_1, c188_1, A188_2, c188_2, e188, hx188_0, hx188_1, hx188_2, hx188_3, hl188_1, hi188_1, hl188_2, hi188_2⟩ := at_T39 HR1.out x9_1 p188 q188
               obtain rfl : ad176 = ad188 := (by injection e188)
               replace hx188_0 := (HB.out.cell (World.block_lt_of_cell? w _ hx188_0)).trans hx188_0
               replace hx188_1 := (HB.out.cell (World.block_lt_of_cell? w _ hx188_1)).trans hx188_1
               replace hx188_2 := (HB.out.cell (World.block_lt_of_cell? w _ hx188_2)).trans hx188_2
               replace hx188_3 := (HB.out.cell (World.block_lt_of_cell? w _ hx188_3)).trans hx188_3
               have HR188_1 := aMk hi188_1
               have HC188_1 := aMk hl188_1
               clear hi188_1 hl188_1
               have HR188_2 := aMk hi188_2
               have HC188_2 := aMk hl188_2
               clear hi188_2 hl188_2
               replace p188 := eq_true p188
               replace q188 := eq_true q188
               go_wp2
               go_meet
               case rel => exact ⟨_, (false), (by first | rfl | (simp; done) | (simp [*]; done)), H', ⟨by have := HK1.out; have := HJ16.out; have := HK3.out; first | omega | exact Nat.le_refl _⟩, ⟨by (with_reducible repeat (first | apply Kd.S_alloc | apply Kd.S_drewN | apply Kd.S_drew)); exact HO_8.out⟩, ⟨by (with_reducible repeat (first | apply rA | apply rN | apply rD)); exact HO_184001.out⟩, ⟨by (with_reducible repeat (first | apply rA | apply rN | apply rD)); exact HO_184002.out⟩, ⟨by (with_reducible repeat (first | apply bA | apply bN | apply bD)); exact BK170.out⟩, ⟨by (with_reducible repeat (first | apply bA | apply bN | apply bD)); exact BK171.out⟩, ⟨by (with_reducible repeat (first | apply bA | apply bN | apply bD)); exact BK172.out⟩, ⟨by (with_reducible repeat (first | apply bA | apply bN | apply bD)); exact BK173.out⟩, ⟨by (with_reducible repeat (first | apply bA | apply bN | apply bD)); exact BK183.out⟩, ⟨by repeat (first | (with_reducible first | exact HB.out | apply eA | apply eN | apply eD | refine eS ?_ GE170.out | refine eS ?_ GE171.out | refine eS ?_ GE172.out | refine eS ?_ GE173.out | refine eS ?_ GE183.out) | exact HB.out)⟩⟩
             ·rw [if_neg c37] at H
              exact absurd H (by simp)
            ·rw [if_neg c36] at H
             exact absurd H (by simp)
           case rest =>
            clear HC35
            try clear c1
            try clear p1
            try clear q1
            try clear hx1
            try clear c2
            try clear p2
            try clear c3
            try clear p6
            try clear c7
            try clear c9
            try clear c10
            try clear c11
            try clear c17
            try clear p17
            try clear q17
            try clear hx17
            try clear c18
            try clear c18b0
            try clear p18
            try clear q18
            try clear hx18
            try clear c19
            try clear p19
            try clear q19
            try clear hx19
            try clear c20
            try clear c20b0
            try clear c21
            try clear c21b0
            try clear c29
            try clear c30
            try clear c31
            try clear c32
            try clear c34
            try clear c34b0
            try clear c36
            try clear c36b0
            try clear c37
            try clear c37b0
            try clear c38
            try clear c38b0
            try clear c39
            try clear c39b0
            try clear hcz12_0
            try clear hcz12_1
            try clear hcz33_0
            try clear hcz33_1
            try clear hcz33_2
            try clear hfz12_0
            try clear hfz12_1
            try clear hfz33_0
            try clear hfz33_1
            try clear hfz33_2
            try clear hx176_0
            try clear hx176_1
            try clear hx176_2
            try clear hx176_3
            try clear hx188_0
            try clear hx188_1
            try clear hx188_2
            try clear hx188_3
            try clear hx189_0
            try clear hx189_1
            try clear hx189_2
            try clear hx189_3
            try clear hx190_0
            try clear p1
            try clear p17
            try clear p176
            try clear p188
            try clear p189
            try clear p190
            try clear p2
            try clear p6
            try clear q1
            try clear q17
            try clear q176
            try clear q188
            try clear q189
            try clear q190
            obtain ⟨kq, x67_34, rfl, HA, HJ34, HO_8, HO_184001, HO_184002, BK170, BK171, BK172, BK173, BK183, HB⟩ := hcut
            cases kq with
            | zero => exact absurd HA.out (by simp [gristmilllaw06_right.j3])
            | succ kj34 =>
             have H := HA.out
             clear HA
             simp only [gristmilllaw06_right.j3] at H
             by_cases c40 : x67_34 = true
             ·subst c40
              have H1 : (if 0 ≤ x9_1 then (if x9_1 < (l1.length : Int) then (if 0 ≤ x11_3 then (if x11_3 < (((rd_T39 l1 x9_1).f0.f1).length : Int) then (if x11_3 < (x184001_3.length : Int) then ((some (x184001_3.set (x11_3 : Int).toNat (rdOf ByteArray.empty ((rd_T39 l1 x9_1).f0.f1) x11_3) : List ByteArray)).bind fun y193 => (if x11_3 < (((rd_T39 l1 x9_1).f0.f2).length : Int) then (if x11_3 < (x184002_3.length : Int) then (gristmilllaw06_right.l1 kj34 l1 x8_1 x9_1 (wrap64 (x11_3 + 1)) (wrap64 (1 + (Int.tmod t174 5))) (Int.tmod t175 2) 2 2 ((rd_T39 l1 x9_1).f0.f0) y193 (x184002_3.set (x11_3 : Int).toNat (rd ((rd_T39 l1 x9_1).f0.f2) x11_3))) else (none)) else (gristmilllaw06_right.l1 kj34 l1 x8_1 x9_1 (wrap64 (x11_3 + 1)) (wrap64 (1 + (Int.tmod t174 5))) (Int.tmod t175 2) 2 2 ((rd_T39 l1 x9_1).f0.f0) y193 x184002_3))) else (none)) else (none)) else (none)) else (none)) else (none)) = some (r1, r2, r3, r4, r5) := by rw [if_pos rfl] at H; exact H
              clear H
              have H := H1
              clear H1
              by_cases c41 : 0 ≤ x9_1
              ·rw [if_pos c41] at H
               have c41b0 : decide (0 ≤ x9_1) = true := decide_eq_true c41
               clear c41
               by_cases c42 : x9_1 < (l1.length : Int)
               ·rw [if_pos c42] at H
                have c42b0 : decide (x9_1 < (l1.length : Int)) = true := decide_eq_true c42
                clear c42
                by_cases c43 : 0 ≤ x11_3
                ·rw [if_pos c43] at H
                 have c43b0 : decide (0 ≤ x11_3) = true := decide_eq_true c43
                 clear c43
                 by_cases c44 : x11_3 < (((rd_T39 l1 x9_1).f0.f1).length : Int)
                 ·rw [if_pos c44] at H
                  have c44b0 : decide (x11_3 < (((rd_T39 l1 x9_1).f0.f1).length : Int)) = true := decide_eq_true c44
                  clear c44
                  by_cases c45 : x11_3 < (x184001_3.length : Int)
                  ·rw [if_pos c45] at H
                   have c45b0 : decide (x11_3 < (x184001_3.length : Int)) = true := decide_eq_true c45
                   clear c45
                   obtain ⟨y193, hy193⟩ : ∃ y_ : List ByteArray, y_ = (x184001_3.set (x11_3 : Int).toNat (rdOf ByteArray.empty ((rd_T39 l1 x9_1).f0.f1) x11_3)) := ⟨_, rfl⟩
                   replace H : (if x11_3 < (((rd_T39 l1 x9_1).f0.f2).length : Int) then (if x11_3 < (x184002_3.length : Int) then (gristmilllaw06_right.l1 kj34 l1 x8_1 x9_1 (wrap64 (x11_3 + 1)) (wrap64 (1 + (Int.tmod t174 5))) (Int.tmod t175 2) 2 2 ((rd_T39 l1 x9_1).f0.f0) y193 (x184002_3.set (x11_3 : Int).toNat (rd ((rd_T39 l1 x9_1).f0.f2) x11_3))) else (none)) else (gristmilllaw06_right.l1 kj34 l1 x8_1 x9_1 (wrap64 (x11_3 + 1)) (wrap64 (1 + (Int.tmod t174 5))) (Int.tmod t175 2) 2 2 ((rd_T39 l1 x9_1).f0.f0) y193 x184002_3)) = some (r1, r2, r3, r4, r5) := by first | (rw [hy193]; with_reducible exact H) | (have H2_ := (Option.bind_some _ _).symm.trans H; rw [hy193]; with_reducible exact H2_) | (have H2_ := (Option.bind_some _ _).symm.trans H; with_reducible exact H2_) | with_reducible exact H | (rw [hy193]; exact H) | exact H
                   have Ny193 := aMk hy193
                   clear hy193
                   by_cases c47 : x11_3 < (((rd_T39 l1 x9_1).f0.f2).length : Int)
                   ·rw [if_pos c47] at H
                    have c47b0 : decide (x11_3 < (((rd_T39 l1 x9_1).f0.f2).length : Int)) = true := decide_eq_true c47
                    clear c47
                    by_cases c48 : x11_3 < (x184002_3.length : Int)
                    ·rw [if_pos c48] at H
                     have c48b0 : decide (x11_3 < (x184002_3.length : Int)) = true := decide_eq_true c48
                     clear c48
                     obtain ⟨y197, hy197⟩ : ∃ y_ : List Int, y_ = (x184002_3.set (x11_3 : Int).toNat (rd ((rd_T39 l1 x9_1).f0.f2) x11_3)) := ⟨_, rfl⟩
                     replace H : (gristmilllaw06_right.l1 kj34 l1 x8_1 x9_1 (wrap64 (x11_3 + 1)) (wrap64 (1 + (Int.tmod t174 5))) (Int.tmod t175 2) 2 2 ((rd_T39 l1 x9_1).f0.f0) y193 y197) = some (r1, r2, r3, r4, r5) := by first | (rw [hy197]; with_reducible exact H) | (have H2_ := (Option.bind_some _ _).symm.trans H; rw [hy197]; with_reducible exact H2_) | (have H2_ := (Option.bind_some _ _).symm.trans H; with_reducible exact H2_) | with_reducible exact H | (rw [hy197]; exact H) | exact H
                     have Ny197 := aMk hy197
                     clear hy197
                     have H' := aMk H
                     clear H
                     try go_wp2
                     replace HO_8 := aMk (Kd.S_drew HO_8.out)
                     replace HO_184001 := aMk (rD HO_184001.out)
                     replace HO_184002 := aMk (rD HO_184002.out)
                     replace BK170 := aMk (bD BK170.out)
                     replace BK171 := aMk (bD BK171.out)
                     replace BK172 := aMk (bD BK172.out)
                     replace BK173 := aMk (bD BK173.out)
                     replace BK183 := aMk (bD BK183.out)
                     replace HB := aMk (eD HB.out)
                     have p191 : 0 ≤ (x9_1 : Int) := of_decide_eq_true (by first | (with_reducible assumption) | assumption)
                     have q191 : x9_1 < (l1.length : Int) := of_decide_eq_true (by first | (with_reducible assumption) | assumption)
                     obtain ⟨ad191, A191_1, c191_1, A191_2, c191_2, e191, hx191_0, hx191_1, hx191_2, hx191_3, hl191_1, hi191_1, hl191_2, hi191_2⟩ := at_T39 HR1.out x9_1 p191 q191
                     have hw191_3 := hx191_3
                     have hw191_2 := hx191_2
                     have hw191_1 := hx191_1
                     have hw191_0 := hx191_0
                     obtain rfl : ad176 = ad191 := (by injection e191)
                     replace hx191_0 := (HB.out.cell (World.block_lt_of_cell? w _ hx191_0)).trans hx191_0
                     replace hx191_1 := (HB.out.cell (World.block_lt_of_cell? w _ hx191_1)).trans hx191_1
                     replace hx191_2 := (HB.out.cell (World.block_lt_of_cell? w _ hx191_2)).trans hx191_2
                     replace hx191_3 := (HB.out.cell (World.block_lt_of_cell? w _ hx191_3)).trans hx191_3
                     have HR191_1 := aMk hi191_1
                     have HC191_1 := aMk hl191_1
                     clear hi191_1 hl191_1
                     have HR191_2 := aMk hi191_2
                     have HC191_2 := aMk hl191_2
                     clear hi191_2 hl191_2
                     replace p191 := eq_true p191
                     replace q191 := eq_true q191
                     have p192 : 0 ≤ (x11_3 : Int) := of_decide_eq_true (by first | (with_reducible assumption) | assumption)
                     have q192 : x11_3 < (((rd_T39 l1 x9_1).f0.f1).length : Int) := of_decide_eq_true (by first | (with_reducible assumption) | assumption)
                     obtain ⟨ad192, e192, hx192_0⟩ := Kd.at_string HR191_1.out x11_3 p192 q192
                     have hw192_0 := hx192_0
                     cases e192
                     replace hx192_0 := (HB.out.cell (World.block_lt_of_cell? w _ hx192_0)).trans hx192_0
                     replace p192 := eq_true p192
                     replace q192 := eq_true q192
                     have p46 : 0 ≤ (x11_3 : Int) := of_decide_eq_true (by first | (with_reducible assumption) | assumption)
                     have q46 : (x11_3 : Int) < ((x184001_3.length : Int) : Int) := of_decide_eq_true (by first | (with_reducible assumption) | assumption)
                     obtain ⟨go46, co46, eo46, gb46, gl46, cl46, HG46⟩ := Kd.R_form HO_184001.out (by omega)
                     (first | cases eo46 | (injection eo46 with ea_ en_ ec_; (first | subst ea_ | (injection ea_ with ea_; subst ea_)); subst ec_; clear en_))
                     have GB46 := aMk gb46
                     have GG46 := aMk HG46
                     clear gb46 gl46 HG46
                     obtain ⟨hx46_0, hf46_0⟩ := Kd.R_celln (⟨#[]⟩ : ByteArray) HO_184001.out (x11_3 : Int) p46 q46
                     replace p46 := eq_true p46
                     replace q46 := eq_true q46
                     have HP51 := Kd.R_putn HO_184001.out (x11_3 : Int) (rdOf ByteArray.empty ((rd_T39 l1 x9_1).f0.f1) x11_3)
                     rw [← Ny193.out] at HP51
                     have HQ51 := aMk HP51
                     clear HP51
                     refine start_ (n := 14) (S := fun w' => w'.cell? ⟨gb183, 0, none⟩ = some (.int .i64 ((rd_T39 l1 x9_1).f0.f0)) ∧ w'.cell? ⟨gb183, 1, none⟩ = some (.slice (some ⟨go46, 0, none⟩) x184001_3.length co46) ∧ w'.cell? ⟨gb183, 2, none⟩ = some (u184002) ∧ w'.cell? (ad176.add ((x9_1).toNat * 4)) = some (.int .i64 ((rd_T39 l1 x9_1).f0.f0)) ∧ w'.cell? ⟨(ad176.add ((x9_1).toNat * 4)).block, (ad176.add ((x9_1).toNat * 4)).off + 1, none⟩ = some (.slice (some ad192) ((rd_T39 l1 x9_1).f0.f1).length c191_1) ∧ w'.cell? ⟨(ad176.add ((x9_1).toNat * 4)).block, (ad176.add ((x9_1).toNat * 4)).off + 2, none⟩ = some (.slice A191_2 ((rd_T39 l1 x9_1).f0.f2).length c191_2) ∧ w'.cell? ⟨(ad176.add ((x9_1).toNat * 4)).block, (ad176.add ((x9_1).toNat * 4)).off + 3, none⟩ = some (.int .u64 ((rd_T39 l1 x9_1).f1)) ∧ w'.cell? (ad192.add (x11_3).toNat) = some (.string (rdOf ByteArray.empty ((rd_T39 l1 x9_1).f0.f1) x11_3))) (ds := [13]) #[false, false, false, false, false, false, false, false, false, false, false, false, false, false] (by kernel_rfl) rfl rfl ⟨(blk_cell BK183.out 0).trans rfl, (blk_cell BK183.out 1).trans rfl, (blk_cell BK183.out 2).trans rfl, ((HB.out.cell (World.block_lt_of_cell? w _ hw191_0)).trans hw191_0), ((HB.out.cell (World.block_lt_of_cell? w _ hw191_1)).trans hw191_1), ((HB.out.cell (World.block_lt_of_cell? w _ hw191_2)).trans hw191_2), ((HB.out.cell (World.block_lt_of_cell? w _ hw191_3)).trans hw191_3), ((HB.out.cell (World.block_lt_of_cell? w _ hw192_0)).trans hw192_0)⟩ (fun hHeld => ?_); refine with_tabW gristmilllaw06_right.tab12 gristmilllaw06_right.bits12 (fun HT_ HW_ => ?_)
                     generalize wc.drew = w50 at HO_8 HO_184001 HO_184002 BK170 BK171 BK172 BK173 BK183 HB GG46 HQ51 HR191_1 HR191_2 hf46_0 hx191_0 hx191_1 hx191_2 hx191_3 hx192_0 hx46_0 hHeld ⊢
                     refine pure_ (i := 0) (N := some 68) (v := ?_) (a' := ?_) #[true, false, false, false, false, false, false, false, false, false, false, false, false, false] rfl rfl (any_of HT_.out (by kernel_rfl)) (fun _ _ _ h => h) (Or.inl ⟨by rfl, ?_⟩) ?_ ?_
                     rotate_left
                     ·intro w'
                      go_simp
                      with_reducible rfl
                     rotate_left
                     ·simp only [Act.put, sA, sB, sC, i64_w, i32_w]
                      rfl
                     refine pure_ (i := 2) (N := some 70) (v := ?_) (a' := ?_) #[true, false, true, false, false, false, false, false, false, false, false, false, false, false] rfl rfl (any_of HT_.out (by kernel_rfl)) (fun _ _ _ h => h) (Or.inl ⟨by rfl, ?_⟩) ?_ ?_
                     rotate_left
                     ·intro w'
                      go_simp
                      with_reducible rfl
                     rotate_left
                     ·simp only [Act.put, sA, sB, sC, i64_w, i32_w]
                      rfl
                     refine pure_ (i := 3) (N := some 71) (v := ?_) (a' := ?_) #[true, false, true, true, false, false, false, false, false, false, false, false, false, false] rfl rfl (any_of HT_.out (by kernel_rfl)) (fun _ _ _ h => h) (Or.inl ⟨by rfl, ?_⟩) ?_ ?_
                     rotate_left
                     ·intro w'
                      go_simp
                      with_reducible rfl
                     rotate_left
                     ·simp only [Act.put, sA, sB, sC, i64_w, i32_w]
                      rfl
                     refine pure_ (i := 4) (N := some 72) (v := ?_) (a' := ?_) #[true, false, true, true, true, false, false, false, false, false, false, false, false, false] rfl rfl (any_of HT_.out (by kernel_rfl)) (fun _ _ _ h => h) (Or.inl ⟨by rfl, ?_⟩) ?_ ?_
                     rotate_left
                     ·intro w'
                      go_simp
                      with_reducible rfl
                     rotate_left
                     ·simp only [Act.put, sA, sB, sC, i64_w, i32_w]
                      rfl
                     refine pure_ (i := 5) (N := some 73) (v := ?_) (a' := ?_) #[true, false, true, true, true, true, false, false, false, false, false, false, false, false] rfl rfl (any_of HT_.out (by kernel_rfl)) (fun _ _ _ h => h) (Or.inl ⟨by rfl, ?_⟩) ?_ ?_
                     rotate_left
                     ·intro w'
                      go_simp
                      with_reducible rfl
                     rotate_left
                     ·simp only [Act.put, sA, sB, sC, i64_w, i32_w]
                      rfl
                     refine pure_ (i := 6) (N := some 74) (v := ?_) (a' := ?_) #[true, false, true, true, true, true, true, false, false, false, false, false, false, false] rfl rfl (any_of HT_.out (by kernel_rfl)) (fun _ _ _ h => h) (Or.inl ⟨by rfl, ?_⟩) ?_ ?_
                     rotate_left
                     ·intro w'
                      go_simp
                      with_reducible rfl
                     rotate_left
                     ·simp only [Act.put, sA, sB, sC, i64_w, i32_w]
                      rfl
                     refine pure_ (i := 7) (N := some 75) (v := ?_) (a' := ?_) #[true, false, true, true, true, true, true, true, false, false, false, false, false, false] rfl rfl (any_of HT_.out (by kernel_rfl)) (fun _ _ _ h => h) (Or.inl ⟨by rfl, ?_⟩) ?_ ?_
                     rotate_left
                     ·intro w'
                      go_simp
                      with_reducible rfl
                     rotate_left
                     ·simp only [Act.put, sA, sB, sC, i64_w, i32_w]
                      rfl
                     refine pure_ (i := 9) (N := some 77) (v := ?_) (a' := ?_) #[true, false, true, true, true, true, true, true, false, true, false, false, false, false] rfl rfl (any_of HT_.out (by kernel_rfl)) (fun _ _ _ h => h) (Or.inl ⟨by rfl, ?_⟩) ?_ ?_
                     rotate_left
                     ·intro w'
                      go_simp
                      with_reducible rfl
                     rotate_left
                     ·simp only [Act.put, sA, sB, sC, i64_w, i32_w]
                      rfl
                     refine take_ (i := 1) (N := some 69) (v := ?_) (a' := ?_) #[true, true, true, true, true, true, true, true, false, true, false, false, false, false] rfl rfl (take_ofW HT_.out HW_.out (by kernel_rfl)) (fun _ _ _ h => h) (Or.inl ⟨by rfl, ?_⟩) hHeld ?_ ?_
                     rotate_left
                     ·rintro w' ⟨s0, s1, s2, s3, s4, s5, s6, s7⟩
                      go_simp
                      with_reducible rfl
                     rotate_left
                     ·simp only [Act.put, sA, sB, sC, i64_w, i32_w]
                      rfl
                     refine take_ (i := 8) (N := some 76) (v := ?_) (a' := ?_) #[true, true, true, true, true, true, true, true, true, true, false, false, false, false] rfl rfl (take_ofW HT_.out HW_.out (by kernel_rfl)) (fun _ _ _ h => h) (Or.inl ⟨by rfl, ?_⟩) hHeld ?_ ?_
                     rotate_left
                     ·rintro w' ⟨s0, s1, s2, s3, s4, s5, s6, s7⟩
                      go_simp
                      with_reducible rfl
                     rotate_left
                     ·simp only [Act.put, sA, sB, sC, i64_w, i32_w]
                      rfl
                     refine pure_ (i := 10) (N := some 78) (v := ?_) (a' := ?_) #[true, true, true, true, true, true, true, true, true, true, true, false, false, false] rfl rfl (any_of HT_.out (by kernel_rfl)) (fun _ _ _ h => h) (Or.inl ⟨by rfl, ?_⟩) ?_ ?_
                     rotate_left
                     ·intro w'
                      go_simp
                      with_reducible rfl
                     rotate_left
                     ·simp only [Act.put, sA, sB, sC, i64_w, i32_w]
                      rfl
                     refine take_ (i := 11) (N := some 79) (v := ?_) (a' := ?_) #[true, true, true, true, true, true, true, true, true, true, true, true, false, false] rfl rfl (take_ofW HT_.out HW_.out (by kernel_rfl)) (fun _ _ _ h => h) (Or.inl ⟨by rfl, ?_⟩) hHeld ?_ ?_
                     rotate_left
                     ·rintro w' ⟨s0, s1, s2, s3, s4, s5, s6, s7⟩
                      go_simp
                      with_reducible rfl
                     rotate_left
                     ·simp only [Act.put, sA, sB, sC, i64_w, i32_w]
                      rfl
                     refine pure_ (i := 12) (N := some 80) (v := ?_) (a' := ?_) #[true, true, true, true, true, true, true, true, true, true, true, true, true, false] rfl rfl (any_of HT_.out (by kernel_rfl)) (fun _ _ _ h => h) (Or.inl ⟨by rfl, ?_⟩) ?_ ?_
                     rotate_left
                     ·intro w'
                      go_simp
                      with_reducible rfl
                     rotate_left
                     ·simp only [Act.put, sA, sB, sC, i64_w, i32_w]
                      rfl
                     refine last_ (i := 13) (N := none) #[true, true, true, true, true, true, true, true, true, true, true, true, true, true] rfl rfl (one_of HT_.out (by kernel_rfl)) (by decide) (fun K hK => ?_)
                     refine skip_ (w1 := ?_) (by rfl) rfl ?_ ?_
                     rotate_left
                     ·go_simp
                      rfl
                     refine hK.out _ _ ?_
                     clear hK K
                     refine done_ (done_of HT_.out (by kernel_rfl)) ?_
                     have p194 : 0 ≤ (x9_1 : Int) := of_decide_eq_true (by first | (with_reducible assumption) | assumption)
                     have q194 : x9_1 < (l1.length : Int) := of_decide_eq_true (by first | (with_reducible assumption) | assumption)
                     obtain ⟨ad194, A194_1, c194_1, A194_2, c194_2, e194, hx194_0, hx194_1, hx194_2, hx194_3, hl194_1, hi194_1, hl194_2, hi194_2⟩ := at_T39 HR1.out x9_1 p194 q194
                     obtain rfl : ad176 = ad194 := (by injection e194)
                     have hn194_0 : ad176.block ≠ go46 := Nat.ne_of_lt (Nat.lt_of_lt_of_le (by have := World.block_lt_of_cell? _ _ hx194_0; first | rwa [add_block] at this | exact this) GB46.out)
                     replace hx194_0 := (HB.out.cell (World.block_lt_of_cell? w _ hx194_0)).trans hx194_0
                     replace hx194_1 := (HB.out.cell (World.block_lt_of_cell? w _ hx194_1)).trans hx194_1
                     replace hx194_2 := (HB.out.cell (World.block_lt_of_cell? w _ hx194_2)).trans hx194_2
                     replace hx194_3 := (HB.out.cell (World.block_lt_of_cell? w _ hx194_3)).trans hx194_3
                     have HR194_1 := aMk hi194_1
                     have HC194_1 := aMk hl194_1
                     clear hi194_1 hl194_1
                     have HR194_2 := aMk hi194_2
                     have HC194_2 := aMk hl194_2
                     clear hi194_2 hl194_2
                     replace hx194_0 := (cell_far (p := ⟨go46, (x11_3 : Int).toNat, none⟩) (by first | (rw [add_block]; exact hn194_0) | (show (Addr.add _ _).block ≠ _; rw [add_block]; exact hn194_0) | exact hn194_0) (.string (rdOf ByteArray.empty ((rd_T39 l1 x9_1).f0.f1) x11_3))).trans hx194_0
                     replace hx194_1 := (cell_far (p := ⟨go46, (x11_3 : Int).toNat, none⟩) (by first | (rw [add_block]; exact hn194_0) | (show (Addr.add _ _).block ≠ _; rw [add_block]; exact hn194_0) | exact hn194_0) (.string (rdOf ByteArray.empty ((rd_T39 l1 x9_1).f0.f1) x11_3))).trans hx194_1
                     replace hx194_2 := (cell_far (p := ⟨go46, (x11_3 : Int).toNat, none⟩) (by first | (rw [add_block]; exact hn194_0) | (show (Addr.add _ _).block ≠ _; rw [add_block]; exact hn194_0) | exact hn194_0) (.string (rdOf ByteArray.empty ((rd_T39 l1 x9_1).f0.f1) x11_3))).trans hx194_2
                     replace hx194_3 := (cell_far (p := ⟨go46, (x11_3 : Int).toNat, none⟩) (by first | (rw [add_block]; exact hn194_0) | (show (Addr.add _ _).block ≠ _; rw [add_block]; exact hn194_0) | exact hn194_0) (.string (rdOf ByteArray.empty ((rd_T39 l1 x9_1).f0.f1) x11_3))).trans hx194_3
                     clear hn194_0
                     replace p194 := eq_true p194
                     replace q194 := eq_true q194
                     try go_wp2
                     have n0_ : Aside0 (Kd.S k39 39 (w50.setCell ⟨go46, (x11_3 : Int).toNat, none⟩ (.string (rdOf ByteArray.empty ((rd_T39 l1 x9_1).f0.f1) x11_3))) w.heap.size (fun k_ => some k_ ≠ (.slice (some ⟨go46, 0, none⟩) x184001_3.length co46 : Value).ownBlock ∧ some k_ ≠ (u184002 : Value).ownBlock) u8 x8_1) := ⟨by (with_reducible repeat (first | apply Kd.S_alloc | apply Kd.S_drewN | apply Kd.S_drew)); exact Kd.S_mono (Kd.S_far (p := ⟨go46, (x11_3 : Int).toNat, none⟩) (Kd.S_mono HO_8.out (fun k_ hk => (⟨hk, fun e_ => hk.1 (by rw [e_]; rfl)⟩ : _ ∧ k_ ≠ go46))) (fun _ hk => hk.2) (.string (rdOf ByteArray.empty ((rd_T39 l1 x9_1).f0.f1) x11_3))) (fun _ hk => ⟨hk.1.1, hk.1.2⟩)⟩
                     have n1_ : Aside0 (Kd.R Kd.string 9 (w50.setCell ⟨go46, (x11_3 : Int).toNat, none⟩ (.string (rdOf ByteArray.empty ((rd_T39 l1 x9_1).f0.f1) x11_3))) w.heap.size (fun _ => True) (.slice (some ⟨go46, 0, none⟩) x184001_3.length co46) y193) := ⟨by (with_reducible repeat (first | apply rA | apply rN | apply rD)); exact HQ51.out⟩
                     have n2_ : Aside0 (Kd.R (Kd.int .i64) 2 (w50.setCell ⟨go46, (x11_3 : Int).toNat, none⟩ (.string (rdOf ByteArray.empty ((rd_T39 l1 x9_1).f0.f1) x11_3))) w.heap.size (fun _ => True) u184002 x184002_3) := ⟨by (with_reducible repeat (first | apply rA | apply rN | apply rD)); exact Kd.R_mono (Kd.R_far (p := ⟨go46, (x11_3 : Int).toNat, none⟩) (Kd.R_types HO_184002.out GG46.out (by decide)) (fun _ hk => hk.2) (.string (rdOf ByteArray.empty ((rd_T39 l1 x9_1).f0.f1) x11_3))) (fun _ hk => trivial)⟩
                     have n3_ : Aside0 ((w50.setCell ⟨go46, (x11_3 : Int).toNat, none⟩ (.string (rdOf ByteArray.empty ((rd_T39 l1 x9_1).f0.f1) x11_3))).heap[gb170]? = some (.cells #[.int .i64 (wrap64 (1 + (Int.tmod t174 5))), .int .i64 (Int.tmod t175 2)] 23 (0, 0))) := ⟨by (with_reducible repeat (first | apply bA | apply bN | apply bD)); refine blk_far ?_ (by have h_ := Kd.R_ne HO_184001.out BK170.out (by decide); intro e_; exact h_ (by rw [e_]; rfl)) _; (with_reducible repeat (first | apply bA | apply bN | apply bD)); exact BK170.out⟩
                     have n4_ : Aside0 ((w50.setCell ⟨go46, (x11_3 : Int).toNat, none⟩ (.string (rdOf ByteArray.empty ((rd_T39 l1 x9_1).f0.f1) x11_3))).heap[gb171]? = some (.cells #[.int .i64 0, .int .i64 0] 27 (0, 0))) := ⟨by (with_reducible repeat (first | apply bA | apply bN | apply bD)); refine blk_far ?_ (by have h_ := Kd.R_ne HO_184001.out BK171.out (by decide); intro e_; exact h_ (by rw [e_]; rfl)) _; (with_reducible repeat (first | apply bA | apply bN | apply bD)); exact BK171.out⟩
                     have n5_ : Aside0 ((w50.setCell ⟨go46, (x11_3 : Int).toNat, none⟩ (.string (rdOf ByteArray.empty ((rd_T39 l1 x9_1).f0.f1) x11_3))).heap[gb172]? = some (.cells #[.int .i64 0, .int .i64 0] 23 (0, 0))) := ⟨by (with_reducible repeat (first | apply bA | apply bN | apply bD)); refine blk_far ?_ (by have h_ := Kd.R_ne HO_184001.out BK172.out (by decide); intro e_; exact h_ (by rw [e_]; rfl)) _; (with_reducible repeat (first | apply bA | apply bN | apply bD)); exact BK172.out⟩
                     have n6_ : Aside0 ((w50.setCell ⟨go46, (x11_3 : Int).toNat, none⟩ (.string (rdOf ByteArray.empty ((rd_T39 l1 x9_1).f0.f1) x11_3))).heap[gb173]? = some (.cells #[.int .i64 2, .int .i64 2] 27 (0, 0))) := ⟨by (with_reducible repeat (first | apply bA | apply bN | apply bD)); refine blk_far ?_ (by have h_ := Kd.R_ne HO_184001.out BK173.out (by decide); intro e_; exact h_ (by rw [e_]; rfl)) _; (with_reducible repeat (first | apply bA | apply bN | apply bD)); exact BK173.out⟩
                     have n7_ : Aside0 ((w50.setCell ⟨go46, (x11_3 : Int).toNat, none⟩ (.string (rdOf ByteArray.empty ((rd_T39 l1 x9_1).f0.f1) x11_3))).heap[gb183]? = some (.cells #[.int .i64 ((rd_T39 l1 x9_1).f0.f0), .slice (some ⟨go46, 0, none⟩) x184001_3.length co46, u184002] 37 (0, 0))) := ⟨by (with_reducible repeat (first | apply bA | apply bN | apply bD)); refine blk_far ?_ (by have h_ := Kd.R_ne HO_184001.out BK183.out (by decide); intro e_; exact h_ (by rw [e_]; rfl)) _; (with_reducible repeat (first | apply bA | apply bN | apply bD)); exact BK183.out⟩
                     have n8_ : Aside0 (Below w.heap.size w (w50.setCell ⟨go46, (x11_3 : Int).toNat, none⟩ (.string (rdOf ByteArray.empty ((rd_T39 l1 x9_1).f0.f1) x11_3)))) := ⟨by repeat (first | (with_reducible first | exact HB.out | apply eA | apply eN | apply eD | refine eS ?_ GB46.out | refine eS ?_ GE170.out | refine eS ?_ GE171.out | refine eS ?_ GE172.out | refine eS ?_ GE173.out | refine eS ?_ GE183.out) | exact HB.out)⟩
                     (try clear HO_8)
                     (try clear HO_184001)
                     (try clear HO_184002)
                     (try clear BK170)
                     (try clear BK171)
                     (try clear BK172)
                     (try clear BK173)
                     (try clear BK183)
                     (try clear HB)
                     generalize (w50.setCell ⟨go46, (x11_3 : Int).toNat, none⟩ (.string (rdOf ByteArray.empty ((rd_T39 l1 x9_1).f0.f1) x11_3))) = w52 at n0_ n1_ n2_ n3_ n4_ n5_ n6_ n7_ n8_ ⊢
                     have HO_8 := n0_
                     have HO_184001 := n1_
                     have HO_184002 := n2_
                     have BK170 := n3_
                     have BK171 := n4_
                     have BK172 := n5_
                     have BK173 := n6_
                     have BK183 := n7_
                     have HB := n8_
                     clear n0_ n1_ n2_ n3_ n4_ n5_ n6_ n7_ n8_
                     replace HO_8 := aMk (Kd.S_drew HO_8.out)
                     replace HO_184001 := aMk (rD HO_184001.out)
                     replace HO_184002 := aMk (rD HO_184002.out)
                     replace BK170 := aMk (bD BK170.out)
                     replace BK171 := aMk (bD BK171.out)
                     replace BK172 := aMk (bD BK172.out)
                     replace BK173 := aMk (bD BK173.out)
                     replace BK183 := aMk (bD BK183.out)
                     replace HB := aMk (eD HB.out)
                     have p195 : 0 ≤ (x9_1 : Int) := of_decide_eq_true (by first | (with_reducible assumption) | assumption)
                     have q195 : x9_1 < (l1.length : Int) := of_decide_eq_true (by first | (with_reducible assumption) | assumption)
                     obtain ⟨ad195, A195_1, c195_1, A195_2, c195_2, e195, hx195_0, hx195_1, hx195_2, hx195_3, hl195_1, hi195_1, hl195_2, hi195_2⟩ := at_T39 HR1.out x9_1 p195 q195
                     have hw195_3 := hx195_3
                     have hw195_2 := hx195_2
                     have hw195_1 := hx195_1
                     have hw195_0 := hx195_0
                     obtain rfl : ad176 = ad195 := (by injection e195)
                     replace hx195_0 := (HB.out.cell (World.block_lt_of_cell? w _ hx195_0)).trans hx195_0
                     replace hx195_1 := (HB.out.cell (World.block_lt_of_cell? w _ hx195_1)).trans hx195_1
                     replace hx195_2 := (HB.out.cell (World.block_lt_of_cell? w _ hx195_2)).trans hx195_2
                     replace hx195_3 := (HB.out.cell (World.block_lt_of_cell? w _ hx195_3)).trans hx195_3
                     have HR195_1 := aMk hi195_1
                     have HC195_1 := aMk hl195_1
                     clear hi195_1 hl195_1
                     have HR195_2 := aMk hi195_2
                     have HC195_2 := aMk hl195_2
                     clear hi195_2 hl195_2
                     replace p195 := eq_true p195
                     replace q195 := eq_true q195
                     have p196 : 0 ≤ (x11_3 : Int) := of_decide_eq_true (by first | (with_reducible assumption) | assumption)
                     have q196 : x11_3 < (((rd_T39 l1 x9_1).f0.f2).length : Int) := of_decide_eq_true (by first | (with_reducible assumption) | assumption)
                     obtain ⟨ad196, e196, hx196_0⟩ := Kd.at_int HR195_2.out x11_3 p196 q196
                     have hw196_0 := hx196_0
                     cases e196
                     replace hx196_0 := (HB.out.cell (World.block_lt_of_cell? w _ hx196_0)).trans hx196_0
                     replace p196 := eq_true p196
                     replace q196 := eq_true q196
                     have p49 : 0 ≤ (x11_3 : Int) := of_decide_eq_true (by first | (with_reducible assumption) | assumption)
                     have q49 : (x11_3 : Int) < ((x184002_3.length : Int) : Int) := of_decide_eq_true (by first | (with_reducible assumption) | assumption)
                     obtain ⟨go49, co49, eo49, gb49, gl49, cl49, HG49⟩ := Kd.R_form HO_184002.out (by omega)
                     (first | cases eo49 | (injection eo49 with ea_ en_ ec_; (first | subst ea_ | (injection ea_ with ea_; subst ea_)); subst ec_; clear en_))
                     have GB49 := aMk gb49
                     have GG49 := aMk HG49
                     clear gb49 gl49 HG49
                     obtain ⟨hx49_0, hf49_0⟩ := Kd.R_celln 0 HO_184002.out (x11_3 : Int) p49 q49
                     replace p49 := eq_true p49
                     replace q49 := eq_true q49
                     have HP54 := Kd.R_putn HO_184002.out (x11_3 : Int) (rd ((rd_T39 l1 x9_1).f0.f2) x11_3)
                     rw [← Ny197.out] at HP54
                     have HQ54 := aMk HP54
                     clear HP54
                     refine start_ (n := 14) (S := fun w' => w'.cell? ⟨gb183, 0, none⟩ = some (.int .i64 ((rd_T39 l1 x9_1).f0.f0)) ∧ w'.cell? ⟨gb183, 1, none⟩ = some (.slice (some ⟨go46, 0, none⟩) x184001_3.length co46) ∧ w'.cell? ⟨gb183, 2, none⟩ = some (.slice (some ⟨go49, 0, none⟩) x184002_3.length co49) ∧ w'.cell? (ad176.add ((x9_1).toNat * 4)) = some (.int .i64 ((rd_T39 l1 x9_1).f0.f0)) ∧ w'.cell? ⟨(ad176.add ((x9_1).toNat * 4)).block, (ad176.add ((x9_1).toNat * 4)).off + 1, none⟩ = some (.slice A195_1 ((rd_T39 l1 x9_1).f0.f1).length c195_1) ∧ w'.cell? ⟨(ad176.add ((x9_1).toNat * 4)).block, (ad176.add ((x9_1).toNat * 4)).off + 2, none⟩ = some (.slice (some ad196) ((rd_T39 l1 x9_1).f0.f2).length c195_2) ∧ w'.cell? ⟨(ad176.add ((x9_1).toNat * 4)).block, (ad176.add ((x9_1).toNat * 4)).off + 3, none⟩ = some (.int .u64 ((rd_T39 l1 x9_1).f1)) ∧ w'.cell? (ad196.add (x11_3).toNat) = some (.int .i64 (rd ((rd_T39 l1 x9_1).f0.f2) x11_3))) (ds := [13]) #[false, false, false, false, false, false, false, false, false, false, false, false, false, false] (by kernel_rfl) rfl rfl ⟨(blk_cell BK183.out 0).trans rfl, (blk_cell BK183.out 1).trans rfl, (blk_cell BK183.out 2).trans rfl, ((HB.out.cell (World.block_lt_of_cell? w _ hw195_0)).trans hw195_0), ((HB.out.cell (World.block_lt_of_cell? w _ hw195_1)).trans hw195_1), ((HB.out.cell (World.block_lt_of_cell? w _ hw195_2)).trans hw195_2), ((HB.out.cell (World.block_lt_of_cell? w _ hw195_3)).trans hw195_3), ((HB.out.cell (World.block_lt_of_cell? w _ hw196_0)).trans hw196_0)⟩ (fun hHeld => ?_); refine with_tabW gristmilllaw06_right.tab14 gristmilllaw06_right.bits14 (fun HT_ HW_ => ?_)
                     generalize w52.drew = w53 at HO_8 HO_184001 HO_184002 BK170 BK171 BK172 BK173 BK183 HB GG49 HQ51 HQ54 HR195_1 HR195_2 hf49_0 hx195_0 hx195_1 hx195_2 hx195_3 hx196_0 hx49_0 hHeld ⊢
                     refine pure_ (i := 0) (N := some 90) (v := ?_) (a' := ?_) #[true, false, false, false, false, false, false, false, false, false, false, false, false, false] rfl rfl (any_of HT_.out (by kernel_rfl)) (fun _ _ _ h => h) (Or.inl ⟨by rfl, ?_⟩) ?_ ?_
                     rotate_left
                     ·intro w'
                      go_simp
                      with_reducible rfl
                     rotate_left
                     ·simp only [Act.put, sA, sB, sC, i64_w, i32_w]
                      rfl
                     refine pure_ (i := 2) (N := some 92) (v := ?_) (a' := ?_) #[true, false, true, false, false, false, false, false, false, false, false, false, false, false] rfl rfl (any_of HT_.out (by kernel_rfl)) (fun _ _ _ h => h) (Or.inl ⟨by rfl, ?_⟩) ?_ ?_
                     rotate_left
                     ·intro w'
                      go_simp
                      with_reducible rfl
                     rotate_left
                     ·simp only [Act.put, sA, sB, sC, i64_w, i32_w]
                      rfl
                     refine pure_ (i := 3) (N := some 93) (v := ?_) (a' := ?_) #[true, false, true, true, false, false, false, false, false, false, false, false, false, false] rfl rfl (any_of HT_.out (by kernel_rfl)) (fun _ _ _ h => h) (Or.inl ⟨by rfl, ?_⟩) ?_ ?_
                     rotate_left
                     ·intro w'
                      go_simp
                      with_reducible rfl
                     rotate_left
                     ·simp only [Act.put, sA, sB, sC, i64_w, i32_w]
                      rfl
                     refine pure_ (i := 4) (N := some 94) (v := ?_) (a' := ?_) #[true, false, true, true, true, false, false, false, false, false, false, false, false, false] rfl rfl (any_of HT_.out (by kernel_rfl)) (fun _ _ _ h => h) (Or.inl ⟨by rfl, ?_⟩) ?_ ?_
                     rotate_left
                     ·intro w'
                      go_simp
                      with_reducible rfl
                     rotate_left
                     ·simp only [Act.put, sA, sB, sC, i64_w, i32_w]
                      rfl
                     refine pure_ (i := 5) (N := some 95) (v := ?_) (a' := ?_) #[true, false, true, true, true, true, false, false, false, false, false, false, false, false] rfl rfl (any_of HT_.out (by kernel_rfl)) (fun _ _ _ h => h) (Or.inl ⟨by rfl, ?_⟩) ?_ ?_
                     rotate_left
                     ·intro w'
                      go_simp
                      with_reducible rfl
                     rotate_left
                     ·simp only [Act.put, sA, sB, sC, i64_w, i32_w]
                      rfl
                     refine pure_ (i := 6) (N := some 96) (v := ?_) (a' := ?_) #[true, false, true, true, true, true, true, false, false, false, false, false, false, false] rfl rfl (any_of HT_.out (by kernel_rfl)) (fun _ _ _ h => h) (Or.inl ⟨by rfl, ?_⟩) ?_ ?_
                     rotate_left
                     ·intro w'
                      go_simp
                      with_reducible rfl
                     rotate_left
                     ·simp only [Act.put, sA, sB, sC, i64_w, i32_w]
                      rfl
                     refine pure_ (i := 7) (N := some 97) (v := ?_) (a' := ?_) #[true, false, true, true, true, true, true, true, false, false, false, false, false, false] rfl rfl (any_of HT_.out (by kernel_rfl)) (fun _ _ _ h => h) (Or.inl ⟨by rfl, ?_⟩) ?_ ?_
                     rotate_left
                     ·intro w'
                      go_simp
                      with_reducible rfl
                     rotate_left
                     ·simp only [Act.put, sA, sB, sC, i64_w, i32_w]
                      rfl
                     refine pure_ (i := 9) (N := some 99) (v := ?_) (a' := ?_) #[true, false, true, true, true, true, true, true, false, true, false, false, false, false] rfl rfl (any_of HT_.out (by kernel_rfl)) (fun _ _ _ h => h) (Or.inl ⟨by rfl, ?_⟩) ?_ ?_
                     rotate_left
                     ·intro w'
                      go_simp
                      with_reducible rfl
                     rotate_left
                     ·simp only [Act.put, sA, sB, sC, i64_w, i32_w]
                      rfl
                     refine take_ (i := 1) (N := some 91) (v := ?_) (a' := ?_) #[true, true, true, true, true, true, true, true, false, true, false, false, false, false] rfl rfl (take_ofW HT_.out HW_.out (by kernel_rfl)) (fun _ _ _ h => h) (Or.inl ⟨by rfl, ?_⟩) hHeld ?_ ?_
                     rotate_left
                     ·rintro w' ⟨s0, s1, s2, s3, s4, s5, s6, s7⟩
                      go_simp
                      with_reducible rfl
                     rotate_left
                     ·simp only [Act.put, sA, sB, sC, i64_w, i32_w]
                      rfl
                     refine take_ (i := 8) (N := some 98) (v := ?_) (a' := ?_) #[true, true, true, true, true, true, true, true, true, true, false, false, false, false] rfl rfl (take_ofW HT_.out HW_.out (by kernel_rfl)) (fun _ _ _ h => h) (Or.inl ⟨by rfl, ?_⟩) hHeld ?_ ?_
                     rotate_left
                     ·rintro w' ⟨s0, s1, s2, s3, s4, s5, s6, s7⟩
                      go_simp
                      with_reducible rfl
                     rotate_left
                     ·simp only [Act.put, sA, sB, sC, i64_w, i32_w]
                      rfl
                     refine pure_ (i := 10) (N := some 100) (v := ?_) (a' := ?_) #[true, true, true, true, true, true, true, true, true, true, true, false, false, false] rfl rfl (any_of HT_.out (by kernel_rfl)) (fun _ _ _ h => h) (Or.inl ⟨by rfl, ?_⟩) ?_ ?_
                     rotate_left
                     ·intro w'
                      go_simp
                      with_reducible rfl
                     rotate_left
                     ·simp only [Act.put, sA, sB, sC, i64_w, i32_w]
                      rfl
                     refine take_ (i := 11) (N := some 101) (v := ?_) (a' := ?_) #[true, true, true, true, true, true, true, true, true, true, true, true, false, false] rfl rfl (take_ofW HT_.out HW_.out (by kernel_rfl)) (fun _ _ _ h => h) (Or.inl ⟨by rfl, ?_⟩) hHeld ?_ ?_
                     rotate_left
                     ·rintro w' ⟨s0, s1, s2, s3, s4, s5, s6, s7⟩
                      go_simp
                      with_reducible rfl
                     rotate_left
                     ·simp only [Act.put, sA, sB, sC, i64_w, i32_w]
                      rfl
                     refine pure_ (i := 12) (N := some 102) (v := ?_) (a' := ?_) #[true, true, true, true, true, true, true, true, true, true, true, true, true, false] rfl rfl (any_of HT_.out (by kernel_rfl)) (fun _ _ _ h => h) (Or.inl ⟨by rfl, ?_⟩) ?_ ?_
                     rotate_left
                     ·intro w'
                      go_simp
                      with_reducible rfl
                     rotate_left
                     ·simp only [Act.put, sA, sB, sC, i64_w, i32_w]
                      rfl
                     refine last_ (i := 13) (N := none) #[true, true, true, true, true, true, true, true, true, true, true, true, true, true] rfl rfl (one_of HT_.out (by kernel_rfl)) (by decide) (fun K hK => ?_)
                     refine skip_ (w1 := ?_) (by rfl) rfl ?_ ?_
                     rotate_left
                     ·go_simp
                      rfl
                     refine hK.out _ _ ?_
                     clear hK K
                     refine done_ (done_of HT_.out (by kernel_rfl)) ?_
                     try go_wp2
                     go_roundg kj34
                     case measure => have := HK1.out; have := HJ16.out; have := HK3.out; have := HJ34.out; omega
                     case rel => exact ⟨(wrap64 (x11_3 + 1)), (y193), (y197), (.slice (some ⟨go46, 0, none⟩) x184001_3.length co46), (.slice (some ⟨go49, 0, none⟩) x184002_3.length co49), (by first | rfl | (simp; done) | (simp [*]; done)), H', ⟨by have := HK1.out; have := HJ16.out; have := HK3.out; have := HJ34.out; omega⟩, ⟨by (with_reducible repeat (first | apply Kd.S_alloc | apply Kd.S_drewN | apply Kd.S_drew)); exact Kd.S_mono (Kd.S_far (p := ⟨go49, (x11_3 : Int).toNat, none⟩) (Kd.S_mono HO_8.out (fun k_ hk => (⟨hk, fun e_ => hk.2 (by rw [e_]; rfl)⟩ : _ ∧ k_ ≠ go49))) (fun _ hk => hk.2) (.int .i64 (rd ((rd_T39 l1 x9_1).f0.f2) x11_3))) (fun _ hk => ⟨hk.1.1, hk.1.2⟩)⟩, ⟨by (with_reducible repeat (first | apply rA | apply rN | apply rD)); exact Kd.R_mono (Kd.R_far (p := ⟨go49, (x11_3 : Int).toNat, none⟩) (Kd.R_types HO_184001.out GG49.out (by decide)) (fun _ hk => hk.2) (.int .i64 (rd ((rd_T39 l1 x9_1).f0.f2) x11_3))) (fun _ hk => trivial)⟩, ⟨by (with_reducible repeat (first | apply rA | apply rN | apply rD)); exact HQ54.out⟩, ⟨by (with_reducible repeat (first | apply bA | apply bN | apply bD)); refine blk_far ?_ (by have h_ := Kd.R_ne HO_184002.out BK170.out (by decide); intro e_; exact h_ (by rw [e_]; rfl)) _; (with_reducible repeat (first | apply bA | apply bN | apply bD)); exact BK170.out⟩, ⟨by (with_reducible repeat (first | apply bA | apply bN | apply bD)); refine blk_far ?_ (by have h_ := Kd.R_ne HO_184002.out BK171.out (by decide); intro e_; exact h_ (by rw [e_]; rfl)) _; (with_reducible repeat (first | apply bA | apply bN | apply bD)); exact BK171.out⟩, ⟨by (with_reducible repeat (first | apply bA | apply bN | apply bD)); refine blk_far ?_ (by have h_ := Kd.R_ne HO_184002.out BK172.out (by decide); intro e_; exact h_ (by rw [e_]; rfl)) _; (with_reducible repeat (first | apply bA | apply bN | apply bD)); exact BK172.out⟩, ⟨by (with_reducible repeat (first | apply bA | apply bN | apply bD)); refine blk_far ?_ (by have h_ := Kd.R_ne HO_184002.out BK173.out (by decide); intro e_; exact h_ (by rw [e_]; rfl)) _; (with_reducible repeat (first | apply bA | apply bN | apply bD)); exact BK173.out⟩, ⟨by (with_reducible repeat (first | apply bA | apply bN | apply bD)); refine blk_far ?_ (by have h_ := Kd.R_ne HO_184002.out BK183.out (by decide); intro e_; exact h_ (by rw [e_]; rfl)) _; (with_reducible repeat (first | apply bA | apply bN | apply bD)); exact BK183.out⟩, ⟨by repeat (first | (with_reducible first | exact HB.out | apply eA | apply eN | apply eD | refine eS ?_ GB49.out | refine eS ?_ GE170.out | refine eS ?_ GE171.out | refine eS ?_ GE172.out | refine eS ?_ GE173.out | refine eS ?_ GE183.out) | exact HB.out)⟩⟩
                    ·rw [if_neg c48] at H
                     exact absurd H (by simp)
                   ·rw [if_neg c47] at H
                    have c47b0 : decide (x11_3 < (((rd_T39 l1 x9_1).f0.f2).length : Int)) = false := decide_eq_false c47
                    clear c47
                    have H' := aMk H
                    clear H
                    try go_wp2
                    replace HO_8 := aMk (Kd.S_drew HO_8.out)
                    replace HO_184001 := aMk (rD HO_184001.out)
                    replace HO_184002 := aMk (rD HO_184002.out)
                    replace BK170 := aMk (bD BK170.out)
                    replace BK171 := aMk (bD BK171.out)
                    replace BK172 := aMk (bD BK172.out)
                    replace BK173 := aMk (bD BK173.out)
                    replace BK183 := aMk (bD BK183.out)
                    replace HB := aMk (eD HB.out)
                    have p191 : 0 ≤ (x9_1 : Int) := of_decide_eq_true (by first | (with_reducible assumption) | assumption)
                    have q191 : x9_1 < (l1.length : Int) := of_decide_eq_true (by first | (with_reducible assumption) | assumption)
                    obtain ⟨ad191, A191_1, c191_1, A191_2, c191_2, e191, hx191_0, hx191_1, hx191_2, hx191_3, hl191_1, hi191_1, hl191_2, hi191_2⟩ := at_T39 HR1.out x9_1 p191 q191
                    have hw191_3 := hx191_3
                    have hw191_2 := hx191_2
                    have hw191_1 := hx191_1
                    have hw191_0 := hx191_0
                    obtain rfl : ad176 = ad191 := (by injection e191)
                    replace hx191_0 := (HB.out.cell (World.block_lt_of_cell? w _ hx191_0)).trans hx191_0
                    replace hx191_1 := (HB.out.cell (World.block_lt_of_cell? w _ hx191_1)).trans hx191_1
                    replace hx191_2 := (HB.out.cell (World.block_lt_of_cell? w _ hx191_2)).trans hx191_2
                    replace hx191_3 := (HB.out.cell (World.block_lt_of_cell? w _ hx191_3)).trans hx191_3
                    have HR191_1 := aMk hi191_1
                    have HC191_1 := aMk hl191_1
                    clear hi191_1 hl191_1
                    have HR191_2 := aMk hi191_2
                    have HC191_2 := aMk hl191_2
                    clear hi191_2 hl191_2
                    replace p191 := eq_true p191
                    replace q191 := eq_true q191
                    have p192 : 0 ≤ (x11_3 : Int) := of_decide_eq_true (by first | (with_reducible assumption) | assumption)
                    have q192 : x11_3 < (((rd_T39 l1 x9_1).f0.f1).length : Int) := of_decide_eq_true (by first | (with_reducible assumption) | assumption)
                    obtain ⟨ad192, e192, hx192_0⟩ := Kd.at_string HR191_1.out x11_3 p192 q192
                    have hw192_0 := hx192_0
                    cases e192
                    replace hx192_0 := (HB.out.cell (World.block_lt_of_cell? w _ hx192_0)).trans hx192_0
                    replace p192 := eq_true p192
                    replace q192 := eq_true q192
                    have p46 : 0 ≤ (x11_3 : Int) := of_decide_eq_true (by first | (with_reducible assumption) | assumption)
                    have q46 : (x11_3 : Int) < ((x184001_3.length : Int) : Int) := of_decide_eq_true (by first | (with_reducible assumption) | assumption)
                    obtain ⟨go46, co46, eo46, gb46, gl46, cl46, HG46⟩ := Kd.R_form HO_184001.out (by omega)
                    (first | cases eo46 | (injection eo46 with ea_ en_ ec_; (first | subst ea_ | (injection ea_ with ea_; subst ea_)); subst ec_; clear en_))
                    have GB46 := aMk gb46
                    have GG46 := aMk HG46
                    clear gb46 gl46 HG46
                    obtain ⟨hx46_0, hf46_0⟩ := Kd.R_celln (⟨#[]⟩ : ByteArray) HO_184001.out (x11_3 : Int) p46 q46
                    replace p46 := eq_true p46
                    replace q46 := eq_true q46
                    have HP56 := Kd.R_putn HO_184001.out (x11_3 : Int) (rdOf ByteArray.empty ((rd_T39 l1 x9_1).f0.f1) x11_3)
                    rw [← Ny193.out] at HP56
                    have HQ56 := aMk HP56
                    clear HP56
                    refine start_ (n := 14) (S := fun w' => w'.cell? ⟨gb183, 0, none⟩ = some (.int .i64 ((rd_T39 l1 x9_1).f0.f0)) ∧ w'.cell? ⟨gb183, 1, none⟩ = some (.slice (some ⟨go46, 0, none⟩) x184001_3.length co46) ∧ w'.cell? ⟨gb183, 2, none⟩ = some (u184002) ∧ w'.cell? (ad176.add ((x9_1).toNat * 4)) = some (.int .i64 ((rd_T39 l1 x9_1).f0.f0)) ∧ w'.cell? ⟨(ad176.add ((x9_1).toNat * 4)).block, (ad176.add ((x9_1).toNat * 4)).off + 1, none⟩ = some (.slice (some ad192) ((rd_T39 l1 x9_1).f0.f1).length c191_1) ∧ w'.cell? ⟨(ad176.add ((x9_1).toNat * 4)).block, (ad176.add ((x9_1).toNat * 4)).off + 2, none⟩ = some (.slice A191_2 ((rd_T39 l1 x9_1).f0.f2).length c191_2) ∧ w'.cell? ⟨(ad176.add ((x9_1).toNat * 4)).block, (ad176.add ((x9_1).toNat * 4)).off + 3, none⟩ = some (.int .u64 ((rd_T39 l1 x9_1).f1)) ∧ w'.cell? (ad192.add (x11_3).toNat) = some (.string (rdOf ByteArray.empty ((rd_T39 l1 x9_1).f0.f1) x11_3))) (ds := [13]) #[false, false, false, false, false, false, false, false, false, false, false, false, false, false] (by kernel_rfl) rfl rfl ⟨(blk_cell BK183.out 0).trans rfl, (blk_cell BK183.out 1).trans rfl, (blk_cell BK183.out 2).trans rfl, ((HB.out.cell (World.block_lt_of_cell? w _ hw191_0)).trans hw191_0), ((HB.out.cell (World.block_lt_of_cell? w _ hw191_1)).trans hw191_1), ((HB.out.cell (World.block_lt_of_cell? w _ hw191_2)).trans hw191_2), ((HB.out.cell (World.block_lt_of_cell? w _ hw191_3)).trans hw191_3), ((HB.out.cell (World.block_lt_of_cell? w _ hw192_0)).trans hw192_0)⟩ (fun hHeld => ?_); refine with_tabW gristmilllaw06_right.tab12 gristmilllaw06_right.bits12 (fun HT_ HW_ => ?_)
                    generalize wc.drew = w55 at HO_8 HO_184001 HO_184002 BK170 BK171 BK172 BK173 BK183 HB GG46 HQ56 HR191_1 HR191_2 hf46_0 hx191_0 hx191_1 hx191_2 hx191_3 hx192_0 hx46_0 hHeld ⊢
                    refine pure_ (i := 0) (N := some 68) (v := ?_) (a' := ?_) #[true, false, false, false, false, false, false, false, false, false, false, false, false, false] rfl rfl (any_of HT_.out (by kernel_rfl)) (fun _ _ _ h => h) (Or.inl ⟨by rfl, ?_⟩) ?_ ?_
                    rotate_left
                    ·intro w'
                     go_simp
                     with_reducible rfl
                    rotate_left
                    ·simp only [Act.put, sA, sB, sC, i64_w, i32_w]
                     rfl
                    refine pure_ (i := 2) (N := some 70) (v := ?_) (a' := ?_) #[true, false, true, false, false, false, false, false, false, false, false, false, false, false] rfl rfl (any_of HT_.out (by kernel_rfl)) (fun _ _ _ h => h) (Or.inl ⟨by rfl, ?_⟩) ?_ ?_
                    rotate_left
                    ·intro w'
                     go_simp
                     with_reducible rfl
                    rotate_left
                    ·simp only [Act.put, sA, sB, sC, i64_w, i32_w]
                     rfl
                    refine pure_ (i := 3) (N := some 71) (v := ?_) (a' := ?_) #[true, false, true, true, false, false, false, false, false, false, false, false, false, false] rfl rfl (any_of HT_.out (by kernel_rfl)) (fun _ _ _ h => h) (Or.inl ⟨by rfl, ?_⟩) ?_ ?_
                    rotate_left
                    ·intro w'
                     go_simp
                     with_reducible rfl
                    rotate_left
                    ·simp only [Act.put, sA, sB, sC, i64_w, i32_w]
                     rfl
                    refine pure_ (i := 4) (N := some 72) (v := ?_) (a' := ?_) #[true, false, true, true, true, false, false, false, false, false, false, false, false, false] rfl rfl (any_of HT_.out (by kernel_rfl)) (fun _ _ _ h => h) (Or.inl ⟨by rfl, ?_⟩) ?_ ?_
                    rotate_left
                    ·intro w'
                     go_simp
                     with_reducible rfl
                    rotate_left
                    ·simp only [Act.put, sA, sB, sC, i64_w, i32_w]
                     rfl
                    refine pure_ (i := 5) (N := some 73) (v := ?_) (a' := ?_) #[true, false, true, true, true, true, false, false, false, false, false, false, false, false] rfl rfl (any_of HT_.out (by kernel_rfl)) (fun _ _ _ h => h) (Or.inl ⟨by rfl, ?_⟩) ?_ ?_
                    rotate_left
                    ·intro w'
                     go_simp
                     with_reducible rfl
                    rotate_left
                    ·simp only [Act.put, sA, sB, sC, i64_w, i32_w]
                     rfl
                    refine pure_ (i := 6) (N := some 74) (v := ?_) (a' := ?_) #[true, false, true, true, true, true, true, false, false, false, false, false, false, false] rfl rfl (any_of HT_.out (by kernel_rfl)) (fun _ _ _ h => h) (Or.inl ⟨by rfl, ?_⟩) ?_ ?_
                    rotate_left
                    ·intro w'
                     go_simp
                     with_reducible rfl
                    rotate_left
                    ·simp only [Act.put, sA, sB, sC, i64_w, i32_w]
                     rfl
                    refine pure_ (i := 7) (N := some 75) (v := ?_) (a' := ?_) #[true, false, true, true, true, true, true, true, false, false, false, false, false, false] rfl rfl (any_of HT_.out (by kernel_rfl)) (fun _ _ _ h => h) (Or.inl ⟨by rfl, ?_⟩) ?_ ?_
                    rotate_left
                    ·intro w'
                     go_simp
                     with_reducible rfl
                    rotate_left
                    ·simp only [Act.put, sA, sB, sC, i64_w, i32_w]
                     rfl
                    refine pure_ (i := 9) (N := some 77) (v := ?_) (a' := ?_) #[true, false, true, true, true, true, true, true, false, true, false, false, false, false] rfl rfl (any_of HT_.out (by kernel_rfl)) (fun _ _ _ h => h) (Or.inl ⟨by rfl, ?_⟩) ?_ ?_
                    rotate_left
                    ·intro w'
                     go_simp
                     with_reducible rfl
                    rotate_left
                    ·simp only [Act.put, sA, sB, sC, i64_w, i32_w]
                     rfl
                    refine take_ (i := 1) (N := some 69) (v := ?_) (a' := ?_) #[true, true, true, true, true, true, true, true, false, true, false, false, false, false] rfl rfl (take_ofW HT_.out HW_.out (by kernel_rfl)) (fun _ _ _ h => h) (Or.inl ⟨by rfl, ?_⟩) hHeld ?_ ?_
                    rotate_left
                    ·rintro w' ⟨s0, s1, s2, s3, s4, s5, s6, s7⟩
                     go_simp
                     with_reducible rfl
                    rotate_left
                    ·simp only [Act.put, sA, sB, sC, i64_w, i32_w]
                     rfl
                    refine take_ (i := 8) (N := some 76) (v := ?_) (a' := ?_) #[true, true, true, true, true, true, true, true, true, true, false, false, false, false] rfl rfl (take_ofW HT_.out HW_.out (by kernel_rfl)) (fun _ _ _ h => h) (Or.inl ⟨by rfl, ?_⟩) hHeld ?_ ?_
                    rotate_left
                    ·rintro w' ⟨s0, s1, s2, s3, s4, s5, s6, s7⟩
                     go_simp
                     with_reducible rfl
                    rotate_left
                    ·simp only [Act.put, sA, sB, sC, i64_w, i32_w]
                     rfl
                    refine pure_ (i := 10) (N := some 78) (v := ?_) (a' := ?_) #[true, true, true, true, true, true, true, true, true, true, true, false, false, false] rfl rfl (any_of HT_.out (by kernel_rfl)) (fun _ _ _ h => h) (Or.inl ⟨by rfl, ?_⟩) ?_ ?_
                    rotate_left
                    ·intro w'
                     go_simp
                     with_reducible rfl
                    rotate_left
                    ·simp only [Act.put, sA, sB, sC, i64_w, i32_w]
                     rfl
                    refine take_ (i := 11) (N := some 79) (v := ?_) (a' := ?_) #[true, true, true, true, true, true, true, true, true, true, true, true, false, false] rfl rfl (take_ofW HT_.out HW_.out (by kernel_rfl)) (fun _ _ _ h => h) (Or.inl ⟨by rfl, ?_⟩) hHeld ?_ ?_
                    rotate_left
                    ·rintro w' ⟨s0, s1, s2, s3, s4, s5, s6, s7⟩
                     go_simp
                     with_reducible rfl
                    rotate_left
                    ·simp only [Act.put, sA, sB, sC, i64_w, i32_w]
                     rfl
                    refine pure_ (i := 12) (N := some 80) (v := ?_) (a' := ?_) #[true, true, true, true, true, true, true, true, true, true, true, true, true, false] rfl rfl (any_of HT_.out (by kernel_rfl)) (fun _ _ _ h => h) (Or.inl ⟨by rfl, ?_⟩) ?_ ?_
                    rotate_left
                    ·intro w'
                     go_simp
                     with_reducible rfl
                    rotate_left
                    ·simp only [Act.put, sA, sB, sC, i64_w, i32_w]
                     rfl
                    refine last_ (i := 13) (N := none) #[true, true, true, true, true, true, true, true, true, true, true, true, true, true] rfl rfl (one_of HT_.out (by kernel_rfl)) (by decide) (fun K hK => ?_)
                    refine skip_ (w1 := ?_) (by rfl) rfl ?_ ?_
                    rotate_left
                    ·go_simp
                     rfl
                    refine hK.out _ _ ?_
                    clear hK K
                    refine done_ (done_of HT_.out (by kernel_rfl)) ?_
                    have p194 : 0 ≤ (x9_1 : Int) := of_decide_eq_true (by first | (with_reducible assumption) | assumption)
                    have q194 : x9_1 < (l1.length : Int) := of_decide_eq_true (by first | (with_reducible assumption) | assumption)
                    obtain ⟨ad194, A194_1, c194_1, A194_2, c194_2, e194, hx194_0, hx194_1, hx194_2, hx194_3, hl194_1, hi194_1, hl194_2, hi194_2⟩ := at_T39 HR1.out x9_1 p194 q194
                    obtain rfl : ad176 = ad194 := (by injection e194)
                    have hn194_0 : ad176.block ≠ go46 := Nat.ne_of_lt (Nat.lt_of_lt_of_le (by have := World.block_lt_of_cell? _ _ hx194_0; first | rwa [add_block] at this | exact this) GB46.out)
                    replace hx194_0 := (HB.out.cell (World.block_lt_of_cell? w _ hx194_0)).trans hx194_0
                    replace hx194_1 := (HB.out.cell (World.block_lt_of_cell? w _ hx194_1)).trans hx194_1
                    replace hx194_2 := (HB.out.cell (World.block_lt_of_cell? w _ hx194_2)).trans hx194_2
                    replace hx194_3 := (HB.out.cell (World.block_lt_of_cell? w _ hx194_3)).trans hx194_3
                    have HR194_1 := aMk hi194_1
                    have HC194_1 := aMk hl194_1
                    clear hi194_1 hl194_1
                    have HR194_2 := aMk hi194_2
                    have HC194_2 := aMk hl194_2
                    clear hi194_2 hl194_2
                    replace hx194_0 := (cell_far (p := ⟨go46, (x11_3 : Int).toNat, none⟩) (by first | (rw [add_block]; exact hn194_0) | (show (Addr.add _ _).block ≠ _; rw [add_block]; exact hn194_0) | exact hn194_0) (.string (rdOf ByteArray.empty ((rd_T39 l1 x9_1).f0.f1) x11_3))).trans hx194_0
                    replace hx194_1 := (cell_far (p := ⟨go46, (x11_3 : Int).toNat, none⟩) (by first | (rw [add_block]; exact hn194_0) | (show (Addr.add _ _).block ≠ _; rw [add_block]; exact hn194_0) | exact hn194_0) (.string (rdOf ByteArray.empty ((rd_T39 l1 x9_1).f0.f1) x11_3))).trans hx194_1
                    replace hx194_2 := (cell_far (p := ⟨go46, (x11_3 : Int).toNat, none⟩) (by first | (rw [add_block]; exact hn194_0) | (show (Addr.add _ _).block ≠ _; rw [add_block]; exact hn194_0) | exact hn194_0) (.string (rdOf ByteArray.empty ((rd_T39 l1 x9_1).f0.f1) x11_3))).trans hx194_2
                    replace hx194_3 := (cell_far (p := ⟨go46, (x11_3 : Int).toNat, none⟩) (by first | (rw [add_block]; exact hn194_0) | (show (Addr.add _ _).block ≠ _; rw [add_block]; exact hn194_0) | exact hn194_0) (.string (rdOf ByteArray.empty ((rd_T39 l1 x9_1).f0.f1) x11_3))).trans hx194_3
                    clear hn194_0
                    replace p194 := eq_true p194
                    replace q194 := eq_true q194
                    try go_wp2
                    go_roundg kj34
                    case measure => have := HK1.out; have := HJ16.out; have := HK3.out; have := HJ34.out; omega
                    case rel => exact ⟨(wrap64 (x11_3 + 1)), (y193), (x184002_3), (.slice (some ⟨go46, 0, none⟩) x184001_3.length co46), (u184002), (by first | rfl | (simp; done) | (simp [*]; done)), H', ⟨by have := HK1.out; have := HJ16.out; have := HK3.out; have := HJ34.out; omega⟩, ⟨by (with_reducible repeat (first | apply Kd.S_alloc | apply Kd.S_drewN | apply Kd.S_drew)); exact Kd.S_mono (Kd.S_far (p := ⟨go46, (x11_3 : Int).toNat, none⟩) (Kd.S_mono HO_8.out (fun k_ hk => (⟨hk, fun e_ => hk.1 (by rw [e_]; rfl)⟩ : _ ∧ k_ ≠ go46))) (fun _ hk => hk.2) (.string (rdOf ByteArray.empty ((rd_T39 l1 x9_1).f0.f1) x11_3))) (fun _ hk => ⟨hk.1.1, hk.1.2⟩)⟩, ⟨by (with_reducible repeat (first | apply rA | apply rN | apply rD)); exact HQ56.out⟩, ⟨by (with_reducible repeat (first | apply rA | apply rN | apply rD)); exact Kd.R_mono (Kd.R_far (p := ⟨go46, (x11_3 : Int).toNat, none⟩) (Kd.R_types HO_184002.out GG46.out (by decide)) (fun _ hk => hk.2) (.string (rdOf ByteArray.empty ((rd_T39 l1 x9_1).f0.f1) x11_3))) (fun _ hk => trivial)⟩, ⟨by (with_reducible repeat (first | apply bA | apply bN | apply bD)); refine blk_far ?_ (by have h_ := Kd.R_ne HO_184001.out BK170.out (by decide); intro e_; exact h_ (by rw [e_]; rfl)) _; (with_reducible repeat (first | apply bA | apply bN | apply bD)); exact BK170.out⟩, ⟨by (with_reducible repeat (first | apply bA | apply bN | apply bD)); refine blk_far ?_ (by have h_ := Kd.R_ne HO_184001.out BK171.out (by decide); intro e_; exact h_ (by rw [e_]; rfl)) _; (with_reducible repeat (first | apply bA | apply bN | apply bD)); exact BK171.out⟩, ⟨by (with_reducible repeat (first | apply bA | apply bN | apply bD)); refine blk_far ?_ (by have h_ := Kd.R_ne HO_184001.out BK172.out (by decide); intro e_; exact h_ (by rw [e_]; rfl)) _; (with_reducible repeat (first | apply bA | apply bN | apply bD)); exact BK172.out⟩, ⟨by (with_reducible repeat (first | apply bA | apply bN | apply bD)); refine blk_far ?_ (by have h_ := Kd.R_ne HO_184001.out BK173.out (by decide); intro e_; exact h_ (by rw [e_]; rfl)) _; (with_reducible repeat (first | apply bA | apply bN | apply bD)); exact BK173.out⟩, ⟨by (with_reducible repeat (first | apply bA | apply bN | apply bD)); refine blk_far ?_ (by have h_ := Kd.R_ne HO_184001.out BK183.out (by decide); intro e_; exact h_ (by rw [e_]; rfl)) _; (with_reducible repeat (first | apply bA | apply bN | apply bD)); exact BK183.out⟩, ⟨by repeat (first | (with_reducible first | exact HB.out | apply eA | apply eN | apply eD | refine eS ?_ GB46.out | refine eS ?_ GE170.out | refine eS ?_ GE171.out | refine eS ?_ GE172.out | refine eS ?_ GE173.out | refine eS ?_ GE183.out) | exact HB.out)⟩⟩
                  ·rw [if_neg c45] at H
                   exact absurd H (by simp)
                 ·rw [if_neg c44] at H
                  exact absurd H (by simp)
                ·rw [if_neg c43] at H
                 exact absurd H (by simp)
               ·rw [if_neg c42] at H
                exact absurd H (by simp)
              ·rw [if_neg c41] at H
               exact absurd H (by simp)
             ·replace c40 := Bool.eq_false_iff.mpr c40
              subst c40
              have H1 : (if 0 ≤ x9_1 then (if x9_1 < (l1.length : Int) then (if x11_3 < (((rd_T39 l1 x9_1).f0.f2).length : Int) then (if 0 ≤ x11_3 then (if x11_3 < (x184002_3.length : Int) then (gristmilllaw06_right.l1 kj34 l1 x8_1 x9_1 (wrap64 (x11_3 + 1)) (wrap64 (1 + (Int.tmod t174 5))) (Int.tmod t175 2) 2 2 ((rd_T39 l1 x9_1).f0.f0) x184001_3 (x184002_3.set (x11_3 : Int).toNat (rd ((rd_T39 l1 x9_1).f0.f2) x11_3))) else (none)) else (none)) else (gristmilllaw06_right.l1 kj34 l1 x8_1 x9_1 (wrap64 (x11_3 + 1)) (wrap64 (1 + (Int.tmod t174 5))) (Int.tmod t175 2) 2 2 ((rd_T39 l1 x9_1).f0.f0) x184001_3 x184002_3)) else (none)) else (none)) = some (r1, r2, r3, r4, r5) := by rw [if_neg (show ¬ (false = true) by decide)] at H; exact H
              clear H
              have H := H1
              clear H1
              by_cases c57 : 0 ≤ x9_1
              ·rw [if_pos c57] at H
               have c57b0 : decide (0 ≤ x9_1) = true := decide_eq_true c57
               clear c57
               by_cases c58 : x9_1 < (l1.length : Int)
               ·rw [if_pos c58] at H
                have c58b0 : decide (x9_1 < (l1.length : Int)) = true := decide_eq_true c58
                clear c58
                by_cases c59 : x11_3 < (((rd_T39 l1 x9_1).f0.f2).length : Int)
                ·rw [if_pos c59] at H
                 have c59b0 : decide (x11_3 < (((rd_T39 l1 x9_1).f0.f2).length : Int)) = true := decide_eq_true c59
                 clear c59
                 by_cases c60 : 0 ≤ x11_3
                 ·rw [if_pos c60] at H
                  have c60b0 : decide (0 ≤ x11_3) = true := decide_eq_true c60
                  clear c60
                  by_cases c61 : x11_3 < (x184002_3.length : Int)
                  ·rw [if_pos c61] at H
                   have c61b0 : decide (x11_3 < (x184002_3.length : Int)) = true := decide_eq_true c61
                   clear c61
                   obtain ⟨y201, hy201⟩ : ∃ y_ : List Int, y_ = (x184002_3.set (x11_3 : Int).toNat (rd ((rd_T39 l1 x9_1).f0.f2) x11_3)) := ⟨_, rfl⟩
                   replace H : (gristmilllaw06_right.l1 kj34 l1 x8_1 x9_1 (wrap64 (x11_3 + 1)) (wrap64 (1 + (Int.tmod t174 5))) (Int.tmod t175 2) 2 2 ((rd_T39 l1 x9_1).f0.f0) x184001_3 y201) = some (r1, r2, r3, r4, r5) := by first | (rw [hy201]; with_reducible exact H) | (have H2_ := (Option.bind_some _ _).symm.trans H; rw [hy201]; with_reducible exact H2_) | (have H2_ := (Option.bind_some _ _).symm.trans H; with_reducible exact H2_) | with_reducible exact H | (rw [hy201]; exact H) | exact H
                   have Ny201 := aMk hy201
                   clear hy201
                   have H' := aMk H
                   clear H
                   have p198 : 0 ≤ (x9_1 : Int) := of_decide_eq_true (by first | (with_reducible assumption) | assumption)
                   have q198 : x9_1 < (l1.length : Int) := of_decide_eq_true (by first | (with_reducible assumption) | assumption)
                   obtain ⟨ad198, A198_1, c198_1, A198_2, c198_2, e198, hx198_0, hx198_1, hx198_2, hx198_3, hl198_1, hi198_1, hl198_2, hi198_2⟩ := at_T39 HR1.out x9_1 p198 q198
                   obtain rfl : ad176 = ad198 := (by injection e198)
                   replace hx198_0 := (HB.out.cell (World.block_lt_of_cell? w _ hx198_0)).trans hx198_0
                   replace hx198_1 := (HB.out.cell (World.block_lt_of_cell? w _ hx198_1)).trans hx198_1
                   replace hx198_2 := (HB.out.cell (World.block_lt_of_cell? w _ hx198_2)).trans hx198_2
                   replace hx198_3 := (HB.out.cell (World.block_lt_of_cell? w _ hx198_3)).trans hx198_3
                   have HR198_1 := aMk hi198_1
                   have HC198_1 := aMk hl198_1
                   clear hi198_1 hl198_1
                   have HR198_2 := aMk hi198_2
                   have HC198_2 := aMk hl198_2
                   clear hi198_2 hl198_2
                   replace p198 := eq_true p198
                   replace q198 := eq_true q198
                   try go_wp2
                   replace HO_8 := aMk (Kd.S_drew HO_8.out)
                   replace HO_184001 := aMk (rD HO_184001.out)
                   replace HO_184002 := aMk (rD HO_184002.out)
                   replace BK170 := aMk (bD BK170.out)
                   replace BK171 := aMk (bD BK171.out)
                   replace BK172 := aMk (bD BK172.out)
                   replace BK173 := aMk (bD BK173.out)
                   replace BK183 := aMk (bD BK183.out)
                   replace HB := aMk (eD HB.out)
                   have p199 : 0 ≤ (x9_1 : Int) := of_decide_eq_true (by first | (with_reducible assumption) | assumption)
                   have q199 : x9_1 < (l1.length : Int) := of_decide_eq_true (by first | (with_reducible assumption) | assumption)
                   obtain ⟨ad199, A199_1, c199_1, A199_2, c199_2, e199, hx199_0, hx199_1, hx199_2, hx199_3, hl199_1, hi199_1, hl199_2, hi199_2⟩ := at_T39 HR1.out x9_1 p199 q199
                   have hw199_3 := hx199_3
                   have hw199_2 := hx199_2
                   have hw199_1 := hx199_1
                   have hw199_0 := hx199_0
                   obtain rfl : ad176 = ad199 := (by injection e199)
                   replace hx199_0 := (HB.out.cell (World.block_lt_of_cell? w _ hx199_0)).trans hx199_0
                   replace hx199_1 := (HB.out.cell (World.block_lt_of_cell? w _ hx199_1)).trans hx199_1
                   replace hx199_2 := (HB.out.cell (World.block_lt_of_cell? w _ hx199_2)).trans hx199_2
                   replace hx199_3 := (HB.out.cell (World.block_lt_of_cell? w _ hx199_3)).trans hx199_3
                   have HR199_1 := aMk hi199_1
                   have HC199_1 := aMk hl199_1
                   clear hi199_1 hl199_1
                   have HR199_2 := aMk hi199_2
                   have HC199_2 := aMk hl199_2
                   clear hi199_2 hl199_2
                   replace p199 := eq_true p199
                   replace q199 := eq_true q199
                   have p200 : 0 ≤ (x11_3 : Int) := of_decide_eq_true (by first | (with_reducible assumption) | assumption)
                   have q200 : x11_3 < (((rd_T39 l1 x9_1).f0.f2).length : Int) := of_decide_eq_true (by first | (with_reducible assumption) | assumption)
                   obtain ⟨ad200, e200, hx200_0⟩ := Kd.at_int HR199_2.out x11_3 p200 q200
                   have hw200_0 := hx200_0
                   cases e200
                   replace hx200_0 := (HB.out.cell (World.block_lt_of_cell? w _ hx200_0)).trans hx200_0
                   replace p200 := eq_true p200
                   replace q200 := eq_true q200
                   have p62 : 0 ≤ (x11_3 : Int) := of_decide_eq_true (by first | (with_reducible assumption) | assumption)
                   have q62 : (x11_3 : Int) < ((x184002_3.length : Int) : Int) := of_decide_eq_true (by first | (with_reducible assumption) | assumption)
                   obtain ⟨go62, co62, eo62, gb62, gl62, cl62, HG62⟩ := Kd.R_form HO_184002.out (by omega)
                   (first | cases eo62 | (injection eo62 with ea_ en_ ec_; (first | subst ea_ | (injection ea_ with ea_; subst ea_)); subst ec_; clear en_))
                   have GB62 := aMk gb62
                   have GG62 := aMk HG62
                   clear gb62 gl62 HG62
                   obtain ⟨hx62_0, hf62_0⟩ := Kd.R_celln 0 HO_184002.out (x11_3 : Int) p62 q62
                   replace p62 := eq_true p62
                   replace q62 := eq_true q62
                   have HP64 := Kd.R_putn HO_184002.out (x11_3 : Int) (rd ((rd_T39 l1 x9_1).f0.f2) x11_3)
                   rw [← Ny201.out] at HP64
                   have HQ64 := aMk HP64
                   clear HP64
                   refine start_ (n := 14) (S := fun w' => w'.cell? ⟨gb183, 0, none⟩ = some (.int .i64 ((rd_T39 l1 x9_1).f0.f0)) ∧ w'.cell? ⟨gb183, 1, none⟩ = some (u184001) ∧ w'.cell? ⟨gb183, 2, none⟩ = some (.slice (some ⟨go62, 0, none⟩) x184002_3.length co62) ∧ w'.cell? (ad176.add ((x9_1).toNat * 4)) = some (.int .i64 ((rd_T39 l1 x9_1).f0.f0)) ∧ w'.cell? ⟨(ad176.add ((x9_1).toNat * 4)).block, (ad176.add ((x9_1).toNat * 4)).off + 1, none⟩ = some (.slice A199_1 ((rd_T39 l1 x9_1).f0.f1).length c199_1) ∧ w'.cell? ⟨(ad176.add ((x9_1).toNat * 4)).block, (ad176.add ((x9_1).toNat * 4)).off + 2, none⟩ = some (.slice (some ad200) ((rd_T39 l1 x9_1).f0.f2).length c199_2) ∧ w'.cell? ⟨(ad176.add ((x9_1).toNat * 4)).block, (ad176.add ((x9_1).toNat * 4)).off + 3, none⟩ = some (.int .u64 ((rd_T39 l1 x9_1).f1)) ∧ w'.cell? (ad200.add (x11_3).toNat) = some (.int .i64 (rd ((rd_T39 l1 x9_1).f0.f2) x11_3))) (ds := [13]) #[false, false, false, false, false, false, false, false, false, false, false, false, false, false] (by kernel_rfl) rfl rfl ⟨(blk_cell BK183.out 0).trans rfl, (blk_cell BK183.out 1).trans rfl, (blk_cell BK183.out 2).trans rfl, ((HB.out.cell (World.block_lt_of_cell? w _ hw199_0)).trans hw199_0), ((HB.out.cell (World.block_lt_of_cell? w _ hw199_1)).trans hw199_1), ((HB.out.cell (World.block_lt_of_cell? w _ hw199_2)).trans hw199_2), ((HB.out.cell (World.block_lt_of_cell? w _ hw199_3)).trans hw199_3), ((HB.out.cell (World.block_lt_of_cell? w _ hw200_0)).trans hw200_0)⟩ (fun hHeld => ?_); refine with_tabW gristmilllaw06_right.tab14 gristmilllaw06_right.bits14 (fun HT_ HW_ => ?_)
                   generalize wc.drew = w63 at HO_8 HO_184001 HO_184002 BK170 BK171 BK172 BK173 BK183 HB GG62 HQ64 HR199_1 HR199_2 hf62_0 hx199_0 hx199_1 hx199_2 hx199_3 hx200_0 hx62_0 hHeld ⊢
                   refine pure_ (i := 0) (N := some 90) (v := ?_) (a' := ?_) #[true, false, false, false, false, false, false, false, false, false, false, false, false, false] rfl rfl (any_of HT_.out (by kernel_rfl)) (fun _ _ _ h => h) (Or.inl ⟨by rfl, ?_⟩) ?_ ?_
                   rotate_left
                   ·intro w'
                    go_simp
                    with_reducible rfl
                   rotate_left
                   ·simp only [Act.put, sA, sB, sC, i64_w, i32_w]
                    rfl
                   refine pure_ (i := 2) (N := some 92) (v := ?_) (a' := ?_) #[true, false, true, false, false, false, false, false, false, false, false, false, false, false] rfl rfl (any_of HT_.out (by kernel_rfl)) (fun _ _ _ h => h) (Or.inl ⟨by rfl, ?_⟩) ?_ ?_
                   rotate_left
                   ·intro w'
                    go_simp
                    with_reducible rfl
                   rotate_left
                   ·simp only [Act.put, sA, sB, sC, i64_w, i32_w]
                    rfl
                   refine pure_ (i := 3) (N := some 93) (v := ?_) (a' := ?_) #[true, false, true, true, false, false, false, false, false, false, false, false, false, false] rfl rfl (any_of HT_.out (by kernel_rfl)) (fun _ _ _ h => h) (Or.inl ⟨by rfl, ?_⟩) ?_ ?_
                   rotate_left
                   ·intro w'
                    go_simp
                    with_reducible rfl
                   rotate_left
                   ·simp only [Act.put, sA, sB, sC, i64_w, i32_w]
                    rfl
                   refine pure_ (i := 4) (N := some 94) (v := ?_) (a' := ?_) #[true, false, true, true, true, false, false, false, false, false, false, false, false, false] rfl rfl (any_of HT_.out (by kernel_rfl)) (fun _ _ _ h => h) (Or.inl ⟨by rfl, ?_⟩) ?_ ?_
                   rotate_left
                   ·intro w'
                    go_simp
                    with_reducible rfl
                   rotate_left
                   ·simp only [Act.put, sA, sB, sC, i64_w, i32_w]
                    rfl
                   refine pure_ (i := 5) (N := some 95) (v := ?_) (a' := ?_) #[true, false, true, true, true, true, false, false, false, false, false, false, false, false] rfl rfl (any_of HT_.out (by kernel_rfl)) (fun _ _ _ h => h) (Or.inl ⟨by rfl, ?_⟩) ?_ ?_
                   rotate_left
                   ·intro w'
                    go_simp
                    with_reducible rfl
                   rotate_left
                   ·simp only [Act.put, sA, sB, sC, i64_w, i32_w]
                    rfl
                   refine pure_ (i := 6) (N := some 96) (v := ?_) (a' := ?_) #[true, false, true, true, true, true, true, false, false, false, false, false, false, false] rfl rfl (any_of HT_.out (by kernel_rfl)) (fun _ _ _ h => h) (Or.inl ⟨by rfl, ?_⟩) ?_ ?_
                   rotate_left
                   ·intro w'
                    go_simp
                    with_reducible rfl
                   rotate_left
                   ·simp only [Act.put, sA, sB, sC, i64_w, i32_w]
                    rfl
                   refine pure_ (i := 7) (N := some 97) (v := ?_) (a' := ?_) #[true, false, true, true, true, true, true, true, false, false, false, false, false, false] rfl rfl (any_of HT_.out (by kernel_rfl)) (fun _ _ _ h => h) (Or.inl ⟨by rfl, ?_⟩) ?_ ?_
                   rotate_left
                   ·intro w'
                    go_simp
                    with_reducible rfl
                   rotate_left
                   ·simp only [Act.put, sA, sB, sC, i64_w, i32_w]
                    rfl
                   refine pure_ (i := 9) (N := some 99) (v := ?_) (a' := ?_) #[true, false, true, true, true, true, true, true, false, true, false, false, false, false] rfl rfl (any_of HT_.out (by kernel_rfl)) (fun _ _ _ h => h) (Or.inl ⟨by rfl, ?_⟩) ?_ ?_
                   rotate_left
                   ·intro w'
                    go_simp
                    with_reducible rfl
                   rotate_left
                   ·simp only [Act.put, sA, sB, sC, i64_w, i32_w]
                    rfl
                   refine take_ (i := 1) (N := some 91) (v := ?_) (a' := ?_) #[true, true, true, true, true, true, true, true, false, true, false, false, false, false] rfl rfl (take_ofW HT_.out HW_.out (by kernel_rfl)) (fun _ _ _ h => h) (Or.inl ⟨by rfl, ?_⟩) hHeld ?_ ?_
                   rotate_left
                   ·rintro w' ⟨s0, s1, s2, s3, s4, s5, s6, s7⟩
                    go_simp
                    with_reducible rfl
                   rotate_left
                   ·simp only [Act.put, sA, sB, sC, i64_w, i32_w]
                    rfl
                   refine take_ (i := 8) (N := some 98) (v := ?_) (a' := ?_) #[true, true, true, true, true, true, true, true, true, true, false, false, false, false] rfl rfl (take_ofW HT_.out HW_.out (by kernel_rfl)) (fun _ _ _ h => h) (Or.inl ⟨by rfl, ?_⟩) hHeld ?_ ?_
                   rotate_left
                   ·rintro w' ⟨s0, s1, s2, s3, s4, s5, s6, s7⟩
                    go_simp
                    with_reducible rfl
                   rotate_left
                   ·simp only [Act.put, sA, sB, sC, i64_w, i32_w]
                    rfl
                   refine pure_ (i := 10) (N := some 100) (v := ?_) (a' := ?_) #[true, true, true, true, true, true, true, true, true, true, true, false, false, false] rfl rfl (any_of HT_.out (by kernel_rfl)) (fun _ _ _ h => h) (Or.inl ⟨by rfl, ?_⟩) ?_ ?_
                   rotate_left
                   ·intro w'
                    go_simp
                    with_reducible rfl
                   rotate_left
                   ·simp only [Act.put, sA, sB, sC, i64_w, i32_w]
                    rfl
                   refine take_ (i := 11) (N := some 101) (v := ?_) (a' := ?_) #[true, true, true, true, true, true, true, true, true, true, true, true, false, false] rfl rfl (take_ofW HT_.out HW_.out (by kernel_rfl)) (fun _ _ _ h => h) (Or.inl ⟨by rfl, ?_⟩) hHeld ?_ ?_
                   rotate_left
                   ·rintro w' ⟨s0, s1, s2, s3, s4, s5, s6, s7⟩
                    go_simp
                    with_reducible rfl
                   rotate_left
                   ·simp only [Act.put, sA, sB, sC, i64_w, i32_w]
                    rfl
                   refine pure_ (i := 12) (N := some 102) (v := ?_) (a' := ?_) #[true, true, true, true, true, true, true, true, true, true, true, true, true, false] rfl rfl (any_of HT_.out (by kernel_rfl)) (fun _ _ _ h => h) (Or.inl ⟨by rfl, ?_⟩) ?_ ?_
                   rotate_left
                   ·intro w'
                    go_simp
                    with_reducible rfl
                   rotate_left
                   ·simp only [Act.put, sA, sB, sC, i64_w, i32_w]
                    rfl
                   refine last_ (i := 13) (N := none) #[true, true, true, true, true, true, true, true, true, true, true, true, true, true] rfl rfl (one_of HT_.out (by kernel_rfl)) (by decide) (fun K hK => ?_)
                   refine skip_ (w1 := ?_) (by rfl) rfl ?_ ?_
                   rotate_left
                   ·go_simp
                    rfl
                   refine hK.out _ _ ?_
                   clear hK K
                   refine done_ (done_of HT_.out (by kernel_rfl)) ?_
                   try go_wp2
                   go_roundg kj34
                   case measure => have := HK1.out; have := HJ16.out; have := HK3.out; have := HJ34.out; omega
                   case rel => exact ⟨(wrap64 (x11_3 + 1)), (x184001_3), (y201), (u184001), (.slice (some ⟨go62, 0, none⟩) x184002_3.length co62), (by first | rfl | (simp; done) | (simp [*]; done)), H', ⟨by have := HK1.out; have := HJ16.out; have := HK3.out; have := HJ34.out; omega⟩, ⟨by (with_reducible repeat (first | apply Kd.S_alloc | apply Kd.S_drewN | apply Kd.S_drew)); exact Kd.S_mono (Kd.S_far (p := ⟨go62, (x11_3 : Int).toNat, none⟩) (Kd.S_mono HO_8.out (fun k_ hk => (⟨hk, fun e_ => hk.2 (by rw [e_]; rfl)⟩ : _ ∧ k_ ≠ go62))) (fun _ hk => hk.2) (.int .i64 (rd ((rd_T39 l1 x9_1).f0.f2) x11_3))) (fun _ hk => ⟨hk.1.1, hk.1.2⟩)⟩, ⟨by (with_reducible repeat (first | apply rA | apply rN | apply rD)); exact Kd.R_mono (Kd.R_far (p := ⟨go62, (x11_3 : Int).toNat, none⟩) (Kd.R_types HO_184001.out GG62.out (by decide)) (fun _ hk => hk.2) (.int .i64 (rd ((rd_T39 l1 x9_1).f0.f2) x11_3))) (fun _ hk => trivial)⟩, ⟨by (with_reducible repeat (first | apply rA | apply rN | apply rD)); exact HQ64.out⟩, ⟨by (with_reducible repeat (first | apply bA | apply bN | apply bD)); refine blk_far ?_ (by have h_ := Kd.R_ne HO_184002.out BK170.out (by decide); intro e_; exact h_ (by rw [e_]; rfl)) _; (with_reducible repeat (first | apply bA | apply bN | apply bD)); exact BK170.out⟩, ⟨by (with_reducible repeat (first | apply bA | apply bN | apply bD)); refine blk_far ?_ (by have h_ := Kd.R_ne HO_184002.out BK171.out (by decide); intro e_; exact h_ (by rw [e_]; rfl)) _; (with_reducible repeat (first | apply bA | apply bN | apply bD)); exact BK171.out⟩, ⟨by (with_reducible repeat (first | apply bA | apply bN | apply bD)); refine blk_far ?_ (by have h_ := Kd.R_ne HO_184002.out BK172.out (by decide); intro e_; exact h_ (by rw [e_]; rfl)) _; (with_reducible repeat (first | apply bA | apply bN | apply bD)); exact BK172.out⟩, ⟨by (with_reducible repeat (first | apply bA | apply bN | apply bD)); refine blk_far ?_ (by have h_ := Kd.R_ne HO_184002.out BK173.out (by decide); intro e_; exact h_ (by rw [e_]; rfl)) _; (with_reducible repeat (first | apply bA | apply bN | apply bD)); exact BK173.out⟩, ⟨by (with_reducible repeat (first | apply bA | apply bN | apply bD)); refine blk_far ?_ (by have h_ := Kd.R_ne HO_184002.out BK183.out (by decide); intro e_; exact h_ (by rw [e_]; rfl)) _; (with_reducible repeat (first | apply bA | apply bN | apply bD)); exact BK183.out⟩, ⟨by repeat (first | (with_reducible first | exact HB.out | apply eA | apply eN | apply eD | refine eS ?_ GB62.out | refine eS ?_ GE170.out | refine eS ?_ GE171.out | refine eS ?_ GE172.out | refine eS ?_ GE173.out | refine eS ?_ GE183.out) | exact HB.out)⟩⟩
                  ·rw [if_neg c61] at H
                   exact absurd H (by simp)
                 ·rw [if_neg c60] at H
                  exact absurd H (by simp)
                ·rw [if_neg c59] at H
                 have c59b0 : decide (x11_3 < (((rd_T39 l1 x9_1).f0.f2).length : Int)) = false := decide_eq_false c59
                 clear c59
                 have H' := aMk H
                 clear H
                 have p198 : 0 ≤ (x9_1 : Int) := of_decide_eq_true (by first | (with_reducible assumption) | assumption)
                 have q198 : x9_1 < (l1.length : Int) := of_decide_eq_true (by first | (with_reducible assumption) | assumption)
                 obtain ⟨ad198, A198_1, c198_1, A198_2, c198_2, e198, hx198_0, hx198_1, hx198_2, hx198_3, hl198_1, hi198_1, hl198_2, hi198_2⟩ := at_T39 HR1.out x9_1 p198 q198
                 obtain rfl : ad176 = ad198 := (by injection e198)
                 replace hx198_0 := (HB.out.cell (World.block_lt_of_cell? w _ hx198_0)).trans hx198_0
                 replace hx198_1 := (HB.out.cell (World.block_lt_of_cell? w _ hx198_1)).trans hx198_1
                 replace hx198_2 := (HB.out.cell (World.block_lt_of_cell? w _ hx198_2)).trans hx198_2
                 replace hx198_3 := (HB.out.cell (World.block_lt_of_cell? w _ hx198_3)).trans hx198_3
                 have HR198_1 := aMk hi198_1
                 have HC198_1 := aMk hl198_1
                 clear hi198_1 hl198_1
                 have HR198_2 := aMk hi198_2
                 have HC198_2 := aMk hl198_2
                 clear hi198_2 hl198_2
                 replace p198 := eq_true p198
                 replace q198 := eq_true q198
                 go_wp2
                 go_roundg kj34
                 case measure => have := HK1.out; have := HJ16.out; have := HK3.out; have := HJ34.out; omega
                 case rel => exact ⟨(wrap64 (x11_3 + 1)), (x184001_3), (x184002_3), (u184001), (u184002), (by first | rfl | (simp; done) | (simp [*]; done)), H', ⟨by have := HK1.out; have := HJ16.out; have := HK3.out; have := HJ34.out; omega⟩, ⟨by (with_reducible repeat (first | apply Kd.S_alloc | apply Kd.S_drewN | apply Kd.S_drew)); exact HO_8.out⟩, ⟨by (with_reducible repeat (first | apply rA | apply rN | apply rD)); exact HO_184001.out⟩, ⟨by (with_reducible repeat (first | apply rA | apply rN | apply rD)); exact HO_184002.out⟩, ⟨by (with_reducible repeat (first | apply bA | apply bN | apply bD)); exact BK170.out⟩, ⟨by (with_reducible repeat (first | apply bA | apply bN | apply bD)); exact BK171.out⟩, ⟨by (with_reducible repeat (first | apply bA | apply bN | apply bD)); exact BK172.out⟩, ⟨by (with_reducible repeat (first | apply bA | apply bN | apply bD)); exact BK173.out⟩, ⟨by (with_reducible repeat (first | apply bA | apply bN | apply bD)); exact BK183.out⟩, ⟨by repeat (first | (with_reducible first | exact HB.out | apply eA | apply eN | apply eD | refine eS ?_ GE170.out | refine eS ?_ GE171.out | refine eS ?_ GE172.out | refine eS ?_ GE173.out | refine eS ?_ GE183.out) | exact HB.out)⟩⟩
               ·rw [if_neg c58] at H
                exact absurd H (by simp)
              ·rw [if_neg c57] at H
               exact absurd H (by simp)
          ·rw [if_neg c34] at H
           have c34b0 : decide (x11_3 < 2) = false := decide_eq_false c34
           clear c34
           by_cases c65 : 0 ≤ x9_1
           ·rw [if_pos c65] at H
            have c65b0 : decide (0 ≤ x9_1) = true := decide_eq_true c65
            clear c65
            by_cases c66 : x9_1 < (l1.length : Int)
            ·rw [if_pos c66] at H
             have c66b0 : decide (x9_1 < (l1.length : Int)) = true := decide_eq_true c66
             clear c66
             by_cases c67 : x8_1.length < 2199023255552
             ·rw [if_pos c67] at H
              have LMc67 := aMk c67
              clear c67
              obtain ⟨y185, hy185⟩ : ∃ y_ : List (S39), y_ = (x8_1 ++ [(⟨(⟨((rd_T39 l1 x9_1).f0.f0), x184001_3, x184002_3⟩ : S37), Int.tmod ((rd_T39 l1 x9_1).f1) 1125899906842624⟩ : S39)]) := ⟨_, rfl⟩
              replace H : (gristmilllaw06_right.l0 k3 l1 y185 (wrap64 (x9_1 + 1)) (wrap64 (1 + (Int.tmod t174 5))) (Int.tmod t175 2) 2 2) = some (r1, r2, r3, r4, r5) := by first | (rw [hy185]; with_reducible exact H) | (have H2_ := (Option.bind_some _ _).symm.trans H; rw [hy185]; with_reducible exact H2_) | (have H2_ := (Option.bind_some _ _).symm.trans H; with_reducible exact H2_) | with_reducible exact H | (rw [hy185]; exact H) | exact H
              have Ny185 := aMk hy185
              clear hy185
              have H' := aMk H
              clear H
              try go_wp2
              replace HO_8 := aMk (Kd.S_drew HO_8.out)
              replace HO_184001 := aMk (rD HO_184001.out)
              replace HO_184002 := aMk (rD HO_184002.out)
              replace BK170 := aMk (bD BK170.out)
              replace BK171 := aMk (bD BK171.out)
              replace BK172 := aMk (bD BK172.out)
              replace BK173 := aMk (bD BK173.out)
              replace BK183 := aMk (bD BK183.out)
              replace HB := aMk (eD HB.out)
              have p184 : 0 ≤ (x9_1 : Int) := of_decide_eq_true (by first | (with_reducible assumption) | assumption)
              have q184 : x9_1 < (l1.length : Int) := of_decide_eq_true (by first | (with_reducible assumption) | assumption)
              obtain ⟨ad184, A184_1, c184_1, A184_2, c184_2, e184, hx184_0, hx184_1, hx184_2, hx184_3, hl184_1, hi184_1, hl184_2, hi184_2⟩ := at_T39 HR1.out x9_1 p184 q184
              have hw184_3 := hx184_3
              have hw184_2 := hx184_2
              have hw184_1 := hx184_1
              have hw184_0 := hx184_0
              obtain rfl : ad176 = ad184 := (by injection e184)
              replace hx184_0 := (HB.out.cell (World.block_lt_of_cell? w _ hx184_0)).trans hx184_0
              replace hx184_1 := (HB.out.cell (World.block_lt_of_cell? w _ hx184_1)).trans hx184_1
              replace hx184_2 := (HB.out.cell (World.block_lt_of_cell? w _ hx184_2)).trans hx184_2
              replace hx184_3 := (HB.out.cell (World.block_lt_of_cell? w _ hx184_3)).trans hx184_3
              have HR184_1 := aMk hi184_1
              have HC184_1 := aMk hl184_1
              clear hi184_1 hl184_1
              have HR184_2 := aMk hi184_2
              have HC184_2 := aMk hl184_2
              clear hi184_2 hl184_2
              replace p184 := eq_true p184
              replace q184 := eq_true q184
              obtain ⟨Ao69, co69, eo69⟩ := Kd.R_slice HO_184002.out
              (first | subst eo69 | (injection eo69 with f1_ f2_ f3_; have f4_ := f1_.symm; have f5_ := f3_.symm; clear f1_ f2_ f3_; subst f4_; subst f5_))
              obtain ⟨Ao70, co70, eo70⟩ := Kd.R_slice HO_184001.out
              (first | subst eo70 | (injection eo70 with f1_ f2_ f3_; have f4_ := f1_.symm; have f5_ := f3_.symm; clear f1_ f2_ f3_; subst f4_; subst f5_))
              refine start_ (n := 12) (S := fun w' => w'.cell? ⟨gb183, 0, none⟩ = some (.int .i64 ((rd_T39 l1 x9_1).f0.f0)) ∧ w'.cell? ⟨gb183, 1, none⟩ = some (.slice Ao70 x184001_3.length co70) ∧ w'.cell? ⟨gb183, 2, none⟩ = some (.slice Ao69 x184002_3.length co69) ∧ w'.cell? (ad176.add ((x9_1).toNat * 4)) = some (.int .i64 ((rd_T39 l1 x9_1).f0.f0)) ∧ w'.cell? ⟨(ad176.add ((x9_1).toNat * 4)).block, (ad176.add ((x9_1).toNat * 4)).off + 1, none⟩ = some (.slice A184_1 ((rd_T39 l1 x9_1).f0.f1).length c184_1) ∧ w'.cell? ⟨(ad176.add ((x9_1).toNat * 4)).block, (ad176.add ((x9_1).toNat * 4)).off + 2, none⟩ = some (.slice A184_2 ((rd_T39 l1 x9_1).f0.f2).length c184_2) ∧ w'.cell? ⟨(ad176.add ((x9_1).toNat * 4)).block, (ad176.add ((x9_1).toNat * 4)).off + 3, none⟩ = some (.int .u64 ((rd_T39 l1 x9_1).f1))) (ds := []) #[false, false, false, false, false, false, false, false, false, false, false, false] (by kernel_rfl) rfl rfl ⟨(blk_cell BK183.out 0).trans rfl, (blk_cell BK183.out 1).trans rfl, (blk_cell BK183.out 2).trans rfl, ((HB.out.cell (World.block_lt_of_cell? w _ hw184_0)).trans hw184_0), ((HB.out.cell (World.block_lt_of_cell? w _ hw184_1)).trans hw184_1), ((HB.out.cell (World.block_lt_of_cell? w _ hw184_2)).trans hw184_2), ((HB.out.cell (World.block_lt_of_cell? w _ hw184_3)).trans hw184_3)⟩ (fun hHeld => ?_); refine with_tabW gristmilllaw06_right.tab15 gristmilllaw06_right.bits15 (fun HT_ HW_ => ?_)
              generalize wr.drew = w68 at HO_8 HO_184001 HO_184002 BK170 BK171 BK172 BK173 BK183 HB HR184_1 HR184_2 hx184_0 hx184_1 hx184_2 hx184_3 hHeld ⊢
              refine pure_ (i := 0) (N := some 103) (v := ?_) (a' := ?_) #[true, false, false, false, false, false, false, false, false, false, false, false] rfl rfl (any_of HT_.out (by kernel_rfl)) (fun _ _ _ h => h) (Or.inl ⟨by rfl, ?_⟩) ?_ ?_
              rotate_left
              ·intro w'
               go_simp
               with_reducible rfl
              rotate_left
              ·simp only [Act.put, sA, sB, sC, i64_w, i32_w]
               rfl
              refine pure_ (i := 2) (N := some 105) (v := ?_) (a' := ?_) #[true, false, true, false, false, false, false, false, false, false, false, false] rfl rfl (any_of HT_.out (by kernel_rfl)) (fun _ _ _ h => h) (Or.inl ⟨by rfl, ?_⟩) ?_ ?_
              rotate_left
              ·intro w'
               go_simp
               with_reducible rfl
              rotate_left
              ·simp only [Act.put, sA, sB, sC, i64_w, i32_w]
               rfl
              refine pure_ (i := 3) (N := some 106) (v := ?_) (a' := ?_) #[true, false, true, true, false, false, false, false, false, false, false, false] rfl rfl (any_of HT_.out (by kernel_rfl)) (fun _ _ _ h => h) (Or.inl ⟨by rfl, ?_⟩) ?_ ?_
              rotate_left
              ·intro w'
               go_simp
               with_reducible rfl
              rotate_left
              ·simp only [Act.put, sA, sB, sC, i64_w, i32_w]
               rfl
              refine pure_ (i := 4) (N := some 107) (v := ?_) (a' := ?_) #[true, false, true, true, true, false, false, false, false, false, false, false] rfl rfl (any_of HT_.out (by kernel_rfl)) (fun _ _ _ h => h) (Or.inl ⟨by rfl, ?_⟩) ?_ ?_
              rotate_left
              ·intro w'
               go_simp
               with_reducible rfl
              rotate_left
              ·simp only [Act.put, sA, sB, sC, i64_w, i32_w]
               rfl
              refine pure_ (i := 5) (N := some 108) (v := ?_) (a' := ?_) #[true, false, true, true, true, true, false, false, false, false, false, false] rfl rfl (any_of HT_.out (by kernel_rfl)) (fun _ _ _ h => h) (Or.inl ⟨by rfl, ?_⟩) ?_ ?_
              rotate_left
              ·intro w'
               go_simp
               with_reducible rfl
              rotate_left
              ·simp only [Act.put, sA, sB, sC, i64_w, i32_w]
               rfl
              refine take_ (i := 1) (N := some 104) (v := ?_) (a' := ?_) #[true, true, true, true, true, true, false, false, false, false, false, false] rfl rfl (take_ofW HT_.out HW_.out (by kernel_rfl)) (fun _ _ _ h => h) (Or.inl ⟨by rfl, ?_⟩) hHeld ?_ ?_
              rotate_left
              ·rintro w' ⟨s0, s1, s2, s3, s4, s5, s6⟩
               go_simp
               with_reducible rfl
              rotate_left
              ·simp only [Act.put, sA, sB, sC, i64_w, i32_w]
               rfl
              refine take_ (i := 6) (N := some 109) (v := ?_) (a' := ?_) #[true, true, true, true, true, true, true, false, false, false, false, false] rfl rfl (take_ofW HT_.out HW_.out (by kernel_rfl)) (fun _ _ _ h => h) (Or.inl ⟨by rfl, ?_⟩) hHeld ?_ ?_
              rotate_left
              ·rintro w' ⟨s0, s1, s2, s3, s4, s5, s6⟩
               go_simp
               with_reducible rfl
              rotate_left
              ·simp only [Act.put, sA, sB, sC, i64_w, i32_w]
               rfl
              refine pure_ (i := 7) (N := some 110) (v := ?_) (a' := ?_) #[true, true, true, true, true, true, true, true, false, false, false, false] rfl rfl (any_of HT_.out (by kernel_rfl)) (fun _ _ _ h => h) (Or.inl ⟨by rfl, ?_⟩) ?_ ?_
              rotate_left
              ·intro w'
               go_simp
               with_reducible rfl
              rotate_left
              ·simp only [Act.put, sA, sB, sC, i64_w, i32_w]
               rfl
              refine pure_ (i := 8) (N := some 111) (v := ?_) (a' := ?_) #[true, true, true, true, true, true, true, true, true, false, false, false] rfl rfl (any_of HT_.out (by kernel_rfl)) (fun _ _ _ h => h) (Or.inl ⟨by rfl, ?_⟩) ?_ ?_
              rotate_left
              ·intro w'
               go_simp
               with_reducible rfl
              rotate_left
              ·simp only [Act.put, sA, sB, sC, i64_w, i32_w]
               rfl
              refine one_ (i := 9) (N := some 112) #[true, true, true, true, true, true, true, true, true, true, false, false] rfl rfl (one_of HT_.out (by kernel_rfl)) (by decide) (fun K hK => ?_)
              refine value_ (w1 := ?_) (v := ?_) (by rfl) rfl ?_ ?_
              rotate_left 2
              ·go_simp
               constructor
               ·rfl
               ·rfl
              refine hK.out _ _ ⟨(blk_cell (bA BK183.out _) 0).trans rfl, (blk_cell (bA BK183.out _) 1).trans rfl, (blk_cell (bA BK183.out _) 2).trans rfl, (World.cell?_alloc_lt _ _ _ (World.block_lt_of_cell? _ _ (((HB.out.cell (World.block_lt_of_cell? w _ hw184_0)).trans hw184_0)))).trans (((HB.out.cell (World.block_lt_of_cell? w _ hw184_0)).trans hw184_0)), (World.cell?_alloc_lt _ _ _ (World.block_lt_of_cell? _ _ (((HB.out.cell (World.block_lt_of_cell? w _ hw184_1)).trans hw184_1)))).trans (((HB.out.cell (World.block_lt_of_cell? w _ hw184_1)).trans hw184_1)), (World.cell?_alloc_lt _ _ _ (World.block_lt_of_cell? _ _ (((HB.out.cell (World.block_lt_of_cell? w _ hw184_2)).trans hw184_2)))).trans (((HB.out.cell (World.block_lt_of_cell? w _ hw184_2)).trans hw184_2)), (World.cell?_alloc_lt _ _ _ (World.block_lt_of_cell? _ _ (((HB.out.cell (World.block_lt_of_cell? w _ hw184_3)).trans hw184_3)))).trans (((HB.out.cell (World.block_lt_of_cell? w _ hw184_3)).trans hw184_3))⟩ (fun hHeld => ?_)
              clear hK K
              refine norm_ (a' := ?_) ?_ ?_
              rotate_left
              ·show Act.put _ (some 112) _ = _
               simp only [Act.put, sA, sB, sC, i64_w, i32_w]
               rfl
              refine one_ (i := 10) (N := some 113) #[true, true, true, true, true, true, true, true, true, true, true, false] rfl rfl (one_of HT_.out (by kernel_rfl)) (by decide) (fun K hK => ?_)
              refine Kd.S_append_step k39 (w0 := w) w.heap.size (by rfl) (.tmp 103) (.tmp 112) 24 39 (.agg #[(.int .i64 0), (.slice none 0 0), (.slice none 0 0), (.int .u64 0)]) 64 rfl Try.underlying24 info39 rfl (by decide) (by omega) u8 x8_1 (⟨(⟨((rd_T39 l1 x9_1).f0.f0), x184001_3, x184002_3⟩ : S37), Int.tmod ((rd_T39 l1 x9_1).f1) 1125899906842624⟩ : S39) [.int .i64 ((rd_T39 l1 x9_1).f0.f0), .slice Ao70 x184001_3.length co70, .slice Ao69 x184002_3.length co69, .int .u64 (Int.tmod ((rd_T39 l1 x9_1).f1) 1125899906842624)] (fun _ => True) (fun k_ => some k_ = (.slice Ao70 x184001_3.length co70 : Value).ownBlock ∨ some k_ = (.slice Ao69 x184002_3.length co69 : Value).ownBlock) rfl rfl ?aP (fun k_ hk_ => hk_.elim (fun h_ => ((Kd.R_mono (ok' := fun k_ => ((fun _ => True)) k_ ∧ some k_ ≠ (u8 : Value).ownBlock) (Kd.R_apart' (HO_184001.out) (Kd.S_typed HO_8.out) (by decide)) (fun k_ hk => ⟨trivial, hk.2⟩))).1 k_ h_.symm) (fun h_ => ((Kd.R_mono (ok' := fun k_ => ((fun _ => True)) k_ ∧ some k_ ≠ (u8 : Value).ownBlock) (Kd.R_apart' (HO_184002.out) (Kd.S_typed HO_8.out) (by decide)) (fun k_ hk => ⟨trivial, hk.2⟩))).1 k_ h_.symm)) ?aF ?aO ?aB ?aS ?aL ?_
              (case aP => exact k39_mkM _ _ _ (⟨(⟨((rd_T39 l1 x9_1).f0.f0), x184001_3, x184002_3⟩ : S37), Int.tmod ((rd_T39 l1 x9_1).f1) 1125899906842624⟩ : S39) (Kd.R_mono (Kd.R_tight rfl (Kd.R_mono (ok' := fun k_ => ((fun _ => True)) k_ ∧ some k_ ≠ (u8 : Value).ownBlock) (Kd.R_apart' (HO_184001.out) (Kd.S_typed HO_8.out) (by decide)) (fun k_ hk => ⟨trivial, hk.2⟩))) (fun _ h_ => Or.inl h_)) (Kd.R_mono (Kd.R_tight rfl (Kd.R_mono (ok' := fun k_ => ((fun _ => True)) k_ ∧ some k_ ≠ (u8 : Value).ownBlock) (Kd.R_apart' (HO_184002.out) (Kd.S_typed HO_8.out) (by decide)) (fun k_ hk => ⟨trivial, hk.2⟩))) (fun _ h_ => Or.inr (h_))))
              (case aB => exact (by repeat (first | (with_reducible first | exact HB.out | apply eA | apply eN | apply eD | refine eS ?_ GE170.out | refine eS ?_ GE171.out | refine eS ?_ GE172.out | refine eS ?_ GE173.out | refine eS ?_ GE183.out) | exact HB.out)))
              (case aF => exact (fun _ _ => trivial))
              (case aO => exact (by (with_reducible repeat (first | apply Kd.S_alloc | apply Kd.S_drewN | apply Kd.S_drew)); exact Kd.S_mono HO_8.out (fun k_ hk => ⟨trivial, fun e_ => e_.elim (fun h_ => hk.1 h_) (fun h_ => hk.2 h_)⟩)))
              (case aS => exact (below_size (by repeat (first | (with_reducible first | exact HB.out | apply eA | apply eN | apply eD | refine eS ?_ GE170.out | refine eS ?_ GE171.out | refine eS ?_ GE172.out | refine eS ?_ GE173.out | refine eS ?_ GE183.out) | exact HB.out))))
              (case aL => have := LMc67.out; omega)
              intro v186 w71 ho hb hg hat
              rw [← Ny185.out] at ho
              have HO187 := aMk (ho)
              replace BK170 := aMk (blk_grown (g := gb170) (o := .cells #[.int .i64 (wrap64 (1 + (Int.tmod t174 5))), .int .i64 (Int.tmod t175 2)] 23 (0, 0)) (by (with_reducible repeat (first | apply bA | apply bN | apply bD)); exact BK170.out) hg (Kd.S_ne HO_8.out BK170.out (by decide)))
              replace BK171 := aMk (blk_grown (g := gb171) (o := .cells #[.int .i64 0, .int .i64 0] 27 (0, 0)) (by (with_reducible repeat (first | apply bA | apply bN | apply bD)); exact BK171.out) hg (Kd.S_ne HO_8.out BK171.out (by decide)))
              replace BK172 := aMk (blk_grown (g := gb172) (o := .cells #[.int .i64 0, .int .i64 0] 23 (0, 0)) (by (with_reducible repeat (first | apply bA | apply bN | apply bD)); exact BK172.out) hg (Kd.S_ne HO_8.out BK172.out (by decide)))
              replace BK173 := aMk (blk_grown (g := gb173) (o := .cells #[.int .i64 2, .int .i64 2] 27 (0, 0)) (by (with_reducible repeat (first | apply bA | apply bN | apply bD)); exact BK173.out) hg (Kd.S_ne HO_8.out BK173.out (by decide)))
              replace BK183 := aMk (blk_grown (g := gb183) (o := .cells #[.int .i64 ((rd_T39 l1 x9_1).f0.f0), .slice Ao70 x184001_3.length co70, .slice Ao69 x184002_3.length co69] 37 (0, 0)) (by (with_reducible repeat (first | apply bA | apply bN | apply bD)); exact BK183.out) hg (Kd.S_ne HO_8.out BK183.out (by decide)))
              replace HB := aMk (hb)
              clear HO_8 HO_184001 HO_184002
              clear ho hb hg hat
              refine hK.out _ _ ⟨(blk_cell BK183.out 0).trans rfl, (blk_cell BK183.out 1).trans rfl, (blk_cell BK183.out 2).trans rfl, ((HB.out.cell (World.block_lt_of_cell? w _ hw184_0)).trans hw184_0), ((HB.out.cell (World.block_lt_of_cell? w _ hw184_1)).trans hw184_1), ((HB.out.cell (World.block_lt_of_cell? w _ hw184_2)).trans hw184_2), ((HB.out.cell (World.block_lt_of_cell? w _ hw184_3)).trans hw184_3)⟩ (fun hHeld => ?_)
              clear hK K
              refine norm_ (a' := ?_) ?_ ?_
              rotate_left
              ·show Act.put _ (some 113) _ = _
               simp only [Act.put, sA, sB, sC, i64_w, i32_w]
               rfl
              refine pure_ (i := 11) (N := some 8) (v := ?_) (a' := ?_) #[true, true, true, true, true, true, true, true, true, true, true, true] rfl rfl (any_of HT_.out (by kernel_rfl)) (fun _ _ _ h => h) (Or.inl ⟨by rfl, ?_⟩) ?_ ?_
              rotate_left
              ·intro w'
               go_simp
               with_reducible rfl
              rotate_left
              ·simp only [Act.put, sA, sB, sC, i64_w, i32_w]
               rfl
              refine done_ (done_of HT_.out (by kernel_rfl)) ?_
              try go_wp2
              go_roundg k3
              case measure => have := HK1.out; have := HJ16.out; have := HK3.out; omega
              case rel => exact ⟨(y185), (wrap64 (x9_1 + 1)), (by first | rfl | (simp; done) | (simp [*]; done)), H', ⟨by have := HK1.out; have := HJ16.out; have := HK3.out; omega⟩, ⟨by (with_reducible repeat (first | apply Kd.S_alloc | apply Kd.S_drewN | apply Kd.S_drew)); exact HO187.out⟩, ⟨by (with_reducible repeat (first | apply bA | apply bN | apply bD)); exact BK170.out⟩, ⟨by (with_reducible repeat (first | apply bA | apply bN | apply bD)); exact BK171.out⟩, ⟨by (with_reducible repeat (first | apply bA | apply bN | apply bD)); exact BK172.out⟩, ⟨by (with_reducible repeat (first | apply bA | apply bN | apply bD)); exact BK173.out⟩, ⟨by repeat (first | (with_reducible first | exact HB.out | apply eA | apply eN | apply eD | refine eS ?_ GE170.out | refine eS ?_ GE171.out | refine eS ?_ GE172.out | refine eS ?_ GE173.out | refine eS ?_ GE183.out) | exact HB.out)⟩⟩
             ·rw [if_neg c67] at H
              exact absurd H (by simp)
            ·rw [if_neg c66] at H
             exact absurd H (by simp)
           ·rw [if_neg c65] at H
            exact absurd H (by simp)
       ·rw [if_neg c21] at H
        exact absurd H (by simp)
      ·rw [if_neg c20] at H
       exact absurd H (by simp)
     ·replace c19 := Bool.eq_false_iff.mpr c19
      subst c19
      have H1 : (some (2, 2, (wrap64 (1 + (Int.tmod t174 5))), (Int.tmod t175 2), x8_1)) = some (r1, r2, r3, r4, r5) := by rw [if_neg (show ¬ (false = true) by decide)] at H; exact H
      clear H
      have H := H1
      clear H1
      simp only [Option.some.injEq, Prod.mk.injEq] at H
      obtain ⟨rfl, rfl, rfl, rfl, rfl⟩ := H
      try go_wp2
      replace HO_8 := aMk (Kd.S_drew HO_8.out)
      replace BK170 := aMk (bD BK170.out)
      replace BK171 := aMk (bD BK171.out)
      replace BK172 := aMk (bD BK172.out)
      replace BK173 := aMk (bD BK173.out)
      replace HB := aMk (eD HB.out)
      refine start_ (n := 6) (S := fun w' => w'.cell? ⟨gb173, 0, none⟩ = some (.int .i64 2) ∧ w'.cell? ⟨gb173, 1, none⟩ = some (.int .i64 2) ∧ w'.cell? ⟨gb170, 0, none⟩ = some (.int .i64 (wrap64 (1 + (Int.tmod t174 5)))) ∧ w'.cell? ⟨gb170, 1, none⟩ = some (.int .i64 (Int.tmod t175 2))) (ds := []) #[false, false, false, false, false, false] (by kernel_rfl) rfl rfl ⟨(blk_cell BK173.out 0).trans rfl, (blk_cell BK173.out 1).trans rfl, (blk_cell BK170.out 0).trans rfl, (blk_cell BK170.out 1).trans rfl⟩ (fun hHeld => ?_)
      generalize wc.drew = w72 at HO_8 BK170 BK171 BK172 BK173 HB hHeld ⊢
      refine pure_ (i := 2) (N := some 116) (v := ?_) (a' := ?_) #[false, false, true, false, false, false] rfl rfl (by kernel_rfl) (fun _ _ _ h => h) (Or.inl ⟨by rfl, ?_⟩) ?_ ?_
      rotate_left
      ·intro w'
       go_simp
       with_reducible rfl
      rotate_left
      ·simp only [Act.put, sA, sB, sC, i64_w, i32_w]
       rfl
      refine take_ (i := 0) (N := some 114) (v := ?_) (a' := ?_) #[true, false, true, false, false, false] rfl rfl (by kernel_rfl) (fun _ _ _ h => h) (Or.inl ⟨by rfl, ?_⟩) hHeld ?_ ?_
      rotate_left
      ·rintro w' ⟨s0, s1, s2, s3⟩
       go_simp
       with_reducible rfl
      rotate_left
      ·simp only [Act.put, sA, sB, sC, i64_w, i32_w]
       rfl
      refine take_ (i := 1) (N := some 115) (v := ?_) (a' := ?_) #[true, true, true, false, false, false] rfl rfl (by kernel_rfl) (fun _ _ _ h => h) (Or.inl ⟨by rfl, ?_⟩) hHeld ?_ ?_
      rotate_left
      ·rintro w' ⟨s0, s1, s2, s3⟩
       go_simp
       with_reducible rfl
      rotate_left
      ·simp only [Act.put, sA, sB, sC, i64_w, i32_w]
       rfl
      refine one_ (i := 3) (N := none) #[true, true, true, true, false, false] rfl rfl (by kernel_rfl) (by decide) (fun K hK => ?_)
      have hs73 : w72.cell? ⟨gb171, 0, none⟩ = some (.int .i64 0) := (blk_cell BK171.out 0).trans rfl
      have hfs73 := blk_frozen BK171.out 0
      have hns73_0 := NB170_171.out
      have hns73_2 := NB172_171.out
      have hns73_3 := NB173_171.out
      have hms73_0 := NB171_170.out
      have hms73_2 := NB171_172.out
      have hms73_3 := NB171_173.out
      have hs74 : w72.cell? ⟨gb171, 1, none⟩ = some (.int .i64 0) := (blk_cell BK171.out 1).trans rfl
      have hfs74 := blk_frozen BK171.out 1
      have hns74_0 := NB170_171.out
      have hns74_2 := NB172_171.out
      have hns74_3 := NB173_171.out
      have hms74_0 := NB171_170.out
      have hms74_2 := NB171_172.out
      have hms74_3 := NB171_173.out
      refine skip_ (w1 := ?_) (by rfl) rfl ?_ ?_
      rotate_left
      ·go_simp
       rfl
      refine hK.out _ _ ⟨((cell_far (p := ⟨gb171, _, none⟩) NB173_171.out _).trans (((cell_far (p := ⟨gb171, _, none⟩) NB173_171.out _).trans (hHeld.1)))), ((cell_far (p := ⟨gb171, _, none⟩) NB173_171.out _).trans (((cell_far (p := ⟨gb171, _, none⟩) NB173_171.out _).trans (hHeld.2.1)))), ((cell_far (p := ⟨gb171, _, none⟩) NB170_171.out _).trans (((cell_far (p := ⟨gb171, _, none⟩) NB170_171.out _).trans (hHeld.2.2.1)))), ((cell_far (p := ⟨gb171, _, none⟩) NB170_171.out _).trans (((cell_far (p := ⟨gb171, _, none⟩) NB170_171.out _).trans (hHeld.2.2.2))))⟩ (fun hHeld => ?_)
      clear hK K
      refine one_ (i := 4) (N := none) #[true, true, true, true, true, false] rfl rfl (by kernel_rfl) (by decide) (fun K hK => ?_)
      have hs75 : w72.cell? ⟨gb172, 0, none⟩ = some (.int .i64 0) := (blk_cell BK172.out 0).trans rfl
      have hfs75 := blk_frozen BK172.out 0
      have hns75_0 := NB170_172.out
      have hns75_1 := NB171_172.out
      have hns75_3 := NB173_172.out
      have hms75_0 := NB172_170.out
      have hms75_1 := NB172_171.out
      have hms75_3 := NB172_173.out
      have hs76 : w72.cell? ⟨gb172, 1, none⟩ = some (.int .i64 0) := (blk_cell BK172.out 1).trans rfl
      have hfs76 := blk_frozen BK172.out 1
      have hns76_0 := NB170_172.out
      have hns76_1 := NB171_172.out
      have hns76_3 := NB173_172.out
      have hms76_0 := NB172_170.out
      have hms76_1 := NB172_171.out
      have hms76_3 := NB172_173.out
      refine skip_ (w1 := ?_) (by rfl) rfl ?_ ?_
      rotate_left
      ·go_simp
       rfl
      refine hK.out _ _ ⟨((cell_far (p := ⟨gb172, _, none⟩) NB173_172.out _).trans (((cell_far (p := ⟨gb172, _, none⟩) NB173_172.out _).trans (hHeld.1)))), ((cell_far (p := ⟨gb172, _, none⟩) NB173_172.out _).trans (((cell_far (p := ⟨gb172, _, none⟩) NB173_172.out _).trans (hHeld.2.1)))), ((cell_far (p := ⟨gb172, _, none⟩) NB170_172.out _).trans (((cell_far (p := ⟨gb172, _, none⟩) NB170_172.out _).trans (hHeld.2.2.1)))), ((cell_far (p := ⟨gb172, _, none⟩) NB170_172.out _).trans (((cell_far (p := ⟨gb172, _, none⟩) NB170_172.out _).trans (hHeld.2.2.2))))⟩ (fun hHeld => ?_)
      clear hK K
      refine pure_ (i := 5) (N := some 6) (v := ?_) (a' := ?_) #[true, true, true, true, true, true] rfl rfl (by kernel_rfl) (fun _ _ _ h => h) (Or.inl ⟨by rfl, ?_⟩) ?_ ?_
      rotate_left
      ·intro w'
       go_simp
       with_reducible rfl
      rotate_left
      ·simp only [Act.put, sA, sB, sC, i64_w, i32_w]
       rfl
      refine done_ (by kernel_rfl) ?_
      try go_wp2
      refine bodyPost_ret (results_list (rs := [.cell 4 27, .cell 5 23, .tmp 6]) rfl (by simp) (.cell gb171 27 #[.int .i64 2, .int .i64 2] (0, 0) _ rfl (by (with_reducible repeat (first | apply bA | apply bN | apply bD)); refine blk_far ?_ NB171_172.out _; (with_reducible repeat (first | apply bA | apply bN | apply bD)); refine blk_far ?_ NB171_172.out _; (with_reducible repeat (first | apply bA | apply bN | apply bD)); refine blk_put (cs := #[.int .i64 2, .int .i64 0]) ?_ 1 _ rfl; (with_reducible repeat (first | apply bA | apply bN | apply bD)); refine blk_put (cs := #[.int .i64 0, .int .i64 0]) ?_ 0 _ rfl; (with_reducible repeat (first | apply bA | apply bN | apply bD)); exact BK171.out) Try.underlying27 rfl (by kernel_rfl) (.cell gb172 23 #[.int .i64 (wrap64 (1 + (Int.tmod t174 5))), .int .i64 (Int.tmod t175 2)] (0, 0) _ rfl (by (with_reducible repeat (first | apply bA | apply bN | apply bD)); refine blk_put (cs := #[.int .i64 (wrap64 (1 + (Int.tmod t174 5))), .int .i64 0]) ?_ 1 _ rfl; (with_reducible repeat (first | apply bA | apply bN | apply bD)); refine blk_put (cs := #[.int .i64 0, .int .i64 0]) ?_ 0 _ rfl; (with_reducible repeat (first | apply bA | apply bN | apply bD)); refine blk_far ?_ NB172_171.out _; (with_reducible repeat (first | apply bA | apply bN | apply bD)); refine blk_far ?_ NB172_171.out _; (with_reducible repeat (first | apply bA | apply bN | apply bD)); exact BK172.out) Try.underlying23 rfl (by kernel_rfl) (.tmp .nil)))) rfl ?_
      exact ⟨_, by first | rfl | (simp <;> rfl) | (simp [*] <;> rfl), by (with_reducible repeat (first | apply Kd.S_alloc | apply Kd.S_drewN | apply Kd.S_drew)); exact Kd.S_mono (Kd.S_far (p := ⟨gb172, 1, none⟩) (Kd.S_far (p := ⟨gb172, 0, none⟩) (Kd.S_far (p := ⟨gb171, 1, none⟩) (Kd.S_far (p := ⟨gb171, 0, none⟩) (Kd.S_types (Kd.S_types HO_8.out BK171.out (by decide)) BK172.out (by decide)) (fun _ hk => hk.1.2) (.int .i64 2)) (fun _ hk => hk.1.2) (.int .i64 2)) (fun _ hk => hk.2) (.int .i64 (wrap64 (1 + (Int.tmod t174 5))))) (fun _ hk => hk.2) (.int .i64 (Int.tmod t175 2))) (fun _ hk => trivial), by repeat (first | (with_reducible first | exact HB.out | apply eA | apply eN | apply eD | refine eS ?_ GE170.out | refine eS ?_ GE171.out | refine eS ?_ GE172.out | refine eS ?_ GE173.out) | exact HB.out)⟩

end Go.Proofs.Ytkjjdpnpcjfgeaa.QAgg
