/- Pruned for this claim by a program. -/
import Derived.Test.YtkjjdpnpcjfgeaaOwX0
import Derived.Test.YtkjjdpnpcjfgeaaOwShort
import Derived.Test.YtkjjdpnpcjfgeaaOwHand1
import Derived.Test.YtkjjdpnpcjfgeaaOwX6
namespace Go.Proofs.Ytkjjdpnpcjfgeaa.QAgg
open Go.RowKit Go.Proofs.YtkjjdpnpcjfgeaaW.PrintWords Go.Proofs.YtkjjdpnpcjfgeaaW.PrintLast Go.Proofs.YtkjjdpnpcjfgeaaW.PrintMore Go.Proofs.Ytkjjdpnpcjfgeaa.Short
attribute [local go_sem] max2_int min2_int max_two min_two max_three min_three max_four min_four   -- for this text's walks alone
set_option linter.unusedVariables false
set_option linter.unusedSimpArgs false

def gristmillref06_Of.l0 : Nat → List (S39) → Bool → Int → Int → Int → Int → Int → List ByteArray → Option (Int × Int × List ByteArray)
 | 0, _, _, _, _, _, _, _, _ => none
 | k + 1, x1, x6, x7, x251000, x251001, x253000, x253001, x253002 => if x7 < (x1.length : Int) then (if 0 ≤ x7 then (if ((rd_T39 x1 x7).f1) = 0 then (gristmillref06_Of.l0 k x1 x6 (wrap64 (x7 + 1)) x251000 x251001 x253000 x253001 x253002) else (if x251000 = 2 then (if 0 ≤ x251001 then (if x251001 < (((rd_T39 x1 x7).f0.f2).length : Int) then (gristmillref06_Of.l0 k x1 false (wrap64 (x7 + 1)) x251000 x251001 (IntKind.u64.wrap (x253000 + ((rd_T39 x1 x7).f1))) (wrap64 (x253001 + (wrap64 ((rd ((rd_T39 x1 x7).f0.f2) x251001) * (wrap64 ((rd_T39 x1 x7).f1)))))) x253002) else (none)) else (none)) else (if x251000 = 3 then (if x6 = true then (if 0 ≤ x251001 then (if x251001 < (((rd_T39 x1 x7).f0.f2).length : Int) then (gristmillref06_Of.l0 k x1 false (wrap64 (x7 + 1)) x251000 x251001 (IntKind.u64.wrap (x253000 + ((rd_T39 x1 x7).f1))) (rd ((rd_T39 x1 x7).f0.f2) x251001) x253002) else (none)) else (none)) else (if 0 ≤ x251001 then (if x251001 < (((rd_T39 x1 x7).f0.f2).length : Int) then (if (rd ((rd_T39 x1 x7).f0.f2) x251001) < x253001 then (gristmillref06_Of.l0 k x1 false (wrap64 (x7 + 1)) x251000 x251001 (IntKind.u64.wrap (x253000 + ((rd_T39 x1 x7).f1))) (rd ((rd_T39 x1 x7).f0.f2) x251001) x253002) else (gristmillref06_Of.l0 k x1 false (wrap64 (x7 + 1)) x251000 x251001 (IntKind.u64.wrap (x253000 + ((rd_T39 x1 x7).f1))) x253001 x253002)) else (none)) else (none))) else (if x251000 = 4 then (if x6 = true then (if 0 ≤ x251001 then (if x251001 < (((rd_T39 x1 x7).f0.f2).length : Int) then (gristmillref06_Of.l0 k x1 false (wrap64 (x7 + 1)) x251000 x251001 (IntKind.u64.wrap (x253000 + ((rd_T39 x1 x7).f1))) (rd ((rd_T39 x1 x7).f0.f2) x251001) x253002) else (none)) else (none)) else (if 0 ≤ x251001 then (if x251001 < (((rd_T39 x1 x7).f0.f2).length : Int) then (if (rd ((rd_T39 x1 x7).f0.f2) x251001) > x253001 then (gristmillref06_Of.l0 k x1 false (wrap64 (x7 + 1)) x251000 x251001 (IntKind.u64.wrap (x253000 + ((rd_T39 x1 x7).f1))) (rd ((rd_T39 x1 x7).f0.f2) x251001) x253002) else (gristmillref06_Of.l0 k x1 false (wrap64 (x7 + 1)) x251000 x251001 (IntKind.u64.wrap (x253000 + ((rd_T39 x1 x7).f1))) x253001 x253002)) else (none)) else (none))) else (if x251000 = 5 then (if 0 ≤ x251001 then (if x251001 < (((rd_T39 x1 x7).f0.f1).length : Int) then ((gristmillref06_put.f k x253002 (rdOf ByteArray.empty ((rd_T39 x1 x7).f0.f1) x251001)).bind fun t272 => (gristmillref06_Of.l0 k x1 false (wrap64 (x7 + 1)) x251000 x251001 (IntKind.u64.wrap (x253000 + ((rd_T39 x1 x7).f1))) x253001 t272)) else (none)) else (none)) else (gristmillref06_Of.l0 k x1 false (wrap64 (x7 + 1)) x251000 x251001 (IntKind.u64.wrap (x253000 + ((rd_T39 x1 x7).f1))) x253001 x253002)))))) else (none)) else (some (x253000, x253001, x253002))
def gristmillref06_Of.f (k : Nat) (a0_0 : Int) (a0_1 : Int) (l1 : List (S39)) : Option (Int × Int × List ByteArray) := gristmillref06_Of.l0 k l1 true 0 a0_0 a0_1 0 0 ([] : List ByteArray)
def gristmillref06_Of.T7 : Bool × List (List Nat × List Nat) := (true, [([], []), ([0], [0]), ([], []), ([], []), ([2, 3], [2, 3]), ([4], [4]), ([5], [5]), ([1, 6], [1, 6]), ([0, 1, 2, 3, 4, 5, 6, 7], []), ([8, 7, 0, 1, 2, 3, 4, 5, 6, 7], [7, 8])])
def gristmillref06_Of.B7 : List Nat := [0, 1, 0, 0, 12, 28, 60, 127, 255, 511]
theorem gristmillref06_Of.tab7 : rtab .any (opsOf Try.f13 7) = gristmillref06_Of.T7 := by kernel_rfl
theorem gristmillref06_Of.bits7 : waitsOk gristmillref06_Of.T7.2 gristmillref06_Of.B7 = true := by kernel_rfl
def gristmillref06_Of.T10 : Bool × List (List Nat × List Nat) := (true, [([], []), ([0], [0]), ([], []), ([], []), ([2, 3], [2, 3]), ([4], [4]), ([5], [5]), ([6], [6]), ([], []), ([8], [8]), ([7, 9], [7, 9]), ([10], [10]), ([], []), ([], []), ([12, 13], [12, 13]), ([14], [14]), ([15], [15]), ([16], [16]), ([11, 17], [11, 17]), ([1, 18], [1, 18]), ([0, 1, 2, 3, 4, 5, 6, 7, 8, 9, 10, 11, 12, 13, 14, 15, 16, 17, 18, 19], []), ([20, 19, 0, 1, 2, 3, 4, 5, 6, 7, 8, 9, 10, 11, 12, 13, 14, 15, 16, 17, 18, 19], [19, 20])])
def gristmillref06_Of.B10 : List Nat := [0, 1, 0, 0, 12, 28, 60, 124, 0, 256, 1020, 2044, 0, 0, 12288, 28672, 61440, 126976, 262140, 524287, 1048575, 2097151]
theorem gristmillref06_Of.tab10 : rtab .any (opsOf Try.f13 10) = gristmillref06_Of.T10 := by kernel_rfl
theorem gristmillref06_Of.bits10 : waitsOk gristmillref06_Of.T10.2 gristmillref06_Of.B10 = true := by kernel_rfl
def gristmillref06_Of.T12 : Bool × List (List Nat × List Nat) := (true, [([], []), ([0], [0]), ([1], [1]), ([1], [1]), ([2, 3, 1], [1, 2, 3]), ([4, 1], [1, 4]), ([5, 1], [1, 5]), ([6, 1], [1, 6]), ([1], [1]), ([8, 1], [1, 8]), ([7, 9, 1], [1, 7, 9]), ([10, 1], [1, 10]), ([1], [1]), ([12, 1], [1, 12]), ([11, 13, 1], [1, 11, 13]), ([1, 14], [1, 14])])
def gristmillref06_Of.B12 : List Nat := [0, 1, 3, 3, 15, 31, 63, 127, 3, 259, 1023, 2047, 3, 4099, 16383, 32767]
theorem gristmillref06_Of.tab12 : rtab .any (opsOf Try.f13 12) = gristmillref06_Of.T12 := by kernel_rfl
theorem gristmillref06_Of.bits12 : waitsOk gristmillref06_Of.T12.2 gristmillref06_Of.B12 = true := by kernel_rfl
def gristmillref06_Of.T13 : Bool × List (List Nat × List Nat) := (true, [([], []), ([], []), ([0, 1], [0, 1]), ([2], [2]), ([3], [3]), ([4], [4]), ([], []), ([6], [6]), ([5, 7], [5, 7]), ([8], [8]), ([0, 1, 2, 3, 4, 5, 6, 7, 8, 9], []), ([10, 9, 0, 1, 2, 3, 4, 5, 6, 7, 8, 9], [9, 10])])
def gristmillref06_Of.B13 : List Nat := [0, 0, 3, 7, 15, 31, 0, 64, 255, 511, 1023, 2047]
theorem gristmillref06_Of.tab13 : rtab .any (opsOf Try.f13 13) = gristmillref06_Of.T13 := by kernel_rfl
theorem gristmillref06_Of.bits13 : waitsOk gristmillref06_Of.T13.2 gristmillref06_Of.B13 = true := by kernel_rfl
def gristmillref06_Of.T15 : Bool × List (List Nat × List Nat) := (true, [([], []), ([0], [0]), ([1], [1]), ([1], [1]), ([2, 3, 1], [1, 2, 3]), ([4, 1], [1, 4]), ([5, 1], [1, 5]), ([6, 1], [1, 6]), ([1], [1]), ([8, 1], [1, 8]), ([7, 9, 1], [1, 7, 9]), ([10, 1], [1, 10]), ([1], [1]), ([12, 1], [1, 12]), ([11, 13, 1], [1, 11, 13]), ([1, 14], [1, 14])])
def gristmillref06_Of.B15 : List Nat := [0, 1, 3, 3, 15, 31, 63, 127, 3, 259, 1023, 2047, 3, 4099, 16383, 32767]
theorem gristmillref06_Of.tab15 : rtab .any (opsOf Try.f13 15) = gristmillref06_Of.T15 := by kernel_rfl
theorem gristmillref06_Of.bits15 : waitsOk gristmillref06_Of.T15.2 gristmillref06_Of.B15 = true := by kernel_rfl
def gristmillref06_Of.T16 : Bool × List (List Nat × List Nat) := (true, [([], []), ([], []), ([0, 1], [0, 1]), ([2], [2]), ([3], [3]), ([4], [4]), ([], []), ([6], [6]), ([5, 7], [5, 7]), ([8], [8]), ([0, 1, 2, 3, 4, 5, 6, 7, 8, 9], []), ([10, 9, 0, 1, 2, 3, 4, 5, 6, 7, 8, 9], [9, 10])])
def gristmillref06_Of.B16 : List Nat := [0, 0, 3, 7, 15, 31, 0, 64, 255, 511, 1023, 2047]
theorem gristmillref06_Of.tab16 : rtab .any (opsOf Try.f13 16) = gristmillref06_Of.T16 := by kernel_rfl
theorem gristmillref06_Of.bits16 : waitsOk gristmillref06_Of.T16.2 gristmillref06_Of.B16 = true := by kernel_rfl
def gristmillref06_Of.T18 : Bool × List (List Nat × List Nat) := (true, [([], []), ([0], [0]), ([], []), ([], []), ([2, 3], [2, 3]), ([4], [4]), ([5], [5]), ([6], [6]), ([], []), ([8], [8]), ([7, 9], [7, 9]), ([10], [10]), ([1, 11], [1, 11]), ([0, 1, 2, 3, 4, 5, 6, 7, 8, 9, 10, 11, 12], []), ([13, 12, 12, 0, 1, 2, 3, 4, 5, 6, 7, 8, 9, 10, 11, 12], [12, 13])])
def gristmillref06_Of.B18 : List Nat := [0, 1, 0, 0, 12, 28, 60, 124, 0, 256, 1020, 2044, 4095, 8191, 16383]
theorem gristmillref06_Of.tab18 : rtab .any (opsOf Try.f13 18) = gristmillref06_Of.T18 := by kernel_rfl
theorem gristmillref06_Of.bits18 : waitsOk gristmillref06_Of.T18.2 gristmillref06_Of.B18 = true := by kernel_rfl
set_option maxHeartbeats 8000000 in
set_option maxRecDepth 100000 in
theorem gristmillref06_Of.calls (k : Nat) (a0_0 : Int) (a0_1 : Int) (A1 : Option Addr) (c1 : Nat) (l1 : List (S39)) (r1 : Int) (r2 : Int) (r3 : List ByteArray) (w : World) (hr1 : Kd.C k39 w A1 l1.length l1) (hc1 : l1.length ≤ c1) (h : gristmillref06_Of.f k a0_0 a0_1 l1 = some (r1, r2, r3)) :
  Calls Try.prog 13 #[.agg #[.int .i64 a0_0, .int .i64 a0_1], .slice A1 l1.length c1] w fun e w' => ∃ v2_ : Value, e = .returned (.agg #[.int .u64 r1, .int .i64 r2, v2_]) ∧ Kd.R Kd.string 9 w' w.heap.size (fun _ => True) v2_ r3 ∧ Below w.heap.size w w' := by
 have hu23 := Try.underlying23
 have hu33 := Try.underlying33
 have HR1 := aMk hr1
 have HC1 := aMk hc1
 clear hr1 hc1
 have HB := aMk (Below.refl w.heap.size w)
 have H : (gristmillref06_Of.l0 k l1 true 0 a0_0 a0_1 0 0 ([] : List ByteArray)) = some (r1, r2, r3) := h
 clear h
 have H' := aMk H
 clear H
 go_enter Try.func13, Try.ntmps13
 go_wp2_with (first | ((with_reducible refine gate_dst (N := 2) rfl ?_); refine box_event ?hg (N := 2) ?hd (cs := #[.int .i64 a0_0, .int .i64 a0_1]) (t := 23) ?hr ?_; (case hd => rfl); (case hg => rfl); (case hr => first | (go_simp; done) | (go_simp; rfl)); intro gb250 hg w3 hbox hb; have BK250 := aMk (hbox); have GW250 := aMk ((by rw [hg]; exact (below_size (by repeat (first | (with_reducible first | exact HB.out | apply eA | apply eN | apply eD) | exact HB.out))) : w.heap.size ≤ gb250)); have GE250 := aMk ((by rw [hg]; exact (below_size (by repeat (first | (with_reducible first | exact HB.out | apply eA | apply eN | apply eD) | exact HB.out))) : w.heap.size ≤ gb250)); replace HB := aMk (below_step (by repeat (first | (with_reducible first | exact HB.out | apply eA | apply eN | apply eD) | exact HB.out)) hb); clear hb hbox hg) | ((with_reducible refine gate_dst (N := 4) rfl ?_); refine box_event ?hg (N := 4) ?hd (cs := #[.int .u64 0, .int .i64 0, .slice none 0 0]) (t := 33) ?hr ?_; (case hd => rfl); (case hg => rfl); (case hr => first | (go_simp; done) | (go_simp; rfl)); intro gb251 hg w4 hbox hb; have BK251 := aMk (hbox); have GW251 := aMk ((by rw [hg]; exact (below_size (by repeat (first | (with_reducible first | exact HB.out | apply eA | apply eN | apply eD | refine eS ?_ GE250.out) | exact HB.out))) : w.heap.size ≤ gb251)); have GE251 := aMk ((by rw [hg]; exact (below_size (by repeat (first | (with_reducible first | exact HB.out | apply eA | apply eN | apply eD | refine eS ?_ GE250.out) | exact HB.out))) : w.heap.size ≤ gb251)); have NB250_251 := aMk ((by rw [hg]; exact Nat.ne_of_lt (blk_lt (g := gb250) (o := .cells #[.int .i64 a0_0, .int .i64 a0_1] 23 (0, 0)) (by (with_reducible repeat (first | apply bA | apply bN | apply bD)); exact BK250.out)) : gb250 ≠ gb251)); have NB251_250 := aMk ((by rw [hg]; exact Nat.ne_of_gt (blk_lt (g := gb250) (o := .cells #[.int .i64 a0_0, .int .i64 a0_1] 23 (0, 0)) (by (with_reducible repeat (first | apply bA | apply bN | apply bD)); exact BK250.out)) : gb251 ≠ gb250)); replace BK250 := aMk (blk_below (g := gb250) (o := .cells #[.int .i64 a0_0, .int .i64 a0_1] 23 (0, 0)) (by (with_reducible repeat (first | apply bA | apply bN | apply bD)); exact BK250.out) hb); replace HB := aMk (below_step (by repeat (first | (with_reducible first | exact HB.out | apply eA | apply eN | apply eD | refine eS ?_ GE250.out) | exact HB.out)) hb); clear hb hbox hg) | ((with_reducible refine gate_dst (N := 5) rfl ?_); refine box_event ?hg (N := 5) ?hd (cs := #[.int .u64 0, .int .i64 0, .slice none 0 0]) (t := 33) ?hr ?_; (case hd => rfl); (case hg => rfl); (case hr => first | (go_simp; done) | (go_simp; rfl)); intro gb252 hg w5 hbox hb; have BK252 := aMk (hbox); have GW252 := aMk ((by rw [hg]; exact (below_size (by repeat (first | (with_reducible first | exact HB.out | apply eA | apply eN | apply eD | refine eS ?_ GE250.out | refine eS ?_ GE251.out) | exact HB.out))) : w.heap.size ≤ gb252)); have GE252 := aMk ((by rw [hg]; exact (below_size (by repeat (first | (with_reducible first | exact HB.out | apply eA | apply eN | apply eD | refine eS ?_ GE250.out | refine eS ?_ GE251.out) | exact HB.out))) : w.heap.size ≤ gb252)); have NB250_252 := aMk ((by rw [hg]; exact Nat.ne_of_lt (blk_lt (g := gb250) (o := .cells #[.int .i64 a0_0, .int .i64 a0_1] 23 (0, 0)) (by (with_reducible repeat (first | apply bA | apply bN | apply bD)); exact BK250.out)) : gb250 ≠ gb252)); have NB252_250 := aMk ((by rw [hg]; exact Nat.ne_of_gt (blk_lt (g := gb250) (o := .cells #[.int .i64 a0_0, .int .i64 a0_1] 23 (0, 0)) (by (with_reducible repeat (first | apply bA | apply bN | apply bD)); exact BK250.out)) : gb252 ≠ gb250)); have NB251_252 := aMk ((by rw [hg]; exact Nat.ne_of_lt (blk_lt (g := gb251) (o := .cells #[.int .u64 0, .int .i64 0, .slice none 0 0] 33 (0, 0)) (by (with_reducible repeat (first | apply bA | apply bN | apply bD)); exact BK251.out)) : gb251 ≠ gb252)); have NB252_251 := aMk ((by rw [hg]; exact Nat.ne_of_gt (blk_lt (g := gb251) (o := .cells #[.int .u64 0, .int .i64 0, .slice none 0 0] 33 (0, 0)) (by (with_reducible repeat (first | apply bA | apply bN | apply bD)); exact BK251.out)) : gb252 ≠ gb251)); replace BK250 := aMk (blk_below (g := gb250) (o := .cells #[.int .i64 a0_0, .int .i64 a0_1] 23 (0, 0)) (by (with_reducible repeat (first | apply bA | apply bN | apply bD)); exact BK250.out) hb); replace BK251 := aMk (blk_below (g := gb251) (o := .cells #[.int .u64 0, .int .i64 0, .slice none 0 0] 33 (0, 0)) (by (with_reducible repeat (first | apply bA | apply bN | apply bD)); exact BK251.out) hb); replace HB := aMk (below_step (by repeat (first | (with_reducible first | exact HB.out | apply eA | apply eN | apply eD | refine eS ?_ GE250.out | refine eS ?_ GE251.out) | exact HB.out)) hb); clear hb hbox hg))
 go_loopg [6, 7] k (fun kq v6 v7 w' => ∃ (x6_1 : Bool) (x7_1 : Int) (x253000_1 : Int) (x253001_1 : Int) (x253002_1 : List ByteArray) (u253002 : Value), v6 = .bool x6_1 ∧ v7 = .int .i64 x7_1 ∧ Aside0 (gristmillref06_Of.l0 kq l1 x6_1 x7_1 a0_0 a0_1 x253000_1 x253001_1 x253002_1 = some (r1, r2, r3)) ∧ Aside0 (kq ≤ k) ∧ Aside0 (Kd.R Kd.string 9 w' w.heap.size (fun _ => True) u253002 x253002_1) ∧ Aside0 (w'.heap[gb250]? = some (.cells #[.int .i64 a0_0, .int .i64 a0_1] 23 (0, 0))) ∧ Aside0 (w'.heap[gb251]? = some (.cells #[.int .u64 0, .int .i64 0, (.slice none 0 0)] 33 (0, 0))) ∧ Aside0 (w'.heap[gb252]? = some (.cells #[.int .u64 x253000_1, .int .i64 x253001_1, u253002] 33 (0, 0))) ∧ Aside0 (Below w.heap.size w w'))
 case atStart => exact ⟨(true), (0), (0), (0), (([] : List ByteArray)), (.slice none 0 0), (by first | rfl | (simp; done) | (simp [*]; done)), (by first | rfl | (simp; done) | (simp [*]; done)), H', ⟨Nat.le_refl _⟩, ⟨by first | exact Kd.R_nil _ _ _ _ _ | exact Kd.N_nil _ _ _ _ _ | exact Kd.V_nil _ _ _ _ _ | exact Kd.Q_nil _ _ _ _ _ | exact Kd.S_nil _ _ _ _ _⟩, ⟨by (with_reducible repeat (first | apply bA | apply bN | apply bD)); exact BK250.out⟩, ⟨by (with_reducible repeat (first | apply bA | apply bN | apply bD)); exact BK251.out⟩, ⟨by (with_reducible repeat (first | apply bA | apply bN | apply bD)); exact BK252.out⟩, ⟨by repeat (first | (with_reducible first | exact HB.out | apply eA | apply eN | apply eD | refine eS ?_ GE250.out | refine eS ?_ GE251.out | refine eS ?_ GE252.out) | exact HB.out)⟩⟩
 case round =>
  clear H'
  try clear c1
  try clear p2
  obtain ⟨x6_1, x7_1, x253000_1, x253001_1, x253002_1, u253002, rfl, rfl, HA, HK1, HO_253002, BK250, BK251, BK252, HB⟩ := hrel
  cases gk with
  | zero => exact absurd HA.out (by simp [gristmillref06_Of.l0])
  | succ k1 =>
   have H := HA.out
   clear HA
   simp only [gristmillref06_Of.l0] at H
   by_cases c6 : x7_1 < (l1.length : Int)
   ·rw [if_pos c6] at H
    have c6b0 : decide (x7_1 < (l1.length : Int)) = true := decide_eq_true c6
    clear c6
    by_cases c7 : 0 ≤ x7_1
    ·rw [if_pos c7] at H
     have c7b0 : decide (0 ≤ x7_1) = true := decide_eq_true c7
     clear c7
     by_cases c8 : ((rd_T39 l1 x7_1).f1) = 0
     ·rw [if_pos c8] at H
      have c8b0 : (((rd_T39 l1 x7_1).f1) == 0) = true := beq_iff_eq.mpr c8
      have c8b1 : (((rd_T39 l1 x7_1).f1) != 0) = false := bne_eq_false_iff_eq.mpr c8
      clear c8
      have H' := aMk H
      clear H
      have p253 : 0 ≤ (x7_1 : Int) := of_decide_eq_true (by first | (with_reducible assumption) | assumption)
      have q253 : x7_1 < (l1.length : Int) := of_decide_eq_true (by first | (with_reducible assumption) | assumption)
      obtain ⟨ad253, A253_1, c253_1, A253_2, c253_2, e253, hx253_0, hx253_1, hx253_2, hx253_3, hl253_1, hi253_1, hl253_2, hi253_2⟩ := at_T39 HR1.out x7_1 p253 q253
      cases e253
      replace hx253_0 := (HB.out.cell (World.block_lt_of_cell? w _ hx253_0)).trans hx253_0
      replace hx253_1 := (HB.out.cell (World.block_lt_of_cell? w _ hx253_1)).trans hx253_1
      replace hx253_2 := (HB.out.cell (World.block_lt_of_cell? w _ hx253_2)).trans hx253_2
      replace hx253_3 := (HB.out.cell (World.block_lt_of_cell? w _ hx253_3)).trans hx253_3
      have HR253_1 := aMk hi253_1
      have HC253_1 := aMk hl253_1
      clear hi253_1 hl253_1
      have HR253_2 := aMk hi253_2
      have HC253_2 := aMk hl253_2
      clear hi253_2 hl253_2
      replace p253 := eq_true p253
      replace q253 := eq_true q253
      go_wp2
      go_roundg k1
      case measure => have := HK1.out; omega
      case rel => exact ⟨(x6_1), (wrap64 (x7_1 + 1)), (x253000_1), (x253001_1), (x253002_1), (u253002), (by first | rfl | (simp; done) | (simp [*]; done)), (by first | rfl | (simp; done) | (simp [*]; done)), H', ⟨by have := HK1.out; omega⟩, ⟨by (with_reducible repeat (first | apply rA | apply rN | apply rD)); exact HO_253002.out⟩, ⟨by (with_reducible repeat (first | apply bA | apply bN | apply bD)); exact BK250.out⟩, ⟨by (with_reducible repeat (first | apply bA | apply bN | apply bD)); exact BK251.out⟩, ⟨by (with_reducible repeat (first | apply bA | apply bN | apply bD)); exact BK252.out⟩, ⟨by repeat (first | (with_reducible first | exact HB.out | apply eA | apply eN | apply eD | refine eS ?_ GE250.out | refine eS ?_ GE251.out | refine eS ?_ GE252.out) | exact HB.out)⟩⟩
     ·rw [if_neg c8] at H
      have c8b0 : (((rd_T39 l1 x7_1).f1) == 0) = false := beq_eq_false_iff_ne.mpr c8
      have c8b1 : (((rd_T39 l1 x7_1).f1) != 0) = true := bne_iff_ne.mpr c8
      by_cases c9 : a0_0 = 2
      ·rw [if_pos c9] at H
       have c9b0 : (a0_0 == 2) = true := beq_iff_eq.mpr c9
       have c9b1 : (a0_0 != 2) = false := bne_eq_false_iff_eq.mpr c9
       clear c9
       by_cases c10 : 0 ≤ a0_1
       ·rw [if_pos c10] at H
        have c10b0 : decide (0 ≤ a0_1) = true := decide_eq_true c10
        clear c10
        by_cases c11 : a0_1 < (((rd_T39 l1 x7_1).f0.f2).length : Int)
        ·rw [if_pos c11] at H
         have c11b0 : decide (a0_1 < (((rd_T39 l1 x7_1).f0.f2).length : Int)) = true := decide_eq_true c11
         clear c11
         have H' := aMk H
         clear H
         have p253 : 0 ≤ (x7_1 : Int) := of_decide_eq_true (by first | (with_reducible assumption) | assumption)
         have q253 : x7_1 < (l1.length : Int) := of_decide_eq_true (by first | (with_reducible assumption) | assumption)
         obtain ⟨ad253, A253_1, c253_1, A253_2, c253_2, e253, hx253_0, hx253_1, hx253_2, hx253_3, hl253_1, hi253_1, hl253_2, hi253_2⟩ := at_T39 HR1.out x7_1 p253 q253
         cases e253
         replace hx253_0 := (HB.out.cell (World.block_lt_of_cell? w _ hx253_0)).trans hx253_0
         replace hx253_1 := (HB.out.cell (World.block_lt_of_cell? w _ hx253_1)).trans hx253_1
         replace hx253_2 := (HB.out.cell (World.block_lt_of_cell? w _ hx253_2)).trans hx253_2
         replace hx253_3 := (HB.out.cell (World.block_lt_of_cell? w _ hx253_3)).trans hx253_3
         have HR253_1 := aMk hi253_1
         have HC253_1 := aMk hl253_1
         clear hi253_1 hl253_1
         have HR253_2 := aMk hi253_2
         have HC253_2 := aMk hl253_2
         clear hi253_2 hl253_2
         replace p253 := eq_true p253
         replace q253 := eq_true q253
         try go_wp2
         replace HO_253002 := aMk (rD HO_253002.out)
         replace BK250 := aMk (bD BK250.out)
         replace BK251 := aMk (bD BK251.out)
         replace BK252 := aMk (bD BK252.out)
         replace HB := aMk (eD HB.out)
         have p254 : 0 ≤ (x7_1 : Int) := of_decide_eq_true (by first | (with_reducible assumption) | assumption)
         have q254 : x7_1 < (l1.length : Int) := of_decide_eq_true (by first | (with_reducible assumption) | assumption)
         obtain ⟨ad254, A254_1, c254_1, A254_2, c254_2, e254, hx254_0, hx254_1, hx254_2, hx254_3, hl254_1, hi254_1, hl254_2, hi254_2⟩ := at_T39 HR1.out x7_1 p254 q254
         have hw254_3 := hx254_3
         have hw254_2 := hx254_2
         have hw254_1 := hx254_1
         have hw254_0 := hx254_0
         obtain rfl : ad253 = ad254 := (by injection e254)
         replace hx254_0 := (HB.out.cell (World.block_lt_of_cell? w _ hx254_0)).trans hx254_0
         replace hx254_1 := (HB.out.cell (World.block_lt_of_cell? w _ hx254_1)).trans hx254_1
         replace hx254_2 := (HB.out.cell (World.block_lt_of_cell? w _ hx254_2)).trans hx254_2
         replace hx254_3 := (HB.out.cell (World.block_lt_of_cell? w _ hx254_3)).trans hx254_3
         have HR254_1 := aMk hi254_1
         have HC254_1 := aMk hl254_1
         clear hi254_1 hl254_1
         have HR254_2 := aMk hi254_2
         have HC254_2 := aMk hl254_2
         clear hi254_2 hl254_2
         replace p254 := eq_true p254
         replace q254 := eq_true q254
         refine start_ (n := 10) (S := fun w' => w'.cell? ⟨gb252, 0, none⟩ = some (.int .u64 x253000_1) ∧ w'.cell? ⟨gb252, 1, none⟩ = some (.int .i64 x253001_1) ∧ w'.cell? ⟨gb252, 2, none⟩ = some (u253002) ∧ w'.cell? (ad253.add ((x7_1).toNat * 4)) = some (.int .i64 ((rd_T39 l1 x7_1).f0.f0)) ∧ w'.cell? ⟨(ad253.add ((x7_1).toNat * 4)).block, (ad253.add ((x7_1).toNat * 4)).off + 1, none⟩ = some (.slice A254_1 ((rd_T39 l1 x7_1).f0.f1).length c254_1) ∧ w'.cell? ⟨(ad253.add ((x7_1).toNat * 4)).block, (ad253.add ((x7_1).toNat * 4)).off + 2, none⟩ = some (.slice A254_2 ((rd_T39 l1 x7_1).f0.f2).length c254_2) ∧ w'.cell? ⟨(ad253.add ((x7_1).toNat * 4)).block, (ad253.add ((x7_1).toNat * 4)).off + 3, none⟩ = some (.int .u64 ((rd_T39 l1 x7_1).f1))) (ds := [9]) #[false, false, false, false, false, false, false, false, false, false] (by kernel_rfl) rfl rfl ⟨(blk_cell BK252.out 0).trans rfl, (blk_cell BK252.out 1).trans rfl, (blk_cell BK252.out 2).trans rfl, ((HB.out.cell (World.block_lt_of_cell? w _ hw254_0)).trans hw254_0), ((HB.out.cell (World.block_lt_of_cell? w _ hw254_1)).trans hw254_1), ((HB.out.cell (World.block_lt_of_cell? w _ hw254_2)).trans hw254_2), ((HB.out.cell (World.block_lt_of_cell? w _ hw254_3)).trans hw254_3)⟩ (fun hHeld => ?_); refine with_tabW gristmillref06_Of.tab7 gristmillref06_Of.bits7 (fun HT_ HW_ => ?_)
         generalize wr.drew = w12 at HO_253002 BK250 BK251 BK252 HB HR254_1 HR254_2 hx254_0 hx254_1 hx254_2 hx254_3 hHeld ⊢
         refine pure_ (i := 0) (N := some 20) (v := ?_) (a' := ?_) #[true, false, false, false, false, false, false, false, false, false] rfl rfl (any_of HT_.out (by kernel_rfl)) (fun _ _ _ h => h) (Or.inl ⟨by rfl, ?_⟩) ?_ ?_
         rotate_left
         ·intro w'
          go_simp
          with_reducible rfl
         rotate_left
         ·simp only [Act.put, sA, sB, sC, i64_w, i32_w]
          rfl
         refine pure_ (i := 2) (N := some 22) (v := ?_) (a' := ?_) #[true, false, true, false, false, false, false, false, false, false] rfl rfl (any_of HT_.out (by kernel_rfl)) (fun _ _ _ h => h) (Or.inl ⟨by rfl, ?_⟩) ?_ ?_
         rotate_left
         ·intro w'
          go_simp
          with_reducible rfl
         rotate_left
         ·simp only [Act.put, sA, sB, sC, i64_w, i32_w]
          rfl
         refine pure_ (i := 3) (N := some 23) (v := ?_) (a' := ?_) #[true, false, true, true, false, false, false, false, false, false] rfl rfl (any_of HT_.out (by kernel_rfl)) (fun _ _ _ h => h) (Or.inl ⟨by rfl, ?_⟩) ?_ ?_
         rotate_left
         ·intro w'
          go_simp
          with_reducible rfl
         rotate_left
         ·simp only [Act.put, sA, sB, sC, i64_w, i32_w]
          rfl
         refine pure_ (i := 4) (N := some 24) (v := ?_) (a' := ?_) #[true, false, true, true, true, false, false, false, false, false] rfl rfl (any_of HT_.out (by kernel_rfl)) (fun _ _ _ h => h) (Or.inl ⟨by rfl, ?_⟩) ?_ ?_
         rotate_left
         ·intro w'
          go_simp
          with_reducible rfl
         rotate_left
         ·simp only [Act.put, sA, sB, sC, i64_w, i32_w]
          rfl
         refine pure_ (i := 5) (N := some 25) (v := ?_) (a' := ?_) #[true, false, true, true, true, true, false, false, false, false] rfl rfl (any_of HT_.out (by kernel_rfl)) (fun _ _ _ h => h) (Or.inl ⟨by rfl, ?_⟩) ?_ ?_
         rotate_left
         ·intro w'
          go_simp
          with_reducible rfl
         rotate_left
         ·simp only [Act.put, sA, sB, sC, i64_w, i32_w]
          rfl
         refine take_ (i := 1) (N := some 21) (v := ?_) (a' := ?_) #[true, true, true, true, true, true, false, false, false, false] rfl rfl (take_ofW HT_.out HW_.out (by kernel_rfl)) (fun _ _ _ h => h) (Or.inl ⟨by rfl, ?_⟩) hHeld ?_ ?_
         rotate_left
         ·rintro w' ⟨s0, s1, s2, s3, s4, s5, s6⟩
          go_simp
          with_reducible rfl
         rotate_left
         ·simp only [Act.put, sA, sB, sC, i64_w, i32_w]
          rfl
         refine take_ (i := 6) (N := some 26) (v := ?_) (a' := ?_) #[true, true, true, true, true, true, true, false, false, false] rfl rfl (take_ofW HT_.out HW_.out (by kernel_rfl)) (fun _ _ _ h => h) (Or.inl ⟨by rfl, ?_⟩) hHeld ?_ ?_
         rotate_left
         ·rintro w' ⟨s0, s1, s2, s3, s4, s5, s6⟩
          go_simp
          with_reducible rfl
         rotate_left
         ·simp only [Act.put, sA, sB, sC, i64_w, i32_w]
          rfl
         refine pure_ (i := 7) (N := some 27) (v := ?_) (a' := ?_) #[true, true, true, true, true, true, true, true, false, false] rfl rfl (any_of HT_.out (by kernel_rfl)) (fun _ _ _ h => h) (Or.inl ⟨by rfl, ?_⟩) ?_ ?_
         rotate_left
         ·intro w'
          go_simp
          with_reducible rfl
         rotate_left
         ·simp only [Act.put, sA, sB, sC, i64_w, i32_w]
          rfl
         refine pure_ (i := 8) (N := some 28) (v := ?_) (a' := ?_) #[true, true, true, true, true, true, true, true, true, false] rfl rfl (any_of HT_.out (by kernel_rfl)) (fun _ _ _ h => h) (Or.inl ⟨by rfl, ?_⟩) ?_ ?_
         rotate_left
         ·intro w'
          go_simp
          with_reducible rfl
         rotate_left
         ·simp only [Act.put, sA, sB, sC, i64_w, i32_w]
          rfl
         refine last_ (i := 9) (N := none) #[true, true, true, true, true, true, true, true, true, true] rfl rfl (one_of HT_.out (by kernel_rfl)) (by decide) (fun K hK => ?_)
         have hs13 : w12.cell? ⟨gb252, 0, none⟩ = some (.int .u64 x253000_1) := (blk_cell BK252.out 0).trans rfl
         have hfs13 := blk_frozen BK252.out 0
         have hns13_0 := NB250_252.out
         have hns13_1 := NB251_252.out
         have hms13_0 := NB252_250.out
         have hms13_1 := NB252_251.out
         refine skip_ (w1 := ?_) (by rfl) rfl ?_ ?_
         rotate_left
         ·go_simp
          rfl
         refine hK.out _ _ ?_
         clear hK K
         refine done_ (done_of HT_.out (by kernel_rfl)) ?_
         have hnb14 := NB250_251.out
         have hnc14 := NB251_250.out
         have hnb15 := NB250_252.out
         have hnc15 := NB252_250.out
         have hcz16_0 : w12.cell? ⟨gb250, 0, none⟩ = some (.int .i64 a0_0) := (blk_cell BK250.out 0).trans rfl
         have hcz16_1 : w12.cell? ⟨gb250, 1, none⟩ = some (.int .i64 a0_1) := (blk_cell BK250.out 1).trans rfl
         have hfz16_0 := blk_frozen BK250.out 0
         have hfz16_1 := blk_frozen BK250.out 1
         try go_wp2
         have n0_ : Aside0 (Kd.R Kd.string 9 (w12.setCell ⟨gb252, 0, none⟩ (.int .u64 (IntKind.u64.wrap (x253000_1 + ((rd_T39 l1 x7_1).f1))))) w.heap.size (fun _ => True) u253002 x253002_1) := ⟨by (with_reducible repeat (first | apply rA | apply rN | apply rD)); exact Kd.R_mono (Kd.R_far (p := ⟨gb252, 0, none⟩) (Kd.R_types HO_253002.out BK252.out (by decide)) (fun _ hk => hk.2) (.int .u64 (IntKind.u64.wrap (x253000_1 + ((rd_T39 l1 x7_1).f1))))) (fun _ hk => trivial)⟩
         have n1_ : Aside0 ((w12.setCell ⟨gb252, 0, none⟩ (.int .u64 (IntKind.u64.wrap (x253000_1 + ((rd_T39 l1 x7_1).f1))))).heap[gb250]? = some (.cells #[.int .i64 a0_0, .int .i64 a0_1] 23 (0, 0))) := ⟨by (with_reducible repeat (first | apply bA | apply bN | apply bD)); refine blk_far ?_ NB250_252.out _; (with_reducible repeat (first | apply bA | apply bN | apply bD)); exact BK250.out⟩
         have n2_ : Aside0 ((w12.setCell ⟨gb252, 0, none⟩ (.int .u64 (IntKind.u64.wrap (x253000_1 + ((rd_T39 l1 x7_1).f1))))).heap[gb251]? = some (.cells #[.int .u64 0, .int .i64 0, .slice none 0 0] 33 (0, 0))) := ⟨by (with_reducible repeat (first | apply bA | apply bN | apply bD)); refine blk_far ?_ NB251_252.out _; (with_reducible repeat (first | apply bA | apply bN | apply bD)); exact BK251.out⟩
         have n3_ : Aside0 ((w12.setCell ⟨gb252, 0, none⟩ (.int .u64 (IntKind.u64.wrap (x253000_1 + ((rd_T39 l1 x7_1).f1))))).heap[gb252]? = some (.cells #[.int .u64 (IntKind.u64.wrap (x253000_1 + ((rd_T39 l1 x7_1).f1))), .int .i64 x253001_1, u253002] 33 (0, 0))) := ⟨by (with_reducible repeat (first | apply bA | apply bN | apply bD)); refine blk_put (cs := #[.int .u64 x253000_1, .int .i64 x253001_1, u253002]) ?_ 0 _ rfl; (with_reducible repeat (first | apply bA | apply bN | apply bD)); exact BK252.out⟩
         have n4_ : Aside0 (Below w.heap.size w (w12.setCell ⟨gb252, 0, none⟩ (.int .u64 (IntKind.u64.wrap (x253000_1 + ((rd_T39 l1 x7_1).f1)))))) := ⟨by repeat (first | (with_reducible first | exact HB.out | apply eA | apply eN | apply eD | refine eS ?_ GE250.out | refine eS ?_ GE251.out | refine eS ?_ GE252.out) | exact HB.out)⟩
         (try clear HO_253002)
         (try clear BK250)
         (try clear BK251)
         (try clear BK252)
         (try clear HB)
         generalize (w12.setCell ⟨gb252, 0, none⟩ (.int .u64 (IntKind.u64.wrap (x253000_1 + ((rd_T39 l1 x7_1).f1))))) = w17 at n0_ n1_ n2_ n3_ n4_ ⊢
         have HO_253002 := n0_
         have BK250 := n1_
         have BK251 := n2_
         have BK252 := n3_
         have HB := n4_
         clear n0_ n1_ n2_ n3_ n4_
         replace HO_253002 := aMk (rD HO_253002.out)
         replace BK250 := aMk (bD BK250.out)
         replace BK251 := aMk (bD BK251.out)
         replace BK252 := aMk (bD BK252.out)
         replace HB := aMk (eD HB.out)
         have p255 : 0 ≤ (x7_1 : Int) := of_decide_eq_true (by first | (with_reducible assumption) | assumption)
         have q255 : x7_1 < (l1.length : Int) := of_decide_eq_true (by first | (with_reducible assumption) | assumption)
         obtain ⟨ad255, A255_1, c255_1, A255_2, c255_2, e255, hx255_0, hx255_1, hx255_2, hx255_3, hl255_1, hi255_1, hl255_2, hi255_2⟩ := at_T39 HR1.out x7_1 p255 q255
         have hw255_3 := hx255_3
         have hw255_2 := hx255_2
         have hw255_1 := hx255_1
         have hw255_0 := hx255_0
         obtain rfl : ad253 = ad255 := (by injection e255)
         replace hx255_0 := (HB.out.cell (World.block_lt_of_cell? w _ hx255_0)).trans hx255_0
         replace hx255_1 := (HB.out.cell (World.block_lt_of_cell? w _ hx255_1)).trans hx255_1
         replace hx255_2 := (HB.out.cell (World.block_lt_of_cell? w _ hx255_2)).trans hx255_2
         replace hx255_3 := (HB.out.cell (World.block_lt_of_cell? w _ hx255_3)).trans hx255_3
         have HR255_1 := aMk hi255_1
         have HC255_1 := aMk hl255_1
         clear hi255_1 hl255_1
         have HR255_2 := aMk hi255_2
         have HC255_2 := aMk hl255_2
         clear hi255_2 hl255_2
         replace p255 := eq_true p255
         replace q255 := eq_true q255
         have p256 : 0 ≤ (a0_1 : Int) := of_decide_eq_true (by first | (with_reducible assumption) | assumption)
         have q256 : a0_1 < (((rd_T39 l1 x7_1).f0.f2).length : Int) := of_decide_eq_true (by first | (with_reducible assumption) | assumption)
         obtain ⟨ad256, e256, hx256_0⟩ := Kd.at_int HR255_2.out a0_1 p256 q256
         have hw256_0 := hx256_0
         cases e256
         replace hx256_0 := (HB.out.cell (World.block_lt_of_cell? w _ hx256_0)).trans hx256_0
         replace p256 := eq_true p256
         replace q256 := eq_true q256
         have p257 : 0 ≤ (x7_1 : Int) := of_decide_eq_true (by first | (with_reducible assumption) | assumption)
         have q257 : x7_1 < (l1.length : Int) := of_decide_eq_true (by first | (with_reducible assumption) | assumption)
         obtain ⟨ad257, A257_1, c257_1, A257_2, c257_2, e257, hx257_0, hx257_1, hx257_2, hx257_3, hl257_1, hi257_1, hl257_2, hi257_2⟩ := at_T39 HR1.out x7_1 p257 q257
         have hw257_3 := hx257_3
         have hw257_2 := hx257_2
         have hw257_1 := hx257_1
         have hw257_0 := hx257_0
         obtain rfl : ad253 = ad257 := (by injection e257)
         replace hx257_0 := (HB.out.cell (World.block_lt_of_cell? w _ hx257_0)).trans hx257_0
         replace hx257_1 := (HB.out.cell (World.block_lt_of_cell? w _ hx257_1)).trans hx257_1
         replace hx257_2 := (HB.out.cell (World.block_lt_of_cell? w _ hx257_2)).trans hx257_2
         replace hx257_3 := (HB.out.cell (World.block_lt_of_cell? w _ hx257_3)).trans hx257_3
         have HR257_1 := aMk hi257_1
         have HC257_1 := aMk hl257_1
         clear hi257_1 hl257_1
         have HR257_2 := aMk hi257_2
         have HC257_2 := aMk hl257_2
         clear hi257_2 hl257_2
         replace p257 := eq_true p257
         replace q257 := eq_true q257
         have ea_ := Option.some.inj (hx255_1.symm.trans hx257_1)
         injection ea_ with ea_ en_ ec_
         subst ea_
         subst ec_
         clear en_
         have ea_ := Option.some.inj (hx255_2.symm.trans hx257_2)
         injection ea_ with ea_ en_ ec_
         subst ea_
         subst ec_
         clear en_
         refine start_ (n := 22) (S := fun w' => w'.cell? ⟨gb252, 0, none⟩ = some (.int .u64 (IntKind.u64.wrap (x253000_1 + ((rd_T39 l1 x7_1).f1)))) ∧ w'.cell? ⟨gb252, 1, none⟩ = some (.int .i64 x253001_1) ∧ w'.cell? ⟨gb252, 2, none⟩ = some (u253002) ∧ w'.cell? ⟨gb250, 0, none⟩ = some (.int .i64 a0_0) ∧ w'.cell? ⟨gb250, 1, none⟩ = some (.int .i64 a0_1) ∧ w'.cell? (ad253.add ((x7_1).toNat * 4)) = some (.int .i64 ((rd_T39 l1 x7_1).f0.f0)) ∧ w'.cell? ⟨(ad253.add ((x7_1).toNat * 4)).block, (ad253.add ((x7_1).toNat * 4)).off + 1, none⟩ = some (.slice A255_1 ((rd_T39 l1 x7_1).f0.f1).length c255_1) ∧ w'.cell? ⟨(ad253.add ((x7_1).toNat * 4)).block, (ad253.add ((x7_1).toNat * 4)).off + 2, none⟩ = some (.slice (some ad256) ((rd_T39 l1 x7_1).f0.f2).length c255_2) ∧ w'.cell? ⟨(ad253.add ((x7_1).toNat * 4)).block, (ad253.add ((x7_1).toNat * 4)).off + 3, none⟩ = some (.int .u64 ((rd_T39 l1 x7_1).f1)) ∧ w'.cell? (ad256.add (a0_1).toNat) = some (.int .i64 (rd ((rd_T39 l1 x7_1).f0.f2) a0_1)) ∧ w'.cell? (ad253.add ((x7_1).toNat * 4)) = some (.int .i64 ((rd_T39 l1 x7_1).f0.f0)) ∧ w'.cell? ⟨(ad253.add ((x7_1).toNat * 4)).block, (ad253.add ((x7_1).toNat * 4)).off + 1, none⟩ = some (.slice A255_1 ((rd_T39 l1 x7_1).f0.f1).length c255_1) ∧ w'.cell? ⟨(ad253.add ((x7_1).toNat * 4)).block, (ad253.add ((x7_1).toNat * 4)).off + 2, none⟩ = some (.slice (some ad256) ((rd_T39 l1 x7_1).f0.f2).length c255_2) ∧ w'.cell? ⟨(ad253.add ((x7_1).toNat * 4)).block, (ad253.add ((x7_1).toNat * 4)).off + 3, none⟩ = some (.int .u64 ((rd_T39 l1 x7_1).f1))) (ds := [21]) #[false, false, false, false, false, false, false, false, false, false, false, false, false, false, false, false, false, false, false, false, false, false] (by kernel_rfl) rfl rfl ⟨(blk_cell BK252.out 0).trans rfl, (blk_cell BK252.out 1).trans rfl, (blk_cell BK252.out 2).trans rfl, (blk_cell BK250.out 0).trans rfl, (blk_cell BK250.out 1).trans rfl, ((HB.out.cell (World.block_lt_of_cell? w _ hw255_0)).trans hw255_0), ((HB.out.cell (World.block_lt_of_cell? w _ hw255_1)).trans hw255_1), ((HB.out.cell (World.block_lt_of_cell? w _ hw255_2)).trans hw255_2), ((HB.out.cell (World.block_lt_of_cell? w _ hw255_3)).trans hw255_3), ((HB.out.cell (World.block_lt_of_cell? w _ hw256_0)).trans hw256_0), ((HB.out.cell (World.block_lt_of_cell? w _ hw257_0)).trans hw257_0), ((HB.out.cell (World.block_lt_of_cell? w _ hw257_1)).trans hw257_1), ((HB.out.cell (World.block_lt_of_cell? w _ hw257_2)).trans hw257_2), ((HB.out.cell (World.block_lt_of_cell? w _ hw257_3)).trans hw257_3)⟩ (fun hHeld => ?_); refine with_tabW gristmillref06_Of.tab10 gristmillref06_Of.bits10 (fun HT_ HW_ => ?_)
         generalize w17.drew = w18 at HO_253002 BK250 BK251 BK252 HB HR255_1 HR255_2 HR257_1 HR257_2 hx255_0 hx255_1 hx255_2 hx255_3 hx256_0 hx257_0 hx257_1 hx257_2 hx257_3 hHeld ⊢
         refine pure_ (i := 0) (N := some 33) (v := ?_) (a' := ?_) #[true, false, false, false, false, false, false, false, false, false, false, false, false, false, false, false, false, false, false, false, false, false] rfl rfl (any_of HT_.out (by kernel_rfl)) (fun _ _ _ h => h) (Or.inl ⟨by rfl, ?_⟩) ?_ ?_
         rotate_left
         ·intro w'
          go_simp
          with_reducible rfl
         rotate_left
         ·simp only [Act.put, sA, sB, sC, i64_w, i32_w]
          rfl
         refine pure_ (i := 2) (N := some 35) (v := ?_) (a' := ?_) #[true, false, true, false, false, false, false, false, false, false, false, false, false, false, false, false, false, false, false, false, false, false] rfl rfl (any_of HT_.out (by kernel_rfl)) (fun _ _ _ h => h) (Or.inl ⟨by rfl, ?_⟩) ?_ ?_
         rotate_left
         ·intro w'
          go_simp
          with_reducible rfl
         rotate_left
         ·simp only [Act.put, sA, sB, sC, i64_w, i32_w]
          rfl
         refine pure_ (i := 3) (N := some 36) (v := ?_) (a' := ?_) #[true, false, true, true, false, false, false, false, false, false, false, false, false, false, false, false, false, false, false, false, false, false] rfl rfl (any_of HT_.out (by kernel_rfl)) (fun _ _ _ h => h) (Or.inl ⟨by rfl, ?_⟩) ?_ ?_
         rotate_left
         ·intro w'
          go_simp
          with_reducible rfl
         rotate_left
         ·simp only [Act.put, sA, sB, sC, i64_w, i32_w]
          rfl
         refine pure_ (i := 4) (N := some 37) (v := ?_) (a' := ?_) #[true, false, true, true, true, false, false, false, false, false, false, false, false, false, false, false, false, false, false, false, false, false] rfl rfl (any_of HT_.out (by kernel_rfl)) (fun _ _ _ h => h) (Or.inl ⟨by rfl, ?_⟩) ?_ ?_
         rotate_left
         ·intro w'
          go_simp
          with_reducible rfl
         rotate_left
         ·simp only [Act.put, sA, sB, sC, i64_w, i32_w]
          rfl
         refine pure_ (i := 5) (N := some 38) (v := ?_) (a' := ?_) #[true, false, true, true, true, true, false, false, false, false, false, false, false, false, false, false, false, false, false, false, false, false] rfl rfl (any_of HT_.out (by kernel_rfl)) (fun _ _ _ h => h) (Or.inl ⟨by rfl, ?_⟩) ?_ ?_
         rotate_left
         ·intro w'
          go_simp
          with_reducible rfl
         rotate_left
         ·simp only [Act.put, sA, sB, sC, i64_w, i32_w]
          rfl
         refine pure_ (i := 6) (N := some 39) (v := ?_) (a' := ?_) #[true, false, true, true, true, true, true, false, false, false, false, false, false, false, false, false, false, false, false, false, false, false] rfl rfl (any_of HT_.out (by kernel_rfl)) (fun _ _ _ h => h) (Or.inl ⟨by rfl, ?_⟩) ?_ ?_
         rotate_left
         ·intro w'
          go_simp
          with_reducible rfl
         rotate_left
         ·simp only [Act.put, sA, sB, sC, i64_w, i32_w]
          rfl
         refine pure_ (i := 8) (N := some 41) (v := ?_) (a' := ?_) #[true, false, true, true, true, true, true, false, true, false, false, false, false, false, false, false, false, false, false, false, false, false] rfl rfl (any_of HT_.out (by kernel_rfl)) (fun _ _ _ h => h) (Or.inl ⟨by rfl, ?_⟩) ?_ ?_
         rotate_left
         ·intro w'
          go_simp
          with_reducible rfl
         rotate_left
         ·simp only [Act.put, sA, sB, sC, i64_w, i32_w]
          rfl
         refine pure_ (i := 12) (N := some 45) (v := ?_) (a' := ?_) #[true, false, true, true, true, true, true, false, true, false, false, false, true, false, false, false, false, false, false, false, false, false] rfl rfl (any_of HT_.out (by kernel_rfl)) (fun _ _ _ h => h) (Or.inl ⟨by rfl, ?_⟩) ?_ ?_
         rotate_left
         ·intro w'
          go_simp
          with_reducible rfl
         rotate_left
         ·simp only [Act.put, sA, sB, sC, i64_w, i32_w]
          rfl
         refine pure_ (i := 13) (N := some 46) (v := ?_) (a' := ?_) #[true, false, true, true, true, true, true, false, true, false, false, false, true, true, false, false, false, false, false, false, false, false] rfl rfl (any_of HT_.out (by kernel_rfl)) (fun _ _ _ h => h) (Or.inl ⟨by rfl, ?_⟩) ?_ ?_
         rotate_left
         ·intro w'
          go_simp
          with_reducible rfl
         rotate_left
         ·simp only [Act.put, sA, sB, sC, i64_w, i32_w]
          rfl
         refine pure_ (i := 14) (N := some 47) (v := ?_) (a' := ?_) #[true, false, true, true, true, true, true, false, true, false, false, false, true, true, true, false, false, false, false, false, false, false] rfl rfl (any_of HT_.out (by kernel_rfl)) (fun _ _ _ h => h) (Or.inl ⟨by rfl, ?_⟩) ?_ ?_
         rotate_left
         ·intro w'
          go_simp
          with_reducible rfl
         rotate_left
         ·simp only [Act.put, sA, sB, sC, i64_w, i32_w]
          rfl
         refine pure_ (i := 15) (N := some 48) (v := ?_) (a' := ?_) #[true, false, true, true, true, true, true, false, true, false, false, false, true, true, true, true, false, false, false, false, false, false] rfl rfl (any_of HT_.out (by kernel_rfl)) (fun _ _ _ h => h) (Or.inl ⟨by rfl, ?_⟩) ?_ ?_
         rotate_left
         ·intro w'
          go_simp
          with_reducible rfl
         rotate_left
         ·simp only [Act.put, sA, sB, sC, i64_w, i32_w]
          rfl
         refine take_ (i := 1) (N := some 34) (v := ?_) (a' := ?_) #[true, true, true, true, true, true, true, false, true, false, false, false, true, true, true, true, false, false, false, false, false, false] rfl rfl (take_ofW HT_.out HW_.out (by kernel_rfl)) (fun _ _ _ h => h) (Or.inl ⟨by rfl, ?_⟩) hHeld ?_ ?_
         rotate_left
         ·rintro w' ⟨s0, s1, s2, s3, s4, s5, s6, s7, s8, s9, s10, s11, s12, s13⟩
          go_simp
          with_reducible rfl
         rotate_left
         ·simp only [Act.put, sA, sB, sC, i64_w, i32_w]
          rfl
         refine take_ (i := 7) (N := some 40) (v := ?_) (a' := ?_) #[true, true, true, true, true, true, true, true, true, false, false, false, true, true, true, true, false, false, false, false, false, false] rfl rfl (take_ofW HT_.out HW_.out (by kernel_rfl)) (fun _ _ _ h => h) (Or.inl ⟨by rfl, ?_⟩) hHeld ?_ ?_
         rotate_left
         ·rintro w' ⟨s0, s1, s2, s3, s4, s5, s6, s7, s8, s9, s10, s11, s12, s13⟩
          go_simp
          with_reducible rfl
         rotate_left
         ·simp only [Act.put, sA, sB, sC, i64_w, i32_w]
          rfl
         refine take_ (i := 9) (N := some 42) (v := ?_) (a' := ?_) #[true, true, true, true, true, true, true, true, true, true, false, false, true, true, true, true, false, false, false, false, false, false] rfl rfl (take_ofW HT_.out HW_.out (by kernel_rfl)) (fun _ _ _ h => h) (Or.inl ⟨by rfl, ?_⟩) hHeld ?_ ?_
         rotate_left
         ·rintro w' ⟨s0, s1, s2, s3, s4, s5, s6, s7, s8, s9, s10, s11, s12, s13⟩
          go_simp
          with_reducible rfl
         rotate_left
         ·simp only [Act.put, sA, sB, sC, i64_w, i32_w]
          rfl
         refine pure_ (i := 10) (N := some 43) (v := ?_) (a' := ?_) #[true, true, true, true, true, true, true, true, true, true, true, false, true, true, true, true, false, false, false, false, false, false] rfl rfl (any_of HT_.out (by kernel_rfl)) (fun _ _ _ h => h) (Or.inl ⟨by rfl, ?_⟩) ?_ ?_
         rotate_left
         ·intro w'
          go_simp
          with_reducible rfl
         rotate_left
         ·simp only [Act.put, sA, sB, sC, i64_w, i32_w]
          rfl
         refine take_ (i := 11) (N := some 44) (v := ?_) (a' := ?_) #[true, true, true, true, true, true, true, true, true, true, true, true, true, true, true, true, false, false, false, false, false, false] rfl rfl (take_ofW HT_.out HW_.out (by kernel_rfl)) (fun _ _ _ h => h) (Or.inl ⟨by rfl, ?_⟩) hHeld ?_ ?_
         rotate_left
         ·rintro w' ⟨s0, s1, s2, s3, s4, s5, s6, s7, s8, s9, s10, s11, s12, s13⟩
          go_simp
          with_reducible rfl
         rotate_left
         ·simp only [Act.put, sA, sB, sC, i64_w, i32_w]
          rfl
         refine take_ (i := 16) (N := some 49) (v := ?_) (a' := ?_) #[true, true, true, true, true, true, true, true, true, true, true, true, true, true, true, true, true, false, false, false, false, false] rfl rfl (take_ofW HT_.out HW_.out (by kernel_rfl)) (fun _ _ _ h => h) (Or.inl ⟨by rfl, ?_⟩) hHeld ?_ ?_
         rotate_left
         ·rintro w' ⟨s0, s1, s2, s3, s4, s5, s6, s7, s8, s9, s10, s11, s12, s13⟩
          go_simp
          with_reducible rfl
         rotate_left
         ·simp only [Act.put, sA, sB, sC, i64_w, i32_w]
          rfl
         refine pure_ (i := 17) (N := some 50) (v := ?_) (a' := ?_) #[true, true, true, true, true, true, true, true, true, true, true, true, true, true, true, true, true, true, false, false, false, false] rfl rfl (any_of HT_.out (by kernel_rfl)) (fun _ _ _ h => h) (Or.inl ⟨by rfl, ?_⟩) ?_ ?_
         rotate_left
         ·intro w'
          go_simp
          with_reducible rfl
         rotate_left
         ·simp only [Act.put, sA, sB, sC, i64_w, i32_w]
          rfl
         refine pure_ (i := 18) (N := some 51) (v := ?_) (a' := ?_) #[true, true, true, true, true, true, true, true, true, true, true, true, true, true, true, true, true, true, true, false, false, false] rfl rfl (any_of HT_.out (by kernel_rfl)) (fun _ _ _ h => h) (Or.inl ⟨by rfl, ?_⟩) ?_ ?_
         rotate_left
         ·intro w'
          go_simp
          with_reducible rfl
         rotate_left
         ·simp only [Act.put, sA, sB, sC, i64_w, i32_w]
          rfl
         refine pure_ (i := 19) (N := some 52) (v := ?_) (a' := ?_) #[true, true, true, true, true, true, true, true, true, true, true, true, true, true, true, true, true, true, true, true, false, false] rfl rfl (any_of HT_.out (by kernel_rfl)) (fun _ _ _ h => h) (Or.inl ⟨by rfl, ?_⟩) ?_ ?_
         rotate_left
         ·intro w'
          go_simp
          with_reducible rfl
         rotate_left
         ·simp only [Act.put, sA, sB, sC, i64_w, i32_w]
          rfl
         refine pure_ (i := 20) (N := some 53) (v := ?_) (a' := ?_) #[true, true, true, true, true, true, true, true, true, true, true, true, true, true, true, true, true, true, true, true, true, false] rfl rfl (any_of HT_.out (by kernel_rfl)) (fun _ _ _ h => h) (Or.inl ⟨by rfl, ?_⟩) ?_ ?_
         rotate_left
         ·intro w'
          go_simp
          with_reducible rfl
         rotate_left
         ·simp only [Act.put, sA, sB, sC, i64_w, i32_w]
          rfl
         refine last_ (i := 21) (N := none) #[true, true, true, true, true, true, true, true, true, true, true, true, true, true, true, true, true, true, true, true, true, true] rfl rfl (one_of HT_.out (by kernel_rfl)) (by decide) (fun K hK => ?_)
         have hs19 : w18.cell? ⟨gb252, 1, none⟩ = some (.int .i64 x253001_1) := (blk_cell BK252.out 1).trans rfl
         have hfs19 := blk_frozen BK252.out 1
         have hns19_0 := NB250_252.out
         have hns19_1 := NB251_252.out
         have hms19_0 := NB252_250.out
         have hms19_1 := NB252_251.out
         refine skip_ (w1 := ?_) (by rfl) rfl ?_ ?_
         rotate_left
         ·go_simp
          rfl
         refine hK.out _ _ ?_
         clear hK K
         refine done_ (done_of HT_.out (by kernel_rfl)) ?_
         try go_wp2
         go_roundg k1
         case measure => have := HK1.out; omega
         case rel => exact ⟨(false), (wrap64 (x7_1 + 1)), (IntKind.u64.wrap (x253000_1 + ((rd_T39 l1 x7_1).f1))), (wrap64 (x253001_1 + (wrap64 ((rd ((rd_T39 l1 x7_1).f0.f2) a0_1) * (wrap64 ((rd_T39 l1 x7_1).f1)))))), (x253002_1), (u253002), (by first | rfl | (simp; done) | (simp [*]; done)), (by first | rfl | (simp; done) | (simp [*]; done)), H', ⟨by have := HK1.out; omega⟩, ⟨by (with_reducible repeat (first | apply rA | apply rN | apply rD)); exact Kd.R_mono (Kd.R_far (p := ⟨gb252, 1, none⟩) (Kd.R_types HO_253002.out BK252.out (by decide)) (fun _ hk => hk.2) (.int .i64 (wrap64 (x253001_1 + (wrap64 ((rd ((rd_T39 l1 x7_1).f0.f2) a0_1) * (wrap64 ((rd_T39 l1 x7_1).f1)))))))) (fun _ hk => trivial)⟩, ⟨by (with_reducible repeat (first | apply bA | apply bN | apply bD)); refine blk_far ?_ NB250_252.out _; (with_reducible repeat (first | apply bA | apply bN | apply bD)); exact BK250.out⟩, ⟨by (with_reducible repeat (first | apply bA | apply bN | apply bD)); refine blk_far ?_ NB251_252.out _; (with_reducible repeat (first | apply bA | apply bN | apply bD)); exact BK251.out⟩, ⟨by (with_reducible repeat (first | apply bA | apply bN | apply bD)); refine blk_put (cs := #[.int .u64 (IntKind.u64.wrap (x253000_1 + ((rd_T39 l1 x7_1).f1))), .int .i64 x253001_1, u253002]) ?_ 1 _ rfl; (with_reducible repeat (first | apply bA | apply bN | apply bD)); exact BK252.out⟩, ⟨by repeat (first | (with_reducible first | exact HB.out | apply eA | apply eN | apply eD | refine eS ?_ GE250.out | refine eS ?_ GE251.out | refine eS ?_ GE252.out) | exact HB.out)⟩⟩
        ·rw [if_neg c11] at H
         exact absurd H (by simp)
       ·rw [if_neg c10] at H
        exact absurd H (by simp)
      ·rw [if_neg c9] at H
       have c9b0 : (a0_0 == 2) = false := beq_eq_false_iff_ne.mpr c9
       have c9b1 : (a0_0 != 2) = true := bne_iff_ne.mpr c9
       by_cases c20 : a0_0 = 3
       ·rw [if_pos c20] at H
        have c20b0 : (a0_0 == 3) = true := beq_iff_eq.mpr c20
        have c20b1 : (a0_0 != 3) = false := bne_eq_false_iff_eq.mpr c20
        clear c20
        by_cases c21 : x6_1 = true
        ·subst c21
         have H1 : (if 0 ≤ a0_1 then (if a0_1 < (((rd_T39 l1 x7_1).f0.f2).length : Int) then (gristmillref06_Of.l0 k1 l1 false (wrap64 (x7_1 + 1)) a0_0 a0_1 (IntKind.u64.wrap (x253000_1 + ((rd_T39 l1 x7_1).f1))) (rd ((rd_T39 l1 x7_1).f0.f2) a0_1) x253002_1) else (none)) else (none)) = some (r1, r2, r3) := by rw [if_pos rfl] at H; exact H
         clear H
         have H := H1
         clear H1
         by_cases c22 : 0 ≤ a0_1
         ·rw [if_pos c22] at H
          have c22b0 : decide (0 ≤ a0_1) = true := decide_eq_true c22
          clear c22
          by_cases c23 : a0_1 < (((rd_T39 l1 x7_1).f0.f2).length : Int)
          ·rw [if_pos c23] at H
           have c23b0 : decide (a0_1 < (((rd_T39 l1 x7_1).f0.f2).length : Int)) = true := decide_eq_true c23
           clear c23
           have H' := aMk H
           clear H
           have p253 : 0 ≤ (x7_1 : Int) := of_decide_eq_true (by first | (with_reducible assumption) | assumption)
           have q253 : x7_1 < (l1.length : Int) := of_decide_eq_true (by first | (with_reducible assumption) | assumption)
           obtain ⟨ad253, A253_1, c253_1, A253_2, c253_2, e253, hx253_0, hx253_1, hx253_2, hx253_3, hl253_1, hi253_1, hl253_2, hi253_2⟩ := at_T39 HR1.out x7_1 p253 q253
           cases e253
           replace hx253_0 := (HB.out.cell (World.block_lt_of_cell? w _ hx253_0)).trans hx253_0
           replace hx253_1 := (HB.out.cell (World.block_lt_of_cell? w _ hx253_1)).trans hx253_1
           replace hx253_2 := (HB.out.cell (World.block_lt_of_cell? w _ hx253_2)).trans hx253_2
           replace hx253_3 := (HB.out.cell (World.block_lt_of_cell? w _ hx253_3)).trans hx253_3
           have HR253_1 := aMk hi253_1
           have HC253_1 := aMk hl253_1
           clear hi253_1 hl253_1
           have HR253_2 := aMk hi253_2
           have HC253_2 := aMk hl253_2
           clear hi253_2 hl253_2
           replace p253 := eq_true p253
           replace q253 := eq_true q253
           try go_wp2
           replace HO_253002 := aMk (rD HO_253002.out)
           replace BK250 := aMk (bD BK250.out)
           replace BK251 := aMk (bD BK251.out)
           replace BK252 := aMk (bD BK252.out)
           replace HB := aMk (eD HB.out)
           have p254 : 0 ≤ (x7_1 : Int) := of_decide_eq_true (by first | (with_reducible assumption) | assumption)
           have q254 : x7_1 < (l1.length : Int) := of_decide_eq_true (by first | (with_reducible assumption) | assumption)
           obtain ⟨ad254, A254_1, c254_1, A254_2, c254_2, e254, hx254_0, hx254_1, hx254_2, hx254_3, hl254_1, hi254_1, hl254_2, hi254_2⟩ := at_T39 HR1.out x7_1 p254 q254
           have hw254_3 := hx254_3
           have hw254_2 := hx254_2
           have hw254_1 := hx254_1
           have hw254_0 := hx254_0
           obtain rfl : ad253 = ad254 := (by injection e254)
           replace hx254_0 := (HB.out.cell (World.block_lt_of_cell? w _ hx254_0)).trans hx254_0
           replace hx254_1 := (HB.out.cell (World.block_lt_of_cell? w _ hx254_1)).trans hx254_1
           replace hx254_2 := (HB.out.cell (World.block_lt_of_cell? w _ hx254_2)).trans hx254_2
           replace hx254_3 := (HB.out.cell (World.block_lt_of_cell? w _ hx254_3)).trans hx254_3
           have HR254_1 := aMk hi254_1
           have HC254_1 := aMk hl254_1
           clear hi254_1 hl254_1
           have HR254_2 := aMk hi254_2
           have HC254_2 := aMk hl254_2
           clear hi254_2 hl254_2
           replace p254 := eq_true p254
           replace q254 := eq_true q254
           refine start_ (n := 10) (S := fun w' => w'.cell? ⟨gb252, 0, none⟩ = some (.int .u64 x253000_1) ∧ w'.cell? ⟨gb252, 1, none⟩ = some (.int .i64 x253001_1) ∧ w'.cell? ⟨gb252, 2, none⟩ = some (u253002) ∧ w'.cell? (ad253.add ((x7_1).toNat * 4)) = some (.int .i64 ((rd_T39 l1 x7_1).f0.f0)) ∧ w'.cell? ⟨(ad253.add ((x7_1).toNat * 4)).block, (ad253.add ((x7_1).toNat * 4)).off + 1, none⟩ = some (.slice A254_1 ((rd_T39 l1 x7_1).f0.f1).length c254_1) ∧ w'.cell? ⟨(ad253.add ((x7_1).toNat * 4)).block, (ad253.add ((x7_1).toNat * 4)).off + 2, none⟩ = some (.slice A254_2 ((rd_T39 l1 x7_1).f0.f2).length c254_2) ∧ w'.cell? ⟨(ad253.add ((x7_1).toNat * 4)).block, (ad253.add ((x7_1).toNat * 4)).off + 3, none⟩ = some (.int .u64 ((rd_T39 l1 x7_1).f1))) (ds := [9]) #[false, false, false, false, false, false, false, false, false, false] (by kernel_rfl) rfl rfl ⟨(blk_cell BK252.out 0).trans rfl, (blk_cell BK252.out 1).trans rfl, (blk_cell BK252.out 2).trans rfl, ((HB.out.cell (World.block_lt_of_cell? w _ hw254_0)).trans hw254_0), ((HB.out.cell (World.block_lt_of_cell? w _ hw254_1)).trans hw254_1), ((HB.out.cell (World.block_lt_of_cell? w _ hw254_2)).trans hw254_2), ((HB.out.cell (World.block_lt_of_cell? w _ hw254_3)).trans hw254_3)⟩ (fun hHeld => ?_); refine with_tabW gristmillref06_Of.tab7 gristmillref06_Of.bits7 (fun HT_ HW_ => ?_)
           generalize wr.drew = w24 at HO_253002 BK250 BK251 BK252 HB HR254_1 HR254_2 hx254_0 hx254_1 hx254_2 hx254_3 hHeld ⊢
           refine pure_ (i := 0) (N := some 20) (v := ?_) (a' := ?_) #[true, false, false, false, false, false, false, false, false, false] rfl rfl (any_of HT_.out (by kernel_rfl)) (fun _ _ _ h => h) (Or.inl ⟨by rfl, ?_⟩) ?_ ?_
           rotate_left
           ·intro w'
            go_simp
            with_reducible rfl
           rotate_left
           ·simp only [Act.put, sA, sB, sC, i64_w, i32_w]
            rfl
           refine pure_ (i := 2) (N := some 22) (v := ?_) (a' := ?_) #[true, false, true, false, false, false, false, false, false, false] rfl rfl (any_of HT_.out (by kernel_rfl)) (fun _ _ _ h => h) (Or.inl ⟨by rfl, ?_⟩) ?_ ?_
           rotate_left
           ·intro w'
            go_simp
            with_reducible rfl
           rotate_left
           ·simp only [Act.put, sA, sB, sC, i64_w, i32_w]
            rfl
           refine pure_ (i := 3) (N := some 23) (v := ?_) (a' := ?_) #[true, false, true, true, false, false, false, false, false, false] rfl rfl (any_of HT_.out (by kernel_rfl)) (fun _ _ _ h => h) (Or.inl ⟨by rfl, ?_⟩) ?_ ?_
           rotate_left
           ·intro w'
            go_simp
            with_reducible rfl
           rotate_left
           ·simp only [Act.put, sA, sB, sC, i64_w, i32_w]
            rfl
           refine pure_ (i := 4) (N := some 24) (v := ?_) (a' := ?_) #[true, false, true, true, true, false, false, false, false, false] rfl rfl (any_of HT_.out (by kernel_rfl)) (fun _ _ _ h => h) (Or.inl ⟨by rfl, ?_⟩) ?_ ?_
           rotate_left
           ·intro w'
            go_simp
            with_reducible rfl
           rotate_left
           ·simp only [Act.put, sA, sB, sC, i64_w, i32_w]
            rfl
           refine pure_ (i := 5) (N := some 25) (v := ?_) (a' := ?_) #[true, false, true, true, true, true, false, false, false, false] rfl rfl (any_of HT_.out (by kernel_rfl)) (fun _ _ _ h => h) (Or.inl ⟨by rfl, ?_⟩) ?_ ?_
           rotate_left
           ·intro w'
            go_simp
            with_reducible rfl
           rotate_left
           ·simp only [Act.put, sA, sB, sC, i64_w, i32_w]
            rfl
           refine take_ (i := 1) (N := some 21) (v := ?_) (a' := ?_) #[true, true, true, true, true, true, false, false, false, false] rfl rfl (take_ofW HT_.out HW_.out (by kernel_rfl)) (fun _ _ _ h => h) (Or.inl ⟨by rfl, ?_⟩) hHeld ?_ ?_
           rotate_left
           ·rintro w' ⟨s0, s1, s2, s3, s4, s5, s6⟩
            go_simp
            with_reducible rfl
           rotate_left
           ·simp only [Act.put, sA, sB, sC, i64_w, i32_w]
            rfl
           refine take_ (i := 6) (N := some 26) (v := ?_) (a' := ?_) #[true, true, true, true, true, true, true, false, false, false] rfl rfl (take_ofW HT_.out HW_.out (by kernel_rfl)) (fun _ _ _ h => h) (Or.inl ⟨by rfl, ?_⟩) hHeld ?_ ?_
           rotate_left
           ·rintro w' ⟨s0, s1, s2, s3, s4, s5, s6⟩
            go_simp
            with_reducible rfl
           rotate_left
           ·simp only [Act.put, sA, sB, sC, i64_w, i32_w]
            rfl
           refine pure_ (i := 7) (N := some 27) (v := ?_) (a' := ?_) #[true, true, true, true, true, true, true, true, false, false] rfl rfl (any_of HT_.out (by kernel_rfl)) (fun _ _ _ h => h) (Or.inl ⟨by rfl, ?_⟩) ?_ ?_
           rotate_left
           ·intro w'
            go_simp
            with_reducible rfl
           rotate_left
           ·simp only [Act.put, sA, sB, sC, i64_w, i32_w]
            rfl
           refine pure_ (i := 8) (N := some 28) (v := ?_) (a' := ?_) #[true, true, true, true, true, true, true, true, true, false] rfl rfl (any_of HT_.out (by kernel_rfl)) (fun _ _ _ h => h) (Or.inl ⟨by rfl, ?_⟩) ?_ ?_
           rotate_left
           ·intro w'
            go_simp
            with_reducible rfl
           rotate_left
           ·simp only [Act.put, sA, sB, sC, i64_w, i32_w]
            rfl
           refine last_ (i := 9) (N := none) #[true, true, true, true, true, true, true, true, true, true] rfl rfl (one_of HT_.out (by kernel_rfl)) (by decide) (fun K hK => ?_)
           have hs25 : w24.cell? ⟨gb252, 0, none⟩ = some (.int .u64 x253000_1) := (blk_cell BK252.out 0).trans rfl
           have hfs25 := blk_frozen BK252.out 0
           have hns25_0 := NB250_252.out
           have hns25_1 := NB251_252.out
           have hms25_0 := NB252_250.out
           have hms25_1 := NB252_251.out
           refine skip_ (w1 := ?_) (by rfl) rfl ?_ ?_
           rotate_left
           ·go_simp
            rfl
           refine hK.out _ _ ?_
           clear hK K
           refine done_ (done_of HT_.out (by kernel_rfl)) ?_
           have hnb26 := NB250_251.out
           have hnc26 := NB251_250.out
           have hnb27 := NB250_252.out
           have hnc27 := NB252_250.out
           have hcz28_0 : w24.cell? ⟨gb250, 0, none⟩ = some (.int .i64 a0_0) := (blk_cell BK250.out 0).trans rfl
           have hcz28_1 : w24.cell? ⟨gb250, 1, none⟩ = some (.int .i64 a0_1) := (blk_cell BK250.out 1).trans rfl
           have hfz28_0 := blk_frozen BK250.out 0
           have hfz28_1 := blk_frozen BK250.out 1
           try go_wp2
           have n0_ : Aside0 (Kd.R Kd.string 9 (w24.setCell ⟨gb252, 0, none⟩ (.int .u64 (IntKind.u64.wrap (x253000_1 + ((rd_T39 l1 x7_1).f1))))) w.heap.size (fun _ => True) u253002 x253002_1) := ⟨by (with_reducible repeat (first | apply rA | apply rN | apply rD)); exact Kd.R_mono (Kd.R_far (p := ⟨gb252, 0, none⟩) (Kd.R_types HO_253002.out BK252.out (by decide)) (fun _ hk => hk.2) (.int .u64 (IntKind.u64.wrap (x253000_1 + ((rd_T39 l1 x7_1).f1))))) (fun _ hk => trivial)⟩
           have n1_ : Aside0 ((w24.setCell ⟨gb252, 0, none⟩ (.int .u64 (IntKind.u64.wrap (x253000_1 + ((rd_T39 l1 x7_1).f1))))).heap[gb250]? = some (.cells #[.int .i64 a0_0, .int .i64 a0_1] 23 (0, 0))) := ⟨by (with_reducible repeat (first | apply bA | apply bN | apply bD)); refine blk_far ?_ NB250_252.out _; (with_reducible repeat (first | apply bA | apply bN | apply bD)); exact BK250.out⟩
           have n2_ : Aside0 ((w24.setCell ⟨gb252, 0, none⟩ (.int .u64 (IntKind.u64.wrap (x253000_1 + ((rd_T39 l1 x7_1).f1))))).heap[gb251]? = some (.cells #[.int .u64 0, .int .i64 0, .slice none 0 0] 33 (0, 0))) := ⟨by (with_reducible repeat (first | apply bA | apply bN | apply bD)); refine blk_far ?_ NB251_252.out _; (with_reducible repeat (first | apply bA | apply bN | apply bD)); exact BK251.out⟩
           have n3_ : Aside0 ((w24.setCell ⟨gb252, 0, none⟩ (.int .u64 (IntKind.u64.wrap (x253000_1 + ((rd_T39 l1 x7_1).f1))))).heap[gb252]? = some (.cells #[.int .u64 (IntKind.u64.wrap (x253000_1 + ((rd_T39 l1 x7_1).f1))), .int .i64 x253001_1, u253002] 33 (0, 0))) := ⟨by (with_reducible repeat (first | apply bA | apply bN | apply bD)); refine blk_put (cs := #[.int .u64 x253000_1, .int .i64 x253001_1, u253002]) ?_ 0 _ rfl; (with_reducible repeat (first | apply bA | apply bN | apply bD)); exact BK252.out⟩
           have n4_ : Aside0 (Below w.heap.size w (w24.setCell ⟨gb252, 0, none⟩ (.int .u64 (IntKind.u64.wrap (x253000_1 + ((rd_T39 l1 x7_1).f1)))))) := ⟨by repeat (first | (with_reducible first | exact HB.out | apply eA | apply eN | apply eD | refine eS ?_ GE250.out | refine eS ?_ GE251.out | refine eS ?_ GE252.out) | exact HB.out)⟩
           (try clear HO_253002)
           (try clear BK250)
           (try clear BK251)
           (try clear BK252)
           (try clear HB)
           generalize (w24.setCell ⟨gb252, 0, none⟩ (.int .u64 (IntKind.u64.wrap (x253000_1 + ((rd_T39 l1 x7_1).f1))))) = w29 at n0_ n1_ n2_ n3_ n4_ ⊢
           have HO_253002 := n0_
           have BK250 := n1_
           have BK251 := n2_
           have BK252 := n3_
           have HB := n4_
           clear n0_ n1_ n2_ n3_ n4_
           replace HO_253002 := aMk (rD HO_253002.out)
           replace BK250 := aMk (bD BK250.out)
           replace BK251 := aMk (bD BK251.out)
           replace BK252 := aMk (bD BK252.out)
           replace HB := aMk (eD HB.out)
           refine start_ (n := 16) (S := fun w' => True) (ds := []) #[false, false, false, false, false, false, false, false, false, false, false, false, false, false, false, false] (by kernel_rfl) rfl rfl trivial (fun hHeld => ?_); refine with_tabW gristmillref06_Of.tab12 gristmillref06_Of.bits12 (fun HT_ HW_ => ?_)
           generalize w29.drew = w30 at HO_253002 BK250 BK251 BK252 HB hHeld ⊢
           refine pure_ (i := 0) (N := some 56) (v := ?_) (a' := ?_) #[true, false, false, false, false, false, false, false, false, false, false, false, false, false, false, false] rfl rfl (any_of HT_.out (by kernel_rfl)) (fun _ _ _ h => h) (Or.inl ⟨by rfl, ?_⟩) ?_ ?_
           rotate_left
           ·intro w'
            go_simp
            with_reducible rfl
           rotate_left
           ·simp only [Act.put, sA, sB, sC, i64_w, i32_w]
            rfl
           refine pure_ (i := 1) (N := some 57) (v := ?_) (a' := ?_) #[true, true, false, false, false, false, false, false, false, false, false, false, false, false, false, false] rfl rfl (any_of HT_.out (by kernel_rfl)) (fun _ _ _ h => h) (Or.inl ⟨by rfl, ?_⟩) ?_ ?_
           rotate_left
           ·intro w'
            go_simp
            with_reducible rfl
           rotate_left
           ·simp only [Act.put, sA, sB, sC, i64_w, i32_w]
            rfl
           refine pure_ (i := 2) (N := some 58) (v := undef) (a' := ?_) #[true, true, true, false, false, false, false, false, false, false, false, false, false, false, false, false] rfl rfl (any_of HT_.out (by kernel_rfl)) (fun _ _ _ h => h) (Or.inr ⟨by rfl, rfl⟩) ?_ ?_
           rotate_left
           ·simp only [Act.put, sA, sB, sC, i64_w, i32_w]
            rfl
           refine pure_ (i := 3) (N := some 59) (v := undef) (a' := ?_) #[true, true, true, true, false, false, false, false, false, false, false, false, false, false, false, false] rfl rfl (any_of HT_.out (by kernel_rfl)) (fun _ _ _ h => h) (Or.inr ⟨by rfl, rfl⟩) ?_ ?_
           rotate_left
           ·simp only [Act.put, sA, sB, sC, i64_w, i32_w]
            rfl
           refine pure_ (i := 4) (N := some 60) (v := undef) (a' := ?_) #[true, true, true, true, true, false, false, false, false, false, false, false, false, false, false, false] rfl rfl (any_of HT_.out (by kernel_rfl)) (fun _ _ _ h => h) (Or.inr ⟨by rfl, rfl⟩) ?_ ?_
           rotate_left
           ·simp only [Act.put, sA, sB, sC, i64_w, i32_w]
            rfl
           refine pure_ (i := 5) (N := some 61) (v := undef) (a' := ?_) #[true, true, true, true, true, true, false, false, false, false, false, false, false, false, false, false] rfl rfl (any_of HT_.out (by kernel_rfl)) (fun _ _ _ h => h) (Or.inr ⟨by rfl, rfl⟩) ?_ ?_
           rotate_left
           ·simp only [Act.put, sA, sB, sC, i64_w, i32_w]
            rfl
           refine pure_ (i := 6) (N := some 62) (v := undef) (a' := ?_) #[true, true, true, true, true, true, true, false, false, false, false, false, false, false, false, false] rfl rfl (any_of HT_.out (by kernel_rfl)) (fun _ _ _ h => h) (Or.inr ⟨by rfl, rfl⟩) ?_ ?_
           rotate_left
           ·simp only [Act.put, sA, sB, sC, i64_w, i32_w]
            rfl
           refine pure_ (i := 7) (N := some 63) (v := undef) (a' := ?_) #[true, true, true, true, true, true, true, true, false, false, false, false, false, false, false, false] rfl rfl (any_of HT_.out (by kernel_rfl)) (fun _ _ _ h => h) (Or.inr ⟨by rfl, rfl⟩) ?_ ?_
           rotate_left
           ·simp only [Act.put, sA, sB, sC, i64_w, i32_w]
            rfl
           refine pure_ (i := 8) (N := some 64) (v := undef) (a' := ?_) #[true, true, true, true, true, true, true, true, true, false, false, false, false, false, false, false] rfl rfl (any_of HT_.out (by kernel_rfl)) (fun _ _ _ h => h) (Or.inr ⟨by rfl, rfl⟩) ?_ ?_
           rotate_left
           ·simp only [Act.put, sA, sB, sC, i64_w, i32_w]
            rfl
           refine pure_ (i := 9) (N := some 65) (v := undef) (a' := ?_) #[true, true, true, true, true, true, true, true, true, true, false, false, false, false, false, false] rfl rfl (any_of HT_.out (by kernel_rfl)) (fun _ _ _ h => h) (Or.inr ⟨by rfl, rfl⟩) ?_ ?_
           rotate_left
           ·simp only [Act.put, sA, sB, sC, i64_w, i32_w]
            rfl
           refine pure_ (i := 10) (N := some 66) (v := undef) (a' := ?_) #[true, true, true, true, true, true, true, true, true, true, true, false, false, false, false, false] rfl rfl (any_of HT_.out (by kernel_rfl)) (fun _ _ _ h => h) (Or.inr ⟨by rfl, rfl⟩) ?_ ?_
           rotate_left
           ·simp only [Act.put, sA, sB, sC, i64_w, i32_w]
            rfl
           refine pure_ (i := 11) (N := some 67) (v := undef) (a' := ?_) #[true, true, true, true, true, true, true, true, true, true, true, true, false, false, false, false] rfl rfl (any_of HT_.out (by kernel_rfl)) (fun _ _ _ h => h) (Or.inr ⟨by rfl, rfl⟩) ?_ ?_
           rotate_left
           ·simp only [Act.put, sA, sB, sC, i64_w, i32_w]
            rfl
           refine pure_ (i := 12) (N := some 68) (v := undef) (a' := ?_) #[true, true, true, true, true, true, true, true, true, true, true, true, true, false, false, false] rfl rfl (any_of HT_.out (by kernel_rfl)) (fun _ _ _ h => h) (Or.inr ⟨by rfl, rfl⟩) ?_ ?_
           rotate_left
           ·simp only [Act.put, sA, sB, sC, i64_w, i32_w]
            rfl
           refine pure_ (i := 13) (N := some 69) (v := undef) (a' := ?_) #[true, true, true, true, true, true, true, true, true, true, true, true, true, true, false, false] rfl rfl (any_of HT_.out (by kernel_rfl)) (fun _ _ _ h => h) (Or.inr ⟨by rfl, rfl⟩) ?_ ?_
           rotate_left
           ·simp only [Act.put, sA, sB, sC, i64_w, i32_w]
            rfl
           refine pure_ (i := 14) (N := some 70) (v := undef) (a' := ?_) #[true, true, true, true, true, true, true, true, true, true, true, true, true, true, true, false] rfl rfl (any_of HT_.out (by kernel_rfl)) (fun _ _ _ h => h) (Or.inr ⟨by rfl, rfl⟩) ?_ ?_
           rotate_left
           ·simp only [Act.put, sA, sB, sC, i64_w, i32_w]
            rfl
           refine pure_ (i := 15) (N := some 71) (v := ?_) (a' := ?_) #[true, true, true, true, true, true, true, true, true, true, true, true, true, true, true, true] rfl rfl (any_of HT_.out (by kernel_rfl)) (fun _ _ _ h => h) (Or.inl ⟨by rfl, ?_⟩) ?_ ?_
           rotate_left
           ·intro w'
            go_simp
            with_reducible rfl
           rotate_left
           ·simp only [Act.put, sA, sB, sC, i64_w, i32_w]
            rfl
           refine done_ (done_of HT_.out (by kernel_rfl)) ?_
           try go_wp2
           replace HO_253002 := aMk (rD HO_253002.out)
           replace BK250 := aMk (bD BK250.out)
           replace BK251 := aMk (bD BK251.out)
           replace BK252 := aMk (bD BK252.out)
           replace HB := aMk (eD HB.out)
           have p258 : 0 ≤ (x7_1 : Int) := of_decide_eq_true (by first | (with_reducible assumption) | assumption)
           have q258 : x7_1 < (l1.length : Int) := of_decide_eq_true (by first | (with_reducible assumption) | assumption)
           obtain ⟨ad258, A258_1, c258_1, A258_2, c258_2, e258, hx258_0, hx258_1, hx258_2, hx258_3, hl258_1, hi258_1, hl258_2, hi258_2⟩ := at_T39 HR1.out x7_1 p258 q258
           have hw258_3 := hx258_3
           have hw258_2 := hx258_2
           have hw258_1 := hx258_1
           have hw258_0 := hx258_0
           obtain rfl : ad253 = ad258 := (by injection e258)
           replace hx258_0 := (HB.out.cell (World.block_lt_of_cell? w _ hx258_0)).trans hx258_0
           replace hx258_1 := (HB.out.cell (World.block_lt_of_cell? w _ hx258_1)).trans hx258_1
           replace hx258_2 := (HB.out.cell (World.block_lt_of_cell? w _ hx258_2)).trans hx258_2
           replace hx258_3 := (HB.out.cell (World.block_lt_of_cell? w _ hx258_3)).trans hx258_3
           have HR258_1 := aMk hi258_1
           have HC258_1 := aMk hl258_1
           clear hi258_1 hl258_1
           have HR258_2 := aMk hi258_2
           have HC258_2 := aMk hl258_2
           clear hi258_2 hl258_2
           replace p258 := eq_true p258
           replace q258 := eq_true q258
           have p259 : 0 ≤ (a0_1 : Int) := of_decide_eq_true (by first | (with_reducible assumption) | assumption)
           have q259 : a0_1 < (((rd_T39 l1 x7_1).f0.f2).length : Int) := of_decide_eq_true (by first | (with_reducible assumption) | assumption)
           obtain ⟨ad259, e259, hx259_0⟩ := Kd.at_int HR258_2.out a0_1 p259 q259
           have hw259_0 := hx259_0
           cases e259
           replace hx259_0 := (HB.out.cell (World.block_lt_of_cell? w _ hx259_0)).trans hx259_0
           replace p259 := eq_true p259
           replace q259 := eq_true q259
           refine start_ (n := 12) (S := fun w' => w'.cell? ⟨gb250, 0, none⟩ = some (.int .i64 a0_0) ∧ w'.cell? ⟨gb250, 1, none⟩ = some (.int .i64 a0_1) ∧ w'.cell? (ad253.add ((x7_1).toNat * 4)) = some (.int .i64 ((rd_T39 l1 x7_1).f0.f0)) ∧ w'.cell? ⟨(ad253.add ((x7_1).toNat * 4)).block, (ad253.add ((x7_1).toNat * 4)).off + 1, none⟩ = some (.slice A258_1 ((rd_T39 l1 x7_1).f0.f1).length c258_1) ∧ w'.cell? ⟨(ad253.add ((x7_1).toNat * 4)).block, (ad253.add ((x7_1).toNat * 4)).off + 2, none⟩ = some (.slice (some ad259) ((rd_T39 l1 x7_1).f0.f2).length c258_2) ∧ w'.cell? ⟨(ad253.add ((x7_1).toNat * 4)).block, (ad253.add ((x7_1).toNat * 4)).off + 3, none⟩ = some (.int .u64 ((rd_T39 l1 x7_1).f1)) ∧ w'.cell? (ad259.add (a0_1).toNat) = some (.int .i64 (rd ((rd_T39 l1 x7_1).f0.f2) a0_1))) (ds := []) #[false, false, false, false, false, false, false, false, false, false, false, false] (by kernel_rfl) rfl rfl ⟨(blk_cell BK250.out 0).trans rfl, (blk_cell BK250.out 1).trans rfl, ((HB.out.cell (World.block_lt_of_cell? w _ hw258_0)).trans hw258_0), ((HB.out.cell (World.block_lt_of_cell? w _ hw258_1)).trans hw258_1), ((HB.out.cell (World.block_lt_of_cell? w _ hw258_2)).trans hw258_2), ((HB.out.cell (World.block_lt_of_cell? w _ hw258_3)).trans hw258_3), ((HB.out.cell (World.block_lt_of_cell? w _ hw259_0)).trans hw259_0)⟩ (fun hHeld => ?_); refine with_tabW gristmillref06_Of.tab13 gristmillref06_Of.bits13 (fun HT_ HW_ => ?_)
           generalize w30.drew = w31 at HO_253002 BK250 BK251 BK252 HB HR258_1 HR258_2 hx258_0 hx258_1 hx258_2 hx258_3 hx259_0 hHeld ⊢
           refine pure_ (i := 0) (N := some 72) (v := ?_) (a' := ?_) #[true, false, false, false, false, false, false, false, false, false, false, false] rfl rfl (any_of HT_.out (by kernel_rfl)) (fun _ _ _ h => h) (Or.inl ⟨by rfl, ?_⟩) ?_ ?_
           rotate_left
           ·intro w'
            go_simp
            with_reducible rfl
           rotate_left
           ·simp only [Act.put, sA, sB, sC, i64_w, i32_w]
            rfl
           refine pure_ (i := 1) (N := some 73) (v := ?_) (a' := ?_) #[true, true, false, false, false, false, false, false, false, false, false, false] rfl rfl (any_of HT_.out (by kernel_rfl)) (fun _ _ _ h => h) (Or.inl ⟨by rfl, ?_⟩) ?_ ?_
           rotate_left
           ·intro w'
            go_simp
            with_reducible rfl
           rotate_left
           ·simp only [Act.put, sA, sB, sC, i64_w, i32_w]
            rfl
           refine pure_ (i := 2) (N := some 74) (v := ?_) (a' := ?_) #[true, true, true, false, false, false, false, false, false, false, false, false] rfl rfl (any_of HT_.out (by kernel_rfl)) (fun _ _ _ h => h) (Or.inl ⟨by rfl, ?_⟩) ?_ ?_
           rotate_left
           ·intro w'
            go_simp
            with_reducible rfl
           rotate_left
           ·simp only [Act.put, sA, sB, sC, i64_w, i32_w]
            rfl
           refine pure_ (i := 3) (N := some 75) (v := ?_) (a' := ?_) #[true, true, true, true, false, false, false, false, false, false, false, false] rfl rfl (any_of HT_.out (by kernel_rfl)) (fun _ _ _ h => h) (Or.inl ⟨by rfl, ?_⟩) ?_ ?_
           rotate_left
           ·intro w'
            go_simp
            with_reducible rfl
           rotate_left
           ·simp only [Act.put, sA, sB, sC, i64_w, i32_w]
            rfl
           refine pure_ (i := 4) (N := some 76) (v := ?_) (a' := ?_) #[true, true, true, true, true, false, false, false, false, false, false, false] rfl rfl (any_of HT_.out (by kernel_rfl)) (fun _ _ _ h => h) (Or.inl ⟨by rfl, ?_⟩) ?_ ?_
           rotate_left
           ·intro w'
            go_simp
            with_reducible rfl
           rotate_left
           ·simp only [Act.put, sA, sB, sC, i64_w, i32_w]
            rfl
           refine pure_ (i := 6) (N := some 78) (v := ?_) (a' := ?_) #[true, true, true, true, true, false, true, false, false, false, false, false] rfl rfl (any_of HT_.out (by kernel_rfl)) (fun _ _ _ h => h) (Or.inl ⟨by rfl, ?_⟩) ?_ ?_
           rotate_left
           ·intro w'
            go_simp
            with_reducible rfl
           rotate_left
           ·simp only [Act.put, sA, sB, sC, i64_w, i32_w]
            rfl
           refine take_ (i := 5) (N := some 77) (v := ?_) (a' := ?_) #[true, true, true, true, true, true, true, false, false, false, false, false] rfl rfl (take_ofW HT_.out HW_.out (by kernel_rfl)) (fun _ _ _ h => h) (Or.inl ⟨by rfl, ?_⟩) hHeld ?_ ?_
           rotate_left
           ·rintro w' ⟨s0, s1, s2, s3, s4, s5, s6⟩
            go_simp
            with_reducible rfl
           rotate_left
           ·simp only [Act.put, sA, sB, sC, i64_w, i32_w]
            rfl
           refine take_ (i := 7) (N := some 79) (v := ?_) (a' := ?_) #[true, true, true, true, true, true, true, true, false, false, false, false] rfl rfl (take_ofW HT_.out HW_.out (by kernel_rfl)) (fun _ _ _ h => h) (Or.inl ⟨by rfl, ?_⟩) hHeld ?_ ?_
           rotate_left
           ·rintro w' ⟨s0, s1, s2, s3, s4, s5, s6⟩
            go_simp
            with_reducible rfl
           rotate_left
           ·simp only [Act.put, sA, sB, sC, i64_w, i32_w]
            rfl
           refine pure_ (i := 8) (N := some 80) (v := ?_) (a' := ?_) #[true, true, true, true, true, true, true, true, true, false, false, false] rfl rfl (any_of HT_.out (by kernel_rfl)) (fun _ _ _ h => h) (Or.inl ⟨by rfl, ?_⟩) ?_ ?_
           rotate_left
           ·intro w'
            go_simp
            with_reducible rfl
           rotate_left
           ·simp only [Act.put, sA, sB, sC, i64_w, i32_w]
            rfl
           refine take_ (i := 9) (N := some 81) (v := ?_) (a' := ?_) #[true, true, true, true, true, true, true, true, true, true, false, false] rfl rfl (take_ofW HT_.out HW_.out (by kernel_rfl)) (fun _ _ _ h => h) (Or.inl ⟨by rfl, ?_⟩) hHeld ?_ ?_
           rotate_left
           ·rintro w' ⟨s0, s1, s2, s3, s4, s5, s6⟩
            go_simp
            with_reducible rfl
           rotate_left
           ·simp only [Act.put, sA, sB, sC, i64_w, i32_w]
            rfl
           refine pure_ (i := 10) (N := some 82) (v := ?_) (a' := ?_) #[true, true, true, true, true, true, true, true, true, true, true, false] rfl rfl (any_of HT_.out (by kernel_rfl)) (fun _ _ _ h => h) (Or.inl ⟨by rfl, ?_⟩) ?_ ?_
           rotate_left
           ·intro w'
            go_simp
            with_reducible rfl
           rotate_left
           ·simp only [Act.put, sA, sB, sC, i64_w, i32_w]
            rfl
           refine one_ (i := 11) (N := none) #[true, true, true, true, true, true, true, true, true, true, true, true] rfl rfl (one_of HT_.out (by kernel_rfl)) (by decide) (fun K hK => ?_)
           have hs32 : w31.cell? ⟨gb252, 1, none⟩ = some (.int .i64 x253001_1) := (blk_cell BK252.out 1).trans rfl
           have hfs32 := blk_frozen BK252.out 1
           have hns32_0 := NB250_252.out
           have hns32_1 := NB251_252.out
           have hms32_0 := NB252_250.out
           have hms32_1 := NB252_251.out
           refine skip_ (w1 := ?_) (by rfl) rfl ?_ ?_
           rotate_left
           ·go_simp
            rfl
           refine hK.out _ _ ⟨((cell_far (p := ⟨gb252, _, none⟩) NB250_252.out _).trans (hHeld.1)), ((cell_far (p := ⟨gb252, _, none⟩) NB250_252.out _).trans (hHeld.2.1)), ((cell_far (p := ⟨gb252, _, none⟩) (by first | exact Nat.ne_of_lt (Nat.lt_of_lt_of_le (by have := World.block_lt_of_cell? _ _ hw258_0; first | rwa [add_block] at this | exact this) GW252.out) | (rw [add_block]; exact Nat.ne_of_lt (Nat.lt_of_lt_of_le (by have := World.block_lt_of_cell? _ _ hw258_0; first | rwa [add_block] at this | exact this) GW252.out)) | (show (Addr.add _ _).block ≠ _; rw [add_block]; exact Nat.ne_of_lt (Nat.lt_of_lt_of_le (by have := World.block_lt_of_cell? _ _ hw258_0; first | rwa [add_block] at this | exact this) GW252.out)) | (dsimp only; exact Nat.ne_of_lt (Nat.lt_of_lt_of_le (by have := World.block_lt_of_cell? _ _ hw258_0; first | rwa [add_block] at this | exact this) GW252.out))) _).trans (hHeld.2.2.1)), ((cell_far (p := ⟨gb252, _, none⟩) (by first | exact Nat.ne_of_lt (Nat.lt_of_lt_of_le (by have := World.block_lt_of_cell? _ _ hw258_1; first | rwa [add_block] at this | exact this) GW252.out) | (rw [add_block]; exact Nat.ne_of_lt (Nat.lt_of_lt_of_le (by have := World.block_lt_of_cell? _ _ hw258_1; first | rwa [add_block] at this | exact this) GW252.out)) | (show (Addr.add _ _).block ≠ _; rw [add_block]; exact Nat.ne_of_lt (Nat.lt_of_lt_of_le (by have := World.block_lt_of_cell? _ _ hw258_1; first | rwa [add_block] at this | exact this) GW252.out)) | (dsimp only; exact Nat.ne_of_lt (Nat.lt_of_lt_of_le (by have := World.block_lt_of_cell? _ _ hw258_1; first | rwa [add_block] at this | exact this) GW252.out))) _).trans (hHeld.2.2.2.1)), ((cell_far (p := ⟨gb252, _, none⟩) (by first | exact Nat.ne_of_lt (Nat.lt_of_lt_of_le (by have := World.block_lt_of_cell? _ _ hw258_2; first | rwa [add_block] at this | exact this) GW252.out) | (rw [add_block]; exact Nat.ne_of_lt (Nat.lt_of_lt_of_le (by have := World.block_lt_of_cell? _ _ hw258_2; first | rwa [add_block] at this | exact this) GW252.out)) | (show (Addr.add _ _).block ≠ _; rw [add_block]; exact Nat.ne_of_lt (Nat.lt_of_lt_of_le (by have := World.block_lt_of_cell? _ _ hw258_2; first | rwa [add_block] at this | exact this) GW252.out)) | (dsimp only; exact Nat.ne_of_lt (Nat.lt_of_lt_of_le (by have := World.block_lt_of_cell? _ _ hw258_2; first | rwa [add_block] at this | exact this) GW252.out))) _).trans (hHeld.2.2.2.2.1)), ((cell_far (p := ⟨gb252, _, none⟩) (by first | exact Nat.ne_of_lt (Nat.lt_of_lt_of_le (by have := World.block_lt_of_cell? _ _ hw258_3; first | rwa [add_block] at this | exact this) GW252.out) | (rw [add_block]; exact Nat.ne_of_lt (Nat.lt_of_lt_of_le (by have := World.block_lt_of_cell? _ _ hw258_3; first | rwa [add_block] at this | exact this) GW252.out)) | (show (Addr.add _ _).block ≠ _; rw [add_block]; exact Nat.ne_of_lt (Nat.lt_of_lt_of_le (by have := World.block_lt_of_cell? _ _ hw258_3; first | rwa [add_block] at this | exact this) GW252.out)) | (dsimp only; exact Nat.ne_of_lt (Nat.lt_of_lt_of_le (by have := World.block_lt_of_cell? _ _ hw258_3; first | rwa [add_block] at this | exact this) GW252.out))) _).trans (hHeld.2.2.2.2.2.1)), ((cell_far (p := ⟨gb252, _, none⟩) (by first | exact Nat.ne_of_lt (Nat.lt_of_lt_of_le (by have := World.block_lt_of_cell? _ _ hw259_0; first | rwa [add_block] at this | exact this) GW252.out) | (rw [add_block]; exact Nat.ne_of_lt (Nat.lt_of_lt_of_le (by have := World.block_lt_of_cell? _ _ hw259_0; first | rwa [add_block] at this | exact this) GW252.out)) | (show (Addr.add _ _).block ≠ _; rw [add_block]; exact Nat.ne_of_lt (Nat.lt_of_lt_of_le (by have := World.block_lt_of_cell? _ _ hw259_0; first | rwa [add_block] at this | exact this) GW252.out)) | (dsimp only; exact Nat.ne_of_lt (Nat.lt_of_lt_of_le (by have := World.block_lt_of_cell? _ _ hw259_0; first | rwa [add_block] at this | exact this) GW252.out))) _).trans (hHeld.2.2.2.2.2.2))⟩ (fun hHeld => ?_)
           clear hK K
           refine done_ (done_of HT_.out (by kernel_rfl)) ?_
           try go_wp2
           go_roundg k1
           case measure => have := HK1.out; omega
           case rel => exact ⟨(false), (wrap64 (x7_1 + 1)), (IntKind.u64.wrap (x253000_1 + ((rd_T39 l1 x7_1).f1))), (rd ((rd_T39 l1 x7_1).f0.f2) a0_1), (x253002_1), (u253002), (by first | rfl | (simp; done) | (simp [*]; done)), (by first | rfl | (simp; done) | (simp [*]; done)), H', ⟨by have := HK1.out; omega⟩, ⟨by (with_reducible repeat (first | apply rA | apply rN | apply rD)); exact Kd.R_mono (Kd.R_far (p := ⟨gb252, 1, none⟩) (Kd.R_types HO_253002.out BK252.out (by decide)) (fun _ hk => hk.2) (.int .i64 (rd ((rd_T39 l1 x7_1).f0.f2) a0_1))) (fun _ hk => trivial)⟩, ⟨by (with_reducible repeat (first | apply bA | apply bN | apply bD)); refine blk_far ?_ NB250_252.out _; (with_reducible repeat (first | apply bA | apply bN | apply bD)); exact BK250.out⟩, ⟨by (with_reducible repeat (first | apply bA | apply bN | apply bD)); refine blk_far ?_ NB251_252.out _; (with_reducible repeat (first | apply bA | apply bN | apply bD)); exact BK251.out⟩, ⟨by (with_reducible repeat (first | apply bA | apply bN | apply bD)); refine blk_put (cs := #[.int .u64 (IntKind.u64.wrap (x253000_1 + ((rd_T39 l1 x7_1).f1))), .int .i64 x253001_1, u253002]) ?_ 1 _ rfl; (with_reducible repeat (first | apply bA | apply bN | apply bD)); exact BK252.out⟩, ⟨by repeat (first | (with_reducible first | exact HB.out | apply eA | apply eN | apply eD | refine eS ?_ GE250.out | refine eS ?_ GE251.out | refine eS ?_ GE252.out) | exact HB.out)⟩⟩
          ·rw [if_neg c23] at H
           exact absurd H (by simp)
         ·rw [if_neg c22] at H
          exact absurd H (by simp)
        ·replace c21 := Bool.eq_false_iff.mpr c21
         subst c21
         have H1 : (if 0 ≤ a0_1 then (if a0_1 < (((rd_T39 l1 x7_1).f0.f2).length : Int) then (if (rd ((rd_T39 l1 x7_1).f0.f2) a0_1) < x253001_1 then (gristmillref06_Of.l0 k1 l1 false (wrap64 (x7_1 + 1)) a0_0 a0_1 (IntKind.u64.wrap (x253000_1 + ((rd_T39 l1 x7_1).f1))) (rd ((rd_T39 l1 x7_1).f0.f2) a0_1) x253002_1) else (gristmillref06_Of.l0 k1 l1 false (wrap64 (x7_1 + 1)) a0_0 a0_1 (IntKind.u64.wrap (x253000_1 + ((rd_T39 l1 x7_1).f1))) x253001_1 x253002_1)) else (none)) else (none)) = some (r1, r2, r3) := by rw [if_neg (show ¬ (false = true) by decide)] at H; exact H
         clear H
         have H := H1
         clear H1
         by_cases c33 : 0 ≤ a0_1
         ·rw [if_pos c33] at H
          have c33b0 : decide (0 ≤ a0_1) = true := decide_eq_true c33
          clear c33
          by_cases c34 : a0_1 < (((rd_T39 l1 x7_1).f0.f2).length : Int)
          ·rw [if_pos c34] at H
           have c34b0 : decide (a0_1 < (((rd_T39 l1 x7_1).f0.f2).length : Int)) = true := decide_eq_true c34
           clear c34
           by_cases c35 : (rd ((rd_T39 l1 x7_1).f0.f2) a0_1) < x253001_1
           ·rw [if_pos c35] at H
            have c35b0 : decide ((rd ((rd_T39 l1 x7_1).f0.f2) a0_1) < x253001_1) = true := decide_eq_true c35
            clear c35
            have H' := aMk H
            clear H
            have p253 : 0 ≤ (x7_1 : Int) := of_decide_eq_true (by first | (with_reducible assumption) | assumption)
            have q253 : x7_1 < (l1.length : Int) := of_decide_eq_true (by first | (with_reducible assumption) | assumption)
            obtain ⟨ad253, A253_1, c253_1, A253_2, c253_2, e253, hx253_0, hx253_1, hx253_2, hx253_3, hl253_1, hi253_1, hl253_2, hi253_2⟩ := at_T39 HR1.out x7_1 p253 q253
            cases e253
            replace hx253_0 := (HB.out.cell (World.block_lt_of_cell? w _ hx253_0)).trans hx253_0
            replace hx253_1 := (HB.out.cell (World.block_lt_of_cell? w _ hx253_1)).trans hx253_1
            replace hx253_2 := (HB.out.cell (World.block_lt_of_cell? w _ hx253_2)).trans hx253_2
            replace hx253_3 := (HB.out.cell (World.block_lt_of_cell? w _ hx253_3)).trans hx253_3
            have HR253_1 := aMk hi253_1
            have HC253_1 := aMk hl253_1
            clear hi253_1 hl253_1
            have HR253_2 := aMk hi253_2
            have HC253_2 := aMk hl253_2
            clear hi253_2 hl253_2
            replace p253 := eq_true p253
            replace q253 := eq_true q253
            try go_wp2
            replace HO_253002 := aMk (rD HO_253002.out)
            replace BK250 := aMk (bD BK250.out)
            replace BK251 := aMk (bD BK251.out)
            replace BK252 := aMk (bD BK252.out)
            replace HB := aMk (eD HB.out)
            have p254 : 0 ≤ (x7_1 : Int) := of_decide_eq_true (by first | (with_reducible assumption) | assumption)
            have q254 : x7_1 < (l1.length : Int) := of_decide_eq_true (by first | (with_reducible assumption) | assumption)
            obtain ⟨ad254, A254_1, c254_1, A254_2, c254_2, e254, hx254_0, hx254_1, hx254_2, hx254_3, hl254_1, hi254_1, hl254_2, hi254_2⟩ := at_T39 HR1.out x7_1 p254 q254
            have hw254_3 := hx254_3
            have hw254_2 := hx254_2
            have hw254_1 := hx254_1
            have hw254_0 := hx254_0
            obtain rfl : ad253 = ad254 := (by injection e254)
            replace hx254_0 := (HB.out.cell (World.block_lt_of_cell? w _ hx254_0)).trans hx254_0
            replace hx254_1 := (HB.out.cell (World.block_lt_of_cell? w _ hx254_1)).trans hx254_1
            replace hx254_2 := (HB.out.cell (World.block_lt_of_cell? w _ hx254_2)).trans hx254_2
            replace hx254_3 := (HB.out.cell (World.block_lt_of_cell? w _ hx254_3)).trans hx254_3
            have HR254_1 := aMk hi254_1
            have HC254_1 := aMk hl254_1
            clear hi254_1 hl254_1
            have HR254_2 := aMk hi254_2
            have HC254_2 := aMk hl254_2
            clear hi254_2 hl254_2
            replace p254 := eq_true p254
            replace q254 := eq_true q254
            refine start_ (n := 10) (S := fun w' => w'.cell? ⟨gb252, 0, none⟩ = some (.int .u64 x253000_1) ∧ w'.cell? ⟨gb252, 1, none⟩ = some (.int .i64 x253001_1) ∧ w'.cell? ⟨gb252, 2, none⟩ = some (u253002) ∧ w'.cell? (ad253.add ((x7_1).toNat * 4)) = some (.int .i64 ((rd_T39 l1 x7_1).f0.f0)) ∧ w'.cell? ⟨(ad253.add ((x7_1).toNat * 4)).block, (ad253.add ((x7_1).toNat * 4)).off + 1, none⟩ = some (.slice A254_1 ((rd_T39 l1 x7_1).f0.f1).length c254_1) ∧ w'.cell? ⟨(ad253.add ((x7_1).toNat * 4)).block, (ad253.add ((x7_1).toNat * 4)).off + 2, none⟩ = some (.slice A254_2 ((rd_T39 l1 x7_1).f0.f2).length c254_2) ∧ w'.cell? ⟨(ad253.add ((x7_1).toNat * 4)).block, (ad253.add ((x7_1).toNat * 4)).off + 3, none⟩ = some (.int .u64 ((rd_T39 l1 x7_1).f1))) (ds := [9]) #[false, false, false, false, false, false, false, false, false, false] (by kernel_rfl) rfl rfl ⟨(blk_cell BK252.out 0).trans rfl, (blk_cell BK252.out 1).trans rfl, (blk_cell BK252.out 2).trans rfl, ((HB.out.cell (World.block_lt_of_cell? w _ hw254_0)).trans hw254_0), ((HB.out.cell (World.block_lt_of_cell? w _ hw254_1)).trans hw254_1), ((HB.out.cell (World.block_lt_of_cell? w _ hw254_2)).trans hw254_2), ((HB.out.cell (World.block_lt_of_cell? w _ hw254_3)).trans hw254_3)⟩ (fun hHeld => ?_); refine with_tabW gristmillref06_Of.tab7 gristmillref06_Of.bits7 (fun HT_ HW_ => ?_)
            generalize wr.drew = w36 at HO_253002 BK250 BK251 BK252 HB HR254_1 HR254_2 hx254_0 hx254_1 hx254_2 hx254_3 hHeld ⊢
            refine pure_ (i := 0) (N := some 20) (v := ?_) (a' := ?_) #[true, false, false, false, false, false, false, false, false, false] rfl rfl (any_of HT_.out (by kernel_rfl)) (fun _ _ _ h => h) (Or.inl ⟨by rfl, ?_⟩) ?_ ?_
            rotate_left
            ·intro w'
             go_simp
             with_reducible rfl
            rotate_left
            ·simp only [Act.put, sA, sB, sC, i64_w, i32_w]
             rfl
            refine pure_ (i := 2) (N := some 22) (v := ?_) (a' := ?_) #[true, false, true, false, false, false, false, false, false, false] rfl rfl (any_of HT_.out (by kernel_rfl)) (fun _ _ _ h => h) (Or.inl ⟨by rfl, ?_⟩) ?_ ?_
            rotate_left
            ·intro w'
             go_simp
             with_reducible rfl
            rotate_left
            ·simp only [Act.put, sA, sB, sC, i64_w, i32_w]
             rfl
            refine pure_ (i := 3) (N := some 23) (v := ?_) (a' := ?_) #[true, false, true, true, false, false, false, false, false, false] rfl rfl (any_of HT_.out (by kernel_rfl)) (fun _ _ _ h => h) (Or.inl ⟨by rfl, ?_⟩) ?_ ?_
            rotate_left
            ·intro w'
             go_simp
             with_reducible rfl
            rotate_left
            ·simp only [Act.put, sA, sB, sC, i64_w, i32_w]
             rfl
            refine pure_ (i := 4) (N := some 24) (v := ?_) (a' := ?_) #[true, false, true, true, true, false, false, false, false, false] rfl rfl (any_of HT_.out (by kernel_rfl)) (fun _ _ _ h => h) (Or.inl ⟨by rfl, ?_⟩) ?_ ?_
            rotate_left
            ·intro w'
             go_simp
             with_reducible rfl
            rotate_left
            ·simp only [Act.put, sA, sB, sC, i64_w, i32_w]
             rfl
            refine pure_ (i := 5) (N := some 25) (v := ?_) (a' := ?_) #[true, false, true, true, true, true, false, false, false, false] rfl rfl (any_of HT_.out (by kernel_rfl)) (fun _ _ _ h => h) (Or.inl ⟨by rfl, ?_⟩) ?_ ?_
            rotate_left
            ·intro w'
             go_simp
             with_reducible rfl
            rotate_left
            ·simp only [Act.put, sA, sB, sC, i64_w, i32_w]
             rfl
            refine take_ (i := 1) (N := some 21) (v := ?_) (a' := ?_) #[true, true, true, true, true, true, false, false, false, false] rfl rfl (take_ofW HT_.out HW_.out (by kernel_rfl)) (fun _ _ _ h => h) (Or.inl ⟨by rfl, ?_⟩) hHeld ?_ ?_
            rotate_left
            ·rintro w' ⟨s0, s1, s2, s3, s4, s5, s6⟩
             go_simp
             with_reducible rfl
            rotate_left
            ·simp only [Act.put, sA, sB, sC, i64_w, i32_w]
             rfl
            refine take_ (i := 6) (N := some 26) (v := ?_) (a' := ?_) #[true, true, true, true, true, true, true, false, false, false] rfl rfl (take_ofW HT_.out HW_.out (by kernel_rfl)) (fun _ _ _ h => h) (Or.inl ⟨by rfl, ?_⟩) hHeld ?_ ?_
            rotate_left
            ·rintro w' ⟨s0, s1, s2, s3, s4, s5, s6⟩
             go_simp
             with_reducible rfl
            rotate_left
            ·simp only [Act.put, sA, sB, sC, i64_w, i32_w]
             rfl
            refine pure_ (i := 7) (N := some 27) (v := ?_) (a' := ?_) #[true, true, true, true, true, true, true, true, false, false] rfl rfl (any_of HT_.out (by kernel_rfl)) (fun _ _ _ h => h) (Or.inl ⟨by rfl, ?_⟩) ?_ ?_
            rotate_left
            ·intro w'
             go_simp
             with_reducible rfl
            rotate_left
            ·simp only [Act.put, sA, sB, sC, i64_w, i32_w]
             rfl
            refine pure_ (i := 8) (N := some 28) (v := ?_) (a' := ?_) #[true, true, true, true, true, true, true, true, true, false] rfl rfl (any_of HT_.out (by kernel_rfl)) (fun _ _ _ h => h) (Or.inl ⟨by rfl, ?_⟩) ?_ ?_
            rotate_left
            ·intro w'
             go_simp
             with_reducible rfl
            rotate_left
            ·simp only [Act.put, sA, sB, sC, i64_w, i32_w]
             rfl
            refine last_ (i := 9) (N := none) #[true, true, true, true, true, true, true, true, true, true] rfl rfl (one_of HT_.out (by kernel_rfl)) (by decide) (fun K hK => ?_)
            have hs37 : w36.cell? ⟨gb252, 0, none⟩ = some (.int .u64 x253000_1) := (blk_cell BK252.out 0).trans rfl
            have hfs37 := blk_frozen BK252.out 0
            have hns37_0 := NB250_252.out
            have hns37_1 := NB251_252.out
            have hms37_0 := NB252_250.out
            have hms37_1 := NB252_251.out
            refine skip_ (w1 := ?_) (by rfl) rfl ?_ ?_
            rotate_left
            ·go_simp
             rfl
            refine hK.out _ _ ?_
            clear hK K
            refine done_ (done_of HT_.out (by kernel_rfl)) ?_
            have hnb38 := NB250_251.out
            have hnc38 := NB251_250.out
            have hnb39 := NB250_252.out
            have hnc39 := NB252_250.out
            have hcz40_0 : w36.cell? ⟨gb250, 0, none⟩ = some (.int .i64 a0_0) := (blk_cell BK250.out 0).trans rfl
            have hcz40_1 : w36.cell? ⟨gb250, 1, none⟩ = some (.int .i64 a0_1) := (blk_cell BK250.out 1).trans rfl
            have hfz40_0 := blk_frozen BK250.out 0
            have hfz40_1 := blk_frozen BK250.out 1
            try go_wp2
            have n0_ : Aside0 (Kd.R Kd.string 9 (w36.setCell ⟨gb252, 0, none⟩ (.int .u64 (IntKind.u64.wrap (x253000_1 + ((rd_T39 l1 x7_1).f1))))) w.heap.size (fun _ => True) u253002 x253002_1) := ⟨by (with_reducible repeat (first | apply rA | apply rN | apply rD)); exact Kd.R_mono (Kd.R_far (p := ⟨gb252, 0, none⟩) (Kd.R_types HO_253002.out BK252.out (by decide)) (fun _ hk => hk.2) (.int .u64 (IntKind.u64.wrap (x253000_1 + ((rd_T39 l1 x7_1).f1))))) (fun _ hk => trivial)⟩
            have n1_ : Aside0 ((w36.setCell ⟨gb252, 0, none⟩ (.int .u64 (IntKind.u64.wrap (x253000_1 + ((rd_T39 l1 x7_1).f1))))).heap[gb250]? = some (.cells #[.int .i64 a0_0, .int .i64 a0_1] 23 (0, 0))) := ⟨by (with_reducible repeat (first | apply bA | apply bN | apply bD)); refine blk_far ?_ NB250_252.out _; (with_reducible repeat (first | apply bA | apply bN | apply bD)); exact BK250.out⟩
            have n2_ : Aside0 ((w36.setCell ⟨gb252, 0, none⟩ (.int .u64 (IntKind.u64.wrap (x253000_1 + ((rd_T39 l1 x7_1).f1))))).heap[gb251]? = some (.cells #[.int .u64 0, .int .i64 0, .slice none 0 0] 33 (0, 0))) := ⟨by (with_reducible repeat (first | apply bA | apply bN | apply bD)); refine blk_far ?_ NB251_252.out _; (with_reducible repeat (first | apply bA | apply bN | apply bD)); exact BK251.out⟩
            have n3_ : Aside0 ((w36.setCell ⟨gb252, 0, none⟩ (.int .u64 (IntKind.u64.wrap (x253000_1 + ((rd_T39 l1 x7_1).f1))))).heap[gb252]? = some (.cells #[.int .u64 (IntKind.u64.wrap (x253000_1 + ((rd_T39 l1 x7_1).f1))), .int .i64 x253001_1, u253002] 33 (0, 0))) := ⟨by (with_reducible repeat (first | apply bA | apply bN | apply bD)); refine blk_put (cs := #[.int .u64 x253000_1, .int .i64 x253001_1, u253002]) ?_ 0 _ rfl; (with_reducible repeat (first | apply bA | apply bN | apply bD)); exact BK252.out⟩
            have n4_ : Aside0 (Below w.heap.size w (w36.setCell ⟨gb252, 0, none⟩ (.int .u64 (IntKind.u64.wrap (x253000_1 + ((rd_T39 l1 x7_1).f1)))))) := ⟨by repeat (first | (with_reducible first | exact HB.out | apply eA | apply eN | apply eD | refine eS ?_ GE250.out | refine eS ?_ GE251.out | refine eS ?_ GE252.out) | exact HB.out)⟩
            (try clear HO_253002)
            (try clear BK250)
            (try clear BK251)
            (try clear BK252)
            (try clear HB)
            generalize (w36.setCell ⟨gb252, 0, none⟩ (.int .u64 (IntKind.u64.wrap (x253000_1 + ((rd_T39 l1 x7_1).f1))))) = w41 at n0_ n1_ n2_ n3_ n4_ ⊢
            have HO_253002 := n0_
            have BK250 := n1_
            have BK251 := n2_
            have BK252 := n3_
            have HB := n4_
            clear n0_ n1_ n2_ n3_ n4_
            replace HO_253002 := aMk (rD HO_253002.out)
            replace BK250 := aMk (bD BK250.out)
            replace BK251 := aMk (bD BK251.out)
            replace BK252 := aMk (bD BK252.out)
            replace HB := aMk (eD HB.out)
            have p260 : 0 ≤ (x7_1 : Int) := of_decide_eq_true (by first | (with_reducible assumption) | assumption)
            have q260 : x7_1 < (l1.length : Int) := of_decide_eq_true (by first | (with_reducible assumption) | assumption)
            obtain ⟨ad260, A260_1, c260_1, A260_2, c260_2, e260, hx260_0, hx260_1, hx260_2, hx260_3, hl260_1, hi260_1, hl260_2, hi260_2⟩ := at_T39 HR1.out x7_1 p260 q260
            have hw260_3 := hx260_3
            have hw260_2 := hx260_2
            have hw260_1 := hx260_1
            have hw260_0 := hx260_0
            obtain rfl : ad253 = ad260 := (by injection e260)
            replace hx260_0 := (HB.out.cell (World.block_lt_of_cell? w _ hx260_0)).trans hx260_0
            replace hx260_1 := (HB.out.cell (World.block_lt_of_cell? w _ hx260_1)).trans hx260_1
            replace hx260_2 := (HB.out.cell (World.block_lt_of_cell? w _ hx260_2)).trans hx260_2
            replace hx260_3 := (HB.out.cell (World.block_lt_of_cell? w _ hx260_3)).trans hx260_3
            have HR260_1 := aMk hi260_1
            have HC260_1 := aMk hl260_1
            clear hi260_1 hl260_1
            have HR260_2 := aMk hi260_2
            have HC260_2 := aMk hl260_2
            clear hi260_2 hl260_2
            replace p260 := eq_true p260
            replace q260 := eq_true q260
            have p261 : 0 ≤ (a0_1 : Int) := of_decide_eq_true (by first | (with_reducible assumption) | assumption)
            have q261 : a0_1 < (((rd_T39 l1 x7_1).f0.f2).length : Int) := of_decide_eq_true (by first | (with_reducible assumption) | assumption)
            obtain ⟨ad261, e261, hx261_0⟩ := Kd.at_int HR260_2.out a0_1 p261 q261
            have hw261_0 := hx261_0
            cases e261
            replace hx261_0 := (HB.out.cell (World.block_lt_of_cell? w _ hx261_0)).trans hx261_0
            replace p261 := eq_true p261
            replace q261 := eq_true q261
            refine start_ (n := 16) (S := fun w' => w'.cell? ⟨gb250, 0, none⟩ = some (.int .i64 a0_0) ∧ w'.cell? ⟨gb250, 1, none⟩ = some (.int .i64 a0_1) ∧ w'.cell? ⟨gb252, 0, none⟩ = some (.int .u64 (IntKind.u64.wrap (x253000_1 + ((rd_T39 l1 x7_1).f1)))) ∧ w'.cell? ⟨gb252, 1, none⟩ = some (.int .i64 x253001_1) ∧ w'.cell? ⟨gb252, 2, none⟩ = some (u253002) ∧ w'.cell? (ad253.add ((x7_1).toNat * 4)) = some (.int .i64 ((rd_T39 l1 x7_1).f0.f0)) ∧ w'.cell? ⟨(ad253.add ((x7_1).toNat * 4)).block, (ad253.add ((x7_1).toNat * 4)).off + 1, none⟩ = some (.slice A260_1 ((rd_T39 l1 x7_1).f0.f1).length c260_1) ∧ w'.cell? ⟨(ad253.add ((x7_1).toNat * 4)).block, (ad253.add ((x7_1).toNat * 4)).off + 2, none⟩ = some (.slice (some ad261) ((rd_T39 l1 x7_1).f0.f2).length c260_2) ∧ w'.cell? ⟨(ad253.add ((x7_1).toNat * 4)).block, (ad253.add ((x7_1).toNat * 4)).off + 3, none⟩ = some (.int .u64 ((rd_T39 l1 x7_1).f1)) ∧ w'.cell? (ad261.add (a0_1).toNat) = some (.int .i64 (rd ((rd_T39 l1 x7_1).f0.f2) a0_1))) (ds := []) #[false, false, false, false, false, false, false, false, false, false, false, false, false, false, false, false] (by kernel_rfl) rfl rfl ⟨(blk_cell BK250.out 0).trans rfl, (blk_cell BK250.out 1).trans rfl, (blk_cell BK252.out 0).trans rfl, (blk_cell BK252.out 1).trans rfl, (blk_cell BK252.out 2).trans rfl, ((HB.out.cell (World.block_lt_of_cell? w _ hw260_0)).trans hw260_0), ((HB.out.cell (World.block_lt_of_cell? w _ hw260_1)).trans hw260_1), ((HB.out.cell (World.block_lt_of_cell? w _ hw260_2)).trans hw260_2), ((HB.out.cell (World.block_lt_of_cell? w _ hw260_3)).trans hw260_3), ((HB.out.cell (World.block_lt_of_cell? w _ hw261_0)).trans hw261_0)⟩ (fun hHeld => ?_); refine with_tabW gristmillref06_Of.tab12 gristmillref06_Of.bits12 (fun HT_ HW_ => ?_)
            generalize w41.drew = w42 at HO_253002 BK250 BK251 BK252 HB HR260_1 HR260_2 hx260_0 hx260_1 hx260_2 hx260_3 hx261_0 hHeld ⊢
            refine pure_ (i := 0) (N := some 56) (v := ?_) (a' := ?_) #[true, false, false, false, false, false, false, false, false, false, false, false, false, false, false, false] rfl rfl (any_of HT_.out (by kernel_rfl)) (fun _ _ _ h => h) (Or.inl ⟨by rfl, ?_⟩) ?_ ?_
            rotate_left
            ·intro w'
             go_simp
             with_reducible rfl
            rotate_left
            ·simp only [Act.put, sA, sB, sC, i64_w, i32_w]
             rfl
            refine pure_ (i := 1) (N := some 57) (v := ?_) (a' := ?_) #[true, true, false, false, false, false, false, false, false, false, false, false, false, false, false, false] rfl rfl (any_of HT_.out (by kernel_rfl)) (fun _ _ _ h => h) (Or.inl ⟨by rfl, ?_⟩) ?_ ?_
            rotate_left
            ·intro w'
             go_simp
             with_reducible rfl
            rotate_left
            ·simp only [Act.put, sA, sB, sC, i64_w, i32_w]
             rfl
            refine pure_ (i := 2) (N := some 58) (v := ?_) (a' := ?_) #[true, true, true, false, false, false, false, false, false, false, false, false, false, false, false, false] rfl rfl (any_of HT_.out (by kernel_rfl)) (fun _ _ _ h => h) (Or.inl ⟨by rfl, ?_⟩) ?_ ?_
            rotate_left
            ·intro w'
             go_simp
             with_reducible rfl
            rotate_left
            ·simp only [Act.put, sA, sB, sC, i64_w, i32_w]
             rfl
            refine pure_ (i := 3) (N := some 59) (v := ?_) (a' := ?_) #[true, true, true, true, false, false, false, false, false, false, false, false, false, false, false, false] rfl rfl (any_of HT_.out (by kernel_rfl)) (fun _ _ _ h => h) (Or.inl ⟨by rfl, ?_⟩) ?_ ?_
            rotate_left
            ·intro w'
             go_simp
             with_reducible rfl
            rotate_left
            ·simp only [Act.put, sA, sB, sC, i64_w, i32_w]
             rfl
            refine pure_ (i := 4) (N := some 60) (v := ?_) (a' := ?_) #[true, true, true, true, true, false, false, false, false, false, false, false, false, false, false, false] rfl rfl (any_of HT_.out (by kernel_rfl)) (fun _ _ _ h => h) (Or.inl ⟨by rfl, ?_⟩) ?_ ?_
            rotate_left
            ·intro w'
             go_simp
             with_reducible rfl
            rotate_left
            ·simp only [Act.put, sA, sB, sC, i64_w, i32_w]
             rfl
            refine pure_ (i := 5) (N := some 61) (v := ?_) (a' := ?_) #[true, true, true, true, true, true, false, false, false, false, false, false, false, false, false, false] rfl rfl (any_of HT_.out (by kernel_rfl)) (fun _ _ _ h => h) (Or.inl ⟨by rfl, ?_⟩) ?_ ?_
            rotate_left
            ·intro w'
             go_simp
             with_reducible rfl
            rotate_left
            ·simp only [Act.put, sA, sB, sC, i64_w, i32_w]
             rfl
            refine pure_ (i := 6) (N := some 62) (v := ?_) (a' := ?_) #[true, true, true, true, true, true, true, false, false, false, false, false, false, false, false, false] rfl rfl (any_of HT_.out (by kernel_rfl)) (fun _ _ _ h => h) (Or.inl ⟨by rfl, ?_⟩) ?_ ?_
            rotate_left
            ·intro w'
             go_simp
             with_reducible rfl
            rotate_left
            ·simp only [Act.put, sA, sB, sC, i64_w, i32_w]
             rfl
            refine pure_ (i := 8) (N := some 64) (v := ?_) (a' := ?_) #[true, true, true, true, true, true, true, false, true, false, false, false, false, false, false, false] rfl rfl (any_of HT_.out (by kernel_rfl)) (fun _ _ _ h => h) (Or.inl ⟨by rfl, ?_⟩) ?_ ?_
            rotate_left
            ·intro w'
             go_simp
             with_reducible rfl
            rotate_left
            ·simp only [Act.put, sA, sB, sC, i64_w, i32_w]
             rfl
            refine pure_ (i := 12) (N := some 68) (v := ?_) (a' := ?_) #[true, true, true, true, true, true, true, false, true, false, false, false, true, false, false, false] rfl rfl (any_of HT_.out (by kernel_rfl)) (fun _ _ _ h => h) (Or.inl ⟨by rfl, ?_⟩) ?_ ?_
            rotate_left
            ·intro w'
             go_simp
             with_reducible rfl
            rotate_left
            ·simp only [Act.put, sA, sB, sC, i64_w, i32_w]
             rfl
            refine take_ (i := 7) (N := some 63) (v := ?_) (a' := ?_) #[true, true, true, true, true, true, true, true, true, false, false, false, true, false, false, false] rfl rfl (take_ofW HT_.out HW_.out (by kernel_rfl)) (fun _ _ _ h => h) (Or.inl ⟨by rfl, ?_⟩) hHeld ?_ ?_
            rotate_left
            ·rintro w' ⟨s0, s1, s2, s3, s4, s5, s6, s7, s8, s9⟩
             go_simp
             with_reducible rfl
            rotate_left
            ·simp only [Act.put, sA, sB, sC, i64_w, i32_w]
             rfl
            refine take_ (i := 9) (N := some 65) (v := ?_) (a' := ?_) #[true, true, true, true, true, true, true, true, true, true, false, false, true, false, false, false] rfl rfl (take_ofW HT_.out HW_.out (by kernel_rfl)) (fun _ _ _ h => h) (Or.inl ⟨by rfl, ?_⟩) hHeld ?_ ?_
            rotate_left
            ·rintro w' ⟨s0, s1, s2, s3, s4, s5, s6, s7, s8, s9⟩
             go_simp
             with_reducible rfl
            rotate_left
            ·simp only [Act.put, sA, sB, sC, i64_w, i32_w]
             rfl
            refine pure_ (i := 10) (N := some 66) (v := ?_) (a' := ?_) #[true, true, true, true, true, true, true, true, true, true, true, false, true, false, false, false] rfl rfl (any_of HT_.out (by kernel_rfl)) (fun _ _ _ h => h) (Or.inl ⟨by rfl, ?_⟩) ?_ ?_
            rotate_left
            ·intro w'
             go_simp
             with_reducible rfl
            rotate_left
            ·simp only [Act.put, sA, sB, sC, i64_w, i32_w]
             rfl
            refine take_ (i := 11) (N := some 67) (v := ?_) (a' := ?_) #[true, true, true, true, true, true, true, true, true, true, true, true, true, false, false, false] rfl rfl (take_ofW HT_.out HW_.out (by kernel_rfl)) (fun _ _ _ h => h) (Or.inl ⟨by rfl, ?_⟩) hHeld ?_ ?_
            rotate_left
            ·rintro w' ⟨s0, s1, s2, s3, s4, s5, s6, s7, s8, s9⟩
             go_simp
             with_reducible rfl
            rotate_left
            ·simp only [Act.put, sA, sB, sC, i64_w, i32_w]
             rfl
            refine take_ (i := 13) (N := some 69) (v := ?_) (a' := ?_) #[true, true, true, true, true, true, true, true, true, true, true, true, true, true, false, false] rfl rfl (take_ofW HT_.out HW_.out (by kernel_rfl)) (fun _ _ _ h => h) (Or.inl ⟨by rfl, ?_⟩) hHeld ?_ ?_
            rotate_left
            ·rintro w' ⟨s0, s1, s2, s3, s4, s5, s6, s7, s8, s9⟩
             go_simp
             with_reducible rfl
            rotate_left
            ·simp only [Act.put, sA, sB, sC, i64_w, i32_w]
             rfl
            refine pure_ (i := 14) (N := some 70) (v := ?_) (a' := ?_) #[true, true, true, true, true, true, true, true, true, true, true, true, true, true, true, false] rfl rfl (any_of HT_.out (by kernel_rfl)) (fun _ _ _ h => h) (Or.inl ⟨by rfl, ?_⟩) ?_ ?_
            rotate_left
            ·intro w'
             go_simp
             with_reducible rfl
            rotate_left
            ·simp only [Act.put, sA, sB, sC, i64_w, i32_w]
             rfl
            refine pure_ (i := 15) (N := some 71) (v := ?_) (a' := ?_) #[true, true, true, true, true, true, true, true, true, true, true, true, true, true, true, true] rfl rfl (any_of HT_.out (by kernel_rfl)) (fun _ _ _ h => h) (Or.inl ⟨by rfl, ?_⟩) ?_ ?_
            rotate_left
            ·intro w'
             go_simp
             with_reducible rfl
            rotate_left
            ·simp only [Act.put, sA, sB, sC, i64_w, i32_w]
             rfl
            refine done_ (done_of HT_.out (by kernel_rfl)) ?_
            try go_wp2
            replace HO_253002 := aMk (rD HO_253002.out)
            replace BK250 := aMk (bD BK250.out)
            replace BK251 := aMk (bD BK251.out)
            replace BK252 := aMk (bD BK252.out)
            replace HB := aMk (eD HB.out)
            have p262 : 0 ≤ (x7_1 : Int) := of_decide_eq_true (by first | (with_reducible assumption) | assumption)
            have q262 : x7_1 < (l1.length : Int) := of_decide_eq_true (by first | (with_reducible assumption) | assumption)
            obtain ⟨ad262, A262_1, c262_1, A262_2, c262_2, e262, hx262_0, hx262_1, hx262_2, hx262_3, hl262_1, hi262_1, hl262_2, hi262_2⟩ := at_T39 HR1.out x7_1 p262 q262
            have hw262_3 := hx262_3
            have hw262_2 := hx262_2
            have hw262_1 := hx262_1
            have hw262_0 := hx262_0
            obtain rfl : ad253 = ad262 := (by injection e262)
            replace hx262_0 := (HB.out.cell (World.block_lt_of_cell? w _ hx262_0)).trans hx262_0
            replace hx262_1 := (HB.out.cell (World.block_lt_of_cell? w _ hx262_1)).trans hx262_1
            replace hx262_2 := (HB.out.cell (World.block_lt_of_cell? w _ hx262_2)).trans hx262_2
            replace hx262_3 := (HB.out.cell (World.block_lt_of_cell? w _ hx262_3)).trans hx262_3
            have HR262_1 := aMk hi262_1
            have HC262_1 := aMk hl262_1
            clear hi262_1 hl262_1
            have HR262_2 := aMk hi262_2
            have HC262_2 := aMk hl262_2
            clear hi262_2 hl262_2
            replace p262 := eq_true p262
            replace q262 := eq_true q262
            have p263 : 0 ≤ (a0_1 : Int) := of_decide_eq_true (by first | (with_reducible assumption) | assumption)
            have q263 : a0_1 < (((rd_T39 l1 x7_1).f0.f2).length : Int) := of_decide_eq_true (by first | (with_reducible assumption) | assumption)
            obtain ⟨ad263, e263, hx263_0⟩ := Kd.at_int HR262_2.out a0_1 p263 q263
            have hw263_0 := hx263_0
            cases e263
            replace hx263_0 := (HB.out.cell (World.block_lt_of_cell? w _ hx263_0)).trans hx263_0
            replace p263 := eq_true p263
            replace q263 := eq_true q263
            refine start_ (n := 12) (S := fun w' => w'.cell? ⟨gb250, 0, none⟩ = some (.int .i64 a0_0) ∧ w'.cell? ⟨gb250, 1, none⟩ = some (.int .i64 a0_1) ∧ w'.cell? (ad253.add ((x7_1).toNat * 4)) = some (.int .i64 ((rd_T39 l1 x7_1).f0.f0)) ∧ w'.cell? ⟨(ad253.add ((x7_1).toNat * 4)).block, (ad253.add ((x7_1).toNat * 4)).off + 1, none⟩ = some (.slice A262_1 ((rd_T39 l1 x7_1).f0.f1).length c262_1) ∧ w'.cell? ⟨(ad253.add ((x7_1).toNat * 4)).block, (ad253.add ((x7_1).toNat * 4)).off + 2, none⟩ = some (.slice (some ad263) ((rd_T39 l1 x7_1).f0.f2).length c262_2) ∧ w'.cell? ⟨(ad253.add ((x7_1).toNat * 4)).block, (ad253.add ((x7_1).toNat * 4)).off + 3, none⟩ = some (.int .u64 ((rd_T39 l1 x7_1).f1)) ∧ w'.cell? (ad263.add (a0_1).toNat) = some (.int .i64 (rd ((rd_T39 l1 x7_1).f0.f2) a0_1))) (ds := []) #[false, false, false, false, false, false, false, false, false, false, false, false] (by kernel_rfl) rfl rfl ⟨(blk_cell BK250.out 0).trans rfl, (blk_cell BK250.out 1).trans rfl, ((HB.out.cell (World.block_lt_of_cell? w _ hw262_0)).trans hw262_0), ((HB.out.cell (World.block_lt_of_cell? w _ hw262_1)).trans hw262_1), ((HB.out.cell (World.block_lt_of_cell? w _ hw262_2)).trans hw262_2), ((HB.out.cell (World.block_lt_of_cell? w _ hw262_3)).trans hw262_3), ((HB.out.cell (World.block_lt_of_cell? w _ hw263_0)).trans hw263_0)⟩ (fun hHeld => ?_); refine with_tabW gristmillref06_Of.tab13 gristmillref06_Of.bits13 (fun HT_ HW_ => ?_)
            generalize w42.drew = w43 at HO_253002 BK250 BK251 BK252 HB HR262_1 HR262_2 hx262_0 hx262_1 hx262_2 hx262_3 hx263_0 hHeld ⊢
            refine pure_ (i := 0) (N := some 72) (v := ?_) (a' := ?_) #[true, false, false, false, false, false, false, false, false, false, false, false] rfl rfl (any_of HT_.out (by kernel_rfl)) (fun _ _ _ h => h) (Or.inl ⟨by rfl, ?_⟩) ?_ ?_
            rotate_left
            ·intro w'
             go_simp
             with_reducible rfl
            rotate_left
            ·simp only [Act.put, sA, sB, sC, i64_w, i32_w]
             rfl
            refine pure_ (i := 1) (N := some 73) (v := ?_) (a' := ?_) #[true, true, false, false, false, false, false, false, false, false, false, false] rfl rfl (any_of HT_.out (by kernel_rfl)) (fun _ _ _ h => h) (Or.inl ⟨by rfl, ?_⟩) ?_ ?_
            rotate_left
            ·intro w'
             go_simp
             with_reducible rfl
            rotate_left
            ·simp only [Act.put, sA, sB, sC, i64_w, i32_w]
             rfl
            refine pure_ (i := 2) (N := some 74) (v := ?_) (a' := ?_) #[true, true, true, false, false, false, false, false, false, false, false, false] rfl rfl (any_of HT_.out (by kernel_rfl)) (fun _ _ _ h => h) (Or.inl ⟨by rfl, ?_⟩) ?_ ?_
            rotate_left
            ·intro w'
             go_simp
             with_reducible rfl
            rotate_left
            ·simp only [Act.put, sA, sB, sC, i64_w, i32_w]
             rfl
            refine pure_ (i := 3) (N := some 75) (v := ?_) (a' := ?_) #[true, true, true, true, false, false, false, false, false, false, false, false] rfl rfl (any_of HT_.out (by kernel_rfl)) (fun _ _ _ h => h) (Or.inl ⟨by rfl, ?_⟩) ?_ ?_
            rotate_left
            ·intro w'
             go_simp
             with_reducible rfl
            rotate_left
            ·simp only [Act.put, sA, sB, sC, i64_w, i32_w]
             rfl
            refine pure_ (i := 4) (N := some 76) (v := ?_) (a' := ?_) #[true, true, true, true, true, false, false, false, false, false, false, false] rfl rfl (any_of HT_.out (by kernel_rfl)) (fun _ _ _ h => h) (Or.inl ⟨by rfl, ?_⟩) ?_ ?_
            rotate_left
            ·intro w'
             go_simp
             with_reducible rfl
            rotate_left
            ·simp only [Act.put, sA, sB, sC, i64_w, i32_w]
             rfl
            refine pure_ (i := 6) (N := some 78) (v := ?_) (a' := ?_) #[true, true, true, true, true, false, true, false, false, false, false, false] rfl rfl (any_of HT_.out (by kernel_rfl)) (fun _ _ _ h => h) (Or.inl ⟨by rfl, ?_⟩) ?_ ?_
            rotate_left
            ·intro w'
             go_simp
             with_reducible rfl
            rotate_left
            ·simp only [Act.put, sA, sB, sC, i64_w, i32_w]
             rfl
            refine take_ (i := 5) (N := some 77) (v := ?_) (a' := ?_) #[true, true, true, true, true, true, true, false, false, false, false, false] rfl rfl (take_ofW HT_.out HW_.out (by kernel_rfl)) (fun _ _ _ h => h) (Or.inl ⟨by rfl, ?_⟩) hHeld ?_ ?_
            rotate_left
            ·rintro w' ⟨s0, s1, s2, s3, s4, s5, s6⟩
             go_simp
             with_reducible rfl
            rotate_left
            ·simp only [Act.put, sA, sB, sC, i64_w, i32_w]
             rfl
            refine take_ (i := 7) (N := some 79) (v := ?_) (a' := ?_) #[true, true, true, true, true, true, true, true, false, false, false, false] rfl rfl (take_ofW HT_.out HW_.out (by kernel_rfl)) (fun _ _ _ h => h) (Or.inl ⟨by rfl, ?_⟩) hHeld ?_ ?_
            rotate_left
            ·rintro w' ⟨s0, s1, s2, s3, s4, s5, s6⟩
             go_simp
             with_reducible rfl
            rotate_left
            ·simp only [Act.put, sA, sB, sC, i64_w, i32_w]
             rfl
            refine pure_ (i := 8) (N := some 80) (v := ?_) (a' := ?_) #[true, true, true, true, true, true, true, true, true, false, false, false] rfl rfl (any_of HT_.out (by kernel_rfl)) (fun _ _ _ h => h) (Or.inl ⟨by rfl, ?_⟩) ?_ ?_
            rotate_left
            ·intro w'
             go_simp
             with_reducible rfl
            rotate_left
            ·simp only [Act.put, sA, sB, sC, i64_w, i32_w]
             rfl
            refine take_ (i := 9) (N := some 81) (v := ?_) (a' := ?_) #[true, true, true, true, true, true, true, true, true, true, false, false] rfl rfl (take_ofW HT_.out HW_.out (by kernel_rfl)) (fun _ _ _ h => h) (Or.inl ⟨by rfl, ?_⟩) hHeld ?_ ?_
            rotate_left
            ·rintro w' ⟨s0, s1, s2, s3, s4, s5, s6⟩
             go_simp
             with_reducible rfl
            rotate_left
            ·simp only [Act.put, sA, sB, sC, i64_w, i32_w]
             rfl
            refine pure_ (i := 10) (N := some 82) (v := ?_) (a' := ?_) #[true, true, true, true, true, true, true, true, true, true, true, false] rfl rfl (any_of HT_.out (by kernel_rfl)) (fun _ _ _ h => h) (Or.inl ⟨by rfl, ?_⟩) ?_ ?_
            rotate_left
            ·intro w'
             go_simp
             with_reducible rfl
            rotate_left
            ·simp only [Act.put, sA, sB, sC, i64_w, i32_w]
             rfl
            refine one_ (i := 11) (N := none) #[true, true, true, true, true, true, true, true, true, true, true, true] rfl rfl (one_of HT_.out (by kernel_rfl)) (by decide) (fun K hK => ?_)
            have hs44 : w43.cell? ⟨gb252, 1, none⟩ = some (.int .i64 x253001_1) := (blk_cell BK252.out 1).trans rfl
            have hfs44 := blk_frozen BK252.out 1
            have hns44_0 := NB250_252.out
            have hns44_1 := NB251_252.out
            have hms44_0 := NB252_250.out
            have hms44_1 := NB252_251.out
            refine skip_ (w1 := ?_) (by rfl) rfl ?_ ?_
            rotate_left
            ·go_simp
             rfl
            refine hK.out _ _ ⟨((cell_far (p := ⟨gb252, _, none⟩) NB250_252.out _).trans (hHeld.1)), ((cell_far (p := ⟨gb252, _, none⟩) NB250_252.out _).trans (hHeld.2.1)), ((cell_far (p := ⟨gb252, _, none⟩) (by first | exact Nat.ne_of_lt (Nat.lt_of_lt_of_le (by have := World.block_lt_of_cell? _ _ hw262_0; first | rwa [add_block] at this | exact this) GW252.out) | (rw [add_block]; exact Nat.ne_of_lt (Nat.lt_of_lt_of_le (by have := World.block_lt_of_cell? _ _ hw262_0; first | rwa [add_block] at this | exact this) GW252.out)) | (show (Addr.add _ _).block ≠ _; rw [add_block]; exact Nat.ne_of_lt (Nat.lt_of_lt_of_le (by have := World.block_lt_of_cell? _ _ hw262_0; first | rwa [add_block] at this | exact this) GW252.out)) | (dsimp only; exact Nat.ne_of_lt (Nat.lt_of_lt_of_le (by have := World.block_lt_of_cell? _ _ hw262_0; first | rwa [add_block] at this | exact this) GW252.out))) _).trans (hHeld.2.2.1)), ((cell_far (p := ⟨gb252, _, none⟩) (by first | exact Nat.ne_of_lt (Nat.lt_of_lt_of_le (by have := World.block_lt_of_cell? _ _ hw262_1; first | rwa [add_block] at this | exact this) GW252.out) | (rw [add_block]; exact Nat.ne_of_lt (Nat.lt_of_lt_of_le (by have := World.block_lt_of_cell? _ _ hw262_1; first | rwa [add_block] at this | exact this) GW252.out)) | (show (Addr.add _ _).block ≠ _; rw [add_block]; exact Nat.ne_of_lt (Nat.lt_of_lt_of_le (by have := World.block_lt_of_cell? _ _ hw262_1; first | rwa [add_block] at this | exact this) GW252.out)) | (dsimp only; exact Nat.ne_of_lt (Nat.lt_of_lt_of_le (by have := World.block_lt_of_cell? _ _ hw262_1; first | rwa [add_block] at this | exact this) GW252.out))) _).trans (hHeld.2.2.2.1)), ((cell_far (p := ⟨gb252, _, none⟩) (by first | exact Nat.ne_of_lt (Nat.lt_of_lt_of_le (by have := World.block_lt_of_cell? _ _ hw262_2; first | rwa [add_block] at this | exact this) GW252.out) | (rw [add_block]; exact Nat.ne_of_lt (Nat.lt_of_lt_of_le (by have := World.block_lt_of_cell? _ _ hw262_2; first | rwa [add_block] at this | exact this) GW252.out)) | (show (Addr.add _ _).block ≠ _; rw [add_block]; exact Nat.ne_of_lt (Nat.lt_of_lt_of_le (by have := World.block_lt_of_cell? _ _ hw262_2; first | rwa [add_block] at this | exact this) GW252.out)) | (dsimp only; exact Nat.ne_of_lt (Nat.lt_of_lt_of_le (by have := World.block_lt_of_cell? _ _ hw262_2; first | rwa [add_block] at this | exact this) GW252.out))) _).trans (hHeld.2.2.2.2.1)), ((cell_far (p := ⟨gb252, _, none⟩) (by first | exact Nat.ne_of_lt (Nat.lt_of_lt_of_le (by have := World.block_lt_of_cell? _ _ hw262_3; first | rwa [add_block] at this | exact this) GW252.out) | (rw [add_block]; exact Nat.ne_of_lt (Nat.lt_of_lt_of_le (by have := World.block_lt_of_cell? _ _ hw262_3; first | rwa [add_block] at this | exact this) GW252.out)) | (show (Addr.add _ _).block ≠ _; rw [add_block]; exact Nat.ne_of_lt (Nat.lt_of_lt_of_le (by have := World.block_lt_of_cell? _ _ hw262_3; first | rwa [add_block] at this | exact this) GW252.out)) | (dsimp only; exact Nat.ne_of_lt (Nat.lt_of_lt_of_le (by have := World.block_lt_of_cell? _ _ hw262_3; first | rwa [add_block] at this | exact this) GW252.out))) _).trans (hHeld.2.2.2.2.2.1)), ((cell_far (p := ⟨gb252, _, none⟩) (by first | exact Nat.ne_of_lt (Nat.lt_of_lt_of_le (by have := World.block_lt_of_cell? _ _ hw263_0; first | rwa [add_block] at this | exact this) GW252.out) | (rw [add_block]; exact Nat.ne_of_lt (Nat.lt_of_lt_of_le (by have := World.block_lt_of_cell? _ _ hw263_0; first | rwa [add_block] at this | exact this) GW252.out)) | (show (Addr.add _ _).block ≠ _; rw [add_block]; exact Nat.ne_of_lt (Nat.lt_of_lt_of_le (by have := World.block_lt_of_cell? _ _ hw263_0; first | rwa [add_block] at this | exact this) GW252.out)) | (dsimp only; exact Nat.ne_of_lt (Nat.lt_of_lt_of_le (by have := World.block_lt_of_cell? _ _ hw263_0; first | rwa [add_block] at this | exact this) GW252.out))) _).trans (hHeld.2.2.2.2.2.2))⟩ (fun hHeld => ?_)
            clear hK K
            refine done_ (done_of HT_.out (by kernel_rfl)) ?_
            try go_wp2
            go_roundg k1
            case measure => have := HK1.out; omega
            case rel => exact ⟨(false), (wrap64 (x7_1 + 1)), (IntKind.u64.wrap (x253000_1 + ((rd_T39 l1 x7_1).f1))), (rd ((rd_T39 l1 x7_1).f0.f2) a0_1), (x253002_1), (u253002), (by first | rfl | (simp; done) | (simp [*]; done)), (by first | rfl | (simp; done) | (simp [*]; done)), H', ⟨by have := HK1.out; omega⟩, ⟨by (with_reducible repeat (first | apply rA | apply rN | apply rD)); exact Kd.R_mono (Kd.R_far (p := ⟨gb252, 1, none⟩) (Kd.R_types HO_253002.out BK252.out (by decide)) (fun _ hk => hk.2) (.int .i64 (rd ((rd_T39 l1 x7_1).f0.f2) a0_1))) (fun _ hk => trivial)⟩, ⟨by (with_reducible repeat (first | apply bA | apply bN | apply bD)); refine blk_far ?_ NB250_252.out _; (with_reducible repeat (first | apply bA | apply bN | apply bD)); exact BK250.out⟩, ⟨by (with_reducible repeat (first | apply bA | apply bN | apply bD)); refine blk_far ?_ NB251_252.out _; (with_reducible repeat (first | apply bA | apply bN | apply bD)); exact BK251.out⟩, ⟨by (with_reducible repeat (first | apply bA | apply bN | apply bD)); refine blk_put (cs := #[.int .u64 (IntKind.u64.wrap (x253000_1 + ((rd_T39 l1 x7_1).f1))), .int .i64 x253001_1, u253002]) ?_ 1 _ rfl; (with_reducible repeat (first | apply bA | apply bN | apply bD)); exact BK252.out⟩, ⟨by repeat (first | (with_reducible first | exact HB.out | apply eA | apply eN | apply eD | refine eS ?_ GE250.out | refine eS ?_ GE251.out | refine eS ?_ GE252.out) | exact HB.out)⟩⟩
           ·rw [if_neg c35] at H
            have c35b0 : decide ((rd ((rd_T39 l1 x7_1).f0.f2) a0_1) < x253001_1) = false := decide_eq_false c35
            clear c35
            have H' := aMk H
            clear H
            have p253 : 0 ≤ (x7_1 : Int) := of_decide_eq_true (by first | (with_reducible assumption) | assumption)
            have q253 : x7_1 < (l1.length : Int) := of_decide_eq_true (by first | (with_reducible assumption) | assumption)
            obtain ⟨ad253, A253_1, c253_1, A253_2, c253_2, e253, hx253_0, hx253_1, hx253_2, hx253_3, hl253_1, hi253_1, hl253_2, hi253_2⟩ := at_T39 HR1.out x7_1 p253 q253
            cases e253
            replace hx253_0 := (HB.out.cell (World.block_lt_of_cell? w _ hx253_0)).trans hx253_0
            replace hx253_1 := (HB.out.cell (World.block_lt_of_cell? w _ hx253_1)).trans hx253_1
            replace hx253_2 := (HB.out.cell (World.block_lt_of_cell? w _ hx253_2)).trans hx253_2
            replace hx253_3 := (HB.out.cell (World.block_lt_of_cell? w _ hx253_3)).trans hx253_3
            have HR253_1 := aMk hi253_1
            have HC253_1 := aMk hl253_1
            clear hi253_1 hl253_1
            have HR253_2 := aMk hi253_2
            have HC253_2 := aMk hl253_2
            clear hi253_2 hl253_2
            replace p253 := eq_true p253
            replace q253 := eq_true q253
            try go_wp2
            replace HO_253002 := aMk (rD HO_253002.out)
            replace BK250 := aMk (bD BK250.out)
            replace BK251 := aMk (bD BK251.out)
            replace BK252 := aMk (bD BK252.out)
            replace HB := aMk (eD HB.out)
            have p254 : 0 ≤ (x7_1 : Int) := of_decide_eq_true (by first | (with_reducible assumption) | assumption)
            have q254 : x7_1 < (l1.length : Int) := of_decide_eq_true (by first | (with_reducible assumption) | assumption)
            obtain ⟨ad254, A254_1, c254_1, A254_2, c254_2, e254, hx254_0, hx254_1, hx254_2, hx254_3, hl254_1, hi254_1, hl254_2, hi254_2⟩ := at_T39 HR1.out x7_1 p254 q254
            have hw254_3 := hx254_3
            have hw254_2 := hx254_2
            have hw254_1 := hx254_1
            have hw254_0 := hx254_0
            obtain rfl : ad253 = ad254 := (by injection e254)
            replace hx254_0 := (HB.out.cell (World.block_lt_of_cell? w _ hx254_0)).trans hx254_0
            replace hx254_1 := (HB.out.cell (World.block_lt_of_cell? w _ hx254_1)).trans hx254_1
            replace hx254_2 := (HB.out.cell (World.block_lt_of_cell? w _ hx254_2)).trans hx254_2
            replace hx254_3 := (HB.out.cell (World.block_lt_of_cell? w _ hx254_3)).trans hx254_3
            have HR254_1 := aMk hi254_1
            have HC254_1 := aMk hl254_1
            clear hi254_1 hl254_1
            have HR254_2 := aMk hi254_2
            have HC254_2 := aMk hl254_2
            clear hi254_2 hl254_2
            replace p254 := eq_true p254
            replace q254 := eq_true q254
            refine start_ (n := 10) (S := fun w' => w'.cell? ⟨gb252, 0, none⟩ = some (.int .u64 x253000_1) ∧ w'.cell? ⟨gb252, 1, none⟩ = some (.int .i64 x253001_1) ∧ w'.cell? ⟨gb252, 2, none⟩ = some (u253002) ∧ w'.cell? (ad253.add ((x7_1).toNat * 4)) = some (.int .i64 ((rd_T39 l1 x7_1).f0.f0)) ∧ w'.cell? ⟨(ad253.add ((x7_1).toNat * 4)).block, (ad253.add ((x7_1).toNat * 4)).off + 1, none⟩ = some (.slice A254_1 ((rd_T39 l1 x7_1).f0.f1).length c254_1) ∧ w'.cell? ⟨(ad253.add ((x7_1).toNat * 4)).block, (ad253.add ((x7_1).toNat * 4)).off + 2, none⟩ = some (.slice A254_2 ((rd_T39 l1 x7_1).f0.f2).length c254_2) ∧ w'.cell? ⟨(ad253.add ((x7_1).toNat * 4)).block, (ad253.add ((x7_1).toNat * 4)).off + 3, none⟩ = some (.int .u64 ((rd_T39 l1 x7_1).f1))) (ds := [9]) #[false, false, false, false, false, false, false, false, false, false] (by kernel_rfl) rfl rfl ⟨(blk_cell BK252.out 0).trans rfl, (blk_cell BK252.out 1).trans rfl, (blk_cell BK252.out 2).trans rfl, ((HB.out.cell (World.block_lt_of_cell? w _ hw254_0)).trans hw254_0), ((HB.out.cell (World.block_lt_of_cell? w _ hw254_1)).trans hw254_1), ((HB.out.cell (World.block_lt_of_cell? w _ hw254_2)).trans hw254_2), ((HB.out.cell (World.block_lt_of_cell? w _ hw254_3)).trans hw254_3)⟩ (fun hHeld => ?_); refine with_tabW gristmillref06_Of.tab7 gristmillref06_Of.bits7 (fun HT_ HW_ => ?_)
            generalize wr.drew = w45 at HO_253002 BK250 BK251 BK252 HB HR254_1 HR254_2 hx254_0 hx254_1 hx254_2 hx254_3 hHeld ⊢
            refine pure_ (i := 0) (N := some 20) (v := ?_) (a' := ?_) #[true, false, false, false, false, false, false, false, false, false] rfl rfl (any_of HT_.out (by kernel_rfl)) (fun _ _ _ h => h) (Or.inl ⟨by rfl, ?_⟩) ?_ ?_
            rotate_left
            ·intro w'
             go_simp
             with_reducible rfl
            rotate_left
            ·simp only [Act.put, sA, sB, sC, i64_w, i32_w]
             rfl
            refine pure_ (i := 2) (N := some 22) (v := ?_) (a' := ?_) #[true, false, true, false, false, false, false, false, false, false] rfl rfl (any_of HT_.out (by kernel_rfl)) (fun _ _ _ h => h) (Or.inl ⟨by rfl, ?_⟩) ?_ ?_
            rotate_left
            ·intro w'
             go_simp
             with_reducible rfl
            rotate_left
            ·simp only [Act.put, sA, sB, sC, i64_w, i32_w]
             rfl
            refine pure_ (i := 3) (N := some 23) (v := ?_) (a' := ?_) #[true, false, true, true, false, false, false, false, false, false] rfl rfl (any_of HT_.out (by kernel_rfl)) (fun _ _ _ h => h) (Or.inl ⟨by rfl, ?_⟩) ?_ ?_
            rotate_left
            ·intro w'
             go_simp
             with_reducible rfl
            rotate_left
            ·simp only [Act.put, sA, sB, sC, i64_w, i32_w]
             rfl
            refine pure_ (i := 4) (N := some 24) (v := ?_) (a' := ?_) #[true, false, true, true, true, false, false, false, false, false] rfl rfl (any_of HT_.out (by kernel_rfl)) (fun _ _ _ h => h) (Or.inl ⟨by rfl, ?_⟩) ?_ ?_
            rotate_left
            ·intro w'
             go_simp
             with_reducible rfl
            rotate_left
            ·simp only [Act.put, sA, sB, sC, i64_w, i32_w]
             rfl
            refine pure_ (i := 5) (N := some 25) (v := ?_) (a' := ?_) #[true, false, true, true, true, true, false, false, false, false] rfl rfl (any_of HT_.out (by kernel_rfl)) (fun _ _ _ h => h) (Or.inl ⟨by rfl, ?_⟩) ?_ ?_
            rotate_left
            ·intro w'
             go_simp
             with_reducible rfl
            rotate_left
            ·simp only [Act.put, sA, sB, sC, i64_w, i32_w]
             rfl
            refine take_ (i := 1) (N := some 21) (v := ?_) (a' := ?_) #[true, true, true, true, true, true, false, false, false, false] rfl rfl (take_ofW HT_.out HW_.out (by kernel_rfl)) (fun _ _ _ h => h) (Or.inl ⟨by rfl, ?_⟩) hHeld ?_ ?_
            rotate_left
            ·rintro w' ⟨s0, s1, s2, s3, s4, s5, s6⟩
             go_simp
             with_reducible rfl
            rotate_left
            ·simp only [Act.put, sA, sB, sC, i64_w, i32_w]
             rfl
            refine take_ (i := 6) (N := some 26) (v := ?_) (a' := ?_) #[true, true, true, true, true, true, true, false, false, false] rfl rfl (take_ofW HT_.out HW_.out (by kernel_rfl)) (fun _ _ _ h => h) (Or.inl ⟨by rfl, ?_⟩) hHeld ?_ ?_
            rotate_left
            ·rintro w' ⟨s0, s1, s2, s3, s4, s5, s6⟩
             go_simp
             with_reducible rfl
            rotate_left
            ·simp only [Act.put, sA, sB, sC, i64_w, i32_w]
             rfl
            refine pure_ (i := 7) (N := some 27) (v := ?_) (a' := ?_) #[true, true, true, true, true, true, true, true, false, false] rfl rfl (any_of HT_.out (by kernel_rfl)) (fun _ _ _ h => h) (Or.inl ⟨by rfl, ?_⟩) ?_ ?_
            rotate_left
            ·intro w'
             go_simp
             with_reducible rfl
            rotate_left
            ·simp only [Act.put, sA, sB, sC, i64_w, i32_w]
             rfl
            refine pure_ (i := 8) (N := some 28) (v := ?_) (a' := ?_) #[true, true, true, true, true, true, true, true, true, false] rfl rfl (any_of HT_.out (by kernel_rfl)) (fun _ _ _ h => h) (Or.inl ⟨by rfl, ?_⟩) ?_ ?_
            rotate_left
            ·intro w'
             go_simp
             with_reducible rfl
            rotate_left
            ·simp only [Act.put, sA, sB, sC, i64_w, i32_w]
             rfl
            refine last_ (i := 9) (N := none) #[true, true, true, true, true, true, true, true, true, true] rfl rfl (one_of HT_.out (by kernel_rfl)) (by decide) (fun K hK => ?_)
            have hs46 : w45.cell? ⟨gb252, 0, none⟩ = some (.int .u64 x253000_1) := (blk_cell BK252.out 0).trans rfl
            have hfs46 := blk_frozen BK252.out 0
            have hns46_0 := NB250_252.out
            have hns46_1 := NB251_252.out
            have hms46_0 := NB252_250.out
            have hms46_1 := NB252_251.out
            refine skip_ (w1 := ?_) (by rfl) rfl ?_ ?_
            rotate_left
            ·go_simp
             rfl
            refine hK.out _ _ ?_
            clear hK K
            refine done_ (done_of HT_.out (by kernel_rfl)) ?_
            have hnb47 := NB250_251.out
            have hnc47 := NB251_250.out
            have hnb48 := NB250_252.out
            have hnc48 := NB252_250.out
            have hcz49_0 : w45.cell? ⟨gb250, 0, none⟩ = some (.int .i64 a0_0) := (blk_cell BK250.out 0).trans rfl
            have hcz49_1 : w45.cell? ⟨gb250, 1, none⟩ = some (.int .i64 a0_1) := (blk_cell BK250.out 1).trans rfl
            have hfz49_0 := blk_frozen BK250.out 0
            have hfz49_1 := blk_frozen BK250.out 1
            try go_wp2
            have n0_ : Aside0 (Kd.R Kd.string 9 (w45.setCell ⟨gb252, 0, none⟩ (.int .u64 (IntKind.u64.wrap (x253000_1 + ((rd_T39 l1 x7_1).f1))))) w.heap.size (fun _ => True) u253002 x253002_1) := ⟨by (with_reducible repeat (first | apply rA | apply rN | apply rD)); exact Kd.R_mono (Kd.R_far (p := ⟨gb252, 0, none⟩) (Kd.R_types HO_253002.out BK252.out (by decide)) (fun _ hk => hk.2) (.int .u64 (IntKind.u64.wrap (x253000_1 + ((rd_T39 l1 x7_1).f1))))) (fun _ hk => trivial)⟩
            have n1_ : Aside0 ((w45.setCell ⟨gb252, 0, none⟩ (.int .u64 (IntKind.u64.wrap (x253000_1 + ((rd_T39 l1 x7_1).f1))))).heap[gb250]? = some (.cells #[.int .i64 a0_0, .int .i64 a0_1] 23 (0, 0))) := ⟨by (with_reducible repeat (first | apply bA | apply bN | apply bD)); refine blk_far ?_ NB250_252.out _; (with_reducible repeat (first | apply bA | apply bN | apply bD)); exact BK250.out⟩
            have n2_ : Aside0 ((w45.setCell ⟨gb252, 0, none⟩ (.int .u64 (IntKind.u64.wrap (x253000_1 + ((rd_T39 l1 x7_1).f1))))).heap[gb251]? = some (.cells #[.int .u64 0, .int .i64 0, .slice none 0 0] 33 (0, 0))) := ⟨by (with_reducible repeat (first | apply bA | apply bN | apply bD)); refine blk_far ?_ NB251_252.out _; (with_reducible repeat (first | apply bA | apply bN | apply bD)); exact BK251.out⟩
            have n3_ : Aside0 ((w45.setCell ⟨gb252, 0, none⟩ (.int .u64 (IntKind.u64.wrap (x253000_1 + ((rd_T39 l1 x7_1).f1))))).heap[gb252]? = some (.cells #[.int .u64 (IntKind.u64.wrap (x253000_1 + ((rd_T39 l1 x7_1).f1))), .int .i64 x253001_1, u253002] 33 (0, 0))) := ⟨by (with_reducible repeat (first | apply bA | apply bN | apply bD)); refine blk_put (cs := #[.int .u64 x253000_1, .int .i64 x253001_1, u253002]) ?_ 0 _ rfl; (with_reducible repeat (first | apply bA | apply bN | apply bD)); exact BK252.out⟩
            have n4_ : Aside0 (Below w.heap.size w (w45.setCell ⟨gb252, 0, none⟩ (.int .u64 (IntKind.u64.wrap (x253000_1 + ((rd_T39 l1 x7_1).f1)))))) := ⟨by repeat (first | (with_reducible first | exact HB.out | apply eA | apply eN | apply eD | refine eS ?_ GE250.out | refine eS ?_ GE251.out | refine eS ?_ GE252.out) | exact HB.out)⟩
            (try clear HO_253002)
            (try clear BK250)
            (try clear BK251)
            (try clear BK252)
            (try clear HB)
            generalize (w45.setCell ⟨gb252, 0, none⟩ (.int .u64 (IntKind.u64.wrap (x253000_1 + ((rd_T39 l1 x7_1).f1))))) = w50 at n0_ n1_ n2_ n3_ n4_ ⊢
            have HO_253002 := n0_
            have BK250 := n1_
            have BK251 := n2_
            have BK252 := n3_
            have HB := n4_
            clear n0_ n1_ n2_ n3_ n4_
            replace HO_253002 := aMk (rD HO_253002.out)
            replace BK250 := aMk (bD BK250.out)
            replace BK251 := aMk (bD BK251.out)
            replace BK252 := aMk (bD BK252.out)
            replace HB := aMk (eD HB.out)
            have p260 : 0 ≤ (x7_1 : Int) := of_decide_eq_true (by first | (with_reducible assumption) | assumption)
            have q260 : x7_1 < (l1.length : Int) := of_decide_eq_true (by first | (with_reducible assumption) | assumption)
            obtain ⟨ad260, A260_1, c260_1, A260_2, c260_2, e260, hx260_0, hx260_1, hx260_2, hx260_3, hl260_1, hi260_1, hl260_2, hi260_2⟩ := at_T39 HR1.out x7_1 p260 q260
            have hw260_3 := hx260_3
            have hw260_2 := hx260_2
            have hw260_1 := hx260_1
            have hw260_0 := hx260_0
            obtain rfl : ad253 = ad260 := (by injection e260)
            replace hx260_0 := (HB.out.cell (World.block_lt_of_cell? w _ hx260_0)).trans hx260_0
            replace hx260_1 := (HB.out.cell (World.block_lt_of_cell? w _ hx260_1)).trans hx260_1
            replace hx260_2 := (HB.out.cell (World.block_lt_of_cell? w _ hx260_2)).trans hx260_2
            replace hx260_3 := (HB.out.cell (World.block_lt_of_cell? w _ hx260_3)).trans hx260_3
            have HR260_1 := aMk hi260_1
            have HC260_1 := aMk hl260_1
            clear hi260_1 hl260_1
            have HR260_2 := aMk hi260_2
            have HC260_2 := aMk hl260_2
            clear hi260_2 hl260_2
            replace p260 := eq_true p260
            replace q260 := eq_true q260
            have p261 : 0 ≤ (a0_1 : Int) := of_decide_eq_true (by first | (with_reducible assumption) | assumption)
            have q261 : a0_1 < (((rd_T39 l1 x7_1).f0.f2).length : Int) := of_decide_eq_true (by first | (with_reducible assumption) | assumption)
            obtain ⟨ad261, e261, hx261_0⟩ := Kd.at_int HR260_2.out a0_1 p261 q261
            have hw261_0 := hx261_0
            cases e261
            replace hx261_0 := (HB.out.cell (World.block_lt_of_cell? w _ hx261_0)).trans hx261_0
            replace p261 := eq_true p261
            replace q261 := eq_true q261
            refine start_ (n := 16) (S := fun w' => w'.cell? ⟨gb250, 0, none⟩ = some (.int .i64 a0_0) ∧ w'.cell? ⟨gb250, 1, none⟩ = some (.int .i64 a0_1) ∧ w'.cell? ⟨gb252, 0, none⟩ = some (.int .u64 (IntKind.u64.wrap (x253000_1 + ((rd_T39 l1 x7_1).f1)))) ∧ w'.cell? ⟨gb252, 1, none⟩ = some (.int .i64 x253001_1) ∧ w'.cell? ⟨gb252, 2, none⟩ = some (u253002) ∧ w'.cell? (ad253.add ((x7_1).toNat * 4)) = some (.int .i64 ((rd_T39 l1 x7_1).f0.f0)) ∧ w'.cell? ⟨(ad253.add ((x7_1).toNat * 4)).block, (ad253.add ((x7_1).toNat * 4)).off + 1, none⟩ = some (.slice A260_1 ((rd_T39 l1 x7_1).f0.f1).length c260_1) ∧ w'.cell? ⟨(ad253.add ((x7_1).toNat * 4)).block, (ad253.add ((x7_1).toNat * 4)).off + 2, none⟩ = some (.slice (some ad261) ((rd_T39 l1 x7_1).f0.f2).length c260_2) ∧ w'.cell? ⟨(ad253.add ((x7_1).toNat * 4)).block, (ad253.add ((x7_1).toNat * 4)).off + 3, none⟩ = some (.int .u64 ((rd_T39 l1 x7_1).f1)) ∧ w'.cell? (ad261.add (a0_1).toNat) = some (.int .i64 (rd ((rd_T39 l1 x7_1).f0.f2) a0_1))) (ds := []) #[false, false, false, false, false, false, false, false, false, false, false, false, false, false, false, false] (by kernel_rfl) rfl rfl ⟨(blk_cell BK250.out 0).trans rfl, (blk_cell BK250.out 1).trans rfl, (blk_cell BK252.out 0).trans rfl, (blk_cell BK252.out 1).trans rfl, (blk_cell BK252.out 2).trans rfl, ((HB.out.cell (World.block_lt_of_cell? w _ hw260_0)).trans hw260_0), ((HB.out.cell (World.block_lt_of_cell? w _ hw260_1)).trans hw260_1), ((HB.out.cell (World.block_lt_of_cell? w _ hw260_2)).trans hw260_2), ((HB.out.cell (World.block_lt_of_cell? w _ hw260_3)).trans hw260_3), ((HB.out.cell (World.block_lt_of_cell? w _ hw261_0)).trans hw261_0)⟩ (fun hHeld => ?_); refine with_tabW gristmillref06_Of.tab12 gristmillref06_Of.bits12 (fun HT_ HW_ => ?_)
            generalize w50.drew = w51 at HO_253002 BK250 BK251 BK252 HB HR260_1 HR260_2 hx260_0 hx260_1 hx260_2 hx260_3 hx261_0 hHeld ⊢
            refine pure_ (i := 0) (N := some 56) (v := ?_) (a' := ?_) #[true, false, false, false, false, false, false, false, false, false, false, false, false, false, false, false] rfl rfl (any_of HT_.out (by kernel_rfl)) (fun _ _ _ h => h) (Or.inl ⟨by rfl, ?_⟩) ?_ ?_
            rotate_left
            ·intro w'
             go_simp
             with_reducible rfl
            rotate_left
            ·simp only [Act.put, sA, sB, sC, i64_w, i32_w]
             rfl
            refine pure_ (i := 1) (N := some 57) (v := ?_) (a' := ?_) #[true, true, false, false, false, false, false, false, false, false, false, false, false, false, false, false] rfl rfl (any_of HT_.out (by kernel_rfl)) (fun _ _ _ h => h) (Or.inl ⟨by rfl, ?_⟩) ?_ ?_
            rotate_left
            ·intro w'
             go_simp
             with_reducible rfl
            rotate_left
            ·simp only [Act.put, sA, sB, sC, i64_w, i32_w]
             rfl
            refine pure_ (i := 2) (N := some 58) (v := ?_) (a' := ?_) #[true, true, true, false, false, false, false, false, false, false, false, false, false, false, false, false] rfl rfl (any_of HT_.out (by kernel_rfl)) (fun _ _ _ h => h) (Or.inl ⟨by rfl, ?_⟩) ?_ ?_
            rotate_left
            ·intro w'
             go_simp
             with_reducible rfl
            rotate_left
            ·simp only [Act.put, sA, sB, sC, i64_w, i32_w]
             rfl
            refine pure_ (i := 3) (N := some 59) (v := ?_) (a' := ?_) #[true, true, true, true, false, false, false, false, false, false, false, false, false, false, false, false] rfl rfl (any_of HT_.out (by kernel_rfl)) (fun _ _ _ h => h) (Or.inl ⟨by rfl, ?_⟩) ?_ ?_
            rotate_left
            ·intro w'
             go_simp
             with_reducible rfl
            rotate_left
            ·simp only [Act.put, sA, sB, sC, i64_w, i32_w]
             rfl
            refine pure_ (i := 4) (N := some 60) (v := ?_) (a' := ?_) #[true, true, true, true, true, false, false, false, false, false, false, false, false, false, false, false] rfl rfl (any_of HT_.out (by kernel_rfl)) (fun _ _ _ h => h) (Or.inl ⟨by rfl, ?_⟩) ?_ ?_
            rotate_left
            ·intro w'
             go_simp
             with_reducible rfl
            rotate_left
            ·simp only [Act.put, sA, sB, sC, i64_w, i32_w]
             rfl
            refine pure_ (i := 5) (N := some 61) (v := ?_) (a' := ?_) #[true, true, true, true, true, true, false, false, false, false, false, false, false, false, false, false] rfl rfl (any_of HT_.out (by kernel_rfl)) (fun _ _ _ h => h) (Or.inl ⟨by rfl, ?_⟩) ?_ ?_
            rotate_left
            ·intro w'
             go_simp
             with_reducible rfl
            rotate_left
            ·simp only [Act.put, sA, sB, sC, i64_w, i32_w]
             rfl
            refine pure_ (i := 6) (N := some 62) (v := ?_) (a' := ?_) #[true, true, true, true, true, true, true, false, false, false, false, false, false, false, false, false] rfl rfl (any_of HT_.out (by kernel_rfl)) (fun _ _ _ h => h) (Or.inl ⟨by rfl, ?_⟩) ?_ ?_
            rotate_left
            ·intro w'
             go_simp
             with_reducible rfl
            rotate_left
            ·simp only [Act.put, sA, sB, sC, i64_w, i32_w]
             rfl
            refine pure_ (i := 8) (N := some 64) (v := ?_) (a' := ?_) #[true, true, true, true, true, true, true, false, true, false, false, false, false, false, false, false] rfl rfl (any_of HT_.out (by kernel_rfl)) (fun _ _ _ h => h) (Or.inl ⟨by rfl, ?_⟩) ?_ ?_
            rotate_left
            ·intro w'
             go_simp
             with_reducible rfl
            rotate_left
            ·simp only [Act.put, sA, sB, sC, i64_w, i32_w]
             rfl
            refine pure_ (i := 12) (N := some 68) (v := ?_) (a' := ?_) #[true, true, true, true, true, true, true, false, true, false, false, false, true, false, false, false] rfl rfl (any_of HT_.out (by kernel_rfl)) (fun _ _ _ h => h) (Or.inl ⟨by rfl, ?_⟩) ?_ ?_
            rotate_left
            ·intro w'
             go_simp
             with_reducible rfl
            rotate_left
            ·simp only [Act.put, sA, sB, sC, i64_w, i32_w]
             rfl
            refine take_ (i := 7) (N := some 63) (v := ?_) (a' := ?_) #[true, true, true, true, true, true, true, true, true, false, false, false, true, false, false, false] rfl rfl (take_ofW HT_.out HW_.out (by kernel_rfl)) (fun _ _ _ h => h) (Or.inl ⟨by rfl, ?_⟩) hHeld ?_ ?_
            rotate_left
            ·rintro w' ⟨s0, s1, s2, s3, s4, s5, s6, s7, s8, s9⟩
             go_simp
             with_reducible rfl
            rotate_left
            ·simp only [Act.put, sA, sB, sC, i64_w, i32_w]
             rfl
            refine take_ (i := 9) (N := some 65) (v := ?_) (a' := ?_) #[true, true, true, true, true, true, true, true, true, true, false, false, true, false, false, false] rfl rfl (take_ofW HT_.out HW_.out (by kernel_rfl)) (fun _ _ _ h => h) (Or.inl ⟨by rfl, ?_⟩) hHeld ?_ ?_
            rotate_left
            ·rintro w' ⟨s0, s1, s2, s3, s4, s5, s6, s7, s8, s9⟩
             go_simp
             with_reducible rfl
            rotate_left
            ·simp only [Act.put, sA, sB, sC, i64_w, i32_w]
             rfl
            refine pure_ (i := 10) (N := some 66) (v := ?_) (a' := ?_) #[true, true, true, true, true, true, true, true, true, true, true, false, true, false, false, false] rfl rfl (any_of HT_.out (by kernel_rfl)) (fun _ _ _ h => h) (Or.inl ⟨by rfl, ?_⟩) ?_ ?_
            rotate_left
            ·intro w'
             go_simp
             with_reducible rfl
            rotate_left
            ·simp only [Act.put, sA, sB, sC, i64_w, i32_w]
             rfl
            refine take_ (i := 11) (N := some 67) (v := ?_) (a' := ?_) #[true, true, true, true, true, true, true, true, true, true, true, true, true, false, false, false] rfl rfl (take_ofW HT_.out HW_.out (by kernel_rfl)) (fun _ _ _ h => h) (Or.inl ⟨by rfl, ?_⟩) hHeld ?_ ?_
            rotate_left
            ·rintro w' ⟨s0, s1, s2, s3, s4, s5, s6, s7, s8, s9⟩
             go_simp
             with_reducible rfl
            rotate_left
            ·simp only [Act.put, sA, sB, sC, i64_w, i32_w]
             rfl
            refine take_ (i := 13) (N := some 69) (v := ?_) (a' := ?_) #[true, true, true, true, true, true, true, true, true, true, true, true, true, true, false, false] rfl rfl (take_ofW HT_.out HW_.out (by kernel_rfl)) (fun _ _ _ h => h) (Or.inl ⟨by rfl, ?_⟩) hHeld ?_ ?_
            rotate_left
            ·rintro w' ⟨s0, s1, s2, s3, s4, s5, s6, s7, s8, s9⟩
             go_simp
             with_reducible rfl
            rotate_left
            ·simp only [Act.put, sA, sB, sC, i64_w, i32_w]
             rfl
            refine pure_ (i := 14) (N := some 70) (v := ?_) (a' := ?_) #[true, true, true, true, true, true, true, true, true, true, true, true, true, true, true, false] rfl rfl (any_of HT_.out (by kernel_rfl)) (fun _ _ _ h => h) (Or.inl ⟨by rfl, ?_⟩) ?_ ?_
            rotate_left
            ·intro w'
             go_simp
             with_reducible rfl
            rotate_left
            ·simp only [Act.put, sA, sB, sC, i64_w, i32_w]
             rfl
            refine pure_ (i := 15) (N := some 71) (v := ?_) (a' := ?_) #[true, true, true, true, true, true, true, true, true, true, true, true, true, true, true, true] rfl rfl (any_of HT_.out (by kernel_rfl)) (fun _ _ _ h => h) (Or.inl ⟨by rfl, ?_⟩) ?_ ?_
            rotate_left
            ·intro w'
             go_simp
             with_reducible rfl
            rotate_left
            ·simp only [Act.put, sA, sB, sC, i64_w, i32_w]
             rfl
            refine done_ (done_of HT_.out (by kernel_rfl)) ?_
            try go_wp2
            go_roundg k1
            case measure => have := HK1.out; omega
            case rel => exact ⟨(false), (wrap64 (x7_1 + 1)), (IntKind.u64.wrap (x253000_1 + ((rd_T39 l1 x7_1).f1))), (x253001_1), (x253002_1), (u253002), (by first | rfl | (simp; done) | (simp [*]; done)), (by first | rfl | (simp; done) | (simp [*]; done)), H', ⟨by have := HK1.out; omega⟩, ⟨by (with_reducible repeat (first | apply rA | apply rN | apply rD)); exact HO_253002.out⟩, ⟨by (with_reducible repeat (first | apply bA | apply bN | apply bD)); exact BK250.out⟩, ⟨by (with_reducible repeat (first | apply bA | apply bN | apply bD)); exact BK251.out⟩, ⟨by (with_reducible repeat (first | apply bA | apply bN | apply bD)); exact BK252.out⟩, ⟨by repeat (first | (with_reducible first | exact HB.out | apply eA | apply eN | apply eD | refine eS ?_ GE250.out | refine eS ?_ GE251.out | refine eS ?_ GE252.out) | exact HB.out)⟩⟩
          ·rw [if_neg c34] at H
           exact absurd H (by simp)
         ·rw [if_neg c33] at H
          exact absurd H (by simp)
       ·rw [if_neg c20] at H
        have c20b0 : (a0_0 == 3) = false := beq_eq_false_iff_ne.mpr c20
        have c20b1 : (a0_0 != 3) = true := bne_iff_ne.mpr c20
        by_cases c52 : a0_0 = 4
        ·rw [if_pos c52] at H
         have c52b0 : (a0_0 == 4) = true := beq_iff_eq.mpr c52
         have c52b1 : (a0_0 != 4) = false := bne_eq_false_iff_eq.mpr c52
         clear c52
         by_cases c53 : x6_1 = true
         ·subst c53
          have H1 : (if 0 ≤ a0_1 then (if a0_1 < (((rd_T39 l1 x7_1).f0.f2).length : Int) then (gristmillref06_Of.l0 k1 l1 false (wrap64 (x7_1 + 1)) a0_0 a0_1 (IntKind.u64.wrap (x253000_1 + ((rd_T39 l1 x7_1).f1))) (rd ((rd_T39 l1 x7_1).f0.f2) a0_1) x253002_1) else (none)) else (none)) = some (r1, r2, r3) := by rw [if_pos rfl] at H; exact H
          clear H
          have H := H1
          clear H1
          by_cases c54 : 0 ≤ a0_1
          ·rw [if_pos c54] at H
           have c54b0 : decide (0 ≤ a0_1) = true := decide_eq_true c54
           clear c54
           by_cases c55 : a0_1 < (((rd_T39 l1 x7_1).f0.f2).length : Int)
           ·rw [if_pos c55] at H
            have c55b0 : decide (a0_1 < (((rd_T39 l1 x7_1).f0.f2).length : Int)) = true := decide_eq_true c55
            clear c55
            have H' := aMk H
            clear H
            have p253 : 0 ≤ (x7_1 : Int) := of_decide_eq_true (by first | (with_reducible assumption) | assumption)
            have q253 : x7_1 < (l1.length : Int) := of_decide_eq_true (by first | (with_reducible assumption) | assumption)
            obtain ⟨ad253, A253_1, c253_1, A253_2, c253_2, e253, hx253_0, hx253_1, hx253_2, hx253_3, hl253_1, hi253_1, hl253_2, hi253_2⟩ := at_T39 HR1.out x7_1 p253 q253
            cases e253
            replace hx253_0 := (HB.out.cell (World.block_lt_of_cell? w _ hx253_0)).trans hx253_0
            replace hx253_1 := (HB.out.cell (World.block_lt_of_cell? w _ hx253_1)).trans hx253_1
            replace hx253_2 := (HB.out.cell (World.block_lt_of_cell? w _ hx253_2)).trans hx253_2
            replace hx253_3 := (HB.out.cell (World.block_lt_of_cell? w _ hx253_3)).trans hx253_3
            have HR253_1 := aMk hi253_1
            have HC253_1 := aMk hl253_1
            clear hi253_1 hl253_1
            have HR253_2 := aMk hi253_2
            have HC253_2 := aMk hl253_2
            clear hi253_2 hl253_2
            replace p253 := eq_true p253
            replace q253 := eq_true q253
            try go_wp2
            replace HO_253002 := aMk (rD HO_253002.out)
            replace BK250 := aMk (bD BK250.out)
            replace BK251 := aMk (bD BK251.out)
            replace BK252 := aMk (bD BK252.out)
            replace HB := aMk (eD HB.out)
            have p254 : 0 ≤ (x7_1 : Int) := of_decide_eq_true (by first | (with_reducible assumption) | assumption)
            have q254 : x7_1 < (l1.length : Int) := of_decide_eq_true (by first | (with_reducible assumption) | assumption)
            obtain ⟨ad254, A254_1, c254_1, A254_2, c254_2, e254, hx254_0, hx254_1, hx254_2, hx254_3, hl254_1, hi254_1, hl254_2, hi254_2⟩ := at_T39 HR1.out x7_1 p254 q254
            have hw254_3 := hx254_3
            have hw254_2 := hx254_2
            have hw254_1 := hx254_1
            have hw254_0 := hx254_0
            obtain rfl : ad253 = ad254 := (by injection e254)
            replace hx254_0 := (HB.out.cell (World.block_lt_of_cell? w _ hx254_0)).trans hx254_0
            replace hx254_1 := (HB.out.cell (World.block_lt_of_cell? w _ hx254_1)).trans hx254_1
            replace hx254_2 := (HB.out.cell (World.block_lt_of_cell? w _ hx254_2)).trans hx254_2
            replace hx254_3 := (HB.out.cell (World.block_lt_of_cell? w _ hx254_3)).trans hx254_3
            have HR254_1 := aMk hi254_1
            have HC254_1 := aMk hl254_1
            clear hi254_1 hl254_1
            have HR254_2 := aMk hi254_2
            have HC254_2 := aMk hl254_2
            clear hi254_2 hl254_2
            replace p254 := eq_true p254
            replace q254 := eq_true q254
            refine start_ (n := 10) (S := fun w' => w'.cell? ⟨gb252, 0, none⟩ = some (.int .u64 x253000_1) ∧ w'.cell? ⟨gb252, 1, none⟩ = some (.int .i64 x253001_1) ∧ w'.cell? ⟨gb252, 2, none⟩ = some (u253002) ∧ w'.cell? (ad253.add ((x7_1).toNat * 4)) = some (.int .i64 ((rd_T39 l1 x7_1).f0.f0)) ∧ w'.cell? ⟨(ad253.add ((x7_1).toNat * 4)).block, (ad253.add ((x7_1).toNat * 4)).off + 1, none⟩ = some (.slice A254_1 ((rd_T39 l1 x7_1).f0.f1).length c254_1) ∧ w'.cell? ⟨(ad253.add ((x7_1).toNat * 4)).block, (ad253.add ((x7_1).toNat * 4)).off + 2, none⟩ = some (.slice A254_2 ((rd_T39 l1 x7_1).f0.f2).length c254_2) ∧ w'.cell? ⟨(ad253.add ((x7_1).toNat * 4)).block, (ad253.add ((x7_1).toNat * 4)).off + 3, none⟩ = some (.int .u64 ((rd_T39 l1 x7_1).f1))) (ds := [9]) #[false, false, false, false, false, false, false, false, false, false] (by kernel_rfl) rfl rfl ⟨(blk_cell BK252.out 0).trans rfl, (blk_cell BK252.out 1).trans rfl, (blk_cell BK252.out 2).trans rfl, ((HB.out.cell (World.block_lt_of_cell? w _ hw254_0)).trans hw254_0), ((HB.out.cell (World.block_lt_of_cell? w _ hw254_1)).trans hw254_1), ((HB.out.cell (World.block_lt_of_cell? w _ hw254_2)).trans hw254_2), ((HB.out.cell (World.block_lt_of_cell? w _ hw254_3)).trans hw254_3)⟩ (fun hHeld => ?_); refine with_tabW gristmillref06_Of.tab7 gristmillref06_Of.bits7 (fun HT_ HW_ => ?_)
            generalize wr.drew = w56 at HO_253002 BK250 BK251 BK252 HB HR254_1 HR254_2 hx254_0 hx254_1 hx254_2 hx254_3 hHeld ⊢
            refine pure_ (i := 0) (N := some 20) (v := ?_) (a' := ?_) #[true, false, false, false, false, false, false, false, false, false] rfl rfl (any_of HT_.out (by kernel_rfl)) (fun _ _ _ h => h) (Or.inl ⟨by rfl, ?_⟩) ?_ ?_
            rotate_left
            ·intro w'
             go_simp
             with_reducible rfl
            rotate_left
            ·simp only [Act.put, sA, sB, sC, i64_w, i32_w]
             rfl
            refine pure_ (i := 2) (N := some 22) (v := ?_) (a' := ?_) #[true, false, true, false, false, false, false, false, false, false] rfl rfl (any_of HT_.out (by kernel_rfl)) (fun _ _ _ h => h) (Or.inl ⟨by rfl, ?_⟩) ?_ ?_
            rotate_left
            ·intro w'
             go_simp
             with_reducible rfl
            rotate_left
            ·simp only [Act.put, sA, sB, sC, i64_w, i32_w]
             rfl
            refine pure_ (i := 3) (N := some 23) (v := ?_) (a' := ?_) #[true, false, true, true, false, false, false, false, false, false] rfl rfl (any_of HT_.out (by kernel_rfl)) (fun _ _ _ h => h) (Or.inl ⟨by rfl, ?_⟩) ?_ ?_
            rotate_left
            ·intro w'
             go_simp
             with_reducible rfl
            rotate_left
            ·simp only [Act.put, sA, sB, sC, i64_w, i32_w]
             rfl
            refine pure_ (i := 4) (N := some 24) (v := ?_) (a' := ?_) #[true, false, true, true, true, false, false, false, false, false] rfl rfl (any_of HT_.out (by kernel_rfl)) (fun _ _ _ h => h) (Or.inl ⟨by rfl, ?_⟩) ?_ ?_
            rotate_left
            ·intro w'
             go_simp
             with_reducible rfl
            rotate_left
            ·simp only [Act.put, sA, sB, sC, i64_w, i32_w]
             rfl
            refine pure_ (i := 5) (N := some 25) (v := ?_) (a' := ?_) #[true, false, true, true, true, true, false, false, false, false] rfl rfl (any_of HT_.out (by kernel_rfl)) (fun _ _ _ h => h) (Or.inl ⟨by rfl, ?_⟩) ?_ ?_
            rotate_left
            ·intro w'
             go_simp
             with_reducible rfl
            rotate_left
            ·simp only [Act.put, sA, sB, sC, i64_w, i32_w]
             rfl
            refine take_ (i := 1) (N := some 21) (v := ?_) (a' := ?_) #[true, true, true, true, true, true, false, false, false, false] rfl rfl (take_ofW HT_.out HW_.out (by kernel_rfl)) (fun _ _ _ h => h) (Or.inl ⟨by rfl, ?_⟩) hHeld ?_ ?_
            rotate_left
            ·rintro w' ⟨s0, s1, s2, s3, s4, s5, s6⟩
             go_simp
             with_reducible rfl
            rotate_left
            ·simp only [Act.put, sA, sB, sC, i64_w, i32_w]
             rfl
            refine take_ (i := 6) (N := some 26) (v := ?_) (a' := ?_) #[true, true, true, true, true, true, true, false, false, false] rfl rfl (take_ofW HT_.out HW_.out (by kernel_rfl)) (fun _ _ _ h => h) (Or.inl ⟨by rfl, ?_⟩) hHeld ?_ ?_
            rotate_left
            ·rintro w' ⟨s0, s1, s2, s3, s4, s5, s6⟩
             go_simp
             with_reducible rfl
            rotate_left
            ·simp only [Act.put, sA, sB, sC, i64_w, i32_w]
             rfl
            refine pure_ (i := 7) (N := some 27) (v := ?_) (a' := ?_) #[true, true, true, true, true, true, true, true, false, false] rfl rfl (any_of HT_.out (by kernel_rfl)) (fun _ _ _ h => h) (Or.inl ⟨by rfl, ?_⟩) ?_ ?_
            rotate_left
            ·intro w'
             go_simp
             with_reducible rfl
            rotate_left
            ·simp only [Act.put, sA, sB, sC, i64_w, i32_w]
             rfl
            refine pure_ (i := 8) (N := some 28) (v := ?_) (a' := ?_) #[true, true, true, true, true, true, true, true, true, false] rfl rfl (any_of HT_.out (by kernel_rfl)) (fun _ _ _ h => h) (Or.inl ⟨by rfl, ?_⟩) ?_ ?_
            rotate_left
            ·intro w'
             go_simp
             with_reducible rfl
            rotate_left
            ·simp only [Act.put, sA, sB, sC, i64_w, i32_w]
             rfl
            refine last_ (i := 9) (N := none) #[true, true, true, true, true, true, true, true, true, true] rfl rfl (one_of HT_.out (by kernel_rfl)) (by decide) (fun K hK => ?_)
            have hs57 : w56.cell? ⟨gb252, 0, none⟩ = some (.int .u64 x253000_1) := (blk_cell BK252.out 0).trans rfl
            have hfs57 := blk_frozen BK252.out 0
            have hns57_0 := NB250_252.out
            have hns57_1 := NB251_252.out
            have hms57_0 := NB252_250.out
            have hms57_1 := NB252_251.out
            refine skip_ (w1 := ?_) (by rfl) rfl ?_ ?_
            rotate_left
            ·go_simp
             rfl
            refine hK.out _ _ ?_
            clear hK K
            refine done_ (done_of HT_.out (by kernel_rfl)) ?_
            have hnb58 := NB250_251.out
            have hnc58 := NB251_250.out
            have hnb59 := NB250_252.out
            have hnc59 := NB252_250.out
            have hcz60_0 : w56.cell? ⟨gb250, 0, none⟩ = some (.int .i64 a0_0) := (blk_cell BK250.out 0).trans rfl
            have hcz60_1 : w56.cell? ⟨gb250, 1, none⟩ = some (.int .i64 a0_1) := (blk_cell BK250.out 1).trans rfl
            have hfz60_0 := blk_frozen BK250.out 0
            have hfz60_1 := blk_frozen BK250.out 1
            try go_wp2
            have n0_ : Aside0 (Kd.R Kd.string 9 (w56.setCell ⟨gb252, 0, none⟩ (.int .u64 (IntKind.u64.wrap (x253000_1 + ((rd_T39 l1 x7_1).f1))))) w.heap.size (fun _ => True) u253002 x253002_1) := ⟨by (with_reducible repeat (first | apply rA | apply rN | apply rD)); exact Kd.R_mono (Kd.R_far (p := ⟨gb252, 0, none⟩) (Kd.R_types HO_253002.out BK252.out (by decide)) (fun _ hk => hk.2) (.int .u64 (IntKind.u64.wrap (x253000_1 + ((rd_T39 l1 x7_1).f1))))) (fun _ hk => trivial)⟩
            have n1_ : Aside0 ((w56.setCell ⟨gb252, 0, none⟩ (.int .u64 (IntKind.u64.wrap (x253000_1 + ((rd_T39 l1 x7_1).f1))))).heap[gb250]? = some (.cells #[.int .i64 a0_0, .int .i64 a0_1] 23 (0, 0))) := ⟨by (with_reducible repeat (first | apply bA | apply bN | apply bD)); refine blk_far ?_ NB250_252.out _; (with_reducible repeat (first | apply bA | apply bN | apply bD)); exact BK250.out⟩
            have n2_ : Aside0 ((w56.setCell ⟨gb252, 0, none⟩ (.int .u64 (IntKind.u64.wrap (x253000_1 + ((rd_T39 l1 x7_1).f1))))).heap[gb251]? = some (.cells #[.int .u64 0, .int .i64 0, .slice none 0 0] 33 (0, 0))) := ⟨by (with_reducible repeat (first | apply bA | apply bN | apply bD)); refine blk_far ?_ NB251_252.out _; (with_reducible repeat (first | apply bA | apply bN | apply bD)); exact BK251.out⟩
            have n3_ : Aside0 ((w56.setCell ⟨gb252, 0, none⟩ (.int .u64 (IntKind.u64.wrap (x253000_1 + ((rd_T39 l1 x7_1).f1))))).heap[gb252]? = some (.cells #[.int .u64 (IntKind.u64.wrap (x253000_1 + ((rd_T39 l1 x7_1).f1))), .int .i64 x253001_1, u253002] 33 (0, 0))) := ⟨by (with_reducible repeat (first | apply bA | apply bN | apply bD)); refine blk_put (cs := #[.int .u64 x253000_1, .int .i64 x253001_1, u253002]) ?_ 0 _ rfl; (with_reducible repeat (first | apply bA | apply bN | apply bD)); exact BK252.out⟩
            have n4_ : Aside0 (Below w.heap.size w (w56.setCell ⟨gb252, 0, none⟩ (.int .u64 (IntKind.u64.wrap (x253000_1 + ((rd_T39 l1 x7_1).f1)))))) := ⟨by repeat (first | (with_reducible first | exact HB.out | apply eA | apply eN | apply eD | refine eS ?_ GE250.out | refine eS ?_ GE251.out | refine eS ?_ GE252.out) | exact HB.out)⟩
            (try clear HO_253002)
            (try clear BK250)
            (try clear BK251)
            (try clear BK252)
            (try clear HB)
            generalize (w56.setCell ⟨gb252, 0, none⟩ (.int .u64 (IntKind.u64.wrap (x253000_1 + ((rd_T39 l1 x7_1).f1))))) = w61 at n0_ n1_ n2_ n3_ n4_ ⊢
            have HO_253002 := n0_
            have BK250 := n1_
            have BK251 := n2_
            have BK252 := n3_
            have HB := n4_
            clear n0_ n1_ n2_ n3_ n4_
            replace HO_253002 := aMk (rD HO_253002.out)
            replace BK250 := aMk (bD BK250.out)
            replace BK251 := aMk (bD BK251.out)
            replace BK252 := aMk (bD BK252.out)
            replace HB := aMk (eD HB.out)
            refine start_ (n := 16) (S := fun w' => True) (ds := []) #[false, false, false, false, false, false, false, false, false, false, false, false, false, false, false, false] (by kernel_rfl) rfl rfl trivial (fun hHeld => ?_); refine with_tabW gristmillref06_Of.tab15 gristmillref06_Of.bits15 (fun HT_ HW_ => ?_)
            generalize w61.drew = w62 at HO_253002 BK250 BK251 BK252 HB hHeld ⊢
            refine pure_ (i := 0) (N := some 85) (v := ?_) (a' := ?_) #[true, false, false, false, false, false, false, false, false, false, false, false, false, false, false, false] rfl rfl (any_of HT_.out (by kernel_rfl)) (fun _ _ _ h => h) (Or.inl ⟨by rfl, ?_⟩) ?_ ?_
            rotate_left
            ·intro w'
             go_simp
             with_reducible rfl
            rotate_left
            ·simp only [Act.put, sA, sB, sC, i64_w, i32_w]
             rfl
            refine pure_ (i := 1) (N := some 86) (v := ?_) (a' := ?_) #[true, true, false, false, false, false, false, false, false, false, false, false, false, false, false, false] rfl rfl (any_of HT_.out (by kernel_rfl)) (fun _ _ _ h => h) (Or.inl ⟨by rfl, ?_⟩) ?_ ?_
            rotate_left
            ·intro w'
             go_simp
             with_reducible rfl
            rotate_left
            ·simp only [Act.put, sA, sB, sC, i64_w, i32_w]
             rfl
            refine pure_ (i := 2) (N := some 87) (v := undef) (a' := ?_) #[true, true, true, false, false, false, false, false, false, false, false, false, false, false, false, false] rfl rfl (any_of HT_.out (by kernel_rfl)) (fun _ _ _ h => h) (Or.inr ⟨by rfl, rfl⟩) ?_ ?_
            rotate_left
            ·simp only [Act.put, sA, sB, sC, i64_w, i32_w]
             rfl
            refine pure_ (i := 3) (N := some 88) (v := undef) (a' := ?_) #[true, true, true, true, false, false, false, false, false, false, false, false, false, false, false, false] rfl rfl (any_of HT_.out (by kernel_rfl)) (fun _ _ _ h => h) (Or.inr ⟨by rfl, rfl⟩) ?_ ?_
            rotate_left
            ·simp only [Act.put, sA, sB, sC, i64_w, i32_w]
             rfl
            refine pure_ (i := 4) (N := some 89) (v := undef) (a' := ?_) #[true, true, true, true, true, false, false, false, false, false, false, false, false, false, false, false] rfl rfl (any_of HT_.out (by kernel_rfl)) (fun _ _ _ h => h) (Or.inr ⟨by rfl, rfl⟩) ?_ ?_
            rotate_left
            ·simp only [Act.put, sA, sB, sC, i64_w, i32_w]
             rfl
            refine pure_ (i := 5) (N := some 90) (v := undef) (a' := ?_) #[true, true, true, true, true, true, false, false, false, false, false, false, false, false, false, false] rfl rfl (any_of HT_.out (by kernel_rfl)) (fun _ _ _ h => h) (Or.inr ⟨by rfl, rfl⟩) ?_ ?_
            rotate_left
            ·simp only [Act.put, sA, sB, sC, i64_w, i32_w]
             rfl
            refine pure_ (i := 6) (N := some 91) (v := undef) (a' := ?_) #[true, true, true, true, true, true, true, false, false, false, false, false, false, false, false, false] rfl rfl (any_of HT_.out (by kernel_rfl)) (fun _ _ _ h => h) (Or.inr ⟨by rfl, rfl⟩) ?_ ?_
            rotate_left
            ·simp only [Act.put, sA, sB, sC, i64_w, i32_w]
             rfl
            refine pure_ (i := 7) (N := some 92) (v := undef) (a' := ?_) #[true, true, true, true, true, true, true, true, false, false, false, false, false, false, false, false] rfl rfl (any_of HT_.out (by kernel_rfl)) (fun _ _ _ h => h) (Or.inr ⟨by rfl, rfl⟩) ?_ ?_
            rotate_left
            ·simp only [Act.put, sA, sB, sC, i64_w, i32_w]
             rfl
            refine pure_ (i := 8) (N := some 93) (v := undef) (a' := ?_) #[true, true, true, true, true, true, true, true, true, false, false, false, false, false, false, false] rfl rfl (any_of HT_.out (by kernel_rfl)) (fun _ _ _ h => h) (Or.inr ⟨by rfl, rfl⟩) ?_ ?_
            rotate_left
            ·simp only [Act.put, sA, sB, sC, i64_w, i32_w]
             rfl
            refine pure_ (i := 9) (N := some 94) (v := undef) (a' := ?_) #[true, true, true, true, true, true, true, true, true, true, false, false, false, false, false, false] rfl rfl (any_of HT_.out (by kernel_rfl)) (fun _ _ _ h => h) (Or.inr ⟨by rfl, rfl⟩) ?_ ?_
            rotate_left
            ·simp only [Act.put, sA, sB, sC, i64_w, i32_w]
             rfl
            refine pure_ (i := 10) (N := some 95) (v := undef) (a' := ?_) #[true, true, true, true, true, true, true, true, true, true, true, false, false, false, false, false] rfl rfl (any_of HT_.out (by kernel_rfl)) (fun _ _ _ h => h) (Or.inr ⟨by rfl, rfl⟩) ?_ ?_
            rotate_left
            ·simp only [Act.put, sA, sB, sC, i64_w, i32_w]
             rfl
            refine pure_ (i := 11) (N := some 96) (v := undef) (a' := ?_) #[true, true, true, true, true, true, true, true, true, true, true, true, false, false, false, false] rfl rfl (any_of HT_.out (by kernel_rfl)) (fun _ _ _ h => h) (Or.inr ⟨by rfl, rfl⟩) ?_ ?_
            rotate_left
            ·simp only [Act.put, sA, sB, sC, i64_w, i32_w]
             rfl
            refine pure_ (i := 12) (N := some 97) (v := undef) (a' := ?_) #[true, true, true, true, true, true, true, true, true, true, true, true, true, false, false, false] rfl rfl (any_of HT_.out (by kernel_rfl)) (fun _ _ _ h => h) (Or.inr ⟨by rfl, rfl⟩) ?_ ?_
            rotate_left
            ·simp only [Act.put, sA, sB, sC, i64_w, i32_w]
             rfl
            refine pure_ (i := 13) (N := some 98) (v := undef) (a' := ?_) #[true, true, true, true, true, true, true, true, true, true, true, true, true, true, false, false] rfl rfl (any_of HT_.out (by kernel_rfl)) (fun _ _ _ h => h) (Or.inr ⟨by rfl, rfl⟩) ?_ ?_
            rotate_left
            ·simp only [Act.put, sA, sB, sC, i64_w, i32_w]
             rfl
            refine pure_ (i := 14) (N := some 99) (v := undef) (a' := ?_) #[true, true, true, true, true, true, true, true, true, true, true, true, true, true, true, false] rfl rfl (any_of HT_.out (by kernel_rfl)) (fun _ _ _ h => h) (Or.inr ⟨by rfl, rfl⟩) ?_ ?_
            rotate_left
            ·simp only [Act.put, sA, sB, sC, i64_w, i32_w]
             rfl
            refine pure_ (i := 15) (N := some 100) (v := ?_) (a' := ?_) #[true, true, true, true, true, true, true, true, true, true, true, true, true, true, true, true] rfl rfl (any_of HT_.out (by kernel_rfl)) (fun _ _ _ h => h) (Or.inl ⟨by rfl, ?_⟩) ?_ ?_
            rotate_left
            ·intro w'
             go_simp
             with_reducible rfl
            rotate_left
            ·simp only [Act.put, sA, sB, sC, i64_w, i32_w]
             rfl
            refine done_ (done_of HT_.out (by kernel_rfl)) ?_
            try go_wp2
            replace HO_253002 := aMk (rD HO_253002.out)
            replace BK250 := aMk (bD BK250.out)
            replace BK251 := aMk (bD BK251.out)
            replace BK252 := aMk (bD BK252.out)
            replace HB := aMk (eD HB.out)
            have p264 : 0 ≤ (x7_1 : Int) := of_decide_eq_true (by first | (with_reducible assumption) | assumption)
            have q264 : x7_1 < (l1.length : Int) := of_decide_eq_true (by first | (with_reducible assumption) | assumption)
            obtain ⟨ad264, A264_1, c264_1, A264_2, c264_2, e264, hx264_0, hx264_1, hx264_2, hx264_3, hl264_1, hi264_1, hl264_2, hi264_2⟩ := at_T39 HR1.out x7_1 p264 q264
            have hw264_3 := hx264_3
            have hw264_2 := hx264_2
            have hw264_1 := hx264_1
            have hw264_0 := hx264_0
            obtain rfl : ad253 = ad264 := (by injection e264)
            replace hx264_0 := (HB.out.cell (World.block_lt_of_cell? w _ hx264_0)).trans hx264_0
            replace hx264_1 := (HB.out.cell (World.block_lt_of_cell? w _ hx264_1)).trans hx264_1
            replace hx264_2 := (HB.out.cell (World.block_lt_of_cell? w _ hx264_2)).trans hx264_2
            replace hx264_3 := (HB.out.cell (World.block_lt_of_cell? w _ hx264_3)).trans hx264_3
            have HR264_1 := aMk hi264_1
            have HC264_1 := aMk hl264_1
            clear hi264_1 hl264_1
            have HR264_2 := aMk hi264_2
            have HC264_2 := aMk hl264_2
            clear hi264_2 hl264_2
            replace p264 := eq_true p264
            replace q264 := eq_true q264
            have p265 : 0 ≤ (a0_1 : Int) := of_decide_eq_true (by first | (with_reducible assumption) | assumption)
            have q265 : a0_1 < (((rd_T39 l1 x7_1).f0.f2).length : Int) := of_decide_eq_true (by first | (with_reducible assumption) | assumption)
            obtain ⟨ad265, e265, hx265_0⟩ := Kd.at_int HR264_2.out a0_1 p265 q265
            have hw265_0 := hx265_0
            cases e265
            replace hx265_0 := (HB.out.cell (World.block_lt_of_cell? w _ hx265_0)).trans hx265_0
            replace p265 := eq_true p265
            replace q265 := eq_true q265
            refine start_ (n := 12) (S := fun w' => w'.cell? ⟨gb250, 0, none⟩ = some (.int .i64 a0_0) ∧ w'.cell? ⟨gb250, 1, none⟩ = some (.int .i64 a0_1) ∧ w'.cell? (ad253.add ((x7_1).toNat * 4)) = some (.int .i64 ((rd_T39 l1 x7_1).f0.f0)) ∧ w'.cell? ⟨(ad253.add ((x7_1).toNat * 4)).block, (ad253.add ((x7_1).toNat * 4)).off + 1, none⟩ = some (.slice A264_1 ((rd_T39 l1 x7_1).f0.f1).length c264_1) ∧ w'.cell? ⟨(ad253.add ((x7_1).toNat * 4)).block, (ad253.add ((x7_1).toNat * 4)).off + 2, none⟩ = some (.slice (some ad265) ((rd_T39 l1 x7_1).f0.f2).length c264_2) ∧ w'.cell? ⟨(ad253.add ((x7_1).toNat * 4)).block, (ad253.add ((x7_1).toNat * 4)).off + 3, none⟩ = some (.int .u64 ((rd_T39 l1 x7_1).f1)) ∧ w'.cell? (ad265.add (a0_1).toNat) = some (.int .i64 (rd ((rd_T39 l1 x7_1).f0.f2) a0_1))) (ds := []) #[false, false, false, false, false, false, false, false, false, false, false, false] (by kernel_rfl) rfl rfl ⟨(blk_cell BK250.out 0).trans rfl, (blk_cell BK250.out 1).trans rfl, ((HB.out.cell (World.block_lt_of_cell? w _ hw264_0)).trans hw264_0), ((HB.out.cell (World.block_lt_of_cell? w _ hw264_1)).trans hw264_1), ((HB.out.cell (World.block_lt_of_cell? w _ hw264_2)).trans hw264_2), ((HB.out.cell (World.block_lt_of_cell? w _ hw264_3)).trans hw264_3), ((HB.out.cell (World.block_lt_of_cell? w _ hw265_0)).trans hw265_0)⟩ (fun hHeld => ?_); refine with_tabW gristmillref06_Of.tab16 gristmillref06_Of.bits16 (fun HT_ HW_ => ?_)
            generalize w62.drew = w63 at HO_253002 BK250 BK251 BK252 HB HR264_1 HR264_2 hx264_0 hx264_1 hx264_2 hx264_3 hx265_0 hHeld ⊢
            refine pure_ (i := 0) (N := some 101) (v := ?_) (a' := ?_) #[true, false, false, false, false, false, false, false, false, false, false, false] rfl rfl (any_of HT_.out (by kernel_rfl)) (fun _ _ _ h => h) (Or.inl ⟨by rfl, ?_⟩) ?_ ?_
            rotate_left
            ·intro w'
             go_simp
             with_reducible rfl
            rotate_left
            ·simp only [Act.put, sA, sB, sC, i64_w, i32_w]
             rfl
            refine pure_ (i := 1) (N := some 102) (v := ?_) (a' := ?_) #[true, true, false, false, false, false, false, false, false, false, false, false] rfl rfl (any_of HT_.out (by kernel_rfl)) (fun _ _ _ h => h) (Or.inl ⟨by rfl, ?_⟩) ?_ ?_
            rotate_left
            ·intro w'
             go_simp
             with_reducible rfl
            rotate_left
            ·simp only [Act.put, sA, sB, sC, i64_w, i32_w]
             rfl
            refine pure_ (i := 2) (N := some 103) (v := ?_) (a' := ?_) #[true, true, true, false, false, false, false, false, false, false, false, false] rfl rfl (any_of HT_.out (by kernel_rfl)) (fun _ _ _ h => h) (Or.inl ⟨by rfl, ?_⟩) ?_ ?_
            rotate_left
            ·intro w'
             go_simp
             with_reducible rfl
            rotate_left
            ·simp only [Act.put, sA, sB, sC, i64_w, i32_w]
             rfl
            refine pure_ (i := 3) (N := some 104) (v := ?_) (a' := ?_) #[true, true, true, true, false, false, false, false, false, false, false, false] rfl rfl (any_of HT_.out (by kernel_rfl)) (fun _ _ _ h => h) (Or.inl ⟨by rfl, ?_⟩) ?_ ?_
            rotate_left
            ·intro w'
             go_simp
             with_reducible rfl
            rotate_left
            ·simp only [Act.put, sA, sB, sC, i64_w, i32_w]
             rfl
            refine pure_ (i := 4) (N := some 105) (v := ?_) (a' := ?_) #[true, true, true, true, true, false, false, false, false, false, false, false] rfl rfl (any_of HT_.out (by kernel_rfl)) (fun _ _ _ h => h) (Or.inl ⟨by rfl, ?_⟩) ?_ ?_
            rotate_left
            ·intro w'
             go_simp
             with_reducible rfl
            rotate_left
            ·simp only [Act.put, sA, sB, sC, i64_w, i32_w]
             rfl
            refine pure_ (i := 6) (N := some 107) (v := ?_) (a' := ?_) #[true, true, true, true, true, false, true, false, false, false, false, false] rfl rfl (any_of HT_.out (by kernel_rfl)) (fun _ _ _ h => h) (Or.inl ⟨by rfl, ?_⟩) ?_ ?_
            rotate_left
            ·intro w'
             go_simp
             with_reducible rfl
            rotate_left
            ·simp only [Act.put, sA, sB, sC, i64_w, i32_w]
             rfl
            refine take_ (i := 5) (N := some 106) (v := ?_) (a' := ?_) #[true, true, true, true, true, true, true, false, false, false, false, false] rfl rfl (take_ofW HT_.out HW_.out (by kernel_rfl)) (fun _ _ _ h => h) (Or.inl ⟨by rfl, ?_⟩) hHeld ?_ ?_
            rotate_left
            ·rintro w' ⟨s0, s1, s2, s3, s4, s5, s6⟩
             go_simp
             with_reducible rfl
            rotate_left
            ·simp only [Act.put, sA, sB, sC, i64_w, i32_w]
             rfl
            refine take_ (i := 7) (N := some 108) (v := ?_) (a' := ?_) #[true, true, true, true, true, true, true, true, false, false, false, false] rfl rfl (take_ofW HT_.out HW_.out (by kernel_rfl)) (fun _ _ _ h => h) (Or.inl ⟨by rfl, ?_⟩) hHeld ?_ ?_
            rotate_left
            ·rintro w' ⟨s0, s1, s2, s3, s4, s5, s6⟩
             go_simp
             with_reducible rfl
            rotate_left
            ·simp only [Act.put, sA, sB, sC, i64_w, i32_w]
             rfl
            refine pure_ (i := 8) (N := some 109) (v := ?_) (a' := ?_) #[true, true, true, true, true, true, true, true, true, false, false, false] rfl rfl (any_of HT_.out (by kernel_rfl)) (fun _ _ _ h => h) (Or.inl ⟨by rfl, ?_⟩) ?_ ?_
            rotate_left
            ·intro w'
             go_simp
             with_reducible rfl
            rotate_left
            ·simp only [Act.put, sA, sB, sC, i64_w, i32_w]
             rfl
            refine take_ (i := 9) (N := some 110) (v := ?_) (a' := ?_) #[true, true, true, true, true, true, true, true, true, true, false, false] rfl rfl (take_ofW HT_.out HW_.out (by kernel_rfl)) (fun _ _ _ h => h) (Or.inl ⟨by rfl, ?_⟩) hHeld ?_ ?_
            rotate_left
            ·rintro w' ⟨s0, s1, s2, s3, s4, s5, s6⟩
             go_simp
             with_reducible rfl
            rotate_left
            ·simp only [Act.put, sA, sB, sC, i64_w, i32_w]
             rfl
            refine pure_ (i := 10) (N := some 111) (v := ?_) (a' := ?_) #[true, true, true, true, true, true, true, true, true, true, true, false] rfl rfl (any_of HT_.out (by kernel_rfl)) (fun _ _ _ h => h) (Or.inl ⟨by rfl, ?_⟩) ?_ ?_
            rotate_left
            ·intro w'
             go_simp
             with_reducible rfl
            rotate_left
            ·simp only [Act.put, sA, sB, sC, i64_w, i32_w]
             rfl
            refine one_ (i := 11) (N := none) #[true, true, true, true, true, true, true, true, true, true, true, true] rfl rfl (one_of HT_.out (by kernel_rfl)) (by decide) (fun K hK => ?_)
            have hs64 : w63.cell? ⟨gb252, 1, none⟩ = some (.int .i64 x253001_1) := (blk_cell BK252.out 1).trans rfl
            have hfs64 := blk_frozen BK252.out 1
            have hns64_0 := NB250_252.out
            have hns64_1 := NB251_252.out
            have hms64_0 := NB252_250.out
            have hms64_1 := NB252_251.out
            refine skip_ (w1 := ?_) (by rfl) rfl ?_ ?_
            rotate_left
            ·go_simp
             rfl
            refine hK.out _ _ ⟨((cell_far (p := ⟨gb252, _, none⟩) NB250_252.out _).trans (hHeld.1)), ((cell_far (p := ⟨gb252, _, none⟩) NB250_252.out _).trans (hHeld.2.1)), ((cell_far (p := ⟨gb252, _, none⟩) (by first | exact Nat.ne_of_lt (Nat.lt_of_lt_of_le (by have := World.block_lt_of_cell? _ _ hw264_0; first | rwa [add_block] at this | exact this) GW252.out) | (rw [add_block]; exact Nat.ne_of_lt (Nat.lt_of_lt_of_le (by have := World.block_lt_of_cell? _ _ hw264_0; first | rwa [add_block] at this | exact this) GW252.out)) | (show (Addr.add _ _).block ≠ _; rw [add_block]; exact Nat.ne_of_lt (Nat.lt_of_lt_of_le (by have := World.block_lt_of_cell? _ _ hw264_0; first | rwa [add_block] at this | exact this) GW252.out)) | (dsimp only; exact Nat.ne_of_lt (Nat.lt_of_lt_of_le (by have := World.block_lt_of_cell? _ _ hw264_0; first | rwa [add_block] at this | exact this) GW252.out))) _).trans (hHeld.2.2.1)), ((cell_far (p := ⟨gb252, _, none⟩) (by first | exact Nat.ne_of_lt (Nat.lt_of_lt_of_le (by have := World.block_lt_of_cell? _ _ hw264_1; first | rwa [add_block] at this | exact this) GW252.out) | (rw [add_block]; exact Nat.ne_of_lt (Nat.lt_of_lt_of_le (by have := World.block_lt_of_cell? _ _ hw264_1; first | rwa [add_block] at this | exact this) GW252.out)) | (show (Addr.add _ _).block ≠ _; rw [add_block]; exact Nat.ne_of_lt (Nat.lt_of_lt_of_le (by have := World.block_lt_of_cell? _ _ hw264_1; first | rwa [add_block] at this | exact this) GW252.out)) | (dsimp only; exact Nat.ne_of_lt (Nat.lt_of_lt_of_le (by have := World.block_lt_of_cell? _ _ hw264_1; first | rwa [add_block] at this | exact this) GW252.out))) _).trans (hHeld.2.2.2.1)), ((cell_far (p := ⟨gb252, _, none⟩) (by first | exact Nat.ne_of_lt (Nat.lt_of_lt_of_le (by have := World.block_lt_of_cell? _ _ hw264_2; first | rwa [add_block] at this | exact this) GW252.out) | (rw [add_block]; exact Nat.ne_of_lt (Nat.lt_of_lt_of_le (by have := World.block_lt_of_cell? _ _ hw264_2; first | rwa [add_block] at this | exact this) GW252.out)) | (show (Addr.add _ _).block ≠ _; rw [add_block]; exact Nat.ne_of_lt (Nat.lt_of_lt_of_le (by have := World.block_lt_of_cell? _ _ hw264_2; first | rwa [add_block] at this | exact this) GW252.out)) | (dsimp only; exact Nat.ne_of_lt (Nat.lt_of_lt_of_le (by have := World.block_lt_of_cell? _ _ hw264_2; first | rwa [add_block] at this | exact this) GW252.out))) _).trans (hHeld.2.2.2.2.1)), ((cell_far (p := ⟨gb252, _, none⟩) (by first | exact Nat.ne_of_lt (Nat.lt_of_lt_of_le (by have := World.block_lt_of_cell? _ _ hw264_3; first | rwa [add_block] at this | exact this) GW252.out) | (rw [add_block]; exact Nat.ne_of_lt (Nat.lt_of_lt_of_le (by have := World.block_lt_of_cell? _ _ hw264_3; first | rwa [add_block] at this | exact this) GW252.out)) | (show (Addr.add _ _).block ≠ _; rw [add_block]; exact Nat.ne_of_lt (Nat.lt_of_lt_of_le (by have := World.block_lt_of_cell? _ _ hw264_3; first | rwa [add_block] at this | exact this) GW252.out)) | (dsimp only; exact Nat.ne_of_lt (Nat.lt_of_lt_of_le (by have := World.block_lt_of_cell? _ _ hw264_3; first | rwa [add_block] at this | exact this) GW252.out))) _).trans (hHeld.2.2.2.2.2.1)), ((cell_far (p := ⟨gb252, _, none⟩) (by first | exact Nat.ne_of_lt (Nat.lt_of_lt_of_le (by have := World.block_lt_of_cell? _ _ hw265_0; first | rwa [add_block] at this | exact this) GW252.out) | (rw [add_block]; exact Nat.ne_of_lt (Nat.lt_of_lt_of_le (by have := World.block_lt_of_cell? _ _ hw265_0; first | rwa [add_block] at this | exact this) GW252.out)) | (show (Addr.add _ _).block ≠ _; rw [add_block]; exact Nat.ne_of_lt (Nat.lt_of_lt_of_le (by have := World.block_lt_of_cell? _ _ hw265_0; first | rwa [add_block] at this | exact this) GW252.out)) | (dsimp only; exact Nat.ne_of_lt (Nat.lt_of_lt_of_le (by have := World.block_lt_of_cell? _ _ hw265_0; first | rwa [add_block] at this | exact this) GW252.out))) _).trans (hHeld.2.2.2.2.2.2))⟩ (fun hHeld => ?_)
            clear hK K
            refine done_ (done_of HT_.out (by kernel_rfl)) ?_
            try go_wp2
            go_roundg k1
            case measure => have := HK1.out; omega
            case rel => exact ⟨(false), (wrap64 (x7_1 + 1)), (IntKind.u64.wrap (x253000_1 + ((rd_T39 l1 x7_1).f1))), (rd ((rd_T39 l1 x7_1).f0.f2) a0_1), (x253002_1), (u253002), (by first | rfl | (simp; done) | (simp [*]; done)), (by first | rfl | (simp; done) | (simp [*]; done)), H', ⟨by have := HK1.out; omega⟩, ⟨by (with_reducible repeat (first | apply rA | apply rN | apply rD)); exact Kd.R_mono (Kd.R_far (p := ⟨gb252, 1, none⟩) (Kd.R_types HO_253002.out BK252.out (by decide)) (fun _ hk => hk.2) (.int .i64 (rd ((rd_T39 l1 x7_1).f0.f2) a0_1))) (fun _ hk => trivial)⟩, ⟨by (with_reducible repeat (first | apply bA | apply bN | apply bD)); refine blk_far ?_ NB250_252.out _; (with_reducible repeat (first | apply bA | apply bN | apply bD)); exact BK250.out⟩, ⟨by (with_reducible repeat (first | apply bA | apply bN | apply bD)); refine blk_far ?_ NB251_252.out _; (with_reducible repeat (first | apply bA | apply bN | apply bD)); exact BK251.out⟩, ⟨by (with_reducible repeat (first | apply bA | apply bN | apply bD)); refine blk_put (cs := #[.int .u64 (IntKind.u64.wrap (x253000_1 + ((rd_T39 l1 x7_1).f1))), .int .i64 x253001_1, u253002]) ?_ 1 _ rfl; (with_reducible repeat (first | apply bA | apply bN | apply bD)); exact BK252.out⟩, ⟨by repeat (first | (with_reducible first | exact HB.out | apply eA | apply eN | apply eD | refine eS ?_ GE250.out | refine eS ?_ GE251.out | refine eS ?_ GE252.out) | exact HB.out)⟩⟩
           ·rw [if_neg c55] at H
            exact absurd H (by simp)
          ·rw [if_neg c54] at H
           exact absurd H (by simp)
         ·replace c53 := Bool.eq_false_iff.mpr c53
          subst c53
          have H1 : (if 0 ≤ a0_1 then (if a0_1 < (((rd_T39 l1 x7_1).f0.f2).length : Int) then (if (rd ((rd_T39 l1 x7_1).f0.f2) a0_1) > x253001_1 then (gristmillref06_Of.l0 k1 l1 false (wrap64 (x7_1 + 1)) a0_0 a0_1 (IntKind.u64.wrap (x253000_1 + ((rd_T39 l1 x7_1).f1))) (rd ((rd_T39 l1 x7_1).f0.f2) a0_1) x253002_1) else (gristmillref06_Of.l0 k1 l1 false (wrap64 (x7_1 + 1)) a0_0 a0_1 (IntKind.u64.wrap (x253000_1 + ((rd_T39 l1 x7_1).f1))) x253001_1 x253002_1)) else (none)) else (none)) = some (r1, r2, r3) := by rw [if_neg (show ¬ (false = true) by decide)] at H; exact H
          clear H
          have H := H1
          clear H1
          by_cases c65 : 0 ≤ a0_1
          ·rw [if_pos c65] at H
           have c65b0 : decide (0 ≤ a0_1) = true := decide_eq_true c65
           clear c65
           by_cases c66 : a0_1 < (((rd_T39 l1 x7_1).f0.f2).length : Int)
           ·rw [if_pos c66] at H
            have c66b0 : decide (a0_1 < (((rd_T39 l1 x7_1).f0.f2).length : Int)) = true := decide_eq_true c66
            clear c66
            by_cases c67 : (rd ((rd_T39 l1 x7_1).f0.f2) a0_1) > x253001_1
            ·rw [if_pos c67] at H
             have c67b0 : decide (x253001_1 < (rd ((rd_T39 l1 x7_1).f0.f2) a0_1)) = true := decide_eq_true c67
             clear c67
             have H' := aMk H
             clear H
             have p253 : 0 ≤ (x7_1 : Int) := of_decide_eq_true (by first | (with_reducible assumption) | assumption)
             have q253 : x7_1 < (l1.length : Int) := of_decide_eq_true (by first | (with_reducible assumption) | assumption)
             obtain ⟨ad253, A253_1, c253_1, A253_2, c253_2, e253, hx253_0, hx253_1, hx253_2, hx253_3, hl253_1, hi253_1, hl253_2, hi253_2⟩ := at_T39 HR1.out x7_1 p253 q253
             cases e253
             replace hx253_0 := (HB.out.cell (World.block_lt_of_cell? w _ hx253_0)).trans hx253_0
             replace hx253_1 := (HB.out.cell (World.block_lt_of_cell? w _ hx253_1)).trans hx253_1
             replace hx253_2 := (HB.out.cell (World.block_lt_of_cell? w _ hx253_2)).trans hx253_2
             replace hx253_3 := (HB.out.cell (World.block_lt_of_cell? w _ hx253_3)).trans hx253_3
             have HR253_1 := aMk hi253_1
             have HC253_1 := aMk hl253_1
             clear hi253_1 hl253_1
             have HR253_2 := aMk hi253_2
             have HC253_2 := aMk hl253_2
             clear hi253_2 hl253_2
             replace p253 := eq_true p253
             replace q253 := eq_true q253
             try go_wp2
             replace HO_253002 := aMk (rD HO_253002.out)
             replace BK250 := aMk (bD BK250.out)
             replace BK251 := aMk (bD BK251.out)
             replace BK252 := aMk (bD BK252.out)
             replace HB := aMk (eD HB.out)
             have p254 : 0 ≤ (x7_1 : Int) := of_decide_eq_true (by first | (with_reducible assumption) | assumption)
             have q254 : x7_1 < (l1.length : Int) := of_decide_eq_true (by first | (with_reducible assumption) | assumption)
             obtain ⟨ad254, A254_1, c254_1, A254_2, c254_2, e254, hx254_0, hx254_1, hx254_2, hx254_3, hl254_1, hi254_1, hl254_2, hi254_2⟩ := at_T39 HR1.out x7_1 p254 q254
             have hw254_3 := hx254_3
             have hw254_2 := hx254_2
             have hw254_1 := hx254_1
             have hw254_0 := hx254_0
             obtain rfl : ad253 = ad254 := (by injection e254)
             replace hx254_0 := (HB.out.cell (World.block_lt_of_cell? w _ hx254_0)).trans hx254_0
             replace hx254_1 := (HB.out.cell (World.block_lt_of_cell? w _ hx254_1)).trans hx254_1
             replace hx254_2 := (HB.out.cell (World.block_lt_of_cell? w _ hx254_2)).trans hx254_2
             replace hx254_3 := (HB.out.cell (World.block_lt_of_cell? w _ hx254_3)).trans hx254_3
             have HR254_1 := aMk hi254_1
             have HC254_1 := aMk hl254_1
             clear hi254_1 hl254_1
             have HR254_2 := aMk hi254_2
             have HC254_2 := aMk hl254_2
             clear hi254_2 hl254_2
             replace p254 := eq_true p254
             replace q254 := eq_true q254
             refine start_ (n := 10) (S := fun w' => w'.cell? ⟨gb252, 0, none⟩ = some (.int .u64 x253000_1) ∧ w'.cell? ⟨gb252, 1, none⟩ = some (.int .i64 x253001_1) ∧ w'.cell? ⟨gb252, 2, none⟩ = some (u253002) ∧ w'.cell? (ad253.add ((x7_1).toNat * 4)) = some (.int .i64 ((rd_T39 l1 x7_1).f0.f0)) ∧ w'.cell? ⟨(ad253.add ((x7_1).toNat * 4)).block, (ad253.add ((x7_1).toNat * 4)).off + 1, none⟩ = some (.slice A254_1 ((rd_T39 l1 x7_1).f0.f1).length c254_1) ∧ w'.cell? ⟨(ad253.add ((x7_1).toNat * 4)).block, (ad253.add ((x7_1).toNat * 4)).off + 2, none⟩ = some (.slice A254_2 ((rd_T39 l1 x7_1).f0.f2).length c254_2) ∧ w'.cell? ⟨(ad253.add ((x7_1).toNat * 4)).block, (ad253.add ((x7_1).toNat * 4)).off + 3, none⟩ = some (.int .u64 ((rd_T39 l1 x7_1).f1))) (ds := [9]) #[false, false, false, false, false, false, false, false, false, false] (by kernel_rfl) rfl rfl ⟨(blk_cell BK252.out 0).trans rfl, (blk_cell BK252.out 1).trans rfl, (blk_cell BK252.out 2).trans rfl, ((HB.out.cell (World.block_lt_of_cell? w _ hw254_0)).trans hw254_0), ((HB.out.cell (World.block_lt_of_cell? w _ hw254_1)).trans hw254_1), ((HB.out.cell (World.block_lt_of_cell? w _ hw254_2)).trans hw254_2), ((HB.out.cell (World.block_lt_of_cell? w _ hw254_3)).trans hw254_3)⟩ (fun hHeld => ?_); refine with_tabW gristmillref06_Of.tab7 gristmillref06_Of.bits7 (fun HT_ HW_ => ?_)
             generalize wr.drew = w68 at HO_253002 BK250 BK251 BK252 HB HR254_1 HR254_2 hx254_0 hx254_1 hx254_2 hx254_3 hHeld ⊢
             refine pure_ (i := 0) (N := some 20) (v := ?_) (a' := ?_) #[true, false, false, false, false, false, false, false, false, false] rfl rfl (any_of HT_.out (by kernel_rfl)) (fun _ _ _ h => h) (Or.inl ⟨by rfl, ?_⟩) ?_ ?_
             rotate_left
             ·intro w'
              go_simp
              with_reducible rfl
             rotate_left
             ·simp only [Act.put, sA, sB, sC, i64_w, i32_w]
              rfl
             refine pure_ (i := 2) (N := some 22) (v := ?_) (a' := ?_) #[true, false, true, false, false, false, false, false, false, false] rfl rfl (any_of HT_.out (by kernel_rfl)) (fun _ _ _ h => h) (Or.inl ⟨by rfl, ?_⟩) ?_ ?_
             rotate_left
             ·intro w'
              go_simp
              with_reducible rfl
             rotate_left
             ·simp only [Act.put, sA, sB, sC, i64_w, i32_w]
              rfl
             refine pure_ (i := 3) (N := some 23) (v := ?_) (a' := ?_) #[true, false, true, true, false, false, false, false, false, false] rfl rfl (any_of HT_.out (by kernel_rfl)) (fun _ _ _ h => h) (Or.inl ⟨by rfl, ?_⟩) ?_ ?_
             rotate_left
             ·intro w'
              go_simp
              with_reducible rfl
             rotate_left
             ·simp only [Act.put, sA, sB, sC, i64_w, i32_w]
              rfl
             refine pure_ (i := 4) (N := some 24) (v := ?_) (a' := ?_) #[true, false, true, true, true, false, false, false, false, false] rfl rfl (any_of HT_.out (by kernel_rfl)) (fun _ _ _ h => h) (Or.inl ⟨by rfl, ?_⟩) ?_ ?_
             rotate_left
             ·intro w'
              go_simp
              with_reducible rfl
             rotate_left
             ·simp only [Act.put, sA, sB, sC, i64_w, i32_w]
              rfl
             refine pure_ (i := 5) (N := some 25) (v := ?_) (a' := ?_) #[true, false, true, true, true, true, false, false, false, false] rfl rfl (any_of HT_.out (by kernel_rfl)) (fun _ _ _ h => h) (Or.inl ⟨by rfl, ?_⟩) ?_ ?_
             rotate_left
             ·intro w'
              go_simp
              with_reducible rfl
             rotate_left
             ·simp only [Act.put, sA, sB, sC, i64_w, i32_w]
              rfl
             refine take_ (i := 1) (N := some 21) (v := ?_) (a' := ?_) #[true, true, true, true, true, true, false, false, false, false] rfl rfl (take_ofW HT_.out HW_.out (by kernel_rfl)) (fun _ _ _ h => h) (Or.inl ⟨by rfl, ?_⟩) hHeld ?_ ?_
             rotate_left
             ·rintro w' ⟨s0, s1, s2, s3, s4, s5, s6⟩
              go_simp
              with_reducible rfl
             rotate_left
             ·simp only [Act.put, sA, sB, sC, i64_w, i32_w]
              rfl
             refine take_ (i := 6) (N := some 26) (v := ?_) (a' := ?_) #[true, true, true, true, true, true, true, false, false, false] rfl rfl (take_ofW HT_.out HW_.out (by kernel_rfl)) (fun _ _ _ h => h) (Or.inl ⟨by rfl, ?_⟩) hHeld ?_ ?_
             rotate_left
             ·rintro w' ⟨s0, s1, s2, s3, s4, s5, s6⟩
              go_simp
              with_reducible rfl
             rotate_left
             ·simp only [Act.put, sA, sB, sC, i64_w, i32_w]
              rfl
             refine pure_ (i := 7) (N := some 27) (v := ?_) (a' := ?_) #[true, true, true, true, true, true, true, true, false, false] rfl rfl (any_of HT_.out (by kernel_rfl)) (fun _ _ _ h => h) (Or.inl ⟨by rfl, ?_⟩) ?_ ?_
             rotate_left
             ·intro w'
              go_simp
              with_reducible rfl
             rotate_left
             ·simp only [Act.put, sA, sB, sC, i64_w, i32_w]
              rfl
             refine pure_ (i := 8) (N := some 28) (v := ?_) (a' := ?_) #[true, true, true, true, true, true, true, true, true, false] rfl rfl (any_of HT_.out (by kernel_rfl)) (fun _ _ _ h => h) (Or.inl ⟨by rfl, ?_⟩) ?_ ?_
             rotate_left
             ·intro w'
              go_simp
              with_reducible rfl
             rotate_left
             ·simp only [Act.put, sA, sB, sC, i64_w, i32_w]
              rfl
             refine last_ (i := 9) (N := none) #[true, true, true, true, true, true, true, true, true, true] rfl rfl (one_of HT_.out (by kernel_rfl)) (by decide) (fun K hK => ?_)
             have hs69 : w68.cell? ⟨gb252, 0, none⟩ = some (.int .u64 x253000_1) := (blk_cell BK252.out 0).trans rfl
             have hfs69 := blk_frozen BK252.out 0
             have hns69_0 := NB250_252.out
             have hns69_1 := NB251_252.out
             have hms69_0 := NB252_250.out
             have hms69_1 := NB252_251.out
             refine skip_ (w1 := ?_) (by rfl) rfl ?_ ?_
             rotate_left
             ·go_simp
              rfl
             refine hK.out _ _ ?_
             clear hK K
             refine done_ (done_of HT_.out (by kernel_rfl)) ?_
             have hnb70 := NB250_251.out
             have hnc70 := NB251_250.out
             have hnb71 := NB250_252.out
             have hnc71 := NB252_250.out
             have hcz72_0 : w68.cell? ⟨gb250, 0, none⟩ = some (.int .i64 a0_0) := (blk_cell BK250.out 0).trans rfl
             have hcz72_1 : w68.cell? ⟨gb250, 1, none⟩ = some (.int .i64 a0_1) := (blk_cell BK250.out 1).trans rfl
             have hfz72_0 := blk_frozen BK250.out 0
             have hfz72_1 := blk_frozen BK250.out 1
             try go_wp2
             have n0_ : Aside0 (Kd.R Kd.string 9 (w68.setCell ⟨gb252, 0, none⟩ (.int .u64 (IntKind.u64.wrap (x253000_1 + ((rd_T39 l1 x7_1).f1))))) w.heap.size (fun _ => True) u253002 x253002_1) := ⟨by (with_reducible repeat (first | apply rA | apply rN | apply rD)); exact Kd.R_mono (Kd.R_far (p := ⟨gb252, 0, none⟩) (Kd.R_types HO_253002.out BK252.out (by decide)) (fun _ hk => hk.2) (.int .u64 (IntKind.u64.wrap (x253000_1 + ((rd_T39 l1 x7_1).f1))))) (fun _ hk => trivial)⟩
             have n1_ : Aside0 ((w68.setCell ⟨gb252, 0, none⟩ (.int .u64 (IntKind.u64.wrap (x253000_1 + ((rd_T39 l1 x7_1).f1))))).heap[gb250]? = some (.cells #[.int .i64 a0_0, .int .i64 a0_1] 23 (0, 0))) := ⟨by (with_reducible repeat (first | apply bA | apply bN | apply bD)); refine blk_far ?_ NB250_252.out _; (with_reducible repeat (first | apply bA | apply bN | apply bD)); exact BK250.out⟩
             have n2_ : Aside0 ((w68.setCell ⟨gb252, 0, none⟩ (.int .u64 (IntKind.u64.wrap (x253000_1 + ((rd_T39 l1 x7_1).f1))))).heap[gb251]? = some (.cells #[.int .u64 0, .int .i64 0, .slice none 0 0] 33 (0, 0))) := ⟨by (with_reducible repeat (first | apply bA | apply bN | apply bD)); refine blk_far ?_ NB251_252.out _; (with_reducible repeat (first | apply bA | apply bN | apply bD)); exact BK251.out⟩
             have n3_ : Aside0 ((w68.setCell ⟨gb252, 0, none⟩ (.int .u64 (IntKind.u64.wrap (x253000_1 + ((rd_T39 l1 x7_1).f1))))).heap[gb252]? = some (.cells #[.int .u64 (IntKind.u64.wrap (x253000_1 + ((rd_T39 l1 x7_1).f1))), .int .i64 x253001_1, u253002] 33 (0, 0))) := ⟨by (with_reducible repeat (first | apply bA | apply bN | apply bD)); refine blk_put (cs := #[.int .u64 x253000_1, .int .i64 x253001_1, u253002]) ?_ 0 _ rfl; (with_reducible repeat (first | apply bA | apply bN | apply bD)); exact BK252.out⟩
             have n4_ : Aside0 (Below w.heap.size w (w68.setCell ⟨gb252, 0, none⟩ (.int .u64 (IntKind.u64.wrap (x253000_1 + ((rd_T39 l1 x7_1).f1)))))) := ⟨by repeat (first | (with_reducible first | exact HB.out | apply eA | apply eN | apply eD | refine eS ?_ GE250.out | refine eS ?_ GE251.out | refine eS ?_ GE252.out) | exact HB.out)⟩
             (try clear HO_253002)
             (try clear BK250)
             (try clear BK251)
             (try clear BK252)
             (try clear HB)
             generalize (w68.setCell ⟨gb252, 0, none⟩ (.int .u64 (IntKind.u64.wrap (x253000_1 + ((rd_T39 l1 x7_1).f1))))) = w73 at n0_ n1_ n2_ n3_ n4_ ⊢
             have HO_253002 := n0_
             have BK250 := n1_
             have BK251 := n2_
             have BK252 := n3_
             have HB := n4_
             clear n0_ n1_ n2_ n3_ n4_
             replace HO_253002 := aMk (rD HO_253002.out)
             replace BK250 := aMk (bD BK250.out)
             replace BK251 := aMk (bD BK251.out)
             replace BK252 := aMk (bD BK252.out)
             replace HB := aMk (eD HB.out)
             have p266 : 0 ≤ (x7_1 : Int) := of_decide_eq_true (by first | (with_reducible assumption) | assumption)
             have q266 : x7_1 < (l1.length : Int) := of_decide_eq_true (by first | (with_reducible assumption) | assumption)
             obtain ⟨ad266, A266_1, c266_1, A266_2, c266_2, e266, hx266_0, hx266_1, hx266_2, hx266_3, hl266_1, hi266_1, hl266_2, hi266_2⟩ := at_T39 HR1.out x7_1 p266 q266
             have hw266_3 := hx266_3
             have hw266_2 := hx266_2
             have hw266_1 := hx266_1
             have hw266_0 := hx266_0
             obtain rfl : ad253 = ad266 := (by injection e266)
             replace hx266_0 := (HB.out.cell (World.block_lt_of_cell? w _ hx266_0)).trans hx266_0
             replace hx266_1 := (HB.out.cell (World.block_lt_of_cell? w _ hx266_1)).trans hx266_1
             replace hx266_2 := (HB.out.cell (World.block_lt_of_cell? w _ hx266_2)).trans hx266_2
             replace hx266_3 := (HB.out.cell (World.block_lt_of_cell? w _ hx266_3)).trans hx266_3
             have HR266_1 := aMk hi266_1
             have HC266_1 := aMk hl266_1
             clear hi266_1 hl266_1
             have HR266_2 := aMk hi266_2
             have HC266_2 := aMk hl266_2
             clear hi266_2 hl266_2
             replace p266 := eq_true p266
             replace q266 := eq_true q266
             have p267 : 0 ≤ (a0_1 : Int) := of_decide_eq_true (by first | (with_reducible assumption) | assumption)
             have q267 : a0_1 < (((rd_T39 l1 x7_1).f0.f2).length : Int) := of_decide_eq_true (by first | (with_reducible assumption) | assumption)
             obtain ⟨ad267, e267, hx267_0⟩ := Kd.at_int HR266_2.out a0_1 p267 q267
             have hw267_0 := hx267_0
             cases e267
             replace hx267_0 := (HB.out.cell (World.block_lt_of_cell? w _ hx267_0)).trans hx267_0
             replace p267 := eq_true p267
             replace q267 := eq_true q267
             refine start_ (n := 16) (S := fun w' => w'.cell? ⟨gb250, 0, none⟩ = some (.int .i64 a0_0) ∧ w'.cell? ⟨gb250, 1, none⟩ = some (.int .i64 a0_1) ∧ w'.cell? ⟨gb252, 0, none⟩ = some (.int .u64 (IntKind.u64.wrap (x253000_1 + ((rd_T39 l1 x7_1).f1)))) ∧ w'.cell? ⟨gb252, 1, none⟩ = some (.int .i64 x253001_1) ∧ w'.cell? ⟨gb252, 2, none⟩ = some (u253002) ∧ w'.cell? (ad253.add ((x7_1).toNat * 4)) = some (.int .i64 ((rd_T39 l1 x7_1).f0.f0)) ∧ w'.cell? ⟨(ad253.add ((x7_1).toNat * 4)).block, (ad253.add ((x7_1).toNat * 4)).off + 1, none⟩ = some (.slice A266_1 ((rd_T39 l1 x7_1).f0.f1).length c266_1) ∧ w'.cell? ⟨(ad253.add ((x7_1).toNat * 4)).block, (ad253.add ((x7_1).toNat * 4)).off + 2, none⟩ = some (.slice (some ad267) ((rd_T39 l1 x7_1).f0.f2).length c266_2) ∧ w'.cell? ⟨(ad253.add ((x7_1).toNat * 4)).block, (ad253.add ((x7_1).toNat * 4)).off + 3, none⟩ = some (.int .u64 ((rd_T39 l1 x7_1).f1)) ∧ w'.cell? (ad267.add (a0_1).toNat) = some (.int .i64 (rd ((rd_T39 l1 x7_1).f0.f2) a0_1))) (ds := []) #[false, false, false, false, false, false, false, false, false, false, false, false, false, false, false, false] (by kernel_rfl) rfl rfl ⟨(blk_cell BK250.out 0).trans rfl, (blk_cell BK250.out 1).trans rfl, (blk_cell BK252.out 0).trans rfl, (blk_cell BK252.out 1).trans rfl, (blk_cell BK252.out 2).trans rfl, ((HB.out.cell (World.block_lt_of_cell? w _ hw266_0)).trans hw266_0), ((HB.out.cell (World.block_lt_of_cell? w _ hw266_1)).trans hw266_1), ((HB.out.cell (World.block_lt_of_cell? w _ hw266_2)).trans hw266_2), ((HB.out.cell (World.block_lt_of_cell? w _ hw266_3)).trans hw266_3), ((HB.out.cell (World.block_lt_of_cell? w _ hw267_0)).trans hw267_0)⟩ (fun hHeld => ?_); refine with_tabW gristmillref06_Of.tab15 gristmillref06_Of.bits15 (fun HT_ HW_ => ?_)
             generalize w73.drew = w74 at HO_253002 BK250 BK251 BK252 HB HR266_1 HR266_2 hx266_0 hx266_1 hx266_2 hx266_3 hx267_0 hHeld ⊢
             refine pure_ (i := 0) (N := some 85) (v := ?_) (a' := ?_) #[true, false, false, false, false, false, false, false, false, false, false, false, false, false, false, false] rfl rfl (any_of HT_.out (by kernel_rfl)) (fun _ _ _ h => h) (Or.inl ⟨by rfl, ?_⟩) ?_ ?_
             rotate_left
             ·intro w'
              go_simp
              with_reducible rfl
             rotate_left
             ·simp only [Act.put, sA, sB, sC, i64_w, i32_w]
              rfl
             refine pure_ (i := 1) (N := some 86) (v := ?_) (a' := ?_) #[true, true, false, false, false, false, false, false, false, false, false, false, false, false, false, false] rfl rfl (any_of HT_.out (by kernel_rfl)) (fun _ _ _ h => h) (Or.inl ⟨by rfl, ?_⟩) ?_ ?_
             rotate_left
             ·intro w'
              go_simp
              with_reducible rfl
             rotate_left
             ·simp only [Act.put, sA, sB, sC, i64_w, i32_w]
              rfl
             refine pure_ (i := 2) (N := some 87) (v := ?_) (a' := ?_) #[true, true, true, false, false, false, false, false, false, false, false, false, false, false, false, false] rfl rfl (any_of HT_.out (by kernel_rfl)) (fun _ _ _ h => h) (Or.inl ⟨by rfl, ?_⟩) ?_ ?_
             rotate_left
             ·intro w'
              go_simp
              with_reducible rfl
             rotate_left
             ·simp only [Act.put, sA, sB, sC, i64_w, i32_w]
              rfl
             refine pure_ (i := 3) (N := some 88) (v := ?_) (a' := ?_) #[true, true, true, true, false, false, false, false, false, false, false, false, false, false, false, false] rfl rfl (any_of HT_.out (by kernel_rfl)) (fun _ _ _ h => h) (Or.inl ⟨by rfl, ?_⟩) ?_ ?_
             rotate_left
             ·intro w'
              go_simp
              with_reducible rfl
             rotate_left
             ·simp only [Act.put, sA, sB, sC, i64_w, i32_w]
              rfl
             refine pure_ (i := 4) (N := some 89) (v := ?_) (a' := ?_) #[true, true, true, true, true, false, false, false, false, false, false, false, false, false, false, false] rfl rfl (any_of HT_.out (by kernel_rfl)) (fun _ _ _ h => h) (Or.inl ⟨by rfl, ?_⟩) ?_ ?_
             rotate_left
             ·intro w'
              go_simp
              with_reducible rfl
             rotate_left
             ·simp only [Act.put, sA, sB, sC, i64_w, i32_w]
              rfl
             refine pure_ (i := 5) (N := some 90) (v := ?_) (a' := ?_) #[true, true, true, true, true, true, false, false, false, false, false, false, false, false, false, false] rfl rfl (any_of HT_.out (by kernel_rfl)) (fun _ _ _ h => h) (Or.inl ⟨by rfl, ?_⟩) ?_ ?_
             rotate_left
             ·intro w'
              go_simp
              with_reducible rfl
             rotate_left
             ·simp only [Act.put, sA, sB, sC, i64_w, i32_w]
              rfl
             refine pure_ (i := 6) (N := some 91) (v := ?_) (a' := ?_) #[true, true, true, true, true, true, true, false, false, false, false, false, false, false, false, false] rfl rfl (any_of HT_.out (by kernel_rfl)) (fun _ _ _ h => h) (Or.inl ⟨by rfl, ?_⟩) ?_ ?_
             rotate_left
             ·intro w'
              go_simp
              with_reducible rfl
             rotate_left
             ·simp only [Act.put, sA, sB, sC, i64_w, i32_w]
              rfl
             refine pure_ (i := 8) (N := some 93) (v := ?_) (a' := ?_) #[true, true, true, true, true, true, true, false, true, false, false, false, false, false, false, false] rfl rfl (any_of HT_.out (by kernel_rfl)) (fun _ _ _ h => h) (Or.inl ⟨by rfl, ?_⟩) ?_ ?_
             rotate_left
             ·intro w'
              go_simp
              with_reducible rfl
             rotate_left
             ·simp only [Act.put, sA, sB, sC, i64_w, i32_w]
              rfl
             refine pure_ (i := 12) (N := some 97) (v := ?_) (a' := ?_) #[true, true, true, true, true, true, true, false, true, false, false, false, true, false, false, false] rfl rfl (any_of HT_.out (by kernel_rfl)) (fun _ _ _ h => h) (Or.inl ⟨by rfl, ?_⟩) ?_ ?_
             rotate_left
             ·intro w'
              go_simp
              with_reducible rfl
             rotate_left
             ·simp only [Act.put, sA, sB, sC, i64_w, i32_w]
              rfl
             refine take_ (i := 7) (N := some 92) (v := ?_) (a' := ?_) #[true, true, true, true, true, true, true, true, true, false, false, false, true, false, false, false] rfl rfl (take_ofW HT_.out HW_.out (by kernel_rfl)) (fun _ _ _ h => h) (Or.inl ⟨by rfl, ?_⟩) hHeld ?_ ?_
             rotate_left
             ·rintro w' ⟨s0, s1, s2, s3, s4, s5, s6, s7, s8, s9⟩
              go_simp
              with_reducible rfl
             rotate_left
             ·simp only [Act.put, sA, sB, sC, i64_w, i32_w]
              rfl
             refine take_ (i := 9) (N := some 94) (v := ?_) (a' := ?_) #[true, true, true, true, true, true, true, true, true, true, false, false, true, false, false, false] rfl rfl (take_ofW HT_.out HW_.out (by kernel_rfl)) (fun _ _ _ h => h) (Or.inl ⟨by rfl, ?_⟩) hHeld ?_ ?_
             rotate_left
             ·rintro w' ⟨s0, s1, s2, s3, s4, s5, s6, s7, s8, s9⟩
              go_simp
              with_reducible rfl
             rotate_left
             ·simp only [Act.put, sA, sB, sC, i64_w, i32_w]
              rfl
             refine pure_ (i := 10) (N := some 95) (v := ?_) (a' := ?_) #[true, true, true, true, true, true, true, true, true, true, true, false, true, false, false, false] rfl rfl (any_of HT_.out (by kernel_rfl)) (fun _ _ _ h => h) (Or.inl ⟨by rfl, ?_⟩) ?_ ?_
             rotate_left
             ·intro w'
              go_simp
              with_reducible rfl
             rotate_left
             ·simp only [Act.put, sA, sB, sC, i64_w, i32_w]
              rfl
             refine take_ (i := 11) (N := some 96) (v := ?_) (a' := ?_) #[true, true, true, true, true, true, true, true, true, true, true, true, true, false, false, false] rfl rfl (take_ofW HT_.out HW_.out (by kernel_rfl)) (fun _ _ _ h => h) (Or.inl ⟨by rfl, ?_⟩) hHeld ?_ ?_
             rotate_left
             ·rintro w' ⟨s0, s1, s2, s3, s4, s5, s6, s7, s8, s9⟩
              go_simp
              with_reducible rfl
             rotate_left
             ·simp only [Act.put, sA, sB, sC, i64_w, i32_w]
              rfl
             refine take_ (i := 13) (N := some 98) (v := ?_) (a' := ?_) #[true, true, true, true, true, true, true, true, true, true, true, true, true, true, false, false] rfl rfl (take_ofW HT_.out HW_.out (by kernel_rfl)) (fun _ _ _ h => h) (Or.inl ⟨by rfl, ?_⟩) hHeld ?_ ?_
             rotate_left
             ·rintro w' ⟨s0, s1, s2, s3, s4, s5, s6, s7, s8, s9⟩
              go_simp
              with_reducible rfl
             rotate_left
             ·simp only [Act.put, sA, sB, sC, i64_w, i32_w]
              rfl
             refine pure_ (i := 14) (N := some 99) (v := ?_) (a' := ?_) #[true, true, true, true, true, true, true, true, true, true, true, true, true, true, true, false] rfl rfl (any_of HT_.out (by kernel_rfl)) (fun _ _ _ h => h) (Or.inl ⟨by rfl, ?_⟩) ?_ ?_
             rotate_left
             ·intro w'
              go_simp
              with_reducible rfl
             rotate_left
             ·simp only [Act.put, sA, sB, sC, i64_w, i32_w]
              rfl
             refine pure_ (i := 15) (N := some 100) (v := ?_) (a' := ?_) #[true, true, true, true, true, true, true, true, true, true, true, true, true, true, true, true] rfl rfl (any_of HT_.out (by kernel_rfl)) (fun _ _ _ h => h) (Or.inl ⟨by rfl, ?_⟩) ?_ ?_
             rotate_left
             ·intro w'
              go_simp
              with_reducible rfl
             rotate_left
             ·simp only [Act.put, sA, sB, sC, i64_w, i32_w]
              rfl
             refine done_ (done_of HT_.out (by kernel_rfl)) ?_
             try go_wp2
             replace HO_253002 := aMk (rD HO_253002.out)
             replace BK250 := aMk (bD BK250.out)
             replace BK251 := aMk (bD BK251.out)
             replace BK252 := aMk (bD BK252.out)
             replace HB := aMk (eD HB.out)
             have p268 : 0 ≤ (x7_1 : Int) := of_decide_eq_true (by first | (with_reducible assumption) | assumption)
             have q268 : x7_1 < (l1.length : Int) := of_decide_eq_true (by first | (with_reducible assumption) | assumption)
             obtain ⟨ad268, A268_1, c268_1, A268_2, c268_2, e268, hx268_0, hx268_1, hx268_2, hx268_3, hl268_1, hi268_1, hl268_2, hi268_2⟩ := at_T39 HR1.out x7_1 p268 q268
             have hw268_3 := hx268_3
             have hw268_2 := hx268_2
             have hw268_1 := hx268_1
             have hw268_0 := hx268_0
             obtain rfl : ad253 = ad268 := (by injection e268)
             replace hx268_0 := (HB.out.cell (World.block_lt_of_cell? w _ hx268_0)).trans hx268_0
             replace hx268_1 := (HB.out.cell (World.block_lt_of_cell? w _ hx268_1)).trans hx268_1
             replace hx268_2 := (HB.out.cell (World.block_lt_of_cell? w _ hx268_2)).trans hx268_2
             replace hx268_3 := (HB.out.cell (World.block_lt_of_cell? w _ hx268_3)).trans hx268_3
             have HR268_1 := aMk hi268_1
             have HC268_1 := aMk hl268_1
             clear hi268_1 hl268_1
             have HR268_2 := aMk hi268_2
             have HC268_2 := aMk hl268_2
             clear hi268_2 hl268_2
             replace p268 := eq_true p268
             replace q268 := eq_true q268
             have p269 : 0 ≤ (a0_1 : Int) := of_decide_eq_true (by first | (with_reducible assumption) | assumption)
             have q269 : a0_1 < (((rd_T39 l1 x7_1).f0.f2).length : Int) := of_decide_eq_true (by first | (with_reducible assumption) | assumption)
             obtain ⟨ad269, e269, hx269_0⟩ := Kd.at_int HR268_2.out a0_1 p269 q269
             have hw269_0 := hx269_0
             cases e269
             replace hx269_0 := (HB.out.cell (World.block_lt_of_cell? w _ hx269_0)).trans hx269_0
             replace p269 := eq_true p269
             replace q269 := eq_true q269
             refine start_ (n := 12) (S := fun w' => w'.cell? ⟨gb250, 0, none⟩ = some (.int .i64 a0_0) ∧ w'.cell? ⟨gb250, 1, none⟩ = some (.int .i64 a0_1) ∧ w'.cell? (ad253.add ((x7_1).toNat * 4)) = some (.int .i64 ((rd_T39 l1 x7_1).f0.f0)) ∧ w'.cell? ⟨(ad253.add ((x7_1).toNat * 4)).block, (ad253.add ((x7_1).toNat * 4)).off + 1, none⟩ = some (.slice A268_1 ((rd_T39 l1 x7_1).f0.f1).length c268_1) ∧ w'.cell? ⟨(ad253.add ((x7_1).toNat * 4)).block, (ad253.add ((x7_1).toNat * 4)).off + 2, none⟩ = some (.slice (some ad269) ((rd_T39 l1 x7_1).f0.f2).length c268_2) ∧ w'.cell? ⟨(ad253.add ((x7_1).toNat * 4)).block, (ad253.add ((x7_1).toNat * 4)).off + 3, none⟩ = some (.int .u64 ((rd_T39 l1 x7_1).f1)) ∧ w'.cell? (ad269.add (a0_1).toNat) = some (.int .i64 (rd ((rd_T39 l1 x7_1).f0.f2) a0_1))) (ds := []) #[false, false, false, false, false, false, false, false, false, false, false, false] (by kernel_rfl) rfl rfl ⟨(blk_cell BK250.out 0).trans rfl, (blk_cell BK250.out 1).trans rfl, ((HB.out.cell (World.block_lt_of_cell? w _ hw268_0)).trans hw268_0), ((HB.out.cell (World.block_lt_of_cell? w _ hw268_1)).trans hw268_1), ((HB.out.cell (World.block_lt_of_cell? w _ hw268_2)).trans hw268_2), ((HB.out.cell (World.block_lt_of_cell? w _ hw268_3)).trans hw268_3), ((HB.out.cell (World.block_lt_of_cell? w _ hw269_0)).trans hw269_0)⟩ (fun hHeld => ?_); refine with_tabW gristmillref06_Of.tab16 gristmillref06_Of.bits16 (fun HT_ HW_ => ?_)
             generalize w74.drew = w75 at HO_253002 BK250 BK251 BK252 HB HR268_1 HR268_2 hx268_0 hx268_1 hx268_2 hx268_3 hx269_0 hHeld ⊢
             refine pure_ (i := 0) (N := some 101) (v := ?_) (a' := ?_) #[true, false, false, false, false, false, false, false, false, false, false, false] rfl rfl (any_of HT_.out (by kernel_rfl)) (fun _ _ _ h => h) (Or.inl ⟨by rfl, ?_⟩) ?_ ?_
             rotate_left
             ·intro w'
              go_simp
              with_reducible rfl
             rotate_left
             ·simp only [Act.put, sA, sB, sC, i64_w, i32_w]
              rfl
             refine pure_ (i := 1) (N := some 102) (v := ?_) (a' := ?_) #[true, true, false, false, false, false, false, false, false, false, false, false] rfl rfl (any_of HT_.out (by kernel_rfl)) (fun _ _ _ h => h) (Or.inl ⟨by rfl, ?_⟩) ?_ ?_
             rotate_left
             ·intro w'
              go_simp
              with_reducible rfl
             rotate_left
             ·simp only [Act.put, sA, sB, sC, i64_w, i32_w]
              rfl
             refine pure_ (i := 2) (N := some 103) (v := ?_) (a' := ?_) #[true, true, true, false, false, false, false, false, false, false, false, false] rfl rfl (any_of HT_.out (by kernel_rfl)) (fun _ _ _ h => h) (Or.inl ⟨by rfl, ?_⟩) ?_ ?_
             rotate_left
             ·intro w'
              go_simp
              with_reducible rfl
             rotate_left
             ·simp only [Act.put, sA, sB, sC, i64_w, i32_w]
              rfl
             refine pure_ (i := 3) (N := some 104) (v := ?_) (a' := ?_) #[true, true, true, true, false, false, false, false, false, false, false, false] rfl rfl (any_of HT_.out (by kernel_rfl)) (fun _ _ _ h => h) (Or.inl ⟨by rfl, ?_⟩) ?_ ?_
             rotate_left
             ·intro w'
              go_simp
              with_reducible rfl
             rotate_left
             ·simp only [Act.put, sA, sB, sC, i64_w, i32_w]
              rfl
             refine pure_ (i := 4) (N := some 105) (v := ?_) (a' := ?_) #[true, true, true, true, true, false, false, false, false, false, false, false] rfl rfl (any_of HT_.out (by kernel_rfl)) (fun _ _ _ h => h) (Or.inl ⟨by rfl, ?_⟩) ?_ ?_
             rotate_left
             ·intro w'
              go_simp
              with_reducible rfl
             rotate_left
             ·simp only [Act.put, sA, sB, sC, i64_w, i32_w]
              rfl
             refine pure_ (i := 6) (N := some 107) (v := ?_) (a' := ?_) #[true, true, true, true, true, false, true, false, false, false, false, false] rfl rfl (any_of HT_.out (by kernel_rfl)) (fun _ _ _ h => h) (Or.inl ⟨by rfl, ?_⟩) ?_ ?_
             rotate_left
             ·intro w'
              go_simp
              with_reducible rfl
             rotate_left
             ·simp only [Act.put, sA, sB, sC, i64_w, i32_w]
              rfl
             refine take_ (i := 5) (N := some 106) (v := ?_) (a' := ?_) #[true, true, true, true, true, true, true, false, false, false, false, false] rfl rfl (take_ofW HT_.out HW_.out (by kernel_rfl)) (fun _ _ _ h => h) (Or.inl ⟨by rfl, ?_⟩) hHeld ?_ ?_
             rotate_left
             ·rintro w' ⟨s0, s1, s2, s3, s4, s5, s6⟩
              go_simp
              with_reducible rfl
             rotate_left
             ·simp only [Act.put, sA, sB, sC, i64_w, i32_w]
              rfl
             refine take_ (i := 7) (N := some 108) (v := ?_) (a' := ?_) #[true, true, true, true, true, true, true, true, false, false, false, false] rfl rfl (take_ofW HT_.out HW_.out (by kernel_rfl)) (fun _ _ _ h => h) (Or.inl ⟨by rfl, ?_⟩) hHeld ?_ ?_
             rotate_left
             ·rintro w' ⟨s0, s1, s2, s3, s4, s5, s6⟩
              go_simp
              with_reducible rfl
             rotate_left
             ·simp only [Act.put, sA, sB, sC, i64_w, i32_w]
              rfl
             refine pure_ (i := 8) (N := some 109) (v := ?_) (a' := ?_) #[true, true, true, true, true, true, true, true, true, false, false, false] rfl rfl (any_of HT_.out (by kernel_rfl)) (fun _ _ _ h => h) (Or.inl ⟨by rfl, ?_⟩) ?_ ?_
             rotate_left
             ·intro w'
              go_simp
              with_reducible rfl
             rotate_left
             ·simp only [Act.put, sA, sB, sC, i64_w, i32_w]
              rfl
             refine take_ (i := 9) (N := some 110) (v := ?_) (a' := ?_) #[true, true, true, true, true, true, true, true, true, true, false, false] rfl rfl (take_ofW HT_.out HW_.out (by kernel_rfl)) (fun _ _ _ h => h) (Or.inl ⟨by rfl, ?_⟩) hHeld ?_ ?_
             rotate_left
             ·rintro w' ⟨s0, s1, s2, s3, s4, s5, s6⟩
              go_simp
              with_reducible rfl
             rotate_left
             ·simp only [Act.put, sA, sB, sC, i64_w, i32_w]
              rfl
             refine pure_ (i := 10) (N := some 111) (v := ?_) (a' := ?_) #[true, true, true, true, true, true, true, true, true, true, true, false] rfl rfl (any_of HT_.out (by kernel_rfl)) (fun _ _ _ h => h) (Or.inl ⟨by rfl, ?_⟩) ?_ ?_
             rotate_left
             ·intro w'
              go_simp
              with_reducible rfl
             rotate_left
             ·simp only [Act.put, sA, sB, sC, i64_w, i32_w]
              rfl
             refine one_ (i := 11) (N := none) #[true, true, true, true, true, true, true, true, true, true, true, true] rfl rfl (one_of HT_.out (by kernel_rfl)) (by decide) (fun K hK => ?_)
             have hs76 : w75.cell? ⟨gb252, 1, none⟩ = some (.int .i64 x253001_1) := (blk_cell BK252.out 1).trans rfl
             have hfs76 := blk_frozen BK252.out 1
             have hns76_0 := NB250_252.out
             have hns76_1 := NB251_252.out
             have hms76_0 := NB252_250.out
             have hms76_1 := NB252_251.out
             refine skip_ (w1 := ?_) (by rfl) rfl ?_ ?_
             rotate_left
             ·go_simp
              rfl
             refine hK.out _ _ ⟨((cell_far (p := ⟨gb252, _, none⟩) NB250_252.out _).trans (hHeld.1)), ((cell_far (p := ⟨gb252, _, none⟩) NB250_252.out _).trans (hHeld.2.1)), ((cell_far (p := ⟨gb252, _, none⟩) (by first | exact Nat.ne_of_lt (Nat.lt_of_lt_of_le (by have := World.block_lt_of_cell? _ _ hw268_0; first | rwa [add_block] at this | exact this) GW252.out) | (rw [add_block]; exact Nat.ne_of_lt (Nat.lt_of_lt_of_le (by have := World.block_lt_of_cell? _ _ hw268_0; first | rwa [add_block] at this | exact this) GW252.out)) | (show (Addr.add _ _).block ≠ _; rw [add_block]; exact Nat.ne_of_lt (Nat.lt_of_lt_of_le (by have := World.block_lt_of_cell? _ _ hw268_0; first | rwa [add_block] at this | exact this) GW252.out)) | (dsimp only; exact Nat.ne_of_lt (Nat.lt_of_lt_of_le (by have := World.block_lt_of_cell? _ _ hw268_0; first | rwa [add_block] at this | exact this) GW252.out))) _).trans (hHeld.2.2.1)), ((cell_far (p := ⟨gb252, _, none⟩) (by first | exact Nat.ne_of_lt (Nat.lt_of_lt_of_le (by have := World.block_lt_of_cell? _ _ hw268_1; first | rwa [add_block] at this | exact this) GW252.out) | (rw [add_block]; exact Nat.ne_of_lt (Nat.lt_of_lt_of_le (by have := World.block_lt_of_cell? _ _ hw268_1; first | rwa [add_block] at this | exact this) GW252.out)) | (show (Addr.add _ _).block ≠ _; rw [add_block]; exact Nat.ne_of_lt (Nat.lt_of_lt_of_le (by have := World.block_lt_of_cell? _ _ hw268_1; first | rwa [add_block] at this | exact this) GW252.out)) | (dsimp only; exact Nat.ne_of_lt (Nat.lt_of_lt_of_le (by have := World.block_lt_of_cell? _ _ hw268_1; first | rwa [add_block] at this | exact this) GW252.out))) _).trans (hHeld.2.2.2.1)), ((cell_far (p := ⟨gb252, _, none⟩) (by first | exact Nat.ne_of_lt (Nat.lt_of_lt_of_le (by have := World.block_lt_of_cell? _ _ hw268_2; first | rwa [add_block] at this | exact this) GW252.out) | (rw [add_block]; exact Nat.ne_of_lt (Nat.lt_of_lt_of_le (by have := World.block_lt_of_cell? _ _ hw268_2; first | rwa [add_block] at this | exact this) GW252.out)) | (show (Addr.add _ _).block ≠ _; rw [add_block]; exact Nat.ne_of_lt (Nat.lt_of_lt_of_le (by have := World.block_lt_of_cell? _ _ hw268_2; first | rwa [add_block] at this | exact this) GW252.out)) | (dsimp only; exact Nat.ne_of_lt (Nat.lt_of_lt_of_le (by have := World.block_lt_of_cell? _ _ hw268_2; first | rwa [add_block] at this | exact this) GW252.out))) _).trans (hHeld.2.2.2.2.1)), ((cell_far (p := ⟨gb252, _, none⟩) (by first | exact Nat.ne_of_lt (Nat.lt_of_lt_of_le (by have := World.block_lt_of_cell? _ _ hw268_3; first | rwa [add_block] at this | exact this) GW252.out) | (rw [add_block]; exact Nat.ne_of_lt (Nat.lt_of_lt_of_le (by have := World.block_lt_of_cell? _ _ hw268_3; first | rwa [add_block] at this | exact this) GW252.out)) | (show (Addr.add _ _).block ≠ _; rw [add_block]; exact Nat.ne_of_lt (Nat.lt_of_lt_of_le (by have := World.block_lt_of_cell? _ _ hw268_3; first | rwa [add_block] at this | exact this) GW252.out)) | (dsimp only; exact Nat.ne_of_lt (Nat.lt_of_lt_of_le (by have := World.block_lt_of_cell? _ _ hw268_3; first | rwa [add_block] at this | exact this) GW252.out))) _).trans (hHeld.2.2.2.2.2.1)), ((cell_far (p := ⟨gb252, _, none⟩) (by first | exact Nat.ne_of_lt (Nat.lt_of_lt_of_le (by have := World.block_lt_of_cell? _ _ hw269_0; first | rwa [add_block] at this | exact this) GW252.out) | (rw [add_block]; exact Nat.ne_of_lt (Nat.lt_of_lt_of_le (by have := World.block_lt_of_cell? _ _ hw269_0; first | rwa [add_block] at this | exact this) GW252.out)) | (show (Addr.add _ _).block ≠ _; rw [add_block]; exact Nat.ne_of_lt (Nat.lt_of_lt_of_le (by have := World.block_lt_of_cell? _ _ hw269_0; first | rwa [add_block] at this | exact this) GW252.out)) | (dsimp only; exact Nat.ne_of_lt (Nat.lt_of_lt_of_le (by have := World.block_lt_of_cell? _ _ hw269_0; first | rwa [add_block] at this | exact this) GW252.out))) _).trans (hHeld.2.2.2.2.2.2))⟩ (fun hHeld => ?_)
             clear hK K
             refine done_ (done_of HT_.out (by kernel_rfl)) ?_
             try go_wp2
             go_roundg k1
             case measure => have := HK1.out; omega
             case rel => exact ⟨(false), (wrap64 (x7_1 + 1)), (IntKind.u64.wrap (x253000_1 + ((rd_T39 l1 x7_1).f1))), (rd ((rd_T39 l1 x7_1).f0.f2) a0_1), (x253002_1), (u253002), (by first | rfl | (simp; done) | (simp [*]; done)), (by first | rfl | (simp; done) | (simp [*]; done)), H', ⟨by have := HK1.out; omega⟩, ⟨by (with_reducible repeat (first | apply rA | apply rN | apply rD)); exact Kd.R_mono (Kd.R_far (p := ⟨gb252, 1, none⟩) (Kd.R_types HO_253002.out BK252.out (by decide)) (fun _ hk => hk.2) (.int .i64 (rd ((rd_T39 l1 x7_1).f0.f2) a0_1))) (fun _ hk => trivial)⟩, ⟨by (with_reducible repeat (first | apply bA | apply bN | apply bD)); refine blk_far ?_ NB250_252.out _; (with_reducible repeat (first | apply bA | apply bN | apply bD)); exact BK250.out⟩, ⟨by (with_reducible repeat (first | apply bA | apply bN | apply bD)); refine blk_far ?_ NB251_252.out _; (with_reducible repeat (first | apply bA | apply bN | apply bD)); exact BK251.out⟩, ⟨by (with_reducible repeat (first | apply bA | apply bN | apply bD)); refine blk_put (cs := #[.int .u64 (IntKind.u64.wrap (x253000_1 + ((rd_T39 l1 x7_1).f1))), .int .i64 x253001_1, u253002]) ?_ 1 _ rfl; (with_reducible repeat (first | apply bA | apply bN | apply bD)); exact BK252.out⟩, ⟨by repeat (first | (with_reducible first | exact HB.out | apply eA | apply eN | apply eD | refine eS ?_ GE250.out | refine eS ?_ GE251.out | refine eS ?_ GE252.out) | exact HB.out)⟩⟩
            ·rw [if_neg c67] at H
             have c67b0 : decide (x253001_1 < (rd ((rd_T39 l1 x7_1).f0.f2) a0_1)) = false := decide_eq_false c67
             clear c67
             have H' := aMk H
             clear H
             have p253 : 0 ≤ (x7_1 : Int) := of_decide_eq_true (by first | (with_reducible assumption) | assumption)
             have q253 : x7_1 < (l1.length : Int) := of_decide_eq_true (by first | (with_reducible assumption) | assumption)
             obtain ⟨ad253, A253_1, c253_1, A253_2, c253_2, e253, hx253_0, hx253_1, hx253_2, hx253_3, hl253_1, hi253_1, hl253_2, hi253_2⟩ := at_T39 HR1.out x7_1 p253 q253
             cases e253
             replace hx253_0 := (HB.out.cell (World.block_lt_of_cell? w _ hx253_0)).trans hx253_0
             replace hx253_1 := (HB.out.cell (World.block_lt_of_cell? w _ hx253_1)).trans hx253_1
             replace hx253_2 := (HB.out.cell (World.block_lt_of_cell? w _ hx253_2)).trans hx253_2
             replace hx253_3 := (HB.out.cell (World.block_lt_of_cell? w _ hx253_3)).trans hx253_3
             have HR253_1 := aMk hi253_1
             have HC253_1 := aMk hl253_1
             clear hi253_1 hl253_1
             have HR253_2 := aMk hi253_2
             have HC253_2 := aMk hl253_2
             clear hi253_2 hl253_2
             replace p253 := eq_true p253
             replace q253 := eq_true q253
             try go_wp2
             replace HO_253002 := aMk (rD HO_253002.out)
             replace BK250 := aMk (bD BK250.out)
             replace BK251 := aMk (bD BK251.out)
             replace BK252 := aMk (bD BK252.out)
             replace HB := aMk (eD HB.out)
             have p254 : 0 ≤ (x7_1 : Int) := of_decide_eq_true (by first | (with_reducible assumption) | assumption)
             have q254 : x7_1 < (l1.length : Int) := of_decide_eq_true (by first | (with_reducible assumption) | assumption)
             obtain ⟨ad254, A254_1, c254_1, A254_2, c254_2, e254, hx254_0, hx254_1, hx254_2, hx254_3, hl254_1, hi254_1, hl254_2, hi254_2⟩ := at_T39 HR1.out x7_1 p254 q254
             have hw254_3 := hx254_3
             have hw254_2 := hx254_2
             have hw254_1 := hx254_1
             have hw254_0 := hx254_0
             obtain rfl : ad253 = ad254 := (by injection e254)
             replace hx254_0 := (HB.out.cell (World.block_lt_of_cell? w _ hx254_0)).trans hx254_0
             replace hx254_1 := (HB.out.cell (World.block_lt_of_cell? w _ hx254_1)).trans hx254_1
             replace hx254_2 := (HB.out.cell (World.block_lt_of_cell? w _ hx254_2)).trans hx254_2
             replace hx254_3 := (HB.out.cell (World.block_lt_of_cell? w _ hx254_3)).trans hx254_3
             have HR254_1 := aMk hi254_1
             have HC254_1 := aMk hl254_1
             clear hi254_1 hl254_1
             have HR254_2 := aMk hi254_2
             have HC254_2 := aMk hl254_2
             clear hi254_2 hl254_2
             replace p254 := eq_true p254
             replace q254 := eq_true q254
             refine start_ (n := 10) (S := fun w' => w'.cell? ⟨gb252, 0, none⟩ = some (.int .u64 x253000_1) ∧ w'.cell? ⟨gb252, 1, none⟩ = some (.int .i64 x253001_1) ∧ w'.cell? ⟨gb252, 2, none⟩ = some (u253002) ∧ w'.cell? (ad253.add ((x7_1).toNat * 4)) = some (.int .i64 ((rd_T39 l1 x7_1).f0.f0)) ∧ w'.cell? ⟨(ad253.add ((x7_1).toNat * 4)).block, (ad253.add ((x7_1).toNat * 4)).off + 1, none⟩ = some (.slice A254_1 ((rd_T39 l1 x7_1).f0.f1).length c254_1) ∧ w'.cell? ⟨(ad253.add ((x7_1).toNat * 4)).block, (ad253.add ((x7_1).toNat * 4)).off + 2, none⟩ = some (.slice A254_2 ((rd_T39 l1 x7_1).f0.f2).length c254_2) ∧ w'.cell? ⟨(ad253.add ((x7_1).toNat * 4)).block, (ad253.add ((x7_1).toNat * 4)).off + 3, none⟩ = some (.int .u64 ((rd_T39 l1 x7_1).f1))) (ds := [9]) #[false, false, false, false, false, false, false, false, false, false] (by kernel_rfl) rfl rfl ⟨(blk_cell BK252.out 0).trans rfl, (blk_cell BK252.out 1).trans rfl, (blk_cell BK252.out 2).trans rfl, ((HB.out.cell (World.block_lt_of_cell? w _ hw254_0)).trans hw254_0), ((HB.out.cell (World.block_lt_of_cell? w _ hw254_1)).trans hw254_1), ((HB.out.cell (World.block_lt_of_cell? w _ hw254_2)).trans hw254_2), ((HB.out.cell (World.block_lt_of_cell? w _ hw254_3)).trans hw254_3)⟩ (fun hHeld => ?_); refine with_tabW gristmillref06_Of.tab7 gristmillref06_Of.bits7 (fun HT_ HW_ => ?_)
             generalize wr.drew = w77 at HO_253002 BK250 BK251 BK252 HB HR254_1 HR254_2 hx254_0 hx254_1 hx254_2 hx254_3 hHeld ⊢
             refine pure_ (i := 0) (N := some 20) (v := ?_) (a' := ?_) #[true, false, false, false, false, false, false, false, false, false] rfl rfl (any_of HT_.out (by kernel_rfl)) (fun _ _ _ h => h) (Or.inl ⟨by rfl, ?_⟩) ?_ ?_
             rotate_left
             ·intro w'
              go_simp
              with_reducible rfl
             rotate_left
             ·simp only [Act.put, sA, sB, sC, i64_w, i32_w]
              rfl
             refine pure_ (i := 2) (N := some 22) (v := ?_) (a' := ?_) #[true, false, true, false, false, false, false, false, false, false] rfl rfl (any_of HT_.out (by kernel_rfl)) (fun _ _ _ h => h) (Or.inl ⟨by rfl, ?_⟩) ?_ ?_
             rotate_left
             ·intro w'
              go_simp
              with_reducible rfl
             rotate_left
             ·simp only [Act.put, sA, sB, sC, i64_w, i32_w]
              rfl
             refine pure_ (i := 3) (N := some 23) (v := ?_) (a' := ?_) #[true, false, true, true, false, false, false, false, false, false] rfl rfl (any_of HT_.out (by kernel_rfl)) (fun _ _ _ h => h) (Or.inl ⟨by rfl, ?_⟩) ?_ ?_
             rotate_left
             ·intro w'
              go_simp
              with_reducible rfl
             rotate_left
             ·simp only [Act.put, sA, sB, sC, i64_w, i32_w]
              rfl
             refine pure_ (i := 4) (N := some 24) (v := ?_) (a' := ?_) #[true, false, true, true, true, false, false, false, false, false] rfl rfl (any_of HT_.out (by kernel_rfl)) (fun _ _ _ h => h) (Or.inl ⟨by rfl, ?_⟩) ?_ ?_
             rotate_left
             ·intro w'
              go_simp
              with_reducible rfl
             rotate_left
             ·simp only [Act.put, sA, sB, sC, i64_w, i32_w]
              rfl
             refine pure_ (i := 5) (N := some 25) (v := ?_) (a' := ?_) #[true, false, true, true, true, true, false, false, false, false] rfl rfl (any_of HT_.out (by kernel_rfl)) (fun _ _ _ h => h) (Or.inl ⟨by rfl, ?_⟩) ?_ ?_
             rotate_left
             ·intro w'
              go_simp
              with_reducible rfl
             rotate_left
             ·simp only [Act.put, sA, sB, sC, i64_w, i32_w]
              rfl
             refine take_ (i := 1) (N := some 21) (v := ?_) (a' := ?_) #[true, true, true, true, true, true, false, false, false, false] rfl rfl (take_ofW HT_.out HW_.out (by kernel_rfl)) (fun _ _ _ h => h) (Or.inl ⟨by rfl, ?_⟩) hHeld ?_ ?_
             rotate_left
             ·rintro w' ⟨s0, s1, s2, s3, s4, s5, s6⟩
              go_simp
              with_reducible rfl
             rotate_left
             ·simp only [Act.put, sA, sB, sC, i64_w, i32_w]
              rfl
             refine take_ (i := 6) (N := some 26) (v := ?_) (a' := ?_) #[true, true, true, true, true, true, true, false, false, false] rfl rfl (take_ofW HT_.out HW_.out (by kernel_rfl)) (fun _ _ _ h => h) (Or.inl ⟨by rfl, ?_⟩) hHeld ?_ ?_
             rotate_left
             ·rintro w' ⟨s0, s1, s2, s3, s4, s5, s6⟩
              go_simp
              with_reducible rfl
             rotate_left
             ·simp only [Act.put, sA, sB, sC, i64_w, i32_w]
              rfl
             refine pure_ (i := 7) (N := some 27) (v := ?_) (a' := ?_) #[true, true, true, true, true, true, true, true, false, false] rfl rfl (any_of HT_.out (by kernel_rfl)) (fun _ _ _ h => h) (Or.inl ⟨by rfl, ?_⟩) ?_ ?_
             rotate_left
             ·intro w'
              go_simp
              with_reducible rfl
             rotate_left
             ·simp only [Act.put, sA, sB, sC, i64_w, i32_w]
              rfl
             refine pure_ (i := 8) (N := some 28) (v := ?_) (a' := ?_) #[true, true, true, true, true, true, true, true, true, false] rfl rfl (any_of HT_.out (by kernel_rfl)) (fun _ _ _ h => h) (Or.inl ⟨by rfl, ?_⟩) ?_ ?_
             rotate_left
             ·intro w'
              go_simp
              with_reducible rfl
             rotate_left
             ·simp only [Act.put, sA, sB, sC, i64_w, i32_w]
              rfl
             refine last_ (i := 9) (N := none) #[true, true, true, true, true, true, true, true, true, true] rfl rfl (one_of HT_.out (by kernel_rfl)) (by decide) (fun K hK => ?_)
             have hs78 : w77.cell? ⟨gb252, 0, none⟩ = some (.int .u64 x253000_1) := (blk_cell BK252.out 0).trans rfl
             have hfs78 := blk_frozen BK252.out 0
             have hns78_0 := NB250_252.out
             have hns78_1 := NB251_252.out
             have hms78_0 := NB252_250.out
             have hms78_1 := NB252_251.out
             refine skip_ (w1 := ?_) (by rfl) rfl ?_ ?_
             rotate_left
             ·go_simp
              rfl
             refine hK.out _ _ ?_
             clear hK K
             refine done_ (done_of HT_.out (by kernel_rfl)) ?_
             have hnb79 := NB250_251.out
             have hnc79 := NB251_250.out
             have hnb80 := NB250_252.out
             have hnc80 := NB252_250.out
             have hcz81_0 : w77.cell? ⟨gb250, 0, none⟩ = some (.int .i64 a0_0) := (blk_cell BK250.out 0).trans rfl
             have hcz81_1 : w77.cell? ⟨gb250, 1, none⟩ = some (.int .i64 a0_1) := (blk_cell BK250.out 1).trans rfl
             have hfz81_0 := blk_frozen BK250.out 0
             have hfz81_1 := blk_frozen BK250.out 1
             try go_wp2
             have n0_ : Aside0 (Kd.R Kd.string 9 (w77.setCell ⟨gb252, 0, none⟩ (.int .u64 (IntKind.u64.wrap (x253000_1 + ((rd_T39 l1 x7_1).f1))))) w.heap.size (fun _ => True) u253002 x253002_1) := ⟨by (with_reducible repeat (first | apply rA | apply rN | apply rD)); exact Kd.R_mono (Kd.R_far (p := ⟨gb252, 0, none⟩) (Kd.R_types HO_253002.out BK252.out (by decide)) (fun _ hk => hk.2) (.int .u64 (IntKind.u64.wrap (x253000_1 + ((rd_T39 l1 x7_1).f1))))) (fun _ hk => trivial)⟩
             have n1_ : Aside0 ((w77.setCell ⟨gb252, 0, none⟩ (.int .u64 (IntKind.u64.wrap (x253000_1 + ((rd_T39 l1 x7_1).f1))))).heap[gb250]? = some (.cells #[.int .i64 a0_0, .int .i64 a0_1] 23 (0, 0))) := ⟨by (with_reducible repeat (first | apply bA | apply bN | apply bD)); refine blk_far ?_ NB250_252.out _; (with_reducible repeat (first | apply bA | apply bN | apply bD)); exact BK250.out⟩
             have n2_ : Aside0 ((w77.setCell ⟨gb252, 0, none⟩ (.int .u64 (IntKind.u64.wrap (x253000_1 + ((rd_T39 l1 x7_1).f1))))).heap[gb251]? = some (.cells #[.int .u64 0, .int .i64 0, .slice none 0 0] 33 (0, 0))) := ⟨by (with_reducible repeat (first | apply bA | apply bN | apply bD)); refine blk_far ?_ NB251_252.out _; (with_reducible repeat (first | apply bA | apply bN | apply bD)); exact BK251.out⟩
             have n3_ : Aside0 ((w77.setCell ⟨gb252, 0, none⟩ (.int .u64 (IntKind.u64.wrap (x253000_1 + ((rd_T39 l1 x7_1).f1))))).heap[gb252]? = some (.cells #[.int .u64 (IntKind.u64.wrap (x253000_1 + ((rd_T39 l1 x7_1).f1))), .int .i64 x253001_1, u253002] 33 (0, 0))) := ⟨by (with_reducible repeat (first | apply bA | apply bN | apply bD)); refine blk_put (cs := #[.int .u64 x253000_1, .int .i64 x253001_1, u253002]) ?_ 0 _ rfl; (with_reducible repeat (first | apply bA | apply bN | apply bD)); exact BK252.out⟩
             have n4_ : Aside0 (Below w.heap.size w (w77.setCell ⟨gb252, 0, none⟩ (.int .u64 (IntKind.u64.wrap (x253000_1 + ((rd_T39 l1 x7_1).f1)))))) := ⟨by repeat (first | (with_reducible first | exact HB.out | apply eA | apply eN | apply eD | refine eS ?_ GE250.out | refine eS ?_ GE251.out | refine eS ?_ GE252.out) | exact HB.out)⟩
             (try clear HO_253002)
             (try clear BK250)
             (try clear BK251)
             (try clear BK252)
             (try clear HB)
             generalize (w77.setCell ⟨gb252, 0, none⟩ (.int .u64 (IntKind.u64.wrap (x253000_1 + ((rd_T39 l1 x7_1).f1))))) = w82 at n0_ n1_ n2_ n3_ n4_ ⊢
             have HO_253002 := n0_
             have BK250 := n1_
             have BK251 := n2_
             have BK252 := n3_
             have HB := n4_
             clear n0_ n1_ n2_ n3_ n4_
             replace HO_253002 := aMk (rD HO_253002.out)
             replace BK250 := aMk (bD BK250.out)
             replace BK251 := aMk (bD BK251.out)
             replace BK252 := aMk (bD BK252.out)
             replace HB := aMk (eD HB.out)
             have p266 : 0 ≤ (x7_1 : Int) := of_decide_eq_true (by first | (with_reducible assumption) | assumption)
             have q266 : x7_1 < (l1.length : Int) := of_decide_eq_true (by first | (with_reducible assumption) | assumption)
             obtain ⟨ad266, A266_1, c266_1, A266_2, c266_2, e266, hx266_0, hx266_1, hx266_2, hx266_3, hl266_1, hi266_1, hl266_2, hi266_2⟩ := at_T39 HR1.out x7_1 p266 q266
             have hw266_3 := hx266_3
             have hw266_2 := hx266_2
             have hw266_1 := hx266_1
             have hw266_0 := hx266_0
             obtain rfl : ad253 = ad266 := (by injection e266)
             replace hx266_0 := (HB.out.cell (World.block_lt_of_cell? w _ hx266_0)).trans hx266_0
             replace hx266_1 := (HB.out.cell (World.block_lt_of_cell? w _ hx266_1)).trans hx266_1
             replace hx266_2 := (HB.out.cell (World.block_lt_of_cell? w _ hx266_2)).trans hx266_2
             replace hx266_3 := (HB.out.cell (World.block_lt_of_cell? w _ hx266_3)).trans hx266_3
             have HR266_1 := aMk hi266_1
             have HC266_1 := aMk hl266_1
             clear hi266_1 hl266_1
             have HR266_2 := aMk hi266_2
             have HC266_2 := aMk hl266_2
             clear hi266_2 hl266_2
             replace p266 := eq_true p266
             replace q266 := eq_true q266
             have p267 : 0 ≤ (a0_1 : Int) := of_decide_eq_true (by first | (with_reducible assumption) | assumption)
             have q267 : a0_1 < (((rd_T39 l1 x7_1).f0.f2).length : Int) := of_decide_eq_true (by first | (with_reducible assumption) | assumption)
             obtain ⟨ad267, e267, hx267_0⟩ := Kd.at_int HR266_2.out a0_1 p267 q267
             have hw267_0 := hx267_0
             cases e267
             replace hx267_0 := (HB.out.cell (World.block_lt_of_cell? w _ hx267_0)).trans hx267_0
             replace p267 := eq_true p267
             replace q267 := eq_true q267
             refine start_ (n := 16) (S := fun w' => w'.cell? ⟨gb250, 0, none⟩ = some (.int .i64 a0_0) ∧ w'.cell? ⟨gb250, 1, none⟩ = some (.int .i64 a0_1) ∧ w'.cell? ⟨gb252, 0, none⟩ = some (.int .u64 (IntKind.u64.wrap (x253000_1 + ((rd_T39 l1 x7_1).f1)))) ∧ w'.cell? ⟨gb252, 1, none⟩ = some (.int .i64 x253001_1) ∧ w'.cell? ⟨gb252, 2, none⟩ = some (u253002) ∧ w'.cell? (ad253.add ((x7_1).toNat * 4)) = some (.int .i64 ((rd_T39 l1 x7_1).f0.f0)) ∧ w'.cell? ⟨(ad253.add ((x7_1).toNat * 4)).block, (ad253.add ((x7_1).toNat * 4)).off + 1, none⟩ = some (.slice A266_1 ((rd_T39 l1 x7_1).f0.f1).length c266_1) ∧ w'.cell? ⟨(ad253.add ((x7_1).toNat * 4)).block, (ad253.add ((x7_1).toNat * 4)).off + 2, none⟩ = some (.slice (some ad267) ((rd_T39 l1 x7_1).f0.f2).length c266_2) ∧ w'.cell? ⟨(ad253.add ((x7_1).toNat * 4)).block, (ad253.add ((x7_1).toNat * 4)).off + 3, none⟩ = some (.int .u64 ((rd_T39 l1 x7_1).f1)) ∧ w'.cell? (ad267.add (a0_1).toNat) = some (.int .i64 (rd ((rd_T39 l1 x7_1).f0.f2) a0_1))) (ds := []) #[false, false, false, false, false, false, false, false, false, false, false, false, false, false, false, false] (by kernel_rfl) rfl rfl ⟨(blk_cell BK250.out 0).trans rfl, (blk_cell BK250.out 1).trans rfl, (blk_cell BK252.out 0).trans rfl, (blk_cell BK252.out 1).trans rfl, (blk_cell BK252.out 2).trans rfl, ((HB.out.cell (World.block_lt_of_cell? w _ hw266_0)).trans hw266_0), ((HB.out.cell (World.block_lt_of_cell? w _ hw266_1)).trans hw266_1), ((HB.out.cell (World.block_lt_of_cell? w _ hw266_2)).trans hw266_2), ((HB.out.cell (World.block_lt_of_cell? w _ hw266_3)).trans hw266_3), ((HB.out.cell (World.block_lt_of_cell? w _ hw267_0)).trans hw267_0)⟩ (fun hHeld => ?_); refine with_tabW gristmillref06_Of.tab15 gristmillref06_Of.bits15 (fun HT_ HW_ => ?_)
             generalize w82.drew = w83 at HO_253002 BK250 BK251 BK252 HB HR266_1 HR266_2 hx266_0 hx266_1 hx266_2 hx266_3 hx267_0 hHeld ⊢
             refine pure_ (i := 0) (N := some 85) (v := ?_) (a' := ?_) #[true, false, false, false, false, false, false, false, false, false, false, false, false, false, false, false] rfl rfl (any_of HT_.out (by kernel_rfl)) (fun _ _ _ h => h) (Or.inl ⟨by rfl, ?_⟩) ?_ ?_
             rotate_left
             ·intro w'
              go_simp
              with_reducible rfl
             rotate_left
             ·simp only [Act.put, sA, sB, sC, i64_w, i32_w]
              rfl
             refine pure_ (i := 1) (N := some 86) (v := ?_) (a' := ?_) #[true, true, false, false, false, false, false, false, false, false, false, false, false, false, false, false] rfl rfl (any_of HT_.out (by kernel_rfl)) (fun _ _ _ h => h) (Or.inl ⟨by rfl, ?_⟩) ?_ ?_
             rotate_left
             ·intro w'
              go_simp
              with_reducible rfl
             rotate_left
             ·simp only [Act.put, sA, sB, sC, i64_w, i32_w]
              rfl
             refine pure_ (i := 2) (N := some 87) (v := ?_) (a' := ?_) #[true, true, true, false, false, false, false, false, false, false, false, false, false, false, false, false] rfl rfl (any_of HT_.out (by kernel_rfl)) (fun _ _ _ h => h) (Or.inl ⟨by rfl, ?_⟩) ?_ ?_
             rotate_left
             ·intro w'
              go_simp
              with_reducible rfl
             rotate_left
             ·simp only [Act.put, sA, sB, sC, i64_w, i32_w]
              rfl
             refine pure_ (i := 3) (N := some 88) (v := ?_) (a' := ?_) #[true, true, true, true, false, false, false, false, false, false, false, false, false, false, false, false] rfl rfl (any_of HT_.out (by kernel_rfl)) (fun _ _ _ h => h) (Or.inl ⟨by rfl, ?_⟩) ?_ ?_
             rotate_left
             ·intro w'
              go_simp
              with_reducible rfl
             rotate_left
             ·simp only [Act.put, sA, sB, sC, i64_w, i32_w]
              rfl
             refine pure_ (i := 4) (N := some 89) (v := ?_) (a' := ?_) #[true, true, true, true, true, false, false, false, false, false, false, false, false, false, false, false] rfl rfl (any_of HT_.out (by kernel_rfl)) (fun _ _ _ h => h) (Or.inl ⟨by rfl, ?_⟩) ?_ ?_
             rotate_left
             ·intro w'
              go_simp
              with_reducible rfl
             rotate_left
             ·simp only [Act.put, sA, sB, sC, i64_w, i32_w]
              rfl
             refine pure_ (i := 5) (N := some 90) (v := ?_) (a' := ?_) #[true, true, true, true, true, true, false, false, false, false, false, false, false, false, false, false] rfl rfl (any_of HT_.out (by kernel_rfl)) (fun _ _ _ h => h) (Or.inl ⟨by rfl, ?_⟩) ?_ ?_
             rotate_left
             ·intro w'
              go_simp
              with_reducible rfl
             rotate_left
             ·simp only [Act.put, sA, sB, sC, i64_w, i32_w]
              rfl
             refine pure_ (i := 6) (N := some 91) (v := ?_) (a' := ?_) #[true, true, true, true, true, true, true, false, false, false, false, false, false, false, false, false] rfl rfl (any_of HT_.out (by kernel_rfl)) (fun _ _ _ h => h) (Or.inl ⟨by rfl, ?_⟩) ?_ ?_
             rotate_left
             ·intro w'
              go_simp
              with_reducible rfl
             rotate_left
             ·simp only [Act.put, sA, sB, sC, i64_w, i32_w]
              rfl
             refine pure_ (i := 8) (N := some 93) (v := ?_) (a' := ?_) #[true, true, true, true, true, true, true, false, true, false, false, false, false, false, false, false] rfl rfl (any_of HT_.out (by kernel_rfl)) (fun _ _ _ h => h) (Or.inl ⟨by rfl, ?_⟩) ?_ ?_
             rotate_left
             ·intro w'
              go_simp
              with_reducible rfl
             rotate_left
             ·simp only [Act.put, sA, sB, sC, i64_w, i32_w]
              rfl
             refine pure_ (i := 12) (N := some 97) (v := ?_) (a' := ?_) #[true, true, true, true, true, true, true, false, true, false, false, false, true, false, false, false] rfl rfl (any_of HT_.out (by kernel_rfl)) (fun _ _ _ h => h) (Or.inl ⟨by rfl, ?_⟩) ?_ ?_
             rotate_left
             ·intro w'
              go_simp
              with_reducible rfl
             rotate_left
             ·simp only [Act.put, sA, sB, sC, i64_w, i32_w]
              rfl
             refine take_ (i := 7) (N := some 92) (v := ?_) (a' := ?_) #[true, true, true, true, true, true, true, true, true, false, false, false, true, false, false, false] rfl rfl (take_ofW HT_.out HW_.out (by kernel_rfl)) (fun _ _ _ h => h) (Or.inl ⟨by rfl, ?_⟩) hHeld ?_ ?_
             rotate_left
             ·rintro w' ⟨s0, s1, s2, s3, s4, s5, s6, s7, s8, s9⟩
              go_simp
              with_reducible rfl
             rotate_left
             ·simp only [Act.put, sA, sB, sC, i64_w, i32_w]
              rfl
             refine take_ (i := 9) (N := some 94) (v := ?_) (a' := ?_) #[true, true, true, true, true, true, true, true, true, true, false, false, true, false, false, false] rfl rfl (take_ofW HT_.out HW_.out (by kernel_rfl)) (fun _ _ _ h => h) (Or.inl ⟨by rfl, ?_⟩) hHeld ?_ ?_
             rotate_left
             ·rintro w' ⟨s0, s1, s2, s3, s4, s5, s6, s7, s8, s9⟩
              go_simp
              with_reducible rfl
             rotate_left
             ·simp only [Act.put, sA, sB, sC, i64_w, i32_w]
              rfl
             refine pure_ (i := 10) (N := some 95) (v := ?_) (a' := ?_) #[true, true, true, true, true, true, true, true, true, true, true, false, true, false, false, false] rfl rfl (any_of HT_.out (by kernel_rfl)) (fun _ _ _ h => h) (Or.inl ⟨by rfl, ?_⟩) ?_ ?_
             rotate_left
             ·intro w'
              go_simp
              with_reducible rfl
             rotate_left
             ·simp only [Act.put, sA, sB, sC, i64_w, i32_w]
              rfl
             refine take_ (i := 11) (N := some 96) (v := ?_) (a' := ?_) #[true, true, true, true, true, true, true, true, true, true, true, true, true, false, false, false] rfl rfl (take_ofW HT_.out HW_.out (by kernel_rfl)) (fun _ _ _ h => h) (Or.inl ⟨by rfl, ?_⟩) hHeld ?_ ?_
             rotate_left
             ·rintro w' ⟨s0, s1, s2, s3, s4, s5, s6, s7, s8, s9⟩
              go_simp
              with_reducible rfl
             rotate_left
             ·simp only [Act.put, sA, sB, sC, i64_w, i32_w]
              rfl
             refine take_ (i := 13) (N := some 98) (v := ?_) (a' := ?_) #[true, true, true, true, true, true, true, true, true, true, true, true, true, true, false, false] rfl rfl (take_ofW HT_.out HW_.out (by kernel_rfl)) (fun _ _ _ h => h) (Or.inl ⟨by rfl, ?_⟩) hHeld ?_ ?_
             rotate_left
             ·rintro w' ⟨s0, s1, s2, s3, s4, s5, s6, s7, s8, s9⟩
              go_simp
              with_reducible rfl
             rotate_left
             ·simp only [Act.put, sA, sB, sC, i64_w, i32_w]
              rfl
             refine pure_ (i := 14) (N := some 99) (v := ?_) (a' := ?_) #[true, true, true, true, true, true, true, true, true, true, true, true, true, true, true, false] rfl rfl (any_of HT_.out (by kernel_rfl)) (fun _ _ _ h => h) (Or.inl ⟨by rfl, ?_⟩) ?_ ?_
             rotate_left
             ·intro w'
              go_simp
              with_reducible rfl
             rotate_left
             ·simp only [Act.put, sA, sB, sC, i64_w, i32_w]
              rfl
             refine pure_ (i := 15) (N := some 100) (v := ?_) (a' := ?_) #[true, true, true, true, true, true, true, true, true, true, true, true, true, true, true, true] rfl rfl (any_of HT_.out (by kernel_rfl)) (fun _ _ _ h => h) (Or.inl ⟨by rfl, ?_⟩) ?_ ?_
             rotate_left
             ·intro w'
              go_simp
              with_reducible rfl
             rotate_left
             ·simp only [Act.put, sA, sB, sC, i64_w, i32_w]
              rfl
             refine done_ (done_of HT_.out (by kernel_rfl)) ?_
             try go_wp2
             go_roundg k1
             case measure => have := HK1.out; omega
             case rel => exact ⟨(false), (wrap64 (x7_1 + 1)), (IntKind.u64.wrap (x253000_1 + ((rd_T39 l1 x7_1).f1))), (x253001_1), (x253002_1), (u253002), (by first | rfl | (simp; done) | (simp [*]; done)), (by first | rfl | (simp; done) | (simp [*]; done)), H', ⟨by have := HK1.out; omega⟩, ⟨by (with_reducible repeat (first | apply rA | apply rN | apply rD)); exact HO_253002.out⟩, ⟨by (with_reducible repeat (first | apply bA | apply bN | apply bD)); exact BK250.out⟩, ⟨by (with_reducible repeat (first | apply bA | apply bN | apply bD)); exact BK251.out⟩, ⟨by (with_reducible repeat (first | apply bA | apply bN | apply bD)); exact BK252.out⟩, ⟨by repeat (first | (with_reducible first | exact HB.out | apply eA | apply eN | apply eD | refine eS ?_ GE250.out | refine eS ?_ GE251.out | refine eS ?_ GE252.out) | exact HB.out)⟩⟩
           ·rw [if_neg c66] at H
            exact absurd H (by simp)
          ·rw [if_neg c65] at H
           exact absurd H (by simp)
        ·rw [if_neg c52] at H
         have c52b0 : (a0_0 == 4) = false := beq_eq_false_iff_ne.mpr c52
         have c52b1 : (a0_0 != 4) = true := bne_iff_ne.mpr c52
         by_cases c84 : a0_0 = 5
         ·rw [if_pos c84] at H
          have c84b0 : (a0_0 == 5) = true := beq_iff_eq.mpr c84
          have c84b1 : (a0_0 != 5) = false := bne_eq_false_iff_eq.mpr c84
          clear c84
          by_cases c85 : 0 ≤ a0_1
          ·rw [if_pos c85] at H
           have c85b0 : decide (0 ≤ a0_1) = true := decide_eq_true c85
           clear c85
           by_cases c86 : a0_1 < (((rd_T39 l1 x7_1).f0.f1).length : Int)
           ·rw [if_pos c86] at H
            have c86b0 : decide (a0_1 < (((rd_T39 l1 x7_1).f0.f1).length : Int)) = true := decide_eq_true c86
            clear c86
            replace H := Option.bind_eq_some_iff.mp H
            obtain ⟨t272, A870, H⟩ := H
            replace H : (gristmillref06_Of.l0 k1 l1 false (wrap64 (x7_1 + 1)) a0_0 a0_1 (IntKind.u64.wrap (x253000_1 + ((rd_T39 l1 x7_1).f1))) x253001_1 t272) = some (r1, r2, r3) := H
            have A87 := aMk A870
            clear A870
            have H' := aMk H
            clear H
            have p253 : 0 ≤ (x7_1 : Int) := of_decide_eq_true (by first | (with_reducible assumption) | assumption)
            have q253 : x7_1 < (l1.length : Int) := of_decide_eq_true (by first | (with_reducible assumption) | assumption)
            obtain ⟨ad253, A253_1, c253_1, A253_2, c253_2, e253, hx253_0, hx253_1, hx253_2, hx253_3, hl253_1, hi253_1, hl253_2, hi253_2⟩ := at_T39 HR1.out x7_1 p253 q253
            cases e253
            replace hx253_0 := (HB.out.cell (World.block_lt_of_cell? w _ hx253_0)).trans hx253_0
            replace hx253_1 := (HB.out.cell (World.block_lt_of_cell? w _ hx253_1)).trans hx253_1
            replace hx253_2 := (HB.out.cell (World.block_lt_of_cell? w _ hx253_2)).trans hx253_2
            replace hx253_3 := (HB.out.cell (World.block_lt_of_cell? w _ hx253_3)).trans hx253_3
            have HR253_1 := aMk hi253_1
            have HC253_1 := aMk hl253_1
            clear hi253_1 hl253_1
            have HR253_2 := aMk hi253_2
            have HC253_2 := aMk hl253_2
            clear hi253_2 hl253_2
            replace p253 := eq_true p253
            replace q253 := eq_true q253
            try go_wp2
            replace HO_253002 := aMk (rD HO_253002.out)
            replace BK250 := aMk (bD BK250.out)
            replace BK251 := aMk (bD BK251.out)
            replace BK252 := aMk (bD BK252.out)
            replace HB := aMk (eD HB.out)
            have p254 : 0 ≤ (x7_1 : Int) := of_decide_eq_true (by first | (with_reducible assumption) | assumption)
            have q254 : x7_1 < (l1.length : Int) := of_decide_eq_true (by first | (with_reducible assumption) | assumption)
            obtain ⟨ad254, A254_1, c254_1, A254_2, c254_2, e254, hx254_0, hx254_1, hx254_2, hx254_3, hl254_1, hi254_1, hl254_2, hi254_2⟩ := at_T39 HR1.out x7_1 p254 q254
            have hw254_3 := hx254_3
            have hw254_2 := hx254_2
            have hw254_1 := hx254_1
            have hw254_0 := hx254_0
            obtain rfl : ad253 = ad254 := (by injection e254)
            replace hx254_0 := (HB.out.cell (World.block_lt_of_cell? w _ hx254_0)).trans hx254_0
            replace hx254_1 := (HB.out.cell (World.block_lt_of_cell? w _ hx254_1)).trans hx254_1
            replace hx254_2 := (HB.out.cell (World.block_lt_of_cell? w _ hx254_2)).trans hx254_2
            replace hx254_3 := (HB.out.cell (World.block_lt_of_cell? w _ hx254_3)).trans hx254_3
            have HR254_1 := aMk hi254_1
            have HC254_1 := aMk hl254_1
            clear hi254_1 hl254_1
            have HR254_2 := aMk hi254_2
            have HC254_2 := aMk hl254_2
            clear hi254_2 hl254_2
            replace p254 := eq_true p254
            replace q254 := eq_true q254
            refine start_ (n := 10) (S := fun w' => w'.cell? ⟨gb252, 0, none⟩ = some (.int .u64 x253000_1) ∧ w'.cell? ⟨gb252, 1, none⟩ = some (.int .i64 x253001_1) ∧ w'.cell? ⟨gb252, 2, none⟩ = some (u253002) ∧ w'.cell? (ad253.add ((x7_1).toNat * 4)) = some (.int .i64 ((rd_T39 l1 x7_1).f0.f0)) ∧ w'.cell? ⟨(ad253.add ((x7_1).toNat * 4)).block, (ad253.add ((x7_1).toNat * 4)).off + 1, none⟩ = some (.slice A254_1 ((rd_T39 l1 x7_1).f0.f1).length c254_1) ∧ w'.cell? ⟨(ad253.add ((x7_1).toNat * 4)).block, (ad253.add ((x7_1).toNat * 4)).off + 2, none⟩ = some (.slice A254_2 ((rd_T39 l1 x7_1).f0.f2).length c254_2) ∧ w'.cell? ⟨(ad253.add ((x7_1).toNat * 4)).block, (ad253.add ((x7_1).toNat * 4)).off + 3, none⟩ = some (.int .u64 ((rd_T39 l1 x7_1).f1))) (ds := [9]) #[false, false, false, false, false, false, false, false, false, false] (by kernel_rfl) rfl rfl ⟨(blk_cell BK252.out 0).trans rfl, (blk_cell BK252.out 1).trans rfl, (blk_cell BK252.out 2).trans rfl, ((HB.out.cell (World.block_lt_of_cell? w _ hw254_0)).trans hw254_0), ((HB.out.cell (World.block_lt_of_cell? w _ hw254_1)).trans hw254_1), ((HB.out.cell (World.block_lt_of_cell? w _ hw254_2)).trans hw254_2), ((HB.out.cell (World.block_lt_of_cell? w _ hw254_3)).trans hw254_3)⟩ (fun hHeld => ?_); refine with_tabW gristmillref06_Of.tab7 gristmillref06_Of.bits7 (fun HT_ HW_ => ?_)
            generalize wr.drew = w88 at HO_253002 BK250 BK251 BK252 HB HR254_1 HR254_2 hx254_0 hx254_1 hx254_2 hx254_3 hHeld ⊢
            refine pure_ (i := 0) (N := some 20) (v := ?_) (a' := ?_) #[true, false, false, false, false, false, false, false, false, false] rfl rfl (any_of HT_.out (by kernel_rfl)) (fun _ _ _ h => h) (Or.inl ⟨by rfl, ?_⟩) ?_ ?_
            rotate_left
            ·intro w'
             go_simp
             with_reducible rfl
            rotate_left
            ·simp only [Act.put, sA, sB, sC, i64_w, i32_w]
             rfl
            refine pure_ (i := 2) (N := some 22) (v := ?_) (a' := ?_) #[true, false, true, false, false, false, false, false, false, false] rfl rfl (any_of HT_.out (by kernel_rfl)) (fun _ _ _ h => h) (Or.inl ⟨by rfl, ?_⟩) ?_ ?_
            rotate_left
            ·intro w'
             go_simp
             with_reducible rfl
            rotate_left
            ·simp only [Act.put, sA, sB, sC, i64_w, i32_w]
             rfl
            refine pure_ (i := 3) (N := some 23) (v := ?_) (a' := ?_) #[true, false, true, true, false, false, false, false, false, false] rfl rfl (any_of HT_.out (by kernel_rfl)) (fun _ _ _ h => h) (Or.inl ⟨by rfl, ?_⟩) ?_ ?_
            rotate_left
            ·intro w'
             go_simp
             with_reducible rfl
            rotate_left
            ·simp only [Act.put, sA, sB, sC, i64_w, i32_w]
             rfl
            refine pure_ (i := 4) (N := some 24) (v := ?_) (a' := ?_) #[true, false, true, true, true, false, false, false, false, false] rfl rfl (any_of HT_.out (by kernel_rfl)) (fun _ _ _ h => h) (Or.inl ⟨by rfl, ?_⟩) ?_ ?_
            rotate_left
            ·intro w'
             go_simp
             with_reducible rfl
            rotate_left
            ·simp only [Act.put, sA, sB, sC, i64_w, i32_w]
             rfl
            refine pure_ (i := 5) (N := some 25) (v := ?_) (a' := ?_) #[true, false, true, true, true, true, false, false, false, false] rfl rfl (any_of HT_.out (by kernel_rfl)) (fun _ _ _ h => h) (Or.inl ⟨by rfl, ?_⟩) ?_ ?_
            rotate_left
            ·intro w'
             go_simp
             with_reducible rfl
            rotate_left
            ·simp only [Act.put, sA, sB, sC, i64_w, i32_w]
             rfl
            refine take_ (i := 1) (N := some 21) (v := ?_) (a' := ?_) #[true, true, true, true, true, true, false, false, false, false] rfl rfl (take_ofW HT_.out HW_.out (by kernel_rfl)) (fun _ _ _ h => h) (Or.inl ⟨by rfl, ?_⟩) hHeld ?_ ?_
            rotate_left
            ·rintro w' ⟨s0, s1, s2, s3, s4, s5, s6⟩
             go_simp
             with_reducible rfl
            rotate_left
            ·simp only [Act.put, sA, sB, sC, i64_w, i32_w]
             rfl
            refine take_ (i := 6) (N := some 26) (v := ?_) (a' := ?_) #[true, true, true, true, true, true, true, false, false, false] rfl rfl (take_ofW HT_.out HW_.out (by kernel_rfl)) (fun _ _ _ h => h) (Or.inl ⟨by rfl, ?_⟩) hHeld ?_ ?_
            rotate_left
            ·rintro w' ⟨s0, s1, s2, s3, s4, s5, s6⟩
             go_simp
             with_reducible rfl
            rotate_left
            ·simp only [Act.put, sA, sB, sC, i64_w, i32_w]
             rfl
            refine pure_ (i := 7) (N := some 27) (v := ?_) (a' := ?_) #[true, true, true, true, true, true, true, true, false, false] rfl rfl (any_of HT_.out (by kernel_rfl)) (fun _ _ _ h => h) (Or.inl ⟨by rfl, ?_⟩) ?_ ?_
            rotate_left
            ·intro w'
             go_simp
             with_reducible rfl
            rotate_left
            ·simp only [Act.put, sA, sB, sC, i64_w, i32_w]
             rfl
            refine pure_ (i := 8) (N := some 28) (v := ?_) (a' := ?_) #[true, true, true, true, true, true, true, true, true, false] rfl rfl (any_of HT_.out (by kernel_rfl)) (fun _ _ _ h => h) (Or.inl ⟨by rfl, ?_⟩) ?_ ?_
            rotate_left
            ·intro w'
             go_simp
             with_reducible rfl
            rotate_left
            ·simp only [Act.put, sA, sB, sC, i64_w, i32_w]
             rfl
            refine last_ (i := 9) (N := none) #[true, true, true, true, true, true, true, true, true, true] rfl rfl (one_of HT_.out (by kernel_rfl)) (by decide) (fun K hK => ?_)
            have hs89 : w88.cell? ⟨gb252, 0, none⟩ = some (.int .u64 x253000_1) := (blk_cell BK252.out 0).trans rfl
            have hfs89 := blk_frozen BK252.out 0
            have hns89_0 := NB250_252.out
            have hns89_1 := NB251_252.out
            have hms89_0 := NB252_250.out
            have hms89_1 := NB252_251.out
            refine skip_ (w1 := ?_) (by rfl) rfl ?_ ?_
            rotate_left
            ·go_simp
             rfl
            refine hK.out _ _ ?_
            clear hK K
            refine done_ (done_of HT_.out (by kernel_rfl)) ?_
            have hnb90 := NB250_251.out
            have hnc90 := NB251_250.out
            have hnb91 := NB250_252.out
            have hnc91 := NB252_250.out
            have hcz92_0 : w88.cell? ⟨gb250, 0, none⟩ = some (.int .i64 a0_0) := (blk_cell BK250.out 0).trans rfl
            have hcz92_1 : w88.cell? ⟨gb250, 1, none⟩ = some (.int .i64 a0_1) := (blk_cell BK250.out 1).trans rfl
            have hfz92_0 := blk_frozen BK250.out 0
            have hfz92_1 := blk_frozen BK250.out 1
            try go_wp2
            have n0_ : Aside0 (Kd.R Kd.string 9 (w88.setCell ⟨gb252, 0, none⟩ (.int .u64 (IntKind.u64.wrap (x253000_1 + ((rd_T39 l1 x7_1).f1))))) w.heap.size (fun _ => True) u253002 x253002_1) := ⟨by (with_reducible repeat (first | apply rA | apply rN | apply rD)); exact Kd.R_mono (Kd.R_far (p := ⟨gb252, 0, none⟩) (Kd.R_types HO_253002.out BK252.out (by decide)) (fun _ hk => hk.2) (.int .u64 (IntKind.u64.wrap (x253000_1 + ((rd_T39 l1 x7_1).f1))))) (fun _ hk => trivial)⟩
            have n1_ : Aside0 ((w88.setCell ⟨gb252, 0, none⟩ (.int .u64 (IntKind.u64.wrap (x253000_1 + ((rd_T39 l1 x7_1).f1))))).heap[gb250]? = some (.cells #[.int .i64 a0_0, .int .i64 a0_1] 23 (0, 0))) := ⟨by (with_reducible repeat (first | apply bA | apply bN | apply bD)); refine blk_far ?_ NB250_252.out _; (with_reducible repeat (first | apply bA | apply bN | apply bD)); exact BK250.out⟩
            have n2_ : Aside0 ((w88.setCell ⟨gb252, 0, none⟩ (.int .u64 (IntKind.u64.wrap (x253000_1 + ((rd_T39 l1 x7_1).f1))))).heap[gb251]? = some (.cells #[.int .u64 0, .int .i64 0, .slice none 0 0] 33 (0, 0))) := ⟨by (with_reducible repeat (first | apply bA | apply bN | apply bD)); refine blk_far ?_ NB251_252.out _; (with_reducible repeat (first | apply bA | apply bN | apply bD)); exact BK251.out⟩
            have n3_ : Aside0 ((w88.setCell ⟨gb252, 0, none⟩ (.int .u64 (IntKind.u64.wrap (x253000_1 + ((rd_T39 l1 x7_1).f1))))).heap[gb252]? = some (.cells #[.int .u64 (IntKind.u64.wrap (x253000_1 + ((rd_T39 l1 x7_1).f1))), .int .i64 x253001_1, u253002] 33 (0, 0))) := ⟨by (with_reducible repeat (first | apply bA | apply bN | apply bD)); refine blk_put (cs := #[.int .u64 x253000_1, .int .i64 x253001_1, u253002]) ?_ 0 _ rfl; (with_reducible repeat (first | apply bA | apply bN | apply bD)); exact BK252.out⟩
            have n4_ : Aside0 (Below w.heap.size w (w88.setCell ⟨gb252, 0, none⟩ (.int .u64 (IntKind.u64.wrap (x253000_1 + ((rd_T39 l1 x7_1).f1)))))) := ⟨by repeat (first | (with_reducible first | exact HB.out | apply eA | apply eN | apply eD | refine eS ?_ GE250.out | refine eS ?_ GE251.out | refine eS ?_ GE252.out) | exact HB.out)⟩
            (try clear HO_253002)
            (try clear BK250)
            (try clear BK251)
            (try clear BK252)
            (try clear HB)
            generalize (w88.setCell ⟨gb252, 0, none⟩ (.int .u64 (IntKind.u64.wrap (x253000_1 + ((rd_T39 l1 x7_1).f1))))) = w93 at n0_ n1_ n2_ n3_ n4_ ⊢
            have HO_253002 := n0_
            have BK250 := n1_
            have BK251 := n2_
            have BK252 := n3_
            have HB := n4_
            clear n0_ n1_ n2_ n3_ n4_
            replace HO_253002 := aMk (rD HO_253002.out)
            replace BK250 := aMk (bD BK250.out)
            replace BK251 := aMk (bD BK251.out)
            replace BK252 := aMk (bD BK252.out)
            replace HB := aMk (eD HB.out)
            have p270 : 0 ≤ (x7_1 : Int) := of_decide_eq_true (by first | (with_reducible assumption) | assumption)
            have q270 : x7_1 < (l1.length : Int) := of_decide_eq_true (by first | (with_reducible assumption) | assumption)
            obtain ⟨ad270, A270_1, c270_1, A270_2, c270_2, e270, hx270_0, hx270_1, hx270_2, hx270_3, hl270_1, hi270_1, hl270_2, hi270_2⟩ := at_T39 HR1.out x7_1 p270 q270
            have hw270_3 := hx270_3
            have hw270_2 := hx270_2
            have hw270_1 := hx270_1
            have hw270_0 := hx270_0
            obtain rfl : ad253 = ad270 := (by injection e270)
            replace hx270_0 := (HB.out.cell (World.block_lt_of_cell? w _ hx270_0)).trans hx270_0
            replace hx270_1 := (HB.out.cell (World.block_lt_of_cell? w _ hx270_1)).trans hx270_1
            replace hx270_2 := (HB.out.cell (World.block_lt_of_cell? w _ hx270_2)).trans hx270_2
            replace hx270_3 := (HB.out.cell (World.block_lt_of_cell? w _ hx270_3)).trans hx270_3
            have HR270_1 := aMk hi270_1
            have HC270_1 := aMk hl270_1
            clear hi270_1 hl270_1
            have HR270_2 := aMk hi270_2
            have HC270_2 := aMk hl270_2
            clear hi270_2 hl270_2
            replace p270 := eq_true p270
            replace q270 := eq_true q270
            have p271 : 0 ≤ (a0_1 : Int) := of_decide_eq_true (by first | (with_reducible assumption) | assumption)
            have q271 : a0_1 < (((rd_T39 l1 x7_1).f0.f1).length : Int) := of_decide_eq_true (by first | (with_reducible assumption) | assumption)
            obtain ⟨ad271, e271, hx271_0⟩ := Kd.at_string HR270_1.out a0_1 p271 q271
            have hw271_0 := hx271_0
            cases e271
            replace hx271_0 := (HB.out.cell (World.block_lt_of_cell? w _ hx271_0)).trans hx271_0
            replace p271 := eq_true p271
            replace q271 := eq_true q271
            obtain ⟨Ao95, co95, eo95⟩ := Kd.R_slice HO_253002.out
            (first | subst eo95 | (injection eo95 with f1_ f2_ f3_; have f4_ := f1_.symm; have f5_ := f3_.symm; clear f1_ f2_ f3_; subst f4_; subst f5_))
            refine start_ (n := 15) (S := fun w' => w'.cell? ⟨gb252, 0, none⟩ = some (.int .u64 (IntKind.u64.wrap (x253000_1 + ((rd_T39 l1 x7_1).f1)))) ∧ w'.cell? ⟨gb252, 1, none⟩ = some (.int .i64 x253001_1) ∧ w'.cell? ⟨gb252, 2, none⟩ = some (.slice Ao95 x253002_1.length co95) ∧ w'.cell? ⟨gb250, 0, none⟩ = some (.int .i64 a0_0) ∧ w'.cell? ⟨gb250, 1, none⟩ = some (.int .i64 a0_1) ∧ w'.cell? (ad253.add ((x7_1).toNat * 4)) = some (.int .i64 ((rd_T39 l1 x7_1).f0.f0)) ∧ w'.cell? ⟨(ad253.add ((x7_1).toNat * 4)).block, (ad253.add ((x7_1).toNat * 4)).off + 1, none⟩ = some (.slice (some ad271) ((rd_T39 l1 x7_1).f0.f1).length c270_1) ∧ w'.cell? ⟨(ad253.add ((x7_1).toNat * 4)).block, (ad253.add ((x7_1).toNat * 4)).off + 2, none⟩ = some (.slice A270_2 ((rd_T39 l1 x7_1).f0.f2).length c270_2) ∧ w'.cell? ⟨(ad253.add ((x7_1).toNat * 4)).block, (ad253.add ((x7_1).toNat * 4)).off + 3, none⟩ = some (.int .u64 ((rd_T39 l1 x7_1).f1)) ∧ w'.cell? (ad271.add (a0_1).toNat) = some (.string (rdOf ByteArray.empty ((rd_T39 l1 x7_1).f0.f1) a0_1))) (ds := [14]) #[false, false, false, false, false, false, false, false, false, false, false, false, false, false, false] (by kernel_rfl) rfl rfl ⟨(blk_cell BK252.out 0).trans rfl, (blk_cell BK252.out 1).trans rfl, (blk_cell BK252.out 2).trans rfl, (blk_cell BK250.out 0).trans rfl, (blk_cell BK250.out 1).trans rfl, ((HB.out.cell (World.block_lt_of_cell? w _ hw270_0)).trans hw270_0), ((HB.out.cell (World.block_lt_of_cell? w _ hw270_1)).trans hw270_1), ((HB.out.cell (World.block_lt_of_cell? w _ hw270_2)).trans hw270_2), ((HB.out.cell (World.block_lt_of_cell? w _ hw270_3)).trans hw270_3), ((HB.out.cell (World.block_lt_of_cell? w _ hw271_0)).trans hw271_0)⟩ (fun hHeld => ?_); refine with_tabW gristmillref06_Of.tab18 gristmillref06_Of.bits18 (fun HT_ HW_ => ?_)
            generalize w93.drew = w94 at HO_253002 BK250 BK251 BK252 HB HR270_1 HR270_2 hx270_0 hx270_1 hx270_2 hx270_3 hx271_0 hHeld ⊢
            refine pure_ (i := 0) (N := some 114) (v := ?_) (a' := ?_) #[true, false, false, false, false, false, false, false, false, false, false, false, false, false, false] rfl rfl (any_of HT_.out (by kernel_rfl)) (fun _ _ _ h => h) (Or.inl ⟨by rfl, ?_⟩) ?_ ?_
            rotate_left
            ·intro w'
             go_simp
             with_reducible rfl
            rotate_left
            ·simp only [Act.put, sA, sB, sC, i64_w, i32_w]
             rfl
            refine pure_ (i := 2) (N := some 116) (v := ?_) (a' := ?_) #[true, false, true, false, false, false, false, false, false, false, false, false, false, false, false] rfl rfl (any_of HT_.out (by kernel_rfl)) (fun _ _ _ h => h) (Or.inl ⟨by rfl, ?_⟩) ?_ ?_
            rotate_left
            ·intro w'
             go_simp
             with_reducible rfl
            rotate_left
            ·simp only [Act.put, sA, sB, sC, i64_w, i32_w]
             rfl
            refine pure_ (i := 3) (N := some 117) (v := ?_) (a' := ?_) #[true, false, true, true, false, false, false, false, false, false, false, false, false, false, false] rfl rfl (any_of HT_.out (by kernel_rfl)) (fun _ _ _ h => h) (Or.inl ⟨by rfl, ?_⟩) ?_ ?_
            rotate_left
            ·intro w'
             go_simp
             with_reducible rfl
            rotate_left
            ·simp only [Act.put, sA, sB, sC, i64_w, i32_w]
             rfl
            refine pure_ (i := 4) (N := some 118) (v := ?_) (a' := ?_) #[true, false, true, true, true, false, false, false, false, false, false, false, false, false, false] rfl rfl (any_of HT_.out (by kernel_rfl)) (fun _ _ _ h => h) (Or.inl ⟨by rfl, ?_⟩) ?_ ?_
            rotate_left
            ·intro w'
             go_simp
             with_reducible rfl
            rotate_left
            ·simp only [Act.put, sA, sB, sC, i64_w, i32_w]
             rfl
            refine pure_ (i := 5) (N := some 119) (v := ?_) (a' := ?_) #[true, false, true, true, true, true, false, false, false, false, false, false, false, false, false] rfl rfl (any_of HT_.out (by kernel_rfl)) (fun _ _ _ h => h) (Or.inl ⟨by rfl, ?_⟩) ?_ ?_
            rotate_left
            ·intro w'
             go_simp
             with_reducible rfl
            rotate_left
            ·simp only [Act.put, sA, sB, sC, i64_w, i32_w]
             rfl
            refine pure_ (i := 6) (N := some 120) (v := ?_) (a' := ?_) #[true, false, true, true, true, true, true, false, false, false, false, false, false, false, false] rfl rfl (any_of HT_.out (by kernel_rfl)) (fun _ _ _ h => h) (Or.inl ⟨by rfl, ?_⟩) ?_ ?_
            rotate_left
            ·intro w'
             go_simp
             with_reducible rfl
            rotate_left
            ·simp only [Act.put, sA, sB, sC, i64_w, i32_w]
             rfl
            refine pure_ (i := 8) (N := some 122) (v := ?_) (a' := ?_) #[true, false, true, true, true, true, true, false, true, false, false, false, false, false, false] rfl rfl (any_of HT_.out (by kernel_rfl)) (fun _ _ _ h => h) (Or.inl ⟨by rfl, ?_⟩) ?_ ?_
            rotate_left
            ·intro w'
             go_simp
             with_reducible rfl
            rotate_left
            ·simp only [Act.put, sA, sB, sC, i64_w, i32_w]
             rfl
            refine take_ (i := 1) (N := some 115) (v := ?_) (a' := ?_) #[true, true, true, true, true, true, true, false, true, false, false, false, false, false, false] rfl rfl (take_ofW HT_.out HW_.out (by kernel_rfl)) (fun _ _ _ h => h) (Or.inl ⟨by rfl, ?_⟩) hHeld ?_ ?_
            rotate_left
            ·rintro w' ⟨s0, s1, s2, s3, s4, s5, s6, s7, s8, s9⟩
             go_simp
             with_reducible rfl
            rotate_left
            ·simp only [Act.put, sA, sB, sC, i64_w, i32_w]
             rfl
            refine take_ (i := 7) (N := some 121) (v := ?_) (a' := ?_) #[true, true, true, true, true, true, true, true, true, false, false, false, false, false, false] rfl rfl (take_ofW HT_.out HW_.out (by kernel_rfl)) (fun _ _ _ h => h) (Or.inl ⟨by rfl, ?_⟩) hHeld ?_ ?_
            rotate_left
            ·rintro w' ⟨s0, s1, s2, s3, s4, s5, s6, s7, s8, s9⟩
             go_simp
             with_reducible rfl
            rotate_left
            ·simp only [Act.put, sA, sB, sC, i64_w, i32_w]
             rfl
            refine take_ (i := 9) (N := some 123) (v := ?_) (a' := ?_) #[true, true, true, true, true, true, true, true, true, true, false, false, false, false, false] rfl rfl (take_ofW HT_.out HW_.out (by kernel_rfl)) (fun _ _ _ h => h) (Or.inl ⟨by rfl, ?_⟩) hHeld ?_ ?_
            rotate_left
            ·rintro w' ⟨s0, s1, s2, s3, s4, s5, s6, s7, s8, s9⟩
             go_simp
             with_reducible rfl
            rotate_left
            ·simp only [Act.put, sA, sB, sC, i64_w, i32_w]
             rfl
            refine pure_ (i := 10) (N := some 124) (v := ?_) (a' := ?_) #[true, true, true, true, true, true, true, true, true, true, true, false, false, false, false] rfl rfl (any_of HT_.out (by kernel_rfl)) (fun _ _ _ h => h) (Or.inl ⟨by rfl, ?_⟩) ?_ ?_
            rotate_left
            ·intro w'
             go_simp
             with_reducible rfl
            rotate_left
            ·simp only [Act.put, sA, sB, sC, i64_w, i32_w]
             rfl
            refine take_ (i := 11) (N := some 125) (v := ?_) (a' := ?_) #[true, true, true, true, true, true, true, true, true, true, true, true, false, false, false] rfl rfl (take_ofW HT_.out HW_.out (by kernel_rfl)) (fun _ _ _ h => h) (Or.inl ⟨by rfl, ?_⟩) hHeld ?_ ?_
            rotate_left
            ·rintro w' ⟨s0, s1, s2, s3, s4, s5, s6, s7, s8, s9⟩
             go_simp
             with_reducible rfl
            rotate_left
            ·simp only [Act.put, sA, sB, sC, i64_w, i32_w]
             rfl
            refine one_ (i := 12) (N := some 126) #[true, true, true, true, true, true, true, true, true, true, true, true, true, false, false] rfl rfl (one_of HT_.out (by kernel_rfl)) (by decide) (fun K hK => ?_)
            refine goes_ Try.func23 (by kernel_rfl) rfl #[.slice Ao95 x253002_1.length co95, .string (rdOf ByteArray.empty ((rd_T39 l1 x7_1).f0.f1) a0_1)] (by rfl) rfl rfl (by (try simp only [List.map_toArray, List.map_cons, List.map_nil]); first | done | rfl | (simp only [List.length_drop, List.length_take]; rfl)) ?_
            with_reducible refine (gristmillref06_put.calls k1 _ _ x253002_1 (rdOf ByteArray.empty ((rd_T39 l1 x7_1).f0.f1) a0_1) t272 _ ?side1 ?side2 A87.out).mono ?_
            (case side1 => repeat (first | exact (Kd.R_reads' HO_253002.out).2.2 | (with_reducible refine cA ?_ _) | (with_reducible refine cN ?_ _) | (with_reducible refine cD ?_)))
            (case side2 => exact (Kd.R_reads' HO_253002.out).2.1)
            rintro e w96 ⟨v273, rfl, ho0, hb⟩
            refine ⟨_, rfl, ?_⟩
            have HO274 := aMk (Kd.R_lower (Kd.R_new' ho0 (Kd.R_lt (by (with_reducible repeat (first | apply rA | apply rN | apply rD)); exact HO_253002.out))) (below_size (by repeat (first | (with_reducible first | exact HB.out | apply eA | apply eN | apply eD | refine eS ?_ GE250.out | refine eS ?_ GE251.out | refine eS ?_ GE252.out) | exact HB.out))))
            replace HO_253002 := aMk (Kd.R_elder' (by (with_reducible repeat (first | apply rA | apply rN | apply rD)); exact HO_253002.out) (Kd.R_base ho0) hb)
            replace BK250 := aMk (blk_below (g := gb250) (o := .cells #[.int .i64 a0_0, .int .i64 a0_1] 23 (0, 0)) (by (with_reducible repeat (first | apply bA | apply bN | apply bD)); exact BK250.out) hb)
            replace BK251 := aMk (blk_below (g := gb251) (o := .cells #[.int .u64 0, .int .i64 0, .slice none 0 0] 33 (0, 0)) (by (with_reducible repeat (first | apply bA | apply bN | apply bD)); exact BK251.out) hb)
            replace BK252 := aMk (blk_below (g := gb252) (o := .cells #[.int .u64 (IntKind.u64.wrap (x253000_1 + ((rd_T39 l1 x7_1).f1))), .int .i64 x253001_1, .slice Ao95 x253002_1.length co95] 33 (0, 0)) (by (with_reducible repeat (first | apply bA | apply bN | apply bD)); exact BK252.out) hb)
            replace HB := aMk (below_step (by repeat (first | (with_reducible first | exact HB.out | apply eA | apply eN | apply eD | refine eS ?_ GE250.out | refine eS ?_ GE251.out | refine eS ?_ GE252.out) | exact HB.out)) hb)
            (try clear hb)
            (try clear ho0)
            obtain ⟨Ao97, co97, eo97⟩ := Kd.R_slice HO274.out
            (first | subst eo97 | (injection eo97 with f1_ f2_ f3_; have f4_ := f1_.symm; have f5_ := f3_.symm; clear f1_ f2_ f3_; subst f4_; subst f5_))
            refine hK.out _ _ ⟨(blk_cell BK252.out 0).trans rfl, (blk_cell BK252.out 1).trans rfl, (blk_cell BK252.out 2).trans rfl, (blk_cell BK250.out 0).trans rfl, (blk_cell BK250.out 1).trans rfl, ((HB.out.cell (World.block_lt_of_cell? w _ hw270_0)).trans hw270_0), ((HB.out.cell (World.block_lt_of_cell? w _ hw270_1)).trans hw270_1), ((HB.out.cell (World.block_lt_of_cell? w _ hw270_2)).trans hw270_2), ((HB.out.cell (World.block_lt_of_cell? w _ hw270_3)).trans hw270_3), ((HB.out.cell (World.block_lt_of_cell? w _ hw271_0)).trans hw271_0)⟩ (fun hHeld => ?_)
            clear hK K
            refine norm_ (a' := ?_) ?_ ?_
            rotate_left
            ·show Act.put _ (some 126) _ = _
             simp only [Act.put, sA, sB, sC, i64_w, i32_w]
             rfl
            refine pure_ (i := 13) (N := some 127) (v := ?_) (a' := ?_) #[true, true, true, true, true, true, true, true, true, true, true, true, true, true, false] rfl rfl (any_of HT_.out (by kernel_rfl)) (fun _ _ _ h => h) (Or.inl ⟨by rfl, ?_⟩) ?_ ?_
            rotate_left
            ·intro w'
             go_simp
             with_reducible rfl
            rotate_left
            ·simp only [Act.put, sA, sB, sC, i64_w, i32_w]
             rfl
            refine last_ (i := 14) (N := none) #[true, true, true, true, true, true, true, true, true, true, true, true, true, true, true] rfl rfl (one_of HT_.out (by kernel_rfl)) (by decide) (fun K hK => ?_)
            have hs98 : w96.cell? ⟨gb252, 2, none⟩ = some (.slice Ao95 x253002_1.length co95) := (blk_cell BK252.out 2).trans rfl
            have hfs98 := blk_frozen BK252.out 2
            have hns98_0 := NB250_252.out
            have hns98_1 := NB251_252.out
            have hms98_0 := NB252_250.out
            have hms98_1 := NB252_251.out
            refine skip_ (w1 := ?_) (by rfl) rfl ?_ ?_
            rotate_left
            ·go_simp
             rfl
            refine hK.out _ _ ?_
            clear hK K
            refine done_ (done_of HT_.out (by kernel_rfl)) ?_
            try go_wp2
            go_roundg k1
            case measure => have := HK1.out; omega
            case rel => exact ⟨(false), (wrap64 (x7_1 + 1)), (IntKind.u64.wrap (x253000_1 + ((rd_T39 l1 x7_1).f1))), (x253001_1), (t272), (.slice Ao97 t272.length co97), (by first | rfl | (simp; done) | (simp [*]; done)), (by first | rfl | (simp; done) | (simp [*]; done)), H', ⟨by have := HK1.out; omega⟩, ⟨by (with_reducible repeat (first | apply rA | apply rN | apply rD)); exact Kd.R_mono (Kd.R_far (p := ⟨gb252, 2, none⟩) (Kd.R_types HO274.out BK252.out (by decide)) (fun _ hk => hk.2) (.slice Ao97 t272.length co97)) (fun _ hk => trivial)⟩, ⟨by (with_reducible repeat (first | apply bA | apply bN | apply bD)); refine blk_far ?_ NB250_252.out _; (with_reducible repeat (first | apply bA | apply bN | apply bD)); exact BK250.out⟩, ⟨by (with_reducible repeat (first | apply bA | apply bN | apply bD)); refine blk_far ?_ NB251_252.out _; (with_reducible repeat (first | apply bA | apply bN | apply bD)); exact BK251.out⟩, ⟨by (with_reducible repeat (first | apply bA | apply bN | apply bD)); refine blk_put (cs := #[.int .u64 (IntKind.u64.wrap (x253000_1 + ((rd_T39 l1 x7_1).f1))), .int .i64 x253001_1, .slice Ao95 x253002_1.length co95]) ?_ 2 _ rfl; (with_reducible repeat (first | apply bA | apply bN | apply bD)); exact BK252.out⟩, ⟨by repeat (first | (with_reducible first | exact HB.out | apply eA | apply eN | apply eD | refine eS ?_ GE250.out | refine eS ?_ GE251.out | refine eS ?_ GE252.out) | exact HB.out)⟩⟩
           ·rw [if_neg c86] at H
            exact absurd H (by simp)
          ·rw [if_neg c85] at H
           exact absurd H (by simp)
         ·rw [if_neg c84] at H
          have c84b0 : (a0_0 == 5) = false := beq_eq_false_iff_ne.mpr c84
          have c84b1 : (a0_0 != 5) = true := bne_iff_ne.mpr c84
          have H' := aMk H
          clear H
          have p253 : 0 ≤ (x7_1 : Int) := of_decide_eq_true (by first | (with_reducible assumption) | assumption)
          have q253 : x7_1 < (l1.length : Int) := of_decide_eq_true (by first | (with_reducible assumption) | assumption)
          obtain ⟨ad253, A253_1, c253_1, A253_2, c253_2, e253, hx253_0, hx253_1, hx253_2, hx253_3, hl253_1, hi253_1, hl253_2, hi253_2⟩ := at_T39 HR1.out x7_1 p253 q253
          cases e253
          replace hx253_0 := (HB.out.cell (World.block_lt_of_cell? w _ hx253_0)).trans hx253_0
          replace hx253_1 := (HB.out.cell (World.block_lt_of_cell? w _ hx253_1)).trans hx253_1
          replace hx253_2 := (HB.out.cell (World.block_lt_of_cell? w _ hx253_2)).trans hx253_2
          replace hx253_3 := (HB.out.cell (World.block_lt_of_cell? w _ hx253_3)).trans hx253_3
          have HR253_1 := aMk hi253_1
          have HC253_1 := aMk hl253_1
          clear hi253_1 hl253_1
          have HR253_2 := aMk hi253_2
          have HC253_2 := aMk hl253_2
          clear hi253_2 hl253_2
          replace p253 := eq_true p253
          replace q253 := eq_true q253
          try go_wp2
          replace HO_253002 := aMk (rD HO_253002.out)
          replace BK250 := aMk (bD BK250.out)
          replace BK251 := aMk (bD BK251.out)
          replace BK252 := aMk (bD BK252.out)
          replace HB := aMk (eD HB.out)
          have p254 : 0 ≤ (x7_1 : Int) := of_decide_eq_true (by first | (with_reducible assumption) | assumption)
          have q254 : x7_1 < (l1.length : Int) := of_decide_eq_true (by first | (with_reducible assumption) | assumption)
          obtain ⟨ad254, A254_1, c254_1, A254_2, c254_2, e254, hx254_0, hx254_1, hx254_2, hx254_3, hl254_1, hi254_1, hl254_2, hi254_2⟩ := at_T39 HR1.out x7_1 p254 q254
          have hw254_3 := hx254_3
          have hw254_2 := hx254_2
          have hw254_1 := hx254_1
          have hw254_0 := hx254_0
          obtain rfl : ad253 = ad254 := (by injection e254)
          replace hx254_0 := (HB.out.cell (World.block_lt_of_cell? w _ hx254_0)).trans hx254_0
          replace hx254_1 := (HB.out.cell (World.block_lt_of_cell? w _ hx254_1)).trans hx254_1
          replace hx254_2 := (HB.out.cell (World.block_lt_of_cell? w _ hx254_2)).trans hx254_2
          replace hx254_3 := (HB.out.cell (World.block_lt_of_cell? w _ hx254_3)).trans hx254_3
          have HR254_1 := aMk hi254_1
          have HC254_1 := aMk hl254_1
          clear hi254_1 hl254_1
          have HR254_2 := aMk hi254_2
          have HC254_2 := aMk hl254_2
          clear hi254_2 hl254_2
          replace p254 := eq_true p254
          replace q254 := eq_true q254
          refine start_ (n := 10) (S := fun w' => w'.cell? ⟨gb252, 0, none⟩ = some (.int .u64 x253000_1) ∧ w'.cell? ⟨gb252, 1, none⟩ = some (.int .i64 x253001_1) ∧ w'.cell? ⟨gb252, 2, none⟩ = some (u253002) ∧ w'.cell? (ad253.add ((x7_1).toNat * 4)) = some (.int .i64 ((rd_T39 l1 x7_1).f0.f0)) ∧ w'.cell? ⟨(ad253.add ((x7_1).toNat * 4)).block, (ad253.add ((x7_1).toNat * 4)).off + 1, none⟩ = some (.slice A254_1 ((rd_T39 l1 x7_1).f0.f1).length c254_1) ∧ w'.cell? ⟨(ad253.add ((x7_1).toNat * 4)).block, (ad253.add ((x7_1).toNat * 4)).off + 2, none⟩ = some (.slice A254_2 ((rd_T39 l1 x7_1).f0.f2).length c254_2) ∧ w'.cell? ⟨(ad253.add ((x7_1).toNat * 4)).block, (ad253.add ((x7_1).toNat * 4)).off + 3, none⟩ = some (.int .u64 ((rd_T39 l1 x7_1).f1))) (ds := [9]) #[false, false, false, false, false, false, false, false, false, false] (by kernel_rfl) rfl rfl ⟨(blk_cell BK252.out 0).trans rfl, (blk_cell BK252.out 1).trans rfl, (blk_cell BK252.out 2).trans rfl, ((HB.out.cell (World.block_lt_of_cell? w _ hw254_0)).trans hw254_0), ((HB.out.cell (World.block_lt_of_cell? w _ hw254_1)).trans hw254_1), ((HB.out.cell (World.block_lt_of_cell? w _ hw254_2)).trans hw254_2), ((HB.out.cell (World.block_lt_of_cell? w _ hw254_3)).trans hw254_3)⟩ (fun hHeld => ?_); refine with_tabW gristmillref06_Of.tab7 gristmillref06_Of.bits7 (fun HT_ HW_ => ?_)
          generalize wr.drew = w99 at HO_253002 BK250 BK251 BK252 HB HR254_1 HR254_2 hx254_0 hx254_1 hx254_2 hx254_3 hHeld ⊢
          refine pure_ (i := 0) (N := some 20) (v := ?_) (a' := ?_) #[true, false, false, false, false, false, false, false, false, false] rfl rfl (any_of HT_.out (by kernel_rfl)) (fun _ _ _ h => h) (Or.inl ⟨by rfl, ?_⟩) ?_ ?_
          rotate_left
          ·intro w'
           go_simp
           with_reducible rfl
          rotate_left
          ·simp only [Act.put, sA, sB, sC, i64_w, i32_w]
           rfl
          refine pure_ (i := 2) (N := some 22) (v := ?_) (a' := ?_) #[true, false, true, false, false, false, false, false, false, false] rfl rfl (any_of HT_.out (by kernel_rfl)) (fun _ _ _ h => h) (Or.inl ⟨by rfl, ?_⟩) ?_ ?_
          rotate_left
          ·intro w'
           go_simp
           with_reducible rfl
          rotate_left
          ·simp only [Act.put, sA, sB, sC, i64_w, i32_w]
           rfl
          refine pure_ (i := 3) (N := some 23) (v := ?_) (a' := ?_) #[true, false, true, true, false, false, false, false, false, false] rfl rfl (any_of HT_.out (by kernel_rfl)) (fun _ _ _ h => h) (Or.inl ⟨by rfl, ?_⟩) ?_ ?_
          rotate_left
          ·intro w'
           go_simp
           with_reducible rfl
          rotate_left
          ·simp only [Act.put, sA, sB, sC, i64_w, i32_w]
           rfl
          refine pure_ (i := 4) (N := some 24) (v := ?_) (a' := ?_) #[true, false, true, true, true, false, false, false, false, false] rfl rfl (any_of HT_.out (by kernel_rfl)) (fun _ _ _ h => h) (Or.inl ⟨by rfl, ?_⟩) ?_ ?_
          rotate_left
          ·intro w'
           go_simp
           with_reducible rfl
          rotate_left
          ·simp only [Act.put, sA, sB, sC, i64_w, i32_w]
           rfl
          refine pure_ (i := 5) (N := some 25) (v := ?_) (a' := ?_) #[true, false, true, true, true, true, false, false, false, false] rfl rfl (any_of HT_.out (by kernel_rfl)) (fun _ _ _ h => h) (Or.inl ⟨by rfl, ?_⟩) ?_ ?_
          rotate_left
          ·intro w'
           go_simp
           with_reducible rfl
          rotate_left
          ·simp only [Act.put, sA, sB, sC, i64_w, i32_w]
           rfl
          refine take_ (i := 1) (N := some 21) (v := ?_) (a' := ?_) #[true, true, true, true, true, true, false, false, false, false] rfl rfl (take_ofW HT_.out HW_.out (by kernel_rfl)) (fun _ _ _ h => h) (Or.inl ⟨by rfl, ?_⟩) hHeld ?_ ?_
          rotate_left
          ·rintro w' ⟨s0, s1, s2, s3, s4, s5, s6⟩
           go_simp
           with_reducible rfl
          rotate_left
          ·simp only [Act.put, sA, sB, sC, i64_w, i32_w]
           rfl
          refine take_ (i := 6) (N := some 26) (v := ?_) (a' := ?_) #[true, true, true, true, true, true, true, false, false, false] rfl rfl (take_ofW HT_.out HW_.out (by kernel_rfl)) (fun _ _ _ h => h) (Or.inl ⟨by rfl, ?_⟩) hHeld ?_ ?_
          rotate_left
          ·rintro w' ⟨s0, s1, s2, s3, s4, s5, s6⟩
           go_simp
           with_reducible rfl
          rotate_left
          ·simp only [Act.put, sA, sB, sC, i64_w, i32_w]
           rfl
          refine pure_ (i := 7) (N := some 27) (v := ?_) (a' := ?_) #[true, true, true, true, true, true, true, true, false, false] rfl rfl (any_of HT_.out (by kernel_rfl)) (fun _ _ _ h => h) (Or.inl ⟨by rfl, ?_⟩) ?_ ?_
          rotate_left
          ·intro w'
           go_simp
           with_reducible rfl
          rotate_left
          ·simp only [Act.put, sA, sB, sC, i64_w, i32_w]
           rfl
          refine pure_ (i := 8) (N := some 28) (v := ?_) (a' := ?_) #[true, true, true, true, true, true, true, true, true, false] rfl rfl (any_of HT_.out (by kernel_rfl)) (fun _ _ _ h => h) (Or.inl ⟨by rfl, ?_⟩) ?_ ?_
          rotate_left
          ·intro w'
           go_simp
           with_reducible rfl
          rotate_left
          ·simp only [Act.put, sA, sB, sC, i64_w, i32_w]
           rfl
          refine last_ (i := 9) (N := none) #[true, true, true, true, true, true, true, true, true, true] rfl rfl (one_of HT_.out (by kernel_rfl)) (by decide) (fun K hK => ?_)
          have hs100 : w99.cell? ⟨gb252, 0, none⟩ = some (.int .u64 x253000_1) := (blk_cell BK252.out 0).trans rfl
          have hfs100 := blk_frozen BK252.out 0
          have hns100_0 := NB250_252.out
          have hns100_1 := NB251_252.out
          have hms100_0 := NB252_250.out
          have hms100_1 := NB252_251.out
          refine skip_ (w1 := ?_) (by rfl) rfl ?_ ?_
          rotate_left
          ·go_simp
           rfl
          refine hK.out _ _ ?_
          clear hK K
          refine done_ (done_of HT_.out (by kernel_rfl)) ?_
          have hnb101 := NB250_251.out
          have hnc101 := NB251_250.out
          have hnb102 := NB250_252.out
          have hnc102 := NB252_250.out
          have hcz103_0 : w99.cell? ⟨gb250, 0, none⟩ = some (.int .i64 a0_0) := (blk_cell BK250.out 0).trans rfl
          have hcz103_1 : w99.cell? ⟨gb250, 1, none⟩ = some (.int .i64 a0_1) := (blk_cell BK250.out 1).trans rfl
          have hfz103_0 := blk_frozen BK250.out 0
          have hfz103_1 := blk_frozen BK250.out 1
          try go_wp2
          go_roundg k1
          case measure => have := HK1.out; omega
          case rel => exact ⟨(false), (wrap64 (x7_1 + 1)), (IntKind.u64.wrap (x253000_1 + ((rd_T39 l1 x7_1).f1))), (x253001_1), (x253002_1), (u253002), (by first | rfl | (simp; done) | (simp [*]; done)), (by first | rfl | (simp; done) | (simp [*]; done)), H', ⟨by have := HK1.out; omega⟩, ⟨by (with_reducible repeat (first | apply rA | apply rN | apply rD)); exact Kd.R_mono (Kd.R_far (p := ⟨gb252, 0, none⟩) (Kd.R_types HO_253002.out BK252.out (by decide)) (fun _ hk => hk.2) (.int .u64 (IntKind.u64.wrap (x253000_1 + ((rd_T39 l1 x7_1).f1))))) (fun _ hk => trivial)⟩, ⟨by (with_reducible repeat (first | apply bA | apply bN | apply bD)); refine blk_far ?_ NB250_252.out _; (with_reducible repeat (first | apply bA | apply bN | apply bD)); exact BK250.out⟩, ⟨by (with_reducible repeat (first | apply bA | apply bN | apply bD)); refine blk_far ?_ NB251_252.out _; (with_reducible repeat (first | apply bA | apply bN | apply bD)); exact BK251.out⟩, ⟨by (with_reducible repeat (first | apply bA | apply bN | apply bD)); refine blk_put (cs := #[.int .u64 x253000_1, .int .i64 x253001_1, u253002]) ?_ 0 _ rfl; (with_reducible repeat (first | apply bA | apply bN | apply bD)); exact BK252.out⟩, ⟨by repeat (first | (with_reducible first | exact HB.out | apply eA | apply eN | apply eD | refine eS ?_ GE250.out | refine eS ?_ GE251.out | refine eS ?_ GE252.out) | exact HB.out)⟩⟩
    ·rw [if_neg c7] at H
     exact absurd H (by simp)
   ·rw [if_neg c6] at H
    have c6b0 : decide (x7_1 < (l1.length : Int)) = false := decide_eq_false c6
    clear c6
    simp only [Option.some.injEq, Prod.mk.injEq] at H
    obtain ⟨rfl, rfl, rfl⟩ := H
    have hnb104 := NB252_250.out
    have hnc104 := NB250_252.out
    have hnb105 := NB252_251.out
    have hnc105 := NB251_252.out
    have hcz106_0 : wr.cell? ⟨gb252, 0, none⟩ = some (.int .u64 x253000_1) := (blk_cell BK252.out 0).trans rfl
    have hcz106_1 : wr.cell? ⟨gb252, 1, none⟩ = some (.int .i64 x253001_1) := (blk_cell BK252.out 1).trans rfl
    have hcz106_2 : wr.cell? ⟨gb252, 2, none⟩ = some (u253002) := (blk_cell BK252.out 2).trans rfl
    have hfz106_0 := blk_frozen BK252.out 0
    have hfz106_1 := blk_frozen BK252.out 1
    have hfz106_2 := blk_frozen BK252.out 2
    have hnb107 := NB251_250.out
    have hnc107 := NB250_251.out
    have hcz108_0 : wr.cell? ⟨gb251, 0, none⟩ = some (.int .u64 0) := (blk_cell BK251.out 0).trans rfl
    have hcz108_1 : wr.cell? ⟨gb251, 1, none⟩ = some (.int .i64 0) := (blk_cell BK251.out 1).trans rfl
    have hcz108_2 : wr.cell? ⟨gb251, 2, none⟩ = some (.slice none 0 0) := (blk_cell BK251.out 2).trans rfl
    have hfz108_0 := blk_frozen BK251.out 0
    have hfz108_1 := blk_frozen BK251.out 1
    have hfz108_2 := blk_frozen BK251.out 2
    obtain ⟨Ao109, co109, eo109⟩ := Kd.R_slice HO_253002.out
    subst eo109
    go_wp2
    refine bodyPost_ret (results_cell_row rfl _ _ gb251 33 #[.int .u64 x253000_1, .int .i64 x253001_1, .slice Ao109 x253002_1.length co109] (0, 0) _ rfl (by (with_reducible repeat (first | apply bA | apply bN | apply bD)); refine blk_put (cs := #[.int .u64 x253000_1, .int .i64 x253001_1, .slice none 0 0]) ?_ 2 _ rfl; (with_reducible repeat (first | apply bA | apply bN | apply bD)); refine blk_put (cs := #[.int .u64 x253000_1, .int .i64 0, .slice none 0 0]) ?_ 1 _ rfl; (with_reducible repeat (first | apply bA | apply bN | apply bD)); refine blk_put (cs := #[.int .u64 0, .int .i64 0, .slice none 0 0]) ?_ 0 _ rfl; (with_reducible repeat (first | apply bA | apply bN | apply bD)); exact BK251.out) Try.underlying33 rfl (by kernel_rfl)) rfl ?_
    exact ⟨_, by first | rfl | (simp <;> rfl) | (simp [*] <;> rfl), by (with_reducible repeat (first | apply rA | apply rN | apply rD)); exact Kd.R_mono (Kd.R_far (p := ⟨gb251, 2, none⟩) (Kd.R_far (p := ⟨gb251, 1, none⟩) (Kd.R_far (p := ⟨gb251, 0, none⟩) (Kd.R_types HO_253002.out BK251.out (by decide)) (fun _ hk => hk.2) (.int .u64 x253000_1)) (fun _ hk => hk.2) (.int .i64 x253001_1)) (fun _ hk => hk.2) (.slice Ao109 x253002_1.length co109)) (fun _ hk => trivial), by repeat (first | (with_reducible first | exact HB.out | apply eA | apply eN | apply eD | refine eS ?_ GE250.out | refine eS ?_ GE251.out | refine eS ?_ GE252.out) | exact HB.out)⟩

end Go.Proofs.Ytkjjdpnpcjfgeaa.QAgg
