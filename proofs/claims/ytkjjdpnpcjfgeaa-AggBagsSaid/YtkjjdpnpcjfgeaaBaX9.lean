/- Pruned for this claim by a program. -/
import Derived.Test.YtkjjdpnpcjfgeaaBaX0
import Derived.Test.YtkjjdpnpcjfgeaaBaShort
import Derived.Test.YtkjjdpnpcjfgeaaBaGtr
import Derived.Test.YtkjjdpnpcjfgeaaBaHand1
namespace Go.Proofs.Ytkjjdpnpcjfgeaa.QAgg
open Go.RowKit Go.Proofs.YtkjjdpnpcjfgeaaW.PrintWords Go.Proofs.YtkjjdpnpcjfgeaaW.PrintLast Go.Proofs.YtkjjdpnpcjfgeaaW.PrintMore Go.Proofs.Ytkjjdpnpcjfgeaa.Short
attribute [local go_sem] max2_int min2_int max_two min_two max_three min_three max_four min_four   -- for this text's walks alone
set_option linter.unusedVariables false
set_option linter.unusedSimpArgs false

mutual
def gristmillref04_Compare.l0 : Nat → Int → Int → List ByteArray → List Int → Int → List ByteArray → List Int → Option (Int)
 | 0, _, _, _, _, _, _, _ => none
 | k + 1, x5, x320000, x320001, x320002, x321000, x321001, x321002 => if x5 < (x320001.length : Int) then (gristmillref04_Compare.j1 k x5 true x320000 x320001 x320002 x321000 x321001 x321002) else (gristmillref04_Compare.j1 k x5 (decide (x5 < (x321001.length : Int))) x320000 x320001 x320002 x321000 x321001 x321002)
def gristmillref04_Compare.j1 : Nat → Int → Bool → Int → List ByteArray → List Int → Int → List ByteArray → List Int → Option (Int)
 | 0, _, _, _, _, _, _, _, _ => none
 | k + 1, x5, x28, x320000, x320001, x320002, x321000, x321001, x321002 => if x28 = true then (if x5 ≥ (x320001.length : Int) then (some (-1)) else (if x5 ≥ (x321001.length : Int) then (some 1) else (if 0 ≤ x5 then (if x5 < (x320001.length : Int) then (if x5 < (x321001.length : Int) then (if (Op.bytesLess ((rdOf ByteArray.empty x320001 x5).toList) ((rdOf ByteArray.empty x321001 x5).toList)) = true then (some (-1)) else (if (Op.bytesLess ((rdOf ByteArray.empty x321001 x5).toList) ((rdOf ByteArray.empty x320001 x5).toList)) = true then (some 1) else (gristmillref04_Compare.l0 k (wrap64 (x5 + 1)) x320000 x320001 x320002 x321000 x321001 x321002))) else (none)) else (none)) else (none)))) else (gristmillref04_Compare.l1 k 0 x320000 x320001 x320002 x321000 x321001 x321002)
def gristmillref04_Compare.l1 : Nat → Int → Int → List ByteArray → List Int → Int → List ByteArray → List Int → Option (Int)
 | 0, _, _, _, _, _, _, _ => none
 | k + 1, x6, x320000, x320001, x320002, x321000, x321001, x321002 => if x6 < (x320002.length : Int) then (gristmillref04_Compare.j3 k x6 true x320000 x320001 x320002 x321000 x321001 x321002) else (gristmillref04_Compare.j3 k x6 (decide (x6 < (x321002.length : Int))) x320000 x320001 x320002 x321000 x321001 x321002)
def gristmillref04_Compare.j3 : Nat → Int → Bool → Int → List ByteArray → List Int → Int → List ByteArray → List Int → Option (Int)
 | 0, _, _, _, _, _, _, _, _ => none
 | k + 1, x6, x74, x320000, x320001, x320002, x321000, x321001, x321002 => if x74 = true then (if x6 ≥ (x320002.length : Int) then (some (-1)) else (if x6 ≥ (x321002.length : Int) then (some 1) else (if 0 ≤ x6 then (if x6 < (x320002.length : Int) then (if x6 < (x321002.length : Int) then (if (rd x320002 x6) < (rd x321002 x6) then (some (-1)) else (if (rd x320002 x6) > (rd x321002 x6) then (some 1) else (gristmillref04_Compare.l1 k (wrap64 (x6 + 1)) x320000 x320001 x320002 x321000 x321001 x321002))) else (none)) else (none)) else (none)))) else (some 0)
end
def gristmillref04_Compare.f (k : Nat) (a0_0 : Int) (l0_1 : List ByteArray) (l0_2 : List Int) (a1_0 : Int) (l1_1 : List ByteArray) (l1_2 : List Int) : Option (Int) := if a0_0 < a1_0 then (some (-1)) else (if a0_0 > a1_0 then (some 1) else (gristmillref04_Compare.l0 k 0 a0_0 l0_1 l0_2 a1_0 l1_1 l1_2))
set_option maxHeartbeats 8000000 in
set_option maxRecDepth 100000 in
theorem gristmillref04_Compare.calls (k : Nat) (a0_0 : Int) (A0_1 : Option Addr) (c0_1 : Nat) (l0_1 : List ByteArray) (A0_2 : Option Addr) (c0_2 : Nat) (l0_2 : List Int) (a1_0 : Int) (A1_1 : Option Addr) (c1_1 : Nat) (l1_1 : List ByteArray) (A1_2 : Option Addr) (c1_2 : Nat) (l1_2 : List Int) (r : Int) (w : World) (hr0_1 : Kd.C Kd.string w A0_1 l0_1.length l0_1) (hc0_1 : l0_1.length ≤ c0_1) (hr0_2 : Kd.C (Kd.int .i64) w A0_2 l0_2.length l0_2) (hc0_2 : l0_2.length ≤ c0_2) (hr1_1 : Kd.C Kd.string w A1_1 l1_1.length l1_1) (hc1_1 : l1_1.length ≤ c1_1) (hr1_2 : Kd.C (Kd.int .i64) w A1_2 l1_2.length l1_2) (hc1_2 : l1_2.length ≤ c1_2) (h : gristmillref04_Compare.f k a0_0 l0_1 l0_2 a1_0 l1_1 l1_2 = some r) :
  Calls Try.prog 31 #[.agg #[.int .i64 a0_0, .slice A0_1 l0_1.length c0_1, .slice A0_2 l0_2.length c0_2], .agg #[.int .i64 a1_0, .slice A1_1 l1_1.length c1_1, .slice A1_2 l1_2.length c1_2]] w fun e w' => e = .returned (.int .i64 r) ∧ Below w.heap.size w w' := by
 have hu37 := Try.underlying37
 have HR0_1 := aMk hr0_1
 have HC0_1 := aMk hc0_1
 clear hr0_1 hc0_1
 have HR0_2 := aMk hr0_2
 have HC0_2 := aMk hc0_2
 clear hr0_2 hc0_2
 have HR1_1 := aMk hr1_1
 have HC1_1 := aMk hc1_1
 clear hr1_1 hc1_1
 have HR1_2 := aMk hr1_2
 have HC1_2 := aMk hc1_2
 clear hr1_2 hc1_2
 have HB := aMk (Below.refl w.heap.size w)
 have H : (if a0_0 < a1_0 then (some (-1)) else (if a0_0 > a1_0 then (some 1) else (gristmillref04_Compare.l0 k 0 a0_0 l0_1 l0_2 a1_0 l1_1 l1_2))) = some r := h
 clear h
 by_cases c3 : a0_0 < a1_0
 ·rw [if_pos c3] at H
  have c3b0 : decide (a0_0 < a1_0) = true := decide_eq_true c3
  clear c3
  obtain rfl := Option.some.inj H
  go_enter Try.func31, Try.ntmps31
  go_wp2_with (first | ((with_reducible refine gate_dst (N := 2) rfl ?_); (try (refine gate_guard (by rfl) ?_; dsimp only)); refine box_event ?hg (N := 2) ?hd (cs := #[.int .i64 a0_0, .slice A0_1 l0_1.length c0_1, .slice A0_2 l0_2.length c0_2]) (t := 37) ?hr ?_; (case hd => rfl); (case hg => rfl); (case hr => first | (go_simp; done) | (go_simp; rfl)); intro gb319 hg w4 hbox hb; have BK319 := aMk (hbox); have GW319 := aMk ((by rw [hg]; exact (below_size (by repeat (first | (with_reducible first | exact HB.out | apply eA | apply eN | apply eD) | exact HB.out))) : w.heap.size ≤ gb319)); have GE319 := aMk ((by rw [hg]; exact (below_size (by repeat (first | (with_reducible first | exact HB.out | apply eA | apply eN | apply eD) | exact HB.out))) : w.heap.size ≤ gb319)); replace HB := aMk (below_step (by repeat (first | (with_reducible first | exact HB.out | apply eA | apply eN | apply eD) | exact HB.out)) hb); clear hb hbox hg) | ((with_reducible refine gate_dst (N := 3) rfl ?_); (try (refine gate_guard (by rfl) ?_; dsimp only)); refine box_event ?hg (N := 3) ?hd (cs := #[.int .i64 a1_0, .slice A1_1 l1_1.length c1_1, .slice A1_2 l1_2.length c1_2]) (t := 37) ?hr ?_; (case hd => rfl); (case hg => rfl); (case hr => first | (go_simp; done) | (go_simp; rfl)); intro gb320 hg w5 hbox hb; have BK320 := aMk (hbox); have GW320 := aMk ((by rw [hg]; exact (below_size (by repeat (first | (with_reducible first | exact HB.out | apply eA | apply eN | apply eD | refine eS ?_ GE319.out) | exact HB.out))) : w.heap.size ≤ gb320)); have GE320 := aMk ((by rw [hg]; exact (below_size (by repeat (first | (with_reducible first | exact HB.out | apply eA | apply eN | apply eD | refine eS ?_ GE319.out) | exact HB.out))) : w.heap.size ≤ gb320)); have NB319_320 := aMk ((by rw [hg]; exact Nat.ne_of_lt (blk_lt (g := gb319) (o := .cells #[.int .i64 a0_0, .slice A0_1 l0_1.length c0_1, .slice A0_2 l0_2.length c0_2] 37 (0, 0)) (by (with_reducible repeat (first | apply bA | apply bN | apply bD)); exact BK319.out)) : gb319 ≠ gb320)); have NB320_319 := aMk ((by rw [hg]; exact Nat.ne_of_gt (blk_lt (g := gb319) (o := .cells #[.int .i64 a0_0, .slice A0_1 l0_1.length c0_1, .slice A0_2 l0_2.length c0_2] 37 (0, 0)) (by (with_reducible repeat (first | apply bA | apply bN | apply bD)); exact BK319.out)) : gb320 ≠ gb319)); replace BK319 := aMk (blk_below (g := gb319) (o := .cells #[.int .i64 a0_0, .slice A0_1 l0_1.length c0_1, .slice A0_2 l0_2.length c0_2] 37 (0, 0)) (by (with_reducible repeat (first | apply bA | apply bN | apply bD)); exact BK319.out) hb); replace HB := aMk (below_step (by repeat (first | (with_reducible first | exact HB.out | apply eA | apply eN | apply eD | refine eS ?_ GE319.out) | exact HB.out)) hb); clear hb hbox hg; have hnb6 := NB319_320.out; have hnc6 := NB320_319.out; have hcz7_0 : w5.cell? ⟨gb319, 0, none⟩ = some (.int .i64 a0_0) := (blk_cell BK319.out 0).trans rfl; have hcz7_1 : w5.cell? ⟨gb319, 1, none⟩ = some (.slice A0_1 l0_1.length c0_1) := (blk_cell BK319.out 1).trans rfl; have hcz7_2 : w5.cell? ⟨gb319, 2, none⟩ = some (.slice A0_2 l0_2.length c0_2) := (blk_cell BK319.out 2).trans rfl; have hfz7_0 := blk_frozen BK319.out 0; have hfz7_1 := blk_frozen BK319.out 1; have hfz7_2 := blk_frozen BK319.out 2; have hcz8_0 : w5.cell? ⟨gb320, 0, none⟩ = some (.int .i64 a1_0) := (blk_cell BK320.out 0).trans rfl; have hcz8_1 : w5.cell? ⟨gb320, 1, none⟩ = some (.slice A1_1 l1_1.length c1_1) := (blk_cell BK320.out 1).trans rfl; have hcz8_2 : w5.cell? ⟨gb320, 2, none⟩ = some (.slice A1_2 l1_2.length c1_2) := (blk_cell BK320.out 2).trans rfl; have hfz8_0 := blk_frozen BK320.out 0; have hfz8_1 := blk_frozen BK320.out 1; have hfz8_2 := blk_frozen BK320.out 2))
  repeat (go_quiet (first | ((with_reducible refine gate_dst (N := 2) rfl ?_); (try (refine gate_guard (by rfl) ?_; dsimp only)); refine box_event ?hg (N := 2) ?hd (cs := #[.int .i64 a0_0, .slice A0_1 l0_1.length c0_1, .slice A0_2 l0_2.length c0_2]) (t := 37) ?hr ?_; (case hd => rfl); (case hg => rfl); (case hr => first | (go_simp; done) | (go_simp; rfl)); intro gb319 hg w4 hbox hb; have BK319 := aMk (hbox); have GW319 := aMk ((by rw [hg]; exact (below_size (by repeat (first | (with_reducible first | exact HB.out | apply eA | apply eN | apply eD) | exact HB.out))) : w.heap.size ≤ gb319)); have GE319 := aMk ((by rw [hg]; exact (below_size (by repeat (first | (with_reducible first | exact HB.out | apply eA | apply eN | apply eD) | exact HB.out))) : w.heap.size ≤ gb319)); replace HB := aMk (below_step (by repeat (first | (with_reducible first | exact HB.out | apply eA | apply eN | apply eD) | exact HB.out)) hb); clear hb hbox hg) | ((with_reducible refine gate_dst (N := 3) rfl ?_); (try (refine gate_guard (by rfl) ?_; dsimp only)); refine box_event ?hg (N := 3) ?hd (cs := #[.int .i64 a1_0, .slice A1_1 l1_1.length c1_1, .slice A1_2 l1_2.length c1_2]) (t := 37) ?hr ?_; (case hd => rfl); (case hg => rfl); (case hr => first | (go_simp; done) | (go_simp; rfl)); intro gb320 hg w5 hbox hb; have BK320 := aMk (hbox); have GW320 := aMk ((by rw [hg]; exact (below_size (by repeat (first | (with_reducible first | exact HB.out | apply eA | apply eN | apply eD | refine eS ?_ GE319.out) | exact HB.out))) : w.heap.size ≤ gb320)); have GE320 := aMk ((by rw [hg]; exact (below_size (by repeat (first | (with_reducible first | exact HB.out | apply eA | apply eN | apply eD | refine eS ?_ GE319.out) | exact HB.out))) : w.heap.size ≤ gb320)); have NB319_320 := aMk ((by rw [hg]; exact Nat.ne_of_lt (blk_lt (g := gb319) (o := .cells #[.int .i64 a0_0, .slice A0_1 l0_1.length c0_1, .slice A0_2 l0_2.length c0_2] 37 (0, 0)) (by (with_reducible repeat (first | apply bA | apply bN | apply bD)); exact BK319.out)) : gb319 ≠ gb320)); have NB320_319 := aMk ((by rw [hg]; exact Nat.ne_of_gt (blk_lt (g := gb319) (o := .cells #[.int .i64 a0_0, .slice A0_1 l0_1.length c0_1, .slice A0_2 l0_2.length c0_2] 37 (0, 0)) (by (with_reducible repeat (first | apply bA | apply bN | apply bD)); exact BK319.out)) : gb320 ≠ gb319)); replace BK319 := aMk (blk_below (g := gb319) (o := .cells #[.int .i64 a0_0, .slice A0_1 l0_1.length c0_1, .slice A0_2 l0_2.length c0_2] 37 (0, 0)) (by (with_reducible repeat (first | apply bA | apply bN | apply bD)); exact BK319.out) hb); replace HB := aMk (below_step (by repeat (first | (with_reducible first | exact HB.out | apply eA | apply eN | apply eD | refine eS ?_ GE319.out) | exact HB.out)) hb); clear hb hbox hg; have hnb6 := NB319_320.out; have hnc6 := NB320_319.out; have hcz7_0 : w5.cell? ⟨gb319, 0, none⟩ = some (.int .i64 a0_0) := (blk_cell BK319.out 0).trans rfl; have hcz7_1 : w5.cell? ⟨gb319, 1, none⟩ = some (.slice A0_1 l0_1.length c0_1) := (blk_cell BK319.out 1).trans rfl; have hcz7_2 : w5.cell? ⟨gb319, 2, none⟩ = some (.slice A0_2 l0_2.length c0_2) := (blk_cell BK319.out 2).trans rfl; have hfz7_0 := blk_frozen BK319.out 0; have hfz7_1 := blk_frozen BK319.out 1; have hfz7_2 := blk_frozen BK319.out 2; have hcz8_0 : w5.cell? ⟨gb320, 0, none⟩ = some (.int .i64 a1_0) := (blk_cell BK320.out 0).trans rfl; have hcz8_1 : w5.cell? ⟨gb320, 1, none⟩ = some (.slice A1_1 l1_1.length c1_1) := (blk_cell BK320.out 1).trans rfl; have hcz8_2 : w5.cell? ⟨gb320, 2, none⟩ = some (.slice A1_2 l1_2.length c1_2) := (blk_cell BK320.out 2).trans rfl; have hfz8_0 := blk_frozen BK320.out 0; have hfz8_1 := blk_frozen BK320.out 1; have hfz8_2 := blk_frozen BK320.out 2)); try go_wp2_with (first | ((with_reducible refine gate_dst (N := 2) rfl ?_); (try (refine gate_guard (by rfl) ?_; dsimp only)); refine box_event ?hg (N := 2) ?hd (cs := #[.int .i64 a0_0, .slice A0_1 l0_1.length c0_1, .slice A0_2 l0_2.length c0_2]) (t := 37) ?hr ?_; (case hd => rfl); (case hg => rfl); (case hr => first | (go_simp; done) | (go_simp; rfl)); intro gb319 hg w4 hbox hb; have BK319 := aMk (hbox); have GW319 := aMk ((by rw [hg]; exact (below_size (by repeat (first | (with_reducible first | exact HB.out | apply eA | apply eN | apply eD) | exact HB.out))) : w.heap.size ≤ gb319)); have GE319 := aMk ((by rw [hg]; exact (below_size (by repeat (first | (with_reducible first | exact HB.out | apply eA | apply eN | apply eD) | exact HB.out))) : w.heap.size ≤ gb319)); replace HB := aMk (below_step (by repeat (first | (with_reducible first | exact HB.out | apply eA | apply eN | apply eD) | exact HB.out)) hb); clear hb hbox hg) | ((with_reducible refine gate_dst (N := 3) rfl ?_); (try (refine gate_guard (by rfl) ?_; dsimp only)); refine box_event ?hg (N := 3) ?hd (cs := #[.int .i64 a1_0, .slice A1_1 l1_1.length c1_1, .slice A1_2 l1_2.length c1_2]) (t := 37) ?hr ?_; (case hd => rfl); (case hg => rfl); (case hr => first | (go_simp; done) | (go_simp; rfl)); intro gb320 hg w5 hbox hb; have BK320 := aMk (hbox); have GW320 := aMk ((by rw [hg]; exact (below_size (by repeat (first | (with_reducible first | exact HB.out | apply eA | apply eN | apply eD | refine eS ?_ GE319.out) | exact HB.out))) : w.heap.size ≤ gb320)); have GE320 := aMk ((by rw [hg]; exact (below_size (by repeat (first | (with_reducible first | exact HB.out | apply eA | apply eN | apply eD | refine eS ?_ GE319.out) | exact HB.out))) : w.heap.size ≤ gb320)); have NB319_320 := aMk ((by rw [hg]; exact Nat.ne_of_lt (blk_lt (g := gb319) (o := .cells #[.int .i64 a0_0, .slice A0_1 l0_1.length c0_1, .slice A0_2 l0_2.length c0_2] 37 (0, 0)) (by (with_reducible repeat (first | apply bA | apply bN | apply bD)); exact BK319.out)) : gb319 ≠ gb320)); have NB320_319 := aMk ((by rw [hg]; exact Nat.ne_of_gt (blk_lt (g := gb319) (o := .cells #[.int .i64 a0_0, .slice A0_1 l0_1.length c0_1, .slice A0_2 l0_2.length c0_2] 37 (0, 0)) (by (with_reducible repeat (first | apply bA | apply bN | apply bD)); exact BK319.out)) : gb320 ≠ gb319)); replace BK319 := aMk (blk_below (g := gb319) (o := .cells #[.int .i64 a0_0, .slice A0_1 l0_1.length c0_1, .slice A0_2 l0_2.length c0_2] 37 (0, 0)) (by (with_reducible repeat (first | apply bA | apply bN | apply bD)); exact BK319.out) hb); replace HB := aMk (below_step (by repeat (first | (with_reducible first | exact HB.out | apply eA | apply eN | apply eD | refine eS ?_ GE319.out) | exact HB.out)) hb); clear hb hbox hg; have hnb6 := NB319_320.out; have hnc6 := NB320_319.out; have hcz7_0 : w5.cell? ⟨gb319, 0, none⟩ = some (.int .i64 a0_0) := (blk_cell BK319.out 0).trans rfl; have hcz7_1 : w5.cell? ⟨gb319, 1, none⟩ = some (.slice A0_1 l0_1.length c0_1) := (blk_cell BK319.out 1).trans rfl; have hcz7_2 : w5.cell? ⟨gb319, 2, none⟩ = some (.slice A0_2 l0_2.length c0_2) := (blk_cell BK319.out 2).trans rfl; have hfz7_0 := blk_frozen BK319.out 0; have hfz7_1 := blk_frozen BK319.out 1; have hfz7_2 := blk_frozen BK319.out 2; have hcz8_0 : w5.cell? ⟨gb320, 0, none⟩ = some (.int .i64 a1_0) := (blk_cell BK320.out 0).trans rfl; have hcz8_1 : w5.cell? ⟨gb320, 1, none⟩ = some (.slice A1_1 l1_1.length c1_1) := (blk_cell BK320.out 1).trans rfl; have hcz8_2 : w5.cell? ⟨gb320, 2, none⟩ = some (.slice A1_2 l1_2.length c1_2) := (blk_cell BK320.out 2).trans rfl; have hfz8_0 := blk_frozen BK320.out 0; have hfz8_1 := blk_frozen BK320.out 1; have hfz8_2 := blk_frozen BK320.out 2)))
  go_ret
  exact ⟨by first | rfl | (simp <;> rfl) | (simp [*] <;> rfl), by repeat (first | (with_reducible first | exact HB.out | apply eA | apply eN | apply eD | refine eS ?_ GE319.out | refine eS ?_ GE320.out) | exact HB.out)⟩
 ·rw [if_neg c3] at H
  have c3b0 : decide (a0_0 < a1_0) = false := decide_eq_false c3
  clear c3
  by_cases c9 : a0_0 > a1_0
  ·rw [if_pos c9] at H
   have c9b0 : decide (a1_0 < a0_0) = true := decide_eq_true c9
   clear c9
   obtain rfl := Option.some.inj H
   go_enter Try.func31, Try.ntmps31
   go_wp2_with (first | ((with_reducible refine gate_dst (N := 2) rfl ?_); (try (refine gate_guard (by rfl) ?_; dsimp only)); refine box_event ?hg (N := 2) ?hd (cs := #[.int .i64 a0_0, .slice A0_1 l0_1.length c0_1, .slice A0_2 l0_2.length c0_2]) (t := 37) ?hr ?_; (case hd => rfl); (case hg => rfl); (case hr => first | (go_simp; done) | (go_simp; rfl)); intro gb319 hg w10 hbox hb; have BK319 := aMk (hbox); have GW319 := aMk ((by rw [hg]; exact (below_size (by repeat (first | (with_reducible first | exact HB.out | apply eA | apply eN | apply eD) | exact HB.out))) : w.heap.size ≤ gb319)); have GE319 := aMk ((by rw [hg]; exact (below_size (by repeat (first | (with_reducible first | exact HB.out | apply eA | apply eN | apply eD) | exact HB.out))) : w.heap.size ≤ gb319)); replace HB := aMk (below_step (by repeat (first | (with_reducible first | exact HB.out | apply eA | apply eN | apply eD) | exact HB.out)) hb); clear hb hbox hg) | ((with_reducible refine gate_dst (N := 3) rfl ?_); (try (refine gate_guard (by rfl) ?_; dsimp only)); refine box_event ?hg (N := 3) ?hd (cs := #[.int .i64 a1_0, .slice A1_1 l1_1.length c1_1, .slice A1_2 l1_2.length c1_2]) (t := 37) ?hr ?_; (case hd => rfl); (case hg => rfl); (case hr => first | (go_simp; done) | (go_simp; rfl)); intro gb320 hg w11 hbox hb; have BK320 := aMk (hbox); have GW320 := aMk ((by rw [hg]; exact (below_size (by repeat (first | (with_reducible first | exact HB.out | apply eA | apply eN | apply eD | refine eS ?_ GE319.out) | exact HB.out))) : w.heap.size ≤ gb320)); have GE320 := aMk ((by rw [hg]; exact (below_size (by repeat (first | (with_reducible first | exact HB.out | apply eA | apply eN | apply eD | refine eS ?_ GE319.out) | exact HB.out))) : w.heap.size ≤ gb320)); have NB319_320 := aMk ((by rw [hg]; exact Nat.ne_of_lt (blk_lt (g := gb319) (o := .cells #[.int .i64 a0_0, .slice A0_1 l0_1.length c0_1, .slice A0_2 l0_2.length c0_2] 37 (0, 0)) (by (with_reducible repeat (first | apply bA | apply bN | apply bD)); exact BK319.out)) : gb319 ≠ gb320)); have NB320_319 := aMk ((by rw [hg]; exact Nat.ne_of_gt (blk_lt (g := gb319) (o := .cells #[.int .i64 a0_0, .slice A0_1 l0_1.length c0_1, .slice A0_2 l0_2.length c0_2] 37 (0, 0)) (by (with_reducible repeat (first | apply bA | apply bN | apply bD)); exact BK319.out)) : gb320 ≠ gb319)); replace BK319 := aMk (blk_below (g := gb319) (o := .cells #[.int .i64 a0_0, .slice A0_1 l0_1.length c0_1, .slice A0_2 l0_2.length c0_2] 37 (0, 0)) (by (with_reducible repeat (first | apply bA | apply bN | apply bD)); exact BK319.out) hb); replace HB := aMk (below_step (by repeat (first | (with_reducible first | exact HB.out | apply eA | apply eN | apply eD | refine eS ?_ GE319.out) | exact HB.out)) hb); clear hb hbox hg; have hnb12 := NB319_320.out; have hnc12 := NB320_319.out; have hcz13_0 : w11.cell? ⟨gb319, 0, none⟩ = some (.int .i64 a0_0) := (blk_cell BK319.out 0).trans rfl; have hcz13_1 : w11.cell? ⟨gb319, 1, none⟩ = some (.slice A0_1 l0_1.length c0_1) := (blk_cell BK319.out 1).trans rfl; have hcz13_2 : w11.cell? ⟨gb319, 2, none⟩ = some (.slice A0_2 l0_2.length c0_2) := (blk_cell BK319.out 2).trans rfl; have hfz13_0 := blk_frozen BK319.out 0; have hfz13_1 := blk_frozen BK319.out 1; have hfz13_2 := blk_frozen BK319.out 2; have hcz14_0 : w11.cell? ⟨gb320, 0, none⟩ = some (.int .i64 a1_0) := (blk_cell BK320.out 0).trans rfl; have hcz14_1 : w11.cell? ⟨gb320, 1, none⟩ = some (.slice A1_1 l1_1.length c1_1) := (blk_cell BK320.out 1).trans rfl; have hcz14_2 : w11.cell? ⟨gb320, 2, none⟩ = some (.slice A1_2 l1_2.length c1_2) := (blk_cell BK320.out 2).trans rfl; have hfz14_0 := blk_frozen BK320.out 0; have hfz14_1 := blk_frozen BK320.out 1; have hfz14_2 := blk_frozen BK320.out 2))
   repeat (go_quiet (first | ((with_reducible refine gate_dst (N := 2) rfl ?_); (try (refine gate_guard (by rfl) ?_; dsimp only)); refine box_event ?hg (N := 2) ?hd (cs := #[.int .i64 a0_0, .slice A0_1 l0_1.length c0_1, .slice A0_2 l0_2.length c0_2]) (t := 37) ?hr ?_; (case hd => rfl); (case hg => rfl); (case hr => first | (go_simp; done) | (go_simp; rfl)); intro gb319 hg w10 hbox hb; have BK319 := aMk (hbox); have GW319 := aMk ((by rw [hg]; exact (below_size (by repeat (first | (with_reducible first | exact HB.out | apply eA | apply eN | apply eD) | exact HB.out))) : w.heap.size ≤ gb319)); have GE319 := aMk ((by rw [hg]; exact (below_size (by repeat (first | (with_reducible first | exact HB.out | apply eA | apply eN | apply eD) | exact HB.out))) : w.heap.size ≤ gb319)); replace HB := aMk (below_step (by repeat (first | (with_reducible first | exact HB.out | apply eA | apply eN | apply eD) | exact HB.out)) hb); clear hb hbox hg) | ((with_reducible refine gate_dst (N := 3) rfl ?_); (try (refine gate_guard (by rfl) ?_; dsimp only)); refine box_event ?hg (N := 3) ?hd (cs := #[.int .i64 a1_0, .slice A1_1 l1_1.length c1_1, .slice A1_2 l1_2.length c1_2]) (t := 37) ?hr ?_; (case hd => rfl); (case hg => rfl); (case hr => first | (go_simp; done) | (go_simp; rfl)); intro gb320 hg w11 hbox hb; have BK320 := aMk (hbox); have GW320 := aMk ((by rw [hg]; exact (below_size (by repeat (first | (with_reducible first | exact HB.out | apply eA | apply eN | apply eD | refine eS ?_ GE319.out) | exact HB.out))) : w.heap.size ≤ gb320)); have GE320 := aMk ((by rw [hg]; exact (below_size (by repeat (first | (with_reducible first | exact HB.out | apply eA | apply eN | apply eD | refine eS ?_ GE319.out) | exact HB.out))) : w.heap.size ≤ gb320)); have NB319_320 := aMk ((by rw [hg]; exact Nat.ne_of_lt (blk_lt (g := gb319) (o := .cells #[.int .i64 a0_0, .slice A0_1 l0_1.length c0_1, .slice A0_2 l0_2.length c0_2] 37 (0, 0)) (by (with_reducible repeat (first | apply bA | apply bN | apply bD)); exact BK319.out)) : gb319 ≠ gb320)); have NB320_319 := aMk ((by rw [hg]; exact Nat.ne_of_gt (blk_lt (g := gb319) (o := .cells #[.int .i64 a0_0, .slice A0_1 l0_1.length c0_1, .slice A0_2 l0_2.length c0_2] 37 (0, 0)) (by (with_reducible repeat (first | apply bA | apply bN | apply bD)); exact BK319.out)) : gb320 ≠ gb319)); replace BK319 := aMk (blk_below (g := gb319) (o := .cells #[.int .i64 a0_0, .slice A0_1 l0_1.length c0_1, .slice A0_2 l0_2.length c0_2] 37 (0, 0)) (by (with_reducible repeat (first | apply bA | apply bN | apply bD)); exact BK319.out) hb); replace HB := aMk (below_step (by repeat (first | (with_reducible first | exact HB.out | apply eA | apply eN | apply eD | refine eS ?_ GE319.out) | exact HB.out)) hb); clear hb hbox hg; have hnb12 := NB319_320.out; have hnc12 := NB320_319.out; have hcz13_0 : w11.cell? ⟨gb319, 0, none⟩ = some (.int .i64 a0_0) := (blk_cell BK319.out 0).trans rfl; have hcz13_1 : w11.cell? ⟨gb319, 1, none⟩ = some (.slice A0_1 l0_1.length c0_1) := (blk_cell BK319.out 1).trans rfl; have hcz13_2 : w11.cell? ⟨gb319, 2, none⟩ = some (.slice A0_2 l0_2.length c0_2) := (blk_cell BK319.out 2).trans rfl; have hfz13_0 := blk_frozen BK319.out 0; have hfz13_1 := blk_frozen BK319.out 1; have hfz13_2 := blk_frozen BK319.out 2; have hcz14_0 : w11.cell? ⟨gb320, 0, none⟩ = some (.int .i64 a1_0) := (blk_cell BK320.out 0).trans rfl; have hcz14_1 : w11.cell? ⟨gb320, 1, none⟩ = some (.slice A1_1 l1_1.length c1_1) := (blk_cell BK320.out 1).trans rfl; have hcz14_2 : w11.cell? ⟨gb320, 2, none⟩ = some (.slice A1_2 l1_2.length c1_2) := (blk_cell BK320.out 2).trans rfl; have hfz14_0 := blk_frozen BK320.out 0; have hfz14_1 := blk_frozen BK320.out 1; have hfz14_2 := blk_frozen BK320.out 2)); try go_wp2_with (first | ((with_reducible refine gate_dst (N := 2) rfl ?_); (try (refine gate_guard (by rfl) ?_; dsimp only)); refine box_event ?hg (N := 2) ?hd (cs := #[.int .i64 a0_0, .slice A0_1 l0_1.length c0_1, .slice A0_2 l0_2.length c0_2]) (t := 37) ?hr ?_; (case hd => rfl); (case hg => rfl); (case hr => first | (go_simp; done) | (go_simp; rfl)); intro gb319 hg w10 hbox hb; have BK319 := aMk (hbox); have GW319 := aMk ((by rw [hg]; exact (below_size (by repeat (first | (with_reducible first | exact HB.out | apply eA | apply eN | apply eD) | exact HB.out))) : w.heap.size ≤ gb319)); have GE319 := aMk ((by rw [hg]; exact (below_size (by repeat (first | (with_reducible first | exact HB.out | apply eA | apply eN | apply eD) | exact HB.out))) : w.heap.size ≤ gb319)); replace HB := aMk (below_step (by repeat (first | (with_reducible first | exact HB.out | apply eA | apply eN | apply eD) | exact HB.out)) hb); clear hb hbox hg) | ((with_reducible refine gate_dst (N := 3) rfl ?_); (try (refine gate_guard (by rfl) ?_; dsimp only)); refine box_event ?hg (N := 3) ?hd (cs := #[.int .i64 a1_0, .slice A1_1 l1_1.length c1_1, .slice A1_2 l1_2.length c1_2]) (t := 37) ?hr ?_; (case hd => rfl); (case hg => rfl); (case hr => first | (go_simp; done) | (go_simp; rfl)); intro gb320 hg w11 hbox hb; have BK320 := aMk (hbox); have GW320 := aMk ((by rw [hg]; exact (below_size (by repeat (first | (with_reducible first | exact HB.out | apply eA | apply eN | apply eD | refine eS ?_ GE319.out) | exact HB.out))) : w.heap.size ≤ gb320)); have GE320 := aMk ((by rw [hg]; exact (below_size (by repeat (first | (with_reducible first | exact HB.out | apply eA | apply eN | apply eD | refine eS ?_ GE319.out) | exact HB.out))) : w.heap.size ≤ gb320)); have NB319_320 := aMk ((by rw [hg]; exact Nat.ne_of_lt (blk_lt (g := gb319) (o := .cells #[.int .i64 a0_0, .slice A0_1 l0_1.length c0_1, .slice A0_2 l0_2.length c0_2] 37 (0, 0)) (by (with_reducible repeat (first | apply bA | apply bN | apply bD)); exact BK319.out)) : gb319 ≠ gb320)); have NB320_319 := aMk ((by rw [hg]; exact Nat.ne_of_gt (blk_lt (g := gb319) (o := .cells #[.int .i64 a0_0, .slice A0_1 l0_1.length c0_1, .slice A0_2 l0_2.length c0_2] 37 (0, 0)) (by (with_reducible repeat (first | apply bA | apply bN | apply bD)); exact BK319.out)) : gb320 ≠ gb319)); replace BK319 := aMk (blk_below (g := gb319) (o := .cells #[.int .i64 a0_0, .slice A0_1 l0_1.length c0_1, .slice A0_2 l0_2.length c0_2] 37 (0, 0)) (by (with_reducible repeat (first | apply bA | apply bN | apply bD)); exact BK319.out) hb); replace HB := aMk (below_step (by repeat (first | (with_reducible first | exact HB.out | apply eA | apply eN | apply eD | refine eS ?_ GE319.out) | exact HB.out)) hb); clear hb hbox hg; have hnb12 := NB319_320.out; have hnc12 := NB320_319.out; have hcz13_0 : w11.cell? ⟨gb319, 0, none⟩ = some (.int .i64 a0_0) := (blk_cell BK319.out 0).trans rfl; have hcz13_1 : w11.cell? ⟨gb319, 1, none⟩ = some (.slice A0_1 l0_1.length c0_1) := (blk_cell BK319.out 1).trans rfl; have hcz13_2 : w11.cell? ⟨gb319, 2, none⟩ = some (.slice A0_2 l0_2.length c0_2) := (blk_cell BK319.out 2).trans rfl; have hfz13_0 := blk_frozen BK319.out 0; have hfz13_1 := blk_frozen BK319.out 1; have hfz13_2 := blk_frozen BK319.out 2; have hcz14_0 : w11.cell? ⟨gb320, 0, none⟩ = some (.int .i64 a1_0) := (blk_cell BK320.out 0).trans rfl; have hcz14_1 : w11.cell? ⟨gb320, 1, none⟩ = some (.slice A1_1 l1_1.length c1_1) := (blk_cell BK320.out 1).trans rfl; have hcz14_2 : w11.cell? ⟨gb320, 2, none⟩ = some (.slice A1_2 l1_2.length c1_2) := (blk_cell BK320.out 2).trans rfl; have hfz14_0 := blk_frozen BK320.out 0; have hfz14_1 := blk_frozen BK320.out 1; have hfz14_2 := blk_frozen BK320.out 2)))
   go_ret
   exact ⟨by first | rfl | (simp <;> rfl) | (simp [*] <;> rfl), by repeat (first | (with_reducible first | exact HB.out | apply eA | apply eN | apply eD | refine eS ?_ GE319.out | refine eS ?_ GE320.out) | exact HB.out)⟩
  ·rw [if_neg c9] at H
   have c9b0 : decide (a1_0 < a0_0) = false := decide_eq_false c9
   clear c9
   have H' := aMk H
   clear H
   go_enter Try.func31, Try.ntmps31
   go_wp2_with (first | ((with_reducible refine gate_dst (N := 2) rfl ?_); (try (refine gate_guard (by rfl) ?_; dsimp only)); refine box_event ?hg (N := 2) ?hd (cs := #[.int .i64 a0_0, .slice A0_1 l0_1.length c0_1, .slice A0_2 l0_2.length c0_2]) (t := 37) ?hr ?_; (case hd => rfl); (case hg => rfl); (case hr => first | (go_simp; done) | (go_simp; rfl)); intro gb319 hg w15 hbox hb; have BK319 := aMk (hbox); have GW319 := aMk ((by rw [hg]; exact (below_size (by repeat (first | (with_reducible first | exact HB.out | apply eA | apply eN | apply eD) | exact HB.out))) : w.heap.size ≤ gb319)); have GE319 := aMk ((by rw [hg]; exact (below_size (by repeat (first | (with_reducible first | exact HB.out | apply eA | apply eN | apply eD) | exact HB.out))) : w.heap.size ≤ gb319)); replace HB := aMk (below_step (by repeat (first | (with_reducible first | exact HB.out | apply eA | apply eN | apply eD) | exact HB.out)) hb); clear hb hbox hg) | ((with_reducible refine gate_dst (N := 3) rfl ?_); (try (refine gate_guard (by rfl) ?_; dsimp only)); refine box_event ?hg (N := 3) ?hd (cs := #[.int .i64 a1_0, .slice A1_1 l1_1.length c1_1, .slice A1_2 l1_2.length c1_2]) (t := 37) ?hr ?_; (case hd => rfl); (case hg => rfl); (case hr => first | (go_simp; done) | (go_simp; rfl)); intro gb320 hg w16 hbox hb; have BK320 := aMk (hbox); have GW320 := aMk ((by rw [hg]; exact (below_size (by repeat (first | (with_reducible first | exact HB.out | apply eA | apply eN | apply eD | refine eS ?_ GE319.out) | exact HB.out))) : w.heap.size ≤ gb320)); have GE320 := aMk ((by rw [hg]; exact (below_size (by repeat (first | (with_reducible first | exact HB.out | apply eA | apply eN | apply eD | refine eS ?_ GE319.out) | exact HB.out))) : w.heap.size ≤ gb320)); have NB319_320 := aMk ((by rw [hg]; exact Nat.ne_of_lt (blk_lt (g := gb319) (o := .cells #[.int .i64 a0_0, .slice A0_1 l0_1.length c0_1, .slice A0_2 l0_2.length c0_2] 37 (0, 0)) (by (with_reducible repeat (first | apply bA | apply bN | apply bD)); exact BK319.out)) : gb319 ≠ gb320)); have NB320_319 := aMk ((by rw [hg]; exact Nat.ne_of_gt (blk_lt (g := gb319) (o := .cells #[.int .i64 a0_0, .slice A0_1 l0_1.length c0_1, .slice A0_2 l0_2.length c0_2] 37 (0, 0)) (by (with_reducible repeat (first | apply bA | apply bN | apply bD)); exact BK319.out)) : gb320 ≠ gb319)); replace BK319 := aMk (blk_below (g := gb319) (o := .cells #[.int .i64 a0_0, .slice A0_1 l0_1.length c0_1, .slice A0_2 l0_2.length c0_2] 37 (0, 0)) (by (with_reducible repeat (first | apply bA | apply bN | apply bD)); exact BK319.out) hb); replace HB := aMk (below_step (by repeat (first | (with_reducible first | exact HB.out | apply eA | apply eN | apply eD | refine eS ?_ GE319.out) | exact HB.out)) hb); clear hb hbox hg; have hnb17 := NB319_320.out; have hnc17 := NB320_319.out; have hcz18_0 : w16.cell? ⟨gb319, 0, none⟩ = some (.int .i64 a0_0) := (blk_cell BK319.out 0).trans rfl; have hcz18_1 : w16.cell? ⟨gb319, 1, none⟩ = some (.slice A0_1 l0_1.length c0_1) := (blk_cell BK319.out 1).trans rfl; have hcz18_2 : w16.cell? ⟨gb319, 2, none⟩ = some (.slice A0_2 l0_2.length c0_2) := (blk_cell BK319.out 2).trans rfl; have hfz18_0 := blk_frozen BK319.out 0; have hfz18_1 := blk_frozen BK319.out 1; have hfz18_2 := blk_frozen BK319.out 2; have hcz19_0 : w16.cell? ⟨gb320, 0, none⟩ = some (.int .i64 a1_0) := (blk_cell BK320.out 0).trans rfl; have hcz19_1 : w16.cell? ⟨gb320, 1, none⟩ = some (.slice A1_1 l1_1.length c1_1) := (blk_cell BK320.out 1).trans rfl; have hcz19_2 : w16.cell? ⟨gb320, 2, none⟩ = some (.slice A1_2 l1_2.length c1_2) := (blk_cell BK320.out 2).trans rfl; have hfz19_0 := blk_frozen BK320.out 0; have hfz19_1 := blk_frozen BK320.out 1; have hfz19_2 := blk_frozen BK320.out 2))
   repeat (go_quiet (first | ((with_reducible refine gate_dst (N := 2) rfl ?_); (try (refine gate_guard (by rfl) ?_; dsimp only)); refine box_event ?hg (N := 2) ?hd (cs := #[.int .i64 a0_0, .slice A0_1 l0_1.length c0_1, .slice A0_2 l0_2.length c0_2]) (t := 37) ?hr ?_; (case hd => rfl); (case hg => rfl); (case hr => first | (go_simp; done) | (go_simp; rfl)); intro gb319 hg w15 hbox hb; have BK319 := aMk (hbox); have GW319 := aMk ((by rw [hg]; exact (below_size (by repeat (first | (with_reducible first | exact HB.out | apply eA | apply eN | apply eD) | exact HB.out))) : w.heap.size ≤ gb319)); have GE319 := aMk ((by rw [hg]; exact (below_size (by repeat (first | (with_reducible first | exact HB.out | apply eA | apply eN | apply eD) | exact HB.out))) : w.heap.size ≤ gb319)); replace HB := aMk (below_step (by repeat (first | (with_reducible first | exact HB.out | apply eA | apply eN | apply eD) | exact HB.out)) hb); clear hb hbox hg) | ((with_reducible refine gate_dst (N := 3) rfl ?_); (try (refine gate_guard (by rfl) ?_; dsimp only)); refine box_event ?hg (N := 3) ?hd (cs := #[.int .i64 a1_0, .slice A1_1 l1_1.length c1_1, .slice A1_2 l1_2.length c1_2]) (t := 37) ?hr ?_; (case hd => rfl); (case hg => rfl); (case hr => first | (go_simp; done) | (go_simp; rfl)); intro gb320 hg w16 hbox hb; have BK320 := aMk (hbox); have GW320 := aMk ((by rw [hg]; exact (below_size (by repeat (first | (with_reducible first | exact HB.out | apply eA | apply eN | apply eD | refine eS ?_ GE319.out) | exact HB.out))) : w.heap.size ≤ gb320)); have GE320 := aMk ((by rw [hg]; exact (below_size (by repeat (first | (with_reducible first | exact HB.out | apply eA | apply eN | apply eD | refine eS ?_ GE319.out) | exact HB.out))) : w.heap.size ≤ gb320)); have NB319_320 := aMk ((by rw [hg]; exact Nat.ne_of_lt (blk_lt (g := gb319) (o := .cells #[.int .i64 a0_0, .slice A0_1 l0_1.length c0_1, .slice A0_2 l0_2.length c0_2] 37 (0, 0)) (by (with_reducible repeat (first | apply bA | apply bN | apply bD)); exact BK319.out)) : gb319 ≠ gb320)); have NB320_319 := aMk ((by rw [hg]; exact Nat.ne_of_gt (blk_lt (g := gb319) (o := .cells #[.int .i64 a0_0, .slice A0_1 l0_1.length c0_1, .slice A0_2 l0_2.length c0_2] 37 (0, 0)) (by (with_reducible repeat (first | apply bA | apply bN | apply bD)); exact BK319.out)) : gb320 ≠ gb319)); replace BK319 := aMk (blk_below (g := gb319) (o := .cells #[.int .i64 a0_0, .slice A0_1 l0_1.length c0_1, .slice A0_2 l0_2.length c0_2] 37 (0, 0)) (by (with_reducible repeat (first | apply bA | apply bN | apply bD)); exact BK319.out) hb); replace HB := aMk (below_step (by repeat (first | (with_reducible first | exact HB.out | apply eA | apply eN | apply eD | refine eS ?_ GE319.out) | exact HB.out)) hb); clear hb hbox hg; have hnb17 := NB319_320.out; have hnc17 := NB320_319.out; have hcz18_0 : w16.cell? ⟨gb319, 0, none⟩ = some (.int .i64 a0_0) := (blk_cell BK319.out 0).trans rfl; have hcz18_1 : w16.cell? ⟨gb319, 1, none⟩ = some (.slice A0_1 l0_1.length c0_1) := (blk_cell BK319.out 1).trans rfl; have hcz18_2 : w16.cell? ⟨gb319, 2, none⟩ = some (.slice A0_2 l0_2.length c0_2) := (blk_cell BK319.out 2).trans rfl; have hfz18_0 := blk_frozen BK319.out 0; have hfz18_1 := blk_frozen BK319.out 1; have hfz18_2 := blk_frozen BK319.out 2; have hcz19_0 : w16.cell? ⟨gb320, 0, none⟩ = some (.int .i64 a1_0) := (blk_cell BK320.out 0).trans rfl; have hcz19_1 : w16.cell? ⟨gb320, 1, none⟩ = some (.slice A1_1 l1_1.length c1_1) := (blk_cell BK320.out 1).trans rfl; have hcz19_2 : w16.cell? ⟨gb320, 2, none⟩ = some (.slice A1_2 l1_2.length c1_2) := (blk_cell BK320.out 2).trans rfl; have hfz19_0 := blk_frozen BK320.out 0; have hfz19_1 := blk_frozen BK320.out 1; have hfz19_2 := blk_frozen BK320.out 2)); try go_wp2_with (first | ((with_reducible refine gate_dst (N := 2) rfl ?_); (try (refine gate_guard (by rfl) ?_; dsimp only)); refine box_event ?hg (N := 2) ?hd (cs := #[.int .i64 a0_0, .slice A0_1 l0_1.length c0_1, .slice A0_2 l0_2.length c0_2]) (t := 37) ?hr ?_; (case hd => rfl); (case hg => rfl); (case hr => first | (go_simp; done) | (go_simp; rfl)); intro gb319 hg w15 hbox hb; have BK319 := aMk (hbox); have GW319 := aMk ((by rw [hg]; exact (below_size (by repeat (first | (with_reducible first | exact HB.out | apply eA | apply eN | apply eD) | exact HB.out))) : w.heap.size ≤ gb319)); have GE319 := aMk ((by rw [hg]; exact (below_size (by repeat (first | (with_reducible first | exact HB.out | apply eA | apply eN | apply eD) | exact HB.out))) : w.heap.size ≤ gb319)); replace HB := aMk (below_step (by repeat (first | (with_reducible first | exact HB.out | apply eA | apply eN | apply eD) | exact HB.out)) hb); clear hb hbox hg) | ((with_reducible refine gate_dst (N := 3) rfl ?_); (try (refine gate_guard (by rfl) ?_; dsimp only)); refine box_event ?hg (N := 3) ?hd (cs := #[.int .i64 a1_0, .slice A1_1 l1_1.length c1_1, .slice A1_2 l1_2.length c1_2]) (t := 37) ?hr ?_; (case hd => rfl); (case hg => rfl); (case hr => first | (go_simp; done) | (go_simp; rfl)); intro gb320 hg w16 hbox hb; have BK320 := aMk (hbox); have GW320 := aMk ((by rw [hg]; exact (below_size (by repeat (first | (with_reducible first | exact HB.out | apply eA | apply eN | apply eD | refine eS ?_ GE319.out) | exact HB.out))) : w.heap.size ≤ gb320)); have GE320 := aMk ((by rw [hg]; exact (below_size (by repeat (first | (with_reducible first | exact HB.out | apply eA | apply eN | apply eD | refine eS ?_ GE319.out) | exact HB.out))) : w.heap.size ≤ gb320)); have NB319_320 := aMk ((by rw [hg]; exact Nat.ne_of_lt (blk_lt (g := gb319) (o := .cells #[.int .i64 a0_0, .slice A0_1 l0_1.length c0_1, .slice A0_2 l0_2.length c0_2] 37 (0, 0)) (by (with_reducible repeat (first | apply bA | apply bN | apply bD)); exact BK319.out)) : gb319 ≠ gb320)); have NB320_319 := aMk ((by rw [hg]; exact Nat.ne_of_gt (blk_lt (g := gb319) (o := .cells #[.int .i64 a0_0, .slice A0_1 l0_1.length c0_1, .slice A0_2 l0_2.length c0_2] 37 (0, 0)) (by (with_reducible repeat (first | apply bA | apply bN | apply bD)); exact BK319.out)) : gb320 ≠ gb319)); replace BK319 := aMk (blk_below (g := gb319) (o := .cells #[.int .i64 a0_0, .slice A0_1 l0_1.length c0_1, .slice A0_2 l0_2.length c0_2] 37 (0, 0)) (by (with_reducible repeat (first | apply bA | apply bN | apply bD)); exact BK319.out) hb); replace HB := aMk (below_step (by repeat (first | (with_reducible first | exact HB.out | apply eA | apply eN | apply eD | refine eS ?_ GE319.out) | exact HB.out)) hb); clear hb hbox hg; have hnb17 := NB319_320.out; have hnc17 := NB320_319.out; have hcz18_0 : w16.cell? ⟨gb319, 0, none⟩ = some (.int .i64 a0_0) := (blk_cell BK319.out 0).trans rfl; have hcz18_1 : w16.cell? ⟨gb319, 1, none⟩ = some (.slice A0_1 l0_1.length c0_1) := (blk_cell BK319.out 1).trans rfl; have hcz18_2 : w16.cell? ⟨gb319, 2, none⟩ = some (.slice A0_2 l0_2.length c0_2) := (blk_cell BK319.out 2).trans rfl; have hfz18_0 := blk_frozen BK319.out 0; have hfz18_1 := blk_frozen BK319.out 1; have hfz18_2 := blk_frozen BK319.out 2; have hcz19_0 : w16.cell? ⟨gb320, 0, none⟩ = some (.int .i64 a1_0) := (blk_cell BK320.out 0).trans rfl; have hcz19_1 : w16.cell? ⟨gb320, 1, none⟩ = some (.slice A1_1 l1_1.length c1_1) := (blk_cell BK320.out 1).trans rfl; have hcz19_2 : w16.cell? ⟨gb320, 2, none⟩ = some (.slice A1_2 l1_2.length c1_2) := (blk_cell BK320.out 2).trans rfl; have hfz19_0 := blk_frozen BK320.out 0; have hfz19_1 := blk_frozen BK320.out 1; have hfz19_2 := blk_frozen BK320.out 2)))
   go_loopg [5] k (fun kq v5 w' => ∃ (x5_1 : Int), v5 = .int .i64 x5_1 ∧ Aside0 (gristmillref04_Compare.l0 kq x5_1 a0_0 l0_1 l0_2 a1_0 l1_1 l1_2 = some r) ∧ Aside0 (kq ≤ k) ∧ Aside0 (w'.heap[gb319]? = some (.cells #[.int .i64 a0_0, (.slice A0_1 l0_1.length c0_1), (.slice A0_2 l0_2.length c0_2)] 37 (0, 0))) ∧ Aside0 (w'.heap[gb320]? = some (.cells #[.int .i64 a1_0, (.slice A1_1 l1_1.length c1_1), (.slice A1_2 l1_2.length c1_2)] 37 (0, 0))) ∧ Aside0 (Below w.heap.size w w'))
   case atStart => exact ⟨(0), (by first | rfl | (simp; done) | (simp [*]; done)), H', ⟨Nat.le_refl _⟩, ⟨by (with_reducible repeat (first | apply bA | apply bN | apply bD)); exact BK319.out⟩, ⟨by (with_reducible repeat (first | apply bA | apply bN | apply bD)); exact BK320.out⟩, ⟨by repeat (first | (with_reducible first | exact HB.out | apply eA | apply eN | apply eD | refine eS ?_ GE319.out | refine eS ?_ GE320.out) | exact HB.out)⟩⟩
   case round =>
    clear H'
    try clear c1
    try clear p2
    try clear c3
    try clear c3b0
    try clear c6
    try clear c9
    try clear c9b0
    try clear c12
    try clear c17
    try clear hcz13_0
    try clear hcz13_1
    try clear hcz13_2
    try clear hcz14_0
    try clear hcz14_1
    try clear hcz14_2
    try clear hcz18_0
    try clear hcz18_1
    try clear hcz18_2
    try clear hcz19_0
    try clear hcz19_1
    try clear hcz19_2
    try clear hcz7_0
    try clear hcz7_1
    try clear hcz7_2
    try clear hcz8_0
    try clear hcz8_1
    try clear hcz8_2
    try clear hfz13_0
    try clear hfz13_1
    try clear hfz13_2
    try clear hfz14_0
    try clear hfz14_1
    try clear hfz14_2
    try clear hfz18_0
    try clear hfz18_1
    try clear hfz18_2
    try clear hfz19_0
    try clear hfz19_1
    try clear hfz19_2
    try clear hfz7_0
    try clear hfz7_1
    try clear hfz7_2
    try clear hfz8_0
    try clear hfz8_1
    try clear hfz8_2
    obtain ⟨x5_1, rfl, HA, HK1, BK319, BK320, HB⟩ := hrel
    cases gk with
    | zero => exact absurd HA.out (by simp [gristmillref04_Compare.l0])
    | succ k1 =>
     have H := HA.out
     clear HA
     simp only [gristmillref04_Compare.l0] at H
     have HC20 := aMk H
     clear H
     go_upto_region 6 with (fail)
     repeat (go_quiet (fail); go_upto_region 6 with (fail))
     go_cut [28] (fun v28 wc => ∃ (kq : Nat) (x28_19 : Bool), v28 = .bool x28_19 ∧ Aside0 (gristmillref04_Compare.j1 kq x5_1 x28_19 a0_0 l0_1 l0_2 a1_0 l1_1 l1_2 = some r) ∧ Aside0 (kq ≤ k1) ∧ Aside0 (wc.heap[gb319]? = some (.cells #[.int .i64 a0_0, (.slice A0_1 l0_1.length c0_1), (.slice A0_2 l0_2.length c0_2)] 37 (0, 0))) ∧ Aside0 (wc.heap[gb320]? = some (.cells #[.int .i64 a1_0, (.slice A1_1 l1_1.length c1_1), (.slice A1_2 l1_2.length c1_2)] 37 (0, 0))) ∧ Aside0 (Below w.heap.size w wc))
     case first =>
      have H := HC20.out
      clear HC20
      by_cases c21 : x5_1 < (l0_1.length : Int)
      ·rw [if_pos c21] at H
       have c21b0 : decide (x5_1 < (l0_1.length : Int)) = true := decide_eq_true c21
       clear c21
       (first | rw [c21b0] | (simp only [i64_w, i32_w]; rw [c21b0]) | skip)
       have H' := aMk H
       clear H
       have hnb22 := NB319_320.out
       have hnc22 := NB320_319.out
       have hcz23_0 : wr.cell? ⟨gb319, 0, none⟩ = some (.int .i64 a0_0) := (blk_cell BK319.out 0).trans rfl
       have hcz23_1 : wr.cell? ⟨gb319, 1, none⟩ = some (.slice A0_1 l0_1.length c0_1) := (blk_cell BK319.out 1).trans rfl
       have hcz23_2 : wr.cell? ⟨gb319, 2, none⟩ = some (.slice A0_2 l0_2.length c0_2) := (blk_cell BK319.out 2).trans rfl
       have hfz23_0 := blk_frozen BK319.out 0
       have hfz23_1 := blk_frozen BK319.out 1
       have hfz23_2 := blk_frozen BK319.out 2
       go_wp2
       repeat (go_quiet (fail); try go_wp2)
       go_meet
       case rel => exact ⟨_, (true), (by first | rfl | (simp; done) | (simp [*]; done)), H', ⟨by have := HK1.out; first | omega | exact Nat.le_refl _⟩, ⟨by (with_reducible repeat (first | apply bA | apply bN | apply bD)); exact BK319.out⟩, ⟨by (with_reducible repeat (first | apply bA | apply bN | apply bD)); exact BK320.out⟩, ⟨by repeat (first | (with_reducible first | exact HB.out | apply eA | apply eN | apply eD | refine eS ?_ GE319.out | refine eS ?_ GE320.out) | exact HB.out)⟩⟩
      ·rw [if_neg c21] at H
       have c21b0 : decide (x5_1 < (l0_1.length : Int)) = false := decide_eq_false c21
       clear c21
       (first | rw [c21b0] | (simp only [i64_w, i32_w]; rw [c21b0]) | skip)
       have H' := aMk H
       clear H
       have hnb24 := NB319_320.out
       have hnc24 := NB320_319.out
       have hcz25_0 : wr.cell? ⟨gb319, 0, none⟩ = some (.int .i64 a0_0) := (blk_cell BK319.out 0).trans rfl
       have hcz25_1 : wr.cell? ⟨gb319, 1, none⟩ = some (.slice A0_1 l0_1.length c0_1) := (blk_cell BK319.out 1).trans rfl
       have hcz25_2 : wr.cell? ⟨gb319, 2, none⟩ = some (.slice A0_2 l0_2.length c0_2) := (blk_cell BK319.out 2).trans rfl
       have hfz25_0 := blk_frozen BK319.out 0
       have hfz25_1 := blk_frozen BK319.out 1
       have hfz25_2 := blk_frozen BK319.out 2
       have hcz26_0 : wr.cell? ⟨gb320, 0, none⟩ = some (.int .i64 a1_0) := (blk_cell BK320.out 0).trans rfl
       have hcz26_1 : wr.cell? ⟨gb320, 1, none⟩ = some (.slice A1_1 l1_1.length c1_1) := (blk_cell BK320.out 1).trans rfl
       have hcz26_2 : wr.cell? ⟨gb320, 2, none⟩ = some (.slice A1_2 l1_2.length c1_2) := (blk_cell BK320.out 2).trans rfl
       have hfz26_0 := blk_frozen BK320.out 0
       have hfz26_1 := blk_frozen BK320.out 1
       have hfz26_2 := blk_frozen BK320.out 2
       go_wp2
       repeat (go_quiet (fail); try go_wp2)
       go_meet
       case rel => exact ⟨_, (decide (x5_1 < (l1_1.length : Int))), (by first | rfl | (simp; done) | (simp [*]; done)), H', ⟨by have := HK1.out; first | omega | exact Nat.le_refl _⟩, ⟨by (with_reducible repeat (first | apply bA | apply bN | apply bD)); exact BK319.out⟩, ⟨by (with_reducible repeat (first | apply bA | apply bN | apply bD)); exact BK320.out⟩, ⟨by repeat (first | (with_reducible first | exact HB.out | apply eA | apply eN | apply eD | refine eS ?_ GE319.out | refine eS ?_ GE320.out) | exact HB.out)⟩⟩
     case rest =>
      clear HC20
      try clear c1
      try clear c2
      try clear p2
      try clear c3
      try clear c3b0
      try clear c6
      try clear c9
      try clear c9b0
      try clear c12
      try clear c17
      try clear c21
      try clear c21b0
      try clear c22
      try clear c24
      try clear hcz13_0
      try clear hcz13_1
      try clear hcz13_2
      try clear hcz14_0
      try clear hcz14_1
      try clear hcz14_2
      try clear hcz18_0
      try clear hcz18_1
      try clear hcz18_2
      try clear hcz19_0
      try clear hcz19_1
      try clear hcz19_2
      try clear hcz23_0
      try clear hcz23_1
      try clear hcz23_2
      try clear hcz25_0
      try clear hcz25_1
      try clear hcz25_2
      try clear hcz26_0
      try clear hcz26_1
      try clear hcz26_2
      try clear hcz7_0
      try clear hcz7_1
      try clear hcz7_2
      try clear hcz8_0
      try clear hcz8_1
      try clear hcz8_2
      try clear hfz13_0
      try clear hfz13_1
      try clear hfz13_2
      try clear hfz14_0
      try clear hfz14_1
      try clear hfz14_2
      try clear hfz18_0
      try clear hfz18_1
      try clear hfz18_2
      try clear hfz19_0
      try clear hfz19_1
      try clear hfz19_2
      try clear hfz23_0
      try clear hfz23_1
      try clear hfz23_2
      try clear hfz25_0
      try clear hfz25_1
      try clear hfz25_2
      try clear hfz26_0
      try clear hfz26_1
      try clear hfz26_2
      try clear hfz7_0
      try clear hfz7_1
      try clear hfz7_2
      try clear hfz8_0
      try clear hfz8_1
      try clear hfz8_2
      try clear p2
      obtain ⟨kq, x28_19, rfl, HA, HJ19, BK319, BK320, HB⟩ := hcut
      cases kq with
      | zero => exact absurd HA.out (by simp [gristmillref04_Compare.j1])
      | succ kj19 =>
       have H := HA.out
       clear HA
       simp only [gristmillref04_Compare.j1] at H
       by_cases c27 : x28_19 = true
       ·subst c27
        have H1 : (if x5_1 ≥ (l0_1.length : Int) then (some (-1)) else (if x5_1 ≥ (l1_1.length : Int) then (some 1) else (if 0 ≤ x5_1 then (if x5_1 < (l0_1.length : Int) then (if x5_1 < (l1_1.length : Int) then (if (Op.bytesLess ((rdOf ByteArray.empty l0_1 x5_1).toList) ((rdOf ByteArray.empty l1_1 x5_1).toList)) = true then (some (-1)) else (if (Op.bytesLess ((rdOf ByteArray.empty l1_1 x5_1).toList) ((rdOf ByteArray.empty l0_1 x5_1).toList)) = true then (some 1) else (gristmillref04_Compare.l0 kj19 (wrap64 (x5_1 + 1)) a0_0 l0_1 l0_2 a1_0 l1_1 l1_2))) else (none)) else (none)) else (none)))) = some r := by rw [if_pos rfl] at H; exact H
        clear H
        have H := H1
        clear H1
        by_cases c28 : x5_1 ≥ (l0_1.length : Int)
        ·rw [if_pos c28] at H
         have c28b0 : decide ((l0_1.length : Int) ≤ x5_1) = true := decide_eq_true c28
         clear c28
         obtain rfl := Option.some.inj H
         have hnb29 := NB319_320.out
         have hnc29 := NB320_319.out
         have hcz30_0 : wc.cell? ⟨gb319, 0, none⟩ = some (.int .i64 a0_0) := (blk_cell BK319.out 0).trans rfl
         have hcz30_1 : wc.cell? ⟨gb319, 1, none⟩ = some (.slice A0_1 l0_1.length c0_1) := (blk_cell BK319.out 1).trans rfl
         have hcz30_2 : wc.cell? ⟨gb319, 2, none⟩ = some (.slice A0_2 l0_2.length c0_2) := (blk_cell BK319.out 2).trans rfl
         have hfz30_0 := blk_frozen BK319.out 0
         have hfz30_1 := blk_frozen BK319.out 1
         have hfz30_2 := blk_frozen BK319.out 2
         go_wp2
         repeat (go_quiet (fail); try go_wp2)
         go_ret
         exact ⟨by first | rfl | (simp <;> rfl) | (simp [*] <;> rfl), by repeat (first | (with_reducible first | exact HB.out | apply eA | apply eN | apply eD | refine eS ?_ GE319.out | refine eS ?_ GE320.out) | exact HB.out)⟩
        ·rw [if_neg c28] at H
         have c28b0 : decide ((l0_1.length : Int) ≤ x5_1) = false := decide_eq_false c28
         clear c28
         by_cases c31 : x5_1 ≥ (l1_1.length : Int)
         ·rw [if_pos c31] at H
          have c31b0 : decide ((l1_1.length : Int) ≤ x5_1) = true := decide_eq_true c31
          clear c31
          obtain rfl := Option.some.inj H
          have hnb32 := NB319_320.out
          have hnc32 := NB320_319.out
          have hcz33_0 : wc.cell? ⟨gb319, 0, none⟩ = some (.int .i64 a0_0) := (blk_cell BK319.out 0).trans rfl
          have hcz33_1 : wc.cell? ⟨gb319, 1, none⟩ = some (.slice A0_1 l0_1.length c0_1) := (blk_cell BK319.out 1).trans rfl
          have hcz33_2 : wc.cell? ⟨gb319, 2, none⟩ = some (.slice A0_2 l0_2.length c0_2) := (blk_cell BK319.out 2).trans rfl
          have hfz33_0 := blk_frozen BK319.out 0
          have hfz33_1 := blk_frozen BK319.out 1
          have hfz33_2 := blk_frozen BK319.out 2
          have hcz34_0 : wc.cell? ⟨gb320, 0, none⟩ = some (.int .i64 a1_0) := (blk_cell BK320.out 0).trans rfl
          have hcz34_1 : wc.cell? ⟨gb320, 1, none⟩ = some (.slice A1_1 l1_1.length c1_1) := (blk_cell BK320.out 1).trans rfl
          have hcz34_2 : wc.cell? ⟨gb320, 2, none⟩ = some (.slice A1_2 l1_2.length c1_2) := (blk_cell BK320.out 2).trans rfl
          have hfz34_0 := blk_frozen BK320.out 0
          have hfz34_1 := blk_frozen BK320.out 1
          have hfz34_2 := blk_frozen BK320.out 2
          go_wp2
          repeat (go_quiet (fail); try go_wp2)
          go_ret
          exact ⟨by first | rfl | (simp <;> rfl) | (simp [*] <;> rfl), by repeat (first | (with_reducible first | exact HB.out | apply eA | apply eN | apply eD | refine eS ?_ GE319.out | refine eS ?_ GE320.out) | exact HB.out)⟩
         ·rw [if_neg c31] at H
          have c31b0 : decide ((l1_1.length : Int) ≤ x5_1) = false := decide_eq_false c31
          clear c31
          by_cases c35 : 0 ≤ x5_1
          ·rw [if_pos c35] at H
           have c35b0 : decide (0 ≤ x5_1) = true := decide_eq_true c35
           clear c35
           by_cases c36 : x5_1 < (l0_1.length : Int)
           ·rw [if_pos c36] at H
            have c36b0 : decide (x5_1 < (l0_1.length : Int)) = true := decide_eq_true c36
            clear c36
            by_cases c37 : x5_1 < (l1_1.length : Int)
            ·rw [if_pos c37] at H
             have c37b0 : decide (x5_1 < (l1_1.length : Int)) = true := decide_eq_true c37
             clear c37
             by_cases c38 : (Op.bytesLess ((rdOf ByteArray.empty l0_1 x5_1).toList) ((rdOf ByteArray.empty l1_1 x5_1).toList)) = true
             ·rw [if_pos c38] at H
              have c38b0 : (Op.bytesLess ((rdOf ByteArray.empty l0_1 x5_1).toList) ((rdOf ByteArray.empty l1_1 x5_1).toList)) = true := c38
              clear c38
              obtain rfl := Option.some.inj H
              have hnb39 := NB319_320.out
              have hnc39 := NB320_319.out
              have hcz40_0 : wc.cell? ⟨gb319, 0, none⟩ = some (.int .i64 a0_0) := (blk_cell BK319.out 0).trans rfl
              have hcz40_1 : wc.cell? ⟨gb319, 1, none⟩ = some (.slice A0_1 l0_1.length c0_1) := (blk_cell BK319.out 1).trans rfl
              have hcz40_2 : wc.cell? ⟨gb319, 2, none⟩ = some (.slice A0_2 l0_2.length c0_2) := (blk_cell BK319.out 2).trans rfl
              have hfz40_0 := blk_frozen BK319.out 0
              have hfz40_1 := blk_frozen BK319.out 1
              have hfz40_2 := blk_frozen BK319.out 2
              have hcz41_0 : wc.cell? ⟨gb320, 0, none⟩ = some (.int .i64 a1_0) := (blk_cell BK320.out 0).trans rfl
              have hcz41_1 : wc.cell? ⟨gb320, 1, none⟩ = some (.slice A1_1 l1_1.length c1_1) := (blk_cell BK320.out 1).trans rfl
              have hcz41_2 : wc.cell? ⟨gb320, 2, none⟩ = some (.slice A1_2 l1_2.length c1_2) := (blk_cell BK320.out 2).trans rfl
              have hfz41_0 := blk_frozen BK320.out 0
              have hfz41_1 := blk_frozen BK320.out 1
              have hfz41_2 := blk_frozen BK320.out 2
              have p321 : 0 ≤ (x5_1 : Int) := of_decide_eq_true (by first | (with_reducible assumption) | assumption)
              have q321 : x5_1 < (l0_1.length : Int) := of_decide_eq_true (by first | (with_reducible assumption) | assumption)
              obtain ⟨ad321, e321, hx321_0⟩ := Kd.at_string HR0_1.out x5_1 p321 q321
              cases e321
              replace hx321_0 := (HB.out.cell (World.block_lt_of_cell? w _ hx321_0)).trans hx321_0
              replace p321 := eq_true p321
              replace q321 := eq_true q321
              have p322 : 0 ≤ (x5_1 : Int) := of_decide_eq_true (by first | (with_reducible assumption) | assumption)
              have q322 : x5_1 < (l1_1.length : Int) := of_decide_eq_true (by first | (with_reducible assumption) | assumption)
              obtain ⟨ad322, e322, hx322_0⟩ := Kd.at_string HR1_1.out x5_1 p322 q322
              cases e322
              replace hx322_0 := (HB.out.cell (World.block_lt_of_cell? w _ hx322_0)).trans hx322_0
              replace p322 := eq_true p322
              replace q322 := eq_true q322
              go_wp2
              repeat (go_quiet (fail); try go_wp2)
              go_ret
              exact ⟨by first | rfl | (simp <;> rfl) | (simp [*] <;> rfl), by repeat (first | (with_reducible first | exact HB.out | apply eA | apply eN | apply eD | refine eS ?_ GE319.out | refine eS ?_ GE320.out) | exact HB.out)⟩
             ·rw [if_neg c38] at H
              have c38b0 : (Op.bytesLess ((rdOf ByteArray.empty l0_1 x5_1).toList) ((rdOf ByteArray.empty l1_1 x5_1).toList)) = false := by simpa using c38
              clear c38
              by_cases c42 : (Op.bytesLess ((rdOf ByteArray.empty l1_1 x5_1).toList) ((rdOf ByteArray.empty l0_1 x5_1).toList)) = true
              ·rw [if_pos c42] at H
               have c42b0 : (Op.bytesLess ((rdOf ByteArray.empty l1_1 x5_1).toList) ((rdOf ByteArray.empty l0_1 x5_1).toList)) = true := c42
               clear c42
               obtain rfl := Option.some.inj H
               have hnb43 := NB319_320.out
               have hnc43 := NB320_319.out
               have hcz44_0 : wc.cell? ⟨gb319, 0, none⟩ = some (.int .i64 a0_0) := (blk_cell BK319.out 0).trans rfl
               have hcz44_1 : wc.cell? ⟨gb319, 1, none⟩ = some (.slice A0_1 l0_1.length c0_1) := (blk_cell BK319.out 1).trans rfl
               have hcz44_2 : wc.cell? ⟨gb319, 2, none⟩ = some (.slice A0_2 l0_2.length c0_2) := (blk_cell BK319.out 2).trans rfl
               have hfz44_0 := blk_frozen BK319.out 0
               have hfz44_1 := blk_frozen BK319.out 1
               have hfz44_2 := blk_frozen BK319.out 2
               have hcz45_0 : wc.cell? ⟨gb320, 0, none⟩ = some (.int .i64 a1_0) := (blk_cell BK320.out 0).trans rfl
               have hcz45_1 : wc.cell? ⟨gb320, 1, none⟩ = some (.slice A1_1 l1_1.length c1_1) := (blk_cell BK320.out 1).trans rfl
               have hcz45_2 : wc.cell? ⟨gb320, 2, none⟩ = some (.slice A1_2 l1_2.length c1_2) := (blk_cell BK320.out 2).trans rfl
               have hfz45_0 := blk_frozen BK320.out 0
               have hfz45_1 := blk_frozen BK320.out 1
               have hfz45_2 := blk_frozen BK320.out 2
               have p321 : 0 ≤ (x5_1 : Int) := of_decide_eq_true (by first | (with_reducible assumption) | assumption)
               have q321 : x5_1 < (l0_1.length : Int) := of_decide_eq_true (by first | (with_reducible assumption) | assumption)
               obtain ⟨ad321, e321, hx321_0⟩ := Kd.at_string HR0_1.out x5_1 p321 q321
               cases e321
               replace hx321_0 := (HB.out.cell (World.block_lt_of_cell? w _ hx321_0)).trans hx321_0
               replace p321 := eq_true p321
               replace q321 := eq_true q321
               have p322 : 0 ≤ (x5_1 : Int) := of_decide_eq_true (by first | (with_reducible assumption) | assumption)
               have q322 : x5_1 < (l1_1.length : Int) := of_decide_eq_true (by first | (with_reducible assumption) | assumption)
               obtain ⟨ad322, e322, hx322_0⟩ := Kd.at_string HR1_1.out x5_1 p322 q322
               cases e322
               replace hx322_0 := (HB.out.cell (World.block_lt_of_cell? w _ hx322_0)).trans hx322_0
               replace p322 := eq_true p322
               replace q322 := eq_true q322
               have p323 : 0 ≤ (x5_1 : Int) := of_decide_eq_true (by first | (with_reducible assumption) | assumption)
               have q323 : x5_1 < (l0_1.length : Int) := of_decide_eq_true (by first | (with_reducible assumption) | assumption)
               obtain ⟨ad323, e323, hx323_0⟩ := Kd.at_string HR0_1.out x5_1 p323 q323
               obtain rfl : ad321 = ad323 := (by injection e323)
               replace hx323_0 := (HB.out.cell (World.block_lt_of_cell? w _ hx323_0)).trans hx323_0
               replace p323 := eq_true p323
               replace q323 := eq_true q323
               have p324 : 0 ≤ (x5_1 : Int) := of_decide_eq_true (by first | (with_reducible assumption) | assumption)
               have q324 : x5_1 < (l1_1.length : Int) := of_decide_eq_true (by first | (with_reducible assumption) | assumption)
               obtain ⟨ad324, e324, hx324_0⟩ := Kd.at_string HR1_1.out x5_1 p324 q324
               obtain rfl : ad322 = ad324 := (by injection e324)
               replace hx324_0 := (HB.out.cell (World.block_lt_of_cell? w _ hx324_0)).trans hx324_0
               replace p324 := eq_true p324
               replace q324 := eq_true q324
               go_wp2
               repeat (go_quiet (fail); try go_wp2)
               go_ret
               exact ⟨by first | rfl | (simp <;> rfl) | (simp [*] <;> rfl), by repeat (first | (with_reducible first | exact HB.out | apply eA | apply eN | apply eD | refine eS ?_ GE319.out | refine eS ?_ GE320.out) | exact HB.out)⟩
              ·rw [if_neg c42] at H
               have c42b0 : (Op.bytesLess ((rdOf ByteArray.empty l1_1 x5_1).toList) ((rdOf ByteArray.empty l0_1 x5_1).toList)) = false := by simpa using c42
               clear c42
               have H' := aMk H
               clear H
               have hnb46 := NB319_320.out
               have hnc46 := NB320_319.out
               have hcz47_0 : wc.cell? ⟨gb319, 0, none⟩ = some (.int .i64 a0_0) := (blk_cell BK319.out 0).trans rfl
               have hcz47_1 : wc.cell? ⟨gb319, 1, none⟩ = some (.slice A0_1 l0_1.length c0_1) := (blk_cell BK319.out 1).trans rfl
               have hcz47_2 : wc.cell? ⟨gb319, 2, none⟩ = some (.slice A0_2 l0_2.length c0_2) := (blk_cell BK319.out 2).trans rfl
               have hfz47_0 := blk_frozen BK319.out 0
               have hfz47_1 := blk_frozen BK319.out 1
               have hfz47_2 := blk_frozen BK319.out 2
               have hcz48_0 : wc.cell? ⟨gb320, 0, none⟩ = some (.int .i64 a1_0) := (blk_cell BK320.out 0).trans rfl
               have hcz48_1 : wc.cell? ⟨gb320, 1, none⟩ = some (.slice A1_1 l1_1.length c1_1) := (blk_cell BK320.out 1).trans rfl
               have hcz48_2 : wc.cell? ⟨gb320, 2, none⟩ = some (.slice A1_2 l1_2.length c1_2) := (blk_cell BK320.out 2).trans rfl
               have hfz48_0 := blk_frozen BK320.out 0
               have hfz48_1 := blk_frozen BK320.out 1
               have hfz48_2 := blk_frozen BK320.out 2
               have p321 : 0 ≤ (x5_1 : Int) := of_decide_eq_true (by first | (with_reducible assumption) | assumption)
               have q321 : x5_1 < (l0_1.length : Int) := of_decide_eq_true (by first | (with_reducible assumption) | assumption)
               obtain ⟨ad321, e321, hx321_0⟩ := Kd.at_string HR0_1.out x5_1 p321 q321
               cases e321
               replace hx321_0 := (HB.out.cell (World.block_lt_of_cell? w _ hx321_0)).trans hx321_0
               replace p321 := eq_true p321
               replace q321 := eq_true q321
               have p322 : 0 ≤ (x5_1 : Int) := of_decide_eq_true (by first | (with_reducible assumption) | assumption)
               have q322 : x5_1 < (l1_1.length : Int) := of_decide_eq_true (by first | (with_reducible assumption) | assumption)
               obtain ⟨ad322, e322, hx322_0⟩ := Kd.at_string HR1_1.out x5_1 p322 q322
               cases e322
               replace hx322_0 := (HB.out.cell (World.block_lt_of_cell? w _ hx322_0)).trans hx322_0
               replace p322 := eq_true p322
               replace q322 := eq_true q322
               have p323 : 0 ≤ (x5_1 : Int) := of_decide_eq_true (by first | (with_reducible assumption) | assumption)
               have q323 : x5_1 < (l0_1.length : Int) := of_decide_eq_true (by first | (with_reducible assumption) | assumption)
               obtain ⟨ad323, e323, hx323_0⟩ := Kd.at_string HR0_1.out x5_1 p323 q323
               obtain rfl : ad321 = ad323 := (by injection e323)
               replace hx323_0 := (HB.out.cell (World.block_lt_of_cell? w _ hx323_0)).trans hx323_0
               replace p323 := eq_true p323
               replace q323 := eq_true q323
               have p324 : 0 ≤ (x5_1 : Int) := of_decide_eq_true (by first | (with_reducible assumption) | assumption)
               have q324 : x5_1 < (l1_1.length : Int) := of_decide_eq_true (by first | (with_reducible assumption) | assumption)
               obtain ⟨ad324, e324, hx324_0⟩ := Kd.at_string HR1_1.out x5_1 p324 q324
               obtain rfl : ad322 = ad324 := (by injection e324)
               replace hx324_0 := (HB.out.cell (World.block_lt_of_cell? w _ hx324_0)).trans hx324_0
               replace p324 := eq_true p324
               replace q324 := eq_true q324
               go_wp2
               repeat (go_quiet (fail); try go_wp2)
               go_roundg kj19
               case measure => have := HK1.out; have := HJ19.out; omega
               case rel => exact ⟨(wrap64 (x5_1 + 1)), (by first | rfl | (simp; done) | (simp [*]; done)), H', ⟨by have := HK1.out; have := HJ19.out; omega⟩, ⟨by (with_reducible repeat (first | apply bA | apply bN | apply bD)); exact BK319.out⟩, ⟨by (with_reducible repeat (first | apply bA | apply bN | apply bD)); exact BK320.out⟩, ⟨by repeat (first | (with_reducible first | exact HB.out | apply eA | apply eN | apply eD | refine eS ?_ GE319.out | refine eS ?_ GE320.out) | exact HB.out)⟩⟩
            ·rw [if_neg c37] at H
             exact absurd H (by simp)
           ·rw [if_neg c36] at H
            exact absurd H (by simp)
          ·rw [if_neg c35] at H
           exact absurd H (by simp)
       ·replace c27 := Bool.eq_false_iff.mpr c27
        subst c27
        have H1 : (gristmillref04_Compare.l1 kj19 0 a0_0 l0_1 l0_2 a1_0 l1_1 l1_2) = some r := by rw [if_neg (show ¬ (false = true) by decide)] at H; exact H
        clear H
        have H := H1
        clear H1
        have H' := aMk H
        clear H
        go_wp2
        repeat (go_quiet (fail); try go_wp2)
        go_loopg [6] kj19 (fun kq v6 w' => ∃ (x6_3 : Int), v6 = .int .i64 x6_3 ∧ Aside0 (gristmillref04_Compare.l1 kq x6_3 a0_0 l0_1 l0_2 a1_0 l1_1 l1_2 = some r) ∧ Aside0 (kq ≤ kj19) ∧ Aside0 (w'.heap[gb319]? = some (.cells #[.int .i64 a0_0, (.slice A0_1 l0_1.length c0_1), (.slice A0_2 l0_2.length c0_2)] 37 (0, 0))) ∧ Aside0 (w'.heap[gb320]? = some (.cells #[.int .i64 a1_0, (.slice A1_1 l1_1.length c1_1), (.slice A1_2 l1_2.length c1_2)] 37 (0, 0))) ∧ Aside0 (Below w.heap.size w w'))
        case atStart => exact ⟨(0), (by first | rfl | (simp; done) | (simp [*]; done)), H', ⟨Nat.le_refl _⟩, ⟨by (with_reducible repeat (first | apply bA | apply bN | apply bD)); exact BK319.out⟩, ⟨by (with_reducible repeat (first | apply bA | apply bN | apply bD)); exact BK320.out⟩, ⟨by repeat (first | (with_reducible first | exact HB.out | apply eA | apply eN | apply eD | refine eS ?_ GE319.out | refine eS ?_ GE320.out) | exact HB.out)⟩⟩
        case round =>
         clear H'
         try clear c1
         try clear c2
         try clear p2
         try clear c3
         try clear c3b0
         try clear p3
         try clear q3
         try clear hx3
         try clear c4
         try clear c6
         try clear p6
         try clear c9
         try clear c9b0
         try clear c12
         try clear c17
         try clear c21
         try clear c21b0
         try clear c22
         try clear c24
         try clear c27
         try clear c28
         try clear c28b0
         try clear c29
         try clear c31
         try clear c31b0
         try clear c32
         try clear p32
         try clear q32
         try clear hx32
         try clear c35
         try clear c35b0
         try clear c36
         try clear c36b0
         try clear c37
         try clear c37b0
         try clear c38
         try clear c38b0
         try clear c39
         try clear c42
         try clear c42b0
         try clear c43
         try clear c46
         try clear hcz13_0
         try clear hcz13_1
         try clear hcz13_2
         try clear hcz14_0
         try clear hcz14_1
         try clear hcz14_2
         try clear hcz18_0
         try clear hcz18_1
         try clear hcz18_2
         try clear hcz19_0
         try clear hcz19_1
         try clear hcz19_2
         try clear hcz23_0
         try clear hcz23_1
         try clear hcz23_2
         try clear hcz25_0
         try clear hcz25_1
         try clear hcz25_2
         try clear hcz26_0
         try clear hcz26_1
         try clear hcz26_2
         try clear hcz30_0
         try clear hcz30_1
         try clear hcz30_2
         try clear hcz33_0
         try clear hcz33_1
         try clear hcz33_2
         try clear hcz34_0
         try clear hcz34_1
         try clear hcz34_2
         try clear hcz40_0
         try clear hcz40_1
         try clear hcz40_2
         try clear hcz41_0
         try clear hcz41_1
         try clear hcz41_2
         try clear hcz44_0
         try clear hcz44_1
         try clear hcz44_2
         try clear hcz45_0
         try clear hcz45_1
         try clear hcz45_2
         try clear hcz47_0
         try clear hcz47_1
         try clear hcz47_2
         try clear hcz48_0
         try clear hcz48_1
         try clear hcz48_2
         try clear hcz7_0
         try clear hcz7_1
         try clear hcz7_2
         try clear hcz8_0
         try clear hcz8_1
         try clear hcz8_2
         try clear hfz13_0
         try clear hfz13_1
         try clear hfz13_2
         try clear hfz14_0
         try clear hfz14_1
         try clear hfz14_2
         try clear hfz18_0
         try clear hfz18_1
         try clear hfz18_2
         try clear hfz19_0
         try clear hfz19_1
         try clear hfz19_2
         try clear hfz23_0
         try clear hfz23_1
         try clear hfz23_2
         try clear hfz25_0
         try clear hfz25_1
         try clear hfz25_2
         try clear hfz26_0
         try clear hfz26_1
         try clear hfz26_2
         try clear hfz30_0
         try clear hfz30_1
         try clear hfz30_2
         try clear hfz33_0
         try clear hfz33_1
         try clear hfz33_2
         try clear hfz34_0
         try clear hfz34_1
         try clear hfz34_2
         try clear hfz40_0
         try clear hfz40_1
         try clear hfz40_2
         try clear hfz41_0
         try clear hfz41_1
         try clear hfz41_2
         try clear hfz44_0
         try clear hfz44_1
         try clear hfz44_2
         try clear hfz45_0
         try clear hfz45_1
         try clear hfz45_2
         try clear hfz47_0
         try clear hfz47_1
         try clear hfz47_2
         try clear hfz48_0
         try clear hfz48_1
         try clear hfz48_2
         try clear hfz7_0
         try clear hfz7_1
         try clear hfz7_2
         try clear hfz8_0
         try clear hfz8_1
         try clear hfz8_2
         try clear hx321_0
         try clear hx322_0
         try clear hx323_0
         try clear hx324_0
         try clear p2
         try clear p321
         try clear p322
         try clear p323
         try clear p324
         try clear q321
         try clear q322
         try clear q323
         try clear q324
         obtain ⟨x6_3, rfl, HA, HK3, BK319, BK320, HB⟩ := hrel
         cases gk with
         | zero => exact absurd HA.out (by simp [gristmillref04_Compare.l1])
         | succ k3 =>
          have H := HA.out
          clear HA
          simp only [gristmillref04_Compare.l1] at H
          have HC49 := aMk H
          clear H
          go_upto_region 17 with (fail)
          repeat (go_quiet (fail); go_upto_region 17 with (fail))
          go_cut [74] (fun v74 wc => ∃ (kq : Nat) (x74_48 : Bool), v74 = .bool x74_48 ∧ Aside0 (gristmillref04_Compare.j3 kq x6_3 x74_48 a0_0 l0_1 l0_2 a1_0 l1_1 l1_2 = some r) ∧ Aside0 (kq ≤ k3) ∧ Aside0 (wc.heap[gb319]? = some (.cells #[.int .i64 a0_0, (.slice A0_1 l0_1.length c0_1), (.slice A0_2 l0_2.length c0_2)] 37 (0, 0))) ∧ Aside0 (wc.heap[gb320]? = some (.cells #[.int .i64 a1_0, (.slice A1_1 l1_1.length c1_1), (.slice A1_2 l1_2.length c1_2)] 37 (0, 0))) ∧ Aside0 (Below w.heap.size w wc))
          case first =>
           have H := HC49.out
           clear HC49
           by_cases c50 : x6_3 < (l0_2.length : Int)
           ·rw [if_pos c50] at H
            have c50b0 : decide (x6_3 < (l0_2.length : Int)) = true := decide_eq_true c50
            clear c50
            (first | rw [c50b0] | (simp only [i64_w, i32_w]; rw [c50b0]) | skip)
            have H' := aMk H
            clear H
            have hnb51 := NB319_320.out
            have hnc51 := NB320_319.out
            have hcz52_0 : wr.cell? ⟨gb319, 0, none⟩ = some (.int .i64 a0_0) := (blk_cell BK319.out 0).trans rfl
            have hcz52_1 : wr.cell? ⟨gb319, 1, none⟩ = some (.slice A0_1 l0_1.length c0_1) := (blk_cell BK319.out 1).trans rfl
            have hcz52_2 : wr.cell? ⟨gb319, 2, none⟩ = some (.slice A0_2 l0_2.length c0_2) := (blk_cell BK319.out 2).trans rfl
            have hfz52_0 := blk_frozen BK319.out 0
            have hfz52_1 := blk_frozen BK319.out 1
            have hfz52_2 := blk_frozen BK319.out 2
            go_wp2
            repeat (go_quiet (fail); try go_wp2)
            go_meet
            case rel => exact ⟨_, (true), (by first | rfl | (simp; done) | (simp [*]; done)), H', ⟨by have := HK1.out; have := HJ19.out; have := HK3.out; first | omega | exact Nat.le_refl _⟩, ⟨by (with_reducible repeat (first | apply bA | apply bN | apply bD)); exact BK319.out⟩, ⟨by (with_reducible repeat (first | apply bA | apply bN | apply bD)); exact BK320.out⟩, ⟨by repeat (first | (with_reducible first | exact HB.out | apply eA | apply eN | apply eD | refine eS ?_ GE319.out | refine eS ?_ GE320.out) | exact HB.out)⟩⟩
           ·rw [if_neg c50] at H
            have c50b0 : decide (x6_3 < (l0_2.length : Int)) = false := decide_eq_false c50
            clear c50
            (first | rw [c50b0] | (simp only [i64_w, i32_w]; rw [c50b0]) | skip)
            have H' := aMk H
            clear H
            have hnb53 := NB319_320.out
            have hnc53 := NB320_319.out
            have hcz54_0 : wr.cell? ⟨gb319, 0, none⟩ = some (.int .i64 a0_0) := (blk_cell BK319.out 0).trans rfl
            have hcz54_1 : wr.cell? ⟨gb319, 1, none⟩ = some (.slice A0_1 l0_1.length c0_1) := (blk_cell BK319.out 1).trans rfl
            have hcz54_2 : wr.cell? ⟨gb319, 2, none⟩ = some (.slice A0_2 l0_2.length c0_2) := (blk_cell BK319.out 2).trans rfl
            have hfz54_0 := blk_frozen BK319.out 0
            have hfz54_1 := blk_frozen BK319.out 1
            have hfz54_2 := blk_frozen BK319.out 2
            have hcz55_0 : wr.cell? ⟨gb320, 0, none⟩ = some (.int .i64 a1_0) := (blk_cell BK320.out 0).trans rfl
            have hcz55_1 : wr.cell? ⟨gb320, 1, none⟩ = some (.slice A1_1 l1_1.length c1_1) := (blk_cell BK320.out 1).trans rfl
            have hcz55_2 : wr.cell? ⟨gb320, 2, none⟩ = some (.slice A1_2 l1_2.length c1_2) := (blk_cell BK320.out 2).trans rfl
            have hfz55_0 := blk_frozen BK320.out 0
            have hfz55_1 := blk_frozen BK320.out 1
            have hfz55_2 := blk_frozen BK320.out 2
            go_wp2
            repeat (go_quiet (fail); try go_wp2)
            go_meet
            case rel => exact ⟨_, (decide (x6_3 < (l1_2.length : Int))), (by first | rfl | (simp; done) | (simp [*]; done)), H', ⟨by have := HK1.out; have := HJ19.out; have := HK3.out; first | omega | exact Nat.le_refl _⟩, ⟨by (with_reducible repeat (first | apply bA | apply bN | apply bD)); exact BK319.out⟩, ⟨by (with_reducible repeat (first | apply bA | apply bN | apply bD)); exact BK320.out⟩, ⟨by repeat (first | (with_reducible first | exact HB.out | apply eA | apply eN | apply eD | refine eS ?_ GE319.out | refine eS ?_ GE320.out) | exact HB.out)⟩⟩
          case rest =>
           clear HC49
           try clear c1
           try clear c2
           try clear p2
           try clear c3
           try clear c3b0
           try clear p3
           try clear q3
           try clear hx3
           try clear c4
           try clear c5
           try clear c6
           try clear p6
           try clear c9
           try clear c9b0
           try clear c12
           try clear c17
           try clear c21
           try clear c21b0
           try clear c22
           try clear c24
           try clear c27
           try clear c28
           try clear c28b0
           try clear c29
           try clear c31
           try clear c31b0
           try clear c32
           try clear p32
           try clear q32
           try clear hx32
           try clear c35
           try clear c35b0
           try clear c36
           try clear c36b0
           try clear c37
           try clear c37b0
           try clear c38
           try clear c38b0
           try clear c39
           try clear c42
           try clear c42b0
           try clear c43
           try clear c46
           try clear c50
           try clear c50b0
           try clear c51
           try clear c53
           try clear hcz13_0
           try clear hcz13_1
           try clear hcz13_2
           try clear hcz14_0
           try clear hcz14_1
           try clear hcz14_2
           try clear hcz18_0
           try clear hcz18_1
           try clear hcz18_2
           try clear hcz19_0
           try clear hcz19_1
           try clear hcz19_2
           try clear hcz23_0
           try clear hcz23_1
           try clear hcz23_2
           try clear hcz25_0
           try clear hcz25_1
           try clear hcz25_2
           try clear hcz26_0
           try clear hcz26_1
           try clear hcz26_2
           try clear hcz30_0
           try clear hcz30_1
           try clear hcz30_2
           try clear hcz33_0
           try clear hcz33_1
           try clear hcz33_2
           try clear hcz34_0
           try clear hcz34_1
           try clear hcz34_2
           try clear hcz40_0
           try clear hcz40_1
           try clear hcz40_2
           try clear hcz41_0
           try clear hcz41_1
           try clear hcz41_2
           try clear hcz44_0
           try clear hcz44_1
           try clear hcz44_2
           try clear hcz45_0
           try clear hcz45_1
           try clear hcz45_2
           try clear hcz47_0
           try clear hcz47_1
           try clear hcz47_2
           try clear hcz48_0
           try clear hcz48_1
           try clear hcz48_2
           try clear hcz52_0
           try clear hcz52_1
           try clear hcz52_2
           try clear hcz54_0
           try clear hcz54_1
           try clear hcz54_2
           try clear hcz55_0
           try clear hcz55_1
           try clear hcz55_2
           try clear hcz7_0
           try clear hcz7_1
           try clear hcz7_2
           try clear hcz8_0
           try clear hcz8_1
           try clear hcz8_2
           try clear hfz13_0
           try clear hfz13_1
           try clear hfz13_2
           try clear hfz14_0
           try clear hfz14_1
           try clear hfz14_2
           try clear hfz18_0
           try clear hfz18_1
           try clear hfz18_2
           try clear hfz19_0
           try clear hfz19_1
           try clear hfz19_2
           try clear hfz23_0
           try clear hfz23_1
           try clear hfz23_2
           try clear hfz25_0
           try clear hfz25_1
           try clear hfz25_2
           try clear hfz26_0
           try clear hfz26_1
           try clear hfz26_2
           try clear hfz30_0
           try clear hfz30_1
           try clear hfz30_2
           try clear hfz33_0
           try clear hfz33_1
           try clear hfz33_2
           try clear hfz34_0
           try clear hfz34_1
           try clear hfz34_2
           try clear hfz40_0
           try clear hfz40_1
           try clear hfz40_2
           try clear hfz41_0
           try clear hfz41_1
           try clear hfz41_2
           try clear hfz44_0
           try clear hfz44_1
           try clear hfz44_2
           try clear hfz45_0
           try clear hfz45_1
           try clear hfz45_2
           try clear hfz47_0
           try clear hfz47_1
           try clear hfz47_2
           try clear hfz48_0
           try clear hfz48_1
           try clear hfz48_2
           try clear hfz52_0
           try clear hfz52_1
           try clear hfz52_2
           try clear hfz54_0
           try clear hfz54_1
           try clear hfz54_2
           try clear hfz55_0
           try clear hfz55_1
           try clear hfz55_2
           try clear hfz7_0
           try clear hfz7_1
           try clear hfz7_2
           try clear hfz8_0
           try clear hfz8_1
           try clear hfz8_2
           try clear hx321_0
           try clear hx322_0
           try clear hx323_0
           try clear hx324_0
           try clear p2
           try clear p3
           try clear p32
           try clear p321
           try clear p322
           try clear p323
           try clear p324
           try clear p6
           try clear q3
           try clear q32
           try clear q321
           try clear q322
           try clear q323
           try clear q324
           obtain ⟨kq, x74_48, rfl, HA, HJ48, BK319, BK320, HB⟩ := hcut
           cases kq with
           | zero => exact absurd HA.out (by simp [gristmillref04_Compare.j3])
           | succ kj48 =>
            have H := HA.out
            clear HA
            simp only [gristmillref04_Compare.j3] at H
            by_cases c56 : x74_48 = true
            ·subst c56
             have H1 : (if x6_3 ≥ (l0_2.length : Int) then (some (-1)) else (if x6_3 ≥ (l1_2.length : Int) then (some 1) else (if 0 ≤ x6_3 then (if x6_3 < (l0_2.length : Int) then (if x6_3 < (l1_2.length : Int) then (if (rd l0_2 x6_3) < (rd l1_2 x6_3) then (some (-1)) else (if (rd l0_2 x6_3) > (rd l1_2 x6_3) then (some 1) else (gristmillref04_Compare.l1 kj48 (wrap64 (x6_3 + 1)) a0_0 l0_1 l0_2 a1_0 l1_1 l1_2))) else (none)) else (none)) else (none)))) = some r := by rw [if_pos rfl] at H; exact H
             clear H
             have H := H1
             clear H1
             by_cases c57 : x6_3 ≥ (l0_2.length : Int)
             ·rw [if_pos c57] at H
              have c57b0 : decide ((l0_2.length : Int) ≤ x6_3) = true := decide_eq_true c57
              clear c57
              obtain rfl := Option.some.inj H
              have hnb58 := NB319_320.out
              have hnc58 := NB320_319.out
              have hcz59_0 : wc.cell? ⟨gb319, 0, none⟩ = some (.int .i64 a0_0) := (blk_cell BK319.out 0).trans rfl
              have hcz59_1 : wc.cell? ⟨gb319, 1, none⟩ = some (.slice A0_1 l0_1.length c0_1) := (blk_cell BK319.out 1).trans rfl
              have hcz59_2 : wc.cell? ⟨gb319, 2, none⟩ = some (.slice A0_2 l0_2.length c0_2) := (blk_cell BK319.out 2).trans rfl
              have hfz59_0 := blk_frozen BK319.out 0
              have hfz59_1 := blk_frozen BK319.out 1
              have hfz59_2 := blk_frozen BK319.out 2
              go_wp2
              repeat (go_quiet (fail); try go_wp2)
              go_ret
              exact ⟨by first | rfl | (simp <;> rfl) | (simp [*] <;> rfl), by repeat (first | (with_reducible first | exact HB.out | apply eA | apply eN | apply eD | refine eS ?_ GE319.out | refine eS ?_ GE320.out) | exact HB.out)⟩
             ·rw [if_neg c57] at H
              have c57b0 : decide ((l0_2.length : Int) ≤ x6_3) = false := decide_eq_false c57
              clear c57
              by_cases c60 : x6_3 ≥ (l1_2.length : Int)
              ·rw [if_pos c60] at H
               have c60b0 : decide ((l1_2.length : Int) ≤ x6_3) = true := decide_eq_true c60
               clear c60
               obtain rfl := Option.some.inj H
               have hnb61 := NB319_320.out
               have hnc61 := NB320_319.out
               have hcz62_0 : wc.cell? ⟨gb319, 0, none⟩ = some (.int .i64 a0_0) := (blk_cell BK319.out 0).trans rfl
               have hcz62_1 : wc.cell? ⟨gb319, 1, none⟩ = some (.slice A0_1 l0_1.length c0_1) := (blk_cell BK319.out 1).trans rfl
               have hcz62_2 : wc.cell? ⟨gb319, 2, none⟩ = some (.slice A0_2 l0_2.length c0_2) := (blk_cell BK319.out 2).trans rfl
               have hfz62_0 := blk_frozen BK319.out 0
               have hfz62_1 := blk_frozen BK319.out 1
               have hfz62_2 := blk_frozen BK319.out 2
               have hcz63_0 : wc.cell? ⟨gb320, 0, none⟩ = some (.int .i64 a1_0) := (blk_cell BK320.out 0).trans rfl
               have hcz63_1 : wc.cell? ⟨gb320, 1, none⟩ = some (.slice A1_1 l1_1.length c1_1) := (blk_cell BK320.out 1).trans rfl
               have hcz63_2 : wc.cell? ⟨gb320, 2, none⟩ = some (.slice A1_2 l1_2.length c1_2) := (blk_cell BK320.out 2).trans rfl
               have hfz63_0 := blk_frozen BK320.out 0
               have hfz63_1 := blk_frozen BK320.out 1
               have hfz63_2 := blk_frozen BK320.out 2
               go_wp2
               repeat (go_quiet (fail); try go_wp2)
               go_ret
               exact ⟨by first | rfl | (simp <;> rfl) | (simp [*] <;> rfl), by repeat (first | (with_reducible first | exact HB.out | apply eA | apply eN | apply eD | refine eS ?_ GE319.out | refine eS ?_ GE320.out) | exact HB.out)⟩
              ·rw [if_neg c60] at H
               have c60b0 : decide ((l1_2.length : Int) ≤ x6_3) = false := decide_eq_false c60
               clear c60
               by_cases c64 : 0 ≤ x6_3
               ·rw [if_pos c64] at H
                have c64b0 : decide (0 ≤ x6_3) = true := decide_eq_true c64
                clear c64
                by_cases c65 : x6_3 < (l0_2.length : Int)
                ·rw [if_pos c65] at H
                 have c65b0 : decide (x6_3 < (l0_2.length : Int)) = true := decide_eq_true c65
                 clear c65
                 by_cases c66 : x6_3 < (l1_2.length : Int)
                 ·rw [if_pos c66] at H
                  have c66b0 : decide (x6_3 < (l1_2.length : Int)) = true := decide_eq_true c66
                  clear c66
                  by_cases c67 : (rd l0_2 x6_3) < (rd l1_2 x6_3)
                  ·rw [if_pos c67] at H
                   have c67b0 : decide ((rd l0_2 x6_3) < (rd l1_2 x6_3)) = true := decide_eq_true c67
                   clear c67
                   obtain rfl := Option.some.inj H
                   have hnb68 := NB319_320.out
                   have hnc68 := NB320_319.out
                   have hcz69_0 : wc.cell? ⟨gb319, 0, none⟩ = some (.int .i64 a0_0) := (blk_cell BK319.out 0).trans rfl
                   have hcz69_1 : wc.cell? ⟨gb319, 1, none⟩ = some (.slice A0_1 l0_1.length c0_1) := (blk_cell BK319.out 1).trans rfl
                   have hcz69_2 : wc.cell? ⟨gb319, 2, none⟩ = some (.slice A0_2 l0_2.length c0_2) := (blk_cell BK319.out 2).trans rfl
                   have hfz69_0 := blk_frozen BK319.out 0
                   have hfz69_1 := blk_frozen BK319.out 1
                   have hfz69_2 := blk_frozen BK319.out 2
                   have hcz70_0 : wc.cell? ⟨gb320, 0, none⟩ = some (.int .i64 a1_0) := (blk_cell BK320.out 0).trans rfl
                   have hcz70_1 : wc.cell? ⟨gb320, 1, none⟩ = some (.slice A1_1 l1_1.length c1_1) := (blk_cell BK320.out 1).trans rfl
                   have hcz70_2 : wc.cell? ⟨gb320, 2, none⟩ = some (.slice A1_2 l1_2.length c1_2) := (blk_cell BK320.out 2).trans rfl
                   have hfz70_0 := blk_frozen BK320.out 0
                   have hfz70_1 := blk_frozen BK320.out 1
                   have hfz70_2 := blk_frozen BK320.out 2
                   have p325 : 0 ≤ (x6_3 : Int) := of_decide_eq_true (by first | (with_reducible assumption) | assumption)
                   have q325 : x6_3 < (l0_2.length : Int) := of_decide_eq_true (by first | (with_reducible assumption) | assumption)
                   obtain ⟨ad325, e325, hx325_0⟩ := Kd.at_int HR0_2.out x6_3 p325 q325
                   cases e325
                   replace hx325_0 := (HB.out.cell (World.block_lt_of_cell? w _ hx325_0)).trans hx325_0
                   replace p325 := eq_true p325
                   replace q325 := eq_true q325
                   have p326 : 0 ≤ (x6_3 : Int) := of_decide_eq_true (by first | (with_reducible assumption) | assumption)
                   have q326 : x6_3 < (l1_2.length : Int) := of_decide_eq_true (by first | (with_reducible assumption) | assumption)
                   obtain ⟨ad326, e326, hx326_0⟩ := Kd.at_int HR1_2.out x6_3 p326 q326
                   cases e326
                   replace hx326_0 := (HB.out.cell (World.block_lt_of_cell? w _ hx326_0)).trans hx326_0
                   replace p326 := eq_true p326
                   replace q326 := eq_true q326
                   go_wp2
                   repeat (go_quiet (fail); try go_wp2)
                   go_ret
                   exact ⟨by first | rfl | (simp <;> rfl) | (simp [*] <;> rfl), by repeat (first | (with_reducible first | exact HB.out | apply eA | apply eN | apply eD | refine eS ?_ GE319.out | refine eS ?_ GE320.out) | exact HB.out)⟩
                  ·rw [if_neg c67] at H
                   have c67b0 : decide ((rd l0_2 x6_3) < (rd l1_2 x6_3)) = false := decide_eq_false c67
                   clear c67
                   by_cases c71 : (rd l0_2 x6_3) > (rd l1_2 x6_3)
                   ·rw [if_pos c71] at H
                    have c71b0 : decide ((rd l1_2 x6_3) < (rd l0_2 x6_3)) = true := decide_eq_true c71
                    clear c71
                    obtain rfl := Option.some.inj H
                    have hnb72 := NB319_320.out
                    have hnc72 := NB320_319.out
                    have hcz73_0 : wc.cell? ⟨gb319, 0, none⟩ = some (.int .i64 a0_0) := (blk_cell BK319.out 0).trans rfl
                    have hcz73_1 : wc.cell? ⟨gb319, 1, none⟩ = some (.slice A0_1 l0_1.length c0_1) := (blk_cell BK319.out 1).trans rfl
                    have hcz73_2 : wc.cell? ⟨gb319, 2, none⟩ = some (.slice A0_2 l0_2.length c0_2) := (blk_cell BK319.out 2).trans rfl
                    have hfz73_0 := blk_frozen BK319.out 0
                    have hfz73_1 := blk_frozen BK319.out 1
                    have hfz73_2 := blk_frozen BK319.out 2
                    have hcz74_0 : wc.cell? ⟨gb320, 0, none⟩ = some (.int .i64 a1_0) := (blk_cell BK320.out 0).trans rfl
                    have hcz74_1 : wc.cell? ⟨gb320, 1, none⟩ = some (.slice A1_1 l1_1.length c1_1) := (blk_cell BK320.out 1).trans rfl
                    have hcz74_2 : wc.cell? ⟨gb320, 2, none⟩ = some (.slice A1_2 l1_2.length c1_2) := (blk_cell BK320.out 2).trans rfl
                    have hfz74_0 := blk_frozen BK320.out 0
                    have hfz74_1 := blk_frozen BK320.out 1
                    have hfz74_2 := blk_frozen BK320.out 2
                    have p325 : 0 ≤ (x6_3 : Int) := of_decide_eq_true (by first | (with_reducible assumption) | assumption)
                    have q325 : x6_3 < (l0_2.length : Int) := of_decide_eq_true (by first | (with_reducible assumption) | assumption)
                    obtain ⟨ad325, e325, hx325_0⟩ := Kd.at_int HR0_2.out x6_3 p325 q325
                    cases e325
                    replace hx325_0 := (HB.out.cell (World.block_lt_of_cell? w _ hx325_0)).trans hx325_0
                    replace p325 := eq_true p325
                    replace q325 := eq_true q325
                    have p326 : 0 ≤ (x6_3 : Int) := of_decide_eq_true (by first | (with_reducible assumption) | assumption)
                    have q326 : x6_3 < (l1_2.length : Int) := of_decide_eq_true (by first | (with_reducible assumption) | assumption)
                    obtain ⟨ad326, e326, hx326_0⟩ := Kd.at_int HR1_2.out x6_3 p326 q326
                    cases e326
                    replace hx326_0 := (HB.out.cell (World.block_lt_of_cell? w _ hx326_0)).trans hx326_0
                    replace p326 := eq_true p326
                    replace q326 := eq_true q326
                    have p327 : 0 ≤ (x6_3 : Int) := of_decide_eq_true (by first | (with_reducible assumption) | assumption)
                    have q327 : x6_3 < (l0_2.length : Int) := of_decide_eq_true (by first | (with_reducible assumption) | assumption)
                    obtain ⟨ad327, e327, hx327_0⟩ := Kd.at_int HR0_2.out x6_3 p327 q327
                    obtain rfl : ad325 = ad327 := (by injection e327)
                    replace hx327_0 := (HB.out.cell (World.block_lt_of_cell? w _ hx327_0)).trans hx327_0
                    replace p327 := eq_true p327
                    replace q327 := eq_true q327
                    have p328 : 0 ≤ (x6_3 : Int) := of_decide_eq_true (by first | (with_reducible assumption) | assumption)
                    have q328 : x6_3 < (l1_2.length : Int) := of_decide_eq_true (by first | (with_reducible assumption) | assumption)
                    obtain ⟨ad328, e328, hx328_0⟩ := Kd.at_int HR1_2.out x6_3 p328 q328
                    obtain rfl : ad326 = ad328 := (by injection e328)
                    replace hx328_0 := (HB.out.cell (World.block_lt_of_cell? w _ hx328_0)).trans hx328_0
                    replace p328 := eq_true p328
                    replace q328 := eq_true q328
                    go_wp2
                    repeat (go_quiet (fail); try go_wp2)
                    go_ret
                    exact ⟨by first | rfl | (simp <;> rfl) | (simp [*] <;> rfl), by repeat (first | (with_reducible first | exact HB.out | apply eA | apply eN | apply eD | refine eS ?_ GE319.out | refine eS ?_ GE320.out) | exact HB.out)⟩
                   ·rw [if_neg c71] at H
                    have c71b0 : decide ((rd l1_2 x6_3) < (rd l0_2 x6_3)) = false := decide_eq_false c71
                    clear c71
                    have H' := aMk H
                    clear H
                    have hnb75 := NB319_320.out
                    have hnc75 := NB320_319.out
                    have hcz76_0 : wc.cell? ⟨gb319, 0, none⟩ = some (.int .i64 a0_0) := (blk_cell BK319.out 0).trans rfl
                    have hcz76_1 : wc.cell? ⟨gb319, 1, none⟩ = some (.slice A0_1 l0_1.length c0_1) := (blk_cell BK319.out 1).trans rfl
                    have hcz76_2 : wc.cell? ⟨gb319, 2, none⟩ = some (.slice A0_2 l0_2.length c0_2) := (blk_cell BK319.out 2).trans rfl
                    have hfz76_0 := blk_frozen BK319.out 0
                    have hfz76_1 := blk_frozen BK319.out 1
                    have hfz76_2 := blk_frozen BK319.out 2
                    have hcz77_0 : wc.cell? ⟨gb320, 0, none⟩ = some (.int .i64 a1_0) := (blk_cell BK320.out 0).trans rfl
                    have hcz77_1 : wc.cell? ⟨gb320, 1, none⟩ = some (.slice A1_1 l1_1.length c1_1) := (blk_cell BK320.out 1).trans rfl
                    have hcz77_2 : wc.cell? ⟨gb320, 2, none⟩ = some (.slice A1_2 l1_2.length c1_2) := (blk_cell BK320.out 2).trans rfl
                    have hfz77_0 := blk_frozen BK320.out 0
                    have hfz77_1 := blk_frozen BK320.out 1
                    have hfz77_2 := blk_frozen BK320.out 2
                    have p325 : 0 ≤ (x6_3 : Int) := of_decide_eq_true (by first | (with_reducible assumption) | assumption)
                    have q325 : x6_3 < (l0_2.length : Int) := of_decide_eq_true (by first | (with_reducible assumption) | assumption)
                    obtain ⟨ad325, e325, hx325_0⟩ := Kd.at_int HR0_2.out x6_3 p325 q325
                    cases e325
                    replace hx325_0 := (HB.out.cell (World.block_lt_of_cell? w _ hx325_0)).trans hx325_0
                    replace p325 := eq_true p325
                    replace q325 := eq_true q325
                    have p326 : 0 ≤ (x6_3 : Int) := of_decide_eq_true (by first | (with_reducible assumption) | assumption)
                    have q326 : x6_3 < (l1_2.length : Int) := of_decide_eq_true (by first | (with_reducible assumption) | assumption)
                    obtain ⟨ad326, e326, hx326_0⟩ := Kd.at_int HR1_2.out x6_3 p326 q326
                    cases e326
                    replace hx326_0 := (HB.out.cell (World.block_lt_of_cell? w _ hx326_0)).trans hx326_0
                    replace p326 := eq_true p326
                    replace q326 := eq_true q326
                    have p327 : 0 ≤ (x6_3 : Int) := of_decide_eq_true (by first | (with_reducible assumption) | assumption)
                    have q327 : x6_3 < (l0_2.length : Int) := of_decide_eq_true (by first | (with_reducible assumption) | assumption)
                    obtain ⟨ad327, e327, hx327_0⟩ := Kd.at_int HR0_2.out x6_3 p327 q327
                    obtain rfl : ad325 = ad327 := (by injection e327)
                    replace hx327_0 := (HB.out.cell (World.block_lt_of_cell? w _ hx327_0)).trans hx327_0
                    replace p327 := eq_true p327
                    replace q327 := eq_true q327
                    have p328 : 0 ≤ (x6_3 : Int) := of_decide_eq_true (by first | (with_reducible assumption) | assumption)
                    have q328 : x6_3 < (l1_2.length : Int) := of_decide_eq_true (by first | (with_reducible assumption) | assumption)
                    obtain ⟨ad328, e328, hx328_0⟩ := Kd.at_int HR1_2.out x6_3 p328 q328
                    obtain rfl : ad326 = ad328 := (by injection e328)
                    replace hx328_0 := (HB.out.cell (World.block_lt_of_cell? w _ hx328_0)).trans hx328_0
                    replace p328 := eq_true p328
                    replace q328 := eq_true q328
                    go_wp2
                    repeat (go_quiet (fail); try go_wp2)
                    go_roundg kj48
                    case measure => have := HK1.out; have := HJ19.out; have := HK3.out; have := HJ48.out; omega
                    case rel => exact ⟨(wrap64 (x6_3 + 1)), (by first | rfl | (simp; done) | (simp [*]; done)), H', ⟨by have := HK1.out; have := HJ19.out; have := HK3.out; have := HJ48.out; omega⟩, ⟨by (with_reducible repeat (first | apply bA | apply bN | apply bD)); exact BK319.out⟩, ⟨by (with_reducible repeat (first | apply bA | apply bN | apply bD)); exact BK320.out⟩, ⟨by repeat (first | (with_reducible first | exact HB.out | apply eA | apply eN | apply eD | refine eS ?_ GE319.out | refine eS ?_ GE320.out) | exact HB.out)⟩⟩
                 ·rw [if_neg c66] at H
                  exact absurd H (by simp)
                ·rw [if_neg c65] at H
                 exact absurd H (by simp)
               ·rw [if_neg c64] at H
                exact absurd H (by simp)
            ·replace c56 := Bool.eq_false_iff.mpr c56
             subst c56
             have H1 : (some 0) = some r := by rw [if_neg (show ¬ (false = true) by decide)] at H; exact H
             clear H
             have H := H1
             clear H1
             obtain rfl := Option.some.inj H
             go_wp2
             repeat (go_quiet (fail); try go_wp2)
             go_ret
             exact ⟨by first | rfl | (simp <;> rfl) | (simp [*] <;> rfl), by repeat (first | (with_reducible first | exact HB.out | apply eA | apply eN | apply eD | refine eS ?_ GE319.out | refine eS ?_ GE320.out) | exact HB.out)⟩

end Go.Proofs.Ytkjjdpnpcjfgeaa.QAgg
