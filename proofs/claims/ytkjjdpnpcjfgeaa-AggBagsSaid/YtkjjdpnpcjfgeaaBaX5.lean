/- Pruned for this claim by a program. -/
import Derived.Test.YtkjjdpnpcjfgeaaBaX0
import Derived.Test.YtkjjdpnpcjfgeaaBaShort
import Derived.Test.YtkjjdpnpcjfgeaaBaHand1
import Derived.Test.YtkjjdpnpcjfgeaaBaX1
namespace Go.Proofs.Ytkjjdpnpcjfgeaa.QAgg
open Go.RowKit Go.Proofs.YtkjjdpnpcjfgeaaW.PrintWords Go.Proofs.YtkjjdpnpcjfgeaaW.PrintLast Go.Proofs.YtkjjdpnpcjfgeaaW.PrintMore Go.Proofs.Ytkjjdpnpcjfgeaa.Short
attribute [local go_sem] max2_int min2_int max_two min_two max_three min_three max_four min_four   -- for this text's walks alone
set_option linter.unusedVariables false
set_option linter.unusedSimpArgs false

def gristmilllaw06_of.l0 : Nat → List (S39) → Int → Int → Int → Int → Int → List ByteArray → Option (Int × Int × List ByteArray)
 | 0, _, _, _, _, _, _, _ => none
 | k + 1, x1, x6, x203000, x203001, x210000, x210001, x210002 => if x6 < (x1.length : Int) then (if 0 ≤ x6 then ((agg_Add.f x203000 x203001 x210000 x210001 x210002 ((rd_T39 x1 x6).f0.f0) ((rd_T39 x1 x6).f0.f1) ((rd_T39 x1 x6).f0.f2) ((rd_T39 x1 x6).f1)).bind fun bt212 => (gristmilllaw06_of.l0 k x1 (wrap64 (x6 + 1)) x203000 x203001 bt212.1 bt212.2.1 bt212.2.2)) else (none)) else (some (x210000, x210001, x210002))
def gristmilllaw06_of.f (k : Nat) (a0_0 : Int) (a0_1 : Int) (l1 : List (S39)) : Option (Int × Int × List ByteArray) := (agg_Start.f a0_0 a0_1).bind fun bt204 => (gristmilllaw06_of.l0 k l1 0 a0_0 a0_1 bt204.1 bt204.2.1 bt204.2.2)
def gristmilllaw06_of.T5 : Bool × List (List Nat × List Nat) := (true, [([], []), ([], []), ([], []), ([], []), ([2, 3], [2, 3]), ([4], [4]), ([5], [5]), ([], []), ([], []), ([7, 8], [7, 8]), ([9], [9]), ([10], [10]), ([0, 1, 6, 11], [0, 1, 6, 11]), ([12, 12, 0, 1, 2, 3, 4, 5, 6, 7, 8, 9, 10, 11, 12], [12])])
def gristmilllaw06_of.B5 : List Nat := [0, 0, 0, 0, 12, 28, 60, 0, 0, 384, 896, 1920, 4095, 8191]
theorem gristmilllaw06_of.tab5 : rtab .any (opsOf Try.f8 5) = gristmilllaw06_of.T5 := by kernel_rfl
theorem gristmilllaw06_of.bits5 : waitsOk gristmilllaw06_of.T5.2 gristmilllaw06_of.B5 = true := by kernel_rfl
set_option maxHeartbeats 8000000 in
set_option maxRecDepth 100000 in
theorem gristmilllaw06_of.calls (k : Nat) (a0_0 : Int) (a0_1 : Int) (A1 : Option Addr) (c1 : Nat) (l1 : List (S39)) (r1 : Int) (r2 : Int) (r3 : List ByteArray) (w : World) (hr1 : Kd.C k39 w A1 l1.length l1) (hc1 : l1.length ≤ c1) (h : gristmilllaw06_of.f k a0_0 a0_1 l1 = some (r1, r2, r3)) :
  Calls Try.prog 8 #[.agg #[.int .i64 a0_0, .int .i64 a0_1], .slice A1 l1.length c1] w fun e w' => ∃ v2_ : Value, e = .returned (.agg #[.int .u64 r1, .int .i64 r2, v2_]) ∧ Kd.R Kd.string 9 w' w.heap.size (fun _ => True) v2_ r3 ∧ Below w.heap.size w w' := by
 have hu23 := Try.underlying23
 have hu33 := Try.underlying33
 have hu37 := Try.underlying37
 have HR1 := aMk hr1
 have HC1 := aMk hc1
 clear hr1 hc1
 have HB := aMk (Below.refl w.heap.size w)
 have H : ((agg_Start.f a0_0 a0_1).bind fun bt204 => (gristmilllaw06_of.l0 k l1 0 a0_0 a0_1 bt204.1 bt204.2.1 bt204.2.2)) = some (r1, r2, r3) := h
 clear h
 replace H := Option.bind_eq_some_iff.mp H
 obtain ⟨⟨t204, t205, t206⟩, A30, H⟩ := H
 replace H : (gristmilllaw06_of.l0 k l1 0 a0_0 a0_1 t204 t205 t206) = some (r1, r2, r3) := H
 have A3 := aMk A30
 clear A30
 have H' := aMk H
 clear H
 go_enter Try.func8, Try.ntmps8
 go_wp2_with (first | ((with_reducible refine gate_dst (N := 2) rfl ?_); refine box_event ?hg (N := 2) ?hd (cs := #[.int .i64 a0_0, .int .i64 a0_1]) (t := 23) ?hr ?_; (case hd => rfl); (case hg => rfl); (case hr => first | (go_simp; done) | (go_simp; rfl)); intro gb202 hg w4 hbox hb; have BK202 := aMk (hbox); have GW202 := aMk ((by rw [hg]; exact (below_size (by repeat (first | (with_reducible first | exact HB.out | apply eA | apply eN | apply eD) | exact HB.out))) : w.heap.size ≤ gb202)); have GE202 := aMk ((by rw [hg]; exact (below_size (by repeat (first | (with_reducible first | exact HB.out | apply eA | apply eN | apply eD) | exact HB.out))) : w.heap.size ≤ gb202)); replace HB := aMk (below_step (by repeat (first | (with_reducible first | exact HB.out | apply eA | apply eN | apply eD) | exact HB.out)) hb); clear hb hbox hg) | ((with_reducible refine gate_dst (N := 4) rfl ?_); refine box_event ?hg (N := 4) ?hd (cs := #[.int .u64 0, .int .i64 0, .slice none 0 0]) (t := 33) ?hr ?_; (case hd => rfl); (case hg => rfl); (case hr => first | (go_simp; done) | (go_simp; rfl)); intro gb203 hg w5 hbox hb; have BK203 := aMk (hbox); have GW203 := aMk ((by rw [hg]; exact (below_size (by repeat (first | (with_reducible first | exact HB.out | apply eA | apply eN | apply eD | refine eS ?_ GE202.out) | exact HB.out))) : w.heap.size ≤ gb203)); have GE203 := aMk ((by rw [hg]; exact (below_size (by repeat (first | (with_reducible first | exact HB.out | apply eA | apply eN | apply eD | refine eS ?_ GE202.out) | exact HB.out))) : w.heap.size ≤ gb203)); have NB202_203 := aMk ((by rw [hg]; exact Nat.ne_of_lt (blk_lt (g := gb202) (o := .cells #[.int .i64 a0_0, .int .i64 a0_1] 23 (0, 0)) (by (with_reducible repeat (first | apply bA | apply bN | apply bD)); exact BK202.out)) : gb202 ≠ gb203)); have NB203_202 := aMk ((by rw [hg]; exact Nat.ne_of_gt (blk_lt (g := gb202) (o := .cells #[.int .i64 a0_0, .int .i64 a0_1] 23 (0, 0)) (by (with_reducible repeat (first | apply bA | apply bN | apply bD)); exact BK202.out)) : gb203 ≠ gb202)); replace BK202 := aMk (blk_below (g := gb202) (o := .cells #[.int .i64 a0_0, .int .i64 a0_1] 23 (0, 0)) (by (with_reducible repeat (first | apply bA | apply bN | apply bD)); exact BK202.out) hb); replace HB := aMk (below_step (by repeat (first | (with_reducible first | exact HB.out | apply eA | apply eN | apply eD | refine eS ?_ GE202.out) | exact HB.out)) hb); clear hb hbox hg; have hnb6 := NB202_203.out; have hnc6 := NB203_202.out; have hcz7_0 : w5.cell? ⟨gb202, 0, none⟩ = some (.int .i64 a0_0) := (blk_cell BK202.out 0).trans rfl; have hcz7_1 : w5.cell? ⟨gb202, 1, none⟩ = some (.int .i64 a0_1) := (blk_cell BK202.out 1).trans rfl; have hfz7_0 := blk_frozen BK202.out 0; have hfz7_1 := blk_frozen BK202.out 1) | ((with_reducible refine gate_callee (f := 11) rfl ?_); refine goesL_ (some 8) rfl rfl Try.func11 (by kernel_rfl) rfl #[.agg #[.int .i64 a0_0, .int .i64 a0_1]] rfl (by (try simp only [List.map_toArray, List.map_cons, List.map_nil]); first | done | rfl | (simp only [List.length_drop, List.length_take]; rfl)) ?_; (with_reducible refine (agg_Start.calls a0_0 a0_1 t204 t205 t206 _ A3.out).mono ?_); rintro e w8 ⟨v207, rfl, ho0, hb⟩; refine ⟨_, rfl, ?_⟩; have HO208 := aMk (Kd.R_lower ho0 (below_size (by repeat (first | (with_reducible first | exact HB.out | apply eA | apply eN | apply eD | refine eS ?_ GE202.out | refine eS ?_ GE203.out) | exact HB.out)))); replace BK202 := aMk (blk_below (g := gb202) (o := .cells #[.int .i64 a0_0, .int .i64 a0_1] 23 (0, 0)) (by (with_reducible repeat (first | apply bA | apply bN | apply bD)); exact BK202.out) hb); replace BK203 := aMk (blk_below (g := gb203) (o := .cells #[.int .u64 0, .int .i64 0, .slice none 0 0] 33 (0, 0)) (by (with_reducible repeat (first | apply bA | apply bN | apply bD)); exact BK203.out) hb); replace HB := aMk (below_step (by repeat (first | (with_reducible first | exact HB.out | apply eA | apply eN | apply eD | refine eS ?_ GE202.out | refine eS ?_ GE203.out) | exact HB.out)) hb); (try clear hb); (try clear hb2); (try clear hk); (try clear hi); (try clear ho0)) | ((with_reducible refine gate_dst (N := 5) rfl ?_); refine box_event ?hg (N := 5) ?hd (cs := #[.int .u64 0, .int .i64 0, .slice none 0 0]) (t := 33) ?hr ?_; (case hd => rfl); (case hg => rfl); (case hr => first | (go_simp; done) | (go_simp; rfl)); intro gb209 hg w9 hbox hb; have BK209 := aMk (hbox); have GW209 := aMk ((by rw [hg]; exact (below_size (by repeat (first | (with_reducible first | exact HB.out | apply eA | apply eN | apply eD | refine eS ?_ GE202.out | refine eS ?_ GE203.out) | exact HB.out))) : w.heap.size ≤ gb209)); have GE209 := aMk ((by rw [hg]; exact (below_size (by repeat (first | (with_reducible first | exact HB.out | apply eA | apply eN | apply eD | refine eS ?_ GE202.out | refine eS ?_ GE203.out) | exact HB.out))) : w.heap.size ≤ gb209)); have NB202_209 := aMk ((by rw [hg]; exact Nat.ne_of_lt (blk_lt (g := gb202) (o := .cells #[.int .i64 a0_0, .int .i64 a0_1] 23 (0, 0)) (by (with_reducible repeat (first | apply bA | apply bN | apply bD)); exact BK202.out)) : gb202 ≠ gb209)); have NB209_202 := aMk ((by rw [hg]; exact Nat.ne_of_gt (blk_lt (g := gb202) (o := .cells #[.int .i64 a0_0, .int .i64 a0_1] 23 (0, 0)) (by (with_reducible repeat (first | apply bA | apply bN | apply bD)); exact BK202.out)) : gb209 ≠ gb202)); have NB203_209 := aMk ((by rw [hg]; exact Nat.ne_of_lt (blk_lt (g := gb203) (o := .cells #[.int .u64 0, .int .i64 0, .slice none 0 0] 33 (0, 0)) (by (with_reducible repeat (first | apply bA | apply bN | apply bD)); exact BK203.out)) : gb203 ≠ gb209)); have NB209_203 := aMk ((by rw [hg]; exact Nat.ne_of_gt (blk_lt (g := gb203) (o := .cells #[.int .u64 0, .int .i64 0, .slice none 0 0] 33 (0, 0)) (by (with_reducible repeat (first | apply bA | apply bN | apply bD)); exact BK203.out)) : gb209 ≠ gb203)); replace HO208 := aMk (Kd.R_below (by (with_reducible repeat (first | apply rA | apply rN | apply rD)); exact HO208.out) hb); replace BK202 := aMk (blk_below (g := gb202) (o := .cells #[.int .i64 a0_0, .int .i64 a0_1] 23 (0, 0)) (by (with_reducible repeat (first | apply bA | apply bN | apply bD)); exact BK202.out) hb); replace BK203 := aMk (blk_below (g := gb203) (o := .cells #[.int .u64 0, .int .i64 0, .slice none 0 0] 33 (0, 0)) (by (with_reducible repeat (first | apply bA | apply bN | apply bD)); exact BK203.out) hb); replace HB := aMk (below_step (by repeat (first | (with_reducible first | exact HB.out | apply eA | apply eN | apply eD | refine eS ?_ GE202.out | refine eS ?_ GE203.out) | exact HB.out)) hb); clear hb hbox hg; have hnb10 := NB209_202.out; have hnc10 := NB202_209.out; have hnb11 := NB209_203.out; have hnc11 := NB203_209.out; have hcz12_0 : w9.cell? ⟨gb209, 0, none⟩ = some (.int .u64 0) := (blk_cell BK209.out 0).trans rfl; have hcz12_1 : w9.cell? ⟨gb209, 1, none⟩ = some (.int .i64 0) := (blk_cell BK209.out 1).trans rfl; have hcz12_2 : w9.cell? ⟨gb209, 2, none⟩ = some (.slice none 0 0) := (blk_cell BK209.out 2).trans rfl; have hfz12_0 := blk_frozen BK209.out 0; have hfz12_1 := blk_frozen BK209.out 1; have hfz12_2 := blk_frozen BK209.out 2; obtain ⟨Ao13, co13, eo13⟩ := Kd.R_slice HO208.out; subst eo13))
 go_loopg [6] k (fun kq v6 w' => ∃ (x6_1 : Int) (x210000_1 : Int) (x210001_1 : Int) (x210002_1 : List ByteArray) (u210002 : Value), v6 = .int .i64 x6_1 ∧ Aside0 (gristmilllaw06_of.l0 kq l1 x6_1 a0_0 a0_1 x210000_1 x210001_1 x210002_1 = some (r1, r2, r3)) ∧ Aside0 (kq ≤ k) ∧ Aside0 (Kd.R Kd.string 9 w' w.heap.size (fun _ => True) u210002 x210002_1) ∧ Aside0 (w'.heap[gb202]? = some (.cells #[.int .i64 a0_0, .int .i64 a0_1] 23 (0, 0))) ∧ Aside0 (w'.heap[gb203]? = some (.cells #[.int .u64 0, .int .i64 0, (.slice none 0 0)] 33 (0, 0))) ∧ Aside0 (w'.heap[gb209]? = some (.cells #[.int .u64 x210000_1, .int .i64 x210001_1, u210002] 33 (0, 0))) ∧ Aside0 (Below w.heap.size w w'))
 case atStart => exact ⟨(0), (t204), (t205), (t206), (.slice Ao13 t206.length co13), (by first | rfl | (simp; done) | (simp [*]; done)), H', ⟨Nat.le_refl _⟩, ⟨by (with_reducible repeat (first | apply rA | apply rN | apply rD)); exact Kd.R_mono (Kd.R_far (p := ⟨gb209, 2, none⟩) (Kd.R_far (p := ⟨gb209, 1, none⟩) (Kd.R_far (p := ⟨gb209, 0, none⟩) (Kd.R_types HO208.out BK209.out (by decide)) (fun _ hk => hk.2) (.int .u64 t204)) (fun _ hk => hk.2) (.int .i64 t205)) (fun _ hk => hk.2) (.slice Ao13 t206.length co13)) (fun _ hk => trivial)⟩, ⟨by (with_reducible repeat (first | apply bA | apply bN | apply bD)); refine blk_far ?_ NB202_209.out _; (with_reducible repeat (first | apply bA | apply bN | apply bD)); refine blk_far ?_ NB202_209.out _; (with_reducible repeat (first | apply bA | apply bN | apply bD)); refine blk_far ?_ NB202_209.out _; (with_reducible repeat (first | apply bA | apply bN | apply bD)); exact BK202.out⟩, ⟨by (with_reducible repeat (first | apply bA | apply bN | apply bD)); refine blk_far ?_ NB203_209.out _; (with_reducible repeat (first | apply bA | apply bN | apply bD)); refine blk_far ?_ NB203_209.out _; (with_reducible repeat (first | apply bA | apply bN | apply bD)); refine blk_far ?_ NB203_209.out _; (with_reducible repeat (first | apply bA | apply bN | apply bD)); exact BK203.out⟩, ⟨by (with_reducible repeat (first | apply bA | apply bN | apply bD)); refine blk_put (cs := #[.int .u64 t204, .int .i64 t205, .slice none 0 0]) ?_ 2 _ rfl; (with_reducible repeat (first | apply bA | apply bN | apply bD)); refine blk_put (cs := #[.int .u64 t204, .int .i64 0, .slice none 0 0]) ?_ 1 _ rfl; (with_reducible repeat (first | apply bA | apply bN | apply bD)); refine blk_put (cs := #[.int .u64 0, .int .i64 0, .slice none 0 0]) ?_ 0 _ rfl; (with_reducible repeat (first | apply bA | apply bN | apply bD)); exact BK209.out⟩, ⟨by repeat (first | (with_reducible first | exact HB.out | apply eA | apply eN | apply eD | refine eS ?_ GE202.out | refine eS ?_ GE203.out | refine eS ?_ GE209.out) | exact HB.out)⟩⟩
 case round =>
  clear H'
  try clear c1
  try clear p2
  try clear c6
  try clear c8
  try clear c10
  try clear c11
  try clear hcz12_0
  try clear hcz12_1
  try clear hcz12_2
  try clear hcz7_0
  try clear hcz7_1
  try clear hfz12_0
  try clear hfz12_1
  try clear hfz12_2
  try clear hfz7_0
  try clear hfz7_1
  obtain ⟨x6_1, x210000_1, x210001_1, x210002_1, u210002, rfl, HA, HK1, HO_210002, BK202, BK203, BK209, HB⟩ := hrel
  cases gk with
  | zero => exact absurd HA.out (by simp [gristmilllaw06_of.l0])
  | succ k1 =>
   have H := HA.out
   clear HA
   simp only [gristmilllaw06_of.l0] at H
   by_cases c14 : x6_1 < (l1.length : Int)
   ·rw [if_pos c14] at H
    have c14b0 : decide (x6_1 < (l1.length : Int)) = true := decide_eq_true c14
    clear c14
    by_cases c15 : 0 ≤ x6_1
    ·rw [if_pos c15] at H
     have c15b0 : decide (0 ≤ x6_1) = true := decide_eq_true c15
     clear c15
     replace H := Option.bind_eq_some_iff.mp H
     obtain ⟨⟨t212, t213, t214⟩, A160, H⟩ := H
     replace H : (gristmilllaw06_of.l0 k1 l1 (wrap64 (x6_1 + 1)) a0_0 a0_1 t212 t213 t214) = some (r1, r2, r3) := H
     have A16 := aMk A160
     clear A160
     have H' := aMk H
     clear H
     try go_wp2
     replace HO_210002 := aMk (rD HO_210002.out)
     replace BK202 := aMk (bD BK202.out)
     replace BK203 := aMk (bD BK203.out)
     replace BK209 := aMk (bD BK209.out)
     replace HB := aMk (eD HB.out)
     have p210 : 0 ≤ (x6_1 : Int) := of_decide_eq_true (by first | (with_reducible assumption) | assumption)
     have q210 : x6_1 < (l1.length : Int) := of_decide_eq_true (by first | (with_reducible assumption) | assumption)
     obtain ⟨ad210, A210_1, c210_1, A210_2, c210_2, e210, hx210_0, hx210_1, hx210_2, hx210_3, hl210_1, hi210_1, hl210_2, hi210_2⟩ := at_T39 HR1.out x6_1 p210 q210
     have hw210_3 := hx210_3
     have hw210_2 := hx210_2
     have hw210_1 := hx210_1
     have hw210_0 := hx210_0
     cases e210
     replace hx210_0 := (HB.out.cell (World.block_lt_of_cell? w _ hx210_0)).trans hx210_0
     replace hx210_1 := (HB.out.cell (World.block_lt_of_cell? w _ hx210_1)).trans hx210_1
     replace hx210_2 := (HB.out.cell (World.block_lt_of_cell? w _ hx210_2)).trans hx210_2
     replace hx210_3 := (HB.out.cell (World.block_lt_of_cell? w _ hx210_3)).trans hx210_3
     have HR210_1 := aMk hi210_1
     have HC210_1 := aMk hl210_1
     clear hi210_1 hl210_1
     have HR210_2 := aMk hi210_2
     have HC210_2 := aMk hl210_2
     clear hi210_2 hl210_2
     replace p210 := eq_true p210
     replace q210 := eq_true q210
     have p211 : 0 ≤ (x6_1 : Int) := of_decide_eq_true (by first | (with_reducible assumption) | assumption)
     have q211 : x6_1 < (l1.length : Int) := of_decide_eq_true (by first | (with_reducible assumption) | assumption)
     obtain ⟨ad211, A211_1, c211_1, A211_2, c211_2, e211, hx211_0, hx211_1, hx211_2, hx211_3, hl211_1, hi211_1, hl211_2, hi211_2⟩ := at_T39 HR1.out x6_1 p211 q211
     have hw211_3 := hx211_3
     have hw211_2 := hx211_2
     have hw211_1 := hx211_1
     have hw211_0 := hx211_0
     obtain rfl : ad210 = ad211 := (by injection e211)
     replace hx211_0 := (HB.out.cell (World.block_lt_of_cell? w _ hx211_0)).trans hx211_0
     replace hx211_1 := (HB.out.cell (World.block_lt_of_cell? w _ hx211_1)).trans hx211_1
     replace hx211_2 := (HB.out.cell (World.block_lt_of_cell? w _ hx211_2)).trans hx211_2
     replace hx211_3 := (HB.out.cell (World.block_lt_of_cell? w _ hx211_3)).trans hx211_3
     have HR211_1 := aMk hi211_1
     have HC211_1 := aMk hl211_1
     clear hi211_1 hl211_1
     have HR211_2 := aMk hi211_2
     have HC211_2 := aMk hl211_2
     clear hi211_2 hl211_2
     replace p211 := eq_true p211
     replace q211 := eq_true q211
     have ea_ := Option.some.inj (hx210_1.symm.trans hx211_1)
     injection ea_ with ea_ en_ ec_
     subst ea_
     subst ec_
     clear en_
     have ea_ := Option.some.inj (hx210_2.symm.trans hx211_2)
     injection ea_ with ea_ en_ ec_
     subst ea_
     subst ec_
     clear en_
     obtain ⟨Ao18, co18, eo18⟩ := Kd.R_slice HO_210002.out
     (first | subst eo18 | (injection eo18 with f1_ f2_ f3_; have f4_ := f1_.symm; have f5_ := f3_.symm; clear f1_ f2_ f3_; subst f4_; subst f5_))
     refine start_ (n := 14) (S := fun w' => w'.cell? ⟨gb202, 0, none⟩ = some (.int .i64 a0_0) ∧ w'.cell? ⟨gb202, 1, none⟩ = some (.int .i64 a0_1) ∧ w'.cell? ⟨gb209, 0, none⟩ = some (.int .u64 x210000_1) ∧ w'.cell? ⟨gb209, 1, none⟩ = some (.int .i64 x210001_1) ∧ w'.cell? ⟨gb209, 2, none⟩ = some (.slice Ao18 x210002_1.length co18) ∧ w'.cell? (ad210.add ((x6_1).toNat * 4)) = some (.int .i64 ((rd_T39 l1 x6_1).f0.f0)) ∧ w'.cell? ⟨(ad210.add ((x6_1).toNat * 4)).block, (ad210.add ((x6_1).toNat * 4)).off + 1, none⟩ = some (.slice A210_1 ((rd_T39 l1 x6_1).f0.f1).length c210_1) ∧ w'.cell? ⟨(ad210.add ((x6_1).toNat * 4)).block, (ad210.add ((x6_1).toNat * 4)).off + 2, none⟩ = some (.slice A210_2 ((rd_T39 l1 x6_1).f0.f2).length c210_2) ∧ w'.cell? ⟨(ad210.add ((x6_1).toNat * 4)).block, (ad210.add ((x6_1).toNat * 4)).off + 3, none⟩ = some (.int .u64 ((rd_T39 l1 x6_1).f1)) ∧ w'.cell? (ad210.add ((x6_1).toNat * 4)) = some (.int .i64 ((rd_T39 l1 x6_1).f0.f0)) ∧ w'.cell? ⟨(ad210.add ((x6_1).toNat * 4)).block, (ad210.add ((x6_1).toNat * 4)).off + 1, none⟩ = some (.slice A210_1 ((rd_T39 l1 x6_1).f0.f1).length c210_1) ∧ w'.cell? ⟨(ad210.add ((x6_1).toNat * 4)).block, (ad210.add ((x6_1).toNat * 4)).off + 2, none⟩ = some (.slice A210_2 ((rd_T39 l1 x6_1).f0.f2).length c210_2) ∧ w'.cell? ⟨(ad210.add ((x6_1).toNat * 4)).block, (ad210.add ((x6_1).toNat * 4)).off + 3, none⟩ = some (.int .u64 ((rd_T39 l1 x6_1).f1))) (ds := [13]) #[false, false, false, false, false, false, false, false, false, false, false, false, false, false] (by kernel_rfl) rfl rfl ⟨(blk_cell BK202.out 0).trans rfl, (blk_cell BK202.out 1).trans rfl, (blk_cell BK209.out 0).trans rfl, (blk_cell BK209.out 1).trans rfl, (blk_cell BK209.out 2).trans rfl, ((HB.out.cell (World.block_lt_of_cell? w _ hw210_0)).trans hw210_0), ((HB.out.cell (World.block_lt_of_cell? w _ hw210_1)).trans hw210_1), ((HB.out.cell (World.block_lt_of_cell? w _ hw210_2)).trans hw210_2), ((HB.out.cell (World.block_lt_of_cell? w _ hw210_3)).trans hw210_3), ((HB.out.cell (World.block_lt_of_cell? w _ hw211_0)).trans hw211_0), ((HB.out.cell (World.block_lt_of_cell? w _ hw211_1)).trans hw211_1), ((HB.out.cell (World.block_lt_of_cell? w _ hw211_2)).trans hw211_2), ((HB.out.cell (World.block_lt_of_cell? w _ hw211_3)).trans hw211_3)⟩ (fun hHeld => ?_); refine with_tabW gristmilllaw06_of.tab5 gristmilllaw06_of.bits5 (fun HT_ HW_ => ?_)
     generalize wr.drew = w17 at HO_210002 BK202 BK203 BK209 HB HR210_1 HR210_2 HR211_1 HR211_2 hx210_0 hx210_1 hx210_2 hx210_3 hx211_0 hx211_1 hx211_2 hx211_3 hHeld ⊢
     refine pure_ (i := 2) (N := some 17) (v := ?_) (a' := ?_) #[false, false, true, false, false, false, false, false, false, false, false, false, false, false] rfl rfl (any_of HT_.out (by kernel_rfl)) (fun _ _ _ h => h) (Or.inl ⟨by rfl, ?_⟩) ?_ ?_
     rotate_left
     ·intro w'
      go_simp
      with_reducible rfl
     rotate_left
     ·simp only [Act.put, sA, sB, sC, i64_w, i32_w]
      rfl
     refine pure_ (i := 3) (N := some 18) (v := ?_) (a' := ?_) #[false, false, true, true, false, false, false, false, false, false, false, false, false, false] rfl rfl (any_of HT_.out (by kernel_rfl)) (fun _ _ _ h => h) (Or.inl ⟨by rfl, ?_⟩) ?_ ?_
     rotate_left
     ·intro w'
      go_simp
      with_reducible rfl
     rotate_left
     ·simp only [Act.put, sA, sB, sC, i64_w, i32_w]
      rfl
     refine pure_ (i := 4) (N := some 19) (v := ?_) (a' := ?_) #[false, false, true, true, true, false, false, false, false, false, false, false, false, false] rfl rfl (any_of HT_.out (by kernel_rfl)) (fun _ _ _ h => h) (Or.inl ⟨by rfl, ?_⟩) ?_ ?_
     rotate_left
     ·intro w'
      go_simp
      with_reducible rfl
     rotate_left
     ·simp only [Act.put, sA, sB, sC, i64_w, i32_w]
      rfl
     refine pure_ (i := 5) (N := some 20) (v := ?_) (a' := ?_) #[false, false, true, true, true, true, false, false, false, false, false, false, false, false] rfl rfl (any_of HT_.out (by kernel_rfl)) (fun _ _ _ h => h) (Or.inl ⟨by rfl, ?_⟩) ?_ ?_
     rotate_left
     ·intro w'
      go_simp
      with_reducible rfl
     rotate_left
     ·simp only [Act.put, sA, sB, sC, i64_w, i32_w]
      rfl
     refine pure_ (i := 7) (N := some 22) (v := ?_) (a' := ?_) #[false, false, true, true, true, true, false, true, false, false, false, false, false, false] rfl rfl (any_of HT_.out (by kernel_rfl)) (fun _ _ _ h => h) (Or.inl ⟨by rfl, ?_⟩) ?_ ?_
     rotate_left
     ·intro w'
      go_simp
      with_reducible rfl
     rotate_left
     ·simp only [Act.put, sA, sB, sC, i64_w, i32_w]
      rfl
     refine pure_ (i := 8) (N := some 23) (v := ?_) (a' := ?_) #[false, false, true, true, true, true, false, true, true, false, false, false, false, false] rfl rfl (any_of HT_.out (by kernel_rfl)) (fun _ _ _ h => h) (Or.inl ⟨by rfl, ?_⟩) ?_ ?_
     rotate_left
     ·intro w'
      go_simp
      with_reducible rfl
     rotate_left
     ·simp only [Act.put, sA, sB, sC, i64_w, i32_w]
      rfl
     refine pure_ (i := 9) (N := some 24) (v := ?_) (a' := ?_) #[false, false, true, true, true, true, false, true, true, true, false, false, false, false] rfl rfl (any_of HT_.out (by kernel_rfl)) (fun _ _ _ h => h) (Or.inl ⟨by rfl, ?_⟩) ?_ ?_
     rotate_left
     ·intro w'
      go_simp
      with_reducible rfl
     rotate_left
     ·simp only [Act.put, sA, sB, sC, i64_w, i32_w]
      rfl
     refine pure_ (i := 10) (N := some 25) (v := ?_) (a' := ?_) #[false, false, true, true, true, true, false, true, true, true, true, false, false, false] rfl rfl (any_of HT_.out (by kernel_rfl)) (fun _ _ _ h => h) (Or.inl ⟨by rfl, ?_⟩) ?_ ?_
     rotate_left
     ·intro w'
      go_simp
      with_reducible rfl
     rotate_left
     ·simp only [Act.put, sA, sB, sC, i64_w, i32_w]
      rfl
     refine take_ (i := 0) (N := some 15) (v := ?_) (a' := ?_) #[true, false, true, true, true, true, false, true, true, true, true, false, false, false] rfl rfl (take_ofW HT_.out HW_.out (by kernel_rfl)) (fun _ _ _ h => h) (Or.inl ⟨by rfl, ?_⟩) hHeld ?_ ?_
     rotate_left
     ·rintro w' ⟨s0, s1, s2, s3, s4, s5, s6, s7, s8, s9, s10, s11, s12⟩
      go_simp
      with_reducible rfl
     rotate_left
     ·simp only [Act.put, sA, sB, sC, i64_w, i32_w]
      rfl
     refine take_ (i := 1) (N := some 16) (v := ?_) (a' := ?_) #[true, true, true, true, true, true, false, true, true, true, true, false, false, false] rfl rfl (take_ofW HT_.out HW_.out (by kernel_rfl)) (fun _ _ _ h => h) (Or.inl ⟨by rfl, ?_⟩) hHeld ?_ ?_
     rotate_left
     ·rintro w' ⟨s0, s1, s2, s3, s4, s5, s6, s7, s8, s9, s10, s11, s12⟩
      go_simp
      with_reducible rfl
     rotate_left
     ·simp only [Act.put, sA, sB, sC, i64_w, i32_w]
      rfl
     refine take_ (i := 6) (N := some 21) (v := ?_) (a' := ?_) #[true, true, true, true, true, true, true, true, true, true, true, false, false, false] rfl rfl (take_ofW HT_.out HW_.out (by kernel_rfl)) (fun _ _ _ h => h) (Or.inl ⟨by rfl, ?_⟩) hHeld ?_ ?_
     rotate_left
     ·rintro w' ⟨s0, s1, s2, s3, s4, s5, s6, s7, s8, s9, s10, s11, s12⟩
      go_simp
      with_reducible rfl
     rotate_left
     ·simp only [Act.put, sA, sB, sC, i64_w, i32_w]
      rfl
     refine take_ (i := 11) (N := some 26) (v := ?_) (a' := ?_) #[true, true, true, true, true, true, true, true, true, true, true, true, false, false] rfl rfl (take_ofW HT_.out HW_.out (by kernel_rfl)) (fun _ _ _ h => h) (Or.inl ⟨by rfl, ?_⟩) hHeld ?_ ?_
     rotate_left
     ·rintro w' ⟨s0, s1, s2, s3, s4, s5, s6, s7, s8, s9, s10, s11, s12⟩
      go_simp
      with_reducible rfl
     rotate_left
     ·simp only [Act.put, sA, sB, sC, i64_w, i32_w]
      rfl
     refine one_ (i := 12) (N := some 27) #[true, true, true, true, true, true, true, true, true, true, true, true, true, false] rfl rfl (one_of HT_.out (by kernel_rfl)) (by decide) (fun K hK => ?_)
     refine goes_ Try.func12 (by kernel_rfl) rfl #[.agg #[.int .i64 a0_0, .int .i64 a0_1], .agg #[.int .u64 x210000_1, .int .i64 x210001_1, .slice Ao18 x210002_1.length co18], .agg #[.int .i64 ((rd_T39 l1 x6_1).f0.f0), .slice A210_1 ((rd_T39 l1 x6_1).f0.f1).length c210_1, .slice A210_2 ((rd_T39 l1 x6_1).f0.f2).length c210_2], .int .u64 ((rd_T39 l1 x6_1).f1)] (by rfl) rfl rfl (by (try simp only [List.map_toArray, List.map_cons, List.map_nil]); first | done | rfl | (simp only [List.length_drop, List.length_take]; rfl)) ?_
     with_reducible refine (agg_Add.calls a0_0 a0_1 x210000_1 x210001_1 _ _ x210002_1 ((rd_T39 l1 x6_1).f0.f0) _ _ ((rd_T39 l1 x6_1).f0.f1) _ _ ((rd_T39 l1 x6_1).f0.f2) ((rd_T39 l1 x6_1).f1) t212 t213 t214 _ ?side1 ?side2 ?side3 ?side4 ?side5 ?side6 A16.out).mono ?_
     (case side1 => repeat (first | exact (Kd.R_reads' HO_210002.out).2.2 | (with_reducible refine cA ?_ _) | (with_reducible refine cN ?_ _) | (with_reducible refine cD ?_)))
     (case side2 => exact (Kd.R_reads' HO_210002.out).2.1)
     (case side3 => repeat (first | exact (Kd.C_below HR210_1.out HB.out) | (with_reducible refine cA ?_ _) | (with_reducible refine cN ?_ _) | (with_reducible refine cD ?_)))
     (case side4 => exact HC210_1.out)
     (case side5 => repeat (first | exact (Kd.C_below HR210_2.out HB.out) | (with_reducible refine cA ?_ _) | (with_reducible refine cN ?_ _) | (with_reducible refine cD ?_)))
     (case side6 => exact HC210_2.out)
     rintro e w19 ⟨v215, rfl, ho0, hb⟩
     refine ⟨_, rfl, ?_⟩
     have HO216 := aMk (Kd.R_lower (Kd.R_new' ho0 (Kd.R_lt (by (with_reducible repeat (first | apply rA | apply rN | apply rD)); exact HO_210002.out))) (below_size (by repeat (first | (with_reducible first | exact HB.out | apply eA | apply eN | apply eD | refine eS ?_ GE202.out | refine eS ?_ GE203.out | refine eS ?_ GE209.out) | exact HB.out))))
     replace HO_210002 := aMk (Kd.R_elder' (by (with_reducible repeat (first | apply rA | apply rN | apply rD)); exact HO_210002.out) (Kd.R_base ho0) hb)
     replace BK202 := aMk (blk_below (g := gb202) (o := .cells #[.int .i64 a0_0, .int .i64 a0_1] 23 (0, 0)) (by (with_reducible repeat (first | apply bA | apply bN | apply bD)); exact BK202.out) hb)
     replace BK203 := aMk (blk_below (g := gb203) (o := .cells #[.int .u64 0, .int .i64 0, .slice none 0 0] 33 (0, 0)) (by (with_reducible repeat (first | apply bA | apply bN | apply bD)); exact BK203.out) hb)
     replace BK209 := aMk (blk_below (g := gb209) (o := .cells #[.int .u64 x210000_1, .int .i64 x210001_1, .slice Ao18 x210002_1.length co18] 33 (0, 0)) (by (with_reducible repeat (first | apply bA | apply bN | apply bD)); exact BK209.out) hb)
     replace HB := aMk (below_step (by repeat (first | (with_reducible first | exact HB.out | apply eA | apply eN | apply eD | refine eS ?_ GE202.out | refine eS ?_ GE203.out | refine eS ?_ GE209.out) | exact HB.out)) hb)
     (try clear hb)
     (try clear ho0)
     obtain ⟨Ao22, co22, eo22⟩ := Kd.R_slice HO216.out
     (first | subst eo22 | (injection eo22 with f1_ f2_ f3_; have f4_ := f1_.symm; have f5_ := f3_.symm; clear f1_ f2_ f3_; subst f4_; subst f5_))
     refine hK.out _ _ ⟨(blk_cell BK202.out 0).trans rfl, (blk_cell BK202.out 1).trans rfl, (blk_cell BK209.out 0).trans rfl, (blk_cell BK209.out 1).trans rfl, (blk_cell BK209.out 2).trans rfl, ((HB.out.cell (World.block_lt_of_cell? w _ hw210_0)).trans hw210_0), ((HB.out.cell (World.block_lt_of_cell? w _ hw210_1)).trans hw210_1), ((HB.out.cell (World.block_lt_of_cell? w _ hw210_2)).trans hw210_2), ((HB.out.cell (World.block_lt_of_cell? w _ hw210_3)).trans hw210_3), ((HB.out.cell (World.block_lt_of_cell? w _ hw211_0)).trans hw211_0), ((HB.out.cell (World.block_lt_of_cell? w _ hw211_1)).trans hw211_1), ((HB.out.cell (World.block_lt_of_cell? w _ hw211_2)).trans hw211_2), ((HB.out.cell (World.block_lt_of_cell? w _ hw211_3)).trans hw211_3)⟩ (fun hHeld => ?_)
     clear hK K
     refine norm_ (a' := ?_) ?_ ?_
     rotate_left
     ·show Act.put _ (some 27) _ = _
      simp only [Act.put, sA, sB, sC, i64_w, i32_w]
      rfl
     refine last_ (i := 13) (N := none) #[true, true, true, true, true, true, true, true, true, true, true, true, true, true] rfl rfl (one_of HT_.out (by kernel_rfl)) (by decide) (fun K hK => ?_)
     have hs20 : w19.cell? ⟨gb209, 0, none⟩ = some (.int .u64 x210000_1) := (blk_cell BK209.out 0).trans rfl
     have hfs20 := blk_frozen BK209.out 0
     have hns20_0 := NB202_209.out
     have hns20_1 := NB203_209.out
     have hms20_0 := NB209_202.out
     have hms20_1 := NB209_203.out
     have hs21 : w19.cell? ⟨gb209, 1, none⟩ = some (.int .i64 x210001_1) := (blk_cell BK209.out 1).trans rfl
     have hfs21 := blk_frozen BK209.out 1
     have hns21_0 := NB202_209.out
     have hns21_1 := NB203_209.out
     have hms21_0 := NB209_202.out
     have hms21_1 := NB209_203.out
     have hs23 : w19.cell? ⟨gb209, 2, none⟩ = some (.slice Ao18 x210002_1.length co18) := (blk_cell BK209.out 2).trans rfl
     have hfs23 := blk_frozen BK209.out 2
     have hns23_0 := NB202_209.out
     have hns23_1 := NB203_209.out
     have hms23_0 := NB209_202.out
     have hms23_1 := NB209_203.out
     refine skip_ (w1 := ?_) (by rfl) rfl ?_ ?_
     rotate_left
     ·go_simp
      rfl
     refine hK.out _ _ ?_
     clear hK K
     refine done_ (done_of HT_.out (by kernel_rfl)) ?_
     try go_wp2
     go_roundg k1
     case measure => have := HK1.out; omega
     case rel => exact ⟨(wrap64 (x6_1 + 1)), (t212), (t213), (t214), (.slice Ao22 t214.length co22), (by first | rfl | (simp; done) | (simp [*]; done)), H', ⟨by have := HK1.out; omega⟩, ⟨by (with_reducible repeat (first | apply rA | apply rN | apply rD)); exact Kd.R_mono (Kd.R_far (p := ⟨gb209, 2, none⟩) (Kd.R_far (p := ⟨gb209, 1, none⟩) (Kd.R_far (p := ⟨gb209, 0, none⟩) (Kd.R_types HO216.out BK209.out (by decide)) (fun _ hk => hk.2) (.int .u64 t212)) (fun _ hk => hk.2) (.int .i64 t213)) (fun _ hk => hk.2) (.slice Ao22 t214.length co22)) (fun _ hk => trivial)⟩, ⟨by (with_reducible repeat (first | apply bA | apply bN | apply bD)); refine blk_far ?_ NB202_209.out _; (with_reducible repeat (first | apply bA | apply bN | apply bD)); refine blk_far ?_ NB202_209.out _; (with_reducible repeat (first | apply bA | apply bN | apply bD)); refine blk_far ?_ NB202_209.out _; (with_reducible repeat (first | apply bA | apply bN | apply bD)); exact BK202.out⟩, ⟨by (with_reducible repeat (first | apply bA | apply bN | apply bD)); refine blk_far ?_ NB203_209.out _; (with_reducible repeat (first | apply bA | apply bN | apply bD)); refine blk_far ?_ NB203_209.out _; (with_reducible repeat (first | apply bA | apply bN | apply bD)); refine blk_far ?_ NB203_209.out _; (with_reducible repeat (first | apply bA | apply bN | apply bD)); exact BK203.out⟩, ⟨by (with_reducible repeat (first | apply bA | apply bN | apply bD)); refine blk_put (cs := #[.int .u64 t212, .int .i64 t213, .slice Ao18 x210002_1.length co18]) ?_ 2 _ rfl; (with_reducible repeat (first | apply bA | apply bN | apply bD)); refine blk_put (cs := #[.int .u64 t212, .int .i64 x210001_1, .slice Ao18 x210002_1.length co18]) ?_ 1 _ rfl; (with_reducible repeat (first | apply bA | apply bN | apply bD)); refine blk_put (cs := #[.int .u64 x210000_1, .int .i64 x210001_1, .slice Ao18 x210002_1.length co18]) ?_ 0 _ rfl; (with_reducible repeat (first | apply bA | apply bN | apply bD)); exact BK209.out⟩, ⟨by repeat (first | (with_reducible first | exact HB.out | apply eA | apply eN | apply eD | refine eS ?_ GE202.out | refine eS ?_ GE203.out | refine eS ?_ GE209.out) | exact HB.out)⟩⟩
    ·rw [if_neg c15] at H
     exact absurd H (by simp)
   ·rw [if_neg c14] at H
    have c14b0 : decide (x6_1 < (l1.length : Int)) = false := decide_eq_false c14
    clear c14
    simp only [Option.some.injEq, Prod.mk.injEq] at H
    obtain ⟨rfl, rfl, rfl⟩ := H
    have hnb24 := NB209_202.out
    have hnc24 := NB202_209.out
    have hnb25 := NB209_203.out
    have hnc25 := NB203_209.out
    have hcz26_0 : wr.cell? ⟨gb209, 0, none⟩ = some (.int .u64 x210000_1) := (blk_cell BK209.out 0).trans rfl
    have hcz26_1 : wr.cell? ⟨gb209, 1, none⟩ = some (.int .i64 x210001_1) := (blk_cell BK209.out 1).trans rfl
    have hcz26_2 : wr.cell? ⟨gb209, 2, none⟩ = some (u210002) := (blk_cell BK209.out 2).trans rfl
    have hfz26_0 := blk_frozen BK209.out 0
    have hfz26_1 := blk_frozen BK209.out 1
    have hfz26_2 := blk_frozen BK209.out 2
    have hnb27 := NB203_202.out
    have hnc27 := NB202_203.out
    have hcz28_0 : wr.cell? ⟨gb203, 0, none⟩ = some (.int .u64 0) := (blk_cell BK203.out 0).trans rfl
    have hcz28_1 : wr.cell? ⟨gb203, 1, none⟩ = some (.int .i64 0) := (blk_cell BK203.out 1).trans rfl
    have hcz28_2 : wr.cell? ⟨gb203, 2, none⟩ = some (.slice none 0 0) := (blk_cell BK203.out 2).trans rfl
    have hfz28_0 := blk_frozen BK203.out 0
    have hfz28_1 := blk_frozen BK203.out 1
    have hfz28_2 := blk_frozen BK203.out 2
    obtain ⟨Ao29, co29, eo29⟩ := Kd.R_slice HO_210002.out
    subst eo29
    go_wp2
    refine bodyPost_ret (results_cell_row rfl _ _ gb203 33 #[.int .u64 x210000_1, .int .i64 x210001_1, .slice Ao29 x210002_1.length co29] (0, 0) _ rfl (by (with_reducible repeat (first | apply bA | apply bN | apply bD)); refine blk_put (cs := #[.int .u64 x210000_1, .int .i64 x210001_1, .slice none 0 0]) ?_ 2 _ rfl; (with_reducible repeat (first | apply bA | apply bN | apply bD)); refine blk_put (cs := #[.int .u64 x210000_1, .int .i64 0, .slice none 0 0]) ?_ 1 _ rfl; (with_reducible repeat (first | apply bA | apply bN | apply bD)); refine blk_put (cs := #[.int .u64 0, .int .i64 0, .slice none 0 0]) ?_ 0 _ rfl; (with_reducible repeat (first | apply bA | apply bN | apply bD)); exact BK203.out) Try.underlying33 rfl (by kernel_rfl)) rfl ?_
    exact ⟨_, by first | rfl | (simp <;> rfl) | (simp [*] <;> rfl), by (with_reducible repeat (first | apply rA | apply rN | apply rD)); exact Kd.R_mono (Kd.R_far (p := ⟨gb203, 2, none⟩) (Kd.R_far (p := ⟨gb203, 1, none⟩) (Kd.R_far (p := ⟨gb203, 0, none⟩) (Kd.R_types HO_210002.out BK203.out (by decide)) (fun _ hk => hk.2) (.int .u64 x210000_1)) (fun _ hk => hk.2) (.int .i64 x210001_1)) (fun _ hk => hk.2) (.slice Ao29 x210002_1.length co29)) (fun _ hk => trivial), by repeat (first | (with_reducible first | exact HB.out | apply eA | apply eN | apply eD | refine eS ?_ GE202.out | refine eS ?_ GE203.out | refine eS ?_ GE209.out) | exact HB.out)⟩

mutual
def gristmillref06_Same.j0 : Nat → Bool → Int → Int → List ByteArray → Int → Int → List ByteArray → Option (Bool)
 | 0, _, _, _, _, _, _, _ => none
 | k + 1, x26, x218000, x218001, x218002, x219000, x219001, x219002 => if x26 = true then (some false) else (gristmillref06_Same.l0 k 0 x218000 x218001 x218002 x219000 x219001 x219002)
def gristmillref06_Same.l0 : Nat → Int → Int → Int → List ByteArray → Int → Int → List ByteArray → Option (Bool)
 | 0, _, _, _, _, _, _, _ => none
 | k + 1, x5, x218000, x218001, x218002, x219000, x219001, x219002 => if x5 < (x218002.length : Int) then (if 0 ≤ x5 then (if x5 < (x219002.length : Int) then (if (rdOf ByteArray.empty x218002 x5).toList = (rdOf ByteArray.empty x219002 x5).toList then (gristmillref06_Same.l0 k (wrap64 (x5 + 1)) x218000 x218001 x218002 x219000 x219001 x219002) else (some false)) else (none)) else (none)) else (some true)
end
def gristmillref06_Same.f (k : Nat) (a0_0 : Int) (a0_1 : Int) (l0_2 : List ByteArray) (a1_0 : Int) (a1_1 : Int) (l1_2 : List ByteArray) : Option (Bool) := if a0_0 = a1_0 then (if a0_1 = a1_1 then (gristmillref06_Same.j0 k ((l0_2.length : Int) != (l1_2.length : Int)) a0_0 a0_1 l0_2 a1_0 a1_1 l1_2) else (gristmillref06_Same.j0 k true a0_0 a0_1 l0_2 a1_0 a1_1 l1_2)) else (gristmillref06_Same.j0 k true a0_0 a0_1 l0_2 a1_0 a1_1 l1_2)
set_option maxHeartbeats 8000000 in
set_option maxRecDepth 100000 in
theorem gristmillref06_Same.calls (k : Nat) (a0_0 : Int) (a0_1 : Int) (A0_2 : Option Addr) (c0_2 : Nat) (l0_2 : List ByteArray) (a1_0 : Int) (a1_1 : Int) (A1_2 : Option Addr) (c1_2 : Nat) (l1_2 : List ByteArray) (r : Bool) (w : World) (hr0_2 : Kd.C Kd.string w A0_2 l0_2.length l0_2) (hc0_2 : l0_2.length ≤ c0_2) (hr1_2 : Kd.C Kd.string w A1_2 l1_2.length l1_2) (hc1_2 : l1_2.length ≤ c1_2) (h : gristmillref06_Same.f k a0_0 a0_1 l0_2 a1_0 a1_1 l1_2 = some r) :
  Calls Try.prog 9 #[.agg #[.int .u64 a0_0, .int .i64 a0_1, .slice A0_2 l0_2.length c0_2], .agg #[.int .u64 a1_0, .int .i64 a1_1, .slice A1_2 l1_2.length c1_2]] w fun e w' => e = .returned (.bool r) ∧ Below w.heap.size w w' := by
 have hu33 := Try.underlying33
 have HR0_2 := aMk hr0_2
 have HC0_2 := aMk hc0_2
 clear hr0_2 hc0_2
 have HR1_2 := aMk hr1_2
 have HC1_2 := aMk hc1_2
 clear hr1_2 hc1_2
 have HB := aMk (Below.refl w.heap.size w)
 have H : (if a0_0 = a1_0 then (if a0_1 = a1_1 then (gristmillref06_Same.j0 k ((l0_2.length : Int) != (l1_2.length : Int)) a0_0 a0_1 l0_2 a1_0 a1_1 l1_2) else (gristmillref06_Same.j0 k true a0_0 a0_1 l0_2 a1_0 a1_1 l1_2)) else (gristmillref06_Same.j0 k true a0_0 a0_1 l0_2 a1_0 a1_1 l1_2)) = some r := h
 clear h
 have HC3 := aMk H
 clear H
 go_enter Try.func9, Try.ntmps9
 go_upto_region 1 with (first | ((with_reducible refine gate_dst (N := 2) rfl ?_); (try (refine gate_guard (by rfl) ?_; dsimp only)); refine box_event ?hg (N := 2) ?hd (cs := #[.int .u64 a0_0, .int .i64 a0_1, .slice A0_2 l0_2.length c0_2]) (t := 33) ?hr ?_; (case hd => rfl); (case hg => rfl); (case hr => first | (go_simp; done) | (go_simp; rfl)); intro gb217 hg w4 hbox hb; have BK217 := aMk (hbox); have GW217 := aMk ((by rw [hg]; exact (below_size (by repeat (first | (with_reducible first | exact HB.out | apply eA | apply eN | apply eD) | exact HB.out))) : w.heap.size ≤ gb217)); have GE217 := aMk ((by rw [hg]; exact (below_size (by repeat (first | (with_reducible first | exact HB.out | apply eA | apply eN | apply eD) | exact HB.out))) : w.heap.size ≤ gb217)); replace HB := aMk (below_step (by repeat (first | (with_reducible first | exact HB.out | apply eA | apply eN | apply eD) | exact HB.out)) hb); clear hb hbox hg) | ((with_reducible refine gate_dst (N := 3) rfl ?_); (try (refine gate_guard (by rfl) ?_; dsimp only)); refine box_event ?hg (N := 3) ?hd (cs := #[.int .u64 a1_0, .int .i64 a1_1, .slice A1_2 l1_2.length c1_2]) (t := 33) ?hr ?_; (case hd => rfl); (case hg => rfl); (case hr => first | (go_simp; done) | (go_simp; rfl)); intro gb218 hg w5 hbox hb; have BK218 := aMk (hbox); have GW218 := aMk ((by rw [hg]; exact (below_size (by repeat (first | (with_reducible first | exact HB.out | apply eA | apply eN | apply eD | refine eS ?_ GE217.out) | exact HB.out))) : w.heap.size ≤ gb218)); have GE218 := aMk ((by rw [hg]; exact (below_size (by repeat (first | (with_reducible first | exact HB.out | apply eA | apply eN | apply eD | refine eS ?_ GE217.out) | exact HB.out))) : w.heap.size ≤ gb218)); have NB217_218 := aMk ((by rw [hg]; exact Nat.ne_of_lt (blk_lt (g := gb217) (o := .cells #[.int .u64 a0_0, .int .i64 a0_1, .slice A0_2 l0_2.length c0_2] 33 (0, 0)) (by (with_reducible repeat (first | apply bA | apply bN | apply bD)); exact BK217.out)) : gb217 ≠ gb218)); have NB218_217 := aMk ((by rw [hg]; exact Nat.ne_of_gt (blk_lt (g := gb217) (o := .cells #[.int .u64 a0_0, .int .i64 a0_1, .slice A0_2 l0_2.length c0_2] 33 (0, 0)) (by (with_reducible repeat (first | apply bA | apply bN | apply bD)); exact BK217.out)) : gb218 ≠ gb217)); replace BK217 := aMk (blk_below (g := gb217) (o := .cells #[.int .u64 a0_0, .int .i64 a0_1, .slice A0_2 l0_2.length c0_2] 33 (0, 0)) (by (with_reducible repeat (first | apply bA | apply bN | apply bD)); exact BK217.out) hb); replace HB := aMk (below_step (by repeat (first | (with_reducible first | exact HB.out | apply eA | apply eN | apply eD | refine eS ?_ GE217.out) | exact HB.out)) hb); clear hb hbox hg))
 repeat (go_quiet (first | ((with_reducible refine gate_dst (N := 2) rfl ?_); (try (refine gate_guard (by rfl) ?_; dsimp only)); refine box_event ?hg (N := 2) ?hd (cs := #[.int .u64 a0_0, .int .i64 a0_1, .slice A0_2 l0_2.length c0_2]) (t := 33) ?hr ?_; (case hd => rfl); (case hg => rfl); (case hr => first | (go_simp; done) | (go_simp; rfl)); intro gb217 hg w4 hbox hb; have BK217 := aMk (hbox); have GW217 := aMk ((by rw [hg]; exact (below_size (by repeat (first | (with_reducible first | exact HB.out | apply eA | apply eN | apply eD) | exact HB.out))) : w.heap.size ≤ gb217)); have GE217 := aMk ((by rw [hg]; exact (below_size (by repeat (first | (with_reducible first | exact HB.out | apply eA | apply eN | apply eD) | exact HB.out))) : w.heap.size ≤ gb217)); replace HB := aMk (below_step (by repeat (first | (with_reducible first | exact HB.out | apply eA | apply eN | apply eD) | exact HB.out)) hb); clear hb hbox hg) | ((with_reducible refine gate_dst (N := 3) rfl ?_); (try (refine gate_guard (by rfl) ?_; dsimp only)); refine box_event ?hg (N := 3) ?hd (cs := #[.int .u64 a1_0, .int .i64 a1_1, .slice A1_2 l1_2.length c1_2]) (t := 33) ?hr ?_; (case hd => rfl); (case hg => rfl); (case hr => first | (go_simp; done) | (go_simp; rfl)); intro gb218 hg w5 hbox hb; have BK218 := aMk (hbox); have GW218 := aMk ((by rw [hg]; exact (below_size (by repeat (first | (with_reducible first | exact HB.out | apply eA | apply eN | apply eD | refine eS ?_ GE217.out) | exact HB.out))) : w.heap.size ≤ gb218)); have GE218 := aMk ((by rw [hg]; exact (below_size (by repeat (first | (with_reducible first | exact HB.out | apply eA | apply eN | apply eD | refine eS ?_ GE217.out) | exact HB.out))) : w.heap.size ≤ gb218)); have NB217_218 := aMk ((by rw [hg]; exact Nat.ne_of_lt (blk_lt (g := gb217) (o := .cells #[.int .u64 a0_0, .int .i64 a0_1, .slice A0_2 l0_2.length c0_2] 33 (0, 0)) (by (with_reducible repeat (first | apply bA | apply bN | apply bD)); exact BK217.out)) : gb217 ≠ gb218)); have NB218_217 := aMk ((by rw [hg]; exact Nat.ne_of_gt (blk_lt (g := gb217) (o := .cells #[.int .u64 a0_0, .int .i64 a0_1, .slice A0_2 l0_2.length c0_2] 33 (0, 0)) (by (with_reducible repeat (first | apply bA | apply bN | apply bD)); exact BK217.out)) : gb218 ≠ gb217)); replace BK217 := aMk (blk_below (g := gb217) (o := .cells #[.int .u64 a0_0, .int .i64 a0_1, .slice A0_2 l0_2.length c0_2] 33 (0, 0)) (by (with_reducible repeat (first | apply bA | apply bN | apply bD)); exact BK217.out) hb); replace HB := aMk (below_step (by repeat (first | (with_reducible first | exact HB.out | apply eA | apply eN | apply eD | refine eS ?_ GE217.out) | exact HB.out)) hb); clear hb hbox hg)); go_upto_region 1 with (first | ((with_reducible refine gate_dst (N := 2) rfl ?_); (try (refine gate_guard (by rfl) ?_; dsimp only)); refine box_event ?hg (N := 2) ?hd (cs := #[.int .u64 a0_0, .int .i64 a0_1, .slice A0_2 l0_2.length c0_2]) (t := 33) ?hr ?_; (case hd => rfl); (case hg => rfl); (case hr => first | (go_simp; done) | (go_simp; rfl)); intro gb217 hg w4 hbox hb; have BK217 := aMk (hbox); have GW217 := aMk ((by rw [hg]; exact (below_size (by repeat (first | (with_reducible first | exact HB.out | apply eA | apply eN | apply eD) | exact HB.out))) : w.heap.size ≤ gb217)); have GE217 := aMk ((by rw [hg]; exact (below_size (by repeat (first | (with_reducible first | exact HB.out | apply eA | apply eN | apply eD) | exact HB.out))) : w.heap.size ≤ gb217)); replace HB := aMk (below_step (by repeat (first | (with_reducible first | exact HB.out | apply eA | apply eN | apply eD) | exact HB.out)) hb); clear hb hbox hg) | ((with_reducible refine gate_dst (N := 3) rfl ?_); (try (refine gate_guard (by rfl) ?_; dsimp only)); refine box_event ?hg (N := 3) ?hd (cs := #[.int .u64 a1_0, .int .i64 a1_1, .slice A1_2 l1_2.length c1_2]) (t := 33) ?hr ?_; (case hd => rfl); (case hg => rfl); (case hr => first | (go_simp; done) | (go_simp; rfl)); intro gb218 hg w5 hbox hb; have BK218 := aMk (hbox); have GW218 := aMk ((by rw [hg]; exact (below_size (by repeat (first | (with_reducible first | exact HB.out | apply eA | apply eN | apply eD | refine eS ?_ GE217.out) | exact HB.out))) : w.heap.size ≤ gb218)); have GE218 := aMk ((by rw [hg]; exact (below_size (by repeat (first | (with_reducible first | exact HB.out | apply eA | apply eN | apply eD | refine eS ?_ GE217.out) | exact HB.out))) : w.heap.size ≤ gb218)); have NB217_218 := aMk ((by rw [hg]; exact Nat.ne_of_lt (blk_lt (g := gb217) (o := .cells #[.int .u64 a0_0, .int .i64 a0_1, .slice A0_2 l0_2.length c0_2] 33 (0, 0)) (by (with_reducible repeat (first | apply bA | apply bN | apply bD)); exact BK217.out)) : gb217 ≠ gb218)); have NB218_217 := aMk ((by rw [hg]; exact Nat.ne_of_gt (blk_lt (g := gb217) (o := .cells #[.int .u64 a0_0, .int .i64 a0_1, .slice A0_2 l0_2.length c0_2] 33 (0, 0)) (by (with_reducible repeat (first | apply bA | apply bN | apply bD)); exact BK217.out)) : gb218 ≠ gb217)); replace BK217 := aMk (blk_below (g := gb217) (o := .cells #[.int .u64 a0_0, .int .i64 a0_1, .slice A0_2 l0_2.length c0_2] 33 (0, 0)) (by (with_reducible repeat (first | apply bA | apply bN | apply bD)); exact BK217.out) hb); replace HB := aMk (below_step (by repeat (first | (with_reducible first | exact HB.out | apply eA | apply eN | apply eD | refine eS ?_ GE217.out) | exact HB.out)) hb); clear hb hbox hg)))
 (try simp only [Act.put, sA, sB, sC])
 go_cut [26] (fun v26 wc => ∃ (kq : Nat) (x26_2 : Bool), v26 = .bool x26_2 ∧ Aside0 (gristmillref06_Same.j0 kq x26_2 a0_0 a0_1 l0_2 a1_0 a1_1 l1_2 = some r) ∧ Aside0 (kq ≤ k) ∧ Aside0 (wc.heap[gb217]? = some (.cells #[.int .u64 a0_0, .int .i64 a0_1, (.slice A0_2 l0_2.length c0_2)] 33 (0, 0))) ∧ Aside0 (wc.heap[gb218]? = some (.cells #[.int .u64 a1_0, .int .i64 a1_1, (.slice A1_2 l1_2.length c1_2)] 33 (0, 0))) ∧ Aside0 (Below w.heap.size w wc))
 case first =>
  have H := HC3.out
  clear HC3
  by_cases c6 : a0_0 = a1_0
  ·rw [if_pos c6] at H
   have c6b0 : (a0_0 == a1_0) = true := beq_iff_eq.mpr c6
   have c6b1 : (a0_0 != a1_0) = false := bne_eq_false_iff_eq.mpr c6
   clear c6
   (first | rw [c6b0] | (simp only [i64_w, i32_w]; rw [c6b0]) | skip)
   by_cases c7 : a0_1 = a1_1
   ·rw [if_pos c7] at H
    have c7b0 : (a0_1 == a1_1) = true := beq_iff_eq.mpr c7
    have c7b1 : (a0_1 != a1_1) = false := bne_eq_false_iff_eq.mpr c7
    clear c7
    have H' := aMk H
    clear H
    have hnb8 := NB217_218.out
    have hnc8 := NB218_217.out
    have hcz9_0 : w5.cell? ⟨gb217, 0, none⟩ = some (.int .u64 a0_0) := (blk_cell BK217.out 0).trans rfl
    have hcz9_1 : w5.cell? ⟨gb217, 1, none⟩ = some (.int .i64 a0_1) := (blk_cell BK217.out 1).trans rfl
    have hcz9_2 : w5.cell? ⟨gb217, 2, none⟩ = some (.slice A0_2 l0_2.length c0_2) := (blk_cell BK217.out 2).trans rfl
    have hfz9_0 := blk_frozen BK217.out 0
    have hfz9_1 := blk_frozen BK217.out 1
    have hfz9_2 := blk_frozen BK217.out 2
    have hcz10_0 : w5.cell? ⟨gb218, 0, none⟩ = some (.int .u64 a1_0) := (blk_cell BK218.out 0).trans rfl
    have hcz10_1 : w5.cell? ⟨gb218, 1, none⟩ = some (.int .i64 a1_1) := (blk_cell BK218.out 1).trans rfl
    have hcz10_2 : w5.cell? ⟨gb218, 2, none⟩ = some (.slice A1_2 l1_2.length c1_2) := (blk_cell BK218.out 2).trans rfl
    have hfz10_0 := blk_frozen BK218.out 0
    have hfz10_1 := blk_frozen BK218.out 1
    have hfz10_2 := blk_frozen BK218.out 2
    go_wp2
    repeat (go_quiet (fail); try go_wp2)
    go_meet
    case rel => exact ⟨_, (((l0_2.length : Int) != (l1_2.length : Int))), (by first | rfl | (simp; done) | (simp [*]; done)), H', ⟨by first | omega | exact Nat.le_refl _⟩, ⟨by (with_reducible repeat (first | apply bA | apply bN | apply bD)); exact BK217.out⟩, ⟨by (with_reducible repeat (first | apply bA | apply bN | apply bD)); exact BK218.out⟩, ⟨by repeat (first | (with_reducible first | exact HB.out | apply eA | apply eN | apply eD | refine eS ?_ GE217.out | refine eS ?_ GE218.out) | exact HB.out)⟩⟩
   ·rw [if_neg c7] at H
    have c7b0 : (a0_1 == a1_1) = false := beq_eq_false_iff_ne.mpr c7
    have c7b1 : (a0_1 != a1_1) = true := bne_iff_ne.mpr c7
    have H' := aMk H
    clear H
    have hnb11 := NB217_218.out
    have hnc11 := NB218_217.out
    have hcz12_0 : w5.cell? ⟨gb217, 0, none⟩ = some (.int .u64 a0_0) := (blk_cell BK217.out 0).trans rfl
    have hcz12_1 : w5.cell? ⟨gb217, 1, none⟩ = some (.int .i64 a0_1) := (blk_cell BK217.out 1).trans rfl
    have hcz12_2 : w5.cell? ⟨gb217, 2, none⟩ = some (.slice A0_2 l0_2.length c0_2) := (blk_cell BK217.out 2).trans rfl
    have hfz12_0 := blk_frozen BK217.out 0
    have hfz12_1 := blk_frozen BK217.out 1
    have hfz12_2 := blk_frozen BK217.out 2
    have hcz13_0 : w5.cell? ⟨gb218, 0, none⟩ = some (.int .u64 a1_0) := (blk_cell BK218.out 0).trans rfl
    have hcz13_1 : w5.cell? ⟨gb218, 1, none⟩ = some (.int .i64 a1_1) := (blk_cell BK218.out 1).trans rfl
    have hcz13_2 : w5.cell? ⟨gb218, 2, none⟩ = some (.slice A1_2 l1_2.length c1_2) := (blk_cell BK218.out 2).trans rfl
    have hfz13_0 := blk_frozen BK218.out 0
    have hfz13_1 := blk_frozen BK218.out 1
    have hfz13_2 := blk_frozen BK218.out 2
    go_wp2
    repeat (go_quiet (fail); try go_wp2)
    go_meet
    case rel => exact ⟨_, (true), (by first | rfl | (simp; done) | (simp [*]; done)), H', ⟨by first | omega | exact Nat.le_refl _⟩, ⟨by (with_reducible repeat (first | apply bA | apply bN | apply bD)); exact BK217.out⟩, ⟨by (with_reducible repeat (first | apply bA | apply bN | apply bD)); exact BK218.out⟩, ⟨by repeat (first | (with_reducible first | exact HB.out | apply eA | apply eN | apply eD | refine eS ?_ GE217.out | refine eS ?_ GE218.out) | exact HB.out)⟩⟩
  ·rw [if_neg c6] at H
   have c6b0 : (a0_0 == a1_0) = false := beq_eq_false_iff_ne.mpr c6
   have c6b1 : (a0_0 != a1_0) = true := bne_iff_ne.mpr c6
   (first | rw [c6b0] | (simp only [i64_w, i32_w]; rw [c6b0]) | skip)
   have H' := aMk H
   clear H
   have hnb14 := NB217_218.out
   have hnc14 := NB218_217.out
   have hcz15_0 : w5.cell? ⟨gb217, 0, none⟩ = some (.int .u64 a0_0) := (blk_cell BK217.out 0).trans rfl
   have hcz15_1 : w5.cell? ⟨gb217, 1, none⟩ = some (.int .i64 a0_1) := (blk_cell BK217.out 1).trans rfl
   have hcz15_2 : w5.cell? ⟨gb217, 2, none⟩ = some (.slice A0_2 l0_2.length c0_2) := (blk_cell BK217.out 2).trans rfl
   have hfz15_0 := blk_frozen BK217.out 0
   have hfz15_1 := blk_frozen BK217.out 1
   have hfz15_2 := blk_frozen BK217.out 2
   have hcz16_0 : w5.cell? ⟨gb218, 0, none⟩ = some (.int .u64 a1_0) := (blk_cell BK218.out 0).trans rfl
   have hcz16_1 : w5.cell? ⟨gb218, 1, none⟩ = some (.int .i64 a1_1) := (blk_cell BK218.out 1).trans rfl
   have hcz16_2 : w5.cell? ⟨gb218, 2, none⟩ = some (.slice A1_2 l1_2.length c1_2) := (blk_cell BK218.out 2).trans rfl
   have hfz16_0 := blk_frozen BK218.out 0
   have hfz16_1 := blk_frozen BK218.out 1
   have hfz16_2 := blk_frozen BK218.out 2
   go_wp2
   repeat (go_quiet (fail); try go_wp2)
   go_meet
   case rel => exact ⟨_, (true), (by first | rfl | (simp; done) | (simp [*]; done)), H', ⟨by first | omega | exact Nat.le_refl _⟩, ⟨by (with_reducible repeat (first | apply bA | apply bN | apply bD)); exact BK217.out⟩, ⟨by (with_reducible repeat (first | apply bA | apply bN | apply bD)); exact BK218.out⟩, ⟨by repeat (first | (with_reducible first | exact HB.out | apply eA | apply eN | apply eD | refine eS ?_ GE217.out | refine eS ?_ GE218.out) | exact HB.out)⟩⟩
 case rest =>
  clear HC3
  try clear c1
  try clear p2
  try clear c6
  try clear c6b0
  try clear c6b1
  try clear c7
  try clear c7b0
  try clear c7b1
  try clear c8
  try clear c9
  try clear c11
  try clear c14
  try clear hcz10_0
  try clear hcz10_1
  try clear hcz10_2
  try clear hcz12_0
  try clear hcz12_1
  try clear hcz12_2
  try clear hcz13_0
  try clear hcz13_1
  try clear hcz13_2
  try clear hcz15_0
  try clear hcz15_1
  try clear hcz15_2
  try clear hcz16_0
  try clear hcz16_1
  try clear hcz16_2
  try clear hcz9_0
  try clear hcz9_1
  try clear hcz9_2
  try clear hfz10_0
  try clear hfz10_1
  try clear hfz10_2
  try clear hfz12_0
  try clear hfz12_1
  try clear hfz12_2
  try clear hfz13_0
  try clear hfz13_1
  try clear hfz13_2
  try clear hfz15_0
  try clear hfz15_1
  try clear hfz15_2
  try clear hfz16_0
  try clear hfz16_1
  try clear hfz16_2
  try clear hfz9_0
  try clear hfz9_1
  try clear hfz9_2
  obtain ⟨kq, x26_2, rfl, HA, HJ2, BK217, BK218, HB⟩ := hcut
  cases kq with
  | zero => exact absurd HA.out (by simp [gristmillref06_Same.j0])
  | succ kj2 =>
   have H := HA.out
   clear HA
   simp only [gristmillref06_Same.j0] at H
   by_cases c17 : x26_2 = true
   ·subst c17
    have H1 : (some false) = some r := by rw [if_pos rfl] at H; exact H
    clear H
    have H := H1
    clear H1
    obtain rfl := Option.some.inj H
    go_wp2
    repeat (go_quiet (fail); try go_wp2)
    go_ret
    exact ⟨by first | rfl | (simp <;> rfl) | (simp [*] <;> rfl), by repeat (first | (with_reducible first | exact HB.out | apply eA | apply eN | apply eD | refine eS ?_ GE217.out | refine eS ?_ GE218.out) | exact HB.out)⟩
   ·replace c17 := Bool.eq_false_iff.mpr c17
    subst c17
    have H1 : (gristmillref06_Same.l0 kj2 0 a0_0 a0_1 l0_2 a1_0 a1_1 l1_2) = some r := by rw [if_neg (show ¬ (false = true) by decide)] at H; exact H
    clear H
    have H := H1
    clear H1
    have H' := aMk H
    clear H
    go_wp2
    repeat (go_quiet (fail); try go_wp2)
    go_loopg [5] kj2 (fun kq v5 w' => ∃ (x5_2 : Int), v5 = .int .i64 x5_2 ∧ Aside0 (gristmillref06_Same.l0 kq x5_2 a0_0 a0_1 l0_2 a1_0 a1_1 l1_2 = some r) ∧ Aside0 (kq ≤ kj2) ∧ Aside0 (w'.heap[gb217]? = some (.cells #[.int .u64 a0_0, .int .i64 a0_1, (.slice A0_2 l0_2.length c0_2)] 33 (0, 0))) ∧ Aside0 (w'.heap[gb218]? = some (.cells #[.int .u64 a1_0, .int .i64 a1_1, (.slice A1_2 l1_2.length c1_2)] 33 (0, 0))) ∧ Aside0 (Below w.heap.size w w'))
    case atStart => exact ⟨(0), (by first | rfl | (simp; done) | (simp [*]; done)), H', ⟨Nat.le_refl _⟩, ⟨by (with_reducible repeat (first | apply bA | apply bN | apply bD)); exact BK217.out⟩, ⟨by (with_reducible repeat (first | apply bA | apply bN | apply bD)); exact BK218.out⟩, ⟨by repeat (first | (with_reducible first | exact HB.out | apply eA | apply eN | apply eD | refine eS ?_ GE217.out | refine eS ?_ GE218.out) | exact HB.out)⟩⟩
    case round =>
     clear H'
     try clear c1
     try clear p2
     try clear c6
     try clear c6b0
     try clear c6b1
     try clear c7
     try clear c7b0
     try clear c7b1
     try clear c8
     try clear c9
     try clear c11
     try clear c14
     try clear c17
     try clear hcz10_0
     try clear hcz10_1
     try clear hcz10_2
     try clear hcz12_0
     try clear hcz12_1
     try clear hcz12_2
     try clear hcz13_0
     try clear hcz13_1
     try clear hcz13_2
     try clear hcz15_0
     try clear hcz15_1
     try clear hcz15_2
     try clear hcz16_0
     try clear hcz16_1
     try clear hcz16_2
     try clear hcz9_0
     try clear hcz9_1
     try clear hcz9_2
     try clear hfz10_0
     try clear hfz10_1
     try clear hfz10_2
     try clear hfz12_0
     try clear hfz12_1
     try clear hfz12_2
     try clear hfz13_0
     try clear hfz13_1
     try clear hfz13_2
     try clear hfz15_0
     try clear hfz15_1
     try clear hfz15_2
     try clear hfz16_0
     try clear hfz16_1
     try clear hfz16_2
     try clear hfz9_0
     try clear hfz9_1
     try clear hfz9_2
     try clear p2
     obtain ⟨x5_2, rfl, HA, HK2, BK217, BK218, HB⟩ := hrel
     cases gk with
     | zero => exact absurd HA.out (by simp [gristmillref06_Same.l0])
     | succ k2 =>
      have H := HA.out
      clear HA
      simp only [gristmillref06_Same.l0] at H
      by_cases c18 : x5_2 < (l0_2.length : Int)
      ·rw [if_pos c18] at H
       have c18b0 : decide (x5_2 < (l0_2.length : Int)) = true := decide_eq_true c18
       clear c18
       by_cases c19 : 0 ≤ x5_2
       ·rw [if_pos c19] at H
        have c19b0 : decide (0 ≤ x5_2) = true := decide_eq_true c19
        clear c19
        by_cases c20 : x5_2 < (l1_2.length : Int)
        ·rw [if_pos c20] at H
         have c20b0 : decide (x5_2 < (l1_2.length : Int)) = true := decide_eq_true c20
         clear c20
         by_cases c21 : (rdOf ByteArray.empty l0_2 x5_2).toList = (rdOf ByteArray.empty l1_2 x5_2).toList
         ·rw [if_pos c21] at H
          have c21b0 : ((rdOf ByteArray.empty l0_2 x5_2).toList == (rdOf ByteArray.empty l1_2 x5_2).toList) = true := beq_iff_eq.mpr c21
          have c21b1 : ((rdOf ByteArray.empty l0_2 x5_2).toList != (rdOf ByteArray.empty l1_2 x5_2).toList) = false := bne_eq_false_iff_eq.mpr c21
          clear c21
          have H' := aMk H
          clear H
          have hnb22 := NB217_218.out
          have hnc22 := NB218_217.out
          have hcz23_0 : wr.cell? ⟨gb217, 0, none⟩ = some (.int .u64 a0_0) := (blk_cell BK217.out 0).trans rfl
          have hcz23_1 : wr.cell? ⟨gb217, 1, none⟩ = some (.int .i64 a0_1) := (blk_cell BK217.out 1).trans rfl
          have hcz23_2 : wr.cell? ⟨gb217, 2, none⟩ = some (.slice A0_2 l0_2.length c0_2) := (blk_cell BK217.out 2).trans rfl
          have hfz23_0 := blk_frozen BK217.out 0
          have hfz23_1 := blk_frozen BK217.out 1
          have hfz23_2 := blk_frozen BK217.out 2
          have p219 : 0 ≤ (x5_2 : Int) := of_decide_eq_true (by first | (with_reducible assumption) | assumption)
          have q219 : x5_2 < (l0_2.length : Int) := of_decide_eq_true (by first | (with_reducible assumption) | assumption)
          obtain ⟨ad219, e219, hx219_0⟩ := Kd.at_string HR0_2.out x5_2 p219 q219
          cases e219
          replace hx219_0 := (HB.out.cell (World.block_lt_of_cell? w _ hx219_0)).trans hx219_0
          replace p219 := eq_true p219
          replace q219 := eq_true q219
          have hcz24_0 : wr.cell? ⟨gb218, 0, none⟩ = some (.int .u64 a1_0) := (blk_cell BK218.out 0).trans rfl
          have hcz24_1 : wr.cell? ⟨gb218, 1, none⟩ = some (.int .i64 a1_1) := (blk_cell BK218.out 1).trans rfl
          have hcz24_2 : wr.cell? ⟨gb218, 2, none⟩ = some (.slice A1_2 l1_2.length c1_2) := (blk_cell BK218.out 2).trans rfl
          have hfz24_0 := blk_frozen BK218.out 0
          have hfz24_1 := blk_frozen BK218.out 1
          have hfz24_2 := blk_frozen BK218.out 2
          have p220 : 0 ≤ (x5_2 : Int) := of_decide_eq_true (by first | (with_reducible assumption) | assumption)
          have q220 : x5_2 < (l1_2.length : Int) := of_decide_eq_true (by first | (with_reducible assumption) | assumption)
          obtain ⟨ad220, e220, hx220_0⟩ := Kd.at_string HR1_2.out x5_2 p220 q220
          cases e220
          replace hx220_0 := (HB.out.cell (World.block_lt_of_cell? w _ hx220_0)).trans hx220_0
          replace p220 := eq_true p220
          replace q220 := eq_true q220
          go_wp2
          repeat (go_quiet (fail); try go_wp2)
          go_roundg k2
          case measure => have := HJ2.out; have := HK2.out; omega
          case rel => exact ⟨(wrap64 (x5_2 + 1)), (by first | rfl | (simp; done) | (simp [*]; done)), H', ⟨by have := HJ2.out; have := HK2.out; omega⟩, ⟨by (with_reducible repeat (first | apply bA | apply bN | apply bD)); exact BK217.out⟩, ⟨by (with_reducible repeat (first | apply bA | apply bN | apply bD)); exact BK218.out⟩, ⟨by repeat (first | (with_reducible first | exact HB.out | apply eA | apply eN | apply eD | refine eS ?_ GE217.out | refine eS ?_ GE218.out) | exact HB.out)⟩⟩
         ·rw [if_neg c21] at H
          have c21b0 : ((rdOf ByteArray.empty l0_2 x5_2).toList == (rdOf ByteArray.empty l1_2 x5_2).toList) = false := beq_eq_false_iff_ne.mpr c21
          have c21b1 : ((rdOf ByteArray.empty l0_2 x5_2).toList != (rdOf ByteArray.empty l1_2 x5_2).toList) = true := bne_iff_ne.mpr c21
          obtain rfl := Option.some.inj H
          have hnb25 := NB217_218.out
          have hnc25 := NB218_217.out
          have hcz26_0 : wr.cell? ⟨gb217, 0, none⟩ = some (.int .u64 a0_0) := (blk_cell BK217.out 0).trans rfl
          have hcz26_1 : wr.cell? ⟨gb217, 1, none⟩ = some (.int .i64 a0_1) := (blk_cell BK217.out 1).trans rfl
          have hcz26_2 : wr.cell? ⟨gb217, 2, none⟩ = some (.slice A0_2 l0_2.length c0_2) := (blk_cell BK217.out 2).trans rfl
          have hfz26_0 := blk_frozen BK217.out 0
          have hfz26_1 := blk_frozen BK217.out 1
          have hfz26_2 := blk_frozen BK217.out 2
          have p219 : 0 ≤ (x5_2 : Int) := of_decide_eq_true (by first | (with_reducible assumption) | assumption)
          have q219 : x5_2 < (l0_2.length : Int) := of_decide_eq_true (by first | (with_reducible assumption) | assumption)
          obtain ⟨ad219, e219, hx219_0⟩ := Kd.at_string HR0_2.out x5_2 p219 q219
          cases e219
          replace hx219_0 := (HB.out.cell (World.block_lt_of_cell? w _ hx219_0)).trans hx219_0
          replace p219 := eq_true p219
          replace q219 := eq_true q219
          have hcz27_0 : wr.cell? ⟨gb218, 0, none⟩ = some (.int .u64 a1_0) := (blk_cell BK218.out 0).trans rfl
          have hcz27_1 : wr.cell? ⟨gb218, 1, none⟩ = some (.int .i64 a1_1) := (blk_cell BK218.out 1).trans rfl
          have hcz27_2 : wr.cell? ⟨gb218, 2, none⟩ = some (.slice A1_2 l1_2.length c1_2) := (blk_cell BK218.out 2).trans rfl
          have hfz27_0 := blk_frozen BK218.out 0
          have hfz27_1 := blk_frozen BK218.out 1
          have hfz27_2 := blk_frozen BK218.out 2
          have p220 : 0 ≤ (x5_2 : Int) := of_decide_eq_true (by first | (with_reducible assumption) | assumption)
          have q220 : x5_2 < (l1_2.length : Int) := of_decide_eq_true (by first | (with_reducible assumption) | assumption)
          obtain ⟨ad220, e220, hx220_0⟩ := Kd.at_string HR1_2.out x5_2 p220 q220
          cases e220
          replace hx220_0 := (HB.out.cell (World.block_lt_of_cell? w _ hx220_0)).trans hx220_0
          replace p220 := eq_true p220
          replace q220 := eq_true q220
          go_wp2
          repeat (go_quiet (fail); try go_wp2)
          go_ret
          exact ⟨by first | rfl | (simp <;> rfl) | (simp [*] <;> rfl), by repeat (first | (with_reducible first | exact HB.out | apply eA | apply eN | apply eD | refine eS ?_ GE217.out | refine eS ?_ GE218.out) | exact HB.out)⟩
        ·rw [if_neg c20] at H
         exact absurd H (by simp)
       ·rw [if_neg c19] at H
        exact absurd H (by simp)
      ·rw [if_neg c18] at H
       have c18b0 : decide (x5_2 < (l0_2.length : Int)) = false := decide_eq_false c18
       clear c18
       obtain rfl := Option.some.inj H
       have hnb28 := NB217_218.out
       have hnc28 := NB218_217.out
       have hcz29_0 : wr.cell? ⟨gb217, 0, none⟩ = some (.int .u64 a0_0) := (blk_cell BK217.out 0).trans rfl
       have hcz29_1 : wr.cell? ⟨gb217, 1, none⟩ = some (.int .i64 a0_1) := (blk_cell BK217.out 1).trans rfl
       have hcz29_2 : wr.cell? ⟨gb217, 2, none⟩ = some (.slice A0_2 l0_2.length c0_2) := (blk_cell BK217.out 2).trans rfl
       have hfz29_0 := blk_frozen BK217.out 0
       have hfz29_1 := blk_frozen BK217.out 1
       have hfz29_2 := blk_frozen BK217.out 2
       go_wp2
       repeat (go_quiet (fail); try go_wp2)
       go_ret
       exact ⟨by first | rfl | (simp <;> rfl) | (simp [*] <;> rfl), by repeat (first | (with_reducible first | exact HB.out | apply eA | apply eN | apply eD | refine eS ?_ GE217.out | refine eS ?_ GE218.out) | exact HB.out)⟩

end Go.Proofs.Ytkjjdpnpcjfgeaa.QAgg
