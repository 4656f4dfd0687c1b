/- Pruned for this claim by a program. -/
import Derived.Test.YtkjjdpnpcjfgeaaOwX0
import Derived.Test.YtkjjdpnpcjfgeaaOwShort
import Derived.Test.YtkjjdpnpcjfgeaaOwGtr
import Derived.Test.YtkjjdpnpcjfgeaaOwHand1
namespace Go.Proofs.Ytkjjdpnpcjfgeaa.QAgg
open Go.RowKit Go.Proofs.YtkjjdpnpcjfgeaaW.PrintWords Go.Proofs.YtkjjdpnpcjfgeaaW.PrintLast Go.Proofs.YtkjjdpnpcjfgeaaW.PrintMore Go.Proofs.Ytkjjdpnpcjfgeaa.Short
attribute [local go_sem] max2_int min2_int max_two min_two max_three min_three max_four min_four   -- for this text's walks alone
set_option linter.unusedVariables false
set_option linter.unusedSimpArgs false

def gristmillref06_put.l0 : Nat → List ByteArray → ByteArray → List ByteArray → Bool → Int → Option (List ByteArray)
 | 0, _, _, _, _, _ => none
 | k + 1, x0, x1, x5, x6, x7 => if x7 < (x0.length : Int) then (if 0 ≤ x7 then (if (rdOf ByteArray.empty x0 x7).toList = x1.toList then (if (Op.bytesLess x1.toList ((rdOf ByteArray.empty x0 x7).toList)) = true then (if x5.length < 8796093022208 then (gristmillref06_put.l0 k x0 x1 (x5 ++ [rdOf ByteArray.empty x0 x7]) true (wrap64 (x7 + 1))) else (none)) else (if x5.length < 8796093022208 then (gristmillref06_put.l0 k x0 x1 (x5 ++ [rdOf ByteArray.empty x0 x7]) true (wrap64 (x7 + 1))) else (none))) else (if (Op.bytesLess x1.toList ((rdOf ByteArray.empty x0 x7).toList)) = true then (if x6 = true then (if x5.length < 8796093022208 then (gristmillref06_put.l0 k x0 x1 (x5 ++ [rdOf ByteArray.empty x0 x7]) x6 (wrap64 (x7 + 1))) else (none)) else (if x5.length < 8796093022208 then ((some (x5 ++ [x1] : List ByteArray)).bind fun y239 => (if y239.length < 8796093022208 then (gristmillref06_put.l0 k x0 x1 (y239 ++ [rdOf ByteArray.empty x0 x7]) true (wrap64 (x7 + 1))) else (none))) else (none))) else (if x5.length < 8796093022208 then (gristmillref06_put.l0 k x0 x1 (x5 ++ [rdOf ByteArray.empty x0 x7]) x6 (wrap64 (x7 + 1))) else (none)))) else (none)) else (if x6 = true then (some x5) else (if x5.length < 8796093022208 then (some (x5 ++ [x1])) else (none)))
def gristmillref06_put.f (k : Nat) (l0 : List ByteArray) (a1 : ByteArray) : Option (List ByteArray) := gristmillref06_put.l0 k l0 a1 ([] : List ByteArray) false 0
set_option maxHeartbeats 8000000 in
set_option maxRecDepth 100000 in
theorem gristmillref06_put.calls (k : Nat) (A0 : Option Addr) (c0 : Nat) (l0 : List ByteArray) (a1 : ByteArray) (r : List ByteArray) (w : World) (hr0 : Kd.C Kd.string w A0 l0.length l0) (hc0 : l0.length ≤ c0) (h : gristmillref06_put.f k l0 a1 = some r) :
  Calls Try.prog 23 #[.slice A0 l0.length c0, .string a1] w fun e w' => ∃ v0_ : Value, e = .returned (v0_) ∧ Kd.R Kd.string 9 w' w.heap.size (fun _ => True) v0_ r ∧ Below w.heap.size w w' := by
 have HR0 := aMk hr0
 have HC0 := aMk hc0
 clear hr0 hc0
 have HB := aMk (Below.refl w.heap.size w)
 have H : (gristmillref06_put.l0 k l0 a1 ([] : List ByteArray) false 0) = some r := h
 clear h
 have H' := aMk H
 clear H
 go_enter Try.func23, Try.ntmps23
 go_wp2
 go_loopg [5, 6, 7] k (fun kq v5 v6 v7 w' => ∃ (x5_1 : List ByteArray) (x6_1 : Bool) (x7_1 : Int), v6 = .bool x6_1 ∧ v7 = .int .i64 x7_1 ∧ Aside0 (gristmillref06_put.l0 kq l0 a1 x5_1 x6_1 x7_1 = some r) ∧ Aside0 (kq ≤ k) ∧ Aside0 (Kd.R Kd.string 9 w' w.heap.size (fun _ => True) v5 x5_1) ∧ Aside0 (Below w.heap.size w w'))
 case atStart => exact ⟨(([] : List ByteArray)), (false), (0), (by first | rfl | (simp; done) | (simp [*]; done)), (by first | rfl | (simp; done) | (simp [*]; done)), H', ⟨Nat.le_refl _⟩, ⟨by first | exact Kd.R_nil _ _ _ _ _ | exact Kd.N_nil _ _ _ _ _ | exact Kd.V_nil _ _ _ _ _ | exact Kd.Q_nil _ _ _ _ _ | exact Kd.S_nil _ _ _ _ _⟩, ⟨by repeat (first | (with_reducible first | exact HB.out | apply eA | apply eN | apply eD) | exact HB.out)⟩⟩
 case round =>
  clear H'
  try clear c2
  try clear p2
  obtain ⟨x5_1, x6_1, x7_1, rfl, rfl, HA, HK1, HO_5, HB⟩ := hrel
  cases gk with
  | zero => exact absurd HA.out (by simp [gristmillref06_put.l0])
  | succ k1 =>
   have H := HA.out
   clear HA
   simp only [gristmillref06_put.l0] at H
   by_cases c3 : x7_1 < (l0.length : Int)
   ·rw [if_pos c3] at H
    have c3b0 : decide (x7_1 < (l0.length : Int)) = true := decide_eq_true c3
    clear c3
    by_cases c4 : 0 ≤ x7_1
    ·rw [if_pos c4] at H
     have c4b0 : decide (0 ≤ x7_1) = true := decide_eq_true c4
     clear c4
     by_cases c5 : (rdOf ByteArray.empty l0 x7_1).toList = a1.toList
     ·rw [if_pos c5] at H
      have c5b0 : ((rdOf ByteArray.empty l0 x7_1).toList == a1.toList) = true := beq_iff_eq.mpr c5
      have c5b1 : ((rdOf ByteArray.empty l0 x7_1).toList != a1.toList) = false := bne_eq_false_iff_eq.mpr c5
      clear c5
      by_cases c6 : (Op.bytesLess a1.toList ((rdOf ByteArray.empty l0 x7_1).toList)) = true
      ·rw [if_pos c6] at H
       have c6b0 : (Op.bytesLess a1.toList ((rdOf ByteArray.empty l0 x7_1).toList)) = true := c6
       clear c6
       by_cases c7 : x5_1.length < 8796093022208
       ·rw [if_pos c7] at H
        have LMc7 := aMk c7
        clear c7
        obtain ⟨y227, hy227⟩ : ∃ y_ : List ByteArray, y_ = (x5_1 ++ [rdOf ByteArray.empty l0 x7_1]) := ⟨_, rfl⟩
        replace H : (gristmillref06_put.l0 k1 l0 a1 y227 true (wrap64 (x7_1 + 1))) = some r := by first | (rw [hy227]; with_reducible exact H) | (have H2_ := (Option.bind_some _ _).symm.trans H; rw [hy227]; with_reducible exact H2_) | (have H2_ := (Option.bind_some _ _).symm.trans H; with_reducible exact H2_) | with_reducible exact H | (rw [hy227]; exact H) | exact H
        have Ny227 := aMk hy227
        clear hy227
        have H' := aMk H
        clear H
        have p224 : 0 ≤ (x7_1 : Int) := of_decide_eq_true (by first | (with_reducible assumption) | assumption)
        have q224 : x7_1 < (l0.length : Int) := of_decide_eq_true (by first | (with_reducible assumption) | assumption)
        obtain ⟨ad224, e224, hx224_0⟩ := Kd.at_string HR0.out x7_1 p224 q224
        cases e224
        replace hx224_0 := (HB.out.cell (World.block_lt_of_cell? w _ hx224_0)).trans hx224_0
        replace p224 := eq_true p224
        replace q224 := eq_true q224
        have p225 : 0 ≤ (x7_1 : Int) := of_decide_eq_true (by first | (with_reducible assumption) | assumption)
        have q225 : x7_1 < (l0.length : Int) := of_decide_eq_true (by first | (with_reducible assumption) | assumption)
        obtain ⟨ad225, e225, hx225_0⟩ := Kd.at_string HR0.out x7_1 p225 q225
        obtain rfl : ad224 = ad225 := (by injection e225)
        replace hx225_0 := (HB.out.cell (World.block_lt_of_cell? w _ hx225_0)).trans hx225_0
        replace p225 := eq_true p225
        replace q225 := eq_true q225
        have p226 : 0 ≤ (x7_1 : Int) := of_decide_eq_true (by first | (with_reducible assumption) | assumption)
        have q226 : x7_1 < (l0.length : Int) := of_decide_eq_true (by first | (with_reducible assumption) | assumption)
        obtain ⟨ad226, e226, hx226_0⟩ := Kd.at_string HR0.out x7_1 p226 q226
        obtain rfl : ad224 = ad226 := (by injection e226)
        replace hx226_0 := (HB.out.cell (World.block_lt_of_cell? w _ hx226_0)).trans hx226_0
        replace p226 := eq_true p226
        replace q226 := eq_true q226
        go_wp2_with (first | ((with_reducible refine gate_builtin (b := .append) (xs := #[.tmp 34, .tmp 39]) rfl ?_); at_builtin; refine Kd.R_append Kd.string (w0 := w) w.heap.size rfl (.tmp 34) (.tmp 39) 31 9 (.string ⟨#[]⟩) 16 rfl Try.underlying31 info9 rfl (by decide) (by omega) u5 x5_1 (rdOf ByteArray.empty l0 x7_1) [.string (rdOf ByteArray.empty l0 x7_1)] (fun _ => True) (fun _ => False) rfl rfl ?aP (fun _ hk => hk.elim) ?aF ?aO ?aB ?aS ?aL ?_; (case aP => exact rfl); (case aB => exact (by repeat (first | (with_reducible first | exact HB.out | apply eA | apply eN | apply eD) | exact HB.out))); (case aF => exact (fun _ _ => trivial)); (case aO => exact (by (with_reducible repeat (first | apply rA | apply rN | apply rD)); exact HO_5.out)); (case aS => exact (below_size (by repeat (first | (with_reducible first | exact HB.out | apply eA | apply eN | apply eD) | exact HB.out)))); (case aL => have := LMc7.out; omega); intro v228 w8 ho hb hg hat; rw [← Ny227.out] at ho; have HO229 := aMk (ho); replace HB := aMk (hb); clear HO_5; clear ho hb hg hat))
        go_roundg k1
        case measure => have := HK1.out; omega
        case rel => exact ⟨(y227), (true), (wrap64 (x7_1 + 1)), (by first | rfl | (simp; done) | (simp [*]; done)), (by first | rfl | (simp; done) | (simp [*]; done)), H', ⟨by have := HK1.out; omega⟩, ⟨by (with_reducible repeat (first | apply rA | apply rN | apply rD)); exact HO229.out⟩, ⟨by repeat (first | (with_reducible first | exact HB.out | apply eA | apply eN | apply eD) | exact HB.out)⟩⟩
       ·rw [if_neg c7] at H
        exact absurd H (by simp)
      ·rw [if_neg c6] at H
       have c6b0 : (Op.bytesLess a1.toList ((rdOf ByteArray.empty l0 x7_1).toList)) = false := by simpa using c6
       clear c6
       by_cases c9 : x5_1.length < 8796093022208
       ·rw [if_pos c9] at H
        have LMc9 := aMk c9
        clear c9
        obtain ⟨y231, hy231⟩ : ∃ y_ : List ByteArray, y_ = (x5_1 ++ [rdOf ByteArray.empty l0 x7_1]) := ⟨_, rfl⟩
        replace H : (gristmillref06_put.l0 k1 l0 a1 y231 true (wrap64 (x7_1 + 1))) = some r := by first | (rw [hy231]; with_reducible exact H) | (have H2_ := (Option.bind_some _ _).symm.trans H; rw [hy231]; with_reducible exact H2_) | (have H2_ := (Option.bind_some _ _).symm.trans H; with_reducible exact H2_) | with_reducible exact H | (rw [hy231]; exact H) | exact H
        have Ny231 := aMk hy231
        clear hy231
        have H' := aMk H
        clear H
        have p224 : 0 ≤ (x7_1 : Int) := of_decide_eq_true (by first | (with_reducible assumption) | assumption)
        have q224 : x7_1 < (l0.length : Int) := of_decide_eq_true (by first | (with_reducible assumption) | assumption)
        obtain ⟨ad224, e224, hx224_0⟩ := Kd.at_string HR0.out x7_1 p224 q224
        cases e224
        replace hx224_0 := (HB.out.cell (World.block_lt_of_cell? w _ hx224_0)).trans hx224_0
        replace p224 := eq_true p224
        replace q224 := eq_true q224
        have p225 : 0 ≤ (x7_1 : Int) := of_decide_eq_true (by first | (with_reducible assumption) | assumption)
        have q225 : x7_1 < (l0.length : Int) := of_decide_eq_true (by first | (with_reducible assumption) | assumption)
        obtain ⟨ad225, e225, hx225_0⟩ := Kd.at_string HR0.out x7_1 p225 q225
        obtain rfl : ad224 = ad225 := (by injection e225)
        replace hx225_0 := (HB.out.cell (World.block_lt_of_cell? w _ hx225_0)).trans hx225_0
        replace p225 := eq_true p225
        replace q225 := eq_true q225
        have p230 : 0 ≤ (x7_1 : Int) := of_decide_eq_true (by first | (with_reducible assumption) | assumption)
        have q230 : x7_1 < (l0.length : Int) := of_decide_eq_true (by first | (with_reducible assumption) | assumption)
        obtain ⟨ad230, e230, hx230_0⟩ := Kd.at_string HR0.out x7_1 p230 q230
        obtain rfl : ad224 = ad230 := (by injection e230)
        replace hx230_0 := (HB.out.cell (World.block_lt_of_cell? w _ hx230_0)).trans hx230_0
        replace p230 := eq_true p230
        replace q230 := eq_true q230
        go_wp2_with (first | ((with_reducible refine gate_builtin (b := .append) (xs := #[.tmp 34, .tmp 39]) rfl ?_); at_builtin; refine Kd.R_append Kd.string (w0 := w) w.heap.size rfl (.tmp 34) (.tmp 39) 31 9 (.string ⟨#[]⟩) 16 rfl Try.underlying31 info9 rfl (by decide) (by omega) u5 x5_1 (rdOf ByteArray.empty l0 x7_1) [.string (rdOf ByteArray.empty l0 x7_1)] (fun _ => True) (fun _ => False) rfl rfl ?aP (fun _ hk => hk.elim) ?aF ?aO ?aB ?aS ?aL ?_; (case aP => exact rfl); (case aB => exact (by repeat (first | (with_reducible first | exact HB.out | apply eA | apply eN | apply eD) | exact HB.out))); (case aF => exact (fun _ _ => trivial)); (case aO => exact (by (with_reducible repeat (first | apply rA | apply rN | apply rD)); exact HO_5.out)); (case aS => exact (below_size (by repeat (first | (with_reducible first | exact HB.out | apply eA | apply eN | apply eD) | exact HB.out)))); (case aL => have := LMc9.out; omega); intro v232 w10 ho hb hg hat; rw [← Ny231.out] at ho; have HO233 := aMk (ho); replace HB := aMk (hb); clear HO_5; clear ho hb hg hat))
        go_roundg k1
        case measure => have := HK1.out; omega
        case rel => exact ⟨(y231), (true), (wrap64 (x7_1 + 1)), (by first | rfl | (simp; done) | (simp [*]; done)), (by first | rfl | (simp; done) | (simp [*]; done)), H', ⟨by have := HK1.out; omega⟩, ⟨by (with_reducible repeat (first | apply rA | apply rN | apply rD)); exact HO233.out⟩, ⟨by repeat (first | (with_reducible first | exact HB.out | apply eA | apply eN | apply eD) | exact HB.out)⟩⟩
       ·rw [if_neg c9] at H
        exact absurd H (by simp)
     ·rw [if_neg c5] at H
      have c5b0 : ((rdOf ByteArray.empty l0 x7_1).toList == a1.toList) = false := beq_eq_false_iff_ne.mpr c5
      have c5b1 : ((rdOf ByteArray.empty l0 x7_1).toList != a1.toList) = true := bne_iff_ne.mpr c5
      by_cases c11 : (Op.bytesLess a1.toList ((rdOf ByteArray.empty l0 x7_1).toList)) = true
      ·rw [if_pos c11] at H
       have c11b0 : (Op.bytesLess a1.toList ((rdOf ByteArray.empty l0 x7_1).toList)) = true := c11
       clear c11
       by_cases c12 : x6_1 = true
       ·subst c12
        have H1 : (if x5_1.length < 8796093022208 then (gristmillref06_put.l0 k1 l0 a1 (x5_1 ++ [rdOf ByteArray.empty l0 x7_1]) true (wrap64 (x7_1 + 1))) else (none)) = some r := by rw [if_pos rfl] at H; exact H
        clear H
        have H := H1
        clear H1
        by_cases c13 : x5_1.length < 8796093022208
        ·rw [if_pos c13] at H
         have LMc13 := aMk c13
         clear c13
         obtain ⟨y236, hy236⟩ : ∃ y_ : List ByteArray, y_ = (x5_1 ++ [rdOf ByteArray.empty l0 x7_1]) := ⟨_, rfl⟩
         replace H : (gristmillref06_put.l0 k1 l0 a1 y236 true (wrap64 (x7_1 + 1))) = some r := by first | (rw [hy236]; with_reducible exact H) | (have H2_ := (Option.bind_some _ _).symm.trans H; rw [hy236]; with_reducible exact H2_) | (have H2_ := (Option.bind_some _ _).symm.trans H; with_reducible exact H2_) | with_reducible exact H | (rw [hy236]; exact H) | exact H
         have Ny236 := aMk hy236
         clear hy236
         have H' := aMk H
         clear H
         have p224 : 0 ≤ (x7_1 : Int) := of_decide_eq_true (by first | (with_reducible assumption) | assumption)
         have q224 : x7_1 < (l0.length : Int) := of_decide_eq_true (by first | (with_reducible assumption) | assumption)
         obtain ⟨ad224, e224, hx224_0⟩ := Kd.at_string HR0.out x7_1 p224 q224
         cases e224
         replace hx224_0 := (HB.out.cell (World.block_lt_of_cell? w _ hx224_0)).trans hx224_0
         replace p224 := eq_true p224
         replace q224 := eq_true q224
         have p234 : 0 ≤ (x7_1 : Int) := of_decide_eq_true (by first | (with_reducible assumption) | assumption)
         have q234 : x7_1 < (l0.length : Int) := of_decide_eq_true (by first | (with_reducible assumption) | assumption)
         obtain ⟨ad234, e234, hx234_0⟩ := Kd.at_string HR0.out x7_1 p234 q234
         obtain rfl : ad224 = ad234 := (by injection e234)
         replace hx234_0 := (HB.out.cell (World.block_lt_of_cell? w _ hx234_0)).trans hx234_0
         replace p234 := eq_true p234
         replace q234 := eq_true q234
         have p235 : 0 ≤ (x7_1 : Int) := of_decide_eq_true (by first | (with_reducible assumption) | assumption)
         have q235 : x7_1 < (l0.length : Int) := of_decide_eq_true (by first | (with_reducible assumption) | assumption)
         obtain ⟨ad235, e235, hx235_0⟩ := Kd.at_string HR0.out x7_1 p235 q235
         obtain rfl : ad224 = ad235 := (by injection e235)
         replace hx235_0 := (HB.out.cell (World.block_lt_of_cell? w _ hx235_0)).trans hx235_0
         replace p235 := eq_true p235
         replace q235 := eq_true q235
         go_wp2_with (first | ((with_reducible refine gate_builtin (b := .append) (xs := #[.tmp 34, .tmp 39]) rfl ?_); at_builtin; refine Kd.R_append Kd.string (w0 := w) w.heap.size rfl (.tmp 34) (.tmp 39) 31 9 (.string ⟨#[]⟩) 16 rfl Try.underlying31 info9 rfl (by decide) (by omega) u5 x5_1 (rdOf ByteArray.empty l0 x7_1) [.string (rdOf ByteArray.empty l0 x7_1)] (fun _ => True) (fun _ => False) rfl rfl ?aP (fun _ hk => hk.elim) ?aF ?aO ?aB ?aS ?aL ?_; (case aP => exact rfl); (case aB => exact (by repeat (first | (with_reducible first | exact HB.out | apply eA | apply eN | apply eD) | exact HB.out))); (case aF => exact (fun _ _ => trivial)); (case aO => exact (by (with_reducible repeat (first | apply rA | apply rN | apply rD)); exact HO_5.out)); (case aS => exact (below_size (by repeat (first | (with_reducible first | exact HB.out | apply eA | apply eN | apply eD) | exact HB.out)))); (case aL => have := LMc13.out; omega); intro v237 w14 ho hb hg hat; rw [← Ny236.out] at ho; have HO238 := aMk (ho); replace HB := aMk (hb); clear HO_5; clear ho hb hg hat))
         go_roundg k1
         case measure => have := HK1.out; omega
         case rel => exact ⟨(y236), (true), (wrap64 (x7_1 + 1)), (by first | rfl | (simp; done) | (simp [*]; done)), (by first | rfl | (simp; done) | (simp [*]; done)), H', ⟨by have := HK1.out; omega⟩, ⟨by (with_reducible repeat (first | apply rA | apply rN | apply rD)); exact HO238.out⟩, ⟨by repeat (first | (with_reducible first | exact HB.out | apply eA | apply eN | apply eD) | exact HB.out)⟩⟩
        ·rw [if_neg c13] at H
         exact absurd H (by simp)
       ·replace c12 := Bool.eq_false_iff.mpr c12
        subst c12
        have H1 : (if x5_1.length < 8796093022208 then ((some (x5_1 ++ [a1] : List ByteArray)).bind fun y239 => (if y239.length < 8796093022208 then (gristmillref06_put.l0 k1 l0 a1 (y239 ++ [rdOf ByteArray.empty l0 x7_1]) true (wrap64 (x7_1 + 1))) else (none))) else (none)) = some r := by rw [if_neg (show ¬ (false = true) by decide)] at H; exact H
        clear H
        have H := H1
        clear H1
        by_cases c15 : x5_1.length < 8796093022208
        ·rw [if_pos c15] at H
         have LMc15 := aMk c15
         clear c15
         obtain ⟨y239, hy239⟩ : ∃ y_ : List ByteArray, y_ = (x5_1 ++ [a1]) := ⟨_, rfl⟩
         replace H : (if y239.length < 8796093022208 then (gristmillref06_put.l0 k1 l0 a1 (y239 ++ [rdOf ByteArray.empty l0 x7_1]) true (wrap64 (x7_1 + 1))) else (none)) = some r := by first | (rw [hy239]; with_reducible exact H) | (have H2_ := (Option.bind_some _ _).symm.trans H; rw [hy239]; with_reducible exact H2_) | (have H2_ := (Option.bind_some _ _).symm.trans H; with_reducible exact H2_) | with_reducible exact H | (rw [hy239]; exact H) | exact H
         have Ny239 := aMk hy239
         clear hy239
         by_cases c16 : y239.length < 8796093022208
         ·rw [if_pos c16] at H
          have LMc16 := aMk c16
          clear c16
          obtain ⟨y243, hy243⟩ : ∃ y_ : List ByteArray, y_ = (y239 ++ [rdOf ByteArray.empty l0 x7_1]) := ⟨_, rfl⟩
          replace H : (gristmillref06_put.l0 k1 l0 a1 y243 true (wrap64 (x7_1 + 1))) = some r := by first | (rw [hy243]; with_reducible exact H) | (have H2_ := (Option.bind_some _ _).symm.trans H; rw [hy243]; with_reducible exact H2_) | (have H2_ := (Option.bind_some _ _).symm.trans H; with_reducible exact H2_) | with_reducible exact H | (rw [hy243]; exact H) | exact H
          have Ny243 := aMk hy243
          clear hy243
          have H' := aMk H
          clear H
          have p224 : 0 ≤ (x7_1 : Int) := of_decide_eq_true (by first | (with_reducible assumption) | assumption)
          have q224 : x7_1 < (l0.length : Int) := of_decide_eq_true (by first | (with_reducible assumption) | assumption)
          obtain ⟨ad224, e224, hx224_0⟩ := Kd.at_string HR0.out x7_1 p224 q224
          cases e224
          replace hx224_0 := (HB.out.cell (World.block_lt_of_cell? w _ hx224_0)).trans hx224_0
          replace p224 := eq_true p224
          replace q224 := eq_true q224
          have p234 : 0 ≤ (x7_1 : Int) := of_decide_eq_true (by first | (with_reducible assumption) | assumption)
          have q234 : x7_1 < (l0.length : Int) := of_decide_eq_true (by first | (with_reducible assumption) | assumption)
          obtain ⟨ad234, e234, hx234_0⟩ := Kd.at_string HR0.out x7_1 p234 q234
          obtain rfl : ad224 = ad234 := (by injection e234)
          replace hx234_0 := (HB.out.cell (World.block_lt_of_cell? w _ hx234_0)).trans hx234_0
          replace p234 := eq_true p234
          replace q234 := eq_true q234
          go_wp2_with (first | ((with_reducible refine gate_builtin (b := .append) (xs := #[.tmp 30, .tmp 32]) rfl ?_); at_builtin; refine Kd.R_append Kd.string (w0 := w) w.heap.size rfl (.tmp 30) (.tmp 32) 31 9 (.string ⟨#[]⟩) 16 rfl Try.underlying31 info9 rfl (by decide) (by omega) u5 x5_1 a1 [.string a1] (fun _ => True) (fun _ => False) rfl rfl ?aP (fun _ hk => hk.elim) ?aF ?aO ?aB ?aS ?aL ?_; (case aP => exact rfl); (case aB => exact (by repeat (first | (with_reducible first | exact HB.out | apply eA | apply eN | apply eD) | exact HB.out))); (case aF => exact (fun _ _ => trivial)); (case aO => exact (by (with_reducible repeat (first | apply rA | apply rN | apply rD)); exact HO_5.out)); (case aS => exact (below_size (by repeat (first | (with_reducible first | exact HB.out | apply eA | apply eN | apply eD) | exact HB.out)))); (case aL => have := LMc15.out; omega); intro v240 w17 ho hb hg hat; rw [← Ny239.out] at ho; have HO241 := aMk (ho); replace HB := aMk (hb); clear HO_5; clear ho hb hg hat; have p242 : 0 ≤ (x7_1 : Int) := of_decide_eq_true (by first | (with_reducible assumption) | assumption); have q242 : x7_1 < (l0.length : Int) := of_decide_eq_true (by first | (with_reducible assumption) | assumption); obtain ⟨ad242, e242, hx242_0⟩ := Kd.at_string HR0.out x7_1 p242 q242; obtain rfl : ad224 = ad242 := (by injection e242); replace hx242_0 := (HB.out.cell (World.block_lt_of_cell? w _ hx242_0)).trans hx242_0; replace p242 := eq_true p242; replace q242 := eq_true q242) | ((with_reducible refine gate_builtin (b := .append) (xs := #[.tmp 34, .tmp 39]) rfl ?_); at_builtin; refine Kd.R_append Kd.string (w0 := w) w.heap.size rfl (.tmp 34) (.tmp 39) 31 9 (.string ⟨#[]⟩) 16 rfl Try.underlying31 info9 rfl (by decide) (by omega) v240 y239 (rdOf ByteArray.empty l0 x7_1) [.string (rdOf ByteArray.empty l0 x7_1)] (fun _ => True) (fun _ => False) rfl rfl ?aP (fun _ hk => hk.elim) ?aF ?aO ?aB ?aS ?aL ?_; (case aP => exact rfl); (case aB => exact (by repeat (first | (with_reducible first | exact HB.out | apply eA | apply eN | apply eD) | exact HB.out))); (case aF => exact (fun _ _ => trivial)); (case aO => exact (by (with_reducible repeat (first | apply rA | apply rN | apply rD)); exact HO241.out)); (case aS => exact (below_size (by repeat (first | (with_reducible first | exact HB.out | apply eA | apply eN | apply eD) | exact HB.out)))); (case aL => have := LMc16.out; omega); intro v244 w18 ho hb hg hat; rw [← Ny243.out] at ho; have HO245 := aMk (ho); replace HB := aMk (hb); clear HO241; clear ho hb hg hat))
          go_roundg k1
          case measure => have := HK1.out; omega
          case rel => exact ⟨(y243), (true), (wrap64 (x7_1 + 1)), (by first | rfl | (simp; done) | (simp [*]; done)), (by first | rfl | (simp; done) | (simp [*]; done)), H', ⟨by have := HK1.out; omega⟩, ⟨by (with_reducible repeat (first | apply rA | apply rN | apply rD)); exact HO245.out⟩, ⟨by repeat (first | (with_reducible first | exact HB.out | apply eA | apply eN | apply eD) | exact HB.out)⟩⟩
         ·rw [if_neg c16] at H
          exact absurd H (by simp)
        ·rw [if_neg c15] at H
         exact absurd H (by simp)
      ·rw [if_neg c11] at H
       have c11b0 : (Op.bytesLess a1.toList ((rdOf ByteArray.empty l0 x7_1).toList)) = false := by simpa using c11
       clear c11
       by_cases c19 : x5_1.length < 8796093022208
       ·rw [if_pos c19] at H
        have LMc19 := aMk c19
        clear c19
        obtain ⟨y247, hy247⟩ : ∃ y_ : List ByteArray, y_ = (x5_1 ++ [rdOf ByteArray.empty l0 x7_1]) := ⟨_, rfl⟩
        replace H : (gristmillref06_put.l0 k1 l0 a1 y247 x6_1 (wrap64 (x7_1 + 1))) = some r := by first | (rw [hy247]; with_reducible exact H) | (have H2_ := (Option.bind_some _ _).symm.trans H; rw [hy247]; with_reducible exact H2_) | (have H2_ := (Option.bind_some _ _).symm.trans H; with_reducible exact H2_) | with_reducible exact H | (rw [hy247]; exact H) | exact H
        have Ny247 := aMk hy247
        clear hy247
        have H' := aMk H
        clear H
        have p224 : 0 ≤ (x7_1 : Int) := of_decide_eq_true (by first | (with_reducible assumption) | assumption)
        have q224 : x7_1 < (l0.length : Int) := of_decide_eq_true (by first | (with_reducible assumption) | assumption)
        obtain ⟨ad224, e224, hx224_0⟩ := Kd.at_string HR0.out x7_1 p224 q224
        cases e224
        replace hx224_0 := (HB.out.cell (World.block_lt_of_cell? w _ hx224_0)).trans hx224_0
        replace p224 := eq_true p224
        replace q224 := eq_true q224
        have p234 : 0 ≤ (x7_1 : Int) := of_decide_eq_true (by first | (with_reducible assumption) | assumption)
        have q234 : x7_1 < (l0.length : Int) := of_decide_eq_true (by first | (with_reducible assumption) | assumption)
        obtain ⟨ad234, e234, hx234_0⟩ := Kd.at_string HR0.out x7_1 p234 q234
        obtain rfl : ad224 = ad234 := (by injection e234)
        replace hx234_0 := (HB.out.cell (World.block_lt_of_cell? w _ hx234_0)).trans hx234_0
        replace p234 := eq_true p234
        replace q234 := eq_true q234
        have p246 : 0 ≤ (x7_1 : Int) := of_decide_eq_true (by first | (with_reducible assumption) | assumption)
        have q246 : x7_1 < (l0.length : Int) := of_decide_eq_true (by first | (with_reducible assumption) | assumption)
        obtain ⟨ad246, e246, hx246_0⟩ := Kd.at_string HR0.out x7_1 p246 q246
        obtain rfl : ad224 = ad246 := (by injection e246)
        replace hx246_0 := (HB.out.cell (World.block_lt_of_cell? w _ hx246_0)).trans hx246_0
        replace p246 := eq_true p246
        replace q246 := eq_true q246
        go_wp2_with (first | ((with_reducible refine gate_builtin (b := .append) (xs := #[.tmp 34, .tmp 39]) rfl ?_); at_builtin; refine Kd.R_append Kd.string (w0 := w) w.heap.size rfl (.tmp 34) (.tmp 39) 31 9 (.string ⟨#[]⟩) 16 rfl Try.underlying31 info9 rfl (by decide) (by omega) u5 x5_1 (rdOf ByteArray.empty l0 x7_1) [.string (rdOf ByteArray.empty l0 x7_1)] (fun _ => True) (fun _ => False) rfl rfl ?aP (fun _ hk => hk.elim) ?aF ?aO ?aB ?aS ?aL ?_; (case aP => exact rfl); (case aB => exact (by repeat (first | (with_reducible first | exact HB.out | apply eA | apply eN | apply eD) | exact HB.out))); (case aF => exact (fun _ _ => trivial)); (case aO => exact (by (with_reducible repeat (first | apply rA | apply rN | apply rD)); exact HO_5.out)); (case aS => exact (below_size (by repeat (first | (with_reducible first | exact HB.out | apply eA | apply eN | apply eD) | exact HB.out)))); (case aL => have := LMc19.out; omega); intro v248 w20 ho hb hg hat; rw [← Ny247.out] at ho; have HO249 := aMk (ho); replace HB := aMk (hb); clear HO_5; clear ho hb hg hat))
        go_roundg k1
        case measure => have := HK1.out; omega
        case rel => exact ⟨(y247), (x6_1), (wrap64 (x7_1 + 1)), (by first | rfl | (simp; done) | (simp [*]; done)), (by first | rfl | (simp; done) | (simp [*]; done)), H', ⟨by have := HK1.out; omega⟩, ⟨by (with_reducible repeat (first | apply rA | apply rN | apply rD)); exact HO249.out⟩, ⟨by repeat (first | (with_reducible first | exact HB.out | apply eA | apply eN | apply eD) | exact HB.out)⟩⟩
       ·rw [if_neg c19] at H
        exact absurd H (by simp)
    ·rw [if_neg c4] at H
     exact absurd H (by simp)
   ·rw [if_neg c3] at H
    have c3b0 : decide (x7_1 < (l0.length : Int)) = false := decide_eq_false c3
    clear c3
    by_cases c21 : x6_1 = true
    ·subst c21
     have H1 : (some x5_1) = some r := by rw [if_pos rfl] at H; exact H
     clear H
     have H := H1
     clear H1
     obtain rfl := Option.some.inj H
     go_wp2
     go_ret
     exact ⟨_, by first | rfl | (simp <;> rfl) | (simp [*] <;> rfl), by (with_reducible repeat (first | apply rA | apply rN | apply rD)); exact HO_5.out, by repeat (first | (with_reducible first | exact HB.out | apply eA | apply eN | apply eD) | exact HB.out)⟩
    ·replace c21 := Bool.eq_false_iff.mpr c21
     subst c21
     have H1 : (if x5_1.length < 8796093022208 then (some (x5_1 ++ [a1])) else (none)) = some r := by rw [if_neg (show ¬ (false = true) by decide)] at H; exact H
     clear H
     have H := H1
     clear H1
     by_cases c22 : x5_1.length < 8796093022208
     ·rw [if_pos c22] at H
      have LMc22 := aMk c22
      clear c22
      obtain ⟨y221, hy221⟩ : ∃ y_ : List ByteArray, y_ = (x5_1 ++ [a1]) := ⟨_, rfl⟩
      replace H : (some y221) = some r := by first | (rw [hy221]; with_reducible exact H) | (have H2_ := (Option.bind_some _ _).symm.trans H; rw [hy221]; with_reducible exact H2_) | (have H2_ := (Option.bind_some _ _).symm.trans H; with_reducible exact H2_) | with_reducible exact H | (rw [hy221]; exact H) | exact H
      have Ny221 := aMk hy221
      clear hy221
      obtain rfl := Option.some.inj H
      go_wp2_with (first | ((with_reducible refine gate_builtin (b := .append) (xs := #[.tmp 43, .tmp 45]) rfl ?_); at_builtin; refine Kd.R_append Kd.string (w0 := w) w.heap.size rfl (.tmp 43) (.tmp 45) 31 9 (.string ⟨#[]⟩) 16 rfl Try.underlying31 info9 rfl (by decide) (by omega) u5 x5_1 a1 [.string a1] (fun _ => True) (fun _ => False) rfl rfl ?aP (fun _ hk => hk.elim) ?aF ?aO ?aB ?aS ?aL ?_; (case aP => exact rfl); (case aB => exact (by repeat (first | (with_reducible first | exact HB.out | apply eA | apply eN | apply eD) | exact HB.out))); (case aF => exact (fun _ _ => trivial)); (case aO => exact (by (with_reducible repeat (first | apply rA | apply rN | apply rD)); exact HO_5.out)); (case aS => exact (below_size (by repeat (first | (with_reducible first | exact HB.out | apply eA | apply eN | apply eD) | exact HB.out)))); (case aL => have := LMc22.out; omega); intro v222 w23 ho hb hg hat; rw [← Ny221.out] at ho; have HO223 := aMk (ho); replace HB := aMk (hb); clear HO_5; clear ho hb hg hat))
      go_ret
      exact ⟨_, by first | rfl | (simp <;> rfl) | (simp [*] <;> rfl), by (with_reducible repeat (first | apply rA | apply rN | apply rD)); exact HO223.out, by repeat (first | (with_reducible first | exact HB.out | apply eA | apply eN | apply eD) | exact HB.out)⟩
     ·rw [if_neg c22] at H
      exact absurd H (by simp)

end Go.Proofs.Ytkjjdpnpcjfgeaa.QAgg
