/- The contract of agg.Merge, and what it computes, as the printed texts want it. -/
import Derived.Test.YtkjjdpnpcjfgeaaBaMerge1
import Derived.Test.YtkjjdpnpcjfgeaaBaMerge2
import Derived.Test.YtkjjdpnpcjfgeaaBaMerge3
import Derived.Test.YtkjjdpnpcjfgeaaBaMerge4
import Derived.Test.YtkjjdpnpcjfgeaaBaMerge5
namespace Go.Proofs.Ytkjjdpnpcjfgeaa.QAgg
open Go.RowKit Go.Proofs.YtkjjdpnpcjfgeaaW.PrintWords Go.Proofs.YtkjjdpnpcjfgeaaW.PrintLast Go.Proofs.YtkjjdpnpcjfgeaaW.PrintMore
/-- What merging makes of two numbers, by the kind. -/
def mvI (k v1 v2 : Int) : Int := if k = 2 then wrap64 (v1 + v2) else if k = 3 then mn v1 v2 else if k = 4 then mx v1 v2 else v1
def mergeP (a0 n1 v1 : Int) (t1 : List ByteArray) (n2 v2 : Int) (t2 : List ByteArray) : Int × Int × List ByteArray :=
  if n1 = 0 then (if n2 = 0 then (0, 0, []) else (n2, v2, compS (sortS t2))) else if n2 = 0 then (n1, v1, compS (sortS t1)) else (IntKind.u64.wrap (n1 + n2), mvI a0 v1 v2, compS (sortS (t1 ++ t2)))
def agg_Merge.f (a0_0 : Int) (_a0_1 : Int) (a1_0 : Int) (a1_1 : Int) (l1_2 : List ByteArray) (a2_0 : Int) (a2_1 : Int) (l2_2 : List ByteArray) : Option (Int × Int × List ByteArray) :=
  if 1 ≤ a0_0 ∧ a0_0 ≤ 5 ∧ l1_2.length + l2_2.length ≤ 1000000 then some (mergeP a0_0 a1_0 a1_1 l1_2 a2_0 a2_1 l2_2) else none

theorem five {k : Int} (h1 : 1 ≤ k) (h5 : k ≤ 5) : k = 1 ∨ k = 2 ∨ k = 3 ∨ k = 4 ∨ k = 5 := by omega

theorem agg_Merge.calls (a0_0 : Int) (a0_1 : Int) (a1_0 : Int) (a1_1 : Int) (A1_2 : Option Addr) (c1_2 : Nat) (l1_2 : List ByteArray) (a2_0 : Int) (a2_1 : Int) (A2_2 : Option Addr) (c2_2 : Nat) (l2_2 : List ByteArray) (r1 : Int) (r2 : Int) (r3 : List ByteArray) (w : World) (hr1_2 : Kd.C Kd.string w A1_2 l1_2.length l1_2) (_hc1_2 : l1_2.length ≤ c1_2) (hr2_2 : Kd.C Kd.string w A2_2 l2_2.length l2_2) (_hc2_2 : l2_2.length ≤ c2_2) (h : agg_Merge.f a0_0 a0_1 a1_0 a1_1 l1_2 a2_0 a2_1 l2_2 = some (r1, r2, r3)) :
    Calls Try.prog 10 #[.agg #[.int .i64 a0_0, .int .i64 a0_1], .agg #[.int .u64 a1_0, .int .i64 a1_1, .slice A1_2 l1_2.length c1_2], .agg #[.int .u64 a2_0, .int .i64 a2_1, .slice A2_2 l2_2.length c2_2]] w fun e w' => ∃ v2_ : Value, e = .returned (.agg #[.int .u64 r1, .int .i64 r2, v2_]) ∧ Kd.R Kd.string 9 w' w.heap.size (fun _ => True) v2_ r3 ∧ Below w.heap.size w w' := by
  unfold agg_Merge.f at h
  split at h
  case isFalse => cases h
  case isTrue hk =>
    obtain ⟨hk1, hk5, hbig⟩ := hk
    have h := Option.some.inj h
    unfold mergeP at h
    by_cases hn1 : a1_0 = 0
    · subst hn1
      by_cases hn2 : a2_0 = 0
      · subst hn2
        simp only [if_true, Prod.mk.injEq] at h
        obtain ⟨rfl, rfl, rfl⟩ := h
        rcases five hk1 hk5 with rfl | rfl | rfl | rfl | rfl
        · exact merge1_zz a0_1 a1_1 a2_1 A1_2 A2_2 c1_2 c2_2 l1_2 l2_2 w hbig
        · exact merge2_zz a0_1 a1_1 a2_1 A1_2 A2_2 c1_2 c2_2 l1_2 l2_2 w hbig
        · exact merge3_zz a0_1 a1_1 a2_1 A1_2 A2_2 c1_2 c2_2 l1_2 l2_2 w hbig
        · exact merge4_zz a0_1 a1_1 a2_1 A1_2 A2_2 c1_2 c2_2 l1_2 l2_2 w hbig
        · exact merge5_zz a0_1 a1_1 a2_1 A1_2 A2_2 c1_2 c2_2 l1_2 l2_2 w hbig
      · simp only [if_true, if_neg hn2, Prod.mk.injEq] at h
        obtain ⟨rfl, rfl, rfl⟩ := h
        have b2 : (a2_0 == 0) = false := beq_eq_false_iff_ne.mpr hn2
        rcases five hk1 hk5 with rfl | rfl | rfl | rfl | rfl
        · exact merge1_zn a0_1 a1_1 _ _ A1_2 A2_2 c1_2 c2_2 l1_2 l2_2 w hr2_2 hbig b2
        · exact merge2_zn a0_1 a1_1 _ _ A1_2 A2_2 c1_2 c2_2 l1_2 l2_2 w hr2_2 hbig b2
        · exact merge3_zn a0_1 a1_1 _ _ A1_2 A2_2 c1_2 c2_2 l1_2 l2_2 w hr2_2 hbig b2
        · exact merge4_zn a0_1 a1_1 _ _ A1_2 A2_2 c1_2 c2_2 l1_2 l2_2 w hr2_2 hbig b2
        · exact merge5_zn a0_1 a1_1 _ _ A1_2 A2_2 c1_2 c2_2 l1_2 l2_2 w hr2_2 hbig b2
    · have b1 : (a1_0 == 0) = false := beq_eq_false_iff_ne.mpr hn1
      by_cases hn2 : a2_0 = 0
      · subst hn2
        simp only [if_neg hn1, if_true, Prod.mk.injEq] at h
        obtain ⟨rfl, rfl, rfl⟩ := h
        rcases five hk1 hk5 with rfl | rfl | rfl | rfl | rfl
        · exact merge1_nz a0_1 _ _ a2_1 A1_2 A2_2 c1_2 c2_2 l1_2 l2_2 w hr1_2 hbig b1
        · exact merge2_nz a0_1 _ _ a2_1 A1_2 A2_2 c1_2 c2_2 l1_2 l2_2 w hr1_2 hbig b1
        · exact merge3_nz a0_1 _ _ a2_1 A1_2 A2_2 c1_2 c2_2 l1_2 l2_2 w hr1_2 hbig b1
        · exact merge4_nz a0_1 _ _ a2_1 A1_2 A2_2 c1_2 c2_2 l1_2 l2_2 w hr1_2 hbig b1
        · exact merge5_nz a0_1 _ _ a2_1 A1_2 A2_2 c1_2 c2_2 l1_2 l2_2 w hr1_2 hbig b1
      · have b2 : (a2_0 == 0) = false := beq_eq_false_iff_ne.mpr hn2
        have b3 : (a2_0 != 0) = true := bne_iff_ne.mpr hn2
        simp only [if_neg hn1, if_neg hn2, Prod.mk.injEq] at h
        obtain ⟨rfl, rfl, rfl⟩ := h
        rcases five hk1 hk5 with rfl | rfl | rfl | rfl | rfl
        · exact merge1_nn a0_1 a1_0 a1_1 a2_0 a2_1 A1_2 A2_2 c1_2 c2_2 l1_2 l2_2 w hr1_2 hr2_2 hbig b1 b2 b3
        · exact merge2_nn a0_1 a1_0 a1_1 a2_0 a2_1 A1_2 A2_2 c1_2 c2_2 l1_2 l2_2 w hr1_2 hr2_2 hbig b1 b2 b3
        · exact merge3_nn a0_1 a1_0 a1_1 a2_0 a2_1 A1_2 A2_2 c1_2 c2_2 l1_2 l2_2 w hr1_2 hr2_2 hbig b1 b2 b3
        · exact merge4_nn a0_1 a1_0 a1_1 a2_0 a2_1 A1_2 A2_2 c1_2 c2_2 l1_2 l2_2 w hr1_2 hr2_2 hbig b1 b2 b3
        · exact merge5_nn a0_1 a1_0 a1_1 a2_0 a2_1 A1_2 A2_2 c1_2 c2_2 l1_2 l2_2 w hr1_2 hr2_2 hbig b1 b2 b3
end Go.Proofs.Ytkjjdpnpcjfgeaa.QAgg
