/- The contract of agg.Add, and what it computes, as the printed texts want it. -/
import Derived.Test.YtkjjdpnpcjfgeaaBaAdd1
import Derived.Test.YtkjjdpnpcjfgeaaBaAdd2
import Derived.Test.YtkjjdpnpcjfgeaaBaAdd3
import Derived.Test.YtkjjdpnpcjfgeaaBaAdd4
import Derived.Test.YtkjjdpnpcjfgeaaBaAdd5
namespace Go.Proofs.Ytkjjdpnpcjfgeaa.QAgg
open Go.RowKit Go.Proofs.YtkjjdpnpcjfgeaaW.PrintWords Go.Proofs.YtkjjdpnpcjfgeaaW.PrintLast Go.Proofs.YtkjjdpnpcjfgeaaW.PrintMore
def agg_Add.f (a0_0 : Int) (a0_1 : Int) (a1_0 : Int) (a1_1 : Int) (l1_2 : List ByteArray) (_a2_0 : Int) (l2_1 : List ByteArray) (l2_2 : List Int) (a3 : Int) : Option (Int × Int × List ByteArray) :=
  if a3 = 0 then agg_Merge.f a0_0 a0_1 a1_0 a1_1 l1_2 0 0 []
  else if a0_0 = 1 then agg_Merge.f a0_0 a0_1 a1_0 a1_1 l1_2 a3 0 []
  else if 0 ≤ a0_1 then
    if a0_0 = 5 then (if a0_1 < l2_1.length then agg_Merge.f a0_0 a0_1 a1_0 a1_1 l1_2 a3 0 [rdOf ByteArray.empty l2_1 a0_1] else none)
    else if a0_1 < l2_2.length then
      (if a0_0 = 2 then agg_Merge.f a0_0 a0_1 a1_0 a1_1 l1_2 a3 (wrap64 (IntKind.u64.wrap (IntKind.u64.wrap (rd l2_2 a0_1) * a3))) []
       else agg_Merge.f a0_0 a0_1 a1_0 a1_1 l1_2 a3 (rd l2_2 a0_1) [])
    else none
  else none

theorem kind_of_some {a0 a1 n1 v1 : Int} {t1 : List ByteArray} {n2 v2 : Int} {t2 : List ByteArray} {r : Int × Int × List ByteArray} (h : agg_Merge.f a0 a1 n1 v1 t1 n2 v2 t2 = some r) : 1 ≤ a0 ∧ a0 ≤ 5 := by
  unfold agg_Merge.f at h
  split at h
  · rename_i hk
    exact ⟨hk.1, hk.2.1⟩
  · cases h

theorem agg_Add.calls (a0_0 : Int) (a0_1 : Int) (a1_0 : Int) (a1_1 : Int) (A1_2 : Option Addr) (c1_2 : Nat) (l1_2 : List ByteArray) (a2_0 : Int) (A2_1 : Option Addr) (c2_1 : Nat) (l2_1 : List ByteArray) (A2_2 : Option Addr) (c2_2 : Nat) (l2_2 : List Int) (a3 : Int) (r1 : Int) (r2 : Int) (r3 : List ByteArray) (w : World) (hr1_2 : Kd.C Kd.string w A1_2 l1_2.length l1_2) (hc1_2 : l1_2.length ≤ c1_2) (hr2_1 : Kd.C Kd.string w A2_1 l2_1.length l2_1) (_hc2_1 : l2_1.length ≤ c2_1) (hr2_2 : Kd.C (Kd.int .i64) w A2_2 l2_2.length l2_2) (_hc2_2 : l2_2.length ≤ c2_2) (h : agg_Add.f a0_0 a0_1 a1_0 a1_1 l1_2 a2_0 l2_1 l2_2 a3 = some (r1, r2, r3)) :
    Calls Try.prog 12 #[.agg #[.int .i64 a0_0, .int .i64 a0_1], .agg #[.int .u64 a1_0, .int .i64 a1_1, .slice A1_2 l1_2.length c1_2], .agg #[.int .i64 a2_0, .slice A2_1 l2_1.length c2_1, .slice A2_2 l2_2.length c2_2], .int .u64 a3] w fun e w' => ∃ v2_ : Value, e = .returned (.agg #[.int .u64 r1, .int .i64 r2, v2_]) ∧ Kd.R Kd.string 9 w' w.heap.size (fun _ => True) v2_ r3 ∧ Below w.heap.size w w' := by
  unfold agg_Add.f at h
  by_cases hn : a3 = 0
  · subst hn
    rw [if_pos rfl] at h
    obtain ⟨h1, h5⟩ := kind_of_some h
    rcases five h1 h5 with rfl | rfl | rfl | rfl | rfl
    · exact add1_z _ _ _ _ _ _ _ _ _ _ _ _ _ _ _ _ _ hr1_2 hc1_2 h
    · exact add2_z _ _ _ _ _ _ _ _ _ _ _ _ _ _ _ _ _ hr1_2 hc1_2 h
    · exact add3_z _ _ _ _ _ _ _ _ _ _ _ _ _ _ _ _ _ hr1_2 hc1_2 h
    · exact add4_z _ _ _ _ _ _ _ _ _ _ _ _ _ _ _ _ _ hr1_2 hc1_2 h
    · exact add5_z _ _ _ _ _ _ _ _ _ _ _ _ _ _ _ _ _ hr1_2 hc1_2 h
  · rw [if_neg hn] at h
    have bn : (a3 == 0) = false := beq_eq_false_iff_ne.mpr hn
    by_cases e1 : a0_0 = 1
    · subst e1
      rw [if_pos rfl] at h
      exact add1_n _ _ _ _ _ _ _ _ _ _ _ _ _ _ _ _ _ _ hr1_2 hc1_2 bn h
    · rw [if_neg e1] at h
      by_cases hc : 0 ≤ a0_1
      · rw [if_pos hc] at h
        by_cases e5 : a0_0 = 5
        · subst e5
          rw [if_pos rfl] at h
          by_cases hl : a0_1 < (l2_1.length : Int)
          · rw [if_pos hl] at h
            exact add5_n _ _ _ _ _ _ _ _ _ _ _ _ _ _ _ _ _ _ hr1_2 hc1_2 bn hc hl hr2_1 h
          · rw [if_neg hl] at h
            cases h
        · rw [if_neg e5] at h
          by_cases hl : a0_1 < (l2_2.length : Int)
          · rw [if_pos hl] at h
            by_cases e2 : a0_0 = 2
            · subst e2
              rw [if_pos rfl] at h
              exact add2_n _ _ _ _ _ _ _ _ _ _ _ _ _ _ _ _ _ _ hr1_2 hc1_2 bn hc hl hr2_2 h
            · rw [if_neg e2] at h
              obtain ⟨h1, h5⟩ := kind_of_some h
              rcases five h1 h5 with rfl | rfl | rfl | rfl | rfl
              · exact absurd rfl e1
              · exact absurd rfl e2
              · exact add3_n _ _ _ _ _ _ _ _ _ _ _ _ _ _ _ _ _ _ hr1_2 hc1_2 bn hc hl hr2_2 h
              · exact add4_n _ _ _ _ _ _ _ _ _ _ _ _ _ _ _ _ _ _ hr1_2 hc1_2 bn hc hl hr2_2 h
              · exact absurd rfl e5
          · rw [if_neg hl] at h
            cases h
      · rw [if_neg hc] at h
        cases h
end Go.Proofs.Ytkjjdpnpcjfgeaa.QAgg
