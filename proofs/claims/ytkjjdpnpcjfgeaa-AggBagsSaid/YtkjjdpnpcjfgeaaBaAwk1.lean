/- What the first examples of layer 6 come to. -/
import Derived.Test.YtkjjdpnpcjfgeaaBaAwk0
import Derived.Test.YtkjjdpnpcjfgeaaBaX1
namespace Go.Proofs.Ytkjjdpnpcjfgeaa.QAgg
open Go.RowKit Go.Proofs.YtkjjdpnpcjfgeaaW.PrintWords Go.Proofs.YtkjjdpnpcjfgeaaW.PrintLast Go.Proofs.YtkjjdpnpcjfgeaaW.PrintMore
theorem cs0 : compS (sortS []) = [] := by decide +kernel
theorem cs1 : compS (sortS [⟨#[98]⟩]) = [⟨#[98]⟩] := by decide +kernel
theorem cs2 : compS (sortS [⟨#[97]⟩]) = [⟨#[97]⟩] := by decide +kernel
theorem ms2 : ([[98], [97]] : List (List UInt8)).mergeSort (fun x y => decide (x ≤ y)) = [[97], [98]] := by
  simp [List.mergeSort, List.MergeSort.Internal.splitInTwo, List.merge]
  decide
theorem cs3 : (compS (sortS ([⟨#[98]⟩] ++ [⟨#[97]⟩]))).length = 2 := by
  have e : strsL ([⟨#[98]⟩] ++ [⟨#[97]⟩]) = [[98], [97]] := rfl
  rw [sortS, e, ms2]
  decide +kernel
theorem awake_vals {t115 t116 t123 t124 t132 t133 t138 t139 t146 t147 t152 t153 t160 t161 t165 t166 : Int} {t117 t125 t134 t140 t148 t154 t162 t167 y143 y157 : List ByteArray} {y120 y129 : List Int}
    (A1 : agg_Start.f 2 0 = some (t115, t116, t117)) (N1 : y120 = [3]) (A2 : agg_Add.f 2 0 t115 t116 t117 0 [] y120 2 = some (t123, t124, t125)) (N2 : y129 = [-1])
    (A3 : agg_Add.f 2 0 t123 t124 t125 0 [] y129 1 = some (t132, t133, t134)) (A4 : agg_Start.f 5 0 = some (t138, t139, t140)) (N3 : y143 = [⟨#[98]⟩])
    (A5 : agg_Add.f 5 0 t138 t139 t140 0 y143 [] 1 = some (t146, t147, t148)) (A6 : agg_Start.f 5 0 = some (t152, t153, t154)) (N4 : y157 = [⟨#[97]⟩])
    (A7 : agg_Add.f 5 0 t152 t153 t154 0 y157 [] 1 = some (t160, t161, t162)) (A8 : agg_Merge.f 5 0 t146 t147 t148 t160 t161 t162 = some (t165, t166, t167)) :
    (t132 == 3) = true ∧ (t133 == 5) = true ∧ ((t167.length : Int) == 2) = true := by
  subst N1 N2 N3 N4
  simp only [agg_Start.f, Option.some.injEq, Prod.mk.injEq] at A1 A4 A6
  obtain ⟨rfl, rfl, rfl⟩ := A1
  obtain ⟨rfl, rfl, rfl⟩ := A4
  obtain ⟨rfl, rfl, rfl⟩ := A6
  have r0 : rd [3] 0 = 3 := rfl
  have r1 : rd [-1] 0 = -1 := rfl
  have r2 : rdOf ByteArray.empty [⟨#[98]⟩] 0 = ⟨#[98]⟩ := rfl
  have r3 : rdOf ByteArray.empty [⟨#[97]⟩] 0 = ⟨#[97]⟩ := rfl
  simp [agg_Add.f, agg_Merge.f, mergeP, r0, cs0] at A2
  obtain ⟨rfl, rfl, rfl⟩ := A2
  simp [agg_Add.f, agg_Merge.f, mergeP, r1, cs0, mvI] at A3
  obtain ⟨rfl, rfl, rfl⟩ := A3
  simp [agg_Add.f, agg_Merge.f, mergeP, r2, cs1] at A5
  obtain ⟨rfl, rfl, rfl⟩ := A5
  simp [agg_Add.f, agg_Merge.f, mergeP, r3, cs2] at A7
  obtain ⟨rfl, rfl, rfl⟩ := A7
  have c3 := cs3
  simp only [agg_Merge.f, mergeP] at A8
  rw [if_pos ⟨by decide, by decide, by decide⟩, if_neg (by decide), if_neg (by decide)] at A8
  simp only [Option.some.injEq, Prod.mk.injEq] at A8
  obtain ⟨_, _, rfl⟩ := A8
  refine ⟨by decide +kernel, by decide +kernel, ?_⟩
  rw [c3]
  rfl
end Go.Proofs.Ytkjjdpnpcjfgeaa.QAgg
