/- Contracts of the small functions of agg's table. -/
import Derived.Test.YtkjjdpnpcjfgeaaBaKnown
import Derived.Test.YtkjjdpnpcjfgeaaBaSorts
import Derived.Test.YtkjjdpnpcjfgeaaBaW
namespace Go.Proofs.Ytkjjdpnpcjfgeaa
open Go.RowKit Go.Proofs.YtkjjdpnpcjfgeaaW.PrintWords Go.Proofs.YtkjjdpnpcjfgeaaW.PrintLast Go.Proofs.YtkjjdpnpcjfgeaaW.PrintMore
attribute [local go_sem] max2_int min2_int max_two min_two
theorem sum_calls (x y : Int) (w : World) : Calls Try.prog 36 #[.int .i64 x, .int .i64 y] w fun e w' => e = .returned (.int .i64 (wrap64 (x + y))) ∧ w = w' := by
  go_enter Try.func36, Try.ntmps36
  go_wp2
  go_ret
  exact ⟨rfl, rfl⟩
theorem min_calls (x y : Int) (w : World) : Calls Try.prog 38 #[.int .i64 x, .int .i64 y] w fun e w' => e = .returned (.int .i64 (mn x y)) ∧ w = w' := by
  go_enter Try.func38, Try.ntmps38
  go_wp2
  all_goals
    go_ret
    refine ⟨?_, rfl⟩
    first
      | (have h1 : mn x y = y := by (unfold mn; split <;> omega)
         rw [h1]; rfl)
      | (have h1 : mn x y = x := by (unfold mn; split <;> omega)
         rw [h1]; rfl)
theorem max_calls (x y : Int) (w : World) : Calls Try.prog 39 #[.int .i64 x, .int .i64 y] w fun e w' => e = .returned (.int .i64 (mx x y)) ∧ w = w' := by
  go_enter Try.func39, Try.ntmps39
  go_wp2
  all_goals
    go_ret
    refine ⟨?_, rfl⟩
    first
      | (have h1 : mx x y = y := by (unfold mx; split <;> omega)
         rw [h1]; rfl)
      | (have h1 : mx x y = x := by (unfold mx; split <;> omega)
         rw [h1]; rfl)
theorem once_calls (x y : Int) (w : World) : Calls Try.prog 33 #[.int .i64 x, .int .u64 y] w fun e w' => e = .returned (.int .i64 x) ∧ w = w' := by
  go_enter Try.func33, Try.ntmps33
  go_wp2
  go_ret
  exact ⟨rfl, rfl⟩
theorem times_calls (x y : Int) (w : World) : Calls Try.prog 35 #[.int .i64 x, .int .u64 y] w fun e w' => e = .returned (.int .i64 (wrap64 (IntKind.u64.wrap (IntKind.u64.wrap x * y)))) ∧ w = w' := by
  go_enter Try.func35, Try.ntmps35
  go_wp2
  go_ret
  exact ⟨rfl, rfl⟩
end Go.Proofs.Ytkjjdpnpcjfgeaa
