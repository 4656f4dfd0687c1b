/- Proved: the law IntakeOwn of layer 17 returns true for every input, and each argument reads behind the call as it read before. No condition. -/
import Derived.Test.YtdlkhjfkhbeaaaaRows
import Derived.Test.YtdlkhjfkhbeaaaaOd3
import Derived.Test.YtdlkhjfkhbeaaaaRowKit
namespace Go.Proofs.Ytdlkhjfkhbeaaaa.ROwn
open Go.ChangeShapes Go.WideShapes Go.ChangeAt Go.RowKit Go.Proofs.YtdlkhjfkhbeaaaaW.PrintWords Go.Proofs.Ytdlkhjfkhbeaaaa.Opens Go.Proofs.Ytdlkhjfkhbeaaaa.QIn Go.Proofs.Ytdlkhjfkhbeaaaa.RKit
set_option linter.unusedVariables false
set_option maxRecDepth 100000 in
theorem lifted (os : Os) (started : os.Started) (H : Type) (enc : TypeId × Value → H) :
    ReturnsInHanded {} Try.checked os 5 .any (Rows.intakeOwnSpec.pre6 enc Try.prog Try.f5 Rows.intakeOwnRow.domain false) (Rows.intakeOwnSpec.post enc Try.prog Try.f5 false true false false) := by
  refine returnsInHanded_of_change_sized (C := Try.checked) own started (by kernel_rfl) Try.func5
    (ChangeSpec.witness6 (enc := enc) (C := Try.checked) false ⟨#[], #[.slice none 0 0, .slice none 0 0], []⟩ 8 (by kernel_rfl) (by kernel_rfl) (by kernel_rfl) (by kernel_rfl)) ?_
  intro W base args ds gs before hval0 hW hcnd hsz0 _
  have hval : ∀ (j : Nat) t v, Try.f5.params[j]? = some t → args[j]? = some v → Value.okWide Try.prog W .any base t v := hval0
  have hW' := hW
  obtain ⟨p, q, hA0, hV, rfl, hfz, hnd⟩ := hW
  have hA : DataW.TrodAll enc Try.prog W 0 (fun _ => true) true Try.f5.params.toList args.toList ds p := hA0
  rw [Try.params5] at hA hval
  obtain ⟨v0, vs0, d0, ds0, p0, q0, hargs, rfl, rfl, h0, r0⟩ := trodAll_cons hA
  obtain ⟨v1, vs1, d1, ds1, p1, q1, rfl, rfl, rfl, h1, r1⟩ := trodAll_cons r0
  obtain ⟨rfl, rfl, rfl⟩ := trodAll_nil r1
  obtain rfl : args = #[v0, v1] := by cases args; simp_all
  obtain ⟨rfl, rfl⟩ := trodVars_none hV
  obtain ⟨A0, c0, l0, rfl, C0, L0, N0⟩ := slice_of Try.underlying35 opn35 (hval 0 _ _ rfl rfl) h0
  obtain ⟨A1, c1, l1, rfl, C1, L1, N1⟩ := slice_of Try.underlying22 opn22 (hval 1 _ _ rfl rfl) h1
  have lt0 : ∀ x ∈ p0, x.block < W.heap.size := by obtain ⟨m, hm⟩ := h0; exact DataW.trod_lt m _ _ _ hm
  have lt1 : ∀ x ∈ p1, x.block < W.heap.size := by obtain ⟨m, hm⟩ := h1; exact DataW.trod_lt m _ _ _ hm
  clear hA0 hval0 hsz0
  refine (own_walk A0 A1 c0 c1 l0 l1 W C0 C1).mono fun e W' ⟨he, bel⟩ => ?_
  subst he
  exact ⟨_, rfl, _, _, _, [], _, [], hW', trodAll_mk1 (shut_bool Try.underlying4 _),
    (trodAll_cons_mk (Below.trod laidOut (by kernel_rfl) (of_decide_eq_true (by kernel_rfl)) h0 bel lt0)
      (trodAll_cons_mk (Below.trod laidOut (by kernel_rfl) (of_decide_eq_true (by kernel_rfl)) h1 bel lt1) trodAll_mk0)), rfl, bel.frame _, fun h => by cases h⟩
theorem over : Rows.intakeOwnRow.holds Try.pinned (OpenSpec.ofChange Rows.intakeOwnSpec) :=
  OpenClaim.holds_of_wide 5 Try.f5 rfl rfl rfl rfl rfl rfl rfl ⟨rfl, rfl, rfl, rfl, rfl⟩ rfl rfl rfl rfl rfl (by kernel_rfl) Try.func5 (by kernel_rfl)
    (of_decide_eq_true (by kernel_rfl)) (by unfold Func.isWrapper; first | (rw [if_pos (by decide +kernel)]; kernel_rfl) | (rw [if_neg (by decide +kernel)]; exact ⟨rfl, rfl⟩))
    (fun os started H enc _ => lifted os started H enc)
theorem proved : Rows.IntakeOwnSaid := over
end Go.Proofs.Ytdlkhjfkhbeaaaa.ROwn
namespace Go.Proofs.Ytdlkhjfkhbeaaaa
/-- The row, under a short name, for the claim. -/
theorem intakeOwn_holds : Rows.IntakeOwnSaid := ROwn.proved
#print axioms intakeOwn_holds
end Go.Proofs.Ytdlkhjfkhbeaaaa
