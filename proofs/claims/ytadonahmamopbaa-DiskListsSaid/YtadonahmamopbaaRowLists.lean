/- Proved: the law DiskLists of layer 12 returns true for every input, and each argument reads behind the call as it read before. No condition. -/
import Derived.Test.YtadonahmamopbaaRows
import Derived.Test.YtadonahmamopbaaDkLaw
import Derived.Test.YtadonahmamopbaaDk7
import Derived.Test.YtadonahmamopbaaOpens
import Derived.WalkKit
import Derived.ProofKit
import Derived.OpenShut
import Derived.ShutString
import Derived.ChangeOld
import Derived.Below
import Derived.SizedLaws
namespace Go.Proofs.Ytadonahmamopbaa.RLists
open Go.ChangeShapes Go.WideShapes Go.ChangeAt Go.RowKit Go.Proofs.YtadonahmamopbaaW.PrintWords Go.Proofs.Ytadonahmamopbaa.Opens Go.Proofs.Ytadonahmamopbaa.QDk
set_option linter.unusedVariables false
theorem own : ownKnob Try.prog.godebug = none := by kernel_rfl
theorem laidOut : laidOutB Try.prog = true := by kernel_rfl
theorem opn22 : Opn Try.prog 22 (Kd.slice 9 Kd.string) (fun xs => xs.length ≤ maxLen ∧ ∀ s ∈ xs, s.size ≤ maxLen) :=
  opn_slice Try.underlying22 (by kernel_rfl) (opn_string Try.underlying9)
variable {H : Type} {enc : TypeId × Value → H} {W : World} {d : DataW H} {p : List MemPlace} {v : Value}
theorem names_of (hv : Value.okWide Try.prog W .any 0 22 v) (h : ∃ m, DataW.trod enc Try.prog W 0 (fun _ => true) true m 22 v.cells.toList = some (d, p)) :
    ∃ A c xs, v = .slice A (List.length xs) c ∧ Kd.C Kd.string W A xs.length xs ∧ xs.length ≤ c ∧ ∀ x ∈ xs, x.size ≤ maxLen := by
  obtain ⟨A, len, c, rfl⟩ := okWide_slice Try.underlying22 hv
  obtain ⟨m, hm⟩ := h
  obtain ⟨xs, ⟨A', c', hcs, hl, hC⟩, _, hg⟩ := opn22 hm
  simp [Value.cells] at hcs
  obtain ⟨rfl, rfl, rfl⟩ := hcs
  exact ⟨A, c, xs, rfl, hC, hl, hg⟩
set_option maxRecDepth 100000 in
theorem lifted (os : Os) (started : os.Started) (H : Type) (enc : TypeId × Value → H) :
    ReturnsInHanded {} Try.checked os 3 .any (Rows.diskListsSpec.pre6 enc Try.prog Try.f3 Rows.diskListsRow.domain false) (Rows.diskListsSpec.post enc Try.prog Try.f3 false true false false) := by
  refine returnsInHanded_of_change_sized (C := Try.checked) own started (by kernel_rfl) Try.func3
    (ChangeSpec.witness6 (enc := enc) (C := Try.checked) false ⟨#[], #[.slice none 0 0, .string ⟨#[]⟩], []⟩ 8 (by kernel_rfl) (by kernel_rfl) (by kernel_rfl) (by kernel_rfl)) ?_
  intro W base args ds gs before hval0 hW hcnd hsz0 _
  have hval : ∀ (j : Nat) t v, Try.f3.params[j]? = some t → args[j]? = some v → Value.okWide Try.prog W .any base t v := hval0
  have hW' := hW
  obtain ⟨p, q, hA0, hV, rfl, hfz, hnd⟩ := hW
  have hA : DataW.TrodAll enc Try.prog W 0 (fun _ => true) true Try.f3.params.toList args.toList ds p := hA0
  rw [Try.params3] at hA hval
  obtain ⟨v0, vs0, d0, ds0, p0, q0, hargs, rfl, rfl, h0, r0⟩ := trodAll_cons hA
  obtain ⟨v1, vs1, d1, ds1, p1, q1, rfl, rfl, rfl, h1, r1⟩ := trodAll_cons r0
  obtain ⟨rfl, rfl, rfl⟩ := trodAll_nil r1
  obtain rfl : args = #[v0, v1] := by cases args; simp_all
  obtain ⟨rfl, rfl⟩ := trodVars_none hV
  obtain ⟨A0, c0, l0, rfl, C0, L0, N0⟩ := names_of (hval 0 _ _ rfl rfl) h0
  obtain ⟨s, rfl⟩ := okWide_string Try.underlying9 (hval 1 _ _ rfl rfl)
  have lt0 : ∀ x ∈ p0, x.block < W.heap.size := by obtain ⟨m, hm⟩ := h0; exact DataW.trod_lt m _ _ _ hm
  have lt1 : ∀ x ∈ p1, x.block < W.heap.size := by obtain ⟨m, hm⟩ := h1; exact DataW.trod_lt m _ _ _ hm
  clear hA0 hval0 hsz0
  refine (lists_walk awake_calls A0 c0 l0 s W C0 L0 N0).mono fun e W' ⟨he, bel⟩ => ?_
  subst he
  exact ⟨_, rfl, _, _, _, [], _, [], hW', trodAll_mk1 (shut_bool Try.underlying4 _),
    (trodAll_cons_mk (Below.trod laidOut (by kernel_rfl) (of_decide_eq_true (by kernel_rfl)) h0 bel lt0)
      (trodAll_cons_mk (Below.trod laidOut (by kernel_rfl) (of_decide_eq_true (by kernel_rfl)) h1 bel lt1) trodAll_mk0)), rfl, bel.frame _, fun h => by cases h⟩
theorem over : Rows.diskListsRow.holds Try.pinned (OpenSpec.ofChange Rows.diskListsSpec) :=
  OpenClaim.holds_of_wide 3 Try.f3 rfl rfl rfl rfl rfl rfl rfl ⟨rfl, rfl, rfl, rfl, rfl⟩ rfl rfl rfl rfl rfl (by kernel_rfl) Try.func3 (by kernel_rfl)
    (of_decide_eq_true (by kernel_rfl)) (by unfold Func.isWrapper; first | (rw [if_pos (by decide +kernel)]; kernel_rfl) | (rw [if_neg (by decide +kernel)]; exact ⟨rfl, rfl⟩))
    (fun os started H enc _ => lifted os started H enc)
theorem proved : Rows.DiskListsSaid := over
end Go.Proofs.Ytadonahmamopbaa.RLists
namespace Go.Proofs.Ytadonahmamopbaa
/-- The row, under a short name, for the claim. -/
theorem diskLists_holds : Rows.DiskListsSaid := RLists.proved
#print axioms diskLists_holds
end Go.Proofs.Ytadonahmamopbaa
