/- What the rows of layer 17 hand in: opened. -/
import Derived.Test.YtdlkhjfkhbeaaaaRows
import Derived.Test.YtdlkhjfkhbeaaaaOpens
import Derived.WalkKit
import Derived.ProofKit
import Derived.OpenShut
import Derived.ShutString
import Derived.ChangeOld
import Derived.Below
import Derived.SizedLaws
namespace Go.Proofs.Ytdlkhjfkhbeaaaa.RKit
open Go.ChangeShapes Go.WideShapes Go.ChangeAt Go.RowKit Go.Proofs.YtdlkhjfkhbeaaaaW.PrintWords Go.Proofs.Ytdlkhjfkhbeaaaa.Opens
theorem own : ownKnob Try.prog.godebug = none := by kernel_rfl
theorem laidOut : laidOutB Try.prog = true := by kernel_rfl
theorem i64_in {n : Int} (h : (Lit.int .i64 n).wf = true) : -9223372036854775808 ≤ n ∧ n ≤ 9223372036854775807 := by
  have e1 : IntKind.min .i64 = -9223372036854775808 := by decide
  have e2 : IntKind.max .i64 = 9223372036854775807 := by decide
  simp only [Lit.wf, Bool.and_eq_true, decide_eq_true_eq, e1, e2] at h
  exact h
theorem opn22 : Opn Try.prog 22 (Kd.slice 2 (Kd.int .i64)) (fun xs => xs.length ≤ maxLen ∧ ∀ s ∈ xs, (Lit.int .i64 s).wf = true) :=
  opn_slice Try.underlying22 (by kernel_rfl) (opn_int Try.underlying2)
theorem opn23 : Opn Try.prog 23 (Kd.slice 3 (Kd.int .i64)) (fun xs => xs.length ≤ maxLen ∧ ∀ s ∈ xs, (Lit.int .i64 s).wf = true) :=
  opn_slice Try.underlying23 (by kernel_rfl) (opn_int Try.underlying3)
theorem opn24 : Opn Try.prog 24 (Kd.slice 4 Kd.bool) (fun xs => xs.length ≤ maxLen ∧ ∀ s ∈ xs, True) :=
  opn_slice Try.underlying24 (by kernel_rfl) (opn_bool Try.underlying4)
theorem opn35 : Opn Try.prog 35 (Kd.slice 9 Kd.string) (fun xs => xs.length ≤ maxLen ∧ ∀ s ∈ xs, s.size ≤ maxLen) :=
  opn_slice Try.underlying35 (by kernel_rfl) (opn_string Try.underlying9)
variable {H : Type} {enc : TypeId × Value → H} {W : World} {d : DataW H} {p : List MemPlace} {v : Value}
set_option maxRecDepth 100000 in
theorem slice_of {α : Type} {t e : TypeId} {K : Kd α} {good : α → Prop} (ht : Try.prog.underlying t = some (.slice e)) (ho : Opn Try.prog t (Kd.slice e K) (fun xs => xs.length ≤ maxLen ∧ ∀ s ∈ xs, good s))
    (hv : Value.okWide Try.prog W .any 0 t v) (h : ∃ m, DataW.trod enc Try.prog W 0 (fun _ => true) true m t v.cells.toList = some (d, p)) :
    ∃ A c xs, v = .slice A (List.length xs) c ∧ Kd.C K W A xs.length xs ∧ xs.length ≤ c ∧ ∀ x ∈ xs, good x := by
  obtain ⟨A, len, c, rfl⟩ := okWide_slice ht hv
  obtain ⟨m, hm⟩ := h
  obtain ⟨xs, ⟨A', c', hcs, hl, hC⟩, _, hg⟩ := ho hm
  simp [Value.cells] at hcs
  obtain ⟨rfl, rfl, rfl⟩ := hcs
  exact ⟨A, c, xs, rfl, hC, hl, hg⟩
end Go.Proofs.Ytdlkhjfkhbeaaaa.RKit
