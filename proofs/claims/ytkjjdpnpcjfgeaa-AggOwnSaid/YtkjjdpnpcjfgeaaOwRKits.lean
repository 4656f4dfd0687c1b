/- What came in, read as data: a list of facts, each so often; an aggregator. -/
import Derived.Test.YtkjjdpnpcjfgeaaOwOpens
import Derived.Test.YtkjjdpnpcjfgeaaOwLs4
namespace Go.Proofs.Ytkjjdpnpcjfgeaa.QAgg
open Go.ChangeShapes Go.WideShapes Go.ChangeAt Go.RowKit Go.Proofs.YtkjjdpnpcjfgeaaW.PrintWords Go.Proofs.Ytkjjdpnpcjfgeaa.Opens
abbrev wfi (k : IntKind) (n : Int) : Prop := (Lit.int k n).wf = true
theorem opn37p : Opn Try.prog 37 (Kd.pair (Kd.int .i64) (Kd.pair (Kd.slice 9 Kd.string) (Kd.slice 2 (Kd.int .i64)))) (fun x => wfi .i64 x.1 ∧ (x.2.1.length ≤ maxLen ∧ ∀ s ∈ x.2.1, s.size ≤ maxLen) ∧ (x.2.2.length ≤ maxLen ∧ ∀ n ∈ x.2.2, wfi .i64 n)) :=
  opn_struct3 Try.underlying37 (by kernel_rfl) rfl (by kernel_rfl) rfl (by kernel_rfl) rfl (by kernel_rfl) (opn_int (by kernel_rfl)) (opn_slice (by kernel_rfl) (by kernel_rfl) (opn_string (by kernel_rfl))) (opn_slice (by kernel_rfl) (by kernel_rfl) (opn_int (by kernel_rfl)))
theorem opn37 : Opn Try.prog 37 k37 (fun x => wfi .i64 x.f0 ∧ (x.f1.length ≤ maxLen ∧ ∀ s ∈ x.f1, s.size ≤ maxLen) ∧ (x.f2.length ≤ maxLen ∧ ∀ n ∈ x.f2, wfi .i64 n)) :=
  opn_iso (fun x : S37 => (x.f0, x.f1, x.f2)) (fun a => ⟨a.1, a.2.1, a.2.2⟩) (fun _ => rfl) opn37p
theorem opn39 : Opn Try.prog 39 k39 (fun x => (wfi .i64 x.f0.f0 ∧ (x.f0.f1.length ≤ maxLen ∧ ∀ s ∈ x.f0.f1, s.size ≤ maxLen) ∧ (x.f0.f2.length ≤ maxLen ∧ ∀ n ∈ x.f0.f2, wfi .i64 n)) ∧ wfi .u64 x.f1) :=
  opn_iso (fun x : S39 => (x.f0, x.f1)) (fun a => ⟨a.1, a.2⟩) (fun _ => rfl) (opn_struct2 Try.underlying39 (by kernel_rfl) rfl (by kernel_rfl) rfl (by kernel_rfl) opn37 (opn_int (by kernel_rfl)))
theorem opn24 : Opn Try.prog 24 (Kd.slice 39 k39) (fun xs => xs.length ≤ maxLen ∧ ∀ x ∈ xs, ((wfi .i64 x.f0.f0 ∧ (x.f0.f1.length ≤ maxLen ∧ ∀ s ∈ x.f0.f1, s.size ≤ maxLen) ∧ (x.f0.f2.length ≤ maxLen ∧ ∀ n ∈ x.f0.f2, wfi .i64 n)) ∧ wfi .u64 x.f1)) :=
  opn_slice Try.underlying24 (by kernel_rfl) opn39
theorem nn_of {n : Int} (h : wfi .u64 n) : 0 ≤ n := by
  have e1 : IntKind.u64.min = 0 := by decide
  simp only [wfi, Lit.wf, Bool.and_eq_true, decide_eq_true_eq, e1] at h
  omega
variable {H : Type} {enc : TypeId × Value → H} {W : World} {d : DataW H} {p : List MemPlace} {v : Value}
theorem list_of (hv : Value.okWide Try.prog W .any 0 24 v) (h : ∃ m, DataW.trod enc Try.prog W 0 (fun _ => true) true m 24 v.cells.toList = some (d, p)) :
    ∃ A c xs, v = .slice A (List.length xs) c ∧ Kd.C k39 W A xs.length xs ∧ xs.length ≤ c ∧ ∀ x ∈ xs, 0 ≤ x.f1 := by
  obtain ⟨A, len, c, rfl⟩ := okWide_slice Try.underlying24 hv
  obtain ⟨m, hm⟩ := h
  obtain ⟨xs, ⟨A', c', hcs, hl, hC⟩, _, hg⟩ := opn24 hm
  simp [Value.cells] at hcs
  obtain ⟨rfl, rfl, rfl⟩ := hcs
  exact ⟨A, c, xs, rfl, hC, hl, fun x hx => nn_of (hg x hx).2⟩
end Go.Proofs.Ytkjjdpnpcjfgeaa.QAgg
