/- What came in, read as data: a list of facts, each so often; an aggregator. -/
import Derived.Test.YtkjjdpnpcjfgeaaBaOpens
import Derived.Test.YtkjjdpnpcjfgeaaBaLs4
namespace Go.Proofs.Ytkjjdpnpcjfgeaa.QAgg
open Go.ChangeShapes Go.WideShapes Go.ChangeAt Go.RowKit Go.Proofs.YtkjjdpnpcjfgeaaW.PrintWords Go.Proofs.Ytkjjdpnpcjfgeaa.Opens
abbrev wfi (k : IntKind) (n : Int) : Prop := (Lit.int k n).wf = true
theorem opn23 : Opn Try.prog 23 (Kd.pair (Kd.int .i64) (Kd.int .i64)) (fun x => wfi .i64 x.1 ∧ wfi .i64 x.2) :=
  opn_struct2 Try.underlying23 (by kernel_rfl) rfl (by kernel_rfl) rfl (by kernel_rfl) (opn_int (by kernel_rfl)) (opn_int (by kernel_rfl))
theorem opn37p : Opn Try.prog 37 (Kd.pair (Kd.int .i64) (Kd.pair (Kd.slice 9 Kd.string) (Kd.slice 2 (Kd.int .i64)))) (fun x => wfi .i64 x.1 ∧ (x.2.1.length ≤ maxLen ∧ ∀ s ∈ x.2.1, s.size ≤ maxLen) ∧ (x.2.2.length ≤ maxLen ∧ ∀ n ∈ x.2.2, wfi .i64 n)) :=
  opn_struct3 Try.underlying37 (by kernel_rfl) rfl (by kernel_rfl) rfl (by kernel_rfl) rfl (by kernel_rfl) (opn_int (by kernel_rfl)) (opn_slice (by kernel_rfl) (by kernel_rfl) (opn_string (by kernel_rfl))) (opn_slice (by kernel_rfl) (by kernel_rfl) (opn_int (by kernel_rfl)))
theorem opn37 : Opn Try.prog 37 k37 (fun x => wfi .i64 x.f0 ∧ (x.f1.length ≤ maxLen ∧ ∀ s ∈ x.f1, s.size ≤ maxLen) ∧ (x.f2.length ≤ maxLen ∧ ∀ n ∈ x.f2, wfi .i64 n)) :=
  opn_iso (fun x : S37 => (x.f0, x.f1, x.f2)) (fun a => ⟨a.1, a.2.1, a.2.2⟩) (fun _ => rfl) opn37p
theorem opn39 : Opn Try.prog 39 k39 (fun x => (wfi .i64 x.f0.f0 ∧ (x.f0.f1.length ≤ maxLen ∧ ∀ s ∈ x.f0.f1, s.size ≤ maxLen) ∧ (x.f0.f2.length ≤ maxLen ∧ ∀ n ∈ x.f0.f2, wfi .i64 n)) ∧ wfi .u64 x.f1) :=
  opn_iso (fun x : S39 => (x.f0, x.f1)) (fun a => ⟨a.1, a.2⟩) (fun _ => rfl) (opn_struct2 Try.underlying39 (by kernel_rfl) rfl (by kernel_rfl) rfl (by kernel_rfl) opn37 (opn_int (by kernel_rfl)))
theorem opn24 : Opn Try.prog 24 (Kd.slice 39 k39) (fun xs => xs.length ≤ maxLen ∧ ∀ x ∈ xs, ((wfi .i64 x.f0.f0 ∧ (x.f0.f1.length ≤ maxLen ∧ ∀ s ∈ x.f0.f1, s.size ≤ maxLen) ∧ (x.f0.f2.length ≤ maxLen ∧ ∀ n ∈ x.f0.f2, wfi .i64 n)) ∧ wfi .u64 x.f1)) :=
  opn_slice Try.underlying24 (by kernel_rfl) opn39
theorem i64_of {n : Int} (h : wfi .i64 n) : i64r n := by
  unfold i64r
  have e1 : IntKind.i64.min = -9223372036854775808 := by decide
  have e2 : IntKind.i64.max = 9223372036854775807 := by decide
  simp only [wfi, Lit.wf, Bool.and_eq_true, decide_eq_true_eq, e1, e2] at h
  omega
theorem nn_of {n : Int} (h : wfi .u64 n) : 0 ≤ n := by
  have e1 : IntKind.u64.min = 0 := by decide
  simp only [wfi, Lit.wf, Bool.and_eq_true, decide_eq_true_eq, e1] at h
  omega
variable {H : Type} {enc : TypeId × Value → H} {W : World} {d : DataW H} {p : List MemPlace} {v : Value}
theorem list_of (hv : Value.okWide Try.prog W .any 0 24 v) (h : ∃ m, DataW.trod enc Try.prog W 0 (fun _ => true) true m 24 v.cells.toList = some (d, p)) :
    ∃ A c xs, v = .slice A (List.length xs) c ∧ Kd.C k39 W A xs.length xs ∧ xs.length ≤ c ∧ ∀ x ∈ xs, 0 ≤ x.f1 := by
  obtain ⟨A, len, c, rfl⟩ := okWide_slice Try.underlying24 hv
  obtain ⟨m, hm⟩ := h
  obtain ⟨xs, ⟨A', c', hcs, hl, hC⟩, _, hg⟩ := opn24 hm
  simp [Value.cells] at hcs
  obtain ⟨rfl, rfl, rfl⟩ := hcs
  exact ⟨A, c, xs, rfl, hC, hl, fun x hx => nn_of (hg x hx).2⟩
theorem agg_of (hv : Value.okWide Try.prog W .any 0 23 v) (h : ∃ m, DataW.trod enc Try.prog W 0 (fun _ => true) true m 23 v.cells.toList = some (d, p)) :
    ∃ a b, v = .agg #[.int .i64 a, .int .i64 b] ∧ i64r a ∧ i64r b := by
  obtain ⟨cs, rfl, _⟩ := okWide_struct Try.underlying23 hv
  obtain ⟨m, hm⟩ := h
  obtain ⟨⟨a, b⟩, ⟨_, _, hcs, rfl, rfl⟩, h1, h2⟩ := opn23 hm
  refine ⟨a, b, ?_, i64_of h1, i64_of h2⟩
  have : cs = #[.int .i64 a, .int .i64 b] := by
    apply Array.toList_inj.mp
    exact hcs
  rw [this]
end Go.Proofs.Ytkjjdpnpcjfgeaa.QAgg
