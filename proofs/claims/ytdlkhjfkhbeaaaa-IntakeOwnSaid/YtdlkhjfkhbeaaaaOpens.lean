/- What came in, read as data, is what the print's words read. -/
import Derived.Test.YtdlkhjfkhbeaaaaWWords
import Derived.ProofKit
import Derived.OpenShut
import Derived.Deep.Slices
import Derived.Deep.Strs
namespace Go.Proofs.Ytdlkhjfkhbeaaaa.Opens
open Go.ChangeShapes Go.WideShapes Go.ChangeAt Go.RowKit Go.Proofs.YtdlkhjfkhbeaaaaW.PrintWords
/-- Whatever reads as data of type t is of kind d, and good. -/
def Opn (P : Program) (t : TypeId) {α : Type} (d : Kd α) (good : α → Prop) : Prop :=
  ∀ {H : Type} {enc : TypeId × Value → H} {w : World} {base : Nat} {spare : Nat → Bool} {held : Bool} {fuel : Nat} {cs : List Value} {x : DataW H × List MemPlace}, DataW.trod enc P w base spare held fuel t cs = some x → ∃ a, d.K w a cs ∧ good a
variable {P : Program} {α β γ : Type}
theorem opn_int {t : TypeId} {k : IntKind} (ht : P.underlying t = some (.int k)) : Opn P t (Kd.int k) (fun n => (Lit.int k n).wf = true) := by
  intro H enc w base spare held fuel cs x h
  obtain ⟨n, rfl, _, hw⟩ := DataW.trod_int ht h
  exact ⟨n, rfl, hw⟩
theorem opn_string {t : TypeId} (ht : P.underlying t = some .string) : Opn P t Kd.string (fun s => s.size ≤ maxLen) := by
  intro H enc w base spare held fuel cs x h
  obtain ⟨s, rfl, _, hw⟩ := DataW.trod_string ht h
  exact ⟨s, rfl, hw⟩
theorem opn_bool {t : TypeId} (ht : P.underlying t = some .bool) : Opn P t Kd.bool (fun _ => True) := by
  intro H enc w base spare held fuel cs x h
  obtain ⟨b, rfl, _⟩ := DataW.trod_bool ht h
  exact ⟨b, rfl, trivial⟩
theorem opn_iso {t : TypeId} {d : Kd α} {good : α → Prop} (f : β → α) (g : α → β) (hfg : ∀ a, f (g a) = a) (h : Opn P t d good) : Opn P t (Kd.iso d f) (fun b => good (f b)) := by
  intro H enc w base spare held fuel cs x hx
  obtain ⟨a, h1, h2⟩ := h hx
  exact ⟨g a, by simpa [Kd.iso, hfg] using h1, by show good (f (g a)); rw [hfg]; exact h2⟩
theorem opn_slice {t e : TypeId} {d : Kd α} {good : α → Prop} (ht : P.underlying t = some (.slice e)) (hc : P.cellsOf e = d.sz) (h : Opn P e d good) :
    Opn P t (Kd.slice e d) (fun xs => xs.length ≤ maxLen ∧ ∀ x ∈ xs, good x) := by
  intro H enc w base spare held fuel cs x hx
  rcases Go.Deep.open_slice ht hx with ⟨rfl, _⟩ | ⟨a, len, cap, m, n, D, Pl, rfl, _, hl, hm, hmm, _, hel⟩
  · exact ⟨[], ⟨none, 0, rfl, Nat.le_refl _, Kd.C_nil d w⟩, by simp [maxLen], by simp⟩
  · have hlm : len ≤ m := by rw [hmm]; split <;> omega
    have key : ∀ i, i < len → ∃ y : α, (∃ cs', w.cells? base (a.add (i * P.cellsOf e)) (P.cellsOf e) = some cs' ∧ d.K w y cs') ∧ good y := fun i hi => by
      obtain ⟨cs', h1, h2⟩ := hel i (by omega)
      obtain ⟨y, h3, h4⟩ := h h2
      exact ⟨y, ⟨cs', h1, h3⟩, h4⟩
    have hne : len = 0 ∨ 0 < len := by omega
    rcases hne with rfl | hpos
    · exact ⟨[], ⟨some a, cap, rfl, Nat.zero_le _, rfl, by simp, fun h0 => absurd h0 (Nat.lt_irrefl 0)⟩, by simp [maxLen], by simp⟩
    · haveI : Inhabited α := ⟨(key 0 hpos).choose⟩
      obtain ⟨f, hf⟩ := Go.Deep.choose_lt key
      refine ⟨(List.range len).map f, ⟨some a, cap, by simp, by simpa using hl, ?_⟩, by simp; omega, ?_⟩
      · refine ⟨by simp, by simp; have := hm; unfold maxLen at this; omega, fun _ => ⟨a, rfl, fun j p hj => ?_⟩⟩
        have hjl : j < len := by
          rcases Nat.lt_or_ge j len with h0 | h0
          · exact h0
          · simp [List.getElem?_eq_none (show ((List.range len).map f).length ≤ j by simpa using h0)] at hj
        have : p = f j := by
          rw [List.getElem?_map, List.getElem?_range hjl] at hj
          simpa using hj.symm
        subst this
        obtain ⟨⟨cs', h1, h2⟩, _⟩ := hf j hjl
        obtain ⟨_, hlen, hcell⟩ := World.cells?_some h1
        refine ⟨cs', by rw [hlen, hc], h2, fun i u hu => ?_⟩
        have hi : i < P.cellsOf e := by
          rcases Nat.lt_or_ge i (P.cellsOf e) with h0 | h0
          · exact h0
          · rw [List.getElem?_eq_none (by omega)] at hu
            cases hu
        rw [← hc, ← Go.Deep.add_add, hcell i hi, hu]
      · intro y hy
        obtain ⟨i, hi, rfl⟩ := List.mem_map.1 hy
        exact (hf i (by simpa using hi)).2
theorem opn_struct2 {t : TypeId} {f0 f1 : Field} {a : Kd α} {b : Kd β} {g0 : α → Prop} {g1 : β → Prop} (ht : P.underlying t = some (.struct #[f0, f1])) (hc : P.cellsOf t = a.sz + b.sz)
    (o0 : f0.offset = 0) (c0 : P.cellsOf f0.type = a.sz) (o1 : f1.offset = a.sz) (c1 : P.cellsOf f1.type = b.sz) (h0 : Opn P f0.type a g0) (h1 : Opn P f1.type b g1) :
    Opn P t (Kd.pair a b) (fun x => g0 x.1 ∧ g1 x.2) := by
  intro H enc w base spare held fuel cs x hx
  obtain ⟨y0, y1, n, _, hl, hy0, hy1⟩ := trod_struct2 ht hx
  obtain ⟨u, hu, gu⟩ := h0 hy0
  obtain ⟨v, hv, gv⟩ := h1 hy1
  refine ⟨(u, v), ⟨_, _, ?_, hu, hv⟩, gu, gv⟩
  rw [o0, c0, o1, c1, List.drop_zero]
  rw [List.take_of_length_le (l := cs.drop a.sz) (by rw [List.length_drop]; omega), List.take_append_drop]
theorem opn_struct3 {t : TypeId} {f0 f1 f2 : Field} {a : Kd α} {b : Kd β} {c : Kd γ} {g0 : α → Prop} {g1 : β → Prop} {g2 : γ → Prop} (ht : P.underlying t = some (.struct #[f0, f1, f2])) (hc : P.cellsOf t = a.sz + (b.sz + c.sz))
    (o0 : f0.offset = 0) (c0 : P.cellsOf f0.type = a.sz) (o1 : f1.offset = a.sz) (c1 : P.cellsOf f1.type = b.sz) (o2 : f2.offset = a.sz + b.sz) (c2 : P.cellsOf f2.type = c.sz)
    (h0 : Opn P f0.type a g0) (h1 : Opn P f1.type b g1) (h2 : Opn P f2.type c g2) :
    Opn P t (Kd.pair a (Kd.pair b c)) (fun x => g0 x.1 ∧ g1 x.2.1 ∧ g2 x.2.2) := by
  intro H enc w base spare held fuel cs x hx
  obtain ⟨y0, y1, y2, n, _, hl, hy0, hy1, hy2⟩ := Go.Deep.trod_struct3 ht hx
  obtain ⟨u, hu, gu⟩ := h0 hy0
  obtain ⟨v, hv, gv⟩ := h1 hy1
  obtain ⟨z, hz, gz⟩ := h2 hy2
  refine ⟨(u, v, z), ⟨_, _, ?_, hu, ⟨_, _, rfl, hv, hz⟩⟩, gu, gv, gz⟩
  rw [o0, c0, o1, c1, o2, c2, List.drop_zero]
  rw [List.take_of_length_le (l := cs.drop (a.sz + b.sz)) (by rw [List.length_drop]; omega)]
  have e : (cs.drop a.sz).take b.sz ++ cs.drop (a.sz + b.sz) = cs.drop a.sz := by
    rw [← List.drop_drop, List.take_append_drop]
  rw [e, List.take_append_drop]
end Go.Proofs.Ytdlkhjfkhbeaaaa.Opens
