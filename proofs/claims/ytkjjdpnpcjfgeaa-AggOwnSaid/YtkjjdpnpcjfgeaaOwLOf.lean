/- The plain law: the document's own answer for unlike texts. -/
import Derived.Test.YtkjjdpnpcjfgeaaOwLs4
import Derived.Test.YtkjjdpnpcjfgeaaOwX7
import Derived.Test.YtkjjdpnpcjfgeaaOwGtr
namespace Go.Proofs.Ytkjjdpnpcjfgeaa.QAgg
open Go.RowKit Go.Proofs.YtkjjdpnpcjfgeaaW.PrintWords Go.Proofs.YtkjjdpnpcjfgeaaW.PrintLast Go.Proofs.YtkjjdpnpcjfgeaaW.PrintMore
/-- A text put in its place. -/
def ins (s : ByteArray) : List ByteArray → List ByteArray
  | [] => [s]
  | x :: r => if x.toList = s.toList then x :: r else if Op.bytesLess s.toList x.toList = true then s :: x :: r else x :: ins s r
theorem drop_atB {l : List ByteArray} {i : Nat} (h : i < l.length) : l.drop i = rdOf ByteArray.empty l i :: l.drop (i + 1) := by
  rw [List.drop_eq_getElem_cons h]
  unfold rdOf
  rw [Int.toNat_natCast, List.getD_eq_getElem?_getD, List.getElem?_eq_getElem h, Option.getD_some]
theorem put_l0 {t : List ByteArray} {s : ByteArray} (hn : t.length ≤ 1000000) : ∀ (j K i : Nat) (acc : List ByteArray) (b : Bool), i + j = t.length → j < K → acc.length ≤ i + (if b then 1 else 0) →
    gristmillref06_put.l0 K t s acc b i = some (acc ++ if b then t.drop i else ins s (t.drop i)) := by
  intro j
  induction j with
  | zero =>
    intro K i acc b hi hK ha
    obtain ⟨K, rfl⟩ : ∃ K', K = K' + 1 := ⟨K - 1, by omega⟩
    rw [gristmillref06_put.l0, if_neg (by omega), List.drop_eq_nil_of_le (by omega)]
    cases b with
    | true => simp
    | false => simp at ha; simp [ins]; omega
  | succ j ih =>
    intro K i acc b hi hK ha
    obtain ⟨K, rfl⟩ : ∃ K', K = K' + 1 := ⟨K - 1, by omega⟩
    have hil : i < t.length := by omega
    have step : ∀ (acc : List ByteArray) (b : Bool), acc.length ≤ i + 1 + (if b then 1 else 0) → gristmillref06_put.l0 K t s acc b (wrap64 ((i : Int) + 1)) = some (acc ++ if b then t.drop (i + 1) else ins s (t.drop (i + 1))) := by
      intro acc b ha
      rw [wrap_in (by omega) (by omega)]
      exact ih K (i + 1) acc b (by omega) (by omega) ha
    have hb : (if b = true then 1 else 0) ≤ 1 := by split <;> omega
    have l1 : acc.length < 8796093022208 := by omega
    rw [gristmillref06_put.l0, if_pos (by omega), if_pos (by omega), drop_atB hil]
    by_cases he : (rdOf ByteArray.empty t i).toList = s.toList
    · have e : gristmillref06_put.l0 K t s (acc ++ [rdOf ByteArray.empty t i]) true (wrap64 ((i : Int) + 1)) = some (acc ++ rdOf ByteArray.empty t i :: t.drop (i + 1)) := by
        rw [step _ _ (by simp; omega)]; simp
      rw [if_pos he, if_pos l1, ite_self, e]
      cases b with
      | true => rfl
      | false => simp [ins, he]
    · rw [if_neg he]
      by_cases hl : Op.bytesLess s.toList (rdOf ByteArray.empty t i).toList = true
      · rw [if_pos hl]
        cases b with
        | true => rw [if_pos rfl, if_pos l1, step _ _ (by simp at ha; simp; omega)]; simp
        | false =>
          rw [if_neg (by simp), if_pos l1, Option.bind_some, if_pos (by simp; omega), step _ _ (by simp at ha; simp; omega)]
          simp [ins, he, hl]
      · rw [if_neg hl, if_pos l1, step _ _ (by rw [List.length_append, List.length_singleton]; omega)]
        cases b with
        | true => simp
        | false => simp [ins, he, hl]
theorem put_eq {t : List ByteArray} {s : ByteArray} (hn : t.length ≤ 1000000) {K : Nat} (hK : t.length < K) : gristmillref06_put.f K t s = some (ins s t) := by
  have := put_l0 (s := s) hn t.length K 0 [] false (by omega) hK (by simp)
  rw [List.drop_zero, List.nil_append, if_neg (by simp)] at this
  exact this
theorem ins_memL (s : ByteArray) (l : List ByteArray) (y : Tx) : y ∈ strsL (ins s l) ↔ y = s.data.toList ∨ y ∈ strsL l := by
  induction l with
  | nil => simp [ins, strsL]
  | cons x r ih =>
    unfold ins
    split
    · rename_i h
      rw [ByteArray.toList_eq, ByteArray.toList_eq] at h
      simp only [strsL, List.map_cons, List.mem_cons]
      constructor
      · intro h'; exact .inr h'
      · rintro (rfl | h')
        · exact .inl h.symm
        · exact h'
    · split
      · simp [strsL]
      · have e : strsL (x :: ins s r) = x.data.toList :: strsL (ins s r) := rfl
        have e' : strsL (x :: r) = x.data.toList :: strsL r := rfl
        rw [e, e', List.mem_cons, List.mem_cons, ih, or_left_comm]
theorem ins_asc (s : ByteArray) (l : List ByteArray) : Asc (strsL l) → Asc (strsL (ins s l)) := by
  induction l with
  | nil => intro _; simp [ins, strsL, Asc]
  | cons x r ih =>
    intro h
    have h' : (∀ y ∈ strsL r, x.data.toList < y) ∧ Asc (strsL r) := List.pairwise_cons.mp h
    unfold ins
    split
    · exact h
    · rename_i hne
      rw [ByteArray.toList_eq, ByteArray.toList_eq] at hne
      split
      · rename_i hl
        rw [ByteArray.toList_eq, ByteArray.toList_eq, Short.bytesLess_lt] at hl
        have hl := of_decide_eq_true hl
        refine List.pairwise_cons.mpr ⟨fun y hy => ?_, h⟩
        rcases List.mem_cons.mp (show y ∈ x.data.toList :: strsL r from hy) with rfl | hy
        · exact hl
        · exact List.lt_trans hl (h'.1 y hy)
      · rename_i hl
        rw [ByteArray.toList_eq, ByteArray.toList_eq, Short.bytesLess_lt] at hl
        have hl : ¬ s.data.toList < x.data.toList := fun h => hl (decide_eq_true h)
        refine List.pairwise_cons.mpr ⟨fun y hy => ?_, ih h'.2⟩
        rcases (ins_memL s r y).mp hy with rfl | hy
        · exact tlt_of_le_ne (List.not_lt.mp hl) hne
        · exact h'.1 y hy
theorem ins_canon {s : ByteArray} {l : List ByteArray} (h : Asc (strsL l)) : ins s l = canon (l ++ [s]) := by
  refine strsL_inj (asc_ext (ins_asc s l h) (canon_asc _) fun y => ?_)
  rw [ins_memL, canon_memL, strsL_append, List.mem_append, or_comm]
  simp [strsL]
theorem Of_l0 {l : List S39} (hl : Fis l) (hn : l.length ≤ 8000) : ∀ (j K i : Nat) (b : Bool) (p : Pt), i + j = l.length → j + 9000 < K → Gd 5 (i * 1125899906842624) i p →
    gristmillref06_Of.l0 K l b i 5 0 p.1 p.2.1 p.2.2 = some ((l.drop i).foldl (fun p x => mg 5 p (one 5 0 x)) p) := by
  intro j
  induction j with
  | zero =>
    intro K i b p hi hK hp
    obtain ⟨K, rfl⟩ : ∃ K', K = K' + 1 := ⟨K - 1, by omega⟩
    rw [gristmillref06_Of.l0, if_neg (by omega), List.drop_eq_nil_of_le (by omega)]; rfl
  | succ j ih =>
    intro K i b p hi hK hp
    obtain ⟨K, rfl⟩ : ∃ K', K = K' + 1 := ⟨K - 1, by omega⟩
    have hil : i < l.length := by omega
    have hx := hl _ (at_mem hil)
    have ho := one_gd (k := 5) (c := 0) hx
    have hg : Gd 5 (((i + 1 : Nat) : Int) * 1125899906842624) (i + 1) (mg 5 p (one 5 0 (rd_T39 l i))) := (hp.mg ho (by omega)).up (by omega) (by omega)
    have step := fun b => ih K (i + 1) b _ (by omega) (by omega) hg
    rw [drop_at hil]
    show _ = some ((l.drop (i + 1)).foldl (fun p x => mg 5 p (one 5 0 x)) (mg 5 p (one 5 0 (rd_T39 l i))))
    rw [gristmillref06_Of.l0, if_pos (by omega), if_pos (by omega), wrap_in (n := (i : Int) + 1) (by omega) (by omega)]
    by_cases h0 : (rd_T39 l i).f1 = 0
    · rw [if_pos h0]
      have e : mg 5 p (one 5 0 (rd_T39 l i)) = p := by rw [one, if_pos h0]; exact mg_zr hp
      have := step b
      rw [e] at this ⊢
      exact this
    · have hd : (0 : Int) < ((rd_T39 l i).f0.f1.length : Int) := by rw [hx.d]; decide
      rw [if_neg h0, if_neg (by decide), if_neg (by decide), if_neg (by decide), if_pos rfl, if_pos (by decide), if_pos hd, put_eq (by have := hp.l; omega) (by have := hp.l; omega), Option.bind_some]
      have e : mg 5 p (one 5 0 (rd_T39 l i)) = (IntKind.u64.wrap (p.1 + (rd_T39 l i).f1), p.2.1, ins (rdOf ByteArray.empty (rd_T39 l i).f0.f1 0) p.2.2) := by
        have h1 := hx.n0
        have h2 := hx.n1
        have h3 := hp.n0
        have h4 := hp.nB
        rw [ins_canon hp.a]
        have eo : one 5 0 (rd_T39 l i) = ((rd_T39 l i).f1, 0, [rdOf ByteArray.empty (rd_T39 l i).f0.f1 0]) := by rw [one, if_neg h0]; rfl
        by_cases hz : p.1 = 0
        · rw [hp.z hz, mg_zl ho, eo, u64_eq]
          show _ = ((0 + (rd_T39 l i).f1) % 18446744073709551616, (0 : Int), canon [rdOf ByteArray.empty (rd_T39 l i).f0.f1 0])
          rw [Int.zero_add, Int.emod_eq_of_lt h1 (by omega), canon_of_asc (by simp [strsL, Asc])]
        · rw [mg_nz hp ho (by omega) hz (by rw [eo]; exact h0), eo, u64_eq, Int.emod_eq_of_lt (by omega) (by omega)]
          rfl
      have := step false
      rw [e] at this ⊢
      exact this
theorem Of_eq {l : List S39} (hl : Fis l) (hn : l.length ≤ 8000) {K : Nat} (hK : l.length + 9000 < K) : gristmillref06_Of.f K 5 0 l = some (tot 5 0 l) := by
  have h0 : Gd 5 ((0 : Nat) * 1125899906842624) 0 zP := Gd.zero (by simp)
  have := Of_l0 hl hn l.length K 0 true zP (by omega) hK h0
  rw [List.drop_zero, (foldl_tot hl hn h0 (by omega)).1, mg_zl (tot_gd hl hn)] at this
  exact this
end Go.Proofs.Ytkjjdpnpcjfgeaa.QAgg
