/- The plain law: sorted texts without doubles, and merging as a commutative monoid. -/
import Derived.Test.YtkjjdpnpcjfgeaaBaHand1
namespace Go.Proofs.Ytkjjdpnpcjfgeaa.QAgg
open Go.RowKit Go.Proofs.YtkjjdpnpcjfgeaaW.PrintWords Go.Proofs.YtkjjdpnpcjfgeaaW.PrintLast Go.Proofs.YtkjjdpnpcjfgeaaW.PrintMore
abbrev Tx := List UInt8
theorem tlt_of_le_ne {a b : Tx} (h : a ≤ b) (hn : a ≠ b) : a < b := by
  rcases List.le_iff_lt_or_eq.mp h with h | h
  · exact h
  · exact absurd h hn
theorem tlt_of_le_of_lt {a b c : Tx} (h : a ≤ b) (h' : b < c) : a < c := by
  rcases List.le_iff_lt_or_eq.mp h with h | h
  · exact List.lt_trans h h'
  · exact h ▸ h'
/-- Rising texts, each once. -/
def Asc (l : List Tx) : Prop := l.Pairwise (· < ·)
theorem asc_ext : ∀ {l m : List Tx}, Asc l → Asc m → (∀ x, x ∈ l ↔ x ∈ m) → l = m
  | [], [], _, _, _ => rfl
  | [], b :: m, _, _, h => absurd ((h b).mpr (by simp)) (by simp)
  | a :: l, [], _, _, h => absurd ((h a).mp (by simp)) (by simp)
  | a :: l, b :: m, hl, hm, h => by
    have hl := List.pairwise_cons.mp hl
    have hm := List.pairwise_cons.mp hm
    have hab : a = b := by
      have h1 := (h a).mp (by simp)
      have h2 := (h b).mpr (by simp)
      rcases List.mem_cons.mp h1 with h1 | h1
      · exact h1
      · rcases List.mem_cons.mp h2 with h2 | h2
        · exact h2.symm
        · exact absurd (List.lt_trans (hm.1 _ h1) (hl.1 _ h2)) (List.lt_irrefl _)
    subst hab
    rw [asc_ext hl.2 hm.2 (fun x => ?_)]
    constructor
    · intro hx
      rcases List.mem_cons.mp ((h x).mp (by simp [hx])) with h1 | h1
      · exact absurd (h1 ▸ hl.1 _ hx) (List.lt_irrefl _)
      · exact h1
    · intro hx
      rcases List.mem_cons.mp ((h x).mpr (by simp [hx])) with h1 | h1
      · exact absurd (h1 ▸ hm.1 _ hx) (List.lt_irrefl _)
      · exact h1
theorem upTo_spec (zs : List Tx) (hs : zs.Pairwise (· ≤ ·)) : ∀ m, m ≤ zs.length →
    Asc (Lib.compactUpTo zs.toArray m) ∧ (∀ x, x ∈ Lib.compactUpTo zs.toArray m ↔ ∃ j, j < m ∧ zs.toArray[j]! = x)
  | 0, _ => by simp [Lib.compactUpTo, Asc]
  | m + 1, hm => by
    obtain ⟨h1, h2⟩ := upTo_spec zs hs m (by omega)
    have hle : ∀ i j, i ≤ j → j < zs.length → zs.toArray[i]! ≤ zs.toArray[j]! := fun i j hij hj => by
      have hi : i < zs.length := by omega
      simp only [List.getElem!_toArray]
      rw [getElem!_pos zs i hi, getElem!_pos zs j hj]
      rcases Nat.lt_or_ge i j with h | h
      · exact (List.pairwise_iff_getElem.mp hs) i j hi hj h
      · have : i = j := by omega
        subst this
        exact List.le_refl _
    rw [Lib.compactUpTo_succ]
    by_cases hk : Lib.keeps zs.toArray m = true
    · rw [if_pos hk]
      refine ⟨?_, fun x => ?_⟩
      · refine List.pairwise_append.mpr ⟨h1, by simp, fun a ha b hb => ?_⟩
        obtain rfl : b = zs.toArray[m]! := by simpa using hb
        obtain ⟨j, hj, rfl⟩ := (h2 a).mp ha
        have hne : zs.toArray[m]! ≠ zs.toArray[m - 1]! := by
          have := of_decide_eq_true hk
          rcases this with h | h
          · omega
          · exact h
        exact tlt_of_le_of_lt (hle j (m - 1) (by omega) (by omega)) (tlt_of_le_ne (hle (m - 1) m (by omega) (by omega)) (fun h => hne h.symm))
      · rw [List.mem_append, h2]
        constructor
        · rintro (⟨j, hj, rfl⟩ | h)
          · exact ⟨j, by omega, rfl⟩
          · exact ⟨m, by omega, (List.mem_singleton.mp h).symm⟩
        · rintro ⟨j, hj, rfl⟩
          rcases Nat.lt_or_ge j m with h | h
          · exact .inl ⟨j, h, rfl⟩
          · obtain rfl : j = m := by omega
            exact .inr (by simp)
    · rw [if_neg hk, List.append_nil]
      refine ⟨h1, fun x => ?_⟩
      rw [h2]
      constructor
      · rintro ⟨j, hj, rfl⟩
        exact ⟨j, by omega, rfl⟩
      · rintro ⟨j, hj, rfl⟩
        rcases Nat.lt_or_ge j m with h | h
        · exact ⟨j, h, rfl⟩
        · obtain rfl : j = m := by omega
          have hk' : ¬ (j = 0 ∨ zs.toArray[j]! ≠ zs.toArray[j - 1]!) := fun h => hk (decide_eq_true h)
          refine ⟨j - 1, ?_, ?_⟩
          · rcases Nat.eq_zero_or_pos j with h0 | h0
            · exact absurd (.inl h0) hk'
            · omega
          · refine Decidable.byContradiction fun h0 => hk' (.inr fun h1 => h0 h1.symm)
theorem compact_spec (zs : List Tx) (hs : zs.Pairwise (· ≤ ·)) : Asc (Lib.compact zs) ∧ ∀ x, x ∈ Lib.compact zs ↔ x ∈ zs := by
  obtain ⟨h1, h2⟩ := upTo_spec zs hs zs.length (Nat.le_refl _)
  refine ⟨h1, fun x => ?_⟩
  show x ∈ Lib.compactUpTo _ _ ↔ _
  rw [h2, List.mem_iff_getElem]
  constructor
  · rintro ⟨j, hj, rfl⟩
    exact ⟨j, hj, by rw [List.getElem!_toArray, getElem!_pos zs j hj]⟩
  · rintro ⟨j, hj, rfl⟩
    exact ⟨j, hj, by rw [List.getElem!_toArray, getElem!_pos zs j hj]⟩
theorem sort_spec (zs : List Tx) : (zs.mergeSort fun x y => decide (x ≤ y)).Pairwise (· ≤ ·) ∧ ∀ x, x ∈ (zs.mergeSort fun x y => decide (x ≤ y)) ↔ x ∈ zs := by
  refine ⟨?_, fun x => List.mem_mergeSort⟩
  have := List.pairwise_mergeSort (le := fun x y : Tx => decide (x ≤ y)) (fun a b c h1 h2 => decide_eq_true (List.le_trans (of_decide_eq_true h1) (of_decide_eq_true h2))) (fun a b => by
    rcases List.le_total a b with h | h
    · simp [h]
    · simp [h]) zs
  exact this.imp fun h => of_decide_eq_true h
/-- The texts of a list: rising, each once. -/
def canon (t : List ByteArray) : List ByteArray := compS (sortS t)
theorem strsL_inj {s t : List ByteArray} (h : strsL s = strsL t) : s = t := by rw [← basL_strsL s, h, basL_strsL]
theorem strsL_canon (t : List ByteArray) : strsL (canon t) = Lib.compact ((strsL t).mergeSort fun x y => decide (x ≤ y)) := by
  unfold canon compS sortS
  rw [strsL_basL, strsL_basL]
theorem canon_asc (t : List ByteArray) : Asc (strsL (canon t)) := by rw [strsL_canon]; exact (compact_spec _ (sort_spec _).1).1
theorem canon_memL (t : List ByteArray) (x : Tx) : x ∈ strsL (canon t) ↔ x ∈ strsL t := by
  rw [strsL_canon, (compact_spec _ (sort_spec _).1).2, (sort_spec _).2]
theorem canon_ext {s t : List ByteArray} (h : ∀ x, x ∈ strsL s ↔ x ∈ strsL t) : canon s = canon t :=
  strsL_inj (asc_ext (canon_asc s) (canon_asc t) fun x => by rw [canon_memL, canon_memL, h])
theorem canon_of_asc {t : List ByteArray} (h : Asc (strsL t)) : canon t = t := strsL_inj (asc_ext (canon_asc t) h fun x => canon_memL t x)
theorem strsL_append (s t : List ByteArray) : strsL (s ++ t) = strsL s ++ strsL t := by simp [strsL]
theorem canon_comm (s t : List ByteArray) : canon (s ++ t) = canon (t ++ s) := canon_ext fun x => by rw [strsL_append, strsL_append, List.mem_append, List.mem_append, or_comm]
theorem canon_l (s t : List ByteArray) : canon (canon s ++ t) = canon (s ++ t) := canon_ext fun x => by rw [strsL_append, strsL_append, List.mem_append, List.mem_append, canon_memL]
theorem canon_r (s t : List ByteArray) : canon (s ++ canon t) = canon (s ++ t) := by rw [canon_comm, canon_l, canon_comm]
theorem canon_self (s : List ByteArray) : canon (s ++ s) = canon s := canon_ext fun x => by rw [strsL_append, List.mem_append, or_self]
theorem canon_length (t : List ByteArray) : (canon t).length ≤ t.length := by
  unfold canon; exact Nat.le_trans (compS_length _) (Nat.le_of_eq (sortS_length t))
end Go.Proofs.Ytkjjdpnpcjfgeaa.QAgg
