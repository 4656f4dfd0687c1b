/- Greater on texts, in the form in which the printed texts ask it. -/
import Derived.Laws.Strings
namespace Go.Proofs.Ytdlkhjfkhbeaaaa.Short
theorem bytesLess_lt : ∀ (x y : List UInt8), Op.bytesLess x y = decide (x < y)
  | [], [] => by simp [Op.bytesLess]
  | _ :: _, [] => by simp [Op.bytesLess]
  | [], _ :: _ => by simp [Op.bytesLess]
  | a :: x, b :: y => by
    rw [Op.bytesLess, bytesLess_lt x y]
    simp only [List.cons_lt_cons_iff]
    by_cases h1 : a < b <;> by_cases h2 : a = b <;> by_cases h3 : x < y <;> simp [h1, h2, h3]
theorem bytes_gtr (x y : List UInt8) : (!(Op.bytesLess x y || x == y)) = Op.bytesLess y x := by
  rw [bytesLess_lt, bytesLess_lt]
  by_cases h : x = y
  · subst h; simp [List.lt_irrefl]
  · by_cases h1 : x < y
    · simp [h1, List.lt_asymm h1]
    · have : y < x := by
        rcases List.le_iff_lt_or_eq.mp (List.not_lt.mp h1) with h2 | h2
        · exact h2
        · exact absurd h2.symm h
      simp [h, h1, this]
@[go_sem high] theorem binOp_string_gtr_t (t : TypeId) (a b : ByteArray) : binOp .gtr t (.string a) (.string b) = pure (.bool (Op.bytesLess b.toList a.toList)) := by
  rw [← bytes_gtr]; simp [binOp, Op.stringOp]
end Go.Proofs.Ytdlkhjfkhbeaaaa.Short
