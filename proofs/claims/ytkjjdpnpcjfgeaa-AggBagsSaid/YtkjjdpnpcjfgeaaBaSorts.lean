/- Contracts of slices.Sort and slices.Compact at []string, of a row of one's own, in the words of the print. -/
import Derived.Test.YtkjjdpnpcjfgeaaBaRs1
import Derived.Test.YtkjjdpnpcjfgeaaBaShelf
import Derived.Sort.OwnSorted
import Derived.Lib.RowBridge
namespace Go.Proofs.Ytkjjdpnpcjfgeaa
open Go.RowKit Go.Proofs.YtkjjdpnpcjfgeaaW.PrintWords Go.Proofs.YtkjjdpnpcjfgeaaW.PrintLast Go.Sort

/-- Texts as lists of bytes, and back. -/
def strsL (l : List ByteArray) : List (List UInt8) := l.map fun b => b.data.toList
def basL (l : List (List UInt8)) : List ByteArray := l.map fun x => ⟨x.toArray⟩
theorem basL_strsL (l : List ByteArray) : basL (strsL l) = l := by simp [basL, strsL, Function.comp_def]
theorem strsL_basL (l : List (List UInt8)) : strsL (basL l) = l := by simp [basL, strsL, Function.comp_def]
theorem strsL_length (l : List ByteArray) : (strsL l).length = l.length := by simp [strsL]
theorem basL_length (l : List (List UInt8)) : (basL l).length = l.length := by simp [basL]
theorem enc_basL (ts : List (List UInt8)) : encs Value.string (basL ts) = ts.map encStr := by simp [encs, basL, encStr]
theorem enc_strsL (l : List ByteArray) : (strsL l).map encStr = encs Value.string l := by rw [← enc_basL, basL_strsL]

/-- What slices.Sort, slices.Compact leave of texts. -/
def sortS (l : List ByteArray) : List ByteArray := basL ((strsL l).mergeSort fun x y => decide (x ≤ y))
def compS (l : List ByteArray) : List ByteArray := basL (Lib.compact (strsL l))
theorem sortS_length (l : List ByteArray) : (sortS l).length = l.length := by simp [sortS, basL_length, strsL_length]
theorem compS_length (l : List ByteArray) : (compS l).length ≤ l.length := by
  have := Lib.compact_length_le (strsL l)
  simp only [compS, basL_length, strsL_length] at this ⊢
  exact this

theorem row_of_R {w : World} {base : Nat} {v : Value} {l : List ByteArray} (h : Kd.R Kd.string 9 w base (fun _ => True) v l) :
    (v = .slice none 0 0 ∧ l = []) ∨ ∃ g cap cur, v = .slice (some ⟨g, 0, none⟩) l.length cap ∧ base ≤ g ∧ w.heap[g]? = some (.cells cur 9 (0, 0)) ∧ l.length ≤ cap ∧ cap ≤ maxLen ∧ cur.size = cap * 1 ∧ cur.toList.take (l.length * 1) = encs Value.string l := by
  rcases (Kd.own_of_R h).2 with ⟨h1, h2⟩ | h2
  · exact .inl ⟨h1, List.eq_nil_of_length_eq_zero h2⟩
  · exact .inr h2

theorem sort_calls (base : Nat) (v : Value) (l : List ByteArray) (w : World) (h : Kd.R Kd.string 9 w base (fun _ => True) v l) (hl : l.length ≤ 1000000) :
    Calls Try.prog 21 #[v] w fun e w' => e = .returned (.tuple #[]) ∧ Kd.R Kd.string 9 w' base (fun _ => True) v (sortS l) ∧ w.grownBy w' v.ownBlock := by
  rcases row_of_R h with ⟨rfl, rfl⟩ | ⟨g, cap, cur, rfl, hbase, hb, h1, h2, h3, h4⟩
  · refine (Try.slices_Sort_string_none none 0 w).mono ?_
    rintro e w' ⟨rfl, rfl⟩
    exact ⟨rfl, by simpa [sortS, strsL, basL] using h, World.grownBy.refl _ _⟩
  · have hg : g < w.heap.size := (Array.getElem?_eq_some_iff.1 hb).1
    have e1 : (strsL l).length = l.length := strsL_length l
    have hH : Holds encStr w g 0 (strsL l).toArray := holds_of_block hb (by rw [e1, enc_strsL]; simpa using h4)
    have hc := Try.slices_Sort_string g 0 cap (strsL l) w hH hg (by omega)
    rw [e1] at hc
    refine hc.mono ?_
    rintro e w' ⟨rfl, n, os, rfl⟩
    refine ⟨rfl, Kd.R_of_own ?_ (fun _ _ => trivial), grownBy_sorted _⟩
    have := ownsRow_sorted (w := w) (base := base) (g := g) (cap := cap) (n := n) (e := 9) (os := os) (cur := cur) (ss := strsL l) (ts := (strsL l).mergeSort fun x y => decide (x ≤ y)) (by simp) hbase hb (by omega) h2 h3
    rw [e1] at this
    rw [sortS_length, sortS, enc_basL]
    exact this

theorem compact_calls (base : Nat) (v : Value) (l : List ByteArray) (w : World) (h : Kd.R Kd.string 9 w base (fun _ => True) v l) (hl : l.length ≤ 1000000) :
    Calls Try.prog 22 #[v] w fun e w' => ∃ v', e = .returned v' ∧ Kd.R Kd.string 9 w' base (fun _ => True) v' (compS l) ∧ w.grownBy w' v.ownBlock := by
  rcases row_of_R h with ⟨rfl, rfl⟩ | ⟨g, cap, cur, rfl, hbase, hb, h1, h2, h3, h4⟩
  · refine (Try.slices_Compact_string_empty none 0 w).mono ?_
    rintro e w' ⟨rfl, rfl⟩
    exact ⟨_, rfl, by simpa [compS, strsL, basL, Lib.compact, Lib.compactUpTo] using h, World.grownBy.refl _ _⟩
  · have e1 : (strsL l).length = l.length := strsL_length l
    have hH : Holds encStr w g 0 (strsL l).toArray := holds_of_block hb (by rw [e1, enc_strsL]; simpa using h4)
    have hc := Try.slices_Compact_string g 0 cap (strsL l) w hH (by omega) (by omega)
    rw [e1] at hc
    refine hc.mono ?_
    rintro e w' ⟨rfl, q, rfl⟩
    have hle := Lib.compact_length_le (strsL l)
    rw [e1] at hle
    have hlen : (Lib.compact (strsL l) ++ List.replicate (l.length - (Lib.compact (strsL l)).length) []).length = (strsL l).length := by simp; omega
    have := ownsRow_sorted (w := w) (base := base) (g := g) (cap := cap) (n := q) (e := 9) (os := #[]) (cur := cur) (ss := strsL l) (ts := Lib.compact (strsL l) ++ List.replicate (l.length - (Lib.compact (strsL l)).length) []) hlen hbase hb (by omega) h2 h3
    rw [grow_empty, e1] at this
    have h5 := own_take this hle
    have hgr := grownBy_sorted (w := w) (g := g) (n := q) (os := #[]) (Lib.compact (strsL l) ++ List.replicate (l.length - (Lib.compact (strsL l)).length) []).toArray
    rw [grow_empty] at hgr
    refine ⟨_, rfl, Kd.R_of_own ?_ (fun _ _ => trivial), hgr⟩
    rw [compS, basL_length, enc_basL]
    have e2 : ((Lib.compact (strsL l) ++ List.replicate (l.length - (Lib.compact (strsL l)).length) []).map encStr).take ((Lib.compact (strsL l)).length * 1) = (Lib.compact (strsL l)).map encStr := by
      rw [List.map_append, Nat.mul_one, List.take_left' (by simp)]
    rw [← e2]
    exact h5
#print axioms sort_calls
#print axioms compact_calls
end Go.Proofs.Ytkjjdpnpcjfgeaa
