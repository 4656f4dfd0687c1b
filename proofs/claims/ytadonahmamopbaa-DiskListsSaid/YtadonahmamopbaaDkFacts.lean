/- What the list told has to do with the names that were taken. -/
import Derived.Test.YtadonahmamopbaaDk4
namespace Go.Proofs.Ytadonahmamopbaa.QDk
open Go.RowKit Go.Maps Go.Proofs.YtadonahmamopbaaW.PrintWords Go.Proofs.YtadonahmamopbaaW.PrintLast Go.Proofs.YtadonahmamopbaaW.PrintMore Go.Sort Go.Lib Go.Shelf
theorem keys_has {w : World} {mb n : Nat} {D : DataW Unit} (hown : w.ownsMap Try.prog 9 pr mb n D) (x : List UInt8) : x ∈ strKeys D ↔ Maps.has D (.string x) = true := by
  have hk : Try.prog.underlying 9 = some .string := by kernel_rfl
  obtain ⟨es, rfl, hko⟩ := hown.keysOf
  have hst : ∀ q ∈ es, ∃ x, q.1 = .string x := fun q hq => by obtain ⟨v, hv⟩ := hko q hq; obtain ⟨x, _, hx, _⟩ := Maps.keyOf_str hk hv; exact ⟨x, hx⟩
  rw [has_eq, List.any_eq_true]
  show x ∈ es.map (fun q => strOf q.1) ↔ _
  rw [List.mem_map]
  constructor
  · rintro ⟨q, hq, rfl⟩
    obtain ⟨y, hy⟩ := hst q hq
    exact ⟨q, hq, by rw [hy]; simp [Lit.sameKey, strOf]⟩
  · rintro ⟨q, hq, hs⟩
    obtain ⟨y, hy⟩ := hst q hq
    rw [hy] at hs
    have := WideAt.sameKey_eq hs
    injection this with e
    exact ⟨q, hq, by rw [hy]; exact e⟩
theorem keys_nodup {w : World} {mb n : Nat} {D : DataW Unit} (hown : w.ownsMap Try.prog 9 pr mb n D) : (strKeys D).Nodup := by
  have hk : Try.prog.underlying 9 = some .string := by kernel_rfl
  obtain ⟨es, hD, hpw, _⟩ := hown.entries ky
  obtain ⟨es', hD', hko⟩ := hown.keysOf
  obtain rfl : es = es' := by rw [hD] at hD'; simpa using hD'
  subst hD
  show (es.map fun p => strOf p.1).Nodup
  refine List.pairwise_map.2 (hpw.imp_of_mem fun {p q} hp' hq' hne e => hne ?_)
  obtain ⟨v, hv⟩ := hko p hp'
  obtain ⟨a, _, ha, _⟩ := Maps.keyOf_str hk hv
  obtain ⟨v', hv'⟩ := hko q hq'
  obtain ⟨b, _, hb, _⟩ := Maps.keyOf_str hk hv'
  rw [ha, hb] at e ⊢
  exact congrArg _ e
/-- What the answers of the two last loops rest on. -/
structure Facts (p : ByteArray) (G L : List ByteArray) : Prop where
  f1 : ∀ x ∈ L, (G.any fun g => g.toList == x.toList) = true
  f2 : ∀ x ∈ L, bg x p = true
  f3 : ∀ j, j + 1 < L.length → Op.bytesLess (rdOf ByteArray.empty L j).toList (rdOf ByteArray.empty L (j + 1 : Nat)).toList = true
  f4 : ∀ g ∈ G, bg g p = true → (L.any fun x => g.toList == x.toList) = true
theorem srt_sorted (ss : List (List UInt8)) : (srt ss).Pairwise (· ≤ ·) := by
  have tr : ∀ a b c : List UInt8, decide (a ≤ b) = true → decide (b ≤ c) = true → decide (a ≤ c) = true := fun a b c h1 h2 => by simp only [decide_eq_true_eq] at *; exact List.le_trans h1 h2
  have tt : ∀ a b : List UInt8, (decide (a ≤ b) || decide (b ≤ a)) = true := fun a b => by simp only [Bool.or_eq_true, decide_eq_true_eq]; exact List.le_total a b
  exact (List.pairwise_mergeSort tr tt ss).imp fun h => by simpa using h
theorem rd_get {l : List ByteArray} {j : Nat} (h : j < l.length) : rdOf ByteArray.empty l j = l[j] := by
  unfold rdOf
  rw [Int.toNat_natCast, List.getD_eq_getElem?_getD, List.getElem?_eq_getElem h, Option.getD_some]
theorem facts {w : World} {mb n : Nat} {D : DataW Unit} (hown : w.ownsMap Try.prog 9 pr mb n D) {p : ByteArray} {G : List ByteArray} {ss : List (List UInt8)} (hk : ∀ x, Maps.has D (.string x) = true ↔ x ∈ strsL G) (hS : ss.Perm (strKeys D)) : Facts p G ((basL (srt ss)).filter fun s => bg s p) := by
  have hnd : ss.Nodup := hS.nodup_iff.2 (keys_nodup hown)
  have hmem : ∀ x, x ∈ srt ss ↔ x ∈ strsL G := fun x => ((List.mergeSort_perm ss _).mem_iff).trans ((hS.mem_iff).trans ((keys_has hown x).trans (hk x)))
  have hlt : ((basL (srt ss)).filter fun s => bg s p).Pairwise fun a b => Op.bytesLess a.toList b.toList = true := by
    refine List.Pairwise.filter _ ?_
    refine List.pairwise_map.2 ?_
    have h1 : (srt ss).Nodup := (List.mergeSort_perm ss _).nodup_iff.2 hnd
    refine ((srt_sorted ss).and h1).imp fun {a b} h => ?_
    rw [bytesLess_eq, Lib.toList_data, Lib.toList_data]
    simp only [decide_eq_true_eq]
    rcases List.le_iff_lt_or_eq.1 h.1 with h' | h'
    · exact h'
    · exact absurd h' h.2
  refine ⟨fun x hx => ?_, fun x hx => (List.mem_filter.1 hx).2, fun j hj => ?_, fun g hg hb => ?_⟩
  · have h1 := (List.mem_filter.1 hx).1
    obtain ⟨y, hy, rfl⟩ := List.mem_map.1 h1
    obtain ⟨g, hg, e⟩ := List.mem_map.1 ((hmem y).1 hy)
    rw [List.any_eq_true]
    exact ⟨g, hg, by rw [Lib.toList_data, Lib.toList_data, e]; simp⟩
  · rw [rd_get (by omega), rd_get hj]
    exact List.pairwise_iff_getElem.1 hlt j (j + 1) (by omega) hj (by omega)
  · rw [List.any_eq_true]
    refine ⟨g, List.mem_filter.2 ⟨?_, hb⟩, by simp⟩
    have h1 := (hmem g.data.toList).2 (List.mem_map.2 ⟨g, hg, rfl⟩)
    refine List.mem_map.2 ⟨g.data.toList, h1, ?_⟩
    cases g; simp
end Go.Proofs.Ytadonahmamopbaa.QDk
