/- The plain law: merging is turned and put together otherwise with no change. -/
import Derived.Test.YtkjjdpnpcjfgeaaBaLs1
namespace Go.Proofs.Ytkjjdpnpcjfgeaa.QAgg
open Go.RowKit Go.Proofs.YtkjjdpnpcjfgeaaW.PrintWords Go.Proofs.YtkjjdpnpcjfgeaaW.PrintLast Go.Proofs.YtkjjdpnpcjfgeaaW.PrintMore
abbrev Pt := Int × Int × List ByteArray
def zP : Pt := (0, 0, [])
def mg (k : Int) (p q : Pt) : Pt := mergeP k p.1 p.2.1 p.2.2 q.1 q.2.1 q.2.2
theorem u64_eq (n : Int) : IntKind.u64.wrap n = n % 18446744073709551616 := by
  simp [IntKind.wrap, IntKind.bits, IntKind.signed]
/-- What an aggregator may have of fewer than B facts, in m texts at most. -/
structure Gd (k : Int) (B : Int) (m : Nat) (p : Pt) : Prop where
  n0 : 0 ≤ p.1
  nB : p.1 ≤ B
  z : p.1 = 0 → p = zP
  v : k = 1 ∨ k = 5 → p.2.1 = 0
  a : Asc (strsL p.2.2)
  l : p.2.2.length ≤ m
theorem Gd.zero {k B : Int} {m : Nat} (hB : 0 ≤ B) : Gd k B m zP := ⟨Int.le_refl _, hB, fun _ => rfl, fun _ => rfl, by simp [zP, strsL, Asc], Nat.zero_le _⟩
theorem Gd.up {k B B' : Int} {m m' : Nat} {p : Pt} (h : Gd k B m p) (hB : B ≤ B') (hm : m ≤ m') : Gd k B' m' p := ⟨h.n0, Int.le_trans h.nB hB, h.z, h.v, h.a, Nat.le_trans h.l hm⟩
theorem mg_zl {k B : Int} {m : Nat} {p : Pt} (h : Gd k B m p) : mg k zP p = p := by
  unfold mg mergeP zP
  rw [if_pos rfl]
  by_cases hn : p.1 = 0
  · rw [if_pos hn, h.z hn]; rfl
  · rw [if_neg hn]; show (p.1, p.2.1, canon p.2.2) = p; rw [canon_of_asc h.a]
theorem mg_zr {k B : Int} {m : Nat} {p : Pt} (h : Gd k B m p) : mg k p zP = p := by
  unfold mg mergeP zP
  by_cases hn : p.1 = 0
  · rw [if_pos hn, if_pos rfl, h.z hn]; rfl
  · rw [if_neg hn, if_pos rfl]; show (p.1, p.2.1, canon p.2.2) = p; rw [canon_of_asc h.a]
theorem mg_nz {k B C : Int} {m n : Nat} {p q : Pt} (hp : Gd k B m p) (hq : Gd k C n q) (hB : B + C < 18446744073709551616) (h1 : p.1 ≠ 0) (h2 : q.1 ≠ 0) :
    mg k p q = (p.1 + q.1, mvI k p.2.1 q.2.1, canon (p.2.2 ++ q.2.2)) := by
  unfold mg mergeP
  rw [if_neg h1, if_neg h2, u64_eq, Int.emod_eq_of_lt (by have := hp.n0; have := hq.n0; omega) (by have := hp.nB; have := hq.nB; omega)]
  rfl
theorem mvI_comm {k x y : Int} (h : k = 1 ∨ k = 5 → x = 0 ∧ y = 0) (hk : 1 ≤ k ∧ k ≤ 5) : mvI k x y = mvI k y x := by
  unfold mvI mn mx
  by_cases h2 : k = 2
  · simp [h2, Int.add_comm]
  · by_cases h3 : k = 3
    · simp only [h3, show ¬ ((3 : Int) = 2) by decide, if_false, if_true]; repeat' split
      all_goals omega
    · by_cases h4 : k = 4
      · simp only [h4, show ¬ ((4 : Int) = 2) by decide, show ¬ ((4 : Int) = 3) by decide, if_false, if_true]; repeat' split
        all_goals omega
      · rw [if_neg h2, if_neg h3, if_neg h4, if_neg h2, if_neg h3, if_neg h4]
        obtain ⟨rfl, rfl⟩ := h (by omega)
        rfl
theorem mvI_assoc (k x y z : Int) : mvI k (mvI k x y) z = mvI k x (mvI k y z) := by
  unfold mvI mn mx
  by_cases h2 : k = 2
  · simp only [h2, if_true]; unfold wrap64; omega
  · by_cases h3 : k = 3
    · simp only [h3]; simp only [show ¬ ((3 : Int) = 2) by decide, if_false, if_true]; repeat' split
      all_goals omega
    · by_cases h4 : k = 4
      · simp only [h4]; simp only [show ¬ ((4 : Int) = 2) by decide, show ¬ ((4 : Int) = 3) by decide, if_false, if_true]; repeat' split
        all_goals omega
      · simp [h2, h3, h4]
theorem mvI_z (k : Int) (h : k = 1 ∨ k = 5) : mvI k 0 0 = 0 := by rcases h with rfl | rfl <;> decide
theorem Gd.mg {k B C : Int} {m n : Nat} {p q : Pt} (hp : Gd k B m p) (hq : Gd k C n q) (hB : B + C < 18446744073709551616) : Gd k (B + C) (m + n) (mg k p q) := by
  have hb0 : 0 ≤ B := Int.le_trans hp.n0 hp.nB
  have hc0 : 0 ≤ C := Int.le_trans hq.n0 hq.nB
  by_cases h1 : p.1 = 0
  · rw [hp.z h1, mg_zl hq]; exact hq.up (by omega) (by omega)
  · by_cases h2 : q.1 = 0
    · rw [hq.z h2, mg_zr hp]; exact hp.up (by omega) (by omega)
    · rw [mg_nz hp hq hB h1 h2]
      have := hp.n0; have := hq.n0; have := hp.nB; have := hq.nB
      refine ⟨by show 0 ≤ p.1 + q.1; omega, by show p.1 + q.1 ≤ B + C; omega, fun h => ?_, fun h => ?_, canon_asc _, ?_⟩
      · exact absurd (show p.1 + q.1 = 0 from h) (by omega)
      · show mvI k p.2.1 q.2.1 = 0
        rw [hp.v h, hq.v h, mvI_z k h]
      · have := canon_length (p.2.2 ++ q.2.2)
        rw [List.length_append] at this
        have := hp.l; have := hq.l
        show (canon (p.2.2 ++ q.2.2)).length ≤ m + n
        omega
theorem mg_comm {k B C : Int} {m n : Nat} {p q : Pt} (hk : 1 ≤ k ∧ k ≤ 5) (hp : Gd k B m p) (hq : Gd k C n q) (hB : B + C < 18446744073709551616) : mg k p q = mg k q p := by
  by_cases h1 : p.1 = 0
  · rw [hp.z h1, mg_zl hq, mg_zr hq]
  · by_cases h2 : q.1 = 0
    · rw [hq.z h2, mg_zr hp, mg_zl hp]
    · rw [mg_nz hp hq hB h1 h2, mg_nz hq hp (by omega) h2 h1, Int.add_comm, mvI_comm (fun h => ⟨hp.v h, hq.v h⟩) hk, canon_comm]
theorem mg_assoc {k B C D : Int} {m n o : Nat} {p q r : Pt} (hp : Gd k B m p) (hq : Gd k C n q) (hr : Gd k D o r) (hB : B + C + D < 18446744073709551616) :
    mg k (mg k p q) r = mg k p (mg k q r) := by
  have hb0 : 0 ≤ B := Int.le_trans hp.n0 hp.nB
  have hc0 : 0 ≤ C := Int.le_trans hq.n0 hq.nB
  have hd0 : 0 ≤ D := Int.le_trans hr.n0 hr.nB
  by_cases h1 : p.1 = 0
  · rw [hp.z h1, mg_zl hq, mg_zl (hq.mg hr (by omega))]
  · by_cases h2 : q.1 = 0
    · rw [hq.z h2, mg_zr hp, mg_zl hr]
    · by_cases h3 : r.1 = 0
      · rw [hr.z h3, mg_zr hq, mg_zr (hp.mg hq (by omega))]
      · have hpq := hp.mg hq (by omega)
        have hqr := hq.mg hr (by omega)
        have e1 := mg_nz hp hq (by omega) h1 h2
        have e2 := mg_nz hq hr (by omega) h2 h3
        have hn := hp.n0; have hn' := hq.n0; have hn'' := hr.n0
        rw [mg_nz hpq hr hB (by rw [e1]; show p.1 + q.1 ≠ 0; omega) h3, mg_nz hp hqr (by omega) h1 (by rw [e2]; show q.1 + r.1 ≠ 0; omega), e1, e2]
        show (p.1 + q.1 + r.1, mvI k (mvI k p.2.1 q.2.1) r.2.1, canon (canon (p.2.2 ++ q.2.2) ++ r.2.2)) = (p.1 + (q.1 + r.1), mvI k p.2.1 (mvI k q.2.1 r.2.1), canon (p.2.2 ++ canon (q.2.2 ++ r.2.2)))
        rw [canon_l, canon_r, List.append_assoc, mvI_assoc, Int.add_assoc]
end Go.Proofs.Ytkjjdpnpcjfgeaa.QAgg
