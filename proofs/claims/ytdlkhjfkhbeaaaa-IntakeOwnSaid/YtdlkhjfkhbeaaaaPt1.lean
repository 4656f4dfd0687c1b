/- IntakeParts: what the first loop keeps. -/
import Derived.Test.YtdlkhjfkhbeaaaaPt0
namespace Go.Proofs.Ytdlkhjfkhbeaaaa.QIn
open Go.RowKit Go.Maps Go.Proofs.YtdlkhjfkhbeaaaaW.PrintWords Go.Proofs.YtdlkhjfkhbeaaaaW.PrintLast Go.Proofs.YtdlkhjfkhbeaaaaW.PrintMore
variable {w w0 w1 w2 : World} {base x : Nat} {chunk : Int} {ts : List Int} {j : Nat} {op : Int} {vf vb : Value} {bs : List S70}
structure PP (w0 w' : World) (base x : Nat) (chunk : Int) (ts : List Int) (j : Nat) (op : Int) (vf vb : Value) (bs : List S70) : Prop where mk ::
  tl : j ≤ ts.length
  j2 : j ≤ 200
  hI : IN w' base x 0 0 chunk (j + 1) vf (FP ts j) op vb bs bs.length
  op0 : 0 ≤ op
  op1 : op ≤ j
  hBs : Bs chunk ts bs 0 0 (j - op.toNat)
  hB : Below w0.heap.size w0 w'
  bw : w0.heap.size ≤ base
theorem FP_good {k : Nat} (h : k ≤ 1000) : Good (FP ts k) := ⟨by unfold FP; rw [List.length_map]; exact Nat.le_trans (List.length_take_le _ _) h, fun f hf => by
  obtain ⟨t, _, rfl⟩ := List.mem_map.1 hf
  exact ⟨Nat.zero_le _, Nat.zero_le _⟩⟩
theorem PP.below (h : PP w0 w1 base x chunk ts j op vf vb bs) (hb : Below w1.heap.size w1 w2) : PP w0 w2 base x chunk ts j op vf vb bs :=
  ⟨h.tl, h.j2, h.hI.below hb, h.op0, h.op1, h.hBs, h.hB.trans (hb.mono h.hB.size), h.bw⟩
theorem PP.len (h : PP w0 w1 base x chunk ts j op vf vb bs) : bs.length ≤ j := by
  have := Bs_le h.hBs
  omega
theorem at_P (h : PP w0 w base x chunk ts j op vf vb bs) (hj : j < ts.length) (hj2 : j < 200) (A1 A2 : Option Addr) (c1 c2 : Nat) :
    Calls Try.prog 9 #[.pointer (some ⟨x, 0, none⟩), .int .u64 (j + 1), .agg #[.int .i64 (tv (rd ts j)), .slice A1 0 c1, .slice A2 0 c2]] w fun e w' => ∃ vf', e = .returned (.int .i64 0) ∧ PP w0 w' base x chunk ts (j + 1) (op + 1) vf' vb bs := by
  have hl := FP_len h.tl
  have hm := tv_in (rd ts j)
  have ho0 := h.op0
  have ho1 := h.op1
  refine (take_at h.hI (tv (rd ts j)) A1 A2 c1 c2 (by omega) (by omega) (by omega) (by omega) (by omega) (by omega) (by omega)).mono ?_
  rintro e w' ⟨vf', rfl, hI, hb⟩
  refine ⟨vf', rfl, hj, hj2, ?_, by omega, by omega, ?_, h.hB.trans (hb.mono h.bw), h.bw⟩
  · rw [FP_succ hj]
    exact hI
  · have e : j + 1 - (op + 1).toNat = j - op.toNat := by omega
    rw [e]
    exact h.hBs
theorem seal_P (h : PP w0 w base x chunk ts j op vf vb bs) (ho : 1 ≤ op) (k1 : 1 ≤ chunk) (k2 : chunk ≤ 50) :
    Calls Try.prog 11 #[.pointer (some ⟨x, 0, none⟩)] w fun e w' => ∃ (a b c : Int) (A : Option Addr) (n cp : Nat) (vb' : Value) (bs' : List S70), e = .returned (.tuple #[.agg #[.int .i64 a, .int .u64 b, .int .u64 c, .slice A n cp], .int .i64 0]) ∧ PP w0 w' base x chunk ts j 0 vf vb' bs' := by
  have hl := FP_len h.tl
  have ho1 := h.op1
  have hj2 := h.j2
  have hbl := h.len
  refine (seal_calls h.hI op.toNat (by omega) (j - op.toNat) (by omega) (by omega) (by omega) (by omega) k1 (by omega) FP_in (FP_good (by omega)) (by omega) (by omega) (by omega)).mono ?_
  rintro e w' ⟨v, vb', K, rfl, hKp, hKm, hR, hI, hb⟩
  rw [FP_drop] at hKm hR hI
  obtain ⟨A, c, rfl⟩ := Kd.R_slice hR
  refine ⟨_, _, _, A, _, c, vb', bs ++ [⟨bs.length + 1, j + 1 - 1 - op.toNat, j + 1 - 1, chks chunk (seg ts (j - op.toNat) j) K, op.toNat⟩], rfl, h.tl, h.j2, ?_, Int.le_refl _, by omega, ?_, h.hB.trans (hb.mono h.bw), h.bw⟩
  · rw [show ((bs ++ [(⟨bs.length + 1, j + 1 - 1 - op.toNat, j + 1 - 1, chks chunk (seg ts (j - op.toNat) j) K, op.toNat⟩ : S70)]).length : Int) = (bs.length : Int) + 1 from by simp]
    exact hI
  · exact Bs_snoc h.hBs ⟨by show (bs.length : Int) + 1 = ((0 + bs.length : Nat) : Int) + 1; omega, by show (j : Int) + 1 - 1 - (op.toNat : Int) = ((j - op.toNat : Nat) : Int); omega, by show (j : Int) + 1 - 1 = ((j - (0 : Int).toNat : Nat) : Int); simp, by have : (0 : Int).toNat = 0 := rfl; omega, K, hKp, hKm, rfl⟩
theorem seal_P0 (h : PP w0 w base x chunk ts j 0 vf vb bs) :
    Calls Try.prog 11 #[.pointer (some ⟨x, 0, none⟩)] w fun e w' => e = .returned (.tuple #[.agg #[.int .i64 0, .int .u64 0, .int .u64 0, .slice none 0 0], .int .i64 120]) ∧ PP w0 w' base x chunk ts j 0 vf vb bs := by
  refine (seal_none h.hI).mono ?_
  rintro e w' ⟨rfl, hb⟩
  exact ⟨rfl, h.below hb⟩
theorem seal_Pa (h : PP w0 w base x chunk ts j op vf vb bs) (k1 : 1 ≤ chunk) (k2 : chunk ≤ 50) :
    Calls Try.prog 11 #[.pointer (some ⟨x, 0, none⟩)] w fun e w' => ∃ (v : Value) (vb' : Value) (bs' : List S70), e = .returned v ∧ PP w0 w' base x chunk ts j 0 vf vb' bs' := by
  by_cases ho : op = 0
  · subst ho
    refine (seal_P0 h).mono ?_
    rintro e w' ⟨rfl, hp⟩
    exact ⟨_, _, _, rfl, hp⟩
  · have := h.op0
    refine (seal_P h (by omega) k1 k2).mono ?_
    rintro e w' ⟨a, b, c, A, n, cp, vb', bs', rfl, hp⟩
    exact ⟨_, _, _, rfl, hp⟩
theorem seg_sub {p q : Nat} : ∀ f ∈ seg ts p q, f ∈ FP ts q := fun f hf => by
  rw [← FP_drop] at hf
  exact List.mem_of_mem_drop hf
theorem seg_le (ts : List Int) (p q : Nat) : (seg ts p q).length ≤ (FP ts q).length := by
  rw [← FP_drop, List.length_drop]
  omega
theorem BOk.good {i p q : Nat} {b : S70} (h : BOk chunk ts i p q b) (hq : q ≤ 200) : GoodC b.f3 := by
  obtain ⟨K, hp, hm, e⟩ := h.K
  rw [e]
  have h1 := keys_len hp hm
  have h2 := seg_le ts p q
  have h3 : (FP ts q).length ≤ 200 := by unfold FP; rw [List.length_map]; exact Nat.le_trans (List.length_take_le _ _) hq
  exact goodc (FP_good (ts := ts) (k := q) (by omega)) seg_sub h2 (by omega)
theorem PP.good (h : PP w0 w base x chunk ts j 0 vf vb bs) : GoodB bs := by
  have hj := h.j2
  have hl := h.len
  refine ⟨by omega, fun b hb => ?_⟩
  obtain ⟨i, hi, rfl⟩ := List.getElem_of_mem hb
  obtain ⟨p, q, h1, h2, h3⟩ := Bs_at i h.hBs hi
  have := Bs_le h3
  exact h1.good (by omega)
def rd_T41 (xs : List S41) (i : Int) : S41 := xs.getD i.toNat z41
theorem at_T41 {A : Option Addr} {n : Nat} {xs : List S41} (h : Kd.C k41 w A n xs) (i : Int) (h0 : 0 ≤ i) (h1 : i < n) : ∃ ad A3 c3, A = some ad ∧ w.cell? (ad.add (i.toNat * 4)) = some (.int .i64 (rd_T41 xs i).f0) ∧ w.cell? ⟨(ad.add (i.toNat * 4)).block, (ad.add (i.toNat * 4)).off + 1, none⟩ = some (.int .u64 (rd_T41 xs i).f1) ∧ w.cell? ⟨(ad.add (i.toNat * 4)).block, (ad.add (i.toNat * 4)).off + 2, none⟩ = some (.int .u64 (rd_T41 xs i).f2) ∧
    w.cell? ⟨(ad.add (i.toNat * 4)).block, (ad.add (i.toNat * 4)).off + 3, none⟩ = some (.slice A3 (rd_T41 xs i).f3.length c3) ∧ (rd_T41 xs i).f3.length ≤ c3 ∧ Kd.C k55 w A3 (rd_T41 xs i).f3.length (rd_T41 xs i).f3 := by
  obtain ⟨ad, c, e, _, hK, hc0⟩ := Kd.C_get h z41 i h0 h1
  have hc : ∀ j u, c[j]? = some u → w.cell? (ad.add (i.toNat * 4 + j)) = some u := hc0
  obtain ⟨A3, c3, rfl, l3, g3⟩ := k41_open hK
  exact ⟨ad, A3, c3, e, hc 0 _ rfl, by rw [← add_field _ _ 1 (by omega)]; exact hc 1 _ rfl, by rw [← add_field _ _ 2 (by omega)]; exact hc 2 _ rfl, by rw [← add_field _ _ 3 (by omega)]; exact hc 3 _ rfl, l3, g3⟩
theorem rd41_tld {i : Nat} (h : i < bs.length) : rd_T41 (bs.map tld) (i : Int) = tld bs[i] := by
  unfold rd_T41
  rw [Int.toNat_natCast, List.getD_eq_getElem?_getD, List.getElem?_map, List.getElem?_eq_getElem h]
  rfl
theorem chks_len (chunk : Int) (L : List S37) (K : List Int) : (chks chunk L K).length = K.length := by simp [chks]
theorem rd55_chks {chunk : Int} {L : List S37} {K : List Int} {k : Nat} (h : k < K.length) : rd_T55 (chks chunk L K) (k : Int) = ⟨⟨K[k], min (K[k] + chunk) 1099511627776⟩, flt chunk K[k] L⟩ := by
  unfold rd_T55 chks
  rw [Int.toNat_natCast, List.getD_eq_getElem?_getD, List.getElem?_map, List.getElem?_eq_getElem h]
  rfl
theorem rd37_get {L : List S37} {i : Nat} (h : i < L.length) : rd_T37 L (i : Int) = L[i] := by
  unfold rd_T37
  rw [Int.toNat_natCast, List.getD_eq_getElem?_getD, List.getElem?_eq_getElem h, Option.getD_some]
/-- A chunk's span. -/
theorem key_in {K : List Int} {p q k : Nat} (k1 : 1 ≤ chunk) (k2 : chunk ≤ 50) (hm : ∀ k, k ∈ K ↔ ∃ f ∈ seg ts p q, frm chunk f.f0 = k) (h : k < K.length) : 0 ≤ K[k] ∧ K[k] < 1000 ∧ K[k] % chunk = 0 ∧ min (K[k] + chunk) 1099511627776 = K[k] + chunk := by
  obtain ⟨f, hf, e⟩ := (hm K[k]).1 (List.getElem_mem h)
  have h1 := seg_of hf
  have h2 := frm_bd h1.1 k1
  rw [e] at h2
  refine ⟨by omega, by omega, ?_, by omega⟩
  rw [← e]
  exact Int.mul_emod_left _ _
end Go.Proofs.Ytdlkhjfkhbeaaaa.QIn
