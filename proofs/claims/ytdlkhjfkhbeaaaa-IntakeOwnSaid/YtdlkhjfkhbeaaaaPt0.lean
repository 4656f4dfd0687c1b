/- IntakeParts: the plain law: each fact is met once. -/
import Derived.Test.YtdlkhjfkhbeaaaaBt1
import Derived.Test.YtdlkhjfkhbeaaaaOn0
namespace Go.Proofs.Ytdlkhjfkhbeaaaa.QIn
open Go.RowKit Go.Maps Go.Proofs.YtdlkhjfkhbeaaaaW.PrintWords Go.Proofs.YtdlkhjfkhbeaaaaW.PrintLast Go.Proofs.YtdlkhjfkhbeaaaaW.PrintMore
/-- A time as it is handed in; its fact. -/
def tv (t : Int) : Int := ab t % 1000
def fc (t : Int) : S37 := ⟨tv t, [], []⟩
/-- The first k facts; those of the times p to q. -/
def FP (ts : List Int) (k : Nat) : List S37 := (ts.take k).map fc
def seg (ts : List Int) (p q : Nat) : List S37 := ((ts.take q).drop p).map fc
theorem tv_in (t : Int) : 0 ≤ tv t ∧ tv t < 1000 := ⟨Int.emod_nonneg _ (by decide), Int.emod_lt_of_pos _ (by decide)⟩
theorem rd_get {ts : List Int} {k : Nat} (h : k < ts.length) : rd ts (k : Int) = ts[k] := by
  unfold rd
  rw [Int.toNat_natCast, List.getD_eq_getElem?_getD, List.getElem?_eq_getElem h, Option.getD_some]
theorem FP_len {ts : List Int} {k : Nat} (h : k ≤ ts.length) : (FP ts k).length = k := by simp [FP, h]
theorem FP_succ {ts : List Int} {k : Nat} (h : k < ts.length) : FP ts (k + 1) = FP ts k ++ [fc (rd ts k)] := by
  rw [rd_get h]
  unfold FP
  rw [List.take_succ_eq_append_getElem h, List.map_append]
  rfl
theorem FP_in {ts : List Int} {k : Nat} : ∀ f ∈ FP ts k, 0 ≤ f.f0 ∧ f.f0 < 1099511627776 := fun f hf => by
  obtain ⟨t, _, rfl⟩ := List.mem_map.1 hf
  have := tv_in t
  exact ⟨this.1, by show tv t < _; omega⟩
theorem FP_drop (ts : List Int) (m n : Nat) : (FP ts n).drop m = seg ts m n := by simp [FP, seg, List.map_drop]
theorem seg_len {ts : List Int} {p q : Nat} (hq : q ≤ ts.length) : (seg ts p q).length = q - p := by
  simp [seg, Nat.min_eq_left hq]
theorem seg_self (ts : List Int) (p : Nat) : seg ts p p = [] := by
  unfold seg
  rw [List.drop_of_length_le (List.length_take_le _ _)]
  rfl
theorem seg_succ {ts : List Int} {p a : Nat} (hp : p ≤ a) (h : a < ts.length) : seg ts p (a + 1) = seg ts p a ++ [fc (rd ts a)] := by
  rw [rd_get h]
  unfold seg
  rw [List.take_succ_eq_append_getElem h, List.drop_append_of_le_length (by rw [List.length_take]; omega), List.map_append]
  rfl
theorem seg_cat {ts : List Int} {p a q : Nat} (hp : p ≤ a) (hq : a ≤ q) (h : q ≤ ts.length) : seg ts p q = seg ts p a ++ seg ts a q := by
  unfold seg
  rw [← List.map_append]
  congr 1
  have e : ts.take a = (ts.take q).take a := by rw [List.take_take, Nat.min_eq_left hq]
  have e2 : ts.take q = ts.take a ++ (ts.take q).drop a := by rw [e, List.take_append_drop]
  have e3 := congrArg (List.drop p) e2
  rw [List.drop_append_of_le_length (by rw [List.length_take]; omega)] at e3
  exact e3
theorem seg_mem {ts : List Int} {p q t : Nat} (hp : p ≤ t) (hq : t < q) (h : q ≤ ts.length) : fc (rd ts t) ∈ seg ts p q := by
  rw [seg_cat hp (show t ≤ q by omega) h]
  refine List.mem_append_right _ ?_
  rw [seg_cat (show t ≤ t + 1 by omega) hq h, seg_succ (Nat.le_refl _) (by omega), seg_self]
  simp
theorem seg_of {ts : List Int} {p q : Nat} {f : S37} (hf : f ∈ seg ts p q) : 0 ≤ f.f0 ∧ f.f0 < 1000 := by
  obtain ⟨t, _, rfl⟩ := List.mem_map.1 hf
  exact tv_in t
theorem flt_app (chunk k : Int) (a b : List S37) : flt chunk k (a ++ b) = flt chunk k a ++ flt chunk k b := List.filter_append _ _
theorem flt_fits {chunk k : Int} {l : List S37} {f : S37} (h : f ∈ flt chunk k l) : f ∈ l ∧ frm chunk f.f0 = k := by
  unfold flt at h
  rw [List.mem_filter] at h
  exact ⟨h.1, by simpa using h.2⟩
/-- The next fact of the chunk is the next one of its time. -/
theorem hit {ts : List Int} {chunk κ : Int} {p a q j : Nat} (hp : p ≤ a) (hq : a < q) (h : q ≤ ts.length) (hj : j < (flt chunk κ (seg ts p q)).length)
    (hI : flt chunk κ (seg ts p a) = (flt chunk κ (seg ts p q)).take j) :
    (tv (rd ts a) = (flt chunk κ (seg ts p q))[j].f0 → frm chunk (tv (rd ts a)) = κ ∧ flt chunk κ (seg ts p (a + 1)) = (flt chunk κ (seg ts p q)).take (j + 1)) ∧
    (tv (rd ts a) ≠ (flt chunk κ (seg ts p q))[j].f0 → frm chunk (tv (rd ts a)) ≠ κ ∧ flt chunk κ (seg ts p (a + 1)) = (flt chunk κ (seg ts p q)).take j) := by
  have hm := (flt_fits (List.getElem_mem hj)).2
  have e1 : seg ts p (a + 1) = seg ts p a ++ [fc (rd ts a)] := seg_succ hp (by omega)
  have e2 : seg ts p q = seg ts p (a + 1) ++ seg ts (a + 1) q := seg_cat (by omega) (by omega) h
  have e3 : flt chunk κ (seg ts p q) = flt chunk κ (seg ts p a) ++ (flt chunk κ [fc (rd ts a)] ++ flt chunk κ (seg ts (a + 1) q)) := by rw [e2, e1, flt_app, flt_app, List.append_assoc]
  have hl : (flt chunk κ (seg ts p a)).length = j := by rw [hI, List.length_take]; omega
  have key : frm chunk (tv (rd ts a)) = κ → (flt chunk κ (seg ts p q))[j]? = some (fc (rd ts a)) ∧ flt chunk κ (seg ts p (a + 1)) = (flt chunk κ (seg ts p q)).take (j + 1) := fun hk => by
    have e4 : flt chunk κ [fc (rd ts a)] = [fc (rd ts a)] := by simp [flt, fc, hk]
    rw [e4] at e3
    constructor
    · rw [e3, List.getElem?_append_right (by omega), hl, Nat.sub_self]
      rfl
    · rw [e1, flt_app, e4, e3, ← hl, List.take_length_add_append]
      rfl
  constructor
  · intro ht
    have hk : frm chunk (tv (rd ts a)) = κ := by rw [ht]; exact hm
    exact ⟨hk, (key hk).2⟩
  · intro ht
    have hk : frm chunk (tv (rd ts a)) ≠ κ := fun hk => by
      have := (key hk).1
      rw [List.getElem?_eq_getElem hj] at this
      exact ht (by rw [Option.some.inj this]; rfl)
    refine ⟨hk, ?_⟩
    rw [e1, flt_app, hI]
    simp [flt, fc, hk]
theorem hit_end {ts : List Int} {chunk κ : Int} {p a q j : Nat} (hq : q ≤ a) (haq : a ≤ q) (hj : j < (flt chunk κ (seg ts p q)).length)
    (hI : flt chunk κ (seg ts p a) = (flt chunk κ (seg ts p q)).take j) : False := by
  obtain rfl : a = q := by omega
  have := congrArg List.length hI
  rw [List.length_take] at this
  omega
theorem none_left {ts : List Int} {chunk κ : Int} {p a q : Nat} (hp : p ≤ a) (hq : a ≤ q) (h : q ≤ ts.length)
    (hI : flt chunk κ (seg ts p a) = flt chunk κ (seg ts p q)) {t : Nat} (h1 : a ≤ t) (h2 : t < q) : frm chunk (tv (rd ts t)) ≠ κ := fun hk => by
  rw [seg_cat hp hq h, flt_app] at hI
  have h0 : flt chunk κ (seg ts a q) = [] := by simpa using hI.symm
  have hm : fc (rd ts t) ∈ flt chunk κ (seg ts a q) := List.mem_filter.2 ⟨seg_mem h1 h2 h, by simp [fc, hk]⟩
  rw [h0] at hm
  cases hm
/-- Which of the facts were met. -/
def Pk (ts : List Int) (chunk : Int) (p q : Nat) (K : List Int) (t : Nat) : Bool := decide (t < p) || (decide (t < q) && K.contains (frm chunk (tv (rd ts t))))
def Pj (ts : List Int) (chunk : Int) (p q : Nat) (K : List Int) (κ : Int) (a t : Nat) : Bool := Pk ts chunk p q K t || (decide (p ≤ t) && (decide (t < a) && frm chunk (tv (rd ts t)) == κ))
theorem Pk_nil (ts : List Int) (chunk : Int) (p q : Nat) : Pk ts chunk p q [] = fun t => decide (t < p) := by
  funext t
  simp [Pk]
theorem Pk_all {ts : List Int} {chunk : Int} {p q : Nat} {K : List Int} (hpq : p ≤ q) (h : q ≤ ts.length) (hK : ∀ k, k ∈ K ↔ ∃ f ∈ seg ts p q, frm chunk f.f0 = k) : Pk ts chunk p q K = fun t => decide (t < q) := by
  funext t
  unfold Pk
  by_cases h1 : t < p
  · simp [h1, show t < q by omega]
  · by_cases h2 : t < q
    · have : frm chunk (tv (rd ts t)) ∈ K := (hK _).2 ⟨_, seg_mem (show p ≤ t by omega) h2 h, rfl⟩
      simp [h2, this]
    · simp [h1, h2]
theorem Pj_start (ts : List Int) (chunk : Int) (p q : Nat) (K : List Int) (κ : Int) : Pj ts chunk p q K κ p = Pk ts chunk p q K := by
  funext t
  unfold Pj
  by_cases h1 : p ≤ t
  · simp [show ¬ t < p by omega]
  · simp [h1]
theorem Pj_miss {ts : List Int} {chunk : Int} {p q : Nat} {K : List Int} {κ : Int} {a : Nat} (h : frm chunk (tv (rd ts a)) ≠ κ) : Pj ts chunk p q K κ (a + 1) = Pj ts chunk p q K κ a := by
  funext t
  unfold Pj
  by_cases h1 : t = a
  · subst h1; simp [h]
  · have : decide (t < a + 1) = decide (t < a) := by by_cases h2 : t < a <;> simp [h2] <;> omega
    rw [this]
theorem Pj_hit {ts : List Int} {chunk : Int} {p q : Nat} {K : List Int} {κ : Int} {a : Nat} (hp : p ≤ a) (h : frm chunk (tv (rd ts a)) = κ) : Pj ts chunk p q K κ (a + 1) = fun t => Pj ts chunk p q K κ a t || t == a := by
  funext t
  unfold Pj
  by_cases h1 : t = a
  · subst h1; simp [h, hp]
  · have : decide (t < a + 1) = decide (t < a) := by by_cases h2 : t < a <;> simp [h2] <;> omega
    rw [this]
    simp [h1]
theorem Pj_at {ts : List Int} {chunk : Int} {p q : Nat} {K : List Int} {κ : Int} {a : Nat} (hp : p ≤ a) (h : frm chunk (tv (rd ts a)) = κ) (hK : κ ∉ K) : Pj ts chunk p q K κ a a = false := by
  unfold Pj Pk
  simp [show ¬ a < p by omega, h, hK]
theorem Pj_end {ts : List Int} {chunk : Int} {p q : Nat} {K : List Int} {κ : Int} {a : Nat} (_hp : p ≤ a) (hq : a ≤ q) (h : ∀ t, a ≤ t → t < q → frm chunk (tv (rd ts t)) ≠ κ) : Pj ts chunk p q K κ a = Pk ts chunk p q (K ++ [κ]) := by
  funext t
  unfold Pj Pk
  by_cases h1 : t < p
  · simp [h1]
  · by_cases h2 : t < q
    · by_cases h3 : t < a
      · rw [Bool.eq_iff_iff]
        simp [h1, h2, h3, show p ≤ t by omega]
      · have := h t (by omega) h2
        simp [h1, h2, h3, this]
    · simp [h1, h2, show ¬ t < a by omega]
theorem key_new {K : List Int} (hp : K.Pairwise (· < ·)) {k : Nat} (h : k < K.length) : K[k] ∉ K.take k := fun hm => by
  obtain ⟨i, hi, e⟩ := List.getElem_of_mem hm
  rw [List.length_take] at hi
  rw [List.getElem_take] at e
  have := List.pairwise_iff_getElem.1 hp i k (by omega) h (by omega)
  omega
theorem sub_len {K L : List Int} (hn : K.Pairwise (· < ·)) (hs : ∀ k ∈ K, k ∈ L) : K.length ≤ L.length := by
  induction K generalizing L with
  | nil => exact Nat.zero_le _
  | cons a r ih =>
    have ha := hs a (by simp)
    have hr := List.pairwise_cons.1 hn
    have : r.length ≤ (L.erase a).length := ih hr.2 (fun k hk => (List.mem_erase_of_ne (by have := hr.1 k hk; omega)).2 (hs k (by simp [hk])))
    rw [List.length_erase_of_mem ha] at this
    have := List.length_pos_of_mem ha
    simp only [List.length_cons]
    omega
theorem keys_len {chunk : Int} {L : List S37} {K : List Int} (hn : K.Pairwise (· < ·)) (hK : ∀ k, k ∈ K ↔ ∃ f ∈ L, frm chunk f.f0 = k) : K.length ≤ L.length := by
  have := sub_len (L := L.map fun f => frm chunk f.f0) hn (fun k hk => by
    obtain ⟨f, hf, e⟩ := (hK k).1 hk
    exact List.mem_map.2 ⟨f, hf, e⟩)
  simpa using this
/-- A batch of the facts p to q, the i-th; batches that follow one another. -/
structure BOk (chunk : Int) (ts : List Int) (i p q : Nat) (b : S70) : Prop where mk ::
  n : b.f0 = i + 1
  f : b.f1 = p
  t : b.f2 = q
  lt : p < q
  K : ∃ K : List Int, K.Pairwise (· < ·) ∧ (∀ k, k ∈ K ↔ ∃ f ∈ seg ts p q, frm chunk f.f0 = k) ∧ b.f3 = chks chunk (seg ts p q) K
def Bs (chunk : Int) (ts : List Int) : List S70 → Nat → Nat → Nat → Prop
  | [], _, p, q => p = q
  | b :: r, i, p, q => ∃ m, BOk chunk ts i p m b ∧ Bs chunk ts r (i + 1) m q
theorem Bs_snoc {chunk : Int} {ts : List Int} {b : S70} : ∀ {bs : List S70} {i p q r : Nat}, Bs chunk ts bs i p q → BOk chunk ts (i + bs.length) q r b → Bs chunk ts (bs ++ [b]) i p r
  | [], i, p, q, r, h, hb => by
    obtain rfl : p = q := h
    exact ⟨r, hb, rfl⟩
  | c :: bs, i, p, q, r, h, hb => by
    obtain ⟨m, h1, h2⟩ := h
    exact ⟨m, h1, Bs_snoc h2 (by have e : i + 1 + bs.length = i + (c :: bs).length := by simp; omega
                                 rw [e]; exact hb)⟩
theorem Bs_at {chunk : Int} {ts : List Int} : ∀ {bs : List S70} {i p q : Nat} (j : Nat), Bs chunk ts bs i p q → (hj : j < bs.length) → ∃ a b, BOk chunk ts (i + j) a b bs[j] ∧ Bs chunk ts (bs.take j) i p a ∧ Bs chunk ts (bs.drop (j + 1)) (i + j + 1) b q
  | [], _, _, _, _, _, hj => by cases hj
  | c :: bs, i, p, q, 0, h, _ => by
    obtain ⟨m, h1, h2⟩ := h
    exact ⟨p, m, h1, rfl, h2⟩
  | c :: bs, i, p, q, j + 1, h, hj => by
    obtain ⟨m, h1, h2⟩ := h
    obtain ⟨a, b, g1, g2, g3⟩ := Bs_at j h2 (by simpa using hj)
    have e : i + 1 + j = i + (j + 1) := by omega
    rw [e] at g1 g3
    exact ⟨a, b, g1, ⟨m, h1, g2⟩, g3⟩
theorem Bs_le {chunk : Int} {ts : List Int} : ∀ {bs : List S70} {i p q : Nat}, Bs chunk ts bs i p q → p + bs.length ≤ q
  | [], _, p, q, h => by obtain rfl : p = q := h; simp
  | c :: bs, i, p, q, h => by
    obtain ⟨m, h1, h2⟩ := h
    have := Bs_le h2
    have := h1.lt
    simp only [List.length_cons]
    omega
theorem Bs_fun {chunk : Int} {ts : List Int} : ∀ {bs : List S70} {i p q q' : Nat}, Bs chunk ts bs i p q → Bs chunk ts bs i p q' → q = q'
  | [], _, p, q, q', h, h' => by obtain rfl : p = q := h; exact h'
  | c :: bs, i, p, q, q', h, h' => by
    obtain ⟨m, h1, h2⟩ := h
    obtain ⟨m', h1', h2'⟩ := h'
    have e : m = m' := by have := h1.t.symm.trans h1'.t; omega
    subst e
    exact Bs_fun h2 h2'
end Go.Proofs.Ytdlkhjfkhbeaaaa.QIn
