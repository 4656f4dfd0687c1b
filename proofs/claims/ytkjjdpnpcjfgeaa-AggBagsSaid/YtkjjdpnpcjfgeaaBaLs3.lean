/- The plain law: facts one by one. -/
import Derived.Test.YtkjjdpnpcjfgeaaBaLs2
import Derived.Test.YtkjjdpnpcjfgeaaBaX4
import Derived.Test.YtkjjdpnpcjfgeaaBaX5
namespace Go.Proofs.Ytkjjdpnpcjfgeaa.QAgg
open Go.RowKit Go.Proofs.YtkjjdpnpcjfgeaaW.PrintWords Go.Proofs.YtkjjdpnpcjfgeaaW.PrintLast Go.Proofs.YtkjjdpnpcjfgeaaW.PrintMore
/-- A fact that may be: two texts, two numbers, fewer than 2^50 times. -/
structure Fi (x : S39) : Prop where
  d : x.f0.f1.length = 2
  m : x.f0.f2.length = 2
  n0 : 0 ≤ x.f1
  n1 : x.f1 < 1125899906842624
/-- What an aggregator has of one fact. -/
def one (k c : Int) (x : S39) : Pt :=
  if x.f1 = 0 then zP else
    (x.f1, (if k = 1 ∨ k = 5 then 0 else if k = 2 then wrap64 (IntKind.u64.wrap (IntKind.u64.wrap (rd x.f0.f2 c) * x.f1)) else rd x.f0.f2 c), if k = 5 then [rdOf ByteArray.empty x.f0.f1 c] else [])
theorem one_gd {k c : Int} {x : S39} (h : Fi x) : Gd k 1125899906842624 1 (one k c x) := by
  have h0 := h.n0
  have h1 := h.n1
  unfold one
  by_cases hn : x.f1 = 0
  · rw [if_pos hn]; exact Gd.zero (by decide)
  · rw [if_neg hn]
    refine ⟨h0, by show x.f1 ≤ _; omega, fun h => absurd h hn, fun h => by show (if k = 1 ∨ k = 5 then (0 : Int) else _) = 0; rw [if_pos h], ?_, ?_⟩
    · show Asc (strsL (if k = 5 then _ else _)); split <;> simp [strsL, Asc]
    · show (if k = 5 then _ else _ : List ByteArray).length ≤ 1; split <;> simp
theorem merge_eq {k c : Int} {p q : Pt} (hk : 1 ≤ k ∧ k ≤ 5) (hl : p.2.2.length + q.2.2.length ≤ 1000000) : agg_Merge.f k c p.1 p.2.1 p.2.2 q.1 q.2.1 q.2.2 = some (mg k p q) := by
  unfold agg_Merge.f
  rw [if_pos ⟨hk.1, hk.2, hl⟩]
  rfl
theorem add_eq {k c : Int} {p : Pt} {x : S39} (hk : 1 ≤ k ∧ k ≤ 5) (hc : 0 ≤ c ∧ c < 2) (hx : Fi x) (hp : p.2.2.length ≤ 900000) :
    agg_Add.f k c p.1 p.2.1 p.2.2 x.f0.f0 x.f0.f1 x.f0.f2 x.f1 = some (mg k p (one k c x)) := by
  have hd : c < (x.f0.f1.length : Int) := by rw [hx.d]; omega
  have hm : c < (x.f0.f2.length : Int) := by rw [hx.m]; omega
  rw [← merge_eq (c := c) hk (by have := (one_gd (k := k) (c := c) hx).l; omega)]
  unfold agg_Add.f one
  by_cases hn : x.f1 = 0
  · rw [if_pos hn, if_pos hn]; rfl
  · rw [if_neg hn, if_neg hn]
    by_cases h1 : k = 1
    · subst h1; simp
    · rw [if_neg h1, if_pos hc.1]
      by_cases h5 : k = 5
      · subst h5; simp [hd]
      · rw [if_neg h5, if_pos hm]
        by_cases h2 : k = 2
        · subst h2; simp
        · simp [h1, h2, h5]
/-- What an aggregator has of facts. -/
def tot (k c : Int) : List S39 → Pt
  | [] => zP
  | x :: l => mg k (one k c x) (tot k c l)
def Fis (l : List S39) : Prop := ∀ x ∈ l, Fi x
theorem tot_gd {k c : Int} : ∀ {l : List S39}, Fis l → l.length ≤ 8000 → Gd k (l.length * 1125899906842624) l.length (tot k c l)
  | [], _, _ => Gd.zero (by simp)
  | x :: l, h, hl => by
    have h1 := tot_gd (k := k) (c := c) (l := l) (fun y hy => h y (by simp [hy])) (by simp at hl; omega)
    refine ((one_gd (h x (by simp))).mg h1 ?_).up ?_ ?_
    · simp only [List.length_cons] at hl; omega
    · simp only [List.length_cons]; omega
    · simp only [List.length_cons]; omega
theorem foldl_tot {k c : Int} : ∀ {l : List S39} {p : Pt} {B : Int} {m : Nat}, Fis l → l.length ≤ 8000 → Gd k B m p → B ≤ 8000 * 1125899906842624 →
    l.foldl (fun p x => mg k p (one k c x)) p = mg k p (tot k c l) ∧ True
  | [], p, B, m, _, _, hp, _ => ⟨(mg_zr hp).symm, trivial⟩
  | x :: l, p, B, m, h, hl, hp, hB => by
    have hx := h x (by simp)
    have hl' : l.length < 8000 := by simp at hl; omega
    have hs : Fis l := fun y hy => h y (by simp [hy])
    have ht := tot_gd (k := k) (c := c) hs (by omega)
    refine ⟨?_, trivial⟩
    show l.foldl _ (mg k p (one k c x)) = mg k p (mg k (one k c x) (tot k c l))
    rw [← mg_assoc hp (one_gd hx) ht (by omega)]
    have key : ∀ {l : List S39} {p : Pt} {B : Int} {m : Nat}, Fis l → l.length ≤ 8000 → Gd k B m p → B + l.length * 1125899906842624 < 18446744073709551616 →
      l.foldl (fun p x => mg k p (one k c x)) p = mg k p (tot k c l) := by
      intro l
      induction l with
      | nil => intro p B m _ _ hp _; exact (mg_zr hp).symm
      | cons x l ih =>
        intro p B m h hl hp hB
        have hx := h x (by simp)
        have hs : Fis l := fun y hy => h y (by simp [hy])
        simp only [List.length_cons] at hl hB
        have ht := tot_gd (k := k) (c := c) hs (by omega)
        show l.foldl _ (mg k p (one k c x)) = mg k p (mg k (one k c x) (tot k c l))
        rw [← mg_assoc hp (one_gd hx) ht (by omega)]
        exact ih hs (by omega) (hp.mg (one_gd hx) (by omega)) (by omega)
    exact key hs (by omega) (hp.mg (one_gd hx) (by omega)) (by omega)
theorem tot_perm {k c : Int} (hk : 1 ≤ k ∧ k ≤ 5) {l l' : List S39} (hp : l.Perm l') : Fis l → l.length ≤ 8000 → tot k c l = tot k c l' := by
  induction hp with
  | nil => intros; rfl
  | cons x _ ih =>
    intro h hl
    show mg k _ _ = mg k _ _
    rw [ih (fun y hy => h y (by simp [hy])) (by simp at hl; omega)]
  | swap x y l =>
    intro h hl
    simp only [List.length_cons] at hl
    have hx := one_gd (k := k) (c := c) (h x (by simp))
    have hy := one_gd (k := k) (c := c) (h y (by simp))
    have ht := tot_gd (k := k) (c := c) (l := l) (fun z hz => h z (by simp [hz])) (by omega)
    show mg k (one k c y) (mg k (one k c x) (tot k c l)) = mg k (one k c x) (mg k (one k c y) (tot k c l))
    rw [← mg_assoc hy hx ht (by omega), mg_comm hk hy hx (by omega), mg_assoc hx hy ht (by omega)]
  | trans h1 _ ih1 ih2 =>
    intro h hl
    rw [ih1 h hl, ih2 (fun y hy => h y (h1.mem_iff.mpr hy)) (by rw [← h1.length_eq]; exact hl)]
theorem drop_at {l : List S39} {i : Nat} (h : i < l.length) : l.drop i = rd_T39 l i :: l.drop (i + 1) := by
  rw [List.drop_eq_getElem_cons h]
  unfold rd_T39
  rw [Int.toNat_natCast, List.getD_eq_getElem?_getD, List.getElem?_eq_getElem h, Option.getD_some]
theorem at_mem {l : List S39} {i : Nat} (h : i < l.length) : rd_T39 l i ∈ l := by
  have : rd_T39 l i ∈ l.drop i := by rw [drop_at h]; simp
  exact List.mem_of_mem_drop this
theorem wrap_in {n : Int} (h : -9223372036854775808 ≤ n) (h' : n ≤ 9223372036854775807) : wrap64 n = n := by unfold wrap64; omega
theorem of_l0 {k c : Int} (hk : 1 ≤ k ∧ k ≤ 5) (hc : 0 ≤ c ∧ c < 2) {l : List S39} (hl : Fis l) (hn : l.length ≤ 8000) : ∀ (j K i : Nat) (p : Pt) , i + j = l.length → j < K → Gd k (i * 1125899906842624) i p →
    gristmilllaw06_of.l0 K l i k c p.1 p.2.1 p.2.2 = some ((l.drop i).foldl (fun p x => mg k p (one k c x)) p) := by
  intro j
  induction j with
  | zero =>
    intro K i p hi hK hp
    obtain ⟨K, rfl⟩ : ∃ K', K = K' + 1 := ⟨K - 1, by omega⟩
    rw [gristmilllaw06_of.l0, if_neg (by omega), List.drop_eq_nil_of_le (by omega)]; rfl
  | succ j ih =>
    intro K i p hi hK hp
    obtain ⟨K, rfl⟩ : ∃ K', K = K' + 1 := ⟨K - 1, by omega⟩
    have hil : i < l.length := by omega
    rw [gristmilllaw06_of.l0, if_pos (by omega), if_pos (by omega), add_eq hk hc (hl _ (at_mem hil)) (by have := hp.l; omega), drop_at hil]
    rw [wrap_in (by omega) (by omega)]
    show gristmilllaw06_of.l0 K l ((i : Int) + 1) k c _ _ _ = _
    have hg : Gd k (((i + 1 : Nat) : Int) * 1125899906842624) (i + 1) (mg k p (one k c (rd_T39 l i))) := (hp.mg (one_gd (hl _ (at_mem hil))) (by omega)).up (by omega) (by omega)
    have := ih K (i + 1) _ (by omega) (by omega) hg
    rw [show ((i + 1 : Nat) : Int) = (i : Int) + 1 from rfl] at this
    exact this
theorem of_eq {k c : Int} (hk : 1 ≤ k ∧ k ≤ 5) (hc : 0 ≤ c ∧ c < 2) {l : List S39} (hl : Fis l) (hn : l.length ≤ 8000) {K : Nat} (hK : l.length < K) : gristmilllaw06_of.f K k c l = some (tot k c l) := by
  have h0 : Gd k ((0 : Nat) * 1125899906842624) 0 zP := Gd.zero (by simp)
  have := of_l0 hk hc hl hn l.length K 0 zP (by omega) hK h0
  rw [List.drop_zero, (foldl_tot hl hn h0 (by omega)).1, mg_zl (tot_gd hl hn)] at this
  exact this
theorem same_l0 {a b c d : Int} {t : List ByteArray} (hn : t.length ≤ 1000000) : ∀ (j K i : Nat), i + j = t.length → j < K → gristmillref06_Same.l0 K i a b t c d t = some true
  | 0, K + 1, i, hi, _ => by rw [gristmillref06_Same.l0, if_neg (by omega)]
  | j + 1, K + 1, i, hi, hK => by
    rw [gristmillref06_Same.l0, if_pos (by omega), if_pos (by omega), if_pos (by omega), if_pos rfl, wrap_in (by omega) (by omega)]
    have := same_l0 (a := a) (b := b) (c := c) (d := d) hn j K (i + 1) (by omega) (by omega)
    rw [Int.natCast_add] at this
    exact this
theorem same_eq {p : Pt} (hn : p.2.2.length ≤ 1000000) {K : Nat} (hK : p.2.2.length + 1 < K) : gristmillref06_Same.f K p.1 p.2.1 p.2.2 p.1 p.2.1 p.2.2 = some true := by
  obtain ⟨K, rfl⟩ : ∃ K', K = K' + 1 := ⟨K - 1, by omega⟩
  unfold gristmillref06_Same.f
  rw [if_pos rfl, if_pos rfl, gristmillref06_Same.j0, if_neg (by simp)]
  exact same_l0 hn p.2.2.length K 0 (by omega) (by omega)
end Go.Proofs.Ytkjjdpnpcjfgeaa.QAgg
