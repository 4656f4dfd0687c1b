/- The plain law of bags: facts put in their places, those that are the same together. -/
import Derived.Test.YtkjjdpnpcjfgeaaBaLs4
import Derived.Test.YtkjjdpnpcjfgeaaBaX11
import Derived.Test.YtkjjdpnpcjfgeaaBaGtr
namespace Go.Proofs.Ytkjjdpnpcjfgeaa.QAgg
open Go.RowKit Go.Proofs.YtkjjdpnpcjfgeaaW.PrintWords Go.Proofs.YtkjjdpnpcjfgeaaW.PrintLast Go.Proofs.YtkjjdpnpcjfgeaaW.PrintMore
theorem drop_bat {l : List ByteArray} {i : Nat} (h : i < l.length) : l.drop i = rdOf ByteArray.empty l i :: l.drop (i + 1) := by
  rw [List.drop_eq_getElem_cons h]
  unfold rdOf
  rw [Int.toNat_natCast, List.getD_eq_getElem?_getD, List.getElem?_eq_getElem h, Option.getD_some]
theorem drop_iat {l : List Int} {i : Nat} (h : i < l.length) : l.drop i = rd l i :: l.drop (i + 1) := by
  rw [List.drop_eq_getElem_cons h]
  unfold rd
  rw [Int.toNat_natCast, List.getD_eq_getElem?_getD, List.getElem?_eq_getElem h, Option.getD_some]
theorem text_eq {a b : ByteArray} (h1 : ¬ Op.bytesLess a.toList b.toList = true) (h2 : ¬ Op.bytesLess b.toList a.toList = true) : a = b := by
  rw [ByteArray.toList_eq, ByteArray.toList_eq, Short.bytesLess_lt] at h1
  rw [ByteArray.toList_eq, ByteArray.toList_eq, Short.bytesLess_lt] at h2
  have h1 : ¬ a.data.toList < b.data.toList := fun h => h1 (decide_eq_true h)
  have h2 : ¬ b.data.toList < a.data.toList := fun h => h2 (decide_eq_true h)
  have e : a.data.toList = b.data.toList := List.le_antisymm (List.not_lt.mp h2) (List.not_lt.mp h1)
  cases a; cases b
  simp at e
  rw [e]
section
variable {a0 b0 : Int} {d e : List ByteArray} {m n : List Int}
theorem cmp_l1 (hl : m.length = n.length) (hb : m.length ≤ 1000) : ∀ (j K i : Nat), i + j = m.length → 2 * j + 2 ≤ K →
    ∃ r, gristmillref04_Compare.l1 K i a0 d m b0 e n = some r ∧ (r = 0 → m.drop i = n.drop i) := by
  intro j
  induction j with
  | zero =>
    intro K i hi hK
    obtain ⟨K, rfl⟩ : ∃ K', K = K' + 2 := ⟨K - 2, by omega⟩
    refine ⟨0, ?_, fun _ => by rw [List.drop_eq_nil_of_le (by omega), List.drop_eq_nil_of_le (by omega)]⟩
    rw [gristmillref04_Compare.l1, if_neg (by omega), decide_eq_false (by omega), gristmillref04_Compare.j3, if_neg (by simp)]
  | succ j ih =>
    intro K i hi hK
    obtain ⟨K, rfl⟩ : ∃ K', K = K' + 2 := ⟨K - 2, by omega⟩
    rw [gristmillref04_Compare.l1, if_pos (by omega), gristmillref04_Compare.j3, if_pos rfl, if_neg (by omega), if_neg (by omega), if_pos (by omega), if_pos (by omega), if_pos (by omega)]
    by_cases h1 : rd m i < rd n i
    · rw [if_pos h1]; exact ⟨_, rfl, fun h => absurd h (by decide)⟩
    · rw [if_neg h1]
      by_cases h2 : rd m i > rd n i
      · rw [if_pos h2]; exact ⟨_, rfl, fun h => absurd h (by decide)⟩
      · rw [if_neg h2, wrap_in (by omega) (by omega)]
        obtain ⟨r, hr, hr0⟩ := ih K (i + 1) (by omega) (by omega)
        refine ⟨r, hr, fun h => ?_⟩
        rw [drop_iat (l := m) (i := i) (by omega), drop_iat (l := n) (i := i) (by omega), hr0 h, show rd m i = rd n i by omega]
theorem cmp_l0 (hd : d.length = e.length) (hdb : d.length ≤ 1000) (hl : m.length = n.length) (hb : m.length ≤ 1000) : ∀ (j K i : Nat), i + j = d.length → 2 * j + 2 * m.length + 4 ≤ K →
    ∃ r, gristmillref04_Compare.l0 K i a0 d m b0 e n = some r ∧ (r = 0 → d.drop i = e.drop i ∧ m = n) := by
  intro j
  induction j with
  | zero =>
    intro K i hi hK
    obtain ⟨K, rfl⟩ : ∃ K', K = K' + 2 := ⟨K - 2, by omega⟩
    rw [gristmillref04_Compare.l0, if_neg (by omega), decide_eq_false (by omega), gristmillref04_Compare.j1, if_neg (by simp)]
    obtain ⟨r, hr, hr0⟩ := cmp_l1 (a0 := a0) (b0 := b0) (d := d) (e := e) hl hb m.length K 0 (by omega) (by omega)
    exact ⟨r, hr, fun h => ⟨by rw [List.drop_eq_nil_of_le (by omega), List.drop_eq_nil_of_le (by omega)], by simpa using hr0 h⟩⟩
  | succ j ih =>
    intro K i hi hK
    obtain ⟨K, rfl⟩ : ∃ K', K = K' + 2 := ⟨K - 2, by omega⟩
    rw [gristmillref04_Compare.l0, if_pos (by omega), gristmillref04_Compare.j1, if_pos rfl, if_neg (by omega), if_neg (by omega), if_pos (by omega), if_pos (by omega), if_pos (by omega)]
    by_cases h1 : Op.bytesLess (rdOf ByteArray.empty d i).toList (rdOf ByteArray.empty e i).toList = true
    · rw [if_pos h1]; exact ⟨_, rfl, fun h => absurd h (by decide)⟩
    · rw [if_neg h1]
      by_cases h2 : Op.bytesLess (rdOf ByteArray.empty e i).toList (rdOf ByteArray.empty d i).toList = true
      · rw [if_pos h2]; exact ⟨_, rfl, fun h => absurd h (by decide)⟩
      · rw [if_neg h2, wrap_in (by omega) (by omega)]
        obtain ⟨r, hr, hr0⟩ := ih K (i + 1) (by omega) (by omega)
        refine ⟨r, hr, fun h => ⟨?_, (hr0 h).2⟩⟩
        rw [drop_bat (l := d) (i := i) (by omega), drop_bat (l := e) (i := i) (by omega), (hr0 h).1, text_eq h1 h2]
theorem cmp_eq (hd : d.length = e.length) (hdb : d.length ≤ 1000) (hl : m.length = n.length) (hb : m.length ≤ 1000) {K : Nat} (hK : 2 * d.length + 2 * m.length + 4 ≤ K) :
    ∃ r, gristmillref04_Compare.f K a0 d m b0 e n = some r ∧ (r = 0 → a0 = b0 ∧ d = e ∧ m = n) := by
  unfold gristmillref04_Compare.f
  by_cases h1 : a0 < b0
  · rw [if_pos h1]; exact ⟨_, rfl, fun h => absurd h (by decide)⟩
  · rw [if_neg h1]
    by_cases h2 : a0 > b0
    · rw [if_pos h2]; exact ⟨_, rfl, fun h => absurd h (by decide)⟩
    · rw [if_neg h2]
      obtain ⟨r, hr, hr0⟩ := cmp_l0 (a0 := a0) (b0 := b0) hd hdb hl hb d.length K 0 (by omega) (by omega)
      exact ⟨r, hr, fun h => ⟨by omega, by simpa using (hr0 h).1, (hr0 h).2⟩⟩
end
theorem one_add {k c : Int} {f : S37} {a b : Int} (ha : Fi ⟨f, a⟩) (hb : Fi ⟨f, b⟩) (hk : 1 ≤ k ∧ k ≤ 5) : mg k (one k c ⟨f, a⟩) (one k c ⟨f, b⟩) = one k c ⟨f, a + b⟩ := by
  have ga := one_gd (k := k) (c := c) ha
  have gb := one_gd (k := k) (c := c) hb
  have a0 : 0 ≤ a := ha.n0
  have b0 : 0 ≤ b := hb.n0
  by_cases hz : a = 0
  · subst hz
    have : one k c ⟨f, 0⟩ = zP := by unfold one; rw [if_pos rfl]
    rw [this, mg_zl gb, Int.zero_add]
  · by_cases hz' : b = 0
    · subst hz'
      have : one k c ⟨f, 0⟩ = zP := by unfold one; rw [if_pos rfl]
      rw [this, mg_zr ga, Int.add_zero]
    · have ea : one k c ⟨f, a⟩ = (a, (if k = 1 ∨ k = 5 then 0 else if k = 2 then wrap64 (IntKind.u64.wrap (IntKind.u64.wrap (rd f.f2 c) * a)) else rd f.f2 c), if k = 5 then [rdOf ByteArray.empty f.f1 c] else []) := by unfold one; rw [if_neg hz]
      have eb : one k c ⟨f, b⟩ = (b, (if k = 1 ∨ k = 5 then 0 else if k = 2 then wrap64 (IntKind.u64.wrap (IntKind.u64.wrap (rd f.f2 c) * b)) else rd f.f2 c), if k = 5 then [rdOf ByteArray.empty f.f1 c] else []) := by unfold one; rw [if_neg hz']
      have eab : one k c ⟨f, a + b⟩ = (a + b, (if k = 1 ∨ k = 5 then 0 else if k = 2 then wrap64 (IntKind.u64.wrap (IntKind.u64.wrap (rd f.f2 c) * (a + b))) else rd f.f2 c), if k = 5 then [rdOf ByteArray.empty f.f1 c] else []) := by
        unfold one; rw [if_neg (show ¬ (a + b = 0) by omega)]
      rw [mg_nz ga gb (by omega) (by rw [ea]; exact hz) (by rw [eb]; exact hz'), ea, eb, eab]
      have c5 : canon ((if k = 5 then [rdOf ByteArray.empty f.f1 c] else []) ++ (if k = 5 then [rdOf ByteArray.empty f.f1 c] else [])) = (if k = 5 then [rdOf ByteArray.empty f.f1 c] else []) := by
        rw [canon_self]; exact canon_of_asc (by split <;> simp [strsL, Asc])
      have c2 : mvI k (if k = 1 ∨ k = 5 then 0 else if k = 2 then wrap64 (IntKind.u64.wrap (IntKind.u64.wrap (rd f.f2 c) * a)) else rd f.f2 c) (if k = 1 ∨ k = 5 then 0 else if k = 2 then wrap64 (IntKind.u64.wrap (IntKind.u64.wrap (rd f.f2 c) * b)) else rd f.f2 c)
          = (if k = 1 ∨ k = 5 then 0 else if k = 2 then wrap64 (IntKind.u64.wrap (IntKind.u64.wrap (rd f.f2 c) * (a + b))) else rd f.f2 c) := by
        rcases five hk.1 hk.2 with rfl | rfl | rfl | rfl | rfl
        · simp [mvI]
        · simp only [mvI, show ¬ ((2 : Int) = 1 ∨ (2 : Int) = 5) by decide, if_false, if_true]
          rw [Int.mul_add]
          generalize IntKind.u64.wrap (rd f.f2 c) * a = X
          generalize IntKind.u64.wrap (rd f.f2 c) * b = Y
          rw [u64_eq, u64_eq, u64_eq]
          unfold wrap64
          omega
        · simp [mvI, mn]
        · simp [mvI, mx]
        · simp [mvI]
      show (a + b, mvI k _ _, canon _) = _
      rw [c2, c5]
/-- Single facts put together: each at most so often. -/
structure Bg (N : Int) (m : Nat) (b : List S39) : Prop where
  f : ∀ y ∈ b, y.f0.f1.length = 2 ∧ y.f0.f2.length = 2 ∧ 0 ≤ y.f1 ∧ y.f1 ≤ N
  l : b.length ≤ m
theorem Bg.fis {N : Int} {m : Nat} {b : List S39} (h : Bg N m b) (hN : N < 1125899906842624) : Fis b := fun y hy => ⟨(h.f y hy).1, (h.f y hy).2.1, (h.f y hy).2.2.1, by have := (h.f y hy).2.2.2; omega⟩
theorem put_l0' {k c : Int} (hk : 1 ≤ k ∧ k ≤ 5) {b : List S39} {x : S39} {N : Int} {mm : Nat} (hb : Bg N mm b) (hN0 : 0 ≤ N) (hN : N ≤ 1000) (hm : mm ≤ 1000) (xd : x.f0.f1.length = 2) (xm : x.f0.f2.length = 2) (x1 : x.f1 = 1) :
    ∀ (j K i : Nat), i + j = b.length → j + 100 ≤ K → ∃ t, gristmillref04_Put.l0 K b x.f1 i x.f0.f0 x.f0.f1 x.f0.f2 = some t ∧ Bg (N + 1) (mm + 1) t ∧ tot k c t = mg k (one k c x) (tot k c b) := by
  have hfb := hb.fis (by omega)
  have hbl := hb.l
  have fx : Fi x := ⟨xd, xm, by omega, by omega⟩
  have mid : ∀ i, i ≤ b.length → Bg (N + 1) (mm + 1) (b.take i ++ [x] ++ b.drop i) ∧ tot k c (b.take i ++ [x] ++ b.drop i) = mg k (one k c x) (tot k c b) := by
    intro i hi
    have hp : (b.take i ++ [x] ++ b.drop i).Perm (x :: b) := by
      rw [List.append_assoc, List.singleton_append]
      exact List.perm_middle.trans (by rw [List.take_append_drop])
    have hg : Bg (N + 1) (mm + 1) (x :: b) := ⟨fun y hy => by
      rcases List.mem_cons.mp hy with rfl | hy
      · exact ⟨xd, xm, by omega, by omega⟩
      · have := hb.f y hy
        exact ⟨this.1, this.2.1, this.2.2.1, by omega⟩, by simp; omega⟩
    have hg' : Bg (N + 1) (mm + 1) (b.take i ++ [x] ++ b.drop i) := ⟨fun y hy => hg.f y (hp.mem_iff.mp hy), by rw [hp.length_eq]; exact hg.l⟩
    refine ⟨hg', ?_⟩
    rw [tot_perm hk hp (hg'.fis (by omega)) (by have := hg'.l; omega)]
    rfl
  intro j
  induction j with
  | zero =>
    intro K i hi hK
    obtain ⟨K, rfl⟩ : ∃ K', K = K' + 1 := ⟨K - 1, by omega⟩
    obtain ⟨m1, m2⟩ := mid i (by omega)
    refine ⟨_, ?_, m1, m2⟩
    rw [gristmillref04_Put.l0, if_neg (by omega), if_pos (by omega), if_pos (by omega), Option.bind_some, if_pos (by simp; omega), Option.bind_some, if_pos (by simp; omega), Option.bind_some, Option.bind_some, if_pos (by simp; omega)]
    simp
  | succ j ih =>
    intro K i hi hK
    obtain ⟨K, rfl⟩ : ∃ K', K = K' + 1 := ⟨K - 1, by omega⟩
    have hil : i < b.length := by omega
    have hy := hb.f _ (at_mem hil)
    obtain ⟨r, hr, hr0⟩ := cmp_eq (a0 := (rd_T39 b i).f0.f0) (b0 := x.f0.f0) (d := (rd_T39 b i).f0.f1) (e := x.f0.f1) (m := (rd_T39 b i).f0.f2) (n := x.f0.f2) (by rw [hy.1, xd]) (by omega) (by rw [hy.2.1, xm]) (by omega) (K := K) (by omega)
    rw [gristmillref04_Put.l0, if_pos (by omega), if_pos (by omega), hr, Option.bind_some]
    by_cases hneg : r < 0
    · rw [if_pos hneg, wrap_in (by omega) (by omega)]
      exact ih K (i + 1) (by omega) (by omega)
    · rw [if_neg hneg, if_pos (by omega), Option.bind_some, if_pos (by simp; omega), Option.bind_some, Option.bind_some]
      by_cases hz : r = 0
      · have hf : (rd_T39 b i).f0 = x.f0 := by
          obtain ⟨e1, e2, e3⟩ := hr0 hz
          cases hh : (rd_T39 b i).f0; cases hx : x.f0
          rw [hh, hx] at e1 e2 e3
          simp at e1 e2 e3
          rw [e1, e2, e3]
        rw [if_pos hz, if_pos (by simp; omega), Option.bind_some, wrap_in (n := (i : Int) + 1) (by omega) (by omega), if_pos (by omega), if_pos (by omega), Option.bind_some, if_pos (by simp; omega)]
        refine ⟨_, rfl, ?_⟩
        have hu : IntKind.u64.wrap ((rd_T39 b i).f1 + x.f1) = (rd_T39 b i).f1 + x.f1 := by rw [u64_eq, Int.emod_eq_of_lt (by omega) (by omega)]
        rw [hu]
        have ht : ((i : Int) + 1).toNat = i + 1 := by omega
        rw [Int.toNat_natCast, ht, List.nil_append]
        have hbp : b.Perm (rd_T39 b i :: (b.take i ++ b.drop (i + 1))) := by
          have : b.take i ++ rd_T39 b i :: b.drop (i + 1) = b := by rw [← drop_at hil, List.take_append_drop]
          exact (by rw [this] : b.Perm (b.take i ++ rd_T39 b i :: b.drop (i + 1))).trans List.perm_middle
        have htp : (b.take i ++ [(⟨⟨x.f0.f0, x.f0.f1, x.f0.f2⟩, (rd_T39 b i).f1 + x.f1⟩ : S39)] ++ b.drop (i + 1)).Perm ((⟨x.f0, (rd_T39 b i).f1 + x.f1⟩ : S39) :: (b.take i ++ b.drop (i + 1))) := by
          rw [List.append_assoc, List.singleton_append]
          exact List.perm_middle
        have hsub : ∀ y ∈ b.take i ++ b.drop (i + 1), y ∈ b := fun y h => hbp.mem_iff.mpr (List.mem_cons_of_mem _ h)
        have hg : Bg (N + 1) (mm + 1) ((⟨x.f0, (rd_T39 b i).f1 + x.f1⟩ : S39) :: (b.take i ++ b.drop (i + 1))) := ⟨fun y h => by
          rcases List.mem_cons.mp h with rfl | h
          · exact ⟨xd, xm, by show 0 ≤ (rd_T39 b i).f1 + x.f1; omega, by show (rd_T39 b i).f1 + x.f1 ≤ N + 1; omega⟩
          · have := hb.f y (hsub y h)
            exact ⟨this.1, this.2.1, this.2.2.1, by omega⟩, by simp; omega⟩
        have hg' : Bg (N + 1) (mm + 1) (b.take i ++ [(⟨⟨x.f0.f0, x.f0.f1, x.f0.f2⟩, (rd_T39 b i).f1 + x.f1⟩ : S39)] ++ b.drop (i + 1)) := ⟨fun y hy => hg.f y (htp.mem_iff.mp hy), by rw [htp.length_eq]; exact hg.l⟩
        refine ⟨hg', ?_⟩
        have hrest : Fis (b.take i ++ b.drop (i + 1)) := fun y h => hfb y (hsub y h)
        have hrl : (b.take i ++ b.drop (i + 1)).length ≤ 1000 := by simp; omega
        have hfy : Fi ⟨x.f0, (rd_T39 b i).f1⟩ := ⟨xd, xm, hy.2.2.1, by show (rd_T39 b i).f1 < _; omega⟩
        have gx := one_gd (k := k) (c := c) fx
        have gy := one_gd (k := k) (c := c) hfy
        have gr := tot_gd (k := k) (c := c) hrest (by omega)
        rw [tot_perm hk htp (hg'.fis (by omega)) (by have := hg'.l; omega), tot_perm hk hbp hfb (by omega)]
        show mg k (one k c ⟨x.f0, (rd_T39 b i).f1 + x.f1⟩) (tot k c (b.take i ++ b.drop (i + 1))) = mg k (one k c x) (mg k (one k c (rd_T39 b i)) (tot k c (b.take i ++ b.drop (i + 1))))
        have e1 : one k c (rd_T39 b i) = one k c ⟨x.f0, (rd_T39 b i).f1⟩ := by rw [← hf]
        have e2 := one_add (k := k) (c := c) (f := x.f0) hfy (b := x.f1) fx hk
        have gx' : Gd k 1125899906842624 1 (one k c ⟨x.f0, x.f1⟩) := gx
        rw [e1, ← e2, mg_comm hk gy gx' (by omega), mg_assoc gx' gy gr (by omega)]
      · rw [if_neg hz, if_pos (by simp; omega), Option.bind_some, Option.bind_some, if_pos (by simp; omega)]
        obtain ⟨m1, m2⟩ := mid i (by omega)
        refine ⟨_, rfl, ?_⟩
        rw [Int.toNat_natCast, List.nil_append]
        exact ⟨m1, m2⟩
theorem put_eq' {k c : Int} (hk : 1 ≤ k ∧ k ≤ 5) {b : List S39} {x : S39} {N : Int} {mm : Nat} (hb : Bg N mm b) (hN0 : 0 ≤ N) (hN : N ≤ 1000) (hm : mm ≤ 1000) (xd : x.f0.f1.length = 2) (xm : x.f0.f2.length = 2) (x1 : x.f1 = 1) {K : Nat} (hK : b.length + 100 ≤ K) :
    ∃ t, gristmillref04_Put.f K b x.f0.f0 x.f0.f1 x.f0.f2 x.f1 = some t ∧ Bg (N + 1) (mm + 1) t ∧ tot k c t = mg k (one k c x) (tot k c b) :=
  put_l0' hk hb hN0 hN hm xd xm x1 b.length K 0 (by omega) hK
theorem own_b1 {k c : Int} {b : List S39} (hb : Fis b) (hl : b.length ≤ 1000) : ∀ (j K i : Nat) (acc : List S39), i + j = b.length → j < K → acc.length ≤ i →
    ∃ t, gristmillref04_Own.l1 K b acc i = some (acc ++ t) ∧ Fis t ∧ t.length ≤ j ∧ tot k c t = tot k c (b.drop i) := by
  intro j
  induction j with
  | zero =>
    intro K i acc hi hK ha
    obtain ⟨K, rfl⟩ : ∃ K', K = K' + 1 := ⟨K - 1, by omega⟩
    refine ⟨[], ?_, fun _ h => absurd h (by simp), by simp, by rw [List.drop_eq_nil_of_le (by omega)]⟩
    rw [gristmillref04_Own.l1, if_neg (by omega), List.append_nil]
  | succ j ih =>
    intro K i acc hi hK ha
    obtain ⟨K, rfl⟩ : ∃ K', K = K' + 1 := ⟨K - 1, by omega⟩
    have hil : i < b.length := by omega
    have hx := hb _ (at_mem hil)
    rw [gristmillref04_Own.l1, if_pos (by omega), if_pos (by omega), wrap_in (by omega) (by omega), drop_at hil]
    by_cases hz : (rd_T39 b i).f1 = 0
    · rw [if_pos hz]
      obtain ⟨t, h1, h2, h3, h4⟩ := ih K (i + 1) acc (by omega) (by omega) (by omega)
      refine ⟨t, h1, h2, by omega, ?_⟩
      have : one k c (rd_T39 b i) = zP := by unfold one; rw [if_pos hz]
      show _ = mg k (one k c (rd_T39 b i)) (tot k c (b.drop (i + 1)))
      rw [h4, this, mg_zl (tot_gd (fun y hy => hb y (List.mem_of_mem_drop hy)) (by simp; omega))]
    · rw [if_neg hz, if_pos (by omega)]
      obtain ⟨t, h1, h2, h3, h4⟩ := ih K (i + 1) (acc ++ [rd_T39 b i]) (by omega) (by omega) (by simp; omega)
      refine ⟨rd_T39 b i :: t, ?_, fun y hy => ?_, by simp; omega, ?_⟩
      · rw [List.append_assoc] at h1
        exact h1
      · rcases List.mem_cons.mp hy with rfl | hy
        · exact hx
        · exact h2 y hy
      · show mg k _ _ = mg k _ _
        rw [h4]
theorem own_b0 {k c : Int} (hk : 1 ≤ k ∧ k ≤ 5) {l : List S39} (hl : Fis l) (h1 : ∀ x ∈ l, x.f1 = 1) (hn : l.length ≤ 500) : ∀ (j K i : Nat) (b : List S39), i + j = l.length → j + 1200 ≤ K → Bg i i b → tot k c b = tot k c (l.take i) →
    ∃ t, gristmillref04_Own.l0 K l b i = some t ∧ Fis t ∧ t.length ≤ 1000 ∧ tot k c t = tot k c l := by
  intro j
  induction j with
  | zero =>
    intro K i b hi hK hb ht
    obtain ⟨K, rfl⟩ : ∃ K', K = K' + 1 := ⟨K - 1, by omega⟩
    have := hb.l
    rw [gristmillref04_Own.l0, if_neg (by omega)]
    obtain ⟨t, e1, e2, e3, e4⟩ := own_b1 (k := k) (c := c) (hb.fis (by omega)) (by omega) b.length K 0 [] (by omega) (by omega) (by simp)
    refine ⟨t, e1, e2, by omega, ?_⟩
    rw [e4, List.drop_zero, ht, List.take_of_length_le (by omega)]
  | succ j ih =>
    intro K i b hi hK hb ht
    obtain ⟨K, rfl⟩ : ∃ K', K = K' + 1 := ⟨K - 1, by omega⟩
    have hil : i < l.length := by omega
    have hx := hl _ (at_mem hil)
    have hx1 := h1 _ (at_mem hil)
    have hbl := hb.l
    obtain ⟨t, p1, p2, p3⟩ := put_eq' (k := k) (c := c) hk hb (by omega) (by omega) (by omega) hx.d hx.m hx1 (K := K) (by omega)
    rw [gristmillref04_Own.l0, if_pos (by omega), if_pos (by omega), p1, Option.bind_some, wrap_in (by omega) (by omega)]
    refine ih K (i + 1) t (by omega) (by omega) p2 ?_
    have htk : l.take (i + 1) = l.take i ++ [rd_T39 l i] := by
      rw [List.take_succ_eq_append_getElem hil]
      congr 2
      unfold rd_T39
      rw [Int.toNat_natCast, List.getD_eq_getElem?_getD, List.getElem?_eq_getElem hil, Option.getD_some]
    have hp : (l.take i ++ [rd_T39 l i]).Perm (rd_T39 l i :: l.take i) := List.perm_append_comm
    rw [p3, htk, ht, tot_perm hk hp (fun y hy => by
      rcases List.mem_append.mp hy with h | h
      · exact hl y (List.mem_of_mem_take h)
      · rw [List.mem_singleton.mp h]; exact hx) (by simp; omega)]
    rfl
theorem own_eq' {k c : Int} (hk : 1 ≤ k ∧ k ≤ 5) {l : List S39} (hl : Fis l) (h1 : ∀ x ∈ l, x.f1 = 1) (hn : l.length ≤ 500) {K : Nat} (hK : 2000 ≤ K) :
    ∃ t, gristmillref04_Own.f K l = some t ∧ Fis t ∧ t.length ≤ 1000 ∧ tot k c t = tot k c l :=
  own_b0 hk hl h1 hn l.length K 0 [] (by omega) (by omega) ⟨fun _ h => absurd h (by simp), by simp⟩ rfl
end Go.Proofs.Ytkjjdpnpcjfgeaa.QAgg
