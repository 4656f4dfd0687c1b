/- The map of chunks that Seal fills. -/
import Derived.Test.YtdlkhjfkhbeaaaaIk5
import Derived.Test.YtdlkhjfkhbeaaaaIter
import Derived.Maps.OwnSet
import Derived.Maps.Views
namespace Go.Proofs.Ytdlkhjfkhbeaaaa.QIn
open Go.RowKit Go.Maps Go.Proofs.YtdlkhjfkhbeaaaaW.PrintWords Go.Proofs.YtdlkhjfkhbeaaaaW.PrintLast Go.Proofs.YtdlkhjfkhbeaaaaW.PrintMore
/-- A chunk's pointer, read as its block's number. -/
def pr (v : Value) : Option (DataW Unit × List MemPlace) :=
  match v with
  | .pointer none => some (.nil, [])
  | .pointer (some ⟨g, 0, none⟩) => some (.lit (.int .i64 g), [])
  | _ => none
theorem pr_nil {v : Value} {ps : List MemPlace} (h : pr v = some (.nil, ps)) : v = .pointer none := by
  unfold pr at h
  split at h
  · rfl
  · cases h
  · cases h
theorem pr_ptr {v : Value} {g : Nat} {ps : List MemPlace} (h : pr v = some (.lit (.int .i64 g), ps)) : v = .pointer (some ⟨g, 0, none⟩) := by
  unfold pr at h
  split at h
  · cases h
  · simp at h
    obtain ⟨h, _⟩ := h
    have := Int.ofNat.inj h
    subst this
    rfl
  · cases h
theorem ky : Keyed Try.prog 2 := int_keyed (q := .i64) (by kernel_rfl)
theorem hz68 (w : World) : (zeroValue 68).run Try.prog w = .ok (.pointer none) w := by kernel_rfl
theorem hk2 {k : Int} (h0 : 0 ≤ k) (h1 : k ≤ 1099511627776) : keyOf Try.prog 2 (.int .i64 k) = some (.int .i64 k) := keyOf_int_mk Try.underlying2 (WalkArith.wf_i64 (by omega))
theorem lit_ne {a b : Int} (h : a ≠ b) : (Lit.int .i64 a) ≠ .int .i64 b := fun e => h (by injection e)
/-- A chunk's box. -/
abbrev bx (chunk k : Int) (v : Value) : Obj := .cells #[.int .i64 k, .int .i64 (min (k + chunk) 1099511627776), v] 55 (0, 0)
/-- Of the facts those whose span begins at k. -/
def flt (chunk k : Int) (l : List S37) : List S37 := l.filter fun f => frm chunk f.f0 == k
theorem own_below {w w' : World} {mb n : Nat} {D : DataW Unit} (h : w.ownsMap Try.prog 2 pr mb n D) (hb : Below w.heap.size w w') : w'.ownsMap Try.prog 2 pr mb n D := by
  have hl := h.lt
  obtain ⟨es, clock, e, r⟩ := h
  exact ⟨es, clock, (hb.block mb hl).trans e, r⟩
/-- The map of chunks in memory: each key's box, each box's facts. -/
structure CM (w : World) (B : Nat) (chunk : Int) (ok0 : Nat → Prop) (mb n : Nat) (D : DataW Unit) (done : List S37) (gs : Int → Nat) (vs : Int → Value) : Prop where mk ::
  own : w.ownsMap Try.prog 2 pr mb n D
  bm : B ≤ mb
  at_ : ∀ k, Maps.has D (.int .i64 k) = true → D.atKey (.int .i64 k) .nil = .lit (.int .i64 (gs k)) ∧ w.heap[gs k]? = some (bx chunk k (vs k)) ∧ B ≤ gs k ∧ Row k37 37 w B ok0 (vs k) (flt chunk k done)
  apart : ∀ k k', Maps.has D (.int .i64 k) = true → Maps.has D (.int .i64 k') = true → k ≠ k' → gs k ≠ gs k' ∧ ∀ b, (vs k).ownBlock = some b → (vs k').ownBlock ≠ some b
section
variable {w w1 : World} {B : Nat} {chunk : Int} {ok0 : Nat → Prop} {mb n : Nat} {D : DataW Unit} {done : List S37} {gs : Int → Nat} {vs : Int → Value}
theorem CM.below (h : CM w B chunk ok0 mb n D done gs vs) (hb : Below w.heap.size w w1) : CM w1 B chunk ok0 mb n D done gs vs :=
  ⟨own_below h.own hb, h.bm, fun k hk => by
    obtain ⟨a1, a2, a3, a4⟩ := h.at_ k hk
    exact ⟨a1, blk_below a2 hb, a3, a4.below hb⟩, h.apart⟩
/-- A store into a block that came in. -/
theorem CM.far (h : CM w B chunk ok0 mb n D done gs vs) {p : Addr} (hp : p.block < B) (hok : ∀ k, ok0 k → k ≠ p.block) (u : Value) : CM (w.setCell p u) B chunk ok0 mb n D done gs vs :=
  ⟨h.own.setCell (a := p) (fun e => by have := h.bm; omega) u, h.bm, fun k hk => by
    obtain ⟨a1, a2, a3, a4⟩ := h.at_ k hk
    exact ⟨a1, blk_far a2 (p := p) (by omega) u, a3, a4.step (fun b hb _ => Below.heap_setCell w p u b (hok b hb)) (fun b hb => Below.heap_setCell w p u b (by have := a4.base b hb; omega))⟩, h.apart⟩
/-- The look-up of a key that is there. -/
theorem CM.look (h : CM w B chunk ok0 mb n D done gs vs) {k : Int} (hk : Maps.has D (.int .i64 k) = true) (h0 : 0 ≤ k) (h1 : k ≤ 1099511627776) : (Instr.lookup 66 (.map (some mb)) (.int .i64 k) false).run Try.prog w = .ok (.pointer (some ⟨gs k, 0, none⟩)) w := by
  obtain ⟨v, ps, hlk, hv⟩ := h.own.lookup ky (show Try.prog.underlying 66 = some (.map 2 68) by kernel_rfl) (hz68 _) (zd := .nil) (zp := []) rfl (hk2 h0 h1)
  rw [(h.at_ k hk).1] at hv
  obtain rfl := pr_ptr hv
  exact hlk
/-- .. of one that is not. -/
theorem CM.look_no (h : CM w B chunk ok0 mb n D done gs vs) {k : Int} (hk : Maps.has D (.int .i64 k) = false) (h0 : 0 ≤ k) (h1 : k ≤ 1099511627776) : (Instr.lookup 66 (.map (some mb)) (.int .i64 k) false).run Try.prog w = .ok (.pointer none) w := by
  obtain ⟨v, ps, hlk, hv⟩ := h.own.lookup ky (show Try.prog.underlying 66 = some (.map 2 68) by kernel_rfl) (hz68 _) (zd := .nil) (zp := []) rfl (hk2 h0 h1)
  rw [atKey_of_not_has hk] at hv
  obtain rfl := pr_nil hv
  exact hlk
/-- A new key, with an empty box. -/
theorem CM.insert (h : CM w B chunk ok0 mb n D done gs vs) {k : Int} {g : Nat} {w2 w3 : World} (hk : Maps.has D (.int .i64 k) = false) (hf : flt chunk k done = []) (hBs : B ≤ w.heap.size) (hok : ∀ b, ok0 b → b < B)
    (hb : Below w.heap.size w w2) (hg : w2.heap[g]? = some (bx chunk k (.slice none 0 0))) (hgs : w.heap.size ≤ g)
    (own3 : w3.ownsMap Try.prog 2 pr mb (n + 1) (D.put (.int .i64 k) (.lit (.int .i64 g)))) (hgr : w2.grownBy w3 (some mb)) :
    CM w3 B chunk ok0 mb (n + 1) (D.put (.int .i64 k) (.lit (.int .i64 g))) done (fun q => if q = k then g else gs q) (fun q => if q = k then .slice none 0 0 else vs q) := by
  have h2 := h.below hb
  have hml := h.own.lt
  have hother : ∀ q, q ≠ k → Maps.has (D.put (.int .i64 k) (.lit (.int .i64 g))) (.int .i64 q) = true → Maps.has D (.int .i64 q) = true := fun q hq hh => by
    rwa [has_put_other (lit_ne hq)] at hh
  refine ⟨own3, h.bm, fun q hq => ?_, fun q q' hq hq' hne => ?_⟩
  · by_cases e : q = k
    · subst e
      simp only [if_pos]
      refine ⟨atKey_put_same h.own.isMap (k := .int .i64 q) trivial _ _, blk_grown hg hgr (fun e => by have := Option.some.inj e; omega), by omega, ?_⟩
      rw [hf]
      exact Row.nil _ _ _ _ _
    · simp only [if_neg e]
      obtain ⟨a1, a2, a3, a4⟩ := h2.at_ q (hother q e hq)
      have hne : some (gs q) ≠ some mb := fun e => by
        obtain ⟨es, clock, hb', _⟩ := h2.own
        rw [← Option.some.inj e, a2] at hb'
        cases hb'
      have hnr : ∀ b, (vs q).ownBlock = some b → some b ≠ some mb := fun b hb1 e => by
        obtain ⟨rows, _, hR, _⟩ := a4
        obtain ⟨cells, hc⟩ := Kd.R_typed hR b hb1
        obtain ⟨es, clock, hb', _⟩ := h2.own
        rw [← Option.some.inj e, hc] at hb'
        cases hb'
      refine ⟨by rw [atKey_put_other (lit_ne e)]; exact a1, blk_grown a2 hgr hne, a3, a4.step (fun b hb1 hlt => hgr.block b hlt (fun e => ?_)) (fun b hb1 => hgr.block b (a4.lt b hb1) (hnr b hb1))⟩
      have h1 := hok b hb1
      have h2 := h.bm
      have := Option.some.inj e
      omega
  · by_cases e : q = k
    · subst e
      have e' : q' ≠ q := fun e => hne e.symm
      simp only [if_pos, if_neg e']
      have a2 := (h.at_ q' (hother q' e' hq')).2.1
      exact ⟨fun e => by have := blk_lt a2; omega, fun b hb1 => by simp [Value.ownBlock] at hb1⟩
    · by_cases e' : q' = k
      · subst e'
        simp only [if_pos, if_neg e]
        have a2 := (h.at_ q (hother q e hq)).2.1
        exact ⟨fun e => by have := blk_lt a2; omega, fun b hb1 => by simp [Value.ownBlock]⟩
      · simp only [if_neg e, if_neg e']
        exact h.apart q q' (hother q e hq) (hother q' e' hq') hne
theorem flt_snoc_same {f : S37} : flt chunk (frm chunk f.f0) (done ++ [f]) = flt chunk (frm chunk f.f0) done ++ [f] := by simp [flt]
theorem flt_snoc_other {f : S37} {k : Int} (h : frm chunk f.f0 ≠ k) : flt chunk k (done ++ [f]) = flt chunk k done := by simp [flt, h]
/-- A fact put behind its chunk's. -/
theorem CM.push (h : CM w B chunk ok0 mb n D done gs vs) {f : S37} {v1 : Value} {w2 : World} (hk : Maps.has D (.int .i64 (frm chunk f.f0)) = true) (hok : ∀ b, ok0 b → b < B)
    (hR : Row k37 37 w2 B ok0 v1 (flt chunk (frm chunk f.f0) done ++ [f])) (hg : w.grownBy w2 (vs (frm chunk f.f0)).ownBlock) (hat : v1.ownBlock = (vs (frm chunk f.f0)).ownBlock ∨ ∃ b, v1.ownBlock = some b ∧ w.heap.size ≤ b) :
    CM (w2.setCell ⟨gs (frm chunk f.f0), 2, none⟩ v1) B chunk ok0 mb n D (done ++ [f]) gs (fun q => if q = frm chunk f.f0 then v1 else vs q) := by
  obtain ⟨k1, k2, k3, k4⟩ := h.at_ _ hk
  have hmg : mb ≠ gs (frm chunk f.f0) := fun e => by
    obtain ⟨es, clock, hb', _⟩ := h.own
    rw [e, k2] at hb'
    cases hb'
  have hmr : some mb ≠ (vs (frm chunk f.f0)).ownBlock := fun e => by
    obtain ⟨rows, _, hR, _⟩ := k4
    obtain ⟨cells, hc⟩ := Kd.R_typed hR mb e.symm
    obtain ⟨es, clock, hb', _⟩ := h.own
    rw [hc] at hb'
    cases hb'
  have box_ne : ∀ {q q' : Int}, Maps.has D (.int .i64 q) = true → Maps.has D (.int .i64 q') = true → some (gs q) ≠ (vs q').ownBlock := fun hq hq' e => by
    obtain ⟨_, a2, _, _⟩ := h.at_ _ hq
    obtain ⟨_, _, _, a4⟩ := h.at_ _ hq'
    obtain ⟨rows, _, hR, _⟩ := a4
    obtain ⟨cells, hc⟩ := Kd.R_typed hR _ e.symm
    rw [a2] at hc
    injection hc with hc
    injection hc with _ hc
    cases hc
  have hgl := blk_lt k2
  have r0 : ∀ b, ok0 b → some b ≠ (vs (frm chunk f.f0)).ownBlock := fun b hb e => by
    have := k4.base b e.symm
    have := hok b hb
    omega
  have v1ne : ∀ b, v1.ownBlock = some b → b ≠ gs (frm chunk f.f0) := fun b hb e => by
    subst e
    rcases hat with e1 | ⟨b', e1, e2⟩
    · rw [e1] at hb
      exact box_ne hk hk hb.symm
    · rw [e1] at hb
      have := Option.some.inj hb
      omega
  refine ⟨(h.own.kept hg hmr).setCell (a := ⟨gs (frm chunk f.f0), 2, none⟩) hmg _, h.bm, fun q hq => ?_, fun q q' hq hq' hne => ?_⟩
  · by_cases e : q = frm chunk f.f0
    · subst e
      simp only [if_pos]
      refine ⟨k1, blk_put (blk_grown k2 hg (box_ne hk hk)) 2 _ rfl, k3, ?_⟩
      rw [flt_snoc_same]
      exact hR.step (fun b hb _ => Below.heap_setCell w2 ⟨gs (frm chunk f.f0), 2, none⟩ _ b (by have := hok b hb; show b ≠ gs (frm chunk f.f0); omega)) (fun b hb => Below.heap_setCell w2 ⟨gs (frm chunk f.f0), 2, none⟩ _ b (v1ne b hb))
    · simp only [if_neg e]
      obtain ⟨a1, a2, a3, a4⟩ := h.at_ q hq
      have hap := h.apart q _ hq hk e
      refine ⟨a1, blk_far (blk_grown a2 hg (box_ne hq hk)) (p := ⟨gs (frm chunk f.f0), 2, none⟩) hap.1 _, a3, ?_⟩
      rw [flt_snoc_other (fun e' => e e'.symm)]
      refine a4.step (fun b hb hlt => ?_) (fun b hb => ?_)
      · exact (Below.heap_setCell w2 ⟨gs (frm chunk f.f0), 2, none⟩ _ b (by have := hok b hb; show b ≠ gs (frm chunk f.f0); omega)).trans (hg.block b hlt (r0 b hb))
      · refine (Below.heap_setCell w2 ⟨gs (frm chunk f.f0), 2, none⟩ _ b (fun e1 => ?_)).trans (hg.block b (a4.lt b hb) (fun e1 => hap.2 b hb e1.symm))
        have e1 : b = gs (frm chunk f.f0) := e1
        subst e1
        exact box_ne hk hq hb.symm
  · by_cases e : q = frm chunk f.f0
    · subst e
      have e' : q' ≠ frm chunk f.f0 := fun e => hne e.symm
      simp only [if_pos, if_neg e']
      have hap := h.apart _ _ hq hq' hne
      refine ⟨hap.1, fun b hb => ?_⟩
      rcases hat with e1 | ⟨b', e1, e2⟩
      · rw [e1] at hb
        exact hap.2 b hb
      · rw [e1] at hb
        have hb := Option.some.inj hb
        subst hb
        intro e3
        have := ((h.at_ q' hq').2.2.2).lt _ e3
        omega
    · by_cases e' : q' = frm chunk f.f0
      · subst e'
        simp only [if_pos, if_neg e]
        have hap := h.apart _ _ hq hq' hne
        refine ⟨hap.1, fun b hb => ?_⟩
        rcases hat with e1 | ⟨b', e1, e2⟩
        · rw [e1]
          exact hap.2 b hb
        · rw [e1]
          intro e3
          have e3 := Option.some.inj e3
          subst e3
          have := ((h.at_ q hq).2.2.2).lt _ hb
          omega
      · simp only [if_neg e, if_neg e']
        exact h.apart q q' hq hq' hne
theorem CM.push_at (h : CM w B chunk ok0 mb n D done gs vs) {f : S37} {k : Int} {v v1 : Value} {w2 : World} (hf : frm chunk f.f0 = k) (hv : vs k = v) (hk : Maps.has D (.int .i64 k) = true) (hok : ∀ b, ok0 b → b < B)
    (hR : Row k37 37 w2 B ok0 v1 (flt chunk k done ++ [f])) (hg : w.grownBy w2 v.ownBlock) (hat : v1.ownBlock = v.ownBlock ∨ ∃ b, v1.ownBlock = some b ∧ w.heap.size ≤ b) :
    CM (w2.setCell ⟨gs k, 2, none⟩ v1) B chunk ok0 mb n D (done ++ [f]) gs (fun q => if q = k then v1 else vs q) := by
  subst hf
  subst hv
  exact h.push hk hok hR hg hat
/-- A box is no row of facts. -/
theorem CM.box_ne (h : CM w B chunk ok0 mb n D done gs vs) {q q' : Int} (hq : Maps.has D (.int .i64 q) = true) (hq' : Maps.has D (.int .i64 q') = true) : some (gs q) ≠ (vs q').ownBlock := fun e => by
  obtain ⟨_, a2, _, _⟩ := h.at_ _ hq
  obtain ⟨_, _, _, a4⟩ := h.at_ _ hq'
  obtain ⟨rows, _, hR, _⟩ := a4
  obtain ⟨cells, hc⟩ := Kd.R_typed hR _ e.symm
  rw [a2] at hc
  injection hc with hc
  injection hc with _ hc
  cases hc
theorem keys_same {D : DataW Unit} {L : List S37} {chunk : Int} {f : S37} {kk : Int} (h : ∀ k, Maps.has D (.int .i64 k) = true ↔ ∃ f ∈ L, frm chunk f.f0 = k) (hf : frm chunk f.f0 = kk) (hk : Maps.has D (.int .i64 kk) = true) :
    ∀ k, Maps.has D (.int .i64 k) = true ↔ ∃ f' ∈ L ++ [f], frm chunk f'.f0 = k := fun k => by
  rw [h k]
  constructor
  · rintro ⟨f', h1, h2⟩
    exact ⟨f', List.mem_append_left _ h1, h2⟩
  · rintro ⟨f', h1, h2⟩
    rcases List.mem_append.1 h1 with h1 | h1
    · exact ⟨f', h1, h2⟩
    · rw [List.mem_singleton.1 h1, hf] at h2
      subst h2
      exact (h kk).1 hk
theorem keys_put {D : DataW Unit} {L : List S37} {chunk : Int} {f : S37} {kk : Int} {y : DataW Unit} (hD : ∃ es, D = .map es) (h : ∀ k, Maps.has D (.int .i64 k) = true ↔ ∃ f ∈ L, frm chunk f.f0 = k) (hf : frm chunk f.f0 = kk) :
    ∀ k, Maps.has (D.put (.int .i64 kk) y) (.int .i64 k) = true ↔ ∃ f' ∈ L ++ [f], frm chunk f'.f0 = k := fun k => by
  by_cases e : k = kk
  · subst e
    rw [has_put_same hD (k := .int .i64 k) trivial]
    exact ⟨fun _ => ⟨f, by simp, hf⟩, fun _ => rfl⟩
  · rw [has_put_other (lit_ne e), h k]
    constructor
    · rintro ⟨f', h1, h2⟩
      exact ⟨f', List.mem_append_left _ h1, h2⟩
    · rintro ⟨f', h1, h2⟩
      rcases List.mem_append.1 h1 with h1 | h1
      · exact ⟨f', h1, h2⟩
      · rw [List.mem_singleton.1 h1, hf] at h2
        exact absurd h2.symm e
theorem flt_none {D : DataW Unit} {L : List S37} {chunk kk : Int} (h : ∀ k, Maps.has D (.int .i64 k) = true ↔ ∃ f ∈ L, frm chunk f.f0 = k) (hk : Maps.has D (.int .i64 kk) = false) : flt chunk kk L = [] := by
  unfold flt
  rw [List.filter_eq_nil_iff]
  intro f hf e
  have := (h kk).2 ⟨f, hf, by simpa using e⟩
  rw [hk] at this
  cases this
end
end Go.Proofs.Ytdlkhjfkhbeaaaa.QIn
