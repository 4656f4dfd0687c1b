/- IntakeOwn: what its loops keep. -/
import Derived.Test.YtdlkhjfkhbeaaaaOd0
namespace Go.Proofs.Ytdlkhjfkhbeaaaa.QIn
open Go.RowKit Go.Maps Go.Proofs.YtdlkhjfkhbeaaaaW.PrintWords Go.Proofs.YtdlkhjfkhbeaaaaW.PrintLast Go.Proofs.YtdlkhjfkhbeaaaaW.PrintMore
/-! ### What IntakeOwn's loops keep -/
def FG (fs : List S37) : Prop := fs.length ≤ 40 ∧ F21 fs ∧ ∀ f ∈ fs, 0 ≤ f.f0 ∧ f.f0 < 100
theorem FG.good {fs : List S37} (h : FG fs) : Good fs := ⟨by have := h.1; omega, fun f hf => by have := h.2.1 f hf; omega⟩
theorem FG.snoc {fs : List S37} (h : FG fs) (hl : fs.length < 40) {t n : Int} {s1 s2 : ByteArray} (h0 : 0 ≤ t) (h1 : t < 100) : FG (fs ++ [⟨t, [s1, s2], [n]⟩]) := by
  refine ⟨by simp; omega, fun f hf => ?_, fun f hf => ?_⟩
  · rcases List.mem_append.1 hf with hf | hf
    · exact h.2.1 f hf
    · rw [List.mem_singleton.1 hf]; exact ⟨rfl, rfl⟩
  · rcases List.mem_append.1 hf with hf | hf
    · exact h.2.2 f hf
    · rw [List.mem_singleton.1 hf]; exact ⟨h0, h1⟩
/-- The first loop's: the facts that were taken; they are wanted. -/
structure OW (w w' : World) (base x : Nat) (fs : List S37) (vf vw : Value) : Prop where mk ::
  I : IN w' base x 2 1 5 (fs.length + 1) vf fs fs.length (.slice none 0 0) [] 0
  hf : Kd.N k37 37 w' base (fun k => (k ≠ x ∧ some k ≠ (Value.slice none 0 0).ownBlock) ∧ some k ≠ vw.ownBlock) vf fs
  hw : Kd.R k37 37 w' base (fun k => k ≠ x ∧ some k ≠ vf.ownBlock) vw fs
  hB : Below w.heap.size w w'
  bw : w.heap.size ≤ base
  F : FG fs
/-- The same with a fact's own two rows (blocks d, m) beside: taken n facts, wanted l. -/
structure TW (w w' : World) (base x : Nat) (fs l : List S37) (vf vw : Value) (d m gf : Nat) (t : Int) (s1 s2 : ByteArray) (n : Int) : Prop where mk ::
  I : IN w' base x 2 1 5 (fs.length + 1) vf fs fs.length (.slice none 0 0) [] 0
  hf : Kd.N k37 37 w' base (fun k => (k ≠ x ∧ some k ≠ (Value.slice none 0 0).ownBlock) ∧ (some k ≠ vw.ownBlock ∧ k ≠ d ∧ k ≠ m ∧ k ≠ gf)) vf fs
  hw : Kd.R k37 37 w' base (fun k => (k ≠ x ∧ some k ≠ vf.ownBlock) ∧ k ≠ d ∧ k ≠ m ∧ k ≠ gf) vw l
  hd : w'.heap[d]? = some (.cells #[.string s1, .string s2] 9 (0, 0))
  hm : w'.heap[m]? = some (.cells #[.int .i64 n] 2 (0, 0))
  hg : w'.heap[gf]? = some (.cells #[.int .i64 t, .slice (some ⟨d, 0, none⟩) 2 2, .slice (some ⟨m, 0, none⟩) 1 1] 37 (0, 0))
  hB : Below w.heap.size w w'
  bw : w.heap.size ≤ base
  ld : base ≤ d
  lm : base ≤ m
section
variable {w w1 w2 : World} {base x d m gf : Nat} {t : Int} {fs l : List S37} {vf vw : Value} {s1 s2 : ByteArray} {n : Int}
theorem TW.below (h : TW w w1 base x fs l vf vw d m gf t s1 s2 n) (hb : Below w1.heap.size w1 w2) : TW w w2 base x fs l vf vw d m gf t s1 s2 n :=
  ⟨h.I.below hb, Kd.N_below h.hf hb, Kd.R_below h.hw hb, blk_below h.hd hb, blk_below h.hm hb, blk_below h.hg hb, h.hB.trans (hb.mono h.hB.size), h.bw, h.ld, h.lm⟩
theorem OW.below (h : OW w w1 base x fs vf vw) (hb : Below w1.heap.size w1 w2) : OW w w2 base x fs vf vw :=
  ⟨h.I.below hb, Kd.N_below h.hf hb, Kd.R_below h.hw hb, h.hB.trans (hb.mono h.hB.size), h.bw, h.F⟩
/-- A fact's own rows are made. -/
theorem OW.rows (h : OW w w1 base x fs vf vw) (hb : Below w1.heap.size w1 w2) (ld : w1.heap.size ≤ d) (lm : w1.heap.size ≤ m) (lg : w1.heap.size ≤ gf) (hd : w2.heap[d]? = some (.cells #[.string s1, .string s2] 9 (0, 0))) (hm : w2.heap[m]? = some (.cells #[.int .i64 n] 2 (0, 0))) (hg : w2.heap[gf]? = some (.cells #[.int .i64 t, .slice (some ⟨d, 0, none⟩) 2 2, .slice (some ⟨m, 0, none⟩) 1 1] 37 (0, 0))) : TW w w2 base x fs fs vf vw d m gf t s1 s2 n := by
  have hs := h.I.szd
  refine ⟨h.I.below hb, Kd.N_below (Kd.N_mono (Kd.N_bound h.hf) fun k hk => ⟨hk.1.1, hk.1.2, ?_, ?_, ?_⟩) hb, Kd.R_below (Kd.R_mono (Kd.R_bound h.hw) fun k hk => ⟨hk.1, ?_, ?_, ?_⟩) hb, hd, hm, hg, h.hB.trans (hb.mono h.hB.size), h.bw, by omega, by omega⟩
  · have := hk.2; omega
  · have := hk.2; omega
  · have := hk.2; omega
  · have := hk.2.2.1; omega
  · have := hk.2.2.1; omega
  · have := hk.2.2.1; omega
/-- They are written over. -/
theorem TW.done (h : TW w w1 base x fs fs vf vw d m gf t s1 s2 n) (F : FG fs) (i j : Nat) (u v : Value) : OW w ((w1.setCell ⟨d, i, none⟩ u).setCell ⟨m, j, none⟩ v) base x fs vf vw := by
  have hN : Kd.N k37 37 ((w1.setCell ⟨d, i, none⟩ u).setCell ⟨m, j, none⟩ v) base (fun k => (k ≠ x ∧ some k ≠ (Value.slice none 0 0).ownBlock) ∧ some k ≠ vw.ownBlock) vf fs :=
    Kd.N_mono (Kd.N_far (Kd.N_far h.hf (p := ⟨d, i, none⟩) (fun k hk => hk.2.2.1) u) (p := ⟨m, j, none⟩) (fun k hk => hk.2.2.2.1) v) (fun k hk => ⟨hk.1, hk.2.1⟩)
  have hx := h.I.hx
  have bd := h.ld
  have bm := h.lm
  have nd : x ≠ d := blk_ne hx h.hd (by decide)
  have nm : x ≠ m := blk_ne hx h.hm (by decide)
  refine ⟨⟨blk_far (blk_far hx (p := ⟨d, i, none⟩) nd u) (p := ⟨m, j, none⟩) nm v, Kd.N_mono hN (fun k hk => hk.1), Kd.N_nil _ _ _ _ _, h.I.bx⟩, hN, ?_, ?_, h.bw, F⟩
  · exact Kd.R_mono (Kd.R_far (Kd.R_far h.hw (p := ⟨d, i, none⟩) (fun k hk => hk.2.1) u) (p := ⟨m, j, none⟩) (fun k hk => hk.2.2.1) v) (fun k hk => hk.1)
  · have := h.bw
    exact (h.hB.setCell (p := ⟨d, i, none⟩) (by show _ ≤ d; omega) u).setCell (p := ⟨m, j, none⟩) (by show _ ≤ m; omega) v
theorem C_lit2 {g : Nat} (h : w.heap[g]? = some (.cells #[.string s1, .string s2] 9 (0, 0))) : Kd.string.C w (some ⟨g, 0, none⟩) 2 [s1, s2] := by
  refine ⟨rfl, by decide, fun _ => ⟨_, rfl, fun j p hj => ⟨[.string p], rfl, rfl, fun i u hu => ?_⟩⟩⟩
  rw [add_plain, blk_cell h]
  cases i with
  | succ i => simp at hu
  | zero =>
    have hu' : Value.string p = u := by simpa using hu
    subst hu'
    match j, hj with
    | 0, hj => simp at hj; subst hj; rfl
    | 1, hj => simp at hj; subst hj; rfl
    | j + 2, hj => simp at hj
theorem C_lit1 {g : Nat} (h : w.heap[g]? = some (.cells #[.int .i64 n] 2 (0, 0))) : (Kd.int .i64).C w (some ⟨g, 0, none⟩) 1 [n] := by
  refine ⟨rfl, by decide, fun _ => ⟨_, rfl, fun j p hj => ⟨[.int .i64 p], rfl, rfl, fun i u hu => ?_⟩⟩⟩
  rw [add_plain, blk_cell h]
  cases i with
  | succ i => simp at hu
  | zero =>
    have hu' : Value.int .i64 p = u := by simpa using hu
    subst hu'
    match j, hj with
    | 0, hj => simp at hj; subst hj; rfl
    | j + 1, hj => simp at hj
/-- Take: the fact fits. -/
theorem TW.take (h : TW w w1 base x fs fs vf vw d m gf t s1 s2 n) (h0 : 0 ≤ t) (h1 : t < 100) (hl : fs.length < 40) (hlo : long [s1, s2] = false) :
    Calls Try.prog 9 #[.pointer (some ⟨x, 0, none⟩), .int .u64 ((fs.length : Int) + 1), .agg #[.int .i64 t, .slice (some ⟨d, 0, none⟩) 2 2, .slice (some ⟨m, 0, none⟩) 1 1]] w1 fun e w' => ∃ vf', e = .returned (.int .i64 0) ∧ TW w w' base x (fs ++ [⟨t, [s1, s2], [n]⟩]) fs vf' vw d m gf t s1 s2 n := by
  have hlf := Kd.N_lt h.hf
  have hlw := Kd.R_lt h.hw
  have hld := blk_lt h.hd
  have hlm := blk_lt h.hm
  have hlg := blk_lt h.hg
  have ng : gf ≠ x := fun e => blk_ne h.I.hx h.hg (by decide) e.symm
  have hsz := h.I.szd
  have nd : d ≠ x := fun e => blk_ne h.I.hx h.hd (by decide) e.symm
  have nm : m ≠ x := fun e => blk_ne h.I.hx h.hm (by decide) e.symm
  refine (take_keep (fun k => some k ≠ vw.ownBlock ∧ k ≠ d ∧ k ≠ m ∧ k ≠ gf) (fun k hk => ⟨fun e => by have := hlw k e.symm; omega, by omega, by omega, by omega⟩) h.I h.hf t (some ⟨d, 0, none⟩) (some ⟨m, 0, none⟩) 2 1 [s1, s2] [n] (by decide) (by decide) (by decide) (by decide) (by omega) (by omega) h0 (by omega) rfl rfl (C_lit2 h.hd) (by simp) (C_lit1 h.hm) (by simp) (by omega) (by omega) (by omega) hlo).mono ?_
  rintro e w' ⟨vf', rfl, hI, hN, hat, hK, hb⟩
  have hlen : (fs ++ [(⟨t, [s1, s2], [n]⟩ : S37)]).length = fs.length + 1 := by simp
  refine ⟨vf', rfl, ?_, hN, ?_, hK.blk h.hd nd (fun e => ?_), hK.blk h.hm nm (fun e => ?_), hK.blk h.hg ng (fun e => ?_), h.hB.trans (hb.mono h.bw), h.bw, h.ld, h.lm⟩
  · rw [hlen]
    have := hI
    simpa using this
  · refine Kd.R_mono (Kd.R_step (Kd.R_bound h.hw) (w1 := w') (fun k hk hlt => hK.2 k hlt hk.1.1.1 hk.1.1.2)) (fun k hk => ⟨⟨hk.1.1.1, fun e => ?_⟩, hk.1.2⟩)
    rcases hat with he | ⟨b, he, hle⟩
    · exact hk.1.1.2 (e.trans he)
    · rw [he] at e
      have := Option.some.inj e
      have := hk.2.2.1
      omega
  · exact (h.hf.1 d e.symm).2.2.1 rfl
  · exact (h.hf.1 m e.symm).2.2.2.1 rfl
  · exact (h.hf.1 gf e.symm).2.2.2.2 rfl
/-- Take: a text is too long. -/
theorem TW.long (h : TW w w1 base x fs fs vf vw d m gf t s1 s2 n) (h0 : 0 ≤ t) (h1 : t < 100) (hl : fs.length < 40) (hlo : long [s1, s2] = true) :
    Calls Try.prog 9 #[.pointer (some ⟨x, 0, none⟩), .int .u64 ((fs.length : Int) + 1), .agg #[.int .i64 t, .slice (some ⟨d, 0, none⟩) 2 2, .slice (some ⟨m, 0, none⟩) 1 1]] w1 fun e w' => e = .returned (.int .i64 40) ∧ TW w w' base x fs fs vf vw d m gf t s1 s2 n := by
  refine (take_long h.I t (some ⟨d, 0, none⟩) (some ⟨m, 0, none⟩) 2 1 [s1, s2] [n] (by decide) (by decide) (by decide) (by decide) (by omega) (by omega) h0 (by omega) rfl rfl (C_lit2 h.hd) hlo).mono ?_
  rintro e w' ⟨rfl, hb⟩
  exact ⟨rfl, h.below hb⟩
/-- Behind the append to what is wanted. -/
theorem TW.appended (h : TW w w1 base x fs l vf vw d m gf t s1 s2 n) {vw' : Value} {l' : List S37} (hR : Kd.R k37 37 w2 base (fun k => (k ≠ x ∧ some k ≠ vf.ownBlock) ∧ k ≠ d ∧ k ≠ m ∧ k ≠ gf) vw' l') (hg : w1.grownBy w2 vw.ownBlock) (hat : vw'.ownBlock = vw.ownBlock ∨ ∃ b, vw'.ownBlock = some b ∧ w1.heap.size ≤ b) : TW w w2 base x fs l' vf vw' d m gf t s1 s2 n := by
  have hN : Kd.N k37 37 w2 base (fun k => (k ≠ x ∧ some k ≠ (Value.slice none 0 0).ownBlock) ∧ (some k ≠ vw'.ownBlock ∧ k ≠ d ∧ k ≠ m ∧ k ≠ gf)) vf fs :=
    Kd.N_mono (Kd.N_after (ok := fun k => (k ≠ x ∧ some k ≠ (Value.slice none 0 0).ownBlock) ∧ (k ≠ d ∧ k ≠ m ∧ k ≠ gf)) (Kd.N_mono h.hf fun k hk => ⟨⟨hk.1, hk.2.2⟩, hk.2.1⟩) hg hat) (fun k hk => ⟨hk.1.1, hk.2, hk.1.2⟩)
  refine ⟨⟨blk_grown h.I.hx hg (fun e => (h.hw.1 x e.symm).1.1 rfl), Kd.N_mono hN (fun k hk => hk.1), Kd.N_nil _ _ _ _ _, h.I.bx⟩, hN, hR, blk_grown h.hd hg (fun e => (h.hw.1 d e.symm).2.1 rfl), blk_grown h.hm hg (fun e => (h.hw.1 m e.symm).2.2.1 rfl), blk_grown h.hg hg (fun e => (h.hw.1 gf e.symm).2.2.2 rfl), ?_, h.bw, h.ld, h.lm⟩
  exact pw_below_grown h.hB vw.ownBlock h.hB.size hg (fun k hk => Nat.le_trans h.bw (Kd.R_base h.hw k hk))
/-- What is new is none of it. -/
theorem TW.fresh (h : TW w w1 base x fs l vf vw d m gf t s1 s2 n) : ∀ k, w1.heap.size ≤ k → ((k ≠ x ∧ some k ≠ vf.ownBlock) ∧ k ≠ d ∧ k ≠ m ∧ k ≠ gf) ∧ some k ≠ vw.ownBlock := fun k hk => by
  have hx := h.I.lt
  have hd := blk_lt h.hd
  have hm := blk_lt h.hm
  have hg := blk_lt h.hg
  have hlf := Kd.N_lt h.hf
  have hlw := Kd.R_lt h.hw
  exact ⟨⟨⟨by omega, fun e => by have := hlf k e.symm; omega⟩, by omega, by omega, by omega⟩, fun e => by have := hlw k e.symm; omega⟩
end
end Go.Proofs.Ytdlkhjfkhbeaaaa.QIn
namespace Go.Proofs.Ytdlkhjfkhbeaaaa.QIn
open Go.RowKit Go.Maps Go.Proofs.YtdlkhjfkhbeaaaaW.PrintWords Go.Proofs.YtdlkhjfkhbeaaaaW.PrintLast Go.Proofs.YtdlkhjfkhbeaaaaW.PrintMore
theorem below3 (w : World) (a b c : Obj) : Below w.heap.size w (((w.alloc a).alloc b).alloc c).drew :=
  ((((Below.refl _ w).alloc (Nat.le_refl _) a).alloc (by simp) b).alloc (by simp; omega) c).drew
theorem blk_at0 (w : World) (a b c : Obj) : (((w.alloc a).alloc b).alloc c).drew.heap[w.heap.size]? = some a := blk_drew (blk_alloc (blk_alloc (blk_new w a) b) c)
theorem blk_at1 (w : World) (a b c : Obj) : (((w.alloc a).alloc b).alloc c).drew.heap[w.heap.size + 1]? = some b := by
  have h := blk_drew (blk_alloc (blk_new (w.alloc a) b) c)
  rwa [show (w.alloc a).heap.size = w.heap.size + 1 by simp] at h
theorem blk_at2 (w : World) (a b c : Obj) : (((w.alloc a).alloc b).alloc c).drew.heap[w.heap.size + 1 + 1]? = some c := by
  have h := blk_drew (blk_new ((w.alloc a).alloc b) c)
  rwa [show ((w.alloc a).alloc b).heap.size = w.heap.size + 1 + 1 by simp] at h
end Go.Proofs.Ytdlkhjfkhbeaaaa.QIn
