/- Rows whose elements' parts lie elsewhere; what told tells. -/
import Derived.Test.YtdlkhjfkhbeaaaaIk4
namespace Go.Proofs.Ytdlkhjfkhbeaaaa.QIn
open Go.RowKit Go.Proofs.YtdlkhjfkhbeaaaaW.PrintWords Go.Proofs.YtdlkhjfkhbeaaaaW.PrintLast Go.Proofs.YtdlkhjfkhbeaaaaW.PrintMore
/-- A row (elements of type e) in a block from B on; what its elements lead to lies in ok. -/
def Row {α : Type} (d : Kd α) (e : Nat) (w : World) (B : Nat) (ok : Nat → Prop) (v : Value) (xs : List α) : Prop :=
  ∃ rows : List (List Value), rows.length = xs.length ∧ (Kd.raw d.sz).R e w B (fun k => some k = v.ownBlock) v rows ∧ ∀ (j : Nat) (x : α) (c : List Value), xs[j]? = some x → rows[j]? = some c → Kd.FK d w ok x c
section
variable {α : Type} {d : Kd α} {e B : Nat} {ok ok' : Nat → Prop} {w w1 : World} {v : Value} {xs : List α}
theorem Row.nil (d : Kd α) (e : Nat) (w : World) (B : Nat) (ok : Nat → Prop) : Row d e w B ok (.slice none 0 0) [] := ⟨[], rfl, Kd.R_nil _ _ _ _ _, fun j x c h => by simp at h⟩
theorem Row.step (h : Row d e w B ok v xs) (h1 : ∀ k, ok k → k < w.heap.size → w1.heap[k]? = w.heap[k]?) (h2 : ∀ k, v.ownBlock = some k → w1.heap[k]? = w.heap[k]?) : Row d e w1 B ok v xs := by
  obtain ⟨rows, hl, hR, hf⟩ := h
  exact ⟨rows, hl, Kd.R_step hR (fun k hk _ => h2 k hk.symm), fun j x c hx hc => Kd.FK_step (hf j x c hx hc) h1⟩
theorem Row.lt (h : Row d e w B ok v xs) : ∀ k, v.ownBlock = some k → k < w.heap.size := by
  obtain ⟨rows, hl, hR, hf⟩ := h
  exact Kd.R_lt hR
theorem Row.base (h : Row d e w B ok v xs) : ∀ k, v.ownBlock = some k → B ≤ k := by
  obtain ⟨rows, hl, hR, hf⟩ := h
  exact Kd.R_base hR
theorem Row.ne (h : Row d e w B ok v xs) {g t : Nat} {cells : Array Value} (hb : w.heap[g]? = some (.cells cells t (0, 0))) (ht : e ≠ t) : some g ≠ v.ownBlock := by
  obtain ⟨rows, hl, hR, hf⟩ := h
  exact Kd.R_ne hR hb ht
theorem Row.below (h : Row d e w B ok v xs) (hb : Below w.heap.size w w1) : Row d e w1 B ok v xs := h.step (fun k _ hk => hb.block k hk) (fun k hk => hb.block k (h.lt k hk))
theorem Row.slice (h : Row d e w B ok v xs) : ∃ A c, v = .slice A xs.length c := by
  obtain ⟨rows, hl, hR, hf⟩ := h
  obtain ⟨A, c, he⟩ := Kd.R_slice hR
  exact ⟨A, c, by rw [he, hl]⟩
theorem Row.mono (h : Row d e w B ok v xs) (hok : ∀ k, ok k → ok' k) : Row d e w B ok' v xs := by
  obtain ⟨rows, hl, hR, hf⟩ := h
  exact ⟨rows, hl, hR, fun j x c hx hc => Kd.FK_mono (hf j x c hx hc) hok⟩
/-- As a row that shares. -/
theorem Row.toN (h : Row d e w B ok v xs) (h1 : ∀ k, ok k → ok' k ∧ some k ≠ v.ownBlock) (h2 : ∀ k, v.ownBlock = some k → ok' k) : Kd.N d e w B ok' v xs := by
  obtain ⟨rows, hl, hR, hf⟩ := h
  exact ⟨h2, rows, hl, hR, fun j x c hx hc => Kd.FK_mono (hf j x c hx hc) h1⟩
theorem Row.reads (h : Row d e w B ok v xs) (h1 : ∀ k, ok k → some k ≠ v.ownBlock) : ∃ A c, v = .slice A xs.length c ∧ xs.length ≤ c ∧ d.C w A xs.length xs :=
  Kd.N_reads (h.toN (ok' := fun _ => True) (fun k hk => ⟨trivial, h1 k hk⟩) (fun _ _ => trivial))
end
/-- One element's cells, in a block of their own. -/
theorem raw_one {w : World} {g sz e : Nat} {cs : List Value} (hb : w.heap[g]? = some (.cells cs.toArray e (0, 0))) (hl : cs.length = sz) (h1 : ∀ u ∈ cs, u.oneCell' = true) :
    ReadsRow (fun (x cs : List Value) => cs = x ∧ cs.length = sz ∧ ∀ u ∈ cs, u.oneCell' = true) sz w (some ⟨g, 0, none⟩) 1 [cs] := by
  refine ⟨rfl, by decide, fun _ => ⟨_, rfl, fun j p hj => ⟨cs, hl, ?_, fun i u hu => ?_⟩⟩⟩
  · cases j with
    | zero => simp at hj; subst hj; exact ⟨rfl, hl, h1⟩
    | succ j => simp at hj
  · cases j with
    | zero =>
      rw [Nat.zero_mul, Addr.add_lit, blk_cell hb]
      simpa using hu
    | succ j => simp at hj
theorem Row.appended {α : Type} {d : Kd α} {e B : Nat} {ok : Nat → Prop} {W w1 : World} {v v1 : Value} {xs : List α} {p : α} {cs : List Value} {rows : List (List Value)}
    (hl : rows.length = xs.length) (hf : ∀ (j : Nat) (x : α) (c : List Value), xs[j]? = some x → rows[j]? = some c → Kd.FK d W ok x c) (hp : Kd.FK d W ok p cs) (hne : ∀ k, ok k → k < W.heap.size → some k ≠ v.ownBlock) (hR : (Kd.raw d.sz).R e w1 B (fun _ => True) v1 (rows ++ [cs])) (hg : W.grownBy w1 v.ownBlock) : Row d e w1 B ok v1 (xs ++ [p]) := by
  refine ⟨rows ++ [cs], by simp [hl], Kd.raw_tight hR, fun j x c hx hc => ?_⟩
  have hst : ∀ k, ok k → k < W.heap.size → w1.heap[k]? = W.heap[k]? := fun k hk hlt => hg.block k hlt (hne k hk hlt)
  rcases Nat.lt_or_ge j xs.length with hlt | hge
  · rw [List.getElem?_append_left hlt] at hx
    rw [List.getElem?_append_left (by omega)] at hc
    exact Kd.FK_step (hf j x c hx hc) hst
  · rw [List.getElem?_append_right hge] at hx
    rw [List.getElem?_append_right (by omega), hl] at hc
    rcases hj : j - xs.length with _ | m
    · rw [hj] at hx hc
      simp at hx hc
      subst hx
      subst hc
      exact Kd.FK_step hp hst
    · rw [hj] at hx
      simp at hx
section
variable {P : Program} {ops : Array Oper} {rest : List Oper} {o : Oper} {a : Act} {Q : Exit → Act → World → Prop} {Kc : Act → World → Prop} {α : Type}
theorem Row.append_step (d : Kd α) {w0 W : World} (base : Nat) (hw : Region.wanted o (yielded ops a.tmps) = true) (s x : Operand) (t e : TypeId) (z : Value) (bytes : Nat)
    (ho : o.op = .call { callee := .builtin .append, args := #[s, x], argTypes := #[t, t] })
    (ht : P.underlying t = some (.slice e)) (hinfo : (P.info? e).map (fun i => (i.zero, i.size, i.bytes)) = some (some z, d.sz, bytes)) (hz : z.cells.size = d.sz) (hs0 : 0 < d.sz) (hb0 : 0 < bytes)
    (v : Value) (xs : List α) (p : α) (cs : List Value) (g : Nat) (ok : Nat → Prop) (hs : a.eval s = v) (hx : a.eval x = .slice (some ⟨g, 0, none⟩) 1 1) (hblk : W.heap[g]? = some (.cells cs.toArray e (0, 0)))
    (HO : Row d e W base ok v xs) (hp : Kd.FK d W ok p cs) (hne : ∀ k, ok k → k < W.heap.size → some k ≠ v.ownBlock) (HB : Below base w0 W) (hbase : base ≤ W.heap.size) (hl : (xs.length + 1) * bytes ≤ 140737488355328)
    (h : ∀ v1 w1, Row d e w1 base ok v1 (xs ++ [p]) → Below base w0 w1 → W.grownBy w1 v.ownBlock → (v1.ownBlock = v.ownBlock ∨ ∃ b, v1.ownBlock = some b ∧ W.heap.size ≤ b) → Kc (a.put o.dst v1) w1) :
    if Region.wanted o (yielded ops a.tmps) = true then Oper.wp P o a W Kc Q else Kc (a.put o.dst undef) W := by
  obtain ⟨rows, hlr, hR, hf⟩ := HO
  refine Kd.R_append_rows_step (Kd.raw d.sz) base hw s x t e z bytes ho ht hinfo hz hs0 hb0 v rows [cs] (some ⟨g, 0, none⟩) 1 1 (fun _ => True) (fun _ => False) hs hx (Kd.raw_any hR) (raw_one hblk (d.K_len (Kd.FK_now hp)) (d.K_one (Kd.FK_now hp))) (fun _ _ hk => hk) (fun _ hk => hk.elim) (fun _ _ => trivial) HB hbase (by rw [hlr]; exact hl) ?_
  intro v1 w1 hr hb hg hat
  exact h v1 w1 (Row.appended hlr hf hp hne hr hg) hb hg hat
theorem Row.append (d : Kd α) {w0 W : World} (base : Nat) (hgd : o.guard = none) (s x : Operand) (t e : TypeId) (z : Value) (bytes : Nat)
    (ho : o.op = .call { callee := .builtin .append, args := #[s, x], argTypes := #[t, t] })
    (ht : P.underlying t = some (.slice e)) (hinfo : (P.info? e).map (fun i => (i.zero, i.size, i.bytes)) = some (some z, d.sz, bytes)) (hz : z.cells.size = d.sz) (hs0 : 0 < d.sz) (hb0 : 0 < bytes)
    (v : Value) (xs : List α) (p : α) (cs : List Value) (g : Nat) (ok : Nat → Prop) (hs : a.eval s = v) (hx : a.eval x = .slice (some ⟨g, 0, none⟩) 1 1) (hblk : W.heap[g]? = some (.cells cs.toArray e (0, 0)))
    (HO : Row d e W base ok v xs) (hp : Kd.FK d W ok p cs) (hne : ∀ k, ok k → k < W.heap.size → some k ≠ v.ownBlock) (HB : Below base w0 W) (hbase : base ≤ W.heap.size) (hl : (xs.length + 1) * bytes ≤ 140737488355328)
    (h : ∀ v1 w1, Row d e w1 base ok v1 (xs ++ [p]) → Below base w0 w1 → W.grownBy w1 v.ownBlock → (v1.ownBlock = v.ownBlock ∨ ∃ b, v1.ownBlock = some b ∧ W.heap.size ≤ b) → wpList P ops Q rest (a.put o.dst v1) w1) :
    wpList P ops Q (o :: rest) a W := by
  obtain ⟨rows, hlr, hR, hf⟩ := HO
  refine Kd.R_append_rows (Kd.raw d.sz) base hgd s x t e z bytes ho ht hinfo hz hs0 hb0 v rows [cs] (some ⟨g, 0, none⟩) 1 1 (fun _ => True) (fun _ => False) hs hx (Kd.raw_any hR) (raw_one hblk (d.K_len (Kd.FK_now hp)) (d.K_one (Kd.FK_now hp))) (fun _ _ hk => hk) (fun _ hk => hk.elim) (fun _ _ => trivial) HB hbase (by rw [hlr]; exact hl) ?_
  intro v1 w1 hr hb hg hat
  exact h v1 w1 (Row.appended hlr hf hp hne hr hg) hb hg hat
end
theorem own_big {fs : List S37} (hg : Good fs) {k : Nat} (hk : fs.length < k) : intake_own.f k fs = some fs := by
  have := own_l0 fs hg fs.length k 0 (by omega) hk
  simpa [intake_own.f] using this
/-- Chunks that are not too great. -/
def GoodC (cs : List S55) : Prop := cs.length ≤ 1000 ∧ ∀ c ∈ cs, Good c.f1
theorem told_l0 (cs : List S55) (hg : GoodC cs) (a b c : Int) : ∀ (j k i : Nat), i + j = cs.length → j + 1001 < k → intake_sealed_told.l0 k cs (cs.length : Int) i a b c (cs.take i) = some (a, b, c, cs) := by
  intro j
  induction j with
  | zero =>
    intro k i hi hk
    obtain ⟨k, rfl⟩ : ∃ k', k = k' + 1 := ⟨k - 1, by omega⟩
    rw [intake_sealed_told.l0, if_neg (by omega), List.take_of_length_le (by omega)]
  | succ j ih =>
    intro k i hi hk
    obtain ⟨k, rfl⟩ : ∃ k', k = k' + 1 := ⟨k - 1, by omega⟩
    have hil : i < cs.length := by omega
    have e : rd_T55 cs (i : Int) = cs[i] := by
      unfold rd_T55
      rw [Int.toNat_natCast, List.getD_eq_getElem?_getD, List.getElem?_eq_getElem hil, Option.getD_some]
    have hb := hg.2 cs[i] (List.getElem_mem hil)
    have hg1 := hg.1
    rw [intake_sealed_told.l0, if_pos (by omega), if_pos (by omega), if_pos (by omega), e, own_big hb (by have := hb.1; omega)]
    simp only [Option.bind_some]
    rw [if_pos (by simp; omega), wrap64_in (by omega) (by omega)]
    have := ih k (i + 1) (by omega) (by omega)
    rw [List.take_succ_eq_append_getElem hil] at this
    exact this
theorem told_calls (n f t : Int) (A : Option Addr) (c : Nat) (cs : List S55) (m : Int) (w : World) (hC : Kd.C k55 w A cs.length cs) (hc : cs.length ≤ c) (hg : GoodC cs) :
    Calls Try.prog 23 #[.agg #[.int .i64 n, .int .u64 f, .int .u64 t, .slice A cs.length c, .int .i64 m]] w fun e w' => ∃ v : Value, e = .returned (.agg #[.int .i64 n, .int .u64 f, .int .u64 t, v]) ∧ Kd.R k55 55 w' w.heap.size (fun _ => True) v cs ∧ Below w.heap.size w w' :=
  intake_sealed_told.calls (cs.length + 1002) n f t A c cs m n f t cs w hC hc (by
    have := told_l0 cs hg n f t cs.length (cs.length + 1002) 0 (by omega) (by omega)
    simpa [intake_sealed_told.f] using this)
/-- A row of one element, in a block of its own. -/
theorem F_one {α : Type} {d : Kd α} {e g : Nat} {w : World} {ok : Nat → Prop} {y : α} {cs : List Value} (hb : w.heap[g]? = some (.cells cs.toArray e (0, 0))) (hK : Kd.FK d w ok y cs) : Kd.F d w (fun k => ok k ∨ k = g) (some ⟨g, 0, none⟩) 1 [y] := fun W hW => by
  have hl := blk_lt hb
  have hb' : W.heap[g]? = some (.cells cs.toArray e (0, 0)) := (hW g (.inr rfl) hl).trans hb
  have hK' : d.K W y cs := hK W (fun k hk hlt => hW k (.inl hk) hlt)
  refine ⟨rfl, by decide, fun _ => ⟨_, rfl, fun j p hj => ⟨cs, d.K_len hK', ?_, fun i u hu => ?_⟩⟩⟩
  · cases j with
    | zero => simp at hj; subst hj; exact hK'
    | succ j => simp at hj
  · cases j with
    | zero =>
      rw [Nat.zero_mul, Addr.add_lit, blk_cell hb']
      simpa using hu
    | succ j => simp at hj
/-- A row of facts, as a chunk's part. -/
theorem FK_chunk {w : World} {B : Nat} {ok okc : Nat → Prop} {v : Value} {fs : List S37} {s : S53} (h : Row k37 37 w B ok v fs) (h1 : ∀ k, ok k → okc k ∧ some k ≠ v.ownBlock) (h2 : ∀ k, v.ownBlock = some k → okc k) : Kd.FK k55 w okc ⟨s, fs⟩ [.int .i64 s.f0, .int .i64 s.f1, v] := fun W hW => by
  have h3 : Row k37 37 W B ok v fs := h.step (fun k hk hlt => hW k (h1 k hk).1 hlt) (fun k hk => hW k (h2 k hk) (h.lt k hk))
  obtain ⟨A, c, rfl, hl, hC⟩ := h3.reads (fun k hk => (h1 k hk).2)
  exact k55_mk W ⟨s, fs⟩ hl hC
/-- A batch's cells. -/
theorem FK_batch {w : World} {B : Nat} {ok okc : Nat → Prop} {v : Value} {cs : List S55} {a b c m : Int} (h : Row k55 55 w B ok v cs) (h1 : ∀ k, ok k → okc k ∧ some k ≠ v.ownBlock) (h2 : ∀ k, v.ownBlock = some k → okc k) : Kd.FK k70 w okc ⟨a, b, c, cs, m⟩ [.int .i64 a, .int .u64 b, .int .u64 c, v, .int .i64 m] := fun W hW => by
  have h3 : Row k55 55 W B ok v cs := h.step (fun k hk hlt => hW k (h1 k hk).1 hlt) (fun k hk => hW k (h2 k hk) (h.lt k hk))
  obtain ⟨A, c', rfl, hl, hC⟩ := h3.reads (fun k hk => (h1 k hk).2)
  exact ⟨[.int .i64 a], [.int .u64 b, .int .u64 c, .slice A cs.length c', .int .i64 m], rfl, rfl, [.int .u64 b], [.int .u64 c, .slice A cs.length c', .int .i64 m], rfl, rfl, [.int .u64 c], [.slice A cs.length c', .int .i64 m], rfl, rfl, [.slice A cs.length c'], [.int .i64 m], rfl, ⟨A, c', rfl, hl, hC⟩, rfl⟩
end Go.Proofs.Ytdlkhjfkhbeaaaa.QIn
