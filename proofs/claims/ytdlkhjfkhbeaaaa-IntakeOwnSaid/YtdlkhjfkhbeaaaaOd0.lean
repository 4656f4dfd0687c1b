/- IntakeOwn: rows of facts are the same as themselves; the shape of rows of facts; what its loops keep. -/
import Derived.Test.YtdlkhjfkhbeaaaaQInx2
import Derived.Test.YtdlkhjfkhbeaaaaQInx4
import Derived.Test.YtdlkhjfkhbeaaaaTd2
import Derived.Test.YtdlkhjfkhbeaaaaSk1
import Derived.Test.YtdlkhjfkhbeaaaaTk1
import Derived.Test.YtdlkhjfkhbeaaaaPt1
namespace Go.Proofs.Ytdlkhjfkhbeaaaa.QIn
open Go.RowKit Go.Maps Go.Proofs.YtdlkhjfkhbeaaaaW.PrintWords Go.Proofs.YtdlkhjfkhbeaaaaW.PrintLast Go.Proofs.YtdlkhjfkhbeaaaaW.PrintMore
/-! ### The same as itself -/
theorem less_self (x : List UInt8) : Op.bytesLess x x = false := by
  rw [Short.bytesLess_lt]
  simp [List.lt_irrefl]
theorem cmp_l1 (t : Int) (d : List ByteArray) (m : List Int) (hm : m.length ≤ 1000) : ∀ (n k i : Nat), i + n = m.length → 2 * n + 2 ≤ k → gristmillref04_Compare.l1 k (i : Int) t d m t d m = some 0 := by
  intro n
  induction n with
  | zero =>
    intro k i hi hk
    obtain ⟨k, rfl⟩ : ∃ k', k = k' + 1 + 1 := ⟨k - 2, by omega⟩
    rw [gristmillref04_Compare.l1, if_neg (by omega), decide_eq_false (by omega), gristmillref04_Compare.j3, if_neg (by simp)]
  | succ n ih =>
    intro k i hi hk
    obtain ⟨k, rfl⟩ : ∃ k', k = k' + 1 + 1 := ⟨k - 2, by omega⟩
    rw [gristmillref04_Compare.l1, if_pos (by omega), gristmillref04_Compare.j3, if_pos rfl, if_neg (by omega), if_neg (by omega), if_pos (by omega), if_pos (by omega), if_pos (by omega), if_neg (Int.lt_irrefl _), if_neg (Int.lt_irrefl _), wrap64_in (by omega) (by omega)]
    exact ih k (i + 1) (by omega) (by omega)
theorem cmp_l0 (t : Int) (d : List ByteArray) (m : List Int) (hd : d.length ≤ 1000) (hm : m.length ≤ 1000) : ∀ (n k i : Nat), i + n = d.length → 2 * n + 2 + (2 * m.length + 2) ≤ k → gristmillref04_Compare.l0 k (i : Int) t d m t d m = some 0 := by
  intro n
  induction n with
  | zero =>
    intro k i hi hk
    obtain ⟨k, rfl⟩ : ∃ k', k = k' + 1 + 1 := ⟨k - 2, by omega⟩
    rw [gristmillref04_Compare.l0, if_neg (by omega), decide_eq_false (by omega), gristmillref04_Compare.j1, if_neg (by simp)]
    exact cmp_l1 t d m hm m.length k 0 (by omega) (by omega)
  | succ n ih =>
    intro k i hi hk
    obtain ⟨k, rfl⟩ : ∃ k', k = k' + 1 + 1 := ⟨k - 2, by omega⟩
    rw [gristmillref04_Compare.l0, if_pos (by omega), gristmillref04_Compare.j1, if_pos rfl, if_neg (by omega), if_neg (by omega), if_pos (by omega), if_pos (by omega), if_pos (by omega), less_self, if_neg (by simp), if_neg (by simp), wrap64_in (by omega) (by omega)]
    exact ih k (i + 1) (by omega) (by omega)
theorem cmp_self (t : Int) (d : List ByteArray) (m : List Int) (hd : d.length ≤ 8) (hm : m.length ≤ 8) (k : Nat) (hk : 40 ≤ k) : gristmillref04_Compare.f k t d m t d m = some 0 := by
  unfold gristmillref04_Compare.f
  rw [if_neg (Int.lt_irrefl _), if_neg (Int.lt_irrefl _)]
  exact cmp_l0 t d m (by omega) (by omega) d.length k 0 (by omega) (by omega)
theorem same_l0 (fs : List S37) (hg : Good fs) : ∀ (n k i : Nat), i + n = fs.length → n + 41 ≤ k → gristmillref17_Same.l0 k fs fs (i : Int) = some true := by
  have h8 := hg.1
  intro n
  induction n with
  | zero =>
    intro k i hi hk
    obtain ⟨k, rfl⟩ : ∃ k', k = k' + 1 := ⟨k - 1, by omega⟩
    rw [gristmillref17_Same.l0, if_neg (by omega)]
  | succ n ih =>
    intro k i hi hk
    obtain ⟨k, rfl⟩ : ∃ k', k = k' + 1 := ⟨k - 1, by omega⟩
    have hil : i < fs.length := by omega
    have e : rd_T37 fs (i : Int) = fs[i] := by
      unfold rd_T37
      rw [Int.toNat_natCast, List.getD_eq_getElem?_getD, List.getElem?_eq_getElem hil, Option.getD_some]
    have hf := hg.2 fs[i] (List.getElem_mem hil)
    rw [gristmillref17_Same.l0, if_pos (by omega), if_pos (by omega), if_pos (by omega), e, cmp_self _ _ _ hf.1 hf.2 k (by omega)]
    simp only [Option.bind_some]
    rw [if_pos trivial, wrap64_in (by omega) (by omega)]
    exact ih k (i + 1) (by omega) (by omega)
theorem same_self (fs : List S37) (hg : Good fs) : gristmillref17_Same.f (fs.length + 41) fs fs = some true := by
  unfold gristmillref17_Same.f
  rw [if_pos rfl]
  exact same_l0 fs hg fs.length _ 0 (by omega) (by omega)
theorem same_calls (A0 A1 : Option Addr) (c0 c1 : Nat) (fs : List S37) (w : World) (hr0 : Kd.C k37 w A0 fs.length fs) (hc0 : fs.length ≤ c0) (hr1 : Kd.C k37 w A1 fs.length fs) (hc1 : fs.length ≤ c1) (hg : Good fs) :
    Calls Try.prog 16 #[.slice A0 fs.length c0, .slice A1 fs.length c1] w fun e w' => e = .returned (.bool true) ∧ Below w.heap.size w w' :=
  gristmillref17_Same.calls _ A0 c0 fs A1 c1 fs true w hr0 hc0 hr1 hc1 (same_self fs hg)
theorem rown_calls (t : Int) (A1 A2 : Option Addr) (c1 c2 : Nat) (l1 : List ByteArray) (l2 : List Int) (w : World) (h1 : Kd.C Kd.string w A1 l1.length l1) (k1 : l1.length ≤ c1) (h2 : Kd.C (Kd.int .i64) w A2 l2.length l2) (k2 : l2.length ≤ c2) (b1 : l1.length ≤ 1000) (b2 : l2.length ≤ 1000) :
    Calls Try.prog 15 #[.agg #[.int .i64 t, .slice A1 l1.length c1, .slice A2 l2.length c2]] w fun e w' => ∃ v1 v2 : Value, e = .returned (.agg #[.int .i64 t, v1, v2]) ∧ Kd.R Kd.string 9 w' w.heap.size (fun _ => True) v1 l1 ∧ Kd.R (Kd.int .i64) 2 w' w.heap.size (fun _ => True) v2 l2 ∧ Below w.heap.size w w' :=
  gristmillref17_Own.calls t A1 c1 l1 A2 c2 l2 t l1 l2 w h1 k1 h2 k2 (by
    unfold gristmillref17_Own.f
    rw [if_pos (by simp; omega), if_pos (by simp; omega)]
    simp)
/-! ### The shape of a row of facts: each has two texts and a number in blocks of their own kinds -/
def Shp (w : World) (Q : Nat → Prop) (g a n : Nat) : Prop :=
  Q g ∧ ∃ cells : Array Value, w.heap[g]? = some (.cells cells 37 (0, 0)) ∧ ∀ j, a ≤ j → j < n → ∃ (t : Int) (d m c1 c2 : Nat) (ds ms : Array Value), cells[j * 3]? = some (.int .i64 t) ∧ cells[j * 3 + 1]? = some (.slice (some ⟨d, 0, none⟩) 2 c1) ∧ cells[j * 3 + 2]? = some (.slice (some ⟨m, 0, none⟩) 1 c2) ∧
    Q d ∧ w.heap[d]? = some (.cells ds 9 (0, 0)) ∧ 2 ≤ ds.size ∧ Q m ∧ w.heap[m]? = some (.cells ms 2 (0, 0)) ∧ 1 ≤ ms.size
section
variable {w w1 : World} {Q Q' : Nat → Prop} {g a n : Nat}
theorem Shp.step (h : Shp w Q g a n) (h1 : ∀ k, Q k → k < w.heap.size → w1.heap[k]? = w.heap[k]?) : Shp w1 Q g a n := by
  obtain ⟨q, cells, hb, hj⟩ := h
  refine ⟨q, cells, (h1 g q (blk_lt hb)).trans hb, fun j h2 h3 => ?_⟩
  obtain ⟨t, d, m, c1, c2, ds, ms, e0, e1, e2, qd, bd, sd, qm, bm, sm⟩ := hj j h2 h3
  exact ⟨t, d, m, c1, c2, ds, ms, e0, e1, e2, qd, (h1 d qd (blk_lt bd)).trans bd, sd, qm, (h1 m qm (blk_lt bm)).trans bm, sm⟩
theorem Shp.below (h : Shp w Q g a n) (hb : Below w.heap.size w w1) : Shp w1 Q g a n := h.step (fun k _ hk => hb.block k hk)
theorem Shp.imp (h : Shp w Q g a n) (hq : ∀ k, Q k → Q' k) : Shp w Q' g a n := by
  obtain ⟨q, cells, hb, hj⟩ := h
  refine ⟨hq _ q, cells, hb, fun j h2 h3 => ?_⟩
  obtain ⟨t, d, m, c1, c2, ds, ms, e0, e1, e2, qd, bd, sd, qm, bm, sm⟩ := hj j h2 h3
  exact ⟨t, d, m, c1, c2, ds, ms, e0, e1, e2, hq _ qd, bd, sd, hq _ qm, bm, sm⟩
theorem Shp.next (h : Shp w Q g a n) : Shp w Q g (a + 1) n := by
  obtain ⟨q, cells, hb, hj⟩ := h
  exact ⟨q, cells, hb, fun j h2 h3 => hj j (by omega) h3⟩
theorem blk_any {b i : Nat} {t : TypeId} {cs : Array Value} (h : w.heap[b]? = some (.cells cs t (0, 0))) (b' : Nat) (u : Value) : ∃ cs', (w.setCell ⟨b', i, none⟩ u).heap[b]? = some (.cells cs' t (0, 0)) ∧ cs'.size = cs.size := by
  by_cases e : b = b'
  · subst e
    exact ⟨_, blk_set h i u, by simp⟩
  · exact ⟨cs, blk_far h (p := ⟨b', i, none⟩) e u, rfl⟩
theorem Shp.set (h : Shp w Q g a n) {b i : Nat} (hb : b ≠ g) (u : Value) : Shp (w.setCell ⟨b, i, none⟩ u) Q g a n := by
  obtain ⟨q, cells, hg, hj⟩ := h
  refine ⟨q, cells, blk_far hg (p := ⟨b, i, none⟩) (fun e => hb e.symm) u, fun j h2 h3 => ?_⟩
  obtain ⟨t, d, m, c1, c2, ds, ms, e0, e1, e2, qd, bd, sd, qm, bm, sm⟩ := hj j h2 h3
  obtain ⟨ds', bd', sd'⟩ := blk_any (i := i) bd b u
  obtain ⟨ms', bm', sm'⟩ := blk_any (i := i) bm b u
  exact ⟨t, d, m, c1, c2, ds', ms', e0, e1, e2, qd, bd', by omega, qm, bm', by omega⟩
theorem Shp.store (h : Shp w Q g a n) {o : Nat} (ho : o < (a + 1) * 3) (u : Value) : Shp (w.setCell ⟨g, o, none⟩ u) Q g (a + 1) n := by
  obtain ⟨q, cells, hg, hj⟩ := h
  refine ⟨q, _, blk_set hg o u, fun j h2 h3 => ?_⟩
  obtain ⟨t, d, m, c1, c2, ds, ms, e0, e1, e2, qd, bd, sd, qm, bm, sm⟩ := hj j (by omega) h3
  have hne : ∀ k, j * 3 ≤ k → (cells.setIfInBounds o u)[k]? = cells[k]? := fun k hk => by
    rw [Array.getElem?_setIfInBounds, if_neg (by omega)]
  have nd : d ≠ g := blk_ne bd hg (by decide)
  have nm : m ≠ g := blk_ne bm hg (by decide)
  exact ⟨t, d, m, c1, c2, ds, ms, (hne _ (Nat.le_refl _)).trans e0, (hne _ (by omega)).trans e1, (hne _ (by omega)).trans e2, qd, blk_far bd (p := ⟨g, o, none⟩) nd u, sd, qm, blk_far bm (p := ⟨g, o, none⟩) nm u, sm⟩
/-- What an element's cells and rows say. -/
theorem Shp.at_ (h : Shp w Q g a n) {j : Nat} (h0 : a ≤ j) (h1 : j < n) : ∃ (t : Int) (d m c1 c2 : Nat) (s0 s1 m0 : Value), w.cell? ⟨g, j * 3, none⟩ = some (.int .i64 t) ∧ w.cell? ⟨g, j * 3 + 1, none⟩ = some (.slice (some ⟨d, 0, none⟩) 2 c1) ∧ w.cell? ⟨g, j * 3 + 2, none⟩ = some (.slice (some ⟨m, 0, none⟩) 1 c2) ∧
    w.cell? ⟨d, 0, none⟩ = some s0 ∧ w.cell? ⟨d, 1, none⟩ = some s1 ∧ w.cell? ⟨m, 0, none⟩ = some m0 ∧ Q d ∧ Q m ∧ d ≠ g ∧ m ≠ g ∧ d ≠ m ∧ d < w.heap.size ∧ m < w.heap.size ∧ g < w.heap.size ∧ (∀ i, w.frozen? ⟨g, i, none⟩ = false) ∧ (∀ i, w.frozen? ⟨d, i, none⟩ = false) ∧ (∀ i, w.frozen? ⟨m, i, none⟩ = false) ∧ (∃ ds, w.heap[d]? = some (.cells ds 9 (0, 0))) := by
  obtain ⟨q, cells, hg, hj⟩ := h
  obtain ⟨t, d, m, c1, c2, ds, ms, e0, e1, e2, qd, bd, sd, qm, bm, sm⟩ := hj j h0 h1
  exact ⟨t, d, m, c1, c2, ds[0], ds[1], ms[0], (blk_cell hg _).trans e0, (blk_cell hg _).trans e1, (blk_cell hg _).trans e2, (blk_cell bd 0).trans (Array.getElem?_eq_getElem _), (blk_cell bd 1).trans (Array.getElem?_eq_getElem _), (blk_cell bm 0).trans (Array.getElem?_eq_getElem _), qd, qm,
    blk_ne bd hg (by decide), blk_ne bm hg (by decide), blk_ne bd bm (by decide), blk_lt bd, blk_lt bm, blk_lt hg, blk_frozen hg, blk_frozen bd, blk_frozen bm, _, bd⟩
/-- Facts of two texts and a number. -/
def F21 (fs : List S37) : Prop := ∀ f ∈ fs, f.f1.length = 2 ∧ f.f2.length = 1
theorem shp_of {base c : Nat} {ok : Nat → Prop} {fs : List S37} (h : k37.R 37 w base ok (.slice (some ⟨g, 0, none⟩) fs.length c) fs) (hf : F21 fs) : Shp w (fun k => ok k ∧ base ≤ k) g 0 fs.length := by
  have hq : ok g ∧ base ≤ g := ⟨h.1 g (by simp [Value.ownBlock]), Kd.R_base h g (by simp [Value.ownBlock])⟩
  obtain ⟨cells, hg⟩ := Kd.R_typed h g (by simp [Value.ownBlock])
  refine ⟨hq, cells, hg, fun j _ hj => ?_⟩
  obtain ⟨cs, _, hM, hcc, _⟩ := Kd.R_elem h z37 (j : Int) (by omega) (by omega)
  have e : fs.getD (j : Int).toNat z37 = fs[j] := by rw [Int.toNat_natCast, List.getD_eq_getElem?_getD, List.getElem?_eq_getElem hj, Option.getD_some]
  rw [e] at hM
  have hl := hf fs[j] (List.getElem_mem hj)
  generalize fs[j] = f at hM hl
  obtain ⟨v1, v2, rfl, r1, r2⟩ := k37_openM hM
  obtain ⟨d, cd, rfl, bd, ld, ds, hd⟩ := Kd.R_form r1 (by omega)
  obtain ⟨m, cm, rfl, bm, lm, ms, hm⟩ := Kd.R_form r2 (by omega)
  have qd := (r1.1 d (by simp [Value.ownBlock])).1
  have qm := (r2.1 m (by simp [Value.ownBlock])).1
  rw [Int.toNat_natCast] at hcc
  have k0 := hcc 0 _ rfl
  have k1 := hcc 1 _ rfl
  have k2 := hcc 2 _ rfl
  rw [blk_cell hg] at k0 k1 k2
  obtain ⟨_, _, C1⟩ := Kd.R_reads' r1
  obtain ⟨_, _, C2⟩ := Kd.R_reads' r2
  obtain ⟨ad, ea, x1⟩ := Kd.at_string C1 1 (by decide) (by omega)
  obtain ⟨ad2, ea2, x2⟩ := Kd.at_int C2 0 (by decide) (by omega)
  obtain rfl : (⟨d, 0, none⟩ : Addr) = ad := Option.some.inj ea
  obtain rfl : (⟨m, 0, none⟩ : Addr) = ad2 := Option.some.inj ea2
  rw [add_plain, blk_cell hd] at x1
  rw [add_plain, blk_cell hm] at x2
  have s1 := (Array.getElem?_eq_some_iff.1 x1).1
  have s2 := (Array.getElem?_eq_some_iff.1 x2).1
  rw [hl.1] at k1
  rw [hl.2] at k2
  exact ⟨f.f0, d, m, cd, cm, ds, ms, k0, k1, k2, ⟨qd, bd⟩, hd, s1, ⟨qm, bm⟩, hm, s2⟩
end
end Go.Proofs.Ytdlkhjfkhbeaaaa.QIn
