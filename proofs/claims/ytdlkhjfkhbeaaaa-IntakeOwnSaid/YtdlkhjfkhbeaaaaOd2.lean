/- IntakeOwn: what its two rounds keep. -/
import Derived.Test.YtdlkhjfkhbeaaaaOd1
namespace Go.Proofs.Ytdlkhjfkhbeaaaa.QIn
open Go.RowKit Go.Maps Go.Proofs.YtdlkhjfkhbeaaaaW.PrintWords Go.Proofs.YtdlkhjfkhbeaaaaW.PrintLast Go.Proofs.YtdlkhjfkhbeaaaaW.PrintMore
def BG (fs : List S37) (bs : List S70) : Prop := ∀ b ∈ bs, b.f3.length ≤ 1000 ∧ ∀ c ∈ b.f3, c.f1.length ≤ fs.length ∧ ∀ f ∈ c.f1, f ∈ fs
theorem BG.good {fs : List S37} {bs : List S70} (h : BG fs bs) (hf : FG fs) (hl : bs.length ≤ 1) : GoodB bs :=
  ⟨by omega, fun b hb => ⟨(h b hb).1, fun c hc => ⟨by have := ((h b hb).2 c hc).1; have := hf.1; omega, fun f hm => by have := hf.2.1 f (((h b hb).2 c hc).2 f hm); omega⟩⟩⟩
theorem BG.f21 {fs : List S37} {bs : List S70} (h : BG fs bs) (hf : FG fs) {b : S70} (hb : b ∈ bs) {c : S55} (hc : c ∈ b.f3) : F21 c.f1 := fun f hm => hf.2.1 f (((h b hb).2 c hc).2 f hm)
/-- Ahead of a round, and behind each of its calls. -/
structure RN (w w' : World) (base x : Nat) (fs : List S37) (vf vw : Value) : Prop where mk ::
  out : ∃ op vb bs last, IN w' base x 2 1 5 (fs.length + 1) vf fs op vb bs last ∧ 0 ≤ op ∧ op ≤ fs.length ∧ (op = 0 ∨ vb = .slice none 0 0 ∧ bs = [] ∧ last = 0) ∧ bs.length ≤ 1 ∧ 0 ≤ last ∧ last ≤ 1 ∧ BG fs bs
  hw : Kd.R k37 37 w' base (fun k => k ≠ x) vw fs
  hB : Below w.heap.size w w'
  bw : w.heap.size ≤ base
  F : FG fs
  sz : base ≤ w'.heap.size
section
variable {w w1 w2 : World} {base x : Nat} {fs : List S37} {vf vw : Value}
theorem RN.below (h : RN w w1 base x fs vf vw) (hb : Below w1.heap.size w1 w2) : RN w w2 base x fs vf vw := by
  obtain ⟨op, vb, bs, last, hI, r⟩ := h.out
  exact ⟨⟨op, vb, bs, last, hI.below hb, r⟩, Kd.R_below h.hw hb, h.hB.trans (hb.mono h.hB.size), h.bw, h.F, Nat.le_trans h.sz hb.size⟩
theorem OW.rn (h : OW w w1 base x fs vf vw) : RN w w1 base x fs vf vw :=
  ⟨⟨fs.length, _, _, _, h.I, by omega, Int.le_refl _, .inr ⟨rfl, rfl, rfl⟩, by simp, Int.le_refl _, by omega, fun b hb => by simp at hb⟩, Kd.R_mono h.hw (fun k hk => hk.1), h.hB, h.bw, h.F, h.I.szd⟩
theorem RN.behind (h : RN w w1 base x fs vf vw) :
    Calls Try.prog 12 #[.pointer (some ⟨x, 0, none⟩), .int .u64 0] w1 fun e w' => ∃ v, e = .returned (.tuple #[v, .int .u64 ((fs.length : Int) + 1 - 1), .int .i64 0]) ∧ Kd.S k37 37 w' w1.heap.size (fun _ => True) v fs ∧ Below w1.heap.size w1 w' := by
  obtain ⟨op, vb, bs, last, hI, r⟩ := h.out
  have hl := h.F.1
  have e : fs.drop (fs.length - ((fs.length : Int) + 1 - 1 - 0).toNat) = fs := by
    rw [show fs.length - ((fs.length : Int) + 1 - 1 - 0).toNat = 0 by omega, List.drop_zero]
  have := behind_calls hI 0 (by omega) (by omega) (by omega) (by omega) (by omega) h.F.good
  rw [e] at this
  exact this
theorem chks_in {chunk : Int} {L : List S37} {K : List Int} {c : S55} (h : c ∈ chks chunk L K) : c.f1.length ≤ L.length ∧ ∀ f ∈ c.f1, f ∈ L := by
  obtain ⟨k, _, rfl⟩ := List.mem_map.1 h
  exact ⟨List.length_filter_le _ _, fun f hf => (List.mem_filter.1 hf).1⟩
theorem RN.seals_up (h : RN w w1 base x fs vf vw) : Calls Try.prog 11 #[.pointer (some ⟨x, 0, none⟩)] w1 fun e w' => ∃ a b : Value, e = .returned (.tuple #[a, b]) ∧ RN w w' base x fs vf vw := by
  obtain ⟨op, vb, bs, last, hI, o0, o1, ho, bl, l0, l1, bg⟩ := h.out
  have hl := h.F.1
  by_cases h0 : op = 0
  · subst h0
    refine (seal_none hI).mono ?_
    rintro e w' ⟨rfl, hb⟩
    exact ⟨_, _, rfl, h.below hb⟩
  · rcases ho with ho | ⟨rfl, rfl, rfl⟩
    · exact absurd ho h0
    · obtain ⟨p, rfl⟩ : ∃ p : Nat, op = p := ⟨op.toNat, by omega⟩
      refine (seal_keep hI p rfl (fs.length - p) (by omega) (by omega) (by omega) (by omega) (by decide) (by decide) (fun f hf => ⟨(h.F.2.2 f hf).1, by have := (h.F.2.2 f hf).2; omega⟩) h.F.good (by decide) (by decide) (by simp)).mono ?_
      rintro e w' ⟨⟨v, vb', K, rfl, hKp, hKm, _, hI', hb⟩, hK⟩
      have hkl := keys_len hKp hKm
      have hdl : (fs.drop (fs.length - p)).length ≤ fs.length := by simp
      refine ⟨_, _, rfl, ⟨0, vb', _, _, hI', Int.le_refl _, by omega, .inl rfl, by simp, by omega, by omega, fun b hb' => ?_⟩, ?_, h.hB.trans (hb.mono h.bw), h.bw, h.F, Nat.le_trans h.sz hb.size⟩
      · have : b = ⟨0 + 1, (fs.length : Int) + 1 - 1 - (p : Int), (fs.length : Int) + 1 - 1, chks 5 (fs.drop (fs.length - p)) K, p⟩ := by simpa using hb'
        subst this
        refine ⟨by show (chks 5 _ K).length ≤ 1000; rw [chks_len]; omega, fun c hc => ?_⟩
        have := chks_in (c := c) hc
        exact ⟨by omega, fun f hf => List.mem_of_mem_drop (this.2 f hf)⟩
      · exact Kd.R_mono (Kd.R_step (Kd.R_bound h.hw) (w1 := w') (fun k hk hlt => hK.2 k hlt hk.1 (by simp [Value.ownBlock]))) (fun k hk => hk.1)
theorem RN.batches (h : RN w w1 base x fs vf vw) : Calls Try.prog 14 #[.pointer (some ⟨x, 0, none⟩)] w1 fun e w' => ∃ v bs, e = .returned v ∧ bs.length ≤ 1 ∧ BG fs bs ∧ Kd.R k41S 41 w' w1.heap.size (fun _ => True) v (bs.map tld) ∧ Below w1.heap.size w1 w' := by
  obtain ⟨op, vb, bs, last, hI, o0, o1, ho, bl, l0, l1, bg⟩ := h.out
  refine (batches_S hI (bg.good h.F bl)).mono ?_
  rintro e w' ⟨v, rfl, hR, hb⟩
  exact ⟨v, bs, rfl, bl, bg, hR, hb⟩
/-- A row that is answered: its shape, where it has elements. -/
theorem rowed {base : Nat} {ok : Nat → Prop} {v : Value} {fs : List S37} (h : k37.R 37 w base ok v fs) (hf : F21 fs) : ∃ (A : Option Addr) (c g : Nat), v = .slice A fs.length c ∧ fs.length ≤ c ∧ Kd.C k37 w A fs.length fs ∧ (0 < fs.length → A = some ⟨g, 0, none⟩ ∧ Shp w (fun k => ok k ∧ base ≤ k) g 0 fs.length) := by
  obtain ⟨A, c, rfl, hl, hC⟩ := Kd.R_reads h
  by_cases h0 : 0 < fs.length
  · obtain ⟨g, cap, hv, _⟩ := Kd.R_form h h0
    injection hv with e1 e2 e3
    subst e1
    exact ⟨_, c, g, rfl, hl, hC, fun _ => ⟨rfl, shp_of h hf⟩⟩
  · exact ⟨A, c, 0, rfl, hl, hC, fun h1 => absurd h1 h0⟩
/-- What the loops over a batch's chunks leave: blocks that f gives to chunks ahead of k may have been written, but gv and gb. -/
structure KF (f : Nat → Nat) (gv gb k B : Nat) (w7 w' : World) : Prop where mk ::
  b : Below B w7 w'
  s : ∀ i, i < w7.heap.size → (f i < k → i = gv ∨ i = gb) → w'.heap[i]? = w7.heap[i]?
  z : w7.heap.size ≤ w'.heap.size
variable {f : Nat → Nat} {gv gb k B : Nat} {w7 w' : World}
theorem KF.next (h : KF f gv gb k B w7 w') : KF f gv gb (k + 1) B w7 w' := ⟨h.b, fun i hi hf => h.s i hi (fun h1 => hf (by omega)), h.z⟩
theorem KF.put (h : KF f gv gb k B w7 w') {b i : Nat} (hB : B ≤ b) (h1 : f b < k) (h2 : b ≠ gv) (h3 : b ≠ gb) (u : Value) : KF f gv gb k B w7 (w'.setCell ⟨b, i, none⟩ u) :=
  ⟨h.b.setCell (p := ⟨b, i, none⟩) hB u, fun j hj hf => (Below.heap_setCell w' ⟨b, i, none⟩ u j (fun e => by
    have e : j = b := e
    subst e
    rcases hf h1 with e | e
    · exact h2 e
    · exact h3 e)).trans (h.s j hj hf), by simpa [World.setCell] using h.z⟩
theorem KF.alloc (h : KF f gv gb k B w7 w') (hB : B ≤ w7.heap.size) (o : Obj) : KF f gv gb k B w7 (w'.alloc o) :=
  ⟨h.b.alloc (Nat.le_trans hB h.z) o, fun i hi hf => (Below.heap_alloc w' o i (Nat.lt_of_lt_of_le hi h.z)).trans (h.s i hi hf), Nat.le_trans h.z (by simp)⟩
/-- Chunk k of a batch that was told, as it is behind the loops over those ahead of it. -/
theorem KF.chunk (h : KF f gv gb k B w7 w') {ok : Nat → Prop} {n c : Nat} {cs : List S55} (hS : (Kd.tag f k55).R 55 w7 B ok (.slice (some ⟨gv, 0, none⟩) n c) cs.zipIdx) (hg : ∀ i, ok i → i ≠ gb) (hk : k < cs.length) (hf : F21 (cs[k]).f1) :
    ∃ (t0 t1 : Int) (A : Option Addr) (cc g : Nat), w'.cell? ⟨gv, k * 3, none⟩ = some (.int .i64 t0) ∧ w'.cell? ⟨gv, k * 3 + 1, none⟩ = some (.int .i64 t1) ∧ w'.cell? ⟨gv, k * 3 + 2, none⟩ = some (.slice A (cs[k]).f1.length cc) ∧ (cs[k]).f1.length ≤ cc ∧
      (0 < (cs[k]).f1.length → A = some ⟨g, 0, none⟩ ∧ Shp w' (fun i => (f i = k ∧ i ≠ gv ∧ i ≠ gb) ∧ B ≤ i) g 0 (cs[k]).f1.length) := by
  have hn := (Kd.R_reads' hS).1
  rw [List.length_zipIdx] at hn
  obtain ⟨cells, hM, hcc⟩ : ∃ cells, k55.M w7 B (fun i => (ok i ∧ i ≠ gv) ∧ f i = k) cs[k] cells ∧ ∀ j u, cells[j]? = some u → w7.cell? ⟨gv, k * 3 + j, none⟩ = some u := by
    obtain ⟨cells, _, hM, hcc, _⟩ := Kd.R_elem hS ((⟨⟨0, 0⟩, []⟩ : S55), 0) (k : Int) (by omega) (by omega)
    have e : cs.zipIdx.getD (k : Int).toNat ((⟨⟨0, 0⟩, []⟩ : S55), 0) = (cs[k], k) := by
      rw [Int.toNat_natCast, List.getD_eq_getElem?_getD, Kd.zip_at (List.getElem?_eq_getElem hk), Option.getD_some]
    rw [e] at hM
    rw [Int.toNat_natCast] at hcc
    exact ⟨cells, hM, hcc⟩
  obtain ⟨v2, rfl, hR⟩ := k55_openM hM
  have hgv : w'.heap[gv]? = w7.heap[gv]? := h.s gv (Kd.R_lt hS gv (by simp [Value.ownBlock])) (fun _ => .inl rfl)
  have hcell : ∀ j, w'.cell? ⟨gv, j, none⟩ = w7.cell? ⟨gv, j, none⟩ := fun j => World.cell?_of_block (w := w7) hgv
  have hR' := Kd.R_step (Kd.R_mono (ok' := fun i => f i = k ∧ i ≠ gv ∧ i ≠ gb) hR (fun i hi => ⟨hi.2, hi.1.2, hg i hi.1.1⟩)) (w1 := w') (fun i hi hlt => h.s i hlt (fun h1 => by have := hi.1; omega))
  obtain ⟨A, cc, g, rfl, hl, _, hs⟩ := rowed hR' hf
  exact ⟨_, _, A, cc, g, (hcell _).trans (hcc 0 _ rfl), (hcell _).trans (hcc 1 _ rfl), (hcell _).trans (hcc 2 _ rfl), hl, hs⟩
/-- A store ahead of what is told. -/
theorem Shp.store0 {Q : Nat → Prop} {g a n : Nat} (h : Shp w Q g a n) {o : Nat} (ho : o < a * 3) (u : Value) : Shp (w.setCell ⟨g, o, none⟩ u) Q g a n := by
  rcases a with _ | a
  · omega
  · obtain ⟨q, cells, hg, hj⟩ := h
    refine ⟨q, _, blk_set hg o u, fun j h2 h3 => ?_⟩
    obtain ⟨t, d, m, c1, c2, ds, ms, e0, e1, e2, qd, bd, sd, qm, bm, sm⟩ := hj j h2 h3
    have hne : ∀ k, j * 3 ≤ k → (cells.setIfInBounds o u)[k]? = cells[k]? := fun k hk => by
      rw [Array.getElem?_setIfInBounds, if_neg (by omega)]
    have nd : d ≠ g := blk_ne bd hg (by decide)
    have nm : m ≠ g := blk_ne bm hg (by decide)
    exact ⟨t, d, m, c1, c2, ds, ms, (hne _ (Nat.le_refl _)).trans e0, (hne _ (by omega)).trans e1, (hne _ (by omega)).trans e2, qd, blk_far bd (p := ⟨g, o, none⟩) nd u, sd, qm, blk_far bm (p := ⟨g, o, none⟩) nm u, sm⟩
/-- The first batch that is told: its chunks. -/
theorem batch0 {B n c : Nat} {bs : List S70} (h : Kd.R k41S 41 w B (fun _ => True) (.slice (some ⟨gb, 0, none⟩) n c) (bs.map tld)) (hb : 0 < bs.length) : ∃ (f : Nat → Nat) (A3 : Option Addr) (c3 gv : Nat), w.cell? ⟨gb, 3, none⟩ = some (.slice A3 (bs[0]).f3.length c3) ∧ (bs[0]).f3.length ≤ c3 ∧
    (0 < (bs[0]).f3.length → A3 = some ⟨gv, 0, none⟩ ∧ (Kd.tag f k55).R 55 w B (fun k => k ≠ gb) (.slice (some ⟨gv, 0, none⟩) (bs[0]).f3.length c3) (bs[0]).f3.zipIdx) := by
  have hn := (Kd.R_reads' h).1
  rw [List.length_map] at hn
  obtain ⟨cs, _, hM, hcc, _⟩ := Kd.R_elem h z41 (0 : Int) (by decide) (by omega)
  have e : (bs.map tld).getD (0 : Int).toNat z41 = tld bs[0] := by
    rw [show (0 : Int).toNat = 0 from rfl, List.getD_eq_getElem?_getD, List.getElem?_map, List.getElem?_eq_getElem hb]
    rfl
  rw [e] at hM
  obtain ⟨v3, rfl, hS⟩ := k41S_open hM
  have k3 := hcc 3 _ rfl
  rw [show (0 : Int).toNat * k41S.sz + 3 = 3 from by simp] at k3
  have hS' : k55.S 55 w B (fun k => k ≠ gb) v3 (bs[0]).f3 := Kd.S_mono hS (fun k hk => hk.2)
  obtain ⟨A3, c3, rfl, hl, _⟩ := Kd.S_reads hS'
  by_cases h0 : 0 < (bs[0]).f3.length
  · obtain ⟨g, cap, hv, _⟩ := Kd.S_form hS' h0
    injection hv with e1 e2 e3
    subst e1
    obtain ⟨f, hR⟩ := hS'
    exact ⟨f, _, c3, g, k3, hl, fun _ => ⟨rfl, hR⟩⟩
  · exact ⟨fun _ => 0, A3, c3, 0, k3, hl, fun h1 => absurd h1 h0⟩
end
end Go.Proofs.Ytdlkhjfkhbeaaaa.QIn
