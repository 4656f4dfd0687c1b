/- Contracts of a disk whose files are empty: an operation is counted, a file is appended to by nothing. -/
import Derived.Test.YtadonahmamopbaaDk1
import Derived.Test.YtadonahmamopbaaIter
import Derived.Maps.OwnSet
import Derived.Maps.Views
namespace Go.Proofs.Ytadonahmamopbaa.QDk
open Go.RowKit Go.Maps Go.Proofs.YtadonahmamopbaaW.PrintWords Go.Proofs.YtadonahmamopbaaW.PrintLast Go.Proofs.YtadonahmamopbaaW.PrintMore
attribute [local go_sem ↓] Go.wp_at_zero Go.wp_at_succ
theorem fn16 (w : World) : Calls Try.prog 16 #[] w fun e w' => e = .returned (.tuple #[]) ∧ w' = w := by
  go_enter Try.func16, Try.ntmps16
  go_wp2
  go_end0
  exact ⟨rfl, rfl⟩
set_option maxHeartbeats 1000000 in
theorem done16 {w : World} {d mb : Nat} {ops : Int} (hd : w.heap[d]? = some (dk mb false ops (-1) 0)) (h0 : 0 ≤ ops) (h1 : ops ≤ 100000) :
    Calls Try.prog 15 #[.pointer (some ⟨d, 0, none⟩), .func (.func 16) #[] #[]] w fun e w' => e = .returned (.int .i64 0) ∧ ∃ q, w' = (w.setCell ⟨d, 2, none⟩ (.int .i64 (ops + 1))).drewN q := by
  have c2 : w.cell? ⟨d, 2, none⟩ = some (.int .i64 ops) := (blk_cell hd 2).trans rfl
  have f2 := blk_frozen hd 2
  have hw : wrap64 (ops + 1) = ops + 1 := wrap_in (by omega) (by omega)
  go_enter Try.func15, Try.ntmps15
  go_wp2
  have hd' : (w.setCell ⟨d, 2, none⟩ (.int .i64 (ops + 1))).heap[d]? = some (dk mb false (ops + 1) (-1) 0) := blk_put hd 2 _ rfl
  generalize hW : w.setCell ⟨d, 2, none⟩ (.int .i64 (ops + 1)) = W at hd' ⊢
  have d2 : W.cell? ⟨d, 2, none⟩ = some (.int .i64 (ops + 1)) := (blk_cell hd' 2).trans rfl
  have d3 : W.cell? ⟨d, 3, none⟩ = some (.int .i64 (-1)) := (blk_cell hd' 3).trans rfl
  have hw2 : wrap64 (ops + 1 - 1) = ops := by rw [wrap_in (by omega) (by omega)]; omega
  have hne : (ops == -1) = false := by simp; omega
  go_region
  go_wp2_with (first | (go_at_call 16; refine (fn16 _).mono ?_; rintro e w1 ⟨rfl, rfl⟩))
  go_ret
  exact ⟨rfl, 1, by rw [hW]; rfl⟩
/-- A file's pointer, read as its block's number. -/
def pr (v : Value) : Option (DataW Unit × List MemPlace) :=
  match v with
  | .pointer none => some (.nil, [])
  | .pointer (some ⟨g, 0, none⟩) => some (.lit (.int .i64 g), [])
  | _ => none
theorem pr_nil {v : Value} {ps : List MemPlace} (h : pr v = some (.nil, ps)) : v = .pointer none := by
  unfold pr at h
  split at h
  · rfl
  · cases h
  · cases h
theorem pr_ptr {v : Value} {g : Nat} {ps : List MemPlace} (h : pr v = some (.lit (.int .i64 g), ps)) : v = .pointer (some ⟨g, 0, none⟩) := by
  unfold pr at h
  split at h
  · cases h
  · simp at h
    obtain ⟨h, _⟩ := h
    have := Int.ofNat.inj h
    subst this
    rfl
  · cases h
/-- An empty file. -/
def fl : Obj := .cells #[.slice none 0 0, .int .i64 0] 43 (0, 0)
/-- The disk in memory: its map, its files, each of them empty. -/
structure DL (w : World) (base d mb : Nat) (ops : Int) (n : Nat) (D : DataW Unit) : Prop where
  hd : w.heap[d]? = some (dk mb false ops (-1) 0)
  own : w.ownsMap Try.prog 9 pr mb n D
  at_ : ∀ kl, D.atKey kl .nil = .nil ∨ ∃ g : Nat, D.atKey kl .nil = .lit (.int .i64 g) ∧ w.heap[g]? = some fl ∧ base ≤ g
  bd : base ≤ d
  bm : base ≤ mb
  o0 : 0 ≤ ops
  o1 : ops ≤ n
theorem DL.ne {w : World} {base d mb : Nat} {ops : Int} {n : Nat} {D : DataW Unit} (h : DL w base d mb ops n D) : mb ≠ d := by
  intro e
  obtain ⟨es, clock, hb, _⟩ := h.own
  have := h.hd
  rw [← e, hb] at this
  cases this
theorem ky : Keyed Try.prog 9 := string_keyed (by kernel_rfl)
theorem hz37 (w : World) : (zeroValue 41).run Try.prog w = .ok (.pointer none) w := by kernel_rfl
theorem hk9 {s : ByteArray} (hs : s.size ≤ maxLen) : keyOf Try.prog 9 (.string s) = some (.string s.data.toList) := by
  rw [keyOf_string (show Try.prog.underlying 9 = some .string by kernel_rfl)]
  unfold mapKey
  rw [show Try.prog.underlying 9 = some .string by kernel_rfl]
  simp [hs]
theorem new_calls (w : World) : Calls Try.prog 5 #[] w fun e w' => ∃ d mb, e = .returned (.pointer (some ⟨d, 0, none⟩)) ∧ DL w' w.heap.size d mb 0 0 (.map []) ∧ Below w.heap.size w w' := by
  have hmm := @run_makeMap Try.prog
  go_enter Try.func5, Try.ntmps5
  go_wp2
  go_ret
  refine ⟨w.heap.size + 1, w.heap.size, rfl, ⟨?_, ?_, fun kl => .inl rfl, by omega, Nat.le_refl _, by decide, by decide⟩, ((Below.refl _ w).alloc (Nat.le_refl _) _).alloc (by simp) _⟩
  · have := blk_new (w.alloc (.map #[] 0)) (.cells #[.map (some w.heap.size), .bool false, .int .i64 0, .int .i64 (-1), .int .i64 0] 39 (0, 0))
    simpa [dk] using this
  · exact (World.ownsMap_made w Try.prog 9 pr).alloc _
/-- What a call on the disk leaves as it was: all blocks but the disk's and its map's. -/
def Fr (w w' : World) (d mb : Nat) : Prop := ∀ k, k < w.heap.size → k ≠ d → k ≠ mb → w'.heap[k]? = w.heap[k]?
theorem set_same {w : World} {g : Nat} {cs : Array Value} {t : TypeId} {z : Nat × Nat} (h : w.heap[g]? = some (.cells cs t z)) {i : Nat} {v : Value} (hv : cs[i]? = some v) : w.setCell ⟨g, i, none⟩ v = w := by
  have e : (w.setCell ⟨g, i, none⟩ v).heap = w.heap := by
    apply Array.ext_getElem?
    intro k
    show (w.heap.modify g _)[k]? = _
    rw [Array.getElem?_modify]
    split
    · rename_i hk
      subst hk
      rw [h]
      have hi : i < cs.size := (Array.getElem?_eq_some_iff.1 hv).1
      have : cs.setIfInBounds i v = cs := by
        apply Array.ext_getElem?
        intro j
        rw [Array.getElem?_setIfInBounds]
        split
        · rename_i hj
          subst hj
          exact hv.symm
        · rfl
      simp [this]
    · rfl
  cases w
  simp [World.setCell] at e ⊢
  exact e
theorem DL.szd {w : World} {base d mb : Nat} {ops : Int} {n : Nat} {D : DataW Unit} (h : DL w base d mb ops n D) : base ≤ w.heap.size := Nat.le_trans h.bd (Nat.le_of_lt (blk_lt h.hd))
/-- An operation counted, behind something new in memory. -/
theorem DL.step {w W : World} {base d mb : Nat} {ops : Int} {n : Nat} {D : DataW Unit} (h : DL w base d mb ops n D) (o : Obj) (m q : Nat) (hW : W = (((w.alloc o).drewN m).setCell ⟨d, 2, none⟩ (.int .i64 (ops + 1))).drewN q) :
    DL W base d mb (ops + 1) (n + 1) D ∧ Fr w W d mb ∧ Below base w W := by
  subst hW
  refine ⟨⟨?_, ?_, ?_, h.bd, h.bm, by have := h.o0; omega, by have := h.o1; omega⟩, ?_, ?_⟩
  · exact blk_put (w := (w.alloc o).drewN m) (blk_alloc h.hd o) 2 _ rfl
  · have : ((w.alloc o).drewN m).ownsMap Try.prog 9 pr mb n D := h.own.alloc o
    have := (this.setCell (a := ⟨d, 2, none⟩) h.ne (.int .i64 (ops + 1))).mono (Nat.le_succ n)
    exact this
  · intro kl
    rcases h.at_ kl with h0 | ⟨g, h1, h2, h3⟩
    · exact .inl h0
    · refine .inr ⟨g, h1, ?_, h3⟩
      have hne : g ≠ d := by
        intro e
        have := h.hd
        rw [← e, h2] at this
        simp [fl, dk] at this
      exact blk_far (w := (w.alloc o).drewN m) (blk_alloc h2 o) hne _
  · intro k hk hkd _
    exact (Below.heap_setCell ((w.alloc o).drewN m) ⟨d, 2, none⟩ _ k hkd).trans (Below.heap_alloc w o k hk)
  · exact pw_below_drewN ((pw_below_drewN ((Below.refl base w).alloc h.szd o) m).setCell h.bd _) q
set_option maxHeartbeats 2000000 in
theorem append_old {w : World} {base d mb : Nat} {ops : Int} {n : Nat} {D : DataW Unit} {s : ByteArray} {g : Nat} (h : DL w base d mb ops n D) (hn : n ≤ 100) (hs : s.size ≤ maxLen) (hm : nm s = true)
    (hg : D.atKey (.string s.data.toList) .nil = .lit (.int .i64 g)) (hf : w.heap[g]? = some fl) :
    Calls Try.prog 6 #[.pointer (some ⟨d, 0, none⟩), .string s, .slice none 0 0] w fun e w' => e = .returned (.int .i64 0) ∧ DL w' base d mb (ops + 1) (n + 1) D ∧ Fr w w' d mb ∧ Below base w w' := by
  have hd := h.hd
  have c1 : (w.alloc (.cells #[.string s] 9)).cell? ⟨w.heap.size, 0, none⟩ = some (.string s) := (blk_cell (blk_new w _) 0).trans rfl
  have hd1 := blk_alloc hd (.cells #[.string s] 9)
  have hf1 := blk_alloc hf (.cells #[.string s] 9)
  have own1 := h.own.alloc (.cells #[.string s] 9)
  have d0 : (w.alloc (.cells #[.string s] 9)).cell? ⟨d, 0, none⟩ = some (.map (some mb)) := (blk_cell hd1 0).trans rfl
  have hlk : ∀ q, (Instr.lookup 37 (.map (some mb)) (.string s) false).run Try.prog ((w.alloc (.cells #[.string s] 9)).drewN q) = .ok (.pointer (some ⟨g, 0, none⟩)) ((w.alloc (.cells #[.string s] 9)).drewN q) := fun q => by
    have own2 : ((w.alloc (.cells #[.string s] 9)).drewN q).ownsMap Try.prog 9 pr mb n D := own1
    obtain ⟨v, ps, hlk, hv⟩ := own2.lookup ky (show Try.prog.underlying 37 = some (.map 9 41) by kernel_rfl) (hz37 _) (zd := .nil) (zp := []) rfl (hk9 hs)
    rw [hg] at hv
    obtain rfl := pr_ptr hv
    exact hlk
  have g0 : (w.alloc (.cells #[.string s] 9)).cell? ⟨g, 0, none⟩ = some (.slice none 0 0) := (blk_cell hf1 0).trans rfl
  have z0 := blk_frozen hf1 0
  go_enter Try.func6, Try.ntmps6
  go_wp2_with (first
    | (go_at_call 14; refine (refused_new (mb := mb) hs hd1 c1).mono ?_; rintro e w1 ⟨rfl, m, rfl⟩; rw [hm]; have hlk' := hlk m)
    | (go_at_call 15; rw [show (((w.alloc (.cells #[.string s] 9)).drewN _).setCell ⟨g, 0, none⟩ (.slice none 0 0)) = (w.alloc (.cells #[.string s] 9)).drewN _ from set_same (w := (w.alloc (.cells #[.string s] 9)).drewN _) hf1 rfl]; refine (done16 (mb := mb) (ops := ops) (w := (w.alloc (.cells #[.string s] 9)).drewN _) hd1 h.o0 (by have := h.o1; omega)).mono ?_; rintro e w2 ⟨rfl, q2, rfl⟩))
  go_ret
  obtain ⟨p1, p2, p3⟩ := h.step (.cells #[.string s] 9) m q2 rfl
  exact ⟨rfl, p1, p2, p3⟩
theorem append_bad {w : World} {base d mb : Nat} {ops : Int} {n : Nat} {D : DataW Unit} {s : ByteArray} (h : DL w base d mb ops n D) (hs : s.size ≤ maxLen) (hm : nm s = false) :
    Calls Try.prog 6 #[.pointer (some ⟨d, 0, none⟩), .string s, .slice none 0 0] w fun e w' => e = .returned (.int .i64 1) ∧ DL w' base d mb ops n D ∧ Fr w w' d mb ∧ Below base w w' := by
  have hd := h.hd
  have c1 : (w.alloc (.cells #[.string s] 9)).cell? ⟨w.heap.size, 0, none⟩ = some (.string s) := (blk_cell (blk_new w _) 0).trans rfl
  have hd1 := blk_alloc hd (.cells #[.string s] 9)
  go_enter Try.func6, Try.ntmps6
  go_wp2_with (first
    | (go_at_call 14; refine (refused_new (mb := mb) hs hd1 c1).mono ?_; rintro e w1 ⟨rfl, m, rfl⟩; rw [hm]))
  go_ret
  refine ⟨rfl, ⟨hd1, h.own.alloc _, fun kl => ?_, h.bd, h.bm, h.o0, h.o1⟩, fun k hk _ _ => Below.heap_alloc w _ k hk, pw_below_drewN ((Below.refl base w).alloc h.szd _) m⟩
  rcases h.at_ kl with h0 | ⟨g, h1, h2, h3⟩
  · exact .inl h0
  · exact .inr ⟨g, h1, blk_alloc h2 _, h3⟩
theorem own_below {w w' : World} {mb n : Nat} {D : DataW Unit} (h : w.ownsMap Try.prog 9 pr mb n D) (hb : Below w.heap.size w w') : w'.ownsMap Try.prog 9 pr mb n D := by
  have hl := h.lt
  obtain ⟨es, clock, e, r⟩ := h
  exact ⟨es, clock, (hb.block mb hl).trans e, r⟩
set_option maxHeartbeats 2000000 in
theorem append_fresh {w : World} {base d mb : Nat} {ops : Int} {n : Nat} {D : DataW Unit} {s : ByteArray} (h : DL w base d mb ops n D) (hn : n ≤ 100) (hs : s.size ≤ maxLen) (hm : nm s = true)
    (hg : D.atKey (.string s.data.toList) .nil = .nil) :
    Calls Try.prog 6 #[.pointer (some ⟨d, 0, none⟩), .string s, .slice none 0 0] w fun e w' => ∃ g : Nat, e = .returned (.int .i64 0) ∧ DL w' base d mb (ops + 1) (n + 1) (D.put (.string s.data.toList) (.lit (.int .i64 g))) ∧ Fr w w' d mb ∧ Below base w w' := by
  have hd := h.hd
  have hsz := h.own.size_le
  have c1 : (w.alloc (.cells #[.string s] 9)).cell? ⟨w.heap.size, 0, none⟩ = some (.string s) := (blk_cell (blk_new w _) 0).trans rfl
  have hd1 := blk_alloc hd (.cells #[.string s] 9)
  have own1 := h.own.alloc (.cells #[.string s] 9)
  have d0 : (w.alloc (.cells #[.string s] 9)).cell? ⟨d, 0, none⟩ = some (.map (some mb)) := (blk_cell hd1 0).trans rfl
  have hlk : ∀ q, (Instr.lookup 37 (.map (some mb)) (.string s) false).run Try.prog ((w.alloc (.cells #[.string s] 9)).drewN q) = .ok (.pointer none) ((w.alloc (.cells #[.string s] 9)).drewN q) := fun q => by
    have own2 : ((w.alloc (.cells #[.string s] 9)).drewN q).ownsMap Try.prog 9 pr mb n D := own1
    obtain ⟨v, ps, hlk, hv⟩ := own2.lookup ky (show Try.prog.underlying 37 = some (.map 9 41) by kernel_rfl) (hz37 _) (zd := .nil) (zp := []) rfl (hk9 hs)
    rw [hg] at hv
    obtain rfl := pr_nil hv
    exact hlk
  have hln : ∀ q, (Builtin.len_ #[37] 3 #[.map (some mb)]).run Try.prog ((w.alloc (.cells #[.string s] 9)).drewN q) = .ok (.int .i64 (Maps.size D)) ((w.alloc (.cells #[.string s] 9)).drewN q) := fun q => by
    have own2 : ((w.alloc (.cells #[.string s] 9)).drewN q).ownsMap Try.prog 9 pr mb n D := own1
    exact own2.len (show Try.prog.underlying 37 = some (.map 9 41) by kernel_rfl) 3
  have hmx : n < maxLen := by
    have : maxLen = 9223372036854775807 := by decide
    omega
  have hlm := h.own.lt
  have hdm : some d ≠ some mb := fun e => h.ne (Option.some.inj e).symm
  have hlt : decide ((Maps.size D : Int) ≥ 1000) = false := decide_eq_false (by omega)
  go_enter Try.func6, Try.ntmps6
  go_wp2_with (first
    | (go_at_call 14; refine (refused_new (mb := mb) hs hd1 c1).mono ?_; rintro e w1 ⟨rfl, m, rfl⟩; rw [hm]; have hlk' := hlk m; have hln' := hln m)
    | ((with_reducible refine gate_dst (N := 31) rfl ?_); refine box_event rfl (N := 31) rfl (cs := #[.slice none 0 0, .int .i64 0]) (t := 43) (by first | (go_simp; done) | (go_simp; rfl)) ?_; intro g hge w2 BKg HB2; have hgs : w.heap.size < g := (by rw [hge]; simp); clear hge; have BKd2 := blk_below (w := (w.alloc (.cells #[.string s] 9)).drewN _) hd1 HB2; have own2 := own_below (w := (w.alloc (.cells #[.string s] 9)).drewN _) own1 HB2; have e0 : w2.cell? ⟨d, 0, none⟩ = some (.map (some mb)) := (blk_cell BKd2 0).trans rfl)
    | (at_mapUpdate; refine wpList_mapUpdate_own _ rfl _ _ _ 37 rfl 9 41 ky (by kernel_rfl) pr mb n D rfl own2 hmx _ _ (.string s.data.toList) rfl rfl (hk9 hs) (.lit (.int .i64 g)) [] rfl ?_; intro w3 own3 hgr3; have BKd3 := blk_grown BKd2 hgr3 hdm; have BKg3 := blk_grown BKg hgr3 (fun e => absurd (Option.some.inj e) (by omega)); have g3 : w3.cell? ⟨g, 0, none⟩ = some (.slice none 0 0) := (blk_cell BKg3 0).trans rfl; have z3 := blk_frozen BKg3 0)
    | (go_at_call 15; rw [set_same (w := w3) BKg3 rfl]; refine (done16 (mb := mb) (ops := ops) (w := w3) BKd3 h.o0 (by have := h.o1; omega)).mono ?_; rintro e w4 ⟨rfl, q2, rfl⟩))
  go_ret
  have hmd : mb ≠ d := h.ne
  refine ⟨g, rfl, ⟨?_, ?_, ?_, h.bd, h.bm, by have := h.o0; omega, by have := h.o1; omega⟩, ?_, ?_⟩
  · exact blk_put (w := w3) BKd3 2 _ rfl
  · exact own3.setCell (a := ⟨d, 2, none⟩) hmd (.int .i64 (ops + 1))
  · intro kl
    have hgd : g ≠ d := fun e => by have := blk_lt hd; omega
    by_cases hk : kl = .string s.data.toList
    · subst hk
      refine .inr ⟨g, atKey_put_same h.own.isMap (k := .string s.data.toList) trivial _ _, blk_far (w := w3) BKg3 hgd _, ?_⟩
      have := h.szd
      omega
    · rw [atKey_put_other hk]
      rcases h.at_ kl with h0 | ⟨g', h1, h2, h3⟩
      · exact .inl h0
      · have hne : g' ≠ d := by
          intro e
          have := hd
          rw [← e, h2] at this
          simp [fl, dk] at this
        have hnm : some g' ≠ some mb := by
          intro e
          obtain rfl := Option.some.inj e
          obtain ⟨es, clock, hb, _⟩ := h.own
          rw [hb] at h2
          simp [fl] at h2
        exact .inr ⟨g', h1, blk_far (w := w3) (blk_grown (blk_below (w := (w.alloc (.cells #[.string s] 9)).drewN m) (blk_alloc h2 _) HB2) hgr3 hnm) hne _, h3⟩
  · intro k hk hkd hkm
    have e1 := Below.heap_alloc w (.cells #[.string s] 9) k hk
    have e2 := HB2.block k (show k < (w.alloc (.cells #[.string s] 9)).heap.size by simp; omega)
    have hk2 : k < w2.heap.size := by have := HB2.size; simp at this; omega
    have e3 := hgr3.block k hk2 (fun e => hkm (Option.some.inj e))
    exact (Below.heap_setCell w3 ⟨d, 2, none⟩ _ k hkd).trans (e3.trans (e2.trans e1))
  · have b1 : Below base w ((w.alloc (.cells #[.string s] 9)).drewN m) := pw_below_drewN ((Below.refl base w).alloc h.szd _) m
    have hs1 : base ≤ ((w.alloc (.cells #[.string s] 9)).drewN m).heap.size := by have := h.szd; simp; omega
    have b2 : Below base w w2 := b1.trans (HB2.mono hs1)
    have hs2 : base ≤ w2.heap.size := Nat.le_trans hs1 HB2.size
    have b3 : Below base w w3 := b2.grown hgr3 hs2 (fun k e => by have := Option.some.inj e; have := h.bm; omega)
    exact pw_below_drewN (b3.setCell h.bd _) q2
end Go.Proofs.Ytadonahmamopbaa.QDk
