/- The contract of Cut at a disk that holds one file. -/
import Derived.Test.YtadonahmamopbaaDk6
import Derived.Maps.RangeWalk
namespace Go.Proofs.Ytadonahmamopbaa.QDk
open Go.RowKit Go.Maps Go.Proofs.YtadonahmamopbaaW.PrintWords Go.Proofs.YtadonahmamopbaaW.PrintLast Go.Proofs.YtadonahmamopbaaW.PrintMore Go.Sort Go.Lib Go.Shelf
attribute [local go_sem ↓] Go.wp_at_zero Go.wp_at_succ
theorem inv_key (key : Value) (kl : Lit) (h : keyOf Try.prog 9 key = some kl) : ∃ x, key = Value.string x := by
  cases key <;> simp [keyOf, show Try.prog.underlying 9 = some .string by kernel_rfl, mapKey] at h
  exact ⟨_, rfl⟩
theorem inv_val (v : Value) (y : DataW Unit × List MemPlace) (h : pr v = some y) : ∃ c, v = Value.pointer c := by
  unfold pr at h
  split at h
  · exact ⟨_, rfl⟩
  · exact ⟨_, rfl⟩
  · cases h
theorem Dg_has {g : Nat} {kl : Lit} (h : Maps.has (Dg g) kl = true) : kl = .string [97] := by
  rcases Classical.em (kl = .string [97]) with e | e
  · exact e
  · have : Maps.has (Dg g) kl = Maps.has (.map [] : DataW Unit) kl := has_put_other e _
    rw [this] at h
    simp [Maps.has] at h
theorem Dg_size (g : Nat) : Maps.size (Dg g) = 1 := by
  rfl
theorem grown_set (w : World) (a : Addr) (u : Value) : w.grownBy (w.setCell a u) (some a.block) :=
  ⟨rfl, rfl, rfl, by simp [World.setCell], fun k _ hne => Below.heap_setCell w a u k (fun e => hne (congrArg some e))⟩
set_option maxHeartbeats 4000000 in
theorem cut_calls {w : World} {base d mb g r : Nat} {ops : Int} {c : Nat} (h : AS w base d mb g r false ops 2 c [120, 121, 122]) :
    Calls Try.prog 24 #[.pointer (some ⟨d, 0, none⟩), .int .i64 0] w fun e w' => e = .returned (.tuple #[]) ∧ AS w' base d mb g r true ops 2 2 [120, 121] ∧ Below base w w' ∧ Rw w w' := by
  have d0 : w.cell? ⟨d, 0, none⟩ = some (.map (some mb)) := (blk_cell h.hd 0).trans rfl
  have A := Lib.hid h
  clear h
  go_enter Try.func24, Try.ntmps24
  go_wp2_with (at_range; refine wpList_range_own _ rfl _ 37 rfl 9 41 ky (by kernel_rfl) pr mb 1 (Dg g) rfl A.out.own ?_; intro w0 hrg0 hg0 hs0)
  go_frame
  refine wp_loop_rounds 2 ?_
  rw [rounds_succ]
  go_wp2_with (at_next; refine wpList_next_ranges _ rfl _ rfl 9 ky pr Value.string Value.pointer inv_key inv_val mb w.heap.size 1 (Dg g) _ _ rfl hrg0 ?_ ?_)
  · intro hc
    rw [Dg_size] at hc
    cases hc
  · intro x c1 kl y1 y2 w1 cnt1 hkey hlk hy hat hrg1 hlt hg1 hs1 hen
    obtain rfl := Dg_has hlk
    have hat0 := hat .nil
    rw [show (Dg g).atKey (.string [97]) .nil = .lit (.int .i64 g) from Dg_at g] at hat0
    obtain rfl : DataW.lit (.int .i64 g) = y1 := hat0
    obtain hc := pr_ptr hy
    injection hc with hc
    subst hc
    have hgl := blk_lt A.out.hg
    have hdl := blk_lt A.out.hd
    obtain ⟨n1, n2, n3, n4, n5, n6⟩ := A.out.ne
    obtain ⟨cur, r1, r2, r3, r4, r5⟩ := A.out.row
    have hrl := blk_lt r1
    have h0' := A.out.below (w1 := w1)
    have G1 := blk_grown (blk_grown A.out.hg hg0 (fun e => by cases e)) hg1 (fun e => by have := Option.some.inj e; omega)
    have D1 := blk_grown (blk_grown A.out.hd hg0 (fun e => by cases e)) hg1 (fun e => by have := Option.some.inj e; omega)
    have R1 := blk_grown (blk_grown r1 hg0 (fun e => by cases e)) hg1 (fun e => by have := Option.some.inj e; omega)
    have k0 : w1.cell? ⟨g, 0, none⟩ = some (.slice (some ⟨r, 0, none⟩) 3 c) := (blk_cell G1 0).trans rfl
    have k1 : w1.cell? ⟨g, 1, none⟩ = some (.int .i64 2) := (blk_cell G1 1).trans rfl
    have z0 := blk_frozen G1 0
    have z1 := blk_frozen G1 1
    have HD := Lib.hid hlt
    have HC : 3 ≤ c := r2
    have HC2 : 2 ≤ c := by omega
    clear hlt h0' hlk hy hkey hs0 hs1 hat
    go_wp2
    go_region
    go_wp2
    rw [show (2 + min 0 1 : Int) = 2 from rfl, set_same G1 rfl]
    go_region
    go_wp2
    have hrg2 := hrg1.kept (grown_set w1 ⟨g, 0, none⟩ (.slice (some ⟨r, 0, none⟩) 2 2)) (fun e => n2 (Option.some.inj e).symm) (fun e => by have e : w.heap.size = g := Option.some.inj e; omega)
    have hrg3 : ((w1.setCell ⟨g, 0, none⟩ (.slice (some ⟨r, 0, none⟩) 2 2)).drew.drew).ranges Try.prog 9 pr mb w.heap.size 1 (Dg g) (fun z => has (Dg g) z && !z.sameKey (Lit.string [97])) cnt1 := hrg2
    rw [rounds_succ]
    go_wp2_with (at_next; refine wpList_next_ranges _ rfl _ rfl 9 ky pr Value.string Value.pointer inv_key inv_val mb w.heap.size 1 (Dg g) _ _ rfl hrg3 ?_ ?_)
    · intro _ _
      have G2 : (w1.setCell ⟨g, 0, none⟩ (.slice (some ⟨r, 0, none⟩) 2 2)).heap[g]? = some (.cells #[.slice (some ⟨r, 0, none⟩) 2 2, .int .i64 2] 43 (0, 0)) := blk_put G1 0 _ rfl
      have D2 := blk_far D1 (p := ⟨g, 0, none⟩) n4 (.slice (some ⟨r, 0, none⟩) 2 2)
      have R2 := blk_far R1 (p := ⟨g, 0, none⟩) (fun e => n6 e.symm) (.slice (some ⟨r, 0, none⟩) 2 2)
      have O2 := hrg2.owns
      have hB2 : Below base w (w1.setCell ⟨g, 0, none⟩ (.slice (some ⟨r, 0, none⟩) 2 2)) := (((Below.refl base w).grown hg0 A.out.szd (fun k e => by cases e)).grown hg1 (by have := A.out.szd; have := hg0.size; omega) (fun k e => by have e : w.heap.size = k := Option.some.inj e; have := A.out.szd; omega)).setCell A.out.bg _
      have hRw : Rw w (w1.setCell ⟨g, 0, none⟩ (.slice (some ⟨r, 0, none⟩) 2 2)) := fun k cur' hk => by
        have h1 := blk_grown (blk_grown hk hg0 (fun e => by cases e)) hg1 (fun e => by have e : k = w.heap.size := Option.some.inj e; have := blk_lt hk; omega)
        exact blk_far h1 (p := ⟨g, 0, none⟩) (blk_ne h1 G1 (by decide)) _
      generalize w1.setCell ⟨g, 0, none⟩ (.slice (some ⟨r, 0, none⟩) 2 2) = w2 at G2 D2 R2 O2 hB2 hRw ⊢
      have y1 : w2.cell? ⟨d, 1, none⟩ = some (.bool false) := (blk_cell D2 1).trans rfl
      have zd := blk_frozen D2 1
      clear hen k0 k1 z0 z1 G1 D1 R1 d0
      go_wp2
      go_end0
      refine ⟨rfl, ⟨blk_put (w := w2) D2 1 _ rfl, O2.setCell (a := ⟨d, 1, none⟩) (fun e => n1 e.symm) _, blk_far (w := w2) G2 (p := ⟨d, 1, none⟩) (fun e => n4 e.symm) _, ⟨cur, blk_far (w := w2) R2 (p := ⟨d, 1, none⟩) (fun e => n5 e.symm) _, by decide, by omega, by omega, ?_⟩, A.out.bd, A.out.bm, A.out.bg, A.out.br, A.out.o0, A.out.o1⟩, ?_, ?_⟩
      · have := congrArg (List.take 2) r5
        rw [List.take_take] at this
        exact this
      · exact pw_below_drewN (hB2.setCell A.out.bd _) 2
      · exact fun k cur' hk => blk_far (w := w2) (hRw k cur' hk) (p := ⟨d, 1, none⟩) (blk_ne (hRw k cur' hk) D2 (by decide)) _
    · intro x2 c2 kl2 z1 z2 w3 cnt3 hkey2 hlk2 hlk3
      have e := Dg_has hlk2
      subst e
      exact absurd hlk3 (by simp [Lit.sameKey])
theorem cut1_calls {w : World} {base d mb g r : Nat} {ops : Int} {c : Nat} (h : AS w base d mb g r false ops 2 c [120, 121, 122]) :
    Calls Try.prog 11 #[.pointer (some ⟨d, 0, none⟩), .int .i64 0] w fun e w' => e = .returned (.tuple #[]) ∧ AS w' base d mb g r true ops 2 2 [120, 121] ∧ Below base w w' ∧ Rw w w' := by
  have d1 : w.cell? ⟨d, 1, none⟩ = some (.bool false) := (blk_cell h.hd 1).trans rfl
  have A := Lib.hid h
  clear h
  go_enter Try.func11, Try.ntmps11
  go_wp2_with (first | (go_at_call 24; refine (cut_calls A.out).mono ?_; rintro e w1 ⟨rfl, h1, hb1, hr1⟩))
  go_end0
  exact ⟨rfl, h1, hb1, hr1⟩
theorem DL.below {w w1 : World} {base d mb : Nat} {ops : Int} {n : Nat} {D : DataW Unit} (h : DL w base d mb ops n D) (hb : Below w.heap.size w w1) : DL w1 base d mb ops n D :=
  ⟨blk_below h.hd hb, own_below h.own hb, fun kl => by
    rcases h.at_ kl with h0 | ⟨g, a, b, c⟩
    · exact .inl h0
    · exact .inr ⟨g, a, blk_below b hb, c⟩, h.bd, h.bm, h.o0, h.o1⟩
theorem new_cells (w : World) (C : Array Value) (e : TypeId) (z : Nat × Nat) (j : Nat) (u : Value) (h : C.toList[j]? = some u) : (w.alloc (.cells C e z)).cell? ((⟨w.heap.size, 0, none⟩ : Addr).add j) = some u := by
  rw [Addr.add_lit, Nat.zero_add, cell_of_row _ _ j C e z (blk_new w _)]
  simpa using h
theorem ow_alloc {w : World} {r c : Nat} (h : Ow w r c) (o : Obj) : Ow (w.alloc o) r c := by
  obtain ⟨cur, h1, h2⟩ := h
  exact ⟨cur, blk_alloc h1 o, h2⟩
set_option maxRecDepth 100000 in
set_option maxHeartbeats 8000000 in
/-- awake: the document's first examples. -/
theorem awake_calls (w : World) : Calls Try.prog 4 #[] w fun e w' => e = .returned (.bool true) ∧ Below w.heap.size w w' := by
  have kc := fun (w : World) (C : Array Value) (n c : Nat) => Lib.run_convert_bytes_const (P := Try.prog) w 31 5 C n c Try.underlying31 Try.underlying5
  have tok1 : True := trivial
  have tok2 : True := trivial
  have tok3 : True := trivial
  go_enter Try.func4, Try.ntmps4
  go_wp2_with (first
    | (go_at_call 5; refine (new_calls _).mono ?_; rintro e w1 ⟨d, mb, rfl, hDL, hb1⟩)
    | (go_at_call 6; have _t := tok1; refine (append_first (ys := [120, 121]) (hDL.below ((Below.refl _ _).alloc (Nat.le_refl _) _)) (fun j u hj => new_cells _ _ _ _ j u hj) (by decide) (by decide)).mono ?_; rintro e w2 ⟨g, r, c, rfl, h2, ho2, hb2⟩; have B2 := Lib.hid (hb1.trans (((Below.refl _ _).alloc hb1.size _).trans hb2)); clear tok1; clear hb2 hb1 hDL)
    | (go_at_call 9; refine (sync_calls h2 (by decide)).mono ?_; rintro e w3 ⟨rfl, h3, hb3, hk3⟩; have B3 := Lib.hid (B2.out.trans hb3); have ho3 : Ow w3 r c := (by obtain ⟨cur, q1, q2⟩ := ho2; exact ⟨cur, (hk3 r (blk_lt q1) (blk_ne q1 h2.hd (by decide)) (blk_ne q1 h2.hg (by decide))).trans q1, q2⟩); clear hb3 B2 h2 hk3 ho2)
    | (go_at_call 6; refine (append_old_b (ys := [122]) (h3.below ((Below.refl _ _).alloc (Nat.le_refl _) _)) (by decide) ((h3.below ((Below.refl _ _).alloc (Nat.le_refl _) _)).owns (ow_alloc ho3 _)) (fun j u hj => new_cells _ _ _ _ j u hj) (by decide) (by decide)).mono ?_; rintro e w4 ⟨r4, c4, rfl, h4, hb4⟩; have B4 := Lib.hid (B3.out.trans (((Below.refl _ _).alloc h3.szd _).trans hb4)); clear hb4 B3 h3 ho3)
    | (go_at_call 10; have _t := tok2; refine (read_calls h4 (by decide) (by decide)).mono ?_; rintro e w5 ⟨v, rfl, hv, hb5⟩; have B5 := Lib.hid (B4.out.trans (hb5.mono h4.szd)); have h5 : AS w5 w.heap.size d mb g r4 false 3 2 c4 [120, 121, 122] := h4.below hb5; clear tok2 B4 h4 hb5)
    | (go_at_call 11; refine (cut1_calls h5).mono ?_; rintro e w6 ⟨rfl, h6, hb6, hr6⟩; have B6 := Lib.hid (B5.out.trans hb6); have hv6 := hv.move hr6; clear hb6 B5 h5 hv hr6)
    | (go_at_call 10; have _t := tok3; refine (read_off h6).mono ?_; rintro e w7 ⟨rfl, hb7⟩; have B7 := Lib.hid (B6.out.trans (hb7.mono h6.szd)); have h7 := h6.below hb7; have hv7 := hv6.move (Rw.of_below hb7); clear tok3 hb7 h6 B6 hv6)
    | (go_at_call 12; refine (on_calls h7).mono ?_; rintro e w8 ⟨rfl, h8, hb8, hr8⟩; have B8 := Lib.hid (B7.out.trans hb8); have hv8 := hv7.move hr8; clear hb8 h7 B7 hv7 hr8)
    | (go_at_call 10; refine (read_calls h8 (by decide) (by decide)).mono ?_; rintro e w9 ⟨v9, rfl, hv9, hb9⟩; have B9 := Lib.hid (B8.out.trans (hb9.mono h8.szd)); have h9 := h8.below hb9; have hT : (convert 31 9 v).run Try.prog w9 = .ok (.string ⟨#[120, 121, 122]⟩) w9 := (hv8.move (Rw.of_below hb9)).text; have hT9 : (convert 31 9 v9).run Try.prog w9 = .ok (.string ⟨#[120, 121]⟩) w9 := hv9.text; clear hb9 h8 B8 hv9 hv8)
    | (go_at_call 13; refine (ops_calls h9).mono ?_; rintro e w10 ⟨rfl, rfl⟩))
  go_ret
  exact ⟨rfl, B9.out⟩
end Go.Proofs.Ytadonahmamopbaa.QDk
