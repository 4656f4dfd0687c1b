/- The contract of Take, with what it leaves alone. (Turned by gen_takek.py from Ik2.) -/
import Derived.Test.YtdlkhjfkhbeaaaaIk2
namespace Go.Proofs.Ytdlkhjfkhbeaaaa.QIn
open Go.RowKit Go.Proofs.YtdlkhjfkhbeaaaaW.PrintWords Go.Proofs.YtdlkhjfkhbeaaaaW.PrintLast Go.Proofs.YtdlkhjfkhbeaaaaW.PrintMore
variable {w w1 : World} {base x : Nat} {dims meas chunk next : Int} {vf : Value} {fs : List S37} {op : Int} {vb : Value} {bs : List S70} {last : Int}
set_option maxRecDepth 100000 in
set_option maxHeartbeats 4000000 in
theorem take_keep (P : Nat → Prop) (hP : ∀ k, w.heap.size ≤ k → P k) (h : IN w base x dims meas chunk next vf fs op vb bs last) (hNP : Kd.N k37 37 w base (fun k => (k ≠ x ∧ some k ≠ vb.ownBlock) ∧ P k) vf fs) (t : Int) (A1 A2 : Option Addr) (c1 c2 : Nat) (l1 : List ByteArray) (l2 : List Int) (g0 : 0 ≤ dims) (g1 : dims ≤ 8) (g2 : 0 ≤ meas) (g3 : meas ≤ 8) (hn : 0 ≤ next) (hn2 : next ≤ 1000000)
    (h0 : 0 ≤ t) (h1 : t < 1099511627776) (hd : (l1.length : Int) = dims) (hm : (l2.length : Int) = meas) (hC1 : Kd.string.C w A1 l1.length l1) (hc1 : l1.length ≤ c1) (hC2 : (Kd.int .i64).C w A2 l2.length l2) (hc2 : l2.length ≤ c2) (ho0 : 0 ≤ op) (ho1 : op ≤ 1000000) (hfl : fs.length ≤ 1000000) (hlo : long l1 = false) :
    Calls Try.prog 9 #[.pointer (some ⟨x, 0, none⟩), .int .u64 next, .agg #[.int .i64 t, .slice A1 l1.length c1, .slice A2 l2.length c2]] w fun e w' => ∃ vf', e = .returned (.int .i64 0) ∧ IN w' base x dims meas chunk (next + 1) vf' (fs ++ [⟨t, l1, l2⟩]) (op + 1) vb bs last ∧ Kd.N k37 37 w' base (fun k => (k ≠ x ∧ some k ≠ vb.ownBlock) ∧ P k) vf' (fs ++ [⟨t, l1, l2⟩]) ∧ (vf'.ownBlock = vf.ownBlock ∨ ∃ b, vf'.ownBlock = some b ∧ w.heap.size ≤ b) ∧ KeepBut w w' x vf.ownBlock ∧ Below base w w' := by
  have b1 : Below w.heap.size w (w.alloc (.cells #[.int .i64 t, .slice A1 l1.length c1, .slice A2 l2.length c2] 37)) := (Below.refl _ w).alloc (Nat.le_refl _) _
  have bk := blk_new w (.cells #[.int .i64 t, .slice A1 l1.length c1, .slice A2 l2.length c2] 37)
  have I1 := Lib.hid (h.below b1)
  have N1 := Lib.hid (Kd.N_below hNP b1)
  have hbase := h.szd
  have lf0 := Lib.hid (Kd.N_lt h.hf)
  have a3 : (w.alloc (.cells #[.int .i64 t, .slice A1 l1.length c1, .slice A2 l2.length c2] 37)).cell? ⟨x, 3, none⟩ = some (.int .u64 next) := (blk_cell I1.out.hx 3).trans rfl
  have a0 : (w.alloc (.cells #[.int .i64 t, .slice A1 l1.length c1, .slice A2 l2.length c2] 37)).cell? ⟨x, 0, none⟩ = some (.int .i64 dims) := (blk_cell I1.out.hx 0).trans rfl
  have a1 : (w.alloc (.cells #[.int .i64 t, .slice A1 l1.length c1, .slice A2 l2.length c2] 37)).cell? ⟨x, 1, none⟩ = some (.int .i64 meas) := (blk_cell I1.out.hx 1).trans rfl
  have bt : (w.alloc (.cells #[.int .i64 t, .slice A1 l1.length c1, .slice A2 l2.length c2] 37)).cell? ⟨w.heap.size, 0, none⟩ = some (.int .i64 t) := (blk_cell bk 0).trans rfl
  have bt1 : (w.alloc (.cells #[.int .i64 t, .slice A1 l1.length c1, .slice A2 l2.length c2] 37)).cell? ⟨w.heap.size, 1, none⟩ = some (.slice A1 l1.length c1) := (blk_cell bk 1).trans rfl
  have bt2 : (w.alloc (.cells #[.int .i64 t, .slice A1 l1.length c1, .slice A2 l2.length c2] 37)).cell? ⟨w.heap.size, 2, none⟩ = some (.slice A2 l2.length c2) := (blk_cell bk 2).trans rfl
  have e1 : decide (next < next) = false := decide_eq_false (by omega)
  have e2 : decide (next > next) = false := decide_eq_false (by omega)
  have e3 : IntKind.u64.wrap (next + 1) = next + 1 := by unfold IntKind.wrap; simp [IntKind.signed, IntKind.bits]; omega
  have e4 : (next + 1 == 0) = false := by simp; omega
  have HC1 := Lib.hid (Kd.C_below hC1 b1)
  have HC2 := Lib.hid (Kd.C_below hC2 b1)
  have HL := Lib.hid hlo
  clear h hC1 hC2 hlo hNP
  go_enter Try.func9, Try.ntmps9
  go_wp2
  generalize w.alloc (.cells #[.int .i64 t, .slice A1 l1.length c1, .slice A2 l2.length c2] 37) = W at b1 a3 a0 a1 bk bt bt1 bt2 I1 N1 HC1 HC2 ⊢
  go_still_tail 5, (by kernel_rfl)
  change wpList _ _ _ _ _ W.drew
  go_wp2_with (first | (go_at_call 18; refine (check_fit dims meas t A1 A2 c1 c2 l1 l2 _ g0 g1 g2 g3 h0 h1 hd hm (Kd.C_drew HC1.out)).mono ?_; rw [HL.out]; rintro e w2 ⟨rfl, hb2⟩))
  have B2 : Below W.heap.size W w2 := (Below.refl _ W).drew.trans hb2
  clear hb2
  have I2 := Lib.hid (I1.out.below B2)
  have N2 := Lib.hid (Kd.N_below N1.out B2)
  have D1 := Lib.hid (Kd.C_below HC1.out B2)
  have D2 := Lib.hid (Kd.C_below HC2.out B2)
  have bk2 := blk_below bk B2
  have b2 := b1.trans (B2.mono b1.size)
  clear I1 N1 HC1 HC2 bk B2 b1 a3 a0 a1 bt bt1 bt2
  have a4 : w2.cell? ⟨x, 4, none⟩ = some vf := (blk_cell I2.out.hx 4).trans rfl
  have bt : w2.cell? ⟨w.heap.size, 0, none⟩ = some (.int .i64 t) := (blk_cell bk2 0).trans rfl
  have bt1 : w2.cell? ⟨w.heap.size, 1, none⟩ = some (.slice A1 l1.length c1) := (blk_cell bk2 1).trans rfl
  have bt2 : w2.cell? ⟨w.heap.size, 2, none⟩ = some (.slice A2 l2.length c2) := (blk_cell bk2 2).trans rfl
  have dl := I2.out.lt
  have hbl : w.heap.size < w2.heap.size := blk_lt bk2
  have KK : ∀ {W3 : World} {g : Nat}, Below w2.heap.size w2 W3 → W3.heap[g]? = some (.cells #[.int .i64 t, .slice A1 l1.length c1, .slice A2 l2.length c2] 37 (0, 0)) → Kd.C k37 W3 (some ⟨g, 0, none⟩) 1 [⟨t, l1, l2⟩] := fun hb hg =>
    C_one (cs := [.int .i64 t, .slice A1 l1.length c1, .slice A2 l2.length c2]) hg (k37_mk _ ⟨t, l1, l2⟩ hc1 (Kd.C_below D1.out hb) hc2 (Kd.C_below D2.out hb))
  have hgood : Good [(⟨t, l1, l2⟩ : S37)] := ⟨by simp, fun f hf => by rw [List.mem_singleton.1 hf]; exact ⟨by show l1.length ≤ 8; omega, by show l2.length ≤ 8; omega⟩⟩
  have BA : Below w2.heap.size w2 (w2.alloc (.cells #[.int .i64 t, .slice A1 l1.length c1, .slice A2 l2.length c2] 37)).drew := ((Below.refl _ w2).alloc (Nat.le_refl _) _).drew
  have lb := Kd.N_lt I2.out.hb
  have lf := Kd.N_lt I2.out.hf
  have hbs : (w2.alloc (.cells #[.int .i64 t, .slice A1 l1.length c1, .slice A2 l2.length c2] 37)).drew.heap.size = w2.heap.size + 1 := by simp
  have hfresh : ∀ {W3 : World}, Below w2.heap.size w2 W3 → ∀ k, W3.heap.size ≤ k → (k ≠ x ∧ some k ≠ vb.ownBlock) ∧ P k := fun hb k hk => ⟨⟨by have := hb.size; omega, fun e => by have := lb k e.symm; have := hb.size; omega⟩, hP k (by have := hb.size; omega)⟩
  go_region_law
    (first
      | ((refine Kd.N_append_rows_step k37 (w0 := w) base (by rfl) (.tmp 42) (.tmp 45) 44 37 _ 56 (by rfl) Try.underlying44 info37 rfl (by decide) (by decide) vf fs [⟨t, l1, l2⟩] A3 1 c3 _ _ (by rfl) (by rfl) N3.out HV.out ?qa ?qb ?qc ?qd ?qe ?_; (case qa => intro k hk; have h1 : w2.heap.size + 1 ≤ k := hbs ▸ hk.2.1; exact ⟨⟨⟨by omega, fun e => by have := lb k e.symm; omega⟩, hP k (by omega)⟩, fun e => by have := lf k e.symm; omega⟩); (case qb => exact hfresh B3); (case qc => exact (b2.mono hbase).trans (B3.mono (Nat.le_trans hbase b2.size))); (case qd => exact Nat.le_trans hbase (Nat.le_trans b2.size B3.size)); (case qe => omega); intro v4 w4 hN4 hB4 hg4 hat4; obtain ⟨A4, c4, rfl⟩ := Kd.N_slice hN4; have X4 := blk_grown I3.out.hx hg4 (fun e => (I3.out.hf.1 x e.symm).1 rfl); have y4 : w4.cell? ⟨x, 4, none⟩ = some vf := (blk_cell X4 4).trans rfl; have z4 := blk_frozen X4 4; have bk4 := blk_grown bk3 hg4 (fun e => Nat.lt_irrefl _ (lf0.out _ e.symm)); have r1 : w4.cell? ⟨w.heap.size, 0, none⟩ = some (.int .i64 t) := (blk_cell bk4 0).trans rfl; have r2 : w4.cell? ⟨w.heap.size, 1, none⟩ = some (.slice A1 l1.length c1) := (blk_cell bk4 1).trans rfl; have r3 : w4.cell? ⟨w.heap.size, 2, none⟩ = some (.slice A2 l2.length c2) := (blk_cell bk4 2).trans rfl; have HB4 := Lib.hid (Kd.N_after (u1 := .slice A4 _ c4) I3.out.hb hg4 hat4)))
      | (go_simp; go_at_call 19; refine (own_calls (some ⟨w2.heap.size, 0, none⟩) 1 [⟨t, l1, l2⟩] _ (KK BA (blk_new w2 _)) (Nat.le_refl _) hgood).mono ?_; rintro e w3 ⟨v3, rfl, hv3, hb3⟩; have B3 := BA.trans (hb3.mono BA.size); have I3 := Lib.hid (I2.out.below B3); have N3 := Lib.hid (Kd.N_below N2.out B3); have s0 : w3.cell? ⟨x, 4, none⟩ = some vf := (blk_cell I3.out.hx 4).trans rfl; have bk3 := blk_below bk2 B3; have s1 : w3.cell? ⟨w.heap.size, 0, none⟩ = some (.int .i64 t) := (blk_cell bk3 0).trans rfl; have s2 : w3.cell? ⟨w.heap.size, 1, none⟩ = some (.slice A1 l1.length c1) := (blk_cell bk3 1).trans rfl; have s3 : w3.cell? ⟨w.heap.size, 2, none⟩ = some (.slice A2 l2.length c2) := (blk_cell bk3 2).trans rfl; obtain ⟨A3, c3, rfl⟩ := Kd.R_slice (Kd.S_R hv3); have HV := Lib.hid (Kd.R_F (Kd.R_bound (Kd.S_R hv3))); clear hv3 hb3))
  all_goals
    have hlen : (fs ++ [(⟨t, l1, l2⟩ : S37)]).length = fs.length + 1 := by simp
    rw [hlen] at hN4 HB4
    have K5 := Lib.hid (((KeepBut.of_below (b2.trans (B3.mono b2.size)) x vf.ownBlock).trans (KeepBut.of_grown hg4 x) (.inl rfl)).set_ 4 (.slice A4 (fs.length + 1) c4))
    have hat5 : (Value.slice A4 (fs.length + 1) c4).ownBlock = vf.ownBlock ∨ ∃ b, (Value.slice A4 (fs.length + 1) c4).ownBlock = some b ∧ w.heap.size ≤ b := by
      have hs4 := B3.size
      rw [hlen] at hat4
      rcases hat4 with h | ⟨b, hb, hl⟩
      · exact .inl h
      · exact .inr ⟨b, hb, by omega⟩
    have HAT := Lib.hid hat5
    clear hat5
    have X5 : (w4.setCell ⟨x, 4, none⟩ (.slice A4 (fs.length + 1) c4)).heap[x]? = some (ink dims meas chunk next (.slice A4 (fs.length + 1) c4) op vb last) := blk_put X4 4 _ rfl
    have F5 := Lib.hid (Kd.N_far hN4 (p := ⟨x, 4, none⟩) (fun k hk => hk.1.1) (.slice A4 (fs.length + 1) c4))
    have G5 := Lib.hid (Kd.N_far HB4.out (p := ⟨x, 4, none⟩) (fun k hk => hk.1) (.slice A4 (fs.length + 1) c4))
    have B5 := Lib.hid (hB4.setCell (p := ⟨x, 4, none⟩) I2.out.bx (.slice A4 (fs.length + 1) c4))
    generalize w4.setCell ⟨x, 4, none⟩ (.slice A4 (fs.length + 1) c4) = w5 at X5 F5 G5 B5 K5 ⊢
    have y5 : w5.cell? ⟨x, 5, none⟩ = some (.int .i64 op) := (blk_cell X5 5).trans rfl
    have z5 := blk_frozen X5 5
    have y3 : w5.cell? ⟨x, 3, none⟩ = some (.int .u64 next) := (blk_cell X5 3).trans rfl
    have z3 := blk_frozen X5 3
    clear hB4 hN4 HB4 X4 y4 z4 r1 r2 r3 s0 s1 s2 s3 hat4 hg4 bk4 bt bt1 bt2 a4
    go_wp2
    go_ret
    have F6 := Lib.hid (Kd.N_far (Kd.N_far F5.out (p := ⟨x, 5, none⟩) (fun k hk => hk.1.1) (.int .i64 (op + 1))) (p := ⟨x, 3, none⟩) (fun k hk => hk.1.1) (.int .u64 (next + 1)))
    refine ⟨.slice A4 (fs.length + 1) c4, rfl, ⟨?_, Kd.N_mono F6.out (fun k hk => hk.1), ?_, I2.out.bx⟩, F6.out, HAT.out, (K5.out.set_ 5 _).set_ 3 _, ?_⟩
    · exact blk_put (w := w5.setCell ⟨x, 5, none⟩ _) (blk_put X5 5 _ rfl) 3 _ rfl
    · exact Kd.N_far (Kd.N_far G5.out (p := ⟨x, 5, none⟩) (fun k hk => hk.1) _) (p := ⟨x, 3, none⟩) (fun k hk => hk.1) _
    · exact (B5.out.setCell (p := ⟨x, 5, none⟩) I2.out.bx _).setCell (p := ⟨x, 3, none⟩) I2.out.bx _
end Go.Proofs.Ytdlkhjfkhbeaaaa.QIn
