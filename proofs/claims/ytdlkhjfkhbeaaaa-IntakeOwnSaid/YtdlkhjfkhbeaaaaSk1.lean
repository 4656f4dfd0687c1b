/- The contract of Seal, with what it leaves alone. (Turned by gen_sealk.py from Ik7.) -/
import Derived.Test.YtdlkhjfkhbeaaaaIk7
namespace Go.Proofs.Ytdlkhjfkhbeaaaa.QIn
open Go.RowKit Go.Maps Go.Proofs.YtdlkhjfkhbeaaaaW.PrintWords Go.Proofs.YtdlkhjfkhbeaaaaW.PrintLast Go.Proofs.YtdlkhjfkhbeaaaaW.PrintMore
variable {w w1 : World} {base x : Nat} {dims meas chunk next : Int} {vf : Value} {fs : List S37} {op : Int} {vb : Value} {bs : List S70} {last : Int}
/-- A store into what is new. -/
theorem keep_new {g : Nat} {row : Option Nat} (h : KeepBut w w1 g row) {p : Addr} (hp : w.heap.size ≤ p.block) (u : Value) : KeepBut w (w1.setCell p u) g row :=
  ⟨by simpa [World.setCell] using h.1, fun i hi hg hr => (Below.heap_setCell w1 p u i (by omega)).trans (h.2 i hi hg hr)⟩
set_option maxRecDepth 100000 in
set_option maxHeartbeats 64000000 in
theorem seal_keep (h : IN w base x dims meas chunk next vf fs op vb bs last) (p : Nat) (hop : op = p) (m : Nat) (hm : fs.length = m + p) (h1 : 1 ≤ op) (h3 : op ≤ next - 1) (h4 : next ≤ 1000000) (c1 : 1 ≤ chunk) (c2 : chunk ≤ 1099511627776) (ht : ∀ f ∈ fs, 0 ≤ f.f0 ∧ f.f0 < 1099511627776) (hg : Good fs) (l0 : 0 ≤ last) (l1 : last ≤ 1000000) (hbl : bs.length ≤ 1000000) :
    Calls Try.prog 11 #[.pointer (some ⟨x, 0, none⟩)] w (fun e w' => Sealed w base x dims meas chunk next vf fs m p bs last e w' ∧ KeepBut w w' x vb.ownBlock) := by
  subst hop
  obtain ⟨g, cap, rfl, gb, gl, gc⟩ := Kd.N_form h.hf (by omega)
  have hcap := (Kd.N_reads' h.hf).2.1
  have hfl := hg.1
  have b1 : Below w.heap.size w (w.alloc (.cells #[.int .i64 0, .int .u64 0, .int .u64 0, .slice none 0 0] 41)) := (Below.refl _ w).alloc (Nat.le_refl _) _
  have hmm := @run_makeMap Try.prog
  have a5 : (w.alloc (.cells #[.int .i64 0, .int .u64 0, .int .u64 0, .slice none 0 0] 41)).cell? ⟨x, 5, none⟩ = some (.int .i64 p) := (blk_cell (blk_below h.hx b1) 5).trans rfl
  have b2 : Below w.heap.size w ((w.alloc (.cells #[.int .i64 0, .int .u64 0, .int .u64 0, .slice none 0 0] 41)).alloc (.map #[] 0)) := b1.alloc (by simp) _
  have d5 : ((w.alloc (.cells #[.int .i64 0, .int .u64 0, .int .u64 0, .slice none 0 0] 41)).alloc (.map #[] 0)).cell? ⟨x, 5, none⟩ = some (.int .i64 p) := (blk_cell (blk_below h.hx b2) 5).trans rfl
  have d4 : ((w.alloc (.cells #[.int .i64 0, .int .u64 0, .int .u64 0, .slice none 0 0] 41)).alloc (.map #[] 0)).cell? ⟨x, 4, none⟩ = some (.slice (some ⟨g, 0, none⟩) fs.length cap) := (blk_cell (blk_below h.hx b2) 4).trans rfl
  have e0 : ((p : Int) == 0) = false := by simp; omega
  have e2 : IntKind.i64.wrap ((fs.length : Int) - (p : Int)) = (m : Int) := by rw [show (fs.length : Int) - (p : Int) = (m : Int) by omega]; exact IntWalk.i64_in _ (by omega)
  have e3 : IntKind.i64.wrap (m : Int) = (m : Int) := IntWalk.i64_in _ (by omega)
  have p0 : (0 : Int) ≤ (m : Int) := by omega
  have p1 : (m : Int) ≤ (fs.length : Int) := by omega
  have p2 : ¬ cap = m := by omega
  have e4 : fs.length - m = p := by omega
  have hxs := h.lt
  have hfs := Lib.hid (Kd.N_lt h.hf)
  have hbo := Lib.hid (Kd.N_lt h.hb)
  have H := Lib.hid h
  have HT := Lib.hid ht
  have HG := Lib.hid hg
  have HM := Lib.hid hm
  have hbase := h.szd
  have HS := (LR.mk (w := w) (w' := (w.alloc (.cells #[.int .i64 0, .int .u64 0, .int .u64 0, .slice none 0 0] 41)).alloc (.map #[] 0)) (x := x) (chunk := chunk) (vf := .slice (some ⟨g, 0, none⟩) fs.length cap) (vb := vb) (L := fs.drop m) (j := 0) ⟨0, .map [], fun _ => 0, fun _ => .slice none 0 0, Nat.le_refl _, b2, ⟨by have := World.ownsMap_made (w.alloc (.cells #[.int .i64 0, .int .u64 0, .int .u64 0, .slice none 0 0] 41)) Try.prog 2 pr; simpa using this, by omega, fun k hk => by simp [Maps.has] at hk, fun k k' hk => by simp [Maps.has] at hk⟩, blk_alloc (blk_new w _) _, fun k => by simp [Maps.has]⟩)
  clear h ht hg hm b1 b2
  go_enter Try.func11, Try.ntmps11
  go_wp2
  go_quiet (fail)
  go_wp2
  clear a5 d5 d4 e0 e2 e3 p0 p1 p2 hmm
  go_loopg [6, 7, 8, 40] (p + 1) (fun kq v6 v7 v8 v40 w' => ∃ (j : Nat), v40 = .int .i64 j ∧ j + kq = p + 1 ∧ j ≤ p ∧ LR w w' x chunk (.slice (some ⟨g, 0, none⟩) fs.length cap) vb (fs.drop m) j)
  case atStart => exact ⟨0, rfl, by omega, by omega, ⟨by obtain ⟨n, D, gs, vs, q1, q2, q3, q5, q4⟩ := HS.out; exact ⟨n, D, gs, vs, q1, pw_below_drewN q2 _, q3.below (pw_below_drewN (Below.refl _ _) _), q5, q4⟩⟩⟩
  case round =>
    clear HS
    obtain ⟨j, rfl, hjk, hjp, HL⟩ := hrel
    obtain ⟨n, D, gs, vs, hnj, hB, hCM, hres, hkeys⟩ := HL.out
    clear HL
    by_cases hj : j < p
    · have cj : decide ((j : Int) < (p : Int)) = true := decide_eq_true (by omega)
      have hmj : m + j < fs.length := by have := HM.out; omega
      obtain ⟨A1, d1, A2, d2, k0, k1, k2, hFK0⟩ := H.out.cells (m := m) (j := j) hmj
      replace k0 := (hB.cell (World.block_lt_of_cell? w _ k0)).trans k0
      replace k1 := (hB.cell (World.block_lt_of_cell? w _ k1)).trans k1
      replace k2 := (hB.cell (World.block_lt_of_cell? w _ k2)).trans k2
      have hFK := Kd.FK_below (Kd.FK_mono (ok' := ok0 x w.heap.size (.slice (some ⟨g, 0, none⟩) fs.length cap) vb) (Kd.FK_bound hFK0) (fun k hk => ⟨hk.2, hk.1.1.1, hk.1.1.2, fun e => hk.1.2 (Option.some.inj e)⟩)) hB
      clear hFK0
      have hfm : fs.getD (m + j) z37 ∈ fs := by rw [List.getD_eq_getElem?_getD, List.getElem?_eq_getElem hmj, Option.getD_some]; exact List.getElem_mem hmj
      have htk := take_snoc hmj
      generalize fs.getD (m + j) z37 = f at k0 k1 k2 hFK hfm htk
      have hft := HT.out f hfm
      have hkb := frm_bd hft.1 c1
      obtain ⟨t0, t1⟩ := hft
      obtain ⟨kb0, kb1, kb2⟩ := hkb
      have cx : wr.cell? ⟨x, 2, none⟩ = some (.int .i64 chunk) := (blk_cell (H.out.below hB).hx 2).trans rfl
      have B1 : Below wr.heap.size wr (wr.alloc (.cells #[.int .i64 f.f0, .slice A1 f.f1.length d1, .slice A2 f.f2.length d2] 37)) := (Below.refl _ wr).alloc (Nat.le_refl _) _
      have bk1 := blk_new wr (.cells #[.int .i64 f.f0, .slice A1 f.f1.length d1, .slice A2 f.f2.length d2] 37)
      have cx1 : (wr.alloc (.cells #[.int .i64 f.f0, .slice A1 f.f1.length d1, .slice A2 f.f2.length d2] 37)).cell? ⟨x, 2, none⟩ = some (.int .i64 chunk) := Lib.cell?_alloc_some _ cx
      have hspan := span_calls cx1 t0 t1 c1 c2
      clear cx cx1
      have HTK := Lib.hid htk
      have HFK := Lib.hid hFK
      have HKS := Lib.hid hkeys
      have HCM := Lib.hid hCM
      have HBB := Lib.hid hB
      have HRS := Lib.hid hres
      clear htk hFK hkeys hCM hres
      obtain ⟨kk, hkk⟩ : ∃ kk, frm chunk f.f0 = kk := ⟨_, rfl⟩
      rw [hkk] at hspan kb0 kb1 kb2
      have HKK := Lib.hid hkk
      have hsz := hB.size
      clear hkk hB
      have q0 : 0 ≤ (j : Int) := by omega
      have q1 : (j : Int) < (p : Int) := by omega
      replace q0 := eq_true q0
      replace q1 := eq_true q1
      cases hk : Maps.has D (.int .i64 kk) with
      | true =>
        obtain ⟨a1, a2, a3, a4⟩ := HCM.out.at_ kk hk
        obtain ⟨AV, cV, hVe⟩ := a4.slice
        rw [hVe] at a2
        have hlen : (flt chunk kk ((fs.drop m).take j)).length ≤ 1000 := Nat.le_trans (List.length_filter_le _ _) (by simp; omega)
        obtain ⟨nV, hnV⟩ : ∃ nV, (flt chunk kk ((fs.drop m).take j)).length = nV := ⟨_, rfl⟩
        rw [hnV] at a2 hVe hlen
        have HVE := Lib.hid hVe
        have HA4 := Lib.hid a4
        have HNV := Lib.hid hnV
        clear hVe a4 hnV a1
        go_wp2_with (first
          | (go_at_call 20; refine hspan.mono ?_; rintro e w2 ⟨rfl, hb2⟩; have B2 : Below wr.heap.size wr w2 := B1.trans (hb2.mono B1.size); have B3 : Below wr.heap.size wr (w2.alloc (.cells #[.int .i64 kk, .int .i64 (min (kk + chunk) 1099511627776)] 53)) := B2.alloc B2.size _; have CM3 := Lib.hid (HCM.out.below B3); have hlk := CM3.out.look hk kb0 (by omega); have bk6 := blk_alloc (blk_below bk1 hb2) (.cells #[.int .i64 kk, .int .i64 (min (kk + chunk) 1099511627776)] 53); have g2 := blk_below a2 B3; have c62 : (w2.alloc (.cells #[.int .i64 kk, .int .i64 (min (kk + chunk) 1099511627776)] 53)).cell? ⟨gs kk, 2, none⟩ = some (.slice AV nV cV) := (blk_cell g2 2).trans rfl; have c60 : (w2.alloc (.cells #[.int .i64 kk, .int .i64 (min (kk + chunk) 1099511627776)] 53)).cell? ⟨wr.heap.size, 0, none⟩ = some (.int .i64 f.f0) := (blk_cell bk6 0).trans rfl; have c61 : (w2.alloc (.cells #[.int .i64 kk, .int .i64 (min (kk + chunk) 1099511627776)] 53)).cell? ⟨wr.heap.size, 1, none⟩ = some (.slice A1 f.f1.length d1) := (blk_cell bk6 1).trans rfl; have c63 : (w2.alloc (.cells #[.int .i64 kk, .int .i64 (min (kk + chunk) 1099511627776)] 53)).cell? ⟨wr.heap.size, 2, none⟩ = some (.slice A2 f.f2.length d2) := (blk_cell bk6 2).trans rfl))
        have hrow := ((CM3.out.at_ kk hk).2.2.2)
        rw [HVE.out] at hrow
        have hbn := CM3.out.box_ne hk hk
        rw [HVE.out] at hbn
        have FK3 := Lib.hid (Kd.FK_below HFK.out B3)
        have RS3 := Lib.hid (blk_below HRS.out B3)
        clear hlk hspan bk6 bk1 B1
        generalize hWe : w2.alloc (.cells #[.int .i64 kk, .int .i64 (min (kk + chunk) 1099511627776)] 53) = W at B3 CM3 FK3 RS3 g2 c60 c61 c62 c63 hrow ⊢
        clear hWe hb2 B2
        have BX : Below W.heap.size W (W.alloc (.cells #[.int .i64 f.f0, .slice A1 f.f1.length d1, .slice A2 f.f2.length d2] 37)).drew := ((Below.refl _ W).alloc (Nat.le_refl _) _).drew
        have HRow := Lib.hid (hrow.below BX)
        have FKX := Lib.hid (Kd.FK_below FK3.out BX)
        have BW : Below w.heap.size w (W.alloc (.cells #[.int .i64 f.f0, .slice A1 f.f1.length d1, .slice A2 f.f2.length d2] 37)).drew := (HBB.out.trans (B3.mono HBB.out.size)).trans (BX.mono (Nat.le_trans HBB.out.size B3.size))
        have gX := blk_below g2 BX
        have RSX := Lib.hid (blk_below RS3.out BX)
        have c6X : (W.alloc (.cells #[.int .i64 f.f0, .slice A1 f.f1.length d1, .slice A2 f.f2.length d2] 37)).cell? ⟨gs kk, 2, none⟩ = some (.slice AV nV cV) := (blk_cell (blk_alloc g2 _) 2).trans rfl
        have hrb := Lib.hid (fun b hb => hrow.base b hb)
        clear hrow g2
        go_region_law
          (first
            | ((refine Row.append_step k37 (w0 := w) w.heap.size (by rfl) (.tmp 67) (.tmp 69) 44 37 _ 56 (by rfl) Try.underlying44 info37 rfl (by decide) (by decide) (.slice AV nV cV) (flt chunk kk ((fs.drop m).take j)) f [.int .i64 f.f0, .slice A1 f.f1.length d1, .slice A2 f.f2.length d2] W.heap.size (ok0 x w.heap.size (.slice (some ⟨g, 0, none⟩) fs.length cap) vb) (by rfl) (by rfl) (blk_new W _) HRow.out FKX.out ?qa BW BW.size ?qb ?_; (case qa => exact fun k hk _ e => Nat.lt_irrefl _ (Nat.lt_of_lt_of_le hk.1 (hrb.out k e.symm))); (case qb => rw [HNV.out]; omega); intro v1 w4 hR4 hB4 hg4 hat4; obtain ⟨A4, c4, rfl⟩ := hR4.slice; have X4 := blk_grown gX hg4 hbn; have y4 : w4.cell? ⟨gs kk, 2, none⟩ = some (.slice AV nV cV) := (blk_cell X4 2).trans rfl; have z4 := blk_frozen X4 2; have RS4 := Lib.hid (blk_grown RSX.out hg4 (HRow.out.ne RSX.out (by decide))))))
        all_goals
          have hln : (flt chunk kk ((fs.drop m).take j) ++ [f]).length = (flt chunk kk ((fs.drop m).take j)).length + 1 := by simp
          rw [hln] at hR4 hat4
          obtain ⟨vs', CM4⟩ : ∃ vs', Hid (CM (w4.setCell ⟨gs kk, 2, none⟩ (.slice A4 ((flt chunk kk ((fs.drop m).take j)).length + 1) c4)) w.heap.size chunk (ok0 x w.heap.size (.slice (some ⟨g, 0, none⟩) fs.length cap) vb) (w.heap.size + 1) n D ((fs.drop m).take j ++ [f]) gs vs') := ⟨_, Lib.hid ((CM3.out.below BX).push_at HKK.out HVE.out hk (fun b hb => hb.1) hR4 hg4 hat4)⟩
          have B4 := Lib.hid (hB4.setCell (p := ⟨gs kk, 2, none⟩) a3 (.slice A4 ((flt chunk kk ((fs.drop m).take j)).length + 1) c4))
          have RS5 := Lib.hid (blk_far RS4.out (p := ⟨gs kk, 2, none⟩) (blk_ne RS4.out X4 (by decide)) (.slice A4 ((flt chunk kk ((fs.drop m).take j)).length + 1) c4))
          generalize w4.setCell ⟨gs kk, 2, none⟩ (.slice A4 ((flt chunk kk ((fs.drop m).take j)).length + 1) c4) = w5 at CM4 B4 RS5 ⊢
          go_wp2
          go_roundg (p - j)
          case measure => omega
          case rel =>
            refine ⟨j + 1, by simp, by omega, by omega, ⟨n, D, gs, vs', by omega, B4.out, ?_, RS5.out, ?_⟩⟩
            · rw [HTK.out]; exact CM4.out
            · rw [HTK.out]; exact keys_same HKS.out HKK.out hk
      | false =>
        have hf0 := flt_none HKS.out hk
        have hnV : (flt chunk kk ((fs.drop m).take j)).length = 0 := by rw [hf0]; rfl
        have HNV := Lib.hid hnV
        have HF0 := Lib.hid hf0
        have hmx : n < maxLen := by
          have : maxLen = 9223372036854775807 := by decide
          omega
        have hkey := Lib.hid (hk2 kb0 (show kk ≤ 1099511627776 by omega))
        have HDM := Lib.hid HCM.out.own.isMap
        have hmlt : wr.heap.size ≠ w.heap.size + 1 := fun e => by have := HCM.out.own.lt; omega
        clear hf0 hnV
        go_wp2_with (first
          | (go_at_call 20; refine hspan.mono ?_; rintro e w2 ⟨rfl, hb2⟩; have B2 : Below wr.heap.size wr w2 := B1.trans (hb2.mono B1.size); have B3 : Below wr.heap.size wr (w2.alloc (.cells #[.int .i64 kk, .int .i64 (min (kk + chunk) 1099511627776)] 53)) := B2.alloc B2.size _; have CM3 := Lib.hid (HCM.out.below B3); have hlk := CM3.out.look_no hk kb0 (by omega); have bk6 := blk_alloc (blk_below bk1 hb2) (.cells #[.int .i64 kk, .int .i64 (min (kk + chunk) 1099511627776)] 53))
          | ((with_reducible refine gate_dst (N := 58) rfl ?_); refine box_event rfl (N := 58) rfl (cs := #[.int .i64 kk, .int .i64 (min (kk + chunk) 1099511627776), .slice none 0 0]) (t := 55) (by first | (go_simp; done) | (go_simp; rfl)) ?_; intro gk hge w4 BKg HB4; have own4 := own_below CM3.out.own HB4)
          | (at_mapUpdate; refine wpList_mapUpdate_own _ rfl _ _ _ 66 rfl 2 68 ky (by kernel_rfl) pr (w.heap.size + 1) n D rfl own4 hmx _ _ (.int .i64 kk) rfl rfl hkey.out (.lit (.int .i64 gk)) [] rfl ?_; intro W6 own6 hgr6; have hk6 : Maps.has (D.put (.int .i64 kk) (.lit (.int .i64 gk))) (.int .i64 kk) = true := has_put_same HDM.out (k := .int .i64 kk) trivial _; obtain ⟨gs', vs', CM6, HGK, HVE⟩ : ∃ gs' vs', Hid (CM W6 w.heap.size chunk (ok0 x w.heap.size (.slice (some ⟨g, 0, none⟩) fs.length cap) vb) (w.heap.size + 1) (n + 1) (D.put (.int .i64 kk) (.lit (.int .i64 gk))) ((fs.drop m).take j) gs' vs') ∧ Hid (gs' kk = gk) ∧ Hid (vs' kk = .slice none 0 0) := ⟨_, _, Lib.hid (CM3.out.insert hk HF0.out (Nat.le_trans hsz B3.size) (fun b hb => hb.1) HB4 BKg (Nat.le_of_eq hge.symm) own6 hgr6), Lib.hid (if_pos rfl), Lib.hid (if_pos rfl)⟩; have g6 := (CM6.out.at_ kk hk6).2.1; have a6 := (CM6.out.at_ kk hk6).2.2.1; rw [HGK.out] at a6; rw [HVE.out, HGK.out] at g6; have hlk6 := CM6.out.look hk6 kb0 (by omega); rw [HGK.out] at hlk6; have bk66 := blk_grown (blk_below bk6 HB4) hgr6 (fun e => hmlt (Option.some.inj e)); have B6 := ((HBB.out.trans (B3.mono HBB.out.size)).trans (HB4.mono (Nat.le_trans HBB.out.size B3.size))).grown hgr6 (Nat.le_trans HBB.out.size (Nat.le_trans B3.size HB4.size)) (fun k e => by have := Option.some.inj e; omega); have RS6 := Lib.hid (blk_grown (blk_below (blk_below HRS.out B3) HB4) hgr6 (fun e => by have e := Option.some.inj e; omega)); have c62 : W6.cell? ⟨gk, 2, none⟩ = some (.slice none 0 0) := (blk_cell g6 2).trans rfl; have c60 : W6.cell? ⟨wr.heap.size, 0, none⟩ = some (.int .i64 f.f0) := (blk_cell bk66 0).trans rfl; have c61 : W6.cell? ⟨wr.heap.size, 1, none⟩ = some (.slice A1 f.f1.length d1) := (blk_cell bk66 1).trans rfl; have c63 : W6.cell? ⟨wr.heap.size, 2, none⟩ = some (.slice A2 f.f2.length d2) := (blk_cell bk66 2).trans rfl; have c70 : W6.cell? ⟨w2.heap.size, 0, none⟩ = some (.int .i64 kk) := (blk_cell (blk_grown (blk_below (blk_new w2 (.cells #[.int .i64 kk, .int .i64 (min (kk + chunk) 1099511627776)] 53)) HB4) hgr6 (fun e => by have e := Option.some.inj e; have := B2.size; have := HCM.out.own.lt; omega)) 0).trans rfl; clear hlk bk66 bk6 own4 HB4 BKg hge B2 hb2))
        have hrow := ((CM6.out.at_ kk hk6).2.2.2)
        rw [HVE.out] at hrow
        have hbn := CM6.out.box_ne hk6 hk6
        rw [HVE.out, HGK.out] at hbn
        have FK3 := Lib.hid (Kd.FK_step HFK.out (fun k hk _ => (B6.block k hk.1).trans (HBB.out.block k hk.1).symm) : Kd.FK k37 W6 (ok0 x w.heap.size (.slice (some ⟨g, 0, none⟩) fs.length cap) vb) f [.int .i64 f.f0, .slice A1 f.f1.length d1, .slice A2 f.f2.length d2])
        have RS3 := RS6
        clear hlk6 hspan bk1 B1
        have BX : Below W6.heap.size W6 (W6.alloc (.cells #[.int .i64 f.f0, .slice A1 f.f1.length d1, .slice A2 f.f2.length d2] 37)).drew := ((Below.refl _ W6).alloc (Nat.le_refl _) _).drew
        have HRow := Lib.hid (hrow.below BX)
        have FKX := Lib.hid (Kd.FK_below FK3.out BX)
        have BW : Below w.heap.size w (W6.alloc (.cells #[.int .i64 f.f0, .slice A1 f.f1.length d1, .slice A2 f.f2.length d2] 37)).drew := B6.trans (BX.mono B6.size)
        have gX := blk_below g6 BX
        have RSX := Lib.hid (blk_below RS3.out BX)
        have c6X : (W6.alloc (.cells #[.int .i64 f.f0, .slice A1 f.f1.length d1, .slice A2 f.f2.length d2] 37)).cell? ⟨gk, 2, none⟩ = some (.slice none 0 0) := (blk_cell (blk_alloc g6 _) 2).trans rfl
        have hrb := Lib.hid (fun b hb => hrow.base b hb)
        clear hrow g6
        go_region_law
          (first
            | ((refine Row.append_step k37 (w0 := w) w.heap.size (by rfl) (.tmp 67) (.tmp 69) 44 37 _ 56 (by rfl) Try.underlying44 info37 rfl (by decide) (by decide) (.slice none 0 0) (flt chunk kk ((fs.drop m).take j)) f [.int .i64 f.f0, .slice A1 f.f1.length d1, .slice A2 f.f2.length d2] W6.heap.size (ok0 x w.heap.size (.slice (some ⟨g, 0, none⟩) fs.length cap) vb) (by rfl) (by rfl) (blk_new W6 _) HRow.out FKX.out ?qa BW BW.size ?qb ?_; (case qa => exact fun k hk _ e => Nat.lt_irrefl _ (Nat.lt_of_lt_of_le hk.1 (hrb.out k e.symm))); (case qb => rw [HNV.out]; omega); intro v1 w4 hR4 hB4 hg4 hat4; obtain ⟨A4, c4, rfl⟩ := hR4.slice; have X4 := blk_grown gX hg4 hbn; have y4 : w4.cell? ⟨gk, 2, none⟩ = some (.slice none 0 0) := (blk_cell X4 2).trans rfl; have z4 := blk_frozen X4 2; have RS4 := Lib.hid (blk_grown RSX.out hg4 (HRow.out.ne RSX.out (by decide))))))
        all_goals
          have hln : (flt chunk kk ((fs.drop m).take j) ++ [f]).length = (flt chunk kk ((fs.drop m).take j)).length + 1 := by simp
          rw [hln] at hR4 hat4
          obtain ⟨vs'', CM4⟩ : ∃ vs'', Hid (CM (w4.setCell ⟨gk, 2, none⟩ (.slice A4 ((flt chunk kk ((fs.drop m).take j)).length + 1) c4)) w.heap.size chunk (ok0 x w.heap.size (.slice (some ⟨g, 0, none⟩) fs.length cap) vb) (w.heap.size + 1) (n + 1) (D.put (.int .i64 kk) (.lit (.int .i64 gk))) ((fs.drop m).take j ++ [f]) gs' vs'') := ⟨_, Lib.hid (HGK.out ▸ (CM6.out.below BX).push_at HKK.out HVE.out hk6 (fun b hb => hb.1) hR4 hg4 hat4)⟩
          have B4 := Lib.hid (hB4.setCell (p := ⟨gk, 2, none⟩) a6 (.slice A4 ((flt chunk kk ((fs.drop m).take j)).length + 1) c4))
          have RS5 := Lib.hid (blk_far RS4.out (p := ⟨gk, 2, none⟩) (blk_ne RS4.out X4 (by decide)) (.slice A4 ((flt chunk kk ((fs.drop m).take j)).length + 1) c4))
          generalize w4.setCell ⟨gk, 2, none⟩ (.slice A4 ((flt chunk kk ((fs.drop m).take j)).length + 1) c4) = w5 at CM4 B4 RS5 ⊢
          go_wp2
          go_roundg (p - j)
          case measure => omega
          case rel =>
            refine ⟨j + 1, by simp, by omega, by omega, ⟨n + 1, D.put (.int .i64 kk) (.lit (.int .i64 gk)), gs', vs'', by omega, B4.out, ?_, RS5.out, ?_⟩⟩
            · rw [HTK.out]; exact CM4.out
            · rw [HTK.out]; exact keys_put HDM.out HKS.out HKK.out
    · have cj : decide ((j : Int) < (p : Int)) = false := decide_eq_false (by omega)
      have hLp : (fs.drop m).take j = fs.drop m := List.take_of_length_le (by simp; have := HM.out; omega)
      rw [hLp] at hCM hkeys
      have Iw := H.out.below hB
      have y7 : wr.cell? ⟨x, 7, none⟩ = some (.int .i64 last) := (blk_cell Iw.hx 7).trans rfl
      have z7 := blk_frozen Iw.hx 7
      have hxB : x < w.heap.size := hxs
      have okx : ∀ k, ok0 x w.heap.size (.slice (some ⟨g, 0, none⟩) fs.length cap) vb k → k ≠ x := fun k hk => hk.2.1
      have X1 : (wr.setCell ⟨x, 7, none⟩ (.int .i64 (last + 1))).heap[x]? = some (ink dims meas chunk next (.slice (some ⟨g, 0, none⟩) fs.length cap) p vb (last + 1)) := blk_put Iw.hx 7 _ rfl
      have CM1 := Lib.hid (hCM.far (p := ⟨x, 7, none⟩) hxB okx (.int .i64 (last + 1)))
      have F0 := Kd.N_below (Kd.N_mono (ok' := fun k => (k ≠ x ∧ k ≠ w.heap.size) ∧ some k ≠ vb.ownBlock) (Kd.N_elderB H.out.hf w.heap.size (Nat.le_refl _)) (fun k hk => ⟨⟨hk.1.1, hk.2⟩, hk.1.2⟩)) hB
      have F1 := Lib.hid (Kd.N_far F0 (p := ⟨x, 7, none⟩) (fun k hk => hk.1.1) (.int .i64 (last + 1)))
      have G0 := Kd.N_below (Kd.N_mono (ok' := fun k => (k ≠ x ∧ k ≠ w.heap.size) ∧ some k ≠ (Value.slice (some ⟨g, 0, none⟩) fs.length cap).ownBlock) (Kd.N_elderB H.out.hb w.heap.size (Nat.le_refl _)) (fun k hk => ⟨⟨hk.1.1, hk.2⟩, hk.1.2⟩)) hB
      have G1 := Lib.hid (Kd.N_far G0 (p := ⟨x, 7, none⟩) (fun k hk => hk.1.1) (.int .i64 (last + 1)))
      clear F0 G0
      have RS1 := Lib.hid (blk_far hres (p := ⟨x, 7, none⟩) (fun e => by have e : w.heap.size = x := e; omega) (.int .i64 (last + 1)))
      have B1 := Lib.hid ((hB.mono hbase).setCell (p := ⟨x, 7, none⟩) H.out.bx (.int .i64 (last + 1)))
      have K1 : KeepBut w (wr.setCell ⟨x, 7, none⟩ (.int .i64 (last + 1))) x vb.ownBlock := (KeepBut.of_below hB x vb.ownBlock).set_ 7 _
      have hsz1 : w.heap.size < (wr.setCell ⟨x, 7, none⟩ (.int .i64 (last + 1))).heap.size := blk_lt RS1.out
      have HKS := Lib.hid hkeys
      clear hCM hkeys hB hres Iw okx
      go_wp2
      generalize wr.setCell ⟨x, 7, none⟩ (.int .i64 (last + 1)) = W1 at X1 CM1 F1 G1 RS1 B1 hsz1 K1 ⊢
      replace K1 := Lib.hid K1
      clear y7 z7
      have x7 : W1.cell? ⟨x, 7, none⟩ = some (.int .i64 (last + 1)) := (blk_cell X1 7).trans rfl
      have x3 : W1.cell? ⟨x, 3, none⟩ = some (.int .u64 next) := (blk_cell X1 3).trans rfl
      have x5 : W1.cell? ⟨x, 5, none⟩ = some (.int .i64 p) := (blk_cell X1 5).trans rfl
      have u1 : IntKind.u64.wrap (next - 1) = next - 1 := by unfold IntKind.wrap; simp [IntKind.signed, IntKind.bits]; omega
      have u2 : IntKind.u64.wrap (p : Int) = (p : Int) := by unfold IntKind.wrap; simp [IntKind.signed, IntKind.bits]; omega
      have u3 : IntKind.u64.wrap (next - 1 - (p : Int)) = next - 1 - (p : Int) := by unfold IntKind.wrap; simp [IntKind.signed, IntKind.bits]; omega
      have n7 := World.new_ne W1 _ x7
      have n3 := World.new_ne W1 _ x3
      have n5 := World.new_ne W1 _ x5
      go_region_held3 (fun w' => w'.cell? ⟨x, 7, none⟩ = some (.int .i64 (last + 1)) ∧ w'.cell? ⟨x, 3, none⟩ = some (.int .u64 next) ∧ w'.cell? ⟨x, 5, none⟩ = some (.int .i64 p)) (go_keep) (fail)
      have BW2 : Below W1.heap.size W1 (W1.alloc (.cells #[.int .i64 (last + 1), .int .u64 (next - 1 - (p : Int)), .int .u64 (next - 1), .slice none 0 0, .int .i64 (p : Int)] 70)).drew := ((Below.refl _ W1).alloc (Nat.le_refl _) _).drew
      have b9 := blk_drew (blk_new W1 (.cells #[.int .i64 (last + 1), .int .u64 (next - 1 - (p : Int)), .int .u64 (next - 1), .slice none 0 0, .int .i64 (p : Int)] 70))
      generalize (W1.alloc (.cells #[.int .i64 (last + 1), .int .u64 (next - 1 - (p : Int)), .int .u64 (next - 1), .slice none 0 0, .int .i64 (p : Int)] 70)).drew = W2 at BW2 b9 ⊢
      have CM2 := Lib.hid (CM1.out.below BW2)
      have hnl : n ≤ 1000 := by omega
      have B9 := Lib.hid b9
      have hs2 : W1.heap.size + 1 ≤ W2.heap.size := blk_lt b9
      clear x7 x3 x5 u1 u2 u3 n7 n3 n5 b9
      go_wp2_with (first
        | (go_at_call 22; refine (keys_calls _ _).mono ?_; rintro e w3 ⟨rfl, rfl⟩)
        | (go_at_call 21; refine (sorted_calls (w := W2) CM2.out.own hnl rfl).mono ?_; rintro e w3 ⟨vK, K, rfl, hKp, hKm, hKl, hKR, hb3⟩; obtain ⟨AK, cK, rfl⟩ := Kd.R_slice hKR))
      have B3a : Below W2.heap.size W2 w3 := ((Below.refl _ W2).alloc (Nat.le_refl _) _).trans (hb3.mono (by simp))
      have B3 : Below W1.heap.size W1 w3 := BW2.trans (B3a.mono BW2.size)
      have HS2 := LS.mk (W1 := W1) (w' := w3) (x := x) (r := w.heap.size) (vf := .slice (some ⟨g, 0, none⟩) fs.length cap) (vb := vb) (vK := .slice AK K.length cK) (K := K) (a := last + 1) (b := next - 1 - (p : Int)) (c := next - 1) (m := p) (chs := chks chunk (fs.drop m) K) (i := 0) ⟨.slice none 0 0, B3, Kd.R_lower hKR (by omega), blk_below B9.out B3a, Row.nil _ _ _ _ _⟩
      have HKM := Lib.hid hKm
      have HKP := Lib.hid hKp
      clear hKp hKm hKR hb3 B3a B3 B9 CM2
      go_loopg [11, 111] (K.length + 1) (fun kq v11 v111 w' => ∃ (i : Nat), v111 = .int .i64 i ∧ i + kq = K.length + 1 ∧ i ≤ K.length ∧ LS W1 w' x w.heap.size (.slice (some ⟨g, 0, none⟩) fs.length cap) vb (.slice AK K.length cK) K (last + 1) (next - 1 - (p : Int)) (next - 1) p (chks chunk (fs.drop m) K) i)
      case atStart => exact ⟨0, rfl, by omega, by omega, HS2⟩
      case round =>
        clear HS2
        obtain ⟨i, rfl, hik, hil, HL2⟩ := hrel
        obtain ⟨vch, hB2, hKR, h9, hRow⟩ := HL2.out
        clear HL2
        obtain ⟨Ac, cc, rfl⟩ := hRow.slice
        obtain ⟨nC, hnC⟩ : ∃ nC, ((chks chunk (fs.drop m) K).take i).length = nC := ⟨_, rfl⟩
        rw [hnC] at h9 hRow
        have HNC := Lib.hid hnC
        have hnC1 : nC ≤ 1000 := by rw [← hnC]; simp [chks]; omega
        clear hnC
        by_cases hi : i < K.length
        · have ci : decide ((i : Int) < (K.length : Int)) = true := decide_eq_true (by omega)
          have hsucc := chks_succ (chunk := chunk) (L := fs.drop m) hi
          obtain ⟨_, _, hKC⟩ := Kd.R_reads' hKR
          obtain ⟨ak, rfl, hy⟩ := Kd.at_int hKC (i : Int) (by omega) (by omega)
          have hkm := (HKM.out _).1 (rd_mem hi)
          rw [Int.toNat_natCast] at hy
          generalize rd K (i : Int) = kk at hy hkm hsucc
          obtain ⟨fk, hfk1, hfk2⟩ := (HKS.out kk).1 hkm
          have hfkt := HT.out fk (List.mem_of_mem_drop hfk1)
          have hfkb := frm_bd hfkt.1 c1
          rw [hfk2] at hfkb
          obtain ⟨kb0, kb1, _⟩ := hfkb
          have kb2 := hfkt.2
          clear hfk1 hfk2
          have CMr := Lib.hid (CM1.out.below hB2)
          obtain ⟨a1, a2, a3, a4⟩ := CMr.out.at_ kk hkm
          obtain ⟨AV, cV, hVe⟩ := a4.slice
          have r1 := (CM1.out.at_ kk hkm).2.2.2.lt
          have r0 := a4.base
          rw [hVe] at a2 r1 r0 a4
          have hlk := CMr.out.look hkm kb0 (by omega)
          have g0 : wr.cell? ⟨gs kk, 0, none⟩ = some (.int .i64 kk) := (blk_cell a2 0).trans rfl
          have g1 : wr.cell? ⟨gs kk, 1, none⟩ = some (.int .i64 (min (kk + chunk) 1099511627776)) := (blk_cell a2 1).trans rfl
          have g2 : wr.cell? ⟨gs kk, 2, none⟩ = some (.slice AV (flt chunk kk (fs.drop m)).length cV) := (blk_cell a2 2).trans rfl
          have c93 : wr.cell? ⟨W1.heap.size, 3, none⟩ = some (.slice Ac nC cc) := (blk_cell h9 3).trans rfl
          have z93 := blk_frozen h9 3
          have HR0 := Lib.hid r0
          have HR1 := Lib.hid r1
          have HA4 := Lib.hid a4
          have HRow := Lib.hid hRow
          have HKR := Lib.hid hKR
          have HSU := Lib.hid hsucc
          have pi : 0 ≤ (i : Int) := by omega
          have qi : (i : Int) < (K.length : Int) := by omega
          replace pi := eq_true pi
          replace qi := eq_true qi
          clear hVe a1 r0 r1 a4 hRow hKR hKC hsucc
          have BX : Below wr.heap.size wr (wr.alloc (.cells #[.int .i64 kk, .int .i64 (min (kk + chunk) 1099511627776), .slice AV (flt chunk kk (fs.drop m)).length cV] 55)).drew := ((Below.refl _ wr).alloc (Nat.le_refl _) _).drew
          have hlkd : (Instr.lookup 66 (.map (some (w.heap.size + 1))) (.int .i64 kk) false).run Try.prog wr.drew = .ok (.pointer (some ⟨gs kk, 0, none⟩)) wr.drew := (CMr.out.below (Below.refl _ _).drew).look hkm kb0 (by omega)
          have c9X : (wr.alloc (.cells #[.int .i64 kk, .int .i64 (min (kk + chunk) 1099511627776), .slice AV (flt chunk kk (fs.drop m)).length cV] 55)).cell? ⟨W1.heap.size, 3, none⟩ = some (.slice Ac nC cc) := (blk_cell (blk_alloc h9 _) 3).trans rfl
          have HBX := Lib.hid (hB2.trans (BX.mono hB2.size))
          have HRX := Lib.hid (HRow.out.below BX)
          have FKX := Lib.hid (FK_chunk (s := ⟨kk, min (kk + chunk) 1099511627776⟩) (okc := fun k => k < W1.heap.size ∧ k ≠ x ∧ some k ≠ vb.ownBlock ∧ some k ≠ (Value.slice (some ⟨g, 0, none⟩) fs.length cap).ownBlock ∧ k ≠ w.heap.size) (HA4.out.below BX) (fun k hk => ⟨⟨Nat.lt_trans hk.1 hsz1, hk.2.1, hk.2.2.1, hk.2.2.2, Nat.ne_of_lt hk.1⟩, fun e => by have := HR0.out k e.symm; have := hk.1; omega⟩) (fun k hk => ⟨HR1.out k hk, by have := HR0.out k hk; omega, fun e => by have := HR0.out k hk; have := hbo.out k e.symm; omega, fun e => by have := HR0.out k hk; have := hfs.out k e.symm; omega, fun e => by subst e; exact HA4.out.ne (blk_below RS1.out hB2) (by decide) hk.symm⟩))
          have h9X := Lib.hid (blk_below h9 BX)
          have HKX := Lib.hid (Kd.R_below HKR.out BX)
          clear h9
          go_wp2
          go_region_law
            (first
              | ((refine Row.append_step k55 (w0 := W1) W1.heap.size (by rfl) (.tmp 117) (.tmp 123) 39 55 _ 40 (by rfl) Try.underlying39 info55 rfl (by decide) (by decide) (.slice Ac nC cc) ((chks chunk (fs.drop m) K).take i) ⟨⟨kk, min (kk + chunk) 1099511627776⟩, flt chunk kk (fs.drop m)⟩ [.int .i64 kk, .int .i64 (min (kk + chunk) 1099511627776), .slice AV (flt chunk kk (fs.drop m)).length cV] wr.heap.size _ (by rfl) (by rfl) (blk_new wr _) HRX.out FKX.out ?qa HBX.out HBX.out.size ?qb ?_; (case qa => exact fun k hk _ e => Nat.lt_irrefl _ (Nat.lt_of_lt_of_le hk.1 (HRX.out.base k e.symm))); (case qb => rw [HNC.out]; omega); intro v1 w4 hR4 hB4 hg4 hat4; obtain ⟨A4, c4, hv4⟩ := hR4.slice; rw [List.length_append, HNC.out] at hv4; subst hv4; have X4 := blk_grown h9X.out hg4 (HRX.out.ne h9X.out (by decide)); have y4 : w4.cell? ⟨W1.heap.size, 3, none⟩ = some (.slice Ac nC cc) := (blk_cell X4 3).trans rfl; have z4 := blk_frozen X4 3)))
          all_goals
            have K4 := Lib.hid (Kd.R_step HKX.out (fun k hk hlt => hg4.block k hlt (fun e => by
              obtain ⟨cells, hc⟩ := Kd.R_typed HKX.out k hk.symm
              exact HRX.out.ne hc (by decide) e)))
            have L5 : Hid (LS W1 (w4.setCell ⟨W1.heap.size, 3, none⟩ (.slice A4 (nC + 1) c4)) x w.heap.size (.slice (some ⟨g, 0, none⟩) fs.length cap) vb (.slice (some ak) K.length cK) K (last + 1) (next - 1 - (p : Int)) (next - 1) p (chks chunk (fs.drop m) K) (i + 1)) := Lib.hid ⟨.slice A4 (nC + 1) c4, hB4.setCell (p := ⟨W1.heap.size, 3, none⟩) (Nat.le_refl _) _, Kd.R_step K4.out (fun k hk hlt => Below.heap_setCell w4 ⟨W1.heap.size, 3, none⟩ _ k (fun e => by
              have e : k = W1.heap.size := e
              subst e
              obtain ⟨cells, hc⟩ := Kd.R_typed K4.out _ hk.symm
              rw [X4] at hc
              injection hc with hc
              injection hc with _ hc
              cases hc)), blk_put X4 3 _ rfl, by
                rw [HSU.out]
                exact hR4.step (fun k hk _ => Below.heap_setCell w4 ⟨W1.heap.size, 3, none⟩ _ k (Nat.ne_of_lt hk.1)) (fun k hk => Below.heap_setCell w4 ⟨W1.heap.size, 3, none⟩ _ k (fun e => by
                  have e : k = W1.heap.size := e
                  subst e
                  exact hR4.ne X4 (by decide) hk.symm))⟩
            generalize w4.setCell ⟨W1.heap.size, 3, none⟩ (.slice A4 (nC + 1) c4) = w5 at L5 ⊢
            go_wp2
            go_roundg (K.length - i)
            case measure => omega
            case rel => exact ⟨i + 1, by simp, by omega, by omega, L5.out⟩
        · have ci : decide ((i : Int) < (K.length : Int)) = false := decide_eq_false (by omega)
          have hce : (chks chunk (fs.drop m) K).take i = chks chunk (fs.drop m) K := List.take_of_length_le (by simp [chks]; omega)
          rw [hce] at hRow HNC
          have hsW := hB2.size
          have XR := blk_below X1 hB2
          have FR := Lib.hid (Kd.N_below F1.out hB2)
          have GR := Lib.hid (Kd.N_below G1.out hB2)
          have RSR := Lib.hid (blk_below RS1.out hB2)
          have hrb := Lib.hid (fun k hk => hRow.base k hk)
          have hrl := Lib.hid (fun k hk => hRow.lt k hk)
          have KR := Lib.hid (K1.out.trans (KeepBut.of_below hB2 x vb.ownBlock) (.inl rfl))
          have BR := Lib.hid (B1.out.trans (hB2.mono (Nat.le_trans hbase (Nat.le_of_lt hsz1))))
          obtain ⟨Ab, cb, hvb⟩ := Kd.N_slice GR.out
          subst hvb
          have hgoodc := Lib.hid (goodc (chunk := chunk) (K := K) HG.out (L := fs.drop m) (fun f hf => List.mem_of_mem_drop hf) (by simp) (by omega))
          have x6 : wr.cell? ⟨x, 6, none⟩ = some (.slice Ab bs.length cb) := (blk_cell XR 6).trans rfl
          have q0 : wr.cell? ⟨W1.heap.size, 0, none⟩ = some (.int .i64 (last + 1)) := (blk_cell h9 0).trans rfl
          have q1 : wr.cell? ⟨W1.heap.size, 1, none⟩ = some (.int .u64 (next - 1 - (p : Int))) := (blk_cell h9 1).trans rfl
          have q2 : wr.cell? ⟨W1.heap.size, 2, none⟩ = some (.int .u64 (next - 1)) := (blk_cell h9 2).trans rfl
          have q3 : wr.cell? ⟨W1.heap.size, 3, none⟩ = some (.slice Ac nC cc) := (blk_cell h9 3).trans rfl
          have q4 : wr.cell? ⟨W1.heap.size, 4, none⟩ = some (.int .i64 (p : Int)) := (blk_cell h9 4).trans rfl
          have BX : Below wr.heap.size wr (wr.alloc (.cells #[.int .i64 (last + 1), .int .u64 (next - 1 - (p : Int)), .int .u64 (next - 1), .slice Ac nC cc, .int .i64 (p : Int)] 70)).drew := ((Below.refl _ wr).alloc (Nat.le_refl _) _).drew
          have x6X : (wr.alloc (.cells #[.int .i64 (last + 1), .int .u64 (next - 1 - (p : Int)), .int .u64 (next - 1), .slice Ac nC cc, .int .i64 (p : Int)] 70)).cell? ⟨x, 6, none⟩ = some (.slice Ab bs.length cb) := (blk_cell (blk_alloc XR _) 6).trans rfl
          have HRX := Lib.hid (hRow.below BX)
          have FKB := Lib.hid (FK_batch (okc := fun k => ((k ≠ x ∧ k ≠ w.heap.size) ∧ some k ≠ (Value.slice (some ⟨g, 0, none⟩) fs.length cap).ownBlock) ∧ some k ≠ (Value.slice Ab bs.length cb).ownBlock) (a := last + 1) (b := next - 1 - (p : Int)) (c := next - 1) (m := (p : Int)) HRX.out (fun k hk => ⟨⟨⟨⟨hk.2.1, hk.2.2.2.2⟩, hk.2.2.2.1⟩, hk.2.2.1⟩, fun e => Nat.lt_irrefl _ (Nat.lt_of_lt_of_le hk.1 (hrb.out k e.symm))⟩) (fun k hk => ⟨⟨⟨by have := hrb.out k hk; omega, by have := hrb.out k hk; omega⟩, fun e => by have := hrb.out k hk; have := hfs.out k e.symm; omega⟩, fun e => by have := hrb.out k hk; have := hbo.out k e.symm; omega⟩))
          have XX := Lib.hid (blk_below XR BX)
          have FX := Lib.hid (Kd.N_below FR.out BX)
          have GX := Lib.hid (Kd.N_below GR.out BX)
          have RSX := Lib.hid (blk_below RSR.out BX)
          have H9X := Lib.hid (blk_below h9 BX)
          have KRX := Lib.hid (KR.out.trans (KeepBut.of_below BX x _) (.inl rfl))
          have BRX := Lib.hid (BR.out.trans (BX.mono (Nat.le_trans hbase (Nat.le_trans (Nat.le_of_lt hsz1) hsW))))
          have hqa : ∀ k, (((k ≠ x ∧ k ≠ w.heap.size) ∧ some k ≠ (Value.slice (some ⟨g, 0, none⟩) fs.length cap).ownBlock) ∧ some k ≠ (Value.slice Ab bs.length cb).ownBlock) ∨ k = wr.heap.size → (((k ≠ x ∧ k ≠ w.heap.size) ∧ some k ≠ (Value.slice (some ⟨g, 0, none⟩) fs.length cap).ownBlock) ∧ some k ≠ (Value.slice Ab bs.length cb).ownBlock) := fun k hk => by
            rcases hk with hk | rfl
            · exact hk
            · exact ⟨⟨⟨by omega, by omega⟩, fun e => by have := hfs.out _ e.symm; omega⟩, fun e => by have := hbo.out _ e.symm; omega⟩
          have hqb : ∀ k, (wr.alloc (.cells #[.int .i64 (last + 1), .int .u64 (next - 1 - (p : Int)), .int .u64 (next - 1), .slice Ac nC cc, .int .i64 (p : Int)] 70)).drew.heap.size ≤ k → (k ≠ x ∧ k ≠ w.heap.size) ∧ some k ≠ (Value.slice (some ⟨g, 0, none⟩) fs.length cap).ownBlock := fun k hk => by
            have := BX.size
            exact ⟨⟨by omega, by omega⟩, fun e => by have := hfs.out _ e.symm; omega⟩
          clear hRow h9 hKR XR hce
          go_wp2
          go_region_law
            (first
              | ((refine Kd.N_append_rows_step k70 (w0 := w) base (by rfl) (.tmp 132) (.tmp 134) 61 70 _ 56 (by rfl) Try.underlying61 info70 rfl (by decide) (by decide) (.slice Ab bs.length cb) bs [⟨last + 1, next - 1 - (p : Int), next - 1, chks chunk (fs.drop m) K, p⟩] (some ⟨wr.heap.size, 0, none⟩) 1 1 _ _ (by rfl) (by rfl) GX.out (F_one (blk_new wr _) FKB.out) ?qa ?qb BRX.out (Nat.le_trans hbase BRX.out.size) ?qc ?_; (case qa => exact hqa); (case qb => exact hqb); (case qc => omega); intro vb1 w4 hN4 hB4 hg4 hat4; obtain ⟨A4, c4, rfl⟩ := Kd.N_slice hN4; have X4 := blk_grown XX.out hg4 (fun e => by have := hbo.out _ e.symm; have := (GX.out.1 x e.symm).1.1; exact this rfl); have y4 : w4.cell? ⟨x, 6, none⟩ = some (.slice Ab bs.length cb) := (blk_cell X4 6).trans rfl; have z4 := blk_frozen X4 6)))
          all_goals
            have hlen : (bs ++ [(⟨last + 1, next - 1 - (p : Int), next - 1, chks chunk (fs.drop m) K, p⟩ : S70)]).length = bs.length + 1 := by simp
            have F4 := Lib.hid (Kd.N_after FX.out hg4 hat4)
            have H94 := blk_grown H9X.out hg4 (fun e => by have := hbo.out _ e.symm; omega)
            have R4 := HRX.out.step (fun k hk hlt => hg4.block k hlt hk.2.2.1) (fun k hk => hg4.block k (HRX.out.lt k hk) (fun e => by have := hrb.out k hk; have := hbo.out k e.symm; omega))
            have RS4 := blk_grown RSX.out hg4 (fun e => by have := hbo.out _ e.symm; omega)
            rw [hlen] at hN4 F4
            have X5 : (w4.setCell ⟨x, 6, none⟩ (.slice A4 (bs.length + 1) c4)).heap[x]? = some (ink dims meas chunk next (.slice (some ⟨g, 0, none⟩) fs.length cap) p (.slice A4 (bs.length + 1) c4) (last + 1)) := blk_put X4 6 _ rfl
            have F5 := Lib.hid (Kd.N_far F4.out (p := ⟨x, 6, none⟩) (fun k hk => hk.1.1) (.slice A4 (bs.length + 1) c4))
            have G5 := Lib.hid (Kd.N_far hN4 (p := ⟨x, 6, none⟩) (fun k hk => hk.1.1) (.slice A4 (bs.length + 1) c4))
            have H95 := blk_far H94 (p := ⟨x, 6, none⟩) (fun e => by have e : W1.heap.size = x := e; omega) (.slice A4 (bs.length + 1) c4)
            have RS5 := Lib.hid (blk_far RS4 (p := ⟨x, 6, none⟩) (fun e => by have e : w.heap.size = x := e; omega) (.slice A4 (bs.length + 1) c4))
            have R5 := Lib.hid (R4.step (w1 := w4.setCell ⟨x, 6, none⟩ (.slice A4 (bs.length + 1) c4)) (fun k hk _ => Below.heap_setCell w4 ⟨x, 6, none⟩ _ k hk.2.1) (fun k hk => Below.heap_setCell w4 ⟨x, 6, none⟩ _ k (fun e => by have e : k = x := e; have := hrb.out k hk; omega)))
            have K5 := Lib.hid ((KRX.out.trans (KeepBut.of_grown hg4 x) (.inl rfl)).set_ 6 (.slice A4 (bs.length + 1) c4))
            have B5 := Lib.hid (hB4.setCell (p := ⟨x, 6, none⟩) H.out.bx (.slice A4 (bs.length + 1) c4))
            generalize w4.setCell ⟨x, 6, none⟩ (.slice A4 (bs.length + 1) c4) = w5 at X5 F5 G5 H95 RS5 R5 B5 K5 ⊢
            have y5 : w5.cell? ⟨x, 5, none⟩ = some (.int .i64 (p : Int)) := (blk_cell X5 5).trans rfl
            have z5 := blk_frozen X5 5
            have X6 : (w5.setCell ⟨x, 5, none⟩ (.int .i64 0)).heap[x]? = some (ink dims meas chunk next (.slice (some ⟨g, 0, none⟩) fs.length cap) 0 (.slice A4 (bs.length + 1) c4) (last + 1)) := blk_put X5 5 _ rfl
            have F6 := Lib.hid (Kd.N_far F5.out (p := ⟨x, 5, none⟩) (fun k hk => hk.1.1) (.int .i64 0))
            have G6 := Lib.hid (Kd.N_far G5.out (p := ⟨x, 5, none⟩) (fun k hk => hk.1.1) (.int .i64 0))
            have H96 := blk_far H95 (p := ⟨x, 5, none⟩) (fun e => by have e : W1.heap.size = x := e; omega) (.int .i64 0)
            have RS6 := Lib.hid (blk_far RS5.out (p := ⟨x, 5, none⟩) (fun e => by have e : w.heap.size = x := e; omega) (.int .i64 0))
            have R6 := R5.out.step (w1 := w5.setCell ⟨x, 5, none⟩ (.int .i64 0)) (fun k hk _ => Below.heap_setCell w5 ⟨x, 5, none⟩ _ k hk.2.1) (fun k hk => Below.heap_setCell w5 ⟨x, 5, none⟩ _ k (fun e => by have e : k = x := e; have := hrb.out k hk; omega))
            have K6 := Lib.hid (K5.out.set_ 5 (.int .i64 0))
            have B6 := Lib.hid (B5.out.setCell (p := ⟨x, 5, none⟩) H.out.bx (.int .i64 0))
            have hs6 : W1.heap.size < (w5.setCell ⟨x, 5, none⟩ (.int .i64 0)).heap.size := blk_lt H96
            obtain ⟨A', c', he, hl', hC'⟩ := R6.reads (fun k hk e => Nat.lt_irrefl _ (Nat.lt_of_lt_of_le hk.1 (hrb.out k e.symm)))
            rw [HNC.out] at he hC' hl'
            injection he with he1 he2 he3
            subst he1
            subst he3
            have htold := told_calls (last + 1) (next - 1 - (p : Int)) (next - 1) Ac cc (chks chunk (fs.drop m) K) (p : Int) (w5.setCell ⟨x, 5, none⟩ (.int .i64 0)) (by rw [HNC.out]; exact hC') (by rw [HNC.out]; exact hl') hgoodc.out
            rw [HNC.out] at htold
            have q0 : (w5.setCell ⟨x, 5, none⟩ (.int .i64 0)).cell? ⟨W1.heap.size, 0, none⟩ = some (.int .i64 (last + 1)) := (blk_cell H96 0).trans rfl
            have q1 : (w5.setCell ⟨x, 5, none⟩ (.int .i64 0)).cell? ⟨W1.heap.size, 1, none⟩ = some (.int .u64 (next - 1 - (p : Int))) := (blk_cell H96 1).trans rfl
            have q2 : (w5.setCell ⟨x, 5, none⟩ (.int .i64 0)).cell? ⟨W1.heap.size, 2, none⟩ = some (.int .u64 (next - 1)) := (blk_cell H96 2).trans rfl
            have q3 : (w5.setCell ⟨x, 5, none⟩ (.int .i64 0)).cell? ⟨W1.heap.size, 3, none⟩ = some (.slice Ac nC cc) := (blk_cell H96 3).trans rfl
            have q4 : (w5.setCell ⟨x, 5, none⟩ (.int .i64 0)).cell? ⟨W1.heap.size, 4, none⟩ = some (.int .i64 (p : Int)) := (blk_cell H96 4).trans rfl
            clear X5 F5 G5 RS5 R5 H95 B5 K5 R6 hC' hl' X4 y4 z4 hN4 F4 H94 R4 RS4 hat4 hg4 hB4
            go_wp2_with (first
              | (go_at_call 23; refine htold.mono ?_; rintro e w7 ⟨v7, rfl, hR7, hb7⟩; have RS7 := blk_below RS6.out hb7; have t0 : w7.cell? ⟨w.heap.size, 0, none⟩ = some (.int .i64 0) := (blk_cell RS7 0).trans rfl; have t1 : w7.cell? ⟨w.heap.size, 1, none⟩ = some (.int .u64 0) := (blk_cell RS7 1).trans rfl; have t2 : w7.cell? ⟨w.heap.size, 2, none⟩ = some (.int .u64 0) := (blk_cell RS7 2).trans rfl; have t3 : w7.cell? ⟨w.heap.size, 3, none⟩ = some (.slice none 0 0) := (blk_cell RS7 3).trans rfl; have s0 := blk_frozen RS7 0; have s1 := blk_frozen RS7 1; have s2 := blk_frozen RS7 2; have s3 := blk_frozen RS7 3; obtain ⟨A7, c7, rfl⟩ := Kd.R_slice hR7; have HR7 := Lib.hid hR7; clear hR7))
            have RS8 := (blk_put (w := (((w7.setCell ⟨w.heap.size, 0, none⟩ (.int .i64 (last + 1))).setCell ⟨w.heap.size, 1, none⟩ (.int .u64 (next - 1 - (p : Int)))).setCell ⟨w.heap.size, 2, none⟩ (.int .u64 (next - 1)))) (blk_put (w := ((w7.setCell ⟨w.heap.size, 0, none⟩ (.int .i64 (last + 1))).setCell ⟨w.heap.size, 1, none⟩ (.int .u64 (next - 1 - (p : Int))))) (blk_put (w := (w7.setCell ⟨w.heap.size, 0, none⟩ (.int .i64 (last + 1)))) (blk_put (w := w7) RS7 0 (.int .i64 (last + 1)) rfl) 1 (.int .u64 (next - 1 - (p : Int))) rfl) 2 (.int .u64 (next - 1)) rfl) 3 (.slice A7 (chks chunk (fs.drop m) K).length c7) rfl)
            have X8 := Lib.hid (blk_far (w := (((w7.setCell ⟨w.heap.size, 0, none⟩ (.int .i64 (last + 1))).setCell ⟨w.heap.size, 1, none⟩ (.int .u64 (next - 1 - (p : Int)))).setCell ⟨w.heap.size, 2, none⟩ (.int .u64 (next - 1)))) (blk_far (w := ((w7.setCell ⟨w.heap.size, 0, none⟩ (.int .i64 (last + 1))).setCell ⟨w.heap.size, 1, none⟩ (.int .u64 (next - 1 - (p : Int))))) (blk_far (w := (w7.setCell ⟨w.heap.size, 0, none⟩ (.int .i64 (last + 1)))) (blk_far (w := w7) (blk_below X6 hb7) (p := ⟨w.heap.size, 0, none⟩) (fun e => by have e : x = w.heap.size := e; omega) (.int .i64 (last + 1))) (p := ⟨w.heap.size, 1, none⟩) (fun e => by have e : x = w.heap.size := e; omega) (.int .u64 (next - 1 - (p : Int)))) (p := ⟨w.heap.size, 2, none⟩) (fun e => by have e : x = w.heap.size := e; omega) (.int .u64 (next - 1))) (p := ⟨w.heap.size, 3, none⟩) (fun e => by have e : x = w.heap.size := e; omega) (.slice A7 (chks chunk (fs.drop m) K).length c7))
            have F8 := Lib.hid (Kd.N_far (Kd.N_far (Kd.N_far (Kd.N_far (Kd.N_below F6.out hb7) (p := ⟨w.heap.size, 0, none⟩) (fun k hk => hk.1.2) (.int .i64 (last + 1))) (p := ⟨w.heap.size, 1, none⟩) (fun k hk => hk.1.2) (.int .u64 (next - 1 - (p : Int)))) (p := ⟨w.heap.size, 2, none⟩) (fun k hk => hk.1.2) (.int .u64 (next - 1))) (p := ⟨w.heap.size, 3, none⟩) (fun k hk => hk.1.2) (.slice A7 (chks chunk (fs.drop m) K).length c7))
            have G8 := Lib.hid (Kd.N_far (Kd.N_far (Kd.N_far (Kd.N_far (Kd.N_below G6.out hb7) (p := ⟨w.heap.size, 0, none⟩) (fun k hk => hk.1.2) (.int .i64 (last + 1))) (p := ⟨w.heap.size, 1, none⟩) (fun k hk => hk.1.2) (.int .u64 (next - 1 - (p : Int)))) (p := ⟨w.heap.size, 2, none⟩) (fun k hk => hk.1.2) (.int .u64 (next - 1))) (p := ⟨w.heap.size, 3, none⟩) (fun k hk => hk.1.2) (.slice A7 (chks chunk (fs.drop m) K).length c7))
            have R8 := Lib.hid (Kd.R_far (Kd.R_far (Kd.R_far (Kd.R_far (Kd.R_mono (ok' := fun k => k ≠ w.heap.size) (Kd.R_bound HR7.out) (fun k hk => by have := hk.2.1; omega)) (p := ⟨w.heap.size, 0, none⟩) (fun k hk => hk) (.int .i64 (last + 1))) (p := ⟨w.heap.size, 1, none⟩) (fun k hk => hk) (.int .u64 (next - 1 - (p : Int)))) (p := ⟨w.heap.size, 2, none⟩) (fun k hk => hk) (.int .u64 (next - 1))) (p := ⟨w.heap.size, 3, none⟩) (fun k hk => hk) (.slice A7 (chks chunk (fs.drop m) K).length c7))
            have K8 := Lib.hid (keep_new (keep_new (keep_new (keep_new (K6.out.trans (KeepBut.of_below hb7 x _) (.inl rfl)) (p := ⟨w.heap.size, 0, none⟩) (Nat.le_refl _) (.int .i64 (last + 1))) (p := ⟨w.heap.size, 1, none⟩) (Nat.le_refl _) (.int .u64 (next - 1 - (p : Int)))) (p := ⟨w.heap.size, 2, none⟩) (Nat.le_refl _) (.int .u64 (next - 1))) (p := ⟨w.heap.size, 3, none⟩) (Nat.le_refl _) (.slice A7 (chks chunk (fs.drop m) K).length c7))
            have B8 := Lib.hid (((((B6.out.trans (hb7.mono (Nat.le_trans hbase (Nat.le_of_lt (Nat.lt_trans hsz1 hs6))))).setCell (p := ⟨w.heap.size, 0, none⟩) hbase (.int .i64 (last + 1))).setCell (p := ⟨w.heap.size, 1, none⟩) hbase (.int .u64 (next - 1 - (p : Int)))).setCell (p := ⟨w.heap.size, 2, none⟩) hbase (.int .u64 (next - 1))).setCell (p := ⟨w.heap.size, 3, none⟩) hbase (.slice A7 (chks chunk (fs.drop m) K).length c7))
            generalize ((((w7.setCell ⟨w.heap.size, 0, none⟩ (.int .i64 (last + 1))).setCell ⟨w.heap.size, 1, none⟩ (.int .u64 (next - 1 - (p : Int)))).setCell ⟨w.heap.size, 2, none⟩ (.int .u64 (next - 1))).setCell ⟨w.heap.size, 3, none⟩ (.slice A7 (chks chunk (fs.drop m) K).length c7)) = w8 at RS8 X8 F8 G8 R8 B8 K8 ⊢
            have t0 : w8.cell? ⟨w.heap.size, 0, none⟩ = some (.int .i64 (last + 1)) := (blk_cell RS8 0).trans rfl
            have t1 : w8.cell? ⟨w.heap.size, 1, none⟩ = some (.int .u64 (next - 1 - (p : Int))) := (blk_cell RS8 1).trans rfl
            have t2 : w8.cell? ⟨w.heap.size, 2, none⟩ = some (.int .u64 (next - 1)) := (blk_cell RS8 2).trans rfl
            have t3 : w8.cell? ⟨w.heap.size, 3, none⟩ = some (.slice A7 (chks chunk (fs.drop m) K).length c7) := (blk_cell RS8 3).trans rfl
            refine bodyPost_ret (v := .tuple #[.agg #[.int .i64 (last + 1), .int .u64 (next - 1 - (p : Int)), .int .u64 (next - 1), .slice A7 (chks chunk (fs.drop m) K).length c7], .int .i64 0]) (by simp [results, Try.results11, go_sem, t0, t1, t2, t3]) rfl ?_
            refine ⟨?_, K8.out⟩
            refine ⟨.slice A7 (chks chunk (fs.drop m) K).length c7, .slice A4 (bs.length + 1) c4, K, rfl, HKP.out, fun k => (HKM.out k).trans (HKS.out k), ?_, ⟨X8.out, ?_, ?_, H.out.bx⟩, B8.out⟩
            · exact Kd.R_lower (Kd.R_mono R8.out (fun _ _ => trivial)) (Nat.le_of_lt (Nat.lt_trans hsz1 hs6))
            · exact Kd.N_mono F8.out (fun k hk => ⟨hk.1.1, hk.2⟩)
            · exact Kd.N_mono G8.out (fun k hk => ⟨hk.1.1, hk.2⟩)
end Go.Proofs.Ytdlkhjfkhbeaaaa.QIn
