/- IntakeParts: the walk. -/
import Derived.Test.YtdlkhjfkhbeaaaaPt1
namespace Go.Proofs.Ytdlkhjfkhbeaaaa.QIn
open Go.RowKit Go.Maps Go.Proofs.YtdlkhjfkhbeaaaaW.PrintWords Go.Proofs.YtdlkhjfkhbeaaaaW.PrintLast Go.Proofs.YtdlkhjfkhbeaaaaW.PrintMore
/-- How often each fact was met: once, where P says so. -/
def metc (P : Nat → Bool) : Array Value := ((List.range 200).map fun t => Value.int .i64 (if P t then 1 else 0)).toArray
theorem metc_get (P : Nat → Bool) {t : Nat} (h : t < 200) : (metc P)[t]? = some (.int .i64 (if P t then 1 else 0)) := by
  unfold metc
  rw [List.getElem?_toArray, List.getElem?_map, List.getElem?_range h]
  rfl
theorem metc_set (P : Nat → Bool) {a : Nat} (h : a < 200) : (metc P).setIfInBounds a (.int .i64 1) = metc (fun t => P t || t == a) := by
  apply Array.ext_getElem?
  intro i
  rw [Array.getElem?_setIfInBounds]
  by_cases hi : i < 200
  · rw [metc_get (fun t => P t || t == a) hi]
    by_cases e : a = i
    · subst e
      have hs : a < (metc P).size := by simp [metc, h]
      simp [hs]
    · rw [if_neg e, metc_get P hi]
      have : (i == a) = false := by simpa using fun e' => e e'.symm
      simp [this]
  · have h1 : (metc fun t => P t || t == a)[i]? = none := by simp [metc]; omega
    have h2 : (metc P)[i]? = none := by simp [metc]; omega
    rw [h1, h2, if_neg (by omega)]
/-- What the later loops keep: what Batches left, and the counts. -/
structure MT (w6 w' : World) (P : Nat → Bool) : Prop where mk ::
  b : Below w6.heap.size w6 w'
  m : w'.heap[w6.heap.size]? = some (.cells (metc P) 51 (0, 0))
theorem MT.below {w6 w1 w2 : World} {P : Nat → Bool} (h : MT w6 w1 P) (hb : Below w1.heap.size w1 w2) : MT w6 w2 P := ⟨h.b.trans (hb.mono h.b.size), blk_below h.m hb⟩
theorem MT.put {w6 w1 : World} {P : Nat → Bool} {a : Nat} (h : MT w6 w1 P) (ha : a < 200) : MT w6 (w1.setCell ⟨w6.heap.size, a, none⟩ (.int .i64 1)) (fun t => P t || t == a) :=
  ⟨h.b.setCell (p := ⟨w6.heap.size, a, none⟩) (Nat.le_refl _) _, blk_put h.m a _ (metc_set P ha)⟩
theorem MT.cell {w6 w1 : World} {P : Nat → Bool} {a : Nat} (h : MT w6 w1 P) (ha : a < 200) : w1.cell? ⟨w6.heap.size, a, none⟩ = some (.int .i64 (if P a then 1 else 0)) := (blk_cell h.m a).trans (metc_get P ha)
set_option maxRecDepth 100000 in
theorem zero51 (w : World) : (zeroValue 51).run Try.prog w = .ok (.agg (metc fun t => decide (t < 0))) w := by kernel_rfl
set_option maxRecDepth 100000 in
set_option maxHeartbeats 80000000 in
theorem parts_walk (A0 A1 : Option Addr) (c0 c1 : Nat) (ts : List Int) (ss : List Bool) (c : Int) (w : World) (C0 : Kd.C (Kd.int .i64) w A0 ts.length ts) (C1 : Kd.C Kd.bool w A1 ss.length ss) (N0 : ∀ t ∈ ts, -9223372036854775808 ≤ t ∧ t ≤ 9223372036854775807) (Nc : -9223372036854775808 ≤ c ∧ c ≤ 9223372036854775807) :
    Calls Try.prog 4 #[.slice A0 ts.length c0, .slice A1 ss.length c1, .int .i64 c] w fun e w' => e = .returned (.bool true) ∧ Below w.heap.size w w' := by
  have m0 := C0.2.1
  have m1 := C1.2.1
  have hca := ab_pos c
  have hct := ab_top Nc.1 Nc.2
  obtain ⟨ch, hch, k1, k2⟩ : ∃ ch, 1 + ab c % 50 = ch ∧ 1 ≤ ch ∧ ch ≤ 50 := ⟨_, rfl, by omega, by omega⟩
  go_enter Try.func4, Try.ntmps4
  go_wp2_with (first
    | (go_at_call 6; refine (awake_calls _).mono ?_; rintro e w1 ⟨rfl, hb1⟩)
    | (go_at_call 8; refine (abs_calls c Nc.1 Nc.2 _).mono ?_; rintro e w3 ⟨rfl, rfl⟩)
    | (go_at_call 7; (try rw [hch]); refine (new_calls 0 0 ch 1 _ (by decide) (by decide) (by decide) (by decide) k1 (by omega) (by decide)).mono ?_; rintro e w2 ⟨x, rfl, hI, hb2⟩))
  have HS : PP w w2 w3.heap.size x ch ts 0 0 (.slice none 0 0) (.slice none 0 0) [] := ⟨Nat.zero_le _, by decide, hI, Int.le_refl _, Int.le_refl _, rfl, hb1.trans (hb2.mono hb1.size), hb1.size⟩
  clear hI hb1 hb2
  go_loopg [10, 11] 201 (fun kq v10 v11 w' => ∃ (j : Nat) (op : Int) (vf vb : Value) (bs : List S70), v10 = .int .i64 j ∧ v11 = .int .i64 j ∧ j + kq = 201 ∧ PP w w' w3.heap.size x ch ts j op vf vb bs)
  case atStart => exact ⟨0, 0, _, _, [], rfl, rfl, rfl, HS⟩
  case round =>
    clear HS
    obtain ⟨j, op, vf, vb, bs, rfl, rfl, hjk, HO⟩ := hrel
    have hjl := HO.tl
    have hj200 := HO.j2
    have hop0 := HO.op0
    have HA := Lib.hid HO
    by_cases hj : j < ts.length ∧ j < 200
    · obtain ⟨hj1, hj2⟩ := hj
      have d0 : decide ((j : Int) < (ts.length : Int)) = true := decide_eq_true (by omega)
      have d1 : decide ((j : Int) < 200) = true := decide_eq_true (by omega)
      have p0 : 0 ≤ (j : Int) := by omega
      have q0 : (j : Int) < (ts.length : Int) := by omega
      obtain ⟨ad, rfl, hx⟩ := Kd.at_int C0 (j : Int) p0 q0
      replace hx := (HO.hB.cell (World.block_lt_of_cell? w _ hx)).trans hx
      rw [Int.toNat_natCast] at hx
      replace p0 := eq_true p0
      replace q0 := eq_true q0
      have htb := N0 _ (rd_in hj1)
      have hap := ab_pos (rd ts j)
      have hat := ab_top htb.1 htb.2
      have hmb := tv_in (rd ts j)
      clear HO
      by_cases hs : j < ss.length
      · have f0 : decide ((j : Int) < (ss.length : Int)) = true := decide_eq_true (by omega)
        obtain ⟨ad2, rfl, hx2f⟩ := Kd.at_bool C1 (j : Int) (by omega) (by omega)
        replace hx2f := Lib.hid hx2f
        have hx2 := Lib.hid ((World.block_lt_of_cell? w _ hx2f.out))
        have q2 : ((j : Int) < (ss.length : Int)) = True := eq_true (by omega)
        rw [Int.toNat_natCast] at hx2 hx2f
        go_wp2_with (first
          | (go_at_call 8; refine (abs_calls (rd ts j) htb.1 htb.2 _).mono ?_; rintro e w3 ⟨rfl, rfl⟩)
          | (go_at_call 10; refine (at_calls _ _).mono ?_; rintro e wn ⟨A3, c3, A4, c4, rfl, hbn⟩; have HA2 := Lib.hid (HA.out.below hbn); clear hbn HA)
          | (go_at_call 9; refine (at_P HA2.out hj1 hj2 A3 A4 c3 c4).mono ?_; rintro e wm ⟨vf2, rfl, hO3⟩; have HA3 := Lib.hid hO3; have hx2' := (hO3.hB.cell hx2.out).trans hx2f.out; clear hO3 HA2)
          | (go_at_call 11; refine (seal_P HA3.out (by omega) k1 k2).mono ?_; rintro e w5 ⟨sa, sb, sc, sA, sn, scp, vb5, bs5, rfl, hO5⟩; have HA5 := Lib.hid hO5; clear hO5 HA3)
          | (go_at_call 11; refine (seal_P0 (HA5.out.below ((Below.refl _ _).alloc (Nat.le_refl _) _))).mono ?_; rintro e w6 ⟨rfl, hO6⟩; have HA6 := Lib.hid hO6; clear hO6 HA5))
        all_goals
          go_roundg (200 - j)
          case measure => omega
          case rel => first | exact ⟨j + 1, _, _, _, _, rfl, rfl, by omega, HA6.out.below ((Below.refl _ _).alloc (Nat.le_refl _) _)⟩ | exact ⟨j + 1, _, _, _, _, rfl, rfl, by omega, HA3.out⟩
      · have f0 : decide ((j : Int) < (ss.length : Int)) = false := decide_eq_false (by omega)
        go_wp2_with (first
          | (go_at_call 8; refine (abs_calls (rd ts j) htb.1 htb.2 _).mono ?_; rintro e w3 ⟨rfl, rfl⟩)
          | (go_at_call 10; refine (at_calls _ _).mono ?_; rintro e wn ⟨A3, c3, A4, c4, rfl, hbn⟩; have HA2 := Lib.hid (HA.out.below hbn); clear hbn HA)
          | (go_at_call 9; refine (at_P HA2.out hj1 hj2 A3 A4 c3 c4).mono ?_; rintro e wm ⟨vf2, rfl, hO3⟩; have HA3 := Lib.hid hO3; clear hO3 HA2))
        go_roundg (200 - j)
        case measure => omega
        case rel => exact ⟨j + 1, _, _, _, _, rfl, rfl, by omega, HA3.out⟩
    · clear HO
      have hz51 := zero51
      go_wp2_with (first
        | (go_at_call 11; refine (seal_Pa HA.out k1 k2).mono ?_; rintro e w5 ⟨v5, vb5, bs5, rfl, hO5⟩; have HA5 := Lib.hid hO5; clear hO5 HA)
        | (go_at_call 14; refine (batches_calls HA5.out.hI HA5.out.good).mono ?_; rintro e w6 ⟨v6, rfl, hR6, hb6⟩; obtain ⟨A6, c6, rfl, hl6, hC6⟩ := Kd.R_reads hR6; rw [List.length_map] at hC6 ⊢; have HP := Lib.hid (HA5.out.below hb6); clear hR6 hb6 hl6 HA5))
      all_goals
        have hbn := HP.out.len
        have hM0 : MT w6 (w6.alloc (.cells (metc fun t => decide (t < 0)) 51)) (fun t => decide (t < 0)) := ⟨(Below.refl _ _).alloc (Nat.le_refl _) _, blk_new _ _⟩
        go_loopg [18, 19] (bs5.length + 1) (fun kq v18 v19 w' => ∃ (i p : Nat), v19 = .int .i64 i ∧ v18 = .int .u64 p ∧ i + kq = bs5.length + 1 ∧ i ≤ bs5.length ∧ Bs ch ts (bs5.take i) 0 0 p ∧ MT w6 w' (fun t => decide (t < p)))
        case atStart => exact ⟨0, 0, rfl, rfl, by omega, by omega, rfl, hM0⟩
        case round =>
          clear hM0
          obtain ⟨i, p, rfl, rfl, hik, hil, hBi, hM⟩ := hrel
          by_cases hi : i < bs5.length
          · have di : decide ((i : Int) < (bs5.length : Int)) = true := decide_eq_true (by omega)
            obtain ⟨p', q, hb, hB1, hB2⟩ := Bs_at i HP.out.hBs hi
            obtain rfl : p = p' := Bs_fun hBi hB1
            have hpq := hb.lt
            have hq0 := Bs_le hB2
            have hqj : q ≤ j := by omega
            obtain ⟨K, hKp, hKm, hf3⟩ := hb.K
            have pi0 : 0 ≤ (i : Int) := by omega
            have qi0 : (i : Int) < (bs5.length : Int) := by omega
            obtain ⟨ad6, A3, c3, rfl, x0, x1, x2, x3, l3, hC3⟩ := at_T41 hC6 (i : Int) pi0 qi0
            replace x0 := (hM.b.cell (World.block_lt_of_cell? w6 _ x0)).trans x0
            replace x1 := (hM.b.cell (World.block_lt_of_cell? w6 _ x1)).trans x1
            replace x2 := (hM.b.cell (World.block_lt_of_cell? w6 _ x2)).trans x2
            replace x3 := (hM.b.cell (World.block_lt_of_cell? w6 _ x3)).trans x3
            have e0 : (tld bs5[i]).f0 = (i : Int) + 1 := by have := hb.n; simpa [tld] using this
            have e1 : (tld bs5[i]).f1 = p := hb.f
            have e2 : (tld bs5[i]).f2 = q := hb.t
            have e3 : (tld bs5[i]).f3 = chks ch (seg ts p q) K := hf3
            rw [rd41_tld hi, Int.toNat_natCast] at x0 x1 x2 x3
            rw [rd41_tld hi] at l3 hC3
            rw [e0] at x0
            rw [e1] at x1
            rw [e2] at x2
            rw [e3, chks_len] at x3 l3 hC3
            replace pi0 := eq_true pi0
            replace qi0 := eq_true qi0
            have dq : decide ((q : Int) ≤ (p : Int)) = false := decide_eq_false (by omega)
            have dqn : decide (q ≤ p) = false := decide_eq_false (by omega)
            have dqo : ¬ q ≤ p := by omega
            clear e0 e1 e2 e3 hf3 hB1 hB2
            have hKl : K.length ≤ 200 := by
              have h1 := keys_len hKp hKm
              rw [seg_len (by omega)] at h1
              omega
            have HBi := Lib.hid hBi
            have Hb := Lib.hid hb
            have HMi := Lib.hid hM
            have HC3 := Lib.hid hC3
            have HKp := Lib.hid hKp
            have HKm := Lib.hid hKm
            clear hBi hb hM hC3 hKp hKm
            go_wp2
            obtain ⟨wa, hwa⟩ : ∃ wa, wa = wr := ⟨_, rfl⟩
            subst hwa
            have hMB : MT w6 (wa.alloc (.cells #[.int .i64 ((i : Int) + 1), .int .u64 p, .int .u64 q, .slice A3 K.length c3] 41)) (Pk ts ch p q []) := by
              rw [Pk_nil]
              exact HMi.out.below ((Below.refl _ _).alloc (Nat.le_refl _) _)
            have hgb0 := blk_new wa (.cells #[.int .i64 ((i : Int) + 1), .int .u64 p, .int .u64 q, .slice A3 K.length c3] 41)
            clear x0 x1 x2 x3 HMi dq
            go_loopg [21] (K.length + 1) (fun kq v21 w' => ∃ k : Nat, v21 = .int .i64 k ∧ k + kq = K.length + 1 ∧ k ≤ K.length ∧ MT w6 w' (Pk ts ch p q (K.take k)) ∧ w'.heap[wa.heap.size]? = some (.cells #[.int .i64 ((i : Int) + 1), .int .u64 p, .int .u64 q, .slice A3 K.length c3] 41 (0, 0)))
            case atStart => exact ⟨0, rfl, by omega, by omega, hMB, hgb0⟩
            case round =>
              clear hMB hgb0
              obtain ⟨k, rfl, hkk, hkl, hM, hgb⟩ := hrel
              have b2 : wr.cell? ⟨wa.heap.size, 2, none⟩ = some (.int .u64 q) := (blk_cell hgb 2).trans rfl
              have hbl := blk_lt hgb
              have b1 : wr.cell? ⟨wa.heap.size, 1, none⟩ = some (.int .u64 p) := (blk_cell hgb 1).trans rfl
              have b3 : wr.cell? ⟨wa.heap.size, 3, none⟩ = some (.slice A3 K.length c3) := (blk_cell hgb 3).trans rfl
              by_cases hk : k < K.length
              · have dk : decide ((k : Int) < (K.length : Int)) = true := decide_eq_true (by omega)
                have pk0 : 0 ≤ (k : Int) := by omega
                have qk0 : (k : Int) < (K.length : Int) := by omega
                obtain ⟨κ0, κ1, κ2, κ3⟩ := key_in k1 k2 HKm.out hk
                have hnew := key_new HKp.out hk
                obtain ⟨ad3, A5, c5, rfl, y0, y1, y2, l5, hC5⟩ := at_T55 HC3.out (k : Int) pk0 qk0
                rw [rd55_chks hk] at y0 y1 y2 l5 hC5
                have hsnoc : K.take (k + 1) = K.take k ++ [K[k]] := List.take_succ_eq_append_getElem hk
                rw [Int.toNat_natCast] at y0 y1 y2
                replace y0 := (hM.b.cell (World.block_lt_of_cell? w6 _ y0)).trans y0
                replace y1 := (hM.b.cell (World.block_lt_of_cell? w6 _ y1)).trans y1
                replace y2 := (hM.b.cell (World.block_lt_of_cell? w6 _ y2)).trans y2
                simp only [κ3] at y0 y1 y2 l5 hC5
                generalize K[k] = κ at κ0 κ1 κ2 κ3 hnew y0 y1 y2 l5 hC5 hsnoc
                obtain ⟨G, hG⟩ : ∃ G, G = flt ch κ (seg ts p q) := ⟨_, rfl⟩
                rw [← hG] at y2 l5 hC5
                replace pk0 := eq_true pk0
                replace qk0 := eq_true qk0
                have hcz : (ch == 0) = false := by simp; omega
                have HSN := Lib.hid hsnoc
                have HNW := Lib.hid hnew
                have HC5 := Lib.hid hC5
                have HMk := Lib.hid hM
                have HGB := Lib.hid hgb
                have hGl : G.length ≤ 200 := by
                  have h1 := List.length_filter_le (fun f => frm ch f.f0 == κ) (seg ts p q)
                  have h2 : (seg ts p q).length = q - p := seg_len (by omega)
                  rw [hG]
                  unfold flt
                  omega
                have HG := Lib.hid hG
                clear hsnoc hnew hC5 hM hgb hG
                go_wp2
                obtain ⟨wb, hwb⟩ : ∃ wb, wb = wr := ⟨_, rfl⟩
                subst hwb
                have hMC : MT w6 (wb.alloc (.cells #[.int .i64 κ, .int .i64 (κ + ch), .slice A5 G.length c5] 55)) (Pj ts ch p q (K.take k) κ p) := by
                  rw [Pj_start]
                  exact HMk.out.below ((Below.refl _ _).alloc (Nat.le_refl _) _)
                have hgb1 := blk_alloc HGB.out (.cells #[.int .i64 κ, .int .i64 (κ + ch), .slice A5 G.length c5] 55)
                have hgc1 := blk_new wb (.cells #[.int .i64 κ, .int .i64 (κ + ch), .slice A5 G.length c5] 55)
                have hG0 : flt ch κ (seg ts p p) = G.take 0 := by rw [seg_self]; rfl
                clear y0 y1 y2 HMk HGB b1 b2 b3 κ2
                go_loopg [23, 24] (G.length + 1) (fun kq v23 v24 w' => ∃ (a l : Nat), v23 = .int .u64 a ∧ v24 = .int .i64 l ∧ l + kq = G.length + 1 ∧ l ≤ G.length ∧ p ≤ a ∧ a ≤ q ∧ flt ch κ (seg ts p a) = G.take l ∧ MT w6 w' (Pj ts ch p q (K.take k) κ a) ∧ w'.heap[wa.heap.size]? = some (.cells #[.int .i64 ((i : Int) + 1), .int .u64 p, .int .u64 q, .slice (some ad3) K.length c3] 41 (0, 0)) ∧ w'.heap[wb.heap.size]? = some (.cells #[.int .i64 κ, .int .i64 (κ + ch), .slice A5 G.length c5] 55 (0, 0)))
                case atStart => exact ⟨p, 0, rfl, rfl, by omega, by omega, Nat.le_refl _, by omega, hG0, hMC, hgb1, hgc1⟩
                case round =>
                  clear hMC hgb1 hgc1 hG0
                  obtain ⟨a, l, rfl, rfl, hlk, hll, hpa, haq, hI, hM, hgb, hgc⟩ := hrel
                  have b2 : wr.cell? ⟨wa.heap.size, 2, none⟩ = some (.int .u64 q) := (blk_cell hgb 2).trans rfl
                  have g0 : wr.cell? ⟨wb.heap.size, 0, none⟩ = some (.int .i64 κ) := (blk_cell hgc 0).trans rfl
                  have g1 : wr.cell? ⟨wb.heap.size, 1, none⟩ = some (.int .i64 (κ + ch)) := (blk_cell hgc 1).trans rfl
                  have g2 : wr.cell? ⟨wb.heap.size, 2, none⟩ = some (.slice A5 G.length c5) := (blk_cell hgc 2).trans rfl
                  by_cases hl : l < G.length
                  · have dl : decide ((l : Int) < (G.length : Int)) = true := decide_eq_true (by omega)
                    have pl0 : 0 ≤ (l : Int) := by omega
                    have ql0 : (l : Int) < (G.length : Int) := by omega
                    obtain ⟨ad5, _, _, _, _, rfl, z0, _⟩ := at_T37 HC5.out (l : Int) pl0 ql0
                    rw [rd37_get hl, Int.toNat_natCast] at z0
                    replace z0 := (hM.b.cell (World.block_lt_of_cell? w6 _ z0)).trans z0
                    have hin : G[l] ∈ flt ch κ (seg ts p q) := HG.out ▸ List.getElem_mem hl
                    have hτ0 := seg_of (flt_fits hin).1
                    have hτ1 := frm_bd hτ0.1 k1
                    rw [(flt_fits hin).2] at hτ1
                    obtain ⟨τ, hτ⟩ : ∃ τ, τ = G[l].f0 := ⟨_, rfl⟩
                    rw [← hτ] at z0 hτ0 hτ1
                    replace pl0 := eq_true pl0
                    replace ql0 := eq_true ql0
                    have HT := Lib.hid hτ
                    have HI := Lib.hid hI
                    have HMl := Lib.hid hM
                    have HGB := Lib.hid hgb
                    have HGC := Lib.hid hgc
                    clear hτ hI hM hgb hgc hin
                    have hbl2 := blk_lt HGB.out
                    have hbl3 := blk_lt HGC.out
                    go_wp2
                    obtain ⟨wc, hwc⟩ : ∃ wc, wc = wr := ⟨_, rfl⟩
                    subst hwc
                    go_loopg [23] (q + 1 - a) (fun kq v23 w' => ∃ b : Nat, v23 = .int .u64 b ∧ b + kq = q + 1 ∧ a ≤ b ∧ b ≤ q ∧ flt ch κ (seg ts p b) = G.take l ∧ Pj ts ch p q (K.take k) κ b = Pj ts ch p q (K.take k) κ a ∧ Drawn0 wc w')
                    case atStart => exact ⟨a, rfl, by omega, Nat.le_refl _, haq, HI.out, rfl, 0, rfl⟩
                    case round =>
                      obtain ⟨b, rfl, hbk, hab, hbq, hIb, hPb, q6, rfl⟩ := hrel
                      have hd6 : Drawn0 wc (wc.drewN q6) := ⟨q6, rfl⟩
                      have hb1 : b < q := by
                        rcases Nat.lt_or_ge b q with h0 | h0
                        · exact h0
                        · exact absurd (hit_end (j := l) (κ := κ) (p := p) h0 hbq (HG.out ▸ hl) (HG.out ▸ hIb)) not_false
                      have db : decide ((b : Int) < (q : Int)) = true := decide_eq_true (by omega)
                      have pb0 : 0 ≤ (b : Int) := by omega
                      have qb0 : (b : Int) < (ts.length : Int) := by omega
                      obtain ⟨ad0, rfl, u0⟩ := Kd.at_int C0 (b : Int) pb0 qb0
                      replace u0 := (HP.out.hB.cell (World.block_lt_of_cell? w _ u0)).trans u0
                      replace u0 := (HMl.out.b.cell (World.block_lt_of_cell? w6 _ u0)).trans u0
                      rw [Int.toNat_natCast] at u0
                      replace pb0 := eq_true pb0
                      replace qb0 := eq_true qb0
                      have htb := N0 _ (rd_in (show b < ts.length by omega))
                      have hap := ab_pos (rd ts b)
                      have hat := ab_top htb.1 htb.2
                      have hhit := Lib.hid (hit (ts := ts) (chunk := ch) (κ := κ) (p := p) (a := b) (q := q) (j := l) (by omega) hb1 (by omega) (HG.out ▸ hl) (HG.out ▸ hIb))
                      have hit2 : (tv (rd ts b) = τ → frm ch (tv (rd ts b)) = κ ∧ flt ch κ (seg ts p (b + 1)) = G.take (l + 1)) ∧ (tv (rd ts b) ≠ τ → frm ch (tv (rd ts b)) ≠ κ ∧ flt ch κ (seg ts p (b + 1)) = G.take l) := by
                        have h1 := hhit.out
                        rw [HT.out]
                        simpa only [← HG.out] using h1
                      have HH := Lib.hid hit2
                      have HPb := Lib.hid hPb
                      clear hIb hPb hhit hit2
                      replace u0 : (wc.drewN q6).cell? (ad0.add b) = some (.int .i64 (rd ts b)) := u0
                      replace b2 : (wc.drewN q6).cell? ⟨wa.heap.size, 2, none⟩ = some (.int .u64 q) := b2
                      replace g0 : (wc.drewN q6).cell? ⟨wb.heap.size, 0, none⟩ = some (.int .i64 κ) := g0
                      replace g1 : (wc.drewN q6).cell? ⟨wb.heap.size, 1, none⟩ = some (.int .i64 (κ + ch)) := g1
                      by_cases ht : tv (rd ts b) = τ
                      · obtain ⟨hf, hnx⟩ := HH.out.1 ht
                        have hteq : ab (rd ts b) % 1000 = τ := ht
                        have hPf : Pj ts ch p q (K.take k) κ a b = false := by
                          rw [← HPb.out]
                          exact Pj_at (by omega) hf HNW.out
                        have mb : wc.cell? ⟨w6.heap.size, b, none⟩ = some (.int .i64 0) := by
                          have := HMl.out.cell (a := b) (by omega)
                          rw [hPf] at this
                          exact this
                        have zb := blk_frozen HMl.out.m b
                        have HD := Lib.hid (show MT w6 (wc.drewN q6) (Pj ts ch p q (K.take k) κ a) from HMl.out.below (pw_below_drewN (Below.refl _ _) _))
                        replace mb : (wc.drewN q6).cell? ⟨w6.heap.size, b, none⟩ = some (.int .i64 0) := mb
                        replace zb : (wc.drewN q6).frozen? ⟨w6.heap.size, b, none⟩ = false := zb
                        have HG2 : Hid ((wc.drewN q6).heap[wa.heap.size]? = some (.cells #[.int .i64 ((i : Int) + 1), .int .u64 p, .int .u64 q, .slice (some ad3) K.length c3] 41 (0, 0))) := Lib.hid HGB.out
                        have HG3 : Hid ((wc.drewN q6).heap[wb.heap.size]? = some (.cells #[.int .i64 κ, .int .i64 (κ + ch), .slice (some ad5) G.length c5] 55 (0, 0))) := Lib.hid HGC.out
                        have d1 : decide ((b : Int) ≥ (q : Int)) = false := decide_eq_false (by omega)
                        have d2 : decide (τ < κ) = false := decide_eq_false (by omega)
                        have d3 : decide (τ ≥ κ + ch) = false := decide_eq_false (by omega)
                        have hb200 : (b : Int) < 200 := by omega
                        have HF := Lib.hid hf
                        have HX := Lib.hid hnx
                        clear hf hnx ht hPf HMl HGB HGC
                        generalize wc.drewN q6 = wz at hd6 u0 b2 g0 g1 mb zb HD HG2 HG3 ⊢
                        go_wp2_with (first | (go_at_call 8; refine (abs_calls (rd ts b) htb.1 htb.2 _).mono ?_; rintro e wy ⟨rfl, rfl⟩))
                        go_roundg (G.length - l)
                        case measure => omega
                        case rel =>
                          refine ⟨b + 1, l + 1, rfl, rfl, by omega, by omega, by omega, by omega, HX.out, ?_, blk_far (p := ⟨w6.heap.size, b, none⟩) HG2.out (blk_ne HG2.out HD.out.m (by decide)) _, blk_far (p := ⟨w6.heap.size, b, none⟩) HG3.out (blk_ne HG3.out HD.out.m (by decide)) _⟩
                          rw [Pj_hit (by omega) HF.out, HPb.out]
                          exact HD.out.put (by omega)
                      · have hne : (ab (rd ts b) % 1000 == τ) = false := by simpa [tv] using ht
                        generalize wc.drewN q6 = wz at hd6 u0 b2 g0 g1 ⊢
                        go_wp2_with (first | (go_at_call 8; refine (abs_calls (rd ts b) htb.1 htb.2 _).mono ?_; rintro e wy ⟨rfl, rfl⟩))
                        go_roundg (q - b)
                        case measure => omega
                        case rel =>
                          have h2 := HH.out.2 ht
                          exact ⟨b + 1, rfl, by omega, by omega, by omega, h2.2, (Pj_miss h2.1).trans HPb.out, hd6⟩
                  · have dl : decide ((l : Int) < (G.length : Int)) = false := decide_eq_false (by omega)
                    have HMl := Lib.hid hM
                    have HGB := Lib.hid hgb
                    rw [List.take_of_length_le (by omega)] at hI
                    have hend := Pj_end (K := K.take k) hpa haq (fun t h1 h2 => none_left (κ := κ) hpa haq (by omega) (hI.trans HG.out) h1 h2)
                    have HE := Lib.hid hend
                    clear hM hgb hgc hI hend
                    go_wp2
                    go_roundg (K.length - k)
                    case measure => omega
                    case rel =>
                      refine ⟨k + 1, rfl, by omega, by omega, ?_, HGB.out⟩
                      rw [HSN.out, ← HE.out]
                      exact HMl.out
              · have dk : decide ((k : Int) < (K.length : Int)) = false := decide_eq_false (by omega)
                have hM2 := Lib.hid hM
                clear hM
                go_wp2
                go_roundg (bs5.length - i)
                case measure => omega
                case rel =>
                  refine ⟨i + 1, q, rfl, rfl, by omega, by omega, ?_, ?_⟩
                  · rw [List.take_succ_eq_append_getElem hi]
                    exact Bs_snoc HBi.out (by rw [List.length_take, Nat.min_eq_left (by omega)]; exact Hb.out)
                  · have := hM2.out
                    rw [List.take_of_length_le (by omega), Pk_all (by omega) (by omega) HKm.out] at this
                    exact this
          · have di : decide ((i : Int) < (bs5.length : Int)) = false := decide_eq_false (by omega)
            rw [List.take_of_length_le (by omega)] at hBi
            have hpj : p = j := by simpa using Bs_fun hBi HP.out.hBs
            subst hpj
            have HBe := Lib.hid (HP.out.hB.trans (hM.b.mono HP.out.hB.size))
            have HMe := Lib.hid hM
            clear hBi hM
            go_wp2
            go_loopg [26] (p + 1) (fun kq v26 w' => ∃ t : Nat, v26 = .int .i64 t ∧ t + kq = p + 1 ∧ t ≤ p ∧ w' = wr)
            case atStart => exact ⟨0, rfl, by omega, by omega, rfl⟩
            case round =>
              obtain ⟨t, rfl, htk, htp, rfl⟩ := hrel
              by_cases ht : t < p
              · have dt : decide ((t : Int) < (p : Int)) = true := decide_eq_true (by omega)
                have pt0 : 0 ≤ (t : Int) := by omega
                have qt0 : (t : Int) < 200 := by omega
                have mt : wr.cell? ⟨w6.heap.size, t, none⟩ = some (.int .i64 1) := by
                  have := HMe.out.cell (a := t) (by omega)
                  rw [show decide (t < p) = true from decide_eq_true ht] at this
                  exact this
                go_wp2
                go_roundg (p - t)
                case measure => omega
                case rel => exact ⟨t + 1, rfl, by omega, by omega, rfl⟩
              · have dt : decide ((t : Int) < (p : Int)) = false := decide_eq_false (by omega)
                go_wp2
                go_ret
                exact ⟨by simp, HBe.out⟩
end Go.Proofs.Ytdlkhjfkhbeaaaa.QIn
