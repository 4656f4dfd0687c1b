/- IntakeOnce: the walk. -/
import Derived.Test.YtdlkhjfkhbeaaaaOn0
namespace Go.Proofs.Ytdlkhjfkhbeaaaa.QIn
open Go.RowKit Go.Maps Go.Proofs.YtdlkhjfkhbeaaaaW.PrintWords Go.Proofs.YtdlkhjfkhbeaaaaW.PrintLast Go.Proofs.YtdlkhjfkhbeaaaaW.PrintMore
set_option maxRecDepth 100000 in
set_option maxHeartbeats 80000000 in
theorem once_walk (A0 A1 A2 : Option Addr) (c0 c1 c2 : Nat) (ts ps : List Int) (ss : List Bool) (w : World) (C0 : Kd.C (Kd.int .i64) w A0 ts.length ts) (C1 : Kd.C (Kd.int .i64) w A1 ps.length ps) (C2 : Kd.C Kd.bool w A2 ss.length ss) (N0 : ∀ t ∈ ts, -9223372036854775808 ≤ t ∧ t ≤ 9223372036854775807) (N1 : ∀ t ∈ ps, -9223372036854775808 ≤ t ∧ t ≤ 9223372036854775807) :
    Calls Try.prog 3 #[.slice A0 ts.length c0, .slice A1 ps.length c1, .slice A2 ss.length c2] w fun e w' => e = .returned (.bool true) ∧ Below w.heap.size w w' := by
  have m0 := C0.2.1
  have m1 := C1.2.1
  have m2 := C2.2.1
  go_enter Try.func3, Try.ntmps3
  by_cases hz : ts.length = 0
  · have e1 : decide ((ts.length : Int) = 0) = true := decide_eq_true (by omega)
    go_wp2_with (first
      | (go_at_call 6; refine (awake_calls _).mono ?_; rintro e w1 ⟨rfl, hb1⟩)
      | (go_at_call 7; refine (new_calls 0 0 7 1 _ (by decide) (by decide) (by decide) (by decide) (by decide) (by decide) (by decide)).mono ?_; rintro e w2 ⟨x, rfl, hI, hb2⟩))
    go_ret
    exact ⟨rfl, hb1.trans (hb2.mono hb1.size)⟩
  · have e1 : decide ((ts.length : Int) = 0) = false := decide_eq_false (by omega)
    have ez : ((ts.length : Int) == 0) = false := by simpa using hz
    have hz0 : (0 : Int) < ts.length := by omega
    go_wp2_with (first
      | (go_at_call 6; refine (awake_calls _).mono ?_; rintro e w1 ⟨rfl, hb1⟩)
      | (go_at_call 7; refine (new_calls 0 0 7 1 _ (by decide) (by decide) (by decide) (by decide) (by decide) (by decide) (by decide)).mono ?_; rintro e w2 ⟨x, rfl, hI, hb2⟩))
    have HS := O1.mk (ts := ts) (tk := 0) (i := 0) (j := 0) (Nat.zero_le _) (Nat.le_refl _) hI (Int.le_refl _) (Int.le_refl _) (Nat.le_refl _) (Int.le_refl _) (Int.le_refl _) (hb1.trans (hb2.mono hb1.size)) hb1.size
    clear hI hb1 hb2
    go_loopg [10, 11] 301 (fun kq v10 v11 w' => ∃ (j tk : Nat) (op : Int) (vf vb : Value) (bs : List S70) (last : Int), v10 = .int .i64 tk ∧ v11 = .int .i64 j ∧ j + kq = 301 ∧ O1 w w' w1.heap.size x ts tk j j op vf vb bs last)
    case atStart => exact ⟨0, 0, 0, _, _, [], 0, rfl, rfl, rfl, HS⟩
    case round =>
      clear HS
      obtain ⟨j, tk, op, vf, vb, bs, last, rfl, rfl, hjk, HO⟩ := hrel
      have hj300 : j ≤ 301 := by omega
      by_cases hj : j < ps.length ∧ j < 300
      · obtain ⟨hj1, hj2⟩ := hj
        have d0 : decide ((j : Int) < (ps.length : Int)) = true := decide_eq_true (by omega)
        have d1 : decide ((j : Int) < 300) = true := decide_eq_true (by omega)
        have p0 : 0 ≤ (j : Int) := by omega
        have q0 : (j : Int) < (ps.length : Int) := by omega
        obtain ⟨ad, rfl, hx⟩ := Kd.at_int C1 (j : Int) p0 q0
        replace hx := (HO.hB.cell (World.block_lt_of_cell? w _ hx)).trans hx
        rw [Int.toNat_natCast] at hx
        replace p0 := eq_true p0
        replace q0 := eq_true q0
        have hpb := N1 _ (rd_in hj1)
        have hap := ab_pos (rd ps j)
        have hat := ab_top hpb.1 hpb.2
        have HA := Lib.hid HO
        clear HO
        obtain ⟨n, hnl, hn3⟩ : ∃ n : Nat, n < ts.length ∧ ((decide (ab (rd ps j) % 3 > 0) = true ∧ min (tk : Int) (ts.length - 1) = n) ∨ (decide (ab (rd ps j) % 3 > 0) = false ∧ ab (rd ps j) % (ts.length : Int) = n)) := by
          by_cases c : ab (rd ps j) % 3 > 0
          · exact ⟨(min (tk : Int) (ts.length - 1)).toNat, by omega, .inl ⟨decide_eq_true c, by omega⟩⟩
          · have := mod_in (ab (rd ps j)) hz0
            exact ⟨(ab (rd ps j) % (ts.length : Int)).toNat, by omega, .inr ⟨decide_eq_false c, by omega⟩⟩
        have hn : 0 ≤ (n : Int) ∧ (n : Int) < ts.length := by omega
        rcases hn3 with ⟨cn, en⟩ | ⟨cn, en⟩
        all_goals
          obtain ⟨ad0, rfl, hx0⟩ := Kd.at_int C0 (n : Int) hn.1 hn.2
          replace hx0 := (HA.out.hB.cell (World.block_lt_of_cell? w _ hx0)).trans hx0
          rw [Int.toNat_natCast] at hx0
          have p1 := eq_true hn.1
          have q1 := eq_true hn.2
          clear hn
          have htb := N0 _ (rd_in hnl)
          have hmb := mod_in (ab (rd ts n)) (show (0 : Int) < 100 by decide)
          have hat0 := ab_pos (rd ts n)
          have hat1 := ab_top htb.1 htb.2
          by_cases hs : j < ss.length
          · have f0 : decide ((j : Int) < (ss.length : Int)) = true := decide_eq_true (by omega)
            obtain ⟨ad2, rfl, hx2f⟩ := Kd.at_bool C2 (j : Int) (by omega) (by omega)
            replace hx2f := Lib.hid hx2f
            have hx2 := Lib.hid ((World.block_lt_of_cell? w _ hx2f.out))
            have q2 : ((j : Int) < (ss.length : Int)) = True := eq_true (by omega)
            rw [Int.toNat_natCast] at hx2 hx2f
            rcases Nat.lt_trichotomy n tk with hlt | heq | hgt
            · go_wp2_with (first
                | (go_at_call 8; refine (abs_calls (rd ps j) hpb.1 hpb.2 _).mono ?_; rintro e w3 ⟨rfl, rfl⟩)
                | (go_at_call 8; refine (abs_calls (rd ts n) htb.1 htb.2 _).mono ?_; rintro e w3 ⟨rfl, rfl⟩)
                | (go_at_call 10; refine (at_calls _ _).mono ?_; rintro e wn ⟨A3, c3, A4, c4, rfl, hbn⟩; have HA2 := Lib.hid (HA.out.below hbn); clear hbn HA)
                | (go_at_call 9; refine (old_O HA2.out n hlt _ A3 A4 c3 c4).mono ?_; rintro e wm ⟨rfl, hO3⟩; have HA3 := Lib.hid hO3; have hx2' := (hO3.hB.cell hx2.out).trans hx2f.out; clear hO3 HA2)
                | (go_at_call 11; refine (seal_O HA3.out (by omega) (by omega)).mono ?_; rintro e w5 ⟨v5, vb5, bs5, last5, rfl, hO5⟩; have HA5 := Lib.hid hO5; clear hO5 HA3))
              all_goals
                go_roundg (300 - j)
                case measure => omega
                case rel => first | exact ⟨j + 1, tk, _, _, _, _, _, rfl, rfl, by omega, HA5.out.step (by omega) (by omega)⟩ | exact ⟨j + 1, tk, _, _, _, _, _, rfl, rfl, by omega, HA3.out.step (by omega) (by omega)⟩
            · subst heq
              go_wp2_with (first
                | (go_at_call 8; refine (abs_calls (rd ps j) hpb.1 hpb.2 _).mono ?_; rintro e w3 ⟨rfl, rfl⟩)
                | (go_at_call 8; refine (abs_calls (rd ts n) htb.1 htb.2 _).mono ?_; rintro e w3 ⟨rfl, rfl⟩)
                | (go_at_call 10; refine (at_calls _ _).mono ?_; rintro e wn ⟨A3, c3, A4, c4, rfl, hbn⟩; have HA2 := Lib.hid (HA.out.below hbn); clear hbn HA)
                | (go_at_call 9; refine (at_O HA2.out (by omega) hnl A3 A4 c3 c4).mono ?_; rintro e wm ⟨vf2, rfl, hO3⟩; have HA3 := Lib.hid hO3; have hx2' := (hO3.hB.cell hx2.out).trans hx2f.out; clear hO3 HA2)
                | (go_at_call 11; refine (seal_O HA3.out (by omega) (by omega)).mono ?_; rintro e w5 ⟨v5, vb5, bs5, last5, rfl, hO5⟩; have HA5 := Lib.hid hO5; clear hO5 HA3))
              all_goals
                go_roundg (300 - j)
                case measure => omega
                case rel => first | exact ⟨j + 1, n + 1, _, _, _, _, _, rfl, rfl, by omega, HA5.out.step (by omega) (by omega)⟩ | exact ⟨j + 1, n + 1, _, _, _, _, _, rfl, rfl, by omega, HA3.out.step (by omega) (by omega)⟩
            · first
              | (exfalso; omega)
              | (go_wp2_with (first
                   | (go_at_call 8; refine (abs_calls (rd ps j) hpb.1 hpb.2 _).mono ?_; rintro e w3 ⟨rfl, rfl⟩)
                   | (go_at_call 8; refine (abs_calls (rd ts n) htb.1 htb.2 _).mono ?_; rintro e w3 ⟨rfl, rfl⟩)
                   | (go_at_call 10; refine (at_calls _ _).mono ?_; rintro e wn ⟨A3, c3, A4, c4, rfl, hbn⟩; have HA2 := Lib.hid (HA.out.below hbn); clear hbn HA)
                   | (go_at_call 9; refine (gap_O HA2.out n hgt _ A3 A4 c3 c4).mono ?_; rintro e wm ⟨rfl, hO3⟩; have HA3 := Lib.hid hO3; have hx2' := (hO3.hB.cell hx2.out).trans hx2f.out; clear hO3 HA2)
                   | (go_at_call 11; refine (seal_O HA3.out (by omega) (by omega)).mono ?_; rintro e w5 ⟨v5, vb5, bs5, last5, rfl, hO5⟩; have HA5 := Lib.hid hO5; clear hO5 HA3))
                 all_goals
                   go_roundg (300 - j)
                   case measure => omega
                   case rel => first | exact ⟨j + 1, tk, _, _, _, _, _, rfl, rfl, by omega, HA5.out.step (by omega) (by omega)⟩ | exact ⟨j + 1, tk, _, _, _, _, _, rfl, rfl, by omega, HA3.out.step (by omega) (by omega)⟩)
          · have f0 : decide ((j : Int) < (ss.length : Int)) = false := decide_eq_false (by omega)
            rcases Nat.lt_trichotomy n tk with hlt | heq | hgt
            · go_wp2_with (first
                | (go_at_call 8; refine (abs_calls (rd ps j) hpb.1 hpb.2 _).mono ?_; rintro e w3 ⟨rfl, rfl⟩)
                | (go_at_call 8; refine (abs_calls (rd ts n) htb.1 htb.2 _).mono ?_; rintro e w3 ⟨rfl, rfl⟩)
                | (go_at_call 10; refine (at_calls _ _).mono ?_; rintro e wn ⟨A3, c3, A4, c4, rfl, hbn⟩; have HA2 := Lib.hid (HA.out.below hbn); clear hbn HA)
                | (go_at_call 9; refine (old_O HA2.out n hlt _ A3 A4 c3 c4).mono ?_; rintro e wm ⟨rfl, hO3⟩; have HA3 := Lib.hid hO3; clear hO3 HA2))
              go_roundg (300 - j)
              case measure => omega
              case rel => exact ⟨j + 1, tk, _, _, _, _, _, rfl, rfl, by omega, HA3.out.step (by omega) (by omega)⟩
            · subst heq
              go_wp2_with (first
                | (go_at_call 8; refine (abs_calls (rd ps j) hpb.1 hpb.2 _).mono ?_; rintro e w3 ⟨rfl, rfl⟩)
                | (go_at_call 8; refine (abs_calls (rd ts n) htb.1 htb.2 _).mono ?_; rintro e w3 ⟨rfl, rfl⟩)
                | (go_at_call 10; refine (at_calls _ _).mono ?_; rintro e wn ⟨A3, c3, A4, c4, rfl, hbn⟩; have HA2 := Lib.hid (HA.out.below hbn); clear hbn HA)
                | (go_at_call 9; refine (at_O HA2.out (by omega) hnl A3 A4 c3 c4).mono ?_; rintro e wm ⟨vf2, rfl, hO3⟩; have HA3 := Lib.hid hO3; clear hO3 HA2))
              go_roundg (300 - j)
              case measure => omega
              case rel => exact ⟨j + 1, n + 1, _, _, _, _, _, rfl, rfl, by omega, HA3.out.step (by omega) (by omega)⟩
            · first
              | (exfalso; omega)
              | (go_wp2_with (first
                   | (go_at_call 8; refine (abs_calls (rd ps j) hpb.1 hpb.2 _).mono ?_; rintro e w3 ⟨rfl, rfl⟩)
                   | (go_at_call 8; refine (abs_calls (rd ts n) htb.1 htb.2 _).mono ?_; rintro e w3 ⟨rfl, rfl⟩)
                   | (go_at_call 10; refine (at_calls _ _).mono ?_; rintro e wn ⟨A3, c3, A4, c4, rfl, hbn⟩; have HA2 := Lib.hid (HA.out.below hbn); clear hbn HA)
                   | (go_at_call 9; refine (gap_O HA2.out n hgt _ A3 A4 c3 c4).mono ?_; rintro e wm ⟨rfl, hO3⟩; have HA3 := Lib.hid hO3; clear hO3 HA2))
                 go_roundg (300 - j)
                 case measure => omega
                 case rel => exact ⟨j + 1, tk, _, _, _, _, _, rfl, rfl, by omega, HA3.out.step (by omega) (by omega)⟩)
      · have htj := HO.tj
        have htl := HO.tl
        have hFl := FT_len htl
        have hdr : List.drop ((FT ts tk).length - ((tk : Int) + 1 - 1 - 0).toNat) (FT ts tk) = FT ts tk := by
          have : ((tk : Int) + 1 - 1 - 0).toNat = tk := by omega
          rw [hFl, this, Nat.sub_self]
          rfl
        have HA := Lib.hid HO
        clear HO
        go_wp2_with (first
          | (go_at_call 12; refine (behind_calls HA.out.hI 0 (by decide) (by omega) (by omega) (by omega) (by omega) (FT_good (by omega))).mono ?_; rintro e w5 ⟨v5, rfl, hS5, hb5⟩; rw [hdr] at hS5; obtain ⟨A5, c5, rfl, hl5, hC5⟩ := Kd.N_reads (Kd.S_N hS5); rw [hFl] at hC5 ⊢; have HA5 := Lib.hid (HA.out.below hb5); clear HA hS5 hb5 hl5)
          | (go_at_call 13; refine (next_calls HA5.out.hI).mono ?_; rintro e w6 ⟨rfl, rfl⟩))
        all_goals
          go_loopg [18] (tk + 1) (fun kq v18 w' => ∃ i : Nat, v18 = .int .i64 i ∧ i + kq = tk + 1 ∧ i ≤ tk ∧ Drawn0 w6 w')
          case atStart => exact ⟨0, rfl, by omega, by omega, 0, rfl⟩
          case round =>
            obtain ⟨i, rfl, hik, hit, q6, rfl⟩ := hrel
            have hd6 : Drawn0 w6 (w6.drewN q6) := ⟨q6, rfl⟩
            by_cases hi : i < tk
            · have d2 : decide ((i : Int) < (tk : Int)) = true := decide_eq_true (by omega)
              have p0 : 0 ≤ (i : Int) := by omega
              have q0 : (i : Int) < (tk : Int) := by omega
              have q1 : (i : Int) < (ts.length : Int) := by omega
              obtain ⟨ad0, rfl, hx0⟩ := Kd.at_int C0 (i : Int) p0 q1
              replace hx0 := (HA5.out.hB.cell (World.block_lt_of_cell? w _ hx0)).trans hx0
              obtain ⟨ad, _, _, _, _, rfl, hx5, _⟩ := at_T37 hC5 (i : Int) p0 q0
              rw [FT_at hi htl] at hx5
              rw [Int.toNat_natCast] at hx0 hx5
              replace p0 := eq_true p0
              replace q0 := eq_true q0
              replace q1 := eq_true q1
              have htb := N0 _ (rd_in (show i < ts.length by omega))
              have hmb := mod_in (ab (rd ts i)) (show (0 : Int) < 100 by decide)
              have hat0 := ab_pos (rd ts i)
              have hat1 := ab_top htb.1 htb.2
              replace hx0 : (w6.drewN q6).cell? (ad0.add i) = some (.int .i64 (rd ts i)) := hx0
              replace hx5 : (w6.drewN q6).cell? (ad.add (i * 3)) = some (.int .i64 (ab (rd ts i) % 100)) := hx5
              generalize w6.drewN q6 = wz at hd6 hx0 hx5 ⊢
              go_wp2
              go_quiet (first | (go_at_call 8; exact Calls.quiet_of (abs_q _ htb.1 htb.2 _)))
              go_wp2
              go_roundg (tk - i)
              case measure => omega
              case rel => exact ⟨i + 1, rfl, by omega, by omega, hd6.step _⟩
            · have d2 : decide ((i : Int) < (tk : Int)) = false := decide_eq_false (by omega)
              go_wp2
              go_ret
              exact ⟨rfl, pw_below_drewN HA5.out.hB _⟩
end Go.Proofs.Ytdlkhjfkhbeaaaa.QIn
