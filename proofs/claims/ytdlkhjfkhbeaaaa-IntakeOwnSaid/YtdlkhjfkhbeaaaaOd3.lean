/- IntakeOwn: the walk. -/
import Derived.Test.YtdlkhjfkhbeaaaaOd2
import Derived.Deep.RegionHeld3
import Derived.Deep.DeepCutAuto
namespace Go.Proofs.Ytdlkhjfkhbeaaaa.QIn
open Go.RowKit Go.Maps Go.Proofs.YtdlkhjfkhbeaaaaW.PrintWords Go.Proofs.YtdlkhjfkhbeaaaaW.PrintLast Go.Proofs.YtdlkhjfkhbeaaaaW.PrintMore
set_option maxRecDepth 100000 in
set_option maxHeartbeats 80000000 in
theorem own_walk (A0 A1 : Option Addr) (c0 c1 : Nat) (ts : List ByteArray) (ns : List Int) (w : World) (C0 : Kd.C Kd.string w A0 ts.length ts) (C1 : Kd.C (Kd.int .i64) w A1 ns.length ns) :
    Calls Try.prog 5 #[.slice A0 ts.length c0, .slice A1 ns.length c1] w fun e w' => e = .returned (.bool true) ∧ Below w.heap.size w w' := by
  have m0 := C0.2.1
  have m1 := C1.2.1
  go_enter Try.func5, Try.ntmps5
  go_wp2_with (first
    | (go_at_call 6; refine (awake_calls _).mono ?_; rintro e w1 ⟨rfl, hb1⟩)
    | (go_at_call 7; refine (new_calls 2 1 5 1 _ (by decide) (by decide) (by decide) (by decide) (by decide) (by decide) (by decide)).mono ?_; rintro e w2 ⟨x, rfl, hI, hb2⟩))
  have HS : OW w w2 w1.heap.size x [] (.slice none 0 0) (.slice none 0 0) := ⟨hI, Kd.N_nil _ _ _ _ _, Kd.R_nil _ _ _ _ _, hb1.trans (hb2.mono hb1.size), hb1.size, by simp, fun f hf => by simp at hf, fun f hf => by simp at hf⟩
  clear hI hb1 hb2
  go_loopg [8, 9] 41 (fun kq v8 v9 w' => ∃ (j : Nat) (fs : List S37) (vf : Value), v9 = .int .i64 j ∧ j + kq = 41 ∧ fs.length ≤ j ∧ OW w w' w1.heap.size x fs vf v8)
  case atStart => exact ⟨0, [], _, rfl, rfl, by simp, HS⟩
  case round =>
    clear HS
    obtain ⟨j, fs, vf, rfl, hjk, hjl, HO⟩ := hrel
    rename_i v8
    obtain ⟨Aw, cw, hvw⟩ := Kd.R_slice HO.hw
    subst hvw
    have hfl := HO.F.1
    have HF := Lib.hid HO.F
    have HA := Lib.hid HO
    go_upto_region 9 with fail
    go_cut [50] (fun v50 wx => v50 = .bool (decide (j + 1 < ts.length ∧ j < ns.length ∧ j < 40)) ∧ wr = wx)
    case first =>
      by_cases k1 : j + 1 < ts.length
      · have d0 : decide ((j : Int) + 1 < (ts.length : Int)) = true := decide_eq_true (by omega)
        by_cases k2 : j < ns.length
        · have d1 : decide ((j : Int) < (ns.length : Int)) = true := decide_eq_true (by omega)
          go_wp2_with fail
          go_meet
          exact ⟨congrArg Value.bool (decide_eq_decide.2 (by omega)), rfl⟩
        · have d1 : decide ((j : Int) < (ns.length : Int)) = false := decide_eq_false (by omega)
          go_wp2_with fail
          go_meet
          exact ⟨congrArg Value.bool (decide_eq_false (fun h => k2 h.2.1)).symm, rfl⟩
      · have d0 : decide ((j : Int) + 1 < (ts.length : Int)) = false := decide_eq_false (by omega)
        go_wp2_with fail
        go_meet
        exact ⟨congrArg Value.bool (decide_eq_false (fun h => k1 h.1)).symm, rfl⟩
    case rest =>
    obtain ⟨rfl, rfl⟩ := hcut
    by_cases hj : j + 1 < ts.length ∧ j < ns.length ∧ j < 40
    · rw [decide_eq_true hj]
      obtain ⟨hj1, hj2, hj3⟩ := hj
      obtain ⟨ad0, rfl, x0⟩ := Kd.at_string C0 (j : Int) (by omega) (by omega)
      obtain ⟨ad0', e0, x1⟩ := Kd.at_string C0 ((j : Int) + 1) (by omega) (by omega)
      cases e0
      obtain ⟨ad1, rfl, x2⟩ := Kd.at_int C1 (j : Int) (by omega) (by omega)
      have p0 : 0 ≤ (j : Int) := by omega
      have q0 : (j : Int) < (ts.length : Int) := by omega
      have p1 : 0 ≤ (j : Int) + 1 := by omega
      have q1 : (j : Int) + 1 < (ts.length : Int) := by omega
      have q2 : (j : Int) < (ns.length : Int) := by omega
      replace p0 := eq_true p0
      replace q0 := eq_true q0
      replace p1 := eq_true p1
      replace q1 := eq_true q1
      replace q2 := eq_true q2
      have ej : ((j : Int) + 1).toNat = j + 1 := by omega
      rw [Int.toNat_natCast] at x0 x2
      rw [ej, show ad0.add (j + 1) = ⟨ad0.block, ad0.off + (j + 1), none⟩ by simp [Addr.add]] at x1
      have x0w := Lib.hid x0
      have x1w := Lib.hid x1
      replace x0 := (HO.hB.cell (World.block_lt_of_cell? w _ x0)).trans x0
      replace x1 := (HO.hB.cell (World.block_lt_of_cell? w _ x1)).trans x1
      replace x2 := (HO.hB.cell (World.block_lt_of_cell? w _ x2)).trans x2
      clear HO
      have l0 := World.block_lt_of_cell? wr _ x0
      have l1 := World.block_lt_of_cell? wr _ x1
      have l2 := World.block_lt_of_cell? wr _ x2
      have hkp : ∀ {W : World}, Below wr.heap.size wr W → W.cell? (ad0.add j) = some (.string (rdOf ByteArray.empty ts j)) ∧ W.cell? ⟨ad0.block, ad0.off + (j + 1), none⟩ = some (.string (rdOf ByteArray.empty ts ((j : Int) + 1))) ∧ W.cell? (ad1.add j) = some (.int .i64 (rd ns j)) := fun hb => ⟨(hb.cell l0).trans x0, (hb.cell l1).trans x1, (hb.cell l2).trans x2⟩
      have hw1 : IntKind.i64.wrap ((j : Int) + 1) = (j : Int) + 1 := IntWalk.i64_in _ (by omega)
      have hw2 : IntKind.u64.wrap ((fs.length : Int) + 1) = (fs.length : Int) + 1 := by unfold IntKind.wrap; simp [IntKind.signed, IntKind.bits]; omega
      go_upto_region 11 with fail
      go_cut [10] (fun v10 wx => ∃ (d m gf : Nat), v10 = .pointer (some ⟨gf, 0, none⟩) ∧ Hid (TW w wx w1.heap.size x fs fs vf (.slice Aw fs.length cw) d m gf j (rdOf ByteArray.empty ts j) (rdOf ByteArray.empty ts ((j : Int) + 1)) (rd ns j)))
      case first =>
        go_region_held3 (fun w' => w'.cell? (ad0.add j) = some (.string (rdOf ByteArray.empty ts j)) ∧ w'.cell? ⟨ad0.block, ad0.off + (j + 1), none⟩ = some (.string (rdOf ByteArray.empty ts ((j : Int) + 1))) ∧ w'.cell? (ad1.add j) = some (.int .i64 (rd ns j))) ((refine hkp ?_; repeat (first | exact Below.refl _ _ | refine Below.drew ?_ | refine Below.alloc ?_ (by simp; try omega) _ | refine Below.setCell ?_ (by simp; try omega) _))) (fail)
        all_goals
          go_wp2_with fail
          go_meet
          first
            | exact ⟨_, _, _, rfl, Lib.hid (HA.out.rows (below3 _ _ _ _) (by omega) (by omega) (by omega) (blk_at0 _ _ _ _) (blk_at1 _ _ _ _) (blk_at2 _ _ _ _))⟩
            | exact ⟨_, _, _, rfl, Lib.hid (HA.out.rows (below3 _ _ _ _) (by omega) (by omega) (by omega) (blk_at0 _ _ _ _) (blk_at2 _ _ _ _) (blk_at1 _ _ _ _))⟩
            | exact ⟨_, _, _, rfl, Lib.hid (HA.out.rows (below3 _ _ _ _) (by omega) (by omega) (by omega) (blk_at1 _ _ _ _) (blk_at0 _ _ _ _) (blk_at2 _ _ _ _))⟩
            | exact ⟨_, _, _, rfl, Lib.hid (HA.out.rows (below3 _ _ _ _) (by omega) (by omega) (by omega) (blk_at1 _ _ _ _) (blk_at2 _ _ _ _) (blk_at0 _ _ _ _))⟩
            | exact ⟨_, _, _, rfl, Lib.hid (HA.out.rows (below3 _ _ _ _) (by omega) (by omega) (by omega) (blk_at2 _ _ _ _) (blk_at0 _ _ _ _) (blk_at1 _ _ _ _))⟩
            | exact ⟨_, _, _, rfl, Lib.hid (HA.out.rows (below3 _ _ _ _) (by omega) (by omega) (by omega) (blk_at2 _ _ _ _) (blk_at1 _ _ _ _) (blk_at0 _ _ _ _))⟩
      case rest =>
        obtain ⟨d, m, gf, rfl, HT⟩ := hcut
        clear HA hkp l0 l1 l2 hw1
        obtain ⟨s1, hs1⟩ : ∃ s, s = rdOf ByteArray.empty ts (j : Int) := ⟨_, rfl⟩
        obtain ⟨s2, hs2⟩ : ∃ s, s = rdOf ByteArray.empty ts ((j : Int) + 1) := ⟨_, rfl⟩
        obtain ⟨n, hn⟩ : ∃ n, n = rd ns (j : Int) := ⟨_, rfl⟩
        rw [← hs1] at x0 x0w HT
        rw [← hs2] at x1 x1w HT
        rw [← hn] at HT
        clear hs1 hs2 hn x2
        have hB0 := Lib.hid HT.out.hB
        have y0 : wc.cell? ⟨gf, 0, none⟩ = some (.int .i64 j) := (blk_cell HT.out.hg 0).trans rfl
        have y1 : wc.cell? ⟨gf, 1, none⟩ = some (.slice (some ⟨d, 0, none⟩) 2 2) := (blk_cell HT.out.hg 1).trans rfl
        have y2 : wc.cell? ⟨gf, 2, none⟩ = some (.slice (some ⟨m, 0, none⟩) 1 1) := (blk_cell HT.out.hg 2).trans rfl
        cases hlo : long [s1, s2] with
        | false =>
          have HL := Lib.hid hlo
          clear hlo
          go_upto_region 17 with (first
            | (go_at_call 9; refine (HT.out.take (by omega) (by omega) (by omega) HL.out).mono ?_; rintro e w3 ⟨vf3, rfl, hT3⟩; have HT3 := Lib.hid hT3; clear hT3 y0 y1 y2; have y0 : w3.cell? ⟨gf, 0, none⟩ = some (.int .i64 j) := (blk_cell HT3.out.hg 0).trans rfl; have y1 : w3.cell? ⟨gf, 1, none⟩ = some (.slice (some ⟨d, 0, none⟩) 2 2) := (blk_cell HT3.out.hg 1).trans rfl; have y2 : w3.cell? ⟨gf, 2, none⟩ = some (.slice (some ⟨m, 0, none⟩) 1 1) := (blk_cell HT3.out.hg 2).trans rfl)
            | (go_at_call 15; refine (rown_calls (j : Int) (some ⟨d, 0, none⟩) (some ⟨m, 0, none⟩) 2 1 [s1, s2] [n] w3 (C_lit2 HT3.out.hd) (by simp) (C_lit1 HT3.out.hm) (by simp) (by simp) (by simp)).mono ?_; rintro e w4 ⟨v1, v2, rfl, r1, r2, hb4⟩; have HT4 := Lib.hid (HT3.out.below hb4); have hls := HT3.out.I.szd; have HM4 := Lib.hid (k37_mkM w4 w1.heap.size (fun k => w3.heap.size ≤ k) ⟨(j : Int), [s1, s2], [n]⟩ (Kd.R_lower (Kd.R_mono (Kd.R_bound r1) (fun k hk => hk.2.1)) hls) (Kd.R_lower (Kd.R_mono (Kd.R_bound r2) (fun k hk => hk.2.1)) hls)); have HF3 := Lib.hid HT3.out.fresh; have HF4 := Lib.hid HT4.out.fresh; clear r1 r2 hb4)
            | ((with_reducible refine gate_builtin (b := .append) (xs := #[.tmp 79, .tmp 82]) rfl ?_); at_builtin; refine Kd.R_append k37 (w0 := w4) w1.heap.size rfl (.tmp 79) (.tmp 82) 44 37 (.agg #[.int .i64 0, .slice none 0 0, .slice none 0 0]) 56 rfl Try.underlying44 info37 rfl (by decide) (by decide) (.slice Aw fs.length cw) fs ⟨(j : Int), [s1, s2], [n]⟩ [.int .i64 j, v1, v2] (fun k => (k ≠ x ∧ some k ≠ vf3.ownBlock) ∧ k ≠ d ∧ k ≠ m ∧ k ≠ gf) (fun k => w3.heap.size ≤ k) rfl rfl HM4.out (fun k hk => HF3.out k hk) (fun k hk => (HF4.out k hk).1) HT4.out.hw (Below.refl _ _) HT4.out.I.szd (by omega) ?_; intro v5 w5 ho5 hb5 hg5 hat5; have HT5 := Lib.hid (HT4.out.appended ho5 hg5 hat5); clear ho5 hb5 hg5 hat5))
          have z1 : w5.cell? ⟨gf, 1, none⟩ = some (.slice (some ⟨d, 0, none⟩) 2 2) := (blk_cell HT5.out.hg 1).trans rfl
          have z2 : w5.cell? ⟨gf, 2, none⟩ = some (.slice (some ⟨m, 0, none⟩) 1 1) := (blk_cell HT5.out.hg 2).trans rfl
          have zd : w5.cell? ⟨d, 0, none⟩ = some (.string s1) := (blk_cell HT5.out.hd 0).trans rfl
          have zm : w5.cell? ⟨m, 0, none⟩ = some (.int .i64 n) := (blk_cell HT5.out.hm 0).trans rfl
          have fd := blk_frozen HT5.out.hd 0
          have fm := blk_frozen HT5.out.hm 0
          have ne1 : d ≠ gf := blk_ne HT5.out.hd HT5.out.hg (by decide)
          have ne2 : gf ≠ d := Ne.symm ne1
          have ne3 : m ≠ d := blk_ne HT5.out.hm HT5.out.hd (by decide)
          have ne4 : d ≠ m := Ne.symm ne3
          go_wp2
          go_roundg (40 - j)
          case measure => omega
          case rel => exact ⟨j + 1, _, _, rfl, by omega, by simp; omega, HT5.out.done (HF.out.snoc (by omega) (by omega) (by omega)) 0 0 _ _⟩
        | true =>
          have HL := Lib.hid hlo
          have hlong : ¬ (s1.size ≤ 64 ∧ s2.size ≤ 64) := fun h => by
            simp [long] at hlo
            omega
          clear hlo
          by_cases c1 : s1.size ≤ 64
          · have e1 : decide ((s1.size : Int) ≤ 64) = true := decide_eq_true (by omega)
            have e2 : decide ((s2.size : Int) ≤ 64) = false := decide_eq_false (by omega)
            go_upto_region 17 with (first
              | (go_at_call 9; refine (HT.out.long (by omega) (by omega) (by omega) HL.out).mono ?_; rintro e w3 ⟨rfl, hT3⟩; have HT5 := Lib.hid hT3; have x0' := (hT3.hB.cell (World.block_lt_of_cell? w _ x0w.out)).trans x0w.out; have x1' := (hT3.hB.cell (World.block_lt_of_cell? w _ x1w.out)).trans x1w.out; clear hT3 y0 y1 y2))
            have z1 : w3.cell? ⟨gf, 1, none⟩ = some (.slice (some ⟨d, 0, none⟩) 2 2) := (blk_cell HT5.out.hg 1).trans rfl
            have z2 : w3.cell? ⟨gf, 2, none⟩ = some (.slice (some ⟨m, 0, none⟩) 1 1) := (blk_cell HT5.out.hg 2).trans rfl
            have zd : w3.cell? ⟨d, 0, none⟩ = some (.string s1) := (blk_cell HT5.out.hd 0).trans rfl
            have zm : w3.cell? ⟨m, 0, none⟩ = some (.int .i64 n) := (blk_cell HT5.out.hm 0).trans rfl
            have fd := blk_frozen HT5.out.hd 0
            have fm := blk_frozen HT5.out.hm 0
            have ne1 : d ≠ gf := blk_ne HT5.out.hd HT5.out.hg (by decide)
            have ne2 : gf ≠ d := Ne.symm ne1
            have ne3 : m ≠ d := blk_ne HT5.out.hm HT5.out.hd (by decide)
            have ne4 : d ≠ m := Ne.symm ne3
            go_wp2
            go_roundg (40 - j)
            case measure => omega
            case rel => exact ⟨j + 1, fs, vf, rfl, by omega, by omega, HT5.out.done HF.out 0 0 _ _⟩
          · have e1 : decide ((s1.size : Int) ≤ 64) = false := decide_eq_false (by omega)
            go_upto_region 17 with (first
              | (go_at_call 9; refine (HT.out.long (by omega) (by omega) (by omega) HL.out).mono ?_; rintro e w3 ⟨rfl, hT3⟩; have HT5 := Lib.hid hT3; have x0' := (hT3.hB.cell (World.block_lt_of_cell? w _ x0w.out)).trans x0w.out; clear hT3 y0 y1 y2))
            have z1 : w3.cell? ⟨gf, 1, none⟩ = some (.slice (some ⟨d, 0, none⟩) 2 2) := (blk_cell HT5.out.hg 1).trans rfl
            have z2 : w3.cell? ⟨gf, 2, none⟩ = some (.slice (some ⟨m, 0, none⟩) 1 1) := (blk_cell HT5.out.hg 2).trans rfl
            have zd : w3.cell? ⟨d, 0, none⟩ = some (.string s1) := (blk_cell HT5.out.hd 0).trans rfl
            have zm : w3.cell? ⟨m, 0, none⟩ = some (.int .i64 n) := (blk_cell HT5.out.hm 0).trans rfl
            have fd := blk_frozen HT5.out.hd 0
            have fm := blk_frozen HT5.out.hm 0
            have ne1 : d ≠ gf := blk_ne HT5.out.hd HT5.out.hg (by decide)
            have ne2 : gf ≠ d := Ne.symm ne1
            have ne3 : m ≠ d := blk_ne HT5.out.hm HT5.out.hd (by decide)
            have ne4 : d ≠ m := Ne.symm ne3
            go_wp2
            go_roundg (40 - j)
            case measure => omega
            case rel => exact ⟨j + 1, fs, vf, rfl, by omega, by omega, HT5.out.done HF.out 0 0 _ _⟩
    · rw [decide_eq_false hj]
      clear HO hj
      go_upto_region 19 with fail
      have HR := Lib.hid HA.out.rn
      clear HA
      go_wp2
      go_loopg [12] 3 (fun kq v12 w' => ∃ r : Nat, v12 = .int .i64 r ∧ r + kq = 3 ∧ r ≤ 2 ∧ Hid (RN w w' w1.heap.size x fs vf (.slice Aw fs.length cw)))
      case atStart => exact ⟨0, rfl, rfl, by omega, HR⟩
      case round =>
        clear HR
        obtain ⟨r, rfl, hrk, hr2, HR⟩ := hrel
        obtain ⟨wa, hwa⟩ : ∃ wa, wa = wr := ⟨_, rfl⟩
        subst hwa
        by_cases hr : r < 2
        · have dr : decide ((r : Int) < 2) = true := decide_eq_true (by omega)
          go_upto_region 25 with (first
            | (go_at_call 12; refine HR.out.behind.mono ?_; rintro e w5 ⟨v5, rfl, hS5, hb5⟩; obtain ⟨A5, c5, g5, rfl, hl5, hC5, hs5⟩ := rowed (Kd.S_R hS5) HF.out.2.1; have HS5 := Lib.hid hs5; have HC5 := Lib.hid hC5; have HB5 := Lib.hid hb5; have HR5 := Lib.hid (HR.out.below hb5); have HW5 := Lib.hid (Kd.R_reads' HR5.out.hw); clear hS5 hs5 hC5 hb5)
            | (go_at_call 16; refine (same_calls A5 Aw c5 cw fs _ HC5.out hl5 HW5.out.2.2 HW5.out.2.1 HF.out.good).mono ?_; rintro e w6 ⟨rfl, hb6⟩; have HR6 := Lib.hid (HR5.out.below hb6); have HB6 := Lib.hid (HB5.out.trans (hb6.mono HB5.out.size)); have HS6 : Hid (0 < fs.length → A5 = some ⟨g5, 0, none⟩ ∧ Shp w6 (fun k => wa.heap.size ≤ k) g5 0 fs.length) := Lib.hid (fun h => ⟨(HS5.out h).1, ((HS5.out h).2.below hb6).imp (fun k hk => hk.2)⟩); clear hb6 HS5 HB5 HC5 HW5 HR5))
          go_wp2
          go_loopg [16] (fs.length + 1) (fun kq v16 w' => ∃ i : Nat, v16 = .int .i64 i ∧ i + kq = fs.length + 1 ∧ i ≤ fs.length ∧ Hid (Below wa.heap.size w6 w') ∧ Hid (0 < fs.length → A5 = some ⟨g5, 0, none⟩ ∧ Shp w' (fun k => wa.heap.size ≤ k) g5 i fs.length))
          case atStart => exact ⟨0, rfl, by omega, by omega, Lib.hid (Below.refl _ _), HS6⟩
          case round =>
            obtain ⟨i, rfl, hik, hil, HBl, HSl⟩ := hrel
            by_cases hi : i < fs.length
            · have di : decide ((i : Int) < (fs.length : Int)) = true := decide_eq_true (by omega)
              have pi : 0 ≤ (i : Int) := by omega
              have qi : (i : Int) < (fs.length : Int) := by omega
              replace pi := eq_true pi
              replace qi := eq_true qi
              obtain ⟨rfl, hSh⟩ := HSl.out (by omega)
              obtain ⟨t, d, m, cd, cm, s0, s1, mm, k0, k1, k2, e0, e1, e2, qd, qm, n1, n2, n3, ld, lm, lg, fg, fd, fm, hbd⟩ := hSh.at_ (Nat.le_refl i) hi
              have HSh := Lib.hid hSh
              have f0 := fg (i * 3)
              have f1 := fd 1
              have f2 := fm 0
              have n4 := Ne.symm n1
              have n5 := Ne.symm n2
              have n6 := Ne.symm n3
              have HQd := Lib.hid qd
              have HQm := Lib.hid qm
              clear hSh HSl fg fd fm e0 qd qm ld lm lg hbd
              go_wp2
              have HQg := Lib.hid HSh.out.1
              go_roundg (fs.length - i)
              case measure => omega
              case rel => exact ⟨i + 1, rfl, by omega, by omega, Lib.hid (((HBl.out.setCell (p := ⟨d, 1, none⟩) HQd.out _).setCell (p := ⟨m, 0, none⟩) HQm.out _).setCell (p := ⟨g5, i * 3, none⟩) HQg.out _), Lib.hid (fun _ => ⟨by first | trivial | rfl, ((HSh.out.set n1 _).set n2 _).store (by omega) _⟩)⟩
            · have di : decide ((i : Int) < (fs.length : Int)) = false := decide_eq_false (by omega)
              have HRl := Lib.hid (HR.out.below (HB6.out.trans HBl.out))
              clear HSl HBl HR6 HR HB6 HS6
              go_upto_region 33 with (first
                | (go_at_call 11; refine HRl.out.seals_up.mono ?_; rintro e w7 ⟨qa, qb, rfl, hR7⟩; have HR7 := Lib.hid hR7; clear hR7)
                | (go_at_call 14; refine HR7.out.batches.mono ?_; rintro e w8 ⟨v8, bs, rfl, hbl, hbg, hRb, hb8⟩; obtain ⟨Ab, cb, rfl⟩ := Kd.R_slice hRb; have hBR := Lib.hid hRb; have hBG := Lib.hid hbg; have HR8 := Lib.hid (HR7.out.below hb8); have HB8 := Lib.hid hb8; rw [List.length_map]; clear hRb hbg hb8))
              clear HRl HR8
              go_wp2
              go_loopg [18] (bs.length + 1) (fun kq v18 w' => ∃ b : Nat, v18 = .int .i64 b ∧ b + kq = bs.length + 1 ∧ b ≤ bs.length ∧ Hid (b = 0 → w8 = w') ∧ Hid (Below w7.heap.size w8 w'))
              case atStart => exact ⟨0, rfl, by omega, by omega, Lib.hid (fun _ => rfl), Lib.hid (Below.refl _ _)⟩
              case round =>
                obtain ⟨b, rfl, hbk, hbl2, HZ, HBb⟩ := hrel
                by_cases hb : b < bs.length
                · have hb0 : b = 0 := by omega
                  subst hb0
                  obtain rfl : w8 = wr := HZ.out rfl
                  clear HZ HBb
                  obtain ⟨gb, hAb, hlgb, hbgb⟩ : ∃ gb, Ab = some ⟨gb, 0, none⟩ ∧ gb < w8.heap.size ∧ w7.heap.size ≤ gb := by
                    obtain ⟨g, cap, hv, hb, hl, _⟩ := Kd.R_form hBR.out (by simp; omega)
                    injection hv with h1 h2 h3
                    exact ⟨g, h1, hl, hb⟩
                  subst hAb
                  obtain ⟨f, A3, c3, gv, x3, hl3, hch⟩ := batch0 hBR.out hb
                  have HF3 : Hid (∀ c ∈ (bs[0]).f3, c.f1.length ≤ 40 ∧ F21 c.f1) := Lib.hid (fun c hc => ⟨Nat.le_trans ((hBG.out _ (List.getElem_mem hb)).2 c hc).1 HF.out.1, hBG.out.f21 HF.out (List.getElem_mem hb) hc⟩)
                  have hchl := (hBG.out _ (List.getElem_mem hb)).1
                  generalize (bs[0]).f3 = chs at x3 hl3 hch HF3 hchl
                  have HCH := Lib.hid hch
                  have db : decide ((0 : Int) < (bs.length : Int)) = true := decide_eq_true (by omega)
                  have qb : (0 : Int) < (bs.length : Int) := by omega
                  replace qb := eq_true qb
                  have hs87 := HB8.out.size
                  clear hch
                  go_wp2
                  go_loopg [19] (chs.length + 1) (fun kq v19 w' => ∃ k : Nat, v19 = .int .i64 k ∧ k + kq = chs.length + 1 ∧ k ≤ chs.length ∧ Hid (KF f gv gb k w7.heap.size w8 w'))
                  case atStart => exact ⟨0, rfl, by omega, by omega, Lib.hid ⟨Below.refl _ _, fun _ _ _ => rfl, Nat.le_refl _⟩⟩
                  case round =>
                    obtain ⟨k, rfl, hkk, hkl, HK⟩ := hrel
                    have y3 : wr.cell? ⟨gb, 3, none⟩ = some (.slice A3 chs.length c3) := (World.cell?_of_block (w := w8) (a := ⟨gb, 3, none⟩) (HK.out.s gb hlgb (fun _ => .inr rfl))).trans x3
                    clear x3
                    obtain ⟨wb, hwb⟩ : ∃ wb, wb = wr := ⟨_, rfl⟩
                    subst hwb
                    by_cases hk : k < chs.length
                    · have dk : decide ((k : Int) < (chs.length : Int)) = true := decide_eq_true (by omega)
                      obtain ⟨rfl, hR55⟩ := HCH.out (by omega)
                      have hfk := HF3.out _ (List.getElem_mem hk)
                      obtain ⟨t0, t1, A, cc, g, z0, z1, z2, hlc, hsh⟩ := HK.out.chunk hR55 (fun i hi => hi) hk hfk.2
                      have hnl := hfk.1
                      clear hfk hR55
                      generalize (chs[k]).f1.length = n at z2 hlc hsh hnl
                      have HSh0 : Hid (0 < n → A = some ⟨g, 0, none⟩ ∧ Shp (wb.alloc (.cells #[.int .i64 t0, .int .i64 t1, .slice A n cc] 55)) (fun i => (f i = k ∧ i ≠ gv ∧ i ≠ gb) ∧ w7.heap.size ≤ i) g 0 n) := Lib.hid (fun h => ⟨(hsh h).1, (hsh h).2.below ((Below.refl _ _).alloc (Nat.le_refl _) _)⟩)
                      have HK1 := Lib.hid (HK.out.next.alloc hs87 (.cells #[.int .i64 t0, .int .i64 t1, .slice A n cc] 55))
                      have HCc := Lib.hid (blk_new wb (.cells #[.int .i64 t0, .int .i64 t1, .slice A n cc] 55))
                      have pk : 0 ≤ (k : Int) := by omega
                      have qk : (k : Int) < (chs.length : Int) := by omega
                      replace pk := eq_true pk
                      replace qk := eq_true qk
                      clear hsh HK
                      go_wp2
                      go_loopg [21] (n + 1) (fun kq v21 w' => ∃ l : Nat, v21 = .int .i64 l ∧ l + kq = n + 1 ∧ l ≤ n ∧ Hid (KF f gv gb (k + 1) w7.heap.size w8 w') ∧ Hid (0 < n → A = some ⟨g, 0, none⟩ ∧ Shp w' (fun i => (f i = k ∧ i ≠ gv ∧ i ≠ gb) ∧ w7.heap.size ≤ i) g l n) ∧ Hid (w'.heap[wb.heap.size]? = some (.cells #[.int .i64 t0, .int .i64 t1, .slice A n cc] 55 (0, 0))))
                      case atStart => exact ⟨0, rfl, by omega, by omega, HK1, HSh0, HCc⟩
                      case round =>
                        clear HK1 HSh0 HCc
                        obtain ⟨l, rfl, hlk, hll, HK1, HS1, HCc⟩ := hrel
                        have c2 : wr.cell? ⟨wb.heap.size, 2, none⟩ = some (.slice A n cc) := (blk_cell HCc.out 2).trans rfl
                        by_cases hl : l < n
                        · have dl : decide ((l : Int) < (n : Int)) = true := decide_eq_true (by omega)
                          have pl : 0 ≤ (l : Int) := by omega
                          have ql : (l : Int) < (n : Int) := by omega
                          replace pl := eq_true pl
                          replace ql := eq_true ql
                          obtain ⟨rfl, hSh⟩ := HS1.out (by omega)
                          obtain ⟨t, d, m, cd, cm, s0, s1, mm, k0, k1, k2, e0, e1, e2, qd, qm, n1, n2, n3, ld, lm, lg, fg, fd, fm, hbd⟩ := hSh.at_ (Nat.le_refl l) hl
                          have HSh := Lib.hid hSh
                          have HQg := Lib.hid hSh.1
                          have f0 := fg (l * 3)
                          have f1 := fg (l * 3 + 1)
                          have f2 := fg (l * 3 + 2)
                          have f3 := fd 0
                          have n4 := Ne.symm n1
                          have HQd := Lib.hid qd
                          have nc1 : wb.heap.size ≠ g := fun e => by
                            obtain ⟨_, cells, hgc, _⟩ := HSh.out
                            exact blk_ne HCc.out hgc (by decide) e
                          have nc2 : wb.heap.size ≠ d := fun e => by
                            obtain ⟨ds, hds⟩ := hbd
                            exact blk_ne HCc.out hds (by decide) e
                          have nc3 := Ne.symm nc1
                          have nc4 := Ne.symm nc2
                          clear hSh HS1 fg fd fm e1 e2 qd qm ld lm lg hbd n2 n3
                          go_wp2
                          go_roundg (n - l)
                          case measure => omega
                          case rel =>
                            have HK2 := HK1.out.put (i := 0) HQd.out.2 (by have := HQd.out.1.1; omega) HQd.out.1.2.1 HQd.out.1.2.2 (.string ⟨#[99, 104, 97, 110, 103, 101, 100]⟩)
                            have HK3 := HK2.put (i := l * 3) HQg.out.2 (by have := HQg.out.1.1; omega) HQg.out.1.2.1 HQg.out.1.2.2 (.int .i64 0)
                            have HK4 := HK3.put (i := l * 3 + 1) HQg.out.2 (by have := HQg.out.1.1; omega) HQg.out.1.2.1 HQg.out.1.2.2 (.slice none 0 0)
                            have HK5 := HK4.put (i := l * 3 + 2) HQg.out.2 (by have := HQg.out.1.1; omega) HQg.out.1.2.1 HQg.out.1.2.2 (.slice none 0 0)
                            exact ⟨l + 1, rfl, by omega, by omega, Lib.hid HK5, Lib.hid (fun _ => ⟨by first | trivial | rfl, (((HSh.out.set n1 _).store (by omega) _).store0 (by omega) _).store0 (by omega) _⟩), Lib.hid (blk_far (blk_far (blk_far (blk_far HCc.out (p := ⟨d, 0, none⟩) nc2 _) (p := ⟨g, l * 3, none⟩) nc1 _) (p := ⟨g, l * 3 + 1, none⟩) nc1 _) (p := ⟨g, l * 3 + 2, none⟩) nc1 _)⟩
                        · have dl : decide ((l : Int) < (n : Int)) = false := decide_eq_false (by omega)
                          clear HS1 HCc
                          go_wp2
                          go_roundg (chs.length - k)
                          case measure => omega
                          case rel => exact ⟨k + 1, rfl, by omega, by omega, HK1⟩
                    · have dk : decide ((k : Int) < (chs.length : Int)) = false := decide_eq_false (by omega)
                      go_wp2
                      go_roundg (bs.length - 0)
                      case measure => omega
                      case rel => exact ⟨1, rfl, by omega, by omega, Lib.hid (fun h => by omega), Lib.hid HK.out.b⟩
                · have db : decide ((b : Int) < (bs.length : Int)) = false := decide_eq_false (by omega)
                  have HRe := Lib.hid (HR7.out.below (HB8.out.trans HBb.out))
                  clear HZ HBb
                  go_wp2
                  go_roundg (2 - r)
                  case measure => omega
                  case rel => exact ⟨r + 1, rfl, by omega, by omega, HRe⟩
        · have dr : decide ((r : Int) < 2) = false := decide_eq_false (by omega)
          have HBe := Lib.hid HR.out.hB
          clear HR
          go_wp2
          go_ret
          exact ⟨by simp, HBe.out⟩
end Go.Proofs.Ytdlkhjfkhbeaaaa.QIn
