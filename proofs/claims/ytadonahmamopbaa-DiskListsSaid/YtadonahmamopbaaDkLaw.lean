/- The walk of DiskLists. -/
import Derived.Test.YtadonahmamopbaaDkFacts
import Derived.BigQuiet
namespace Go.Proofs.Ytadonahmamopbaa.QDk
open Go.RowKit Go.Maps Go.Proofs.YtadonahmamopbaaW.PrintWords Go.Proofs.YtadonahmamopbaaW.PrintLast Go.Proofs.YtadonahmamopbaaW.PrintMore Go.Sort Go.Lib Go.Shelf
attribute [local go_sem ↓] Go.wp_at_zero Go.wp_at_succ
theorem append_any {w : World} {base d mb : Nat} {ops : Int} {n : Nat} {D : DataW Unit} {s : ByteArray} (h : DL w base d mb ops n D) (hn : n ≤ 100) (hs : s.size ≤ maxLen) :
    Calls Try.prog 6 #[.pointer (some ⟨d, 0, none⟩), .string s, .slice none 0 0] w fun e w' => ∃ ops' n' D', e = .returned (.int .i64 (if nm s then 0 else 1)) ∧ DL w' base d mb ops' n' D' ∧ n' ≤ n + 1 ∧
      (∀ x, Maps.has D' (.string x) = true ↔ Maps.has D (.string x) = true ∨ (nm s = true ∧ x = s.data.toList)) ∧ Fr w w' d mb ∧ Below base w w' := by
  cases hm : nm s with
  | false =>
    refine (append_bad h hs hm).mono ?_
    rintro e w' ⟨rfl, p1, p2, p3⟩
    exact ⟨ops, n, D, rfl, p1, Nat.le_succ n, fun x => by simp, p2, p3⟩
  | true =>
    rcases h.at_ (.string s.data.toList) with h0 | ⟨g, h1, h2, h3⟩
    · refine (append_fresh h hn hs hm h0).mono ?_
      rintro e w' ⟨g, rfl, p1, p2, p3⟩
      refine ⟨_, _, _, rfl, p1, Nat.le_refl _, fun x => ?_, p2, p3⟩
      by_cases hx : x = s.data.toList
      · subst hx
        simp [has_put_same h.own.isMap (k := .string s.data.toList) trivial]
      · rw [has_put_other (by intro e; injection e with e; exact hx e)]
        simp [hx]
    · refine (append_old h hn hs hm h1 h2).mono ?_
      rintro e w' ⟨rfl, p1, p2, p3⟩
      refine ⟨_, _, _, rfl, p1, Nat.le_refl _, fun x => ?_, p2, p3⟩
      constructor
      · exact .inl
      · rintro (hx | ⟨_, rfl⟩)
        · exact hx
        · cases hh : Maps.has D (.string s.data.toList) with
          | true => rfl
          | false =>
            have := atKey_of_not_has hh .nil
            rw [h1] at this
            cases this
/-- The names that were taken, of the first i. -/
def goods (names : List ByteArray) (i : Nat) : List ByteArray := (names.take i).filter nm
/-- What the first loop keeps. -/
structure L1 (w w' : World) (names : List ByteArray) (d mb : Nat) (i : Nat) (vg : Value) : Prop where mk ::
  out : ∃ ops n D, DL w' w.heap.size d mb ops n D ∧ n ≤ i ∧ Kd.R Kd.string 9 w' w.heap.size (fun k => k ≠ d ∧ k ≠ mb) vg (goods names i) ∧
    (∀ x, Maps.has D (.string x) = true ↔ x ∈ strsL (goods names i)) ∧ Below w.heap.size w w'
theorem info9 : (Try.prog.info? 9).map (fun i => (i.zero, i.size, i.bytes)) = some (some (.string ⟨#[]⟩), 1, 16) := by kernel_rfl
theorem DL.grown {w w' : World} {base d mb : Nat} {ops : Int} {n : Nat} {D : DataW Unit} {row : Option Nat} (h : DL w base d mb ops n D) (hg : w.grownBy w' row) (h1 : some d ≠ row) (h2 : some mb ≠ row) (h3 : ∀ g, w.heap[g]? = some fl → some g ≠ row) : DL w' base d mb ops n D :=
  ⟨blk_grown h.hd hg h1, h.own.kept hg h2, fun kl => by
    rcases h.at_ kl with h0 | ⟨g, a, b, c⟩
    · exact .inl h0
    · exact .inr ⟨g, a, blk_grown b hg (h3 g b), c⟩, h.bd, h.bm, h.o0, h.o1⟩
theorem goods_succ {names : List ByteArray} {i : Nat} (h : i < names.length) : goods names (i + 1) = goods names i ++ (if nm (rdOf ByteArray.empty names i) then [rdOf ByteArray.empty names i] else []) := by
  unfold goods
  have e : rdOf ByteArray.empty names (i : Int) = names[i] := by
    unfold rdOf
    rw [Int.toNat_natCast, List.getD_eq_getElem?_getD, List.getElem?_eq_getElem h, Option.getD_some]
  rw [List.take_succ_eq_append_getElem h, List.filter_append, e]
  cases h : nm names[i] <;> simp [h]
/-- Is x among them? -/
def among (x : ByteArray) (l : List ByteArray) : Bool := l.any fun g => g.toList == x.toList
theorem rd_mem {l : List ByteArray} {j : Nat} (h : j < l.length) : rdOf ByteArray.empty l j ∈ l := by
  unfold rdOf
  rw [Int.toNat_natCast, List.getD_eq_getElem?_getD, List.getElem?_eq_getElem h, Option.getD_some]
  exact List.getElem_mem h
theorem among_succ {x : ByteArray} {G : List ByteArray} {q : Nat} (h : q < G.length) : among x (G.take (q + 1)) = (among x (G.take q) || (rdOf ByteArray.empty G q).toList == x.toList) := by
  have e : rdOf ByteArray.empty G (q : Int) = G[q] := by
    unfold rdOf
    rw [Int.toNat_natCast, List.getD_eq_getElem?_getD, List.getElem?_eq_getElem h, Option.getD_some]
  unfold among
  rw [List.take_succ_eq_append_getElem h, List.any_append, e]
  simp
theorem begins_q (s p : ByteArray) (w : World) : Calls Try.prog 8 #[.string s, .string p] w fun e w' => e = .returned (.bool (bg s p)) ∧ ∃ q, w' = w.drewN q := (begins_calls s p w).mono fun _ _ h => ⟨h.1, h.2.out⟩
/-- Is g not asked for, or is it among them? -/
def hit (p g : ByteArray) (l : List ByteArray) : Bool := !bg g p || l.any fun x => g.toList == x.toList
theorem hit_succ {p g : ByteArray} {L : List ByteArray} {q : Nat} (h : q < L.length) : hit p g (L.take (q + 1)) = (hit p g (L.take q) || g.toList == (rdOf ByteArray.empty L q).toList) := by
  have e : rdOf ByteArray.empty L (q : Int) = L[q] := rd_get h
  unfold hit
  rw [List.take_succ_eq_append_getElem h, List.any_append, e, Bool.or_assoc]
  simp
theorem hit_all {p : ByteArray} {G L : List ByteArray} (F : Facts p G L) {k : Nat} (h : k < G.length) : hit p (rdOf ByteArray.empty G k) L = true := by
  unfold hit
  cases hb : bg (rdOf ByteArray.empty G k) p with
  | false => rfl
  | true => rw [F.f4 _ (rd_mem h) hb]; rfl
set_option maxRecDepth 100000 in
set_option maxHeartbeats 16000000 in
theorem lists_walk (haw : ∀ w, Calls Try.prog 4 #[] w fun e w' => e = .returned (.bool true) ∧ Below w.heap.size w w') (A : Option Addr) (c : Nat) (names : List ByteArray) (p : ByteArray) (w : World)
    (hC : Kd.C Kd.string w A names.length names) (hc : names.length ≤ c) (hsz : ∀ s ∈ names, s.size ≤ maxLen) :
    Calls Try.prog 3 #[.slice A names.length c, .string p] w fun e w' => e = .returned (.bool true) ∧ Below w.heap.size w w' := by
  go_enter Try.func3, Try.ntmps3
  go_wp2_with (first
    | (go_at_call 4; refine (haw _).mono ?_; rintro e w1 ⟨rfl, hb1⟩)
    | (go_at_call 5; refine (new_calls _).mono ?_; rintro e w2 ⟨d, mb, rfl, hDL, hb2⟩))
  have HS := (L1.mk (w := w) (w' := w2) (names := names) (d := d) (mb := mb) (i := 0) (vg := .slice none 0 0) (by have hs1 := hb1.size; exact ⟨0, 0, .map [], ⟨hDL.hd, hDL.own, fun kl => by rcases hDL.at_ kl with h0 | ⟨g, a, b, c⟩; exact .inl h0; exact .inr ⟨g, a, b, Nat.le_trans hs1 c⟩, Nat.le_trans hs1 hDL.bd, Nat.le_trans hs1 hDL.bm, hDL.o0, hDL.o1⟩, Nat.le_refl _, Kd.R_nil _ _ _ _ _, fun x => by simp [Maps.has, goods, strsL], hb1.trans (hb2.mono hs1)⟩))
  go_loopg [7, 8, 9] 61 (fun kq v7 v8 v9 w' => ∃ (i : Nat), v8 = .int .i64 i ∧ i + kq = 61 ∧ i ≤ names.length ∧ L1 w w' names d mb i v7)
  case atStart => exact ⟨0, rfl, rfl, Nat.zero_le _, HS⟩
  case round =>
    clear HS hDL
    obtain ⟨i, rfl, hik, hin, HL⟩ := hrel
    by_cases hi : i < names.length ∧ i < 60
    · obtain ⟨hi1, hi2⟩ := hi
      have c0 : decide ((i : Int) < (names.length : Int)) = true := decide_eq_true (by omega)
      have c1 : decide ((i : Int) < 60) = true := decide_eq_true (by omega)
      have p0 : 0 ≤ (i : Int) := by omega
      have q0 : (i : Int) < (names.length : Int) := by omega
      obtain ⟨ops, n, D, hDL, hni, hR, hkeys, hB⟩ := HL.out
      obtain ⟨ad, rfl, hx⟩ := Kd.at_string hC (i : Int) p0 q0
      have hx0 := hx
      replace hx := (hB.cell (World.block_lt_of_cell? w _ hx)).trans hx
      rw [Int.toNat_natCast] at hx
      replace p0 := eq_true p0
      replace q0 := eq_true q0
      have hss : (rdOf ByteArray.empty names i).size ≤ maxLen := hsz _ (by
        unfold rdOf
        rw [Int.toNat_natCast, List.getD_eq_getElem?_getD, List.getElem?_eq_getElem hi1, Option.getD_some]
        exact List.getElem_mem hi1)
      rw [Int.toNat_natCast] at hx0
      obtain ⟨Ag, cg, rfl⟩ := Kd.R_slice hR
      cases hm : nm (rdOf ByteArray.empty names i) with
      | true =>
        go_wp2_with (first
          | (go_at_call 6; refine (append_any hDL (by omega) hss).mono ?_; rintro e w3 ⟨ops', n', D', rfl, hDL3, hn3, hk3, hfr3, hb3⟩; rw [hm]; have hx3 := (hb3.cell (World.block_lt_of_cell? w _ hx0)).trans hx; have hR3 := Kd.R_step hR (fun k ho hlt => hfr3 k hlt ho.1 ho.2); have hsz3 := hDL3.szd; have hd3 := blk_lt hDL3.hd; have hm3 := hDL3.own.lt)
          | ((with_reducible refine gate_builtin (b := .append) (xs := #[.tmp 39, .tmp 44]) rfl ?_); at_builtin; refine Kd.R_append Kd.string (w0 := w3) w.heap.size rfl (.tmp 39) (.tmp 44) 22 9 (.string ⟨#[]⟩) 16 rfl Try.underlying22 info9 rfl (by decide) (by omega) _ (goods names i) (rdOf ByteArray.empty names i) [.string (rdOf ByteArray.empty names i)] (fun k => k ≠ d ∧ k ≠ mb) (fun _ => False) rfl rfl rfl (fun _ hk => hk.elim) (fun k hk => ⟨by omega, by omega⟩) hR3 (Below.refl _ w3) hsz3 (by have := List.length_filter_le nm (names.take i); have := List.length_take_le i names; unfold goods; omega) ?_; intro v5 w5 ho5 hb5 hg5 hat5))
        go_roundg (60 - i)
        case measure => omega
        case rel =>
          have hdg := fun g (hf : w3.heap[g]? = some fl) => Kd.R_ne hR3 hf (by decide)
          refine ⟨i + 1, by simp, by omega, by omega, ⟨ops', n', D', hDL3.grown hg5 (fun e => (hR3.1 d e.symm).1 rfl) (fun e => (hR3.1 mb e.symm).2 rfl) (fun g hf e => hdg g hf e), by omega, ?_, fun x => ?_, ?_⟩⟩
          · rw [goods_succ hi1, hm, if_pos rfl]; exact ho5
          · rw [hk3, hkeys, goods_succ hi1, hm, if_pos rfl]; simp [strsL]
          · exact (hB.trans hb3).trans hb5
      | false =>
        go_wp2_with (first
          | (go_at_call 6; refine (append_any hDL (by omega) hss).mono ?_; rintro e w3 ⟨ops', n', D', rfl, hDL3, hn3, hk3, hfr3, hb3⟩; rw [hm]))
        go_roundg (60 - i)
        case measure => omega
        case rel =>
          have hR3 := Kd.R_step hR (fun k ho hlt => hfr3 k hlt ho.1 ho.2)
          refine ⟨i + 1, by simp, by omega, by omega, ⟨ops', n', D', hDL3, by omega, ?_, fun x => ?_, hB.trans hb3⟩⟩
          · rw [goods_succ hi1, hm]; simpa using hR3
          · rw [hk3, hkeys, goods_succ hi1, hm]; simp
    · have hgood : ¬ i < names.length ∨ (i < names.length ∧ (60 : Int) ≤ i) := by
        by_cases h1 : i < names.length
        · exact .inr ⟨h1, by omega⟩
        · exact .inl h1
      obtain ⟨ops, n, D, hDL, hni, hR, hkeys, hB⟩ := HL.out
      have hn : n ≤ 1000 := by omega
      rcases hgood with c0 | ⟨c0, c1⟩
      all_goals
        go_wp2_with (first
          | (go_at_call 7; refine (list_calls p hDL hn).mono ?_; rintro e w4 ⟨vl, ss, rfl, hS, hRl, hb4⟩))
        obtain ⟨Al, cl, rfl, hll, hCl⟩ := Kd.R_reads hRl
        obtain ⟨Ag, cg, rfl, hlg, hCg0⟩ := Kd.R_reads hR
        have hCg := Kd.C_below hCg0 hb4
        have hB4 : Below w.heap.size w w4 := hB.trans (hb4.mono hDL.szd)
        have FF := facts hDL.own (p := p) hkeys hS
        have hG60 : (goods names i).length ≤ 61 := by
          have := List.length_filter_le nm (names.take i)
          have := List.length_take_le i names
          unfold goods
          omega
        have hL60 : ((basL (srt ss)).filter fun s => bg s p).length ≤ 1000 := by
          have e0 := List.length_filter_le (fun s => bg s p) (basL (srt ss))
          have e1 : (basL (srt ss)).length = ss.length := by rw [basL_length, srt, List.length_mergeSort]
          have e2 : (strKeys D).length ≤ Maps.size D := by
            obtain ⟨es, rfl⟩ := hDL.own.isMap
            simp [Maps.size, strKeys]
          have := hDL.own.size_le
          have := hS.length_eq
          omega
        clear hCg0 hRl hR hkeys hS hb4 hDL hB
        generalize goods names i = G at *
        generalize (basL (srt ss)).filter (fun s => bg s p) = L at *
        go_loopg [11, 12, 13] (L.length + 1) (fun kq v11 v12 v13 w' => ∃ (j : Nat), v11 = .int .i64 j ∧ j + kq = L.length + 1 ∧ j ≤ L.length ∧ Drawn0 w4 w')
        case atStart => exact ⟨0, rfl, by omega, by omega, Drawn0.refl _⟩
        case round =>
          obtain ⟨j, rfl, hjk, hjn, ⟨m, rfl⟩⟩ := hrel
          by_cases hj : j < L.length
          · have e0 : decide ((j : Int) < (L.length : Int)) = true := decide_eq_true (by omega)
            go_wp2
            go_loopg [12, 13] (G.length + 1) (fun kq v12 v13 w' => ∃ (q : Nat), v13 = .int .i64 q ∧ v12 = .bool (among (rdOf ByteArray.empty L j) (G.take q)) ∧ q + kq = G.length + 1 ∧ q ≤ G.length ∧ Drawn0 w4 w')
            case atStart => exact ⟨0, rfl, by simp [among], by omega, by omega, ⟨m, rfl⟩⟩
            case round =>
              obtain ⟨q, rfl, rfl, hqk, hqn, ⟨m2, rfl⟩⟩ := hrel
              by_cases hq : q < G.length
              · have e1 : decide ((q : Int) < (G.length : Int)) = true := decide_eq_true (by omega)
                have pj : 0 ≤ (j : Int) := by omega
                have qj : (j : Int) < (L.length : Int) := by omega
                have pq : 0 ≤ (q : Int) := by omega
                have qq : (q : Int) < (G.length : Int) := by omega
                obtain ⟨ad, rfl, hx⟩ := Kd.at_string hCl (j : Int) pj qj
                obtain ⟨ag, rfl, hy⟩ := Kd.at_string hCg (q : Int) pq qq
                rw [Int.toNat_natCast] at hx hy
                replace pj := eq_true pj
                replace qj := eq_true qj
                replace pq := eq_true pq
                replace qq := eq_true qq
                cases hth : among (rdOf ByteArray.empty L j) (G.take q) with
                | true =>
                  go_wp2
                  go_region
                  go_wp2
                  go_roundg (G.length - q)
                  case measure => omega
                  case rel => exact ⟨q + 1, by first | rfl | (rw [wrap_in (by omega) (by omega)]; rfl), by rw [among_succ hq, hth]; rfl, by omega, by omega, ⟨_, rfl⟩⟩
                | false =>
                  go_wp2
                  go_quiet (fail)
                  go_wp2
                  go_roundg (G.length - q)
                  case measure => omega
                  case rel => exact ⟨q + 1, by first | rfl | (rw [wrap_in (by omega) (by omega)]; rfl), by rw [among_succ hq, hth]; rfl, by omega, by omega, ⟨_, rfl⟩⟩
              · have e1 : ¬ q < G.length := hq
                have hall : among (rdOf ByteArray.empty L j) (G.take q) = true := by
                  rw [List.take_of_length_le (by omega)]
                  exact FF.f1 _ (rd_mem hj)
                rw [hall]
                have hbg := FF.f2 _ (rd_mem hj)
                have pj : 0 ≤ (j : Int) := by omega
                have qj : (j : Int) < (L.length : Int) := by omega
                obtain ⟨ad, rfl, hx⟩ := Kd.at_string hCl (j : Int) pj qj
                rw [Int.toNat_natCast] at hx
                replace pj := eq_true pj
                replace qj := eq_true qj
                have hd2 : Drawn0 w4 (w4.drewN m2) := ⟨m2, rfl⟩
                replace hx : (w4.drewN m2).cell? (ad.add j) = some (.string (rdOf ByteArray.empty L j)) := hx
                generalize w4.drewN m2 = wz at hd2 hx ⊢
                by_cases hj0 : ¬ 0 < j
                · go_wp2
                  go_quiet (first | (go_at_call 8; rw [← hbg]; exact Calls.quiet_of (begins_q _ _ _)) | (go_at_call 8; exact Calls.quiet_of (begins_q _ _ _)))
                  go_wp2
                  go_roundg (L.length - j)
                  case measure => omega
                  case rel => exact ⟨j + 1, by first | rfl | (rw [wrap_in (by omega) (by omega)]; rfl), by omega, by omega, hd2.step _⟩
                · have hj1 : 0 < j := by omega
                  have hx1 : wz.cell? (ad.add ((j : Int) - 1).toNat) = some (.string (rdOf ByteArray.empty L ((j : Int) - 1))) := by
                    obtain ⟨mz, rfl⟩ := hd2
                    obtain ⟨ad', e', h'⟩ := Kd.at_string hCl ((j : Int) - 1) (by omega) (by omega)
                    obtain rfl := Option.some.inj e'
                    exact h'
                  have hF : Op.bytesLess (rdOf ByteArray.empty L ((j : Int) - 1)).toList (rdOf ByteArray.empty L j).toList = true := by
                    have := FF.f3 (j - 1) (by omega)
                    rw [show j - 1 + 1 = j by omega, show ((j - 1 : Nat) : Int) = (j : Int) - 1 by omega] at this
                    exact this
                  have hw : wrap64 ((j : Int) - 1) = (j : Int) - 1 := wrap_in (by omega) (by omega)
                  have r1 : 0 ≤ (j : Int) - 1 := by omega
                  have r2 : (j : Int) - 1 < (L.length : Int) := by omega
                  obtain ⟨z, hz⟩ : ∃ z, (j : Int) - 1 = z := ⟨_, rfl⟩
                  rw [hz] at r1 r2 hw hx1 hF
                  rw [← hz] at hw
                  rw [hz] at hw
                  replace r1 := eq_true r1
                  replace r2 := eq_true r2
                  go_wp2
                  go_quiet (first | (go_at_call 8; rw [← hbg]; exact Calls.quiet_of (begins_q _ _ _)) | (go_at_call 8; exact Calls.quiet_of (begins_q _ _ _)))
                  go_wp2
                  go_roundg (L.length - j)
                  case measure => omega
                  case rel => exact ⟨j + 1, by first | rfl | (rw [wrap_in (by omega) (by omega)]; rfl), by omega, by omega, hd2.step _⟩
          · have e0 : ¬ j < L.length := hj
            go_wp2
            go_loopg [14, 15, 16] (G.length + 1) (fun kq v14 v15 v16 w' => ∃ (k : Nat), v14 = .int .i64 k ∧ k + kq = G.length + 1 ∧ k ≤ G.length ∧ Drawn0 w4 w')
            case atStart => exact ⟨0, rfl, by omega, by omega, ⟨m, rfl⟩⟩
            case round =>
              obtain ⟨k, rfl, hkk, hkn, ⟨m3, rfl⟩⟩ := hrel
              by_cases hk : k < G.length
              · have e1 : decide ((k : Int) < (G.length : Int)) = true := decide_eq_true (by omega)
                have pk : 0 ≤ (k : Int) := by omega
                have qk : (k : Int) < (G.length : Int) := by omega
                obtain ⟨ag, rfl, hy⟩ := Kd.at_string hCg (k : Int) pk qk
                rw [Int.toNat_natCast] at hy
                replace pk := eq_true pk
                replace qk := eq_true qk
                go_wp2_with (first | (go_at_call 8; refine (begins_q _ _ _).mono ?_; rintro e w5 ⟨rfl, m5, rfl⟩))
                go_loopg [15, 16] (L.length + 1) (fun kq v15 v16 w' => ∃ (q : Nat), v16 = .int .i64 q ∧ v15 = .bool (hit p (rdOf ByteArray.empty G k) (L.take q)) ∧ q + kq = L.length + 1 ∧ q ≤ L.length ∧ Drawn0 w4 w')
                case atStart => exact ⟨0, rfl, by simp [hit], by omega, by omega, ⟨_, rfl⟩⟩
                case round =>
                  obtain ⟨q, rfl, rfl, hqk, hqn, ⟨m6, rfl⟩⟩ := hrel
                  by_cases hq : q < L.length
                  · have e2 : decide ((q : Int) < (L.length : Int)) = true := decide_eq_true (by omega)
                    have pq : 0 ≤ (q : Int) := by omega
                    have qq : (q : Int) < (L.length : Int) := by omega
                    obtain ⟨ad, rfl, hx⟩ := Kd.at_string hCl (q : Int) pq qq
                    rw [Int.toNat_natCast] at hx
                    replace pq := eq_true pq
                    replace qq := eq_true qq
                    cases hth : hit p (rdOf ByteArray.empty G k) (L.take q) with
                    | true =>
                      go_wp2
                      go_region
                      go_wp2
                      go_roundg (L.length - q)
                      case measure => omega
                      case rel => exact ⟨q + 1, by first | rfl | (rw [wrap_in (by omega) (by omega)]; rfl), by rw [hit_succ hq, hth]; rfl, by omega, by omega, ⟨_, rfl⟩⟩
                    | false =>
                      go_wp2
                      go_quiet (fail)
                      go_wp2
                      go_roundg (L.length - q)
                      case measure => omega
                      case rel => exact ⟨q + 1, by first | rfl | (rw [wrap_in (by omega) (by omega)]; rfl), by rw [hit_succ hq, hth]; rfl, by omega, by omega, ⟨_, rfl⟩⟩
                  · have e2 : ¬ q < L.length := hq
                    have hall : hit p (rdOf ByteArray.empty G k) (L.take q) = true := by
                      rw [List.take_of_length_le (by omega)]
                      exact hit_all FF hk
                    rw [hall]
                    go_wp2
                    go_roundg (G.length - k)
                    case measure => omega
                    case rel => exact ⟨k + 1, by first | rfl | (rw [wrap_in (by omega) (by omega)]; rfl), by omega, by omega, ⟨_, rfl⟩⟩
              · have e1 : ¬ k < G.length := hk
                go_wp2
                go_ret
                exact ⟨rfl, hB4.trans (pw_below_drewN (Below.refl _ _) _)⟩
end Go.Proofs.Ytadonahmamopbaa.QDk
