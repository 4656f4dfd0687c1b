/- The state of an intake in memory; New, Next, Check. -/
import Derived.Test.YtdlkhjfkhbeaaaaQInx1
import Derived.Lib.Hide
import Derived.WalkSpells
import Derived.Outline
namespace Go.Proofs.Ytdlkhjfkhbeaaaa.QIn
open Go.RowKit Go.Proofs.YtdlkhjfkhbeaaaaW.PrintWords Go.Proofs.YtdlkhjfkhbeaaaaW.PrintLast Go.Proofs.YtdlkhjfkhbeaaaaW.PrintMore
/-- A batch that was sealed: its number, from, to, its chunks, how many facts it has. -/
structure S70 where
  f0 : Int
  f1 : Int
  f2 : Int
  f3 : List S55
  f4 : Int
def z70 : S70 := ⟨0, 0, 0, [], 0⟩
def k70 : Kd S70 := Kd.iso (Kd.pair (Kd.int .i64) (Kd.pair (Kd.int .u64) (Kd.pair (Kd.int .u64) (Kd.pair (Kd.slice 55 k55) (Kd.int .i64))))) (fun x : S70 => (x.f0, x.f1, x.f2, x.f3, x.f4))
/-- An intake's cells. -/
abbrev ink (dims meas chunk next : Int) (vf : Value) (op : Int) (vb : Value) (last : Int) : Obj :=
  .cells #[.int .i64 dims, .int .i64 meas, .int .i64 chunk, .int .u64 next, vf, .int .i64 op, vb, .int .i64 last] 63 (0, 0)
/-- An intake in memory: its cells, its facts, its batches. -/
structure IN (w : World) (base x : Nat) (dims meas chunk next : Int) (vf : Value) (fs : List S37) (op : Int) (vb : Value) (bs : List S70) (last : Int) : Prop where mk ::
  hx : w.heap[x]? = some (ink dims meas chunk next vf op vb last)
  hf : Kd.N k37 37 w base (fun k => k ≠ x ∧ some k ≠ vb.ownBlock) vf fs
  hb : Kd.N k70 70 w base (fun k => k ≠ x ∧ some k ≠ vf.ownBlock) vb bs
  bx : base ≤ x
variable {w w1 : World} {base x : Nat} {dims meas chunk next : Int} {vf : Value} {fs : List S37} {op : Int} {vb : Value} {bs : List S70} {last : Int}
theorem IN.below (h : IN w base x dims meas chunk next vf fs op vb bs last) (hb : Below w.heap.size w w1) : IN w1 base x dims meas chunk next vf fs op vb bs last :=
  ⟨blk_below h.hx hb, Kd.N_below h.hf hb, Kd.N_below h.hb hb, h.bx⟩
theorem IN.lt (h : IN w base x dims meas chunk next vf fs op vb bs last) : x < w.heap.size := blk_lt h.hx
theorem IN.szd (h : IN w base x dims meas chunk next vf fs op vb bs last) : base ≤ w.heap.size := Nat.le_trans h.bx (Nat.le_of_lt h.lt)
set_option maxHeartbeats 1000000 in
theorem new_calls (dims meas chunk next : Int) (w : World) (h0 : 0 ≤ dims) (h1 : dims ≤ 8) (h2 : 0 ≤ meas) (h3 : meas ≤ 8) (h4 : 1 ≤ chunk) (h5 : chunk ≤ 1099511627776) (h6 : 1 ≤ next) :
    Calls Try.prog 7 #[.agg #[.int .i64 dims, .int .i64 meas], .int .i64 chunk, .int .u64 next] w fun e w' => ∃ x, e = .returned (.tuple #[.pointer (some ⟨x, 0, none⟩), .int .i64 0]) ∧ IN w' w.heap.size x dims meas chunk next (.slice none 0 0) [] 0 (.slice none 0 0) [] 0 ∧ Below w.heap.size w w' := by
  have hF : fact_Fine.f dims meas = some 0 := by
    unfold fact_Fine.f
    rw [if_neg (by omega), if_neg (by omega), if_neg (by omega), if_neg (by omega)]
  have e1 : decide (chunk < 1) = false := decide_eq_false (by omega)
  have e2 : decide (chunk > 1099511627776) = false := decide_eq_false (by omega)
  have e3 : decide (next < 1) = false := decide_eq_false (by omega)
  have HF := Lib.hid hF
  clear hF
  go_enter Try.func7, Try.ntmps7
  go_wp2_with (first | (go_at_call 17; refine (fact_Fine.calls _ _ _ _ HF.out).mono ?_; rintro e w1 ⟨rfl, hb1⟩; have BK := blk_below (blk_new w _) hb1; have k0 : w1.cell? ⟨w.heap.size, 0, none⟩ = some (.int .i64 dims) := (blk_cell BK 0).trans rfl; have k1 : w1.cell? ⟨w.heap.size, 1, none⟩ = some (.int .i64 meas) := (blk_cell BK 1).trans rfl))
  go_ret2
  have hs := hb1.size
  refine ⟨_, rfl, ⟨blk_new w1 _, Kd.N_nil _ _ _ _ _, Kd.N_nil _ _ _ _ _, ?_⟩, ?_⟩
  · simp at hs; omega
  · exact (((Below.refl _ w).alloc (Nat.le_refl _) _).trans (hb1.mono (by simp))).alloc (by simp at hs; omega) _
/-- Next. -/
theorem next_calls (h : IN w base x dims meas chunk next vf fs op vb bs last) : Calls Try.prog 13 #[.pointer (some ⟨x, 0, none⟩)] w fun e w' => e = .returned (.int .u64 next) ∧ w' = w := by
  have c1 : w.cell? ⟨x, 3, none⟩ = some (.int .u64 next) := (blk_cell h.hx 3).trans rfl
  have A := Lib.hid h
  clear h
  go_enter Try.func13, Try.ntmps13
  go_wp2
  go_ret
  exact ⟨rfl, rfl⟩
theorem wrap64_in {n : Int} (h : -9223372036854775808 ≤ n) (h' : n ≤ 9223372036854775807) : wrap64 n = n := by unfold wrap64; omega
/-- Is one of the texts too long? -/
def long (l : List ByteArray) : Bool := l.any fun s => decide (64 < s.size)
theorem fn25 (s : ByteArray) (w : World) : Calls Try.prog 25 #[.string s] w fun e w' => e = .returned (.bool (decide (64 < s.size))) ∧ w' = w := by
  go_enter Try.func25, Try.ntmps25
  go_wp2
  go_ret
  exact ⟨by simp; omega, rfl⟩
theorem long_at {l : List ByteArray} {j : Nat} (h : j < l.length) : long (l.drop j) = (decide (64 < (rdOf ByteArray.empty l j).size) || long (l.drop (j + 1))) := by
  have e : rdOf ByteArray.empty l (j : Int) = l[j] := by
    unfold rdOf
    rw [Int.toNat_natCast, List.getD_eq_getElem?_getD, List.getElem?_eq_getElem h, Option.getD_some]
  rw [List.drop_eq_getElem_cons h, e]
  rfl
set_option maxHeartbeats 1000000 in
theorem indexf_calls (A : Option Addr) (c : Nat) (l : List ByteArray) (w : World) (hC : Kd.string.C w A l.length l) :
    Calls Try.prog 32 #[.slice A l.length c, .func (.func 25) #[] #[]] w fun e w' => ∃ r : Int, e = .returned (.int .i64 r) ∧ decide (r ≥ 0) = long l ∧ w' = w := by
  have hm := hC.2.1
  go_enter Try.func32, Try.ntmps32
  go_wp2
  go_loopg [5, 8] (l.length + 1) (fun kq v5 v8 w' => ∃ j : Nat, v8 = .int .i64 j ∧ j + kq = l.length + 1 ∧ j ≤ l.length ∧ w' = w ∧ long l = long (l.drop j))
  case atStart => exact ⟨0, rfl, by omega, by omega, rfl, by simp⟩
  case round =>
    obtain ⟨j, rfl, hjk, hjl, rfl, hlo⟩ := hrel
    by_cases hj : j < l.length
    · have e1 : decide ((j : Int) < (l.length : Int)) = true := decide_eq_true (by omega)
      have pj : 0 ≤ (j : Int) := by omega
      have qj : (j : Int) < (l.length : Int) := by omega
      obtain ⟨ad, rfl, hx⟩ := Kd.at_string hC (j : Int) pj qj
      rw [Int.toNat_natCast] at hx
      replace pj := eq_true pj
      replace qj := eq_true qj
      rw [long_at hj] at hlo
      have HL := Lib.hid hlo
      clear hlo
      cases hb : decide (64 < (rdOf ByteArray.empty l j).size) with
      | true =>
        rw [hb] at HL
        go_wp2_with (first | (go_at_call 25; refine (fn25 _ _).mono ?_; rw [hb]; rintro e w1 ⟨rfl, rfl⟩))
        go_ret
        exact ⟨j, rfl, by rw [HL.out]; simp, rfl⟩
      | false =>
        rw [hb] at HL
        go_wp2_with (first | (go_at_call 25; refine (fn25 _ _).mono ?_; rw [hb]; rintro e w1 ⟨rfl, rfl⟩))
        go_roundg (l.length - j)
        case measure => omega
        case rel => exact ⟨j + 1, by first | rfl | (rw [wrap64_in (by omega) (by omega)]; rfl), by omega, by omega, rfl, HL.out⟩
    · have e1 : decide ((j : Int) < (l.length : Int)) = false := decide_eq_false (by omega)
      have HL := Lib.hid hlo
      clear hlo
      go_wp2
      go_ret
      refine ⟨-1, rfl, ?_, rfl⟩
      rw [HL.out, List.drop_of_length_le (by omega)]
      rfl
theorem containsf_calls (A : Option Addr) (c : Nat) (l : List ByteArray) (w : World) (hC : Kd.string.C w A l.length l) :
    Calls Try.prog 26 #[.slice A l.length c, .func (.func 25) #[] #[]] w fun e w' => e = .returned (.bool (long l)) ∧ w' = w := by
  have H := Lib.hid hC
  clear hC
  go_enter Try.func26, Try.ntmps26
  go_wp2_with (first | (go_at_call 32; refine (indexf_calls A c l _ H.out).mono ?_; rintro e w1 ⟨r, rfl, hr, rfl⟩; have HR := Lib.hid hr; clear hr))
  go_ret
  exact ⟨by rw [← HR.out]; rfl, rfl⟩
theorem fine_calls (dims meas : Int) (h0 : 0 ≤ dims) (h1 : dims ≤ 8) (h2 : 0 ≤ meas) (h3 : meas ≤ 8) (w : World) : Calls Try.prog 17 #[.agg #[.int .i64 dims, .int .i64 meas]] w fun e w' => e = .returned (.int .i64 0) ∧ Below w.heap.size w w' := by
  have hF : fact_Fine.f dims meas = some 0 := by
    unfold fact_Fine.f
    rw [if_neg (by omega), if_neg (by omega), if_neg (by omega), if_neg (by omega)]
  exact fact_Fine.calls _ _ _ _ hF
/-- Two parameters in memory, behind a call that leaves what is there. -/
theorem two_boxes {w w1 : World} {cs cs' : Array Value} {t t' : TypeId} (hb : Below ((w.alloc (.cells cs t)).alloc (.cells cs' t')).heap.size ((w.alloc (.cells cs t)).alloc (.cells cs' t')) w1) :
    (∀ i, w1.cell? ⟨w.heap.size, i, none⟩ = cs[i]?) ∧ ∀ i, w1.cell? ⟨w.heap.size + 1, i, none⟩ = cs'[i]? := by
  have h2 := blk_below (blk_new (w.alloc (.cells cs t)) (.cells cs' t')) hb
  have h1 := blk_below (blk_alloc (blk_new w (.cells cs t)) (.cells cs' t')) hb
  have e : (w.alloc (.cells cs t)).heap.size = w.heap.size + 1 := by simp
  rw [e] at h2
  exact ⟨fun i => blk_cell h1 i, fun i => blk_cell h2 i⟩
set_option maxHeartbeats 2000000 in
/-- Check: a fact that fits its schema but, maybe, for texts that are too long. -/
theorem check_fit (dims meas t : Int) (A1 A2 : Option Addr) (c1 c2 : Nat) (l1 : List ByteArray) (l2 : List Int) (w : World) (g0 : 0 ≤ dims) (g1 : dims ≤ 8) (g2 : 0 ≤ meas) (g3 : meas ≤ 8) (h0 : 0 ≤ t) (h1 : t < 1099511627776) (hd : (l1.length : Int) = dims) (hm : (l2.length : Int) = meas)
    (hC : Kd.string.C w A1 l1.length l1) :
    Calls Try.prog 18 #[.agg #[.int .i64 dims, .int .i64 meas], .agg #[.int .i64 t, .slice A1 l1.length c1, .slice A2 l2.length c2]] w fun e w' => e = .returned (.int .i64 (if long l1 then 40 else 0)) ∧ Below w.heap.size w w' := by
  subst hd
  subst hm
  have e1 : decide (t < 0) = false := decide_eq_false (by omega)
  have e2 : decide (t ≥ 1099511627776) = false := decide_eq_false (by omega)
  have H := Lib.hid hC
  clear hC
  have hB : ∀ {w1 : World}, Below ((w.alloc (.cells #[.int .i64 (l1.length : Int), .int .i64 (l2.length : Int)] 31)).alloc (.cells #[.int .i64 t, .slice A1 l1.length c1, .slice A2 l2.length c2] 37)).heap.size ((w.alloc (.cells #[.int .i64 (l1.length : Int), .int .i64 (l2.length : Int)] 31)).alloc (.cells #[.int .i64 t, .slice A1 l1.length c1, .slice A2 l2.length c2] 37)) w1 → Below w.heap.size w w1 := fun hb =>
    (((Below.refl _ w).alloc (Nat.le_refl _) _).alloc (by simp) _).trans (hb.mono (by simp; omega))
  cases hl : long l1 with
  | true =>
    go_enter Try.func18, Try.ntmps18
    go_wp2_with (first
      | (go_at_call 17; refine (fine_calls _ _ g0 g1 g2 g3 _).mono ?_; rintro e w1 ⟨rfl, hb1⟩; have K := two_boxes hb1; have k0 : w1.cell? ⟨w.heap.size, 0, none⟩ = some (.int .i64 (l1.length : Int)) := (K.1 0).trans rfl; have k1 : w1.cell? ⟨w.heap.size, 1, none⟩ = some (.int .i64 (l2.length : Int)) := (K.1 1).trans rfl; have j0 : w1.cell? ⟨w.heap.size + 1, 0, none⟩ = some (.int .i64 t) := (K.2 0).trans rfl; have j1 : w1.cell? ⟨w.heap.size + 1, 1, none⟩ = some (.slice A1 l1.length c1) := (K.2 1).trans rfl; have j2 : w1.cell? ⟨w.heap.size + 1, 2, none⟩ = some (.slice A2 l2.length c2) := (K.2 2).trans rfl; have HB := Lib.hid (hB hb1); clear K hb1)
      | (go_at_call 26; refine (containsf_calls A1 c1 l1 _ (Kd.C_below H.out HB.out)).mono ?_; rw [hl]; rintro e w2 ⟨rfl, rfl⟩))
    go_ret
    exact ⟨rfl, HB.out⟩
  | false =>
    go_enter Try.func18, Try.ntmps18
    go_wp2_with (first
      | (go_at_call 17; refine (fine_calls _ _ g0 g1 g2 g3 _).mono ?_; rintro e w1 ⟨rfl, hb1⟩; have K := two_boxes hb1; have k0 : w1.cell? ⟨w.heap.size, 0, none⟩ = some (.int .i64 (l1.length : Int)) := (K.1 0).trans rfl; have k1 : w1.cell? ⟨w.heap.size, 1, none⟩ = some (.int .i64 (l2.length : Int)) := (K.1 1).trans rfl; have j0 : w1.cell? ⟨w.heap.size + 1, 0, none⟩ = some (.int .i64 t) := (K.2 0).trans rfl; have j1 : w1.cell? ⟨w.heap.size + 1, 1, none⟩ = some (.slice A1 l1.length c1) := (K.2 1).trans rfl; have j2 : w1.cell? ⟨w.heap.size + 1, 2, none⟩ = some (.slice A2 l2.length c2) := (K.2 2).trans rfl; have HB := Lib.hid (hB hb1); clear K hb1)
      | (go_at_call 26; refine (containsf_calls A1 c1 l1 _ (Kd.C_below H.out HB.out)).mono ?_; rw [hl]; rintro e w2 ⟨rfl, rfl⟩))
    go_ret
    exact ⟨rfl, HB.out⟩
/-- Check: a time below 0. -/
theorem check_neg (dims meas t : Int) (v1 v2 : Value) (w : World) (g0 : 0 ≤ dims) (g1 : dims ≤ 8) (g2 : 0 ≤ meas) (g3 : meas ≤ 8) (h0 : t < 0) (o1 : v1.oneCell' = true) (o2 : v2.oneCell' = true) (A1 A2 : Option Addr) (n1 n2 c1 c2 : Nat) (hv1 : v1 = .slice A1 n1 c1) (hv2 : v2 = .slice A2 n2 c2) :
    Calls Try.prog 18 #[.agg #[.int .i64 dims, .int .i64 meas], .agg #[.int .i64 t, v1, v2]] w fun e w' => e = .returned (.int .i64 40) ∧ Below w.heap.size w w' := by
  subst hv1
  subst hv2
  have e1 : decide (t < 0) = true := decide_eq_true h0
  have hB : ∀ {w1 : World}, Below ((w.alloc (.cells #[.int .i64 dims, .int .i64 meas] 31)).alloc (.cells #[.int .i64 t, .slice A1 n1 c1, .slice A2 n2 c2] 37)).heap.size ((w.alloc (.cells #[.int .i64 dims, .int .i64 meas] 31)).alloc (.cells #[.int .i64 t, .slice A1 n1 c1, .slice A2 n2 c2] 37)) w1 → Below w.heap.size w w1 := fun hb =>
    (((Below.refl _ w).alloc (Nat.le_refl _) _).alloc (by simp) _).trans (hb.mono (by simp; omega))
  go_enter Try.func18, Try.ntmps18
  go_wp2_with (first
    | (go_at_call 17; refine (fine_calls _ _ g0 g1 g2 g3 _).mono ?_; rintro e w1 ⟨rfl, hb1⟩; have K := two_boxes hb1; have j0 : w1.cell? ⟨w.heap.size + 1, 0, none⟩ = some (.int .i64 t) := (K.2 0).trans rfl; have HB := Lib.hid (hB hb1); clear K hb1))
  go_ret
  exact ⟨rfl, HB.out⟩
end Go.Proofs.Ytdlkhjfkhbeaaaa.QIn
