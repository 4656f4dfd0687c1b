/- What IntakeOnce's loop keeps. -/
import Derived.Test.YtdlkhjfkhbeaaaaIk9
namespace Go.Proofs.Ytdlkhjfkhbeaaaa.QIn
open Go.RowKit Go.Maps Go.Proofs.YtdlkhjfkhbeaaaaW.PrintWords Go.Proofs.YtdlkhjfkhbeaaaaW.PrintLast Go.Proofs.YtdlkhjfkhbeaaaaW.PrintMore
variable {w w1 : World} {base x : Nat} {dims meas chunk next : Int} {vf : Value} {fs : List S37} {op : Int} {vb : Value} {bs : List S70} {last : Int}
def ab (n : Int) : Int := if n < 0 then -(n + 1) else n
theorem ab_pos (n : Int) : 0 ≤ ab n := by unfold ab; split <;> omega
theorem ab_top {n : Int} (h : -9223372036854775808 ≤ n) (h' : n ≤ 9223372036854775807) : ab n ≤ 9223372036854775807 := by unfold ab; split <;> omega
theorem abs_calls (n : Int) (h : -9223372036854775808 ≤ n) (h' : n ≤ 9223372036854775807) (w : World) : Calls Try.prog 8 #[.int .i64 n] w fun e w' => e = .returned (.int .i64 (ab n)) ∧ w' = w := by
  go_enter Try.func8, Try.ntmps8
  by_cases c : n < 0
  · have e1 : decide (n < 0) = true := decide_eq_true c
    go_wp2
    go_ret
    have : ab n = -(n + 1) := if_pos c
    rw [this]
    simp
  · have e1 : decide (n < 0) = false := decide_eq_false c
    go_wp2
    go_ret
    have : ab n = n := if_neg (by omega)
    rw [this]
    simp
theorem abs_q (n : Int) (h : -9223372036854775808 ≤ n) (h' : n ≤ 9223372036854775807) (w : World) : Calls Try.prog 8 #[.int .i64 n] w fun e w' => e = .returned (.int .i64 (ab n)) ∧ ∃ q, w' = w.drewN q :=
  (abs_calls n h h' w).mono fun _ _ h => ⟨h.1, 0, h.2⟩
/-- The facts of the first k times. -/
def FT (ts : List Int) (k : Nat) : List S37 := (ts.take k).map fun t => ⟨ab t % 100, [], []⟩
theorem rd_in {ts : List Int} {j : Nat} (h : j < ts.length) : rd ts j ∈ ts := by
  unfold rd
  rw [Int.toNat_natCast, List.getD_eq_getElem?_getD, List.getElem?_eq_getElem h, Option.getD_some]
  exact List.getElem_mem h
theorem FT_len {ts : List Int} {k : Nat} (h : k ≤ ts.length) : (FT ts k).length = k := by simp [FT, h]
theorem FT_succ {ts : List Int} {k : Nat} (h : k < ts.length) : FT ts (k + 1) = FT ts k ++ [⟨ab (rd ts k) % 100, [], []⟩] := by
  unfold FT rd
  rw [Int.toNat_natCast, List.getD_eq_getElem?_getD, List.getElem?_eq_getElem h, Option.getD_some, List.take_succ_eq_append_getElem h, List.map_append]
  rfl
theorem mod_in (a : Int) {m : Int} (hm : 0 < m) : 0 ≤ a % m ∧ a % m < m := ⟨Int.emod_nonneg _ (by omega), Int.emod_lt_of_pos _ hm⟩
theorem FT_good {ts : List Int} {k : Nat} (h : k ≤ 1000) : Good (FT ts k) := ⟨by unfold FT; rw [List.length_map]; exact Nat.le_trans (List.length_take_le _ _) h, fun f hf => by
  obtain ⟨t, _, rfl⟩ := List.mem_map.1 hf
  exact ⟨Nat.zero_le _, Nat.zero_le _⟩⟩
theorem FT_in {ts : List Int} {k : Nat} : ∀ f ∈ FT ts k, 0 ≤ f.f0 ∧ f.f0 < 1099511627776 := fun f hf => by
  obtain ⟨t, _, rfl⟩ := List.mem_map.1 hf
  have := mod_in (ab t) (show (0 : Int) < 100 by decide)
  exact ⟨this.1, by show ab t % 100 < _; omega⟩
theorem FT_at {ts : List Int} {k i : Nat} (h : i < k) (hk : k ≤ ts.length) : (rd_T37 (FT ts k) (i : Int)).f0 = ab (rd ts i) % 100 := by
  unfold rd_T37 rd
  have hi : i < (FT ts k).length := by rw [FT_len hk]; exact h
  rw [Int.toNat_natCast, List.getD_eq_getElem?_getD, List.getD_eq_getElem?_getD, List.getElem?_eq_getElem hi, List.getElem?_eq_getElem (show i < ts.length by omega), Option.getD_some, Option.getD_some]
  simp [FT]
/-- What the loop keeps. -/
structure O1 (w0 w' : World) (base x : Nat) (ts : List Int) (tk i j : Nat) (op : Int) (vf vb : Value) (bs : List S70) (last : Int) : Prop where mk ::
  tl : tk ≤ ts.length
  tj : tk ≤ i
  hI : IN w' base x 0 0 7 (tk + 1) vf (FT ts tk) op vb bs last
  op0 : 0 ≤ op
  op1 : op ≤ tk
  bl : bs.length ≤ j
  l0 : 0 ≤ last
  l1 : last ≤ j
  hB : Below w0.heap.size w0 w'
  bw : w0.heap.size ≤ base
theorem O1.below {w0 w1 w2 : World} {ts : List Int} {tk i j : Nat} (h : O1 w0 w1 base x ts tk i j op vf vb bs last) (hb : Below w1.heap.size w1 w2) : O1 w0 w2 base x ts tk i j op vf vb bs last :=
  ⟨h.tl, h.tj, h.hI.below hb, h.op0, h.op1, h.bl, h.l0, h.l1, h.hB.trans (hb.mono h.hB.size), h.bw⟩
theorem O1.step {w0 w1 : World} {ts : List Int} {tk i j i' j' : Nat} (h : O1 w0 w1 base x ts tk i j op vf vb bs last) (hi : i ≤ i') (hj : j ≤ j') : O1 w0 w1 base x ts tk i' j' op vf vb bs last :=
  ⟨h.tl, Nat.le_trans h.tj hi, h.hI, h.op0, h.op1, Nat.le_trans h.bl hj, h.l0, Int.le_trans h.l1 (by omega), h.hB, h.bw⟩
theorem seal_O {w0 : World} {ts : List Int} {tk i j : Nat} (h : O1 w0 w base x ts tk i j op vf vb bs last) (hi : i ≤ 301) (hj : j ≤ 301) :
    Calls Try.prog 11 #[.pointer (some ⟨x, 0, none⟩)] w fun e w' => ∃ v vb' bs' last', e = .returned v ∧ O1 w0 w' base x ts tk i (j + 1) 0 vf vb' bs' last' := by
  have hl := FT_len h.tl
  have ht := h.tj
  have hb := h.bl
  have hl1 := h.l1
  have ho1 := h.op1
  refine (seal_any h.hI h.op0 (by omega) (by omega) (by omega) (by decide) (by decide) FT_in (FT_good (by omega)) h.l0 (by omega) (by omega)).mono ?_
  rintro e w' ⟨v, vb', bs', last', rfl, hI, k1, k2, k3, k4⟩
  have hl0 := h.l0
  exact ⟨v, vb', bs', last', rfl, h.tl, h.tj, hI, Int.le_refl _, by omega, by omega, by omega, by omega, h.hB.trans (k4.mono h.bw), h.bw⟩
theorem old_O {w0 : World} {ts : List Int} {tk i j : Nat} (h : O1 w0 w base x ts tk i j op vf vb bs last) (n : Nat) (hn : n < tk) (t : Int) (A1 A2 : Option Addr) (c1 c2 : Nat) :
    Calls Try.prog 9 #[.pointer (some ⟨x, 0, none⟩), .int .u64 (n + 1), .agg #[.int .i64 t, .slice A1 0 c1, .slice A2 0 c2]] w fun e w' => e = .returned (.int .i64 170) ∧ O1 w0 w' base x ts tk i j op vf vb bs last := by
  refine (take_old h.hI (n + 1) t A1 A2 0 0 c1 c2 (by omega)).mono ?_
  rintro e w' ⟨rfl, hb⟩
  exact ⟨rfl, h.below hb⟩
theorem gap_O {w0 : World} {ts : List Int} {tk i j : Nat} (h : O1 w0 w base x ts tk i j op vf vb bs last) (n : Nat) (hn : tk < n) (t : Int) (A1 A2 : Option Addr) (c1 c2 : Nat) :
    Calls Try.prog 9 #[.pointer (some ⟨x, 0, none⟩), .int .u64 (n + 1), .agg #[.int .i64 t, .slice A1 0 c1, .slice A2 0 c2]] w fun e w' => e = .returned (.int .i64 171) ∧ O1 w0 w' base x ts tk i j op vf vb bs last := by
  refine (take_gap h.hI (n + 1) t A1 A2 0 0 c1 c2 (by omega)).mono ?_
  rintro e w' ⟨rfl, hb⟩
  exact ⟨rfl, h.below hb⟩
theorem at_O {w0 : World} {ts : List Int} {tk i j : Nat} (h : O1 w0 w base x ts tk i j op vf vb bs last) (hi : i ≤ 301) (hn : tk < ts.length) (A1 A2 : Option Addr) (c1 c2 : Nat) :
    Calls Try.prog 9 #[.pointer (some ⟨x, 0, none⟩), .int .u64 (tk + 1), .agg #[.int .i64 (ab (rd ts tk) % 100), .slice A1 0 c1, .slice A2 0 c2]] w fun e w' => ∃ vf', e = .returned (.int .i64 0) ∧ O1 w0 w' base x ts (tk + 1) (i + 1) j (op + 1) vf' vb bs last := by
  have hl := FT_len h.tl
  have ht := h.tj
  have hm := mod_in (ab (rd ts tk)) (show (0 : Int) < 100 by decide)
  have ho0 := h.op0
  have ho1 := h.op1
  refine (take_at h.hI (ab (rd ts tk) % 100) A1 A2 c1 c2 (by omega) (by omega) (by omega) (by omega) (by omega) (by omega) (by omega)).mono ?_
  rintro e w' ⟨vf', rfl, hI, hb⟩
  refine ⟨vf', rfl, hn, by omega, ?_, by omega, by omega, h.bl, h.l0, h.l1, h.hB.trans (hb.mono h.bw), h.bw⟩
  rw [FT_succ hn]
  exact hI
end Go.Proofs.Ytdlkhjfkhbeaaaa.QIn
