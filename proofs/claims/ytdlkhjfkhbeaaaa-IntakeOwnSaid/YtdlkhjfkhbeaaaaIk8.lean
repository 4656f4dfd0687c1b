/- Facts of a time alone; sealing, whatever is open; the first examples. -/
import Derived.Test.YtdlkhjfkhbeaaaaIk7
namespace Go.Proofs.Ytdlkhjfkhbeaaaa.QIn
open Go.RowKit Go.Maps Go.Proofs.YtdlkhjfkhbeaaaaW.PrintWords Go.Proofs.YtdlkhjfkhbeaaaaW.PrintLast Go.Proofs.YtdlkhjfkhbeaaaaW.PrintMore
variable {w w1 : World} {base x : Nat} {dims meas chunk next : Int} {vf : Value} {fs : List S37} {op : Int} {vb : Value} {bs : List S70} {last : Int}
theorem C_zero {α : Type} (d : Kd α) (w : World) (A : Option Addr) : d.C w A 0 [] := ⟨rfl, by decide, fun h => absurd h (Nat.lt_irrefl 0)⟩
theorem IN.lower {base' : Nat} (h : IN w base x dims meas chunk next vf fs op vb bs last) (hb : base' ≤ base) : IN w base' x dims meas chunk next vf fs op vb bs last :=
  ⟨h.hx, Kd.N_lower h.hf hb, Kd.N_lower h.hb hb, Nat.le_trans hb h.bx⟩
theorem at_calls (t : Int) (w : World) : Calls Try.prog 10 #[.int .i64 t] w fun e w' => ∃ A1 c1 A2 c2, e = .returned (.agg #[.int .i64 t, .slice A1 0 c1, .slice A2 0 c2]) ∧ Below w.heap.size w w' := by
  refine (gristmilllaw17_at.calls t t [] [] w rfl).mono ?_
  rintro e w' ⟨v1, v2, rfl, h1, h2, hb⟩
  obtain ⟨A1, c1, rfl⟩ := Kd.R_slice h1
  obtain ⟨A2, c2, rfl⟩ := Kd.R_slice h2
  exact ⟨A1, c1, A2, c2, rfl, hb⟩
/-- Taking the next fact, of a time alone. -/
theorem take_at (h : IN w base x 0 0 chunk next vf fs op vb bs last) (t : Int) (A1 A2 : Option Addr) (c1 c2 : Nat) (hn : 0 ≤ next) (hn2 : next ≤ 1000000) (h0 : 0 ≤ t) (h1 : t < 1099511627776) (ho0 : 0 ≤ op) (ho1 : op ≤ 1000000) (hfl : fs.length ≤ 1000000) :
    Calls Try.prog 9 #[.pointer (some ⟨x, 0, none⟩), .int .u64 next, .agg #[.int .i64 t, .slice A1 0 c1, .slice A2 0 c2]] w fun e w' => ∃ vf', e = .returned (.int .i64 0) ∧ IN w' base x 0 0 chunk (next + 1) vf' (fs ++ [⟨t, [], []⟩]) (op + 1) vb bs last ∧ Below base w w' :=
  take_fit h t A1 A2 c1 c2 [] [] (by decide) (by decide) (by decide) (by decide) hn hn2 h0 h1 rfl rfl (C_zero _ _ _) (Nat.zero_le _) (C_zero _ _ _) (Nat.zero_le _) ho0 ho1 hfl rfl
/-- What Seal leaves, whatever was open. -/
def Sealy (w : World) (base x : Nat) (dims meas chunk next : Int) (vf : Value) (fs : List S37) (bs : List S70) (last : Int) (e : Ending) (w' : World) : Prop :=
  ∃ v vb' bs' last', e = .returned v ∧ IN w' base x dims meas chunk next vf fs 0 vb' bs' last' ∧ bs'.length ≤ bs.length + 1 ∧ last ≤ last' ∧ last' ≤ last + 1 ∧ Below base w w'
theorem seal_any (h : IN w base x dims meas chunk next vf fs op vb bs last) (h1 : 0 ≤ op) (h2 : op ≤ fs.length) (h3 : op ≤ next - 1) (h4 : next ≤ 1000000) (c1 : 1 ≤ chunk) (c2 : chunk ≤ 1099511627776) (ht : ∀ f ∈ fs, 0 ≤ f.f0 ∧ f.f0 < 1099511627776) (hg : Good fs) (l0 : 0 ≤ last) (l1 : last ≤ 1000000) (hbl : bs.length ≤ 1000000) :
    Calls Try.prog 11 #[.pointer (some ⟨x, 0, none⟩)] w (Sealy w base x dims meas chunk next vf fs bs last) := by
  by_cases h0 : op = 0
  · subst h0
    refine (seal_none h).mono ?_
    rintro e w' ⟨rfl, hb⟩
    exact ⟨_, vb, bs, last, rfl, h.below hb, Nat.le_succ _, Int.le_refl _, by omega, hb.mono h.szd⟩
  · refine (seal_calls h op.toNat (by omega) (fs.length - op.toNat) (by omega) (by omega) h3 h4 c1 c2 ht hg l0 l1 hbl).mono ?_
    rintro e w' ⟨v, vb', K, rfl, _, _, _, hI, hb⟩
    exact ⟨_, vb', _, last + 1, rfl, hI, by simp, by omega, Int.le_refl _, hb⟩
end Go.Proofs.Ytdlkhjfkhbeaaaa.QIn
