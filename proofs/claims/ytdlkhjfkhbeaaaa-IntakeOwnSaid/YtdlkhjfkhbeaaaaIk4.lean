/- The contract of span; what told tells. -/
import Derived.Test.YtdlkhjfkhbeaaaaIk3
namespace Go.Proofs.Ytdlkhjfkhbeaaaa.QIn
open Go.RowKit Go.Proofs.YtdlkhjfkhbeaaaaW.PrintWords Go.Proofs.YtdlkhjfkhbeaaaaW.PrintLast Go.Proofs.YtdlkhjfkhbeaaaaW.PrintMore
variable {w w1 : World} {base x : Nat} {dims meas chunk next : Int} {vf : Value} {fs : List S37} {op : Int} {vb : Value} {bs : List S70} {last : Int}
/-- The beginning of a time's span. -/
def frm (chunk t : Int) : Int := t / chunk * chunk
theorem frm_bd {chunk t : Int} (h0 : 0 ≤ t) (h1 : 1 ≤ chunk) : 0 ≤ frm chunk t ∧ frm chunk t ≤ t ∧ t < frm chunk t + chunk := by
  unfold frm
  have h2 := Int.emod_add_mul_ediv t chunk
  have h3 := Int.emod_nonneg t (show chunk ≠ 0 by omega)
  have h4 := Int.emod_lt_of_pos t (show 0 < chunk by omega)
  have h5 : 0 ≤ t / chunk := Int.ediv_nonneg h0 (by omega)
  have h6 : 0 ≤ t / chunk * chunk := Int.mul_nonneg h5 (by omega)
  rw [Int.mul_comm] at h2
  omega
/-- A time's span. -/
def spn (chunk t : Int) : S53 := ⟨frm chunk t, min (frm chunk t + chunk) 1099511627776⟩
set_option maxHeartbeats 1000000 in
theorem span_calls {w : World} {x : Nat} {chunk t : Int} (hc : w.cell? ⟨x, 2, none⟩ = some (.int .i64 chunk)) (h0 : 0 ≤ t) (h1 : t < 1099511627776) (h2 : 1 ≤ chunk) (h3 : chunk ≤ 1099511627776) :
    Calls Try.prog 20 #[.pointer (some ⟨x, 0, none⟩), .int .i64 t] w fun e w' => e = .returned (.agg #[.int .i64 (frm chunk t), .int .i64 (min (frm chunk t + chunk) 1099511627776)]) ∧ Below w.heap.size w w' := by
  have hb := frm_bd h0 h2
  unfold frm at hb ⊢
  have hx := World.block_lt_of_cell? w _ hc
  have hc1 : (w.alloc (.cells #[.int .i64 0, .int .i64 0] 53)).cell? ⟨x, 2, none⟩ = some (.int .i64 chunk) := Lib.cell?_alloc_some _ hc
  have n0 : (chunk == 0) = false := by simp; omega
  have hq : t.tdiv chunk = t / chunk := Int.tdiv_eq_ediv_of_nonneg h0
  have hq0 : 0 ≤ t / chunk := Int.ediv_nonneg h0 (by omega)
  have hq1 : t / chunk ≤ t := Int.ediv_le_self _ h0
  have e1 : IntKind.i64.wrap (t / chunk) = t / chunk := IntWalk.i64_in _ (by omega)
  have e2 : IntKind.i64.wrap (t / chunk * chunk) = t / chunk * chunk := IntWalk.i64_in _ (by omega)
  have e3 : wrap64 (t / chunk * chunk) = t / chunk * chunk := wrap64_in (by omega) (by omega)
  obtain ⟨f, hf⟩ : ∃ f, t / chunk * chunk = f := ⟨_, rfl⟩
  rw [hf] at hb ⊢
  have HW := Lib.hid (e3.trans hf)
  rw [hf] at e2
  clear hf e3
  go_enter Try.func20, Try.ntmps20
  go_wp2
  go_quiet (fail)
  clear e1 e2 hq
  rw [HW.out]
  go_wp2
  all_goals
    refine bodyPost_ret (v := .agg #[.int .i64 f, .int .i64 (min (f + chunk) 1099511627776)]) (by simp [results, Try.results20, go_sem]; try omega) rfl ⟨rfl, ?_⟩
    exact ((pw_below_drewN ((Below.refl _ w).alloc (Nat.le_refl _) _) nq).setCell (Nat.le_refl _) _).setCell (Nat.le_refl _) _
end Go.Proofs.Ytdlkhjfkhbeaaaa.QIn
