/- The contract of Behind. -/
import Derived.Test.YtdlkhjfkhbeaaaaIk2
namespace Go.Proofs.Ytdlkhjfkhbeaaaa.QIn
open Go.RowKit Go.Proofs.YtdlkhjfkhbeaaaaW.PrintWords Go.Proofs.YtdlkhjfkhbeaaaaW.PrintLast Go.Proofs.YtdlkhjfkhbeaaaaW.PrintMore
variable {w w1 : World} {base x : Nat} {dims meas chunk next : Int} {vf : Value} {fs : List S37} {op : Int} {vb : Value} {bs : List S70} {last : Int}
set_option maxRecDepth 100000 in
set_option maxHeartbeats 4000000 in
theorem behind_calls (h : IN w base x dims meas chunk next vf fs op vb bs last) (off : Int) (h0 : 0 ≤ off) (h1 : next - 1 - fs.length ≤ off) (h2 : off ≤ next - 1) (h3 : (fs.length : Int) ≤ next - 1) (h4 : next ≤ 1000000) (hg : Good fs) :
    Calls Try.prog 12 #[.pointer (some ⟨x, 0, none⟩), .int .u64 off] w fun e w' => ∃ v, e = .returned (.tuple #[v, .int .u64 (next - 1), .int .i64 0]) ∧ Kd.S k37 37 w' w.heap.size (fun _ => True) v (fs.drop (fs.length - (next - 1 - off).toNat)) ∧ Below w.heap.size w w' := by
  obtain ⟨A, c, rfl, hl, hC⟩ := Kd.N_reads h.hf
  have a3 : w.cell? ⟨x, 3, none⟩ = some (.int .u64 next) := (blk_cell h.hx 3).trans rfl
  have a4 : w.cell? ⟨x, 4, none⟩ = some (.slice A fs.length c) := (blk_cell h.hx 4).trans rfl
  obtain ⟨m, hm⟩ : ∃ m : Nat, m = fs.length - (next - 1 - off).toNat := ⟨_, rfl⟩
  have hm2 : (fs.length : Int) - (next - 1 - off) = (m : Int) := by omega
  have hml : m ≤ fs.length := by omega
  rw [← hm]
  clear hm
  have HC := Lib.hid (Kd.C_drop hC hml hl)
  have hsz : k37.sz = 3 := rfl
  rw [hsz] at HC
  have hdl : (fs.drop m).length = fs.length - m := by simp
  have hgd : Good (fs.drop m) := ⟨by have := hg.1; omega, fun f hf => hg.2 f (List.mem_of_mem_drop hf)⟩
  have H := Lib.hid h
  have HG := Lib.hid hgd
  have HD := Lib.hid hdl
  have hcl : (fs.drop m).length ≤ c - m := by omega
  clear h hC hgd hdl hsz
  have e8 : IntKind.u64.wrap (next - 1 - off) = next - 1 - off := by unfold IntKind.wrap; simp [IntKind.signed, IntKind.bits]; omega
  have e9 : IntKind.i64.wrap (next - 1 - off) = next - 1 - off := IntWalk.i64_in _ (by omega)
  have e10 : IntKind.i64.wrap (m : Int) = (m : Int) := IntWalk.i64_in _ (by omega)
  have p0 : (0 : Int) ≤ (m : Int) := by omega
  have p1 : (m : Int) ≤ (fs.length : Int) := by omega
  rcases Nat.decEq c m with hcm | hcm
  · rw [if_neg hcm] at HC
    go_enter Try.func12, Try.ntmps12
    go_wp2
    go_region_held3 (fun w' => w'.cell? ⟨x, 4, none⟩ = some (.slice A fs.length c)) (first | go_keep | (exact s0))
      ((go_at_call 19; rw [← HD.out]; refine (own_calls _ _ (fs.drop m) _ (Kd.C_drew HC.out) hcl HG.out).mono ?_; rintro e w3 ⟨v3, rfl, hv3, hb3⟩; have s0 : w3.cell? ⟨x, 4, none⟩ = some (.slice A fs.length c) := (blk_cell ((H.out.below ((Below.refl _ w).drew.trans hb3)).hx) 4).trans rfl))
    go_wp2
    refine bodyPost_ret (v := .tuple #[v3, .int .u64 (next - 1), .int .i64 0]) (by simp [results, Try.results12, go_sem]) rfl ⟨v3, rfl, ?_, ?_⟩
    · exact hv3
    · exact (Below.refl _ w).drew.trans hb3
  · rw [if_pos hcm] at HC
    subst hcm
    have hnil : fs.drop c = [] := List.drop_of_length_le hl
    rw [hnil] at HC HG ⊢
    clear HD hcl hnil
    go_enter Try.func12, Try.ntmps12
    go_wp2
    go_region_held3 (fun w' => w'.cell? ⟨x, 4, none⟩ = some (.slice A fs.length c)) (first | go_keep | (exact s0))
      ((go_at_call 19; refine (own_calls A 0 [] _ (Kd.C_drew HC.out) (Nat.le_refl _) HG.out).mono ?_; rintro e w3 ⟨v3, rfl, hv3, hb3⟩; have s0 : w3.cell? ⟨x, 4, none⟩ = some (.slice A fs.length c) := (blk_cell ((H.out.below ((Below.refl _ w).drew.trans hb3)).hx) 4).trans rfl))
    go_wp2
    refine bodyPost_ret (v := .tuple #[v3, .int .u64 (next - 1), .int .i64 0]) (by simp [results, Try.results12, go_sem]) rfl ⟨v3, rfl, ?_, ?_⟩
    · exact hv3
    · exact (Below.refl _ w).drew.trans hb3
end Go.Proofs.Ytdlkhjfkhbeaaaa.QIn
