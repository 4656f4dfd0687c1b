/- Contracts of slices.Clone, slices.Grow, slices.Concat at []string, in the words of the print. -/
import Derived.Test.YtkjjdpnpcjfgeaaProg
import Derived.Test.YtkjjdpnpcjfgeaaBaW
import Derived.WalkKit
import Derived.KernelRfl
import Derived.WalkLawsBesides
import Derived.WalkSpells
namespace Go.Proofs.Ytkjjdpnpcjfgeaa
open Go.RowKit Go.Proofs.YtkjjdpnpcjfgeaaW.PrintWords Go.Proofs.YtkjjdpnpcjfgeaaW.PrintLast
theorem info9 : (Try.prog.info? 9).map (fun i => (i.zero, i.size, i.bytes)) = some (some (.string ⟨#[]⟩), 1, 16) := by kernel_rfl

theorem string_made (W : World) (base : Nat) (hb : base ≤ W.heap.size) : Kd.R Kd.string 9 (W.alloc (.cells #[] 9)) base (fun _ => True) (.slice (some ⟨W.heap.size, 0, none⟩) 0 0) [] :=
  Kd.R_of_own (World.ownsRow_made W #[] 0 hb (Nat.zero_le _) rfl) (fun _ _ => trivial)
theorem string_nil (W : World) (base : Nat) : Kd.R Kd.string 9 W base (fun _ => True) (.slice none 0 0) [] :=
  Kd.R_of_own (World.ownsRow_nil W base 9 1) (fun _ _ => trivial)
theorem C_none_nil {l : List ByteArray} {n : Nat} {w : World} (h : Kd.C Kd.string w none n l) : l = [] := by
  rcases Nat.eq_zero_or_pos l.length with h0 | h0
  · exact List.eq_nil_of_length_eq_zero h0
  · obtain ⟨_, h1, _⟩ := h.2.2 (by have := h.1; omega)
    cases h1

set_option maxRecDepth 100000 in
set_option maxHeartbeats 400000 in
theorem clone_calls (A : Option Addr) (c : Nat) (l : List ByteArray) (w : World) (hr : Kd.C Kd.string w A l.length l) (hbig : l.length * 16 ≤ 140737488355328) :
    Calls Try.prog 20 #[.slice A l.length c] w fun e w' => ∃ v, e = .returned v ∧ Kd.R Kd.string 9 w' w.heap.size (fun _ => True) v l ∧ Below w.heap.size w w' := by
  have q : ∀ (w : World) (a : Option Addr) (n c n' c' : Nat), (binOp .eql 31 (.slice a n c) (.slice none n' c')).run Try.prog w = .ok (.bool a.isNone) w := fun w a n c n' c' => Lib.run_eql_slice_nil w _ _ a n c n' c' Try.underlying31
  have HR := Aside0.mk hr
  clear hr
  cases A with
  | none =>
    go_enter Try.func20, Try.ntmps20
    go_wp2
    obtain rfl := C_none_nil HR.out
    go_ret
    exact ⟨_, rfl, string_nil w _, Below.refl _ _⟩
  | some ad =>
    go_enter Try.func20, Try.ntmps20
    go_wp2_with (at_builtin; refine Kd.R_append_rows Kd.string (w0 := w) w.heap.size rfl (.tmp 5) (.tmp 6) 31 9 (.string ⟨#[]⟩) 16 rfl Try.underlying31 info9 rfl (by decide) (by decide) _ [] l (some ad) l.length c (fun _ => True) (fun _ => False) rfl rfl (string_made w _ (Nat.le_refl _)) (Kd.C_alloc HR.out _) (fun _ _ h => h) (fun _ h => h.elim) (fun _ _ => trivial) (below_alloc (Below.refl _ _) _) (by simp) (by simpa using hbig) ?_; intro v1 w1 hown hb _ _)
    go_ret
    exact ⟨_, rfl, hown, hb⟩

set_option maxRecDepth 100000 in
set_option maxHeartbeats 400000 in
theorem grow_calls (n : Int) (w : World) (h0 : 0 ≤ n) (hbig : n ≤ 1000000) :
    Calls Try.prog 28 #[.slice none 0 0, .int .i64 n] w fun e w' => ∃ v, e = .returned v ∧ Kd.R Kd.string 9 w' w.heap.size (fun _ => True) v [] ∧ Below w.heap.size w w' := by
  by_cases hn : 0 < n
  · go_enter Try.func28, Try.ntmps28
    go_wp2_with (at_builtin; refine Kd.R_append_zeros Kd.string (w0 := w) w.heap.size rfl (.tmp 20) (.tmp 21) 31 3 9 (.string ⟨#[]⟩) 16 rfl Try.underlying31 Try.underlying3 info9 rfl (by decide) (by decide) _ [] ByteArray.empty n (fun _ => True) rfl rfl (by rfl) (fun _ _ => trivial) (string_nil w _) (by omega) (Below.refl _ _) (by simp) (by simp; omega) ?_; intro v1 w1 hown hb _ _; obtain ⟨A1, c1, rfl, hl1, _⟩ := Kd.R_reads hown; obtain ⟨i0, hi0, _, _, _⟩ := info_parts info9; have hcut := cut_to (P := Try.prog) 31 9 .i64 Try.underlying31 hi0 A1 _ c1 0 (by omega) (by omega) hl1; have hr0 := Kd.R_take (m := 0) hown (by omega))
    go_ret
    exact ⟨_, rfl, by simpa using hr0, hb⟩
  · go_enter Try.func28, Try.ntmps28
    go_wp2
    go_ret
    exact ⟨_, rfl, string_nil w _, Below.refl _ _⟩

set_option maxRecDepth 100000 in
set_option maxHeartbeats 1000000 in
theorem concat_calls (b : Nat) (A1 A2 : Option Addr) (c1 c2 : Nat) (l1 l2 : List ByteArray) (w : World) (h0 : w.cell? ⟨b, 0, none⟩ = some (.slice A1 l1.length c1)) (h1 : w.cell? ⟨b, 1, none⟩ = some (.slice A2 l2.length c2))
    (hr1 : Kd.C Kd.string w A1 l1.length l1) (hr2 : Kd.C Kd.string w A2 l2.length l2) (hbig : l1.length + l2.length ≤ 1000000) :
    Calls Try.prog 19 #[.slice (some ⟨b, 0, none⟩) 2 2] w fun e w' => ∃ v, e = .returned v ∧ Kd.R Kd.string 9 w' w.heap.size (fun _ => True) v (l1 ++ l2) ∧ Below w.heap.size w w' := by
  have HR1 := Aside0.mk hr1
  have HR2 := Aside0.mk hr2
  clear hr1 hr2
  go_enter Try.func19, Try.ntmps19
  go_wp2_with fail
  refine wp_loop_rounds 3 ?_
  rw [rounds_succ]
  go_wp2_with fail
  rw [rounds_succ]
  go_wp2_with fail
  rw [rounds_succ]
  go_wp2_with fail
  refine (grow_calls _ w (by omega) (by omega)).mono ?_
  rintro e w1 ⟨v, rfl, hv, hb⟩
  have g0 : w1.cell? ⟨b, 0, none⟩ = some (.slice A1 l1.length c1) := (hb.cell (p := ⟨b, 0, none⟩) (World.block_lt_of_cell? w _ h0)).trans h0
  have g1 : w1.cell? ⟨b, 1, none⟩ = some (.slice A2 l2.length c2) := (hb.cell (p := ⟨b, 1, none⟩) (World.block_lt_of_cell? w _ h1)).trans h1
  have GR1 := Aside0.mk (Kd.C_below HR1.out hb)
  have GR2 := Aside0.mk (Kd.C_below HR2.out hb)
  go_wp2_with fail
  refine wp_loop_rounds 3 ?_
  rw [rounds_succ]
  go_wp2_with (at_builtin; refine Kd.R_append_rows Kd.string (w0 := w) w.heap.size rfl (.tmp 31) (.tmp 32) 31 9 (.string ⟨#[]⟩) 16 rfl Try.underlying31 info9 rfl (by decide) (by decide) _ [] l1 A1 l1.length c1 (fun _ => True) (fun _ => False) rfl rfl hv GR1.out (fun _ _ h => h) (fun _ h => h.elim) (fun _ _ => trivial) hb hb.size (by simp; omega) ?_; intro v1 w2 hown1 hb1 _ _)
  have g1' : w2.cell? ⟨b, 1, none⟩ = some (.slice A2 l2.length c2) := (hb1.cell (p := ⟨b, 1, none⟩) (World.block_lt_of_cell? w _ h1)).trans h1
  have GR2' := Aside0.mk (Kd.C_below HR2.out hb1)
  rw [rounds_succ]
  go_wp2_with (at_builtin; refine Kd.R_append_rows Kd.string (w0 := w) w.heap.size rfl (.tmp 31) (.tmp 32) 31 9 (.string ⟨#[]⟩) 16 rfl Try.underlying31 info9 rfl (by decide) (by decide) _ _ l2 A2 l2.length c2 (fun _ => True) (fun _ => False) rfl rfl hown1 GR2'.out (fun _ _ h => h) (fun _ h => h.elim) (fun _ _ => trivial) hb1 hb1.size (by simp; omega) ?_; intro v2 w3 hown2 hb2 _ _)
  rw [rounds_succ]
  go_wp2_with fail
  go_ret
  exact ⟨_, rfl, by simpa using hown2, hb2⟩
end Go.Proofs.Ytkjjdpnpcjfgeaa
