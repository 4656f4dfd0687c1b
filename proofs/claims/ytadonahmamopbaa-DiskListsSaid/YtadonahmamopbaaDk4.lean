/- The contract of List. -/
import Derived.Test.YtadonahmamopbaaDk3
namespace Go.Proofs.Ytadonahmamopbaa.QDk
open Go.RowKit Go.Maps Go.Proofs.YtadonahmamopbaaW.PrintWords Go.Proofs.YtadonahmamopbaaW.PrintLast Go.Proofs.YtadonahmamopbaaW.PrintMore Go.Sort Go.Lib Go.Shelf
attribute [local go_sem ↓] Go.wp_at_zero Go.wp_at_succ
def srt (ss : List (List UInt8)) : List (List UInt8) := ss.mergeSort fun x y => decide (x ≤ y)
theorem keys_calls (mb : Option Nat) (W : World) : Calls Try.prog 18 #[.map mb] W fun e w' => e = .returned (.func (.func 30) #[] #[.pointer (some ⟨W.heap.size, 0, none⟩)]) ∧ w' = W.alloc (.cells #[.map mb] 37) :=
  (callsIn_wide (n := 5)).1 (Try.maps_Keys_18 mb W)
theorem sorted_calls {mb n : Nat} {D : DataW Unit} {w : World} (hown : w.ownsMap Try.prog 9 pr mb n D) (hn : n ≤ 1000) {B : Nat} (hBB : B = w.heap.size) :
    Calls Try.prog 17 #[.func (.func 30) #[] #[.pointer (some ⟨B, 0, none⟩)]] (w.alloc (.cells #[.map (some mb)] 37)) fun e w' => ∃ (v : Value) (ss : List (List UInt8)), e = .returned v ∧ ss.Perm (strKeys D) ∧
      w'.ownsRow (w.alloc (.cells #[.map (some mb)] 37)).heap.size 9 1 v (basL (srt ss)).length (encs Value.string (basL (srt ss))) ∧ Below (w.alloc (.cells #[.map (some mb)] 37)).heap.size (w.alloc (.cells #[.map (some mb)] 37)) w' := by
  subst hBB
  have hs := hown.size_le
  have hmx : maxLen = 9223372036854775807 := by decide
  refine ((callsIn_wide (n := 5)).1 (Try.slices_Sorted_keys_17_18 mb n D pr w hown (by omega) (by omega))).mono ?_
  rintro e w' ⟨v, ss, rfl, hS, hrow, _, hb⟩
  refine ⟨v, ss, rfl, hS, ?_, hb⟩
  have e1 : (basL (srt ss)).length = ss.length := by rw [basL_length, srt, List.length_mergeSort]
  rw [e1, enc_basL]
  exact hrow
set_option maxHeartbeats 2000000 in
theorem list_calls {w : World} {base d mb : Nat} {ops : Int} {n : Nat} {D : DataW Unit} (p : ByteArray) (h : DL w base d mb ops n D) (hn : n ≤ 1000) :
    Calls Try.prog 7 #[.pointer (some ⟨d, 0, none⟩), .string p] w fun e w' => ∃ (v : Value) (ss : List (List UInt8)), e = .returned v ∧ ss.Perm (strKeys D) ∧ Kd.R Kd.string 9 w' w.heap.size (fun _ => True) v ((basL (srt ss)).filter fun s => bg s p) ∧ Below w.heap.size w w' := by
  have hd := h.hd
  have hd1 := blk_alloc hd (.cells #[.string p] 9)
  have own1 := h.own.alloc (.cells #[.string p] 9)
  have d0 : (w.alloc (.cells #[.string p] 9)).cell? ⟨d, 0, none⟩ = some (.map (some mb)) := (blk_cell hd1 0).trans rfl
  have d1 : (w.alloc (.cells #[.string p] 9)).cell? ⟨d, 1, none⟩ = some (.bool false) := (blk_cell hd1 1).trans rfl
  have hlen : ∀ {ss : List (List UInt8)}, ss.Perm (strKeys D) → (basL (srt ss)).length ≤ 1000000 := fun {ss} hS => by
    have e1 : (basL (srt ss)).length = ss.length := by rw [basL_length, srt, List.length_mergeSort]
    have e2 : (strKeys D).length ≤ Maps.size D := by
      obtain ⟨es, rfl⟩ := h.own.isMap
      simp [Maps.size, strKeys]
    have := h.own.size_le
    have := hS.length_eq
    omega
  go_enter Try.func7, Try.ntmps7
  go_wp2_with (first
    | (go_at_call 18; refine (keys_calls _ _).mono ?_; rintro e w1 ⟨rfl, rfl⟩)
    | (go_at_call 17; refine (sorted_calls (w := w.alloc (.cells #[.string p] 9)) own1 hn (by simp)).mono ?_; rintro e w3 ⟨v, ss, rfl, hS, hrow, hb3⟩; have hp3 : w3.cell? ⟨w.heap.size, 0, none⟩ = some (.string p) := (hb3.cell (p := ⟨w.heap.size, 0, none⟩) (by simp; omega)).trans (Lib.cell?_alloc_some _ ((blk_cell (blk_new w _) 0).trans rfl)); have hsz3 := hb3.size; have hlen3 : (basL (srt ss)).length ≤ 1000000 := hlen hS)
    | (go_at_call 19; refine (delete_calls _ v (basL (srt ss)) p w.heap.size w3 hrow hlen3 (by simp at hsz3; omega) (by simp; omega) hp3).mono ?_; rintro e w4 ⟨v', rfl, hR, hg4⟩))
  go_ret
  have hs2 : w.heap.size ≤ ((w.alloc (.cells #[.string p] 9)).alloc (.cells #[.map (some mb)] 37)).heap.size := by simp; omega
  have b3 : Below w.heap.size w w3 := (((Below.refl w.heap.size w).alloc (Nat.le_refl _) _).alloc (by simp) _).trans (hb3.mono hs2)
  refine ⟨v', ss, rfl, hS, Kd.R_lower hR hs2, b3.grown hg4 b3.size (fun k hk => ?_)⟩
  rcases hrow.2 with ⟨rfl, _⟩ | ⟨g, cap, cur, rfl, hbase, _⟩
  · cases hk
  · obtain rfl : g = k := Option.some.inj hk
    omega
end Go.Proofs.Ytadonahmamopbaa.QDk
