/- Contracts of Begins, HasPrefix, slices.DeleteFunc at a row of one's own, and List. -/
import Derived.Test.YtadonahmamopbaaDk2
import Derived.Test.YtadonahmamopbaaDf
import Derived.Sort.OwnSorted
import Derived.Lib.RowBridge
namespace Go.Proofs.Ytadonahmamopbaa.QDk
open Go.RowKit Go.Maps Go.Proofs.YtadonahmamopbaaW.PrintWords Go.Proofs.YtadonahmamopbaaW.PrintLast Go.Proofs.YtadonahmamopbaaW.PrintMore Go.Sort Go.Lib Go.Shelf
attribute [local go_sem ↓] Go.wp_at_zero Go.wp_at_succ
/-- Does s begin so? -/
def bg (s p : ByteArray) : Bool := (gristmillref12_Begins.f s p).getD false
theorem bg_some (s p : ByteArray) : gristmillref12_Begins.f s p = some (bg s p) := by
  unfold bg gristmillref12_Begins.f
  split
  · rfl
  · rfl
theorem begins_calls (s p : ByteArray) (w : World) : Calls Try.prog 8 #[.string s, .string p] w fun e w' => e = .returned (.bool (bg s p)) ∧ Drawn0 w w' := gristmillref12_Begins.calls s p _ w (bg_some s p)
theorem hasprefix_calls (s p : ByteArray) (w : World) : Calls Try.prog 21 #[.string s, .string p] w fun e w' => e = .returned (.bool (bg s p)) ∧ Drawn0 w w' := by
  refine strings_HasPrefix.calls s p _ w ?_
  unfold strings_HasPrefix.f
  have : stringslite_HasPrefix.f s p = some (bg s p) := bg_some s p
  rw [this]; rfl
theorem closure_calls (s p : ByteArray) (B : Nat) (w : World) (hc : w.cell? ⟨B, 0, none⟩ = some (.string p)) : FnGives Try.prog 20 #[.pointer (some ⟨B, 0, none⟩)] #[.string s] (.bool (!bg s p)) w := by
  show Calls Try.prog 20 #[.string s, .pointer (some ⟨B, 0, none⟩)] w _
  go_enter Try.func20, Try.ntmps20
  go_wp2_with (first | (go_at_call 21; refine (hasprefix_calls s p _).mono ?_; rintro e w1 ⟨rfl, m, rfl⟩))
  go_ret
  exact ⟨rfl, m, rfl⟩
/-- Texts as lists of bytes, and back. -/
def strsL (l : List ByteArray) : List (List UInt8) := l.map fun b => b.data.toList
def basL (l : List (List UInt8)) : List ByteArray := l.map fun x => ⟨x.toArray⟩
theorem strsL_basL (l : List (List UInt8)) : strsL (basL l) = l := by simp [basL, strsL, Function.comp_def]
theorem basL_strsL (l : List ByteArray) : basL (strsL l) = l := by simp [basL, strsL, Function.comp_def]
theorem strsL_length (l : List ByteArray) : (strsL l).length = l.length := by simp [strsL]
theorem basL_length (l : List (List UInt8)) : (basL l).length = l.length := by simp [basL]
theorem enc_basL (ts : List (List UInt8)) : encs Value.string (basL ts) = ts.map encStr := by simp [encs, basL, encStr]
theorem enc_strsL (l : List ByteArray) : (strsL l).map encStr = encs Value.string l := by rw [← enc_basL, basL_strsL]
theorem filter_strsL (p : ByteArray) : ∀ l : List ByteArray, (strsL l).filter (fun x => bg ⟨x.toArray⟩ p) = strsL (l.filter fun s => bg s p)
  | [] => rfl
  | s :: l => by
    have e : strsL (s :: l) = s.data.toList :: strsL l := rfl
    have hs : (⟨s.data.toList.toArray⟩ : ByteArray) = s := by cases s; simp
    rw [e, List.filter_cons, List.filter_cons, hs, filter_strsL p l]
    split <;> rfl
theorem pred_at (p : ByteArray) (B : Nat) (w : World) (hB : B < w.heap.size) (hc : w.cell? ⟨B, 0, none⟩ = some (.string p)) : PredAt Try.prog 20 #[.pointer (some ⟨B, 0, none⟩)] encStr (fun x => !bg ⟨x.toArray⟩ p) w :=
  fun W x hb => closure_calls ⟨x.toArray⟩ p B W ((hb.cell (p := ⟨B, 0, none⟩) hB).trans hc)
theorem pred_over (p : ByteArray) (B blk off size : Nat) (w : World) (hB : B < w.heap.size) (hne : B ≠ blk) (hc : w.cell? ⟨B, 0, none⟩ = some (.string p)) :
    PredOver Try.prog 20 #[.pointer (some ⟨B, 0, none⟩)] encStr (fun x => !bg ⟨x.toArray⟩ p) blk off size w :=
  fun n os dk x _ => closure_calls ⟨x.toArray⟩ p B _ (by
    unfold sortWorld
    rw [cell?_grow _ _ _ (by show B < (putRow _ _ _ _ _).heap.size; rw [size_putRow]; exact hB), cell?_putRow_other _ _ blk off _ _ (Or.inl hne)]
    exact hc)
theorem indexf_nil (lb : Array Value) (w : World) : Calls Try.prog 31 #[.slice none 0 0, .func (.func 20) #[] lb] w fun e w' => e = .returned (.int .i64 (-1)) ∧ Drawn0 w w' := by
  go_enter Try.func31, Try.ntmps31
  go_wp2
  refine wp_loop_rounds 1 ?_
  rw [rounds_succ]
  go_wp2
  go_ret
  exact ⟨rfl, by repeat (first | exact Drawn0.refl _ | apply Drawn0.step)⟩
theorem delete_nil (lb : Array Value) (w : World) : Calls Try.prog 19 #[.slice none 0 0, .func (.func 20) #[] lb] w fun e w' => e = .returned (.slice none 0 0) ∧ Drawn0 w w' := by
  go_enter Try.func19, Try.ntmps19
  go_wp2_with (first | (go_at_call 31; refine (indexf_nil _ _).mono ?_; rintro e w1 ⟨rfl, m, rfl⟩))
  go_ret
  exact ⟨rfl, by repeat (first | exact Drawn0.refl _ | apply Drawn0.step)⟩
theorem delete_calls (base : Nat) (v : Value) (l : List ByteArray) (p : ByteArray) (B : Nat) (w : World) (h : w.ownsRow base 9 1 v l.length (encs Value.string l)) (hl : l.length ≤ 1000000) (hB : B < w.heap.size) (hB2 : B < base) (hc : w.cell? ⟨B, 0, none⟩ = some (.string p)) :
    Calls Try.prog 19 #[v, .func (.func 20) #[] #[.pointer (some ⟨B, 0, none⟩)]] w fun e w' => ∃ v', e = .returned v' ∧ Kd.R Kd.string 9 w' base (fun _ => True) v' (l.filter fun s => bg s p) ∧ w.grownBy w' v.ownBlock := by
  rcases h.2 with ⟨rfl, h2⟩ | ⟨g, cap, cur, rfl, hbase, hb, h1, h2, h3, h4⟩
  · refine (delete_nil _ w).mono ?_
    rintro e w' ⟨rfl, m, rfl⟩
    obtain rfl : l = [] := List.eq_nil_of_length_eq_zero h2
    exact ⟨_, rfl, Kd.R_of_own (xs := []) h (fun _ _ => trivial), ⟨rfl, rfl, rfl, Nat.le_refl _, fun _ _ _ => rfl⟩⟩
  · have e1 : (strsL l).length = l.length := strsL_length l
    have hH : Holds encStr w g 0 (strsL l).toArray := holds_of_block hb (by rw [e1, enc_strsL]; simpa using h4)
    have hc := Try.slices_DeleteFunc encStr (fun _ => rfl) (fun x => !bg ⟨x.toArray⟩ p) 20 #[.pointer (some ⟨B, 0, none⟩)] (enters_of Try.func20 (by kernel_rfl) rfl) [] (fun w => by kernel_rfl) g 0 cap (strsL l).toArray w (pred_at p B w hB hc) (pred_over p B g 0 _ w hB (by omega) hc) hH (by simp [e1]; omega) (by simp [e1]; omega)
    have hF : (List.filter (fun x => !!bg ⟨x.toArray⟩ p) (strsL l).toArray.toList) = strsL (l.filter fun s => bg s p) := by
      simp only [Bool.not_not]
      exact filter_strsL p l
    rw [hF] at hc
    have e2 : (strsL l).toArray.size = l.length := by simp [e1]
    rw [e2] at hc
    refine hc.mono ?_
    rintro e w' ⟨rfl, q, rfl⟩
    have hle : (l.filter fun s => bg s p).length ≤ l.length := List.length_filter_le _ _
    have e3 := strsL_length (l.filter fun s => bg s p)
    have hlen : (strsL (l.filter fun s => bg s p) ++ List.replicate (l.length - (strsL (l.filter fun s => bg s p)).length) []).length = (strsL l).length := by simp [e1, e3]; omega
    have := ownsRow_sorted (w := w) (base := base) (g := g) (cap := cap) (n := q) (e := 9) (os := #[]) (cur := cur) (ss := strsL l) (ts := strsL (l.filter fun s => bg s p) ++ List.replicate (l.length - (strsL (l.filter fun s => bg s p)).length) []) hlen hbase hb (by omega) h2 h3
    rw [grow_empty, e1] at this
    have h5 := own_take this (m := (l.filter fun s => bg s p).length) hle
    have hgr := grownBy_sorted (w := w) (g := g) (n := q) (os := #[]) (strsL (l.filter fun s => bg s p) ++ List.replicate (l.length - (strsL (l.filter fun s => bg s p)).length) []).toArray
    rw [grow_empty] at hgr
    rw [e3] at *
    refine ⟨_, rfl, Kd.R_of_own ?_ (fun _ _ => trivial), hgr⟩
    have e4 : ((strsL (l.filter fun s => bg s p) ++ List.replicate (l.length - (l.filter fun s => bg s p).length) []).map encStr).take ((l.filter fun s => bg s p).length * 1) = encs Value.string (l.filter fun s => bg s p) := by
      rw [List.map_append, Nat.mul_one, enc_strsL, List.take_left' (by simp [encs])]
    rw [← e4]
    exact h5
end Go.Proofs.Ytadonahmamopbaa.QDk
