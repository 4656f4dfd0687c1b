/- Contracts of the disk's inner functions: names, refusals, operations counted. -/
import Derived.Test.YtadonahmamopbaaQDkx1
import Derived.WalkLawsBesides
import Derived.Deep.RegionHeld3
import Derived.Deep.DrawnRows
namespace Go.Proofs.Ytadonahmamopbaa.QDk
open Go.RowKit Go.Proofs.YtadonahmamopbaaW.PrintWords Go.Proofs.YtadonahmamopbaaW.PrintLast Go.Proofs.YtadonahmamopbaaW.PrintMore
attribute [local go_sem ↓] Go.wp_at_zero Go.wp_at_succ
/-- Is a text a name? -/
def nm (s : ByteArray) : Bool := (disk_named.f (s.size + 2) s).getD false
theorem wrap_in {n : Int} (h : -9223372036854775808 ≤ n) (h' : n ≤ 9223372036854775807) : wrap64 n = n := by unfold wrap64; omega
theorem named_some {s : ByteArray} (hs : s.size ≤ maxLen) : ∀ (j k i : Nat), i + j = s.size → j < k → ∃ r, disk_named.l0 k s s.size i = some r := by
  have hm : maxLen = 9223372036854775807 := by decide
  intro j
  induction j with
  | zero =>
    intro k i hi hk
    obtain ⟨k, rfl⟩ : ∃ k', k = k' + 1 := ⟨k - 1, by omega⟩
    rw [disk_named.l0, if_neg (by omega)]
    split
    · exact ⟨_, rfl⟩
    · exact ⟨_, rfl⟩
  | succ j ih =>
    intro k i hi hk
    obtain ⟨k, rfl⟩ : ∃ k', k = k' + 1 := ⟨k - 1, by omega⟩
    rw [disk_named.l0, if_pos (by omega), if_pos (by omega), if_pos (by omega)]
    split
    · exact ⟨_, rfl⟩
    · split
      · exact ⟨_, rfl⟩
      · rw [wrap_in (by omega) (by omega)]
        exact ih k (i + 1) (by omega) (by omega)
theorem named_calls {s : ByteArray} (hs : s.size ≤ maxLen) (w : World) : Calls Try.prog 27 #[.string s] w fun e w' => e = .returned (.bool (nm s)) ∧ Drawn0 w w' := by
  obtain ⟨r, hr⟩ := named_some hs s.size (s.size + 2) 0 (by omega) (by omega)
  have hr : disk_named.f (s.size + 2) s = some r := hr
  have : nm s = r := by unfold nm; rw [hr]; rfl
  rw [this]
  exact disk_named.calls _ _ _ w hr
theorem refused1_calls {s : ByteArray} (hs : s.size ≤ maxLen) (w : World) : Calls Try.prog 26 #[.string s] w fun e w' => e = .returned (.bool (!nm s)) ∧ Drawn0 w w' := by
  go_enter Try.func26, Try.ntmps26
  go_wp2_with (first | (go_at_call 27; refine (named_calls hs _).mono ?_; rintro e w1 ⟨rfl, m, rfl⟩))
  go_ret
  exact ⟨rfl, by repeat (first | exact Drawn0.refl _ | apply Drawn0.step)⟩
theorem indexf_calls {s : ByteArray} (hs : s.size ≤ maxLen) (w : World) (g : Nat) (hg : w.cell? ⟨g, 0, none⟩ = some (.string s)) : Calls Try.prog 31 #[.slice (some ⟨g, 0, none⟩) 1 1, .func (.func 26) #[] #[]] w fun e w' => e = .returned (.int .i64 (if nm s then -1 else 0)) ∧ Drawn0 w w' := by
  go_enter Try.func31, Try.ntmps31
  go_wp2
  refine wp_loop_rounds 2 ?_
  rw [rounds_succ]
  by_cases hn : nm s = true
  · go_wp2_with (first | (go_at_call 26; refine (refused1_calls hs _).mono ?_; rintro e w1 ⟨rfl, m, rfl⟩))
    rw [rounds_succ]
    go_wp2
    go_ret
    exact ⟨by simp, by repeat (first | exact Drawn0.refl _ | apply Drawn0.step)⟩
  · have hn : nm s = false := by simpa using hn
    go_wp2_with (first | (go_at_call 26; refine (refused1_calls hs _).mono ?_; rintro e w1 ⟨rfl, m, rfl⟩))
    go_ret
    exact ⟨by simp, by repeat (first | exact Drawn0.refl _ | apply Drawn0.step)⟩
theorem containsf_calls {s : ByteArray} (hs : s.size ≤ maxLen) (w : World) (g : Nat) (hg : w.cell? ⟨g, 0, none⟩ = some (.string s)) : Calls Try.prog 25 #[.slice (some ⟨g, 0, none⟩) 1 1, .func (.func 26) #[] #[]] w fun e w' => e = .returned (.bool (!nm s)) ∧ Drawn0 w w' := by
  go_enter Try.func25, Try.ntmps25
  cases hn : nm s with
  | true =>
    go_wp2_with (first | (go_at_call 31; refine (indexf_calls hs _ g hg).mono ?_; rintro e w1 ⟨rfl, m, rfl⟩; rw [hn]))
    go_ret
    exact ⟨by simp, by repeat (first | exact Drawn0.refl _ | apply Drawn0.step)⟩
  | false =>
    go_wp2_with (first | (go_at_call 31; refine (indexf_calls hs _ g hg).mono ?_; rintro e w1 ⟨rfl, m, rfl⟩; rw [hn]))
    go_ret
    exact ⟨by simp, by repeat (first | exact Drawn0.refl _ | apply Drawn0.step)⟩
theorem drawn {w w' : World} (h : Drawn0 w w') : Drawn0 w w'.drew := h.step 1
/-- A disk's cells. -/
def dk (mb : Nat) (off : Bool) (ops at_ part : Int) : Obj := .cells #[.map (some mb), .bool off, .int .i64 ops, .int .i64 at_, .int .i64 part] 39 (0, 0)
theorem refused_off {w : World} {d mb g : Nat} {ops at_ part : Int} (b : Bool) (hd : w.heap[d]? = some (dk mb true ops at_ part)) : Calls Try.prog 14 #[.pointer (some ⟨d, 0, none⟩), .bool b, .slice (some ⟨g, 0, none⟩) 1 1] w fun e w' => e = .returned (.int .i64 122) ∧ Drawn0 w w' := by
  have h1 : w.cell? ⟨d, 1, none⟩ = some (.bool true) := (blk_cell hd 1).trans rfl
  go_enter Try.func14, Try.ntmps14
  go_wp2
  go_ret
  exact ⟨rfl, by repeat (first | exact Drawn0.refl _ | apply Drawn0.step)⟩
set_option maxHeartbeats 1000000 in
theorem refused_new {w : World} {d mb g : Nat} {ops at_ part : Int} {s : ByteArray} (hs : s.size ≤ maxLen) (hd : w.heap[d]? = some (dk mb false ops at_ part)) (hg : w.cell? ⟨g, 0, none⟩ = some (.string s)) :
    Calls Try.prog 14 #[.pointer (some ⟨d, 0, none⟩), .bool false, .slice (some ⟨g, 0, none⟩) 1 1] w fun e w' => e = .returned (.int .i64 (if nm s then 0 else 1)) ∧ Drawn0 w w' := by
  have h1 : w.cell? ⟨d, 1, none⟩ = some (.bool false) := (blk_cell hd 1).trans rfl
  go_enter Try.func14, Try.ntmps14
  cases hn : nm s with
  | true =>
    go_wp2_with (first | (go_at_call 25; refine (containsf_calls hs _ g hg).mono ?_; rintro e w1 ⟨rfl, m, rfl⟩; rw [hn]))
    go_region
    go_wp2
    go_ret
    exact ⟨by simp, drawn ((Drawn0.refl w).step m)⟩
  | false =>
    go_wp2_with (first | (go_at_call 25; refine (containsf_calls hs _ g hg).mono ?_; rintro e w1 ⟨rfl, m, rfl⟩; rw [hn]))
    go_ret
    exact ⟨by simp, by repeat (first | exact Drawn0.refl _ | apply Drawn0.step)⟩
end Go.Proofs.Ytadonahmamopbaa.QDk
