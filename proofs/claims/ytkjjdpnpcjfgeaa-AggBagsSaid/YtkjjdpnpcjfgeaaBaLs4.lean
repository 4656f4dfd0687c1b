/- The plain law: what 'right' makes of raw facts. -/
import Derived.Test.YtkjjdpnpcjfgeaaBaLs3
namespace Go.Proofs.Ytkjjdpnpcjfgeaa.QAgg
open Go.RowKit Go.Proofs.YtkjjdpnpcjfgeaaW.PrintWords Go.Proofs.YtkjjdpnpcjfgeaaW.PrintLast Go.Proofs.YtkjjdpnpcjfgeaaW.PrintMore
section
variable {x1 x8 : List S39} {b0 b1 s0 c0 c1 : Int} {i : Nat}
theorem right_l1_step (hi : i < x1.length) {K : Nat} {q : Nat} (hq : q < 2) {s1 : List ByteArray} {s2 : List Int} (h1 : s1.length = 2) (h2 : s2.length = 2) :
    ∃ y z, y.length = 2 ∧ z.length = 2 ∧ gristmilllaw06_right.l1 (K + 2) x1 x8 i q b0 b1 c0 c1 s0 s1 s2 = gristmilllaw06_right.l1 K x1 x8 i ((q : Int) + 1) b0 b1 c0 c1 s0 y z := by
  have hw : wrap64 ((q : Int) + 1) = (q : Int) + 1 := wrap_in (by omega) (by omega)
  rw [gristmilllaw06_right.l1, if_pos (by omega), if_pos (by omega), if_pos (by omega)]
  have key : ∀ b : Bool, (b = true → (q : Int) < (((rd_T39 x1 i).f0.f1).length : Int)) → ∃ y z, y.length = 2 ∧ z.length = 2 ∧ gristmilllaw06_right.j3 (K + 1) x1 x8 i q b b0 b1 c0 c1 s0 s1 s2 = gristmilllaw06_right.l1 K x1 x8 i ((q : Int) + 1) b0 b1 c0 c1 s0 y z := by
    intro b hb
    rw [gristmilllaw06_right.j3]
    cases b with
    | true =>
      rw [if_pos rfl, if_pos (by omega), if_pos (by omega), if_pos (by omega), if_pos (hb rfl), if_pos (by omega), Option.bind_some]
      by_cases hm : (q : Int) < (((rd_T39 x1 i).f0.f2).length : Int)
      · rw [if_pos hm, if_pos (by omega), hw]
        exact ⟨_, _, by simpa using h1, by simpa using h2, rfl⟩
      · rw [if_neg hm, hw]
        exact ⟨_, _, by simpa using h1, h2, rfl⟩
    | false =>
      rw [if_neg (by simp), if_pos (by omega), if_pos (by omega)]
      by_cases hm : (q : Int) < (((rd_T39 x1 i).f0.f2).length : Int)
      · rw [if_pos hm, if_pos (by omega), if_pos (by omega), hw]
        exact ⟨_, _, h1, by simpa using h2, rfl⟩
      · rw [if_neg hm, hw]
        exact ⟨_, _, h1, h2, rfl⟩
  by_cases hl : (q : Int) < (((rd_T39 x1 i).f0.f1).length : Int)
  · rw [if_pos hl, if_pos (by omega)]
    exact key _ (fun _ => hl)
  · rw [if_neg hl]
    exact key false (fun h => absurd h (by simp))
theorem right_l0_step (hr : ∀ x ∈ x1, 0 ≤ x.f1) (hi : i < x1.length) (h4 : i < 40) (h8 : x8.length = i) (_hf : Fis x8) {K : Nat} :
    ∃ x, Fi x ∧ gristmilllaw06_right.l0 (K + 7) x1 x8 i b0 b1 c0 c1 = gristmilllaw06_right.l0 K x1 (x8 ++ [x]) ((i : Int) + 1) b0 b1 c0 c1 := by
  rw [gristmilllaw06_right.l0, if_pos (by omega), decide_eq_true (by omega : (i : Int) < 40), gristmilllaw06_right.j1, if_pos rfl, if_pos (by omega), if_pos (by omega)]
  obtain ⟨y, z, hy, hz, e⟩ := right_l1_step (x8 := x8) (b0 := b0) (b1 := b1) (s0 := (rd_T39 x1 i).f0.f0) (c0 := c0) (c1 := c1) hi (K := K + 3) (q := 0) (by omega) (s1 := [(⟨#[]⟩ : ByteArray), (⟨#[]⟩ : ByteArray)]) (s2 := [0, 0]) rfl rfl
  have e' : gristmilllaw06_right.l1 (K + 5) x1 x8 i 0 b0 b1 c0 c1 (rd_T39 x1 i).f0.f0 [(⟨#[]⟩ : ByteArray), (⟨#[]⟩ : ByteArray)] [0, 0] = gristmilllaw06_right.l1 (K + 3) x1 x8 i 1 b0 b1 c0 c1 (rd_T39 x1 i).f0.f0 y z := e
  obtain ⟨y2, z2, hy2, hz2, e2⟩ := right_l1_step (x8 := x8) (b0 := b0) (b1 := b1) (s0 := (rd_T39 x1 i).f0.f0) (c0 := c0) (c1 := c1) hi (K := K + 1) (q := 1) (by omega) hy hz
  have e2' : gristmilllaw06_right.l1 (K + 3) x1 x8 i 1 b0 b1 c0 c1 (rd_T39 x1 i).f0.f0 y z = gristmilllaw06_right.l1 (K + 1) x1 x8 i 2 b0 b1 c0 c1 (rd_T39 x1 i).f0.f0 y2 z2 := e2
  rw [e', e2', gristmilllaw06_right.l1, if_neg (by omega), if_pos (by omega), if_pos (by omega), if_pos (by omega), wrap_in (by omega) (by omega)]
  have h0 := hr _ (at_mem hi)
  refine ⟨_, ⟨hy2, hz2, ?_, ?_⟩, rfl⟩
  · exact Int.tmod_nonneg _ h0
  · exact Int.tmod_lt_of_pos _ (by decide)
theorem right_l0 (hr : ∀ x ∈ x1, 0 ≤ x.f1) : ∀ (j i : Nat) (K : Nat) (x8 : List S39), i + j = 40 → 7 * j + 2 ≤ K → i ≤ x1.length → x8.length = i → Fis x8 →
    ∃ x, Fis x ∧ x.length ≤ 40 ∧ gristmilllaw06_right.l0 K x1 x8 i b0 b1 c0 c1 = some (c0, c1, b0, b1, x) := by
  intro j
  induction j with
  | zero =>
    intro i K x8 hi hK hl h8 hf
    obtain ⟨K, rfl⟩ : ∃ K', K = K' + 2 := ⟨K - 2, by omega⟩
    refine ⟨x8, hf, by omega, ?_⟩
    rw [gristmilllaw06_right.l0]
    split
    · rw [decide_eq_false (by omega : ¬ (i : Int) < 40), gristmilllaw06_right.j1, if_neg (by simp)]
    · rw [gristmilllaw06_right.j1, if_neg (by simp)]
  | succ j ih =>
    intro i K x8 hi hK hl h8 hf
    by_cases hil : i < x1.length
    · obtain ⟨K, rfl⟩ : ∃ K', K = K' + 7 := ⟨K - 7, by omega⟩
      obtain ⟨x, hx, e⟩ := right_l0_step (b0 := b0) (b1 := b1) (c0 := c0) (c1 := c1) hr hil (by omega) h8 hf (K := K)
      obtain ⟨x', h1, h2, h3⟩ := ih (i + 1) K (x8 ++ [x]) (by omega) (by omega) (by omega) (by simp [h8]) (fun y hy => by
        rcases List.mem_append.mp hy with h | h
        · exact hf y h
        · rw [List.mem_singleton.mp h]; exact hx)
      exact ⟨x', h1, h2, e.trans h3⟩
    · obtain ⟨K, rfl⟩ : ∃ K', K = K' + 2 := ⟨K - 2, by omega⟩
      refine ⟨x8, hf, by omega, ?_⟩
      rw [gristmilllaw06_right.l0, if_neg (by omega), gristmilllaw06_right.j1, if_neg (by simp)]
end
def i64r (n : Int) : Prop := -9223372036854775808 ≤ n ∧ n ≤ 9223372036854775807
def ab (n : Int) : Int := if n < 0 then -(n + 1) else n
theorem ab_nn (n : Int) : 0 ≤ ab n := by unfold ab; split <;> omega
theorem abs_eq {n : Int} (h : i64r n) : gristmilllaw06_abs.f n = some (ab n) := by
  unfold i64r at h
  unfold gristmilllaw06_abs.f ab
  split
  · rw [wrap_in (n := n + 1) (by omega) (by omega), wrap_in (by omega) (by omega)]
  · rfl
def kd (a : Int) : Int := 1 + Int.tmod (ab a) 5
def cl (a : Int) : Int := Int.tmod (ab a) 2
theorem kd_in (a : Int) : 1 ≤ kd a ∧ kd a ≤ 5 := by
  have h1 := Int.tmod_nonneg 5 (ab_nn a)
  have h2 := Int.tmod_lt_of_pos (ab a) (by decide : (0 : Int) < 5)
  unfold kd; omega
theorem cl_in (a : Int) : 0 ≤ cl a ∧ cl a < 2 := ⟨Int.tmod_nonneg 2 (ab_nn a), Int.tmod_lt_of_pos (ab a) (by decide)⟩
theorem right_eq {a0 a1 : Int} (h0 : i64r a0) (h1 : i64r a1) {raw : List S39} (hr : ∀ x ∈ raw, 0 ≤ x.f1) {K : Nat} (hK : 300 ≤ K) :
    ∃ x, Fis x ∧ x.length ≤ 40 ∧ gristmilllaw06_right.f K a0 a1 raw = some (2, 2, kd a0, cl a1, x) := by
  obtain ⟨x, hx, hl, e⟩ := right_l0 (b0 := kd a0) (b1 := cl a1) (c0 := 2) (c1 := 2) hr 40 0 K [] (by omega) (by omega) (by omega) rfl (fun _ h => absurd h (by simp))
  refine ⟨x, hx, hl, ?_⟩
  unfold gristmilllaw06_right.f
  rw [abs_eq h0, Option.bind_some, abs_eq h1, Option.bind_some]
  have := kd_in a0
  rw [show wrap64 (1 + Int.tmod (ab a0) 5) = kd a0 from wrap_in (by unfold kd at this; omega) (by unfold kd at this; omega)]
  exact e
end Go.Proofs.Ytkjjdpnpcjfgeaa.QAgg
