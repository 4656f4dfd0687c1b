/- The plain law of AggBags. -/
import Derived.Test.YtkjjdpnpcjfgeaaBaLs5
import Derived.Test.YtkjjdpnpcjfgeaaBaLBag
import Derived.Test.YtkjjdpnpcjfgeaaBaX12
namespace Go.Proofs.Ytkjjdpnpcjfgeaa.QAgg
open Go.RowKit Go.Proofs.YtkjjdpnpcjfgeaaW.PrintWords Go.Proofs.YtkjjdpnpcjfgeaaW.PrintLast Go.Proofs.YtkjjdpnpcjfgeaaW.PrintMore
/-- Single facts. -/
def Sg (l : List S39) : Prop := ∀ x ∈ l, Fi x ∧ x.f1 = 1
theorem bags_l1 {l : List S39} {k c : Int} (hl : Fis l) {i : Nat} (hi : i < l.length) (hn : l.length ≤ 40) : ∀ (j K q : Nat) (acc : List S39), (q : Int) + j = Int.tmod (rd_T39 l i).f1 5 → Sg acc → acc.length + j ≤ 1000 →
    ∃ acc', Sg acc' ∧ acc'.length = acc.length + j ∧ gristmilllaw06_AggBags.l1 (K + j + 1) l acc i q k c = gristmilllaw06_AggBags.l0 K l acc' ((i : Int) + 1) k c := by
  have hx := hl _ (at_mem hi)
  intro j
  induction j with
  | zero =>
    intro K q acc hq hs ha
    refine ⟨acc, hs, rfl, ?_⟩
    rw [gristmilllaw06_AggBags.l1, if_pos (by omega), if_pos (by omega), if_neg (by omega), wrap_in (by omega) (by omega)]
  | succ j ih =>
    intro K q acc hq hs ha
    have h5 : Int.tmod (rd_T39 l i).f1 5 < 5 := Int.tmod_lt_of_pos _ (by decide)
    obtain ⟨acc', h1, h2, h3⟩ := ih K (q + 1) (acc ++ [(⟨(rd_T39 l i).f0, 1⟩ : S39)]) (by omega) (fun y hy => by
      rcases List.mem_append.mp hy with h | h
      · exact hs y h
      · rw [List.mem_singleton.mp h]
        exact ⟨⟨hx.d, hx.m, by show (0 : Int) ≤ 1; decide, by show (1 : Int) < _; decide⟩, rfl⟩) (by simp; omega)
    have hw : IntKind.u64.wrap ((q : Int) + 1) = (q : Int) + 1 := by rw [u64_eq]; omega
    refine ⟨acc', h1, by rw [h2]; simp; omega, ?_⟩
    rw [show K + (j + 1) + 1 = (K + j + 1) + 1 by omega, gristmilllaw06_AggBags.l1, if_pos (by omega), if_pos (by omega), if_pos (by omega), if_pos (by omega), hw]
    exact h3
theorem bags_l0 {l : List S39} {k c : Int} (hk : 1 ≤ k ∧ k ≤ 5) (hc : 0 ≤ c ∧ c < 2) (hl : Fis l) (hn : l.length ≤ 40) : ∀ (j K i : Nat) (acc : List S39), i + j = l.length → 7 * j + 5000 ≤ K → Sg acc → acc.length ≤ 5 * i →
    gristmilllaw06_AggBags.l0 K l acc i k c = some true := by
  intro j
  induction j with
  | zero =>
    intro K i acc hi hK hs ha
    obtain ⟨K, rfl⟩ : ∃ K', K = K' + 1 := ⟨K - 1, by omega⟩
    have hf : Fis acc := fun y hy => (hs y hy).1
    obtain ⟨t, e1, e2, e3, e4⟩ := own_eq' (k := k) (c := c) hk hf (fun y hy => (hs y hy).2) (by omega) (K := K) (by omega)
    have g := (tot_gd (k := k) (c := c) hf (by omega)).l
    rw [gristmilllaw06_AggBags.l0, if_neg (by omega), of_eq hk hc hf (by omega) (by omega), Option.bind_some, e1, Option.bind_some, of_eq hk hc e2 (by omega) (by omega), Option.bind_some, e4, same_eq (by omega) (by omega), Option.bind_some]
  | succ j ih =>
    intro K i acc hi hK hs ha
    have hil : i < l.length := by omega
    have hx := hl _ (at_mem hil)
    have h0 : 0 ≤ Int.tmod (rd_T39 l i).f1 5 := Int.tmod_nonneg _ hx.n0
    have h5 : Int.tmod (rd_T39 l i).f1 5 < 5 := Int.tmod_lt_of_pos _ (by decide)
    obtain ⟨m, hm⟩ : ∃ m : Nat, (m : Int) = Int.tmod (rd_T39 l i).f1 5 := ⟨(Int.tmod (rd_T39 l i).f1 5).toNat, by omega⟩
    obtain ⟨K, rfl⟩ : ∃ K', K = K' + m + 1 + 1 := ⟨K - m - 2, by omega⟩
    obtain ⟨acc', s1, s2, s3⟩ := bags_l1 (k := k) (c := c) hl hil hn m K 0 acc (by omega) hs (by omega)
    rw [gristmilllaw06_AggBags.l0, if_pos (by omega)]
    refine s3.trans ?_
    exact ih K (i + 1) acc' (by omega) (by omega) s1 (by omega)
theorem bags_true {a0 a1 : Int} (h0 : i64r a0) (h1 : i64r a1) {l : List S39} (r : ∀ x ∈ l, 0 ≤ x.f1) : gristmilllaw06_AggBags.f 9000 a0 a1 l = some true := by
  obtain ⟨x, hx, xl, ex⟩ := right_eq h0 h1 r (K := 9000) (by omega)
  unfold gristmilllaw06_AggBags.f
  rw [awake_eq, Option.bind_some, if_pos rfl, ex, Option.bind_some]
  exact bags_l0 (kd_in a0) (cl_in a1) hx xl x.length 9000 0 [] (by omega) (by omega) (fun _ h => absurd h (by simp)) (by simp)
end Go.Proofs.Ytkjjdpnpcjfgeaa.QAgg
