/- The plain law of AggOwn. -/
import Derived.Test.YtkjjdpnpcjfgeaaOwLs5
import Derived.Test.YtkjjdpnpcjfgeaaOwLOf
import Derived.Test.YtkjjdpnpcjfgeaaOwX8
namespace Go.Proofs.Ytkjjdpnpcjfgeaa.QAgg
open Go.RowKit Go.Proofs.YtkjjdpnpcjfgeaaW.PrintWords Go.Proofs.YtkjjdpnpcjfgeaaW.PrintLast Go.Proofs.YtkjjdpnpcjfgeaaW.PrintMore
theorem own_l1 {l : List S39} (hl : Fis l) (hn : l.length ≤ 40) {n v : Int} : ∀ (j K i : Nat) (t : List ByteArray), t.length ≤ 1000000 → i + j = t.length → j + 10000 < K →
    gristmilllaw06_AggOwn.l1 K l i 5 0 (tot 5 0 l).1 (tot 5 0 l).2.1 (tot 5 0 l).2.2 n v t = some true := by
  have g := tot_gd (k := 5) (c := 0) hl (by omega)
  have gl := g.l
  intro j
  induction j with
  | zero =>
    intro K i t ht hi hK
    obtain ⟨K, rfl⟩ : ∃ K', K = K' + 1 := ⟨K - 1, by omega⟩
    rw [gristmilllaw06_AggOwn.l1, if_neg (by omega), Of_eq hl (by omega) (by omega), Option.bind_some, same_eq (by omega) (by omega), Option.bind_some]
  | succ j ih =>
    intro K i t ht hi hK
    obtain ⟨K, rfl⟩ : ∃ K', K = K' + 1 := ⟨K - 1, by omega⟩
    rw [gristmilllaw06_AggOwn.l1, if_pos (by omega), if_pos (by omega), wrap_in (by omega) (by omega)]
    exact ih K (i + 1) _ (by simpa using ht) (by rw [List.length_set]; omega) (by omega)
theorem own_l0 {l : List S39} (hl : Fis l) (hn : l.length ≤ 40) {n v n' v' : Int} {t' : List ByteArray} (ht' : t'.length ≤ 1000) : ∀ (j K i : Nat) (t : List ByteArray), t.length ≤ 1000000 → i + j = t.length → j + 12000 < K →
    gristmilllaw06_AggOwn.l0 K l i 5 0 (tot 5 0 l).1 (tot 5 0 l).2.1 (tot 5 0 l).2.2 n v t n' v' t' = some true := by
  intro j
  induction j with
  | zero =>
    intro K i t ht hi hK
    obtain ⟨K, rfl⟩ : ∃ K', K = K' + 1 := ⟨K - 1, by omega⟩
    rw [gristmilllaw06_AggOwn.l0, if_neg (by omega)]
    exact own_l1 hl hn t'.length K 0 t' (by omega) (by omega) (by omega)
  | succ j ih =>
    intro K i t ht hi hK
    obtain ⟨K, rfl⟩ : ∃ K', K = K' + 1 := ⟨K - 1, by omega⟩
    rw [gristmilllaw06_AggOwn.l0, if_pos (by omega), if_pos (by omega), wrap_in (by omega) (by omega)]
    exact ih K (i + 1) _ (by simpa using ht) (by rw [List.length_set]; omega) (by omega)
theorem own_true {l : List S39} (r : ∀ x ∈ l, 0 ≤ x.f1) : gristmilllaw06_AggOwn.f 20000 l = some true := by
  obtain ⟨x, hx, xl, ex⟩ := right_eq (a0 := 4) (a1 := 0) (by unfold i64r; decide) (by unfold i64r; decide) r (K := 20000) (by omega)
  have e5 : kd 4 = 5 := by decide
  have e0 : cl 0 = 0 := by decide
  rw [e5, e0] at ex
  have g := tot_gd (k := 5) (c := 0) hx (by omega)
  have gl := g.l
  have m1 : agg_Merge.f 5 0 (tot 5 0 x).1 (tot 5 0 x).2.1 (tot 5 0 x).2.2 0 0 [] = some (mg 5 (tot 5 0 x) (0, 0, [])) := merge_eq (q := (0, 0, [])) (by decide) (by simp; omega)
  have e1 : mg 5 (tot 5 0 x) ((0 : Int), (0 : Int), ([] : List ByteArray)) = tot 5 0 x := mg_zr g
  have a1 : agg_Add.f 5 0 (tot 5 0 x).1 (tot 5 0 x).2.1 (tot 5 0 x).2.2 0 [(⟨#[97]⟩ : ByteArray), (⟨#[98]⟩ : ByteArray)] [] 0 = some (tot 5 0 x) := by
    rw [agg_Add.f, if_pos rfl, m1, e1]
  unfold gristmilllaw06_AggOwn.f
  rw [awake_eq, Option.bind_some, if_pos rfl, ex, Option.bind_some, of_eq (k := 5) (c := 0) (by decide) (by decide) hx (by omega) (by omega), Option.bind_some, agg_Start.f, Option.bind_some, m1, e1, Option.bind_some, a1, Option.bind_some]
  exact own_l0 hx xl (by omega) (tot 5 0 x).2.2.length 20000 0 _ (by omega) (by omega) (by omega)
end Go.Proofs.Ytkjjdpnpcjfgeaa.QAgg
