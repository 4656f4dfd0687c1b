/- The plain law of AggTurns. -/
import Derived.Test.YtkjjdpnpcjfgeaaTuLs5
import Derived.Test.YtkjjdpnpcjfgeaaTuTurns
namespace Go.Proofs.Ytkjjdpnpcjfgeaa.QAgg
open Go.RowKit Go.Proofs.YtkjjdpnpcjfgeaaW.PrintWords Go.Proofs.YtkjjdpnpcjfgeaaW.PrintLast Go.Proofs.YtkjjdpnpcjfgeaaW.PrintMore
theorem drop_rev {l : List S39} {i : Nat} (h : i < l.length) : (l.drop i).reverse = (l.drop (i + 1)).reverse ++ [rd_T39 l i] := by
  rw [drop_at h, List.reverse_cons]
theorem turns_l0 {k c : Int} (hk : 1 ≤ k ∧ k ≤ 5) (hc : 0 ≤ c ∧ c < 2) {x y z : List S39} (hx : Fis x) (hy : Fis y) (hz : Fis z) (hxl : x.length ≤ 40) (hyl : y.length ≤ 40) (hzl : z.length ≤ 40) :
    ∀ (j K : Nat), j ≤ x.length → j + 2000 ≤ K →
      gristmilllaw06_AggTurns.l0 K x (x.drop j).reverse ((j : Int) - 1) k c (tot k c x).1 (tot k c x).2.1 (tot k c x).2.2 (tot k c y).1 (tot k c y).2.1 (tot k c y).2.2 (tot k c z).1 (tot k c z).2.1 (tot k c z).2.2 = some true := by
  have gx := tot_gd (k := k) (c := c) hx (by omega)
  have gy := tot_gd (k := k) (c := c) hy (by omega)
  have gz := tot_gd (k := k) (c := c) hz (by omega)
  have lx := gx.l
  have ly := gy.l
  have lz := gz.l
  intro j
  induction j with
  | zero =>
    intro K _ hK
    obtain ⟨K, rfl⟩ : ∃ K', K = K' + 1 := ⟨K - 1, by omega⟩
    rw [gristmilllaw06_AggTurns.l0, if_neg (by omega)]
    have gxy := gx.mg gy (by omega)
    have gyz := gy.mg gz (by omega)
    have gxyz := gxy.mg gz (by omega)
    have lxy := gxy.l
    have lyz := gyz.l
    have lxyz := gxyz.l
    rw [merge_eq hk (by omega), Option.bind_some, merge_eq hk (by omega), Option.bind_some, ← mg_comm hk gx gy (by omega), same_eq (by omega) (by omega), Option.bind_some, Option.bind_some,
      merge_eq hk (by omega), Option.bind_some, merge_eq hk (by omega), Option.bind_some, merge_eq hk (by omega), Option.bind_some, ← mg_assoc gx gy gz (by omega), same_eq (by omega) (by omega), Option.bind_some, if_pos rfl, if_pos rfl]
    have hrev : Fis (x.drop 0).reverse := fun q hq => hx q (by simpa using hq)
    have e : tot k c (x.drop 0).reverse = tot k c x := tot_perm hk (by rw [List.drop_zero]; exact List.reverse_perm x) hrev (by simp; omega)
    rw [of_eq hk hc hrev (by simp; omega) (by simp; omega), e, Option.bind_some, same_eq (by omega) (by omega), Option.bind_some, if_pos rfl]
    have e1 : mg k (tot k c x) ((0 : Int), (0 : Int), ([] : List ByteArray)) = tot k c x := mg_zr gx
    have e2 : mg k ((0 : Int), (0 : Int), ([] : List ByteArray)) (tot k c x) = tot k c x := mg_zl gx
    have m1 : agg_Merge.f k c (tot k c x).1 (tot k c x).2.1 (tot k c x).2.2 0 0 [] = some (mg k (tot k c x) (0, 0, [])) := merge_eq (q := (0, 0, [])) hk (by simp; omega)
    have m2 : agg_Merge.f k c 0 0 [] (tot k c x).1 (tot k c x).2.1 (tot k c x).2.2 = some (mg k (0, 0, []) (tot k c x)) := merge_eq (p := (0, 0, [])) hk (by simp; omega)
    rw [agg_Start.f, Option.bind_some, m1, e1, Option.bind_some, same_eq (by omega) (by omega), Option.bind_some, if_pos rfl, Option.bind_some, m2, e2, Option.bind_some, same_eq (by omega) (by omega), Option.bind_some]
  | succ j ih =>
    intro K hj hK
    obtain ⟨K, rfl⟩ : ∃ K', K = K' + 1 := ⟨K - 1, by omega⟩
    have hjl : j < x.length := by omega
    have hn : (((j + 1 : Nat) : Int) - 1) = (j : Int) := by omega
    rw [hn, gristmilllaw06_AggTurns.l0, if_pos (by omega), if_pos (by omega), if_pos (by omega), if_pos (by simp; omega), wrap_in (by omega) (by omega)]
    have := ih K (by omega) (by omega)
    rw [drop_rev hjl] at this
    exact this
theorem turns_true {a0 a1 : Int} (h0 : i64r a0) (h1 : i64r a1) {l1 l2 l3 : List S39} (r1 : ∀ x ∈ l1, 0 ≤ x.f1) (r2 : ∀ x ∈ l2, 0 ≤ x.f1) (r3 : ∀ x ∈ l3, 0 ≤ x.f1) : gristmilllaw06_AggTurns.f 3000 a0 a1 l1 l2 l3 = some true := by
  obtain ⟨x, hx, xl, ex⟩ := right_eq h0 h1 r1 (K := 3000) (by omega)
  obtain ⟨y, hy, yl, ey⟩ := right_eq h0 h1 r2 (K := 3000) (by omega)
  obtain ⟨z, hz, zl, ez⟩ := right_eq h0 h1 r3 (K := 3000) (by omega)
  have hk := kd_in a0
  have hc := cl_in a1
  unfold gristmilllaw06_AggTurns.f
  rw [awake_eq, Option.bind_some, if_pos rfl, ex, Option.bind_some, ey, Option.bind_some, ez, Option.bind_some, of_eq hk hc hx (by omega) (by omega), Option.bind_some, of_eq hk hc hy (by omega) (by omega), Option.bind_some, of_eq hk hc hz (by omega) (by omega), Option.bind_some]
  rw [wrap_in (n := (x.length : Int) - 1) (by omega) (by omega)]
  have := turns_l0 hk hc hx hy hz xl yl zl x.length 3000 (by omega) (by omega)
  rw [List.drop_eq_nil_of_le (Nat.le_refl _), List.reverse_nil] at this
  exact this
end Go.Proofs.Ytkjjdpnpcjfgeaa.QAgg
