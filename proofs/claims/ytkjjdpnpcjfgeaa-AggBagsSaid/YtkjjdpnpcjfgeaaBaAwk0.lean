/- Contracts that the first examples of layer 6 lean on: agg.Start, agg.Value, agg.Check at the examples' own arguments. -/
import Derived.Test.YtkjjdpnpcjfgeaaBaHand1
namespace Go.Proofs.Ytkjjdpnpcjfgeaa.QAgg
open Go.RowKit Go.Proofs.YtkjjdpnpcjfgeaaW.PrintWords Go.Proofs.YtkjjdpnpcjfgeaaW.PrintLast Go.Proofs.YtkjjdpnpcjfgeaaW.PrintMore
attribute [local go_sem ↓] Go.wp_at_zero Go.wp_at_succ
set_option maxRecDepth 100000 in
theorem fn37 (n v : Int) (A : Option Addr) (l cap : Nat) (w : World) : Calls Try.prog 37 #[.agg #[.int .u64 n, .int .i64 v, .slice A l cap]] w fun e w' => e = .returned (.int .i64 v) ∧ w.alloc (.cells #[.int .u64 n, .int .i64 v, .slice A l cap] 33) = w' := by
  go_enter Try.func37, Try.ntmps37
  go_wp2
  go_ret
  exact ⟨rfl, rfl⟩
set_option maxRecDepth 100000 in
set_option maxHeartbeats 400000 in
theorem value2 (c n v : Int) (A : Option Addr) (l cap : Nat) (w : World) : Calls Try.prog 15 #[.agg #[.int .i64 2, .int .i64 c], .agg #[.int .u64 n, .int .i64 v, .slice A l cap]] w fun e w' => e = .returned (.int .i64 v) ∧ Below w.heap.size w w' := by
  go_enter Try.func15, Try.ntmps15
  go_wp2_with (first
    | ((with_reducible refine gate_dst (N := 2) rfl ?_); refine box_event rfl (N := 2) rfl (cs := #[.int .i64 2, .int .i64 c]) (t := 23) (by first | (go_simp; done) | (go_simp; rfl)) ?_; intro ga ha w1 BKa HB; clear ha)
    | ((with_reducible refine gate_dst (N := 3) rfl ?_); refine box_event rfl (N := 3) rfl (cs := #[.int .u64 n, .int .i64 v, .slice A l cap]) (t := 33) (by first | (go_simp; done) | (go_simp; rfl)) ?_; intro gp hp w2 BKp hb; have NEap := ne_new BKa hp; replace BKa := blk_below BKa hb; replace HB := below_step HB hb; clear hb hp; have a0 : w2.cell? ⟨ga, 0, none⟩ = some (.int .i64 2) := (blk_cell BKa 0).trans rfl; have a1 : w2.cell? ⟨ga, 1, none⟩ = some (.int .i64 c) := (blk_cell BKa 1).trans rfl)
    | (go_at_call 18; refine (known_calls2 _ _).mono ?_; rintro e w5 ⟨rfl, hb⟩; clear a0 a1; replace BKp := blk_below BKp hb; replace HB := below_step HB hb; clear hb)
    | ((with_reducible refine gate_dst (N := 5) rfl ?_); refine box_event rfl (N := 5) rfl (cs := #[.bool false, .nilFunc, .nilFunc, .nilFunc]) (t := 57) (by first | (go_simp; done) | (go_simp; rfl)) ?_; intro gk hk w6 BKk hb; have NEpk := ne_new BKp hk; replace BKp := blk_below BKp hb; have GEk := ge_new HB hk; replace HB := below_step HB hb; clear hb hk)
    | ((with_reducible refine gate_store (t := 57) (p := 5) rfl ?_); refine store_event rfl 57 (.tmp 5) (.tmp 10) rfl #[(.bool false), (.func (.func 35) #[] #[]), (.func (.func 36) #[] #[]), (.func (.func 37) #[] #[])] rfl BKk rfl i57 rfl rfl ?_; intro w7 BKk2 hg; replace BKp := blk_grown BKp hg (by simpa using NEpk); replace HB := HB.grown hg HB.size (fun k e => by cases e; exact GEk); clear hg BKk; have k3 : w7.cell? ⟨gk, 3, none⟩ = some (.func (.func 37) #[] #[]) := (blk_cell BKk2 3).trans rfl; have p0 : w7.cell? ⟨gp, 0, none⟩ = some (.int .u64 n) := (blk_cell BKp 0).trans rfl; have p1 : w7.cell? ⟨gp, 1, none⟩ = some (.int .i64 v) := (blk_cell BKp 1).trans rfl; have p2 : w7.cell? ⟨gp, 2, none⟩ = some (.slice A l cap) := (blk_cell BKp 2).trans rfl)
    | (go_at_call 37; refine (fn37 _ _ _ _ _ _).mono ?_; rintro e w8 ⟨rfl, rfl⟩))
  go_ret
  exact ⟨rfl, HB.alloc HB.size _⟩
set_option maxRecDepth 100000 in
theorem fn40 (n v : Int) (A : Option Addr) (l cap : Nat) (w : World) : Calls Try.prog 40 #[.agg #[.int .u64 n, .int .i64 v, .slice A l cap]] w fun e w' => e = .returned (.int .i64 l) ∧ w.alloc (.cells #[.int .u64 n, .int .i64 v, .slice A l cap] 33) = w' := by
  go_enter Try.func40, Try.ntmps40
  go_wp2
  go_ret
  exact ⟨rfl, rfl⟩
set_option maxRecDepth 100000 in
set_option maxHeartbeats 400000 in
theorem value5 (c n v : Int) (A : Option Addr) (l cap : Nat) (w : World) : Calls Try.prog 15 #[.agg #[.int .i64 5, .int .i64 c], .agg #[.int .u64 n, .int .i64 v, .slice A l cap]] w fun e w' => e = .returned (.int .i64 l) ∧ Below w.heap.size w w' := by
  go_enter Try.func15, Try.ntmps15
  go_wp2_with (first
    | ((with_reducible refine gate_dst (N := 2) rfl ?_); refine box_event rfl (N := 2) rfl (cs := #[.int .i64 5, .int .i64 c]) (t := 23) (by first | (go_simp; done) | (go_simp; rfl)) ?_; intro ga ha w1 BKa HB; clear ha)
    | ((with_reducible refine gate_dst (N := 3) rfl ?_); refine box_event rfl (N := 3) rfl (cs := #[.int .u64 n, .int .i64 v, .slice A l cap]) (t := 33) (by first | (go_simp; done) | (go_simp; rfl)) ?_; intro gp hp w2 BKp hb; have NEap := ne_new BKa hp; replace BKa := blk_below BKa hb; replace HB := below_step HB hb; clear hb hp; have a0 : w2.cell? ⟨ga, 0, none⟩ = some (.int .i64 5) := (blk_cell BKa 0).trans rfl; have a1 : w2.cell? ⟨ga, 1, none⟩ = some (.int .i64 c) := (blk_cell BKa 1).trans rfl)
    | (go_at_call 18; refine (known_calls5 _ _).mono ?_; rintro e w5 ⟨rfl, hb⟩; clear a0 a1; replace BKp := blk_below BKp hb; replace HB := below_step HB hb; clear hb)
    | ((with_reducible refine gate_dst (N := 5) rfl ?_); refine box_event rfl (N := 5) rfl (cs := #[.bool false, .nilFunc, .nilFunc, .nilFunc]) (t := 57) (by first | (go_simp; done) | (go_simp; rfl)) ?_; intro gk hk w6 BKk hb; have NEpk := ne_new BKp hk; replace BKp := blk_below BKp hb; have GEk := ge_new HB hk; replace HB := below_step HB hb; clear hb hk)
    | ((with_reducible refine gate_store (t := 57) (p := 5) rfl ?_); refine store_event rfl 57 (.tmp 5) (.tmp 10) rfl #[(.bool true), .nilFunc, .nilFunc, (.func (.func 40) #[] #[])] rfl BKk rfl i57 rfl rfl ?_; intro w7 BKk2 hg; replace BKp := blk_grown BKp hg (by simpa using NEpk); replace HB := HB.grown hg HB.size (fun k e => by cases e; exact GEk); clear hg BKk; have k3 : w7.cell? ⟨gk, 3, none⟩ = some (.func (.func 40) #[] #[]) := (blk_cell BKk2 3).trans rfl; have p0 : w7.cell? ⟨gp, 0, none⟩ = some (.int .u64 n) := (blk_cell BKp 0).trans rfl; have p1 : w7.cell? ⟨gp, 1, none⟩ = some (.int .i64 v) := (blk_cell BKp 1).trans rfl; have p2 : w7.cell? ⟨gp, 2, none⟩ = some (.slice A l cap) := (blk_cell BKp 2).trans rfl)
    | (go_at_call 40; refine (fn40 _ _ _ _ _ _).mono ?_; rintro e w8 ⟨rfl, rfl⟩))
  go_ret
  exact ⟨rfl, HB.alloc HB.size _⟩
set_option maxRecDepth 100000 in
set_option maxHeartbeats 400000 in
theorem wrong_one (w : World) (g : Nat) (hg0 : w.heap[g]? = some (.cells #[.int .i64 0, .int .i64 0] 27 (0, 0))) : Calls Try.prog 25 #[.agg #[.int .i64 2, .int .i64 0], .pointer (some ⟨g, 0, none⟩)] w fun e w' => e = .returned (.bool true) ∧ Below w.heap.size w w' := by
  go_enter Try.func25, Try.ntmps25
  go_wp2_with (first
    | ((with_reducible refine gate_dst (N := 2) rfl ?_); refine box_event rfl (N := 2) rfl (cs := #[.int .i64 2, .int .i64 0]) (t := 23) (by first | (go_simp; done) | (go_simp; rfl)) ?_; intro ga ha w1 BKa HB; have BKg := blk_below hg0 HB; clear ha; have a0 : w1.cell? ⟨ga, 0, none⟩ = some (.int .i64 2) := (blk_cell BKa 0).trans rfl; have a1 : w1.cell? ⟨ga, 1, none⟩ = some (.int .i64 0) := (blk_cell BKa 1).trans rfl)
    | (go_at_call 18; refine (known_calls2 _ _).mono ?_; rintro e w5 ⟨rfl, hb⟩; clear a0 a1; replace BKa := blk_below BKa hb; replace BKg := blk_below BKg hb; replace HB := below_step HB hb; clear hb)
    | ((with_reducible refine gate_dst (N := 4) rfl ?_); refine box_event rfl (N := 4) rfl (cs := #[.bool false, .nilFunc, .nilFunc, .nilFunc]) (t := 57) (by first | (go_simp; done) | (go_simp; rfl)) ?_; intro gk hk w6 BKk hb; have NEak := ne_new BKa hk; have NEgk := ne_new BKg hk; replace BKa := blk_below BKa hb; replace BKg := blk_below BKg hb; have GEk := ge_new HB hk; replace HB := below_step HB hb; clear hb hk)
    | ((with_reducible refine gate_store (t := 57) (p := 4) rfl ?_); refine store_event rfl 57 (.tmp 4) (.tmp 10) rfl #[(.bool false), (.func (.func 35) #[] #[]), (.func (.func 36) #[] #[]), (.func (.func 37) #[] #[])] rfl BKk rfl i57 rfl rfl ?_; intro w7 BKk2 hg; replace BKa := blk_grown BKa hg (by simpa using NEak); replace BKg := blk_grown BKg hg (by simpa using NEgk); replace HB := HB.grown hg HB.size (fun k e => by cases e; exact GEk); clear hg BKk; have k0 : w7.cell? ⟨gk, 0, none⟩ = some (.bool false) := (blk_cell BKk2 0).trans rfl; have a0 : w7.cell? ⟨ga, 0, none⟩ = some (.int .i64 2) := (blk_cell BKa 0).trans rfl; have a1 : w7.cell? ⟨ga, 1, none⟩ = some (.int .i64 0) := (blk_cell BKa 1).trans rfl; have g0 : w7.cell? ⟨g, 0, none⟩ = some (.int .i64 0) := (blk_cell BKg 0).trans rfl; have g1 : w7.cell? ⟨g, 1, none⟩ = some (.int .i64 0) := (blk_cell BKg 1).trans rfl))
  go_ret
  exact ⟨rfl, HB⟩
set_option maxRecDepth 100000 in
set_option maxHeartbeats 400000 in
theorem check_one (w : World) (g : Nat) (hg0 : w.heap[g]? = some (.cells #[.int .i64 2, .int .i64 0] 23 (0, 0))) : Calls Try.prog 16 #[.agg #[.int .i64 0, .int .i64 0], .slice (some ⟨g, 0, none⟩) 1 1] w fun e w' => e = .returned (.int .i64 1) ∧ Below w.heap.size w w' := by
  have x0 : (w.alloc (.cells #[.int .i64 0, .int .i64 0] 27)).cell? ⟨g, 0, none⟩ = some (.int .i64 2) := (blk_cell (blk_alloc hg0 _) 0).trans rfl
  have x1 : (w.alloc (.cells #[.int .i64 0, .int .i64 0] 27)).cell? ⟨g, 1, none⟩ = some (.int .i64 0) := (blk_cell (blk_alloc hg0 _) 1).trans rfl
  go_enter Try.func16, Try.ntmps16
  go_wp2_with (first | go_in)
  refine wp_loop_rounds 1 ?_
  rw [rounds_succ]
  go_wp2_with (first
    | (go_at_call 25; refine (wrong_one _ _ (blk_new w _)).mono ?_; rintro e w5 ⟨rfl, hb⟩))
  go_ret
  exact ⟨rfl, ((Below.refl _ _).alloc (Nat.le_refl _) _).trans (hb.mono (by simp))⟩
theorem awake_cells {W : World} {ga gb gc gd : Nat} {n v n' v' : Int} {A A' : Option Addr} {l c l' c' : Nat} (h1 : W.heap[ga]? = some (.cells #[.int .i64 2, .int .i64 0] 23 (0, 0))) (h2 : W.heap[gb]? = some (.cells #[.int .u64 n, .int .i64 v, .slice A l c] 33 (0, 0)))
    (h3 : W.heap[gc]? = some (.cells #[.int .i64 5, .int .i64 0] 23 (0, 0))) (h4 : W.heap[gd]? = some (.cells #[.int .u64 n', .int .i64 v', .slice A' l' c'] 33 (0, 0))) :
    W.cell? ⟨ga, 0, none⟩ = some (.int .i64 2) ∧ W.cell? ⟨ga, 1, none⟩ = some (.int .i64 0) ∧ W.cell? ⟨gb, 0, none⟩ = some (.int .u64 n) ∧ W.cell? ⟨gb, 1, none⟩ = some (.int .i64 v) ∧ W.cell? ⟨gb, 2, none⟩ = some (.slice A l c) ∧
    W.cell? ⟨gc, 0, none⟩ = some (.int .i64 5) ∧ W.cell? ⟨gc, 1, none⟩ = some (.int .i64 0) ∧ W.cell? ⟨gd, 0, none⟩ = some (.int .u64 n') ∧ W.cell? ⟨gd, 1, none⟩ = some (.int .i64 v') ∧ W.cell? ⟨gd, 2, none⟩ = some (.slice A' l' c') :=
  ⟨(blk_cell h1 0).trans rfl, (blk_cell h1 1).trans rfl, (blk_cell h2 0).trans rfl, (blk_cell h2 1).trans rfl, (blk_cell h2 2).trans rfl, (blk_cell h3 0).trans rfl, (blk_cell h3 1).trans rfl, (blk_cell h4 0).trans rfl, (blk_cell h4 1).trans rfl, (blk_cell h4 2).trans rfl⟩
end Go.Proofs.Ytkjjdpnpcjfgeaa.QAgg
