/- The contract of agg.Add at kind 1. -/
import Derived.Test.YtkjjdpnpcjfgeaaBaAddA
namespace Go.Proofs.Ytkjjdpnpcjfgeaa.QAgg
open Go.RowKit Go.Proofs.YtkjjdpnpcjfgeaaW.PrintWords Go.Proofs.YtkjjdpnpcjfgeaaW.PrintLast Go.Proofs.YtkjjdpnpcjfgeaaW.PrintMore
attribute [local go_sem ↓] Go.wp_at_zero Go.wp_at_succ
set_option maxRecDepth 100000 in
set_option maxHeartbeats 2000000 in
theorem add1_z (c n1 v1 tm : Int) (A1 AD AM : Option Addr) (c1 cD cM : Nat) (l1 lD : List ByteArray) (lM : List Int) (r1 r2 : Int) (r3 : List ByteArray) (w : World) (hr1 : Kd.C Kd.string w A1 l1.length l1) (hl1 : l1.length ≤ c1) (h : agg_Merge.f 1 c n1 v1 l1 0 0 [] = some (r1, r2, r3)) :
    Calls Try.prog 12 #[.agg #[.int .i64 1, .int .i64 c], .agg #[.int .u64 n1, .int .i64 v1, .slice A1 l1.length c1], .agg #[.int .i64 tm, .slice AD lD.length cD, .slice AM lM.length cM], .int .u64 0] w fun e w' => ∃ v2_ : Value, e = .returned (.agg #[.int .u64 r1, .int .i64 r2, v2_]) ∧ Kd.R Kd.string 9 w' w.heap.size (fun _ => True) v2_ r3 ∧ Below w.heap.size w w' := by
  have HR1 := Aside0.mk hr1
  clear hr1
  have HL1 := Aside0.mk hl1
  clear hl1
  have HM := Aside0.mk h
  clear h
  go_enter Try.func12, Try.ntmps12
  go_wp2_with (first
    | ((with_reducible refine gate_dst (N := 4) rfl ?_); refine box_event rfl (N := 4) rfl (cs := #[.int .i64 1, .int .i64 c]) (t := 23) (by first | (go_simp; done) | (go_simp; rfl)) ?_; intro ga hga w1 BKa HB; clear hga)
    | ((with_reducible refine gate_dst (N := 5) rfl ?_); refine box_event rfl (N := 5) rfl (cs := #[.int .u64 n1, .int .i64 v1, .slice A1 l1.length c1]) (t := 33) (by first | (go_simp; done) | (go_simp; rfl)) ?_; intro gp hgp w2 BKp hb; have NEap := ne_new BKa hgp; have GEp := ge_new HB hgp; replace BKa := blk_below BKa hb; replace HB := below_step HB hb; clear hb hgp)
    | ((with_reducible refine gate_dst (N := 6) rfl ?_); refine box_event rfl (N := 6) rfl (cs := #[.int .i64 tm, .slice AD lD.length cD, .slice AM lM.length cM]) (t := 37) (by first | (go_simp; done) | (go_simp; rfl)) ?_; intro gf hgf w3 BKf hb; have NEaf := ne_new BKa hgf; have NEpf := ne_new BKp hgf; have GEf := ge_new HB hgf; replace BKa := blk_below BKa hb; replace BKp := blk_below BKp hb; replace HB := below_step HB hb; clear hb hgf)
    | ((with_reducible refine gate_dst (N := 8) rfl ?_); refine box_event rfl (N := 8) rfl (cs := #[.int .u64 0, .int .i64 0, .slice none 0 0]) (t := 33) (by first | (go_simp; done) | (go_simp; rfl)) ?_; intro gr hgr w4 BKr hb; have NEar := ne_new BKa hgr; have NEpr := ne_new BKp hgr; have NEfr := ne_new BKf hgr; have GEr := ge_new HB hgr; replace BKa := blk_below BKa hb; replace BKp := blk_below BKp hb; replace BKf := blk_below BKf hb; replace HB := below_step HB hb; clear hb hgr; have a0 : w4.cell? ⟨ga, 0, none⟩ = some (.int .i64 1) := (blk_cell BKa 0).trans rfl; have a1 : w4.cell? ⟨ga, 1, none⟩ = some (.int .i64 c) := (blk_cell BKa 1).trans rfl)
    | (go_at_call 18; refine (known_calls1 _ _).mono ?_; rintro e w5 ⟨rfl, hb⟩; clear a0 a1; replace BKa := blk_below BKa hb; replace BKp := blk_below BKp hb; replace BKf := blk_below BKf hb; replace BKr := blk_below BKr hb; replace HB := below_step HB hb; clear hb)
    | ((with_reducible refine gate_dst (N := 9) rfl ?_); refine box_event rfl (N := 9) rfl (cs := #[.bool false, .nilFunc, .nilFunc, .nilFunc]) (t := 57) (by first | (go_simp; done) | (go_simp; rfl)) ?_; intro gk hgk w6 BKk hb; have NEak := ne_new BKa hgk; have NEpk := ne_new BKp hgk; have NEfk := ne_new BKf hgk; have NErk := ne_new BKr hgk; have GEk := ge_new HB hgk; replace BKa := blk_below BKa hb; replace BKp := blk_below BKp hb; replace BKf := blk_below BKf hb; replace BKr := blk_below BKr hb; replace HB := below_step HB hb; clear hb hgk)
    | ((with_reducible refine gate_store (t := 57) (p := 9) rfl ?_); refine store_event rfl 57 (.tmp 9) (.tmp 15) rfl #[(.bool false), .nilFunc, .nilFunc, (.func (.func 34) #[] #[])] rfl BKk rfl i57 rfl rfl ?_; intro w7 BKk2 hg; replace BKa := blk_grown BKa hg (by simpa using NEak); replace BKp := blk_grown BKp hg (by simpa using NEpk); replace BKf := blk_grown BKf hg (by simpa using NEfk); replace BKr := blk_grown BKr hg (by simpa using NErk); replace HB := HB.grown hg HB.size (fun k e => by cases e; exact GEk); clear hg BKk; have BKk := BKk2; clear BKk2; have a0 : w7.cell? ⟨ga, 0, none⟩ = some (.int .i64 1) := (blk_cell BKa 0).trans rfl; have a1 : w7.cell? ⟨ga, 1, none⟩ = some (.int .i64 c) := (blk_cell BKa 1).trans rfl; have p0 : w7.cell? ⟨gp, 0, none⟩ = some (.int .u64 n1) := (blk_cell BKp 0).trans rfl; have p1 : w7.cell? ⟨gp, 1, none⟩ = some (.int .i64 v1) := (blk_cell BKp 1).trans rfl; have p2 : w7.cell? ⟨gp, 2, none⟩ = some (.slice A1 l1.length c1) := (blk_cell BKp 2).trans rfl; have f1 : w7.cell? ⟨gf, 1, none⟩ = some (.slice AD lD.length cD) := (blk_cell BKf 1).trans rfl; have f2 : w7.cell? ⟨gf, 2, none⟩ = some (.slice AM lM.length cM) := (blk_cell BKf 2).trans rfl; have k0 : w7.cell? ⟨gk, 0, none⟩ = some ((.bool false)) := (blk_cell BKk 0).trans rfl; have k1 : w7.cell? ⟨gk, 1, none⟩ = some (.nilFunc) := (blk_cell BKk 1).trans rfl; skip))
  refine (agg_Merge.calls 1 c n1 v1 A1 c1 l1 0 0 none 0 [] r1 r2 r3 _ (Kd.C_below HR1.out HB) HL1.out (Kd.C_nil _ _) (Nat.le_refl _) HM.out).mono ?_
  rintro e w10 ⟨v2, rfl, hv, hb⟩
  have hbase : w.heap.size ≤ w7.heap.size := HB.size
  replace BKr := blk_below BKr hb
  replace HB := below_step HB hb
  obtain ⟨A4, c4, rfl, hl4, hC4⟩ := Kd.R_reads hv
  have r0 : w10.cell? ⟨gr, 0, none⟩ = some (.int .u64 0) := (blk_cell BKr 0).trans rfl
  have r1_ : w10.cell? ⟨gr, 1, none⟩ = some (.int .i64 0) := (blk_cell BKr 1).trans rfl
  have r2_ : w10.cell? ⟨gr, 2, none⟩ = some (.slice none 0 0) := (blk_cell BKr 2).trans rfl
  have fr := fun i => blk_frozen BKr i
  go_wp2_with (fail)
  refine bodyPost_ret (v := .agg #[.int .u64 r1, .int .i64 r2, .slice A4 r3.length c4]) (results_cell_row Try.results12 _ _ gr 33 _ (0, 0) _ rfl (blk_put (blk_put (blk_put BKr 0 _ rfl) 1 _ rfl) 2 _ rfl) Try.underlying33 rfl i33) rfl ⟨_, rfl, ?_, ?_⟩
  · exact Kd.R_mono (Kd.R_lower (Kd.R_far (p := ⟨gr, 2, none⟩) (Kd.R_far (p := ⟨gr, 1, none⟩) (Kd.R_far (p := ⟨gr, 0, none⟩) (Kd.R_types hv BKr (by decide)) (fun _ hk => hk.2) _) (fun _ hk => hk.2) _) (fun _ hk => hk.2) _) hbase) (fun _ _ => trivial)
  · exact ((HB.setCell GEr _).setCell GEr _).setCell GEr _
set_option maxRecDepth 100000 in
set_option maxHeartbeats 2000000 in
theorem add1_n (c n1 v1 tm n : Int) (A1 AD AM : Option Addr) (c1 cD cM : Nat) (l1 lD : List ByteArray) (lM : List Int) (r1 r2 : Int) (r3 : List ByteArray) (w : World) (hr1 : Kd.C Kd.string w A1 l1.length l1) (hl1 : l1.length ≤ c1) (hn : (n == 0) = false) (h : agg_Merge.f 1 c n1 v1 l1 n 0 [] = some (r1, r2, r3)) :
    Calls Try.prog 12 #[.agg #[.int .i64 1, .int .i64 c], .agg #[.int .u64 n1, .int .i64 v1, .slice A1 l1.length c1], .agg #[.int .i64 tm, .slice AD lD.length cD, .slice AM lM.length cM], .int .u64 n] w fun e w' => ∃ v2_ : Value, e = .returned (.agg #[.int .u64 r1, .int .i64 r2, v2_]) ∧ Kd.R Kd.string 9 w' w.heap.size (fun _ => True) v2_ r3 ∧ Below w.heap.size w w' := by
  have HR1 := Aside0.mk hr1
  clear hr1
  have HL1 := Aside0.mk hl1
  clear hl1
  have HM := Aside0.mk h
  clear h
  have hneq := neqmn
  go_enter Try.func12, Try.ntmps12
  go_wp2_with (first
    | ((with_reducible refine gate_dst (N := 4) rfl ?_); refine box_event rfl (N := 4) rfl (cs := #[.int .i64 1, .int .i64 c]) (t := 23) (by first | (go_simp; done) | (go_simp; rfl)) ?_; intro ga hga w1 BKa HB; clear hga)
    | ((with_reducible refine gate_dst (N := 5) rfl ?_); refine box_event rfl (N := 5) rfl (cs := #[.int .u64 n1, .int .i64 v1, .slice A1 l1.length c1]) (t := 33) (by first | (go_simp; done) | (go_simp; rfl)) ?_; intro gp hgp w2 BKp hb; have NEap := ne_new BKa hgp; have GEp := ge_new HB hgp; replace BKa := blk_below BKa hb; replace HB := below_step HB hb; clear hb hgp)
    | ((with_reducible refine gate_dst (N := 6) rfl ?_); refine box_event rfl (N := 6) rfl (cs := #[.int .i64 tm, .slice AD lD.length cD, .slice AM lM.length cM]) (t := 37) (by first | (go_simp; done) | (go_simp; rfl)) ?_; intro gf hgf w3 BKf hb; have NEaf := ne_new BKa hgf; have NEpf := ne_new BKp hgf; have GEf := ge_new HB hgf; replace BKa := blk_below BKa hb; replace BKp := blk_below BKp hb; replace HB := below_step HB hb; clear hb hgf)
    | ((with_reducible refine gate_dst (N := 8) rfl ?_); refine box_event rfl (N := 8) rfl (cs := #[.int .u64 0, .int .i64 0, .slice none 0 0]) (t := 33) (by first | (go_simp; done) | (go_simp; rfl)) ?_; intro gr hgr w4 BKr hb; have NEar := ne_new BKa hgr; have NEpr := ne_new BKp hgr; have NEfr := ne_new BKf hgr; have GEr := ge_new HB hgr; replace BKa := blk_below BKa hb; replace BKp := blk_below BKp hb; replace BKf := blk_below BKf hb; replace HB := below_step HB hb; clear hb hgr; have a0 : w4.cell? ⟨ga, 0, none⟩ = some (.int .i64 1) := (blk_cell BKa 0).trans rfl; have a1 : w4.cell? ⟨ga, 1, none⟩ = some (.int .i64 c) := (blk_cell BKa 1).trans rfl)
    | (go_at_call 18; refine (known_calls1 _ _).mono ?_; rintro e w5 ⟨rfl, hb⟩; clear a0 a1; replace BKa := blk_below BKa hb; replace BKp := blk_below BKp hb; replace BKf := blk_below BKf hb; replace BKr := blk_below BKr hb; replace HB := below_step HB hb; clear hb)
    | ((with_reducible refine gate_dst (N := 9) rfl ?_); refine box_event rfl (N := 9) rfl (cs := #[.bool false, .nilFunc, .nilFunc, .nilFunc]) (t := 57) (by first | (go_simp; done) | (go_simp; rfl)) ?_; intro gk hgk w6 BKk hb; have NEak := ne_new BKa hgk; have NEpk := ne_new BKp hgk; have NEfk := ne_new BKf hgk; have NErk := ne_new BKr hgk; have GEk := ge_new HB hgk; replace BKa := blk_below BKa hb; replace BKp := blk_below BKp hb; replace BKf := blk_below BKf hb; replace BKr := blk_below BKr hb; replace HB := below_step HB hb; clear hb hgk)
    | ((with_reducible refine gate_store (t := 57) (p := 9) rfl ?_); refine store_event rfl 57 (.tmp 9) (.tmp 15) rfl #[(.bool false), .nilFunc, .nilFunc, (.func (.func 34) #[] #[])] rfl BKk rfl i57 rfl rfl ?_; intro w7 BKk2 hg; replace BKa := blk_grown BKa hg (by simpa using NEak); replace BKp := blk_grown BKp hg (by simpa using NEpk); replace BKf := blk_grown BKf hg (by simpa using NEfk); replace BKr := blk_grown BKr hg (by simpa using NErk); replace HB := HB.grown hg HB.size (fun k e => by cases e; exact GEk); clear hg BKk; have BKk := BKk2; clear BKk2; have a0 : w7.cell? ⟨ga, 0, none⟩ = some (.int .i64 1) := (blk_cell BKa 0).trans rfl; have a1 : w7.cell? ⟨ga, 1, none⟩ = some (.int .i64 c) := (blk_cell BKa 1).trans rfl; have p0 : w7.cell? ⟨gp, 0, none⟩ = some (.int .u64 n1) := (blk_cell BKp 0).trans rfl; have p1 : w7.cell? ⟨gp, 1, none⟩ = some (.int .i64 v1) := (blk_cell BKp 1).trans rfl; have p2 : w7.cell? ⟨gp, 2, none⟩ = some (.slice A1 l1.length c1) := (blk_cell BKp 2).trans rfl; have f1 : w7.cell? ⟨gf, 1, none⟩ = some (.slice AD lD.length cD) := (blk_cell BKf 1).trans rfl; have f2 : w7.cell? ⟨gf, 2, none⟩ = some (.slice AM lM.length cM) := (blk_cell BKf 2).trans rfl; have k0 : w7.cell? ⟨gk, 0, none⟩ = some ((.bool false)) := (blk_cell BKk 0).trans rfl; have k1 : w7.cell? ⟨gk, 1, none⟩ = some (.nilFunc) := (blk_cell BKk 1).trans rfl; skip)
    | ((with_reducible refine gate_dst (N := 11) rfl ?_); refine box_event rfl (N := 11) rfl (cs := #[.int .u64 0, .int .i64 0, .slice none 0 0]) (t := 33) (by first | (go_simp; done) | (go_simp; rfl)) ?_; intro gq hgq w8 BKq hb; have NEaq := ne_new BKa hgq; have NEpq := ne_new BKp hgq; have NEfq := ne_new BKf hgq; have NErq := ne_new BKr hgq; have NEkq := ne_new BKk hgq; have GEq := ge_new HB hgq; replace BKa := blk_below BKa hb; replace BKp := blk_below BKp hb; replace BKf := blk_below BKf hb; replace BKr := blk_below BKr hb; replace BKk := blk_below BKk hb; replace HB := below_step HB hb; clear hb hgq; clear a0 a1 p0 p1 p2 f1 f2 k0 k1)
    | ((with_reducible refine gate_store (t := 33) (p := 11) rfl ?_); refine store_event rfl 33 (.tmp 11) (.tmp 28) rfl #[.int .u64 n, .int .i64 0, .slice none 0 0] rfl BKq rfl i33 rfl rfl ?_; intro w9 BKq2 hg; replace BKa := blk_grown BKa hg (by simpa using NEaq); replace BKp := blk_grown BKp hg (by simpa using NEpq); replace BKf := blk_grown BKf hg (by simpa using NEfq); replace BKr := blk_grown BKr hg (by simpa using NErq); replace BKk := blk_grown BKk hg (by simpa using NEkq); replace HB := HB.grown hg HB.size (fun k e => by cases e; exact GEq); clear hg BKq; have BKq := BKq2; clear BKq2; have a0 : w9.cell? ⟨ga, 0, none⟩ = some (.int .i64 1) := (blk_cell BKa 0).trans rfl; have a1 : w9.cell? ⟨ga, 1, none⟩ = some (.int .i64 c) := (blk_cell BKa 1).trans rfl; have p0 : w9.cell? ⟨gp, 0, none⟩ = some (.int .u64 n1) := (blk_cell BKp 0).trans rfl; have p1 : w9.cell? ⟨gp, 1, none⟩ = some (.int .i64 v1) := (blk_cell BKp 1).trans rfl; have p2 : w9.cell? ⟨gp, 2, none⟩ = some (.slice A1 l1.length c1) := (blk_cell BKp 2).trans rfl; have f1 : w9.cell? ⟨gf, 1, none⟩ = some (.slice AD lD.length cD) := (blk_cell BKf 1).trans rfl; have f2 : w9.cell? ⟨gf, 2, none⟩ = some (.slice AM lM.length cM) := (blk_cell BKf 2).trans rfl; have k0 : w9.cell? ⟨gk, 0, none⟩ = some ((.bool false)) := (blk_cell BKk 0).trans rfl; have k1 : w9.cell? ⟨gk, 1, none⟩ = some (.nilFunc) := (blk_cell BKk 1).trans rfl; have q0 : w9.cell? ⟨gq, 0, none⟩ = some (.int .u64 n) := (blk_cell BKq 0).trans rfl; have q1 : w9.cell? ⟨gq, 1, none⟩ = some (.int .i64 0) := (blk_cell BKq 1).trans rfl; have q2 : w9.cell? ⟨gq, 2, none⟩ = some (.slice none 0 0) := (blk_cell BKq 2).trans rfl; have fq := fun i => blk_frozen BKq i; skip))
  refine (agg_Merge.calls 1 c n1 v1 A1 c1 l1 n 0 none 0 [] r1 r2 r3 _ (Kd.C_below HR1.out HB) HL1.out (Kd.C_nil _ _) (Nat.le_refl _) HM.out).mono ?_
  rintro e w10 ⟨v2, rfl, hv, hb⟩
  have hbase : w.heap.size ≤ w9.heap.size := HB.size
  replace BKr := blk_below BKr hb
  replace HB := below_step HB hb
  obtain ⟨A4, c4, rfl, hl4, hC4⟩ := Kd.R_reads hv
  have r0 : w10.cell? ⟨gr, 0, none⟩ = some (.int .u64 0) := (blk_cell BKr 0).trans rfl
  have r1_ : w10.cell? ⟨gr, 1, none⟩ = some (.int .i64 0) := (blk_cell BKr 1).trans rfl
  have r2_ : w10.cell? ⟨gr, 2, none⟩ = some (.slice none 0 0) := (blk_cell BKr 2).trans rfl
  have fr := fun i => blk_frozen BKr i
  go_wp2_with (fail)
  refine bodyPost_ret (v := .agg #[.int .u64 r1, .int .i64 r2, .slice A4 r3.length c4]) (results_cell_row Try.results12 _ _ gr 33 _ (0, 0) _ rfl (blk_put (blk_put (blk_put BKr 0 _ rfl) 1 _ rfl) 2 _ rfl) Try.underlying33 rfl i33) rfl ⟨_, rfl, ?_, ?_⟩
  · exact Kd.R_mono (Kd.R_lower (Kd.R_far (p := ⟨gr, 2, none⟩) (Kd.R_far (p := ⟨gr, 1, none⟩) (Kd.R_far (p := ⟨gr, 0, none⟩) (Kd.R_types hv BKr (by decide)) (fun _ hk => hk.2) _) (fun _ hk => hk.2) _) (fun _ hk => hk.2) _) hbase) (fun _ _ => trivial)
  · exact ((HB.setCell GEr _).setCell GEr _).setCell GEr _
end Go.Proofs.Ytkjjdpnpcjfgeaa.QAgg
