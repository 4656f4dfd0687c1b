/- The contract of agg.Merge at kind 3. -/
import Derived.Test.YtkjjdpnpcjfgeaaBaMergeA
namespace Go.Proofs.Ytkjjdpnpcjfgeaa
open Go.RowKit Go.Proofs.YtkjjdpnpcjfgeaaW.PrintWords Go.Proofs.YtkjjdpnpcjfgeaaW.PrintLast Go.Proofs.YtkjjdpnpcjfgeaaW.PrintMore
attribute [local go_sem ↓] Go.wp_at_zero Go.wp_at_succ
set_option maxRecDepth 100000 in
set_option maxHeartbeats 1000000 in
theorem merge3_nn (c n1 v1 n2 v2 : Int) (A1 A2 : Option Addr) (c1 c2 : Nat) (l1 l2 : List ByteArray) (w : World) (hr1 : Kd.C Kd.string w A1 l1.length l1) (hr2 : Kd.C Kd.string w A2 l2.length l2) (_hbig : l1.length + l2.length ≤ 1000000) (_hn1 : (n1 == 0) = false) (_hn2 : (n2 == 0) = false) (_hn3 : (n2 != 0) = true) :
    Calls Try.prog 10 #[.agg #[.int .i64 3, .int .i64 c], .agg #[.int .u64 n1, .int .i64 v1, .slice A1 l1.length c1], .agg #[.int .u64 n2, .int .i64 v2, .slice A2 l2.length c2]] w fun e w' => ∃ v, e = .returned (.agg #[.int .u64 (IntKind.u64.wrap (n1 + n2)), .int .i64 (mn v1 v2), v]) ∧ Kd.R Kd.string 9 w' w.heap.size (fun _ => True) v (compS (sortS (l1 ++ l2))) ∧ Below w.heap.size w w' := by
  have HR1 := Aside0.mk hr1
  clear hr1
  have HR2 := Aside0.mk hr2
  clear hr2
  have hneq := neq38
  go_enter Try.func10, Try.ntmps10
  go_upto_block 0 with (first
    | ((with_reducible refine gate_dst (N := 3) rfl ?_); refine box_event rfl (N := 3) rfl (cs := #[.int .i64 3, .int .i64 c]) (t := 23) (by first | (go_simp; done) | (go_simp; rfl)) ?_; intro ga ha w1 BKa HB; clear ha)
    | ((with_reducible refine gate_dst (N := 4) rfl ?_); refine box_event rfl (N := 4) rfl (cs := #[.int .u64 n1, .int .i64 v1, .slice A1 l1.length c1]) (t := 33) (by first | (go_simp; done) | (go_simp; rfl)) ?_; intro gp hp w2 BKp hb; have NEap := ne_new BKa hp; have GEp := ge_new HB hp; replace BKa := blk_below BKa hb; replace HB := below_step HB hb; clear hb hp)
    | ((with_reducible refine gate_dst (N := 5) rfl ?_); refine box_event rfl (N := 5) rfl (cs := #[.int .u64 n2, .int .i64 v2, .slice A2 l2.length c2]) (t := 33) (by first | (go_simp; done) | (go_simp; rfl)) ?_; intro gq hq w3 BKq hb; have NEpq := ne_new BKp hq; replace BKa := blk_below BKa hb; replace BKp := blk_below BKp hb; replace HB := below_step HB hb; clear hb hq)
    | ((with_reducible refine gate_dst (N := 6) rfl ?_); refine box_event rfl (N := 6) rfl (cs := #[.int .u64 0, .int .i64 0, .slice none 0 0]) (t := 33) (by first | (go_simp; done) | (go_simp; rfl)) ?_; intro gr hr w4 BKr hb; have NEpr := ne_new BKp hr; have NEqr := ne_new BKq hr; have GEr := ge_new HB hr; replace BKa := blk_below BKa hb; replace BKp := blk_below BKp hb; replace BKq := blk_below BKq hb; replace HB := below_step HB hb; have k0 : w4.cell? ⟨ga, 0, none⟩ = some (.int .i64 3) := (blk_cell BKa 0).trans rfl; have k1 : w4.cell? ⟨ga, 1, none⟩ = some (.int .i64 c) := (blk_cell BKa 1).trans rfl; clear hb hr)
    | (go_at_call 18; refine (known_calls3 _ _).mono ?_; rintro e w5 ⟨rfl, hb⟩; clear k0 k1; replace BKp := blk_below BKp hb; replace BKq := blk_below BKq hb; replace BKr := blk_below BKr hb; replace HB := below_step HB hb; clear hb BKa NEap)
    | ((with_reducible refine gate_dst (N := 7) rfl ?_); refine box_event rfl (N := 7) rfl (cs := #[.bool false, .nilFunc, .nilFunc, .nilFunc]) (t := 57) (by first | (go_simp; done) | (go_simp; rfl)) ?_; intro gk hk w6 BKk hb; have NEpk := ne_new BKp hk; have NEqk := ne_new BKq hk; have NErk := ne_new BKr hk; replace BKp := blk_below BKp hb; replace BKq := blk_below BKq hb; replace BKr := blk_below BKr hb; have GEk := ge_new HB hk; replace HB := below_step HB hb; clear hb hk)
    | ((with_reducible refine gate_store (t := 57) (p := 7) rfl ?_); refine store_event rfl 57 (.tmp 7) (.tmp 13) rfl #[(.bool false), (.func (.func 33) #[] #[]), (.func (.func 38) #[] #[]), (.func (.func 37) #[] #[])] rfl BKk rfl i57 rfl rfl ?_; intro w7 BKk' hg; replace BKp := blk_grown BKp hg (by simpa using NEpk); replace BKq := blk_grown BKq hg (by simpa using NEqk); replace BKr := blk_grown BKr hg (by simpa using NErk); replace HB := HB.grown hg HB.size (fun k e => by cases e; exact GEk); clear hg BKk))
  have p0 : w7.cell? ⟨gp, 0, none⟩ = some (.int .u64 n1) := (blk_cell BKp 0).trans rfl
  have p1 : w7.cell? ⟨gp, 1, none⟩ = some (.int .i64 v1) := (blk_cell BKp 1).trans rfl
  have p2 : w7.cell? ⟨gp, 2, none⟩ = some (.slice A1 l1.length c1) := (blk_cell BKp 2).trans rfl
  have q0 : w7.cell? ⟨gq, 0, none⟩ = some (.int .u64 n2) := (blk_cell BKq 0).trans rfl
  have q1 : w7.cell? ⟨gq, 1, none⟩ = some (.int .i64 v2) := (blk_cell BKq 1).trans rfl
  have q2 : w7.cell? ⟨gq, 2, none⟩ = some (.slice A2 l2.length c2) := (blk_cell BKq 2).trans rfl
  have k2 : w7.cell? ⟨gk, 2, none⟩ = some (.func (.func 38) #[] #[]) := (blk_cell BKk' 2).trans rfl
  have fp := fun i => blk_frozen BKp i
  go_cut [] (fun wc => MidAt w gp gr (IntKind.u64.wrap (n1 + n2)) (mn v1 v2) (l1 ++ l2) wc)
  case first =>
    go_wp2_with (first
      | (go_at_call 38; refine (min_calls _ _ _).mono ?_; rintro e w8 ⟨rfl, rfl⟩))
    have HB8 : Below w.heap.size w ((w7.setCell ⟨gp, 1, none⟩ (.int .i64 (mn v1 v2))).alloc (.cells #[.slice A1 l1.length c1, .slice A2 l2.length c2] 31)) := (HB.setCell GEp _).alloc (by have := HB.size; simpa using this) _
    refine (concat_calls _ A1 A2 c1 c2 l1 l2 _ ((new_cell (by simp [World.setCell]) 0).trans rfl) ((new_cell (by simp [World.setCell]) 1).trans rfl) (Kd.C_below HR1.out HB8) (Kd.C_below HR2.out HB8) _hbig).mono ?_
    rintro e w8 ⟨v, rfl, hv, hb⟩
    obtain ⟨A3, c3, rfl, hl3, hC3⟩ := Kd.R_reads hv
    replace BKp := blk_below (blk_alloc (blk_put (cs' := #[.int .u64 n1, .int .i64 (mn v1 v2), .slice A1 l1.length c1]) BKp 1 (.int .i64 (mn v1 v2)) rfl) _) hb
    replace BKq := blk_below (blk_alloc (blk_far (p := ⟨gp, 1, none⟩) BKq (Ne.symm NEpq) _) _) hb
    replace BKr := blk_below (blk_alloc (blk_far (p := ⟨gp, 1, none⟩) BKr (Ne.symm NEpr) _) _) hb
    replace HB := below_step HB8 hb
    clear p0 p1 p2 q0 q1 q2 k2 fp hneq
    have p0 : w8.cell? ⟨gp, 0, none⟩ = some (.int .u64 n1) := (blk_cell BKp 0).trans rfl
    have p2 : w8.cell? ⟨gp, 2, none⟩ = some (.slice A1 l1.length c1) := (blk_cell BKp 2).trans rfl
    have q0 : w8.cell? ⟨gq, 0, none⟩ = some (.int .u64 n2) := (blk_cell BKq 0).trans rfl
    have fp := fun i => blk_frozen BKp i
    go_wp2_with (fail)
    go_meet
    case rel =>
      refine ⟨A3, c3, blk_put (blk_put BKp 2 _ rfl) 0 _ (by simp), ?_, blk_far (blk_far BKr (Ne.symm NEpr) _) (Ne.symm NEpr) _, (HB.setCell GEp _).setCell GEp _⟩
      exact (Kd.R_reads' (Kd.R_far (p := ⟨gp, 0, none⟩) (Kd.R_far (p := ⟨gp, 2, none⟩) (Kd.R_types hv BKp (by decide)) (fun _ hk => hk.2) _) (fun _ hk => hk.2) _)).2.2
  case rest =>
    obtain ⟨A, cc, BKp, HC, BKr, HB⟩ := hcut
    have hbase : w.heap.size ≤ wc.heap.size := HB.size
    have HCa := Aside0.mk HC
    clear HC p0 p1 p2 q0 q1 q2 k2 fp
    have p2 : wc.cell? ⟨gp, 2, none⟩ = some (.slice A (l1 ++ l2).length cc) := (blk_cell BKp 2).trans rfl
    go_wp2_with (first
      | (go_at_call 20; refine (clone_any A _ cc (l1 ++ l2) wc (by simp) HCa.out (by simp; omega)).mono ?_; rintro e w8 ⟨v, rfl, hv, hb⟩)
      | (go_at_call 21; refine (sort_calls wc.heap.size v (l1 ++ l2) _ hv (by simp; omega)).mono ?_; rintro e w9 ⟨rfl, hs, hg⟩))
    have NE1 := ne_own (Kd.R_base hv) (blk_lt BKp)
    have NE2 := ne_own (Kd.R_base hv) (blk_lt BKr)
    replace BKp := blk_grown (blk_below BKp hb) hg NE1
    replace BKr := blk_grown (blk_below BKr hb) hg NE2
    replace HB := (below_step HB hb).grown hg (below_step HB hb).size (fun k e => Nat.le_trans hbase (Kd.R_base hv k e))
    have hs' := Kd.R_drew hs
    have hp0 : w9.drew.cell? ⟨gp, 0, none⟩ = some (.int .u64 (IntKind.u64.wrap (n1 + n2))) := (blk_cell (blk_drew BKp) 0).trans rfl
    have hp1 : w9.drew.cell? ⟨gp, 1, none⟩ = some (.int .i64 (mn v1 v2)) := (blk_cell (blk_drew BKp) 1).trans rfl
    clear p2 hb
    go_region_held3 (fun w' => w'.cell? ⟨gp, 0, none⟩ = some (.int .u64 (IntKind.u64.wrap (n1 + n2))) ∧ w'.cell? ⟨gp, 1, none⟩ = some (.int .i64 (mn v1 v2)))
      (first | exact ⟨hp0, hp1⟩ | exact ⟨hg2.cell hp0 NE1, hg2.cell hp1 NE1⟩ | exact ⟨cell_apart (cell_apart (cell_apart (hg2.cell hp0 NE1) NEpr) NEpr) NEpr, cell_apart (cell_apart (cell_apart (hg2.cell hp1 NE1) NEpr) NEpr) NEpr⟩)
      (first | (go_at_call 22; refine (compact_calls wc.heap.size v (sortS (l1 ++ l2)) _ hs' (by rw [sortS_length]; exact (by simp; omega))).mono ?_; rintro e w10 ⟨v', rfl, hc, hg2⟩; have BKr2 := blk_grown (blk_drew BKr) hg2 NE2; have r0 : w10.cell? ⟨gr, 0, none⟩ = some (.int .u64 0) := (blk_cell BKr2 0).trans rfl; have r1 : w10.cell? ⟨gr, 1, none⟩ = some (.int .i64 0) := (blk_cell BKr2 1).trans rfl; have r2 : w10.cell? ⟨gr, 2, none⟩ = some (.slice none 0 0) := (blk_cell BKr2 2).trans rfl; have fr := fun i => blk_frozen BKr2 i; obtain ⟨A4, c4, rfl, hl4, hC4⟩ := Kd.R_reads hc))
    go_wp2
    refine bodyPost_ret (v := .agg #[.int .u64 (IntKind.u64.wrap (n1 + n2)), .int .i64 (mn v1 v2), .slice A4 (compS (sortS (l1 ++ l2))).length c4]) (results_cell_row Try.results10 _ _ gr 33 _ (0, 0) _ rfl (blk_put (blk_put (blk_put BKr2 0 _ rfl) 1 _ rfl) 2 _ rfl) Try.underlying33 rfl i33) rfl ⟨_, rfl, ?_, ?_⟩
    · exact Kd.R_mono (Kd.R_lower (Kd.R_far (p := ⟨gr, 2, none⟩) (Kd.R_far (p := ⟨gr, 1, none⟩) (Kd.R_far (p := ⟨gr, 0, none⟩) (Kd.R_types hc BKr2 (by decide)) (fun _ hk => hk.2) _) (fun _ hk => hk.2) _) (fun _ hk => hk.2) _) hbase) (fun _ _ => trivial)
    · exact (((HB.drew.grown hg2 HB.size (fun k e => Nat.le_trans hbase (Kd.R_base hv k e))).setCell GEr _).setCell GEr _).setCell GEr _
set_option maxRecDepth 100000 in
set_option maxHeartbeats 1000000 in
theorem merge3_nz (c n1 v1 v2 : Int) (A1 A2 : Option Addr) (c1 c2 : Nat) (l1 l2 : List ByteArray) (w : World) (hr1 : Kd.C Kd.string w A1 l1.length l1) (_hbig : l1.length + l2.length ≤ 1000000) (_hn1 : (n1 == 0) = false) :
    Calls Try.prog 10 #[.agg #[.int .i64 3, .int .i64 c], .agg #[.int .u64 n1, .int .i64 v1, .slice A1 l1.length c1], .agg #[.int .u64 0, .int .i64 v2, .slice A2 l2.length c2]] w fun e w' => ∃ v, e = .returned (.agg #[.int .u64 n1, .int .i64 v1, v]) ∧ Kd.R Kd.string 9 w' w.heap.size (fun _ => True) v (compS (sortS l1)) ∧ Below w.heap.size w w' := by
  have HR1 := Aside0.mk hr1
  clear hr1
  go_enter Try.func10, Try.ntmps10
  go_upto_block 0 with (first
    | ((with_reducible refine gate_dst (N := 3) rfl ?_); refine box_event rfl (N := 3) rfl (cs := #[.int .i64 3, .int .i64 c]) (t := 23) (by first | (go_simp; done) | (go_simp; rfl)) ?_; intro ga ha w1 BKa HB; clear ha)
    | ((with_reducible refine gate_dst (N := 4) rfl ?_); refine box_event rfl (N := 4) rfl (cs := #[.int .u64 n1, .int .i64 v1, .slice A1 l1.length c1]) (t := 33) (by first | (go_simp; done) | (go_simp; rfl)) ?_; intro gp hp w2 BKp hb; have NEap := ne_new BKa hp; have GEp := ge_new HB hp; replace BKa := blk_below BKa hb; replace HB := below_step HB hb; clear hb hp)
    | ((with_reducible refine gate_dst (N := 5) rfl ?_); refine box_event rfl (N := 5) rfl (cs := #[.int .u64 0, .int .i64 v2, .slice A2 l2.length c2]) (t := 33) (by first | (go_simp; done) | (go_simp; rfl)) ?_; intro gq hq w3 BKq hb; have NEpq := ne_new BKp hq; replace BKa := blk_below BKa hb; replace BKp := blk_below BKp hb; replace HB := below_step HB hb; clear hb hq)
    | ((with_reducible refine gate_dst (N := 6) rfl ?_); refine box_event rfl (N := 6) rfl (cs := #[.int .u64 0, .int .i64 0, .slice none 0 0]) (t := 33) (by first | (go_simp; done) | (go_simp; rfl)) ?_; intro gr hr w4 BKr hb; have NEpr := ne_new BKp hr; have NEqr := ne_new BKq hr; have GEr := ge_new HB hr; replace BKa := blk_below BKa hb; replace BKp := blk_below BKp hb; replace BKq := blk_below BKq hb; replace HB := below_step HB hb; have k0 : w4.cell? ⟨ga, 0, none⟩ = some (.int .i64 3) := (blk_cell BKa 0).trans rfl; have k1 : w4.cell? ⟨ga, 1, none⟩ = some (.int .i64 c) := (blk_cell BKa 1).trans rfl; clear hb hr)
    | (go_at_call 18; refine (known_calls3 _ _).mono ?_; rintro e w5 ⟨rfl, hb⟩; clear k0 k1; replace BKp := blk_below BKp hb; replace BKq := blk_below BKq hb; replace BKr := blk_below BKr hb; replace HB := below_step HB hb; clear hb BKa NEap)
    | ((with_reducible refine gate_dst (N := 7) rfl ?_); refine box_event rfl (N := 7) rfl (cs := #[.bool false, .nilFunc, .nilFunc, .nilFunc]) (t := 57) (by first | (go_simp; done) | (go_simp; rfl)) ?_; intro gk hk w6 BKk hb; have NEpk := ne_new BKp hk; have NEqk := ne_new BKq hk; have NErk := ne_new BKr hk; replace BKp := blk_below BKp hb; replace BKq := blk_below BKq hb; replace BKr := blk_below BKr hb; have GEk := ge_new HB hk; replace HB := below_step HB hb; clear hb hk)
    | ((with_reducible refine gate_store (t := 57) (p := 7) rfl ?_); refine store_event rfl 57 (.tmp 7) (.tmp 13) rfl #[(.bool false), (.func (.func 33) #[] #[]), (.func (.func 38) #[] #[]), (.func (.func 37) #[] #[])] rfl BKk rfl i57 rfl rfl ?_; intro w7 BKk' hg; replace BKp := blk_grown BKp hg (by simpa using NEpk); replace BKq := blk_grown BKq hg (by simpa using NEqk); replace BKr := blk_grown BKr hg (by simpa using NErk); replace HB := HB.grown hg HB.size (fun k e => by cases e; exact GEk); clear hg BKk))
  have p0 : w7.cell? ⟨gp, 0, none⟩ = some (.int .u64 n1) := (blk_cell BKp 0).trans rfl
  have p1 : w7.cell? ⟨gp, 1, none⟩ = some (.int .i64 v1) := (blk_cell BKp 1).trans rfl
  have p2 : w7.cell? ⟨gp, 2, none⟩ = some (.slice A1 l1.length c1) := (blk_cell BKp 2).trans rfl
  have q0 : w7.cell? ⟨gq, 0, none⟩ = some (.int .u64 0) := (blk_cell BKq 0).trans rfl
  have q1 : w7.cell? ⟨gq, 1, none⟩ = some (.int .i64 v2) := (blk_cell BKq 1).trans rfl
  have q2 : w7.cell? ⟨gq, 2, none⟩ = some (.slice A2 l2.length c2) := (blk_cell BKq 2).trans rfl
  have k2 : w7.cell? ⟨gk, 2, none⟩ = some (.func (.func 38) #[] #[]) := (blk_cell BKk' 2).trans rfl
  have fp := fun i => blk_frozen BKp i
  go_cut [] (fun wc => MidAt w gp gr n1 v1 l1 wc)
  case first =>
    go_wp2_with (fail)
    go_meet
    case rel => exact ⟨A1, c1, BKp, Kd.C_below HR1.out HB, BKr, HB⟩
  case rest =>
    obtain ⟨A, cc, BKp, HC, BKr, HB⟩ := hcut
    have hbase : w.heap.size ≤ wc.heap.size := HB.size
    have HCa := Aside0.mk HC
    clear HC p0 p1 p2 q0 q1 q2 k2 fp
    have p2 : wc.cell? ⟨gp, 2, none⟩ = some (.slice A l1.length cc) := (blk_cell BKp 2).trans rfl
    go_wp2_with (first
      | (go_at_call 20; refine (clone_any A _ cc l1 wc rfl HCa.out (by omega)).mono ?_; rintro e w8 ⟨v, rfl, hv, hb⟩)
      | (go_at_call 21; refine (sort_calls wc.heap.size v l1 _ hv (by omega)).mono ?_; rintro e w9 ⟨rfl, hs, hg⟩))
    have NE1 := ne_own (Kd.R_base hv) (blk_lt BKp)
    have NE2 := ne_own (Kd.R_base hv) (blk_lt BKr)
    replace BKp := blk_grown (blk_below BKp hb) hg NE1
    replace BKr := blk_grown (blk_below BKr hb) hg NE2
    replace HB := (below_step HB hb).grown hg (below_step HB hb).size (fun k e => Nat.le_trans hbase (Kd.R_base hv k e))
    have hs' := Kd.R_drew hs
    have hp0 : w9.drew.cell? ⟨gp, 0, none⟩ = some (.int .u64 n1) := (blk_cell (blk_drew BKp) 0).trans rfl
    have hp1 : w9.drew.cell? ⟨gp, 1, none⟩ = some (.int .i64 v1) := (blk_cell (blk_drew BKp) 1).trans rfl
    clear p2 hb
    go_region_held3 (fun w' => w'.cell? ⟨gp, 0, none⟩ = some (.int .u64 n1) ∧ w'.cell? ⟨gp, 1, none⟩ = some (.int .i64 v1))
      (first | exact ⟨hp0, hp1⟩ | exact ⟨hg2.cell hp0 NE1, hg2.cell hp1 NE1⟩ | exact ⟨cell_apart (cell_apart (cell_apart (hg2.cell hp0 NE1) NEpr) NEpr) NEpr, cell_apart (cell_apart (cell_apart (hg2.cell hp1 NE1) NEpr) NEpr) NEpr⟩)
      (first | (go_at_call 22; refine (compact_calls wc.heap.size v (sortS l1) _ hs' (by rw [sortS_length]; exact (by omega))).mono ?_; rintro e w10 ⟨v', rfl, hc, hg2⟩; have BKr2 := blk_grown (blk_drew BKr) hg2 NE2; have r0 : w10.cell? ⟨gr, 0, none⟩ = some (.int .u64 0) := (blk_cell BKr2 0).trans rfl; have r1 : w10.cell? ⟨gr, 1, none⟩ = some (.int .i64 0) := (blk_cell BKr2 1).trans rfl; have r2 : w10.cell? ⟨gr, 2, none⟩ = some (.slice none 0 0) := (blk_cell BKr2 2).trans rfl; have fr := fun i => blk_frozen BKr2 i; obtain ⟨A4, c4, rfl, hl4, hC4⟩ := Kd.R_reads hc))
    go_wp2
    refine bodyPost_ret (v := .agg #[.int .u64 n1, .int .i64 v1, .slice A4 (compS (sortS l1)).length c4]) (results_cell_row Try.results10 _ _ gr 33 _ (0, 0) _ rfl (blk_put (blk_put (blk_put BKr2 0 _ rfl) 1 _ rfl) 2 _ rfl) Try.underlying33 rfl i33) rfl ⟨_, rfl, ?_, ?_⟩
    · exact Kd.R_mono (Kd.R_lower (Kd.R_far (p := ⟨gr, 2, none⟩) (Kd.R_far (p := ⟨gr, 1, none⟩) (Kd.R_far (p := ⟨gr, 0, none⟩) (Kd.R_types hc BKr2 (by decide)) (fun _ hk => hk.2) _) (fun _ hk => hk.2) _) (fun _ hk => hk.2) _) hbase) (fun _ _ => trivial)
    · exact (((HB.drew.grown hg2 HB.size (fun k e => Nat.le_trans hbase (Kd.R_base hv k e))).setCell GEr _).setCell GEr _).setCell GEr _
set_option maxRecDepth 100000 in
set_option maxHeartbeats 1000000 in
theorem merge3_zn (c v1 n2 v2 : Int) (A1 A2 : Option Addr) (c1 c2 : Nat) (l1 l2 : List ByteArray) (w : World) (hr2 : Kd.C Kd.string w A2 l2.length l2) (_hbig : l1.length + l2.length ≤ 1000000) (_hn2 : (n2 == 0) = false) :
    Calls Try.prog 10 #[.agg #[.int .i64 3, .int .i64 c], .agg #[.int .u64 0, .int .i64 v1, .slice A1 l1.length c1], .agg #[.int .u64 n2, .int .i64 v2, .slice A2 l2.length c2]] w fun e w' => ∃ v, e = .returned (.agg #[.int .u64 n2, .int .i64 v2, v]) ∧ Kd.R Kd.string 9 w' w.heap.size (fun _ => True) v (compS (sortS l2)) ∧ Below w.heap.size w w' := by
  have HR2 := Aside0.mk hr2
  clear hr2
  go_enter Try.func10, Try.ntmps10
  go_upto_block 0 with (first
    | ((with_reducible refine gate_dst (N := 3) rfl ?_); refine box_event rfl (N := 3) rfl (cs := #[.int .i64 3, .int .i64 c]) (t := 23) (by first | (go_simp; done) | (go_simp; rfl)) ?_; intro ga ha w1 BKa HB; clear ha)
    | ((with_reducible refine gate_dst (N := 4) rfl ?_); refine box_event rfl (N := 4) rfl (cs := #[.int .u64 0, .int .i64 v1, .slice A1 l1.length c1]) (t := 33) (by first | (go_simp; done) | (go_simp; rfl)) ?_; intro gp hp w2 BKp hb; have NEap := ne_new BKa hp; have GEp := ge_new HB hp; replace BKa := blk_below BKa hb; replace HB := below_step HB hb; clear hb hp)
    | ((with_reducible refine gate_dst (N := 5) rfl ?_); refine box_event rfl (N := 5) rfl (cs := #[.int .u64 n2, .int .i64 v2, .slice A2 l2.length c2]) (t := 33) (by first | (go_simp; done) | (go_simp; rfl)) ?_; intro gq hq w3 BKq hb; have NEpq := ne_new BKp hq; replace BKa := blk_below BKa hb; replace BKp := blk_below BKp hb; replace HB := below_step HB hb; clear hb hq)
    | ((with_reducible refine gate_dst (N := 6) rfl ?_); refine box_event rfl (N := 6) rfl (cs := #[.int .u64 0, .int .i64 0, .slice none 0 0]) (t := 33) (by first | (go_simp; done) | (go_simp; rfl)) ?_; intro gr hr w4 BKr hb; have NEpr := ne_new BKp hr; have NEqr := ne_new BKq hr; have GEr := ge_new HB hr; replace BKa := blk_below BKa hb; replace BKp := blk_below BKp hb; replace BKq := blk_below BKq hb; replace HB := below_step HB hb; have k0 : w4.cell? ⟨ga, 0, none⟩ = some (.int .i64 3) := (blk_cell BKa 0).trans rfl; have k1 : w4.cell? ⟨ga, 1, none⟩ = some (.int .i64 c) := (blk_cell BKa 1).trans rfl; clear hb hr)
    | (go_at_call 18; refine (known_calls3 _ _).mono ?_; rintro e w5 ⟨rfl, hb⟩; clear k0 k1; replace BKp := blk_below BKp hb; replace BKq := blk_below BKq hb; replace BKr := blk_below BKr hb; replace HB := below_step HB hb; clear hb BKa NEap)
    | ((with_reducible refine gate_dst (N := 7) rfl ?_); refine box_event rfl (N := 7) rfl (cs := #[.bool false, .nilFunc, .nilFunc, .nilFunc]) (t := 57) (by first | (go_simp; done) | (go_simp; rfl)) ?_; intro gk hk w6 BKk hb; have NEpk := ne_new BKp hk; have NEqk := ne_new BKq hk; have NErk := ne_new BKr hk; replace BKp := blk_below BKp hb; replace BKq := blk_below BKq hb; replace BKr := blk_below BKr hb; have GEk := ge_new HB hk; replace HB := below_step HB hb; clear hb hk)
    | ((with_reducible refine gate_store (t := 57) (p := 7) rfl ?_); refine store_event rfl 57 (.tmp 7) (.tmp 13) rfl #[(.bool false), (.func (.func 33) #[] #[]), (.func (.func 38) #[] #[]), (.func (.func 37) #[] #[])] rfl BKk rfl i57 rfl rfl ?_; intro w7 BKk' hg; replace BKp := blk_grown BKp hg (by simpa using NEpk); replace BKq := blk_grown BKq hg (by simpa using NEqk); replace BKr := blk_grown BKr hg (by simpa using NErk); replace HB := HB.grown hg HB.size (fun k e => by cases e; exact GEk); clear hg BKk))
  have p0 : w7.cell? ⟨gp, 0, none⟩ = some (.int .u64 0) := (blk_cell BKp 0).trans rfl
  have p1 : w7.cell? ⟨gp, 1, none⟩ = some (.int .i64 v1) := (blk_cell BKp 1).trans rfl
  have p2 : w7.cell? ⟨gp, 2, none⟩ = some (.slice A1 l1.length c1) := (blk_cell BKp 2).trans rfl
  have q0 : w7.cell? ⟨gq, 0, none⟩ = some (.int .u64 n2) := (blk_cell BKq 0).trans rfl
  have q1 : w7.cell? ⟨gq, 1, none⟩ = some (.int .i64 v2) := (blk_cell BKq 1).trans rfl
  have q2 : w7.cell? ⟨gq, 2, none⟩ = some (.slice A2 l2.length c2) := (blk_cell BKq 2).trans rfl
  have k2 : w7.cell? ⟨gk, 2, none⟩ = some (.func (.func 38) #[] #[]) := (blk_cell BKk' 2).trans rfl
  have fp := fun i => blk_frozen BKp i
  go_cut [] (fun wc => MidAt w gp gr n2 v2 l2 wc)
  case first =>
    go_wp2_with (fail)
    go_meet
    case rel => exact ⟨A2, c2, blk_put (blk_put (blk_put BKp 0 _ rfl) 1 _ rfl) 2 _ rfl, Kd.C_below HR2.out (((HB.setCell GEp _).setCell GEp _).setCell GEp _), blk_far (blk_far (blk_far BKr (Ne.symm NEpr) _) (Ne.symm NEpr) _) (Ne.symm NEpr) _, ((HB.setCell GEp _).setCell GEp _).setCell GEp _⟩
  case rest =>
    obtain ⟨A, cc, BKp, HC, BKr, HB⟩ := hcut
    have hbase : w.heap.size ≤ wc.heap.size := HB.size
    have HCa := Aside0.mk HC
    clear HC p0 p1 p2 q0 q1 q2 k2 fp
    have p2 : wc.cell? ⟨gp, 2, none⟩ = some (.slice A l2.length cc) := (blk_cell BKp 2).trans rfl
    go_wp2_with (first
      | (go_at_call 20; refine (clone_any A _ cc l2 wc rfl HCa.out (by omega)).mono ?_; rintro e w8 ⟨v, rfl, hv, hb⟩)
      | (go_at_call 21; refine (sort_calls wc.heap.size v l2 _ hv (by omega)).mono ?_; rintro e w9 ⟨rfl, hs, hg⟩))
    have NE1 := ne_own (Kd.R_base hv) (blk_lt BKp)
    have NE2 := ne_own (Kd.R_base hv) (blk_lt BKr)
    replace BKp := blk_grown (blk_below BKp hb) hg NE1
    replace BKr := blk_grown (blk_below BKr hb) hg NE2
    replace HB := (below_step HB hb).grown hg (below_step HB hb).size (fun k e => Nat.le_trans hbase (Kd.R_base hv k e))
    have hs' := Kd.R_drew hs
    have hp0 : w9.drew.cell? ⟨gp, 0, none⟩ = some (.int .u64 n2) := (blk_cell (blk_drew BKp) 0).trans rfl
    have hp1 : w9.drew.cell? ⟨gp, 1, none⟩ = some (.int .i64 v2) := (blk_cell (blk_drew BKp) 1).trans rfl
    clear p2 hb
    go_region_held3 (fun w' => w'.cell? ⟨gp, 0, none⟩ = some (.int .u64 n2) ∧ w'.cell? ⟨gp, 1, none⟩ = some (.int .i64 v2))
      (first | exact ⟨hp0, hp1⟩ | exact ⟨hg2.cell hp0 NE1, hg2.cell hp1 NE1⟩ | exact ⟨cell_apart (cell_apart (cell_apart (hg2.cell hp0 NE1) NEpr) NEpr) NEpr, cell_apart (cell_apart (cell_apart (hg2.cell hp1 NE1) NEpr) NEpr) NEpr⟩)
      (first | (go_at_call 22; refine (compact_calls wc.heap.size v (sortS l2) _ hs' (by rw [sortS_length]; exact (by omega))).mono ?_; rintro e w10 ⟨v', rfl, hc, hg2⟩; have BKr2 := blk_grown (blk_drew BKr) hg2 NE2; have r0 : w10.cell? ⟨gr, 0, none⟩ = some (.int .u64 0) := (blk_cell BKr2 0).trans rfl; have r1 : w10.cell? ⟨gr, 1, none⟩ = some (.int .i64 0) := (blk_cell BKr2 1).trans rfl; have r2 : w10.cell? ⟨gr, 2, none⟩ = some (.slice none 0 0) := (blk_cell BKr2 2).trans rfl; have fr := fun i => blk_frozen BKr2 i; obtain ⟨A4, c4, rfl, hl4, hC4⟩ := Kd.R_reads hc))
    go_wp2
    refine bodyPost_ret (v := .agg #[.int .u64 n2, .int .i64 v2, .slice A4 (compS (sortS l2)).length c4]) (results_cell_row Try.results10 _ _ gr 33 _ (0, 0) _ rfl (blk_put (blk_put (blk_put BKr2 0 _ rfl) 1 _ rfl) 2 _ rfl) Try.underlying33 rfl i33) rfl ⟨_, rfl, ?_, ?_⟩
    · exact Kd.R_mono (Kd.R_lower (Kd.R_far (p := ⟨gr, 2, none⟩) (Kd.R_far (p := ⟨gr, 1, none⟩) (Kd.R_far (p := ⟨gr, 0, none⟩) (Kd.R_types hc BKr2 (by decide)) (fun _ hk => hk.2) _) (fun _ hk => hk.2) _) (fun _ hk => hk.2) _) hbase) (fun _ _ => trivial)
    · exact (((HB.drew.grown hg2 HB.size (fun k e => Nat.le_trans hbase (Kd.R_base hv k e))).setCell GEr _).setCell GEr _).setCell GEr _
set_option maxRecDepth 100000 in
set_option maxHeartbeats 1000000 in
theorem merge3_zz (c v1 v2 : Int) (A1 A2 : Option Addr) (c1 c2 : Nat) (l1 l2 : List ByteArray) (w : World) (_hbig : l1.length + l2.length ≤ 1000000)  :
    Calls Try.prog 10 #[.agg #[.int .i64 3, .int .i64 c], .agg #[.int .u64 0, .int .i64 v1, .slice A1 l1.length c1], .agg #[.int .u64 0, .int .i64 v2, .slice A2 l2.length c2]] w fun e w' => ∃ v, e = .returned (.agg #[.int .u64 0, .int .i64 0, v]) ∧ Kd.R Kd.string 9 w' w.heap.size (fun _ => True) v (([] : List ByteArray)) ∧ Below w.heap.size w w' := by
  go_enter Try.func10, Try.ntmps10
  go_upto_block 0 with (first
    | ((with_reducible refine gate_dst (N := 3) rfl ?_); refine box_event rfl (N := 3) rfl (cs := #[.int .i64 3, .int .i64 c]) (t := 23) (by first | (go_simp; done) | (go_simp; rfl)) ?_; intro ga ha w1 BKa HB; clear ha)
    | ((with_reducible refine gate_dst (N := 4) rfl ?_); refine box_event rfl (N := 4) rfl (cs := #[.int .u64 0, .int .i64 v1, .slice A1 l1.length c1]) (t := 33) (by first | (go_simp; done) | (go_simp; rfl)) ?_; intro gp hp w2 BKp hb; have NEap := ne_new BKa hp; have GEp := ge_new HB hp; replace BKa := blk_below BKa hb; replace HB := below_step HB hb; clear hb hp)
    | ((with_reducible refine gate_dst (N := 5) rfl ?_); refine box_event rfl (N := 5) rfl (cs := #[.int .u64 0, .int .i64 v2, .slice A2 l2.length c2]) (t := 33) (by first | (go_simp; done) | (go_simp; rfl)) ?_; intro gq hq w3 BKq hb; have NEpq := ne_new BKp hq; replace BKa := blk_below BKa hb; replace BKp := blk_below BKp hb; replace HB := below_step HB hb; clear hb hq)
    | ((with_reducible refine gate_dst (N := 6) rfl ?_); refine box_event rfl (N := 6) rfl (cs := #[.int .u64 0, .int .i64 0, .slice none 0 0]) (t := 33) (by first | (go_simp; done) | (go_simp; rfl)) ?_; intro gr hr w4 BKr hb; have NEpr := ne_new BKp hr; have NEqr := ne_new BKq hr; have GEr := ge_new HB hr; replace BKa := blk_below BKa hb; replace BKp := blk_below BKp hb; replace BKq := blk_below BKq hb; replace HB := below_step HB hb; have k0 : w4.cell? ⟨ga, 0, none⟩ = some (.int .i64 3) := (blk_cell BKa 0).trans rfl; have k1 : w4.cell? ⟨ga, 1, none⟩ = some (.int .i64 c) := (blk_cell BKa 1).trans rfl; clear hb hr)
    | (go_at_call 18; refine (known_calls3 _ _).mono ?_; rintro e w5 ⟨rfl, hb⟩; clear k0 k1; replace BKp := blk_below BKp hb; replace BKq := blk_below BKq hb; replace BKr := blk_below BKr hb; replace HB := below_step HB hb; clear hb BKa NEap)
    | ((with_reducible refine gate_dst (N := 7) rfl ?_); refine box_event rfl (N := 7) rfl (cs := #[.bool false, .nilFunc, .nilFunc, .nilFunc]) (t := 57) (by first | (go_simp; done) | (go_simp; rfl)) ?_; intro gk hk w6 BKk hb; have NEpk := ne_new BKp hk; have NEqk := ne_new BKq hk; have NErk := ne_new BKr hk; replace BKp := blk_below BKp hb; replace BKq := blk_below BKq hb; replace BKr := blk_below BKr hb; have GEk := ge_new HB hk; replace HB := below_step HB hb; clear hb hk)
    | ((with_reducible refine gate_store (t := 57) (p := 7) rfl ?_); refine store_event rfl 57 (.tmp 7) (.tmp 13) rfl #[(.bool false), (.func (.func 33) #[] #[]), (.func (.func 38) #[] #[]), (.func (.func 37) #[] #[])] rfl BKk rfl i57 rfl rfl ?_; intro w7 BKk' hg; replace BKp := blk_grown BKp hg (by simpa using NEpk); replace BKq := blk_grown BKq hg (by simpa using NEqk); replace BKr := blk_grown BKr hg (by simpa using NErk); replace HB := HB.grown hg HB.size (fun k e => by cases e; exact GEk); clear hg BKk))
  have p0 : w7.cell? ⟨gp, 0, none⟩ = some (.int .u64 0) := (blk_cell BKp 0).trans rfl
  have p1 : w7.cell? ⟨gp, 1, none⟩ = some (.int .i64 v1) := (blk_cell BKp 1).trans rfl
  have p2 : w7.cell? ⟨gp, 2, none⟩ = some (.slice A1 l1.length c1) := (blk_cell BKp 2).trans rfl
  have q0 : w7.cell? ⟨gq, 0, none⟩ = some (.int .u64 0) := (blk_cell BKq 0).trans rfl
  have q1 : w7.cell? ⟨gq, 1, none⟩ = some (.int .i64 v2) := (blk_cell BKq 1).trans rfl
  have q2 : w7.cell? ⟨gq, 2, none⟩ = some (.slice A2 l2.length c2) := (blk_cell BKq 2).trans rfl
  have k2 : w7.cell? ⟨gk, 2, none⟩ = some (.func (.func 38) #[] #[]) := (blk_cell BKk' 2).trans rfl
  have fp := fun i => blk_frozen BKp i
  have r0 : w7.cell? ⟨gr, 0, none⟩ = some (.int .u64 0) := (blk_cell BKr 0).trans rfl
  have r1 : w7.cell? ⟨gr, 1, none⟩ = some (.int .i64 0) := (blk_cell BKr 1).trans rfl
  have r2 : w7.cell? ⟨gr, 2, none⟩ = some (.slice none 0 0) := (blk_cell BKr 2).trans rfl
  have fr := fun i => blk_frozen BKr i
  go_wp2
  refine bodyPost_ret (v := .agg #[.int .u64 0, .int .i64 0, .slice none 0 0]) (results_cell_row Try.results10 _ _ gr 33 _ (0, 0) _ rfl (blk_put (blk_put (blk_put BKr 0 _ rfl) 1 _ rfl) 2 _ rfl) Try.underlying33 rfl i33) rfl ⟨_, rfl, ?_, ?_⟩
  · exact string_nil _ _
  · exact ((HB.setCell GEr _).setCell GEr _).setCell GEr _
end Go.Proofs.Ytkjjdpnpcjfgeaa
