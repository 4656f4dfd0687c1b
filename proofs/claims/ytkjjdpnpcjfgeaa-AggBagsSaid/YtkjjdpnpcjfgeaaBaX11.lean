/- Pruned for this claim by a program. -/
import Derived.Test.YtkjjdpnpcjfgeaaBaX0
import Derived.Test.YtkjjdpnpcjfgeaaBaShort
import Derived.Test.YtkjjdpnpcjfgeaaBaHand1
import Derived.Test.YtkjjdpnpcjfgeaaBaX10
namespace Go.Proofs.Ytkjjdpnpcjfgeaa.QAgg
open Go.RowKit Go.Proofs.YtkjjdpnpcjfgeaaW.PrintWords Go.Proofs.YtkjjdpnpcjfgeaaW.PrintLast Go.Proofs.YtkjjdpnpcjfgeaaW.PrintMore Go.Proofs.Ytkjjdpnpcjfgeaa.Short
attribute [local go_sem] max2_int min2_int max_two min_two max_three min_three max_four min_four   -- for this text's walks alone
set_option linter.unusedVariables false
set_option linter.unusedSimpArgs false

mutual
def gristmillref04_Own.l0 : Nat → List (S39) → List (S39) → Int → Option ((List (S39)))
 | 0, _, _, _ => none
 | k + 1, x0, x3, x4 => if x4 < (x0.length : Int) then (if 0 ≤ x4 then ((gristmillref04_Put.f k x3 ((rd_T39 x0 x4).f0.f0) ((rd_T39 x0 x4).f0.f1) ((rd_T39 x0 x4).f0.f2) ((rd_T39 x0 x4).f1)).bind fun t386 => (gristmillref04_Own.l0 k x0 t386 (wrap64 (x4 + 1)))) else (none)) else (gristmillref04_Own.l1 k x3 ([] : List (S39)) 0)
def gristmillref04_Own.l1 : Nat → List (S39) → List (S39) → Int → Option ((List (S39)))
 | 0, _, _, _ => none
 | k + 1, x3, x5, x6 => if x6 < (x3.length : Int) then (if 0 ≤ x6 then (if ((rd_T39 x3 x6).f1) = 0 then (gristmillref04_Own.l1 k x3 x5 (wrap64 (x6 + 1))) else (if x5.length < 2199023255552 then (gristmillref04_Own.l1 k x3 (x5 ++ [(⟨(⟨(rd_T39 x3 x6).f0.f0, (rd_T39 x3 x6).f0.f1, (rd_T39 x3 x6).f0.f2⟩ : S37), (rd_T39 x3 x6).f1⟩ : S39)]) (wrap64 (x6 + 1))) else (none))) else (none)) else (some x5)
end
def gristmillref04_Own.f (k : Nat) (l0 : List (S39)) : Option ((List (S39))) := gristmillref04_Own.l0 k l0 ([] : List (S39)) 0
def gristmillref04_Own.T5 : Bool × List (List Nat × List Nat) := (true, [([], []), ([], []), ([], []), ([1, 2], [1, 2]), ([3], [3]), ([4], [4]), ([], []), ([], []), ([6, 7], [6, 7]), ([8], [8]), ([9], [9]), ([0, 5, 10], [0, 5, 10]), ([11, 11, 0, 1, 2, 3, 4, 5, 6, 7, 8, 9, 10, 11], [0, 11])])
def gristmillref04_Own.B5 : List Nat := [0, 0, 0, 6, 14, 30, 0, 0, 192, 448, 960, 2047, 4095]
theorem gristmillref04_Own.tab5 : rtab .any (opsOf Try.f14 5) = gristmillref04_Own.T5 := by kernel_rfl
theorem gristmillref04_Own.bits5 : waitsOk gristmillref04_Own.T5.2 gristmillref04_Own.B5 = true := by kernel_rfl
set_option maxHeartbeats 8000000 in
set_option maxRecDepth 100000 in
theorem gristmillref04_Own.calls (k : Nat) (P0_ : Nat → Prop) (A0 : Option Addr) (c0 : Nat) (l0 : List (S39)) (r : List (S39)) (w : World) (hs0 : Kd.V k39 39 w w.heap.size (fun k_ => P0_ k_) (.slice A0 l0.length c0) l0) (h : gristmillref04_Own.f k l0 = some r) :
  Calls Try.prog 14 #[.slice A0 l0.length c0] w fun e w' => ∃ v0_ : Value, e = .returned (v0_) ∧ Kd.N k39 39 w' w.heap.size (fun k_ => (P0_ k_ ∨ w.heap.size ≤ k_)) v0_ r ∧ Below w.heap.size w w' := by
 have hu37 := Try.underlying37
 have hu39 := Try.underlying39
 have HO0 := aMk (show Kd.V k39 39 w w.heap.size (fun k_ => (P0_ k_ ∨ w.heap.size ≤ k_)) (.slice A0 l0.length c0) l0 from Kd.V_mono hs0 (fun k_ hk => .inl hk))
 have HB := aMk (Below.refl w.heap.size w)
 have H : (gristmillref04_Own.l0 k l0 ([] : List (S39)) 0) = some r := h
 clear h
 have H' := aMk H
 clear H
 go_enter Try.func14, Try.ntmps14
 go_wp2
 go_loopg [3, 4] k (fun kq v3 v4 w' => ∃ (x3_1 : List (S39)) (x4_1 : Int), v4 = .int .i64 x4_1 ∧ Aside0 (gristmillref04_Own.l0 kq l0 x3_1 x4_1 = some r) ∧ Aside0 (kq ≤ k) ∧ Aside0 (Kd.V k39 39 w' w.heap.size (fun k_ => (P0_ k_ ∨ w.heap.size ≤ k_) ∧ some k_ ≠ (v3 : Value).ownBlock) (.slice A0 l0.length c0) l0) ∧ Aside0 (Kd.N k39 39 w' w.heap.size (fun k_ => (P0_ k_ ∨ w.heap.size ≤ k_)) v3 x3_1) ∧ Aside0 (Below w.heap.size w w'))
 case atStart => exact ⟨(([] : List (S39))), (0), (by first | rfl | (simp; done) | (simp [*]; done)), H', ⟨Nat.le_refl _⟩, ⟨by (with_reducible repeat (first | apply Kd.V_alloc | apply Kd.V_drewN | apply Kd.V_drew)); exact Kd.V_mono HO0.out (fun _ hk => ⟨hk, (by simp [Value.ownBlock])⟩)⟩, ⟨by first | exact Kd.S_nil _ _ _ _ _ | exact Kd.N_nil _ _ _ _ _ | exact Kd.V_nil _ _ _ _ _ | exact Kd.Q_nil _ _ _ _ _ | exact Kd.R_nil _ _ _ _ _⟩, ⟨by repeat (first | (with_reducible first | exact HB.out | apply eA | apply eN | apply eD) | exact HB.out)⟩⟩
 case round =>
  clear H'
  try clear c1
  obtain ⟨x3_1, x4_1, rfl, HA, HK1, HO_0, HO_3, HB⟩ := hrel
  cases gk with
  | zero => exact absurd HA.out (by simp [gristmillref04_Own.l0])
  | succ k1 =>
   have H := HA.out
   clear HA
   simp only [gristmillref04_Own.l0] at H
   by_cases c2 : x4_1 < (l0.length : Int)
   ·rw [if_pos c2] at H
    have c2b0 : decide (x4_1 < (l0.length : Int)) = true := decide_eq_true c2
    clear c2
    by_cases c3 : 0 ≤ x4_1
    ·rw [if_pos c3] at H
     have c3b0 : decide (0 ≤ x4_1) = true := decide_eq_true c3
     clear c3
     replace H := Option.bind_eq_some_iff.mp H
     obtain ⟨t386, A40, H⟩ := H
     replace H : (gristmillref04_Own.l0 k1 l0 t386 (wrap64 (x4_1 + 1))) = some r := H
     have A4 := aMk A40
     clear A40
     have H' := aMk H
     clear H
     try go_wp2
     replace HO_0 := aMk (Kd.V_drew HO_0.out)
     replace HO_3 := aMk (Kd.N_drew HO_3.out)
     replace HB := aMk (eD HB.out)
     have p384 : 0 ≤ (x4_1 : Int) := of_decide_eq_true (by first | (with_reducible assumption) | assumption)
     have q384 : x4_1 < (l0.length : Int) := of_decide_eq_true (by first | (with_reducible assumption) | assumption)
     obtain ⟨ad384, A384_1, c384_1, A384_2, c384_2, e384, hx384_0, hx384_1, hx384_2, hx384_3, hl384_1, hi384_1, hl384_2, hi384_2⟩ := at_T39 (Kd.V_reads' HO_0.out).2.2 x4_1 p384 q384
     cases e384
     obtain ⟨ce384, hce384, hMe384, hcc384⟩ := Kd.V_get HO_0.out z39 x4_1 p384 (by first | exact q384 | exact of_decide_eq_true (by first | (with_reducible assumption) | assumption) | (have e_ := (Kd.V_reads' HO_0.out).1; omega))
     obtain ⟨ua384_1, uc384_1, ua384_2, uc384_2, rfl, ul384_1, ge384_1, ul384_2, ge384_2⟩ := k39_openF hMe384
     have hv384_1 := hcc384 1 _ rfl
     rw [add_field _ _ 1 (by omega)] at hv384_1
     replace hv384_1 := Option.some.inj (hv384_1.symm.trans hx384_1)
     injection hv384_1 with hva_ hvn_ hvc_
     rw [hva_] at ge384_1
     rw [hvc_] at ul384_1
     have HL384_1 := aMk (show Kd.V Kd.string 9 _ w.heap.size _ _ ((rd_T39 l0 x4_1).f0.f1) from Kd.V_mk ul384_1 ge384_1)
     clear hva_ hvn_ hvc_ ge384_1 ul384_1
     have hv384_2 := hcc384 2 _ rfl
     rw [add_field _ _ 2 (by omega)] at hv384_2
     replace hv384_2 := Option.some.inj (hv384_2.symm.trans hx384_2)
     injection hv384_2 with hva_ hvn_ hvc_
     rw [hva_] at ge384_2
     rw [hvc_] at ul384_2
     have HL384_2 := aMk (show Kd.V (Kd.int .i64) 2 _ w.heap.size _ _ ((rd_T39 l0 x4_1).f0.f2) from Kd.V_mk ul384_2 ge384_2)
     clear hva_ hvn_ hvc_ ge384_2 ul384_2
     clear hcc384 hce384
     have HR384_1 := aMk hi384_1
     have HC384_1 := aMk hl384_1
     clear hi384_1 hl384_1
     have HR384_2 := aMk hi384_2
     have HC384_2 := aMk hl384_2
     clear hi384_2 hl384_2
     replace p384 := eq_true p384
     replace q384 := eq_true q384
     have p385 : 0 ≤ (x4_1 : Int) := of_decide_eq_true (by first | (with_reducible assumption) | assumption)
     have q385 : x4_1 < (l0.length : Int) := of_decide_eq_true (by first | (with_reducible assumption) | assumption)
     obtain ⟨ad385, A385_1, c385_1, A385_2, c385_2, e385, hx385_0, hx385_1, hx385_2, hx385_3, hl385_1, hi385_1, hl385_2, hi385_2⟩ := at_T39 (Kd.V_reads' HO_0.out).2.2 x4_1 p385 q385
     obtain rfl : ad384 = ad385 := (by injection e385)
     obtain ⟨ce385, hce385, hMe385, hcc385⟩ := Kd.V_get HO_0.out z39 x4_1 p385 (by first | exact q385 | exact of_decide_eq_true (by first | (with_reducible assumption) | assumption) | (have e_ := (Kd.V_reads' HO_0.out).1; omega))
     obtain ⟨ua385_1, uc385_1, ua385_2, uc385_2, rfl, ul385_1, ge385_1, ul385_2, ge385_2⟩ := k39_openF hMe385
     have hv385_1 := hcc385 1 _ rfl
     rw [add_field _ _ 1 (by omega)] at hv385_1
     replace hv385_1 := Option.some.inj (hv385_1.symm.trans hx385_1)
     injection hv385_1 with hva_ hvn_ hvc_
     rw [hva_] at ge385_1
     rw [hvc_] at ul385_1
     have HL385_1 := aMk (show Kd.V Kd.string 9 _ w.heap.size _ _ ((rd_T39 l0 x4_1).f0.f1) from Kd.V_mk ul385_1 ge385_1)
     clear hva_ hvn_ hvc_ ge385_1 ul385_1
     have hv385_2 := hcc385 2 _ rfl
     rw [add_field _ _ 2 (by omega)] at hv385_2
     replace hv385_2 := Option.some.inj (hv385_2.symm.trans hx385_2)
     injection hv385_2 with hva_ hvn_ hvc_
     rw [hva_] at ge385_2
     rw [hvc_] at ul385_2
     have HL385_2 := aMk (show Kd.V (Kd.int .i64) 2 _ w.heap.size _ _ ((rd_T39 l0 x4_1).f0.f2) from Kd.V_mk ul385_2 ge385_2)
     clear hva_ hvn_ hvc_ ge385_2 ul385_2
     clear hcc385 hce385
     have HR385_1 := aMk hi385_1
     have HC385_1 := aMk hl385_1
     clear hi385_1 hl385_1
     have HR385_2 := aMk hi385_2
     have HC385_2 := aMk hl385_2
     clear hi385_2 hl385_2
     replace p385 := eq_true p385
     replace q385 := eq_true q385
     have ea_ := Option.some.inj (hx384_1.symm.trans hx385_1)
     injection ea_ with ea_ en_ ec_
     subst ea_
     subst ec_
     clear en_
     have ea_ := Option.some.inj (hx384_2.symm.trans hx385_2)
     injection ea_ with ea_ en_ ec_
     subst ea_
     subst ec_
     clear en_
     obtain ⟨Ao6, co6, eo6⟩ := Kd.N_slice HO_3.out
     (first | subst eo6 | (injection eo6 with f1_ f2_ f3_; have f4_ := f1_.symm; have f5_ := f3_.symm; clear f1_ f2_ f3_; subst f4_; subst f5_))
     refine start_ (n := 13) (S := fun w' => w'.cell? (ad384.add ((x4_1).toNat * 4)) = some (.int .i64 ((rd_T39 l0 x4_1).f0.f0)) ∧ w'.cell? ⟨(ad384.add ((x4_1).toNat * 4)).block, (ad384.add ((x4_1).toNat * 4)).off + 1, none⟩ = some (.slice A384_1 ((rd_T39 l0 x4_1).f0.f1).length c384_1) ∧ w'.cell? ⟨(ad384.add ((x4_1).toNat * 4)).block, (ad384.add ((x4_1).toNat * 4)).off + 2, none⟩ = some (.slice A384_2 ((rd_T39 l0 x4_1).f0.f2).length c384_2) ∧ w'.cell? ⟨(ad384.add ((x4_1).toNat * 4)).block, (ad384.add ((x4_1).toNat * 4)).off + 3, none⟩ = some (.int .u64 ((rd_T39 l0 x4_1).f1)) ∧ w'.cell? (ad384.add ((x4_1).toNat * 4)) = some (.int .i64 ((rd_T39 l0 x4_1).f0.f0)) ∧ w'.cell? ⟨(ad384.add ((x4_1).toNat * 4)).block, (ad384.add ((x4_1).toNat * 4)).off + 1, none⟩ = some (.slice A384_1 ((rd_T39 l0 x4_1).f0.f1).length c384_1) ∧ w'.cell? ⟨(ad384.add ((x4_1).toNat * 4)).block, (ad384.add ((x4_1).toNat * 4)).off + 2, none⟩ = some (.slice A384_2 ((rd_T39 l0 x4_1).f0.f2).length c384_2) ∧ w'.cell? ⟨(ad384.add ((x4_1).toNat * 4)).block, (ad384.add ((x4_1).toNat * 4)).off + 3, none⟩ = some (.int .u64 ((rd_T39 l0 x4_1).f1))) (ds := []) #[false, false, false, false, false, false, false, false, false, false, false, false, false] (by kernel_rfl) rfl rfl ⟨hx384_0, hx384_1, hx384_2, hx384_3, hx385_0, hx385_1, hx385_2, hx385_3⟩ (fun hHeld => ?_); refine with_tabW gristmillref04_Own.tab5 gristmillref04_Own.bits5 (fun HT_ HW_ => ?_)
     generalize wr.drew = w5 at HO_0 HO_3 HB HL384_1 HL384_2 HL385_1 HL385_2 HR384_1 HR384_2 HR385_1 HR385_2 hx384_0 hx384_1 hx384_2 hx384_3 hx385_0 hx385_1 hx385_2 hx385_3 hHeld ⊢
     refine pure_ (i := 0) (N := some 13) (v := ?_) (a' := ?_) #[true, false, false, false, false, false, false, false, false, false, false, false, false] rfl rfl (any_of HT_.out (by kernel_rfl)) (fun _ _ _ h => h) (Or.inl ⟨by rfl, ?_⟩) ?_ ?_
     rotate_left
     ·intro w'
      go_simp
      with_reducible rfl
     rotate_left
     ·simp only [Act.put, sA, sB, sC, i64_w, i32_w]
      rfl
     refine pure_ (i := 1) (N := some 14) (v := ?_) (a' := ?_) #[true, true, false, false, false, false, false, false, false, false, false, false, false] rfl rfl (any_of HT_.out (by kernel_rfl)) (fun _ _ _ h => h) (Or.inl ⟨by rfl, ?_⟩) ?_ ?_
     rotate_left
     ·intro w'
      go_simp
      with_reducible rfl
     rotate_left
     ·simp only [Act.put, sA, sB, sC, i64_w, i32_w]
      rfl
     refine pure_ (i := 2) (N := some 15) (v := ?_) (a' := ?_) #[true, true, true, false, false, false, false, false, false, false, false, false, false] rfl rfl (any_of HT_.out (by kernel_rfl)) (fun _ _ _ h => h) (Or.inl ⟨by rfl, ?_⟩) ?_ ?_
     rotate_left
     ·intro w'
      go_simp
      with_reducible rfl
     rotate_left
     ·simp only [Act.put, sA, sB, sC, i64_w, i32_w]
      rfl
     refine pure_ (i := 3) (N := some 16) (v := ?_) (a' := ?_) #[true, true, true, true, false, false, false, false, false, false, false, false, false] rfl rfl (any_of HT_.out (by kernel_rfl)) (fun _ _ _ h => h) (Or.inl ⟨by rfl, ?_⟩) ?_ ?_
     rotate_left
     ·intro w'
      go_simp
      with_reducible rfl
     rotate_left
     ·simp only [Act.put, sA, sB, sC, i64_w, i32_w]
      rfl
     refine pure_ (i := 4) (N := some 17) (v := ?_) (a' := ?_) #[true, true, true, true, true, false, false, false, false, false, false, false, false] rfl rfl (any_of HT_.out (by kernel_rfl)) (fun _ _ _ h => h) (Or.inl ⟨by rfl, ?_⟩) ?_ ?_
     rotate_left
     ·intro w'
      go_simp
      with_reducible rfl
     rotate_left
     ·simp only [Act.put, sA, sB, sC, i64_w, i32_w]
      rfl
     refine pure_ (i := 6) (N := some 19) (v := ?_) (a' := ?_) #[true, true, true, true, true, false, true, false, false, false, false, false, false] rfl rfl (any_of HT_.out (by kernel_rfl)) (fun _ _ _ h => h) (Or.inl ⟨by rfl, ?_⟩) ?_ ?_
     rotate_left
     ·intro w'
      go_simp
      with_reducible rfl
     rotate_left
     ·simp only [Act.put, sA, sB, sC, i64_w, i32_w]
      rfl
     refine pure_ (i := 7) (N := some 20) (v := ?_) (a' := ?_) #[true, true, true, true, true, false, true, true, false, false, false, false, false] rfl rfl (any_of HT_.out (by kernel_rfl)) (fun _ _ _ h => h) (Or.inl ⟨by rfl, ?_⟩) ?_ ?_
     rotate_left
     ·intro w'
      go_simp
      with_reducible rfl
     rotate_left
     ·simp only [Act.put, sA, sB, sC, i64_w, i32_w]
      rfl
     refine pure_ (i := 8) (N := some 21) (v := ?_) (a' := ?_) #[true, true, true, true, true, false, true, true, true, false, false, false, false] rfl rfl (any_of HT_.out (by kernel_rfl)) (fun _ _ _ h => h) (Or.inl ⟨by rfl, ?_⟩) ?_ ?_
     rotate_left
     ·intro w'
      go_simp
      with_reducible rfl
     rotate_left
     ·simp only [Act.put, sA, sB, sC, i64_w, i32_w]
      rfl
     refine pure_ (i := 9) (N := some 22) (v := ?_) (a' := ?_) #[true, true, true, true, true, false, true, true, true, true, false, false, false] rfl rfl (any_of HT_.out (by kernel_rfl)) (fun _ _ _ h => h) (Or.inl ⟨by rfl, ?_⟩) ?_ ?_
     rotate_left
     ·intro w'
      go_simp
      with_reducible rfl
     rotate_left
     ·simp only [Act.put, sA, sB, sC, i64_w, i32_w]
      rfl
     refine take_ (i := 5) (N := some 18) (v := ?_) (a' := ?_) #[true, true, true, true, true, true, true, true, true, true, false, false, false] rfl rfl (take_ofW HT_.out HW_.out (by kernel_rfl)) (fun _ _ _ h => h) (Or.inl ⟨by rfl, ?_⟩) hHeld ?_ ?_
     rotate_left
     ·rintro w' ⟨s0, s1, s2, s3, s4, s5, s6, s7⟩
      go_simp
      with_reducible rfl
     rotate_left
     ·simp only [Act.put, sA, sB, sC, i64_w, i32_w]
      rfl
     refine take_ (i := 10) (N := some 23) (v := ?_) (a' := ?_) #[true, true, true, true, true, true, true, true, true, true, true, false, false] rfl rfl (take_ofW HT_.out HW_.out (by kernel_rfl)) (fun _ _ _ h => h) (Or.inl ⟨by rfl, ?_⟩) hHeld ?_ ?_
     rotate_left
     ·rintro w' ⟨s0, s1, s2, s3, s4, s5, s6, s7⟩
      go_simp
      with_reducible rfl
     rotate_left
     ·simp only [Act.put, sA, sB, sC, i64_w, i32_w]
      rfl
     refine one_ (i := 11) (N := some 24) #[true, true, true, true, true, true, true, true, true, true, true, true, false] rfl rfl (one_of HT_.out (by kernel_rfl)) (by decide) (fun K hK => ?_)
     refine goes_ Try.func24 (by kernel_rfl) rfl #[.slice Ao6 x3_1.length co6, .agg #[.int .i64 ((rd_T39 l0 x4_1).f0.f0), .slice A384_1 ((rd_T39 l0 x4_1).f0.f1).length c384_1, .slice A384_2 ((rd_T39 l0 x4_1).f0.f2).length c384_2], .int .u64 ((rd_T39 l0 x4_1).f1)] (by rfl) rfl rfl (by (try simp only [List.map_toArray, List.map_cons, List.map_nil]); first | done | rfl | (simp only [List.length_drop, List.length_take]; rfl)) ?_
     with_reducible refine (gristmillref04_Put.calls k1 (fun k_ => (P0_ k_ ∨ w.heap.size ≤ k_)) _ _ x3_1 ((rd_T39 l0 x4_1).f0.f0) (fun k_ => ((P0_ k_ ∨ w.heap.size ≤ k_) ∧ some k_ ≠ (.slice Ao6 x3_1.length co6 : Value).ownBlock)) _ _ ((rd_T39 l0 x4_1).f0.f1) (fun k_ => ((P0_ k_ ∨ w.heap.size ≤ k_) ∧ some k_ ≠ (.slice Ao6 x3_1.length co6 : Value).ownBlock)) _ _ ((rd_T39 l0 x4_1).f0.f2) ((rd_T39 l0 x4_1).f1) t386 _ ?side1 ?side2 ?side3 A4.out).mono ?_
     (case side1 => exact Kd.N_V (HO_3.out))
     (case side2 => exact HL384_1.out)
     (case side3 => exact HL384_2.out)
     rintro e w7 ⟨v387, rfl, ho0, hb⟩
     have HS0_ := (hb.cell (World.block_lt_of_cell? _ _ (hHeld.1))).trans (hHeld.1)
     have HS1_ := (hb.cell (World.block_lt_of_cell? _ _ (hHeld.2.1))).trans (hHeld.2.1)
     have HS2_ := (hb.cell (World.block_lt_of_cell? _ _ (hHeld.2.2.1))).trans (hHeld.2.2.1)
     have HS3_ := (hb.cell (World.block_lt_of_cell? _ _ (hHeld.2.2.2.1))).trans (hHeld.2.2.2.1)
     have HS4_ := (hb.cell (World.block_lt_of_cell? _ _ (hHeld.2.2.2.2.1))).trans (hHeld.2.2.2.2.1)
     have HS5_ := (hb.cell (World.block_lt_of_cell? _ _ (hHeld.2.2.2.2.2.1))).trans (hHeld.2.2.2.2.2.1)
     have HS6_ := (hb.cell (World.block_lt_of_cell? _ _ (hHeld.2.2.2.2.2.2.1))).trans (hHeld.2.2.2.2.2.2.1)
     have HS7_ := (hb.cell (World.block_lt_of_cell? _ _ (hHeld.2.2.2.2.2.2.2))).trans (hHeld.2.2.2.2.2.2.2)
     refine ⟨_, rfl, ?_⟩
     have HO388 := aMk (Kd.N_lower (Kd.N_mono (ok' := fun k_ => (P0_ k_ ∨ w.heap.size ≤ k_)) ho0 (fun k_ hk_ => Or.elim hk_ (fun hs_ => Or.elim hs_ (fun hs_ => hs_) (fun hs_ => Or.elim hs_ (fun hs_ => hs_.1) (fun hs_ => hs_.1))) (fun hn_ => (.inr (Nat.le_trans (below_size (by repeat (first | (with_reducible first | exact HB.out | apply eA | apply eN | apply eD) | exact HB.out))) hn_))))) (below_size (by repeat (first | (with_reducible first | exact HB.out | apply eA | apply eN | apply eD) | exact HB.out))))
     replace HO_0 := aMk (Kd.V_elder' (by (with_reducible repeat (first | apply Kd.V_alloc | apply Kd.V_drewN | apply Kd.V_drew)); exact HO_0.out) (Kd.N_base ho0) hb)
     replace HO_3 := aMk (Kd.N_elder' (by (with_reducible repeat (first | apply Kd.N_alloc | apply Kd.N_drewN | apply Kd.N_drew)); exact HO_3.out) (Kd.N_base ho0) hb)
     replace HL384_1 := aMk (Kd.V_elder' (by (with_reducible repeat (first | apply Kd.V_alloc | apply Kd.V_drewN | apply Kd.V_drew)); exact HL384_1.out) (Kd.N_base ho0) hb)
     replace HL384_2 := aMk (Kd.V_elder' (by (with_reducible repeat (first | apply Kd.V_alloc | apply Kd.V_drewN | apply Kd.V_drew)); exact HL384_2.out) (Kd.N_base ho0) hb)
     replace HL385_1 := aMk (Kd.V_elder' (by (with_reducible repeat (first | apply Kd.V_alloc | apply Kd.V_drewN | apply Kd.V_drew)); exact HL385_1.out) (Kd.N_base ho0) hb)
     replace HL385_2 := aMk (Kd.V_elder' (by (with_reducible repeat (first | apply Kd.V_alloc | apply Kd.V_drewN | apply Kd.V_drew)); exact HL385_2.out) (Kd.N_base ho0) hb)
     replace HR384_1 := aMk (Kd.C_below (by repeat (first | (with_reducible exact HR384_1.out) | (with_reducible refine cA ?_ _) | (with_reducible refine cN ?_ _) | (with_reducible refine cD ?_) | exact HR384_1.out)) hb)
     replace HR384_2 := aMk (Kd.C_below (by repeat (first | (with_reducible exact HR384_2.out) | (with_reducible refine cA ?_ _) | (with_reducible refine cN ?_ _) | (with_reducible refine cD ?_) | exact HR384_2.out)) hb)
     replace HR385_1 := aMk (Kd.C_below (by repeat (first | (with_reducible exact HR385_1.out) | (with_reducible refine cA ?_ _) | (with_reducible refine cN ?_ _) | (with_reducible refine cD ?_) | exact HR385_1.out)) hb)
     replace HR385_2 := aMk (Kd.C_below (by repeat (first | (with_reducible exact HR385_2.out) | (with_reducible refine cA ?_ _) | (with_reducible refine cN ?_ _) | (with_reducible refine cD ?_) | exact HR385_2.out)) hb)
     replace HB := aMk (below_step (by repeat (first | (with_reducible first | exact HB.out | apply eA | apply eN | apply eD) | exact HB.out)) hb)
     (try clear hb)
     (try clear ho0)
     refine hK.out _ _ ⟨HS0_, HS1_, HS2_, HS3_, HS4_, HS5_, HS6_, HS7_⟩ (fun hHeld => ?_)
     clear hK K
     refine norm_ (a' := ?_) ?_ ?_
     rotate_left
     ·show Act.put _ (some 24) _ = _
      simp only [Act.put, sA, sB, sC, i64_w, i32_w]
      rfl
     refine pure_ (i := 12) (N := some 3) (v := ?_) (a' := ?_) #[true, true, true, true, true, true, true, true, true, true, true, true, true] rfl rfl (any_of HT_.out (by kernel_rfl)) (fun _ _ _ h => h) (Or.inl ⟨by rfl, ?_⟩) ?_ ?_
     rotate_left
     ·intro w'
      go_simp
      with_reducible rfl
     rotate_left
     ·simp only [Act.put, sA, sB, sC, i64_w, i32_w]
      rfl
     refine done_ (done_of HT_.out (by kernel_rfl)) ?_
     try go_wp2
     go_roundg k1
     case measure => have := HK1.out; omega
     case rel => exact ⟨(t386), (wrap64 (x4_1 + 1)), (by first | rfl | (simp; done) | (simp [*]; done)), H', ⟨by have := HK1.out; omega⟩, ⟨by (with_reducible repeat (first | apply Kd.V_alloc | apply Kd.V_drewN | apply Kd.V_drew)); exact Kd.V_mono HO_0.out (fun _ hk => ⟨hk.1.1, hk.2⟩)⟩, ⟨by (with_reducible repeat (first | apply Kd.N_alloc | apply Kd.N_drewN | apply Kd.N_drew)); exact HO388.out⟩, ⟨by repeat (first | (with_reducible first | exact HB.out | apply eA | apply eN | apply eD) | exact HB.out)⟩⟩
    ·rw [if_neg c3] at H
     exact absurd H (by simp)
   ·rw [if_neg c2] at H
    have c2b0 : decide (x4_1 < (l0.length : Int)) = false := decide_eq_false c2
    clear c2
    have H' := aMk H
    clear H
    go_wp2
    go_loopg [5, 6] k1 (fun kq v5 v6 w' => ∃ (x5_2 : List (S39)) (x6_2 : Int), v6 = .int .i64 x6_2 ∧ Aside0 (gristmillref04_Own.l1 kq x3_1 x5_2 x6_2 = some r) ∧ Aside0 (kq ≤ k1) ∧ Aside0 (Kd.N k39 39 w' w.heap.size (fun k_ => (P0_ k_ ∨ w.heap.size ≤ k_) ∧ some k_ ≠ (v5 : Value).ownBlock) u3 x3_1) ∧ Aside0 (Kd.N k39 39 w' w.heap.size (fun k_ => (P0_ k_ ∨ w.heap.size ≤ k_) ∧ some k_ ≠ (u3 : Value).ownBlock) v5 x5_2) ∧ Aside0 (Below w.heap.size w w'))
    case atStart => exact ⟨(([] : List (S39))), (0), (by first | rfl | (simp; done) | (simp [*]; done)), H', ⟨Nat.le_refl _⟩, ⟨by (with_reducible repeat (first | apply Kd.N_alloc | apply Kd.N_drewN | apply Kd.N_drew)); exact Kd.N_mono HO_3.out (fun _ hk => ⟨hk, (by simp [Value.ownBlock])⟩)⟩, ⟨by first | exact Kd.S_nil _ _ _ _ _ | exact Kd.N_nil _ _ _ _ _ | exact Kd.V_nil _ _ _ _ _ | exact Kd.Q_nil _ _ _ _ _ | exact Kd.R_nil _ _ _ _ _⟩, ⟨by repeat (first | (with_reducible first | exact HB.out | apply eA | apply eN | apply eD) | exact HB.out)⟩⟩
    case round =>
     clear H'
     try clear c1
     try clear c2
     try clear c2b0
     try clear p2
     try clear c3
     try clear c3b0
     try clear p3
     try clear q3
     try clear hx3
     try clear p6
     try clear hx384_0
     try clear hx384_1
     try clear hx384_2
     try clear hx384_3
     try clear hx385_0
     try clear hx385_1
     try clear hx385_2
     try clear hx385_3
     try clear p384
     try clear p385
     try clear q384
     try clear q385
     obtain ⟨x5_2, x6_2, rfl, HA, HK2, HO_3, HO_5, HB⟩ := hrel
     cases gk with
     | zero => exact absurd HA.out (by simp [gristmillref04_Own.l1])
     | succ k2 =>
      have H := HA.out
      clear HA
      simp only [gristmillref04_Own.l1] at H
      by_cases c8 : x6_2 < (x3_1.length : Int)
      ·rw [if_pos c8] at H
       have c8b0 : decide (x6_2 < (x3_1.length : Int)) = true := decide_eq_true c8
       clear c8
       by_cases c9 : 0 ≤ x6_2
       ·rw [if_pos c9] at H
        have c9b0 : decide (0 ≤ x6_2) = true := decide_eq_true c9
        clear c9
        by_cases c10 : ((rd_T39 x3_1 x6_2).f1) = 0
        ·rw [if_pos c10] at H
         have c10b0 : (((rd_T39 x3_1 x6_2).f1) == 0) = true := beq_iff_eq.mpr c10
         have c10b1 : (((rd_T39 x3_1 x6_2).f1) != 0) = false := bne_eq_false_iff_eq.mpr c10
         clear c10
         have H' := aMk H
         clear H
         obtain ⟨Ao11, co11, eo11⟩ := Kd.N_slice HO_3.out
         subst eo11
         have p389 : 0 ≤ (x6_2 : Int) := of_decide_eq_true (by first | (with_reducible assumption) | assumption)
         have q389 : x6_2 < (x3_1.length : Int) := of_decide_eq_true (by first | (with_reducible assumption) | assumption)
         obtain ⟨ad389, A389_1, c389_1, A389_2, c389_2, e389, hx389_0, hx389_1, hx389_2, hx389_3, hl389_1, hi389_1, hl389_2, hi389_2⟩ := at_T39 (Kd.N_reads' HO_3.out).2.2 x6_2 p389 q389
         cases e389
         obtain ⟨ce389, hce389, hMe389, hcc389⟩ := Kd.N_get HO_3.out z39 x6_2 p389 (by first | exact q389 | exact of_decide_eq_true (by first | (with_reducible assumption) | assumption) | (have e_ := (Kd.N_reads' HO_3.out).1; omega))
         obtain ⟨ua389_1, uc389_1, ua389_2, uc389_2, rfl, ul389_1, ge389_1, ul389_2, ge389_2⟩ := k39_openF hMe389
         have hv389_1 := hcc389 1 _ rfl
         rw [add_field _ _ 1 (by omega)] at hv389_1
         replace hv389_1 := Option.some.inj (hv389_1.symm.trans hx389_1)
         injection hv389_1 with hva_ hvn_ hvc_
         rw [hva_] at ge389_1
         rw [hvc_] at ul389_1
         have HL389_1 := aMk (show Kd.V Kd.string 9 _ w.heap.size _ _ ((rd_T39 x3_1 x6_2).f0.f1) from Kd.V_mk ul389_1 ge389_1)
         clear hva_ hvn_ hvc_ ge389_1 ul389_1
         have hv389_2 := hcc389 2 _ rfl
         rw [add_field _ _ 2 (by omega)] at hv389_2
         replace hv389_2 := Option.some.inj (hv389_2.symm.trans hx389_2)
         injection hv389_2 with hva_ hvn_ hvc_
         rw [hva_] at ge389_2
         rw [hvc_] at ul389_2
         have HL389_2 := aMk (show Kd.V (Kd.int .i64) 2 _ w.heap.size _ _ ((rd_T39 x3_1 x6_2).f0.f2) from Kd.V_mk ul389_2 ge389_2)
         clear hva_ hvn_ hvc_ ge389_2 ul389_2
         clear hcc389 hce389
         have HR389_1 := aMk hi389_1
         have HC389_1 := aMk hl389_1
         clear hi389_1 hl389_1
         have HR389_2 := aMk hi389_2
         have HC389_2 := aMk hl389_2
         clear hi389_2 hl389_2
         replace p389 := eq_true p389
         replace q389 := eq_true q389
         go_wp2
         go_roundg k2
         case measure => have := HK1.out; have := HK2.out; omega
         case rel => exact ⟨(x5_2), (wrap64 (x6_2 + 1)), (by first | rfl | (simp; done) | (simp [*]; done)), H', ⟨by have := HK1.out; have := HK2.out; omega⟩, ⟨by (with_reducible repeat (first | apply Kd.N_alloc | apply Kd.N_drewN | apply Kd.N_drew)); exact HO_3.out⟩, ⟨by (with_reducible repeat (first | apply Kd.N_alloc | apply Kd.N_drewN | apply Kd.N_drew)); exact HO_5.out⟩, ⟨by repeat (first | (with_reducible first | exact HB.out | apply eA | apply eN | apply eD) | exact HB.out)⟩⟩
        ·rw [if_neg c10] at H
         have c10b0 : (((rd_T39 x3_1 x6_2).f1) == 0) = false := beq_eq_false_iff_ne.mpr c10
         have c10b1 : (((rd_T39 x3_1 x6_2).f1) != 0) = true := bne_iff_ne.mpr c10
         by_cases c12 : x5_2.length < 2199023255552
         ·rw [if_pos c12] at H
          have LMc12 := aMk c12
          clear c12
          obtain ⟨y391, hy391⟩ : ∃ y_ : List (S39), y_ = (x5_2 ++ [(⟨(⟨(rd_T39 x3_1 x6_2).f0.f0, (rd_T39 x3_1 x6_2).f0.f1, (rd_T39 x3_1 x6_2).f0.f2⟩ : S37), (rd_T39 x3_1 x6_2).f1⟩ : S39)]) := ⟨_, rfl⟩
          replace H : (gristmillref04_Own.l1 k2 x3_1 y391 (wrap64 (x6_2 + 1))) = some r := by first | (rw [hy391]; with_reducible exact H) | (have H2_ := (Option.bind_some _ _).symm.trans H; rw [hy391]; with_reducible exact H2_) | (have H2_ := (Option.bind_some _ _).symm.trans H; with_reducible exact H2_) | with_reducible exact H | (rw [hy391]; exact H) | exact H
          have Ny391 := aMk hy391
          clear hy391
          have H' := aMk H
          clear H
          obtain ⟨Ao13, co13, eo13⟩ := Kd.N_slice HO_3.out
          subst eo13
          have p389 : 0 ≤ (x6_2 : Int) := of_decide_eq_true (by first | (with_reducible assumption) | assumption)
          have q389 : x6_2 < (x3_1.length : Int) := of_decide_eq_true (by first | (with_reducible assumption) | assumption)
          obtain ⟨ad389, A389_1, c389_1, A389_2, c389_2, e389, hx389_0, hx389_1, hx389_2, hx389_3, hl389_1, hi389_1, hl389_2, hi389_2⟩ := at_T39 (Kd.N_reads' HO_3.out).2.2 x6_2 p389 q389
          cases e389
          obtain ⟨ce389, hce389, hMe389, hcc389⟩ := Kd.N_get HO_3.out z39 x6_2 p389 (by first | exact q389 | exact of_decide_eq_true (by first | (with_reducible assumption) | assumption) | (have e_ := (Kd.N_reads' HO_3.out).1; omega))
          obtain ⟨ua389_1, uc389_1, ua389_2, uc389_2, rfl, ul389_1, ge389_1, ul389_2, ge389_2⟩ := k39_openF hMe389
          have hv389_1 := hcc389 1 _ rfl
          rw [add_field _ _ 1 (by omega)] at hv389_1
          replace hv389_1 := Option.some.inj (hv389_1.symm.trans hx389_1)
          injection hv389_1 with hva_ hvn_ hvc_
          rw [hva_] at ge389_1
          rw [hvc_] at ul389_1
          have HL389_1 := aMk (show Kd.V Kd.string 9 _ w.heap.size _ _ ((rd_T39 x3_1 x6_2).f0.f1) from Kd.V_mk ul389_1 ge389_1)
          clear hva_ hvn_ hvc_ ge389_1 ul389_1
          have hv389_2 := hcc389 2 _ rfl
          rw [add_field _ _ 2 (by omega)] at hv389_2
          replace hv389_2 := Option.some.inj (hv389_2.symm.trans hx389_2)
          injection hv389_2 with hva_ hvn_ hvc_
          rw [hva_] at ge389_2
          rw [hvc_] at ul389_2
          have HL389_2 := aMk (show Kd.V (Kd.int .i64) 2 _ w.heap.size _ _ ((rd_T39 x3_1 x6_2).f0.f2) from Kd.V_mk ul389_2 ge389_2)
          clear hva_ hvn_ hvc_ ge389_2 ul389_2
          clear hcc389 hce389
          have HR389_1 := aMk hi389_1
          have HC389_1 := aMk hl389_1
          clear hi389_1 hl389_1
          have HR389_2 := aMk hi389_2
          have HC389_2 := aMk hl389_2
          clear hi389_2 hl389_2
          replace p389 := eq_true p389
          replace q389 := eq_true q389
          have p390 : 0 ≤ (x6_2 : Int) := of_decide_eq_true (by first | (with_reducible assumption) | assumption)
          have q390 : x6_2 < (x3_1.length : Int) := of_decide_eq_true (by first | (with_reducible assumption) | assumption)
          obtain ⟨ad390, A390_1, c390_1, A390_2, c390_2, e390, hx390_0, hx390_1, hx390_2, hx390_3, hl390_1, hi390_1, hl390_2, hi390_2⟩ := at_T39 (Kd.N_reads' HO_3.out).2.2 x6_2 p390 q390
          obtain rfl : ad389 = ad390 := (by injection e390)
          obtain ⟨ce390, hce390, hMe390, hcc390⟩ := Kd.N_get HO_3.out z39 x6_2 p390 (by first | exact q390 | exact of_decide_eq_true (by first | (with_reducible assumption) | assumption) | (have e_ := (Kd.N_reads' HO_3.out).1; omega))
          obtain ⟨ua390_1, uc390_1, ua390_2, uc390_2, rfl, ul390_1, ge390_1, ul390_2, ge390_2⟩ := k39_openF hMe390
          have hv390_1 := hcc390 1 _ rfl
          rw [add_field _ _ 1 (by omega)] at hv390_1
          replace hv390_1 := Option.some.inj (hv390_1.symm.trans hx390_1)
          injection hv390_1 with hva_ hvn_ hvc_
          rw [hva_] at ge390_1
          rw [hvc_] at ul390_1
          have HL390_1 := aMk (show Kd.V Kd.string 9 _ w.heap.size _ _ ((rd_T39 x3_1 x6_2).f0.f1) from Kd.V_mk ul390_1 ge390_1)
          clear hva_ hvn_ hvc_ ge390_1 ul390_1
          have hv390_2 := hcc390 2 _ rfl
          rw [add_field _ _ 2 (by omega)] at hv390_2
          replace hv390_2 := Option.some.inj (hv390_2.symm.trans hx390_2)
          injection hv390_2 with hva_ hvn_ hvc_
          rw [hva_] at ge390_2
          rw [hvc_] at ul390_2
          have HL390_2 := aMk (show Kd.V (Kd.int .i64) 2 _ w.heap.size _ _ ((rd_T39 x3_1 x6_2).f0.f2) from Kd.V_mk ul390_2 ge390_2)
          clear hva_ hvn_ hvc_ ge390_2 ul390_2
          clear hcc390 hce390
          have HR390_1 := aMk hi390_1
          have HC390_1 := aMk hl390_1
          clear hi390_1 hl390_1
          have HR390_2 := aMk hi390_2
          have HC390_2 := aMk hl390_2
          clear hi390_2 hl390_2
          replace p390 := eq_true p390
          replace q390 := eq_true q390
          have ea_ := Option.some.inj (hx389_1.symm.trans hx390_1)
          injection ea_ with ea_ en_ ec_
          subst ea_
          subst ec_
          clear en_
          have ea_ := Option.some.inj (hx389_2.symm.trans hx390_2)
          injection ea_ with ea_ en_ ec_
          subst ea_
          subst ec_
          clear en_
          go_wp2_with (first | ((with_reducible refine gate_builtin (b := .append) (xs := #[.tmp 37, .tmp 42]) rfl ?_); at_builtin; refine Kd.N_append k39 (w0 := w) w.heap.size rfl (.tmp 37) (.tmp 42) 24 39 (.agg #[(.int .i64 0), (.slice none 0 0), (.slice none 0 0), (.int .u64 0)]) 64 rfl Try.underlying24 info39 rfl (by decide) (by omega) u5 x5_2 (⟨(⟨(rd_T39 x3_1 x6_2).f0.f0, (rd_T39 x3_1 x6_2).f0.f1, (rd_T39 x3_1 x6_2).f0.f2⟩ : S37), (rd_T39 x3_1 x6_2).f1⟩ : S39) [.int .i64 ((rd_T39 x3_1 x6_2).f0.f0), .slice A389_1 ((rd_T39 x3_1 x6_2).f0.f1).length c389_1, .slice A389_2 ((rd_T39 x3_1 x6_2).f0.f2).length c389_2, .int .u64 ((rd_T39 x3_1 x6_2).f1)] (fun k_ => (P0_ k_ ∨ w.heap.size ≤ k_) ∧ some k_ ≠ (.slice (some ad389) x3_1.length co13 : Value).ownBlock) (fun k_ => ((fun k_ => (P0_ k_ ∨ w.heap.size ≤ k_) ∧ some k_ ≠ (.slice (some ad389) x3_1.length co13 : Value).ownBlock)) k_ ∧ some k_ ≠ (u5 : Value).ownBlock) rfl rfl ?aP (fun _ hk => hk) ?aF ?aO ?aB ?aS ?aL ?_; (case aP => exact (k39_mkF _ _ (⟨(⟨(rd_T39 x3_1 x6_2).f0.f0, (rd_T39 x3_1 x6_2).f0.f1, (rd_T39 x3_1 x6_2).f0.f2⟩ : S37), (rd_T39 x3_1 x6_2).f1⟩ : S39) (Kd.V_reads' (Kd.V_mono (ok' := (fun k_ => ((fun k_ => (P0_ k_ ∨ w.heap.size ≤ k_) ∧ some k_ ≠ (.slice (some ad389) x3_1.length co13 : Value).ownBlock)) k_ ∧ some k_ ≠ (u5 : Value).ownBlock)) (HL390_1.out) (fun k_ hk => ⟨⟨hk.1.1, hk.2⟩, hk.1.2⟩))).2.1 (Kd.V_F (Kd.V_mono (ok' := (fun k_ => ((fun k_ => (P0_ k_ ∨ w.heap.size ≤ k_) ∧ some k_ ≠ (.slice (some ad389) x3_1.length co13 : Value).ownBlock)) k_ ∧ some k_ ≠ (u5 : Value).ownBlock)) (HL390_1.out) (fun k_ hk => ⟨⟨hk.1.1, hk.2⟩, hk.1.2⟩))) (Kd.V_reads' (Kd.V_mono (ok' := (fun k_ => ((fun k_ => (P0_ k_ ∨ w.heap.size ≤ k_) ∧ some k_ ≠ (.slice (some ad389) x3_1.length co13 : Value).ownBlock)) k_ ∧ some k_ ≠ (u5 : Value).ownBlock)) (HL390_2.out) (fun k_ hk => ⟨⟨hk.1.1, hk.2⟩, hk.1.2⟩))).2.1 (Kd.V_F (Kd.V_mono (ok' := (fun k_ => ((fun k_ => (P0_ k_ ∨ w.heap.size ≤ k_) ∧ some k_ ≠ (.slice (some ad389) x3_1.length co13 : Value).ownBlock)) k_ ∧ some k_ ≠ (u5 : Value).ownBlock)) (HL390_2.out) (fun k_ hk => ⟨⟨hk.1.1, hk.2⟩, hk.1.2⟩))))); (case aB => exact (by repeat (first | (with_reducible first | exact HB.out | apply eA | apply eN | apply eD) | exact HB.out))); (case aF => exact (fun k_ hk => ⟨(.inr (Nat.le_trans (below_size (by repeat (first | (with_reducible first | exact HB.out | apply eA | apply eN | apply eD) | exact HB.out))) hk)), Kd.fresh' (Kd.N_lt (by (with_reducible repeat (first | apply Kd.N_alloc | apply Kd.N_drewN | apply Kd.N_drew)); exact HO_3.out)) k_ hk⟩)); (case aO => exact (by (with_reducible repeat (first | apply Kd.N_alloc | apply Kd.N_drewN | apply Kd.N_drew)); exact HO_5.out)); (case aS => exact (below_size (by repeat (first | (with_reducible first | exact HB.out | apply eA | apply eN | apply eD) | exact HB.out)))); (case aL => have := LMc12.out; omega); intro v392 w14 ho hb hg hat; rw [← Ny391.out] at ho; have HO393 := aMk (ho); replace HO_3 := aMk (Kd.N_afterv (ok := (fun k_ => (P0_ k_ ∨ w.heap.size ≤ k_))) (by (with_reducible repeat (first | apply Kd.N_alloc | apply Kd.N_drewN | apply Kd.N_drew)); exact HO_3.out) hg hat); replace HL389_1 := aMk (Kd.V_afterv (ok := (fun k_ => (P0_ k_ ∨ w.heap.size ≤ k_) ∧ some k_ ≠ (.slice (some ad389) x3_1.length co13 : Value).ownBlock)) (by (with_reducible repeat (first | apply Kd.V_alloc | apply Kd.V_drewN | apply Kd.V_drew)); exact Kd.V_mono HL389_1.out (fun _ hk => ⟨⟨hk.1.1, hk.2⟩, hk.1.2⟩)) hg hat); replace HL389_2 := aMk (Kd.V_afterv (ok := (fun k_ => (P0_ k_ ∨ w.heap.size ≤ k_) ∧ some k_ ≠ (.slice (some ad389) x3_1.length co13 : Value).ownBlock)) (by (with_reducible repeat (first | apply Kd.V_alloc | apply Kd.V_drewN | apply Kd.V_drew)); exact Kd.V_mono HL389_2.out (fun _ hk => ⟨⟨hk.1.1, hk.2⟩, hk.1.2⟩)) hg hat); replace HL390_1 := aMk (Kd.V_afterv (ok := (fun k_ => (P0_ k_ ∨ w.heap.size ≤ k_) ∧ some k_ ≠ (.slice (some ad389) x3_1.length co13 : Value).ownBlock)) (by (with_reducible repeat (first | apply Kd.V_alloc | apply Kd.V_drewN | apply Kd.V_drew)); exact Kd.V_mono HL390_1.out (fun _ hk => ⟨⟨hk.1.1, hk.2⟩, hk.1.2⟩)) hg hat); replace HL390_2 := aMk (Kd.V_afterv (ok := (fun k_ => (P0_ k_ ∨ w.heap.size ≤ k_) ∧ some k_ ≠ (.slice (some ad389) x3_1.length co13 : Value).ownBlock)) (by (with_reducible repeat (first | apply Kd.V_alloc | apply Kd.V_drewN | apply Kd.V_drew)); exact Kd.V_mono HL390_2.out (fun _ hk => ⟨⟨hk.1.1, hk.2⟩, hk.1.2⟩)) hg hat); replace HB := aMk (hb); clear HO_5; clear ho hb hg hat))
          go_roundg k2
          case measure => have := HK1.out; have := HK2.out; omega
          case rel => exact ⟨(y391), (wrap64 (x6_2 + 1)), (by first | rfl | (simp; done) | (simp [*]; done)), H', ⟨by have := HK1.out; have := HK2.out; omega⟩, ⟨by (with_reducible repeat (first | apply Kd.N_alloc | apply Kd.N_drewN | apply Kd.N_drew)); exact HO_3.out⟩, ⟨by (with_reducible repeat (first | apply Kd.N_alloc | apply Kd.N_drewN | apply Kd.N_drew)); exact HO393.out⟩, ⟨by repeat (first | (with_reducible first | exact HB.out | apply eA | apply eN | apply eD) | exact HB.out)⟩⟩
         ·rw [if_neg c12] at H
          exact absurd H (by simp)
       ·rw [if_neg c9] at H
        exact absurd H (by simp)
      ·rw [if_neg c8] at H
       have c8b0 : decide (x6_2 < (x3_1.length : Int)) = false := decide_eq_false c8
       clear c8
       obtain rfl := Option.some.inj H
       obtain ⟨Ao15, co15, eo15⟩ := Kd.N_slice HO_3.out
       subst eo15
       go_wp2
       go_ret
       exact ⟨_, by first | rfl | (simp <;> rfl) | (simp [*] <;> rfl), by (with_reducible repeat (first | apply Kd.N_alloc | apply Kd.N_drewN | apply Kd.N_drew)); exact Kd.N_mono HO_5.out (fun _ hk => hk.1), by repeat (first | (with_reducible first | exact HB.out | apply eA | apply eN | apply eD) | exact HB.out)⟩

end Go.Proofs.Ytkjjdpnpcjfgeaa.QAgg
