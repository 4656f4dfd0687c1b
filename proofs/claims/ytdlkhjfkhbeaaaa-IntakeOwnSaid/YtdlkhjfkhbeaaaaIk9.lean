/- awake: the document's first examples. -/
import Derived.Test.YtdlkhjfkhbeaaaaIk8
namespace Go.Proofs.Ytdlkhjfkhbeaaaa.QIn
open Go.RowKit Go.Maps Go.Proofs.YtdlkhjfkhbeaaaaW.PrintWords Go.Proofs.YtdlkhjfkhbeaaaaW.PrintLast Go.Proofs.YtdlkhjfkhbeaaaaW.PrintMore
theorem frm15 : frm 10 15 = 10 := by decide
theorem frm2 : frm 10 2 = 0 := by decide
theorem keys_of {K : List Int} (hp : K.Pairwise (· < ·)) (hm : ∀ k, k ∈ K ↔ ∃ f ∈ ([⟨15, [], []⟩, ⟨2, [], []⟩] : List S37), frm 10 f.f0 = k) : K = [0, 10] := by
  have hm' : ∀ k, k ∈ K ↔ k = 10 ∨ k = 0 := fun k => by
    rw [hm k]
    constructor
    · rintro ⟨f, hf, rfl⟩
      rcases List.mem_cons.1 hf with rfl | hf
      · exact .inl frm15
      · rw [List.mem_singleton.1 hf]; exact .inr frm2
    · rintro (rfl | rfl)
      · exact ⟨⟨15, [], []⟩, by simp, frm15⟩
      · exact ⟨⟨2, [], []⟩, by simp, frm2⟩
  match K, hp, hm' with
  | [], _, hm => exact absurd ((hm 10).2 (.inl rfl)) (by simp)
  | [a], _, hm =>
    have h1 := (hm 10).2 (.inl rfl)
    have h2 := (hm 0).2 (.inr rfl)
    simp at h1 h2
    omega
  | [a, b], hp, hm =>
    have h1 := (hm a).1 (by simp)
    have h2 := (hm b).1 (by simp)
    have h3 : a < b := by simpa using hp
    have : a = 0 ∧ b = 10 := by omega
    rw [this.1, this.2]
  | a :: b :: c :: r, hp, hm =>
    have h1 := (hm a).1 (by simp)
    have h2 := (hm b).1 (by simp)
    have h3 := (hm c).1 (by simp)
    simp only [List.pairwise_cons] at hp
    have h4 := hp.1 b (by simp)
    have h5 := hp.2.1 c (by simp)
    omega
theorem chks_of {K : List Int} (hp : K.Pairwise (· < ·)) (hm : ∀ k, k ∈ K ↔ ∃ f ∈ ([⟨15, [], []⟩, ⟨2, [], []⟩] : List S37), frm 10 f.f0 = k) :
    chks 10 [⟨15, [], []⟩, ⟨2, [], []⟩] K = [⟨⟨0, 10⟩, [⟨2, [], []⟩]⟩, ⟨⟨10, 20⟩, [⟨15, [], []⟩]⟩] := by
  rw [keys_of hp hm]
  rfl
theorem one_fact {w : World} {base : Nat} {ok : Nat → Prop} {v : Value} {f : S37} (h : Kd.S k37 37 w base ok v [f]) : ∃ g c, v = .slice (some ⟨g, 0, none⟩) 1 c ∧ w.cell? ⟨g, 0, none⟩ = some (.int .i64 f.f0) := by
  have hN := Kd.S_N h
  obtain ⟨g, c, rfl, _⟩ := Kd.N_form hN (by simp)
  obtain ⟨cs, hcl, hF, hcc, _⟩ := Kd.N_elem hN z37 0 (by decide) (by simp)
  obtain ⟨A1, c1, A2, c2, rfl, _⟩ := k37_open (Kd.FK_now hF)
  exact ⟨g, c, rfl, hcc 0 _ rfl⟩
theorem two_chunks {w : World} {base : Nat} {ok : Nat → Prop} {v : Value} {a b : S55} (h : Kd.R k55 55 w base ok v [a, b]) : ∃ g c, v = .slice (some ⟨g, 0, none⟩) 2 c ∧ w.cell? ⟨g, 3, none⟩ = some (.int .i64 b.f0.f0) ∧ w.cell? ⟨g, 4, none⟩ = some (.int .i64 b.f0.f1) := by
  have hN := Kd.R_N h
  obtain ⟨g, c, rfl, _⟩ := Kd.N_form hN (by simp)
  obtain ⟨cs, hcl, hF, hcc, _⟩ := Kd.N_elem hN z55 1 (by decide) (by simp)
  obtain ⟨A1, c1, rfl, _⟩ := k55_open (Kd.FK_now hF)
  exact ⟨g, c, rfl, hcc 0 _ rfl, hcc 1 _ rfl⟩
set_option maxRecDepth 100000 in
set_option maxHeartbeats 8000000 in
theorem awake_calls (w : World) : Calls Try.prog 6 #[] w fun e w' => e = .returned (.bool true) ∧ Below w.heap.size w w' := by
  have hts : ∀ f ∈ ([⟨15, [], []⟩, ⟨2, [], []⟩] : List S37), 0 ≤ f.f0 ∧ f.f0 < 1099511627776 := fun f hf => by
    rcases List.mem_cons.1 hf with rfl | hf
    · decide
    · rw [List.mem_singleton.1 hf]; decide
  have hgd : Good ([⟨15, [], []⟩, ⟨2, [], []⟩] : List S37) := ⟨by decide, fun f hf => by
    rcases List.mem_cons.1 hf with rfl | hf
    · exact ⟨by decide, by decide⟩
    · rw [List.mem_singleton.1 hf]; exact ⟨by decide, by decide⟩⟩
  have heq : ∀ w, (binOp .eql 53 (.agg #[.int .i64 10, .int .i64 20]) (.agg #[.int .i64 10, .int .i64 20])).run Try.prog w = .ok (.bool true) w := fun w => by kernel_rfl
  have tok1 : True := trivial
  have tok2 : True := trivial
  have tok3 : True := trivial
  have tok4 : True := trivial
  go_enter Try.func6, Try.ntmps6
  go_wp2_with (first
    | (go_at_call 7; refine (new_calls 0 0 10 3 _ (by decide) (by decide) (by decide) (by decide) (by decide) (by decide) (by decide)).mono ?_; rintro e w1 ⟨x, rfl, hI0, hb1⟩; have hI := hI0; have B := Lib.hid hb1; clear hI0 hb1)
    | (go_at_call 10; refine (at_calls _ _).mono ?_; rintro e wn ⟨A1, c1, A2, c2, rfl, hbn⟩; have hI2 := hI.below hbn; have B2 := Lib.hid (B.out.trans (hbn.mono B.out.size)); clear hI B hbn; have hI := hI2; have B := B2; clear hI2 B2)
    | (go_at_call 9; have _t := tok1; refine (take_at hI 15 A1 A2 c1 c2 (by decide) (by decide) (by decide) (by decide) (by decide) (by decide) (by decide)).mono ?_; rintro e wn ⟨vf2, rfl, hI2, hbn⟩; have B2 := Lib.hid (B.out.trans hbn); clear hI B hbn tok1; have hI : IN wn w.heap.size x 0 0 10 4 vf2 [⟨15, [], []⟩] 1 _ _ _ := hI2; have B := B2; clear hI2 B2)
    | (go_at_call 9; have _t := tok2; refine (take_at hI 2 A1 A2 c1 c2 (by decide) (by decide) (by decide) (by decide) (by decide) (by decide) (by decide)).mono ?_; rintro e wn ⟨vf2, rfl, hI2, hbn⟩; have B2 := Lib.hid (B.out.trans hbn); clear hI B hbn tok2; have hI : IN wn w.heap.size x 0 0 10 5 vf2 [⟨15, [], []⟩, ⟨2, [], []⟩] 2 _ _ _ := hI2; have B := B2; clear hI2 B2)
    | (go_at_call 9; have _t := tok3; refine (take_old hI 4 9 A1 A2 0 0 c1 c2 (by decide)).mono ?_; rintro e wn ⟨rfl, hbn⟩; have hI2 := hI.below hbn; have B2 := Lib.hid (B.out.trans (hbn.mono B.out.size)); clear hI B hbn; have hI := hI2; have B := B2; clear hI2 B2; clear tok3)
    | (go_at_call 9; have _t := tok4; refine (take_gap hI 6 1 A1 A2 0 0 c1 c2 (by decide)).mono ?_; rintro e wn ⟨rfl, hbn⟩; have hI2 := hI.below hbn; have B2 := Lib.hid (B.out.trans (hbn.mono B.out.size)); clear hI B hbn; have hI := hI2; have B := B2; clear hI2 B2; clear tok4)
    | (go_at_call 9; refine (take_neg hI (-1) A1 A2 0 0 c1 c2 (by decide) (by decide) (by decide) (by decide) (by decide) (by decide) (by decide)).mono ?_; rintro e wn ⟨rfl, hbn⟩; have hI2 := hI.below hbn; have B2 := Lib.hid (B.out.trans (hbn.mono B.out.size)); clear hI B hbn; have hI := hI2; have B := B2; clear hI2 B2)
    | (go_at_call 11; refine (seal_calls hI 2 rfl 0 rfl (by decide) (by decide) (by decide) (by decide) (by decide) hts hgd (by decide) (by decide) (by decide)).mono ?_; rintro e w8 ⟨v8, vb8, K, rfl, hKp, hKm, hR8, hI8, hb8⟩; have hce : chks 10 (List.drop 0 [(⟨15, [], []⟩ : S37), ⟨2, [], []⟩]) K = [⟨⟨0, 10⟩, [⟨2, [], []⟩]⟩, ⟨⟨10, 20⟩, [⟨15, [], []⟩]⟩] := chks_of hKp hKm; rw [hce] at hR8 hI8; obtain ⟨A8, c8, rfl⟩ := Kd.R_slice hR8; have B8 := Lib.hid (B.out.trans hb8); clear hI B hb8 hKp hKm hce)
    | (go_at_call 12; refine (behind_calls (hI8.below ((Below.refl _ w8).alloc (Nat.le_refl _) _)) 3 (by decide) (by decide) (by decide) (by decide) (by decide) hgd).mono ?_; rintro e w9 ⟨v9, rfl, hS9, hb9⟩; obtain ⟨g9, p9, rfl, l9⟩ := one_fact (f := ⟨2, [], []⟩) hS9; obtain ⟨g8, p8, hA8, l80, l81⟩ := two_chunks (Kd.R_below (Kd.R_alloc hR8 _) hb9); injection hA8 with hA8 hA8b hA8c; subst hA8; subst hA8c; have bk8 := blk_below (blk_new w8 _) hb9; have m1 : w9.cell? ⟨w8.heap.size, 1, none⟩ = some (.int .u64 2) := (blk_cell bk8 1).trans rfl; have m2 : w9.cell? ⟨w8.heap.size, 2, none⟩ = some (.int .u64 4) := (blk_cell bk8 2).trans rfl; have m3 : w9.cell? ⟨w8.heap.size, 3, none⟩ = some (.slice (some ⟨g8, 0, none⟩) 2 c8) := (blk_cell bk8 3).trans rfl; have B9 := Lib.hid (B8.out.trans (((Below.refl _ w8).alloc (Nat.le_refl _) _).trans (hb9.mono (by simp)) |>.mono B8.out.size)); clear hS9 hR8 hI8 hb9 bk8))
  go_ret
  exact ⟨rfl, B9.out⟩
end Go.Proofs.Ytdlkhjfkhbeaaaa.QIn
