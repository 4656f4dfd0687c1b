/- Contracts of a disk that holds one file: power on, operations, Sync, Append of bytes. -/
import Derived.Test.YtadonahmamopbaaDk5
namespace Go.Proofs.Ytadonahmamopbaa.QDk
open Go.RowKit Go.Maps Go.Proofs.YtadonahmamopbaaW.PrintWords Go.Proofs.YtadonahmamopbaaW.PrintLast Go.Proofs.YtadonahmamopbaaW.PrintMore Go.Sort Go.Lib Go.Shelf
attribute [local go_sem ↓] Go.wp_at_zero Go.wp_at_succ
theorem AS.setd {w : World} {base d mb g r : Nat} {off : Bool} {ops syn : Int} {c : Nat} {bs : List Int} (h : AS w base d mb g r off ops syn c bs) (i : Nat) (v : Value) {off' : Bool} {ops' : Int} (e : (w.setCell ⟨d, i, none⟩ v).heap[d]? = some (dk mb off' ops' (-1) 0)) (o0 : 0 ≤ ops') (o1 : ops' ≤ 1000) :
    AS (w.setCell ⟨d, i, none⟩ v) base d mb g r off' ops' syn c bs := by
  obtain ⟨n1, n2, n3, n4, n5, n6⟩ := h.ne
  obtain ⟨cur, h1, h2⟩ := h.row
  exact ⟨e, h.own.setCell (a := ⟨d, i, none⟩) (fun e => n1 e.symm) v, blk_far h.hg (p := ⟨d, i, none⟩) (fun e => n4 e.symm) v, ⟨cur, blk_far h1 (p := ⟨d, i, none⟩) (fun e => n5 e.symm) v, h2⟩, h.bd, h.bm, h.bg, h.br, o0, o1⟩
theorem AS.setg {w : World} {base d mb g r r' : Nat} {off : Bool} {ops syn syn' : Int} {c c' : Nat} {bs bs' : List Int} (h : AS w base d mb g r off ops syn c bs) (i : Nat) (v : Value) (e : (w.setCell ⟨g, i, none⟩ v).heap[g]? = some (.cells #[.slice (some ⟨r', 0, none⟩) bs'.length c', .int .i64 syn'] 43 (0, 0)))
    (hr : ∃ cur, w.heap[r']? = some (.cells cur 5 (0, 0)) ∧ bs'.length ≤ c' ∧ c' ≤ cur.size ∧ c' ≤ maxLen ∧ cur.toList.take bs'.length = nums .u8 bs') (br : base ≤ r') : AS (w.setCell ⟨g, i, none⟩ v) base d mb g r' off ops syn' c' bs' := by
  obtain ⟨n1, n2, n3, n4, n5, n6⟩ := h.ne
  obtain ⟨cur, h1, h2⟩ := hr
  have n7 : g ≠ r' := blk_ne h.hg h1 (by decide)
  exact ⟨blk_far h.hd (p := ⟨g, i, none⟩) n4 v, h.own.setCell (a := ⟨g, i, none⟩) (fun e => n2 e.symm) v, e, ⟨cur, blk_far h1 (p := ⟨g, i, none⟩) (fun e => n7 e.symm) v, h2⟩, h.bd, h.bm, h.bg, br, h.o0, h.o1⟩
theorem AS.drewN {w : World} {base d mb g r : Nat} {off : Bool} {ops syn : Int} {c : Nat} {bs : List Int} (h : AS w base d mb g r off ops syn c bs) (n : Nat) : AS (w.drewN n) base d mb g r off ops syn c bs := h.below (pw_below_drewN (Below.refl _ _) n)
theorem on_calls {w : World} {base d mb g r : Nat} {off : Bool} {ops syn : Int} {c : Nat} {bs : List Int} (h : AS w base d mb g r off ops syn c bs) :
    Calls Try.prog 12 #[.pointer (some ⟨d, 0, none⟩)] w fun e w' => e = .returned (.tuple #[]) ∧ AS w' base d mb g r false ops syn c bs ∧ Below base w w' ∧ Rw w w' := by
  have f1 := blk_frozen h.hd 1
  have c1 : w.cell? ⟨d, 1, none⟩ = some (.bool off) := (blk_cell h.hd 1).trans rfl
  have A := Lib.hid h
  clear h
  go_enter Try.func12, Try.ntmps12
  go_wp2
  go_end0
  exact ⟨rfl, A.out.setd 1 _ (blk_put A.out.hd 1 _ rfl) A.out.o0 A.out.o1, (Below.refl _ _).setCell A.out.bd _, fun k cur hk => blk_far hk (p := ⟨d, 1, none⟩) (blk_ne hk A.out.hd (by decide)) _⟩
theorem ops_calls {w : World} {base d mb g r : Nat} {off : Bool} {ops syn : Int} {c : Nat} {bs : List Int} (h : AS w base d mb g r off ops syn c bs) :
    Calls Try.prog 13 #[.pointer (some ⟨d, 0, none⟩)] w fun e w' => e = .returned (.int .i64 ops) ∧ w' = w := by
  have c1 : w.cell? ⟨d, 2, none⟩ = some (.int .i64 ops) := (blk_cell h.hd 2).trans rfl
  have A := Lib.hid h
  clear h
  go_enter Try.func13, Try.ntmps13
  go_wp2
  go_ret
  exact ⟨rfl, rfl⟩
theorem fn22 {w : World} {F g r n c : Nat} {syn : Int} (hF : w.cell? ⟨F, 0, none⟩ = some (.pointer (some ⟨g, 0, none⟩))) (hg : w.heap[g]? = some (.cells #[.slice (some ⟨r, 0, none⟩) n c, .int .i64 syn] 43 (0, 0))) :
    Calls Try.prog 22 #[.pointer (some ⟨F, 0, none⟩)] w fun e w' => e = .returned (.tuple #[]) ∧ ∃ q, w' = (w.setCell ⟨g, 1, none⟩ (.int .i64 n)).drewN q := by
  have g0 : w.cell? ⟨g, 0, none⟩ = some (.slice (some ⟨r, 0, none⟩) n c) := (blk_cell hg 0).trans rfl
  have g1 : w.cell? ⟨g, 1, none⟩ = some (.int .i64 syn) := (blk_cell hg 1).trans rfl
  have z1 := blk_frozen hg 1
  go_enter Try.func22, Try.ntmps22
  go_wp2
  go_region
  go_wp2
  go_end0
  exact ⟨rfl, 1, rfl⟩
set_option maxHeartbeats 1000000 in
theorem done22 {w : World} {base d mb g r F : Nat} {ops syn : Int} {c : Nat} {bs : List Int} (h : AS w base d mb g r false ops syn c bs) (h1 : ops < 1000) (hF : w.heap[F]? = some (.cells #[.pointer (some ⟨g, 0, none⟩)] 41 (0, 0))) :
    Calls Try.prog 15 #[.pointer (some ⟨d, 0, none⟩), .func (.func 22) #[] #[.pointer (some ⟨F, 0, none⟩)]] w fun e w' => e = .returned (.int .i64 0) ∧ AS w' base d mb g r false (ops + 1) bs.length c bs ∧ Below base w w' ∧ (∀ k, k ≠ d → k ≠ g → w'.heap[k]? = w.heap[k]?) := by
  have c2 : w.cell? ⟨d, 2, none⟩ = some (.int .i64 ops) := (blk_cell h.hd 2).trans rfl
  have f2 := blk_frozen h.hd 2
  have h0 := h.o0
  have hw : wrap64 (ops + 1) = ops + 1 := wrap_in (by omega) (by omega)
  have hFd : F ≠ d := blk_ne hF h.hd (by decide)
  have hFg : F ≠ g := blk_ne hF h.hg (by decide)
  have A1 := h.setd 2 (.int .i64 (ops + 1)) (blk_put h.hd 2 _ rfl) (by omega) (by omega)
  have hF1 := blk_far hF (p := ⟨d, 2, none⟩) hFd (.int .i64 (ops + 1))
  have A := Lib.hid h
  clear h
  go_enter Try.func15, Try.ntmps15
  go_wp2
  generalize hW : w.setCell ⟨d, 2, none⟩ (.int .i64 (ops + 1)) = W at A1 hF1 ⊢
  have d2 : W.cell? ⟨d, 2, none⟩ = some (.int .i64 (ops + 1)) := (blk_cell A1.hd 2).trans rfl
  have d3 : W.cell? ⟨d, 3, none⟩ = some (.int .i64 (-1)) := (blk_cell A1.hd 3).trans rfl
  have hw2 : wrap64 (ops + 1 - 1) = ops := by rw [wrap_in (by omega) (by omega)]; omega
  have hne : (ops == -1) = false := by simp; omega
  have B := Lib.hid A1
  clear A1
  go_region
  go_wp2_with (first | (go_at_call 22; refine (fn22 (w := W.drewN 1) (F := F) (g := g) (r := r) (n := bs.length) (c := c) (syn := syn) ((blk_cell hF1 0).trans rfl) B.out.hg).mono ?_; rintro e w1 ⟨rfl, q, rfl⟩))
  go_ret
  have A2 := (((B.out.drewN 1).setg 1 (.int .i64 (bs.length : Nat)) (blk_put (w := W.drewN 1) B.out.hg 1 _ rfl) B.out.row B.out.br).drewN q)
  have b1 : Below base w W := hW ▸ (Below.refl base w).setCell A.out.bd _
  refine ⟨rfl, A2, pw_below_drewN ((pw_below_drewN b1 1).setCell A.out.bg _) q, fun k kd kg => ?_⟩
  refine (Below.heap_setCell (W.drewN 1) ⟨g, 1, none⟩ _ k kg).trans ?_
  rw [← hW]
  exact Below.heap_setCell w ⟨d, 2, none⟩ _ k kd
set_option maxHeartbeats 1000000 in
theorem sync_calls {w : World} {base d mb g r : Nat} {ops syn : Int} {c : Nat} {bs : List Int} (h : AS w base d mb g r false ops syn c bs) (h1 : ops < 1000) :
    Calls Try.prog 9 #[.pointer (some ⟨d, 0, none⟩), .string an] w fun e w' => e = .returned (.int .i64 0) ∧ AS w' base d mb g r false (ops + 1) bs.length c bs ∧ Below base w w' ∧ (∀ k, k < w.heap.size → k ≠ d → k ≠ g → w'.heap[k]? = w.heap[k]?) := by
  have b1 : Below w.heap.size w (w.alloc (.cells #[.string an] 9)) := (Below.refl _ w).alloc (Nat.le_refl _) _
  have c1 : (w.alloc (.cells #[.string an] 9)).cell? ⟨w.heap.size, 0, none⟩ = some (.string an) := (blk_cell (blk_new w _) 0).trans rfl
  have h2 := h.below b1
  have d0 : (w.alloc (.cells #[.string an] 9)).cell? ⟨d, 0, none⟩ = some (.map (some mb)) := (blk_cell h2.hd 0).trans rfl
  have hlk : ∀ m, (Instr.lookup 37 (.map (some mb)) (.string an) false).run Try.prog ((w.alloc (.cells #[.string an] 9)).drewN m) = .ok (.pointer (some ⟨g, 0, none⟩)) ((w.alloc (.cells #[.string an] 9)).drewN m) := fun m => (h2.drewN m).look
  have A0 := Lib.hid h
  have A := Lib.hid h2
  clear h2 h
  go_enter Try.func9, Try.ntmps9
  go_wp2_with (first
    | (go_at_call 14; refine (refused_there A.out c1).mono ?_; rintro e w1 ⟨rfl, m, rfl⟩; have hlk' := hlk m)
    | (go_at_call 15; refine (done22 (F := w.heap.size + 1) ((A.out.drewN m).below ((Below.refl _ _).alloc (Nat.le_refl _) _)) h1 ((by simp : (w.heap.size + 1) = ((w.alloc (.cells #[.string an] 9)).drewN m).heap.size) ▸ blk_new ((w.alloc (.cells #[.string an] 9)).drewN m) _)).mono ?_; rintro e w4 ⟨rfl, h4, hb4, hk4⟩))
  go_ret
  have hs := A0.out.szd
  refine ⟨rfl, h4, ((pw_below_drewN ((Below.refl base w).alloc hs _) m).alloc (by simp; omega) _).trans hb4, fun k hk kd kg => (hk4 k kd kg).trans ?_⟩
  have e1 := Below.heap_alloc w (.cells #[.string an] 9) k hk
  exact (Below.heap_alloc ((w.alloc (.cells #[.string an] 9)).drewN m) (.cells #[.pointer (some ⟨g, 0, none⟩)] 41) k (by simp; omega)).trans e1
theorem row_of {w : World} {base n : Nat} {v : Value} {xs : List Value} (h : w.ownsRow base 5 1 v n xs) (h0 : 0 < n) : ∃ r c cur, v = .slice (some ⟨r, 0, none⟩) n c ∧ base ≤ r ∧ w.heap[r]? = some (.cells cur 5 (0, 0)) ∧ n ≤ c ∧ c = cur.size ∧ c ≤ maxLen ∧ cur.toList.take n = xs := by
  obtain ⟨h1, h2⟩ := h
  rcases h2 with ⟨_, h2⟩ | ⟨g, cap, cur, rfl, hb, hh, hnc, hcm, hcs, ht⟩
  · omega
  · exact ⟨g, cap, cur, rfl, hb, hh, hnc, by omega, hcm, by simpa using ht⟩
set_option maxHeartbeats 2000000 in
theorem append_old_b {w : World} {base d mb g r q : Nat} {ops syn : Int} {c c' : Nat} {bs ys : List Int} (h : AS w base d mb g r false ops syn c bs) (h1 : ops < 1000) (hO : w.ownsRow base 5 1 (.slice (some ⟨r, 0, none⟩) bs.length c) bs.length (nums .u8 bs))
    (hy : ∀ j u, (nums .u8 ys)[j]? = some u → w.cell? ((⟨q, 0, none⟩ : Addr).add j) = some u) (hl : bs.length + ys.length ≤ 1000) (h0 : 0 < bs.length) :
    Calls Try.prog 6 #[.pointer (some ⟨d, 0, none⟩), .string an, .slice (some ⟨q, 0, none⟩) ys.length c'] w fun e w' => ∃ r' c', e = .returned (.int .i64 0) ∧ AS w' base d mb g r' false (ops + 1) syn c' (bs ++ ys) ∧ Below base w w' := by
  obtain ⟨i0, hi, hz0, hz1, hz2⟩ := info_parts info5
  have b1 : Below w.heap.size w (w.alloc (.cells #[.string an] 9)) := (Below.refl _ w).alloc (Nat.le_refl _) _
  have c1 : (w.alloc (.cells #[.string an] 9)).cell? ⟨w.heap.size, 0, none⟩ = some (.string an) := (blk_cell (blk_new w _) 0).trans rfl
  have h2 := h.below b1
  have hs := h.szd
  have hl0 : bs.length + ys.length ≤ maxLen := by
    have : maxLen = 9223372036854775807 := by decide
    omega
  have d0 : (w.alloc (.cells #[.string an] 9)).cell? ⟨d, 0, none⟩ = some (.map (some mb)) := (blk_cell h2.hd 0).trans rfl
  have g0 : (w.alloc (.cells #[.string an] 9)).cell? ⟨g, 0, none⟩ = some (.slice (some ⟨r, 0, none⟩) bs.length c) := (blk_cell h2.hg 0).trans rfl
  have hlk : ∀ m, (Instr.lookup 37 (.map (some mb)) (.string an) false).run Try.prog ((w.alloc (.cells #[.string an] 9)).drewN m) = .ok (.pointer (some ⟨g, 0, none⟩)) ((w.alloc (.cells #[.string an] 9)).drewN m) := fun m => (h2.drewN m).look
  obtain ⟨n1, n2, n3, n4, n5, n6⟩ := h.ne
  have HY := Lib.hid hy
  have HO := Lib.hid hO
  have A0 := Lib.hid h
  have A := Lib.hid h2
  clear h2 h hy hO
  go_enter Try.func6, Try.ntmps6
  go_wp2_with (first
    | (go_at_call 14; refine (refused_new (mb := mb) an_size A.out.hd c1).mono ?_; rintro e w1 ⟨rfl, m, rfl⟩; rw [nm_an]; have hlk' := hlk m)
    | (at_builtin; refine wpList_append_own _ rfl _ _ 31 rfl base 5 i0 (.int .u8 0) 1 1 Try.underlying31 hi hz0 hz1 hz2 rfl (by decide) (.slice (some ⟨r, 0, none⟩) bs.length c) bs.length (nums .u8 bs) rfl (HO.out.alloc _) ⟨q, 0, none⟩ ys.length c' (nums .u8 ys) rfl (by simp [nums]) (fun j u hj => Lib.cell?_alloc_some _ (HY.out j u hj)) (fun u hu => by obtain ⟨x, _, rfl⟩ := List.mem_map.1 hu; rfl) hl0 (by omega) (by simp; omega) ?_; intro v3 w3 hown3 hg3 hnil3; obtain ⟨r3, c3, cur3, rfl, hb3, hr3, k1, k2, k3, k4⟩ := row_of hown3 (by omega); have hgd := blk_grown A.out.hg (w1 := w3) ⟨hg3.1, hg3.2, hg3.3, hg3.4, hg3.5⟩ (fun e => n6 (Option.some.inj e)); have z3 := blk_frozen hgd 0; have y3 : w3.cell? ⟨g, 0, none⟩ = some (.slice (some ⟨r, 0, none⟩) bs.length c) := (blk_cell hgd 0).trans rfl)
    | (go_at_call 15; refine (done16 (mb := mb) (ops := ops) (w := w3.setCell ⟨g, 0, none⟩ _) (blk_far (blk_grown A.out.hd (w1 := w3) ⟨hg3.1, hg3.2, hg3.3, hg3.4, hg3.5⟩ (fun e => n5 (Option.some.inj e))) (p := ⟨g, 0, none⟩) n4 _) A0.out.o0 (by omega)).mono ?_; rintro e w4 ⟨rfl, q4, rfl⟩))
  go_ret
  have hlen : bs.length + ys.length = (bs ++ ys).length := by simp
  have hd3 := blk_grown A.out.hd (w1 := w3) ⟨hg3.1, hg3.2, hg3.3, hg3.4, hg3.5⟩ (fun e => n5 (Option.some.inj e))
  have ho3 : w3.ownsMap Try.prog 9 pr mb 1 (Dg g) := (A.out.drewN m).own.kept hg3 (fun e => n3 (Option.some.inj e).symm)
  have n7 : g ≠ r3 := blk_ne hgd hr3 (by decide)
  have n8 : d ≠ r3 := blk_ne hd3 hr3 (by decide)
  subst k2
  refine ⟨r3, cur3.size, rfl, ⟨?_, ?_, ?_, ?_, A0.out.bd, A0.out.bm, A0.out.bg, hb3, by have := A0.out.o0; omega, by omega⟩, ?_⟩
  · exact blk_put (w := w3.setCell ⟨g, 0, none⟩ _) (blk_far hd3 (p := ⟨g, 0, none⟩) n4 _) 2 _ rfl
  · exact (ho3.setCell (a := ⟨g, 0, none⟩) (fun e => n2 e.symm) _).setCell (a := ⟨d, 2, none⟩) (fun e => n1 e.symm) _
  · rw [← hlen]
    exact blk_far (w := w3.setCell ⟨g, 0, none⟩ _) (blk_put (w := w3) hgd 0 _ rfl) (p := ⟨d, 2, none⟩) (fun e => n4 e.symm) _
  · refine ⟨cur3, blk_far (w := w3.setCell ⟨g, 0, none⟩ _) (blk_far hr3 (p := ⟨g, 0, none⟩) (fun e => n7 e.symm) _) (p := ⟨d, 2, none⟩) (fun e => n8 e.symm) _, by rw [← hlen]; exact k1, Nat.le_refl _, k3, ?_⟩
    rw [← hlen, k4, nums_append]
  · have bA : Below base w ((w.alloc (.cells #[.string an] 9)).drewN m) := pw_below_drewN ((Below.refl base w).alloc hs _) m
    have bB : Below base w w3 := bA.grown hg3 (Nat.le_trans hs bA.size) (fun k e => by have e : r = k := Option.some.inj e; have := A0.out.br; omega)
    exact pw_below_drewN ((bB.setCell A0.out.bg _).setCell A0.out.bd _) q4
/-- The row is the block's whole. -/
def Ow (w : World) (r c : Nat) : Prop := ∃ cur, w.heap[r]? = some (.cells cur 5 (0, 0)) ∧ c = cur.size
theorem AS.owns {w : World} {base d mb g r : Nat} {off : Bool} {ops syn : Int} {c : Nat} {bs : List Int} (h : AS w base d mb g r off ops syn c bs) (ho : Ow w r c) : w.ownsRow base 5 1 (.slice (some ⟨r, 0, none⟩) bs.length c) bs.length (nums .u8 bs) := by
  obtain ⟨cur, h1, h2, h3, h4, h5⟩ := h.row
  obtain ⟨cur', h6, rfl⟩ := ho
  rw [h1] at h6
  injection h6 with h6
  injection h6 with h6
  subst h6
  exact ⟨by simp [nums], .inr ⟨r, _, cur, rfl, h.br, h1, h2, h4, by omega, by simpa using h5⟩⟩
theorem below_cell {w w1 : World} {ad : Addr} {v : Value} (hb : Below w.heap.size w w1) (h : w.cell? ad = some v) : w1.cell? ad = some v := (hb.cell (World.block_lt_of_cell? w _ h)).trans h
theorem grown_cell {w w1 : World} {mb n : Nat} {D : DataW Unit} {ad : Addr} {v : Value} (hg : w.grownBy w1 (some mb)) (ho : w.ownsMap Try.prog 9 pr mb n D) (h : w.cell? ad = some v) : w1.cell? ad = some v := by
  have e : w1.heap[ad.block]? = w.heap[ad.block]? := hg.block _ (World.block_lt_of_cell? w _ h) (fun e => by
    have e := Option.some.inj e
    obtain ⟨es, clock, hb, _⟩ := ho
    unfold World.cell? at h
    rw [e, hb] at h
    cases h)
  rw [← h]
  simp [World.cell?, e]
set_option maxHeartbeats 2000000 in
theorem append_first {w : World} {base d mb q c' : Nat} {ys : List Int} (h : DL w base d mb 0 0 (.map [])) (hy : ∀ j u, (nums .u8 ys)[j]? = some u → w.cell? ((⟨q, 0, none⟩ : Addr).add j) = some u) (hl : ys.length ≤ 1000) (h0 : 0 < ys.length) :
    Calls Try.prog 6 #[.pointer (some ⟨d, 0, none⟩), .string an, .slice (some ⟨q, 0, none⟩) ys.length c'] w fun e w' => ∃ g r c, e = .returned (.int .i64 0) ∧ AS w' base d mb g r false 1 0 c ys ∧ Ow w' r c ∧ Below base w w' := by
  obtain ⟨i0, hi, hz0, hz1, hz2⟩ := info_parts info5
  have hd := h.hd
  have c1 : (w.alloc (.cells #[.string an] 9)).cell? ⟨w.heap.size, 0, none⟩ = some (.string an) := (blk_cell (blk_new w _) 0).trans rfl
  have hd1 := blk_alloc hd (.cells #[.string an] 9)
  have own1 := h.own.alloc (.cells #[.string an] 9)
  have hs := h.szd
  have hl0 : 0 + ys.length ≤ maxLen := by
    have : maxLen = 9223372036854775807 := by decide
    omega
  have d0 : (w.alloc (.cells #[.string an] 9)).cell? ⟨d, 0, none⟩ = some (.map (some mb)) := (blk_cell hd1 0).trans rfl
  have hlk : ∀ q, (Instr.lookup 37 (.map (some mb)) (.string an) false).run Try.prog ((w.alloc (.cells #[.string an] 9)).drewN q) = .ok (.pointer none) ((w.alloc (.cells #[.string an] 9)).drewN q) := fun q => by
    have own2 : ((w.alloc (.cells #[.string an] 9)).drewN q).ownsMap Try.prog 9 pr mb 0 (.map []) := own1
    obtain ⟨v, ps, hlk, hv⟩ := own2.lookup ky (show Try.prog.underlying 37 = some (.map 9 41) by kernel_rfl) (hz37 _) (zd := .nil) (zp := []) rfl (hk9 an_size)
    obtain rfl := pr_nil (show pr v = some (.nil, ps) from hv)
    exact hlk
  have hln : ∀ q, (Builtin.len_ #[37] 3 #[.map (some mb)]).run Try.prog ((w.alloc (.cells #[.string an] 9)).drewN q) = .ok (.int .i64 0) ((w.alloc (.cells #[.string an] 9)).drewN q) := fun q => by
    have own2 : ((w.alloc (.cells #[.string an] 9)).drewN q).ownsMap Try.prog 9 pr mb 0 (.map []) := own1
    exact own2.len (show Try.prog.underlying 37 = some (.map 9 41) by kernel_rfl) 3
  have hmx : 0 < maxLen := by decide
  have hlm := h.own.lt
  have hdm : some d ≠ some mb := fun e => h.ne (Option.some.inj e).symm
  have hlt : decide ((0 : Int) ≥ 1000) = false := by decide
  have HY := Lib.hid hy
  clear hy
  go_enter Try.func6, Try.ntmps6
  go_wp2_with (first
    | (go_at_call 14; refine (refused_new (mb := mb) an_size hd1 c1).mono ?_; rintro e w1 ⟨rfl, m, rfl⟩; rw [nm_an]; have hlk' := hlk m; have hln' := hln m)
    | ((with_reducible refine gate_dst (N := 31) rfl ?_); refine box_event rfl (N := 31) rfl (cs := #[.slice none 0 0, .int .i64 0]) (t := 43) (by first | (go_simp; done) | (go_simp; rfl)) ?_; intro g hge w2 BKg HB2; have hgs : w.heap.size < g := (by rw [hge]; simp); clear hge; have BKd2 := blk_below (w := (w.alloc (.cells #[.string an] 9)).drewN _) hd1 HB2; have own2 := own_below (w := (w.alloc (.cells #[.string an] 9)).drewN _) own1 HB2; have e0 : w2.cell? ⟨d, 0, none⟩ = some (.map (some mb)) := (blk_cell BKd2 0).trans rfl; have HY2 := Lib.hid (fun j u hj => below_cell (w := (w.alloc (.cells #[.string an] 9)).drewN _) HB2 (Lib.cell?_alloc_some _ (HY.out j u hj))))
    | (at_mapUpdate; refine wpList_mapUpdate_own _ rfl _ _ _ 37 rfl 9 41 ky (by kernel_rfl) pr mb 0 (.map []) rfl own2 hmx _ _ (.string an.data.toList) rfl rfl (hk9 an_size) (.lit (.int .i64 g)) [] rfl ?_; intro w3 own3 hgr3; have BKd3 := blk_grown BKd2 hgr3 hdm; have BKg3 := blk_grown BKg hgr3 (fun e => absurd (Option.some.inj e) (by omega)); have g3 : w3.cell? ⟨g, 0, none⟩ = some (.slice none 0 0) := (blk_cell BKg3 0).trans rfl; have z3 := blk_frozen BKg3 0)
    | (at_builtin; refine wpList_append_own _ rfl _ _ 31 rfl base 5 i0 (.int .u8 0) 1 1 Try.underlying31 hi hz0 hz1 hz2 rfl (by decide) (.slice none 0 0) 0 [] rfl ⟨rfl, .inl ⟨rfl, rfl⟩⟩ ⟨q, 0, none⟩ ys.length c' (nums .u8 ys) rfl (by simp [nums]) (fun j u hj => grown_cell hgr3 own2 (HY2.out j u hj)) (fun u hu => by obtain ⟨x, _, rfl⟩ := List.mem_map.1 hu; rfl) hl0 (by omega) (Nat.le_trans hs (Nat.le_trans (by simp) (Nat.le_trans HB2.size hgr3.size))) ?_; intro v4 w4 hown4 hg4 hnil4; obtain ⟨r4, c4, cur4, rfl, hb4, hr4, k1, k2, k3, k4⟩ := row_of hown4 (by omega); have BKd4 := blk_grown BKd3 hg4 (fun e => by cases e); have BKg4 := blk_grown BKg3 hg4 (fun e => by cases e); have z4 := blk_frozen BKg4 0; have y4 : w4.cell? ⟨g, 0, none⟩ = some (.slice none 0 0) := (blk_cell BKg4 0).trans rfl)
    | (go_at_call 15; refine (done16 (mb := mb) (ops := 0) (w := w4.setCell ⟨g, 0, none⟩ _) (blk_far BKd4 (p := ⟨g, 0, none⟩) (by have := blk_lt hd; intro e; have e : d = g := e; omega) _) (by decide) (by decide)).mono ?_; rintro e w5 ⟨rfl, q5, rfl⟩))
  go_ret
  have hmd : mb ≠ d := h.ne
  have hdl := blk_lt hd
  have hgd : g ≠ d := by omega
  have hmg : mb ≠ g := by omega
  have own4 : w4.ownsMap Try.prog 9 pr mb 1 (Dg g) := own3.kept hg4 (fun e => by cases e)
  have n7 : g ≠ r4 := blk_ne BKg4 hr4 (by decide)
  have n8 : d ≠ r4 := blk_ne BKd4 hr4 (by decide)
  subst k2
  have hlen : 0 + ys.length = ys.length := by omega
  rw [hlen] at *
  have hr5 := blk_far (w := w4.setCell ⟨g, 0, none⟩ (.slice (some ⟨r4, 0, none⟩) ys.length cur4.size)) (blk_far hr4 (p := ⟨g, 0, none⟩) (fun e => n7 e.symm) _) (p := ⟨d, 2, none⟩) (fun e => n8 e.symm) (.int .i64 1)
  refine ⟨g, r4, cur4.size, rfl, ⟨?_, ?_, ?_, ⟨cur4, hr5, by omega, Nat.le_refl _, k3, by simpa using k4⟩, h.bd, h.bm, by omega, hb4, by decide, by decide⟩, ⟨cur4, hr5, rfl⟩, ?_⟩
  · exact blk_put (w := w4.setCell ⟨g, 0, none⟩ _) (blk_far BKd4 (p := ⟨g, 0, none⟩) (fun e => hgd e.symm) _) 2 _ rfl
  · exact (own4.setCell (a := ⟨g, 0, none⟩) hmg _).setCell (a := ⟨d, 2, none⟩) hmd _
  · exact blk_far (w := w4.setCell ⟨g, 0, none⟩ _) (blk_put (w := w4) BKg4 0 _ rfl) (p := ⟨d, 2, none⟩) hgd _
  · have b1 : Below base w ((w.alloc (.cells #[.string an] 9)).drewN m) := pw_below_drewN ((Below.refl base w).alloc h.szd _) m
    have hs1 : base ≤ ((w.alloc (.cells #[.string an] 9)).drewN m).heap.size := by have := h.szd; simp; omega
    have b2 : Below base w w2 := b1.trans (HB2.mono hs1)
    have hs2 : base ≤ w2.heap.size := Nat.le_trans hs1 HB2.size
    have b3 : Below base w w3 := b2.grown hgr3 hs2 (fun k e => by have := Option.some.inj e; have := h.bm; omega)
    have b4 : Below base w w4 := b3.grown hg4 (Nat.le_trans hs2 hgr3.size) (fun k e => by cases e)
    exact pw_below_drewN ((b4.setCell (by show base ≤ g; omega) _).setCell h.bd _) q5
end Go.Proofs.Ytadonahmamopbaa.QDk
