/- Contracts of a disk that holds one file, 'a'. -/
import Derived.Test.YtadonahmamopbaaDk4
import Derived.BigQuiet
import Derived.Lib.Hide
import Derived.Laws.BytesArg
import Derived.Lib.SlBytesConst
namespace Go.Proofs.Ytadonahmamopbaa.QDk
open Go.RowKit Go.Maps Go.Proofs.YtadonahmamopbaaW.PrintWords Go.Proofs.YtadonahmamopbaaW.PrintLast Go.Proofs.YtadonahmamopbaaW.PrintMore Go.Sort Go.Lib Go.Shelf
attribute [local go_sem ↓] Go.wp_at_zero Go.wp_at_succ
/-- The file's name. -/
abbrev an : ByteArray := ⟨#[97]⟩
theorem nm_an : nm an = true := by kernel_rfl
theorem an_size : an.size ≤ maxLen := by decide
/-- What the map reads as. -/
def Dg (g : Nat) : DataW Unit := DataW.put (.map []) (.string [97]) (.lit (.int .i64 g))
theorem Dg_at (g : Nat) : (Dg g).atKey (.string an.data.toList) .nil = .lit (.int .i64 g) := atKey_put_same (Exists.intro [] rfl) (k := .string an.data.toList) trivial _ _
/-- The disk in memory: one file, its bytes in a row. -/
structure AS (w : World) (base d mb g r : Nat) (off : Bool) (ops syn : Int) (c : Nat) (bs : List Int) : Prop where mk ::
  hd : w.heap[d]? = some (dk mb off ops (-1) 0)
  own : w.ownsMap Try.prog 9 pr mb 1 (Dg g)
  hg : w.heap[g]? = some (.cells #[.slice (some ⟨r, 0, none⟩) bs.length c, .int .i64 syn] 43 (0, 0))
  row : ∃ cur, w.heap[r]? = some (.cells cur 5 (0, 0)) ∧ bs.length ≤ c ∧ c ≤ cur.size ∧ c ≤ maxLen ∧ cur.toList.take bs.length = nums .u8 bs
  bd : base ≤ d
  bm : base ≤ mb
  bg : base ≤ g
  br : base ≤ r
  o0 : 0 ≤ ops
  o1 : ops ≤ 1000
theorem AS.szd {w : World} {base d mb g r : Nat} {off : Bool} {ops syn : Int} {c : Nat} {bs : List Int} (h : AS w base d mb g r off ops syn c bs) : base ≤ w.heap.size := Nat.le_trans h.bd (Nat.le_of_lt (blk_lt h.hd))
theorem AS.below {w w1 : World} {base d mb g r : Nat} {off : Bool} {ops syn : Int} {c : Nat} {bs : List Int} (h : AS w base d mb g r off ops syn c bs) (hb : Below w.heap.size w w1) : AS w1 base d mb g r off ops syn c bs := by
  obtain ⟨cur, h1, h2⟩ := h.row
  exact ⟨blk_below h.hd hb, own_below h.own hb, blk_below h.hg hb, ⟨cur, blk_below h1 hb, h2⟩, h.bd, h.bm, h.bg, h.br, h.o0, h.o1⟩
theorem AS.ne {w : World} {base d mb g r : Nat} {off : Bool} {ops syn : Int} {c : Nat} {bs : List Int} (h : AS w base d mb g r off ops syn c bs) : d ≠ mb ∧ g ≠ mb ∧ r ≠ mb ∧ d ≠ g ∧ d ≠ r ∧ g ≠ r := by
  obtain ⟨cur, h1, h2⟩ := h.row
  obtain ⟨es, clock, hb, _⟩ := h.own
  refine ⟨?_, ?_, ?_, blk_ne h.hd h.hg (by decide), blk_ne h.hd h1 (by decide), blk_ne h.hg h1 (by decide)⟩
  · rintro rfl; have := h.hd; rw [hb] at this; cases this
  · rintro rfl; have := h.hg; rw [hb] at this; cases this
  · rintro rfl; rw [hb] at h1; cases h1
theorem AS.cells {w : World} {base d mb g r : Nat} {off : Bool} {ops syn : Int} {c : Nat} {bs : List Int} (h : AS w base d mb g r off ops syn c bs) (i : Nat) (hi : i < bs.length) : w.cell? ⟨r, 0 + i, none⟩ = some (.int .u8 (bs.getD i 0)) := by
  obtain ⟨cur, h1, h2, h3, h4, h5⟩ := h.row
  rw [Nat.zero_add, blk_cell h1, ← Array.getElem?_toList]
  have : (cur.toList.take bs.length)[i]? = (nums .u8 bs)[i]? := by rw [h5]
  rw [List.getElem?_take_of_lt hi] at this
  rw [this]
  simp [nums, List.getElem?_eq_getElem hi]
/-- The map's look-up. -/
theorem AS.look {w : World} {base d mb g r : Nat} {off : Bool} {ops syn : Int} {c : Nat} {bs : List Int} (h : AS w base d mb g r off ops syn c bs) : (Instr.lookup 37 (.map (some mb)) (.string an) false).run Try.prog w = .ok (.pointer (some ⟨g, 0, none⟩)) w := by
  obtain ⟨v, ps, hlk, hv⟩ := h.own.lookup ky (show Try.prog.underlying 37 = some (.map 9 41) by kernel_rfl) (hz37 _) (zd := .nil) (zp := []) rfl (hk9 an_size)
  rw [Dg_at] at hv
  obtain rfl := pr_ptr hv
  exact hlk
set_option maxHeartbeats 1000000 in
theorem refused_there {w : World} {base d mb g r q : Nat} {ops syn : Int} {c : Nat} {bs : List Int} (h : AS w base d mb g r false ops syn c bs) (hq : w.cell? ⟨q, 0, none⟩ = some (.string an)) :
    Calls Try.prog 14 #[.pointer (some ⟨d, 0, none⟩), .bool true, .slice (some ⟨q, 0, none⟩) 1 1] w fun e w' => e = .returned (.int .i64 0) ∧ ∃ m, w' = w.drewN m := by
  have h1 : w.cell? ⟨d, 1, none⟩ = some (.bool false) := (blk_cell h.hd 1).trans rfl
  have h0 : w.cell? ⟨d, 0, none⟩ = some (.map (some mb)) := (blk_cell h.hd 0).trans rfl
  have hlk : ∀ m, (Instr.lookup 37 (.map (some mb)) (.string an) false).run Try.prog (w.drewN m) = .ok (.pointer (some ⟨g, 0, none⟩)) (w.drewN m) := fun m => (h.below (pw_below_drewN (Below.refl _ _) m)).look
  go_enter Try.func14, Try.ntmps14
  go_wp2_with (first | (go_at_call 25; refine (containsf_calls an_size _ q hq).mono ?_; rintro e w1 ⟨rfl, m, rfl⟩; rw [nm_an]; have hlk' := hlk m))
  go_quiet (fail)
  go_wp2
  go_ret
  exact ⟨rfl, (((Drawn0.refl w).step m).step _).out⟩
/-- A new row: a copy of the file's bytes. -/
def RowAt (w : World) (v : Value) (bs : List Int) : Prop := ∃ r c cur, v = .slice (some ⟨r, 0, none⟩) bs.length c ∧ w.heap[r]? = some (.cells cur 5 (0, 0)) ∧ cur.toList.take bs.length = nums .u8 bs
/-- All rows of bytes stay. -/
def Rw (w w' : World) : Prop := ∀ (k : Nat) (cur : Array Value), w.heap[k]? = some (Obj.cells cur 5 (0, 0)) → w'.heap[k]? = some (Obj.cells cur 5 (0, 0))
theorem Rw.of_below {w w' : World} (h : Below w.heap.size w w') : Rw w w' := fun _ _ hk => blk_below hk h
theorem Rw.trans {a b c : World} (h : Rw a b) (h' : Rw b c) : Rw a c := fun k cur hk => h' k cur (h k cur hk)
theorem RowAt.move {w w' : World} {v : Value} {bs : List Int} (h : RowAt w v bs) (hr : Rw w w') : RowAt w' v bs := by
  obtain ⟨r, c, cur, h1, h2, h3⟩ := h
  exact ⟨r, c, cur, h1, hr _ _ h2, h3⟩
theorem info5 : (Try.prog.info? 5).map (fun i => (i.zero, i.size, i.bytes)) = some (some (.int .u8 0), 1, 1) := by kernel_rfl
theorem RowAt.of_own {w : World} {base : Nat} {v : Value} {bs : List Int} (h : w.ownsRow base 5 1 v bs.length (nums .u8 bs)) (h0 : 0 < bs.length) : RowAt w v bs := by
  obtain ⟨h1, h2⟩ := h
  rcases h2 with ⟨_, h2⟩ | ⟨g, cap, cur, rfl, hb, hh, hnc, hcm, hcs, ht⟩
  · omega
  · exact ⟨g, cap, cur, rfl, hh, by simpa using ht⟩
theorem RowAt.text {w : World} {v : Value} {bs : List Int} (h : RowAt w v bs) : (convert 31 9 v).run Try.prog w = .ok (.string (strOfNums bs)) w := by
  obtain ⟨r, c, cur, rfl, h2, h3⟩ := h
  refine run_convert_bytes_arg w 31 5 Try.underlying31 Try.underlying5 r 0 bs.length c bs rfl (fun i hi => ?_) 9 Try.underlying9
  rw [Nat.zero_add, blk_cell h2, ← Array.getElem?_toList]
  have : (cur.toList.take bs.length)[i]? = (nums .u8 bs)[i]? := by rw [h3]
  rw [List.getElem?_take_of_lt hi] at this
  rw [this]
  simp [nums, List.getElem?_eq_getElem hi]
set_option maxHeartbeats 1000000 in
theorem clone_calls {w : World} {base d mb g r : Nat} {off : Bool} {ops syn : Int} {c : Nat} {bs : List Int} (h : AS w base d mb g r off ops syn c bs) (h0 : 0 < bs.length) (hl : bs.length ≤ 1000) :
    Calls Try.prog 23 #[.slice (some ⟨r, 0, none⟩) bs.length c] w fun e w' => ∃ v, e = .returned v ∧ RowAt w' v bs ∧ Below w.heap.size w w' := by
  obtain ⟨i0, hi, hz0, hz1, hz2⟩ := info_parts info5
  have A := Lib.hid h
  clear h
  have q31 : ∀ (w : World) (a : Option Addr) (n c n' c' : Nat), (binOp .eql 31 (.slice a n c) (.slice none n' c')).run Try.prog w = .ok (.bool a.isNone) w := fun w a n c n' c' => Lib.run_eql_slice_nil w _ _ a n c n' c' Try.underlying31
  go_enter Try.func23, Try.ntmps23
  go_wp2_with (at_builtin; refine wpList_append_own _ rfl _ _ 31 rfl w.heap.size 5 i0 (.int .u8 0) 1 1 Try.underlying31 hi hz0 hz1 hz2 rfl (by decide) _ _ _ rfl (World.ownsRow_made w #[] 0 (Nat.le_refl _) (Nat.zero_le _) rfl) ⟨r, 0, none⟩ bs.length c (nums .u8 bs) rfl ?qc1 ?qc2 ?qc3 ?qc4 ?qc5 ?qc6 ?_)
  case qc1 => simp [nums]
  case qc2 =>
    intro j u hj
    have hjn : j < bs.length := by
      have := (List.getElem?_eq_some_iff.1 hj).1
      simpa [nums] using this
    rw [Addr.add_lit]
    refine Lib.cell?_alloc_some _ ?_
    rw [A.out.cells j hjn, ← hj]
    simp [nums, List.getElem?_eq_getElem hjn]
  case qc3 => intro u hu; obtain ⟨x, _, rfl⟩ := List.mem_map.1 hu; rfl
  case qc4 => have : maxLen = 9223372036854775807 := by decide
              omega
  case qc5 => omega
  case qc6 => simp
  intro v' w1 hown hgrow hnil
  go_wp2
  go_ret
  refine ⟨v', rfl, ?_, ?_⟩
  · exact RowAt.of_own (by simpa [nums] using hown) h0
  · exact ((Below.refl _ w).alloc (Nat.le_refl _) _).grown hgrow (by simp) (by intro k hk; simp [Value.ownBlock] at hk; omega)
set_option maxHeartbeats 1000000 in
theorem read_calls {w : World} {base d mb g r : Nat} {ops syn : Int} {c : Nat} {bs : List Int} (h : AS w base d mb g r false ops syn c bs) (h0 : 0 < bs.length) (hl : bs.length ≤ 1000) :
    Calls Try.prog 10 #[.pointer (some ⟨d, 0, none⟩), .string an] w fun e w' => ∃ v, e = .returned (.tuple #[v, .int .i64 0]) ∧ RowAt w' v bs ∧ Below w.heap.size w w' := by
  have b1 : Below w.heap.size w (w.alloc (.cells #[.string an] 9)) := (Below.refl _ w).alloc (Nat.le_refl _) _
  have h1 := h.below b1
  have c1 : (w.alloc (.cells #[.string an] 9)).cell? ⟨w.heap.size, 0, none⟩ = some (.string an) := (blk_cell (blk_new w _) 0).trans rfl
  have d0 : (w.alloc (.cells #[.string an] 9)).cell? ⟨d, 0, none⟩ = some (.map (some mb)) := (blk_cell h1.hd 0).trans rfl
  have g0 : (w.alloc (.cells #[.string an] 9)).cell? ⟨g, 0, none⟩ = some (.slice (some ⟨r, 0, none⟩) bs.length c) := (blk_cell h1.hg 0).trans rfl
  have hlk : ∀ m, (Instr.lookup 37 (.map (some mb)) (.string an) false).run Try.prog ((w.alloc (.cells #[.string an] 9)).drewN m) = .ok (.pointer (some ⟨g, 0, none⟩)) ((w.alloc (.cells #[.string an] 9)).drewN m) := fun m => (h1.below (pw_below_drewN (Below.refl _ _) m)).look
  have A := Lib.hid h1
  have A0 := Lib.hid h
  have B0 := Lib.hid h0
  clear h1 h h0
  go_enter Try.func10, Try.ntmps10
  go_wp2_with (first
    | (go_at_call 14; refine (refused_there A.out c1).mono ?_; rintro e w1 ⟨rfl, m, rfl⟩; have hlk' := hlk m; have h2 := Lib.hid (A.out.below (pw_below_drewN (Below.refl _ _) m)))
    | (go_at_call 23; refine (clone_calls h2.out B0.out hl).mono ?_; rintro e w3 ⟨v, rfl, hv, hb3⟩))
  go_ret2
  exact ⟨v, rfl, hv, (pw_below_drewN b1 m).trans (hb3.mono (by simp))⟩
theorem read_off {w : World} {base d mb g r : Nat} {ops syn : Int} {c : Nat} {bs : List Int} (h : AS w base d mb g r true ops syn c bs) :
    Calls Try.prog 10 #[.pointer (some ⟨d, 0, none⟩), .string an] w fun e w' => e = .returned (.tuple #[.slice none 0 0, .int .i64 122]) ∧ Below w.heap.size w w' := by
  have b1 : Below w.heap.size w (w.alloc (.cells #[.string an] 9)) := (Below.refl _ w).alloc (Nat.le_refl _) _
  have A := Lib.hid (h.below b1)
  clear h
  go_enter Try.func10, Try.ntmps10
  go_wp2_with (first
    | (go_at_call 14; refine (refused_off true A.out.hd).mono ?_; rintro e w1 ⟨rfl, m, rfl⟩))
  go_ret2
  exact ⟨rfl, pw_below_drewN b1 m⟩
end Go.Proofs.Ytadonahmamopbaa.QDk
