/- The contract of Batches: each batch in new memory, its chunks apart. -/
import Derived.Test.YtdlkhjfkhbeaaaaBt1
import Derived.Test.YtdlkhjfkhbeaaaaTd1
namespace Go.Proofs.Ytdlkhjfkhbeaaaa.QIn
open Go.RowKit Go.Maps Go.Proofs.YtdlkhjfkhbeaaaaW.PrintWords Go.Proofs.YtdlkhjfkhbeaaaaW.PrintLast Go.Proofs.YtdlkhjfkhbeaaaaW.PrintMore
/-- A row inside an element, whose own elements lie apart. -/
def sliceS {α : Type} (e : Nat) (d : Kd α) : Kd (List α) where
  sz := 1
  E := e :: d.E
  K := fun w xs cs => ∃ A c, cs = [.slice A xs.length c] ∧ xs.length ≤ c ∧ d.C w A xs.length xs
  M := fun w base ok xs cs => ∃ v, cs = [v] ∧ d.S e w base ok v xs
  K_len := by
    rintro w x cs ⟨A, c, rfl, _⟩
    rfl
  K_one := by
    rintro w x cs ⟨A, c, rfl, _⟩ u hu
    rw [List.mem_singleton.1 hu]
    rfl
  K_below := by
    rintro w w1 x cs hb ⟨A, c, rfl, hl, hr⟩
    exact ⟨A, c, rfl, hl, Kd.C_below hr hb⟩
  K_of_M := by
    rintro w base ok x cs ⟨v, rfl, h⟩
    obtain ⟨A, c, rfl, hl, hr⟩ := Kd.S_reads h
    exact ⟨A, c, rfl, hl, hr⟩
  M_mono := by
    rintro w base ok ok' x cs hok ⟨v, rfl, h⟩
    exact ⟨v, rfl, Kd.S_mono h hok⟩
  M_bound := by
    rintro w base ok x cs ⟨v, rfl, h⟩
    exact ⟨v, rfl, Kd.S_bound h⟩
  M_move := by
    rintro w w1 base ok x cs hm ⟨v, rfl, h⟩
    exact ⟨v, rfl, Kd.S_move h hm⟩
  M_lower := by
    rintro w base base' ok x cs hb ⟨v, rfl, h⟩
    exact ⟨v, rfl, Kd.S_lower h hb⟩
def k41S : Kd S41 := Kd.iso (Kd.pair (Kd.int .i64) (Kd.pair (Kd.int .u64) (Kd.pair (Kd.int .u64) (sliceS 55 k55)))) (fun x : S41 => (x.f0, x.f1, x.f2, x.f3))
theorem k41S_open {w : World} {base : Nat} {ok : Nat → Prop} {x : S41} {cs : List Value} (h : k41S.M w base ok x cs) : ∃ v3, cs = [.int .i64 x.f0, .int .u64 x.f1, .int .u64 x.f2, v3] ∧ k55.S 55 w base ok v3 x.f3 := by
  obtain ⟨_, _, rfl, rfl, ⟨_, _, rfl, rfl, ⟨_, _, rfl, rfl, ⟨v3, rfl, g3⟩⟩⟩⟩ := h
  exact ⟨v3, rfl, g3⟩
theorem k41S_mkM (w : World) (base : Nat) (ok : Nat → Prop) (x : S41) {v3 : Value} (g3 : k55.S 55 w base ok v3 x.f3) : k41S.M w base ok x [.int .i64 x.f0, .int .u64 x.f1, .int .u64 x.f2, v3] :=
  ⟨[.int .i64 x.f0], [.int .u64 x.f1, .int .u64 x.f2, v3], rfl, rfl, ⟨[.int .u64 x.f1], [.int .u64 x.f2, v3], rfl, rfl, ⟨[.int .u64 x.f2], [v3], rfl, rfl, ⟨v3, rfl, g3⟩⟩⟩⟩
set_option maxRecDepth 100000 in
set_option maxHeartbeats 8000000 in
theorem batches_S {w : World} {base x : Nat} {dims meas chunk next : Int} {vf : Value} {fs : List S37} {op : Int} {vb : Value} {bs : List S70} {last : Int} (h : IN w base x dims meas chunk next vf fs op vb bs last) (hg : GoodB bs) :
    Calls Try.prog 14 #[.pointer (some ⟨x, 0, none⟩)] w fun e w' => ∃ v, e = .returned v ∧ Kd.R k41S 41 w' w.heap.size (fun _ => True) v (bs.map tld) ∧ Below w.heap.size w w' := by
  obtain ⟨A, c, rfl, hl, hC⟩ := Kd.N_reads h.hb
  have a6 : w.cell? ⟨x, 6, none⟩ = some (.slice A bs.length c) := (blk_cell h.hx 6).trans rfl
  have hgl := hg.1
  go_enter Try.func14, Try.ntmps14
  go_wp2
  clear h a6
  go_loopg [3, 13] (bs.length + 1) (fun kq v3 v13 w' => ∃ j : Nat, v13 = .int .i64 j ∧ j + kq = bs.length + 1 ∧ j ≤ bs.length ∧ Kd.R k41S 41 w' w.heap.size (fun _ => True) v3 ((bs.map tld).take j) ∧ Below w.heap.size w w')
  case atStart => exact ⟨0, rfl, by omega, by omega, Kd.R_nil _ _ _ _ _, Below.refl _ _⟩
  case round =>
    obtain ⟨j, rfl, hjk, hjl, hR, hB⟩ := hrel
    by_cases hj : j < bs.length
    · have e1 : decide ((j : Int) < (bs.length : Int)) = true := decide_eq_true (by omega)
      have p0 : 0 ≤ (j : Int) := by omega
      have q0 : (j : Int) < (bs.length : Int) := by omega
      obtain ⟨ad, A3, c3, rfl, x0, x1, x2, x3, x4, l3, C3⟩ := at_T70 (Kd.C_below hC hB) (j : Int) p0 q0
      rw [Int.toNat_natCast] at x0 x1 x2 x3 x4
      replace p0 := eq_true p0
      replace q0 := eq_true q0
      have hgc := hg.2 _ (rd70_mem hj)
      have HT := Lib.hid (tld_take hj)
      obtain ⟨b, hb⟩ : ∃ b, b = rd_T70 bs (j : Int) := ⟨_, rfl⟩
      rw [← hb] at x0 x1 x2 x3 x4 l3 C3 hgc HT
      have HR := Lib.hid hR
      have HB := Lib.hid hB
      have HC3 := Lib.hid C3
      have HG := Lib.hid hgc
      clear hR hB C3 hgc hb
      have lt0 := Lib.hid (Kd.R_lt HR.out)
      have hwr := HB.out.size
      have hln : ((bs.map tld).take j).length ≤ 1000 := by rw [List.length_take]; omega
      go_wp2_with (first
        | (go_at_call 23; refine (told_S b.f0 b.f1 b.f2 A3 c3 b.f3 b.f4 _ (Kd.C_below HC3.out ((Below.refl _ wr).alloc (Nat.le_refl _) _)) l3 HG.out).mono ?_; rintro e w3 ⟨v3, rfl, hR3, hb3⟩; have HR3 := Lib.hid (Kd.R_below (Kd.R_alloc HR.out _) hb3); have HB3 := Lib.hid (HB.out.trans (((Below.refl _ wr).alloc (Nat.le_refl _) _).mono hwr) |>.trans (hb3.mono (by simp; omega))); have hsz3 := hb3.size; rw [show (wr.alloc (.cells #[.int .i64 b.f0, .int .u64 b.f1, .int .u64 b.f2, .slice A3 b.f3.length c3, .int .i64 b.f4] 70)).heap.size = wr.heap.size + 1 from by simp] at hsz3 hR3; have HM3 := Lib.hid (Kd.S_lower (Kd.S_mono (Kd.S_bound hR3) (ok' := fun k => wr.heap.size + 1 ≤ k) (fun k hk => hk.2.1)) (show w.heap.size ≤ wr.heap.size + 1 by omega)); clear hR3 hb3)
        | ((with_reducible refine gate_builtin (b := .append) (xs := #[.tmp 17, .tmp 20]) rfl ?_); at_builtin; refine Kd.R_append k41S (w0 := w) w.heap.size rfl (.tmp 17) (.tmp 20) 49 41 (.agg #[.int .i64 0, .int .u64 0, .int .u64 0, .slice none 0 0]) 48 rfl Try.underlying49 info41 rfl (by decide) (by decide) _ ((bs.map tld).take j) (tld b) [.int .i64 b.f0, .int .u64 b.f1, .int .u64 b.f2, v3] (fun _ => True) (fun k => wr.heap.size + 1 ≤ k) rfl rfl (k41S_mkM _ _ _ (tld b) HM3.out) (fun k hk => ⟨trivial, fun e => by have := lt0.out k e.symm; omega⟩) (fun k hk => trivial) HR3.out HB3.out (by omega) (by omega) ?_; intro v5 w5 ho5 hb5 hg5 hat5))
      go_roundg (bs.length - j)
      case measure => omega
      case rel => exact ⟨j + 1, by first | rfl | simp, by omega, by omega, by rw [HT.out]; exact ho5, hb5⟩
    · have e1 : decide ((j : Int) < (bs.length : Int)) = false := decide_eq_false (by omega)
      go_wp2
      go_ret
      rw [List.take_of_length_le (by simp; omega)] at hR
      exact ⟨_, rfl, hR, hB⟩
end Go.Proofs.Ytdlkhjfkhbeaaaa.QIn
