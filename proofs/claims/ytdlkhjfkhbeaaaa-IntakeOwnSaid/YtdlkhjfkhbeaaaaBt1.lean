/- The contract of Batches: each batch in new memory. -/
import Derived.Test.YtdlkhjfkhbeaaaaIk9
namespace Go.Proofs.Ytdlkhjfkhbeaaaa.QIn
open Go.RowKit Go.Maps Go.Proofs.YtdlkhjfkhbeaaaaW.PrintWords Go.Proofs.YtdlkhjfkhbeaaaaW.PrintLast Go.Proofs.YtdlkhjfkhbeaaaaW.PrintMore
/-- A batch as it is told. -/
structure S41 where
  f0 : Int
  f1 : Int
  f2 : Int
  f3 : List S55
def z41 : S41 := ⟨0, 0, 0, []⟩
def k41 : Kd S41 := Kd.iso (Kd.pair (Kd.int .i64) (Kd.pair (Kd.int .u64) (Kd.pair (Kd.int .u64) (Kd.slice 55 k55)))) (fun x : S41 => (x.f0, x.f1, x.f2, x.f3))
theorem k41_open {w : World} {x : S41} {cs : List Value} (h : k41.K w x cs) : ∃ A3 c3, cs = [.int .i64 x.f0, .int .u64 x.f1, .int .u64 x.f2, .slice A3 x.f3.length c3] ∧ x.f3.length ≤ c3 ∧ k55.C w A3 x.f3.length x.f3 := by
  obtain ⟨_, _, rfl, rfl, ⟨_, _, rfl, rfl, ⟨_, _, rfl, rfl, ⟨A3, c3, rfl, l3, g3⟩⟩⟩⟩ := h
  exact ⟨A3, c3, rfl, l3, g3⟩
theorem k41_mkM (w : World) (base : Nat) (ok : Nat → Prop) (x : S41) {v3 : Value} (g3 : k55.R 55 w base ok v3 x.f3) : k41.M w base ok x [.int .i64 x.f0, .int .u64 x.f1, .int .u64 x.f2, v3] :=
  ⟨[.int .i64 x.f0], [.int .u64 x.f1, .int .u64 x.f2, v3], rfl, rfl, ⟨[.int .u64 x.f1], [.int .u64 x.f2, v3], rfl, rfl, ⟨[.int .u64 x.f2], [v3], rfl, rfl, ⟨v3, rfl, g3⟩⟩⟩⟩
theorem k70_open {w : World} {x : S70} {cs : List Value} (h : k70.K w x cs) : ∃ A3 c3, cs = [.int .i64 x.f0, .int .u64 x.f1, .int .u64 x.f2, .slice A3 x.f3.length c3, .int .i64 x.f4] ∧ x.f3.length ≤ c3 ∧ k55.C w A3 x.f3.length x.f3 := by
  obtain ⟨_, _, rfl, rfl, ⟨_, _, rfl, rfl, ⟨_, _, rfl, rfl, ⟨_, _, rfl, ⟨A3, c3, rfl, l3, g3⟩, rfl⟩⟩⟩⟩ := h
  exact ⟨A3, c3, rfl, l3, g3⟩
def rd_T70 (xs : List S70) (i : Int) : S70 := xs.getD i.toNat z70
theorem at_T70 {w : World} {A : Option Addr} {n : Nat} {xs : List S70} (h : Kd.C k70 w A n xs) (i : Int) (h0 : 0 ≤ i) (h1 : i < n) : ∃ ad A3 c3, A = some ad ∧ w.cell? (ad.add (i.toNat * 5)) = some (.int .i64 (rd_T70 xs i).f0) ∧ w.cell? ⟨(ad.add (i.toNat * 5)).block, (ad.add (i.toNat * 5)).off + 1, none⟩ = some (.int .u64 (rd_T70 xs i).f1) ∧ w.cell? ⟨(ad.add (i.toNat * 5)).block, (ad.add (i.toNat * 5)).off + 2, none⟩ = some (.int .u64 (rd_T70 xs i).f2) ∧
    w.cell? ⟨(ad.add (i.toNat * 5)).block, (ad.add (i.toNat * 5)).off + 3, none⟩ = some (.slice A3 (rd_T70 xs i).f3.length c3) ∧ w.cell? ⟨(ad.add (i.toNat * 5)).block, (ad.add (i.toNat * 5)).off + 4, none⟩ = some (.int .i64 (rd_T70 xs i).f4) ∧ (rd_T70 xs i).f3.length ≤ c3 ∧ Kd.C k55 w A3 (rd_T70 xs i).f3.length (rd_T70 xs i).f3 := by
  obtain ⟨ad, c, e, _, hK, hc0⟩ := Kd.C_get h z70 i h0 h1
  have hc : ∀ j u, c[j]? = some u → w.cell? (ad.add (i.toNat * 5 + j)) = some u := hc0
  obtain ⟨A3, c3, rfl, l3, g3⟩ := k70_open hK
  exact ⟨ad, A3, c3, e, hc 0 _ rfl, by rw [← add_field _ _ 1 (by omega)]; exact hc 1 _ rfl, by rw [← add_field _ _ 2 (by omega)]; exact hc 2 _ rfl, by rw [← add_field _ _ 3 (by omega)]; exact hc 3 _ rfl, by rw [← add_field _ _ 4 (by omega)]; exact hc 4 _ rfl, l3, g3⟩
theorem info41 : (Try.prog.info? 41).map (fun i => (i.zero, i.size, i.bytes)) = some (some (.agg #[.int .i64 0, .int .u64 0, .int .u64 0, .slice none 0 0]), 4, 48) := by kernel_rfl
def tld (b : S70) : S41 := ⟨b.f0, b.f1, b.f2, b.f3⟩
def GoodB (bs : List S70) : Prop := bs.length ≤ 1000 ∧ ∀ b ∈ bs, GoodC b.f3
theorem rd70_mem {l : List S70} {j : Nat} (h : j < l.length) : rd_T70 l j ∈ l := by
  unfold rd_T70
  rw [Int.toNat_natCast, List.getD_eq_getElem?_getD, List.getElem?_eq_getElem h, Option.getD_some]
  exact List.getElem_mem h
theorem tld_take {l : List S70} {j : Nat} (h : j < l.length) : (l.map tld).take (j + 1) = (l.map tld).take j ++ [tld (rd_T70 l j)] := by
  unfold rd_T70
  rw [Int.toNat_natCast, List.getD_eq_getElem?_getD, List.getElem?_eq_getElem h, Option.getD_some, List.take_succ_eq_append_getElem (by simpa using h)]
  simp
set_option maxRecDepth 100000 in
set_option maxHeartbeats 8000000 in
theorem batches_calls {w : World} {base x : Nat} {dims meas chunk next : Int} {vf : Value} {fs : List S37} {op : Int} {vb : Value} {bs : List S70} {last : Int} (h : IN w base x dims meas chunk next vf fs op vb bs last) (hg : GoodB bs) :
    Calls Try.prog 14 #[.pointer (some ⟨x, 0, none⟩)] w fun e w' => ∃ v, e = .returned v ∧ Kd.R k41 41 w' w.heap.size (fun _ => True) v (bs.map tld) ∧ Below w.heap.size w w' := by
  obtain ⟨A, c, rfl, hl, hC⟩ := Kd.N_reads h.hb
  have a6 : w.cell? ⟨x, 6, none⟩ = some (.slice A bs.length c) := (blk_cell h.hx 6).trans rfl
  have hgl := hg.1
  go_enter Try.func14, Try.ntmps14
  go_wp2
  clear h a6
  go_loopg [3, 13] (bs.length + 1) (fun kq v3 v13 w' => ∃ j : Nat, v13 = .int .i64 j ∧ j + kq = bs.length + 1 ∧ j ≤ bs.length ∧ Kd.R k41 41 w' w.heap.size (fun _ => True) v3 ((bs.map tld).take j) ∧ Below w.heap.size w w')
  case atStart => exact ⟨0, rfl, by omega, by omega, Kd.R_nil _ _ _ _ _, Below.refl _ _⟩
  case round =>
    obtain ⟨j, rfl, hjk, hjl, hR, hB⟩ := hrel
    by_cases hj : j < bs.length
    · have e1 : decide ((j : Int) < (bs.length : Int)) = true := decide_eq_true (by omega)
      have p0 : 0 ≤ (j : Int) := by omega
      have q0 : (j : Int) < (bs.length : Int) := by omega
      obtain ⟨ad, A3, c3, rfl, x0, x1, x2, x3, x4, l3, C3⟩ := at_T70 (Kd.C_below hC hB) (j : Int) p0 q0
      rw [Int.toNat_natCast] at x0 x1 x2 x3 x4
      replace p0 := eq_true p0
      replace q0 := eq_true q0
      have hgc := hg.2 _ (rd70_mem hj)
      have HT := Lib.hid (tld_take hj)
      obtain ⟨b, hb⟩ : ∃ b, b = rd_T70 bs (j : Int) := ⟨_, rfl⟩
      rw [← hb] at x0 x1 x2 x3 x4 l3 C3 hgc HT
      have HR := Lib.hid hR
      have HB := Lib.hid hB
      have HC3 := Lib.hid C3
      have HG := Lib.hid hgc
      clear hR hB C3 hgc hb
      have lt0 := Lib.hid (Kd.R_lt HR.out)
      have hwr := HB.out.size
      have hln : ((bs.map tld).take j).length ≤ 1000 := by rw [List.length_take]; omega
      go_wp2_with (first
        | (go_at_call 23; refine (told_calls b.f0 b.f1 b.f2 A3 c3 b.f3 b.f4 _ (Kd.C_below HC3.out ((Below.refl _ wr).alloc (Nat.le_refl _) _)) l3 HG.out).mono ?_; rintro e w3 ⟨v3, rfl, hR3, hb3⟩; have HR3 := Lib.hid (Kd.R_below (Kd.R_alloc HR.out _) hb3); have HB3 := Lib.hid (HB.out.trans (((Below.refl _ wr).alloc (Nat.le_refl _) _).mono hwr) |>.trans (hb3.mono (by simp; omega))); have hsz3 := hb3.size; rw [show (wr.alloc (.cells #[.int .i64 b.f0, .int .u64 b.f1, .int .u64 b.f2, .slice A3 b.f3.length c3, .int .i64 b.f4] 70)).heap.size = wr.heap.size + 1 from by simp] at hsz3 hR3; have HM3 := Lib.hid (Kd.R_lower (Kd.R_mono (Kd.R_bound hR3) (ok' := fun k => wr.heap.size + 1 ≤ k) (fun k hk => hk.2.1)) (show w.heap.size ≤ wr.heap.size + 1 by omega)); clear hR3 hb3)
        | ((with_reducible refine gate_builtin (b := .append) (xs := #[.tmp 17, .tmp 20]) rfl ?_); at_builtin; refine Kd.R_append k41 (w0 := w) w.heap.size rfl (.tmp 17) (.tmp 20) 49 41 (.agg #[.int .i64 0, .int .u64 0, .int .u64 0, .slice none 0 0]) 48 rfl Try.underlying49 info41 rfl (by decide) (by decide) _ ((bs.map tld).take j) (tld b) [.int .i64 b.f0, .int .u64 b.f1, .int .u64 b.f2, v3] (fun _ => True) (fun k => wr.heap.size + 1 ≤ k) rfl rfl (k41_mkM _ _ _ (tld b) HM3.out) (fun k hk => ⟨trivial, fun e => by have := lt0.out k e.symm; omega⟩) (fun k hk => trivial) HR3.out HB3.out (by omega) (by omega) ?_; intro v5 w5 ho5 hb5 hg5 hat5))
      go_roundg (bs.length - j)
      case measure => omega
      case rel => exact ⟨j + 1, by first | rfl | simp, by omega, by omega, by rw [HT.out]; exact ho5, hb5⟩
    · have e1 : decide ((j : Int) < (bs.length : Int)) = false := decide_eq_false (by omega)
      go_wp2
      go_ret
      rw [List.take_of_length_le (by simp; omega)] at hR
      exact ⟨_, rfl, hR, hB⟩
end Go.Proofs.Ytdlkhjfkhbeaaaa.QIn
