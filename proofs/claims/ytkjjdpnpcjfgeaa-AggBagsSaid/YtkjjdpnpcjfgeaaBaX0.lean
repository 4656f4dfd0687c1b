/- Pruned for this claim by a program. -/
import Derived.Test.YtkjjdpnpcjfgeaaProg
import Derived.WalkLawsBesides
import Derived.Below
import Derived.Deep.Draws
import Derived.Deep.AppendLies
import Derived.Maps.AppendAt
import Derived.OwnWalk
import Derived.Laws.BytesArg
import Derived.Laws.MakeOwn
import Derived.Laws.OwnMore
import Derived.Deep.OwnRows
import Derived.Tactics
import Derived.Lib.ConvBytes
import Derived.Laws.Slices
import Derived.WalkKit
import Derived.KernelRfl
import Derived.RowKit3
import Derived.Deep.LoopGhost
import Derived.Deep.QuietTactic
import Derived.BigQuiet
import Derived.WideLaws
import Derived.Deep.DeepCutAuto
import Derived.Deep.CutBlock
import Derived.Deep.RegionHeld3
import Derived.Laws.Rows
import Derived.Lib.AppendStr
import Derived.ArgAppend
import Derived.Laws.IdiomCopy
import Derived.OrdersHeld
import Derived.Laws.BitsLemmas
import Derived.RowKit
import Derived.Test.YtkjjdpnpcjfgeaaBaW
namespace Go.Proofs.Ytkjjdpnpcjfgeaa.QAgg
open Go.RowKit Go.Proofs.YtkjjdpnpcjfgeaaW.PrintWords Go.Proofs.YtkjjdpnpcjfgeaaW.PrintLast Go.Proofs.YtkjjdpnpcjfgeaaW.PrintMore
attribute [local go_sem] max2_int min2_int max_two min_two max_three min_three max_four min_four   -- for this text's walks alone
set_option linter.unusedVariables false
set_option linter.unusedSimpArgs false

theorem info39 : (Try.prog.info? 39).map (fun i => (i.zero, i.size, i.bytes)) = some (some (.agg #[(.int .i64 0), (.slice none 0 0), (.slice none 0 0), (.int .u64 0)]), 4, 64) := by kernel_rfl
structure S37 where
  f0 : Int
  f1 : (List ByteArray)
  f2 : (List Int)
def z37 : S37 := ⟨(0 : Int), ([] : List ByteArray), ([] : List Int)⟩
def k37 : Kd S37 := Kd.iso (Kd.pair (Kd.int .i64) (Kd.pair (Kd.slice 9 Kd.string) (Kd.slice 2 (Kd.int .i64)))) (fun x : S37 => (x.f0, x.f1, x.f2))
theorem k37_open {w : World} {x : S37} {cs : List Value} (h : k37.K w x cs) : ∃ A1 c1 A2 c2, cs = [.int .i64 x.f0, .slice A1 x.f1.length c1, .slice A2 x.f2.length c2] ∧ x.f1.length ≤ c1 ∧ Kd.string.C w A1 x.f1.length x.f1 ∧ x.f2.length ≤ c2 ∧ (Kd.int .i64).C w A2 x.f2.length x.f2 := by
  obtain ⟨_, _, rfl, rfl, ⟨_, _, rfl, ⟨A1, c1, rfl, l1, g1⟩, ⟨A2, c2, rfl, l2, g2⟩⟩⟩ := h
  exact ⟨A1, c1, A2, c2, rfl, l1, g1, l2, g2⟩
theorem k37_mk (w : World) (x : S37) {A1 : Option Addr} {c1 : Nat} (l1 : x.f1.length ≤ c1) (g1 : Kd.string.C w A1 x.f1.length x.f1) {A2 : Option Addr} {c2 : Nat} (l2 : x.f2.length ≤ c2) (g2 : (Kd.int .i64).C w A2 x.f2.length x.f2) : k37.K w x [.int .i64 x.f0, .slice A1 x.f1.length c1, .slice A2 x.f2.length c2] := ⟨[.int .i64 x.f0], [.slice A1 x.f1.length c1, .slice A2 x.f2.length c2], rfl, rfl, ⟨[.slice A1 x.f1.length c1], [.slice A2 x.f2.length c2], rfl, ⟨A1, c1, rfl, l1, g1⟩, ⟨A2, c2, rfl, l2, g2⟩⟩⟩
theorem k37_mkM (w : World) (base : Nat) (ok : Nat → Prop) (x : S37) {v1 : Value} (g1 : Kd.string.R 9 w base ok v1 x.f1) {v2 : Value} (g2 : (Kd.int .i64).R 2 w base ok v2 x.f2) : k37.M w base ok x [.int .i64 x.f0, v1, v2] := ⟨[.int .i64 x.f0], [v1, v2], rfl, rfl, ⟨[v1], [v2], rfl, ⟨v1, rfl, g1⟩, ⟨v2, rfl, g2⟩⟩⟩
structure S39 where
  f0 : S37
  f1 : Int
def z39 : S39 := ⟨z37, (0 : Int)⟩
def k39 : Kd S39 := Kd.iso (Kd.pair k37 (Kd.int .u64)) (fun x : S39 => (x.f0, x.f1))
theorem k39_open {w : World} {x : S39} {cs : List Value} (h : k39.K w x cs) : ∃ A1 c1 A2 c2, cs = [.int .i64 x.f0.f0, .slice A1 x.f0.f1.length c1, .slice A2 x.f0.f2.length c2, .int .u64 x.f1] ∧ x.f0.f1.length ≤ c1 ∧ Kd.string.C w A1 x.f0.f1.length x.f0.f1 ∧ x.f0.f2.length ≤ c2 ∧ (Kd.int .i64).C w A2 x.f0.f2.length x.f0.f2 := by
  obtain ⟨_, _, rfl, s0, rfl⟩ := h
  obtain ⟨A1, c1, A2, c2, rfl, l1, g1, l2, g2⟩ := k37_open s0
  exact ⟨A1, c1, A2, c2, rfl, l1, g1, l2, g2⟩
theorem k39_mk (w : World) (x : S39) {A1 : Option Addr} {c1 : Nat} (l1 : x.f0.f1.length ≤ c1) (g1 : Kd.string.C w A1 x.f0.f1.length x.f0.f1) {A2 : Option Addr} {c2 : Nat} (l2 : x.f0.f2.length ≤ c2) (g2 : (Kd.int .i64).C w A2 x.f0.f2.length x.f0.f2) : k39.K w x [.int .i64 x.f0.f0, .slice A1 x.f0.f1.length c1, .slice A2 x.f0.f2.length c2, .int .u64 x.f1] := ⟨[.int .i64 x.f0.f0, .slice A1 x.f0.f1.length c1, .slice A2 x.f0.f2.length c2], [.int .u64 x.f1], rfl, (k37_mk w x.f0 l1 g1 l2 g2), rfl⟩
theorem k39_mkM (w : World) (base : Nat) (ok : Nat → Prop) (x : S39) {v1 : Value} (g1 : Kd.string.R 9 w base ok v1 x.f0.f1) {v2 : Value} (g2 : (Kd.int .i64).R 2 w base ok v2 x.f0.f2) : k39.M w base ok x [.int .i64 x.f0.f0, v1, v2, .int .u64 x.f1] := ⟨[.int .i64 x.f0.f0, v1, v2], [.int .u64 x.f1], rfl, (k37_mkM w base ok x.f0 g1 g2), rfl⟩
theorem k39_openF {W : World} {ok : Nat → Prop} {x : S39} {cs : List Value} (h : Kd.FK k39 W ok x cs) : ∃ A1 c1 A2 c2, cs = [.int .i64 x.f0.f0, .slice A1 x.f0.f1.length c1, .slice A2 x.f0.f2.length c2, .int .u64 x.f1] ∧ x.f0.f1.length ≤ c1 ∧ Kd.F Kd.string W ok A1 x.f0.f1.length x.f0.f1 ∧ x.f0.f2.length ≤ c2 ∧ Kd.F (Kd.int .i64) W ok A2 x.f0.f2.length x.f0.f2 := by
  obtain ⟨A1, c1, A2, c2, rfl, l1, _, l2, _⟩ := k39_open (Kd.FK_now h)
  exact ⟨A1, c1, A2, c2, rfl, l1, (fun W' hW => by obtain ⟨A1_, c1_, A2_, c2_, he, l1_, g1_, l2_, g2_⟩ := k39_open (h W' hW); injection (Option.some.inj (show some (Value.slice A1 x.f0.f1.length c1) = some (Value.slice A1_ x.f0.f1.length c1_) from congrArg (fun l => l[1]?) he)) with ha_ _ _; rw [ha_]; exact g1_), l2, (fun W' hW => by obtain ⟨A1_, c1_, A2_, c2_, he, l1_, g1_, l2_, g2_⟩ := k39_open (h W' hW); injection (Option.some.inj (show some (Value.slice A2 x.f0.f2.length c2) = some (Value.slice A2_ x.f0.f2.length c2_) from congrArg (fun l => l[2]?) he)) with ha_ _ _; rw [ha_]; exact g2_)⟩
theorem k39_mkF (W : World) (ok : Nat → Prop) (x : S39) {A1 : Option Addr} {c1 : Nat} (l1 : x.f0.f1.length ≤ c1) (g1 : Kd.F Kd.string W ok A1 x.f0.f1.length x.f0.f1) {A2 : Option Addr} {c2 : Nat} (l2 : x.f0.f2.length ≤ c2) (g2 : Kd.F (Kd.int .i64) W ok A2 x.f0.f2.length x.f0.f2) : Kd.FK k39 W ok x [.int .i64 x.f0.f0, .slice A1 x.f0.f1.length c1, .slice A2 x.f0.f2.length c2, .int .u64 x.f1] := fun W2 hW => k39_mk W2 x l1 (g1 W2 hW) l2 (g2 W2 hW)
def rd_T39 (xs : List S39) (i : Int) : S39 := xs.getD i.toNat z39
theorem at_T39 {w : World} {A : Option Addr} {n : Nat} {xs : List S39} (h : Kd.C k39 w A n xs) (i : Int) (h0 : 0 ≤ i) (h1 : i < n) : ∃ ad A1 c1 A2 c2, A = some ad ∧ w.cell? (ad.add (i.toNat * 4)) = some (.int .i64 (rd_T39 xs i).f0.f0) ∧ w.cell? ⟨(ad.add (i.toNat * 4)).block, (ad.add (i.toNat * 4)).off + 1, none⟩ = some (.slice A1 (rd_T39 xs i).f0.f1.length c1) ∧ w.cell? ⟨(ad.add (i.toNat * 4)).block, (ad.add (i.toNat * 4)).off + 2, none⟩ = some (.slice A2 (rd_T39 xs i).f0.f2.length c2) ∧ w.cell? ⟨(ad.add (i.toNat * 4)).block, (ad.add (i.toNat * 4)).off + 3, none⟩ = some (.int .u64 (rd_T39 xs i).f1) ∧ (rd_T39 xs i).f0.f1.length ≤ c1 ∧ Kd.string.C w A1 (rd_T39 xs i).f0.f1.length (rd_T39 xs i).f0.f1 ∧ (rd_T39 xs i).f0.f2.length ≤ c2 ∧ (Kd.int .i64).C w A2 (rd_T39 xs i).f0.f2.length (rd_T39 xs i).f0.f2 := by
  obtain ⟨ad, c, e, _, hK, hc0⟩ := Kd.C_get h z39 i h0 h1
  have hc : ∀ j u, c[j]? = some u → w.cell? (ad.add (i.toNat * 4 + j)) = some u := hc0
  obtain ⟨A1, c1, A2, c2, rfl, l1, g1, l2, g2⟩ := k39_open hK
  exact ⟨ad, A1, c1, A2, c2, e, hc 0 _ rfl, by rw [← add_field _ _ 1 (by omega)]; exact hc 1 _ rfl, by rw [← add_field _ _ 2 (by omega)]; exact hc 2 _ rfl, by rw [← add_field _ _ 3 (by omega)]; exact hc 3 _ rfl, l1, g1, l2, g2⟩

end Go.Proofs.Ytkjjdpnpcjfgeaa.QAgg
