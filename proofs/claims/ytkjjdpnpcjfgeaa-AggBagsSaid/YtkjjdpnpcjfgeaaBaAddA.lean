/- Small laws for the walk of agg.Add. -/
import Derived.Test.YtkjjdpnpcjfgeaaBaHand0
namespace Go.Proofs.Ytkjjdpnpcjfgeaa.QAgg
open Go.RowKit Go.Proofs.YtkjjdpnpcjfgeaaW.PrintWords Go.Proofs.YtkjjdpnpcjfgeaaW.PrintLast Go.Proofs.YtkjjdpnpcjfgeaaW.PrintMore
theorem neqmn (w : World) : (binOp .neq 53 .nilFunc .nilFunc).run Try.prog w = .ok (.bool false) w := by kernel_rfl
theorem neqm35 (w : World) : (binOp .neq 53 (.func (.func 35) #[] #[]) .nilFunc).run Try.prog w = .ok (.bool true) w := by kernel_rfl
theorem neqm33 (w : World) : (binOp .neq 53 (.func (.func 33) #[] #[]) .nilFunc).run Try.prog w = .ok (.bool true) w := by kernel_rfl
theorem at_int' {w : World} {A : Option Addr} {n : Nat} {k : IntKind} {xs : List Int} (h : (Kd.int k).C w A n xs) (i : Int) (h0 : 0 ≤ i) (h1 : i < n) : ∃ ad, A = some ad ∧ w.cell? (ad.add i.toNat) = some (.int k (rd xs i)) := Kd.at_int h i h0 h1
theorem at_str' {w : World} {A : Option Addr} {n : Nat} {xs : List ByteArray} (h : Kd.string.C w A n xs) (i : Int) (h0 : 0 ≤ i) (h1 : i < n) : ∃ ad, A = some ad ∧ w.cell? (ad.add i.toNat) = some (.string (rdOf ByteArray.empty xs i)) := Kd.at_string h i h0 h1
theorem C_one {W : World} {g : Nat} {s : ByteArray} (h : W.heap[g]? = some (.cells #[.string s] 9 (0, 0))) : Kd.C Kd.string W (some ⟨g, 0, none⟩) [s].length [s] := by
  have := Kd.R_of_own (e := 9) (w := W) (base := 0) (ok := fun _ => True) (v := .slice (some ⟨g, 0, none⟩) 1 1) (xs := [s]) (enc := Value.string) (h1 := fun _ => rfl) ⟨rfl, .inr ⟨g, 1, _, rfl, Nat.zero_le _, h, Nat.le_refl _, by decide, rfl, rfl⟩⟩ (fun _ _ => trivial)
  exact (Kd.R_reads' this).2.2
end Go.Proofs.Ytkjjdpnpcjfgeaa.QAgg
