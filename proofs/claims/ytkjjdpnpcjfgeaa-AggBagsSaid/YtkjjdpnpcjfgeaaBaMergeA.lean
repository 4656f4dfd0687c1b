/- Small laws for the walk of agg.Merge. -/
import Derived.Test.YtkjjdpnpcjfgeaaBaFns
import Derived.Deep.DeepCutAuto
import Derived.Deep.CutBlock
namespace Go.Proofs.Ytkjjdpnpcjfgeaa
open Go.RowKit Go.Proofs.YtkjjdpnpcjfgeaaW.PrintWords Go.Proofs.YtkjjdpnpcjfgeaaW.PrintLast Go.Proofs.YtkjjdpnpcjfgeaaW.PrintMore

/-- What lies at the four boxes of Merge: p's and the result's, at wc. -/
def MidAt (w : World) (gp gr : Nat) (n v : Int) (l : List ByteArray) (wc : World) : Prop :=
  ∃ A c, wc.heap[gp]? = some (.cells #[.int .u64 n, .int .i64 v, .slice A l.length c] 33 (0, 0)) ∧ Kd.C Kd.string wc A l.length l ∧
    wc.heap[gr]? = some (.cells #[.int .u64 0, .int .i64 0, .slice none 0 0] 33 (0, 0)) ∧ Below w.heap.size w wc
theorem ne_new {w : World} {g g' : Nat} {o : Obj} (h : w.heap[g]? = some o) (e : g' = w.heap.size) : g ≠ g' := by rw [e]; exact Nat.ne_of_lt (blk_lt h)
theorem ge_new {w W : World} {g : Nat} (h : Below w.heap.size w W) (e : g = W.heap.size) : w.heap.size ≤ g := by rw [e]; exact h.size
theorem new_cell {W : World} {cs : Array Value} {t : TypeId} {n : Nat} (hn : n = W.heap.size) (i : Nat) : (W.alloc (.cells cs t)).cell? ⟨n, i, none⟩ = cs[i]? := by
  subst hn
  exact blk_cell (blk_new W _) i
theorem clone_any (A : Option Addr) (n c : Nat) (l : List ByteArray) (w : World) (hn : n = l.length) (hr : Kd.C Kd.string w A l.length l) (hbig : l.length * 16 ≤ 140737488355328) :
    Calls Try.prog 20 #[.slice A n c] w fun e w' => ∃ v, e = .returned v ∧ Kd.R Kd.string 9 w' w.heap.size (fun _ => True) v l ∧ Below w.heap.size w w' := by
  subst hn
  exact clone_calls A c l w hr hbig
theorem ne_own {v : Value} {base g : Nat} (hb : ∀ k, v.ownBlock = some k → base ≤ k) (hg : g < base) : some g ≠ v.ownBlock := fun e => by
  have := hb _ e.symm
  omega
theorem cell_apart {w : World} {p q : Addr} {u x : Value} (h : w.cell? q = some x) (hne : q.block ≠ p.block) : (w.setCell p u).cell? q = some x :=
  (World.cell?_of_block (Below.heap_setCell w p u q.block hne)).trans h
section
variable {P : Program} {ops : Array Oper} {rest : List Oper} {o : Oper} {a : Act} {Q : Exit → Act → World → Prop}
theorem store_event {W : World} (hgd : o.guard = none) (ty : TypeId) (x y : Operand) (ho : o.op = .store ty x y) {g : Nat} {t : TypeId} {old : Array Value} (vs : Array Value)
    (hx : a.eval x = .pointer (some ⟨g, 0, none⟩)) (hg : W.heap[g]? = some (.cells old t (0, 0))) (hy : a.eval y = .agg vs) (hi : (P.info? ty).map (·.size) = some vs.size) (hs : old.size = vs.size) (h1 : vs.toList.all (·.oneCell') = true)
    (h : ∀ w1, w1.heap[g]? = some (.cells vs t (0, 0)) → W.grownBy w1 (some g) → wpList P ops Q rest (a.put o.dst undef) w1) : wpList P ops Q (o :: rest) a W :=
  wpList_plain hgd fun K hK => by
    have hr := run_storeVar_row (P := P) W g t ty old vs hg hi hs (by simpa using h1)
    unfold Oper.wp execOp
    simp only [ho, hx, hy, Instr.storeAt, Instr.sureAddr, Sem.run_bind, Sem.run_pure, Result.andThen_ok, hr]
    exact hK _ _ (h _ (setRow_heap W g old vs t (0, 0) hg) ⟨rfl, rfl, rfl, by simp, fun k _ hk => setRow_other W g k vs (fun e => hk (by rw [e]))⟩)
end
theorem neqn (w : World) : (binOp .neq 54 .nilFunc .nilFunc).run Try.prog w = .ok (.bool false) w := by kernel_rfl
theorem neq36 (w : World) : (binOp .neq 54 (.func (.func 36) #[] #[]) .nilFunc).run Try.prog w = .ok (.bool true) w := by kernel_rfl
theorem neq38 (w : World) : (binOp .neq 54 (.func (.func 38) #[] #[]) .nilFunc).run Try.prog w = .ok (.bool true) w := by kernel_rfl
theorem neq39 (w : World) : (binOp .neq 54 (.func (.func 39) #[] #[]) .nilFunc).run Try.prog w = .ok (.bool true) w := by kernel_rfl
theorem i33 : (Try.prog.info? 33).map (·.size) = some 3 := by kernel_rfl
end Go.Proofs.Ytkjjdpnpcjfgeaa
