/- Pruned for this claim by a program. -/
import Derived.Test.YtkjjdpnpcjfgeaaProg
import Derived.WalkKit
import Derived.KernelRfl
import Derived.WalkLawsBesides
import Derived.WalkSpells
import Derived.Deep.WholeRow
import Derived.Laws.EntriesVeiled
import Derived.Deep.RegionHeld3
import Derived.Deep.DrawnRows
namespace Go.Proofs.Ytkjjdpnpcjfgeaa
open Go.RowKit
section
variable {P : Program} {ops : Array Oper} {rest : List Oper} {o : Oper} {a : Act} {Q : Exit → Act → World → Prop}
theorem wpList_store_new {W : World} (hgd : o.guard = none) (ty : TypeId) (x y : Operand) (ho : o.op = .store ty x y) (c c' : Array Value)
    (hx : a.eval x = .pointer (some ⟨W.heap.size, 0, none⟩)) (hy : a.eval y = .agg c') (hi : (P.info? ty).map (·.size) = some c'.size) (hs : c.size = c'.size) (h1 : c'.all (·.oneCell') = true)
    (h : wpList P ops Q rest (a.put o.dst undef) (W.alloc (.cells c' ty))) : wpList P ops Q (o :: rest) a (W.alloc (.cells c ty)) :=
  wpList_plain hgd fun K hK => by
    unfold Oper.wp execOp
    simp only [ho, hx, hy]
    have := run_storeAt_new (P := P) W ty c c' hi hs h1
    simp only [Sem.run_bind, Sem.run_pure, this, Result.andThen_ok]
    exact hK _ _ h
end

def KS : Array Value := #[.bool false, .nilFunc, .nilFunc, .nilFunc, .bool false, .nilFunc, .nilFunc, .func (.func 34) #[] #[],
  .bool false, .func (.func 35) #[] #[], .func (.func 36) #[] #[], .func (.func 37) #[] #[],
  .bool false, .func (.func 33) #[] #[], .func (.func 38) #[] #[], .func (.func 37) #[] #[],
  .bool false, .func (.func 33) #[] #[], .func (.func 39) #[] #[], .func (.func 37) #[] #[],
  .bool true, .nilFunc, .nilFunc, .func (.func 40) #[] #[]]
theorem u67 : ∃ e : TypeId, Try.prog.underlying 67 = some (.array 6 e) := ⟨57, by kernel_rfl⟩
theorem i67 : (Try.prog.info? 67).map (·.size) = some KS.size := by kernel_rfl

set_option maxRecDepth 100000 in
set_option maxHeartbeats 400000 in
theorem kinds_calls (w : World) : Calls Try.prog 27 #[] w fun e w' => e = .returned (.agg KS) ∧ w.alloc (.cells KS 67) = w' := by
  go_enter Try.func27, Try.ntmps27
  go_wp2_with (refine wpList_store_new rfl 67 (.tmp 0) (.tmp 9) rfl _ KS rfl rfl i67 rfl (by decide +kernel) ?_)
  obtain ⟨e, he⟩ := u67
  exact bodyPost_ret (v := .agg KS) (results_cell_row Try.results27 _ _ _ 67 KS (0, 0) _ rfl (heap_alloc_new _ _) he rfl i67) rfl ⟨rfl, rfl⟩
theorem index_ks1 (w : World) : (Instr.index 67 (.agg KS) (.int .i64 1)).run Try.prog w = .ok (.agg #[(.bool false), .nilFunc, .nilFunc, (.func (.func 34) #[] #[])]) w := by kernel_rfl
theorem index_ks2 (w : World) : (Instr.index 67 (.agg KS) (.int .i64 2)).run Try.prog w = .ok (.agg #[(.bool false), (.func (.func 35) #[] #[]), (.func (.func 36) #[] #[]), (.func (.func 37) #[] #[])]) w := by kernel_rfl
theorem index_ks3 (w : World) : (Instr.index 67 (.agg KS) (.int .i64 3)).run Try.prog w = .ok (.agg #[(.bool false), (.func (.func 33) #[] #[]), (.func (.func 38) #[] #[]), (.func (.func 37) #[] #[])]) w := by kernel_rfl
theorem index_ks4 (w : World) : (Instr.index 67 (.agg KS) (.int .i64 4)).run Try.prog w = .ok (.agg #[(.bool false), (.func (.func 33) #[] #[]), (.func (.func 39) #[] #[]), (.func (.func 37) #[] #[])]) w := by kernel_rfl
theorem index_ks5 (w : World) : (Instr.index 67 (.agg KS) (.int .i64 5)).run Try.prog w = .ok (.agg #[(.bool true), .nilFunc, .nilFunc, (.func (.func 40) #[] #[])]) w := by kernel_rfl
theorem i57 : (Try.prog.info? 57).map (·.size) = some 4 := by kernel_rfl
attribute [local go_sem ↓] Go.wp_at_zero Go.wp_at_succ
set_option maxRecDepth 100000 in
set_option maxHeartbeats 400000 in
theorem known_calls1 (c : Int) (w : World) : Calls Try.prog 18 #[.agg #[.int .i64 1, .int .i64 c]] w fun e w' => e = .returned (.tuple #[.agg #[(.bool false), .nilFunc, .nilFunc, (.func (.func 34) #[] #[])], .bool true]) ∧ Below w.heap.size w w' := by
  have hx := index_ks1
  go_enter Try.func18, Try.ntmps18
  go_wp2_with fail
  go_region_held3 (fun w' => w'.cell? ⟨w.heap.size, 0, none⟩ = some (.int .i64 1)) (go_keep) (first | (go_at_call 27; refine (kinds_calls _).mono ?_; rintro e w' ⟨rfl, rfl⟩))
  go_wp2
  refine bodyPost_ret (v := .tuple #[.agg #[(.bool false), .nilFunc, .nilFunc, (.func (.func 34) #[] #[])], .bool true]) (by simp [results, Try.results18, go_sem]) rfl ⟨rfl, ?_⟩
  repeat (first | exact Below.refl _ _ | refine Below.drew ?_ | refine Below.alloc ?_ (by simp; try omega) _)
set_option maxRecDepth 100000 in
set_option maxHeartbeats 400000 in
theorem known_calls2 (c : Int) (w : World) : Calls Try.prog 18 #[.agg #[.int .i64 2, .int .i64 c]] w fun e w' => e = .returned (.tuple #[.agg #[(.bool false), (.func (.func 35) #[] #[]), (.func (.func 36) #[] #[]), (.func (.func 37) #[] #[])], .bool true]) ∧ Below w.heap.size w w' := by
  have hx := index_ks2
  go_enter Try.func18, Try.ntmps18
  go_wp2_with fail
  go_region_held3 (fun w' => w'.cell? ⟨w.heap.size, 0, none⟩ = some (.int .i64 2)) (go_keep) (first | (go_at_call 27; refine (kinds_calls _).mono ?_; rintro e w' ⟨rfl, rfl⟩))
  go_wp2
  refine bodyPost_ret (v := .tuple #[.agg #[(.bool false), (.func (.func 35) #[] #[]), (.func (.func 36) #[] #[]), (.func (.func 37) #[] #[])], .bool true]) (by simp [results, Try.results18, go_sem]) rfl ⟨rfl, ?_⟩
  repeat (first | exact Below.refl _ _ | refine Below.drew ?_ | refine Below.alloc ?_ (by simp; try omega) _)
set_option maxRecDepth 100000 in
set_option maxHeartbeats 400000 in
theorem known_calls3 (c : Int) (w : World) : Calls Try.prog 18 #[.agg #[.int .i64 3, .int .i64 c]] w fun e w' => e = .returned (.tuple #[.agg #[(.bool false), (.func (.func 33) #[] #[]), (.func (.func 38) #[] #[]), (.func (.func 37) #[] #[])], .bool true]) ∧ Below w.heap.size w w' := by
  have hx := index_ks3
  go_enter Try.func18, Try.ntmps18
  go_wp2_with fail
  go_region_held3 (fun w' => w'.cell? ⟨w.heap.size, 0, none⟩ = some (.int .i64 3)) (go_keep) (first | (go_at_call 27; refine (kinds_calls _).mono ?_; rintro e w' ⟨rfl, rfl⟩))
  go_wp2
  refine bodyPost_ret (v := .tuple #[.agg #[(.bool false), (.func (.func 33) #[] #[]), (.func (.func 38) #[] #[]), (.func (.func 37) #[] #[])], .bool true]) (by simp [results, Try.results18, go_sem]) rfl ⟨rfl, ?_⟩
  repeat (first | exact Below.refl _ _ | refine Below.drew ?_ | refine Below.alloc ?_ (by simp; try omega) _)
set_option maxRecDepth 100000 in
set_option maxHeartbeats 400000 in
theorem known_calls4 (c : Int) (w : World) : Calls Try.prog 18 #[.agg #[.int .i64 4, .int .i64 c]] w fun e w' => e = .returned (.tuple #[.agg #[(.bool false), (.func (.func 33) #[] #[]), (.func (.func 39) #[] #[]), (.func (.func 37) #[] #[])], .bool true]) ∧ Below w.heap.size w w' := by
  have hx := index_ks4
  go_enter Try.func18, Try.ntmps18
  go_wp2_with fail
  go_region_held3 (fun w' => w'.cell? ⟨w.heap.size, 0, none⟩ = some (.int .i64 4)) (go_keep) (first | (go_at_call 27; refine (kinds_calls _).mono ?_; rintro e w' ⟨rfl, rfl⟩))
  go_wp2
  refine bodyPost_ret (v := .tuple #[.agg #[(.bool false), (.func (.func 33) #[] #[]), (.func (.func 39) #[] #[]), (.func (.func 37) #[] #[])], .bool true]) (by simp [results, Try.results18, go_sem]) rfl ⟨rfl, ?_⟩
  repeat (first | exact Below.refl _ _ | refine Below.drew ?_ | refine Below.alloc ?_ (by simp; try omega) _)
set_option maxRecDepth 100000 in
set_option maxHeartbeats 400000 in
theorem known_calls5 (c : Int) (w : World) : Calls Try.prog 18 #[.agg #[.int .i64 5, .int .i64 c]] w fun e w' => e = .returned (.tuple #[.agg #[(.bool true), .nilFunc, .nilFunc, (.func (.func 40) #[] #[])], .bool true]) ∧ Below w.heap.size w w' := by
  have hx := index_ks5
  go_enter Try.func18, Try.ntmps18
  go_wp2_with fail
  go_region_held3 (fun w' => w'.cell? ⟨w.heap.size, 0, none⟩ = some (.int .i64 5)) (go_keep) (first | (go_at_call 27; refine (kinds_calls _).mono ?_; rintro e w' ⟨rfl, rfl⟩))
  go_wp2
  refine bodyPost_ret (v := .tuple #[.agg #[(.bool true), .nilFunc, .nilFunc, (.func (.func 40) #[] #[])], .bool true]) (by simp [results, Try.results18, go_sem]) rfl ⟨rfl, ?_⟩
  repeat (first | exact Below.refl _ _ | refine Below.drew ?_ | refine Below.alloc ?_ (by simp; try omega) _)
end Go.Proofs.Ytkjjdpnpcjfgeaa
