/- The sorted keys of the map of chunks. -/
import Derived.Test.YtdlkhjfkhbeaaaaIk6
namespace Go.Proofs.Ytdlkhjfkhbeaaaa.QIn
open Go.RowKit Go.Maps Go.Proofs.YtdlkhjfkhbeaaaaW.PrintWords Go.Proofs.YtdlkhjfkhbeaaaaW.PrintLast Go.Proofs.YtdlkhjfkhbeaaaaW.PrintMore
variable {w : World} {mb n : Nat} {D : DataW Unit}
theorem keys_has (hown : w.ownsMap Try.prog 2 pr mb n D) (x : Int) : x ∈ intKeys D ↔ Maps.has D (.int .i64 x) = true := by
  have hk : Try.prog.underlying 2 = some (.int .i64) := by kernel_rfl
  obtain ⟨es, rfl, hko⟩ := hown.keysOf
  have hst : ∀ q ∈ es, ∃ x, q.1 = .int .i64 x := fun q hq => by obtain ⟨v, hv⟩ := hko q hq; obtain ⟨x, _, hx, _⟩ := Maps.keyOf_i64 hk hv; exact ⟨x, hx⟩
  rw [has_eq, List.any_eq_true]
  show x ∈ es.map (fun q => Go.intOf q.1) ↔ _
  rw [List.mem_map]
  constructor
  · rintro ⟨q, hq, rfl⟩
    obtain ⟨y, hy⟩ := hst q hq
    exact ⟨q, hq, by rw [hy]; simp [Lit.sameKey, Go.intOf]⟩
  · rintro ⟨q, hq, hs⟩
    obtain ⟨y, hy⟩ := hst q hq
    rw [hy] at hs
    have := WideAt.sameKey_eq hs
    injection this with _ e
    exact ⟨q, hq, by rw [hy]; exact e⟩
theorem keys_nodup (hown : w.ownsMap Try.prog 2 pr mb n D) : (intKeys D).Nodup := by
  have hk : Try.prog.underlying 2 = some (.int .i64) := by kernel_rfl
  obtain ⟨es, hD, hpw, _⟩ := hown.entries ky
  obtain ⟨es', hD', hko⟩ := hown.keysOf
  obtain rfl : es = es' := by rw [hD] at hD'; simpa using hD'
  subst hD
  show (es.map fun p => Go.intOf p.1).Nodup
  refine List.pairwise_map.2 (hpw.imp_of_mem fun {p q} hp' hq' hne e => hne ?_)
  obtain ⟨v, hv⟩ := hko p hp'
  obtain ⟨a, _, ha, _⟩ := Maps.keyOf_i64 hk hv
  obtain ⟨v', hv'⟩ := hko q hq'
  obtain ⟨b, _, hb, _⟩ := Maps.keyOf_i64 hk hv'
  rw [ha, hb] at e ⊢
  exact congrArg _ e
def srt (ks : List Int) : List Int := ks.mergeSort fun x y => decide (x ≤ y)
theorem srt_lt {ks : List Int} (hS : ks.Perm (intKeys D)) (hown : w.ownsMap Try.prog 2 pr mb n D) : (srt ks).Pairwise (· < ·) := by
  have tr : ∀ a b c : Int, decide (a ≤ b) = true → decide (b ≤ c) = true → decide (a ≤ c) = true := fun a b c h1 h2 => by simp only [decide_eq_true_eq] at *; omega
  have tt : ∀ a b : Int, (decide (a ≤ b) || decide (b ≤ a)) = true := fun a b => by simp only [Bool.or_eq_true, decide_eq_true_eq]; omega
  have h1 := List.pairwise_mergeSort tr tt ks
  have h2 : (srt ks).Nodup := (List.mergeSort_perm ks _).nodup_iff.2 (hS.nodup_iff.2 (keys_nodup hown))
  exact (h1.and h2).imp fun h => by
    have h3 := h.1
    have h4 := h.2
    simp only [decide_eq_true_eq] at h3
    omega
theorem srt_mem {ks : List Int} (hS : ks.Perm (intKeys D)) (hown : w.ownsMap Try.prog 2 pr mb n D) (k : Int) : k ∈ srt ks ↔ Maps.has D (.int .i64 k) = true :=
  ((List.mergeSort_perm ks _).mem_iff).trans ((hS.mem_iff).trans (keys_has hown k))
theorem srt_length {ks : List Int} (hS : ks.Perm (intKeys D)) (hown : w.ownsMap Try.prog 2 pr mb n D) : (srt ks).length ≤ n := by
  have e1 : (srt ks).length = ks.length := by rw [srt, List.length_mergeSort]
  have e2 : (intKeys D).length ≤ Maps.size D := by
    obtain ⟨es, rfl⟩ := hown.isMap
    simp [Maps.size, intKeys]
  have := hown.size_le
  have := hS.length_eq
  omega
theorem keys_calls (mb : Option Nat) (W : World) : Calls Try.prog 22 #[.map mb] W fun e w' => e = .returned (.func (.func 31) #[] #[.pointer (some ⟨W.heap.size, 0, none⟩)]) ∧ w' = W.alloc (.cells #[.map mb] 66) :=
  (callsIn_wide (n := 5)).1 (Try.maps_Keys_22 mb W)
/-- slices.Sorted(maps.Keys(m)): the keys, rising, each once. -/
theorem sorted_calls (hown : w.ownsMap Try.prog 2 pr mb n D) (hn : n ≤ 1000) {B : Nat} (hBB : B = w.heap.size) :
    Calls Try.prog 21 #[.func (.func 31) #[] #[.pointer (some ⟨B, 0, none⟩)]] (w.alloc (.cells #[.map (some mb)] 66)) fun e w' => ∃ (v : Value) (K : List Int), e = .returned v ∧ K.Pairwise (· < ·) ∧ (∀ k, k ∈ K ↔ Maps.has D (.int .i64 k) = true) ∧ K.length ≤ n ∧
      (Kd.int .i64).R 2 w' (w.heap.size + 1) (fun k => some k = v.ownBlock) v K ∧ Below (w.alloc (.cells #[.map (some mb)] 66)).heap.size (w.alloc (.cells #[.map (some mb)] 66)) w' := by
  subst hBB
  have hs := hown.size_le
  have hmx : maxLen = 9223372036854775807 := by decide
  refine ((callsIn_wide (n := 5)).1 (Try.slices_Sorted_keys_21_22 mb n D pr w hown (by omega) (by omega))).mono ?_
  rintro e w' ⟨v, ss, rfl, hS, hrow, _, hb⟩
  have e1 : (srt ss).length = ss.length := by rw [srt, List.length_mergeSort]
  rw [← e1] at hrow
  have hR : (Kd.int .i64).R 2 w' _ (fun _ => True) v (srt ss) := Kd.R_of_own (enc := Value.int .i64) hrow (fun _ _ => trivial)
  have hz : (w.alloc (.cells #[.map (some mb)] 66)).heap.size = w.heap.size + 1 := by simp
  rw [hz] at hR
  exact ⟨v, srt ss, rfl, srt_lt hS hown, srt_mem hS hown, srt_length hS hown, Kd.R_tight rfl hR, hb⟩
/-- The chunks: a span each, and the facts of it. -/
def chks (chunk : Int) (L : List S37) (K : List Int) : List S55 := K.map fun k => ⟨⟨k, min (k + chunk) 1099511627776⟩, flt chunk k L⟩
theorem chks_succ {chunk : Int} {L : List S37} {K : List Int} {i : Nat} (h : i < K.length) : (chks chunk L K).take (i + 1) = (chks chunk L K).take i ++ [⟨⟨rd K i, min (rd K i + chunk) 1099511627776⟩, flt chunk (rd K i) L⟩] := by
  have hl : i < (chks chunk L K).length := by simpa [chks] using h
  have e : rd K (i : Int) = K[i] := by
    unfold rd
    simp [List.getD, h]
  rw [List.take_succ_eq_append_getElem hl, e]
  simp [chks]
theorem rd_mem {K : List Int} {i : Nat} (h : i < K.length) : rd K i ∈ K := by
  have e : rd K (i : Int) = K[i] := by
    unfold rd
    simp [List.getD, h]
  rw [e]
  exact List.getElem_mem h
/-- What the second loop keeps. -/
structure LS (W1 w' : World) (x r : Nat) (vf vb vK : Value) (K : List Int) (a b c m : Int) (chs : List S55) (i : Nat) : Prop where mk ::
  out : ∃ vch, Below W1.heap.size W1 w' ∧ (Kd.int .i64).R 2 w' W1.heap.size (fun k => some k = vK.ownBlock) vK K ∧ w'.heap[W1.heap.size]? = some (.cells #[.int .i64 a, .int .u64 b, .int .u64 c, vch, .int .i64 m] 70 (0, 0)) ∧
    Row k55 55 w' W1.heap.size (fun k => k < W1.heap.size ∧ k ≠ x ∧ some k ≠ vb.ownBlock ∧ some k ≠ vf.ownBlock ∧ k ≠ r) vch (chs.take i)
theorem info70 : (Try.prog.info? 70).map (fun i => (i.zero, i.size, i.bytes)) = some (some (.agg #[.int .i64 0, .int .u64 0, .int .u64 0, .slice none 0 0, .int .i64 0]), 5, 56) := by kernel_rfl
theorem goodc {chunk : Int} {fs L : List S37} {K : List Int} (hg : Good fs) (hL : ∀ f ∈ L, f ∈ fs) (hl : L.length ≤ fs.length) (hK : K.length ≤ 1000) : GoodC (chks chunk L K) := by
  refine ⟨by simp [chks]; omega, fun c hc => ?_⟩
  obtain ⟨k, _, rfl⟩ := List.mem_map.1 hc
  refine ⟨?_, fun f hf => hg.2 f (hL f (List.mem_filter.1 hf).1)⟩
  have h1 : (flt chunk k L).length ≤ L.length := List.length_filter_le _ _
  have := hg.1
  show (flt chunk k L).length ≤ 1000
  omega
/-- What Seal leaves and tells. -/
def Sealed (w : World) (base x : Nat) (dims meas chunk next : Int) (vf : Value) (fs : List S37) (m p : Nat) (bs : List S70) (last : Int) (e : Ending) (w' : World) : Prop :=
  ∃ v vb' K, e = .returned (.tuple #[.agg #[.int .i64 (last + 1), .int .u64 (next - 1 - (p : Int)), .int .u64 (next - 1), v], .int .i64 0]) ∧ K.Pairwise (· < ·) ∧ (∀ k, k ∈ K ↔ ∃ f ∈ fs.drop m, frm chunk f.f0 = k) ∧
    Kd.R k55 55 w' w.heap.size (fun _ => True) v (chks chunk (fs.drop m) K) ∧ IN w' base x dims meas chunk next vf fs 0 vb' (bs ++ [⟨last + 1, next - 1 - (p : Int), next - 1, chks chunk (fs.drop m) K, p⟩]) (last + 1) ∧ Below base w w'
end Go.Proofs.Ytdlkhjfkhbeaaaa.QIn
