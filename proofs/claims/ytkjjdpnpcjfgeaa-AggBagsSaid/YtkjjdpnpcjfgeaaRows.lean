/-
  No cell of these rows narrows 'for every input' (looked for: loops, veiled, ifaces, maps, wideKeys, modest, calm, conditions, laid).
  DERIVED. THE GIVEN ROWS OF THIS SEAT. 3 by the template 'for every input the law returns true; each argument reads behind the call as it read before'; 0 by the template 'total and deterministic' (their statements: YtkjjdpnpcjfgeaaTotals.lean).
  GIVEN WITH THE SEED: the statements are not yours to turn. If you find one false, say at which input.
  Laid BY PROGRAM, IN A SANDBOX (cutbox-rows.mjs): the forced cells as the released guide's own fill.sh prints them over the translation 8a4ca6bec011840c… (all of the seat's roots in one cut). By AI agents, Wed Nov 11 2026. No macro, syntax, notation, axiom, sorry.
-/
import Derived.Test.YtkjjdpnpcjfgeaaChecked
import GoSem.Claim
import GoSem.ClaimJoined
import GoSem.ClaimMapViews
import Derived.JoinedTies
import Derived.KernelRfl
namespace Go.Proofs.Ytkjjdpnpcjfgeaa
/- THE CELL 'sum', in the pinned program and in every row, IS THE sha256 OF THE DUMP (.gsa) THAT YtkjjdpnpcjfgeaaProg.lean LOADS. Nothing in Lean hashes anything: it is a label: what it is worth is what the hold of that sum in a sandbox is worth. -/
noncomputable def Try.pinned : Pinned := { name := "ytkjjdpnpcjfgeaa", sum := "8a4ca6bec011840ca2da2f87c7101aa5e939b3eaec6fd11e1a8acef0000b0b7e", checked := Try.checked }
namespace Rows
def none {H : Type} : Left H := { results := [], args := [] }

/-- 'gristmilllaw06.AggTurns': WHATEVER THE INPUT: true; the input reads as it did. -/
def aggTurnsSpec : ChangeSpec := { name := "aggTurns", fn := fun _ => fun
  | [d1, d2, d3, d4] => { results := [.lit (.bool true)], args := [d1, d2, d3, d4] }
  | _ => none }
def aggTurnsRow : OpenClaim := { program := "ytkjjdpnpcjfgeaa", sum := "8a4ca6bec011840ca2da2f87c7101aa5e939b3eaec6fd11e1a8acef0000b0b7e", func := "gristmill/gristmilllaw06.AggTurns", spec := "aggTurns", unfollowed := true, recurses := true, apart := false }
def AggTurnsSaid : Prop := aggTurnsRow.holds Try.pinned (OpenSpec.ofChange aggTurnsSpec)

/-- ITS FALSE NEIGHBOUR: 'it returns false'. Refute it at one input. -/
def aggTurnsWrong : ChangeSpec := { name := "aggTurns", fn := fun _ => fun
  | [d1, d2, d3, d4] => { results := [.lit (.bool false)], args := [d1, d2, d3, d4] }
  | _ => none }
def AggTurnsWrongFalsely : Prop := aggTurnsRow.holds Try.pinned (OpenSpec.ofChange aggTurnsWrong)

/-- 'gristmilllaw06.AggOwn': WHATEVER THE INPUT: true; the input reads as it did. -/
def aggOwnSpec : ChangeSpec := { name := "aggOwn", fn := fun _ => fun
  | [d] => { results := [.lit (.bool true)], args := [d] }
  | _ => none }
def aggOwnRow : OpenClaim := { program := "ytkjjdpnpcjfgeaa", sum := "8a4ca6bec011840ca2da2f87c7101aa5e939b3eaec6fd11e1a8acef0000b0b7e", func := "gristmill/gristmilllaw06.AggOwn", spec := "aggOwn", unfollowed := true, recurses := true, apart := false }
def AggOwnSaid : Prop := aggOwnRow.holds Try.pinned (OpenSpec.ofChange aggOwnSpec)

/-- ITS FALSE NEIGHBOUR: 'it returns false'. Refute it at one input. -/
def aggOwnWrong : ChangeSpec := { name := "aggOwn", fn := fun _ => fun
  | [d] => { results := [.lit (.bool false)], args := [d] }
  | _ => none }
def AggOwnWrongFalsely : Prop := aggOwnRow.holds Try.pinned (OpenSpec.ofChange aggOwnWrong)

/-- 'gristmilllaw06.AggBags': WHATEVER THE INPUT: true; the input reads as it did. -/
def aggBagsSpec : ChangeSpec := { name := "aggBags", fn := fun _ => fun
  | [d1, d2] => { results := [.lit (.bool true)], args := [d1, d2] }
  | _ => none }
def aggBagsRow : OpenClaim := { program := "ytkjjdpnpcjfgeaa", sum := "8a4ca6bec011840ca2da2f87c7101aa5e939b3eaec6fd11e1a8acef0000b0b7e", func := "gristmill/gristmilllaw06.AggBags", spec := "aggBags", unfollowed := true, recurses := true, apart := false }
def AggBagsSaid : Prop := aggBagsRow.holds Try.pinned (OpenSpec.ofChange aggBagsSpec)

/-- ITS FALSE NEIGHBOUR: 'it returns false'. Refute it at one input. -/
def aggBagsWrong : ChangeSpec := { name := "aggBags", fn := fun _ => fun
  | [d1, d2] => { results := [.lit (.bool false)], args := [d1, d2] }
  | _ => none }
def AggBagsWrongFalsely : Prop := aggBagsRow.holds Try.pinned (OpenSpec.ofChange aggBagsWrong)

/- THE SECOND FORM. 'bulk': how many values and letters a reading holds, each counted each time it is reached (what is shared counts as often as it is met; a slice's spare places count too). A statement '..UptoSaid' is the law's where the arguments, and the package variables that the reading takes, are together of bulk at most 1048576: NARROWER than '..Said'. Prove '..Said' where nothing that the law and all that it calls make is longer than what came in: it says more and counts as full. Else prove '..UptoSaid'. A law counts once. -/
mutual
def uptoBulk {H : Type} : DataW H → Nat
  | .lit (.string bytes) => bytes.length + 1
  | .lit _ => 1
  | .nil => 1
  | .ptr d => uptoBulk d + 1
  | .slice elems spare => uptoBulkAll elems + uptoBulkAll spare + 1
  | .agg parts => uptoBulkAll parts + 1
  | .iface _ d => uptoBulk d + 1
  | .map entries => uptoBulkEntries entries + 1
  | .held _ => 1
def uptoBulkAll {H : Type} : List (DataW H) → Nat
  | [] => 0
  | d :: r => uptoBulk d + uptoBulkAll r
def uptoBulkEntries {H : Type} : List (Lit × DataW H) → Nat
  | [] => 0
  | x :: r => uptoBulkEntry x + uptoBulkEntries r
def uptoBulkEntry {H : Type} : Lit × DataW H → Nat
  | (.string bytes, d) => bytes.length + uptoBulk d + 1
  | (_, d) => uptoBulk d + 1
 end
def uptoSmall : (H : Type) → List (DataW H) → Bool := fun _ ds => decide (uptoBulkAll ds ≤ 1048576)
def OpenSpec.upto (s : _root_.Go.ChangeSpec) : _root_.Go.OpenSpec := { _root_.Go.OpenSpec.ofChange s with cond := some uptoSmall }

/-- 'gristmilllaw06.AggTurns', WHERE WHAT IT READS IS OF BULK AT MOST 1048576: true; the input reads as it did. -/
def aggTurnsUptoRow : OpenClaim := { program := "ytkjjdpnpcjfgeaa", sum := "8a4ca6bec011840ca2da2f87c7101aa5e939b3eaec6fd11e1a8acef0000b0b7e", func := "gristmill/gristmilllaw06.AggTurns", spec := "aggTurns", unfollowed := true, recurses := true, apart := false, narrowed := true }
def AggTurnsUptoSaid : Prop := aggTurnsUptoRow.holds Try.pinned (OpenSpec.upto aggTurnsSpec)

/-- 'gristmilllaw06.AggOwn', WHERE WHAT IT READS IS OF BULK AT MOST 1048576: true; the input reads as it did. -/
def aggOwnUptoRow : OpenClaim := { program := "ytkjjdpnpcjfgeaa", sum := "8a4ca6bec011840ca2da2f87c7101aa5e939b3eaec6fd11e1a8acef0000b0b7e", func := "gristmill/gristmilllaw06.AggOwn", spec := "aggOwn", unfollowed := true, recurses := true, apart := false, narrowed := true }
def AggOwnUptoSaid : Prop := aggOwnUptoRow.holds Try.pinned (OpenSpec.upto aggOwnSpec)

/-- 'gristmilllaw06.AggBags', WHERE WHAT IT READS IS OF BULK AT MOST 1048576: true; the input reads as it did. -/
def aggBagsUptoRow : OpenClaim := { program := "ytkjjdpnpcjfgeaa", sum := "8a4ca6bec011840ca2da2f87c7101aa5e939b3eaec6fd11e1a8acef0000b0b7e", func := "gristmill/gristmilllaw06.AggBags", spec := "aggBags", unfollowed := true, recurses := true, apart := false, narrowed := true }
def AggBagsUptoSaid : Prop := aggBagsUptoRow.holds Try.pinned (OpenSpec.upto aggBagsSpec)

end Rows
end Go.Proofs.Ytkjjdpnpcjfgeaa
