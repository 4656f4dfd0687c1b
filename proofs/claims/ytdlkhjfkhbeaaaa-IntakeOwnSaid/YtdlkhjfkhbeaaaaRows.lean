/-
  No cell of these rows narrows 'for every input' (looked for: loops, veiled, ifaces, maps, wideKeys, modest, calm, conditions, laid).
  DERIVED. THE GIVEN ROWS OF THIS SEAT. 3 by the template 'for every input the law returns true; each argument reads behind the call as it read before'; 0 by the template 'total and deterministic' (their statements: YtdlkhjfkhbeaaaaTotals.lean).
  GIVEN WITH THE SEED: the statements are not yours to turn. If you find one false, say at which input.
  Laid BY PROGRAM, IN A SANDBOX (cutbox-rows.mjs): the forced cells as the released guide's own fill.sh prints them over the translation 82f31acfdca50397… (all of the seat's roots in one cut). By AI agents, Wed Nov 11 2026. No macro, syntax, notation, axiom, sorry.
-/
import Derived.Test.YtdlkhjfkhbeaaaaChecked
import GoSem.Claim
import GoSem.ClaimJoined
import GoSem.ClaimMapViews
import Derived.JoinedTies
import Derived.KernelRfl
namespace Go.Proofs.Ytdlkhjfkhbeaaaa
/- THE CELL 'sum', in the pinned program and in every row, IS THE sha256 OF THE DUMP (.gsa) THAT YtdlkhjfkhbeaaaaProg.lean LOADS. Nothing in Lean hashes anything: it is a label: what it is worth is what the hold of that sum in a sandbox is worth. -/
noncomputable def Try.pinned : Pinned := { name := "ytdlkhjfkhbeaaaa", sum := "82f31acfdca5039783bd93fbef4d4c4dacae507ec4ab0550f1d04956e625950c", checked := Try.checked }
namespace Rows
def none {H : Type} : Left H := { results := [], args := [] }

/-- 'gristmilllaw17.IntakeOnce': WHATEVER THE INPUT: true; the input reads as it did. -/
def intakeOnceSpec : ChangeSpec := { name := "intakeOnce", fn := fun _ => fun
  | [d1, d2, d3] => { results := [.lit (.bool true)], args := [d1, d2, d3] }
  | _ => none }
def intakeOnceRow : OpenClaim := { program := "ytdlkhjfkhbeaaaa", sum := "82f31acfdca5039783bd93fbef4d4c4dacae507ec4ab0550f1d04956e625950c", func := "gristmill/gristmilllaw17.IntakeOnce", spec := "intakeOnce", unfollowed := true, recurses := true, apart := false }
def IntakeOnceSaid : Prop := intakeOnceRow.holds Try.pinned (OpenSpec.ofChange intakeOnceSpec)

/-- ITS FALSE NEIGHBOUR: 'it returns false'. Refute it at one input. -/
def intakeOnceWrong : ChangeSpec := { name := "intakeOnce", fn := fun _ => fun
  | [d1, d2, d3] => { results := [.lit (.bool false)], args := [d1, d2, d3] }
  | _ => none }
def IntakeOnceWrongFalsely : Prop := intakeOnceRow.holds Try.pinned (OpenSpec.ofChange intakeOnceWrong)

/-- 'gristmilllaw17.IntakeParts': WHATEVER THE INPUT: true; the input reads as it did. -/
def intakePartsSpec : ChangeSpec := { name := "intakeParts", fn := fun _ => fun
  | [d1, d2, d3] => { results := [.lit (.bool true)], args := [d1, d2, d3] }
  | _ => none }
def intakePartsRow : OpenClaim := { program := "ytdlkhjfkhbeaaaa", sum := "82f31acfdca5039783bd93fbef4d4c4dacae507ec4ab0550f1d04956e625950c", func := "gristmill/gristmilllaw17.IntakeParts", spec := "intakeParts", unfollowed := true, recurses := true, apart := false }
def IntakePartsSaid : Prop := intakePartsRow.holds Try.pinned (OpenSpec.ofChange intakePartsSpec)

/-- ITS FALSE NEIGHBOUR: 'it returns false'. Refute it at one input. -/
def intakePartsWrong : ChangeSpec := { name := "intakeParts", fn := fun _ => fun
  | [d1, d2, d3] => { results := [.lit (.bool false)], args := [d1, d2, d3] }
  | _ => none }
def IntakePartsWrongFalsely : Prop := intakePartsRow.holds Try.pinned (OpenSpec.ofChange intakePartsWrong)

/-- 'gristmilllaw17.IntakeOwn': WHATEVER THE INPUT: true; the input reads as it did. -/
def intakeOwnSpec : ChangeSpec := { name := "intakeOwn", fn := fun _ => fun
  | [d1, d2] => { results := [.lit (.bool true)], args := [d1, d2] }
  | _ => none }
def intakeOwnRow : OpenClaim := { program := "ytdlkhjfkhbeaaaa", sum := "82f31acfdca5039783bd93fbef4d4c4dacae507ec4ab0550f1d04956e625950c", func := "gristmill/gristmilllaw17.IntakeOwn", spec := "intakeOwn", unfollowed := true, recurses := true, apart := false }
def IntakeOwnSaid : Prop := intakeOwnRow.holds Try.pinned (OpenSpec.ofChange intakeOwnSpec)

/-- ITS FALSE NEIGHBOUR: 'it returns false'. Refute it at one input. -/
def intakeOwnWrong : ChangeSpec := { name := "intakeOwn", fn := fun _ => fun
  | [d1, d2] => { results := [.lit (.bool false)], args := [d1, d2] }
  | _ => none }
def IntakeOwnWrongFalsely : Prop := intakeOwnRow.holds Try.pinned (OpenSpec.ofChange intakeOwnWrong)

/- THE SECOND FORM. 'bulk': how many values and letters a reading holds, each counted each time it is reached (what is shared counts as often as it is met; a slice's spare places count too). A statement '..UptoSaid' is the law's where the arguments, and the package variables that the reading takes, are together of bulk at most 1048576: NARROWER than '..Said'. Prove '..Said' where nothing that the law and all that it calls make is longer than what came in: it says more and counts as full. Else prove '..UptoSaid'. A law counts once. -/
mutual
def uptoBulk {H : Type} : DataW H → Nat
  | .lit (.string bytes) => bytes.length + 1
  | .lit _ => 1
  | .nil => 1
  | .ptr d => uptoBulk d + 1
  | .slice elems spare => uptoBulkAll elems + uptoBulkAll spare + 1
  | .agg parts => uptoBulkAll parts + 1
  | .iface _ d => uptoBulk d + 1
  | .map entries => uptoBulkEntries entries + 1
  | .held _ => 1
def uptoBulkAll {H : Type} : List (DataW H) → Nat
  | [] => 0
  | d :: r => uptoBulk d + uptoBulkAll r
def uptoBulkEntries {H : Type} : List (Lit × DataW H) → Nat
  | [] => 0
  | x :: r => uptoBulkEntry x + uptoBulkEntries r
def uptoBulkEntry {H : Type} : Lit × DataW H → Nat
  | (.string bytes, d) => bytes.length + uptoBulk d + 1
  | (_, d) => uptoBulk d + 1
 end
def uptoSmall : (H : Type) → List (DataW H) → Bool := fun _ ds => decide (uptoBulkAll ds ≤ 1048576)
def OpenSpec.upto (s : _root_.Go.ChangeSpec) : _root_.Go.OpenSpec := { _root_.Go.OpenSpec.ofChange s with cond := some uptoSmall }

/-- 'gristmilllaw17.IntakeOnce', WHERE WHAT IT READS IS OF BULK AT MOST 1048576: true; the input reads as it did. -/
def intakeOnceUptoRow : OpenClaim := { program := "ytdlkhjfkhbeaaaa", sum := "82f31acfdca5039783bd93fbef4d4c4dacae507ec4ab0550f1d04956e625950c", func := "gristmill/gristmilllaw17.IntakeOnce", spec := "intakeOnce", unfollowed := true, recurses := true, apart := false, narrowed := true }
def IntakeOnceUptoSaid : Prop := intakeOnceUptoRow.holds Try.pinned (OpenSpec.upto intakeOnceSpec)

/-- 'gristmilllaw17.IntakeParts', WHERE WHAT IT READS IS OF BULK AT MOST 1048576: true; the input reads as it did. -/
def intakePartsUptoRow : OpenClaim := { program := "ytdlkhjfkhbeaaaa", sum := "82f31acfdca5039783bd93fbef4d4c4dacae507ec4ab0550f1d04956e625950c", func := "gristmill/gristmilllaw17.IntakeParts", spec := "intakeParts", unfollowed := true, recurses := true, apart := false, narrowed := true }
def IntakePartsUptoSaid : Prop := intakePartsUptoRow.holds Try.pinned (OpenSpec.upto intakePartsSpec)

/-- 'gristmilllaw17.IntakeOwn', WHERE WHAT IT READS IS OF BULK AT MOST 1048576: true; the input reads as it did. -/
def intakeOwnUptoRow : OpenClaim := { program := "ytdlkhjfkhbeaaaa", sum := "82f31acfdca5039783bd93fbef4d4c4dacae507ec4ab0550f1d04956e625950c", func := "gristmill/gristmilllaw17.IntakeOwn", spec := "intakeOwn", unfollowed := true, recurses := true, apart := false, narrowed := true }
def IntakeOwnUptoSaid : Prop := intakeOwnUptoRow.holds Try.pinned (OpenSpec.upto intakeOwnSpec)

end Rows
end Go.Proofs.Ytdlkhjfkhbeaaaa
