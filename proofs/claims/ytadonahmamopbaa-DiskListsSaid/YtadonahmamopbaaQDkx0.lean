-- Printed for this claim by a program of this work over the kit's print.py; some callees' contracts are proved by hand.
import Derived.Test.YtadonahmamopbaaProg
import Derived.WalkLawsBesides
import Derived.Below
import Derived.Deep.Draws
import Derived.Deep.AppendLies
import Derived.Maps.AppendAt
import Derived.OwnWalk
import Derived.Laws.BytesArg
import Derived.Laws.MakeOwn
import Derived.Laws.OwnMore
import Derived.Deep.OwnRows
import Derived.Tactics
import Derived.Lib.ConvBytes
import Derived.Laws.Slices
import Derived.WalkKit
import Derived.KernelRfl
import Derived.RowKit3
import Derived.Deep.LoopGhost
import Derived.Deep.QuietTactic
import Derived.BigQuiet
import Derived.WideLaws
import Derived.Deep.DeepCutAuto
import Derived.Deep.CutBlock
import Derived.Deep.RegionHeld3
import Derived.Laws.Rows
import Derived.Lib.AppendStr
import Derived.ArgAppend
import Derived.Laws.IdiomCopy
import Derived.OrdersHeld
import Derived.Laws.BitsLemmas
import Derived.RowKit
import Derived.Test.YtadonahmamopbaaWWords
import Derived.Test.YtadonahmamopbaaWLast
import Derived.Test.YtadonahmamopbaaWTab
import Derived.Test.YtadonahmamopbaaWFour
import Derived.Test.YtadonahmamopbaaWQPut
import Derived.Test.YtadonahmamopbaaWApart
import Derived.Test.YtadonahmamopbaaWArr
import Derived.Test.YtadonahmamopbaaWZeros
import Derived.Test.YtadonahmamopbaaWFoot
import Derived.Test.YtadonahmamopbaaWKept
import Derived.Test.YtadonahmamopbaaWShare
import Derived.Test.YtadonahmamopbaaWN
import Derived.Test.YtadonahmamopbaaWFootNe
import Derived.Test.YtadonahmamopbaaWAt
import Derived.Test.YtadonahmamopbaaWEqStruct
import Derived.Test.YtadonahmamopbaaWRepsOne
import Derived.Test.YtadonahmamopbaaWInv
import Derived.Test.YtadonahmamopbaaWInvWords
import Derived.Test.YtadonahmamopbaaWGuard
import Derived.Test.YtadonahmamopbaaWNEv
import Derived.Test.YtadonahmamopbaaWMore
namespace Go.Proofs.Ytadonahmamopbaa.QDk
open Go.RowKit Go.Proofs.YtadonahmamopbaaW.PrintWords Go.Proofs.YtadonahmamopbaaW.PrintLast Go.Proofs.YtadonahmamopbaaW.PrintMore
attribute [local go_sem] max2_int min2_int max_two min_two max_three min_three max_four min_four   -- for this text's walks alone
set_option linter.unusedVariables false
set_option linter.unusedSimpArgs false



def errW : Option Int → Value
  | none => .nilIface
  | some c => .iface 0 (.int .i64 c)
theorem errW_none : errW none = .nilIface := rfl
theorem errW_some (c : Int) : errW (some c) = .iface 0 (.int .i64 c) := rfl

-- the values' own types

end Go.Proofs.Ytadonahmamopbaa.QDk
