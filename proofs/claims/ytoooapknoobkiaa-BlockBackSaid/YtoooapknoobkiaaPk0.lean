/- Functions that the law PackJoins reaches, each as a Lean function with its contract (text made from the kit's print, turned where it did not build). No condition beyond what each theorem states. -/
import Derived.Test.YtoooapknoobkiaaProg
import Derived.Below
import Derived.Deep.Draws
import Derived.Deep.AppendLies
import Derived.Maps.AppendAt
import Derived.OwnWalk
import Derived.Laws.BytesArg
import Derived.Laws.MakeOwn
import Derived.Laws.OwnMore
import Derived.Deep.OwnRows
import Derived.Tactics
import Derived.Lib.ConvBytes
import Derived.Laws.Slices
import Derived.WalkKit
import Derived.KernelRfl
import Derived.RowKit3
import Derived.Deep.LoopGhost
import Derived.Deep.QuietTactic
import Derived.BigQuiet
import Derived.WideLaws
import Derived.Deep.DeepCutAuto
import Derived.Deep.CutBlock
import Derived.Deep.RegionHeld3
import Derived.Laws.Rows
import Derived.Lib.AppendStr
import Derived.ArgAppend
import Derived.Laws.IdiomCopy
import Derived.OrdersHeld
import Derived.Laws.BitsLemmas
import Derived.RowKit
import Derived.Test.YtoooapknoobkiaaWWords
import Derived.Test.YtoooapknoobkiaaWLast
import Derived.Test.YtoooapknoobkiaaWTab
import Derived.Test.YtoooapknoobkiaaWFour
import Derived.Test.YtoooapknoobkiaaWQPut
import Derived.Test.YtoooapknoobkiaaWApart
import Derived.Test.YtoooapknoobkiaaWArr
import Derived.Test.YtoooapknoobkiaaWZeros
import Derived.Test.YtoooapknoobkiaaWFoot
import Derived.Test.YtoooapknoobkiaaWKept
import Derived.Test.YtoooapknoobkiaaWShare
import Derived.Test.YtoooapknoobkiaaWN
import Derived.Test.YtoooapknoobkiaaWFootNe
import Derived.Test.YtoooapknoobkiaaWAt
import Derived.Test.YtoooapknoobkiaaWEqStruct
import Derived.Test.YtoooapknoobkiaaWRepsOne
import Derived.Test.YtoooapknoobkiaaWInv
import Derived.Test.YtoooapknoobkiaaWInvWords
import Derived.Test.YtoooapknoobkiaaWGuard
import Derived.Test.YtoooapknoobkiaaWNEv
import Derived.Test.YtoooapknoobkiaaWMore
namespace Go.Proofs.Ytoooapknoobkiaa.Pk
open Go.RowKit Go.Proofs.YtoooapknoobkiaaW.PrintWords Go.Proofs.YtoooapknoobkiaaW.PrintLast Go.Proofs.YtoooapknoobkiaaW.PrintMore
attribute [local go_sem] max2_int min2_int max_two min_two max_three min_three max_four min_four   -- for this text's walks alone
set_option linter.unusedVariables false
set_option linter.unusedSimpArgs false



def errW : Option Int → Value
  | none => .nilIface
  | some c => .iface 0 (.int .i64 c)
theorem errW_none : errW none = .nilIface := rfl
theorem errW_some (c : Int) : errW (some c) = .iface 0 (.int .i64 c) := rfl

-- the values' own types

end Go.Proofs.Ytoooapknoobkiaa.Pk
