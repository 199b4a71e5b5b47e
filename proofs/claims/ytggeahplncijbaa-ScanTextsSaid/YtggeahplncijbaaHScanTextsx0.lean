-- laid by a program of this session: the print's own machine, with the functions that are proved by hand
import Derived.Test.YtggeahplncijbaaProg
import Derived.Below
import Derived.Deep.Draws
import Derived.Deep.AppendLies
import Derived.Maps.AppendAt
import Derived.OwnWalk
import Derived.Laws.BytesArg
import Derived.Laws.MakeOwn
import Derived.Laws.OwnMore
import Derived.Deep.OwnRows
import Derived.Tactics
import Derived.Lib.ConvBytes
import Derived.Laws.Slices
import Derived.WalkKit
import Derived.KernelRfl
import Derived.RowKit3
import Derived.Deep.LoopGhost
import Derived.Deep.QuietTactic
import Derived.BigQuiet
import Derived.WideLaws
import Derived.Deep.DeepCutAuto
import Derived.Deep.CutBlock
import Derived.Deep.RegionHeld3
import Derived.Laws.Rows
import Derived.Lib.AppendStr
import Derived.ArgAppend
import Derived.Laws.IdiomCopy
import Derived.OrdersHeld
import Derived.Laws.BitsLemmas
import Derived.RowKit
import Derived.Test.YtggeahplncijbaaWWords
import Derived.Test.YtggeahplncijbaaWLast
import Derived.Test.YtggeahplncijbaaWTab
import Derived.Test.YtggeahplncijbaaWFour
import Derived.Test.YtggeahplncijbaaWQPut
import Derived.Test.YtggeahplncijbaaWApart
import Derived.Test.YtggeahplncijbaaWArr
import Derived.Test.YtggeahplncijbaaWZeros
import Derived.Test.YtggeahplncijbaaWFoot
import Derived.Test.YtggeahplncijbaaWKept
import Derived.Test.YtggeahplncijbaaWShare
import Derived.Test.YtggeahplncijbaaWN
import Derived.Test.YtggeahplncijbaaWFootNe
import Derived.Test.YtggeahplncijbaaWAt
import Derived.Test.YtggeahplncijbaaWEqStruct
import Derived.Test.YtggeahplncijbaaWRepsOne
import Derived.Test.YtggeahplncijbaaWInv
import Derived.Test.YtggeahplncijbaaWInvWords
import Derived.Test.YtggeahplncijbaaWGuard
import Derived.Test.YtggeahplncijbaaWNEv
import Derived.Test.YtggeahplncijbaaWMore
namespace Go.Proofs.Ytggeahplncijbaa.HScanTexts
open Go.RowKit Go.Proofs.YtggeahplncijbaaW.PrintWords Go.Proofs.YtggeahplncijbaaW.PrintLast Go.Proofs.YtggeahplncijbaaW.PrintMore
attribute [local go_sem] max2_int min2_int max_two min_two max_three min_three max_four min_four   -- for this text's walks alone
set_option linter.unusedVariables false
set_option linter.unusedSimpArgs false



def errW : Option Int → Value
  | none => .nilIface
  | some c => .iface 0 (.int .i64 c)
theorem errW_none : errW none = .nilIface := rfl
theorem errW_some (c : Int) : errW (some c) = .iface 0 (.int .i64 c) := rfl

-- the values' own types

end Go.Proofs.Ytggeahplncijbaa.HScanTexts
