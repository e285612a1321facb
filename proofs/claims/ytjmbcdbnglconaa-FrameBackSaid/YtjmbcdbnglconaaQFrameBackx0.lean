-- Written by a program of this session's own (wip/myprint.sh). Lean checks it.
import Derived.Test.YtjmbcdbnglconaaProg
import Derived.Below
import Derived.Deep.Draws
import Derived.Deep.AppendLies
import Derived.Maps.AppendAt
import Derived.OwnWalk
import Derived.Laws.BytesArg
import Derived.Laws.MakeOwn
import Derived.Laws.OwnMore
import Derived.Deep.OwnRows
import Derived.Tactics
import Derived.Lib.ConvBytes
import Derived.Laws.Slices
import Derived.WalkKit
import Derived.KernelRfl
import Derived.RowKit3
import Derived.Deep.LoopGhost
import Derived.Deep.QuietTactic
import Derived.BigQuiet
import Derived.WideLaws
import Derived.Deep.DeepCutAuto
import Derived.Deep.CutBlock
import Derived.Deep.RegionHeld3
import Derived.Laws.Rows
import Derived.Lib.AppendStr
import Derived.ArgAppend
import Derived.Laws.IdiomCopy
import Derived.OrdersHeld
import Derived.Laws.BitsLemmas
import Derived.RowKit
import Derived.Test.YtjmbcdbnglconaaWWords
import Derived.Test.YtjmbcdbnglconaaWLast
import Derived.Test.YtjmbcdbnglconaaWTab
import Derived.Test.YtjmbcdbnglconaaWFour
import Derived.Test.YtjmbcdbnglconaaWQPut
import Derived.Test.YtjmbcdbnglconaaWApart
import Derived.Test.YtjmbcdbnglconaaWArr
import Derived.Test.YtjmbcdbnglconaaWZeros
import Derived.Test.YtjmbcdbnglconaaWFoot
import Derived.Test.YtjmbcdbnglconaaWKept
import Derived.Test.YtjmbcdbnglconaaWShare
import Derived.Test.YtjmbcdbnglconaaWN
import Derived.Test.YtjmbcdbnglconaaWFootNe
import Derived.Test.YtjmbcdbnglconaaWAt
import Derived.Test.YtjmbcdbnglconaaWEqStruct
import Derived.Test.YtjmbcdbnglconaaWRepsOne
import Derived.Test.YtjmbcdbnglconaaWInv
import Derived.Test.YtjmbcdbnglconaaWInvWords
import Derived.Test.YtjmbcdbnglconaaWGuard
import Derived.Test.YtjmbcdbnglconaaWNEv
import Derived.Test.YtjmbcdbnglconaaWMore
namespace Go.Proofs.Ytjmbcdbnglconaa.QFrameBack
open Go.RowKit Go.Proofs.YtjmbcdbnglconaaW.PrintWords Go.Proofs.YtjmbcdbnglconaaW.PrintLast Go.Proofs.YtjmbcdbnglconaaW.PrintMore
attribute [local go_sem] max2_int min2_int max_two min_two max_three min_three max_four min_four   -- for this text's walks alone
set_option linter.unusedVariables false
set_option linter.unusedSimpArgs false



def errW : Option Int → Value
  | none => .nilIface
  | some c => .iface 0 (.int .i64 c)
theorem errW_none : errW none = .nilIface := rfl
theorem errW_some (c : Int) : errW (some c) = .iface 0 (.int .i64 c) := rfl

theorem info5 : (Try.prog.info? 5).map (fun i => (i.zero, i.size, i.bytes)) = some (some (.int .u8 0), 1, 1) := by kernel_rfl
-- the values' own types

end Go.Proofs.Ytjmbcdbnglconaa.QFrameBack
