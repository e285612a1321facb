-- Written by a program of this session's own (wip/myprint.sh). Lean checks it.
import Derived.Test.YtgbdabhjcimbbaaProg
import Derived.Below
import Derived.Deep.Draws
import Derived.Deep.AppendLies
import Derived.Maps.AppendAt
import Derived.OwnWalk
import Derived.Laws.BytesArg
import Derived.Laws.MakeOwn
import Derived.Laws.OwnMore
import Derived.Deep.OwnRows
import Derived.Tactics
import Derived.Lib.ConvBytes
import Derived.Laws.Slices
import Derived.WalkKit
import Derived.KernelRfl
import Derived.RowKit3
import Derived.Deep.LoopGhost
import Derived.Deep.QuietTactic
import Derived.BigQuiet
import Derived.WideLaws
import Derived.Deep.DeepCutAuto
import Derived.Deep.CutBlock
import Derived.Deep.RegionHeld3
import Derived.Laws.Rows
import Derived.Lib.AppendStr
import Derived.ArgAppend
import Derived.Laws.IdiomCopy
import Derived.OrdersHeld
import Derived.Laws.BitsLemmas
import Derived.RowKit
import Derived.Test.YtgbdabhjcimbbaaWWords
import Derived.Test.YtgbdabhjcimbbaaWLast
import Derived.Test.YtgbdabhjcimbbaaWTab
import Derived.Test.YtgbdabhjcimbbaaWFour
import Derived.Test.YtgbdabhjcimbbaaWQPut
import Derived.Test.YtgbdabhjcimbbaaWApart
import Derived.Test.YtgbdabhjcimbbaaWArr
import Derived.Test.YtgbdabhjcimbbaaWZeros
import Derived.Test.YtgbdabhjcimbbaaWFoot
import Derived.Test.YtgbdabhjcimbbaaWKept
import Derived.Test.YtgbdabhjcimbbaaWShare
import Derived.Test.YtgbdabhjcimbbaaWN
import Derived.Test.YtgbdabhjcimbbaaWFootNe
import Derived.Test.YtgbdabhjcimbbaaWAt
import Derived.Test.YtgbdabhjcimbbaaWEqStruct
import Derived.Test.YtgbdabhjcimbbaaWRepsOne
import Derived.Test.YtgbdabhjcimbbaaWInv
import Derived.Test.YtgbdabhjcimbbaaWInvWords
import Derived.Test.YtgbdabhjcimbbaaWGuard
import Derived.Test.YtgbdabhjcimbbaaWNEv
import Derived.Test.YtgbdabhjcimbbaaWMore
namespace Go.Proofs.Ytgbdabhjcimbbaa.QWireUnlike
open Go.RowKit Go.Proofs.YtgbdabhjcimbbaaW.PrintWords Go.Proofs.YtgbdabhjcimbbaaW.PrintLast Go.Proofs.YtgbdabhjcimbbaaW.PrintMore
attribute [local go_sem] max2_int min2_int max_two min_two max_three min_three max_four min_four   -- for this text's walks alone
set_option linter.unusedVariables false
set_option linter.unusedSimpArgs false



def errW : Option Int → Value
  | none => .nilIface
  | some c => .iface 0 (.int .i64 c)
theorem errW_none : errW none = .nilIface := rfl
theorem errW_some (c : Int) : errW (some c) = .iface 0 (.int .i64 c) := rfl

theorem info3 : (Try.prog.info? 3).map (fun i => (i.zero, i.size, i.bytes)) = some (some (.int .i64 0), 1, 8) := by kernel_rfl
theorem info5 : (Try.prog.info? 5).map (fun i => (i.zero, i.size, i.bytes)) = some (some (.int .u8 0), 1, 1) := by kernel_rfl
-- the values' own types

end Go.Proofs.Ytgbdabhjcimbbaa.QWireUnlike
