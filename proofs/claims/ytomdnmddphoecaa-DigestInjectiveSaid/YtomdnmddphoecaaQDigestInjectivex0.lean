-- Written by a program of this session's own (wip/myprint.sh). Lean checks it.
import Derived.Test.YtomdnmddphoecaaProg
import Derived.Below
import Derived.Deep.Draws
import Derived.Deep.AppendLies
import Derived.Maps.AppendAt
import Derived.OwnWalk
import Derived.Laws.BytesArg
import Derived.Laws.MakeOwn
import Derived.Laws.OwnMore
import Derived.Deep.OwnRows
import Derived.Tactics
import Derived.Lib.ConvBytes
import Derived.Laws.Slices
import Derived.WalkKit
import Derived.KernelRfl
import Derived.RowKit3
import Derived.Deep.LoopGhost
import Derived.Deep.QuietTactic
import Derived.BigQuiet
import Derived.WideLaws
import Derived.Deep.DeepCutAuto
import Derived.Deep.CutBlock
import Derived.Deep.RegionHeld3
import Derived.Laws.Rows
import Derived.Lib.AppendStr
import Derived.ArgAppend
import Derived.Laws.IdiomCopy
import Derived.OrdersHeld
import Derived.Laws.BitsLemmas
import Derived.RowKit
import Derived.Test.YtomdnmddphoecaaWWords
import Derived.Test.YtomdnmddphoecaaWLast
import Derived.Test.YtomdnmddphoecaaWTab
import Derived.Test.YtomdnmddphoecaaWFour
import Derived.Test.YtomdnmddphoecaaWQPut
import Derived.Test.YtomdnmddphoecaaWApart
import Derived.Test.YtomdnmddphoecaaWArr
import Derived.Test.YtomdnmddphoecaaWZeros
import Derived.Test.YtomdnmddphoecaaWFoot
import Derived.Test.YtomdnmddphoecaaWKept
import Derived.Test.YtomdnmddphoecaaWShare
import Derived.Test.YtomdnmddphoecaaWN
import Derived.Test.YtomdnmddphoecaaWFootNe
import Derived.Test.YtomdnmddphoecaaWAt
import Derived.Test.YtomdnmddphoecaaWEqStruct
import Derived.Test.YtomdnmddphoecaaWRepsOne
import Derived.Test.YtomdnmddphoecaaWInv
import Derived.Test.YtomdnmddphoecaaWInvWords
import Derived.Test.YtomdnmddphoecaaWGuard
import Derived.Test.YtomdnmddphoecaaWNEv
import Derived.Test.YtomdnmddphoecaaWMore
namespace Go.Proofs.Ytomdnmddphoecaa.QDigestInjective
open Go.RowKit Go.Proofs.YtomdnmddphoecaaW.PrintWords Go.Proofs.YtomdnmddphoecaaW.PrintLast Go.Proofs.YtomdnmddphoecaaW.PrintMore
attribute [local go_sem] max2_int min2_int max_two min_two max_three min_three max_four min_four   -- for this text's walks alone
set_option linter.unusedVariables false
set_option linter.unusedSimpArgs false



def errW : Option Int → Value
  | none => .nilIface
  | some c => .iface 0 (.int .i64 c)
theorem errW_none : errW none = .nilIface := rfl
theorem errW_some (c : Int) : errW (some c) = .iface 0 (.int .i64 c) := rfl

-- the values' own types

end Go.Proofs.Ytomdnmddphoecaa.QDigestInjective
