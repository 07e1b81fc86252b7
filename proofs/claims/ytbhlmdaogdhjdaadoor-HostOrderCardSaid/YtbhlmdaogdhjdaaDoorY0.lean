-- Written by a program of this session for this claim (the kit's printer, with contracts of this session's own); Lean checks it.
import Derived.Test.YtbhlmdaogdhjdaaDoorProg
import Derived.Below
import Derived.Deep.Draws
import Derived.Deep.AppendLies
import Derived.Maps.AppendAt
import Derived.OwnWalk
import Derived.Laws.BytesArg
import Derived.Laws.MakeOwn
import Derived.Laws.OwnMore
import Derived.Deep.OwnRows
import Derived.Tactics
import Derived.Lib.ConvBytes
import Derived.Laws.Slices
import Derived.WalkKit
import Derived.KernelRfl
import Derived.RowKit3
import Derived.Deep.LoopGhost
import Derived.Deep.QuietTactic
import Derived.BigQuiet
import Derived.WideLaws
import Derived.Deep.DeepCutAuto
import Derived.Deep.CutBlock
import Derived.Deep.RegionHeld3
import Derived.Laws.Rows
import Derived.Lib.AppendStr
import Derived.ArgAppend
import Derived.Laws.IdiomCopy
import Derived.OrdersHeld
import Derived.Laws.BitsLemmas
import Derived.RowKit
import Derived.Lib.Hide
import Derived.Maps.OwnOps
import Derived.Maps.Views
import Derived.StillTailTactics
import Derived.Deep.RegionWith
import Derived.Test.YtbhlmdaogdhjdaaDoorWWords
import Derived.Test.YtbhlmdaogdhjdaaDoorWLast
import Derived.Test.YtbhlmdaogdhjdaaDoorWTab
import Derived.Test.YtbhlmdaogdhjdaaDoorWFour
import Derived.Test.YtbhlmdaogdhjdaaDoorWQPut
import Derived.Test.YtbhlmdaogdhjdaaDoorWApart
import Derived.Test.YtbhlmdaogdhjdaaDoorWArr
import Derived.Test.YtbhlmdaogdhjdaaDoorWZeros
import Derived.Test.YtbhlmdaogdhjdaaDoorWFoot
import Derived.Test.YtbhlmdaogdhjdaaDoorWKept
import Derived.Test.YtbhlmdaogdhjdaaDoorWShare
import Derived.Test.YtbhlmdaogdhjdaaDoorWN
import Derived.Test.YtbhlmdaogdhjdaaDoorWFootNe
import Derived.Test.YtbhlmdaogdhjdaaDoorWAt
import Derived.Test.YtbhlmdaogdhjdaaDoorWEqStruct
import Derived.Test.YtbhlmdaogdhjdaaDoorWRepsOne
import Derived.Test.YtbhlmdaogdhjdaaDoorWInv
import Derived.Test.YtbhlmdaogdhjdaaDoorWInvWords
import Derived.Test.YtbhlmdaogdhjdaaDoorWGuard
import Derived.Test.YtbhlmdaogdhjdaaDoorWNEv
import Derived.Test.YtbhlmdaogdhjdaaDoorWMore
namespace Go.Proofs.YtbhlmdaogdhjdaaDoor.Y
open Go.RowKit Go.Proofs.YtbhlmdaogdhjdaaDoorW.PrintWords Go.Proofs.YtbhlmdaogdhjdaaDoorW.PrintLast Go.Proofs.YtbhlmdaogdhjdaaDoorW.PrintMore
attribute [local go_sem] max2_int min2_int max_two min_two max_three min_three max_four min_four   -- for this text's walks alone
set_option linter.unusedVariables false
set_option linter.unusedSimpArgs false



def errW : Option Int → Value
  | none => .nilIface
  | some c => .iface 0 (.int .i64 c)
theorem errW_none : errW none = .nilIface := rfl
theorem errW_some (c : Int) : errW (some c) = .iface 0 (.int .i64 c) := rfl

-- the values' own types

end Go.Proofs.YtbhlmdaogdhjdaaDoor.Y
