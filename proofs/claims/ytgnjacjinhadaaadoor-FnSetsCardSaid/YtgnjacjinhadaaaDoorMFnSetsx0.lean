-- Written by a program of this session, out of Lean's print of the translation. Not trusted: Lean checks it.
import Derived.Test.YtgnjacjinhadaaaDoorProg
import Derived.Below
import Derived.Deep.Draws
import Derived.Deep.AppendLies
import Derived.Maps.AppendAt
import Derived.OwnWalk
import Derived.Laws.BytesArg
import Derived.Laws.MakeOwn
import Derived.Laws.OwnMore
import Derived.Deep.OwnRows
import Derived.Tactics
import Derived.Lib.ConvBytes
import Derived.Laws.Slices
import Derived.WalkKit
import Derived.KernelRfl
import Derived.RowKit3
import Derived.Deep.LoopGhost
import Derived.Deep.QuietTactic
import Derived.BigQuiet
import Derived.WideLaws
import Derived.Deep.DeepCutAuto
import Derived.Deep.CutBlock
import Derived.Deep.RegionHeld3
import Derived.Laws.Rows
import Derived.Lib.AppendStr
import Derived.ArgAppend
import Derived.Laws.IdiomCopy
import Derived.OrdersHeld
import Derived.Laws.BitsLemmas
import Derived.RowKit
import Derived.Laws.Bits64b
import Derived.Lib.TrailingZeros
import Derived.Test.YtgnjacjinhadaaaDoorShort2
import Derived.Test.YtgnjacjinhadaaaDoorWWords
import Derived.Test.YtgnjacjinhadaaaDoorWLast
import Derived.Test.YtgnjacjinhadaaaDoorWTab
import Derived.Test.YtgnjacjinhadaaaDoorWFour
import Derived.Test.YtgnjacjinhadaaaDoorWQPut
import Derived.Test.YtgnjacjinhadaaaDoorWApart
import Derived.Test.YtgnjacjinhadaaaDoorWArr
import Derived.Test.YtgnjacjinhadaaaDoorWZeros
import Derived.Test.YtgnjacjinhadaaaDoorWFoot
import Derived.Test.YtgnjacjinhadaaaDoorWKept
import Derived.Test.YtgnjacjinhadaaaDoorWShare
import Derived.Test.YtgnjacjinhadaaaDoorWN
import Derived.Test.YtgnjacjinhadaaaDoorWFootNe
import Derived.Test.YtgnjacjinhadaaaDoorWAt
import Derived.Test.YtgnjacjinhadaaaDoorWEqStruct
import Derived.Test.YtgnjacjinhadaaaDoorWRepsOne
import Derived.Test.YtgnjacjinhadaaaDoorWInv
import Derived.Test.YtgnjacjinhadaaaDoorWInvWords
import Derived.Test.YtgnjacjinhadaaaDoorWGuard
import Derived.Test.YtgnjacjinhadaaaDoorWNEv
import Derived.Test.YtgnjacjinhadaaaDoorWMore
namespace Go.Proofs.YtgnjacjinhadaaaDoor.MFnSets
open Go.RowKit Go.Proofs.YtgnjacjinhadaaaDoorW.PrintWords Go.Proofs.YtgnjacjinhadaaaDoorW.PrintLast Go.Proofs.YtgnjacjinhadaaaDoorW.PrintMore
attribute [local go_sem] max2_int min2_int max_two min_two max_three min_three max_four min_four   -- for this text's walks alone
set_option linter.unusedVariables false
set_option linter.unusedSimpArgs false



def errW : Option Int → Value
  | none => .nilIface
  | some c => .iface 0 (.int .i64 c)
theorem errW_none : errW none = .nilIface := rfl
theorem errW_some (c : Int) : errW (some c) = .iface 0 (.int .i64 c) := rfl

theorem info3 : (Tryd.prog.info? 3).map (fun i => (i.zero, i.size, i.bytes)) = some (some (.int .i64 0), 1, 8) := by kernel_rfl
-- the values' own types

end Go.Proofs.YtgnjacjinhadaaaDoor.MFnSets
