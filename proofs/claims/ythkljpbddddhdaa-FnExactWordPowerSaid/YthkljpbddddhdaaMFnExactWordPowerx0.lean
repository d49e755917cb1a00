-- Written by a program of this session, out of Lean's print of the translation. Not trusted: Lean checks it.
import Derived.Test.YthkljpbddddhdaaProg
import Derived.Below
import Derived.Deep.Draws
import Derived.Deep.AppendLies
import Derived.Maps.AppendAt
import Derived.OwnWalk
import Derived.Laws.BytesArg
import Derived.Laws.MakeOwn
import Derived.Laws.OwnMore
import Derived.Deep.OwnRows
import Derived.Tactics
import Derived.Lib.ConvBytes
import Derived.Laws.Slices
import Derived.WalkKit
import Derived.KernelRfl
import Derived.RowKit3
import Derived.Deep.LoopGhost
import Derived.Deep.QuietTactic
import Derived.BigQuiet
import Derived.WideLaws
import Derived.Deep.DeepCutAuto
import Derived.Deep.CutBlock
import Derived.Deep.RegionHeld3
import Derived.Laws.Rows
import Derived.Lib.AppendStr
import Derived.ArgAppend
import Derived.Laws.IdiomCopy
import Derived.OrdersHeld
import Derived.Laws.BitsLemmas
import Derived.RowKit
import Derived.Deep.RegionLaw
import Derived.Laws.Bits64b
import Derived.Lib.SliceRun
import Derived.Test.YthkljpbddddhdaaShort2
import Derived.Test.YthkljpbddddhdaaWWords
import Derived.Test.YthkljpbddddhdaaWLast
import Derived.Test.YthkljpbddddhdaaWTab
import Derived.Test.YthkljpbddddhdaaWFour
import Derived.Test.YthkljpbddddhdaaWQPut
import Derived.Test.YthkljpbddddhdaaWApart
import Derived.Test.YthkljpbddddhdaaWArr
import Derived.Test.YthkljpbddddhdaaWZeros
import Derived.Test.YthkljpbddddhdaaWFoot
import Derived.Test.YthkljpbddddhdaaWKept
import Derived.Test.YthkljpbddddhdaaWShare
import Derived.Test.YthkljpbddddhdaaWN
import Derived.Test.YthkljpbddddhdaaWFootNe
import Derived.Test.YthkljpbddddhdaaWAt
import Derived.Test.YthkljpbddddhdaaWEqStruct
import Derived.Test.YthkljpbddddhdaaWRepsOne
import Derived.Test.YthkljpbddddhdaaWInv
import Derived.Test.YthkljpbddddhdaaWInvWords
import Derived.Test.YthkljpbddddhdaaWGuard
import Derived.Test.YthkljpbddddhdaaWNEv
import Derived.Test.YthkljpbddddhdaaWMore
namespace Go.Proofs.Ythkljpbddddhdaa.MFnExactWordPower
open Go.RowKit Go.Proofs.YthkljpbddddhdaaW.PrintWords Go.Proofs.YthkljpbddddhdaaW.PrintLast Go.Proofs.YthkljpbddddhdaaW.PrintMore
attribute [local go_sem] max2_int min2_int max_two min_two max_three min_three max_four min_four   -- for this text's walks alone
set_option linter.unusedVariables false
set_option linter.unusedSimpArgs false



def errW : Option Int → Value
  | none => .nilIface
  | some c => .iface 0 (.int .i64 c)
theorem errW_none : errW none = .nilIface := rfl
theorem errW_some (c : Int) : errW (some c) = .iface 0 (.int .i64 c) := rfl

theorem info3 : (Try.prog.info? 3).map (fun i => (i.zero, i.size, i.bytes)) = some (some (.int .i64 0), 1, 8) := by kernel_rfl
-- the values' own types

end Go.Proofs.Ythkljpbddddhdaa.MFnExactWordPower
