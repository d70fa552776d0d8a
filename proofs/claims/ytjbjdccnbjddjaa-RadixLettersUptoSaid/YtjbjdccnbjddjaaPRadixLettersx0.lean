-- Written by a program of this session (wip/tools/xprint.py, which calls the kit's printer): not trusted, Lean checks it.
import Derived.Test.YtjbjdccnbjddjaaProg
import Derived.Below
import Derived.Deep.Draws
import Derived.Deep.AppendLies
import Derived.Maps.AppendAt
import Derived.OwnWalk
import Derived.Laws.BytesArg
import Derived.Laws.MakeOwn
import Derived.Laws.OwnMore
import Derived.Deep.OwnRows
import Derived.Tactics
import Derived.Lib.ConvBytes
import Derived.Laws.Slices
import Derived.WalkKit
import Derived.KernelRfl
import Derived.RowKit3
import Derived.Deep.LoopGhost
import Derived.Deep.QuietTactic
import Derived.BigQuiet
import Derived.WideLaws
import Derived.Deep.DeepCutAuto
import Derived.Deep.CutBlock
import Derived.Deep.RegionHeld3
import Derived.Laws.Rows
import Derived.Lib.AppendStr
import Derived.ArgAppend
import Derived.Laws.IdiomCopy
import Derived.OrdersHeld
import Derived.Laws.BitsLemmas
import Derived.RowKit
import Derived.Test.YtjbjdccnbjddjaaExtFold
import Derived.Test.YtjbjdccnbjddjaaExtMixed
import Derived.Test.YtjbjdccnbjddjaaExtIndexByte
import Derived.Test.YtjbjdccnbjddjaaExtHex
import Derived.Test.YtjbjdccnbjddjaaExtFromHex
import Derived.Test.YtjbjdccnbjddjaaExtFromBase32
import Derived.Test.YtjbjdccnbjddjaaExtTurned
import Derived.Test.YtjbjdccnbjddjaaExtRefFromHex
import Derived.Test.YtjbjdccnbjddjaaWWords
import Derived.Test.YtjbjdccnbjddjaaWLast
import Derived.Test.YtjbjdccnbjddjaaWTab
import Derived.Test.YtjbjdccnbjddjaaWFour
import Derived.Test.YtjbjdccnbjddjaaWQPut
import Derived.Test.YtjbjdccnbjddjaaWApart
import Derived.Test.YtjbjdccnbjddjaaWArr
import Derived.Test.YtjbjdccnbjddjaaWZeros
import Derived.Test.YtjbjdccnbjddjaaWFoot
import Derived.Test.YtjbjdccnbjddjaaWKept
import Derived.Test.YtjbjdccnbjddjaaWShare
import Derived.Test.YtjbjdccnbjddjaaWN
import Derived.Test.YtjbjdccnbjddjaaWFootNe
import Derived.Test.YtjbjdccnbjddjaaWAt
import Derived.Test.YtjbjdccnbjddjaaWEqStruct
import Derived.Test.YtjbjdccnbjddjaaWRepsOne
import Derived.Test.YtjbjdccnbjddjaaWInv
import Derived.Test.YtjbjdccnbjddjaaWInvWords
import Derived.Test.YtjbjdccnbjddjaaWGuard
import Derived.Test.YtjbjdccnbjddjaaWNEv
import Derived.Test.YtjbjdccnbjddjaaWMore
namespace Go.Proofs.Ytjbjdccnbjddjaa.PRadixLetters
open Go.RowKit Go.Proofs.YtjbjdccnbjddjaaW.PrintWords Go.Proofs.YtjbjdccnbjddjaaW.PrintLast Go.Proofs.YtjbjdccnbjddjaaW.PrintMore
attribute [local go_sem] max2_int min2_int max_two min_two max_three min_three max_four min_four   -- for this text's walks alone
set_option linter.unusedVariables false
set_option linter.unusedSimpArgs false



def errW : Option Int → Value
  | none => .nilIface
  | some c => .iface 0 (.int .i64 c)
theorem errW_none : errW none = .nilIface := rfl
theorem errW_some (c : Int) : errW (some c) = .iface 0 (.int .i64 c) := rfl

theorem info3 : (Try.prog.info? 3).map (fun i => (i.zero, i.size, i.bytes)) = some (some (.int .i64 0), 1, 8) := by kernel_rfl
theorem info5 : (Try.prog.info? 5).map (fun i => (i.zero, i.size, i.bytes)) = some (some (.int .u8 0), 1, 1) := by kernel_rfl
-- the values' own types

end Go.Proofs.Ytjbjdccnbjddjaa.PRadixLetters
