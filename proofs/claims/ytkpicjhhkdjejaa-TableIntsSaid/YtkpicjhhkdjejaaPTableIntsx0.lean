-- PRINTED BY print.sh 35421559b90ae4d0a3588c463048766b98c2df88dd9212a6774a882060cdf62d: not written by this session
import Derived.Test.YtkpicjhhkdjejaaProg
import Derived.Below
import Derived.Deep.Draws
import Derived.Deep.AppendLies
import Derived.Maps.AppendAt
import Derived.OwnWalk
import Derived.Laws.BytesArg
import Derived.Laws.MakeOwn
import Derived.Laws.OwnMore
import Derived.Deep.OwnRows
import Derived.Tactics
import Derived.Lib.ConvBytes
import Derived.Laws.Slices
import Derived.WalkKit
import Derived.KernelRfl
import Derived.RowKit3
import Derived.Deep.LoopGhost
import Derived.Deep.QuietTactic
import Derived.BigQuiet
import Derived.WideLaws
import Derived.Deep.DeepCutAuto
import Derived.Deep.CutBlock
import Derived.Deep.RegionHeld3
import Derived.Laws.Rows
import Derived.Lib.AppendStr
import Derived.ArgAppend
import Derived.Laws.IdiomCopy
import Derived.OrdersHeld
import Derived.Laws.BitsLemmas
import Derived.RowKit
import Derived.Test.YtkpicjhhkdjejaaWWords
import Derived.Test.YtkpicjhhkdjejaaWLast
import Derived.Test.YtkpicjhhkdjejaaWTab
import Derived.Test.YtkpicjhhkdjejaaWFour
import Derived.Test.YtkpicjhhkdjejaaWQPut
import Derived.Test.YtkpicjhhkdjejaaWApart
import Derived.Test.YtkpicjhhkdjejaaWArr
import Derived.Test.YtkpicjhhkdjejaaWZeros
import Derived.Test.YtkpicjhhkdjejaaWFoot
import Derived.Test.YtkpicjhhkdjejaaWKept
import Derived.Test.YtkpicjhhkdjejaaWShare
import Derived.Test.YtkpicjhhkdjejaaWN
import Derived.Test.YtkpicjhhkdjejaaWFootNe
import Derived.Test.YtkpicjhhkdjejaaWAt
import Derived.Test.YtkpicjhhkdjejaaWEqStruct
import Derived.Test.YtkpicjhhkdjejaaWRepsOne
import Derived.Test.YtkpicjhhkdjejaaWInv
import Derived.Test.YtkpicjhhkdjejaaWInvWords
import Derived.Test.YtkpicjhhkdjejaaWGuard
import Derived.Test.YtkpicjhhkdjejaaWNEv
import Derived.Test.YtkpicjhhkdjejaaWMore
namespace Go.Proofs.Ytkpicjhhkdjejaa.PTableInts
open Go.RowKit Go.Proofs.YtkpicjhhkdjejaaW.PrintWords Go.Proofs.YtkpicjhhkdjejaaW.PrintLast Go.Proofs.YtkpicjhhkdjejaaW.PrintMore
attribute [local go_sem] max2_int min2_int max_two min_two max_three min_three max_four min_four   -- for this text's walks alone
set_option linter.unusedVariables false
set_option linter.unusedSimpArgs false



def errW : Option Int → Value
  | none => .nilIface
  | some c => .iface 0 (.int .i64 c)
theorem errW_none : errW none = .nilIface := rfl
theorem errW_some (c : Int) : errW (some c) = .iface 0 (.int .i64 c) := rfl

-- the values' own types

end Go.Proofs.Ytkpicjhhkdjejaa.PTableInts
