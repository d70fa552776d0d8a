-- Written by a program of this session (wip/tools/xprint.py, which calls the kit's printer): not trusted, Lean checks it.
import Derived.Test.YtnemeeidomceiaaProg
import Derived.Below
import Derived.Deep.Draws
import Derived.Deep.AppendLies
import Derived.Maps.AppendAt
import Derived.OwnWalk
import Derived.Laws.BytesArg
import Derived.Laws.MakeOwn
import Derived.Laws.OwnMore
import Derived.Deep.OwnRows
import Derived.Tactics
import Derived.Lib.ConvBytes
import Derived.Laws.Slices
import Derived.WalkKit
import Derived.KernelRfl
import Derived.RowKit3
import Derived.Deep.LoopGhost
import Derived.Deep.QuietTactic
import Derived.BigQuiet
import Derived.WideLaws
import Derived.Deep.DeepCutAuto
import Derived.Deep.CutBlock
import Derived.Deep.RegionHeld3
import Derived.Laws.Rows
import Derived.Lib.AppendStr
import Derived.ArgAppend
import Derived.Laws.IdiomCopy
import Derived.OrdersHeld
import Derived.Laws.BitsLemmas
import Derived.RowKit
import Derived.Test.YtnemeeidomceiaaTreeKinds
import Derived.Test.YtnemeeidomceiaaExtAny
import Derived.Test.YtnemeeidomceiaaExtNames
import Derived.Test.YtnemeeidomceiaaWWords
import Derived.Test.YtnemeeidomceiaaWLast
import Derived.Test.YtnemeeidomceiaaWTab
import Derived.Test.YtnemeeidomceiaaWFour
import Derived.Test.YtnemeeidomceiaaWQPut
import Derived.Test.YtnemeeidomceiaaWApart
import Derived.Test.YtnemeeidomceiaaWArr
import Derived.Test.YtnemeeidomceiaaWZeros
import Derived.Test.YtnemeeidomceiaaWFoot
import Derived.Test.YtnemeeidomceiaaWKept
import Derived.Test.YtnemeeidomceiaaWShare
import Derived.Test.YtnemeeidomceiaaWN
import Derived.Test.YtnemeeidomceiaaWFootNe
import Derived.Test.YtnemeeidomceiaaWAt
import Derived.Test.YtnemeeidomceiaaWEqStruct
import Derived.Test.YtnemeeidomceiaaWRepsOne
import Derived.Test.YtnemeeidomceiaaWInv
import Derived.Test.YtnemeeidomceiaaWInvWords
import Derived.Test.YtnemeeidomceiaaWGuard
import Derived.Test.YtnemeeidomceiaaWNEv
import Derived.Test.YtnemeeidomceiaaWMore
namespace Go.Proofs.Ytnemeeidomceiaa.PTreeChecks
open Go.RowKit Go.Proofs.YtnemeeidomceiaaW.PrintWords Go.Proofs.YtnemeeidomceiaaW.PrintLast Go.Proofs.YtnemeeidomceiaaW.PrintMore
attribute [local go_sem] max2_int min2_int max_two min_two max_three min_three max_four min_four   -- for this text's walks alone
set_option linter.unusedVariables false
set_option linter.unusedSimpArgs false
noncomputable section



def errW : Option Int → Value
  | none => .nilIface
  | some c => .iface 0 (.int .i64 c)
theorem errW_none : errW none = .nilIface := rfl
theorem errW_some (c : Int) : errW (some c) = .iface 0 (.int .i64 c) := rfl

theorem info9 : (Try.prog.info? 9).map (fun i => (i.zero, i.size, i.bytes)) = some (some (.string ⟨#[]⟩), 1, 16) := by kernel_rfl
-- the values' own types

end
end Go.Proofs.Ytnemeeidomceiaa.PTreeChecks
