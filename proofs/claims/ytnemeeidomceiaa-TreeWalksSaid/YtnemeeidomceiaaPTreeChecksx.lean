-- Written by a program of this session (wip/tools/xprint.py, which calls the kit's printer): not trusted, Lean checks it.
import Derived.Test.YtnemeeidomceiaaPTreeChecksx0
import Derived.Test.YtnemeeidomceiaaPTreeChecksx1
import Derived.Test.YtnemeeidomceiaaPTreeChecksx2
import Derived.Test.YtnemeeidomceiaaPTreeChecksx3
namespace Go.Proofs.Ytnemeeidomceiaa.PTreeChecks
open Go.RowKit Go.Proofs.YtnemeeidomceiaaW.PrintWords Go.Proofs.YtnemeeidomceiaaW.PrintLast Go.Proofs.YtnemeeidomceiaaW.PrintMore
attribute [local go_sem] max2_int min2_int max_two min_two max_three min_three max_four min_four   -- for this text's walks alone
set_option linter.unusedVariables false
set_option linter.unusedSimpArgs false
noncomputable section

end
end Go.Proofs.Ytnemeeidomceiaa.PTreeChecks
