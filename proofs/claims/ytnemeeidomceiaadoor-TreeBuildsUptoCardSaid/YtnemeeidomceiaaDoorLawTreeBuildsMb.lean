import Derived.Test.YtnemeeidomceiaaDoorMb12
import Derived.Test.YtnemeeidomceiaaDoorOpenRowsUMb
set_option linter.unusedSimpArgs false
set_option linter.unusedVariables false
namespace Go.Proofs.YtnemeeidomceiaaDoor
open Go.RowKit Go.Proofs.YtnemeeidomceiaaDoorW.PrintWords Go.Proofs.YtnemeeidomceiaaDoorW.PrintLast Go.Proofs.YtnemeeidomceiaaDoorW.PrintMore
theorem treeBuilds_walk (a0 : List S27) (W : World) {v0 : Value} (w0 : RU.RowsArg W v0 a0 ∧ RU.rbulk a0 ≤ 1048576) :
  Calls Tryd.prog 3 #[v0] W fun e W' => e = .returned (.bool true) ∧ Below W.heap.size W W' := by
 obtain ⟨⟨⟨A0, c0, rfl, h0, r0⟩, g1, g2⟩, hb⟩ := w0
 have hl := RU.rbulk_len a0
 obtain ⟨k, hk⟩ := PBTreeBuilds.law_true a0 (by omega) (fun r hr => by have := RU.rbulk_mem hr; omega)
 exact PBTreeBuilds.depotlaw06_TreeBuilds.calls k A0 c0 a0 true W r0 h0 hk
end Go.Proofs.YtnemeeidomceiaaDoor
