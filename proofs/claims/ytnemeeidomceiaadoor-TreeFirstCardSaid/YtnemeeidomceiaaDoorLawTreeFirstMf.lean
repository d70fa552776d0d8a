import Derived.Test.YtnemeeidomceiaaDoorOpenRowsMf
import Derived.Test.YtnemeeidomceiaaDoorPureTreeFirstMf
set_option linter.unusedSimpArgs false
set_option linter.unusedVariables false
namespace Go.Proofs.YtnemeeidomceiaaDoor
open Go.RowKit Go.Proofs.YtnemeeidomceiaaDoorW.PrintWords Go.Proofs.YtnemeeidomceiaaDoorW.PrintLast Go.Proofs.YtnemeeidomceiaaDoorW.PrintMore
theorem treeFirst_walk (a0 : List S27) (W : World) {v0 : Value} (w0 : (∃ A c, v0 = .slice A a0.length c ∧ a0.length ≤ c ∧ Kd.C k27 W A a0.length a0) ∧ (a0.length * 48 ≤ 140737488351232 ∧ ∀ x ∈ a0, x.f0.size ≤ 140737488351232 ∧ (Lit.int .i64 x.f1).wf = true ∧ True ∧ x.f3.size ≤ 140737488351232)) :
  Calls Tryd.prog 5 #[v0] W fun e W' => e = .returned (.bool true) ∧ Below W.heap.size W W' := by
 obtain ⟨⟨A0, c0, rfl, h0, r0⟩, g1, g2⟩ := w0
 obtain ⟨k, hk⟩ := PBTreeFirst.law_true a0 (fun r hr => ⟨(g2 r hr).1, (g2 r hr).2.2.2⟩) (by omega)
 exact PBTreeFirst.depotlaw06_TreeFirst.calls k A0 c0 a0 true W r0 h0 hk
end Go.Proofs.YtnemeeidomceiaaDoor
