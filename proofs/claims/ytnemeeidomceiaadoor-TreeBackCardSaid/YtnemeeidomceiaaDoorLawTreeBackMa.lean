import Derived.Test.YtnemeeidomceiaaDoorOpenBothMa
import Derived.Test.YtnemeeidomceiaaDoorOpenRowsMa
import Derived.Test.YtnemeeidomceiaaDoorPureTreeBackMa
set_option linter.unusedSimpArgs false
set_option linter.unusedVariables false
namespace Go.Proofs.YtnemeeidomceiaaDoor
open Go.RowKit Go.Proofs.YtnemeeidomceiaaDoorW.PrintWords Go.Proofs.YtnemeeidomceiaaDoorW.PrintLast Go.Proofs.YtnemeeidomceiaaDoorW.PrintMore
theorem treeBack_walk (a0 : Int × Bool × ByteArray × List S63) (a1 : List S27) (W : World) {v0 v1 : Value}
  (w0 : ∃ A c, v0 = .agg #[.int .i64 a0.1, .bool a0.2.1, .string a0.2.2.1, .slice A a0.2.2.2.length c] ∧ a0.2.2.2.length ≤ c ∧ Kd.C k63 W A a0.2.2.2.length a0.2.2.2 ∧ (Texts a0.2.2.2 ∧ Fit a0.2.2.2) ∧ a0.2.2.1.size ≤ 140737488351232)
  (w1 : (∃ A c, v1 = .slice A a1.length c ∧ a1.length ≤ c ∧ Kd.C k27 W A a1.length a1) ∧ (a1.length * 48 ≤ 140737488351232 ∧ ∀ x ∈ a1, x.f0.size ≤ 140737488351232 ∧ (Lit.int .i64 x.f1).wf = true ∧ True ∧ x.f3.size ≤ 140737488351232)) :
  Calls Tryd.prog 4 #[v0, v1] W fun e W' => e = .returned (.bool true) ∧ Below W.heap.size W W' := by
 obtain ⟨A0, c0, rfl, h0, r0, f0, g0⟩ := w0
 obtain ⟨⟨A1, c1, rfl, h1, r1⟩, e1, e2⟩ := w1
 obtain ⟨k, hk⟩ := PBTreeBack.law_true a0.1 a0.2.1 a0.2.2.1 a0.2.2.2 a1 ⟨f0.1, g0⟩ f0.2 (by omega) (fun r hr => ⟨(e2 r hr).1, (e2 r hr).2.2.2⟩)
 exact PBTreeBack.depotlaw06_TreeBack.calls k a0.1 a0.2.1 a0.2.2.1 A0 c0 a0.2.2.2 A1 c1 a1 true W r0 h0 r1 h1 hk
end Go.Proofs.YtnemeeidomceiaaDoor
