import Derived.Test.YtnemeeidomceiaaDoorMt12
import Derived.Test.YtnemeeidomceiaaDoorOpenBothMt
set_option linter.unusedSimpArgs false
set_option linter.unusedVariables false
namespace Go.Proofs.YtnemeeidomceiaaDoor
open Go.RowKit Go.Proofs.YtnemeeidomceiaaDoorW.PrintWords Go.Proofs.YtnemeeidomceiaaDoorW.PrintLast Go.Proofs.YtnemeeidomceiaaDoorW.PrintMore
theorem treeGets_walk (a0 : Int × Bool × ByteArray × List S63) (a1 : ByteArray) (W : World) {v0 : Value}
  (w0 : ∃ A c, v0 = .agg #[.int .i64 a0.1, .bool a0.2.1, .string a0.2.2.1, .slice A a0.2.2.2.length c] ∧ a0.2.2.2.length ≤ c ∧ Kd.C k63 W A a0.2.2.2.length a0.2.2.2 ∧ (Texts a0.2.2.2 ∧ Fit a0.2.2.2) ∧ a0.2.2.1.size ≤ 140737488351232) (w1 : a1.size ≤ 140737488351232) :
  Calls Tryd.prog 6 #[v0, .string a1] W fun e W' => e = .returned (.bool true) ∧ Below W.heap.size W W' := by
 obtain ⟨A0, c0, rfl, h0, r0, f0, g0⟩ := w0
 exact gets_calls a0.1 a0.2.1 a0.2.2.1 a0.2.2.2 a1 A0 c0 W r0 h0 ⟨⟨f0.1, g0⟩, f0.2⟩ w1
end Go.Proofs.YtnemeeidomceiaaDoor
