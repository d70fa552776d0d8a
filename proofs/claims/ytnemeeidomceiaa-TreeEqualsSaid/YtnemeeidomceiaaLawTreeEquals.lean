import Derived.Test.YtnemeeidomceiaaPureTreeEquals
import Derived.Test.YtnemeeidomceiaaOpenNode
namespace Go.Proofs.Ytnemeeidomceiaa
open Go.RowKit Go.Proofs.YtnemeeidomceiaaW.PrintWords Go.Proofs.YtnemeeidomceiaaW.PrintLast Go.Proofs.YtnemeeidomceiaaW.PrintMore
theorem treeEquals_walk (a0 a1 : Int × Bool × ByteArray × List S49) (W : World) {v0 v1 : Value}
    (w0 : ∃ A c, v0 = .agg #[.int .i64 a0.1, .bool a0.2.1, .string a0.2.2.1, .slice A a0.2.2.2.length c] ∧ a0.2.2.2.length ≤ c ∧ Kd.C k49 W A a0.2.2.2.length a0.2.2.2 ∧ Fit a0.2.2.2)
    (w1 : ∃ A c, v1 = .agg #[.int .i64 a1.1, .bool a1.2.1, .string a1.2.2.1, .slice A a1.2.2.2.length c] ∧ a1.2.2.2.length ≤ c ∧ Kd.C k49 W A a1.2.2.2.length a1.2.2.2 ∧ Fit a1.2.2.2) :
    Calls Try.prog 3 #[v0, v1] W fun e W' => e = .returned (.bool true) ∧ Below W.heap.size W W' := by
  obtain ⟨A0, c0, rfl, h0, r0, f0⟩ := w0
  obtain ⟨A1, c1, rfl, h1, r1, f1⟩ := w1
  obtain ⟨k, hk⟩ := PTreeEquals.law_true a0.1 a0.2.1 a0.2.2.1 a0.2.2.2 a1.1 a1.2.1 a1.2.2.1 a1.2.2.2 f0
  exact PTreeEquals.depotlaw06_TreeEquals.calls k a0.1 a0.2.1 a0.2.2.1 A0 c0 a0.2.2.2 a1.1 a1.2.1 a1.2.2.1 A1 c1 a1.2.2.2 true W r0 h0 r1 h1 hk
end Go.Proofs.Ytnemeeidomceiaa
