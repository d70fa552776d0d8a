import Derived.Test.YtnemeeidomceiaaPureTreeWalks
import Derived.Test.YtnemeeidomceiaaOpenTexts
namespace Go.Proofs.Ytnemeeidomceiaa
open Go.RowKit Go.Proofs.YtnemeeidomceiaaW.PrintWords Go.Proofs.YtnemeeidomceiaaW.PrintLast Go.Proofs.YtnemeeidomceiaaW.PrintMore
theorem treeWalks_walk (a0 : Int × Bool × ByteArray × List S49) (W : World) {v0 : Value}
    (w0 : ∃ A c, v0 = .agg #[.int .i64 a0.1, .bool a0.2.1, .string a0.2.2.1, .slice A a0.2.2.2.length c] ∧ a0.2.2.2.length ≤ c ∧ Kd.C k49 W A a0.2.2.2.length a0.2.2.2 ∧ Texts a0.2.2.2 ∧ a0.2.2.1.size ≤ 140737488351232) :
    Calls Try.prog 5 #[v0] W fun e W' => e = .returned (.bool true) ∧ Below W.heap.size W W' := by
  obtain ⟨A0, c0, rfl, h0, r0, f0, g0⟩ := w0
  obtain ⟨k, hk⟩ := PZTreeWalks.law_true a0.1 a0.2.1 a0.2.2.1 a0.2.2.2 ⟨f0, g0⟩
  exact PZTreeWalks.depotlaw06_TreeWalks.calls k a0.1 a0.2.1 a0.2.2.1 A0 c0 a0.2.2.2 true W r0 h0 hk
end Go.Proofs.Ytnemeeidomceiaa
