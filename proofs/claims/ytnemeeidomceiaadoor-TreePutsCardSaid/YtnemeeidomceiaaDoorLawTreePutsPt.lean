import Derived.Test.YtnemeeidomceiaaDoorOpenBothPt
import Derived.Test.YtnemeeidomceiaaDoorPt11
set_option linter.unusedSimpArgs false
set_option linter.unusedVariables false
namespace Go.Proofs.YtnemeeidomceiaaDoor
open Go.RowKit Go.Proofs.YtnemeeidomceiaaDoorW.PrintWords Go.Proofs.YtnemeeidomceiaaDoorW.PrintLast Go.Proofs.YtnemeeidomceiaaDoorW.PrintMore
theorem treePuts_walk (a0 : Int × Bool × ByteArray × List S63) (a1 : ByteArray) (a2 : Int × Bool × ByteArray × List S63) (W : World) {v0 v2 : Value}
  (w0 : ∃ A c, v0 = .agg #[.int .i64 a0.1, .bool a0.2.1, .string a0.2.2.1, .slice A a0.2.2.2.length c] ∧ a0.2.2.2.length ≤ c ∧ Kd.C k63 W A a0.2.2.2.length a0.2.2.2 ∧ (Texts a0.2.2.2 ∧ Fit a0.2.2.2) ∧ a0.2.2.1.size ≤ 140737488351232) (w1 : a1.size ≤ 140737488351232)
  (w2 : ∃ A c, v2 = .agg #[.int .i64 a2.1, .bool a2.2.1, .string a2.2.2.1, .slice A a2.2.2.2.length c] ∧ a2.2.2.2.length ≤ c ∧ Kd.C k63 W A a2.2.2.2.length a2.2.2.2 ∧ (Texts a2.2.2.2 ∧ Fit a2.2.2.2) ∧ a2.2.2.1.size ≤ 140737488351232) :
  Calls Tryd.prog 7 #[v0, .string a1, v2] W fun e W' => e = .returned (.bool true) ∧ Below W.heap.size W W' := by
 obtain ⟨A0, c0, rfl, h0, r0, f0, g0⟩ := w0
 obtain ⟨A2, c2, rfl, h2, r2, f2, g2⟩ := w2
 exact puts_calls a0.1 a0.2.1 a0.2.2.1 a0.2.2.2 a1 a2.1 a2.2.1 a2.2.2.1 a2.2.2.2 A0 A2 c0 c2 W r0 h0 ⟨⟨f0.1, g0⟩, f0.2⟩ w1 r2 h2 ⟨⟨f2.1, g2⟩, f2.2⟩
end Go.Proofs.YtnemeeidomceiaaDoor
