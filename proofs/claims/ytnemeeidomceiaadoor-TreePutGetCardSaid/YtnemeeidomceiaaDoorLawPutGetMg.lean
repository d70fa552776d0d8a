import Derived.Test.YtnemeeidomceiaaDoorMg11
import Derived.Test.YtnemeeidomceiaaDoorOpenBothMg
namespace Go.Proofs.YtnemeeidomceiaaDoor
open Go.RowKit Go.Proofs.YtnemeeidomceiaaDoorW.PrintWords Go.Proofs.YtnemeeidomceiaaDoorW.PrintLast Go.Proofs.YtnemeeidomceiaaDoorW.PrintMore
theorem treePutGet_walk (a0 : Int × Bool × ByteArray × List S63) (a1 : ByteArray) (a2 : (Int × Bool × ByteArray × List S63) × ByteArray) (W : World) {v0 v2 : Value}
    (w0 : ∃ A c, v0 = .agg #[.int .i64 a0.1, .bool a0.2.1, .string a0.2.2.1, .slice A a0.2.2.2.length c] ∧ a0.2.2.2.length ≤ c ∧ Kd.C k63 W A a0.2.2.2.length a0.2.2.2 ∧ (Texts a0.2.2.2 ∧ Fit a0.2.2.2) ∧ a0.2.2.1.size ≤ 140737488351232) (w1 : a1.size ≤ 140737488351232)
    (w2 : ∃ A c, v2 = .agg #[.int .i64 a2.1.1, .bool a2.1.2.1, .string a2.1.2.2.1, .slice A a2.1.2.2.2.length c, .string a2.2] ∧ a2.1.2.2.2.length ≤ c ∧ Kd.C k63 W A a2.1.2.2.2.length a2.1.2.2.2 ∧ (Texts a2.1.2.2.2 ∧ Fit a2.1.2.2.2) ∧ a2.1.2.2.1.size ≤ 140737488351232 ∧ a2.2.size ≤ 140737488351232) :
    Calls Tryd.prog 8 #[v0, .string a1, v2] W fun e W' => e = .returned (.bool true) ∧ Below W.heap.size W W' := by
  obtain ⟨A0, c0, rfl, h0, r0, f0, g0⟩ := w0
  obtain ⟨A2, c2, rfl, h2, r2, f2, g2, p2⟩ := w2
  exact putget_calls a0.1 a0.2.1 a0.2.2.1 a0.2.2.2 a1 a2.1.1 a2.1.2.1 a2.1.2.2.1 a2.1.2.2.2 a2.2 A0 c0 A2 c2 W r0 h0 ⟨⟨f0.1, g0⟩, f0.2⟩ w1 r2 h2 ⟨⟨f2.1, g2⟩, f2.2⟩ p2
end Go.Proofs.YtnemeeidomceiaaDoor
