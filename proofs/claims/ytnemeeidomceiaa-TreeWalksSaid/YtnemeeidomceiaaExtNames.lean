import Derived.Test.YtnemeeidomceiaaExtAny
namespace Go.Proofs.Ytnemeeidomceiaa
open Go.RowKit Go.Proofs.YtnemeeidomceiaaW.PrintWords Go.Proofs.YtnemeeidomceiaaW.PrintLast Go.Proofs.YtnemeeidomceiaaW.PrintMore
/-- The first place of a byte in a text, or -1. -/
def strings_IndexByte.f (s : ByteArray) (c : Int) : Option Int := some (Lib.indexByte s.data.toList c.toNat.toUInt8)
theorem strings_IndexByte.calls (s : ByteArray) (c : Int) (r : Int) (w : World) (h : strings_IndexByte.f s c = some r) :
    Calls Try.prog 20 #[.string s, .int .u8 c] w fun e w' => e = .returned (.int .i64 r) ∧ Drawn0 w w' := by
  obtain rfl := Option.some.inj h
  refine (Try.strings_IndexByte s c w).mono ?_
  rintro e w' ⟨he, hw⟩
  exact ⟨he, by rw [hw]; exact Drawn0.refl _⟩
open Classical in
/-- Does a text bear one of the two bytes that no name bears? -/
noncomputable def strings_ContainsAny.f (s t : ByteArray) : Option Bool := if t = sep ∧ s.size < 4294967281 then some (Lib.containsAny s.data.toList sep.data.toList) else none
theorem strings_ContainsAny.calls (s t : ByteArray) (r : Bool) (w : World) (h : strings_ContainsAny.f s t = some r) :
    Calls Try.prog 40 #[.string s, .string t] w fun e w' => e = .returned (.bool r) ∧ Below w.heap.size w w' := by
  unfold strings_ContainsAny.f at h
  by_cases hc : t = sep ∧ s.size < 4294967281
  · rw [if_pos hc] at h
    obtain rfl := Option.some.inj h
    rw [hc.1]
    exact containsAny_sep s w hc.2
  · rw [if_neg hc] at h
    cases h
end Go.Proofs.Ytnemeeidomceiaa
