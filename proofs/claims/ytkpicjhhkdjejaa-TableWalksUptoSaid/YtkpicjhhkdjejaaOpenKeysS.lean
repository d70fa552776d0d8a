import Derived.Test.YtkpicjhhkdjejaaOpensU
set_option linter.unusedVariables false
namespace Go.Proofs.Ytkpicjhhkdjejaa
open Go.RowKit Go.Proofs.YtkpicjhhkdjejaaW.PrintWords Go.Proofs.Ytkpicjhhkdjejaa.U
section
variable {H : Type} {enc : TypeId × Value → H} {w : World} {r : Reach} {b0 : Nat} {v : Value} {d : DataW H} {ps : List MemPlace} {ts : List TypeId} {ds : List (DataW H)} {j : Nat}
/-- A list of strings among the arguments, with its bulk and the bound of each string. -/
theorem open_arg_keysS (hval : Value.okWide Try.prog w r b0 22 v) (hsz : (DataW.weightsEach Try.prog ts ds).all (· ≤ reachBytes) = true) (ht : ts[j]? = some 22) (hd : ds[j]? = some d) (h : DataW.Trod enc Try.prog w 0 (fun _ => true) true 22 v d ps) :
    ∃ a : List ByteArray, ((∃ A c, v = .slice A a.length c ∧ a.length ≤ c ∧ Kd.C Kd.string w A a.length a) ∧ ∀ s ∈ a, s.size ≤ 140737488351232) ∧ a.length ≤ Rows.uptoBulk d := by
  obtain ⟨a, h1, h2, h3⟩ := U.open_slice_arg (fun N => U.opens_slice Try.underlying22 (by kernel_rfl) (by kernel_rfl : Try.prog.bytesOf 9 = 16) (by decide) (fun M _ => U.opens_string Try.underlying9)) Try.underlying22 hval hsz ht hd h
  exact ⟨a, ⟨h1, h2.2⟩, Nat.le_trans (Nat.le_trans (U.bulk_len (fun x => Nat.le_add_left _ _) a) (Nat.le_succ _)) h3⟩
end
end Go.Proofs.Ytkpicjhhkdjejaa
