import Derived.Test.YtkpicjhhkdjejaaProg
import Derived.Test.YtkpicjhhkdjejaaOpens
namespace Go.Proofs.Ytkpicjhhkdjejaa
open Go.RowKit Go.Proofs.YtkpicjhhkdjejaaW.PrintWords
section
variable {H : Type} {enc : TypeId × Value → H} {w : World} {r : Reach} {b0 : Nat} {v : Value} {d : DataW H} {ps : List MemPlace} {ts : List TypeId} {ds : List (DataW H)} {j : Nat}
theorem open_arg_ints (hval : Value.okWide Try.prog w r b0 44 v) (hsz : (DataW.weightsEach Try.prog ts ds).all (· ≤ reachBytes) = true) (ht : ts[j]? = some 44) (hd : ds[j]? = some d) (h : DataW.Trod enc Try.prog w 0 (fun _ => true) true 44 v d ps) :
    ∃ a : List Int, (∃ A c, v = .slice A a.length c ∧ a.length ≤ c ∧ Kd.C (Kd.int .i64) w A a.length a) ∧ (a.length * 8 ≤ 140737488351232 ∧ ∀ x ∈ a, (Lit.int .i64 x).wf = true) :=
  open_slice_arg (fun N => opens_slice Try.underlying44 (by decide +kernel) (by decide +kernel) (by decide) (fun M _ => opens_int Try.underlying3)) Try.underlying44 hval hsz ht hd h
theorem open_arg_strs (hval : Value.okWide Try.prog w r b0 22 v) (hsz : (DataW.weightsEach Try.prog ts ds).all (· ≤ reachBytes) = true) (ht : ts[j]? = some 22) (hd : ds[j]? = some d) (h : DataW.Trod enc Try.prog w 0 (fun _ => true) true 22 v d ps) :
    ∃ a : List ByteArray, (∃ A c, v = .slice A a.length c ∧ a.length ≤ c ∧ Kd.C Kd.string w A a.length a) ∧ (a.length * 16 ≤ 140737488351232 ∧ ∀ x ∈ a, x.size ≤ 140737488351232) :=
  open_slice_arg (fun N => opens_slice Try.underlying22 (by decide +kernel) (by decide +kernel) (by decide) (fun M _ => opens_string Try.underlying9)) Try.underlying22 hval hsz ht hd h
end
end Go.Proofs.Ytkpicjhhkdjejaa
