import Derived.Test.YtkpicjhhkdjejaaPlaysState
import Derived.Test.YtkpicjhhkdjejaaOpenTbl
namespace Go.Proofs.Ytkpicjhhkdjejaa
open Go.RowKit Go.Proofs.YtkpicjhhkdjejaaW.PrintWords
theorem opens_Op (N : Nat) : OpensAt Try.prog N 60 kOp (fun x => (Lit.int .i64 x.1).wf = true ∧ (Lit.int .i64 x.2.1).wf = true ∧ x.2.2.1.size ≤ 140737488351232 ∧ (Lit.int .i64 x.2.2.2).wf = true) := by
  refine opens_struct Try.underlying60 (by decide +kernel) ?_
  have h3 : ∀ f : Field, f.type = 3 → f.offset = 3 → OpensFs Try.prog N [f] 3 (Kd.int .i64) (fun x => (Lit.int .i64 x).wf = true) := fun f ht ho => opensFs_one (by rw [ht]; decide +kernel) ho (fun M _ => by rw [ht]; exact opens_int Try.underlying3)
  have h2 : ∀ f f' : Field, f.type = 9 → f.offset = 2 → f'.type = 3 → f'.offset = 3 → OpensFs Try.prog N [f, f'] 2 (Kd.pair Kd.string (Kd.int .i64)) (fun x => x.1.size ≤ 140737488351232 ∧ (Lit.int .i64 x.2).wf = true) := fun f f' ht ho ht' ho' =>
    opensFs_cons (G := fun x : ByteArray => x.size ≤ 140737488351232) (G' := fun x : Int => (Lit.int .i64 x).wf = true) (by rw [ht]; decide +kernel) ho (fun M _ => by rw [ht]; exact opens_string Try.underlying9) (h3 f' ht' ho')
  have h1 : ∀ f f' f'' : Field, f.type = 3 → f.offset = 1 → f'.type = 9 → f'.offset = 2 → f''.type = 3 → f''.offset = 3 → OpensFs Try.prog N [f, f', f''] 1 (Kd.pair (Kd.int .i64) (Kd.pair Kd.string (Kd.int .i64))) (fun x => (Lit.int .i64 x.1).wf = true ∧ x.2.1.size ≤ 140737488351232 ∧ (Lit.int .i64 x.2.2).wf = true) := fun f f' f'' ht ho ht' ho' ht'' ho'' =>
    opensFs_cons (G := fun x : Int => (Lit.int .i64 x).wf = true) (G' := fun x : ByteArray × Int => x.1.size ≤ 140737488351232 ∧ (Lit.int .i64 x.2).wf = true) (by rw [ht]; decide +kernel) ho (fun M _ => by rw [ht]; exact opens_int Try.underlying3) (h2 f' f'' ht' ho' ht'' ho'')
  exact opensFs_cons (G := fun x : Int => (Lit.int .i64 x).wf = true) (G' := fun x : Int × ByteArray × Int => (Lit.int .i64 x.1).wf = true ∧ x.2.1.size ≤ 140737488351232 ∧ (Lit.int .i64 x.2.2).wf = true) (by decide +kernel) rfl (fun M _ => opens_int Try.underlying3) (h1 _ _ _ rfl rfl rfl rfl rfl rfl)
section
variable {H : Type} {enc : TypeId × Value → H} {w : World} {r : Reach} {b0 : Nat} {v : Value} {d : DataW H} {ps : List MemPlace} {ts : List TypeId} {ds : List (DataW H)} {j : Nat}
theorem open_arg_ops (hval : Value.okWide Try.prog w r b0 56 v) (hsz : (DataW.weightsEach Try.prog ts ds).all (· ≤ reachBytes) = true) (ht : ts[j]? = some 56) (hd : ds[j]? = some d) (h : DataW.Trod enc Try.prog w 0 (fun _ => true) true 56 v d ps) :
    ∃ a : List (Int × Int × ByteArray × Int), (∃ A c, v = .slice A a.length c ∧ a.length ≤ c ∧ Kd.C kOp w A a.length a) ∧ (a.length * 40 ≤ 140737488351232 ∧ ∀ x ∈ a, (Lit.int .i64 x.1).wf = true ∧ (Lit.int .i64 x.2.1).wf = true ∧ x.2.2.1.size ≤ 140737488351232 ∧ (Lit.int .i64 x.2.2.2).wf = true) :=
  open_slice_arg (fun N => opens_slice Try.underlying56 (by decide +kernel) (by decide +kernel) (by decide) (fun M _ => opens_Op M)) Try.underlying56 hval hsz ht hd h
end
end Go.Proofs.Ytkpicjhhkdjejaa
