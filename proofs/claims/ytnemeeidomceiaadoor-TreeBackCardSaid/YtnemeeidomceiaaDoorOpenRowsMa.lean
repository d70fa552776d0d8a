import Derived.Test.YtnemeeidomceiaaDoorMa2
import Derived.Test.YtnemeeidomceiaaDoorOpensMa
set_option linter.unusedSimpArgs false
set_option linter.unusedVariables false
namespace Go.Proofs.YtnemeeidomceiaaDoor
open Go.RowKit Go.Proofs.YtnemeeidomceiaaDoorW.PrintWords
set_option maxRecDepth 100000 in
theorem opens_Row (N : Nat) : OpensAt Tryd.prog N 27 k27 (fun x => x.f0.size ≤ 140737488351232 ∧ (Lit.int .i64 x.f1).wf = true ∧ True ∧ x.f3.size ≤ 140737488351232) := by
 refine opens_iso (d := Kd.pair Kd.string (Kd.pair (Kd.int .i64) (Kd.pair Kd.bool Kd.string))) (G := fun x : ByteArray × Int × Bool × ByteArray => x.1.size ≤ 140737488351232 ∧ (Lit.int .i64 x.2.1).wf = true ∧ True ∧ x.2.2.2.size ≤ 140737488351232) (fun x : S27 => (x.f0, x.f1, x.f2, x.f3)) (fun x => ⟨x.1, x.2.1, x.2.2.1, x.2.2.2⟩) (fun _ => rfl) ?_
 refine opens_struct Tryd.underlying27 (by decide +kernel) ?_
 have h3 : ∀ f : Field, f.type = 9 → f.offset = 3 → OpensFs Tryd.prog N [f] 3 Kd.string (fun x => x.size ≤ 140737488351232) := fun f ht ho => opensFs_one (by rw [ht]; decide +kernel) ho (fun M _ => by rw [ht]; exact opens_string Tryd.underlying9)
 have h2 : ∀ f f' : Field, f.type = 4 → f.offset = 2 → f'.type = 9 → f'.offset = 3 → OpensFs Tryd.prog N [f, f'] 2 (Kd.pair Kd.bool Kd.string) (fun x => True ∧ x.2.size ≤ 140737488351232) := fun f f' ht ho ht' ho' =>
  opensFs_cons (G := fun x : Bool => True) (G' := fun x : ByteArray => x.size ≤ 140737488351232) (by rw [ht]; decide +kernel) ho (fun M _ => by rw [ht]; exact opens_bool Tryd.underlying4) (h3 f' ht' ho')
 have h1 : ∀ f f' f'' : Field, f.type = 25 → f.offset = 1 → f'.type = 4 → f'.offset = 2 → f''.type = 9 → f''.offset = 3 → OpensFs Tryd.prog N [f, f', f''] 1 (Kd.pair (Kd.int .i64) (Kd.pair Kd.bool Kd.string)) (fun x => (Lit.int .i64 x.1).wf = true ∧ True ∧ x.2.2.size ≤ 140737488351232) := fun f f' f'' ht ho ht' ho' ht'' ho'' =>
  opensFs_cons (G := fun x : Int => (Lit.int .i64 x).wf = true) (G' := fun x : Bool × ByteArray => True ∧ x.2.size ≤ 140737488351232) (by rw [ht]; decide +kernel) ho (fun M _ => by rw [ht]; exact opens_int Tryd.underlying25) (h2 f' f'' ht' ho' ht'' ho'')
 exact opensFs_cons (G := fun x : ByteArray => x.size ≤ 140737488351232) (G' := fun x : Int × Bool × ByteArray => (Lit.int .i64 x.1).wf = true ∧ True ∧ x.2.2.size ≤ 140737488351232) (by decide +kernel) rfl (fun M _ => opens_string Tryd.underlying9) (h1 _ _ _ rfl rfl rfl rfl rfl rfl)
section
variable {H : Type} {enc : TypeId × Value → H} {w : World} {r : Reach} {b0 : Nat} {v : Value} {d : DataW H} {ps : List MemPlace} {ts : List TypeId} {ds : List (DataW H)} {j : Nat}
set_option maxRecDepth 100000 in
theorem open_arg_rows (hval : Value.okWide Tryd.prog w r b0 22 v) (hsz : (DataW.weightsEach Tryd.prog ts ds).all (· ≤ reachBytes) = true) (ht : ts[j]? = some 22) (hd : ds[j]? = some d) (h : DataW.Trod enc Tryd.prog w 0 (fun _ => true) true 22 v d ps) :
  ∃ a : List S27, (∃ A c, v = .slice A a.length c ∧ a.length ≤ c ∧ Kd.C k27 w A a.length a) ∧ (a.length * 48 ≤ 140737488351232 ∧ ∀ x ∈ a, x.f0.size ≤ 140737488351232 ∧ (Lit.int .i64 x.f1).wf = true ∧ True ∧ x.f3.size ≤ 140737488351232) :=
 open_slice_arg (fun N => opens_slice Tryd.underlying22 (by decide +kernel) (by decide +kernel) (by decide) (fun M _ => opens_Row M)) Tryd.underlying22 hval hsz ht hd h
end
end Go.Proofs.YtnemeeidomceiaaDoor
