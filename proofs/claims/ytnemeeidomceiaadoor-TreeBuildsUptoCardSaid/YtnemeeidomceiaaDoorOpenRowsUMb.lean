import Derived.Test.YtnemeeidomceiaaDoorMb2
import Derived.Test.YtnemeeidomceiaaDoorOpensUMb
set_option linter.unusedSimpArgs false
set_option linter.unusedVariables false
namespace Go.Proofs.YtnemeeidomceiaaDoor.RU
open Go.RowKit Go.Proofs.YtnemeeidomceiaaDoorW.PrintWords Go.Proofs.YtnemeeidomceiaaDoor
set_option linter.unusedVariables false
def rowBulk (x : S27) : Nat := ((x.f0.size + 1) + (1 + (1 + (x.f3.size + 1)))) + 1
abbrev RowG (x : S27) : Prop := x.f0.size ≤ 140737488351232 ∧ (Lit.int .i64 x.f1).wf = true ∧ True ∧ x.f3.size ≤ 140737488351232
set_option maxRecDepth 100000 in
theorem opens_Row (N : Nat) : U.OpensAt Tryd.prog N 27 k27 RowG rowBulk := by
 refine U.opens_iso (d := Kd.pair Kd.string (Kd.pair (Kd.int .i64) (Kd.pair Kd.bool Kd.string))) (G := fun x : ByteArray × Int × Bool × ByteArray => x.1.size ≤ 140737488351232 ∧ (Lit.int .i64 x.2.1).wf = true ∧ True ∧ x.2.2.2.size ≤ 140737488351232) (μ := fun x : ByteArray × Int × Bool × ByteArray => ((x.1.size + 1) + (1 + (1 + (x.2.2.2.size + 1)))) + 1) (fun x : S27 => (x.f0, x.f1, x.f2, x.f3)) (fun x => ⟨x.1, x.2.1, x.2.2.1, x.2.2.2⟩) (fun _ => rfl) ?_
 refine U.opens_struct (μ := fun x : ByteArray × Int × Bool × ByteArray => (x.1.size + 1) + (1 + (1 + (x.2.2.2.size + 1)))) Tryd.underlying27 (by decide +kernel) ?_
 have h3 : ∀ f : Field, f.type = 9 → f.offset = 3 → U.OpensFs Tryd.prog N [f] 3 Kd.string (fun x => x.size ≤ 140737488351232) (fun x => x.size + 1) := fun f ht ho => U.opensFs_one (by rw [ht]; decide +kernel) ho (fun M _ => by rw [ht]; exact U.opens_string Tryd.underlying9)
 have h2 : ∀ f f' : Field, f.type = 4 → f.offset = 2 → f'.type = 9 → f'.offset = 3 → U.OpensFs Tryd.prog N [f, f'] 2 (Kd.pair Kd.bool Kd.string) (fun x => True ∧ x.2.size ≤ 140737488351232) (fun x => 1 + (x.2.size + 1)) := fun f f' ht ho ht' ho' =>
  U.opensFs_cons (G := fun x : Bool => True) (G' := fun x : ByteArray => x.size ≤ 140737488351232) (μ := fun _ : Bool => 1) (μ' := fun x : ByteArray => x.size + 1) (by rw [ht]; decide +kernel) ho (fun M _ => by rw [ht]; exact U.opens_bool Tryd.underlying4) (h3 f' ht' ho')
 have h1 : ∀ f f' f'' : Field, f.type = 25 → f.offset = 1 → f'.type = 4 → f'.offset = 2 → f''.type = 9 → f''.offset = 3 → U.OpensFs Tryd.prog N [f, f', f''] 1 (Kd.pair (Kd.int .i64) (Kd.pair Kd.bool Kd.string)) (fun x => (Lit.int .i64 x.1).wf = true ∧ True ∧ x.2.2.size ≤ 140737488351232) (fun x => 1 + (1 + (x.2.2.size + 1))) := fun f f' f'' ht ho ht' ho' ht'' ho'' =>
  U.opensFs_cons (G := fun x : Int => (Lit.int .i64 x).wf = true) (G' := fun x : Bool × ByteArray => True ∧ x.2.size ≤ 140737488351232) (μ := fun _ : Int => 1) (μ' := fun x : Bool × ByteArray => 1 + (x.2.size + 1)) (by rw [ht]; decide +kernel) ho (fun M _ => by rw [ht]; exact U.opens_int Tryd.underlying25) (h2 f' f'' ht' ho' ht'' ho'')
 exact U.opensFs_cons (G := fun x : ByteArray => x.size ≤ 140737488351232) (G' := fun x : Int × Bool × ByteArray => (Lit.int .i64 x.1).wf = true ∧ True ∧ x.2.2.size ≤ 140737488351232) (μ := fun x : ByteArray => x.size + 1) (μ' := fun x : Int × Bool × ByteArray => 1 + (1 + (x.2.2.size + 1))) (by decide +kernel) rfl (fun M _ => U.opens_string Tryd.underlying9) (h1 _ _ _ rfl rfl rfl rfl rfl rfl)
def rbulk (l : List S27) : Nat := U.bulk rowBulk l + 1
theorem rbulk_len (l : List S27) : l.length ≤ rbulk l := Nat.le_succ_of_le (U.bulk_len (fun x => by unfold rowBulk; omega) l)
theorem rbulk_mem {l : List S27} {x : S27} (h : x ∈ l) : x.f0.size ≤ rbulk l ∧ x.f3.size ≤ rbulk l := by
 have := U.bulk_mem (μ := rowBulk) h
 have e : rowBulk x = ((x.f0.size + 1) + (1 + (1 + (x.f3.size + 1)))) + 1 := rfl
 rw [e] at this
 unfold rbulk
 constructor <;> omega
abbrev RowsArg (W : World) (v : Value) (a : List S27) : Prop := (∃ A c, v = .slice A a.length c ∧ a.length ≤ c ∧ Kd.C k27 W A a.length a) ∧ (a.length * 48 ≤ 140737488351232 ∧ ∀ x ∈ a, RowG x)
section
variable {H : Type} {enc : TypeId × Value → H} {w : World} {r : Reach} {b0 : Nat} {v : Value} {d : DataW H} {ps : List MemPlace} {ts : List TypeId} {ds : List (DataW H)} {j : Nat}
set_option maxRecDepth 100000 in
theorem open_arg_rows (hval : Value.okWide Tryd.prog w r b0 22 v) (hsz : (DataW.weightsEach Tryd.prog ts ds).all (· ≤ reachBytes) = true) (ht : ts[j]? = some 22) (hd : ds[j]? = some d) (h : DataW.Trod enc Tryd.prog w 0 (fun _ => true) true 22 v d ps) :
  ∃ a : List S27, RowsArg w v a ∧ rbulk a ≤ Rows.uptoBulk d := by
 obtain ⟨a, h1, h2, h3⟩ := U.open_slice_arg (fun N => U.opens_slice (μ := rowBulk) Tryd.underlying22 (by decide +kernel) (by decide +kernel : Tryd.prog.bytesOf 27 = 48) (by decide) (fun M _ => opens_Row M)) Tryd.underlying22 hval hsz ht hd h
 exact ⟨a, ⟨h1, h2⟩, h3⟩
end
end Go.Proofs.YtnemeeidomceiaaDoor.RU
