import Derived.Test.YtnemeeidomceiaaLookRows
/-! The functions of the walk, told in the printer's form. -/
namespace Go.Proofs.Ytnemeeidomceiaa
open Go.RowKit Go.Proofs.YtnemeeidomceiaaW.PrintWords Go.Proofs.YtnemeeidomceiaaW.PrintLast Go.Proofs.YtnemeeidomceiaaW.PrintMore
set_option linter.unusedVariables false
/-- Own: are a node's own fields well, and how many bytes. -/
def depotref06_Own.f (k : Int) (e : Bool) (t : ByteArray) (l : List S49) : Option (Int × Int) := if t.size ≤ 4611686018427387904 then some (fieldsE k e t l, if fieldsE k e t l = 0 then ownS k e t else 0) else none
theorem depotref06_Own.calls (a0_0 : Int) (a0_1 : Bool) (a0_2 : ByteArray) (A0_3 : Option Addr) (c0_3 : Nat) (l0_3 : List S49) (r1 : Int) (r2 : Int) (w : World) (hr0_3 : Kd.C k49 w A0_3 l0_3.length l0_3) (hc0_3 : l0_3.length ≤ c0_3) (h : depotref06_Own.f a0_0 a0_1 a0_2 l0_3 = some (r1, r2)) :
    Calls Try.prog 12 #[.agg #[.int .i64 a0_0, .bool a0_1, .string a0_2, .slice A0_3 l0_3.length c0_3]] w fun e w' => e = .returned (.tuple #[.int .i64 r1, .int .i64 r2]) ∧ Below w.heap.size w w' := by
  unfold depotref06_Own.f at h
  by_cases hh : a0_2.size ≤ 4611686018427387904
  · rw [if_pos hh] at h
    have h2 := own_E a0_0 a0_1 a0_2 l0_3 hh (a0_2.size + 61) (by omega)
    exact PTreeChecks.depotref06_Own.calls (a0_2.size + 61) a0_0 a0_1 a0_2 A0_3 c0_3 l0_3 r1 r2 w hr0_3 hc0_3 (h2.trans h)
  · rw [if_neg hh] at h; cases h
def tree_Target.f (a0 : ByteArray) : Option Int := some (targetE a0)
theorem tree_Target.calls (a0 : ByteArray) (r : Int) (w : World) (h : tree_Target.f a0 = some r) :
    Calls Try.prog 11 #[.string a0] w fun e w' => e = .returned (.int .i64 r) ∧ Below w.heap.size w w' :=
  (PTreeChecks.tree_Target.calls a0 r w ((target_E a0).trans h)).mono fun _ _ h => ⟨h.1, h.2.below⟩
abbrev depotlaw06_leaf.f := @PTreeChecks.depotlaw06_leaf.f
theorem depotlaw06_leaf.calls (a0 : ByteArray) (r1 : Int) (r2 : Bool) (r3 : ByteArray) (r4 : List (S49)) (w : World) (h : depotlaw06_leaf.f a0 = some (r1, r2, r3, r4)) :
    Calls Try.prog 7 #[.string a0] w fun e w' => ∃ v3_ : Value, e = .returned (.agg #[.int .i64 r1, .bool r2, .string r3, v3_]) ∧ Kd.R k49 49 w' w.heap.size (fun _ => True) v3_ r4 ∧ Below w.heap.size w w' :=
  PTreeChecks.depotlaw06_leaf.calls a0 r1 r2 r3 r4 w h
/-- A tree whose texts a memory holds. -/
def Held (t : ByteArray) (l : List Ent) : Prop := Texts l ∧ t.size ≤ 140737488351232
open Classical in
noncomputable def tree_Check.f (k : Int) (e : Bool) (t : ByteArray) (l : List Ent) : Option (ByteArray × Int) := if Held t l then some (lookPath (lookL k e t l), lookCode (lookL k e t l)) else none
open Classical in
noncomputable def tree_Size.f (k : Int) (e : Bool) (t : ByteArray) (l : List Ent) : Option (Int × Int) := if Held t l then some (lookSize (lookL k e t l), lookCode (lookL k e t l)) else none
open Classical in
noncomputable def tree_Walk.f (k : Int) (e : Bool) (t : ByteArray) (l : List Ent) : Option (List OwnRw × Int) := if Held t l then some ((lookRows (lookL k e t l)).map rowW, lookCode (lookL k e t l)) else none
open Classical in
noncomputable def depotref06_Look.f (k : Int) (e : Bool) (t : ByteArray) (l : List Ent) : Option (List RefRow × Int × Int × ByteArray) := if Held t l then some ((lookRows (lookL k e t l)).map rowR, lookSize (lookL k e t l), lookCode (lookL k e t l), lookPath (lookL k e t l)) else none
theorem tree_Check.calls (a0_0 : Int) (a0_1 : Bool) (a0_2 : ByteArray) (A0_3 : Option Addr) (c0_3 : Nat) (l0_3 : List Ent) (r1 : ByteArray) (r2 : Int) (w : World) (hr0_3 : Kd.C k49 w A0_3 l0_3.length l0_3) (hc0_3 : l0_3.length ≤ c0_3) (h : tree_Check.f a0_0 a0_1 a0_2 l0_3 = some (r1, r2)) :
    Calls Try.prog 14 #[.agg #[.int .i64 a0_0, .bool a0_1, .string a0_2, .slice A0_3 l0_3.length c0_3]] w fun e w' => e = .returned (.tuple #[.string r1, .int .i64 r2]) ∧ Below w.heap.size w w' := by
  unfold tree_Check.f at h
  by_cases hh : Held a0_2 l0_3
  · rw [if_pos hh] at h
    simp only [Option.some.injEq, Prod.mk.injEq] at h
    obtain ⟨rfl, rfl⟩ := h
    exact (check_calls a0_0 a0_1 a0_2 A0_3 c0_3 l0_3 w hr0_3 hc0_3 hh.1 hh.2).mono fun _ _ h => ⟨h.1, h.2.out⟩
  · rw [if_neg hh] at h; cases h
theorem tree_Size.calls (a0_0 : Int) (a0_1 : Bool) (a0_2 : ByteArray) (A0_3 : Option Addr) (c0_3 : Nat) (l0_3 : List Ent) (r1 : Int) (r2 : Int) (w : World) (hr0_3 : Kd.C k49 w A0_3 l0_3.length l0_3) (hc0_3 : l0_3.length ≤ c0_3) (h : tree_Size.f a0_0 a0_1 a0_2 l0_3 = some (r1, r2)) :
    Calls Try.prog 15 #[.agg #[.int .i64 a0_0, .bool a0_1, .string a0_2, .slice A0_3 l0_3.length c0_3]] w fun e w' => e = .returned (.tuple #[.int .i64 r1, .int .i64 r2]) ∧ Below w.heap.size w w' := by
  unfold tree_Size.f at h
  by_cases hh : Held a0_2 l0_3
  · rw [if_pos hh] at h
    simp only [Option.some.injEq, Prod.mk.injEq] at h
    obtain ⟨rfl, rfl⟩ := h
    exact (size_calls a0_0 a0_1 a0_2 A0_3 c0_3 l0_3 w hr0_3 hc0_3 hh.1 hh.2).mono fun _ _ h => ⟨h.1, h.2.out⟩
  · rw [if_neg hh] at h; cases h
theorem tree_Walk.calls (a0_0 : Int) (a0_1 : Bool) (a0_2 : ByteArray) (A0_3 : Option Addr) (c0_3 : Nat) (l0_3 : List Ent) (r1 : List OwnRw) (r2 : Int) (w : World) (hr0_3 : Kd.C k49 w A0_3 l0_3.length l0_3) (hc0_3 : l0_3.length ≤ c0_3) (h : tree_Walk.f a0_0 a0_1 a0_2 l0_3 = some (r1, r2)) :
    Calls Try.prog 16 #[.agg #[.int .i64 a0_0, .bool a0_1, .string a0_2, .slice A0_3 l0_3.length c0_3]] w fun e w' => ∃ v0_ : Value, e = .returned (.tuple #[v0_, .int .i64 r2]) ∧ Kd.R k52 52 w' w.heap.size (fun _ => True) v0_ r1 ∧ Below w.heap.size w w' := by
  unfold tree_Walk.f at h
  by_cases hh : Held a0_2 l0_3
  · rw [if_pos hh] at h
    simp only [Option.some.injEq, Prod.mk.injEq] at h
    obtain ⟨rfl, rfl⟩ := h
    exact rows_calls a0_0 a0_1 a0_2 A0_3 c0_3 l0_3 w hr0_3 hc0_3 hh.1 hh.2
  · rw [if_neg hh] at h; cases h
theorem depotref06_Look.calls (a0_0 : Int) (a0_1 : Bool) (a0_2 : ByteArray) (A0_3 : Option Addr) (c0_3 : Nat) (l0_3 : List Ent) (r1 : List RefRow) (r2 : Int) (r3 : Int) (r4 : ByteArray) (w : World) (hr0_3 : Kd.C k49 w A0_3 l0_3.length l0_3) (hc0_3 : l0_3.length ≤ c0_3) (h : depotref06_Look.f a0_0 a0_1 a0_2 l0_3 = some (r1, r2, r3, r4)) :
    Calls Try.prog 13 #[.agg #[.int .i64 a0_0, .bool a0_1, .string a0_2, .slice A0_3 l0_3.length c0_3]] w fun e w' => ∃ v0_ : Value, e = .returned (.agg #[v0_, .int .i64 r2, .int .i64 r3, .string r4]) ∧ Kd.R k63 63 w' w.heap.size (fun _ => True) v0_ r1 ∧ Below w.heap.size w w' := by
  unfold depotref06_Look.f at h
  by_cases hh : Held a0_2 l0_3
  · rw [if_pos hh] at h
    simp only [Option.some.injEq, Prod.mk.injEq] at h
    obtain ⟨rfl, rfl, rfl, rfl⟩ := h
    exact look_calls a0_0 a0_1 a0_2 A0_3 c0_3 l0_3 w hr0_3 hc0_3 hh.1 hh.2
  · rw [if_neg hh] at h; cases h
/-- The two trees' one that every run looks at first. -/
theorem awake_look : lookL 3 false ⟨#[]⟩ [⟨⟨#[97]⟩, 1, false, ⟨#[120]⟩, []⟩] = .ok 288 [(⟨#[]⟩, 3, false, ⟨#[]⟩), (⟨#[97]⟩, 1, false, ⟨#[120]⟩)] := by kernel_rfl
end Go.Proofs.Ytnemeeidomceiaa
