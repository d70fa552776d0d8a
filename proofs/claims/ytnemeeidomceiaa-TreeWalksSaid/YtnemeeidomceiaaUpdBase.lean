import Derived.Test.YtnemeeidomceiaaTreeKinds
namespace Go.Proofs.Ytnemeeidomceiaa
open Go.RowKit Go.Proofs.YtnemeeidomceiaaW.PrintWords Go.Proofs.YtnemeeidomceiaaW.PrintLast Go.Proofs.YtnemeeidomceiaaW.PrintMore
set_option linter.unusedVariables false
/-- Of the old blocks those of S alone have turned; the streams are as they were. -/
structure Upd (S : Nat → Prop) (w w' : World) : Prop where
  os : w'.os = w.os
  tape : w'.tape = w.tape
  output : w'.output = w.output
  size : w.heap.size ≤ w'.heap.size
  block : ∀ k, k < w.heap.size → ¬ S k → w'.heap[k]? = w.heap[k]?
section
variable {S S2 : Nat → Prop} {w w1 w2 : World}
theorem Upd.refl (S : Nat → Prop) (w : World) : Upd S w w := ⟨rfl, rfl, rfl, Nat.le_refl _, fun _ _ _ => rfl⟩
theorem Upd.trans (h : Upd S w w1) (k : Upd S2 w1 w2) (hs : ∀ b, S2 b → S b ∨ w.heap.size ≤ b) : Upd S w w2 :=
  ⟨k.os.trans h.os, k.tape.trans h.tape, k.output.trans h.output, Nat.le_trans h.size k.size, fun b hb hn => (k.block b (Nat.lt_of_lt_of_le hb h.size) (fun h2 => by
    rcases hs b h2 with h3 | h3
    · exact hn h3
    · omega)).trans (h.block b hb hn)⟩
theorem Upd.mono (h : Upd S w w1) (hs : ∀ k, S k → S2 k) : Upd S2 w w1 := ⟨h.os, h.tape, h.output, h.size, fun k hk hn => h.block k hk (fun h2 => hn (hs k h2))⟩
theorem Upd.of_below (h : Below w.heap.size w w1) : Upd S w w1 := ⟨h.os, h.tape, h.output, h.size, fun k hk _ => h.block k hk⟩
theorem Upd.setCell {p : Addr} (hp : S p.block ∨ w.heap.size ≤ p.block) (u : Value) : Upd S w (w.setCell p u) := ⟨rfl, rfl, rfl, by simp [World.setCell], fun k hk hn => Below.heap_setCell _ _ _ _ (fun e => by
  subst e
  rcases hp with h2 | h2
  · exact hn h2
  · omega)⟩
theorem Upd.of_grown {row : Option Nat} (h : w.grownBy w1 row) (hr : ∀ k, row = some k → S k ∨ w.heap.size ≤ k) : Upd S w w1 := ⟨h.os, h.tape, h.output, h.size, fun k hk hn => h.block k hk (fun e => by
  rcases hr k e.symm with h2 | h2
  · exact hn h2
  · omega)⟩
theorem Upd.below {B : Nat} (h : Upd S w w1) (hs : ∀ k, S k → B ≤ k) (hB : B ≤ w.heap.size) : Below B w w1 :=
  ⟨h.os, h.tape, h.output, h.size, fun k hk => h.block k (Nat.lt_of_lt_of_le hk hB) (fun h2 => by have := hs k h2; omega)⟩
theorem Upd.step (h : Upd S w w1) (hb : Below w1.heap.size w1 w2) : Upd S w w2 := h.trans (Upd.of_below (S := fun _ => False) hb) (fun _ h => h.elim)
theorem Upd.blk {g : Nat} {o : Obj} (h : Upd S w w1) (hb : w.heap[g]? = some o) (hn : ¬ S g) : w1.heap[g]? = some o := (h.block g (Array.getElem?_eq_some_iff.1 hb).1 hn).trans hb
end
/-- The walk stands still before this. -/
def Stand (p : Prop) : Prop := p
theorem Stand.go {p : Prop} (h : Stand p) : p := h
/-- A block of these cells. -/
def Blk (w : World) (b : Nat) (q : TypeId) (vs : List Value) : Prop := w.heap[b]? = some (.cells vs.toArray q (0, 0))
section
variable {w w' : World} {b : Nat} {q : TypeId} {vs : List Value} {S : Nat → Prop}
theorem Blk.lt (h : Blk w b q vs) : b < w.heap.size := (Array.getElem?_eq_some_iff.1 h).1
theorem Blk.cell (h : Blk w b q vs) (i : Nat) (v : Value) (hi : vs[i]? = some v) : w.cell? ⟨b, i, none⟩ = some v := by
  have := blk_cell (w := w) (g := b) h i
  rw [this]
  simpa using hi
theorem Blk.frozen (h : Blk w b q vs) (i : Nat) : w.frozen? ⟨b, i, none⟩ = false := blk_frozen h i
theorem Blk.new (w : World) (q : TypeId) (vs : List Value) : Blk (w.alloc (.cells vs.toArray q)) w.heap.size q vs := heap_alloc_new _ _
theorem Blk.upd (h : Blk w b q vs) (hU : Upd S w w') (hn : ¬ S b) : Blk w' b q vs := hU.blk h hn
theorem Blk.below (h : Blk w b q vs) (hb : Below w.heap.size w w') : Blk w' b q vs := (hb.block b h.lt).trans h
theorem Blk.grown {row : Option Nat} (h : Blk w b q vs) (hg : w.grownBy w' row) (hn : ¬ row = some b) : Blk w' b q vs := (hg.block b h.lt (fun e => hn e.symm)).trans h
theorem Blk.ne {a : Nat} {q2 : TypeId} {us : List Value} (h : Blk w a q us) (h' : Blk w b q2 vs) (hq : q ≠ q2) : a ≠ b := fun e => by
  subst e
  unfold Blk at h h'
  rw [h] at h'
  injection h' with h'
  injection h' with _ h'
  exact hq h'
end
end Go.Proofs.Ytnemeeidomceiaa
