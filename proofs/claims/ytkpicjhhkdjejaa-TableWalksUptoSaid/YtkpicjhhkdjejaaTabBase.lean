import Derived.Test.YtkpicjhhkdjejaaSlBase
import Derived.Test.YtkpicjhhkdjejaaWKept
namespace Go.Proofs.Ytkpicjhhkdjejaa
open Go.RowKit Go.Proofs.YtkpicjhhkdjejaaW.PrintWords
set_option linter.unusedVariables false
/-- Of the old blocks those of S alone have turned; the streams are as they were. -/
structure Upd (S : Nat → Prop) (w w' : World) : Prop where
  os : w'.os = w.os
  tape : w'.tape = w.tape
  output : w'.output = w.output
  size : w.heap.size ≤ w'.heap.size
  block : ∀ k, k < w.heap.size → ¬ S k → w'.heap[k]? = w.heap[k]?
section
variable {S S2 : Nat → Prop} {w w1 w2 : World}
theorem Upd.refl (S : Nat → Prop) (w : World) : Upd S w w := ⟨rfl, rfl, rfl, Nat.le_refl _, fun _ _ _ => rfl⟩
theorem Upd.trans (h : Upd S w w1) (k : Upd S2 w1 w2) (hs : ∀ b, S2 b → S b ∨ w.heap.size ≤ b) : Upd S w w2 :=
  ⟨k.os.trans h.os, k.tape.trans h.tape, k.output.trans h.output, Nat.le_trans h.size k.size, fun b hb hn => (k.block b (Nat.lt_of_lt_of_le hb h.size) (fun h2 => by
    rcases hs b h2 with h3 | h3
    · exact hn h3
    · omega)).trans (h.block b hb hn)⟩
theorem Upd.mono (h : Upd S w w1) (hs : ∀ k, S k → S2 k) : Upd S2 w w1 := ⟨h.os, h.tape, h.output, h.size, fun k hk hn => h.block k hk (fun h2 => hn (hs k h2))⟩
theorem Upd.of_below (h : Below w.heap.size w w1) : Upd S w w1 := ⟨h.os, h.tape, h.output, h.size, fun k hk _ => h.block k hk⟩
theorem Upd.of_grown {row : Option Nat} (h : w.grownBy w1 row) (hr : ∀ k, row = some k → S k ∨ w.heap.size ≤ k) : Upd S w w1 := ⟨h.os, h.tape, h.output, h.size, fun k hk hn => h.block k hk (fun e => by
  rcases hr k e.symm with h2 | h2
  · exact hn h2
  · omega)⟩
theorem Upd.setCell {p : Addr} (hp : S p.block ∨ w.heap.size ≤ p.block) (u : Value) : Upd S w (w.setCell p u) := ⟨rfl, rfl, rfl, by simp [World.setCell], fun k hk hn => Below.heap_setCell _ _ _ _ (fun e => by
  subst e
  rcases hp with h2 | h2
  · exact hn h2
  · omega)⟩
theorem Upd.alloc (w : World) (o : Obj) : Upd S w (w.alloc o) := Upd.of_below (below_alloc0 w o)
theorem Upd.drewN (w : World) (n : Nat) : Upd S w (w.drewN n) := Upd.of_below (pw_below_drewN (Below.refl _ _) n)
theorem Upd.drew (w : World) : Upd S w w.drew := Upd.of_below (below_drew (Below.refl _ _))
theorem Upd.below {B : Nat} (h : Upd S w w1) (hs : ∀ k, S k → B ≤ k) (hB : B ≤ w.heap.size) : Below B w w1 :=
  ⟨h.os, h.tape, h.output, h.size, fun k hk => h.block k (Nat.lt_of_lt_of_le hk hB) (fun h2 => by have := hs k h2; omega)⟩
theorem Upd.kept (h : Upd S w w1) : Kept w w1 S := ⟨h.size, h.block⟩
theorem Upd.blk {g : Nat} {o : Obj} (h : Upd S w w1) (hb : w.heap[g]? = some o) (hn : ¬ S g) : w1.heap[g]? = some o := (h.block g (blk_lt hb) hn).trans hb
theorem Upd.own {base : Nat} {e : TypeId} {size n : Nat} {v : Value} {xs : List Value} (h : Upd S w w1) (ho : w.ownsRow base e size v n xs) (hn : ∀ k, v.ownBlock = some k → ¬ S k) : w1.ownsRow base e size v n xs :=
  own_move ho (fun k hk => h.block k (own_lt ho k hk) (hn k hk))
end
theorem own_lower {w : World} {base base' : Nat} {e : TypeId} {size n : Nat} {v : Value} {xs : List Value} (h : w.ownsRow base e size v n xs) (hb : base' ≤ base) : w.ownsRow base' e size v n xs := by
  refine ⟨h.1, ?_⟩
  rcases h.2 with h2 | ⟨g, cap, cur, hv, hg, r⟩
  · exact .inl h2
  · exact .inr ⟨g, cap, cur, hv, Nat.le_trans hb hg, r⟩
/-- Two owned rows' blocks of unlike types differ. -/
theorem own_ne_blk {w : World} {base : Nat} {e t : TypeId} {size n g : Nat} {v : Value} {xs : List Value} {cs : Array Value} (ho : w.ownsRow base e size v n xs) (hb : w.heap[g]? = some (.cells cs t (0, 0))) (hne : e ≠ t) : ∀ k, v.ownBlock = some k → k ≠ g := fun k hk he => by
  obtain ⟨cs', h'⟩ := own_typed ho k hk
  rw [he, hb] at h'
  injection h' with h'
  injection h' with _ ht
  exact hne ht.symm
theorem ins_len {α : Type} (m : List α) (x : α) (r : Nat) (h : r ≤ m.length) : (m.take r ++ x :: m.drop r).length = m.length + 1 := by
  rw [List.length_append, List.length_cons, List.length_take, List.length_drop]; omega
theorem ins_map {α β : Type} (f : α → β) (m : List α) (x : α) (r : Nat) : (m.take r ++ x :: m.drop r).map f = (m.map f).take r ++ [f x] ++ (m.map f).drop r := by simp [List.map_take, List.map_drop]
theorem del_len {α : Type} (m : List α) (r n : Nat) (h : r < m.length) (hn : m.length = n + 1) : (m.take r ++ m.drop (r + 1)).length = n := by
  rw [List.length_append, List.length_take, List.length_drop]; omega
theorem del_map {α β : Type} (f : α → β) (m : List α) (r : Nat) : (m.take r ++ m.drop (r + 1)).map f = (m.map f).take r ++ (m.map f).drop (r + 1) := by simp [List.map_take, List.map_drop]
end Go.Proofs.Ytkpicjhhkdjejaa
