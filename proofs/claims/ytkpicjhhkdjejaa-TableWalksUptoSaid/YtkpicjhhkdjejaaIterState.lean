import Derived.Test.YtkpicjhhkdjejaaIterAll
import Derived.Test.YtkpicjhhkdjejaaKeepsState
set_option linter.unusedVariables false
set_option linter.unusedSimpArgs false
namespace Go.Proofs.Ytkpicjhhkdjejaa
open Go.RowKit Go.Proofs.YtkpicjhhkdjejaaW.PrintWords Go.Proofs.YtkpicjhhkdjejaaW.PrintLast Go.Proofs.YtkpicjhhkdjejaaW.PrintMore Go.Proofs.Ytkpicjhhkdjejaa.Tb Go.Proofs.Ytkpicjhhkdjejaa.PTablePlays
section
variable {W w w' : World} {n t : Nat} {m : List (ByteArray × Int)} {l : List Pr} {v : Value}
/-- As one_put, and what has turned. -/
theorem one_putU (h : OSt W w n t m l v) (k : ByteArray) (x : Int) (hl : n ≤ 4000000000000) (c : Bool) (hc : c = true ↔ ¬ has m k) :
    Calls Try.prog 9 #[.pointer (some ⟨t, 0, none⟩), .string k, .int .i64 x] w fun e w' => e = .returned (.bool c) ∧ Aside0 (TabSI w' W.heap.size (fun k => W.heap.size ≤ k) t (put slt m k x)) ∧ Aside0 (Kd.R k40 40 w' W.heap.size (fun _ => True) v l) ∧ Aside0 (Upd (fun k => TT w k ∧ W.heap.size ≤ k) w w') ∧ Aside0 (Below W.heap.size W w') := by
  have hml := h.mlen
  refine (put_SI w W.heap.size t _ m k x h.tab.typed (by omega) (by omega) h.below.size c hc).mono ?_
  rintro e w' ⟨he, hT, hU⟩
  exact ⟨he, ⟨hT.mono (fun k hk => hk.elim (fun h2 => h2.1.1) (fun h2 => Nat.le_trans h.below.size h2))⟩, ⟨row_upd h.row (hU.mono (fun k hk => hk.2))⟩, ⟨hU.mono (fun k hk => ⟨hk.2, hk.1.1⟩)⟩, ⟨h.below.trans (hU.below (fun k hk => hk.1.1) h.below.size)⟩⟩
theorem OSt.put_ (h : OSt W w n t m l v) {w1 w2 : World} {v' : Value} {k : ByteArray} {x : Int} (hT : TabSI w1 W.heap.size (fun k => W.heap.size ≤ k) t (put slt m k x)) (hB : Below W.heap.size W w1) (hb : Below w1.heap.size w1 w2) (hR : Kd.R k40 40 w2 w1.heap.size (fun _ => True) v' (dput l k x)) : OSt W w2 (n + 1) t (put slt m k x) (dput l k x) v' :=
  ⟨below_then hB hB.size hb, hT.keep (S := fun _ => False) (Upd.of_below hb) (fun _ _ h => h), Kd.R_lower hR hB.size, perm_put h.perm k x, by have := dput_len l k x; have := h.len; omega⟩
/-- Cells that are not the table's change; the state stays. -/
theorem OSt.far (h : OSt W w n t m l v) {S : Nat → Prop} (hU : Upd S w w') (hS : ∀ k, S k → W.heap.size ≤ k ∧ ¬ TT w k ∧ ∀ cells, w.heap[k]? ≠ some (.cells cells 40 (0, 0))) : OSt W w' n t m l v := by
  refine ⟨h.below.trans (hU.below (fun k hk => (hS k hk).1) h.below.size), ?_, ?_, h.perm, h.len⟩
  · exact (h.tab.typed.keep hU (fun k hk hs => (hS k hs).2.1 hk.2)).mono (fun k hk => hk.1.1)
  · exact Kd.R_mono (Kd.R_step (Kd.R_bound h.row) (fun k hk hlt => hU.block k hlt (fun hs => by
      obtain ⟨q, hq, cells, hc⟩ := hk.2.2.2
      have hq' : q = 40 := by
        rcases List.mem_cons.1 hq with h | h
        · exact h
        · rw [show k40.E = [] from rfl] at h; cases h
      subst hq'
      exact (hS k hs).2.2 cells hc))) (fun _ _ => trivial)
end
theorem sortedR_ {w : World} {m : List (ByteArray × Int)} {l : List Pr} {A : Option Addr} {c : Nat} (hC : Kd.C k40 w A l.length l) (hc : l.length ≤ c) (hs : Same m l) :
    Calls Try.prog 15 #[.slice A l.length c] w fun e w' => ∃ A' c', e = .returned (.slice A' m.length c') ∧ Aside0 (Kd.R k40 40 w' w.heap.size (fun _ => True) (.slice A' m.length c') (m.map ofP)) ∧ Aside0 (Below w.heap.size w w') := by
  have hln := hs.len
  refine (depotref11_Sorted.calls (2 * l.length + 1) A c l _ w hC hc (ref_sorted m hs.srt l hs.perm (by omega))).mono ?_
  rintro e w' ⟨v0, he, hR, hb⟩
  obtain ⟨A', c', hv0⟩ := Kd.R_slice hR
  subst hv0
  rw [List.length_map] at he hR
  exact ⟨A', c', he, ⟨hR⟩, ⟨hb⟩⟩
/-- A row of pairs stays where other cells turn. -/
theorem row_far {w w' : World} {B : Nat} {v : Value} {l : List Pr} {S : Nat → Prop} (h : Kd.R k40 40 w B (fun _ => True) v l) (hU : Upd S w w') (hS : ∀ k, S k → ∀ cells, w.heap[k]? ≠ some (.cells cells 40 (0, 0))) : Kd.R k40 40 w' B (fun _ => True) v l :=
  Kd.R_mono (Kd.R_step (Kd.R_bound h) (fun k hk hlt => hU.block k hlt (fun hs => by
      obtain ⟨q, hq, cells, hc⟩ := hk.2.2.2
      have hq' : q = 40 := by
        rcases List.mem_cons.1 hq with h | h
        · exact h
        · rw [show k40.E = [] from rfl] at h; cases h
      subst hq'
      exact hS k hs cells hc))) (fun _ _ => trivial)
theorem upd_own {β : Type} (S : Nat → Prop) (L : World) : OwnFrom L.heap.size (fun (_ : β) W => Upd S L W) := fun s A B row hs hg hr =>
  hs.trans (Upd.of_grown hg (S := fun k => L.heap.size ≤ k) (fun k hk => .inl (hr k hk).1)) (fun k hk => .inr hk)
/-- A block for deferred calls, if there is one. -/
def MarkAt (D : Option Nat) (w : World) : Prop := ∀ d, D = some d → w.heap[d]? = some (.deferred (some []))
theorem MarkAt.upd {D : Option Nat} {w w' : World} {S : Nat → Prop} (h : MarkAt D w) (hU : Upd S w w') (hS : ∀ k, S k → ∃ cs q z, w.heap[k]? = some (.cells cs q z)) : MarkAt D w' := fun d hd => by
  have h1 := h d hd
  refine (hU.block d (Array.getElem?_eq_some_iff.1 h1).1 (fun hs => ?_)).trans h1
  obtain ⟨cs, q, z, hc⟩ := hS d hs
  rw [h1] at hc
  injection hc with hc
  cases hc
theorem MarkAt.below {D : Option Nat} {w w' : World} (h : MarkAt D w) (hb : Below w.heap.size w w') : MarkAt D w' := fun d hd => (hb.block d (Array.getElem?_eq_some_iff.1 (h d hd)).1).trans (h d hd)
theorem TT.cells {w : World} {k : Nat} (h : TT w k) : ∃ cs q z, w.heap[k]? = some (.cells cs q z) := by obtain ⟨cs, q, _, hc⟩ := h; exact ⟨cs, q, _, hc⟩
theorem boxed_cells {w : World} {b : Nat} {q : TypeId} {v : Value} (h : Boxed w b q v) : ∃ cs q z, w.heap[b]? = some (.cells cs q z) := ⟨_, _, _, h⟩
theorem boxed_ne {w : World} {a b : Nat} {q q' : TypeId} {u v : Value} (h : Boxed w a q u) (h' : Boxed w b q' v) (hq : q ≠ q') : a ≠ b := fun e => by
  subst e
  unfold Boxed at h h'
  rw [h] at h'
  injection h' with h'
  injection h' with _ h'
  exact hq h'
theorem boxed_upd {w w' : World} {b : Nat} {q : TypeId} {v : Value} {S : Nat → Prop} (h : Boxed w b q v) (hU : Upd S w w') (hS : ¬ S b) : Boxed w' b q v := (hU.block b h.lt hS).trans h
theorem boxed_below {w w' : World} {b : Nat} {q : TypeId} {v : Value} (h : Boxed w b q v) (hb : Below w.heap.size w w') : Boxed w' b q v := (hb.block b h.lt).trans h
theorem boxed_notTT {w : World} {b : Nat} {q : TypeId} {v : Value} (h : Boxed w b q v) (h1 : q ≠ 9) (h2 : q ≠ 3) (h3 : q ≠ 64) : ¬ TT w b := TT.ne h h1 h2 h3
theorem KpT.of_setCell {t D : Nat} {W : World} {p : Addr} {v : Value} (hp : p.block < D) (ht : p.block ≠ t) : KpT t D W (W.setCell p v) := by
  have hb : ∀ k, k ≠ p.block → (W.setCell p v).heap[k]? = W.heap[k]? := fun k hk => Below.heap_setCell _ _ _ _ hk
  exact ⟨by simp [World.setCell], fun k hD hk hn htt => hb k (by omega), fun k hk => .inl ((tabBlk.of_same (hb t (fun e => ht e.symm))).1 hk)⟩
end Go.Proofs.Ytkpicjhhkdjejaa
