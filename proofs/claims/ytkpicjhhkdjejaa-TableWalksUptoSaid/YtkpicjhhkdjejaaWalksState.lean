import Derived.Test.YtkpicjhhkdjejaaIterFrom
set_option linter.unusedVariables false
set_option linter.unusedSimpArgs false
namespace Go.Proofs.Ytkpicjhhkdjejaa
open Go.RowKit Go.Proofs.YtkpicjhhkdjejaaW.PrintWords Go.Proofs.YtkpicjhhkdjejaaW.PrintLast Go.Proofs.YtkpicjhhkdjejaaW.PrintMore Go.Proofs.Ytkpicjhhkdjejaa.Tb Go.Proofs.Ytkpicjhhkdjejaa.PTablePlays
theorem keepsFrom_upd {B : Nat} {W W' : World} {S : Nat → Prop} (hU : Upd S W W') (hS : ∀ k, S k → ∃ cs q z, W.heap[k]? = some (.cells cs q z)) : KeepsFrom B W W' :=
  ⟨hU.size, fun k o _ hk ho => (hU.block k (Array.getElem?_eq_some_iff.1 hk).1 (fun hs => by
    obtain ⟨cs, q, z, hc⟩ := hS k hs
    rw [hk] at hc
    injection hc with hc
    subst hc
    simp [Obj.isCells] at ho)).trans hk⟩
/-- The table's blocks: old ones below q, or made since the loop began (at or beyond D). -/
def okI (B q D k : Nat) : Prop := B ≤ k ∧ (k < q ∨ D ≤ k)
/-- What may have turned since the loop began: the counter's box, the table's old blocks. -/
def turned (L : World) (bs B q k : Nat) : Prop := k = bs ∨ (B ≤ k ∧ k < q ∧ TT L k)
theorem turned_step {L W W' : World} {bs B q : Nat} {S : Nat → Prop} (h : Upd (turned L bs B q) L W) (hq : q ≤ L.heap.size) (hU : Upd S W W') (hS : ∀ k, S k → k = bs ∨ (TT W k ∧ okI B q L.heap.size k)) : Upd (turned L bs B q) L W' := by
  refine h.trans hU (fun k hk => ?_)
  rcases hS k hk with e | ⟨ht, hB, hl | hl⟩
  · exact .inl (.inl e)
  · by_cases hs : turned L bs B q k
    · exact .inl hs
    · exact .inl (.inr ⟨hB, hl, (TT.same (h.block k (by omega) hs)).1 ht⟩)
  · exact .inr hl
section
variable {B q D t : Nat} {W : World} {m : List (ByteArray × Int)}
theorem TabSI.selfI (h : TabSI W B (okI B q D) t m) : TabSI W B (fun k => tabBlk t W k ∧ okI B q D k ∧ k < W.heap.size ∧ TT W k) t m := by
  have h2 := h.self
  obtain ⟨kv, vv, ht, h1, hb, h3, h4, h5, h6, h7, h8⟩ := h2
  exact ⟨kv, vv, ht, ⟨h1.1, h.blk_ok h1.1, h1.2.2.1, h1.2.2.2⟩, hb, fun k hk => ⟨(h3 k hk).1, h.blk_ok (h3 k hk).1, (h3 k hk).2.2.1, (h3 k hk).2.2.2⟩, fun k hk => ⟨(h4 k hk).1, h.blk_ok (h4 k hk).1, (h4 k hk).2.2.1, (h4 k hk).2.2.2⟩, h5, h6, h7, h8⟩
theorem afterT {m' : List (ByteArray × Int)} {b : Bool} {e : Ending} {W' : World} (hD : D ≤ W.heap.size) (hB : B ≤ W.heap.size) (hp : PutPostSI W B (fun k => tabBlk t W k ∧ okI B q D k ∧ k < W.heap.size ∧ TT W k) t m' b e W') :
    e = .returned (.bool b) ∧ Aside0 (TabSI W' B (okI B q D) t m') ∧ Aside0 (KpT t D W W') ∧ Aside0 (Upd (fun k => TT W k ∧ okI B q D k) W W') := by
  obtain ⟨he, hT, hU⟩ := hp
  refine ⟨he, ⟨hT.mono (fun k hk => hk.elim (fun h => h.2.1) (fun h => ⟨Nat.le_trans hB h, .inr (Nat.le_trans hD h)⟩))⟩, ⟨⟨hU.size, fun k _ hk hn _ => hU.block k hk (fun h => hn h.1), fun k hk => (hT.blk_ok hk).elim (fun h => .inl h.1) .inr⟩⟩, ⟨hU.mono (fun k hk => ⟨hk.2.2.2, hk.2.1⟩)⟩⟩
theorem ts_put (h : TabSI W B (okI B q D) t m) (hD : D ≤ W.heap.size) (hB : B ≤ W.heap.size) (k : ByteArray) (x : Int) (hl : m.length ≤ 4000000000000) (c : Bool) (hc : c = true ↔ ¬ has m k) :
    Calls Try.prog 9 #[.pointer (some ⟨t, 0, none⟩), .string k, .int .i64 x] W fun e W' => e = .returned (.bool c) ∧ Aside0 (TabSI W' B (okI B q D) t (put slt m k x)) ∧ Aside0 (KpT t D W W') ∧ Aside0 (Upd (fun k => TT W k ∧ okI B q D k) W W') :=
  (put_SI W B t _ m k x h.selfI (by omega) (by omega) hB c hc).mono fun e W' hp => afterT hD hB hp
theorem ts_cut (h : TabSI W B (okI B q D) t m) (hD : D ≤ W.heap.size) (hB : B ≤ W.heap.size) (k : ByteArray) (hl : m.length ≤ 4000000000000) (c : Bool) (hc : c = true ↔ has m k) :
    Calls Try.prog 10 #[.pointer (some ⟨t, 0, none⟩), .string k] W fun e W' => e = .returned (.bool c) ∧ Aside0 (TabSI W' B (okI B q D) t (cut slt m k)) ∧ Aside0 (KpT t D W W') ∧ Aside0 (Upd (fun k => TT W k ∧ okI B q D k) W W') :=
  (cut_SI W B t _ m k h.selfI (by omega) c hc).mono fun e W' hp => afterT hD hB hp
end
theorem tab_own {β : Type} (B t D : Nat) (ok : Nat → Prop) (M : β → List (ByteArray × Int) → Prop) : OwnFrom D (fun (s : β) W => ∃ m, TabSI W B ok t m ∧ M s m) := fun s X Y row hs hg hr => by
  obtain ⟨m, h, hM⟩ := hs
  refine ⟨m, h.move (fun k hb hlt htt => hg.block k hlt (fun e => ?_)), hM⟩
  obtain ⟨_, o, ho, hc⟩ := hr k e.symm
  obtain ⟨cs, q, z, hcc⟩ := htt.cells
  rw [hcc] at ho
  injection ho with ho
  subst ho
  simp [Obj.isCells] at hc
end Go.Proofs.Ytkpicjhhkdjejaa
