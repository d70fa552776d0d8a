import Derived.Test.YtkpicjhhkdjejaaIter
set_option linter.unusedVariables false
set_option linter.unusedSimpArgs false
namespace Go.Proofs.Ytkpicjhhkdjejaa
open Go.RowKit Go.Proofs.YtkpicjhhkdjejaaW.PrintWords Go.Proofs.YtkpicjhhkdjejaaW.PrintLast Go.Proofs.YtkpicjhhkdjejaaW.PrintMore Go.Proofs.Ytkpicjhhkdjejaa.Tb Go.Proofs.Ytkpicjhhkdjejaa.PTablePlays
attribute [local go_sem] Oper.semAt_some
/-- The blocks of table t, read off the world. -/
def tabBlk (t : Nat) (W : World) (k : Nat) : Prop := k = t ∨ ∃ kv vv, W.heap[t]? = some (.cells #[kv, vv] 64 (0, 0)) ∧ (kv.ownBlock = some k ∨ vv.ownBlock = some k)
theorem tabBlk.of_same {t k : Nat} {W W' : World} (h : W'.heap[t]? = W.heap[t]?) : tabBlk t W' k ↔ tabBlk t W k := by unfold tabBlk; rw [h]
theorem TabSI.blk_ok {w : World} {base t k : Nat} {ok : Nat → Prop} {m : List (ByteArray × Int)} (h : TabSI w base ok t m) (hk : tabBlk t w k) : ok k := by
  obtain ⟨kv, vv, ht, h1, h2, h3, h4, h5, h6, h7, h8⟩ := h
  rcases hk with rfl | ⟨kv', vv', ht', hk⟩
  · exact h1
  · rw [ht] at ht'
    injection ht' with ht'
    injection ht' with ht'
    have e := congrArg Array.toList ht'
    simp only [List.cons.injEq, and_true] at e
    obtain ⟨rfl, rfl⟩ := e
    rcases hk with hk | hk
    · exact h3 k hk
    · exact h4 k hk
/-- The table's own blocks are enough. -/
theorem TabSI.self {w : World} {base t : Nat} {ok : Nat → Prop} {m : List (ByteArray × Int)} (h : TabSI w base ok t m) : TabSI w base (fun k => tabBlk t w k ∧ base ≤ k ∧ k < w.heap.size ∧ TT w k) t m := by
  obtain ⟨kv, vv, ht, h1, h2, h3, h4, h5, h6, h7, h8⟩ := h.typed
  exact ⟨kv, vv, ht, ⟨.inl rfl, h1.1.2.1, h1.1.2.2, h1.2⟩, h2, fun k hk => ⟨.inr ⟨kv, vv, ht, .inl hk⟩, (h3 k hk).1.2.1, (h3 k hk).1.2.2, (h3 k hk).2⟩, fun k hk => ⟨.inr ⟨kv, vv, ht, .inr hk⟩, (h4 k hk).1.2.1, (h4 k hk).1.2.2, (h4 k hk).2⟩, h5, h6, h7, h8⟩
theorem TabSI.move {w w' : World} {base t : Nat} {ok : Nat → Prop} {m : List (ByteArray × Int)} (h : TabSI w base ok t m) (hm : ∀ k, tabBlk t w k → k < w.heap.size → TT w k → w'.heap[k]? = w.heap[k]?) : TabSI w' base ok t m := by
  obtain ⟨kv, vv, ht, h1, h2, h3, h4, h5, h6, h7, h8⟩ := h
  have htt : TT w t := ⟨_, _, .inr (.inr rfl), ht⟩
  refine ⟨kv, vv, (hm t (.inl rfl) (blk_lt ht) htt).trans ht, h1, h2, h3, h4, h5, own_move h6 (fun k hk => ?_), own_move h7 (fun k hk => ?_), h8⟩
  · obtain ⟨cs, hc⟩ := own_typed h6 k hk
    exact hm k (.inr ⟨kv, vv, ht, .inl hk⟩) (own_lt h6 k hk) ⟨cs, _, .inl rfl, hc⟩
  · obtain ⟨cs, hc⟩ := own_typed h7 k hk
    exact hm k (.inr ⟨kv, vv, ht, .inr hk⟩) (own_lt h7 k hk) ⟨cs, _, .inr (.inl rfl), hc⟩
/-- What a round keeps that may use table t: whatever lay at or beyond D, but the table's own blocks. -/
structure KpT (t D : Nat) (W W' : World) : Prop where
  size : W.heap.size ≤ W'.heap.size
  block : ∀ k, D ≤ k → k < W.heap.size → ¬ tabBlk t W k → TT W k → W'.heap[k]? = W.heap[k]?
  own : ∀ k, tabBlk t W' k → tabBlk t W k ∨ W.heap.size ≤ k
theorem KpT.refl (t D : Nat) (W : World) : KpT t D W W := ⟨Nat.le_refl _, fun _ _ _ _ _ => rfl, fun _ h => .inl h⟩
theorem TT.same {W W' : World} {k : Nat} (h : W'.heap[k]? = W.heap[k]?) : TT W' k ↔ TT W k := by unfold TT; rw [h]
theorem KpT.trans {t D : Nat} {A B C : World} (h : KpT t D A B) (g : KpT t D B C) : KpT t D A C := by
  refine ⟨Nat.le_trans h.size g.size, fun k hD hk hn ht => ?_, fun k hk => ?_⟩
  · have h1 := h.block k hD hk hn ht
    exact (g.block k hD (Nat.lt_of_lt_of_le hk h.size) (fun hb => by
      rcases h.own k hb with h2 | h2
      · exact hn h2
      · omega) ((TT.same h1).2 ht)).trans h1
  · rcases g.own k hk with h1 | h1
    · rcases h.own k h1 with h2 | h2
      · exact .inl h2
      · exact .inr h2
    · exact .inr (Nat.le_trans h.size h1)
theorem KpT.putObj {t D : Nat} (ht : t < D) (W : World) (l : Nat) (o o' : Obj) (hl : D ≤ l) (h : W.heap[l]? = some o) (ho : o.isCells = false) : KpT t D W (W.putObj l o') := by
  have hg := grownBy_putObj' W l o'
  refine ⟨hg.size, fun k hD hk hn htt => hg.block k hk (fun e => ?_), fun k hk => ?_⟩
  · injection e with e
    subst e
    obtain ⟨cs, q, _, hc⟩ := htt
    rw [h] at hc
    injection hc with hc
    subst hc
    simp [Obj.isCells] at ho
  · by_cases htl : t < W.heap.size
    · exact .inl ((tabBlk.of_same (hg.block t htl (fun e => by injection e with e; omega))).1 hk)
    · have hl2 := (Array.getElem?_eq_some_iff.1 h).1
      omega
theorem grown_of_below {W W' : World} (h : Below W.heap.size W W') : W.grownBy W' none := ⟨h.os, h.tape, h.output, h.size, fun k hk _ => h.block k hk⟩
/-- The fork that the walk reads. -/
structure ForkInv (t q0 q1 f : Nat) (m : List (ByteArray × Int)) (W : World) : Prop where
  tab : TabSI W q0 (fun k => q0 ≤ k ∧ k < q1) f m
  far : ∀ k, q0 ≤ k → k < q1 → ¬ tabBlk t W k
theorem ForkInv.kp {t D q0 q1 f : Nat} {m : List (ByteArray × Int)} {W W' : World} (h : ForkInv t q0 q1 f m W) (hD : D ≤ q0) (hq : q1 ≤ W.heap.size) (hk : KpT t D W W') : ForkInv t q0 q1 f m W' := by
  refine ⟨h.tab.move (fun k hb hlt htt => ?_), fun k h0 h1 hb => ?_⟩
  · have ho := h.tab.blk_ok hb
    exact hk.block k (by omega) hlt (h.far k ho.1 ho.2) htt
  · rcases hk.own k hb with h2 | h2
    · exact h.far k h0 h1 h2
    · omega
theorem ForkInv.new {t f B : Nat} {ok : Nat → Prop} {m m2 : List (ByteArray × Int)} {W W' : World} (h : TabSI W B ok t m2) (hT : TabSI W' W.heap.size (fun k => W.heap.size ≤ k) f m) (hb : Below W.heap.size W W') : ForkInv t W.heap.size W'.heap.size f m W' := by
  refine ⟨hT.bound.mono (fun k hk => ⟨hk.1, hk.2.2⟩), fun k h0 h1 hk => ?_⟩
  have ht : t < W.heap.size := by obtain ⟨kv, vv, ht, _⟩ := h; exact blk_lt ht
  have := h.bound.blk_ok ((tabBlk.of_same (hb.block t ht)).1 hk)
  omega
theorem ForkInv.drew {t q0 q1 f : Nat} {m : List (ByteArray × Int)} {W : World} (h : ForkInv t q0 q1 f m W) : ForkInv t q0 q1 f m W.drew := ⟨h.tab.keep (S := fun _ => False) (Upd.drew W) (fun _ _ h => h), h.far⟩
set_option maxRecDepth 1000000 in
set_option maxHeartbeats 2000000 in
/-- All's closure. -/
theorem all_stops (n t Bt B : Nat) (ok : Nat → Prop) (m : List (ByteArray × Int)) (w : World) (h : TabSI w B ok t m) (hBt : w.cell? ⟨Bt, 0, none⟩ = some (.pointer (some ⟨t, 0, none⟩))) (hBl : Bt < w.heap.size) (hm : m.length ≤ 4000000000000) :
    SeqStopsK Fence.wide n Try.prog 39 #[.pointer (some ⟨Bt, 0, none⟩)] (fun x : ByteArray × Int => #[.string x.1, .int .i64 x.2]) (KpT t w.heap.size) (fun xs => xs = m) (fun pre => pre <+: m) m.length w := by
  intro l J Jx W hW hJ hJx hY h0
  have hc0 : W.cell? ⟨Bt, 0, none⟩ = some (.pointer (some ⟨t, 0, none⟩)) := (hW.cell (p := ⟨Bt, 0, none⟩) hBl).trans hBt
  have hT : TabSI W B ok t m := h.keep (S := fun _ => False) (Upd.of_below hW) (fun _ _ h => h)
  have HT := Aside0.mk hT
  have HB := Aside0.mk hW
  clear hT hW hBt h
  refine callsIn_of_wp Try.func39 rfl trivial ?_ rfl
  simp only [Try.ntmps39, List.size_toArray, List.length_cons, List.length_nil, Nat.reduceAdd, Nat.reduceSub, Array.replicate_succ, Array.replicate_zero, List.push_toArray, List.append_toArray, List.nil_append, List.cons_append]
  gi_wp2_with fail
  refine ⟨trivial, fun h => absurd h (by decide), ?_⟩
  (with_reducible refine (callsIn_wide.2 (fork_SI W B t ok m HT.out (by omega) (by omega))).mono ?_)
  rintro e w2 ⟨f, rfl, hT2, hb2⟩
  have HI := Aside0.mk (ForkInv.new HT.out hT2 hb2)
  have HJ := Aside0.mk (hJ [] W w2 none h0 (grown_of_below hb2) (fun r e => by cases e))
  have HZ := Aside0.mk (And.intro HB.out.size (Nat.le_refl w2.heap.size))
  clear hT2 hb2 h0 HT HB
  gi_wp2_with fail
  have HW := iter_in l f 0 W.heap.size _ m (fun X => ForkInv t W.heap.size w2.heap.size f m X ∧ w2.heap.size ≤ X.heap.size) (KpT t w.heap.size) (fun X hX => hX.1.tab) (fun X X' hX hK => ⟨hX.1.kp HZ.out.1 hX.2 hK, Nat.le_trans hX.2 hK.size⟩) (fun X hX => ⟨hX.1.drew, hX.2⟩)
    J Jx (fun s X hs => hJ s X X.drew none hs (grown_of_below (below_drew (Below.refl _ _))) (fun r e => by cases e)) hm (Nat.zero_le _) (fun pre x X hj hl => yieldAnyDepth rfl 0 (hY pre x X hj hl)) w2 ⟨HI.out, Nat.le_refl _⟩ HJ.out (n - 1)
  rw [show ((0 : Nat) : Int) = 0 from rfl] at HW
  refine ⟨trivial, fun h => absurd h (by decide), ?_⟩
  (with_reducible refine HW.mono ?_)
  clear HW
  rintro e W3 ⟨⟨v, rfl⟩, hr⟩
  have HR := Aside0.mk hr
  clear hr
  gi_wp2_with fail
  go_end0
  exact ⟨⟨_, rfl⟩, HR.out.imp (fun h => ⟨m, rfl, h⟩) (fun h => h)⟩
end Go.Proofs.Ytkpicjhhkdjejaa
