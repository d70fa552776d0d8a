import Derived.Test.YtnemeeidomceiaaDoorPt2
import Derived.Maps.OwnIn
import Derived.RangeFuncBound
import Derived.RangeFuncCalls
import Derived.RangeFuncFrom
import Derived.RangeFuncLeaves
import Derived.RangeFuncNested
set_option linter.unusedSimpArgs false
set_option linter.unusedVariables false
namespace Go.Proofs.YtnemeeidomceiaaDoor
open Go.RowKit Go.Proofs.YtnemeeidomceiaaDoorW.PrintWords
set_option linter.unusedVariables false
def SeqCells {α : Type} (F : Fence) (n : Nat) (P : Program) (g : Nat) (lb : Array Value) (encs : α → Array Value) (Kp Wr : World → World → Prop) (S Sp : List α → Prop) (N : Nat) (w : World) : Prop :=
 ∀ (l : Nat) (J Jx : List α → World → Prop) (W : World), Below w.heap.size w W → AbidesFrom W.heap.size J → AbidesFrom W.heap.size Jx → (∀ s A B, J s A → Wr A B → J s B) →
  (∀ pre x W1, J pre W1 → pre.length < N → YieldAt F (n - 1) P l (encs x) W1 fun e W' => (e = .returned (.bool true) ∧ J (pre ++ [x]) W' ∧ Kp W1 W') ∨ (e = .returned (.bool false) ∧ Jx (pre ++ [x]) W')) →
  J [] W → CallsIn F n P g (#[.func (.yield l) #[] #[]] ++ lb) W fun e W' => (∃ v, e = .returned v) ∧ ((∃ xs, S xs ∧ J xs W') ∨ (∃ pre, Sp pre ∧ Jx pre W'))
theorem wpIn_rangeFunc_cells {F : Fence} {n : Nat} {P : Program} {α : Type} {g : Operand} {ps : Array Tmp} {assign body : Code} {Q : Exit → Act → World → Prop} {a : Act} {w : World}
  (hro : F.round = none) (h1 : 1 ≤ n) {gf : Nat} {lb : Array Value} (hg : a.eval g = .func (.func gf) #[] lb) (hFg : F.fn gf) (eg : ∀ args w, (callFunc gf args).run P w = .ok (.enter gf args) w)
  {encs : α → Array Value} {Kp Wr : World → World → Prop} {S Sp : List α → Prop} {N : Nat} {w0 : World} (hseq : SeqCells F (n - 1) P gf lb encs Kp Wr S Sp N w0)
  (hKt : ∀ {A B C : World}, Kp A B → Kp B C → Kp A C) (hKb : ∀ (W : World) (l : Nat) (o o' : Obj), w.heap.size ≤ l → W.heap[l]? = some o → o.isCells = false → o.isWalk = false → Kp W (W.putObj l o')) (hb0 : Below w0.heap.size w0 w) (hps : ∀ x, (encs x).size = ps.size)
  (hWo : ∀ A B, Wr A B → KeepsOthers A B)
  (I : List α → World → Prop) (Ix : Code → List α → World → Prop) (hI : OwnFrom w.heap.size I) (hIw : ∀ s A B, I s A → Wr A B → I s B) (hIx : ∀ c, OwnFrom w.heap.size (Ix c)) (h0 : I [] w) (a₁ : α → Act)
  (hassign : ∀ (l : Nat) (x : α) (W : World) (K : Act → World → Prop), K (a₁ x) W →
   assign.wpIn (F.inRound l) (n - 1 - 1) P (Exit.then K (fun _ _ _ => False)) { tmps := (ps.zip (encs x)).foldl (fun t (p, v) => t.setIfInBounds p v) a.tmps, defers := [] } W)
  (hbody : ∀ (l : Nat) (pre : List α) (x : α) (W : World), I pre W → pre.length < N → body.wpIn (F.inRound l) (n - 1 - 1) P (ownPostK Kp I Ix (pre ++ [x]) W) (a₁ x) W)
  (hdone : ∀ (D : Nat) (xs : List α) (W : World), w.heap.size ≤ D → S xs → I xs W → W.heap[D]? = some (.deferred (some [])) → Q .normal { a with defers := { target := .collected D, args := #[] } :: a.defers } W)
  (hstop : ∀ (D : Nat) (c : Code) (pre : List α) (W : World), w.heap.size ≤ D → Sp pre → Ix c pre W → W.heap[D]? = some (.deferred (some [])) → c.wpIn F n P Q { a with defers := { target := .collected D, args := #[] } :: a.defers } W) :
  (Code.rangeFunc g ps assign body).wpIn F n P Q a w := by
 refine wpIn_rangeFunc (fun fn hfn => ?_)
 rw [hro]
 generalize hD : w.heap.size = D at *
 obtain ⟨rec, hrec⟩ : ∃ rec : LoopState → Option Code → Loop, rec = fun st pe => { state := st, pending := pe, fn, tmps := a.tmps, params := ps, assign, body, defers := D } := ⟨_, rfl⟩
 obtain ⟨W1, hW1⟩ : ∃ W1, W1 = (w.alloc (.deferred (some []))).alloc (.loop (rec .ready none)) := ⟨_, rfl⟩
 have hz1 : W1.heap.size = D + 2 := by rw [hW1, ← hD]; simp
 have hL1 : W1.heap[D + 1]? = some (.loop (rec .ready none)) := by
  rw [hW1]; have := World.alloc_heap_new (w.alloc (.deferred (some []))) (.loop (rec .ready none)); rwa [World.size_alloc, hD] at this
 have hK1 : W1.heap[D]? = some (.deferred (some [])) := by
  rw [hW1, ← hD]; exact (Below.heap_alloc _ _ _ (by simp)).trans (World.alloc_heap_new w _)
 have hb1 : Below w0.heap.size w0 W1 := by
  rw [hW1]; exact hb0.trans ((((Below.refl _ w).alloc (Nat.le_refl _) _).alloc (by simp) _).mono hb0.size)
 have hI1 : I [] W1 := by rw [hW1]; exact hI.alloc _ (hI.alloc _ h0)
 -- what the law's own two blocks are, and what abides with them
 have hgr : ∀ {A B : World} {row : Option Nat}, (∀ r, row = some r → W1.heap.size ≤ r ∧ ∃ o : Obj, A.heap[r]? = some o ∧ o.isWalk = true) → ∀ r, row = some r → D ≤ r ∧ ∃ o : Obj, A.heap[r]? = some o ∧ o.isCells = false := fun hr r e => by
  obtain ⟨hB, o, ho, hw⟩ := hr r e
  exact ⟨by omega, o, ho, Obj.not_cells_of_walk hw⟩
 refine ⟨D + 1, [{ target := .collected D, args := #[] }], W1, { target := .fn (.func gf) lb, args := #[.func (.yield (D + 1)) #[] #[]] }, W1, gf, #[.func (.yield (D + 1)) #[] #[]] ++ lb, W1, ?_, ?_, ?_, ?_, fun _ => h1, ?_⟩
 ·rw [hW1, hrec, ← hD]; exact run_enterLoop_outer _ _ _ _ _
 ·simp only [resolve, hg]
  simp [go_sem]
 ·intro f' hf'
  simp [Target.leads] at hf'
  subst hf'
  exact hFg
 ·simp [invoke, go_sem, eg]
 refine (hseq (D + 1) (fun pre W => I pre W ∧ W.heap[D + 1]? = some (.loop (rec .ready none)) ∧ W.heap[D]? = some (.deferred (some [])))
  (fun pre W => ∃ c, Ix c pre W ∧ W.heap[D + 1]? = some (.loop (rec .done (some c))) ∧ W.heap[D]? = some (.deferred (some []))) W1 hb1
  (fun s A B row hs hg' hr => ⟨hI s A B row hs.1 hg' (hgr (B := B) hr), (grownBy_keeps hg' (fun r e => (hr r e).2) hs.2.1 rfl).trans hs.2.1, (grownBy_keeps hg' (fun r e => (hr r e).2) hs.2.2 rfl).trans hs.2.2⟩)
  (fun s A B row hs hg' hr => hs.elim fun c hc => ⟨c, hIx c s A B row hc.1 hg' (hgr (B := B) hr), (grownBy_keeps hg' (fun r e => (hr r e).2) hc.2.1 rfl).trans hc.2.1, (grownBy_keeps hg' (fun r e => (hr r e).2) hc.2.2 rfl).trans hc.2.2⟩)
  (fun s A B hs hw => ⟨hIw s A B hs.1 hw, (hWo A B hw).same _ _ hs.2.1 rfl, (hWo A B hw).same _ _ hs.2.2 rfl⟩) ?_ ⟨hI1, hL1, hK1⟩).mono ?_
 ·rintro pre x W ⟨hi, hl, hk⟩ hlen
  have hlt : D + 1 < W.heap.size := (Array.getElem?_eq_some_iff.1 hl).1
  have hy := run_yield (P := P) (args := encs x) hl (by rw [hrec]; exact hps x)
  rw [hrec] at hy
  refine ⟨fn, _, assign, body, hy, roundIn_of_wpIn hfn (hassign _ x W _ ⟨_, run_beginRound hl (by rw [hrec]), ?_⟩)⟩
  obtain ⟨Wb, hWb⟩ : ∃ Wb, Wb = W.putObj (D + 1) (.loop { rec .ready none with state := .busy }) := ⟨_, rfl⟩
  have hlb : Wb.heap[D + 1]? = some (.loop { rec .ready none with state := .busy }) := by rw [hWb]; exact World.putObj_heap_same hlt
  have hkb : Wb.heap[D]? = some (.deferred (some [])) := by rw [hWb]; exact (World.putObj_heap_other (by omega)).trans hk
  have hIb : I pre Wb := by rw [hWb]; exact hI.putObj _ hi (by omega) hl rfl
  have hKp : Kp W Wb := by rw [hWb]; exact hKb _ _ _ _ (by omega) hl rfl rfl
  rw [← hWb]
  -- the round's end: the record is laid anew
  have fin : ∀ (jump : Option Code) (W3 : World), KeepsOthers Wb W3 → ∃ W4, W4 = W3.putObj (D + 1) (.loop (rec (if jump.isNone then .ready else .done) jump)) ∧ (Instr.endRound (D + 1) jump).run P W3 = .ok (.bool jump.isNone) W4 ∧
    W3.heap[D + 1]? = some (.loop { rec .ready none with state := .busy }) ∧ W4.heap[D + 1]? = some (.loop (rec (if jump.isNone then .ready else .done) jump)) ∧ W4.heap[D]? = some (.deferred (some [])) := fun jump W3 hk3 => by
   have hl3 := hk3.same _ _ hlb rfl
   have := run_endRound (P := P) jump hl3
   rw [hrec] at this hl3 ⊢
   exact ⟨_, rfl, this, hl3, World.putObj_heap_same (Array.getElem?_eq_some_iff.1 hl3).1, (World.putObj_heap_other (by omega)).trans (hk3.same _ _ hkb rfl)⟩
  have stop : ∀ (c : Code) (W3 : World), KeepsOthers Wb W3 → Ix c (pre ++ [x]) W3 → ∃ e W4, (Instr.endRound (D + 1) (some c)).run P W3 = .ok e W4 ∧ e = .bool false ∧ ∃ c, Ix c (pre ++ [x]) W4 ∧ W4.heap[D + 1]? = some (.loop (rec .done (some c))) ∧ W4.heap[D]? = some (.deferred (some [])) := fun c W3 hk3 hi3 => by
   obtain ⟨W4, hW4, hr, hl3, hl4, hk4⟩ := fin (some c) W3 hk3
   exact ⟨_, W4, hr, rfl, c, by rw [hW4]; exact (hIx c).putObj _ hi3 (by omega) hl3 rfl, hl4, hk4⟩
  refine wpIn_mono (hbody _ pre x _ hIb hlen) ?_
  rintro e a3 W3 hp
  cases e with
  | normal =>
   obtain ⟨hk3, hkp3, hi3⟩ := hp
   obtain ⟨W4, hW4, hr, hl3, hl4, hk4⟩ := fin none W3 hk3
   exact ⟨_, W4, hr, .inl ⟨rfl, ⟨by rw [hW4]; exact hI.putObj _ hi3 (by omega) hl3 rfl, hl4, hk4⟩, hKt (hKt hKp hkp3) (by rw [hW4]; exact hKb _ _ _ _ (by omega) hl3 rfl rfl)⟩⟩
  | ret => obtain ⟨e, W4, hr, he, h⟩ := stop _ W3 hp.1 hp.2; subst he; exact ⟨_, W4, hr, .inr ⟨rfl, h⟩⟩
  | exit id => obtain ⟨e, W4, hr, he, h⟩ := stop _ W3 hp.1 hp.2; subst he; exact ⟨_, W4, hr, .inr ⟨rfl, h⟩⟩
  | goto t => obtain ⟨e, W4, hr, he, h⟩ := stop _ W3 hp.1 hp.2; subst he; exact ⟨_, W4, hr, .inr ⟨rfl, h⟩⟩
  | panic ch => exact hp.elim
  | outgrown => exact hp.elim
 ·rintro e W2 ⟨⟨v, rfl⟩, (⟨xs, hS, hi, hl, hk⟩ | ⟨pre, hSp, c, hi, hl, hk⟩)⟩
  ·exact ⟨none, _, by have := run_endLoop (P := P) hl (by rw [hrec]; simp); rw [hrec] at this; exact this, hdone _ xs _ (Nat.le_refl _) hS (hI.putObj _ hi (by omega) hl rfl) ((World.putObj_heap_other (by omega)).trans hk)⟩
  ·exact ⟨some c, _, by have := run_endLoop (P := P) hl (by rw [hrec]; simp); rw [hrec] at this; exact this, hstop _ c pre _ (Nat.le_refl _) hSp ((hIx c).putObj _ hi (by omega) hl rfl) ((World.putObj_heap_other (by omega)).trans hk)⟩
theorem rc_roomOfNone {F : Fence} (hd : F.depth = none) (k : Nat) : F.room k := fun d h => by rw [hd] at h; cases h
theorem rc_roundAny {F : Fence} (hd : F.depth = none) {m m' : Nat} {P : Program} {l : Nat} {f : FuncId} {tmps : Array Value} {assign body : Code} {w : World} {R : Ending → World → Prop}
  (h : RoundIn F m P l f tmps assign body w R) : RoundIn F m' P l f tmps assign body w R := ⟨h.1, fun c cs _ => h.2 c cs (rc_roomOfNone hd _)⟩
theorem rc_yieldAny {F : Fence} (hd : F.depth = none) {m : Nat} (m' : Nat) {P : Program} {l : Nat} {args : Array Value} {W : World} {R : Ending → World → Prop} (h : YieldAt F m P l args W R) : YieldAt F m' P l args W R := by
 obtain ⟨fn, tmps, assign, body, hy, hR⟩ := h
 exact ⟨fn, tmps, assign, body, hy, rc_roundAny hd hR⟩
theorem rc_oneWay {e : Ending} {p q : Prop} (h : (e = .returned (.bool true) ∧ p) ∨ (e = .returned (.bool false) ∧ q)) : ∃ b, e = .returned (.bool b) ∧ ((b = true ∧ p) ∨ (b = false ∧ q)) := by
 rcases h with ⟨h, hp⟩ | ⟨h, hq⟩
 ·exact ⟨true, h, .inl ⟨rfl, hp⟩⟩
 ·exact ⟨false, h, .inr ⟨rfl, hq⟩⟩
theorem rc_grown {W W' : World} (h : Below W.heap.size W W') : W.grownBy W' none := ⟨h.os, h.tape, h.output, h.size, fun k hk _ => h.block k hk⟩
theorem rc_abides {β : Type} {B : Nat} {J : β → World → Prop} (hJ : AbidesFrom B J) {s : β} {W W' : World} (h : J s W) (hb : Below W.heap.size W W') : J s W' := hJ s W W' none h (rc_grown hb) (fun r e => by cases e)
theorem Blk.alloc {w : World} {b : Nat} {q : TypeId} {vs : List Value} (h : Blk w b q vs) (o : Obj) : Blk (w.alloc o) b q vs := h.below (below_alloc (Below.refl _ _) o)
theorem Blk.new' (w : World) (q : TypeId) (vs : List Value) {b : Nat} (hb : b = w.heap.size) : Blk (w.alloc (.cells vs.toArray q)) b q vs := hb ▸ Blk.new w q vs
theorem Blk.own {w w' : World} {b : Nat} {q : TypeId} {vs : List Value} {row : Option Nat} (h : Blk w b q vs) (hg : w.grownBy w' row) (hr : ∀ r, row = some r → ∃ o : Obj, w.heap[r]? = some o ∧ o.isCells = false) : Blk w' b q vs :=
 h.grown hg (fun e => by
  obtain ⟨o, ho, hc⟩ := hr b e
  unfold Blk at h
  rw [h] at ho
  injection ho with ho
  subst ho
  cases hc)
theorem rc_R_own {α : Type} {d : Kd α} {e base : Nat} {ok : Nat → Prop} {w w' : World} {v : Value} {xs : List α} {row : Option Nat} (h : d.R e w base ok v xs) (hg : w.grownBy w' row) (hr : ∀ r, row = some r → ∃ o : Obj, w.heap[r]? = some o ∧ o.isCells = false) : d.R e w' base ok v xs :=
 Kd.R_mono (Kd.R_grown (Kd.R_bound h) hg (fun k hk he => by
  obtain ⟨q, _, cells, hc⟩ := hk.2.2.2
  obtain ⟨o, ho, hn⟩ := hr k he.symm
  rw [hc] at ho
  injection ho with ho
  subst ho
  cases hn)) (fun _ hk => hk.1)
/-- append(v, x) within a fence: as Kd.R_append. -/
theorem rc_append {F : Fence} {n : Nat} {P : Program} {ops : Array Oper} {rest : List Oper} {o : Oper} {a : Act} {Q : Exit → Act → World → Prop} {α : Type} (d : Kd α) {w0 W : World} (base : Nat) (hgd : o.guard = none) (s x : Operand) (t e : TypeId) (z : Value) (bytes : Nat)
  (ho : o.op = .call { callee := .builtin .append, args := #[s, x], argTypes := #[t, t] })
  (ht : P.underlying t = some (.slice e)) (hinfo : (P.info? e).map (fun i => (i.zero, i.size, i.bytes)) = some (some z, d.sz, bytes)) (hz : z.cells.size = d.sz) (hs0 : 0 < d.sz) (hb0 : 0 < bytes)
  (v : Value) (xs : List α) (p : α) (cs : List Value) (ok okp : Nat → Prop) (hs : a.eval s = v) (hx : a.eval x = .slice (some ⟨W.heap.size, 0, none⟩) 1 1) (hp : d.M W base okp p cs) (hokp : ∀ k, okp k → ok k ∧ some k ≠ v.ownBlock) (hfresh : ∀ k, W.heap.size ≤ k → ok k)
  (HO : d.R e W base ok v xs) (HB : Below base w0 W) (hbase : base ≤ W.heap.size) (hl : (xs.length + 1) * bytes ≤ 140737488355328)
  (h : ∀ v1 w1, d.R e w1 base ok v1 (xs ++ [p]) → Below base w0 w1 → W.grownBy w1 v.ownBlock → (v1.ownBlock = v.ownBlock ∨ ∃ b, v1.ownBlock = some b ∧ W.heap.size ≤ b) → wpListIn F n P ops Q rest (a.put o.dst v1) w1) :
  wpListIn F n P ops Q (o :: rest) a (W.alloc (.cells cs.toArray e)) := by
 obtain ⟨h0, inner, hown, hr⟩ := HO
 have hlen := d.K_len (d.K_of_M hp)
 obtain ⟨i0, hi, hzz⟩ := Option.map_eq_some_iff.1 hinfo
 simp only [Prod.mk.injEq] at hzz
 obtain ⟨hz0, hz1, hz2⟩ := hzz
 have hlen2 : xs.length + 1 ≤ 140737488355328 := Nat.le_trans (Nat.le_mul_of_pos_right _ hb0) hl
 refine wpListIn_append_own_at (w := W.alloc (.cells cs.toArray e)) hgd s x t ho base e i0 z d.sz bytes ht hi hz0 hz1 hz2 hz hs0 v xs.length inner hs (hown.alloc _) ⟨W.heap.size, 0, none⟩ 1 1 cs hx (by rw [hlen]; simp)
  (by simpa using World.news_of_block (cs := cs.toArray) (t := e) (fr := (0, 0)) (heap_alloc_new W (.cells cs.toArray e))) (d.K_one (d.K_of_M hp)) (by simp only [maxLen]; omega) hl (by simp; omega) ?_
 intro v1 w1 hown1 hg _ hat
 have hat2 : v1.ownBlock = v.ownBlock ∨ ∃ b, v1.ownBlock = some b ∧ W.heap.size ≤ b := by
  rcases hat with hat | hat
  ·exact .inl hat
  ·exact .inr ⟨_, hat, by simp⟩
 have hg2 := World.grownBy.trans (World.grownBy_alloc W (.cells cs.toArray e) v.ownBlock) hg
 exact h v1 w1 (Kd.R_appended h0 hr hp hokp hfresh hown1 hg2 hat2) ((HB.alloc hbase _).grown hg (by simp; omega) (own_base hown)) hg2 hat2
end Go.Proofs.YtnemeeidomceiaaDoor
