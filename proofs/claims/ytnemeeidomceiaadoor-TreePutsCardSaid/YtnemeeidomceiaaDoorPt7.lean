import Derived.Test.YtnemeeidomceiaaDoorSplitStopsPt
import Derived.BigRegionIn
set_option linter.unusedSimpArgs false
set_option linter.unusedVariables false
section
namespace Go.Proofs.YtnemeeidomceiaaDoor
open Go.RowKit Go.Proofs.YtnemeeidomceiaaDoorW.PrintWords Go.Proofs.YtnemeeidomceiaaDoorW.PrintLast Go.Proofs.YtnemeeidomceiaaDoorW.PrintMore Go.Proofs.YtnemeeidomceiaaDoor.PTreeChecks
attribute [local go_sem] Oper.semAt_some
set_option linter.unusedVariables false
set_option linter.unusedSimpArgs false
theorem nameE_size {x : ByteArray} (h : nameE x = 0) : x.size ≤ 255 := by
 unfold nameE at h
 split at h
 ·omega
 ·split at h
  ·omega
  ·omega
/-- None of the iterator's own blocks. -/
def FarB (B k : Nat) : Prop := ¬ (B ≤ k ∧ k ≤ B + 2)
theorem FarB.new {B k : Nat} (h : B + 2 < k) : FarB B k := fun e => by omega
theorem FarB.old {B k : Nat} (h : k < B) : FarB B k := fun e => by omega
/-- What stands behind some pieces that were well. -/
structure SpI (w0 : World) (s : ByteArray) (r q1 q3 q4 B : Nat) (pre : List ByteArray) (off : Nat) (v : Value) (X : World) : Prop where
 go : ∀ l, goP (pre ++ l) [] 0 = goP l pre off
 len : pre.length ≤ 31
 off_le : off ≤ 256 * pre.length
 res1 : Blk X r 68 [.slice none 0 0]
 res2 : Blk X q1 35 [.int .i64 0, .int .i64 0]
 box : Blk X q3 68 [v]
 at_ : Blk X q4 3 [.int .i64 off]
 row : Kd.R Kd.string 9 X r (FarB B) v pre
 below : Below r w0 X
 big : B + 2 < X.heap.size
structure SpX (w0 : World) (s : ByteArray) (r q1 : Nat) (pre : List ByteArray) (c a : Int) (X : World) : Prop where
 go : ∀ l, goP (pre ++ l) [] 0 = ([], c, a)
 res1 : Blk X r 68 [.slice none 0 0]
 res2 : Blk X q1 35 [.int .i64 c, .int .i64 a]
 below : Below r w0 X
theorem goP_long {x : ByteArray} {l pre : List ByteArray} {off : Nat} (h : pre.length = 31) : goP (x :: l) pre off = ([], 61, (off : Int)) := by rw [goP, if_pos h]
theorem goP_bad {x : ByteArray} {l pre : List ByteArray} {off : Nat} (h : pre.length ≠ 31) (hx : nameE x ≠ 0) : goP (x :: l) pre off = ([], nameE x, (off : Int)) := by rw [goP, if_neg h, if_pos hx]
theorem goP_ok {x : ByteArray} {l pre : List ByteArray} {off : Nat} (h : pre.length ≠ 31) (hx : nameE x = 0) : goP (x :: l) pre off = goP l (pre ++ [x]) (off + x.size + 1) := by rw [goP, if_neg h, if_neg (fun e => e hx)]
theorem SpI.step {w0 X X1 : World} {s : ByteArray} {r q1 q3 q4 B off : Nat} {pre : List ByteArray} {v : Value} (h : SpI w0 s r q1 q3 q4 B pre off v X) (hb : Below X.heap.size X X1) : SpI w0 s r q1 q3 q4 B pre off v X1 :=
 ⟨h.go, h.len, h.off_le, h.res1.below hb, h.res2.below hb, h.box.below hb, h.at_.below hb, Kd.R_below h.row hb, below_then h.below (by have := h.below.size; have := h.res1.lt; omega) hb, Nat.lt_of_lt_of_le h.big hb.size⟩
theorem SpI.next {w0 X : World} {s : ByteArray} {r q1 q3 q4 B off : Nat} {pre : List ByteArray} {v : Value} (h : SpI w0 s r q1 q3 q4 B pre off v X) (ho : r < q1 ∧ q1 < q3 ∧ q3 < q4 ∧ q4 < B) (x : ByteArray) (hx : nameE x = 0) (h31 : pre.length ≠ 31) {v1 : Value} {w1 : World}
  (hR : Kd.R Kd.string 9 w1 r (FarB B) v1 (pre ++ [x])) (hb : Below r w0 w1) (hg : X.grownBy w1 v.ownBlock) :
  KeepsOthers X ((w1.setCell ⟨q3, 0, none⟩ v1).setCell ⟨q4, 0, none⟩ (.int .i64 ((off : Int) + ((x.size : Int) + 1)))) ∧ Kp3 B X ((w1.setCell ⟨q3, 0, none⟩ v1).setCell ⟨q4, 0, none⟩ (.int .i64 ((off : Int) + ((x.size : Int) + 1)))) ∧
  SpI w0 s r q1 q3 q4 B (pre ++ [x]) (off + x.size + 1) v1 ((w1.setCell ⟨q3, 0, none⟩ v1).setCell ⟨q4, 0, none⟩ (.int .i64 ((off : Int) + ((x.size : Int) + 1)))) := by
 obtain ⟨inner, hown⟩ := Kd.R_own h.row
 have hs := nameE_size hx
 have hl := h.len
 have hol := h.off_le
 have n1 := Kd.R_ne h.row h.res1 (by decide : 9 ≠ 68)
 have n2 := Kd.R_ne h.row h.res2 (by decide : 9 ≠ 35)
 have n3 := Kd.R_ne h.row h.box (by decide : 9 ≠ 68)
 have n4 := Kd.R_ne h.row h.at_ (by decide : 9 ≠ 3)
 have b1 := h.res1.grown hg (fun e => n1 e.symm)
 have b2 := h.res2.grown hg (fun e => n2 e.symm)
 have b3 := h.box.grown hg (fun e => n3 e.symm)
 have b4 := h.at_.grown hg (fun e => n4 e.symm)
 have d3 : Blk (w1.setCell ⟨q3, 0, none⟩ v1) q3 68 [v1] := blk_put b3 0 _ rfl
 have d4 : Blk (w1.setCell ⟨q3, 0, none⟩ v1) q4 3 [.int .i64 off] := (Below.heap_setCell _ _ _ _ (by show q4 ≠ q3; omega)).trans b4
 have d5 : Blk ((w1.setCell ⟨q3, 0, none⟩ v1).setCell ⟨q4, 0, none⟩ (.int .i64 ((off : Int) + ((x.size : Int) + 1)))) q4 3 [.int .i64 ((off + x.size + 1 : Nat) : Int)] := by
  rw [show ((off : Int) + ((x.size : Int) + 1)) = ((off + x.size + 1 : Nat) : Int) from by omega]
  exact blk_put d4 0 _ rfl
 have hfar : ∀ k, k ≠ q3 → k ≠ q4 → ((w1.setCell ⟨q3, 0, none⟩ v1).setCell ⟨q4, 0, none⟩ (.int .i64 ((off : Int) + ((x.size : Int) + 1)))).heap[k]? = w1.heap[k]? := fun k h1 h2 =>
  (Below.heap_setCell _ _ _ _ h2).trans (Below.heap_setCell _ _ _ _ h1)
 have t3 : ∀ q, q ∈ 9 :: Kd.string.E → q ≠ 68 := fun q hq => by
  rcases List.mem_cons.1 hq with h | h
  ·rw [h]; decide
  ·cases h
 have t4 : ∀ q, q ∈ 9 :: Kd.string.E → q ≠ 3 := fun q hq => by
  rcases List.mem_cons.1 hq with h | h
  ·rw [h]; decide
  ·cases h
 refine ⟨⟨?_, fun k o hk hc => ?_⟩, fun k h1 h2 => ?_, fun l => ?_, ?_, ?_, (hfar r (by omega) (by omega)).trans b1, (hfar q1 (by omega) (by omega)).trans b2, (Below.heap_setCell _ _ _ _ (by show q3 ≠ q4; omega)).trans d3, d5, Kd.R_set (Kd.R_set hR b3 t3 0 v1) d4 t4 0 _, (hb.setCell (p := ⟨q3, 0, none⟩) (by show r ≤ q3; omega) _).setCell (p := ⟨q4, 0, none⟩) (by show r ≤ q4; omega) _, ?_⟩
 ·simpa [World.setCell] using hg.size
 ·have hk3 : k ≠ q3 := fun e => by
   have := h.box
   unfold Blk at this
   rw [← e, hk] at this
   injection this with this
   subst this
   cases hc
  have hk4 : k ≠ q4 := fun e => by
   have := h.at_
   unfold Blk at this
   rw [← e, hk] at this
   injection this with this
   subst this
   cases hc
  refine (hfar k hk3 hk4).trans ((hg.block k (Array.getElem?_eq_some_iff.1 hk).1 (fun e => ?_)).trans hk)
  obtain ⟨cells, hcs⟩ := own_typed hown k e.symm
  rw [hk] at hcs
  injection hcs with hcs
  subst hcs
  cases hc
 ·have hlt := h.big
  exact (hfar k (by omega) (by omega)).trans (hg.block k (by omega) (fun e => h.row.1 k e.symm ⟨h1, h2⟩))
 ·rw [List.append_assoc]
  show goP (pre ++ (x :: l)) [] 0 = _
  rw [h.go, goP_ok h31 hx]
 ·rw [List.length_append, List.length_singleton]; omega
 ·rw [List.length_append, List.length_singleton]; omega
 ·have := h.big
  have := hg.size
  simpa [World.setCell] using (by omega : B + 2 < w1.heap.size)
theorem keepsOthers_below {X X1 : World} (hb : Below X.heap.size X X1) : KeepsOthers X X1 := ⟨hb.size, fun k o h _ => (hb.block k (Array.getElem?_eq_some_iff.1 h).1).trans h⟩
theorem SpI.stop {w0 X : World} {s x : ByteArray} {r q1 q3 q4 B off : Nat} {pre : List ByteArray} {v : Value} (h : SpI w0 s r q1 q3 q4 B pre off v X) (h01 : r < q1) (c a : Int) (hgo : ∀ l, goP (x :: l) pre off = ([], c, a)) :
  KeepsOthers X (((X.setCell ⟨r, 0, none⟩ (.slice none 0 0)).setCell ⟨q1, 0, none⟩ (.int .i64 c)).setCell ⟨q1, 1, none⟩ (.int .i64 a)).drew ∧ SpX w0 s r q1 (pre ++ [x]) c a (((X.setCell ⟨r, 0, none⟩ (.slice none 0 0)).setCell ⟨q1, 0, none⟩ (.int .i64 c)).setCell ⟨q1, 1, none⟩ (.int .i64 a)).drew := by
 have k1 : Blk (X.setCell ⟨r, 0, none⟩ (.slice none 0 0)) r 68 [.slice none 0 0] := blk_put h.res1 0 _ rfl
 have k2 : Blk (X.setCell ⟨r, 0, none⟩ (.slice none 0 0)) q1 35 [.int .i64 0, .int .i64 0] := (Below.heap_setCell _ _ _ _ (by show q1 ≠ r; omega)).trans h.res2
 have k3 : Blk ((X.setCell ⟨r, 0, none⟩ (.slice none 0 0)).setCell ⟨q1, 0, none⟩ (.int .i64 c)) q1 35 [.int .i64 c, .int .i64 0] := blk_put k2 0 _ rfl
 have k4 : Blk (((X.setCell ⟨r, 0, none⟩ (.slice none 0 0)).setCell ⟨q1, 0, none⟩ (.int .i64 c)).setCell ⟨q1, 1, none⟩ (.int .i64 a)) q1 35 [.int .i64 c, .int .i64 a] := blk_put k3 1 _ rfl
 have hn : r ≠ q1 := by omega
 refine ⟨((KeepsOthers.setCell _ _ _).trans (KeepsOthers.setCell _ _ _)).trans ((KeepsOthers.setCell _ _ _).trans ⟨Nat.le_refl _, fun _ _ h _ => h⟩), fun l => ?_, (Below.heap_setCell _ _ _ _ hn).trans ((Below.heap_setCell _ _ _ _ hn).trans k1), k4, ?_⟩
 ·rw [List.append_assoc]
  show goP (pre ++ (x :: l)) [] 0 = _
  rw [h.go, hgo]
 ·exact below_drew (((h.below.setCell (p := ⟨r, 0, none⟩) (Nat.le_refl _) _).setCell (p := ⟨q1, 0, none⟩) (Nat.le_of_lt h01) _).setCell (p := ⟨q1, 1, none⟩) (Nat.le_of_lt h01) _)
set_option maxRecDepth 1000000 in
set_option maxHeartbeats 4000000 in
theorem split_full (s : ByteArray) (w : World) (hs : s.size ≤ 140737488351232) (he : s.toList ≠ []) :
  Calls Tryd.prog 29 #[.string s] w fun e w' => ∃ v, e = .returned (.tuple #[v, .agg #[.int .i64 (goP (pcs s) [] 0).2.1, .int .i64 (goP (pcs s) [] 0).2.2]]) ∧ Kd.R Kd.string 9 w' w.heap.size (fun _ => True) v (goP (pcs s) [] 0).1 ∧ Below w.heap.size w w' := by
 have h99 : 1 ≤ 9 := by decide
 have e1 : (s.toList == []) = false := beq_eq_false_iff_ne.mpr he
 have e2 : s.toList.isEmpty = false := by rw [← Bool.not_eq_true, List.isEmpty_iff]; exact he
 refine (callsIn_wide (n := 9)).1 ?_
 refine callsIn_of_wp_marks Tryd.func29 rfl trivial ?_ rfl
 simp only [Tryd.ntmps29, List.size_toArray, List.length_cons, List.length_nil, Nat.reduceAdd, Nat.reduceSub, Array.replicate_succ, Array.replicate_zero, List.push_toArray, List.append_toArray, List.nil_append, List.cons_append]
 gi_wp2_with fail
 clear e1 e2
 obtain ⟨L, hL⟩ : ∃ L, L = (((((w.alloc (.cells #[.slice none 0 0] 68)).alloc (.cells #[.int .i64 0, .int .i64 0] 35)).alloc (.cells #[] 9)).alloc (.cells #[.slice (some ⟨w.heap.size + 1 + 1, 0, none⟩) 0 0] 68)).alloc (.cells #[.int .i64 0] 3)) := ⟨_, rfl⟩
 rw [← hL]
 obtain ⟨r, hr⟩ : ∃ r, r = w.heap.size := ⟨_, rfl⟩
 have hz : L.heap.size = r + 5 := by rw [hL, hr]; simp
 have G1 : Aside0 (Blk L r 68 [.slice none 0 0]) := ⟨by rw [hL]; exact ((((Blk.new' w _ [.slice none 0 0] hr).alloc _).alloc _).alloc _).alloc _⟩
 have G2 : Aside0 (Blk L (r + 1) 35 [.int .i64 0, .int .i64 0]) := ⟨by rw [hL]; exact (((Blk.new' _ _ [.int .i64 0, .int .i64 0] (by rw [hr]; simp)).alloc _).alloc _).alloc _⟩
 have G3 : Aside0 (Blk L (r + 2) 9 []) := ⟨by rw [hL]; exact ((Blk.new' _ _ [] (by rw [hr]; simp)).alloc _).alloc _⟩
 have G4 : Aside0 (Blk L (r + 3) 68 [.slice (some ⟨r + 2, 0, none⟩) 0 0]) := ⟨by rw [hL, hr]; exact (Blk.new' _ _ [.slice (some ⟨w.heap.size + 1 + 1, 0, none⟩) 0 0] (by simp)).alloc _⟩
 have G5 : Aside0 (Blk L (r + 4) 3 [.int .i64 0]) := ⟨by rw [hL, hr]; exact Blk.new' _ _ [.int .i64 0] (by simp)⟩
 have GB : Aside0 (Below r w L) := ⟨by rw [hL, hr]; exact below_alloc (below_alloc (below_alloc (below_alloc (below_alloc (Below.refl _ _) _) _) _) _) _⟩
 have HR := Aside0.mk hr
 rw [← hr]
 obtain ⟨q1, h1⟩ : ∃ q, q = r + 1 := ⟨_, rfl⟩
 obtain ⟨q3, h3⟩ : ∃ q, q = r + 1 + 1 + 1 := ⟨_, rfl⟩
 obtain ⟨q4, h4⟩ : ∃ q, q = r + 1 + 1 + 1 + 1 := ⟨_, rfl⟩
 rw [← h4, ← h3, ← h1]
 rw [show r + 3 = q3 from h3.symm] at G4
 rw [show r + 4 = q4 from h4.symm] at G5
 rw [← h1] at G2
 obtain ⟨B, hB⟩ : ∃ B, B = L.heap.size := ⟨_, rfl⟩
 have hord : r < q1 ∧ q1 < q3 ∧ q3 < q4 ∧ q4 < B := by omega
 have HW := Aside0.mk (show w.heap.size ≤ r by omega)
 have HRB : Aside0 (r + 2 < B) := ⟨by omega⟩
 refine ⟨trivial, ?_⟩
 (with_reducible refine (callsIn_wide.2 (splitSeq_calls s slash L)).mono ?_)
 rintro o X0 ⟨rfl, HF⟩
 rw [← hB] at HF ⊢
 have HI : Aside0 (SpI w s r q1 q3 q4 B [] 0 (.slice (some ⟨r + 2, 0, none⟩) 0 0) X0) := ⟨by
  have hb := HF.out.1
  rw [hB] at hb
  refine ⟨fun l => rfl, Nat.zero_le _, Nat.le_refl _, G1.out.below hb, G2.out.below hb, G4.out.below hb, G5.out.below hb, ⟨fun k hk => ?_, [], ?_, Reps.none _ _⟩, below_then GB.out (by omega) hb, HF.out.2.2.2.lt⟩
  ·have : r + 2 = k := by simpa [Value.ownBlock] using hk
   exact FarB.old (by have := HRB.out; omega)
  ·refine ⟨by simp, .inr ⟨r + 2, 0, #[], rfl, by omega, G3.out.below hb, by simp, by simp, by simp⟩⟩⟩
 clear hL hz h1 h3 h4 hB hr G1 G2 G3 G4 G5 GB HRB
 gi_wp2_with fail
 have HP0 := Aside0.mk hs
 have HSI : ∀ pre X X' row, (∃ off v, SpI w s r q1 q3 q4 B pre off v X) → X.grownBy X' row → (∀ k, row = some k → X0.heap.size ≤ k ∧ ∃ o : Obj, X.heap[k]? = some o ∧ o.isCells = false) → ∃ off v, SpI w s r q1 q3 q4 B pre off v X' := by
  rintro pre X X' row ⟨off, v, h⟩ hg hr
  have hr2 : ∀ k, row = some k → ∃ o : Obj, X.heap[k]? = some o ∧ o.isCells = false := fun k hk => (hr k hk).2
  have hb0 := HI.out.below.size
  exact ⟨off, v, h.go, h.len, h.off_le, h.res1.own hg hr2, h.res2.own hg hr2, h.box.own hg hr2, h.at_.own hg hr2, rc_R_own h.row hg hr2, h.below.grown hg (by have := h.below.size; have := h.res1.lt; omega) (fun k hk => by have := (hr k hk).1; have := HI.out.res1.lt; omega), Nat.lt_of_lt_of_le h.big hg.size⟩
 have HSX : ∀ pre X X' row, (∃ c a, SpX w s r q1 pre c a X) → X.grownBy X' row → (∀ k, row = some k → X0.heap.size ≤ k ∧ ∃ o : Obj, X.heap[k]? = some o ∧ o.isCells = false) → ∃ c a, SpX w s r q1 pre c a X' := by
  rintro pre X X' row ⟨c, a, h⟩ hg hr
  have hr2 : ∀ k, row = some k → ∃ o : Obj, X.heap[k]? = some o ∧ o.isCells = false := fun k hk => (hr k hk).2
  exact ⟨c, a, h.go, h.res1.own hg hr2, h.res2.own hg hr2, h.below.grown hg (by have := h.below.size; have := h.res1.lt; omega) (fun k hk => by have := (hr k hk).1; have := HI.out.res1.lt; omega)⟩
 have HSI := Aside0.mk HSI
 have HSX := Aside0.mk HSX
 have hX0 : B + 2 < X0.heap.size := HF.out.2.2.2.lt
 refine' wpIn_rangeFunc_cells rfl h99 (gf := 76) (lb := #[.pointer (some ⟨B + 1, 0, none⟩), .pointer (some ⟨B, 0, none⟩), .pointer (some ⟨B + 1 + 1, 0, none⟩)]) rfl trivial (enters_of Tryd.func76 (by kernel_rfl) rfl)
  (split_stops 8 B s X0 HF.out.2.1 HF.out.2.2.1 HF.out.2.2.2 hs) (fun h k => fun i a b => (k i a b).trans (h i a b)) (fun X l o o' hl h ho _ => fun i a b => World.putObj_heap_other (by have := HF.out.2.2.2.lt; omega)) (Below.refl _ _) (fun _ => rfl)
  (fun A C h => by obtain ⟨u, rfl⟩ := h; exact KeepsOthers.setCell _ _ _)
  (fun pre X => ∃ off v, SpI w s r q1 q3 q4 B pre off v X)
  (fun c pre X => c = .ret ∧ ∃ c a, SpX w s r q1 pre c a X)
  (fun pre X X' row h hg hr => HSI.out pre X X' row h hg hr)
  (fun pre X X' h hw => by
   obtain ⟨u, rfl⟩ := hw
   obtain ⟨off, v, h⟩ := h
   have hne : ∀ {k : Nat} {q : TypeId} {vs : List Value}, k ≠ B → Blk X k q vs → Blk (X.setCell ⟨B, 0, none⟩ (.string u)) k q vs := fun hk hb => (Below.heap_setCell _ _ _ _ hk).trans hb
   exact ⟨off, v, h.go, h.len, h.off_le, hne (by omega) h.res1, hne (by omega) h.res2, hne (by omega) h.box, hne (by omega) h.at_, Kd.R_far (p := ⟨B, 0, none⟩) h.row (fun k hk e => hk (by show B ≤ k ∧ k ≤ B + 2; rw [e]; show B ≤ B ∧ B ≤ B + 2; omega)) _, h.below.setCell (p := ⟨B, 0, none⟩) (by show r ≤ B; omega) _, by simpa [World.setCell] using h.big⟩)
  (fun c pre X X' row h hg hr => ⟨h.1, HSX.out pre X X' row h.2 hg hr⟩) ⟨_, _, HI.out⟩ _ ?assign0 ?body0 ?done0 ?stop0
 case assign0 =>
  intro l x X K hK
  gi_wp2
  exact hK
 case body0 =>
  rintro l0 pre x X ⟨off, v, hI⟩ hlen
  clear HSI HSX HI HF
  obtain ⟨A, c, hv⟩ := Kd.R_slice hI.row
  subst hv
  have HI := Aside0.mk hI
  clear hI
  have c3 := HI.out.box.cell 0 _ rfl
  have c4 := HI.out.at_.cell 0 _ rfl
  have f4 := HI.out.at_.frozen 0
  have f3 := HI.out.box.frozen 0
  have f0 := HI.out.res1.frozen 0
  have c0 := HI.out.res1.cell 0 _ rfl
  have f10 := HI.out.res2.frozen 0
  have f11 := HI.out.res2.frozen 1
  have c10 := HI.out.res2.cell 0 _ rfl
  have c11 := HI.out.res2.cell 1 _ rfl
  by_cases h31 : pre.length = 31
  ·have t1 : ((pre.length : Int) == 31) = true := by rw [h31]; rfl
   have H31 := Aside0.mk h31
   clear h31
   gi_wp2_with fail
   gi_region
   all_goals
    gi_wp2_with fail
    have hf := HI.out.stop (x := x) hord.1 61 (off : Int) (fun l => goP_long H31.out)
    exact ⟨hf.1, rfl, _, _, hf.2⟩
  ·have t1 : ((pre.length : Int) == 31) = false := beq_eq_false_iff_ne.mpr (by omega)
   have H31 := Aside0.mk h31
   clear h31
   gi_wp2_with fail
   refine ⟨trivial, ?_⟩
   (with_reducible refine (CallsIn.inRound l0 (callsIn_wide.2 (name_Check.calls x (nameE x) X (name_E x)))).mono ?_)
   rintro e X1 ⟨rfl, hb⟩
   have HKO := Aside0.mk (keepsOthers_below hb)
   have HKB := Aside0.mk hb
   have HI1 := Aside0.mk (HI.out.step hb)
   obtain ⟨en, hen⟩ : ∃ en, en = nameE x := ⟨_, rfl⟩
   rw [← hen]
   have HEN := Aside0.mk hen
   clear hen hb c3 c4 f4 f3 f0 c0 f10 f11 c10 c11
   have c3 := HI1.out.box.cell 0 _ rfl
   have c4 := HI1.out.at_.cell 0 _ rfl
   have f4 := HI1.out.at_.frozen 0
   have f3 := HI1.out.box.frozen 0
   have f0 := HI1.out.res1.frozen 0
   have c0 := HI1.out.res1.cell 0 _ rfl
   have f10 := HI1.out.res2.frozen 0
   have f11 := HI1.out.res2.frozen 1
   have c10 := HI1.out.res2.cell 0 _ rfl
   have c11 := HI1.out.res2.cell 1 _ rfl
   by_cases hz : en = 0
   ·subst hz
    have HOFF : Aside0 (off + x.size + 1 ≤ 256 * (pre.length + 1) ∧ pre.length + 1 ≤ 31) := ⟨by have := nameE_size HEN.out.symm; have := HI.out.off_le; have := HI.out.len; have := H31.out; omega⟩
    have HBG := Aside0.mk HI1.out.big
    have hxs : x.size ≤ 255 := nameE_size HEN.out.symm
    have hoff : off ≤ 7936 := by have := HI.out.off_le; have := HI.out.len; omega
    gi_wp2_with (gi_at_builtin; refine rc_append Kd.string (w0 := w) r rfl (.tmp 27) (.tmp 29) 68 9 (.string ⟨#[]⟩) 16 rfl Tryd.underlying68 (by kernel_rfl) rfl (by decide) (by decide) (.slice A pre.length c) pre x [.string x] (FarB B) (fun _ => False) (by rfl) (by rfl) rfl (fun _ h => h.elim) (fun k hk => FarB.new (by have := HBG.out; omega)) HI1.out.row HI1.out.below (by have := HI1.out.res1.lt; omega) (by have := HOFF.out; omega) ?_; intro v1 w1 hR hb1 hg hat; obtain ⟨A1, c1, hv1⟩ := Kd.R_slice hR; rw [List.length_append, List.length_singleton] at hv1; subst hv1; have HNX := Aside0.mk (HI1.out.next hord x HEN.out.symm H31.out hR hb1 hg); have e3 := (HI1.out.box.grown hg (fun e => Kd.R_ne HI1.out.row HI1.out.box (by decide) e.symm)).cell 0 _ rfl; have g3 := (HI1.out.box.grown hg (fun e => Kd.R_ne HI1.out.row HI1.out.box (by decide) e.symm)).frozen 0; have e4 := (HI1.out.at_.grown hg (fun e => Kd.R_ne HI1.out.row HI1.out.at_ (by decide) e.symm)).cell 0 _ rfl; have g4 := (HI1.out.at_.grown hg (fun e => Kd.R_ne HI1.out.row HI1.out.at_ (by decide) e.symm)).frozen 0; clear hR hb1 hg hat c3 c4 f4 f3 f0 c0 f10 f11 c10 c11)
    exact ⟨HKO.out.trans HNX.out.1, fun k a b => (HNX.out.2.1 k a b).trans (HKB.out.block k (by have := HI.out.big; omega)), _, _, HNX.out.2.2⟩
   ·have t2 : (en != 0) = true := bne_iff_ne.mpr hz
    have t3 : (en == 0) = false := beq_eq_false_iff_ne.mpr hz
    have HZ := Aside0.mk hz
    clear hz
    gi_wp2_with fail
    gi_region
    all_goals
     gi_wp2_with fail
     have hf := HI1.out.stop (x := x) hord.1 en (off : Int) (fun l => by rw [HEN.out]; exact goP_bad H31.out (by rw [← HEN.out]; exact HZ.out))
     exact ⟨HKO.out.trans hf.1, rfl, _, _, hf.2⟩
 case done0 =>
  rintro D xs X hD hxs ⟨off, v, hI⟩ hK
  subst hxs
  obtain ⟨A, c, hv⟩ := Kd.R_slice hI.row
  subst hv
  have HI2 := Aside0.mk hI
  have HK := Aside0.mk hK
  have HD := Aside0.mk hD
  have c3 := hI.box.cell 0 _ rfl
  have f0 := hI.res1.frozen 0
  have c0 := hI.res1.cell 0 _ rfl
  have f10 := hI.res2.frozen 0
  have f11 := hI.res2.frozen 1
  have c10 := hI.res2.cell 0 _ rfl
  have c11 := hI.res2.cell 1 _ rfl
  clear hI hK hD HI HF HSI HSX
  gi_wp2_with fail
  have hb1 := HI2.out.res1.lt
  have hDr : D ≠ r ∧ D ≠ q1 := by have := HD.out; have := HI2.out.big; have := hX0; omega
  obtain ⟨Y, hY⟩ : ∃ Y, Y = (((X.setCell ⟨r, 0, none⟩ (.slice A (pcs s).length c)).setCell ⟨q1, 0, none⟩ (.int .i64 0)).setCell ⟨q1, 1, none⟩ (.int .i64 0)) := ⟨_, rfl⟩
  rw [← hY]
  have hfar : ∀ k, k ≠ r → k ≠ q1 → Y.heap[k]? = X.heap[k]? := fun k h1 h2 => by rw [hY]; exact (Below.heap_setCell _ _ _ _ h2).trans ((Below.heap_setCell _ _ _ _ h2).trans (Below.heap_setCell _ _ _ _ h1))
  have hKY : Y.heap[D]? = some (.deferred (some [])) := (hfar D hDr.1 hDr.2).trans HK.out
  have y1 : Blk Y r 68 [.slice A (pcs s).length c] := by
   rw [hY]
   exact (Below.heap_setCell _ _ _ _ (by show r ≠ q1; omega)).trans ((Below.heap_setCell _ _ _ _ (by show r ≠ q1; omega)).trans (blk_put HI2.out.res1 0 _ rfl))
  have y2 : Blk Y q1 35 [.int .i64 0, .int .i64 0] := by
   rw [hY]
   exact blk_put (blk_put (cs := #[.int .i64 0, .int .i64 0]) ((Below.heap_setCell _ _ _ _ (by show q1 ≠ r; omega)).trans HI2.out.res2) 0 _ rfl) 1 _ rfl
  have yR : Kd.R Kd.string 9 Y r (FarB B) (.slice A (pcs s).length c) (pcs s) := by
   have n1 := Kd.R_ne HI2.out.row HI2.out.res1 (by decide : 9 ≠ 68)
   have n2 := Kd.R_ne HI2.out.row HI2.out.res2 (by decide : 9 ≠ 35)
   refine Kd.R_mono (Kd.R_step (Kd.R_bound HI2.out.row) (fun k hk hlt => hfar k (fun e => ?_) (fun e => ?_))) (fun _ hk => hk.1)
   all_goals
    obtain ⟨q, hq, cells, hc⟩ := hk.2.2.2
    have hq2 : q = 9 := by
     rcases List.mem_cons.1 hq with h | h
     ·exact h
     ·cases h
    subst e hq2
   ·have := HI2.out.res1
    unfold Blk at this
    rw [this] at hc
    injection hc with hc
    injection hc with _ hc
    exact absurd hc (by decide)
   ·have := HI2.out.res2
    unfold Blk at this
    rw [this] at hc
    injection hc with hc
    injection hc with _ hc
    exact absurd hc (by decide)
  have yB : Below r w Y := by rw [hY]; exact ((HI2.out.below.setCell (p := ⟨r, 0, none⟩) (Nat.le_refl _) _).setCell (p := ⟨q1, 0, none⟩) (by show r ≤ q1; omega) _).setCell (p := ⟨q1, 1, none⟩) (by show r ≤ q1; omega) _
  have hgD := grownBy_putObj' Y D (.deferred none)
  have z1 := y1.grown hgD (fun e => by injection e with e; omega)
  have z2 := y2.grown hgD (fun e => by injection e with e; omega)
  have zR := rc_R_own yR hgD (fun k hk => by injection hk with hk; subst hk; exact ⟨_, hKY, rfl⟩)
  have zB := yB.grown hgD (by have := y1.lt; omega) (fun k hk => by injection hk with hk; have := HD.out; omega)
  refine ⟨by simp, .inl ⟨_, _, rfl, run_takeDeferred hKY, ?_⟩⟩
  have e1 := z1.cell 0 _ rfl
  have e2 := z2.cell 0 _ rfl
  have e3 := z2.cell 1 _ rfl
  have hgo := HI2.out.go []
  rw [List.append_nil] at hgo
  rw [hgo]
  refine ⟨.tuple #[.slice A (pcs s).length c, .agg #[.int .i64 0, .int .i64 0]], ?_, _, rfl, ?_, ?_⟩
  ·simp [results, Tryd.f29, go_sem, e1, e2, e3]
  ·exact Kd.R_lower (Kd.R_mono zR (fun _ _ => trivial)) (Nat.le_of_eq HR.out.symm)
  ·rw [← HR.out]; exact zB
 case stop0 =>
  rintro D c pre X hD hp ⟨rfl, c, a, hX⟩ hK
  clear HSI HSX HI HF
  gi_wp2_with fail
  have hgD := grownBy_putObj' X D (.deferred none)
  have z1 := hX.res1.own hgD (fun k hk => by injection hk with hk; subst hk; exact ⟨_, hK, rfl⟩)
  have z2 := hX.res2.own hgD (fun k hk => by injection hk with hk; subst hk; exact ⟨_, hK, rfl⟩)
  have zB := hX.below.grown hgD (by have := hX.res1.lt; omega) (fun k hk => by injection hk with hk; omega)
  refine ⟨by simp, .inl ⟨_, _, rfl, run_takeDeferred hK, ?_⟩⟩
  have e1 := z1.cell 0 _ rfl
  have e2 := z2.cell 0 _ rfl
  have e3 := z2.cell 1 _ rfl
  obtain ⟨l, hl⟩ := hp
  have hgo := hX.go l
  rw [hl] at hgo
  rw [hgo]
  refine ⟨.tuple #[.slice none 0 0, .agg #[.int .i64 c, .int .i64 a]], ?_, _, rfl, Kd.R_nil _ _ _ _ _, ?_⟩
  ·simp [results, Tryd.f29, go_sem, e1, e2, e3]
  ·rw [← HR.out]; exact zB
end Go.Proofs.YtnemeeidomceiaaDoor
end
section
namespace Go.Proofs.YtnemeeidomceiaaDoor
open Go.RowKit Go.Proofs.YtnemeeidomceiaaDoorW.PrintWords Go.Proofs.YtnemeeidomceiaaDoorW.PrintLast Go.Proofs.YtnemeeidomceiaaDoorW.PrintMore
set_option linter.unusedVariables false
set_option linter.unusedSimpArgs false
set_option maxHeartbeats 1000000 in
set_option maxRecDepth 100000 in
theorem split_none (s : ByteArray) (w : World) (he : s.toList = []) :
  Calls Tryd.prog 29 #[.string s] w fun e w' => e = .returned (.tuple #[.slice none 0 0, .agg #[.int .i64 0, .int .i64 0]]) ∧ Below w.heap.size w w' := by
 have e1 : (s.toList == []) = true := beq_iff_eq.mpr he
 go_enter Tryd.func29, Tryd.ntmps29
 go_wp2_with fail
 refine bodyPost_ret (v := .tuple #[.slice none 0 0, .agg #[.int .i64 0, .int .i64 0]]) (by simp [results, Tryd.results29, go_sem]) rfl ⟨rfl, ?_⟩
 exact (below_alloc (below_alloc (Below.refl _ _) _) _)
def name_Split.f (a0 : ByteArray) : Option (List ByteArray × Int × Int) := if a0.size ≤ 140737488351232 then some (splitP a0) else none
theorem name_Split.calls (a0 : ByteArray) (r1 : List ByteArray) (r2 r3 : Int) (w : World) (h : name_Split.f a0 = some (r1, r2, r3)) :
  Calls Tryd.prog 29 #[.string a0] w fun e w' => ∃ v0_ : Value, e = .returned (.tuple #[v0_, .agg #[.int .i64 r2, .int .i64 r3]]) ∧ Kd.R Kd.string 9 w' w.heap.size (fun _ => True) v0_ r1 ∧ Below w.heap.size w w' := by
 unfold name_Split.f at h
 by_cases hs : a0.size ≤ 140737488351232
 ·rw [if_pos hs] at h
  injection h with h
  by_cases he : a0.toList = []
  ·unfold splitP at h
   rw [if_pos he] at h
   injection h with h1 h2
   injection h2 with h2 h3
   subst h1 h2 h3
   exact (split_none a0 w he).mono fun e w' h => ⟨_, h.1, Kd.R_nil _ _ _ _ _, h.2⟩
  ·rw [splitP_pieces a0 he] at h
   have hf := split_full a0 w hs he
   rw [h] at hf
   exact hf
 ·rw [if_neg hs] at h; cases h
end Go.Proofs.YtnemeeidomceiaaDoor
end
