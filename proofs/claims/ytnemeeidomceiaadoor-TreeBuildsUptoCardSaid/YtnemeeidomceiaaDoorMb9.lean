import Derived.Test.YtnemeeidomceiaaDoorMb4
import Derived.Test.YtnemeeidomceiaaDoorMb6
import Derived.Test.YtnemeeidomceiaaDoorMb7
import Derived.Test.YtnemeeidomceiaaDoorMb8
import Derived.ArgAppend
import Derived.BigQuiet
import Derived.Deep.QuietTactic
set_option linter.unusedSimpArgs false
set_option linter.unusedVariables false
section
namespace Go.Proofs.YtnemeeidomceiaaDoor
open Go.RowKit Go.Proofs.YtnemeeidomceiaaDoorW.PrintWords Go.Proofs.YtnemeeidomceiaaDoorW.PrintLast Go.Proofs.YtnemeeidomceiaaDoorW.PrintMore
set_option linter.unusedVariables false
set_option linter.unusedSimpArgs false
/-- Every row of the tree is of rising names. -/
inductive AllR : List Ent → Prop
 | mk {l : List Ent} (h : Rising l) (n : l.length ≤ 1048576) (k : ∀ x : Ent, x ∈ l → AllR x.f4) : AllR l
/-- The kids with those of the last name's directory as act makes them; the error's number. -/
def chN (act : List Ent → Nat → Bool → ByteArray → List Ent × Int) : List ByteArray → Int → List Ent → List Ent × Int
 | [], _, l => (l, 0)
 | s :: r, k, l =>
  if k ≠ 3 then ([], 65)
  else if r = [] then (if (act l (rk l s) (hasN l s) s).2 ≠ 0 then ([], (act l (rk l s) (hasN l s) s).2) else ((act l (rk l s) (hasN l s) s).1, 0))
  else match (if hasN l s = true then l[rk l s]? else none) with
   | none => ([], 3)
   | some x => if (chN act r x.f1 x.f4).2 ≠ 0 then ([], (chN act r x.f1 x.f4).2) else (l.set (rk l s) { x with f4 := (chN act r x.f1 x.f4).1 }, 0)
theorem AllR.at {l : List Ent} (h : AllR l) {i : Nat} {x : Ent} (hx : l[i]? = some x) : AllR x.f4 := by
 cases h with
 | mk h n k => exact k x (List.mem_of_getElem? hx)
theorem AllR.rises {l : List Ent} (h : AllR l) : Rising l ∧ l.length ≤ 1048576 := by
 cases h with
 | mk h n k => exact ⟨h, n⟩
theorem hasN_at {l : List Ent} {s : ByteArray} (h : hasN l s = true) : ∃ x, l[rk l s]? = some x ∧ x.f0 = s := by
 unfold hasN at h
 split at h
 ·rename_i x hx
  exact ⟨x, hx, (cmpB_zero _ _).1 (of_decide_eq_true h)⟩
 ·cases h
theorem cells4 {w : World} {b : Nat} {q : TypeId} {a c d e : Value} (h : Blk w b q [a, c, d, e]) : w.cell? ⟨b, 0, none⟩ = some a ∧ w.cell? ⟨b, 1, none⟩ = some c ∧ w.cell? ⟨b, 2, none⟩ = some d ∧ w.cell? ⟨b, 3, none⟩ = some e :=
 ⟨h.cell 0 _ rfl, h.cell 1 _ rfl, h.cell 2 _ rfl, h.cell 3 _ rfl⟩
section
variable {w W : World} {b base : Nat} {okn S : Nat → Prop} {v : Value} {l : List Ent} {a0 a1 a2 a3 c0 c1 c2 c3 : Value}
theorem put4_blk (hb : Blk W b 32 [a0, a1, a2, a3]) : Blk ((((W.setCell ⟨b, 0, none⟩ c0).setCell ⟨b, 1, none⟩ c1).setCell ⟨b, 2, none⟩ c2).setCell ⟨b, 3, none⟩ c3) b 32 [c0, c1, c2, c3] :=
 blk_put (cs := #[c0, c1, c2, a3]) (blk_put (cs := #[c0, c1, a2, a3]) (blk_put (cs := #[c0, a1, a2, a3]) (blk_put (cs := #[a0, a1, a2, a3]) hb 0 _ rfl) 1 _ rfl) 2 _ rfl) 3 _ rfl
theorem put4_own (h : Own W base okn v l) (hb : Blk W b 32 [a0, a1, a2, a3]) : Own ((((W.setCell ⟨b, 0, none⟩ c0).setCell ⟨b, 1, none⟩ c1).setCell ⟨b, 2, none⟩ c2).setCell ⟨b, 3, none⟩ c3) base okn v l := by
 have k1 : Blk (W.setCell ⟨b, 0, none⟩ c0) b 32 [c0, a1, a2, a3] := blk_put (cs := #[a0, a1, a2, a3]) hb 0 _ rfl
 have k2 : Blk ((W.setCell ⟨b, 0, none⟩ c0).setCell ⟨b, 1, none⟩ c1) b 32 [c0, c1, a2, a3] := blk_put (cs := #[c0, a1, a2, a3]) k1 1 _ rfl
 have k3 : Blk (((W.setCell ⟨b, 0, none⟩ c0).setCell ⟨b, 1, none⟩ c1).setCell ⟨b, 2, none⟩ c2) b 32 [c0, c1, c2, a3] := blk_put (cs := #[c0, c1, a2, a3]) k2 2 _ rfl
 exact (((h.set hb (by decide) 0 c0).set k1 (by decide) 1 c1).set k2 (by decide) 2 c2).set k3 (by decide) 3 c3
end
end Go.Proofs.YtnemeeidomceiaaDoor
end
section
namespace Go.Proofs.YtnemeeidomceiaaDoor
open Go.RowKit Go.Proofs.YtnemeeidomceiaaDoorW.PrintWords Go.Proofs.YtnemeeidomceiaaDoorW.PrintLast Go.Proofs.YtnemeeidomceiaaDoorW.PrintMore
set_option linter.unusedVariables false
set_option linter.unusedSimpArgs false
theorem tsz_pos : ∀ (f : Nat) (x : Ent), wf f x → 1 ≤ tsz f x
 | 0, x, h => h.elim
 | f + 1, x, h => by
  have h1 := own_pos x.f1 x.f2 x.f3
  have h2 := ksz_nonneg f x.f4
  show 1 ≤ ownS x.f1 x.f2 x.f3 + ksz f x.f4
  omega
theorem ksz_len (f : Nat) : ∀ l : List Ent, (l.length : Int) ≤ ksz f l + 0 ∨ ¬ ∀ y, y ∈ l → wf f y
 | [] => .inl (by simp [ksz])
 | y :: l => by
  by_cases hy : wf f y
  ·rcases ksz_len f l with h | h
   ·have h1 := tsz_pos f y hy
    have h2 := entS_range y.f0
    rw [ksz_cons, List.length_cons]
    exact .inl (by omega)
   ·exact .inr (fun hh => h (fun z hz => hh z (List.mem_cons_of_mem _ hz)))
  ·exact .inr (fun hh => hy (hh y List.mem_cons_self))
theorem ksz_mem (f : Nat) : ∀ (l : List Ent) (y : Ent), y ∈ l → tsz f y ≤ ksz f l
 | [], y, h => by cases h
 | z :: l, y, h => by
  have h1 := entS_range z.f0
  have h2 := tsz_nonneg f z
  have h3 := ksz_nonneg f l
  rw [ksz_cons]
  rcases List.mem_cons.1 h with rfl | h
  ·omega
  ·have := ksz_mem f l y h; omega
theorem wf_AllR : ∀ (f : Nat) (x : Ent), wf f x → tsz f x ≤ 1048576 → AllR x.f4
 | 0, x, h, _ => h.elim
 | f + 1, x, h, hf => by
  have h1 := ownS_range x.f1 x.f2 x.f3
  have h2 : ownS x.f1 x.f2 x.f3 + ksz f x.f4 ≤ 1048576 := hf
  refine .mk h.2.2.1 ?_ (fun y hy => wf_AllR f y (h.2.2.2 y hy) (by have := ksz_mem f x.f4 y hy; omega))
  rcases ksz_len f x.f4 with h3 | h3
  ·omega
  ·exact absurd h.2.2.2 h3
/-- What the closure of tree.Cut makes. -/
def cutAct (l : List Ent) (i : Nat) (hs : Bool) (s : ByteArray) : List Ent × Int := if hs = true then (l.eraseIdx i, 0) else (l, 3)
/-- The names of a path, if the tree is well and the path one; the error's number. -/
def readyP (k : Int) (e : Bool) (t : ByteArray) (l : List Ent) (path : ByteArray) : List ByteArray × Int := if lookCode (lookL k e t l) ≠ 0 then ([], lookCode (lookL k e t l)) else ((splitP path).1, (splitP path).2.1)
abbrev NodeT := Int × Bool × ByteArray × List Ent
def zeroT : NodeT := (0, false, ⟨#[]⟩, [])
/-- The tree without what stands at a path. -/
def cutP (k : Int) (e : Bool) (t : ByteArray) (l : List Ent) (path : ByteArray) : NodeT × Int :=
 if (readyP k e t l path).2 ≠ 0 then (zeroT, (readyP k e t l path).2)
 else if (readyP k e t l path).1 = [] then (zeroT, 66)
 else if (chN cutAct (readyP k e t l path).1 k l).2 ≠ 0 then (zeroT, (chN cutAct (readyP k e t l path).1 k l).2)
 else ((k, e, t, (chN cutAct (readyP k e t l path).1 k l).1), 0)
/-- What hands a tree back. -/
structure TreePost (w : World) (r : NodeT × Int) (o : Ending) (w' : World) : Prop where
 out : ∃ v, o = .returned (.tuple #[.agg #[.int .i64 r.1.1, .bool r.1.2.1, .string r.1.2.2.1, v], .int .i64 r.2]) ∧ Own w' w.heap.size (fun k => w.heap.size ≤ k) v r.1.2.2.2
 below : Below w.heap.size w w'
theorem TreePost.read {w w' : World} {r : NodeT × Int} {o : Ending} (h : TreePost w r o w') : ∃ v, o = .returned (.tuple #[.agg #[.int .i64 r.1.1, .bool r.1.2.1, .string r.1.2.2.1, v], .int .i64 r.2]) ∧ Kd.R kE eE w' w.heap.size (fun _ => True) v r.1.2.2.2 :=
 h.out.elim fun v hv => ⟨v, hv.1, Kd.R_mono hv.2.toR (fun _ _ => trivial)⟩
theorem Own.above {w : World} {b b0 : Nat} {ok : Nat → Prop} {v : Value} {l : List Ent} (h : Own w b ok v l) (hb : b0 ≤ b) : Own w b0 (fun k => b0 ≤ k) v l := (h.bound.lower hb).mono (fun k hk => Nat.le_trans hb hk.2.1)
theorem below_put4 {B : Nat} {w W : World} {b : Nat} {c0 c1 c2 c3 : Value} (h : Below B w W) (hb : B ≤ b) : Below B w ((((W.setCell ⟨b, 0, none⟩ c0).setCell ⟨b, 1, none⟩ c1).setCell ⟨b, 2, none⟩ c2).setCell ⟨b, 3, none⟩ c3) :=
 (((h.setCell (p := ⟨b, 0, none⟩) hb c0).setCell (p := ⟨b, 1, none⟩) hb c1).setCell (p := ⟨b, 2, none⟩) hb c2).setCell (p := ⟨b, 3, none⟩) hb c3
end Go.Proofs.YtnemeeidomceiaaDoor
end
section
namespace Go.Proofs.YtnemeeidomceiaaDoor
open Go.RowKit Go.Proofs.YtnemeeidomceiaaDoorW.PrintWords Go.Proofs.YtnemeeidomceiaaDoorW.PrintLast Go.Proofs.YtnemeeidomceiaaDoorW.PrintMore
set_option linter.unusedVariables false
set_option linter.unusedSimpArgs false
/-- A kid's node. -/
def nodeOf (x : Ent) : NodeT := (x.f1, x.f2, x.f3, x.f4)
theorem Fit.at_ {l : List Ent} (h : Fit l) {x : Ent} (hx : x ∈ l) : Fit x.f4 := by
 cases h with
 | mk h k => exact k x hx
theorem names_drop {w : World} {A : Option Addr} {ns : List ByteArray} (hC : Kd.C Kd.string w A ns.length ns) (j : Nat) (hj : j < ns.length) : ∃ ad, A = some ad ∧ w.cell? (ad.add j) = some (.string (ns[j]'hj)) := by
 obtain ⟨ad, hA, hc⟩ := Kd.at_string hC (j : Int) (by omega) (by omega)
 refine ⟨ad, hA, ?_⟩
 simp only [Int.toNat_natCast] at hc
 rw [hc]
 simp [rdOf, hj]
end Go.Proofs.YtnemeeidomceiaaDoor
end
section
namespace Go.Proofs.YtnemeeidomceiaaDoor
open Go.RowKit Go.Proofs.YtnemeeidomceiaaDoorW.PrintWords Go.Proofs.YtnemeeidomceiaaDoorW.PrintLast Go.Proofs.YtnemeeidomceiaaDoorW.PrintMore
set_option linter.unusedVariables false
set_option linter.unusedSimpArgs false
def EqPost (p : Prop) (w : World) (o : Ending) (w' : World) : Prop := ∃ b : Bool, o = .returned (.bool b) ∧ (b = true ↔ p) ∧ Below w.heap.size w w'
theorem toList_eq {a b : ByteArray} : a.toList = b.toList ↔ a = b := by
 rw [Lib.toList_data, Lib.toList_data]
 exact ⟨fun h => by cases a; cases b; congr; exact Array.toList_inj.1 h, fun h => by rw [h]⟩
theorem drop_at {l : List Ent} {j : Nat} (h : j < l.length) : l.drop j = rd_T63 l (j : Int) :: l.drop (j + 1) := by
 rw [List.drop_eq_getElem_cons h]
 simp [rd_T63, h]
set_option maxHeartbeats 4000000 in
set_option maxRecDepth 100000 in
theorem refEq_calls (la : List Ent) (hf : Fit la) : ∀ (ka : Int) (ea : Bool) (ta : ByteArray) (Aa : Option Addr) (ca : Nat) (kb : Int) (eb : Bool) (tb : ByteArray) (lb : List Ent) (Ab : Option Addr) (cb : Nat) (w : World), Kd.C kE w Aa la.length la → la.length ≤ ca → Kd.C kE w Ab lb.length lb → lb.length ≤ cb →
  Calls Tryd.prog 13 #[.agg #[.int .i64 ka, .bool ea, .string ta, .slice Aa la.length ca], .agg #[.int .i64 kb, .bool eb, .string tb, .slice Ab lb.length cb]] w (EqPost ((ka, ea, ta, la) = (kb, eb, tb, lb)) w) := by
 induction hf with
 | @mk la hn _ ih =>
 intro ka ea ta Aa ca kb eb tb lb Ab cb w hCa hca hCb hcb
 have HC := Aside0.mk (And.intro hCa (And.intro hca (And.intro hCb hcb)))
 have IH := Aside0.mk ih
 obtain ⟨n, hnl⟩ : ∃ n, n = la.length := ⟨_, rfl⟩
 obtain ⟨m, hml⟩ : ∃ m, m = lb.length := ⟨_, rfl⟩
 have HN := Aside0.mk (And.intro hnl hml)
 have hnb : n ≤ 4611686018427387903 := by omega
 rw [← hnl, ← hml]
 obtain ⟨p, hp⟩ : ∃ p : Prop, p = ((ka, ea, ta, la) = (kb, eb, tb, lb)) := ⟨_, rfl⟩
 rw [← hp]
 have HP := Aside0.mk hp
 have hbw : ∀ a b, Below w.heap.size w ((w.alloc a).alloc b) := fun a b => below_alloc (below_alloc (Below.refl _ _) _) _
 have HBW := Aside0.mk hbw
 clear hCa hca hCb hcb ih hnl hml hp hbw
 by_cases c1 : ka = kb
 case neg =>
  have d1 : (ka != kb) = true := bne_iff_ne.mpr c1
  have HQ : Aside0 ¬ p := ⟨by rw [HP.out]; exact fun h => c1 (congrArg (·.1) h)⟩
  clear c1
  go_enter Tryd.func13, Tryd.ntmps13
  go_wp2
  go_ret
  exact ⟨false, rfl, ⟨fun h => (by cases h), fun h => absurd h HQ.out⟩, HBW.out _ _⟩
 have d1 : (ka != kb) = false := bne_eq_false_iff_eq.mpr c1
 by_cases c2 : ea = eb
 case neg =>
  have HQ : Aside0 ¬ p := ⟨by rw [HP.out]; exact fun h => c2 (congrArg (·.2.1) h)⟩
  clear c1
  cases ea <;> cases eb <;> first | exact absurd rfl c2 | clear c2
  all_goals
   go_enter Tryd.func13, Tryd.ntmps13
   go_wp2
   go_ret
   exact ⟨false, rfl, ⟨fun h => (by cases h), fun h => absurd h HQ.out⟩, HBW.out _ _⟩
 subst c2
 have d2 : (ea != ea) = false := bne_eq_false_iff_eq.mpr rfl
 by_cases c3 : ta.toList = tb.toList
 case neg =>
  have d3 : (ta.toList != tb.toList) = true := bne_iff_ne.mpr c3
  have d3b : (ta.toList == tb.toList) = false := beq_eq_false_iff_ne.mpr c3
  have HQ : Aside0 ¬ p := ⟨by rw [HP.out]; exact fun h => c3 (congrArg (fun q => q.2.2.1.toList) h)⟩
  clear c1 c3
  go_enter Tryd.func13, Tryd.ntmps13
  go_wp2
  go_ret
  exact ⟨false, rfl, ⟨fun h => (by cases h), fun h => absurd h HQ.out⟩, HBW.out _ _⟩
 have d3 : (ta.toList != tb.toList) = false := bne_eq_false_iff_eq.mpr c3
 have d3b : (ta.toList == tb.toList) = true := beq_iff_eq.mpr c3
 by_cases c4 : n = m
 case neg =>
  have d4 : ((n : Int) != (m : Int)) = true := bne_iff_ne.mpr (by omega)
  have d5 : (n != m) = true := bne_iff_ne.mpr c4
  have HQ : Aside0 ¬ p := ⟨by rw [HP.out]; exact fun h => c4 (by rw [HN.out.1, HN.out.2]; exact congrArg (fun q => q.2.2.2.length) h)⟩
  clear c1 c3 c4
  go_enter Tryd.func13, Tryd.ntmps13
  go_wp2
  go_ret
  exact ⟨false, rfl, ⟨fun h => (by cases h), fun h => absurd h HQ.out⟩, HBW.out _ _⟩
 subst c4
 have d4 : ((n : Int) != (n : Int)) = false := bne_eq_false_iff_eq.mpr rfl
 have HPE : Aside0 (p ↔ la.drop 0 = lb.drop 0) := ⟨by rw [HP.out, c1, toList_eq.1 c3]; simp⟩
 clear c1 c3
 go_enter Tryd.func13, Tryd.ntmps13
 go_wp2
 obtain ⟨W2, hW2⟩ : ∃ W2, W2 = (w.alloc (.cells #[.int .i64 ka, .bool ea, .string ta, .slice Aa n ca] 32)).alloc (.cells #[.int .i64 kb, .bool ea, .string tb, .slice Ab n cb] 32) := ⟨_, rfl⟩
 rw [← hW2]
 obtain ⟨b0, hb0⟩ : ∃ b, b = w.heap.size := ⟨_, rfl⟩
 obtain ⟨b1, hb1⟩ : ∃ b, b = w.heap.size + 1 := ⟨_, rfl⟩
 rw [← hb1, ← hb0]
 have B0 : Aside0 (Blk W2 b0 32 [.int .i64 ka, .bool ea, .string ta, .slice Aa n ca]) := ⟨by rw [hW2, hb0]; exact (Blk.new w _ [.int .i64 ka, .bool ea, .string ta, .slice Aa n ca]).alloc _⟩
 have B1 : Aside0 (Blk W2 b1 32 [.int .i64 kb, .bool ea, .string tb, .slice Ab n cb]) := ⟨by rw [hW2]; exact Blk.new' _ _ [.int .i64 kb, .bool ea, .string tb, .slice Ab n cb] (by rw [hb1]; simp)⟩
 have HB : Aside0 (Below w.heap.size w W2) := ⟨by rw [hW2]; exact HBW.out _ _⟩
 clear hW2 hb0 hb1 d1 d2 d3 d4
 go_loopw [5] (fun v wr => ∃ j : Nat, j ≤ n ∧ v = .int .i64 j ∧ Aside0 (p ↔ la.drop j = lb.drop j) ∧ Aside0 (Below W2.heap.size W2 wr)) (fun v _ => n - (intOf v).toNat)
 case atStart => exact ⟨0, Nat.zero_le _, rfl, HPE, ⟨Below.refl _ _⟩⟩
 case round =>
  clear HPE
  obtain ⟨j, hj, rfl, HPJ, HBR⟩ := hrel
  have B0r := Aside0.mk (B0.out.below HBR.out)
  have B1r := Aside0.mk (B1.out.below HBR.out)
  obtain ⟨_, _, _, u3⟩ := cells4 B0r.out
  obtain ⟨_, _, _, v3⟩ := cells4 B1r.out
  have HBW2 := Aside0.mk (HB.out.trans (HBR.out.mono HB.out.size))
  by_cases hlt : j < n
  ·have p0 : (0 : Int) ≤ (j : Int) := by omega
   have p1 : (j : Int) < (n : Int) := by omega
   have hda := drop_at (l := la) (j := j) (by rw [← HN.out.1]; exact hlt)
   have hdb := drop_at (l := lb) (j := j) (by rw [← HN.out.2]; exact hlt)
   obtain ⟨ad, A4, c4, hA, e0, e1, e2, e3, e4, hl4, hC4⟩ := at_T63 HC.out.1 (j : Int) (by omega) (by rw [← HN.out.1]; omega)
   obtain ⟨bd, A5, c5, hB, f0, f1, f2, f3, f4, hl5, hC5⟩ := at_T63 HC.out.2.2.1 (j : Int) (by omega) (by rw [← HN.out.2]; omega)
   have h2 : j < la.length := by rw [← HN.out.1]; exact hlt
   have hxm : rd_T63 la (j : Int) ∈ la := by simp [rd_T63, h2]
   clear h2
   generalize rd_T63 la (j : Int) = x at *
   generalize rd_T63 lb (j : Int) = y at *
   subst hA hB
   simp only [Int.toNat_natCast] at e0 e1 e2 e3 e4 f0 f1 f2 f3 f4
   have HX := Aside0.mk (And.intro hda (And.intro hdb hxm))
   have HC4 := Aside0.mk (And.intro hC4 (And.intro hl4 (And.intro hC5 hl5)))
   have E := Aside0.mk (And.intro e1 (And.intro e2 (And.intro e3 (And.intro e4 (And.intro f1 (And.intro f2 (And.intro f3 f4)))))))
   replace e0 := pw_cell_below HBW2.out e0
   replace f0 := pw_cell_below HBW2.out f0
   clear hda hdb hxm hC4 hl4 hC5 hl5 e1 e2 e3 e4 f1 f2 f3 f4
   by_cases c5 : x.f0.toList = y.f0.toList
   ·have d5 : (x.f0.toList != y.f0.toList) = false := bne_eq_false_iff_eq.mpr c5
    have d5b : (x.f0.toList == y.f0.toList) = true := beq_iff_eq.mpr c5
    have HC5 := Aside0.mk c5
    clear c5
    go_wp2_with fail
    go_quiet (fail)
    go_wp2_with fail
    have hb3 : Below wr.heap.size wr (wr.drewN nq) := pw_below_drewN (Below.refl _ _) _
    generalize wr.drewN nq = W3 at *
    have hbw3 := below_step HBW2.out hb3
    obtain ⟨a1, a2, a3, a4, a5, a6, a7, a8⟩ := E.out
    replace a1 := pw_cell_below hbw3 a1
    replace a2 := pw_cell_below hbw3 a2
    replace a3 := pw_cell_below hbw3 a3
    replace a4 := pw_cell_below hbw3 a4
    replace a5 := pw_cell_below hbw3 a5
    replace a6 := pw_cell_below hbw3 a6
    replace a7 := pw_cell_below hbw3 a7
    replace a8 := pw_cell_below hbw3 a8
    have B03 := Aside0.mk (B0r.out.below hb3)
    have B13 := Aside0.mk (B1r.out.below hb3)
    refine start_ (n := 14) (S := fun w' => w'.cell? ⟨b0, 3, none⟩ = some (.slice (some ad) n ca) ∧ w'.cell? ⟨b1, 3, none⟩ = some (.slice (some bd) n cb) ∧ w'.cell? ⟨(ad.add (j * 5)).block, (ad.add (j * 5)).off + 1, none⟩ = some (.int .i64 x.f1) ∧ w'.cell? ⟨(ad.add (j * 5)).block, (ad.add (j * 5)).off + 2, none⟩ = some (.bool x.f2) ∧ w'.cell? ⟨(ad.add (j * 5)).block, (ad.add (j * 5)).off + 3, none⟩ = some (.string x.f3) ∧ w'.cell? ⟨(ad.add (j * 5)).block, (ad.add (j * 5)).off + 4, none⟩ = some (.slice A4 x.f4.length c4) ∧ w'.cell? ⟨(bd.add (j * 5)).block, (bd.add (j * 5)).off + 1, none⟩ = some (.int .i64 y.f1) ∧ w'.cell? ⟨(bd.add (j * 5)).block, (bd.add (j * 5)).off + 2, none⟩ = some (.bool y.f2) ∧ w'.cell? ⟨(bd.add (j * 5)).block, (bd.add (j * 5)).off + 3, none⟩ = some (.string y.f3) ∧ w'.cell? ⟨(bd.add (j * 5)).block, (bd.add (j * 5)).off + 4, none⟩ = some (.slice A5 y.f4.length c5)) (ds := []) #[false, false, false, false, false, false, false, false, false, false, false, false, false, false] (by kernel_rfl) rfl rfl (⟨B03.out.cell 3 _ rfl, B13.out.cell 3 _ rfl, a1, a2, a3, a4, a5, a6, a7, a8⟩) (fun hHeld => ?_)
    have hdr : Below W3.heap.size W3 W3.drew := below_drew (Below.refl _ _)
    generalize W3.drew = W4 at *
    refine pure_ (i := 0) (N := some 55) (v := ?_) (a' := ?_) #[true, false, false, false, false, false, false, false, false, false, false, false, false, false] rfl rfl (by kernel_rfl) (fun _ _ _ h => h) (Or.inl ⟨by rfl, ?_⟩) ?_ ?_
    rotate_left
    ·intro w'
     go_simp
     with_reducible rfl
    rotate_left
    ·simp only [Act.put, List.setIfInBounds_toArray, List.set_cons_zero, List.set_cons_succ, i64_w, i32_w]
     rfl
    refine take_ (i := 1) (N := some 56) (v := ?_) (a' := ?_) #[true, true, false, false, false, false, false, false, false, false, false, false, false, false] rfl rfl (by kernel_rfl) (fun _ _ _ h => h) (Or.inl ⟨by rfl, ?_⟩) hHeld ?_ ?_
    rotate_left
    ·rintro w' ⟨s0, s1, s2, s3, s4, s5, s6, s7, s8, s9⟩
     go_simp
     with_reducible rfl
    rotate_left
    ·simp only [Act.put, List.setIfInBounds_toArray, List.set_cons_zero, List.set_cons_succ, i64_w, i32_w]
     rfl
    refine pure_ (i := 2) (N := some 57) (v := ?_) (a' := ?_) #[true, true, true, false, false, false, false, false, false, false, false, false, false, false] rfl rfl (by kernel_rfl) (fun _ _ _ h => h) (Or.inl ⟨by rfl, ?_⟩) ?_ ?_
    rotate_left
    ·intro w'
     go_simp
     with_reducible rfl
    rotate_left
    ·simp only [Act.put, List.setIfInBounds_toArray, List.set_cons_zero, List.set_cons_succ, i64_w, i32_w]
     rfl
    refine pure_ (i := 3) (N := some 58) (v := ?_) (a' := ?_) #[true, true, true, true, false, false, false, false, false, false, false, false, false, false] rfl rfl (by kernel_rfl) (fun _ _ _ h => h) (Or.inl ⟨by rfl, ?_⟩) ?_ ?_
    rotate_left
    ·intro w'
     go_simp
     with_reducible rfl
    rotate_left
    ·simp only [Act.put, List.setIfInBounds_toArray, List.set_cons_zero, List.set_cons_succ, i64_w, i32_w]
     rfl
    refine pure_ (i := 4) (N := some 59) (v := ?_) (a' := ?_) #[true, true, true, true, true, false, false, false, false, false, false, false, false, false] rfl rfl (by kernel_rfl) (fun _ _ _ h => h) (Or.inl ⟨by rfl, ?_⟩) ?_ ?_
    rotate_left
    ·intro w'
     go_simp
     with_reducible rfl
    rotate_left
    ·simp only [Act.put, List.setIfInBounds_toArray, List.set_cons_zero, List.set_cons_succ, i64_w, i32_w]
     rfl
    refine take_ (i := 5) (N := some 60) (v := ?_) (a' := ?_) #[true, true, true, true, true, true, false, false, false, false, false, false, false, false] rfl rfl (by kernel_rfl) (fun _ _ _ h => h) (Or.inl ⟨by rfl, ?_⟩) hHeld ?_ ?_
    rotate_left
    ·rintro w' ⟨s0, s1, s2, s3, s4, s5, s6, s7, s8, s9⟩
     go_simp
     with_reducible rfl
    rotate_left
    ·simp only [Act.put, List.setIfInBounds_toArray, List.set_cons_zero, List.set_cons_succ, i64_w, i32_w]
     rfl
    refine pure_ (i := 6) (N := some 61) (v := ?_) (a' := ?_) #[true, true, true, true, true, true, true, false, false, false, false, false, false, false] rfl rfl (by kernel_rfl) (fun _ _ _ h => h) (Or.inl ⟨by rfl, ?_⟩) ?_ ?_
    rotate_left
    ·intro w'
     go_simp
     with_reducible rfl
    rotate_left
    ·simp only [Act.put, List.setIfInBounds_toArray, List.set_cons_zero, List.set_cons_succ, i64_w, i32_w]
     rfl
    refine take_ (i := 7) (N := some 62) (v := ?_) (a' := ?_) #[true, true, true, true, true, true, true, true, false, false, false, false, false, false] rfl rfl (by kernel_rfl) (fun _ _ _ h => h) (Or.inl ⟨by rfl, ?_⟩) hHeld ?_ ?_
    rotate_left
    ·rintro w' ⟨s0, s1, s2, s3, s4, s5, s6, s7, s8, s9⟩
     go_simp
     with_reducible rfl
    rotate_left
    ·simp only [Act.put, List.setIfInBounds_toArray, List.set_cons_zero, List.set_cons_succ, i64_w, i32_w]
     rfl
    refine pure_ (i := 8) (N := some 63) (v := ?_) (a' := ?_) #[true, true, true, true, true, true, true, true, true, false, false, false, false, false] rfl rfl (by kernel_rfl) (fun _ _ _ h => h) (Or.inl ⟨by rfl, ?_⟩) ?_ ?_
    rotate_left
    ·intro w'
     go_simp
     with_reducible rfl
    rotate_left
    ·simp only [Act.put, List.setIfInBounds_toArray, List.set_cons_zero, List.set_cons_succ, i64_w, i32_w]
     rfl
    refine pure_ (i := 9) (N := some 64) (v := ?_) (a' := ?_) #[true, true, true, true, true, true, true, true, true, true, false, false, false, false] rfl rfl (by kernel_rfl) (fun _ _ _ h => h) (Or.inl ⟨by rfl, ?_⟩) ?_ ?_
    rotate_left
    ·intro w'
     go_simp
     with_reducible rfl
    rotate_left
    ·simp only [Act.put, List.setIfInBounds_toArray, List.set_cons_zero, List.set_cons_succ, i64_w, i32_w]
     rfl
    refine pure_ (i := 10) (N := some 65) (v := ?_) (a' := ?_) #[true, true, true, true, true, true, true, true, true, true, true, false, false, false] rfl rfl (by kernel_rfl) (fun _ _ _ h => h) (Or.inl ⟨by rfl, ?_⟩) ?_ ?_
    rotate_left
    ·intro w'
     go_simp
     with_reducible rfl
    rotate_left
    ·simp only [Act.put, List.setIfInBounds_toArray, List.set_cons_zero, List.set_cons_succ, i64_w, i32_w]
     rfl
    refine take_ (i := 11) (N := some 66) (v := ?_) (a' := ?_) #[true, true, true, true, true, true, true, true, true, true, true, true, false, false] rfl rfl (by kernel_rfl) (fun _ _ _ h => h) (Or.inl ⟨by rfl, ?_⟩) hHeld ?_ ?_
    rotate_left
    ·rintro w' ⟨s0, s1, s2, s3, s4, s5, s6, s7, s8, s9⟩
     go_simp
     with_reducible rfl
    rotate_left
    ·simp only [Act.put, List.setIfInBounds_toArray, List.set_cons_zero, List.set_cons_succ, i64_w, i32_w]
     rfl
    refine one_ (i := 12) (N := some 67) #[true, true, true, true, true, true, true, true, true, true, true, true, true, false] rfl rfl (by kernel_rfl) (by decide) (fun K hK => ?_)
    have hb4 := below_step hbw3 hdr
    refine goes_ Tryd.func13 (by kernel_rfl) rfl #[.agg #[.int .i64 x.f1, .bool x.f2, .string x.f3, .slice A4 x.f4.length c4], .agg #[.int .i64 y.f1, .bool y.f2, .string y.f3, .slice A5 y.f4.length c5]] (by rfl) rfl rfl (by (try simp only [List.map_toArray, List.map_cons, List.map_nil]); first | done | rfl) ?_
    refine (IH.out x HX.out.2.2 x.f1 x.f2 x.f3 A4 c4 y.f1 y.f2 y.f3 y.f4 A5 c5 W4 (Kd.C_below HC4.out.1 hb4) HC4.out.2.1 (Kd.C_below HC4.out.2.2.1 hb4) HC4.out.2.2.2).mono ?_
    rintro o W5 ⟨bq, rfl, hbq, hb5⟩
    have hb35 := below_step hdr hb5
    have HB5 := Aside0.mk (below_step (below_step HBR.out hb3) hb35)
    have HW5 := Aside0.mk (below_step hbw3 hb35)
    have hHeld5 : W5.cell? ⟨b0, 3, none⟩ = some (.slice (some ad) n ca) ∧ W5.cell? ⟨b1, 3, none⟩ = some (.slice (some bd) n cb) := ⟨(B03.out.below hb35).cell 3 _ rfl, (B13.out.below hb35).cell 3 _ rfl⟩
    refine ⟨_, rfl, ?_⟩
    refine hK.out _ _ ⟨hHeld5.1, hHeld5.2, pw_cell_below hb35 a1, pw_cell_below hb35 a2, pw_cell_below hb35 a3, pw_cell_below hb35 a4, pw_cell_below hb35 a5, pw_cell_below hb35 a6, pw_cell_below hb35 a7, pw_cell_below hb35 a8⟩ (fun _ => ?_)
    clear hK K
    refine pure_ (i := 13) (N := some 6) (v := ?_) (a' := ?_) #[true, true, true, true, true, true, true, true, true, true, true, true, true, true] rfl rfl (by kernel_rfl) (fun _ _ _ h => h) (Or.inl ⟨by rfl, ?_⟩) ?_ ?_
    rotate_left
    ·intro w'
     go_simp
     with_reducible rfl
    rotate_left
    ·simp only [Act.put, List.setIfInBounds_toArray, List.set_cons_zero, List.set_cons_succ, i64_w, i32_w]
     rfl
    refine done_ (by kernel_rfl) ?_
    have HQ := Aside0.mk hbq
    clear hbq hb5 hb35 hb4 hdr hbw3 hb3 a1 a2 a3 a4 a5 a6 a7 a8 hHeld5 hHeld B03 B13 e0 f0 u3 v3
    cases bq with
    | true =>
     have HPN : Aside0 (p ↔ la.drop (j + 1) = lb.drop (j + 1)) := ⟨by
      have hxy := HQ.out.1 rfl
      have hx0 := toList_eq.1 HC5.out
      have hxe : x = y := by
       cases x; cases y
       simp only [Prod.mk.injEq] at hxy hx0
       obtain ⟨h1, h2, h3, h4⟩ := hxy
       subst hx0 h1 h2 h3 h4
       rfl
      rw [HPJ.out, HX.out.1, HX.out.2.1, hxe]
      simp⟩
     go_wp2_with fail
     go_roundw
     case rel => exact ⟨j + 1, by omega, by go_num, HPN, HB5⟩
     case measure => simp [intOf]; omega
    | false =>
     have HQN : Aside0 ¬ p := ⟨by
      rw [HPJ.out, HX.out.1, HX.out.2.1]
      intro h
      injection h with h _
      have := HQ.out.2 (by rw [h])
      cases this⟩
     go_wp2_with fail
     go_ret
     exact ⟨false, rfl, ⟨fun h => (by cases h), fun h => absurd h HQN.out⟩, HW5.out⟩
   ·have d5 : (x.f0.toList != y.f0.toList) = true := bne_iff_ne.mpr c5
    have d5b : (x.f0.toList == y.f0.toList) = false := beq_eq_false_iff_ne.mpr c5
    have HQ : Aside0 ¬ p := ⟨by rw [HPJ.out, HX.out.1, HX.out.2.1]; intro h; injection h with h _; exact c5 (by rw [h])⟩
    clear c5
    go_wp2_with fail
    go_quiet (fail)
    go_wp2_with fail
    go_ret
    exact ⟨false, rfl, ⟨fun h => (by cases h), fun h => absurd h HQ.out⟩, below_step HBW2.out (pw_below_drewN (Below.refl _ _) _)⟩
  ·obtain rfl : j = n := by omega
   go_wp2_with fail
   go_ret
   exact ⟨true, rfl, ⟨fun _ => HPJ.out.2 (by rw [List.drop_of_length_le (Nat.le_of_eq HN.out.1.symm), List.drop_of_length_le (Nat.le_of_eq HN.out.2.symm)]), fun _ => rfl⟩, HBW2.out⟩
set_option maxHeartbeats 1000000 in
set_option maxRecDepth 100000 in
theorem leaf_calls (s : ByteArray) (w : World) : Calls Tryd.prog 26 #[.string s] w fun o w' => o = .returned (.agg #[.int .i64 1, .bool false, .string s, .slice none 0 0]) ∧ Below w.heap.size w w' := by
 go_enter Tryd.func26, Tryd.ntmps26
 go_wp2
 refine bodyPost_ret (v := .agg #[.int .i64 1, .bool false, .string s, .slice none 0 0]) (by simp [results, Tryd.results26, go_sem]) rfl ⟨rfl, below_alloc (Below.refl _ _) _⟩
/-- The directory that every run looks at first. -/
def wakeL : List Ent := [⟨⟨#[97]⟩, 1, false, ⟨#[120]⟩, []⟩]
theorem wake_held : Held ⟨#[]⟩ wakeL := ⟨.of (fun x hx => by
 rw [wakeL, List.mem_singleton] at hx
 subst hx
 exact ⟨by decide, by decide, .of (by simp)⟩), by decide⟩
theorem lit_own (w : World) (x : Ent) (hx : x.f4 = []) : Own (w.alloc (.cells (ecells x (.slice none 0 0)).toArray eE)) w.heap.size (fun k => w.heap.size ≤ k) (.slice (some ⟨w.heap.size, 0, none⟩) 1 1) [x] := by
 refine .mk _ _ _ [⟨x, .slice none 0 0, fun _ => False⟩] rfl ?_ (fun k hk => ?_) (fun t ht => ?_) (fun t ht k hk => ?_) (List.pairwise_singleton _ _)
 ·exact ⟨rfl, .inr ⟨w.heap.size, 1, (ecells x (.slice none 0 0)).toArray, rfl, Nat.le_refl _, heap_alloc_new _ _, Nat.le_refl _, by unfold maxLen; omega, rfl, rfl⟩⟩
 ·simp [Value.ownBlock] at hk; omega
 ·rw [List.mem_singleton] at ht
  subst ht
  show Own _ _ _ (.slice none 0 0) x.f4
  rw [hx]
  exact Own.nil _ _ _
 ·rw [List.mem_singleton] at ht
  subst ht
  exact hk.elim
set_option maxHeartbeats 4000000 in
set_option maxRecDepth 100000 in
theorem awake_calls (w : World) : Calls Tryd.prog 10 #[] w fun o w' => o = .returned (.bool true) ∧ Below w.heap.size w w' := by
 have HS : Aside0 (∀ W A c, Kd.C kE W A 1 wakeL → 1 ≤ c → Calls Tryd.prog 27 #[.agg #[.int .i64 3, .bool false, .string ⟨#[]⟩, .slice A 1 c]] W fun e w' => e = .returned (.tuple #[.int .i64 288, .int .i64 0]) ∧ Below W.heap.size W w') := ⟨fun W A c hC hc => tree_Size.calls 3 false ⟨#[]⟩ A c wakeL 288 0 W hC hc (by unfold tree_Size.f; rw [if_pos wake_held, show lookL 3 false ⟨#[]⟩ wakeL = _ from awake_look]; rfl)⟩
 have HK : Aside0 (∀ W A c, Kd.C kE W A 1 wakeL → 1 ≤ c → Calls Tryd.prog 14 #[.agg #[.int .i64 3, .bool false, .string ⟨#[]⟩, .slice A 1 c]] W fun e w' => e = .returned (.tuple #[.string ⟨#[]⟩, .int .i64 0]) ∧ Below W.heap.size W w') := ⟨fun W A c hC hc => tree_Check.calls 3 false ⟨#[]⟩ A c wakeL ⟨#[]⟩ 0 W hC hc (by unfold tree_Check.f; rw [if_pos wake_held, show lookL 3 false ⟨#[]⟩ wakeL = _ from awake_look]; rfl)⟩
 have HW : Aside0 (∀ W A c, Kd.C kE W A 1 wakeL → 1 ≤ c → Calls Tryd.prog 15 #[.agg #[.int .i64 3, .bool false, .string ⟨#[]⟩, .slice A 1 c]] W fun e w' => ∃ v0_ : Value, e = .returned (.tuple #[v0_, .int .i64 0]) ∧ Kd.R k27 27 w' W.heap.size (fun _ => True) v0_ [⟨⟨#[]⟩, 3, false, ⟨#[]⟩⟩, ⟨⟨#[97]⟩, 1, false, ⟨#[120]⟩⟩] ∧ Below W.heap.size W w') := ⟨fun W A c hC hc => tree_Walk.calls 3 false ⟨#[]⟩ A c wakeL _ 0 W hC hc (by unfold tree_Walk.f; rw [if_pos wake_held, show lookL 3 false ⟨#[]⟩ wakeL = _ from awake_look]; rfl)⟩
 go_enter Tryd.func10, Tryd.ntmps10
 go_wp2_with fail
 (with_reducible refine (leaf_calls _ _).mono ?_)
 rintro o w1 ⟨rfl, hb1⟩
 go_wp2_with ((with_reducible refine gate_dst (N := 13) rfl ?_); refine Stand.go ?_)
 obtain ⟨Wa, hWa⟩ : ∃ Wa, Wa = w1.alloc (.cells #[.string ⟨#[97]⟩, .int .i64 1, .bool false, .string ⟨#[120]⟩, .slice none 0 0] eE) := ⟨_, rfl⟩
 have HO : Aside0 (Own Wa w1.heap.size (fun k => w1.heap.size ≤ k) (.slice (some ⟨w1.heap.size, 0, none⟩) 1 1) wakeL) := ⟨by rw [hWa]; exact lit_own w1 ⟨⟨#[97]⟩, 1, false, ⟨#[120]⟩, []⟩ rfl⟩
 rw [← hWa]
 obtain ⟨W2, hW2⟩ : ∃ W2, W2 = Wa.alloc (.cells #[.int .i64 3, .bool false, .string ⟨#[]⟩, .slice (some ⟨w1.heap.size, 0, none⟩) 1 1] 32) := ⟨_, rfl⟩
 obtain ⟨bn, hbn⟩ : ∃ b, b = Wa.heap.size := ⟨_, rfl⟩
 have hz : w1.heap.size + 1 = bn := by rw [hbn, hWa]; simp
 rw [hz]
 rw [← hW2]
 have BN : Aside0 (Blk W2 bn 32 [.int .i64 3, .bool false, .string ⟨#[]⟩, .slice (some ⟨w1.heap.size, 0, none⟩) 1 1]) := ⟨by rw [hW2]; exact Blk.new' _ _ [.int .i64 3, .bool false, .string ⟨#[]⟩, .slice (some ⟨w1.heap.size, 0, none⟩) 1 1] hbn⟩
 have HO2 : Aside0 (Own W2 w1.heap.size (fun k => w1.heap.size ≤ k) (.slice (some ⟨w1.heap.size, 0, none⟩) 1 1) wakeL) := ⟨by rw [hW2]; exact HO.out.newer (below_alloc (Below.refl _ _) _)⟩
 have HB2 : Aside0 (Below w.heap.size w W2) := ⟨by rw [hW2, hWa]; exact below_step hb1 (below_alloc (below_alloc (Below.refl _ _) _) _)⟩
 obtain ⟨b8, hb8⟩ : ∃ b, b = w1.heap.size := ⟨_, rfl⟩
 rw [← hb8] at BN HO2 ⊢
 unfold Stand
 clear hWa hW2 hbn hz hb8 hb1 HO
 obtain ⟨u0, u1, u2, u3⟩ := cells4 BN.out
 go_wp2_with fail
 (with_reducible refine (HS.out W2 _ _ HO2.out.toC.2.2 (Nat.le_refl _)).mono ?_)
 rintro o W3 ⟨rfl, hb⟩
 have BN3 := Aside0.mk (BN.out.below hb)
 have HO3 := Aside0.mk (HO2.out.newer hb)
 have HB3 := Aside0.mk (below_step HB2.out hb)
 clear hb BN HO2 HB2 HS u0 u1 u2 u3
 obtain ⟨u0, u1, u2, u3⟩ := cells4 BN3.out
 go_wp2_with fail
 (with_reducible refine (HK.out W3 _ _ HO3.out.toC.2.2 (Nat.le_refl _)).mono ?_)
 rintro o W4 ⟨rfl, hb⟩
 have BN4 := Aside0.mk (BN3.out.below hb)
 have HO4 := Aside0.mk (HO3.out.newer hb)
 have HB4 := Aside0.mk (below_step HB3.out hb)
 clear hb BN3 HO3 HB3 HK u0 u1 u2 u3
 obtain ⟨u0, u1, u2, u3⟩ := cells4 BN4.out
 go_wp2_with fail
 (with_reducible refine (HW.out W4 _ _ HO4.out.toC.2.2 (Nat.le_refl _)).mono ?_)
 rintro o W5 ⟨v, rfl, hR, hb⟩
 have hrr := Kd.R_reads hR
 obtain ⟨A5, c5, hv, hc5, hC5⟩ := hrr
 subst hv
 have HB5 := Aside0.mk (below_step HB4.out hb)
 obtain ⟨ad, hA, e0, e1, e2, e3⟩ := at_T27 hC5 1 (by decide) (by decide)
 subst hA
 have f0 : W5.cell? (ad.add 4) = some (.string ⟨#[97]⟩) := e0
 have f3 : W5.cell? ⟨(ad.add 4).block, (ad.add 4).off + 3, none⟩ = some (.string ⟨#[120]⟩) := e3
 have ha : ad.add 4 = ⟨ad.block, ad.off + 4, none⟩ := by have h := add_field ad 0 4 (by omega); rw [Nat.zero_add, Addr.add_zero'] at h; exact h
 rw [ha] at f0 f3
 have g3 : W5.cell? ⟨ad.block, ad.off + 7, none⟩ = some (.string ⟨#[120]⟩) := f3
 clear hb BN4 HO4 HB4 HW u0 u1 u2 u3 hR hC5 hc5 e0 e1 e2 e3 ha
 simp only [List.length_cons, List.length_nil]
 go_wp2_with fail
 go_ret
 exact ⟨rfl, HB5.out⟩
end Go.Proofs.YtnemeeidomceiaaDoor
end
section
namespace Go.Proofs.YtnemeeidomceiaaDoor
open Go.RowKit Go.Proofs.YtnemeeidomceiaaDoorW.PrintWords Go.Proofs.YtnemeeidomceiaaDoorW.PrintLast Go.Proofs.YtnemeeidomceiaaDoorW.PrintMore
set_option linter.unusedVariables false
set_option linter.unusedSimpArgs false
/-- The entry that is put. -/
def putK (sub : NodeT) (s : ByteArray) : Ent := ⟨s, sub.1, sub.2.1, sub.2.2.1, sub.2.2.2⟩
/-- What the closure of tree.Put makes. -/
def putAct (sub : NodeT) (l : List Ent) (i : Nat) (hs : Bool) (s : ByteArray) : List Ent × Int := (if hs = true then l.set i (putK sub s) else l.take i ++ putK sub s :: l.drop i, 0)
/-- The tree with another one at a path. -/
def putP (n : NodeT) (path : ByteArray) (sub : NodeT) : NodeT × Int :=
 if lookCode (lookL n.1 n.2.1 n.2.2.1 n.2.2.2) ≠ 0 then (zeroT, lookCode (lookL n.1 n.2.1 n.2.2.1 n.2.2.2))
 else if (readyP sub.1 sub.2.1 sub.2.2.1 sub.2.2.2 path).2 ≠ 0 then (zeroT, (readyP sub.1 sub.2.1 sub.2.2.1 sub.2.2.2 path).2)
 else if (readyP sub.1 sub.2.1 sub.2.2.1 sub.2.2.2 path).1 = [] then (sub, 0)
 else if (chN (putAct sub) (readyP sub.1 sub.2.1 sub.2.2.1 sub.2.2.2 path).1 n.1 n.2.2.2).2 ≠ 0 then (zeroT, (chN (putAct sub) (readyP sub.1 sub.2.1 sub.2.2.1 sub.2.2.2 path).1 n.1 n.2.2.2).2)
 else if lookCode (lookL n.1 n.2.1 n.2.2.1 (chN (putAct sub) (readyP sub.1 sub.2.1 sub.2.2.1 sub.2.2.2 path).1 n.1 n.2.2.2).1) ≠ 0 then (zeroT, lookCode (lookL n.1 n.2.1 n.2.2.1 (chN (putAct sub) (readyP sub.1 sub.2.1 sub.2.2.1 sub.2.2.2 path).1 n.1 n.2.2.2).1))
 else ((n.1, n.2.1, n.2.2.1, (chN (putAct sub) (readyP sub.1 sub.2.1 sub.2.2.1 sub.2.2.2 path).1 n.1 n.2.2.2).1), 0)
theorem goP_names : ∀ (l : List ByteArray) (names : List ByteArray) (frm : Nat), (∀ x, x ∈ names → nameE x = 0) → names.length ≤ 31 → (∀ x, x ∈ (goP l names frm).1 → nameE x = 0) ∧ (goP l names frm).1.length ≤ 31
 | [], names, frm, h, hl => ⟨h, hl⟩
 | x :: l, names, frm, h, hl => by
  unfold goP
  split
  ·exact ⟨by simp, by simp⟩
  ·split
   ·exact ⟨by simp, by simp⟩
   ·rename_i h1 h2
    refine goP_names l _ _ (fun y hy => ?_) (by rw [List.length_append, List.length_singleton]; omega)
    rcases List.mem_append.1 hy with hy | hy
    ·exact h y hy
    ·rw [List.mem_singleton] at hy; rw [hy]; exact Decidable.of_not_not h2
/-- The names of a path are names. -/
theorem split_names (path : ByteArray) : (∀ x, x ∈ (splitP path).1 → nameE x = 0) ∧ (splitP path).1.length ≤ 31 := by
 by_cases h : path.toList = []
 ·unfold splitP; rw [if_pos h]; exact ⟨by simp, by simp⟩
 ·rw [splitP_pieces path h]; exact goP_names _ [] 0 (by simp) (by simp)
end Go.Proofs.YtnemeeidomceiaaDoor
end
section
namespace Go.Proofs.YtnemeeidomceiaaDoor
open Go.RowKit Go.Proofs.YtnemeeidomceiaaDoorW.PrintWords Go.Proofs.YtnemeeidomceiaaDoorW.PrintLast Go.Proofs.YtnemeeidomceiaaDoorW.PrintMore
set_option linter.unusedVariables false
def flatT (r : NodeT × Int) : Int × Bool × ByteArray × List Ent × Int := (r.1.1, r.1.2.1, r.1.2.2.1, r.1.2.2.2, r.2)
open Classical in
noncomputable def tree_Cut.f (k : Int) (e : Bool) (t : ByteArray) (l : List Ent) (path : ByteArray) : Option (Int × Bool × ByteArray × List Ent × Int) := if Held t l ∧ Fit l ∧ path.size ≤ 140737488351232 then some (flatT (cutP k e t l path)) else none
open Classical in
noncomputable def tree_Put.f (k : Int) (e : Bool) (t : ByteArray) (l : List Ent) (path : ByteArray) (sk : Int) (se : Bool) (st : ByteArray) (sl : List Ent) : Option (Int × Bool × ByteArray × List Ent × Int) :=
 if (Held t l ∧ Fit l) ∧ path.size ≤ 140737488351232 ∧ Held st sl ∧ Fit sl then some (flatT (putP (k, e, t, l) path (sk, se, st, sl))) else none
end Go.Proofs.YtnemeeidomceiaaDoor
end
section
namespace Go.Proofs.YtnemeeidomceiaaDoor
open Go.RowKit Go.Proofs.YtnemeeidomceiaaDoorW.PrintWords
set_option linter.unusedVariables false
/-- The kid of a name. -/
def look (l : List Ent) (s : ByteArray) : Option Ent := if hasN l s = true then l[rk l s]? else none
theorem look_iff' {l : List Ent} {s : ByteArray} {x : Ent} (h : Rising l) : look l s = some x ↔ x ∈ l ∧ x.f0 = s := by
 constructor
 ·intro hl
  unfold look at hl
  split at hl
  ·rename_i hh
   obtain ⟨y, hy, hs⟩ := hasN_at hh
   rw [hy] at hl
   injection hl with hl
   subst hl
   exact ⟨List.mem_of_getElem? hy, hs⟩
  ·cases hl
 ·rintro ⟨hm, hs⟩
  obtain ⟨i, hi⟩ := List.mem_iff_getElem?.1 hm
  have hil := (List.getElem?_eq_some_iff.1 hi).1
  have hr : rk l s = i := rk_of i (Nat.le_of_lt hil) (fun j y hj hy => by rw [← hs]; exact h.at hj hy hi) (fun j y hj hy hlt => by
   by_cases e : j = i
   ·subst e; rw [hi] at hy; injection hy with hy; rw [← hy, hs, cmpB_self] at hlt; omega
   ·have := h.at (show i < j by omega) hi hy
    rw [hs, cmpB_neg] at this
    omega)
  have hh : hasN l s = true := by unfold hasN; rw [hr, hi]; exact decide_eq_true ((cmpB_zero _ _).2 hs)
  unfold look
  rw [if_pos hh, hr, hi]
theorem AllR.look {l : List Ent} (h : AllR l) {s : ByteArray} {x : Ent} (hx : look l s = some x) : AllR x.f4 := by
 obtain ⟨i, hi⟩ := List.mem_iff_getElem?.1 ((look_iff' h.rises.1).1 hx).1
 exact h.at hi
end Go.Proofs.YtnemeeidomceiaaDoor
end
section
namespace Go.Proofs.YtnemeeidomceiaaDoor
open Go.RowKit Go.Proofs.YtnemeeidomceiaaDoorW.PrintWords
set_option linter.unusedVariables false
theorem look_zero (k : Int) (e : Bool) (t : ByteArray) (l : List Ent) : lookCode (lookL k e t l) = 0 ↔ wf 32 ⟨⟨#[]⟩, k, e, t, l⟩ ∧ 24 + tsz 32 ⟨⟨#[]⟩, k, e, t, l⟩ ≤ 1048576 := by
 constructor
 ·intro h
  have hfair := nodeL_fair 32 ⟨#[]⟩ ⟨⟨#[]⟩, k, e, t, l⟩ magS
  cases hs : lookL k e t l with
  | bad p c =>
   rw [hs] at h
   unfold lookL at hs
   rw [hs] at hfair
   exact absurd h hfair
  | ok b rows =>
   obtain ⟨h1, h2, h3, _⟩ := (look_iff k e t l b rows).1 hs
   exact ⟨h1, by omega⟩
 ·rintro ⟨h1, h2⟩
  rw [(look_iff k e t l _ _).2 ⟨h1, rfl, h2, rfl⟩]; rfl
theorem AllR.fit : ∀ {l : List Ent}, AllR l → Fit l := by
 intro l h
 induction h with
 | mk h n k ih => exact .mk (by omega) ih
def codeN (n : NodeT) : Int := lookCode (lookL n.1 n.2.1 n.2.2.1 n.2.2.2)
def pathE (p : ByteArray) : Int := (splitP p).2.1
theorem ready_eq (n : NodeT) (p : ByteArray) : readyP n.1 n.2.1 n.2.2.1 n.2.2.2 p = if codeN n ≠ 0 then ([], codeN n) else ((splitP p).1, pathE p) := rfl
theorem split_nil {p : ByteArray} (h : p.toList = []) : splitP p = ([], 0, 0) := by unfold splitP; rw [if_pos h]
def slashed (x : ByteArray) : List UInt8 := x.data.toList ++ [47]
theorem goP_all : ∀ (l names : List ByteArray) (frm : Nat), (goP l names frm).2.1 = 0 → (goP l names frm).1 = names ++ l
 | [], names, frm, _ => by rw [goP, List.append_nil]
 | x :: l, names, frm, h => by
  unfold goP at h ⊢
  split at h
  ·exact absurd (show (61 : Int) = 0 from h) (by decide)
  ·rename_i c1
   rw [if_neg c1]
   split at h
   ·rename_i c2; exact absurd h c2
   ·rename_i c2
    rw [if_neg c2, goP_all l _ _ h]; simp
theorem ex_data (s : ByteArray) (a b : Nat) : (s.extract a b).data.toList = (s.data.toList.drop a).take (b - a) := by
 rw [ByteArray.data_extract, Array.toList_extract, List.extract_eq_take_drop]
theorem pieces_join (s : ByteArray) : ∀ (m frm i : Nat), i + m = s.size → frm ≤ i → (pieces s m frm i).flatMap slashed = s.data.toList.drop frm ++ [47]
 | 0, frm, i, h, hf => by
  rw [pieces, List.flatMap_cons, List.flatMap_nil, List.append_nil]
  unfold slashed
  rw [ex_data, List.take_of_length_le]
  rw [List.length_drop, Array.length_toList]
  show s.size - frm ≤ _
  omega
 | m + 1, frm, i, h, hf => by
  rw [pieces]
  have hi : i < s.data.toList.length := by rw [Array.length_toList]; show i < s.size; omega
  by_cases hb : bt s (i : Int) = 47
  ·rw [if_neg (fun e => e hb), List.flatMap_cons, pieces_join s m (i + 1) (i + 1) (by omega) (Nat.le_refl _)]
   unfold slashed
   rw [ex_data]
   have h1 : s.data.toList.drop i = 47 :: s.data.toList.drop (i + 1) := by
    rw [List.drop_eq_getElem_cons hi]
    have hc := bt_toList s i (by omega) 47
    have := (List.getElem?_eq_some_iff.1 (hc.2 hb)).2
    rw [this]
   have h2 : s.data.toList.drop frm = (s.data.toList.drop frm).take (i - frm) ++ s.data.toList.drop i := by
    have := (List.take_append_drop (i - frm) (s.data.toList.drop frm)).symm
    rw [List.drop_drop, show frm + (i - frm) = i from by omega] at this
    exact this
   generalize (s.data.toList.drop frm).take (i - frm) = u at *
   rw [h2, h1]
   simp
  ·rw [if_pos hb, pieces_join s m frm (i + 1) (by omega) (by omega)]
theorem split_join {p : ByteArray} (hne : p.toList ≠ []) (h : pathE p = 0) : (splitP p).1 ≠ [] ∧ (splitP p).1.flatMap slashed = p.data.toList ++ [47] := by
 have hj := pieces_join p p.size 0 0 (by omega) (Nat.le_refl _)
 unfold pathE at h
 rw [splitP_pieces p hne] at h ⊢
 rw [goP_all _ _ _ h, List.nil_append]
 rw [List.drop_zero] at hj
 refine ⟨fun e => ?_, hj⟩
 unfold pcs at e
 rw [e] at hj
 simp at hj
end Go.Proofs.YtnemeeidomceiaaDoor
end
section
namespace Go.Proofs.YtnemeeidomceiaaDoor
open Go.RowKit Go.Proofs.YtnemeeidomceiaaDoorW.PrintWords Go.Proofs.YtnemeeidomceiaaDoorW.PrintLast Go.Proofs.YtnemeeidomceiaaDoorW.PrintMore
set_option linter.unusedVariables false
open Classical in
noncomputable def depotref06_Equal.f (a0_0 : Int) (a0_1 : Bool) (a0_2 : ByteArray) (l0_3 : List Ent) (a1_0 : Int) (a1_1 : Bool) (a1_2 : ByteArray) (l1_3 : List Ent) : Option Bool := if Fit l0_3 then some (decide ((a0_0, a0_1, a0_2, l0_3) = (a1_0, a1_1, a1_2, l1_3))) else none
open Classical in
theorem depotref06_Equal.calls (a0_0 : Int) (a0_1 : Bool) (a0_2 : ByteArray) (A0_3 : Option Addr) (c0_3 : Nat) (l0_3 : List Ent) (a1_0 : Int) (a1_1 : Bool) (a1_2 : ByteArray) (A1_3 : Option Addr) (c1_3 : Nat) (l1_3 : List Ent) (r : Bool) (w : World) (hr0_3 : Kd.C kE w A0_3 l0_3.length l0_3) (hc0_3 : l0_3.length ≤ c0_3) (hr1_3 : Kd.C kE w A1_3 l1_3.length l1_3) (hc1_3 : l1_3.length ≤ c1_3) (h : depotref06_Equal.f a0_0 a0_1 a0_2 l0_3 a1_0 a1_1 a1_2 l1_3 = some r) :
  Calls Tryd.prog 13 #[.agg #[.int .i64 a0_0, .bool a0_1, .string a0_2, .slice A0_3 l0_3.length c0_3], .agg #[.int .i64 a1_0, .bool a1_1, .string a1_2, .slice A1_3 l1_3.length c1_3]] w fun e w' => e = .returned (.bool r) ∧ Below w.heap.size w w' := by
 unfold depotref06_Equal.f at h
 by_cases hh : Fit l0_3
 ·rw [if_pos hh] at h
  injection h with h
  refine (refEq_calls l0_3 hh a0_0 a0_1 a0_2 A0_3 c0_3 a1_0 a1_1 a1_2 l1_3 A1_3 c1_3 w hr0_3 hc0_3 hr1_3 hc1_3).mono fun _ _ ⟨b, ho, hb, hw⟩ => ⟨?_, hw⟩
  rw [ho, ← h]
  by_cases he : (a0_0, a0_1, a0_2, l0_3) = (a1_0, a1_1, a1_2, l1_3)
  ·rw [decide_eq_true he, hb.2 he]
  ·rw [decide_eq_false he]
   cases b with
   | false => rfl
   | true => exact absurd (hb.1 rfl) he
 ·rw [if_neg hh] at h; cases h
def depotlaw06_awake.f : Option Bool := some true
theorem depotlaw06_awake.calls (r : Bool) (w : World) (h : depotlaw06_awake.f = some r) : Calls Tryd.prog 10 #[] w fun e w' => e = .returned (.bool r) ∧ Below w.heap.size w w' := by
 injection h with h
 subst h
 exact awake_calls w
end Go.Proofs.YtnemeeidomceiaaDoor
end
section
namespace Go.Proofs.YtnemeeidomceiaaDoor
open Go.RowKit Go.Proofs.YtnemeeidomceiaaDoorW.PrintWords Go.Proofs.YtnemeeidomceiaaDoorW.PrintLast Go.Proofs.YtnemeeidomceiaaDoorW.PrintMore
set_option linter.unusedVariables false
set_option linter.unusedSimpArgs false
end Go.Proofs.YtnemeeidomceiaaDoor
end
section
namespace Go.Proofs.YtnemeeidomceiaaDoor
open Go.RowKit Go.Proofs.YtnemeeidomceiaaDoorW.PrintWords Go.Proofs.YtnemeeidomceiaaDoorW.PrintLast Go.Proofs.YtnemeeidomceiaaDoorW.PrintMore
set_option linter.unusedVariables false
set_option linter.unusedSimpArgs false
/-- Rows of no more kids than a tree of an archive may have. -/
inductive Small : List Ent → Prop
 | mk {l : List Ent} (n : l.length ≤ 1048576) (k : ∀ x : Ent, x ∈ l → Small x.f4) : Small l
theorem Small.at_ {l : List Ent} (h : Small l) : l.length ≤ 1048576 ∧ ∀ x : Ent, x ∈ l → Small x.f4 := by
 cases h with
 | mk n k => exact ⟨n, k⟩
theorem set5 (P Q : List Value) (s0 s1 s2 s3 s4 z a b c d : Value) : (((((P ++ [s0, s1, s2, s3, s4] ++ Q).set P.length z).set (P.length + 1) a).set (P.length + 2) b).set (P.length + 3) c).set (P.length + 4) d = P ++ [z, a, b, c, d] ++ Q := by
 simp [List.set_append]
theorem fl_store5 (ts : List Kid) (i : Nat) (t : Kid) (ht : ts[i]? = some t) (x : Ent) (u : Value) (f : Nat → Prop) :
  (((((fl ts).set (i * 5) (.string x.f0)).set (i * 5 + 1) (.int .i64 x.f1)).set (i * 5 + 2) (.bool x.f2)).set (i * 5 + 3) (.string x.f3)).set (i * 5 + 4) u = fl (ts.set i ⟨x, u, f⟩) := by
 obtain ⟨hi, hte⟩ := List.getElem?_eq_some_iff.1 ht
 have hP : (fl (ts.take i)).length = i * 5 := by rw [fl_len, List.length_take, Nat.min_eq_left (Nat.le_of_lt hi)]
 have e1 : fl ts = fl (ts.take i) ++ ecells t.x t.u ++ fl (ts.drop (i + 1)) := by
  conv => lhs; rw [← List.take_append_drop i ts, fl_append, List.drop_eq_getElem_cons hi, hte]
  rw [fl, List.append_assoc]
 rw [fl_set ts i _ hi, fl_take ts i (Nat.le_of_lt hi), fl_drop ts (i + 1) hi, e1, ← hP]
 exact set5 _ _ _ _ _ _ _ _ _ _ _ _
/-- Five cells of a row's kid, stored. -/
def put5 (w : World) (g i : Nat) (x : Ent) (u : Value) : World := ((((w.setCell ⟨g, i * 5, none⟩ (.string x.f0)).setCell ⟨g, i * 5 + 1, none⟩ (.int .i64 x.f1)).setCell ⟨g, i * 5 + 2, none⟩ (.bool x.f2)).setCell ⟨g, i * 5 + 3, none⟩ (.string x.f3)).setCell ⟨g, i * 5 + 4, none⟩ u
theorem put5_upd (w : World) (g i : Nat) (x : Ent) (u : Value) : Upd (fun k => k = g) w (put5 w g i x u) :=
 ((((Upd.setCell (S := fun k => k = g) (p := ⟨g, i * 5, none⟩) (.inl rfl) _).trans (Upd.setCell (S := fun k => k = g) (p := ⟨g, i * 5 + 1, none⟩) (.inl rfl) _) (fun k hk => .inl hk)).trans (Upd.setCell (S := fun k => k = g) (p := ⟨g, i * 5 + 2, none⟩) (.inl rfl) _) (fun k hk => .inl hk)).trans (Upd.setCell (S := fun k => k = g) (p := ⟨g, i * 5 + 3, none⟩) (.inl rfl) _) (fun k hk => .inl hk)).trans (Upd.setCell (S := fun k => k = g) (p := ⟨g, i * 5 + 4, none⟩) (.inl rfl) _) (fun k hk => .inl hk)
/-- A kid's subtree has turned, then the kid was written over by one without kids. -/
theorem OwnP.over {w w2 : World} {base : Nat} {ok okn : Nat → Prop} {g n c i : Nat} {ts : List Kid} {td : Kid} (h : OwnP w base ok (.slice (some ⟨g, 0, none⟩) n c) ts) (hlt : ∀ k, ok k → k < w.heap.size) (htd : ts[i]? = some td) (hU : Upd td.f w w2) (x : Ent) (hx : x.f4 = []) (hn : n = ts.length) (hok : ∀ k, ok k → okn k) (hfresh : ∀ k, w.heap.size ≤ k → okn k) :
  Own (put5 w2 g i x (.slice none 0 0)) base okn (.slice (some ⟨g, 0, none⟩) n c) ((ts.map (·.x)).set i x) := by
 have hi := (List.getElem?_eq_some_iff.1 htd).1
 have hgn : ¬ td.f g := fun hf => (h.inn td (List.mem_of_getElem? htd) g hf).2 rfl
 have hrow2 : w2.ownsRow base eE 5 (.slice (some ⟨g, 0, none⟩) n c) ts.length (fl ts) := own_move h.row (fun k hk => by
  have : g = k := by simpa [Value.ownBlock] using hk
  rw [← this]
  exact hU.block g (hlt g (h.own g rfl)) hgn)
 have hrow3 : (put5 w2 g i x (.slice none 0 0)).ownsRow base eE 5 (.slice (some ⟨g, 0, none⟩) n c) ts.length (fl (ts.set i ⟨x, .slice none 0 0, fun _ => False⟩)) := by
  rw [← fl_store5 ts i td htd]
  subst hn
  exact own_setAt (own_setAt (own_setAt (own_setAt (own_setAt hrow2 _ (by omega) _) _ (by omega) _) _ (by omega) _) _ (by omega) _) _ (by omega) _
 have hU23 := put5_upd w2 g i x (.slice none 0 0)
 have h1 := h.put (w2 := w2) (okn := okn) hlt i td ⟨x, .slice none 0 0, fun _ => False⟩ htd hU (by show Own w2 base _ _ x.f4; rw [hx]; exact Own.nil _ _ _) (fun k hk => hk.elim) hrow3 ⟨hU23.os, hU23.tape, hU23.output, hU23.size, fun k hk hn => hU23.block k hk (fun e => hn (by rw [e]; rfl))⟩ hok hfresh
 rw [List.map_set] at h1
 exact h1
/-- Kid i, with the row's block. -/
theorem OwnP.at_ {w : World} {base : Nat} {ok : Nat → Prop} {A : Option Addr} {n c i : Nat} {ts : List Kid} {td : Kid} (h : OwnP w base ok (.slice A n c) ts) (htd : ts[i]? = some td) :
  ∃ g A6 c6 cur, A = some ⟨g, 0, none⟩ ∧ td.u = .slice A6 td.x.f4.length c6 ∧ td.x.f4.length ≤ c6 ∧ w.heap[g]? = some (.cells cur eE (0, 0)) ∧ ok g ∧ ∀ j, j < 5 → cur[i * 5 + j]? = (ecells td.x (.slice A6 td.x.f4.length c6))[j]? := by
 have hi := (List.getElem?_eq_some_iff.1 htd).1
 have hrow := h.row
 rcases hrow.2 with ⟨_, h0⟩ | ⟨g, cap, cur, hv, hbg, hg, _⟩
 ·omega
 injection hv with hv1 hv2 hv3
 subst hv1
 obtain ⟨A6, c6, hu6, hl6⟩ := (h.sub td (List.mem_of_getElem? htd)).slice
 refine ⟨g, A6, c6, cur, rfl, hu6, hl6, hg, h.own g rfl, fun j hj => ?_⟩
 have h1 := fl_at ts i td htd j hj
 obtain ⟨u, hu⟩ : ∃ u, (ecells td.x td.u)[j]? = some u := ⟨_, List.getElem?_eq_getElem (by rw [ecells_len]; exact hj)⟩
 have h2 := hrow.cells (g := g) rfl (i * 5 + j) u (by rw [h1, hu])
 rw [add_plain, cell_of_row w g (i * 5 + j) cur _ _ hg] at h2
 rw [h2, ← hu6, hu]
theorem cells_of {w : World} {g i : Nat} {cur : Array Value} {x : Ent} {u : Value} (hg : w.heap[g]? = some (.cells cur eE (0, 0))) (hc : ∀ j, j < 5 → cur[i * 5 + j]? = (ecells x u)[j]?) :
  w.cell? ⟨g, i * 5, none⟩ = some (.string x.f0) ∧ w.cell? ⟨g, i * 5 + 1, none⟩ = some (.int .i64 x.f1) ∧ w.cell? ⟨g, i * 5 + 2, none⟩ = some (.bool x.f2) ∧ w.cell? ⟨g, i * 5 + 3, none⟩ = some (.string x.f3) ∧ w.cell? ⟨g, i * 5 + 4, none⟩ = some u := by
 have hh : ∀ j, j < 5 → w.cell? ⟨g, i * 5 + j, none⟩ = (ecells x u)[j]? := fun j hj => by rw [cell_of_row w g (i * 5 + j) cur _ _ hg, hc j hj]
 exact ⟨hh 0 (by omega), hh 1 (by omega), hh 2 (by omega), hh 3 (by omega), hh 4 (by omega)⟩
theorem wp_of_step {P : Program} {ops : Array Oper} {o : Oper} {a : Act} {W : World} {K : Act → World → Prop} {Q : Exit → Act → World → Prop} {K2 : Prop} (h : if Region.wanted o (yielded ops a.tmps) = true then Oper.wp P o a W K Q else K2) (hw : Region.wanted o (yielded ops a.tmps) = true) : Oper.wp P o a W K Q := by
 rw [if_pos hw] at h; exact h
end Go.Proofs.YtnemeeidomceiaaDoor
end
section
namespace Go.Proofs.YtnemeeidomceiaaDoor
open Go.RowKit Go.Proofs.YtnemeeidomceiaaDoorW.PrintWords Go.Proofs.YtnemeeidomceiaaDoorW.PrintLast Go.Proofs.YtnemeeidomceiaaDoorW.PrintMore
set_option linter.unusedVariables false
set_option linter.unusedSimpArgs false
/-- The kids with those of the last kid, so many levels down, turned. -/
def lastAt (f : List Ent → List Ent) : Nat → List Ent → List Ent
 | 0, l => f l
 | k + 1, l => match l.getLast? with
  | none => l
  | some x => l.dropLast ++ [⟨x.f0, x.f1, x.f2, x.f3, lastAt f k x.f4⟩]
/-- The node so many levels down. -/
def spineN : Nat → NodeT → Option NodeT
 | 0, n => some n
 | k + 1, n => match n.2.2.2.getLast? with
  | none => none
  | some x => spineN k (nodeOf x)
/-- Where the last kids' nodes lie, level by level. -/
inductive SpP (W : World) : Value → List Ent → List Addr → Prop
 | nil (v : Value) (l : List Ent) : SpP W v l []
 | cons {g c : Nat} {l : List Ent} {x : Ent} {u : Value} {ps : List Addr} (hl : l.getLast? = some x) (hu : W.cell? ⟨g, (l.length - 1) * 5 + 4, none⟩ = some u) (h : SpP W u x.f4 ps) : SpP W (.slice (some ⟨g, 0, none⟩) l.length c) l (⟨g, (l.length - 1) * 5 + 1, none⟩ :: ps)
theorem getLast_at {l : List Ent} {x : Ent} (h : l.getLast? = some x) : l[l.length - 1]? = some x ∧ 0 < l.length := by
 rw [List.getLast?_eq_getElem?] at h
 exact ⟨h, by have := (List.getElem?_eq_some_iff.1 h).1; omega⟩
theorem set_last {l : List Ent} (h : 0 < l.length) (z : Ent) : l.set (l.length - 1) z = l.dropLast ++ [z] := by
 rw [List.dropLast_eq_take]
 conv => lhs; rw [List.set_eq_take_append_cons_drop, if_pos (by omega)]
 rw [List.drop_of_length_le (by omega)]
theorem SpP.of {W W2 : World} (hU : ∀ g c j, W.cell? ⟨g, j, none⟩ = some c → W2.cell? ⟨g, j, none⟩ = some c) : ∀ {v : Value} {l : List Ent} {ps : List Addr}, SpP W v l ps → SpP W2 v l ps := by
 intro v l ps h
 induction h with
 | nil v l => exact .nil v l
 | cons hl hu _ ih => exact .cons hl (hU _ _ _ hu) ih
theorem set1 (P Q : List Value) (s0 s1 s2 s3 s4 d : Value) : (P ++ [s0, s1, s2, s3, s4] ++ Q).set (P.length + 4) d = P ++ [s0, s1, s2, s3, d] ++ Q := by
 simp [List.set_append]
/-- A kid's slice of kids, stored into. -/
theorem fl_kids (ts : List Kid) (i : Nat) (t : Kid) (ht : ts[i]? = some t) (u : Value) (l : List Ent) (f : Nat → Prop) : (fl ts).set (i * 5 + 4) u = fl (ts.set i ⟨⟨t.x.f0, t.x.f1, t.x.f2, t.x.f3, l⟩, u, f⟩) := by
 obtain ⟨hi, hte⟩ := List.getElem?_eq_some_iff.1 ht
 have hP : (fl (ts.take i)).length = i * 5 := by rw [fl_len, List.length_take, Nat.min_eq_left (Nat.le_of_lt hi)]
 have e1 : fl ts = fl (ts.take i) ++ ecells t.x t.u ++ fl (ts.drop (i + 1)) := by
  conv => lhs; rw [← List.take_append_drop i ts, fl_append, List.drop_eq_getElem_cons hi, hte]
  rw [fl, List.append_assoc]
 rw [fl_set ts i _ hi, fl_take ts i (Nat.le_of_lt hi), fl_drop ts (i + 1) hi, e1, ← hP]
 exact set1 _ _ _ _ _ _ _ _
theorem fl_same (ts : List Kid) (i : Nat) (t : Kid) (ht : ts[i]? = some t) (l : List Ent) (f : Nat → Prop) : fl (ts.set i ⟨⟨t.x.f0, t.x.f1, t.x.f2, t.x.f3, l⟩, t.u, f⟩) = fl ts := by
 rw [← fl_kids ts i t ht t.u l f]
 have h := fl_at ts i t ht 4 (by omega)
 have h1 : (fl ts)[i * 5 + 4]? = some t.u := h
 obtain ⟨hl, he⟩ := List.getElem?_eq_some_iff.1 h1
 rw [← he, List.set_getElem_self]
theorem lastAt_cons {f : List Ent → List Ent} {k : Nat} {l : List Ent} {x : Ent} (h : l.getLast? = some x) : lastAt f (k + 1) l = l.set (l.length - 1) ⟨x.f0, x.f1, x.f2, x.f3, lastAt f k x.f4⟩ := by
 rw [set_last (getLast_at h).2, lastAt, h]
theorem set_getLast {l : List Ent} (h : 0 < l.length) (z : Ent) : (l.set (l.length - 1) z).getLast? = some z := by
 rw [set_last h, List.getLast?_append]; rfl
/-- The kid so many levels down. -/
def spineK : Nat → List Ent → Option Ent
 | 0, l => l.getLast?
 | k + 1, l => match l.getLast? with
  | none => none
  | some x => spineK k x.f4
/-- A node on the way: its cells, what lies below it, and what becomes of the tree when its kids are turned. -/
theorem spine_put {W : World} {base : Nat} : ∀ (k : Nat) {ok : Nat → Prop} {v : Value} {l : List Ent} {ps : List Addr}, Own W base ok v l → SpP W v l ps → k < ps.length → (∀ j, ok j → j < W.heap.size) →
  ∃ (g m : Nat) (x : Ent) (A : Option Addr) (c : Nat) (fk : Nat → Prop), ps[k]? = some ⟨g, m * 5 + 1, none⟩ ∧ spineK k l = some x ∧ W.cell? ⟨g, m * 5 + 1, none⟩ = some (.int .i64 x.f1) ∧ W.cell? ⟨g, m * 5 + 2, none⟩ = some (.bool x.f2) ∧ W.cell? ⟨g, m * 5 + 3, none⟩ = some (.string x.f3) ∧ W.cell? ⟨g, m * 5 + 4, none⟩ = some (.slice A x.f4.length c) ∧
   (∃ cur, W.heap[g]? = some (.cells cur eE (0, 0)) ∧ m * 5 + 4 < cur.size) ∧ ok g ∧ ¬ fk g ∧ Own W base fk (.slice A x.f4.length c) x.f4 ∧ (∀ j, fk j → ok j) ∧ SpP W (.slice A x.f4.length c) x.f4 (ps.drop (k + 1)) ∧
   ∀ (W2 : World) (v1 : Value) (l1 : List Ent) (ps1 : List Addr), Upd fk W W2 → Own W2 base (fun j => fk j ∨ W.heap.size ≤ j) v1 l1 → SpP (W2.setCell ⟨g, m * 5 + 4, none⟩ v1) v1 l1 ps1 →
    Own (W2.setCell ⟨g, m * 5 + 4, none⟩ v1) base (fun j => ok j ∨ W.heap.size ≤ j) v (lastAt (fun _ => l1) (k + 1) l) ∧ Upd ok W (W2.setCell ⟨g, m * 5 + 4, none⟩ v1) ∧ SpP (W2.setCell ⟨g, m * 5 + 4, none⟩ v1) v (lastAt (fun _ => l1) (k + 1) l) (ps.take (k + 1) ++ ps1) := by
 intro k
 induction k with
 | zero =>
  intro ok v l ps ho hs hk hlt
  cases hs with
  | nil => exact absurd hk (by simp)
  | @cons g c l x0 u0 ps' hl hu h =>
   obtain ⟨hx, hpos⟩ := getLast_at hl
   obtain ⟨ts, hts, hP⟩ := ho.parts
   have htl : ts.length = l.length := by rw [hts, List.length_map]
   obtain ⟨td, htd, hxt⟩ : ∃ td, ts[l.length - 1]? = some td ∧ td.x = x0 := by
    have h1 : (ts.map (·.x))[l.length - 1]? = some x0 := by rw [← hts]; exact hx
    rw [List.getElem?_map] at h1
    exact Option.map_eq_some_iff.1 h1
   obtain ⟨g', A6, c6, cur, hA, hu6, hl6, hg, hgok, hcur⟩ := hP.at_ htd
   injection hA with hA
   injection hA with hA _ _
   subst hA
   have htm := List.mem_of_getElem? htd
   obtain ⟨e0, e1, e2, e3, e4⟩ := cells_of hg hcur
   have hue : u0 = .slice A6 x0.f4.length c6 := by rw [hxt] at e4; rw [hu] at e4; exact Option.some.inj e4
   rw [hxt] at e1 e2 e3 e4 hu6
   have hsub := hP.sub td htm
   rw [hu6, hxt] at hsub
   have hgn : ¬ td.f g := fun hf => (hP.inn td htm g hf).2 rfl
   have hsz : (l.length - 1) * 5 + 4 < cur.size := by
    have := hcur 4 (by omega)
    exact (Array.getElem?_eq_some_iff.1 this).1
   refine ⟨g, l.length - 1, x0, A6, c6, td.f, rfl, hl, e1, e2, e3, e4, ⟨cur, hg, hsz⟩, hgok.1, hgn, hsub, fun j hj => (hP.inn td htm j hj).1.1, by rw [← hue]; exact h, fun W2 v1 l1 ps1 hU hO1 hS1 => ?_⟩
   obtain ⟨W3, hW3⟩ : ∃ W3, W3 = W2.setCell ⟨g, (l.length - 1) * 5 + 4, none⟩ v1 := ⟨_, rfl⟩
   rw [← hW3] at hS1 ⊢
   have hU23 : Upd (fun q => q = g) W2 W3 := by rw [hW3]; exact Upd.setCell (S := fun q => q = g) (p := ⟨g, (l.length - 1) * 5 + 4, none⟩) (.inl rfl) _
   have hrow2 : W2.ownsRow base eE 5 (.slice (some ⟨g, 0, none⟩) l.length c) ts.length (fl ts) := own_move hP.row (fun q hq => by
    have : g = q := by simpa [Value.ownBlock] using hq
    rw [← this]
    exact hU.block g (Array.getElem?_eq_some_iff.1 hg).1 hgn)
   have hrow3 : W3.ownsRow base eE 5 (.slice (some ⟨g, 0, none⟩) l.length c) ts.length (fl (ts.set (l.length - 1) ⟨⟨td.x.f0, td.x.f1, td.x.f2, td.x.f3, l1⟩, v1, fun j => td.f j ∨ W.heap.size ≤ j⟩)) := by
    rw [← fl_kids ts _ td htd, hW3, htl]
    rw [htl] at hrow2
    exact own_setAt hrow2 _ (by omega) _
   have h1 := hP.put (w2 := W2) (w3 := W3) (okn := fun j => ok j ∨ W.heap.size ≤ j) (fun q hq => hq.2.2.1) (l.length - 1) td ⟨⟨td.x.f0, td.x.f1, td.x.f2, td.x.f3, l1⟩, v1, fun j => td.f j ∨ W.heap.size ≤ j⟩ htd hU hO1 (fun q hq => hq) hrow3
    ⟨hU23.os, hU23.tape, hU23.output, hU23.size, fun q hq hn => hU23.block q hq (fun e => hn (by rw [e]; rfl))⟩ (fun q hq => .inl hq.1) (fun q hq => .inr hq)
   rw [List.map_set, ← hts, hxt] at h1
   have hll : lastAt (fun _ => l1) (0 + 1) l = l.set (l.length - 1) ⟨x0.f0, x0.f1, x0.f2, x0.f3, l1⟩ := lastAt_cons hl
   rw [hll]
   refine ⟨h1, (hU.mono (fun j hj => (hP.inn td htm j hj).1.1)).trans hU23 (fun q hq => .inl (by rw [hq]; exact hgok.1)), ?_⟩
   have hcell : W3.cell? ⟨g, (l.length - 1) * 5 + 4, none⟩ = some v1 := by
    have h2 := fl_at (ts.set (l.length - 1) ⟨⟨td.x.f0, td.x.f1, td.x.f2, td.x.f3, l1⟩, v1, fun j => td.f j ∨ W.heap.size ≤ j⟩) (l.length - 1) _ (by rw [List.getElem?_set_self (by omega)]) 4 (by omega)
    have h3 := hrow3.cells (g := g) rfl ((l.length - 1) * 5 + 4) v1 (by rw [h2]; rfl)
    rw [add_plain] at h3
    exact h3
   have := SpP.cons (W := W3) (g := g) (c := c) (l := l.set (l.length - 1) ⟨x0.f0, x0.f1, x0.f2, x0.f3, l1⟩) (x := ⟨x0.f0, x0.f1, x0.f2, x0.f3, l1⟩) (u := v1) (ps := ps1) (set_getLast hpos _) (by rw [List.length_set]; exact hcell) hS1
   rw [List.length_set] at this
   simpa using this
 | succ k ih =>
  intro ok v l ps ho hs hk hlt
  cases hs with
  | nil => exact absurd hk (by simp)
  | @cons g c l x0 u0 ps' hl hu h =>
   obtain ⟨hx, hpos⟩ := getLast_at hl
   obtain ⟨ts, hts, hP⟩ := ho.parts
   have htl : ts.length = l.length := by rw [hts, List.length_map]
   obtain ⟨td, htd, hxt⟩ : ∃ td, ts[l.length - 1]? = some td ∧ td.x = x0 := by
    have h1 : (ts.map (·.x))[l.length - 1]? = some x0 := by rw [← hts]; exact hx
    rw [List.getElem?_map] at h1
    exact Option.map_eq_some_iff.1 h1
   obtain ⟨g', A6, c6, cur, hA, hu6, hl6, hg, hgok, hcur⟩ := hP.at_ htd
   injection hA with hA
   injection hA with hA _ _
   subst hA
   have htm := List.mem_of_getElem? htd
   obtain ⟨e0, e1, e2, e3, e4⟩ := cells_of hg hcur
   have hue : u0 = td.u := by rw [← hu6] at e4; rw [hu] at e4; exact Option.some.inj e4
   have hsub := hP.sub td htm
   have hgn : ¬ td.f g := fun hf => (hP.inn td htm g hf).2 rfl
   have hS' : SpP W td.u td.x.f4 ps' := by rw [← hue, hxt]; exact h
   obtain ⟨g1, m1, x1, A1, c1, fk, i1, i2, i3, i4, i5, i6, i7, i8, i9, i10, i11, i12, i13⟩ := ih hsub hS' (by simpa using hk) (fun j hj => hlt j ((hP.inn td htm j hj).1.1))
   refine ⟨g1, m1, x1, A1, c1, fk, by simpa using i1, by rw [spineK, hl]; rw [hxt] at i2; exact i2, i3, i4, i5, i6, i7, (hP.inn td htm g1 i8).1.1, i9, i10, fun j hj => (hP.inn td htm j (i11 j hj)).1.1, by simpa using i12, fun W2 v1 l1 ps1 hU hO1 hS1 => ?_⟩
   obtain ⟨k1, k2, k3⟩ := i13 W2 v1 l1 ps1 hU hO1 hS1
   generalize W2.setCell ⟨g1, m1 * 5 + 4, none⟩ v1 = W3 at *
   have hrow3 : W3.ownsRow base eE 5 (.slice (some ⟨g, 0, none⟩) l.length c) ts.length (fl (ts.set (l.length - 1) ⟨⟨td.x.f0, td.x.f1, td.x.f2, td.x.f3, lastAt (fun _ => l1) (k + 1) td.x.f4⟩, td.u, fun j => td.f j ∨ W.heap.size ≤ j⟩)) := by
    rw [fl_same ts _ td htd]
    exact own_move hP.row (fun q hq => by
     have : g = q := by simpa [Value.ownBlock] using hq
     rw [← this]
     exact k2.block g (Array.getElem?_eq_some_iff.1 hg).1 hgn)
   have h1 := hP.put (w2 := W3) (w3 := W3) (okn := fun j => ok j ∨ W.heap.size ≤ j) (fun q hq => hq.2.2.1) (l.length - 1) td ⟨⟨td.x.f0, td.x.f1, td.x.f2, td.x.f3, lastAt (fun _ => l1) (k + 1) td.x.f4⟩, td.u, fun j => td.f j ∨ W.heap.size ≤ j⟩ htd k2 k1 (fun q hq => hq) hrow3
    ⟨rfl, rfl, rfl, Nat.le_refl _, fun q hq hn => rfl⟩ (fun q hq => .inl hq.1) (fun q hq => .inr hq)
   rw [List.map_set, ← hts, hxt] at h1
   rw [lastAt_cons (k := k + 1) hl]
   refine ⟨h1, k2.mono (fun j hj => (hP.inn td htm j hj).1.1), ?_⟩
   have hcell : W3.cell? ⟨g, (l.length - 1) * 5 + 4, none⟩ = some td.u := by
    rw [cell_of_row W3 g _ cur _ _ ((k2.block g (Array.getElem?_eq_some_iff.1 hg).1 hgn).trans hg)]
    rw [cell_of_row W g _ cur _ _ hg, ← hu6] at e4
    exact e4
   rw [hxt] at k3
   have := SpP.cons (W := W3) (g := g) (c := c) (l := l.set (l.length - 1) ⟨x0.f0, x0.f1, x0.f2, x0.f3, lastAt (fun _ => l1) (k + 1) x0.f4⟩) (x := ⟨x0.f0, x0.f1, x0.f2, x0.f3, lastAt (fun _ => l1) (k + 1) x0.f4⟩) (u := td.u) (ps := ps'.take (k + 1) ++ ps1) (set_getLast hpos _) (by rw [List.length_set]; exact hcell) k3
   rw [List.length_set] at this
   simpa using this
end Go.Proofs.YtnemeeidomceiaaDoor
end
section
namespace Go.Proofs.YtnemeeidomceiaaDoor
open Go.RowKit Go.Proofs.YtnemeeidomceiaaDoorW.PrintWords
set_option linter.unusedVariables false
/-- The tree so far, the names of the last row, the bytes; is there no row yet? -/
structure BSt where
 n : NodeT
 path : List ByteArray
 bytes : Int
 first : Bool
def leafN (r : RowT) : NodeT := (r.2.1, r.2.2.1, r.2.2.2, [])
def leafX (r : RowT) (s : ByteArray) : Ent := ⟨s, r.2.1, r.2.2.1, r.2.2.2, []⟩
def rowS (r : RowT) : Int := ownS r.2.1 r.2.2.1 r.2.2.2
def lastLt (l : List Ent) (s : ByteArray) : Bool := match l.getLast? with
 | none => true
 | some x => decide (cmpB x.f0 s < 0)
/-- Kids more for the node so many levels down. -/
def appAt (k : Nat) (z : List Ent) (n : NodeT) : NodeT := (n.1, n.2.1, n.2.2.1, lastAt (fun l => l ++ z) k n.2.2.2)
def stepB (s : BSt) (r : RowT) : Option BSt :=
 if pathE r.1 ≠ 0 ∨ codeN (leafN r) ≠ 0 then none
 else if s.first = true then (if (splitP r.1).1 ≠ [] ∨ 1048576 < s.bytes + rowS r then none else some ⟨leafN r, [], s.bytes + rowS r, false⟩)
 else match (splitP r.1).1.getLast? with
  | none => none
  | some z =>
   if (splitP r.1).1.dropLast ≠ s.path.take ((splitP r.1).1.length - 1) then none
   else match spineN ((splitP r.1).1.length - 1) s.n with
    | none => none
    | some d => if d.1 ≠ 3 ∨ lastLt d.2.2.2 z = false ∨ 1048576 < s.bytes + rowS r + entS z then none
     else some ⟨appAt ((splitP r.1).1.length - 1) [leafX r z] s.n, (splitP r.1).1, s.bytes + rowS r + entS z, false⟩
def stB : List RowT → BSt → Option BSt
 | [], s => some s
 | r :: rs, s => (stepB s r).bind (stB rs)
def goB : List RowT → BSt → Int → NodeT × Int × Int
 | [], s, _ => (s.n, 0, 0)
 | r :: rs, s, i => match stepB s r with
  | none => (zeroT, 64, i)
  | some s2 => goB rs s2 (i + 1)
def initB : BSt := ⟨zeroT, [], 24, true⟩
def buildP (rows : List RowT) : NodeT × Int × Int := if rows = [] then (zeroT, 50, 0) else goB rows initB 0
theorem goB_some : ∀ (rs : List RowT) (s s2 : BSt) (i : Int), stB rs s = some s2 → goB rs s i = (s2.n, 0, 0)
 | [], s, s2, i, h => by injection h with h; subst h; rfl
 | r :: rs, s, s2, i, h => by
  unfold stB at h
  unfold goB
  cases hs : stepB s r with
  | none => rw [hs] at h; cases h
  | some s3 => rw [hs] at h; exact goB_some rs s3 s2 (i + 1) h
/-- The place of the fault is the first. -/
theorem goB_first : ∀ (rs : List RowT) (s : BSt) (i : Int), ((goB rs s i).2.1 = 0 ∧ ∃ s2, stB rs s = some s2) ∨
  ∃ j : Nat, j < rs.length ∧ goB rs s i = (zeroT, 64, i + j) ∧ goB (rs.take (j + 1)) s i = (zeroT, 64, i + j) ∧ (goB (rs.take j) s i).2.1 = 0
 | [], s, i => .inl ⟨rfl, s, rfl⟩
 | r :: rs, s, i => by
  cases hs : stepB s r with
  | none => exact .inr ⟨0, by simp, by simp [goB, hs], by simp [goB, hs], by simp [goB]⟩
  | some s2 =>
   rcases goB_first rs s2 (i + 1) with h | ⟨j, h1, h2, h3, h4⟩
   ·refine .inl ⟨by simp only [goB, hs]; exact h.1, ?_⟩
    obtain ⟨s3, h3⟩ := h.2
    exact ⟨s3, by simp only [stB, hs]; exact h3⟩
   ·refine .inr ⟨j + 1, by simp; omega, ?_, ?_, ?_⟩
    ·simp only [goB, hs, h2]; congr 2; omega
    ·rw [List.take_succ_cons]; simp only [goB, hs, h3]; congr 2; omega
    ·rw [List.take_succ_cons]; simp only [goB, hs]; exact h4
theorem spineN_K : ∀ (k : Nat) (n : NodeT), spineN (k + 1) n = (spineK k n.2.2.2).map nodeOf
 | 0, n => by
  show (match n.2.2.2.getLast? with | none => none | some x => spineN 0 (nodeOf x)) = (n.2.2.2.getLast?).map nodeOf
  cases n.2.2.2.getLast? <;> rfl
 | k + 1, n => by
  show (match n.2.2.2.getLast? with | none => none | some x => spineN (k + 1) (nodeOf x)) = (match n.2.2.2.getLast? with | none => none | some x => spineK k x.f4).map nodeOf
  cases n.2.2.2.getLast? with
  | none => rfl
  | some x => exact spineN_K k (nodeOf x)
theorem dropLast_snoc {l : List Ent} {x : Ent} (h : l.getLast? = some x) : l = l.dropLast ++ [x] := by
 obtain ⟨ys, rfl⟩ := List.getLast?_eq_some_iff.1 h
 simp
theorem last_snoc (l : List Ent) (z : Ent) : (l ++ [z]).getLast? = some z := by simp
theorem spine_step {k : Nat} {n d : NodeT} (h : spineN (k + 1) n = some d) : ∃ x, n.2.2.2.getLast? = some x ∧ spineN k (nodeOf x) = some d := by
 unfold spineN at h
 cases hx : n.2.2.2.getLast? with
 | none => rw [hx] at h; cases h
 | some x => rw [hx] at h; exact ⟨x, rfl, h⟩
theorem lastAt_succ {f : List Ent → List Ent} {k : Nat} {l : List Ent} {x : Ent} (h : l.getLast? = some x) : lastAt f (k + 1) l = l.dropLast ++ [⟨x.f0, x.f1, x.f2, x.f3, lastAt f k x.f4⟩] := by rw [lastAt, h]
/-- Kids more, seen from above. -/
theorem app_spine : ∀ (k : Nat) (n d : NodeT) (z : List Ent), spineN k n = some d → spineN k (appAt k z n) = some (d.1, d.2.1, d.2.2.1, d.2.2.2 ++ z)
 | 0, n, d, z, h => by injection h with h; subst h; rfl
 | k + 1, n, d, z, h => by
  obtain ⟨x, hx, h⟩ := spine_step h
  have ih := app_spine k (nodeOf x) d z h
  unfold appAt spineN
  simp only
  rw [lastAt_succ hx, last_snoc]
  exact ih
theorem app_app : ∀ (k : Nat) (n d : NodeT) (z y : List Ent), spineN k n = some d → appAt k y (appAt k z n) = appAt k (z ++ y) n := by
 have key : ∀ (k : Nat) (n d : NodeT) (z y : List Ent), spineN k n = some d → lastAt (fun l => l ++ y) k (lastAt (fun l => l ++ z) k n.2.2.2) = lastAt (fun l => l ++ (z ++ y)) k n.2.2.2 := by
  intro k
  induction k with
  | zero => intro n d z y h; simp [lastAt]
  | succ k ih =>
   intro n d z y h
   obtain ⟨x, hx, h⟩ := spine_step h
   have h1 := ih (nodeOf x) d z y h
   rw [lastAt_succ hx, lastAt_succ (last_snoc _ _), lastAt_succ hx]
   simp only [List.dropLast_concat]
   have h2 : (nodeOf x).2.2.2 = x.f4 := rfl
   rw [h2] at h1
   rw [h1]
 intro k n d z y h
 unfold appAt
 rw [key k n d z y h]
theorem app_down : ∀ (k : Nat) (n d : NodeT) (z : Ent) (y : List Ent), spineN k n = some d → appAt (k + 1) y (appAt k [z] n) = appAt k [{ z with f4 := z.f4 ++ y }] n := by
 have key : ∀ (k : Nat) (n d : NodeT) (z : Ent) (y : List Ent), spineN k n = some d → lastAt (fun l => l ++ y) (k + 1) (lastAt (fun l => l ++ [z]) k n.2.2.2) = lastAt (fun l => l ++ [{ z with f4 := z.f4 ++ y }]) k n.2.2.2 := by
  intro k
  induction k with
  | zero =>
   intro n d z y h
   show lastAt (fun l => l ++ y) 1 (n.2.2.2 ++ [z]) = n.2.2.2 ++ [_]
   rw [lastAt_succ (last_snoc _ _)]
   simp [lastAt]
  | succ k ih =>
   intro n d z y h
   obtain ⟨x, hx, h⟩ := spine_step h
   have h1 := ih (nodeOf x) d z y h
   have h2 : (nodeOf x).2.2.2 = x.f4 := rfl
   rw [h2] at h1
   rw [lastAt_succ hx, lastAt_succ (last_snoc _ _), lastAt_succ hx]
   simp only [List.dropLast_concat]
   rw [h1]
 intro k n d z y h
 unfold appAt
 rw [key k n d z y h]
theorem app_spine_down : ∀ (k : Nat) (n d : NodeT) (z : Ent), spineN k n = some d → spineN (k + 1) (appAt k [z] n) = some (nodeOf z)
 | 0, n, d, z, h => by
  show (match (n.2.2.2 ++ [z]).getLast? with | none => none | some x => spineN 0 (nodeOf x)) = _
  rw [last_snoc]; rfl
 | k + 1, n, d, z, h => by
  obtain ⟨x, hx, h⟩ := spine_step h
  have ih := app_spine_down k (nodeOf x) d z h
  show (match (lastAt (fun l => l ++ [z]) (k + 1) n.2.2.2).getLast? with | none => none | some x => spineN (k + 1) (nodeOf x)) = _
  rw [lastAt_succ hx, last_snoc]
  exact ih
/-- The names on the way to the node so many levels down. -/
def chainN : Nat → List Ent → List ByteArray
 | 0, _ => []
 | k + 1, l => match l.getLast? with
  | none => []
  | some x => x.f0 :: chainN k x.f4
theorem chain_succ {k : Nat} {l : List Ent} {x : Ent} (h : l.getLast? = some x) : chainN (k + 1) l = x.f0 :: chainN k x.f4 := by rw [chainN, h]
theorem chain_take : ∀ (k m : Nat) (l : List Ent), k ≤ m → chainN k l = (chainN m l).take k
 | 0, m, l, _ => by simp [chainN]
 | k + 1, 0, l, h => by omega
 | k + 1, m + 1, l, h => by
  unfold chainN
  cases l.getLast? with
  | none => simp
  | some x => simp only [List.take_succ_cons]; rw [chain_take k m x.f4 (by omega)]
theorem chain_app : ∀ (k : Nat) (n d : NodeT) (z : Ent), spineN k n = some d → chainN (k + 1) (lastAt (fun l => l ++ [z]) k n.2.2.2) = chainN k n.2.2.2 ++ [z.f0]
 | 0, n, d, z, h => by
  show (match (n.2.2.2 ++ [z]).getLast? with | none => [] | some x => x.f0 :: chainN 0 x.f4) = _
  rw [last_snoc]; rfl
 | k + 1, n, d, z, h => by
  obtain ⟨x, hx, h⟩ := spine_step h
  have ih := chain_app k (nodeOf x) d z h
  rw [lastAt_succ hx]
  rw [chain_succ hx, chain_succ (last_snoc _ _)]
  show x.f0 :: chainN (k + 1) (lastAt (fun l => l ++ [z]) k x.f4) = x.f0 :: (chainN k x.f4 ++ [z.f0])
  exact congrArg (x.f0 :: ·) ih
/-- The path of names. -/
def joinP : Nat → ByteArray → List ByteArray → ByteArray
 | 0, p, _ => p
 | _ + 1, p, [] => p
 | f + 1, p, s :: ns => joinP f (belowP p s (32 - (f : Int))) ns
theorem joinP_nil (f : Nat) (p : ByteArray) : joinP f p [] = p := by cases f <;> rfl
def slash1 (s : ByteArray) : List UInt8 := 47 :: s.data.toList
theorem joinP_data : ∀ (f : Nat) (p : ByteArray) (ns : List ByteArray), f ≤ 31 → ns.length ≤ f → (joinP f p ns).data.toList = p.data.toList ++ ns.flatMap slash1
 | 0, p, ns, _, h => by
  have : ns = [] := List.length_eq_zero_iff.1 (by omega)
  subst this
  simp [joinP]
 | f + 1, p, [], _, _ => by simp [joinP]
 | f + 1, p, s :: ns, h1, h2 => by
  show (joinP f (belowP p s (32 - (f : Int))) ns).data.toList = _
  rw [joinP_data f _ ns (by omega) (by simpa using h2)]
  unfold belowP
  rw [if_neg (by omega)]
  simp [slash1, ByteArray.data_append]
theorem slash_flip : ∀ (s : ByteArray) (ns : List ByteArray), s.data.toList ++ ns.flatMap slash1 ++ [47] = (s :: ns).flatMap slashed
 | s, [] => by simp [slashed]
 | s, q :: ns => by
  have := slash_flip q ns
  rw [List.flatMap_cons (x := s), ← this]
  simp [slashed, slash1]
theorem ba_ext {a b : ByteArray} (h : a.data.toList = b.data.toList) : a = b := by
 cases a; cases b
 simp only [ByteArray.mk.injEq]
 exact Array.toList_inj.1 h
theorem joinP_flat {s : ByteArray} {ns : List ByteArray} (h : ns.length ≤ 30) : (joinP 32 ⟨#[]⟩ (s :: ns)).data.toList ++ [47] = (s :: ns).flatMap slashed := by
 have e : joinP 32 ⟨#[]⟩ (s :: ns) = joinP 31 s ns := by
  show joinP 31 (belowP _ s (32 - ((31 : Nat) : Int))) ns = _
  unfold belowP
  rw [if_pos (by decide)]
 rw [e, joinP_data 31 s ns (by omega) (by omega), slash_flip]
/-- The names of a path, joined. -/
theorem split_joined {p : ByteArray} (h : pathE p = 0) : joinP 32 ⟨#[]⟩ (splitP p).1 = p := by
 by_cases hne : p.toList = []
 ·rw [split_nil hne]
  show (⟨#[]⟩ : ByteArray) = p
  have h2 : p.data.toList = [] := by rw [← Lib.toList_data]; exact hne
  exact ba_ext h2.symm
 ·obtain ⟨h1, h2⟩ := split_join hne h
  have hl := (split_names p).2
  cases hs : (splitP p).1 with
  | nil => exact absurd hs h1
  | cons s ns =>
   rw [hs] at h2 hl
   have h3 := joinP_flat (s := s) (ns := ns) (by simpa using hl)
   rw [h2] at h3
   exact ba_ext (List.append_cancel_right h3)
end Go.Proofs.YtnemeeidomceiaaDoor
end
section
namespace Go.Proofs.YtnemeeidomceiaaDoor
open Go.RowKit Go.Proofs.YtnemeeidomceiaaDoorW.PrintWords
set_option linter.unusedVariables false
def entN (n : NodeT) : Ent := ⟨⟨#[]⟩, n.1, n.2.1, n.2.2.1, n.2.2.2⟩
theorem rising_map (l : List Ent) : Rising l ↔ (l.map (·.f0)).Pairwise (fun a b => cmpB a b < 0) := by unfold Rising; rw [List.pairwise_map]
theorem rising_snoc {l : List Ent} {z : Ent} (h : Rising l) (hz : lastLt l z.f0 = true) : Rising (l ++ [z]) := by
 refine List.pairwise_append.2 ⟨h, List.pairwise_singleton _ _, fun a ha b hb => ?_⟩
 rw [List.mem_singleton] at hb
 subst hb
 unfold lastLt at hz
 cases hx : l.getLast? with
 | none => rw [List.getLast?_eq_none_iff] at hx; rw [hx] at ha; cases ha
 | some x =>
  rw [hx] at hz
  have hlt : cmpB x.f0 b.f0 < 0 := of_decide_eq_true hz
  have hl := dropLast_snoc hx
  rw [hl] at ha h
  rcases List.mem_append.1 ha with ha | ha
  ·exact cmpB_trans ((List.pairwise_append.1 h).2.2 a ha x (List.mem_singleton.2 rfl)) hlt
  ·rw [List.mem_singleton] at ha; rw [ha]; exact hlt
theorem ksz_append (f : Nat) : ∀ (l m : List Ent), ksz f (l ++ m) = ksz f l + ksz f m
 | [], m => by simp [ksz]
 | x :: l, m => by rw [List.cons_append, ksz_cons, ksz_cons, ksz_append f l m]; omega
theorem ksz_one (f : Nat) (z : Ent) : ksz f [z] = entS z.f0 + tsz f z := by rw [ksz_cons]; simp [ksz]
theorem fields_dir {e : Bool} {t : ByteArray} {l m : List Ent} (h : fieldsE 3 e t l = 0) : fieldsE 3 e t m = 0 := by
 unfold fieldsE at h ⊢
 rw [if_neg (by decide), if_neg (by decide), if_pos rfl] at h ⊢
 exact h
/-- A kid more. -/
theorem snoc_all : ∀ (k g : Nat) (x : Ent) (d : NodeT) (z : Ent) (p : ByteArray), wf (k + g + 1) x → spineN k (nodeOf x) = some d → d.1 = 3 → lastLt d.2.2.2 z.f0 = true → nameE z.f0 = 0 → wf g z →
  wf (k + g + 1) { x with f4 := lastAt (fun l => l ++ [z]) k x.f4 } ∧ tsz (k + g + 1) { x with f4 := lastAt (fun l => l ++ [z]) k x.f4 } = tsz (k + g + 1) x + entS z.f0 + tsz g z ∧
  trows (k + g + 1) p { x with f4 := lastAt (fun l => l ++ [z]) k x.f4 } = trows (k + g + 1) p x ++ trows g (joinP (k + g + 1) p (chainN k x.f4 ++ [z.f0])) z
 | 0, g, x, d, z, p, hw, hs, hd, hl, hn, hz => by
  injection hs with hs
  subst hs
  rw [Nat.zero_add] at *
  obtain ⟨w1, w2, w3, w4⟩ := hw
  have hk3 : x.f1 = 3 := hd
  refine ⟨⟨?_, fun y hy => ?_, rising_snoc w3 hl, fun y hy => ?_⟩, ?_, ?_⟩
  ·show fieldsE x.f1 x.f2 x.f3 _ = 0
   rw [hk3] at w1 ⊢
   exact fields_dir w1
  ·rcases List.mem_append.1 hy with hy | hy
   ·exact w2 y hy
   ·rw [List.mem_singleton] at hy; rw [hy]; exact hn
  ·rcases List.mem_append.1 hy with hy | hy
   ·exact w4 y hy
   ·rw [List.mem_singleton] at hy; rw [hy]; exact hz
  ·show ownS x.f1 x.f2 x.f3 + ksz g (x.f4 ++ [z]) = ownS x.f1 x.f2 x.f3 + ksz g x.f4 + _ + _
   rw [ksz_append, ksz_one]; omega
  ·show _ :: (x.f4 ++ [z]).flatMap _ = (_ :: x.f4.flatMap _) ++ trows g (joinP g (belowP p z.f0 (32 - (g : Int))) []) z
   rw [joinP_nil, List.flatMap_append, List.flatMap_cons, List.flatMap_nil, List.append_nil]
   rfl
 | k + 1, g, x, d, z, p, hw, hs, hd, hl, hn, hz => by
  obtain ⟨y, hy, hs⟩ := spine_step hs
  have hy' : x.f4.getLast? = some y := hy
  rw [show k + 1 + g + 1 = (k + g + 1) + 1 from by omega] at *
  obtain ⟨w1, w2, w3, w4⟩ := hw
  have hym : y ∈ x.f4 := List.mem_of_getLast? hy'
  have hdl := dropLast_snoc hy'
  obtain ⟨i1, i2, i3⟩ := snoc_all k g y d z (belowP p y.f0 (32 - ((k + g + 1 : Nat) : Int))) (w4 y hym) hs hd hl hn hz
  rw [lastAt_succ hy']
  have hmem : ∀ u, u ∈ x.f4.dropLast → u ∈ x.f4 := fun u hu => List.dropLast_subset _ hu
  obtain ⟨y2, hy2⟩ : ∃ y2, y2 = ({ y with f4 := lastAt (fun l => l ++ [z]) k y.f4 } : Ent) := ⟨_, rfl⟩
  have hyn : y2.f0 = y.f0 := by rw [hy2]
  rw [← hy2] at i1 i2 i3
  have e2 : (⟨y.f0, y.f1, y.f2, y.f3, lastAt (fun l => l ++ [z]) k y.f4⟩ : Ent) = y2 := hy2.symm
  rw [e2]
  clear hy2 e2
  have hk3 : x.f1 = 3 := by
   refine Decidable.of_not_not (fun h3 => ?_)
   rw [fields_kids w1 h3] at hym
   cases hym
  refine ⟨⟨?_, fun u hu => ?_, ?_, fun u hu => ?_⟩, ?_, ?_⟩
  ·show fieldsE x.f1 x.f2 x.f3 _ = 0
   rw [hk3] at w1 ⊢
   exact fields_dir w1
  ·rcases List.mem_append.1 hu with hu | hu
   ·exact w2 u (hmem u hu)
   ·rw [List.mem_singleton] at hu; rw [hu, hyn]; exact w2 y hym
  ·rw [rising_map] at w3 ⊢
   rw [hdl] at w3
   rw [List.map_append, List.map_singleton] at w3 ⊢
   rw [hyn]; exact w3
  ·rcases List.mem_append.1 hu with hu | hu
   ·exact w4 u (hmem u hu)
   ·rw [List.mem_singleton] at hu; rw [hu]; exact i1
  ·show ownS x.f1 x.f2 x.f3 + ksz (k + g + 1) (x.f4.dropLast ++ [y2]) = ownS x.f1 x.f2 x.f3 + ksz (k + g + 1) x.f4 + _ + _
   conv => rhs; rw [hdl]
   rw [ksz_append, ksz_append, ksz_one, ksz_one, i2, hyn]; omega
  ·show _ :: (x.f4.dropLast ++ [y2]).flatMap _ = (_ :: x.f4.flatMap _) ++ _
   rw [chain_succ hy']
   show _ = _ ++ trows g (joinP (k + g + 1) (belowP p y.f0 (32 - ((k + g + 1 : Nat) : Int))) (chainN k y.f4 ++ [z.f0])) z
   conv => rhs; rw [hdl]
   simp only [List.flatMap_append, List.flatMap_cons, List.flatMap_nil, List.append_nil, List.cons_append, List.append_assoc]
   rw [hyn, i3]
/-- What holds of the tree of some rows. -/
structure BInv (rs : List RowT) (s : BSt) : Prop where
 first : s.first = false
 wfs : wf 32 (entN s.n)
 bytes : s.bytes = 24 + tsz 32 (entN s.n)
 room : s.bytes ≤ 1048576
 rows : trows 32 ⟨#[]⟩ (entN s.n) = rs
 path : chainN s.path.length s.n.2.2.2 = s.path
theorem leaf_ok {r : RowT} (h : codeN (leafN r) = 0) : fieldsE r.2.1 r.2.2.1 r.2.2.2 [] = 0 ∧ 24 + rowS r ≤ 1048576 ∧ ∀ (g : Nat) (s p : ByteArray), wf (g + 1) (leafX r s) ∧ tsz (g + 1) (leafX r s) = rowS r ∧ trows (g + 1) p (leafX r s) = [(p, r.2)] := by
 obtain ⟨h1, h2⟩ := (look_zero _ _ _ _).1 h
 have e : tsz 32 (⟨⟨#[]⟩, r.2.1, r.2.2.1, r.2.2.2, []⟩ : Ent) = rowS r := by show ownS _ _ _ + ([] : List Int).sum = _; rw [List.sum_nil, Int.add_zero]; rfl
 refine ⟨h1.1, ?_, fun g s p => ⟨⟨h1.1, (fun y hy => (by cases hy)), List.Pairwise.nil, (fun y hy => (by cases hy))⟩, ?_, rfl⟩⟩
 ·have h3 : 24 + tsz 32 (⟨⟨#[]⟩, r.2.1, r.2.2.1, r.2.2.2, []⟩ : Ent) ≤ 1048576 := h2
  rw [e] at h3; exact h3
 ·show ownS _ _ _ + ([] : List Int).sum = _; rw [List.sum_nil, Int.add_zero]; rfl
theorem first_inv {r : RowT} {s2 : BSt} (h : stepB initB r = some s2) : BInv [r] s2 := by
 unfold stepB at h
 split at h
 ·cases h
 rename_i h1
 rw [if_pos (show initB.first = true from rfl)] at h
 split at h
 ·cases h
 rename_i h2
 injection h with h
 subst h
 simp only [not_or, Decidable.not_not] at h1 h2
 obtain ⟨f1, f2, f3⟩ := leaf_ok h1.2
 obtain ⟨a1, a2, a3⟩ := f3 31 ⟨#[]⟩ ⟨#[]⟩
 have hp : r.1 = ⟨#[]⟩ := by
  rw [← split_joined h1.1, h2.1, joinP_nil]
 refine ⟨rfl, a1, ?_, by have := h2.2; show initB.bytes + rowS r ≤ _; omega, ?_, rfl⟩
 ·show 24 + rowS r = 24 + _
  rw [← a2]; rfl
 ·show trows 32 ⟨#[]⟩ (leafX r ⟨#[]⟩) = _
  rw [a3, ← hp]
theorem step_inv {rs : List RowT} {s s2 : BSt} {r : RowT} (hi : BInv rs s) (h : stepB s r = some s2) : BInv (rs ++ [r]) s2 := by
 unfold stepB at h
 split at h
 ·cases h
 rename_i h1
 rw [if_neg (by rw [hi.first]; decide)] at h
 simp only [not_or, Decidable.not_not] at h1
 obtain ⟨f1, f2, f3⟩ := leaf_ok h1.2
 have hnm := split_names r.1
 have hj := split_joined h1.1
 obtain ⟨ns, hns⟩ : ∃ ns, ns = (splitP r.1).1 := ⟨_, rfl⟩
 rw [← hns] at h hnm hj
 cases hz : ns.getLast? with
 | none => rw [hz] at h; cases h
 | some z =>
  rw [hz] at h
  simp only at h
  split at h
  ·cases h
  rename_i h3
  rw [Decidable.not_not] at h3
  obtain ⟨ys, hys⟩ := List.getLast?_eq_some_iff.1 hz
  have hdl : ns.dropLast = ys := by rw [hys]; simp
  have hlen : ns.length = ys.length + 1 := by rw [hys]; simp
  obtain ⟨k, hk⟩ : ∃ k, k = ns.length - 1 := ⟨_, rfl⟩
  rw [← hk] at h h3
  have hky : ys.length = k := by omega
  rw [hdl] at h3
  cases hd : spineN k s.n with
  | none => rw [hd] at h; cases h
  | some d =>
   rw [hd] at h
   simp only at h
   split at h
   ·cases h
   rename_i h4
   injection h with h
   subst h
   simp only [not_or, Decidable.not_not] at h4
   obtain ⟨c1, c2, c3⟩ := h4
   have hk30 : k ≤ 30 := by have := hnm.2; omega
   obtain ⟨g, hg⟩ : ∃ g, 32 = k + (g + 1) + 1 := ⟨30 - k, by omega⟩
   obtain ⟨a1, a2, a3⟩ := f3 g z (joinP 32 ⟨#[]⟩ ns)
   have hc : chainN k s.n.2.2.2 = ys := by
    have hle : k ≤ s.path.length := by
     have := congrArg List.length h3
     rw [List.length_take, hky] at this
     omega
    rw [chain_take k s.path.length _ hle, hi.path, ← h3]
   have hw := hi.wfs
   rw [hg] at hw
   have hn0 : nameE (leafX r z).f0 = 0 := hnm.1 z (by rw [hys]; simp)
   obtain ⟨b1, b2, b3⟩ := snoc_all k (g + 1) (entN s.n) d (leafX r z) ⟨#[]⟩ hw hd c1 (by cases hlt : lastLt d.2.2.2 z with
    | true => exact hlt
    | false => exact absurd hlt c2) hn0 a1
   rw [← hg] at b1 b2 b3
   refine ⟨rfl, b1, ?_, by show s.bytes + rowS r + entS z ≤ _; omega, ?_, ?_⟩
   ·show s.bytes + rowS r + entS z = 24 + tsz 32 { entN s.n with f4 := lastAt (fun l => l ++ [leafX r z]) k (entN s.n).f4 }
    have := hi.bytes
    rw [b2, a2]
    show _ = 24 + (_ + entS z + _)
    omega
   ·show trows 32 ⟨#[]⟩ { entN s.n with f4 := lastAt (fun l => l ++ [leafX r z]) k (entN s.n).f4 } = _
    rw [b3, hi.rows]
    have e1 : chainN k (entN s.n).f4 ++ [(leafX r z).f0] = ns := by
     show chainN k s.n.2.2.2 ++ [z] = ns
     rw [hc, hys]
    rw [e1, a3, hj]
   ·show chainN ns.length (lastAt (fun l => l ++ [leafX r z]) k s.n.2.2.2) = ns
    rw [hlen, hky, chain_app k s.n d (leafX r z) hd, hc, hys]
    rfl
theorem st_inv : ∀ (rs : List RowT) (qs : List RowT) (s s2 : BSt), BInv qs s → stB rs s = some s2 → BInv (qs ++ rs) s2
 | [], qs, s, s2, hi, h => by injection h with h; subst h; rw [List.append_nil]; exact hi
 | r :: rs, qs, s, s2, hi, h => by
  unfold stB at h
  cases hs : stepB s r with
  | none => rw [hs] at h; cases h
  | some s3 =>
   rw [hs] at h
   have := st_inv rs (qs ++ [r]) s3 s2 (step_inv hi hs) h
   rw [List.append_assoc] at this
   exact this
/-- Rows that build a tree are its rows. -/
theorem built_rows {rows : List RowT} {s : BSt} (h0 : rows ≠ []) (h : stB rows initB = some s) : BInv rows s := by
 cases rows with
 | nil => exact absurd rfl h0
 | cons r rs =>
  unfold stB at h
  cases hs : stepB initB r with
  | none => rw [hs] at h; cases h
  | some s3 => rw [hs] at h; exact st_inv rs [r] s3 s (first_inv hs) h
end Go.Proofs.YtnemeeidomceiaaDoor
end
section
namespace Go.Proofs.YtnemeeidomceiaaDoor
open Go.RowKit Go.Proofs.YtnemeeidomceiaaDoorW.PrintWords Go.Proofs.YtnemeeidomceiaaDoorW.PrintLast Go.Proofs.YtnemeeidomceiaaDoorW.PrintMore
set_option linter.unusedVariables false
set_option linter.unusedSimpArgs false
abbrev nE : Nat := 32
abbrev pE : Nat := 69
abbrev sE : Nat := 9
def opens (first : Bool) (br : Nat) (ps : List Addr) : List Value := if first = true then [] else ((⟨br, 0, none⟩ : Addr) :: ps).map (fun p => Value.pointer (some p))
theorem setCell_comm {w : World} {p q : Addr} (u v : Value) (h : p.block ≠ q.block) : (w.setCell p u).setCell q v = (w.setCell q v).setCell p u := by
 unfold World.setCell
 simp only
 congr 1
 apply Array.ext
 ·simp
 ·intro i h1 h2
  simp only [Array.getElem_modify]
  by_cases e1 : p.block = i
  ·by_cases e2 : q.block = i
   ·exact absurd (e1.trans e2.symm) h
   ·simp [e1, e2]
  ·by_cases e2 : q.block = i
   ·simp [e1, e2]
   ·simp [e1, e2]
theorem put5_comm {w : World} {p : Addr} {g i : Nat} {x : Ent} {u v : Value} (h : p.block ≠ g) : put5 (w.setCell p v) g i x u = (put5 w g i x u).setCell p v := by
 unfold put5
 rw [setCell_comm v (.string x.f0) (q := ⟨g, i * 5, none⟩) h, setCell_comm v _ (q := ⟨g, i * 5 + 1, none⟩) h, setCell_comm v _ (q := ⟨g, i * 5 + 2, none⟩) h, setCell_comm v _ (q := ⟨g, i * 5 + 3, none⟩) h, setCell_comm v _ (q := ⟨g, i * 5 + 4, none⟩) h]
/-- What has turned: rows of kids, and the root. -/
def Turned (X : World) (br j : Nat) : Prop := (∃ cells, X.heap[j]? = some (.cells cells eE (0, 0))) ∨ ∃ cells, X.heap[j]? = some (.cells cells nE (0, 0))
theorem strR_upd {S : Nat → Prop} {w w1 : World} {base : Nat} {v : Value} {rows : List ByteArray} (h : Kd.R Kd.string sE w base (fun _ => True) v rows) (hU : Upd S w w1) (hS : ∀ k, S k → ∃ t cells, w.heap[k]? = some (.cells cells t (0, 0)) ∧ t ≠ sE) : Kd.R Kd.string sE w1 base (fun _ => True) v rows :=
 Kd.R_mono (Kd.R_step (Kd.R_bound h) (fun k hk hlt => hU.block k hlt (fun hs => by
  obtain ⟨t, cells, hc, ht⟩ := hS k hs
  obtain ⟨_, _, _, q, hq, cells2, hc2⟩ := hk
  rw [hc] at hc2
  injection hc2 with hc2
  injection hc2 with _ h2
  rcases List.mem_cons.1 hq with h | h
  ·exact ht (h2.trans h)
  ·rw [show Kd.string.E = [] from rfl] at h; cases h))) (fun _ _ => trivial)
theorem Turned.not {X : World} {br j : Nat} (h : Turned X br j) : ∃ t cells, X.heap[j]? = some (.cells cells t (0, 0)) ∧ t ≠ sE ∧ t ≠ pE ∧ t ≠ 35 := by
 rcases h with ⟨cells, h⟩ | ⟨cells, h⟩
 ·exact ⟨_, cells, h, by decide, by decide, by decide⟩
 ·exact ⟨_, cells, h, by decide, by decide, by decide⟩
structure BMem (w0 X : World) (B br : Nat) (s : BSt) (ov pv v : Value) (ps : List Addr) : Prop where
 low : w0.heap.size ≤ B
 big : B ≤ X.heap.size
 brB : B ≤ br
 root : Blk X br nE [.int .i64 s.n.1, .bool s.n.2.1, .string s.n.2.2.1, v]
 own : Own X B (fun k => B ≤ k) v s.n.2.2.2
 sp : SpP X v s.n.2.2.2 ps
 pl : ps.length = s.path.length
 opn : X.ownsRow B pE 1 ov (opens s.first br ps).length (opens s.first br ps)
 pth : Kd.R Kd.string sE X B (fun _ => True) pv s.path
 below : Below w0.heap.size w0 X
theorem BMem.step {w0 X X1 : World} {B br : Nat} {s : BSt} {ov pv v : Value} {ps : List Addr} (h : BMem w0 X B br s ov pv v ps) (hb : Below X.heap.size X X1) : BMem w0 X1 B br s ov pv v ps :=
 ⟨h.low, Nat.le_trans h.big hb.size, h.brB, h.root.below hb, h.own.newer hb, h.sp.of (fun g c j hc => pw_cell_below hb hc), h.pl, own_move h.opn (fun k hk => hb.block k (own_lt h.opn k hk)), Kd.R_below h.pth hb, below_step h.below hb⟩
theorem lastAt_const {z : Ent} : ∀ (k : Nat) (l : List Ent) (x : Ent), spineK k l = some x → lastAt (fun _ => x.f4 ++ [z]) (k + 1) l = lastAt (fun m => m ++ [z]) (k + 1) l
 | 0, l, x, h => by
  have h' : l.getLast? = some x := h
  rw [lastAt_succ h', lastAt_succ h']
  rfl
 | k + 1, l, x, h => by
  unfold spineK at h
  cases hy : l.getLast? with
  | none => rw [hy] at h; cases h
  | some y =>
   rw [hy] at h
   rw [lastAt_succ hy, lastAt_succ hy, lastAt_const k y.f4 x h]
/-- The node on the way that gets a kid more. -/
theorem BMem.dir {w0 X : World} {B br : Nat} {s : BSt} {ov pv v : Value} {ps : List Addr} (h : BMem w0 X B br s ov pv v ps) (k : Nat) (hk : k ≤ s.path.length) :
  ∃ (g o : Nat) (d : NodeT) (A : Option Addr) (c : Nat) (fk : Nat → Prop) (cur : Array Value) (t : TypeId), (opens false br ps)[k]? = some (.pointer (some ⟨g, o, none⟩)) ∧ spineN k s.n = some d ∧ X.cell? ⟨g, o, none⟩ = some (.int .i64 d.1) ∧ X.cell? ⟨g, o + 3, none⟩ = some (.slice A d.2.2.2.length c) ∧
   B ≤ g ∧ X.heap[g]? = some (.cells cur t (0, 0)) ∧ o + 3 < cur.size ∧ ¬ fk g ∧ Own X B fk (.slice A d.2.2.2.length c) d.2.2.2 ∧ (∀ j, fk j → B ≤ j ∧ j < X.heap.size) ∧
   ∀ (W2 : World) (g1 c1 : Nat) (z : Ent), Upd fk X W2 → Own W2 B (fun j => fk j ∨ X.heap.size ≤ j) (.slice (some ⟨g1, 0, none⟩) (d.2.2.2.length + 1) c1) (d.2.2.2 ++ [z]) →
    ∃ v', Blk (W2.setCell ⟨g, o + 3, none⟩ (.slice (some ⟨g1, 0, none⟩) (d.2.2.2.length + 1) c1)) br nE [.int .i64 s.n.1, .bool s.n.2.1, .string s.n.2.2.1, v'] ∧ Own (W2.setCell ⟨g, o + 3, none⟩ (.slice (some ⟨g1, 0, none⟩) (d.2.2.2.length + 1) c1)) B (fun k => B ≤ k) v' (appAt k [z] s.n).2.2.2 ∧
     SpP (W2.setCell ⟨g, o + 3, none⟩ (.slice (some ⟨g1, 0, none⟩) (d.2.2.2.length + 1) c1)) v' (appAt k [z] s.n).2.2.2 (ps.take k ++ [⟨g1, d.2.2.2.length * 5 + 1, none⟩]) ∧ Upd (fun j => B ≤ j ∧ Turned X br j) X (W2.setCell ⟨g, o + 3, none⟩ (.slice (some ⟨g1, 0, none⟩) (d.2.2.2.length + 1) c1)) := by
 have hspn : ∀ (l : List Ent) (g1 c1 : Nat) (z : Ent) (W2 : World) (f : Nat → Prop) (g q : Nat) (u : Value), Own W2 B f (.slice (some ⟨g1, 0, none⟩) (l.length + 1) c1) (l ++ [z]) → g1 ≠ g → SpP (W2.setCell ⟨g, q, none⟩ u) (.slice (some ⟨g1, 0, none⟩) (l.length + 1) c1) (l ++ [z]) [⟨g1, l.length * 5 + 1, none⟩] := by
  intro l g1 c1 z W2 f g q u hO hne
  obtain ⟨g2, A6, c6, hA, _, _, _, _, _, _, _, _, _, h4⟩ := hO.at_ (i := l.length) (x := z) (by simp)
  injection hA with hA
  injection hA with hA _ _
  subst hA
  have hc : (W2.setCell ⟨g, q, none⟩ u).cell? ⟨g1, l.length * 5 + 4, none⟩ = some (.slice A6 z.f4.length c6) := by
   have e : (W2.setCell ⟨g, q, none⟩ u).heap[g1]? = W2.heap[g1]? := Below.heap_setCell _ _ _ _ hne
   unfold World.cell? at h4 ⊢
   rw [e]; exact h4
  have := SpP.cons (W := W2.setCell ⟨g, q, none⟩ u) (g := g1) (c := c1) (l := l ++ [z]) (x := z) (u := .slice A6 z.f4.length c6) (ps := []) (last_snoc _ _) (by rw [List.length_append, List.length_singleton]; exact hc) (.nil _ _)
  rw [List.length_append, List.length_singleton] at this
  exact this
 cases k with
 | zero =>
  obtain ⟨A, c, hv, _⟩ := h.own.slice
  have hO := h.own.bound
  have hroot := h.root
  subst hv
  have hng : ¬ OwnB X B (fun k => B ≤ k) br := fun hf => by
   obtain ⟨_, _, _, cells, hc⟩ := hf
   unfold Blk at hroot
   rw [hroot] at hc
   injection hc with hc
   injection hc with _ hc
   exact absurd hc (by decide)
  refine ⟨br, 0, s.n, A, c, OwnB X B (fun k => B ≤ k), _, nE, rfl, rfl, hroot.cell 0 _ rfl, hroot.cell 3 _ rfl, h.brB, hroot, by show 3 < 4; omega, hng, hO, fun j hj => ⟨hj.2.1, hj.2.2.1⟩, fun W2 g1 c1 z hU hO1 => ?_⟩
  have hb2 := hroot.upd hU hng
  have hg1 : g1 ≠ br := fun e => by
   have hp := hO1.parts
   obtain ⟨ts, _, hP⟩ := hp
   obtain ⟨cells, hc⟩ := own_typed hP.row g1 rfl
   unfold Blk at hb2
   rw [e, hb2] at hc
   injection hc with hc
   injection hc with _ hc
   exact absurd hc (by decide)
  refine ⟨_, blk_put (cs := #[.int .i64 s.n.1, .bool s.n.2.1, .string s.n.2.2.1, .slice A s.n.2.2.2.length c]) hb2 3 _ rfl, ?_, hspn s.n.2.2.2 g1 c1 z W2 _ br 3 _ hO1 hg1, ?_⟩
  ·exact (hO1.set hb2 (by decide) 3 _).mono (fun j hj => hj.elim (fun h => h.2.1) (fun h2 => Nat.le_trans h.big h2))
  ·exact (hU.mono (S2 := fun j => B ≤ j ∧ Turned X br j) (fun j hj => ⟨hj.2.1, .inl hj.2.2.2⟩)).trans (S2 := fun j => j = br) (Upd.setCell (S := fun j => j = br) (p := ⟨br, 3, none⟩) (.inl rfl) _) (fun j hj => .inl (by rw [hj]; exact ⟨h.brB, .inr ⟨_, hroot⟩⟩))
 | succ k =>
  have hkl : k < ps.length := by rw [h.pl]; omega
  obtain ⟨g, m, x, A, c, fk, i1, i2, i3, i4, i5, i6, ⟨cur, i7, i7'⟩, i8, i9, i10, i11, i12, i13⟩ := spine_put k h.own.bound h.sp hkl (fun j hj => hj.2.2.1)
  refine ⟨g, m * 5 + 1, nodeOf x, A, c, fk, cur, eE, ?_, ?_, i3, i6, i8.2.1, i7, i7', i9, i10, fun j hj => ⟨(i11 j hj).2.1, (i11 j hj).2.2.1⟩, fun W2 g1 c1 z hU hO1 => ?_⟩
  ·show (((⟨br, 0, none⟩ : Addr) :: ps).map (fun p => Value.pointer (some p)))[k + 1]? = _
   rw [List.getElem?_map, List.getElem?_cons_succ, i1]; rfl
  ·rw [spineN_K, i2]; rfl
  have hg1 : g1 ≠ g := fun e => by
   obtain ⟨ts, _, hP⟩ := hO1.parts
   have h1 := (hP.own g1 rfl).1
   rcases h1 with h1 | h1
   ·exact i9 (e ▸ h1)
   ·have := (Array.getElem?_eq_some_iff.1 i7).1
    omega
  have hsn := hspn x.f4 g1 c1 z W2 _ g (m * 5 + 1 + 3) (.slice (some ⟨g1, 0, none⟩) (x.f4.length + 1) c1) hO1 hg1
  obtain ⟨k1, k2, k3⟩ := i13 W2 (.slice (some ⟨g1, 0, none⟩) (x.f4.length + 1) c1) (x.f4 ++ [z]) [⟨g1, x.f4.length * 5 + 1, none⟩] hU hO1 hsn
  have hbr : Blk (W2.setCell ⟨g, m * 5 + 1 + 3, none⟩ (.slice (some ⟨g1, 0, none⟩) (x.f4.length + 1) c1)) br nE [.int .i64 s.n.1, .bool s.n.2.1, .string s.n.2.2.1, v] := h.root.upd k2 (fun hf => by
   obtain ⟨_, _, _, cells, hc⟩ := hf
   have hroot := h.root
   unfold Blk at hroot
   rw [hroot] at hc
   injection hc with hc
   injection hc with _ hc
   exact absurd hc (by decide))
  have hl := lastAt_const (z := z) k s.n.2.2.2 x i2
  refine ⟨v, hbr, ?_, ?_, k2.mono (fun j hj => ⟨hj.2.1, .inl hj.2.2.2⟩)⟩
  ·have h1 := k1.mono (ok' := fun j => B ≤ j) (fun j hj => hj.elim (fun h => h.2.1) (fun h2 => Nat.le_trans h.big h2))
   rw [hl] at h1
   exact h1
  ·rw [hl] at k3
   exact k3
/-- The new kid is stored where the row has grown. -/
theorem grown_kid {X w1 : World} {B g1 c1 : Nat} {fk okn : Nat → Prop} {l : List Ent} {z : Ent} (hO : Own w1 B okn (.slice (some ⟨g1, 0, none⟩) (l.length + 1) c1) (l ++ [⟨⟨#[]⟩, 0, false, ⟨#[]⟩, []⟩])) (hz : z.f4 = []) :
  Own (put5 w1 g1 l.length z (.slice none 0 0)) B okn (.slice (some ⟨g1, 0, none⟩) (l.length + 1) c1) (l ++ [z]) := by
 obtain ⟨ts, hts, hP⟩ := hO.parts
 have hln : ts.length = l.length + 1 := by
  have := congrArg List.length hts
  rw [List.length_map, List.length_append, List.length_singleton] at this
  exact this.symm
 obtain ⟨td, htd⟩ : ∃ td, ts[l.length]? = some td := ⟨_, List.getElem?_eq_getElem (by omega)⟩
 have h0 := hP.over (w2 := w1) (okn := fun k => okn k ∨ w1.heap.size ≤ k) (fun k hk => hk.2.2.1) htd (Upd.refl _ _) z hz hln.symm (fun k hk => .inl hk.1) (fun k hk => .inr hk)
 have hsz : (put5 w1 g1 l.length z (.slice none 0 0)).heap.size = w1.heap.size := by simp [put5, World.setCell]
 have h1 := h0.bound.mono (ok' := okn) (fun k hk => hk.1.elim id (fun h => by have := hk.2.2.1; omega))
 rw [← hts] at h1
 have e : (l ++ [(⟨⟨#[]⟩, 0, false, ⟨#[]⟩, []⟩ : Ent)]).set l.length z = l ++ [z] := by simp [List.set_append]
 rw [e] at h1
 exact h1
theorem ptr_upd {w0 X W : World} {B : Nat} {ov : Value} {n : Nat} {xs : List Value} (ho : X.ownsRow B pE 1 ov n xs) {S : Nat → Prop} (hU : Upd S X W) (hS : ∀ k, S k → ∃ t cells, X.heap[k]? = some (.cells cells t (0, 0)) ∧ t ≠ pE) : W.ownsRow B pE 1 ov n xs :=
 own_move ho (fun k hk => hU.block k (own_lt ho k hk) (fun hs => by
  obtain ⟨t, cells, hc, ht⟩ := hS k hs
  obtain ⟨cells2, hc2⟩ := own_typed ho k hk
  rw [hc] at hc2
  injection hc2 with hc2
  injection hc2 with _ h2
  exact ht h2))
/-- The root is stored. -/
theorem BMem.rooted {w0 X : World} {B br : Nat} {s : BSt} {ov pv v : Value} {ps : List Addr} (h : BMem w0 X B br s ov pv v ps) (hf : s.first = true) (hB : B = w0.heap.size) {nv : Value} (hnr : Kd.R Kd.string sE X B (fun _ => True) nv []) (k : Int) (e : Bool) (t : ByteArray) {W8 : World}
  (hW8 : W8 = (((X.setCell ⟨br, 0, none⟩ (.int .i64 k)).setCell ⟨br, 1, none⟩ (.bool e)).setCell ⟨br, 2, none⟩ (.string t)).setCell ⟨br, 3, none⟩ (.slice none 0 0)) :
  W8.ownsRow B pE 1 ov 0 [] ∧ Below B w0 W8 ∧ B ≤ W8.heap.size ∧ ∀ (wn : World) (v1 : Value) (b : Int), wn.ownsRow B pE 1 v1 (0 + 1) ([] ++ [.pointer (some ⟨br, 0, none⟩)]) → Below B w0 wn → W8.grownBy wn ov.ownBlock → BMem w0 wn B br ⟨(k, e, t, []), [], b, false⟩ v1 nv (.slice none 0 0) [] := by
 have hU : Upd (fun j => j = br) X W8 := by
  rw [hW8]
  exact (((Upd.setCell (S := fun j => j = br) (p := ⟨br, 0, none⟩) (.inl rfl) _).trans (Upd.setCell (S := fun j => j = br) (p := ⟨br, 1, none⟩) (.inl rfl) _) (fun j hj => .inl hj)).trans (Upd.setCell (S := fun j => j = br) (p := ⟨br, 2, none⟩) (.inl rfl) _) (fun j hj => .inl hj)).trans (Upd.setCell (S := fun j => j = br) (p := ⟨br, 3, none⟩) (.inl rfl) _) (fun j hj => .inl hj)
 have hbl : Blk W8 br nE [.int .i64 k, .bool e, .string t, .slice none 0 0] := by rw [hW8]; exact put4_blk h.root
 have hS : ∀ (q : Nat), q ≠ nE → ∀ j, j = br → ∃ t cells, X.heap[j]? = some (.cells cells t (0, 0)) ∧ t ≠ q := fun q hq j hj => by
  subst hj
  exact ⟨_, _, h.root, fun e => hq e.symm⟩
 have hop := h.opn
 rw [hf] at hop
 have ho8 : W8.ownsRow B pE 1 ov 0 [] := ptr_upd (w0 := w0) hop hU (hS pE (by decide))
 have hn8 := strR_upd hnr hU (hS sE (by decide))
 have hb8 : Below B w0 W8 := by
  have h1 := hU.below (B := B) (fun j hj => by rw [hj]; exact h.brB) h.big
  have h2 := h.below
  rw [← hB] at h2
  exact ⟨h1.os.trans h2.os, h1.tape.trans h2.tape, h1.output.trans h2.output, Nat.le_trans h2.size h1.size, fun j hj => (h1.block j hj).trans (h2.block j hj)⟩
 refine ⟨ho8, hb8, Nat.le_trans h.big hU.size, fun wn v1 b hrow hbn hg => ?_⟩
 have hne : ¬ ov.ownBlock = some br := fun e => by
  obtain ⟨cells, hc⟩ := own_typed ho8 br e
  unfold Blk at hbl
  rw [hbl] at hc
  injection hc with hc
  injection hc with _ hc
  exact absurd hc (by decide)
 have hUg : Upd (fun j => ov.ownBlock = some j) W8 wn := Upd.of_grown hg (fun j hj => .inl hj)
 refine ⟨h.low, Nat.le_trans (Nat.le_trans h.big hU.size) hg.size, h.brB, hbl.grown hg hne, Own.nil _ _ _, .nil _ _, rfl, hrow, strR_upd hn8 hUg (fun j hj => ?_), by rw [← hB]; exact hbn⟩
 obtain ⟨cells, hc⟩ := own_typed ho8 j hj
 exact ⟨_, cells, hc, by decide⟩
/-- The directories on the way, cut, and one more. -/
theorem append_ptr {W : World} {g n : Nat} {olds : List Value} (hlo : olds.length = n) (holds : ∀ j u, olds[j]? = some u → W.cell? ⟨g, j, none⟩ = some u) (hg : g < W.heap.size) (p : Addr) (hn : n ≤ 1000000) :
  ∃ v1 wn, (Builtin.append_ #[67, 67] 67 #[.slice (some ⟨g, 0, none⟩) n n, .slice (some ⟨W.heap.size, 0, none⟩) 1 1]).run Tryd.prog (W.alloc (.cells #[.pointer (some p)] pE)) = .ok v1 wn ∧ wn.ownsRow W.heap.size pE 1 v1 (n + 1) (olds ++ [.pointer (some p)]) ∧ Below W.heap.size W wn := by
 obtain ⟨i0, hi, hzz⟩ := Option.map_eq_some_iff.1 (show (Tryd.prog.info? pE).map (fun i => (i.zero, i.size, i.bytes)) = some (some (.pointer none), 1, 8) by kernel_rfl)
 simp only [Prod.mk.injEq] at hzz
 obtain ⟨hz0, hz1, hz2⟩ := hzz
 obtain ⟨v1, wn, hr, hrow, hgr⟩ := run_append_arg_grows (P := Tryd.prog) (W.alloc (.cells #[.pointer (some p)] pE)) 67 67 pE i0 (.pointer none) 1 8 Tryd.underlying67 hi hz0 hz1 hz2 rfl (by decide) ⟨g, 0, none⟩ n n olds (by omega) (fun j u hj => by
  rw [add_plain]
  have := holds j u hj
  exact pw_cell_below (below_alloc (Below.refl _ _) _) this) ⟨W.heap.size, 0, none⟩ 1 1 [.pointer (some p)] rfl (fun j u hj => cell_one_new W (.pointer (some p)) pE j u hj) (by omega) (by unfold maxLen; omega) (by omega)
 refine ⟨v1, wn, hr, own_weaken hrow (by simp), ?_⟩
 have hU := Upd.of_grown (S := fun _ => False) hgr (fun k hk => by cases hk)
 exact below_then (below_alloc (Below.refl _ _) _) (by simp) (hU.below (B := (W.alloc (.cells #[.pointer (some p)] pE)).heap.size) (fun k hk => hk.elim) (Nat.le_refl _))
theorem BMem.snoc {w0 X : World} {B br : Nat} {s : BSt} {ov pv v : Value} {ps : List Addr} (h : BMem w0 X B br s ov pv v ps) (hf : s.first = false) {k : Nat} (hk : k ≤ s.path.length) {W3 : World} {v2 nv : Value} {new : Addr} {z : Ent} {ns : List ByteArray} (hns : ns.length = k + 1)
  (hnr : Kd.R Kd.string sE X B (fun _ => True) nv ns) (c1 : Blk W3 br nE [.int .i64 s.n.1, .bool s.n.2.1, .string s.n.2.2.1, v2]) (c2 : Own W3 B (fun k => B ≤ k) v2 (appAt k [z] s.n).2.2.2) (c3 : SpP W3 v2 (appAt k [z] s.n).2.2.2 (ps.take k ++ [new])) (c4 : Upd (fun j => B ≤ j ∧ Turned X br j) X W3) :
  ∃ (g co : Nat), ov = .slice (some ⟨g, 0, none⟩) (s.path.length + 1) co ∧ k + 1 ≤ co ∧ g < W3.heap.size ∧ ((opens false br ps).take (k + 1)).length = k + 1 ∧ (∀ j u, ((opens false br ps).take (k + 1))[j]? = some u → W3.cell? ⟨g, j, none⟩ = some u) ∧ Below w0.heap.size w0 W3 ∧
   ∀ (wn : World) (v1 : Value) (b : Int), wn.ownsRow W3.heap.size pE 1 v1 (k + 1 + 1) ((opens false br ps).take (k + 1) ++ [.pointer (some new)]) → Below W3.heap.size W3 wn → BMem w0 wn B br ⟨appAt k [z] s.n, ns, b, false⟩ v1 nv v2 (ps.take k ++ [new]) := by
 have hop := h.opn
 rw [hf] at hop
 have hol : (opens false br ps).length = s.path.length + 1 := by
  show (((⟨br, 0, none⟩ : Addr) :: ps).map _).length = _
  rw [List.length_map, List.length_cons, h.pl]
 have ho3 : W3.ownsRow B pE 1 ov (opens false br ps).length (opens false br ps) := ptr_upd (w0 := w0) hop c4 (fun j hj => by
  obtain ⟨t, cells, hc, _, h2, _⟩ := hj.2.not
  exact ⟨t, cells, hc, h2⟩)
 have hn3 := strR_upd hnr c4 (fun j hj => by
  obtain ⟨t, cells, hc, h2, _, _⟩ := hj.2.not
  exact ⟨t, cells, hc, h2⟩)
 obtain ⟨A, co, hov⟩ := own_slice ho3
 subst hov
 obtain ⟨g, rfl⟩ : ∃ g, A = some ⟨g, 0, none⟩ := by
  rcases ho3.2 with ⟨_, h0⟩ | ⟨g, cap, cur, hv, _⟩
  ·omega
  ·injection hv with h1 _ _; exact ⟨g, h1⟩
 have hb3 : Below w0.heap.size w0 W3 := h.below.trans (c4.below (B := w0.heap.size) (fun j hj => Nat.le_trans h.low hj.1) (Nat.le_trans h.low h.big))
 have htl : ((opens false br ps).take (k + 1)).length = k + 1 := by rw [List.length_take, hol]; omega
 rw [hol] at ho3
 refine ⟨g, co, by rw [hol], by have := own_le ho3; omega, own_lt ho3 g rfl, htl, fun j u hj => ?_, hb3, fun wn v1 b hrow hbn => ?_⟩
 ·have hj2 : (opens false br ps)[j]? = some u := by
   rw [List.getElem?_take] at hj
   split at hj
   ·exact hj
   ·cases hj
  have := ho3.cells (g := g) rfl j u hj2
  rw [add_plain] at this
  exact this
 ·have hB3 : B ≤ W3.heap.size := Nat.le_trans h.big c4.size
  refine ⟨h.low, Nat.le_trans hB3 hbn.size, h.brB, c1.below hbn, c2.newer hbn, c3.of (fun g c j hc => pw_cell_below hbn hc), ?_, ?_, Kd.R_below hn3 hbn, below_then hb3 (Nat.le_trans h.low hB3) hbn⟩
  ·rw [List.length_append, List.length_singleton, List.length_take, h.pl, hns]; omega
  ·have e : opens false br (ps.take k ++ [new]) = (opens false br ps).take (k + 1) ++ [.pointer (some new)] := by
    show (((⟨br, 0, none⟩ : Addr) :: (ps.take k ++ [new])).map (fun p => Value.pointer (some p))) = ((((⟨br, 0, none⟩ : Addr) :: ps).map (fun p => Value.pointer (some p))).take (k + 1)) ++ [Value.pointer (some new)]
    simp [List.map_take]
   show wn.ownsRow B pE 1 v1 (opens false br (ps.take k ++ [new])).length (opens false br (ps.take k ++ [new]))
   rw [e, List.length_append, List.length_singleton, htl]
   exact own_weaken hrow hB3
section
variable {P : Program} {ops : Array Oper} {Q : Exit → Act → World → Prop} {md : Region.Mode} {S : World → Prop} {ds : List Nat}
/-- Two operations of ds may come up, in either order. -/
theorem twolast_ {i j : Nat} {Ni Nj : Option Tmp} {oi oj : Oper} {fuel : Nat} {l : Array Bool} {a : Act} {w : World} (li lj : Array Bool) (hi : ops[i]? = some oi) (hj : ops[j]? = some oj) (hNi : oi.dst = Ni) (hNj : oj.dst = Nj)
  (hc : (Region.ready md ops l == [i, j] && l.setIfInBounds i true == li && l.setIfInBounds j true == lj) = true) (hdi : i ∈ ds) (hdj : j ∈ ds)
  (h1 : ∀ K : Act → World → Prop, Shut (∀ a' w', wpAnyLast P md ops Q S ds fuel li a' w' → K a' w') → if Region.wanted oi (yielded ops a.tmps) = true then Oper.wp P oi a w K Q else K (a.put Ni undef) w)
  (h2 : ∀ K : Act → World → Prop, Shut (∀ a' w', wpAnyLast P md ops Q S ds fuel lj a' w' → K a' w') → if Region.wanted oj (yielded ops a.tmps) = true then Oper.wp P oj a w K Q else K (a.put Nj undef) w) :
  wpAnyLast P md ops Q S ds (fuel + 1) l a w := by
 subst hNi
 subst hNj
 simp only [Bool.and_eq_true, beq_iff_eq] at hc
 obtain ⟨⟨h3, h4⟩, h5⟩ := hc
 subst h4
 subst h5
 exact wpAnyLast_ready h3 (by simp) (AllReadyL.cons_last hi hdi (fun K hK => h1 K hK) (AllReadyL.cons_last hj hdj (fun K hK => h2 K hK) AllReadyL.nil))
end
theorem spine_AllR : ∀ (k : Nat) (n d : NodeT), AllR n.2.2.2 → spineN k n = some d → AllR d.2.2.2
 | 0, n, d, h, hs => by injection hs with hs; subst hs; exact h
 | k + 1, n, d, h, hs => by
  obtain ⟨x, hx, hs⟩ := spine_step hs
  refine spine_AllR k (nodeOf x) d ?_ hs
  cases h with
  | mk _ _ hk => exact hk x (List.mem_of_getLast? hx)
theorem spine_len {rs : List RowT} {s : BSt} (h : BInv rs s) {k : Nat} {d : NodeT} (hs : spineN k s.n = some d) : d.2.2.2.length ≤ 1048576 := by
 have ha : AllR (entN s.n).f4 := wf_AllR 32 (entN s.n) h.wfs (by have := h.bytes; have := h.room; omega)
 exact (spine_AllR k s.n d ha hs).rises.2
def zeroE : Ent := ⟨⟨#[]⟩, 0, false, ⟨#[]⟩, []⟩
end Go.Proofs.YtnemeeidomceiaaDoor
end
section
namespace Go.Proofs.YtnemeeidomceiaaDoor
open Go.RowKit Go.Proofs.YtnemeeidomceiaaDoorW.PrintWords Go.Proofs.YtnemeeidomceiaaDoorW.PrintLast Go.Proofs.YtnemeeidomceiaaDoorW.PrintMore
set_option linter.unusedVariables false
set_option linter.unusedSimpArgs false
/-- The program's row as a row. -/
def rowU (r : OwnRw) : RowT := (r.f0, r.f1, r.f2, r.f3)
def RowsOk (rows : List OwnRw) : Prop := ∀ r, r ∈ rows → r.f0.size ≤ 140737488351232 ∧ r.f3.size ≤ 140737488351232
def BuildPost (w : World) (r : NodeT × Int × Int) (o : Ending) (w' : World) : Prop :=
 ∃ v, o = .returned (.tuple #[.agg #[.int .i64 r.1.1, .bool r.1.2.1, .string r.1.2.2.1, v], .agg #[.int .i64 r.2.1, .int .i64 r.2.2]]) ∧ Own w' w.heap.size (fun k => w.heap.size ≤ k) v r.1.2.2.2 ∧ Below w.heap.size w w'
/-- What is said of the rows so far. -/
structure BSaid (us : List RowT) (i : Nat) (s : BSt) : Prop where
 said : buildP us = goB (us.drop i) s (i : Int)
 first : s.first = decide (i = 0)
 zero : i = 0 → s = initB
 inv : 0 < i → BInv (us.take i) s
theorem BSaid.low {us : List RowT} {i : Nat} {s : BSt} (h : BSaid us i s) : 24 ≤ s.bytes ∧ s.bytes ≤ 1048576 := by
 by_cases h0 : i = 0
 ·rw [h.zero h0]; exact ⟨by decide, by decide⟩
 ·have hi := h.inv (by omega)
  have := tsz_nonneg 32 (entN s.n)
  exact ⟨by rw [hi.bytes]; omega, hi.room⟩
theorem BSaid.next {us : List RowT} {i : Nat} {s s2 : BSt} {r : RowT} (h : BSaid us i s) (hr : us[i]? = some r) (hs : stepB s r = some s2) : BSaid us (i + 1) s2 := by
 obtain ⟨hi, hre⟩ := List.getElem?_eq_some_iff.1 hr
 have htk : us.take (i + 1) = us.take i ++ [r] := by rw [List.take_succ_eq_append_getElem hi, hre]
 have hinv : BInv (us.take (i + 1)) s2 := by
  rw [htk]
  by_cases h0 : i = 0
  ·have hz := h.zero h0
   subst h0
   rw [hz] at hs
   exact first_inv hs
  ·exact step_inv (h.inv (by omega)) hs
 refine ⟨?_, by rw [hinv.first]; rfl, fun e => by omega, fun _ => hinv⟩
 rw [h.said, List.drop_eq_getElem_cons hi, hre]
 rw [goB, hs]
 rfl
theorem BSaid.bad {us : List RowT} {i : Nat} {s : BSt} {r : RowT} (h : BSaid us i s) (hr : us[i]? = some r) (hs : stepB s r = none) : buildP us = (zeroT, 64, (i : Int)) := by
 obtain ⟨hi, hre⟩ := List.getElem?_eq_some_iff.1 hr
 rw [h.said, List.drop_eq_getElem_cons hi, hre]
 rw [goB, hs]
theorem fin_all {w wr : World} {b2 b3 B : Nat} {a0 a1 a2 a3 f0 f1 c0 c1 c2 d0 d1 v : Value} {ok : Nat → Prop} {l : List Ent} (hz : w.heap.size = b2 ∧ b3 = b2 + 1 ∧ B = b2 + 2) (hb : Below w.heap.size w wr) (h2 : Blk wr b2 nE [a0, a1, a2, a3]) (h3 : Blk wr b3 35 [f0, f1]) (hO : Own wr B ok v l) {W : World}
  (hW : W = (((((wr.setCell ⟨b2, 0, none⟩ c0).setCell ⟨b2, 1, none⟩ c1).setCell ⟨b2, 2, none⟩ c2).setCell ⟨b2, 3, none⟩ v).setCell ⟨b3, 0, none⟩ d0).setCell ⟨b3, 1, none⟩ d1) :
  Own W w.heap.size (fun k => w.heap.size ≤ k) v l ∧ Below w.heap.size w W ∧ Blk W b2 nE [c0, c1, c2, v] ∧ Blk W b3 35 [d0, d1] := by
 have g2 := put4_blk (c0 := c0) (c1 := c1) (c2 := c2) (c3 := v) h2
 have hne : b3 ≠ b2 := by omega
 have g3 : Blk ((((wr.setCell ⟨b2, 0, none⟩ c0).setCell ⟨b2, 1, none⟩ c1).setCell ⟨b2, 2, none⟩ c2).setCell ⟨b2, 3, none⟩ v) b3 35 [f0, f1] := by
  unfold Blk
  rw [Below.heap_setCell _ _ _ _ (by exact hne), Below.heap_setCell _ _ _ _ (by exact hne), Below.heap_setCell _ _ _ _ (by exact hne), Below.heap_setCell _ _ _ _ (by exact hne)]
  exact h3
 have hO2 := put4_own (c0 := c0) (c1 := c1) (c2 := c2) (c3 := v) hO h2
 have hb4 := below_put4 (c0 := c0) (c1 := c1) (c2 := c2) (c3 := v) hb (show w.heap.size ≤ b2 by omega)
 generalize (((wr.setCell ⟨b2, 0, none⟩ c0).setCell ⟨b2, 1, none⟩ c1).setCell ⟨b2, 2, none⟩ c2).setCell ⟨b2, 3, none⟩ v = W4 at *
 have g4 : Blk (W4.setCell ⟨b3, 0, none⟩ d0) b3 35 [d0, f1] := blk_put (cs := #[f0, f1]) g3 0 _ rfl
 have g5 : Blk ((W4.setCell ⟨b3, 0, none⟩ d0).setCell ⟨b3, 1, none⟩ d1) b3 35 [d0, d1] := blk_put (cs := #[d0, f1]) g4 1 _ rfl
 rw [hW]
 refine ⟨((hO2.set g3 (by decide) 0 d0).set g4 (by decide) 1 d1).above (by omega), (hb4.setCell (by show w.heap.size ≤ b3; omega) _).setCell (by show w.heap.size ≤ b3; omega) _, ?_, g5⟩
 unfold Blk
 rw [Below.heap_setCell _ _ _ _ (by exact fun e => hne e.symm), Below.heap_setCell _ _ _ _ (by exact fun e => hne e.symm)]
 exact g2
theorem names_eq {w : World} {b1 b2 : Nat} {A1 A2 : Option Addr} {d1 d2 : Nat} {ns ms : List ByteArray} (h1 : Kd.R Kd.string sE w b1 (fun _ => True) (.slice A1 ns.length d1) ns) (h2 : Kd.R Kd.string sE w b2 (fun _ => True) (.slice A2 ms.length d2) ms) (k : Nat) (hk1 : k ≤ ns.length) (hk2 : k ≤ ms.length) (hk : k ≤ 31) (c1 c2 : Nat) :
  Calls Tryd.prog 31 #[.slice A1 k c1, .slice A2 k c2] w fun e w' => e = .returned (.bool (decide (ns.take k = ms.take k))) ∧ Below w.heap.size w w' := by
 cases k with
 | zero =>
  refine (Tryd.slices_Equal_string_empty A1 A2 c1 0 c2 w (by omega)).mono fun e w' h => ⟨?_, h.2 ▸ Below.refl _ _⟩
  rw [h.1]; simp
 | succ k =>
  have key : ∀ {b d : Nat} {A : Option Addr} {xs : List ByteArray}, Kd.R Kd.string sE w b (fun _ => True) (.slice A xs.length d) xs → k + 1 ≤ xs.length → ∃ g, A = some ⟨g, 0, none⟩ ∧ ∀ j, j < xs.length → w.cell? ⟨g, 0 + j, none⟩ = some (.string (xs.getD j ByteArray.empty)) := by
   intro b d A xs h hl
   obtain ⟨A0, c0, hv, _, hC⟩ := Kd.R_reads h
   injection hv with hv1 _ _
   subst hv1
   obtain ⟨ad, hA, _⟩ := Kd.at_string hC 0 (Int.le_refl _) (by omega)
   subst hA
   obtain ⟨g, hg⟩ := Kd.R_head h
   subst hg
   refine ⟨g, rfl, fun j hj => ?_⟩
   obtain ⟨ad2, hA2, hc⟩ := Kd.at_string hC (j : Int) (by omega) (by omega)
   injection hA2 with hA2
   subst hA2
   rw [add_plain] at hc
   rw [Nat.zero_add]
   simp only [Int.toNat_natCast] at hc
   rw [hc]
   rfl
  obtain ⟨g1, rfl, e1⟩ := key h1 hk1
  obtain ⟨g2, rfl, e2⟩ := key h2 hk2
  exact (Tryd.slices_Equal_string g1 0 (k + 1) c1 g2 0 (k + 1) c2 ns ms w hk1 hk2 (by omega) (by omega) e1 e2).mono fun e w' h => ⟨h.1, by obtain ⟨q, rfl⟩ := h.2; exact pw_below_drewN (Below.refl _ _) q⟩
end Go.Proofs.YtnemeeidomceiaaDoor
end
section
namespace Go.Proofs.YtnemeeidomceiaaDoor
open Go.RowKit Go.Proofs.YtnemeeidomceiaaDoorW.PrintWords
set_option linter.unusedVariables false
def ownF (r : RowT) : Int := fieldsE r.2.1 r.2.2.1 r.2.2.2 []
/-- A row more, the room left aside. -/
def stepS (s : BSt) (r : RowT) : Option BSt :=
 if pathE r.1 ≠ 0 ∨ ownF r ≠ 0 then none
 else match (splitP r.1).1.getLast? with
  | none => none
  | some z =>
   if (splitP r.1).1.dropLast ≠ s.path.take ((splitP r.1).1.length - 1) then none
   else match spineN ((splitP r.1).1.length - 1) s.n with
    | none => none
    | some d => if d.1 ≠ 3 ∨ lastLt d.2.2.2 z = false then none
     else some ⟨appAt ((splitP r.1).1.length - 1) [leafX r z] s.n, (splitP r.1).1, s.bytes + rowS r + entS z, false⟩
def stS : List RowT → BSt → Option BSt
 | [], s => some s
 | r :: rs, s => (stepS s r).bind (stS rs)
theorem stS_append : ∀ (a b : List RowT) (s : BSt), stS (a ++ b) s = (stS a s).bind (stS b)
 | [], b, s => rfl
 | r :: a, b, s => by
  show (stepS s r).bind (stS (a ++ b)) = ((stepS s r).bind (stS a)).bind (stS b)
  cases stepS s r with
  | none => rfl
  | some s2 => exact stS_append a b s2
theorem rowS_pos (r : RowT) : 0 ≤ rowS r := by have := own_pos r.2.1 r.2.2.1 r.2.2.2; show 0 ≤ ownS _ _ _; omega
theorem code_leaf (r : RowT) : codeN (leafN r) = 0 ↔ ownF r = 0 ∧ 24 + rowS r ≤ 1048576 := by
 refine ⟨fun h => ⟨(leaf_ok h).1, (leaf_ok h).2.1⟩, fun ⟨h1, h2⟩ => (look_zero _ _ _ _).2 ⟨⟨h1, (fun u hu => (by cases hu)), List.Pairwise.nil, (fun u hu => (by cases hu))⟩, ?_⟩⟩
 show 24 + (ownS _ _ _ + ([] : List Int).sum) ≤ _
 rw [List.sum_nil, Int.add_zero]
 exact h2
theorem step_S {s : BSt} {r : RowT} (hf : s.first = false) (hb : 24 ≤ s.bytes) : stepB s r = (stepS s r).bind (fun s2 => if 1048576 < s2.bytes then none else some s2) := by
 have hr := rowS_pos r
 unfold stepB stepS
 by_cases h1 : pathE r.1 ≠ 0 ∨ ownF r ≠ 0
 ·rw [if_pos h1, if_pos (by
   rcases h1 with h | h
   ·exact .inl h
   ·exact .inr (fun e => h ((code_leaf r).1 e).1))]
  rfl
 ·rw [if_neg h1, if_neg (show ¬ s.first = true by rw [hf]; decide)]
  simp only [not_or, Decidable.not_not] at h1
  cases hz : (splitP r.1).1.getLast? with
  | none => simp only [ite_self]; rfl
  | some z =>
   simp only
   have he := entS_range z
   by_cases h2 : (splitP r.1).1.dropLast ≠ s.path.take ((splitP r.1).1.length - 1)
   ·rw [if_pos h2, if_pos h2, ite_self]; rfl
   ·rw [if_neg h2, if_neg h2]
    cases hd : spineN ((splitP r.1).1.length - 1) s.n with
    | none => simp only [ite_self]; rfl
    | some d =>
     simp only
     by_cases h3 : d.1 ≠ 3 ∨ lastLt d.2.2.2 z = false
     ·have hc : d.1 ≠ 3 ∨ lastLt d.2.2.2 z = false ∨ 1048576 < s.bytes + rowS r + entS z := by
       rcases h3 with h | h
       ·exact Or.inl h
       ·exact Or.inr (Or.inl h)
      rw [if_pos h3, if_pos hc, ite_self]; rfl
     ·rw [if_neg h3]
      show _ = if 1048576 < s.bytes + rowS r + entS z then none else _
      by_cases h4 : 1048576 < s.bytes + rowS r + entS z
      ·have hc : d.1 ≠ 3 ∨ lastLt d.2.2.2 z = false ∨ 1048576 < s.bytes + rowS r + entS z := Or.inr (Or.inr h4)
       rw [if_pos h4, if_pos hc, ite_self]
      ·have hc : ¬ (d.1 ≠ 3 ∨ lastLt d.2.2.2 z = false ∨ 1048576 < s.bytes + rowS r + entS z) := by
        rintro (h | h | h)
        ·exact h3 (Or.inl h)
        ·exact h3 (Or.inr h)
        ·exact h4 h
       rw [if_neg h4, if_neg (by rw [h1.1, (code_leaf r).2 ⟨h1.2, by omega⟩]; simp), if_neg hc]
theorem step_long {s : BSt} {r : RowT} (h : s.path.length + 1 < (splitP r.1).1.length) : stepS s r = none := by
 unfold stepS
 by_cases h1 : pathE r.1 ≠ 0 ∨ ownF r ≠ 0
 ·rw [if_pos h1]
 ·rw [if_neg h1]
  cases hz : (splitP r.1).1.getLast? with
  | none => rfl
  | some z =>
   simp only
   rw [if_pos (fun e => ?_)]
   have := congrArg List.length e
   rw [List.length_dropLast, List.length_take] at this
   omega
theorem appAt_nil (k : Nat) (n : NodeT) : appAt k [] n = n := by
 have key : ∀ (k : Nat) (l : List Ent), lastAt (fun l => l ++ []) k l = l := by
  intro k
  induction k with
  | zero => intro l; simp [lastAt]
  | succ k ih =>
   intro l
   unfold lastAt
   cases hx : l.getLast? with
   | none => rfl
   | some x =>
    simp only
    rw [ih x.f4, show (⟨x.f0, x.f1, x.f2, x.f3, x.f4⟩ : Ent) = x from by cases x; rfl]
    exact (dropLast_snoc hx).symm
 unfold appAt
 rw [key k]
def lastN (r : RowT) : ByteArray := (splitP r.1).1.getLastD ⟨#[]⟩
/-- The kids that the rows give to the directory with these names; the rows left. -/
def gat : Nat → List RowT → List ByteArray → List Ent → List Ent × List RowT
 | 0, rest, _, kids => (kids, rest)
 | f + 1, [], _, kids => (kids, [])
 | f + 1, r :: rs, dir, kids =>
  if pathE r.1 ≠ 0 ∨ (splitP r.1).1.length ≠ dir.length + 1 ∨ (splitP r.1).1.dropLast ≠ dir then (kids, r :: rs)
  else if lastLt kids (lastN r) = false then (kids, r :: rs)
  else if ownF r ≠ 0 then (kids, r :: rs)
  else if r.2.1 = 3 then gat f (gat f rs (splitP r.1).1 []).2 dir (kids ++ [⟨lastN r, r.2.1, r.2.2.1, r.2.2.2, (gat f rs (splitP r.1).1 []).1⟩])
  else gat f rs dir (kids ++ [leafX r (lastN r)])
theorem last_lastN {r : RowT} (h : (splitP r.1).1 ≠ []) : (splitP r.1).1.getLast? = some (lastN r) := by
 unfold lastN
 rw [List.getLastD_eq_getLast?]
 cases hz : (splitP r.1).1.getLast? with
 | none => rw [List.getLast?_eq_none_iff] at hz; exact absurd hz h
 | some z => rfl
theorem gat_le : ∀ (f : Nat) (rest : List RowT) (dir : List ByteArray) (kids : List Ent), (gat f rest dir kids).2.length ≤ rest.length
 | 0, rest, dir, kids => Nat.le_refl _
 | f + 1, [], dir, kids => Nat.le_refl _
 | f + 1, r :: rs, dir, kids => by
  unfold gat
  split
  ·exact Nat.le_refl _
  split
  ·exact Nat.le_refl _
  split
  ·exact Nat.le_refl _
  split
  ·have h1 := gat_le f rs (splitP r.1).1 []
   have h2 := gat_le f (gat f rs (splitP r.1).1 []).2 dir (kids ++ [⟨lastN r, r.2.1, r.2.2.1, r.2.2.2, (gat f rs (splitP r.1).1 []).1⟩])
   simp only [List.length_cons]
   omega
  ·have h1 := gat_le f rs dir (kids ++ [leafX r (lastN r)])
   simp only [List.length_cons]
   omega
structure GatSaid (k : Nat) (dir : List ByteArray) (s : BSt) (kids : List Ent) (rest : List RowT) (out : List Ent × List RowT) (used : List RowT) (s2 : BSt) (new : List Ent) : Prop where
 rest : rest = used ++ out.2
 run : stS used s = some s2
 kids : out.1 = kids ++ new
 n : s2.n = appAt k new s.n
 path : s2.path.take k = dir
 stop : ∀ r rs, out.2 = r :: rs → k + 1 ≤ (splitP r.1).1.length → stepS s2 r = none
theorem gat_sim : ∀ (f : Nat) (rest : List RowT) (k : Nat) (dir : List ByteArray) (s : BSt) (d : NodeT), rest.length ≤ f → dir.length = k → s.path.take k = dir → spineN k s.n = some d → d.1 = 3 →
  (∀ r rs, rest = r :: rs → k + 2 ≤ (splitP r.1).1.length → stepS s r = none) → ∃ used s2 new, GatSaid k dir s d.2.2.2 rest (gat f rest dir d.2.2.2) used s2 new
 | 0, rest, k, dir, s, d, hl, hk, hp, hd, h3, hlow => by
  obtain rfl : rest = [] := List.length_eq_zero_iff.1 (by omega)
  exact ⟨[], s, [], rfl, rfl, (List.append_nil _).symm, (appAt_nil k s.n).symm, hp, fun r rs h => by cases h⟩
 | f + 1, [], k, dir, s, d, hl, hk, hp, hd, h3, hlow => ⟨[], s, [], rfl, rfl, (List.append_nil _).symm, (appAt_nil k s.n).symm, hp, fun r rs h => by cases h⟩
 | f + 1, r :: rs, k, dir, s, d, hl, hk, hp, hd, h3, hlow => by
  have stay : (k + 1 ≤ (splitP r.1).1.length → stepS s r = none) → ∃ used s2 new, GatSaid k dir s d.2.2.2 (r :: rs) (d.2.2.2, r :: rs) used s2 new := fun hs =>
   ⟨[], s, [], rfl, rfl, (List.append_nil _).symm, (appAt_nil k s.n).symm, hp, fun r' rs' h => by injection h with h1 h2; subst h1; exact hs⟩
  unfold gat
  by_cases h1 : pathE r.1 ≠ 0 ∨ (splitP r.1).1.length ≠ dir.length + 1 ∨ (splitP r.1).1.dropLast ≠ dir
  ·rw [if_pos h1]
   refine stay fun hlen => ?_
   by_cases h2 : k + 2 ≤ (splitP r.1).1.length
   ·exact hlow r rs rfl h2
   ·unfold stepS
    by_cases h4 : pathE r.1 ≠ 0 ∨ ownF r ≠ 0
    ·rw [if_pos h4]
    ·rw [if_neg h4]
     cases hz : (splitP r.1).1.getLast? with
     | none => rfl
     | some z =>
      simp only
      rw [if_pos]
      rw [show (splitP r.1).1.length - 1 = k from by omega, hp]
      rcases h1 with h | h | h
      ·exact absurd h (fun e => h4 (.inl e))
      ·omega
      ·exact h
  ·rw [if_neg h1]
   simp only [not_or, Decidable.not_not] at h1
   obtain ⟨e1, e2, e3⟩ := h1
   have hne : (splitP r.1).1 ≠ [] := fun e => by rw [e] at e2; simp at e2
   have hz := last_lastN hne
   have hkk : (splitP r.1).1.length - 1 = k := by omega
   by_cases h2 : lastLt d.2.2.2 (lastN r) = false
   ·rw [if_pos h2]
    refine stay fun hlen => ?_
    unfold stepS
    by_cases h4 : pathE r.1 ≠ 0 ∨ ownF r ≠ 0
    ·rw [if_pos h4]
    ·rw [if_neg h4, hz]
     simp only
     rw [hkk, if_neg (by rw [hp, e3]; simp), hd]
     simp only
     rw [if_pos (.inr h2)]
   ·rw [if_neg h2]
    by_cases h4 : ownF r ≠ 0
    ·rw [if_pos h4]
     refine stay fun hlen => ?_
     unfold stepS
     rw [if_pos (.inr h4)]
    ·rw [if_neg h4]
     rw [Decidable.not_not] at h4
     obtain ⟨s1, hs1⟩ : ∃ s1 : BSt, s1 = ⟨appAt k [leafX r (lastN r)] s.n, (splitP r.1).1, s.bytes + rowS r + entS (lastN r), false⟩ := ⟨_, rfl⟩
     have hstep : stepS s r = some s1 := by
      unfold stepS
      rw [if_neg (by rw [e1, h4]; simp), hz]
      simp only
      rw [hkk, if_neg (by rw [hp, e3]; simp), hd]
      simp only
      rw [if_neg (by simp only [not_or, Decidable.not_not]; exact ⟨h3, h2⟩), hs1]
     have hp1 : s1.path = (splitP r.1).1 := by rw [hs1]
     have hn1 : s1.n = appAt k [leafX r (lastN r)] s.n := by rw [hs1]
     have htk : (splitP r.1).1.take k = dir := by rw [← hkk, ← List.dropLast_eq_take, e3]
     have hl1 : s1.path.length = k + 1 := by rw [hp1]; omega
     have hdn : spineN (k + 1) s1.n = some (nodeOf (leafX r (lastN r))) := by rw [hn1]; exact app_spine_down k s.n d _ hd
     clear hs1
     simp only [List.length_cons] at hl
     by_cases h5 : r.2.1 = 3
     ·rw [if_pos h5]
      obtain ⟨u1, s2, n1, g1⟩ := gat_sim f rs (k + 1) (splitP r.1).1 s1 (nodeOf (leafX r (lastN r))) (by omega) (by omega) (by rw [hp1, List.take_of_length_le (by omega)]) hdn h5 (fun r' rs' _ hlen => step_long (by omega))
      obtain ⟨out1, ho1⟩ : ∃ o, o = gat f rs (splitP r.1).1 [] := ⟨_, rfl⟩
      have g1' : GatSaid (k + 1) (splitP r.1).1 s1 [] rs out1 u1 s2 n1 := by rw [ho1]; exact g1
      rw [← ho1]
      have hle := gat_le f rs (splitP r.1).1 []
      rw [← ho1] at hle
      have hk1 : out1.1 = n1 := by rw [g1'.kids]; rfl
      have hn2 : s2.n = appAt k [⟨lastN r, r.2.1, r.2.2.1, r.2.2.2, out1.1⟩] s.n := by
       rw [g1'.n, hn1, app_down k s.n d _ _ hd, hk1]
       rfl
      have hd2 : spineN k s2.n = some (d.1, d.2.1, d.2.2.1, d.2.2.2 ++ [⟨lastN r, r.2.1, r.2.2.1, r.2.2.2, out1.1⟩]) := by rw [hn2]; exact app_spine k s.n d _ hd
      have hp2 : s2.path.take k = dir := by
       have := congrArg (List.take k) g1'.path
       rw [List.take_take, Nat.min_eq_left (by omega), htk] at this
       exact this
      obtain ⟨u2, s3, n2, g2⟩ := gat_sim f out1.2 k dir s2 _ (by omega) hk hp2 hd2 h3 (fun r' rs' h hlen => g1'.stop r' rs' h (by omega))
      refine ⟨r :: (u1 ++ u2), s3, [⟨lastN r, r.2.1, r.2.2.1, r.2.2.2, out1.1⟩] ++ n2, ?_, ?_, ?_, ?_, g2.path, g2.stop⟩
      ·conv => lhs; rw [g1'.rest]
       have := g2.rest
       rw [List.cons_append, List.append_assoc]
       congr 2
      ·unfold stS
       rw [hstep]
       show stS (u1 ++ u2) s1 = _
       rw [stS_append, g1'.run]
       exact g2.run
      ·rw [g2.kids, List.append_assoc]
      ·rw [g2.n, hn2, app_app k s.n d _ _ hd]
     ·rw [if_neg h5]
      have hd2 : spineN k s1.n = some (d.1, d.2.1, d.2.2.1, d.2.2.2 ++ [leafX r (lastN r)]) := by rw [hn1]; exact app_spine k s.n d _ hd
      obtain ⟨u2, s3, n2, g2⟩ := gat_sim f rs k dir s1 _ (by omega) hk (by rw [hp1, htk]) hd2 h3 (fun r' rs' h hlen => by
       by_cases h6 : k + 2 < (splitP r'.1).1.length
       ·exact step_long (by omega)
       ·unfold stepS
        by_cases h7 : pathE r'.1 ≠ 0 ∨ ownF r' ≠ 0
        ·rw [if_pos h7]
        ·rw [if_neg h7]
         cases hz' : (splitP r'.1).1.getLast? with
         | none => rfl
         | some z =>
          simp only
          by_cases h8 : (splitP r'.1).1.dropLast ≠ s1.path.take ((splitP r'.1).1.length - 1)
          ·rw [if_pos h8]
          ·rw [if_neg h8, show (splitP r'.1).1.length - 1 = k + 1 from by omega, hdn]
           simp only
           rw [if_pos (.inl h5)])
      refine ⟨r :: u2, s3, [leafX r (lastN r)] ++ n2, ?_, ?_, ?_, ?_, g2.path, g2.stop⟩
      ·have := g2.rest
       rw [List.cons_append]
       congr 1
      ·unfold stS
       rw [hstep]
       exact g2.run
      ·rw [g2.kids, List.append_assoc]
      ·rw [g2.n, hn1, app_app k s.n d _ _ hd]
/-- What a row takes. -/
def rowB (r : RowT) : Int := rowS r + (match (splitP r.1).1.getLast? with | none => 0 | some z => entS z)
/-- How many of the first rows there is room for. -/
def fitsL : List RowT → Int → Nat
 | [], _ => 0
 | r :: rs, b => if 1048576 < b + rowB r then 0 else fitsL rs (b + rowB r) + 1
theorem stepS_bytes {s s2 : BSt} {r : RowT} (h : stepS s r = some s2) : s2.bytes = s.bytes + rowB r ∧ s2.first = false := by
 unfold stepS at h
 split at h
 ·cases h
 unfold rowB
 cases hz : (splitP r.1).1.getLast? with
 | none => rw [hz] at h; cases h
 | some z =>
  rw [hz] at h
  simp only at h ⊢
  split at h
  ·cases h
  split at h
  ·cases h
  split at h
  ·cases h
  injection h with h
  subst h
  exact ⟨by show s.bytes + rowS r + entS z = _; omega, rfl⟩
theorem rowB_pos (r : RowT) : 0 ≤ rowB r := by
 have := rowS_pos r
 unfold rowB
 cases (splitP r.1).1.getLast? with
 | none => show 0 ≤ _ + (0 : Int); omega
 | some z => have := entS_range z; show 0 ≤ _ + entS z; omega
theorem go_used : ∀ (used rest : List RowT) (s s2 : BSt) (i : Int), s.first = false → 24 ≤ s.bytes → stS used s = some s2 →
  (fitsL used s.bytes < used.length ∧ goB (used ++ rest) s i = (zeroT, 64, i + (fitsL used s.bytes : Int))) ∨ (fitsL used s.bytes = used.length ∧ goB (used ++ rest) s i = goB rest s2 (i + (used.length : Int)) ∧ s2.first = false ∧ 24 ≤ s2.bytes)
 | [], rest, s, s2, i, hf, hb, h => by
  injection h with h
  subst h
  exact .inr ⟨rfl, by simp, hf, hb⟩
 | r :: used, rest, s, s2, i, hf, hb, h => by
  unfold stS at h
  cases hs : stepS s r with
  | none => rw [hs] at h; cases h
  | some s1 =>
   rw [hs] at h
   have h' : stS used s1 = some s2 := h
   obtain ⟨b1, b2⟩ := stepS_bytes hs
   have hpos := rowB_pos r
   have hB := step_S (r := r) hf hb
   rw [hs] at hB
   have hB' : stepB s r = if 1048576 < s1.bytes then none else some s1 := hB
   unfold fitsL
   by_cases hbig : 1048576 < s.bytes + rowB r
   ·rw [if_pos hbig]
    rw [if_pos (by omega)] at hB'
    refine .inl ⟨by simp, ?_⟩
    show goB (r :: (used ++ rest)) s i = _
    unfold goB
    rw [hB']
    simp
   ·rw [if_neg hbig]
    rw [if_neg (by omega)] at hB'
    have hgo : goB (r :: used ++ rest) s i = goB (used ++ rest) s1 (i + 1) := by
     show goB (r :: (used ++ rest)) s i = _
     conv => lhs; unfold goB
     rw [hB']
    rw [hgo, ← b1]
    rcases go_used used rest s1 s2 (i + 1) b2 (by omega) h' with ⟨c1, c2⟩ | ⟨c1, c2, c3, c4⟩
    ·refine .inl ⟨by simp only [List.length_cons]; omega, ?_⟩
     rw [c2]
     congr 2
     omega
    ·refine .inr ⟨by simp only [List.length_cons]; omega, ?_, c3, c4⟩
     rw [c2]
     congr 1
     simp only [List.length_cons]
     omega
/-- The document's Build. -/
def refG (r : RowT) (rs : List RowT) : List Ent × List RowT := if r.2.1 = 3 then gat rs.length rs [] [] else ([], rs)
def refB : List RowT → NodeT × Int × Int
 | [] => (zeroT, 50, 0)
 | r :: rs =>
  if r.1.toList ≠ [] ∨ ownF r ≠ 0 then (zeroT, 64, 0)
  else if fitsL ((r :: rs).take ((rs.length + 1) - (refG r rs).2.length)) 24 < rs.length + 1 then (zeroT, 64, (fitsL ((r :: rs).take ((rs.length + 1) - (refG r rs).2.length)) 24 : Int))
  else ((r.2.1, r.2.2.1, r.2.2.2, (refG r rs).1), 0, 0)
theorem refG_said (r : RowT) (rs : List RowT) (b : Int) : ∃ used s2, rs = used ++ (refG r rs).2 ∧ stS used ⟨leafN r, [], b, false⟩ = some s2 ∧ s2.n = (r.2.1, r.2.2.1, r.2.2.2, (refG r rs).1) ∧ ∀ r' rs', (refG r rs).2 = r' :: rs' → stepS s2 r' = none := by
 have hnone : ∀ (s : BSt) (r' : RowT), (splitP r'.1).1.length = 0 → stepS s r' = none := fun s r' h => by
  unfold stepS
  rw [List.length_eq_zero_iff.1 h]
  by_cases h7 : pathE r'.1 ≠ 0 ∨ ownF r' ≠ 0
  ·rw [if_pos h7]
  ·rw [if_neg h7]; rfl
 unfold refG
 by_cases h3 : r.2.1 = 3
 ·rw [if_pos h3]
  obtain ⟨used, s2, new, g⟩ := gat_sim rs.length rs 0 [] ⟨leafN r, [], b, false⟩ (leafN r) (Nat.le_refl _) rfl rfl rfl h3 (fun r' rs' h hlen => step_long (by show ([] : List ByteArray).length + 1 < _; simp; omega))
  refine ⟨used, s2, g.rest, g.run, ?_, fun r' rs' h => ?_⟩
  ·have hk := g.kids
   have hk' : (gat rs.length rs [] []).1 = [] ++ new := hk
   rw [hk', g.n]
   rfl
  ·by_cases h0 : (splitP r'.1).1.length = 0
   ·exact hnone s2 r' h0
   ·exact g.stop r' rs' h (by omega)
 ·rw [if_neg h3]
  refine ⟨[], _, rfl, rfl, rfl, fun r' rs' h => ?_⟩
  by_cases h0 : (splitP r'.1).1.length = 0
  ·exact hnone _ r' h0
  ·by_cases h6 : 1 < (splitP r'.1).1.length
   ·exact step_long (by show ([] : List ByteArray).length + 1 < _; simp; omega)
   ·unfold stepS
    by_cases h7 : pathE r'.1 ≠ 0 ∨ ownF r' ≠ 0
    ·rw [if_pos h7]
    ·rw [if_neg h7]
     cases hz' : (splitP r'.1).1.getLast? with
     | none => rfl
     | some z =>
      simp only
      split
      ·rfl
      ·rw [show (splitP r'.1).1.length - 1 = 0 from by omega]
       show (if (leafN r).1 ≠ 3 ∨ _ then _ else _) = _
       rw [if_pos (.inl h3)]
theorem path_root {p : ByteArray} : p.toList = [] ↔ pathE p = 0 ∧ (splitP p).1 = [] := by
 constructor
 ·intro h
  have e := split_nil h
  unfold pathE
  rw [e]
  exact ⟨rfl, rfl⟩
 ·rintro ⟨h1, h2⟩
  have := split_joined h1
  rw [h2, joinP_nil] at this
  rw [← this, Lib.toList_data]
theorem ref_build (rows : List RowT) : refB rows = buildP rows := by
 cases rows with
 | nil => rfl
 | cons r rs =>
  unfold buildP
  rw [if_neg (by simp)]
  show (if r.1.toList ≠ [] ∨ ownF r ≠ 0 then (zeroT, 64, 0) else _) = goB (r :: rs) initB 0
  unfold goB
  by_cases h1 : r.1.toList ≠ [] ∨ ownF r ≠ 0
  ·rw [if_pos h1]
   have hs : stepB initB r = none := by
    unfold stepB
    by_cases h2 : pathE r.1 ≠ 0 ∨ codeN (leafN r) ≠ 0
    ·rw [if_pos h2]
    ·rw [if_neg h2, if_pos (show initB.first = true from rfl)]
     simp only [not_or, Decidable.not_not] at h2
     have hn : (splitP r.1).1 ≠ [] := fun e => by
      rcases h1 with h | h
      ·exact h (path_root.2 ⟨h2.1, e⟩)
      ·exact h ((code_leaf r).1 h2.2).1
     rw [if_pos (Or.inl hn)]
   rw [hs]
  ·rw [if_neg h1]
   simp only [not_or, Decidable.not_not] at h1
   obtain ⟨p1, p2⟩ := path_root.1 h1.1
   have hrb : rowB r = rowS r := by
    unfold rowB
    rw [p2]
    show _ + (0 : Int) = _
    omega
   obtain ⟨used, s2, g1, g2, g3, g4⟩ := refG_said r rs (24 + rowS r)
   obtain ⟨out, hout⟩ : ∃ o, o = refG r rs := ⟨_, rfl⟩
   rw [← hout] at g1 g3 g4 ⊢
   have htake : (r :: rs).take ((rs.length + 1) - out.2.length) = r :: used := by
    have hl : rs.length = used.length + out.2.length := by have := congrArg List.length g1; rw [List.length_append] at this; exact this
    rw [show rs.length + 1 - out.2.length = used.length + 1 from by omega, List.take_succ_cons]
    conv => lhs; rw [g1]
    rw [List.take_left]
   have hl : rs.length = used.length + out.2.length := by have := congrArg List.length g1; rw [List.length_append] at this; exact this
   rw [htake]
   by_cases hbig : 1048576 < 24 + rowS r
   ·have hs : stepB initB r = none := by
     unfold stepB
     rw [if_pos (.inr (fun e => by have := ((code_leaf r).1 e).2; omega))]
    have hf : fitsL (r :: used) 24 = 0 := by
     unfold fitsL
     rw [if_pos (by rw [hrb]; exact hbig)]
    rw [hs, hf, if_pos (by omega)]
    rfl
   ·have hs : stepB initB r = some ⟨leafN r, [], 24 + rowS r, false⟩ := by
     unfold stepB
     rw [if_neg (by rw [p1, (code_leaf r).2 ⟨h1.2, by omega⟩]; simp), if_pos (show initB.first = true from rfl), p2, if_neg (by
      simp only [not_or, Decidable.not_not]
      exact ⟨trivial, hbig⟩)]
     rfl
    have hf : fitsL (r :: used) 24 = fitsL used (24 + rowS r) + 1 := by
     conv => lhs; unfold fitsL
     rw [hrb, if_neg hbig]
    rw [hs, hf]
    simp only
    have hrp := rowS_pos r
    rcases go_used used out.2 ⟨leafN r, [], 24 + rowS r, false⟩ s2 (0 + 1) rfl (by show 24 ≤ 24 + rowS r; omega) g2 with ⟨c1, c2⟩ | ⟨c1, c2, c3, c4⟩
    ·conv => rhs; rw [g1]
     have c1' : fitsL used (24 + rowS r) < used.length := c1
     rw [c2, if_pos (by omega)]
     congr 2
     show ((fitsL used (24 + rowS r) + 1 : Nat) : Int) = 0 + 1 + (fitsL used (24 + rowS r) : Int)
     omega
    ·have c1' : fitsL used (24 + rowS r) = used.length := c1
     conv => rhs; rw [g1]
     rw [c2]
     cases ho : out.2 with
     | nil =>
      rw [ho] at hl
      rw [if_neg (by rw [c1']; simp at hl; omega)]
      show _ = (s2.n, 0, 0)
      rw [g3]
     | cons r' rs' =>
      rw [ho] at hl
      rw [if_pos (by rw [c1']; simp at hl; omega)]
      have hnone := step_S (r := r') c3 c4
      rw [g4 r' rs' ho] at hnone
      have hnone' : stepB s2 r' = none := hnone
      unfold goB
      rw [hnone']
      congr 2
      rw [c1']
      show ((used.length + 1 : Nat) : Int) = 0 + 1 + (used.length : Int)
      omega
end Go.Proofs.YtnemeeidomceiaaDoor
end
