import Derived.Test.YtnemeeidomceiaaDoorProg
import Derived.Test.YtnemeeidomceiaaDoorPt0
import Derived.Test.YtnemeeidomceiaaDoorPt1
import Derived.Test.YtnemeeidomceiaaDoorPt2
import Derived.Test.YtnemeeidomceiaaDoorPt4
import Derived.Test.YtnemeeidomceiaaDoorPt6
import Derived.Test.YtnemeeidomceiaaDoorPt7
import Derived.Test.YtnemeeidomceiaaDoorPt8
import Derived.Test.YtnemeeidomceiaaDoorWEqStructPt
import Derived.Test.YtnemeeidomceiaaDoorWLast
import Derived.ArgAppend
import Derived.Below
import Derived.BigQuiet
import Derived.Deep.AppendLies
import Derived.Deep.CutBlock
import Derived.Deep.DeepCutAuto
import Derived.Deep.Draws
import Derived.Deep.LoopGhost
import Derived.Deep.OwnRows
import Derived.Deep.QuietTactic
import Derived.Deep.RegionHeld3
import Derived.KernelRfl
import Derived.Laws.BitsLemmas
import Derived.Laws.BytesArg
import Derived.Laws.IdiomCopy
import Derived.Laws.MakeOwn
import Derived.Laws.OwnMore
import Derived.Laws.Rows
import Derived.Laws.Slices
import Derived.Lib.AppendStr
import Derived.Lib.ConvBytes
import Derived.Maps.AppendAt
import Derived.OrdersHeld
import Derived.OwnWalk
import Derived.RowKit
import Derived.RowKit3
import Derived.Tactics
import Derived.WalkKit
import Derived.WideLaws
set_option linter.unusedSimpArgs false
set_option linter.unusedVariables false
section
namespace Go.Proofs.YtnemeeidomceiaaDoor
open Go.RowKit Go.Proofs.YtnemeeidomceiaaDoorW.PrintWords Go.Proofs.YtnemeeidomceiaaDoorW.PrintLast Go.Proofs.YtnemeeidomceiaaDoorW.PrintMore
set_option linter.unusedVariables false
set_option linter.unusedSimpArgs false
/-- Every row of the tree is of rising names. -/
inductive AllR : List Ent → Prop
 | mk {l : List Ent} (h : Rising l) (n : l.length ≤ 1048576) (k : ∀ x : Ent, x ∈ l → AllR x.f4) : AllR l
/-- The kids with those of the last name's directory as act makes them; the error's number. -/
def chN (act : List Ent → Nat → Bool → ByteArray → List Ent × Int) : List ByteArray → Int → List Ent → List Ent × Int
 | [], _, l => (l, 0)
 | s :: r, k, l =>
  if k ≠ 3 then ([], 65)
  else if r = [] then (if (act l (rk l s) (hasN l s) s).2 ≠ 0 then ([], (act l (rk l s) (hasN l s) s).2) else ((act l (rk l s) (hasN l s) s).1, 0))
  else match (if hasN l s = true then l[rk l s]? else none) with
   | none => ([], 3)
   | some x => if (chN act r x.f1 x.f4).2 ≠ 0 then ([], (chN act r x.f1 x.f4).2) else (l.set (rk l s) { x with f4 := (chN act r x.f1 x.f4).1 }, 0)
structure CutPost (base : Nat) (ok : Nat → Prop) (w : World) (k : Int) (e : Bool) (t : ByteArray) (r : List Ent × Int) (o : Ending) (w' : World) : Prop where
 upd : Upd ok w w'
 yes : r.2 = 0 → ∃ v', o = .returned (.tuple #[.agg #[.int .i64 k, .bool e, .string t, v'], .int .i64 0]) ∧ Own w' base (fun j => ok j ∨ w.heap.size ≤ j) v' r.1
 no : r.2 ≠ 0 → o = .returned (.tuple #[.agg #[.int .i64 0, .bool false, .string ⟨#[]⟩, .slice none 0 0], .int .i64 r.2])
theorem AllR.at {l : List Ent} (h : AllR l) {i : Nat} {x : Ent} (hx : l[i]? = some x) : AllR x.f4 := by
 cases h with
 | mk h n k => exact k x (List.mem_of_getElem? hx)
theorem AllR.rises {l : List Ent} (h : AllR l) : Rising l ∧ l.length ≤ 1048576 := by
 cases h with
 | mk h n k => exact ⟨h, n⟩
theorem hasN_at {l : List Ent} {s : ByteArray} (h : hasN l s = true) : ∃ x, l[rk l s]? = some x ∧ x.f0 = s := by
 unfold hasN at h
 split at h
 ·rename_i x hx
  exact ⟨x, hx, (cmpB_zero _ _).1 (of_decide_eq_true h)⟩
 ·cases h
/-- The names that are left: their row is none of the tree's. -/
abbrev NamesF (w : World) (ok : Nat → Prop) (A : Option Addr) (ns : List ByteArray) : Prop := Kd.F Kd.string w (fun j => ¬ ok j ∧ j < w.heap.size) A ns.length ns
theorem cells4 {w : World} {b : Nat} {q : TypeId} {a c d e : Value} (h : Blk w b q [a, c, d, e]) : w.cell? ⟨b, 0, none⟩ = some a ∧ w.cell? ⟨b, 1, none⟩ = some c ∧ w.cell? ⟨b, 2, none⟩ = some d ∧ w.cell? ⟨b, 3, none⟩ = some e :=
 ⟨h.cell 0 _ rfl, h.cell 1 _ rfl, h.cell 2 _ rfl, h.cell 3 _ rfl⟩
section
variable {w W : World} {b base : Nat} {okn S : Nat → Prop} {v : Value} {l : List Ent} {a0 a1 a2 a3 c0 c1 c2 c3 : Value}
theorem put4_upd (hU : Upd S w W) (hb : w.heap.size ≤ b) : Upd S w ((((W.setCell ⟨b, 0, none⟩ c0).setCell ⟨b, 1, none⟩ c1).setCell ⟨b, 2, none⟩ c2).setCell ⟨b, 3, none⟩ c3) :=
 (((hU.trans (Upd.setCell (S := fun k => k = b) (p := ⟨b, 0, none⟩) (.inl rfl) c0) (fun k hk => .inr (by omega))).trans (Upd.setCell (S := fun k => k = b) (p := ⟨b, 1, none⟩) (.inl rfl) c1) (fun k hk => .inr (by omega))).trans (Upd.setCell (S := fun k => k = b) (p := ⟨b, 2, none⟩) (.inl rfl) c2) (fun k hk => .inr (by omega))).trans (Upd.setCell (S := fun k => k = b) (p := ⟨b, 3, none⟩) (.inl rfl) c3) (fun k hk => .inr (by omega))
theorem put4_blk (hb : Blk W b 32 [a0, a1, a2, a3]) : Blk ((((W.setCell ⟨b, 0, none⟩ c0).setCell ⟨b, 1, none⟩ c1).setCell ⟨b, 2, none⟩ c2).setCell ⟨b, 3, none⟩ c3) b 32 [c0, c1, c2, c3] :=
 blk_put (cs := #[c0, c1, c2, a3]) (blk_put (cs := #[c0, c1, a2, a3]) (blk_put (cs := #[c0, a1, a2, a3]) (blk_put (cs := #[a0, a1, a2, a3]) hb 0 _ rfl) 1 _ rfl) 2 _ rfl) 3 _ rfl
theorem put4_own (h : Own W base okn v l) (hb : Blk W b 32 [a0, a1, a2, a3]) : Own ((((W.setCell ⟨b, 0, none⟩ c0).setCell ⟨b, 1, none⟩ c1).setCell ⟨b, 2, none⟩ c2).setCell ⟨b, 3, none⟩ c3) base okn v l := by
 have k1 : Blk (W.setCell ⟨b, 0, none⟩ c0) b 32 [c0, a1, a2, a3] := blk_put (cs := #[a0, a1, a2, a3]) hb 0 _ rfl
 have k2 : Blk ((W.setCell ⟨b, 0, none⟩ c0).setCell ⟨b, 1, none⟩ c1) b 32 [c0, c1, a2, a3] := blk_put (cs := #[c0, a1, a2, a3]) k1 1 _ rfl
 have k3 : Blk (((W.setCell ⟨b, 0, none⟩ c0).setCell ⟨b, 1, none⟩ c1).setCell ⟨b, 2, none⟩ c2) b 32 [c0, c1, c2, a3] := blk_put (cs := #[c0, c1, a2, a3]) k2 2 _ rfl
 exact (((h.set hb (by decide) 0 c0).set k1 (by decide) 1 c1).set k2 (by decide) 2 c2).set k3 (by decide) 3 c3
end
theorem names_at {w W : World} {ok S : Nat → Prop} {ad : Addr} {s : ByteArray} {r : List ByteArray} (hN : NamesF w ok (some ad) (s :: r)) (hU : Upd S w W) (hS : ∀ k, S k → ok k) : W.cell? ad = some (.string s) := by
 have hC := Kd.F_now (Kd.F_step hN (fun k hk hlt => hU.block k hlt (fun h => hk.1 (hS k h))))
 obtain ⟨ad2, hA, hc0⟩ := Kd.at_string hC 0 (Int.le_refl _) (by rw [List.length_cons]; omega)
 injection hA with hA
 subst hA
 replace hc0 : W.cell? (ad.add 0) = some (.string s) := hc0
 rw [Addr.add_zero'] at hc0
 exact hc0
theorem names_ad {w : World} {ok : Nat → Prop} {A : Option Addr} {s : ByteArray} {r : List ByteArray} (hN : NamesF w ok A (s :: r)) : ∃ ad, A = some ad := by
 obtain ⟨ad2, hA, hc0⟩ := Kd.at_string (Kd.F_now hN) 0 (Int.le_refl _) (by rw [List.length_cons]; omega)
 exact ⟨ad2, hA⟩
set_option maxHeartbeats 4000000 in
set_option maxRecDepth 100000 in
theorem change_calls (fA : Nat) (fnA : Func) (hfA : Tryd.prog.funcs[fA]? = some fnA) (hnA : (fnA.name == "runtime.NumGoroutine") = false) (hbA : fnA.body.isSome = true) (capA : Array Value) (act : List Ent → Nat → Bool → ByteArray → List Ent × Int) (base : Nat) (Inv : World → Prop)
  (hInv : ∀ w w', Inv w → Below base w w' → Inv w')
  (hAct : ∀ (l : List Ent) (s : ByteArray) (v : Value) (w : World) (ok : Nat → Prop), Own w base ok v l → AllR l → base ≤ w.heap.size → Inv w → (∀ k, ok k → base ≤ k ∧ k < w.heap.size) →
   Calls Tryd.prog fA (#[v, .int .i64 (rk l s), .bool (hasN l s), .string s] ++ capA) w fun o w' => ∃ v', o = .returned (.tuple #[v', .int .i64 (act l (rk l s) (hasN l s) s).2]) ∧ Own w' base (fun k => ok k ∨ w.heap.size ≤ k) v' (act l (rk l s) (hasN l s) s).1 ∧ Upd ok w w') : ∀ (ns : List ByteArray) (k : Int) (e : Bool) (t : ByteArray) (v : Value) (l : List Ent) (A : Option Addr) (c : Nat) (w : World) (ok : Nat → Prop), Own w base ok v l → AllR l → base ≤ w.heap.size → Inv w → NamesF w ok A ns → ns.length ≤ c →
  Calls Tryd.prog 44 #[.agg #[.int .i64 k, .bool e, .string t, v], .slice A ns.length c, .func (.func fA) #[] capA] w (CutPost base ok w k e t (chN act ns k l)) := by
 have HACT := Aside0.mk hAct
 have HINV := Aside0.mk hInv
 clear hAct hInv
 intro ns
 induction ns with
 | nil =>
  intro k e t v l A c w ok hO hR hbs hiv hN hc
  have HO := Aside0.mk hO
  obtain ⟨A4, c4, hv, hlc⟩ := hO.slice
  subst hv
  clear hO hR hN hc hiv hbs
  go_enter Tryd.func44, Tryd.ntmps44
  go_wp2_with fail
  have hb : Below w.heap.size w ((w.alloc (.cells #[.int .i64 k, .bool e, .string t, .slice A4 l.length c4] 32)).alloc (.cells #[.int .i64 k, .bool e, .string t, .slice A4 l.length c4] 32)) := below_alloc (below_alloc (Below.refl _ _) _) _
  refine bodyPost_ret (v := .tuple #[.agg #[.int .i64 k, .bool e, .string t, .slice A4 l.length c4], .int .i64 0]) (by simp [results, Tryd.results44, go_sem]) rfl ⟨Upd.of_below hb, fun h => ⟨_, rfl, (HO.out.newer hb).mono (fun k hk => .inl hk)⟩, fun h => absurd rfl h⟩
 | cons s r ih =>
  intro k e t v l A c w ok hO hR hbs hiv hN hc
  have HO := Aside0.mk hO.bound
  have HR := Aside0.mk hR
  have HN := Aside0.mk hN
  have IH := Aside0.mk ih
  have HIV := Aside0.mk hiv
  have HBS := Aside0.mk hbs
  obtain ⟨A4, c4, hv, hlc⟩ := hO.slice
  subst hv
  obtain ⟨ad, hA⟩ := names_ad hN
  subst hA
  clear hO hR hN ih hiv hbs
  obtain ⟨ok1, hok1⟩ : ∃ p, p = OwnB w base ok := ⟨_, rfl⟩
  rw [← hok1] at HO
  have HK1 : Aside0 (∀ k, ok1 k → ok k ∧ k < w.heap.size ∧ (∃ cells, w.heap[k]? = some (.cells cells eE (0, 0))) ∧ base ≤ k) := ⟨fun k hk => by rw [hok1] at hk; exact ⟨hk.1, hk.2.2.1, hk.2.2.2, hk.2.1⟩⟩
  clear hok1
  obtain ⟨n, hn⟩ : ∃ n, n = r.length + 1 := ⟨_, rfl⟩
  have hns : (s :: r).length = n := by rw [hn]; rfl
  rw [hns] at hc ⊢
  have HNL := Aside0.mk (And.intro hn hns)
  have hn1 : 1 ≤ n := by omega
  have t1 : ((n : Int) == 0) = false := beq_eq_false_iff_ne.mpr (by omega)
  clear hn hns
  by_cases hk3 : k = 3
  ·subst hk3
   have k1 : ((3 : Int) != 3) = false := rfl
   go_enter Tryd.func44, Tryd.ntmps44
   go_wp2_with fail
   obtain ⟨W2, hW2⟩ : ∃ W2, W2 = (w.alloc (.cells #[.int .i64 3, .bool e, .string t, .slice A4 l.length c4] 32)).alloc (.cells #[.int .i64 0, .bool false, .string ⟨#[]⟩, .slice none 0 0] 32) := ⟨_, rfl⟩
   rw [← hW2]
   obtain ⟨b0, hb0⟩ : ∃ b, b = w.heap.size := ⟨_, rfl⟩
   obtain ⟨b1, hb1⟩ : ∃ b, b = w.heap.size + 1 := ⟨_, rfl⟩
   rw [← hb1, ← hb0]
   have B0 : Aside0 (Blk W2 b0 32 [.int .i64 3, .bool e, .string t, .slice A4 l.length c4]) := ⟨by rw [hW2, hb0]; exact (Blk.new w _ [.int .i64 3, .bool e, .string t, .slice A4 l.length c4]).alloc _⟩
   have B1 : Aside0 (Blk W2 b1 32 [.int .i64 0, .bool false, .string ⟨#[]⟩, .slice none 0 0]) := ⟨by rw [hW2]; exact Blk.new' _ _ [.int .i64 0, .bool false, .string ⟨#[]⟩, .slice none 0 0] (by rw [hb1]; simp)⟩
   have HB : Aside0 (Below w.heap.size w W2) := ⟨by rw [hW2]; exact below_alloc (below_alloc (Below.refl _ _) _) _⟩
   have HZ : Aside0 (w.heap.size ≤ b0 ∧ w.heap.size ≤ b1 ∧ b0 ≠ b1) := ⟨by omega⟩
   clear hW2 hb0 hb1
   have HC0 := Aside0.mk (names_at HN.out (Upd.of_below HB.out (S := ok1)) (fun k hk => (HK1.out k hk).1))
   have HO2 := Aside0.mk (HO.out.newer HB.out)
   have g1 : (0 : Int) < (n : Int) := by omega
   have g0 : 0 < n := by omega
   refine start_ (n := 11) (S := fun w' => w'.cell? ⟨b0, 3, none⟩ = some (.slice A4 l.length c4) ∧ w'.cell? ad = some (.string s)) (ds := []) #[false, false, false, false, false, false, false, false, false, false, false] (by kernel_rfl) rfl rfl (⟨B0.out.cell 3 _ rfl, HC0.out⟩) (fun hHeld => ?_)
   have hdr : Below W2.heap.size W2 W2.drew := below_drew (Below.refl _ _)
   generalize W2.drew = W3 at *
   refine pure_ (i := 0) (N := some 20) (v := ?_) (a' := ?_) #[true, false, false, false, false, false, false, false, false, false, false] rfl rfl (by kernel_rfl) (fun _ _ _ h => h) (Or.inl ⟨by rfl, ?_⟩) ?_ ?_
   rotate_left
   ·intro w'
    go_simp
    with_reducible rfl
   rotate_left
   ·simp only [Act.put, List.setIfInBounds_toArray, List.set_cons_zero, List.set_cons_succ, i64_w, i32_w]
    rfl
   refine take_ (i := 1) (N := some 21) (v := ?_) (a' := ?_) #[true, true, false, false, false, false, false, false, false, false, false] rfl rfl (by kernel_rfl) (fun _ _ _ h => h) (Or.inl ⟨by rfl, ?_⟩) hHeld ?_ ?_
   rotate_left
   ·rintro w' ⟨s0, s1⟩
    go_simp
    with_reducible rfl
   rotate_left
   ·simp only [Act.put, List.setIfInBounds_toArray, List.set_cons_zero, List.set_cons_succ, i64_w, i32_w]
    rfl
   refine pure_ (i := 2) (N := some 22) (v := ?_) (a' := ?_) #[true, true, true, false, false, false, false, false, false, false, false] rfl rfl (by kernel_rfl) (fun _ _ _ h => h) (Or.inl ⟨by rfl, ?_⟩) ?_ ?_
   rotate_left
   ·intro w'
    go_simp
    with_reducible rfl
   rotate_left
   ·simp only [Act.put, List.setIfInBounds_toArray, List.set_cons_zero, List.set_cons_succ, i64_w, i32_w]
    rfl
   refine pure_ (i := 3) (N := some 23) (v := ?_) (a' := ?_) #[true, true, true, true, false, false, false, false, false, false, false] rfl rfl (by kernel_rfl) (fun _ _ _ h => h) (Or.inl ⟨by rfl, ?_⟩) ?_ ?_
   rotate_left
   ·intro w'
    go_simp
    with_reducible rfl
   rotate_left
   ·simp only [Act.put, List.setIfInBounds_toArray, List.set_cons_zero, List.set_cons_succ, i64_w, i32_w]
    rfl
   refine take_ (i := 4) (N := some 24) (v := ?_) (a' := ?_) #[true, true, true, true, true, false, false, false, false, false, false] rfl rfl (by kernel_rfl) (fun _ _ _ h => h) (Or.inl ⟨by rfl, ?_⟩) hHeld ?_ ?_
   rotate_left
   ·rintro w' ⟨s0, s1⟩
    go_simp
    with_reducible rfl
   rotate_left
   ·simp only [Act.put, List.setIfInBounds_toArray, List.set_cons_zero, List.set_cons_succ, i64_w, i32_w]
    rfl
   refine one_ (i := 5) (N := some 25) #[true, true, true, true, true, true, false, false, false, false, false] rfl rfl (by kernel_rfl) (by decide) (fun K hK => ?_)
   have hO3 := HO2.out.newer hdr
   have hrr := HR.out.rises
   refine goes_ Tryd.func38 (by kernel_rfl) rfl #[.slice A4 l.length c4, .string s] (by rfl) rfl rfl (by (try simp only [List.map_toArray, List.map_cons, List.map_nil]); first | done | rfl) ?_
   refine (find_calls l s hrr.1 A4 c4 W3 hO3.toC.2.2 hlc (by omega)).mono ?_
   rintro o W5 ⟨rfl, hb5⟩
   have hb6 := below_step hdr hb5
   have B05 := Aside0.mk (B0.out.below hb6)
   have B15 := Aside0.mk (B1.out.below hb6)
   have HB5 := Aside0.mk (below_step HB.out hb6)
   have HC5 := Aside0.mk (pw_cell_below hb6 HC0.out)
   have HO5 := Aside0.mk (HO2.out.newer hb6)
   clear hO3 hrr hb5 hb6 hdr B0 B1 HB HC0 HO2
   refine ⟨_, rfl, ?_⟩
   refine hK.out _ _ ⟨B05.out.cell 3 _ rfl, HC5.out⟩ (fun _ => ?_)
   clear hK K
   refine pure_ (i := 6) (N := some 19) (v := ?_) (a' := ?_) #[true, true, true, true, true, true, true, false, false, false, false] rfl rfl (by kernel_rfl) (fun _ _ _ h => h) (Or.inl ⟨by rfl, ?_⟩) ?_ ?_
   rotate_left
   ·intro w'
    go_simp
    with_reducible rfl
   rotate_left
   ·simp only [Act.put, List.setIfInBounds_toArray, List.set_cons_zero, List.set_cons_succ, i64_w, i32_w]
    rfl
   refine pure_ (i := 7) (N := some 26) (v := ?_) (a' := ?_) #[true, true, true, true, true, true, true, true, false, false, false] rfl rfl (by kernel_rfl) (fun _ _ _ h => h) (Or.inl ⟨by rfl, ?_⟩) ?_ ?_
   rotate_left
   ·intro w'
    go_simp
    with_reducible rfl
   rotate_left
   ·simp only [Act.put, List.setIfInBounds_toArray, List.set_cons_zero, List.set_cons_succ, i64_w, i32_w]
    rfl
   refine pure_ (i := 8) (N := some 27) (v := ?_) (a' := ?_) #[true, true, true, true, true, true, true, true, true, false, false] rfl rfl (by kernel_rfl) (fun _ _ _ h => h) (Or.inl ⟨by rfl, ?_⟩) ?_ ?_
   rotate_left
   ·intro w'
    go_simp
    with_reducible rfl
   rotate_left
   ·simp only [Act.put, List.setIfInBounds_toArray, List.set_cons_zero, List.set_cons_succ, i64_w, i32_w]
    rfl
   refine pure_ (i := 9) (N := some 8) (v := ?_) (a' := ?_) #[true, true, true, true, true, true, true, true, true, true, false] rfl rfl (by kernel_rfl) (fun _ _ _ h => h) (Or.inl ⟨by rfl, ?_⟩) ?_ ?_
   rotate_left
   ·intro w'
    go_simp
    with_reducible rfl
   rotate_left
   ·simp only [Act.put, List.setIfInBounds_toArray, List.set_cons_zero, List.set_cons_succ, i64_w, i32_w]
    rfl
   refine pure_ (i := 10) (N := some 9) (v := ?_) (a' := ?_) #[true, true, true, true, true, true, true, true, true, true, true] rfl rfl (by kernel_rfl) (fun _ _ _ h => h) (Or.inl ⟨by rfl, ?_⟩) ?_ ?_
   rotate_left
   ·intro w'
    go_simp
    with_reducible rfl
   rotate_left
   ·simp only [Act.put, List.setIfInBounds_toArray, List.set_cons_zero, List.set_cons_succ, i64_w, i32_w]
    rfl
   refine done_ (by kernel_rfl) ?_
   obtain ⟨hs, hhs⟩ : ∃ hs, hs = hasN l s := ⟨_, rfl⟩
   obtain ⟨i, hi⟩ : ∃ i, i = rk l s := ⟨_, rfl⟩
   rw [← hhs, ← hi]
   have HHS := Aside0.mk hhs
   have HI := Aside0.mk hi
   clear hhs hi
   by_cases hr1 : r = []
   ·have t2 : ((n : Int) == 1) = true := by have := HNL.out.1; rw [hr1] at this; rw [this]; rfl
    have HR1 := Aside0.mk hr1
    clear hr1
    go_wp2_with fail
    obtain ⟨q, hq⟩ : ∃ q, q = act l i hs s := ⟨_, rfl⟩
    have HRES : Aside0 (chN act (s :: r) 3 l = if q.2 ≠ 0 then ([], q.2) else (q.1, 0)) := ⟨by rw [chN, if_neg (by decide), if_pos HR1.out, ← HHS.out, ← HI.out, ← hq]⟩
    refine start_ (n := 15) (S := fun w' => w'.cell? ⟨b0, 3, none⟩ = some (.slice A4 l.length c4) ∧ w'.cell? ad = some (.string s)) (ds := [13]) #[false, false, false, false, false, false, false, false, false, false, false, false, false, false, false] (by kernel_rfl) rfl rfl (⟨B05.out.cell 3 _ rfl, HC5.out⟩) (fun hHeld => ?_)
    have hdr : Below W5.heap.size W5 W5.drew := below_drew (Below.refl _ _)
    generalize W5.drew = W6 at *
    refine pure_ (i := 0) (N := some 51) (v := ?_) (a' := ?_) #[true, false, false, false, false, false, false, false, false, false, false, false, false, false, false] rfl rfl (by kernel_rfl) (fun _ _ _ h => h) (Or.inl ⟨by rfl, ?_⟩) ?_ ?_
    rotate_left
    ·intro w'
     go_simp
     with_reducible rfl
    rotate_left
    ·simp only [Act.put, List.setIfInBounds_toArray, List.set_cons_zero, List.set_cons_succ, i64_w, i32_w]
     rfl
    refine pure_ (i := 1) (N := some 52) (v := ?_) (a' := ?_) #[true, true, false, false, false, false, false, false, false, false, false, false, false, false, false] rfl rfl (by kernel_rfl) (fun _ _ _ h => h) (Or.inl ⟨by rfl, ?_⟩) ?_ ?_
    rotate_left
    ·intro w'
     go_simp
     with_reducible rfl
    rotate_left
    ·simp only [Act.put, List.setIfInBounds_toArray, List.set_cons_zero, List.set_cons_succ, i64_w, i32_w]
     rfl
    refine take_ (i := 2) (N := some 53) (v := ?_) (a' := ?_) #[true, true, true, false, false, false, false, false, false, false, false, false, false, false, false] rfl rfl (by kernel_rfl) (fun _ _ _ h => h) (Or.inl ⟨by rfl, ?_⟩) hHeld ?_ ?_
    rotate_left
    ·rintro w' ⟨s0, s1⟩
     go_simp
     with_reducible rfl
    rotate_left
    ·simp only [Act.put, List.setIfInBounds_toArray, List.set_cons_zero, List.set_cons_succ, i64_w, i32_w]
     rfl
    refine pure_ (i := 3) (N := some 54) (v := ?_) (a' := ?_) #[true, true, true, true, false, false, false, false, false, false, false, false, false, false, false] rfl rfl (by kernel_rfl) (fun _ _ _ h => h) (Or.inl ⟨by rfl, ?_⟩) ?_ ?_
    rotate_left
    ·intro w'
     go_simp
     with_reducible rfl
    rotate_left
    ·simp only [Act.put, List.setIfInBounds_toArray, List.set_cons_zero, List.set_cons_succ, i64_w, i32_w]
     rfl
    refine pure_ (i := 4) (N := some 55) (v := ?_) (a' := ?_) #[true, true, true, true, true, false, false, false, false, false, false, false, false, false, false] rfl rfl (by kernel_rfl) (fun _ _ _ h => h) (Or.inl ⟨by rfl, ?_⟩) ?_ ?_
    rotate_left
    ·intro w'
     go_simp
     with_reducible rfl
    rotate_left
    ·simp only [Act.put, List.setIfInBounds_toArray, List.set_cons_zero, List.set_cons_succ, i64_w, i32_w]
     rfl
    refine pure_ (i := 5) (N := some 56) (v := ?_) (a' := ?_) #[true, true, true, true, true, true, false, false, false, false, false, false, false, false, false] rfl rfl (by kernel_rfl) (fun _ _ _ h => h) (Or.inl ⟨by rfl, ?_⟩) ?_ ?_
    rotate_left
    ·intro w'
     go_simp
     with_reducible rfl
    rotate_left
    ·simp only [Act.put, List.setIfInBounds_toArray, List.set_cons_zero, List.set_cons_succ, i64_w, i32_w]
     rfl
    refine pure_ (i := 6) (N := some 57) (v := ?_) (a' := ?_) #[true, true, true, true, true, true, true, false, false, false, false, false, false, false, false] rfl rfl (by kernel_rfl) (fun _ _ _ h => h) (Or.inl ⟨by rfl, ?_⟩) ?_ ?_
    rotate_left
    ·intro w'
     go_simp
     with_reducible rfl
    rotate_left
    ·simp only [Act.put, List.setIfInBounds_toArray, List.set_cons_zero, List.set_cons_succ, i64_w, i32_w]
     rfl
    refine take_ (i := 7) (N := some 58) (v := ?_) (a' := ?_) #[true, true, true, true, true, true, true, true, false, false, false, false, false, false, false] rfl rfl (by kernel_rfl) (fun _ _ _ h => h) (Or.inl ⟨by rfl, ?_⟩) hHeld ?_ ?_
    rotate_left
    ·rintro w' ⟨s0, s1⟩
     go_simp
     with_reducible rfl
    rotate_left
    ·simp only [Act.put, List.setIfInBounds_toArray, List.set_cons_zero, List.set_cons_succ, i64_w, i32_w]
     rfl
    refine one_ (i := 8) (N := some 59) #[true, true, true, true, true, true, true, true, true, false, false, false, false, false, false] rfl rfl (by kernel_rfl) (by decide) (fun K hK => ?_)
    refine goesC_ hfA hnA hbA #[.slice A4 l.length c4, .int .i64 i, .bool hs, .string s] (by rfl) rfl rfl (by rfl) (by (try simp only [List.map_toArray, List.map_cons, List.map_nil]); first | done | rfl) ?_
    have hb6 := below_step HB5.out hdr
    have hcall := HACT.out l s (.slice A4 l.length c4) W6 ok1 (HO5.out.newer hdr) HR.out (Nat.le_trans HBS.out hb6.size) (HINV.out w W6 HIV.out (hb6.mono HBS.out)) (fun k hk => ⟨(HK1.out k hk).2.2.2, Nat.lt_of_lt_of_le (HK1.out k hk).2.1 hb6.size⟩)
    rw [← HI.out, ← HHS.out, ← hq] at hcall
    refine hcall.mono ?_
    clear hcall hq
    rintro o W7 ⟨v', rfl, hO7, hU7⟩
    have HO7 := Aside0.mk hO7
    have HU7 := Aside0.mk hU7
    obtain ⟨A5, c5, hv5, _⟩ := HO7.out.slice
    subst hv5
    obtain ⟨l2, hl2⟩ : ∃ l2, l2 = q.1 := ⟨_, rfl⟩
    obtain ⟨cq, hcq⟩ : ∃ cq, cq = q.2 := ⟨_, rfl⟩
    rw [← hl2] at HO7 HRES
    rw [← hcq] at HRES
    rw [← hl2, ← hcq]
    have HU6 : Aside0 (Upd ok1 w W7) := ⟨(Upd.of_below hb6 (S := ok1)).trans HU7.out (fun k hk => .inl hk)⟩
    have HS6 := Aside0.mk hb6.size
    have B06 := Aside0.mk ((B05.out.below hdr).upd HU7.out (fun h => by have := (HK1.out b0 h).2.1; have := HZ.out; omega))
    have B16 := Aside0.mk ((B15.out.below hdr).upd HU7.out (fun h => by have := (HK1.out b1 h).2.1; have := HZ.out; omega))
    have x03 := B06.out.cell 3 _ rfl
    have y03 := B06.out.frozen 3
    have hC7 := names_at HN.out HU6.out (fun k hk => (HK1.out k hk).1)
    clear hdr B05 B15 HB5 HO5 HU7 hO7 hU7 hl2 hcq hb6
    refine ⟨_, rfl, ?_⟩
    refine hK.out _ _ ⟨x03, hC7⟩ (fun _ => ?_)
    clear hK K
    refine pure_ (i := 9) (N := some 50) (v := ?_) (a' := ?_) #[true, true, true, true, true, true, true, true, true, true, false, false, false, false, false] rfl rfl (by kernel_rfl) (fun _ _ _ h => h) (Or.inl ⟨by rfl, ?_⟩) ?_ ?_
    rotate_left
    ·intro w'
     go_simp
     with_reducible rfl
    rotate_left
    ·simp only [Act.put, List.setIfInBounds_toArray, List.set_cons_zero, List.set_cons_succ, i64_w, i32_w]
     rfl
    refine pure_ (i := 10) (N := some 60) (v := ?_) (a' := ?_) #[true, true, true, true, true, true, true, true, true, true, true, false, false, false, false] rfl rfl (by kernel_rfl) (fun _ _ _ h => h) (Or.inl ⟨by rfl, ?_⟩) ?_ ?_
    rotate_left
    ·intro w'
     go_simp
     with_reducible rfl
    rotate_left
    ·simp only [Act.put, List.setIfInBounds_toArray, List.set_cons_zero, List.set_cons_succ, i64_w, i32_w]
     rfl
    refine pure_ (i := 11) (N := some 61) (v := ?_) (a' := ?_) #[true, true, true, true, true, true, true, true, true, true, true, true, false, false, false] rfl rfl (by kernel_rfl) (fun _ _ _ h => h) (Or.inl ⟨by rfl, ?_⟩) ?_ ?_
    rotate_left
    ·intro w'
     go_simp
     with_reducible rfl
    rotate_left
    ·simp only [Act.put, List.setIfInBounds_toArray, List.set_cons_zero, List.set_cons_succ, i64_w, i32_w]
     rfl
    refine pure_ (i := 12) (N := some 62) (v := ?_) (a' := ?_) #[true, true, true, true, true, true, true, true, true, true, true, true, true, false, false] rfl rfl (by kernel_rfl) (fun _ _ _ h => h) (Or.inl ⟨by rfl, ?_⟩) ?_ ?_
    rotate_left
    ·intro w'
     go_simp
     with_reducible rfl
    rotate_left
    ·simp only [Act.put, List.setIfInBounds_toArray, List.set_cons_zero, List.set_cons_succ, i64_w, i32_w]
     rfl
    refine last_ (i := 13) (N := none) #[true, true, true, true, true, true, true, true, true, true, true, true, true, true, false] rfl rfl (by kernel_rfl) (by decide) (fun K hK => ?_)
    refine skip_ (w1 := W7.setCell ⟨b0, 3, none⟩ (.slice A5 l2.length c5)) (by rfl) rfl ?_ ?_
    ·go_simp
    refine hK.out _ _ ?_
    clear hK K
    refine pure_ (i := 14) (N := some 10) (v := ?_) (a' := ?_) #[true, true, true, true, true, true, true, true, true, true, true, true, true, true, true] rfl rfl (by kernel_rfl) (fun _ _ _ h => h) (Or.inl ⟨by rfl, ?_⟩) ?_ ?_
    rotate_left
    ·intro w'
     go_simp
     with_reducible rfl
    rotate_left
    ·simp only [Act.put, List.setIfInBounds_toArray, List.set_cons_zero, List.set_cons_succ, i64_w, i32_w]
     rfl
    refine done_ (by kernel_rfl) ?_
    obtain ⟨W8, hW8⟩ : ∃ W8, W8 = W7.setCell ⟨b0, 3, none⟩ (.slice A5 l2.length c5) := ⟨_, rfl⟩
    have HU8 : Aside0 (Upd ok1 w W8) := ⟨by rw [hW8]; exact HU6.out.trans (Upd.setCell (S := fun k => k = b0) (p := ⟨b0, 3, none⟩) (.inl rfl) _) (fun k hk => .inr (by have := HZ.out; omega))⟩
    have B08 : Aside0 (Blk W8 b0 32 [.int .i64 3, .bool e, .string t, .slice A5 l2.length c5]) := ⟨by rw [hW8]; exact blk_put (cs := #[.int .i64 3, .bool e, .string t, .slice A4 l.length c4]) B06.out 3 _ rfl⟩
    have B18 : Aside0 (Blk W8 b1 32 [.int .i64 0, .bool false, .string ⟨#[]⟩, .slice none 0 0]) := ⟨by rw [hW8]; exact (Below.heap_setCell _ _ _ _ (by show b1 ≠ b0; exact fun e => HZ.out.2.2 e.symm)).trans B16.out⟩
    have HO8 : Aside0 (Own W8 base (fun k => ok1 k ∨ W6.heap.size ≤ k) (.slice A5 l2.length c5) l2) := ⟨by rw [hW8]; exact HO7.out.set B06.out (by decide) 3 _⟩
    rw [← hW8]
    clear hW8 x03 y03 B06 B16 HU6 HO7 hHeld HC5 hC7
    obtain ⟨x0, x1, x2, x3⟩ := cells4 B18.out
    obtain ⟨u0, u1, u2, u3⟩ := cells4 B08.out
    have y0 := B18.out.frozen 0
    have y1 := B18.out.frozen 1
    have y2 := B18.out.frozen 2
    have y3 := B18.out.frozen 3
    by_cases hq0 : cq = 0
    ·subst hq0
     go_wp2_with fail
     have HF := put4_upd (b := b1) (c0 := .int .i64 3) (c1 := .bool e) (c2 := .string t) (c3 := .slice A5 l2.length c5) HU8.out HZ.out.2.1
     have HG := put4_blk (c0 := .int .i64 3) (c1 := .bool e) (c2 := .string t) (c3 := .slice A5 l2.length c5) B18.out
     have HH := put4_own (c0 := .int .i64 3) (c1 := .bool e) (c2 := .string t) (c3 := .slice A5 l2.length c5) HO8.out B18.out
     obtain ⟨z0, z1, z2, z3⟩ := cells4 HG
     refine bodyPost_ret (v := .tuple #[.agg #[.int .i64 3, .bool e, .string t, .slice A5 l2.length c5], .int .i64 0]) (by simp [results, Tryd.results44, go_sem, z0, z1, z2, z3]) rfl ⟨HF.mono (fun k hk => (HK1.out k hk).1), fun h => ?_, fun h => ?_⟩
     ·rw [HRES.out]
      exact ⟨_, rfl, HH.mono (fun k hk => hk.elim (fun h => .inl (HK1.out k h).1) (fun h => .inr (by have := HS6.out; omega)))⟩
     ·rw [HRES.out] at h; exact absurd rfl h
    ·have HQ0 := Aside0.mk hq0
     have y4 : (cq != 0) = true := bne_iff_ne.mpr hq0
     clear hq0
     go_wp2_with fail
     have HF := put4_upd (b := b1) (c0 := .int .i64 0) (c1 := .bool false) (c2 := .string ⟨#[]⟩) (c3 := .slice none 0 0) HU8.out HZ.out.2.1
     have HG := put4_blk (c0 := .int .i64 0) (c1 := .bool false) (c2 := .string ⟨#[]⟩) (c3 := .slice none 0 0) B18.out
     obtain ⟨z0, z1, z2, z3⟩ := cells4 HG
     refine bodyPost_ret (v := .tuple #[.agg #[.int .i64 0, .bool false, .string ⟨#[]⟩, .slice none 0 0], .int .i64 cq]) (by simp [results, Tryd.results44, go_sem, z0, z1, z2, z3]) rfl ⟨HF.mono (fun k hk => (HK1.out k hk).1), fun h => ?_, fun h => ?_⟩
     ·rw [HRES.out, if_pos HQ0.out] at h; exact absurd h HQ0.out
     ·rw [HRES.out, if_pos HQ0.out]
   ·have t2 : ((n : Int) == 1) = false := beq_eq_false_iff_ne.mpr (by
     have h1 := HNL.out.1
     cases r with
     | nil => exact absurd rfl hr1
     | cons a b => rw [List.length_cons] at h1; omega)
    have HR1 := Aside0.mk hr1
    cases hs
    case false =>
     have HRES : Aside0 (chN act (s :: r) 3 l = ([], 3)) := ⟨by rw [chN, if_neg (by decide), if_neg hr1, ← HHS.out]; rfl⟩
     clear hr1
     have HU8 : Aside0 (Upd ok1 w W5) := ⟨Upd.of_below HB5.out⟩
     obtain ⟨x0, x1, x2, x3⟩ := cells4 B15.out
     have y0 := B15.out.frozen 0
     have y1 := B15.out.frozen 1
     have y2 := B15.out.frozen 2
     have y3 := B15.out.frozen 3
     go_wp2_with fail
     have HF := put4_upd (b := b1) (c0 := .int .i64 0) (c1 := .bool false) (c2 := .string ⟨#[]⟩) (c3 := .slice none 0 0) HU8.out HZ.out.2.1
     have HG := put4_blk (c0 := .int .i64 0) (c1 := .bool false) (c2 := .string ⟨#[]⟩) (c3 := .slice none 0 0) B15.out
     obtain ⟨z0, z1, z2, z3⟩ := cells4 HG
     refine bodyPost_ret (v := .tuple #[.agg #[.int .i64 0, .bool false, .string ⟨#[]⟩, .slice none 0 0], .int .i64 3]) (by simp [results, Tryd.results44, go_sem, z0, z1, z2, z3]) rfl ⟨HF.mono (fun k hk => (HK1.out k hk).1), fun h => ?_, fun h => ?_⟩
     ·rw [HRES.out] at h; exact absurd h (by decide)
     ·rw [HRES.out]
    case true =>
     obtain ⟨x, hx, _⟩ := hasN_at HHS.out.symm
     rw [← HI.out] at hx
     have hil : i < l.length := (List.getElem?_eq_some_iff.1 hx).1
     obtain ⟨q, hq⟩ : ∃ q, q = chN act r x.f1 x.f4 := ⟨_, rfl⟩
     have HRES : Aside0 (chN act (s :: r) 3 l = if q.2 ≠ 0 then ([], q.2) else (l.set i { x with f4 := q.1 }, 0)) := ⟨by rw [chN, if_neg (by decide), if_neg hr1, ← HHS.out, ← HI.out, hq, if_pos rfl, hx]⟩
     have HQ := Aside0.mk hq
     have h2n : 2 ≤ n := by
      have h1 := HNL.out.1
      cases r with
      | nil => exact absurd rfl hr1
      | cons a b => rw [List.length_cons] at h1; omega
     have c1 : ¬ c = 1 := by omega
     have p2 : (1 : Int) ≤ (n : Int) := by omega
     have HAD : Aside0 (ad.add 1 = ⟨ad.block, ad.off + 1, none⟩) := ⟨by have h := add_field ad 0 1 (by omega); rw [Nat.zero_add, Addr.add_zero'] at h; exact h⟩
     clear hr1 hq
     go_wp2_with fail
     have hO6 := HO5.out.newer (below_drew (Below.refl W5.heap.size W5))
     obtain ⟨ts, hts, hP⟩ := hO6.parts
     obtain ⟨td, htd, hxt⟩ : ∃ td, ts[i]? = some td ∧ td.x = x := by
      rw [hts, List.getElem?_map] at hx
      exact Option.map_eq_some_iff.1 hx
     have htl : ts.length = l.length := by rw [hts, List.length_map]
     have hrow := hP.row
     rcases hrow.2 with ⟨_, h0⟩ | ⟨g, cap, cur, hv, hbg, hg, hncap, hcapm, hcurs, htake⟩
     ·omega
     injection hv with hv1 hv2 hv3
     subst hv1
     obtain ⟨A6, c6, hu6, hl6⟩ := (hP.sub td (List.mem_of_getElem? htd)).slice
     have hce : ∀ j, j < 5 → W5.drew.cell? ⟨g, i * 5 + j, none⟩ = (ecells td.x td.u)[j]? := fun j hj => by
      have h1 := fl_at ts i td htd j hj
      obtain ⟨u, hu⟩ : ∃ u, (ecells td.x td.u)[j]? = some u := ⟨_, List.getElem?_eq_getElem (by rw [ecells_len]; exact hj)⟩
      have h2 := hrow.cells (g := g) rfl (i * 5 + j) u (by rw [h1, hu])
      rw [add_plain] at h2
      rw [h2, hu]
     rw [hxt, hu6] at hce
     have e1 := hce 1 (by omega)
     have e2 := hce 2 (by omega)
     have e3 := hce 3 (by omega)
     have e4 := hce 4 (by omega)
     rw [hxt] at e1 e2 e3 e4
     have p0 : (0 : Int) ≤ (i : Int) := by omega
     have p1 : (i : Int) < (l.length : Int) := by omega
     have hX5 : W5.drew.cell? ⟨b0, 3, none⟩ = some (.slice (some ⟨g, 0, none⟩) l.length c4) := (B05.out.below (below_drew (Below.refl _ _))).cell 3 _ rfl
     have HPP := Aside0.mk (And.intro hP (And.intro hts (And.intro htd (And.intro hxt (And.intro htl (And.intro hu6 (And.intro hg hl6)))))))
     clear hP hts htd hxt htl hu6 hg hl6 hrow hbg hncap hcapm hcurs htake hce hv2 hv3 hO6 hx
     refine start_ (n := 20) (S := fun w' => w'.cell? ⟨b0, 3, none⟩ = some (.slice (some ⟨g, 0, none⟩) l.length c4) ∧ w'.cell? ⟨g, i * 5 + 1, none⟩ = some (.int .i64 x.f1) ∧ w'.cell? ⟨g, i * 5 + 2, none⟩ = some (.bool x.f2) ∧ w'.cell? ⟨g, i * 5 + 3, none⟩ = some (.string x.f3) ∧ w'.cell? ⟨g, i * 5 + 4, none⟩ = some (.slice A6 x.f4.length c6)) (ds := [18]) #[false, false, false, false, false, false, false, false, false, false, false, false, false, false, false, false, false, false, false, false] (by kernel_rfl) rfl rfl (⟨hX5, e1, e2, e3, e4⟩) (fun hHeld => ?_)
     have hdr : Below W5.heap.size W5 W5.drew := below_drew (Below.refl _ _)
     generalize W5.drew = W6 at *
     refine pure_ (i := 0) (N := some 29) (v := ?_) (a' := ?_) #[true, false, false, false, false, false, false, false, false, false, false, false, false, false, false, false, false, false, false, false] rfl rfl (by kernel_rfl) (fun _ _ _ h => h) (Or.inl ⟨by rfl, ?_⟩) ?_ ?_
     rotate_left
     ·intro w'
      go_simp
      with_reducible rfl
     rotate_left
     ·simp only [Act.put, List.setIfInBounds_toArray, List.set_cons_zero, List.set_cons_succ, i64_w, i32_w]
      rfl
     refine take_ (i := 1) (N := some 30) (v := ?_) (a' := ?_) #[true, true, false, false, false, false, false, false, false, false, false, false, false, false, false, false, false, false, false, false] rfl rfl (by kernel_rfl) (fun _ _ _ h => h) (Or.inl ⟨by rfl, ?_⟩) hHeld ?_ ?_
     rotate_left
     ·rintro w' ⟨s0, s1, s2, s3, s4⟩
      go_simp
      with_reducible rfl
     rotate_left
     ·simp only [Act.put, List.setIfInBounds_toArray, List.set_cons_zero, List.set_cons_succ, i64_w, i32_w]
      rfl
     refine pure_ (i := 2) (N := some 31) (v := ?_) (a' := ?_) #[true, true, true, false, false, false, false, false, false, false, false, false, false, false, false, false, false, false, false, false] rfl rfl (by kernel_rfl) (fun _ _ _ h => h) (Or.inl ⟨by rfl, ?_⟩) ?_ ?_
     rotate_left
     ·intro w'
      go_simp
      with_reducible rfl
     rotate_left
     ·simp only [Act.put, List.setIfInBounds_toArray, List.set_cons_zero, List.set_cons_succ, i64_w, i32_w]
      rfl
     refine pure_ (i := 3) (N := some 32) (v := ?_) (a' := ?_) #[true, true, true, true, false, false, false, false, false, false, false, false, false, false, false, false, false, false, false, false] rfl rfl (by kernel_rfl) (fun _ _ _ h => h) (Or.inl ⟨by rfl, ?_⟩) ?_ ?_
     rotate_left
     ·intro w'
      go_simp
      with_reducible rfl
     rotate_left
     ·simp only [Act.put, List.setIfInBounds_toArray, List.set_cons_zero, List.set_cons_succ, i64_w, i32_w]
      rfl
     refine take_ (i := 4) (N := some 33) (v := ?_) (a' := ?_) #[true, true, true, true, true, false, false, false, false, false, false, false, false, false, false, false, false, false, false, false] rfl rfl (by kernel_rfl) (fun _ _ _ h => h) (Or.inl ⟨by rfl, ?_⟩) hHeld ?_ ?_
     rotate_left
     ·rintro w' ⟨s0, s1, s2, s3, s4⟩
      go_simp
      with_reducible rfl
     rotate_left
     ·simp only [Act.put, List.setIfInBounds_toArray, List.set_cons_zero, List.set_cons_succ, i64_w, i32_w]
      rfl
     refine pure_ (i := 5) (N := some 34) (v := ?_) (a' := ?_) #[true, true, true, true, true, true, false, false, false, false, false, false, false, false, false, false, false, false, false, false] rfl rfl (by kernel_rfl) (fun _ _ _ h => h) (Or.inl ⟨by rfl, ?_⟩) ?_ ?_
     rotate_left
     ·intro w'
      go_simp
      with_reducible rfl
     rotate_left
     ·simp only [Act.put, List.setIfInBounds_toArray, List.set_cons_zero, List.set_cons_succ, i64_w, i32_w]
      rfl
     refine pure_ (i := 6) (N := some 35) (v := ?_) (a' := ?_) #[true, true, true, true, true, true, true, false, false, false, false, false, false, false, false, false, false, false, false, false] rfl rfl (by kernel_rfl) (fun _ _ _ h => h) (Or.inl ⟨by rfl, ?_⟩) ?_ ?_
     rotate_left
     ·intro w'
      go_simp
      with_reducible rfl
     rotate_left
     ·simp only [Act.put, List.setIfInBounds_toArray, List.set_cons_zero, List.set_cons_succ, i64_w, i32_w]
      rfl
     refine pure_ (i := 7) (N := some 36) (v := ?_) (a' := ?_) #[true, true, true, true, true, true, true, true, false, false, false, false, false, false, false, false, false, false, false, false] rfl rfl (by kernel_rfl) (fun _ _ _ h => h) (Or.inl ⟨by rfl, ?_⟩) ?_ ?_
     rotate_left
     ·intro w'
      go_simp
      with_reducible rfl
     rotate_left
     ·simp only [Act.put, List.setIfInBounds_toArray, List.set_cons_zero, List.set_cons_succ, i64_w, i32_w]
      rfl
     refine take_ (i := 8) (N := some 37) (v := ?_) (a' := ?_) #[true, true, true, true, true, true, true, true, true, false, false, false, false, false, false, false, false, false, false, false] rfl rfl (by kernel_rfl) (fun _ _ _ h => h) (Or.inl ⟨by rfl, ?_⟩) hHeld ?_ ?_
     rotate_left
     ·rintro w' ⟨s0, s1, s2, s3, s4⟩
      go_simp
      with_reducible rfl
     rotate_left
     ·simp only [Act.put, List.setIfInBounds_toArray, List.set_cons_zero, List.set_cons_succ, i64_w, i32_w]
      rfl
     refine pure_ (i := 9) (N := some 38) (v := ?_) (a' := ?_) #[true, true, true, true, true, true, true, true, true, true, false, false, false, false, false, false, false, false, false, false] rfl rfl (by kernel_rfl) (fun _ _ _ h => h) (Or.inl ⟨by rfl, ?_⟩) ?_ ?_
     rotate_left
     ·intro w'
      go_simp
      with_reducible rfl
     rotate_left
     ·simp only [Act.put, List.setIfInBounds_toArray, List.set_cons_zero, List.set_cons_succ, i64_w, i32_w]
      rfl
     refine pure_ (i := 10) (N := some 39) (v := ?_) (a' := ?_) #[true, true, true, true, true, true, true, true, true, true, true, false, false, false, false, false, false, false, false, false] rfl rfl (by kernel_rfl) (fun _ _ _ h => h) (Or.inl ⟨by rfl, ?_⟩) ?_ ?_
     rotate_left
     ·intro w'
      go_simp
      with_reducible rfl
     rotate_left
     ·simp only [Act.put, List.setIfInBounds_toArray, List.set_cons_zero, List.set_cons_succ, i64_w, i32_w]
      rfl
     refine pure_ (i := 11) (N := some 40) (v := ?_) (a' := ?_) #[true, true, true, true, true, true, true, true, true, true, true, true, false, false, false, false, false, false, false, false] rfl rfl (by kernel_rfl) (fun _ _ _ h => h) (Or.inl ⟨by rfl, ?_⟩) ?_ ?_
     rotate_left
     ·intro w'
      go_simp
      with_reducible rfl
     rotate_left
     ·simp only [Act.put, List.setIfInBounds_toArray, List.set_cons_zero, List.set_cons_succ, i64_w, i32_w]
      rfl
     refine one_ (i := 12) (N := some 41) #[true, true, true, true, true, true, true, true, true, true, true, true, true, false, false, false, false, false, false, false] rfl rfl (by kernel_rfl) (by decide) (fun K hK => ?_)
     refine goes_ Tryd.func44 (by kernel_rfl) rfl #[.agg #[.int .i64 x.f1, .bool x.f2, .string x.f3, .slice A6 x.f4.length c6], .slice (some ⟨ad.block, ad.off + 1, none⟩) (n - 1) (c - 1), .func (.func fA) #[] capA] (by rfl) rfl rfl (by (try simp only [List.map_toArray, List.map_cons, List.map_nil]); first | done | rfl) ?_
     obtain ⟨hP, hts, htd, hxt, htl, hu6, hg, hl6⟩ := HPP.out
     have htm : td ∈ ts := List.mem_of_getElem? htd
     have hb6 := below_step HB5.out hdr
     have hnr : r.length = n - 1 := by have := HNL.out.1; omega
     have hxm : l[i]? = some x := by rw [hts, List.getElem?_map, htd, ← hxt]; rfl
     have hsub := hP.sub td htm
     rw [hu6, hxt] at hsub
     have hNN : NamesF W6 td.f (some ⟨ad.block, ad.off + 1, none⟩) r := by
      rw [← HAD.out]
      refine Kd.F_mono (Kd.F_imp (Kd.F_step HN.out (fun k hk hlt => hb6.block k hlt)) (n' := r.length) (A' := some (ad.add 1)) (xs' := r) (fun W' hW' => ?_)) (fun k hk => ⟨fun h => hk.1 (HK1.out k (hP.inn td htm k h).1.1).1, Nat.lt_of_lt_of_le hk.2 hb6.size⟩)
      have h1 := Kd.C_drop (c := c) (m := 1) hW' (by rw [List.length_cons]; omega) (by rw [HNL.out.2]; exact hc)
      rw [if_neg (by omega)] at h1
      exact h1
     have hIH := IH.out x.f1 x.f2 x.f3 (.slice A6 x.f4.length c6) x.f4 (some ⟨ad.block, ad.off + 1, none⟩) (c - 1) W6 td.f hsub (HR.out.at hxm) (Nat.le_trans HBS.out hb6.size) (HINV.out w W6 HIV.out (hb6.mono HBS.out)) hNN (by omega)
     rw [hnr] at hIH
     refine hIH.mono ?_
     clear hIH
     intro o W7 hpost
     have hUt : Upd td.f W6 W7 := hpost.upd
     have hU7 : Upd ok1 w W7 := (Upd.of_below hb6 (S := ok1)).trans hUt (fun k hk => .inl (hP.inn td htm k hk).1.1)
     have hgn : ¬ td.f g := fun h => (hP.inn td htm g h).2 rfl
     have hg7 : W7.heap[g]? = some (.cells cur eE (0, 0)) := (hUt.block g (Array.getElem?_eq_some_iff.1 hg).1 hgn).trans hg
     have hcell7 : ∀ j v, W6.cell? ⟨g, j, none⟩ = some v → W7.cell? ⟨g, j, none⟩ = some v := fun j v h => by
      rw [cell_of_row W7 g j cur _ _ hg7]
      rw [cell_of_row W6 g j cur _ _ hg] at h
      exact h
     have hb06 : Blk W7 b0 32 [.int .i64 3, .bool e, .string t, .slice (some ⟨g, 0, none⟩) l.length c4] := (B05.out.below hdr).upd hUt (fun h => by have := (HK1.out b0 (hP.inn td htm b0 h).1.1).2.1; have := HZ.out; omega)
     have hb16 : Blk W7 b1 32 [.int .i64 0, .bool false, .string ⟨#[]⟩, .slice none 0 0] := (B15.out.below hdr).upd hUt (fun h => by have := (HK1.out b1 (hP.inn td htm b1 h).1.1).2.1; have := HZ.out; omega)
     have hHeld7 : W7.cell? ⟨b0, 3, none⟩ = some (.slice (some ⟨g, 0, none⟩) l.length c4) ∧ W7.cell? ⟨g, i * 5 + 1, none⟩ = some (.int .i64 x.f1) ∧ W7.cell? ⟨g, i * 5 + 2, none⟩ = some (.bool x.f2) ∧ W7.cell? ⟨g, i * 5 + 3, none⟩ = some (.string x.f3) ∧ W7.cell? ⟨g, i * 5 + 4, none⟩ = some (.slice A6 x.f4.length c6) :=
      ⟨hb06.cell 3 _ rfl, hcell7 _ _ hHeld.2.1, hcell7 _ _ hHeld.2.2.1, hcell7 _ _ hHeld.2.2.2.1, hcell7 _ _ hHeld.2.2.2.2⟩
     have hfr : ∀ j, W7.frozen? ⟨g, j, none⟩ = false := fun j => blk_frozen hg7 j
     have w1 := hHeld7.2.1
     have w2 := hHeld7.2.2.1
     have w3 := hHeld7.2.2.2.1
     have w4 := hHeld7.2.2.2.2
     have z1 := hfr (i * 5 + 1)
     have z2 := hfr (i * 5 + 2)
     have z3 := hfr (i * 5 + 3)
     have z4 := hfr (i * 5 + 4)
     have hrow7 : W7.ownsRow base eE 5 (.slice (some ⟨g, 0, none⟩) l.length c4) ts.length (fl ts) := own_move hP.row (fun k hk => by
      have : g = k := by simpa [Value.ownBlock] using hk
      rw [← this, hg7, hg])
     rw [htl] at hrow7
     have HS6 := Aside0.mk hdr.size
     have hgok : ok1 g := (hP.own g rfl).1
     have hglt : g < w.heap.size := (HK1.out g hgok).2.1
     have hgb : b0 ≠ g ∧ b1 ≠ g := by have := HZ.out; omega
     have HPX := Aside0.mk (And.intro hP (And.intro hts (And.intro htd (And.intro hxt (And.intro htl (And.intro hgok (And.intro hgb (And.intro hUt (And.intro hU7 (And.intro hb06 (And.intro hb16 (And.intro hrow7 hxm))))))))))))
     clear hP hts htd hxt htl hu6 hg hl6 htm hb6 hnr hxm hsub hNN hUt hU7 hgn hg7 hcell7 hb06 hb16 hfr hrow7 hgok hglt hgb HPP IH HR HN hHeld hdr e1 e2 e3 e4 hX5
     by_cases hq0 : q.2 = 0
     ·obtain ⟨v8, ho8, hO8⟩ := hpost.yes (by rw [← HQ.out]; exact hq0)
      rw [← HQ.out] at hO8
      have HO8 := Aside0.mk hO8
      obtain ⟨A8, c8, hv8, _⟩ := hO8.slice
      subst hv8
      obtain ⟨l8, hl8⟩ : ∃ l8, l8 = q.1 := ⟨_, rfl⟩
      rw [← hl8] at ho8 HO8
      have HL8 := Aside0.mk hl8
      have HQ0 := Aside0.mk hq0
      clear hO8 hpost hl8 hq0
      refine ⟨_, ho8, ?_⟩
      clear ho8
      refine hK.out _ _ hHeld7 (fun _ => ?_)
      clear hK K hHeld7
      refine pure_ (i := 13) (N := some 28) (v := ?_) (a' := ?_) #[true, true, true, true, true, true, true, true, true, true, true, true, true, true, false, false, false, false, false, false] rfl rfl (by kernel_rfl) (fun _ _ _ h => h) (Or.inl ⟨by rfl, ?_⟩) ?_ ?_
      rotate_left
      ·intro w'
       go_simp
       with_reducible rfl
      rotate_left
      ·simp only [Act.put, List.setIfInBounds_toArray, List.set_cons_zero, List.set_cons_succ, i64_w, i32_w]
       rfl
      refine pure_ (i := 14) (N := some 42) (v := ?_) (a' := ?_) #[true, true, true, true, true, true, true, true, true, true, true, true, true, true, true, false, false, false, false, false] rfl rfl (by kernel_rfl) (fun _ _ _ h => h) (Or.inl ⟨by rfl, ?_⟩) ?_ ?_
      rotate_left
      ·intro w'
       go_simp
       with_reducible rfl
      rotate_left
      ·simp only [Act.put, List.setIfInBounds_toArray, List.set_cons_zero, List.set_cons_succ, i64_w, i32_w]
       rfl
      refine pure_ (i := 15) (N := some 43) (v := ?_) (a' := ?_) #[true, true, true, true, true, true, true, true, true, true, true, true, true, true, true, true, false, false, false, false] rfl rfl (by kernel_rfl) (fun _ _ _ h => h) (Or.inl ⟨by rfl, ?_⟩) ?_ ?_
      rotate_left
      ·intro w'
       go_simp
       with_reducible rfl
      rotate_left
      ·simp only [Act.put, List.setIfInBounds_toArray, List.set_cons_zero, List.set_cons_succ, i64_w, i32_w]
       rfl
      refine pure_ (i := 16) (N := some 44) (v := ?_) (a' := ?_) #[true, true, true, true, true, true, true, true, true, true, true, true, true, true, true, true, true, false, false, false] rfl rfl (by kernel_rfl) (fun _ _ _ h => h) (Or.inl ⟨by rfl, ?_⟩) ?_ ?_
      rotate_left
      ·intro w'
       go_simp
       with_reducible rfl
      rotate_left
      ·simp only [Act.put, List.setIfInBounds_toArray, List.set_cons_zero, List.set_cons_succ, i64_w, i32_w]
       rfl
      refine pure_ (i := 17) (N := some 45) (v := ?_) (a' := ?_) #[true, true, true, true, true, true, true, true, true, true, true, true, true, true, true, true, true, true, false, false] rfl rfl (by kernel_rfl) (fun _ _ _ h => h) (Or.inl ⟨by rfl, ?_⟩) ?_ ?_
      rotate_left
      ·intro w'
       go_simp
       with_reducible rfl
      rotate_left
      ·simp only [Act.put, List.setIfInBounds_toArray, List.set_cons_zero, List.set_cons_succ, i64_w, i32_w]
       rfl
      refine last_ (i := 18) (N := none) #[true, true, true, true, true, true, true, true, true, true, true, true, true, true, true, true, true, true, true, false] rfl rfl (by kernel_rfl) (by decide) (fun K hK => ?_)
      refine skip_ (w1 := (((W7.setCell ⟨g, i * 5 + 1, none⟩ (.int .i64 x.f1)).setCell ⟨g, i * 5 + 2, none⟩ (.bool x.f2)).setCell ⟨g, i * 5 + 3, none⟩ (.string x.f3)).setCell ⟨g, i * 5 + 4, none⟩ (.slice A8 l8.length c8)) (by rfl) rfl ?_ ?_
      ·go_simp
      refine hK.out _ _ ?_
      clear hK K w1 w2 w3 w4 z1 z2 z3 z4
      refine pure_ (i := 19) (N := some 10) (v := ?_) (a' := ?_) #[true, true, true, true, true, true, true, true, true, true, true, true, true, true, true, true, true, true, true, true] rfl rfl (by kernel_rfl) (fun _ _ _ h => h) (Or.inl ⟨by rfl, ?_⟩) ?_ ?_
      rotate_left
      ·intro w'
       go_simp
       with_reducible rfl
      rotate_left
      ·simp only [Act.put, List.setIfInBounds_toArray, List.set_cons_zero, List.set_cons_succ, i64_w, i32_w]
       rfl
      refine done_ (by kernel_rfl) ?_
      obtain ⟨W8, hW8⟩ : ∃ W8, W8 = (((W7.setCell ⟨g, i * 5 + 1, none⟩ (.int .i64 x.f1)).setCell ⟨g, i * 5 + 2, none⟩ (.bool x.f2)).setCell ⟨g, i * 5 + 3, none⟩ (.string x.f3)).setCell ⟨g, i * 5 + 4, none⟩ (.slice A8 l8.length c8) := ⟨_, rfl⟩
      obtain ⟨hP, hts, htd, hxt, htl, hgok, hgb, hUt, hU7, hb06, hb16, hrow7, hxm⟩ := HPX.out
      have hU78 : Upd (fun k => k = g) W7 W8 := by
       rw [hW8]
       exact (((Upd.setCell (S := fun k => k = g) (p := ⟨g, i * 5 + 1, none⟩) (.inl rfl) _).trans (Upd.setCell (S := fun k => k = g) (p := ⟨g, i * 5 + 2, none⟩) (.inl rfl) _) (fun k hk => .inl hk)).trans (Upd.setCell (S := fun k => k = g) (p := ⟨g, i * 5 + 3, none⟩) (.inl rfl) _) (fun k hk => .inl hk)).trans (Upd.setCell (S := fun k => k = g) (p := ⟨g, i * 5 + 4, none⟩) (.inl rfl) _) (fun k hk => .inl hk)
      have HU8 : Aside0 (Upd ok1 w W8) := ⟨hU7.trans hU78 (fun k hk => .inl (by rw [hk]; exact hgok))⟩
      have B08 := Aside0.mk (hb06.upd hU78 hgb.1)
      have B18 := Aside0.mk (hb16.upd hU78 hgb.2)
      have HO9 : Aside0 (Own W8 base (fun j => ok1 j ∨ W6.heap.size ≤ j) (.slice (some ⟨g, 0, none⟩) l.length c4) (l.set i { x with f4 := l8 })) := ⟨by
       have hrow8 : W8.ownsRow base eE 5 (.slice (some ⟨g, 0, none⟩) l.length c4) ts.length (fl (ts.set i ⟨{ x with f4 := l8 }, .slice A8 l8.length c8, fun j => td.f j ∨ W6.heap.size ≤ j⟩)) := by
        rw [show ({ x with f4 := l8 } : Ent) = ⟨td.x.f0, x.f1, x.f2, x.f3, l8⟩ from by rw [hxt], ← fl_store ts i td htd, hW8, htl]
        exact own_setAt (own_setAt (own_setAt (own_setAt hrow7 _ (by omega) _) _ (by omega) _) _ (by omega) _) _ (by omega) _
       have h1 := hP.put (w2 := W7) (w3 := W8) (okn := fun j => ok1 j ∨ W6.heap.size ≤ j) (fun k hk => hk.2.2.1) i td ⟨{ x with f4 := l8 }, .slice A8 l8.length c8, fun j => td.f j ∨ W6.heap.size ≤ j⟩ htd hUt HO8.out (fun k hk => hk) hrow8
        ⟨hU78.os, hU78.tape, hU78.output, hU78.size, fun k hk hn => hU78.block k hk (fun e => hn (by rw [e]; rfl))⟩ (fun k hk => .inl hk.1) (fun k hk => .inr hk)
       rw [List.map_set, ← hts] at h1
       exact h1⟩
      have HW6 : Aside0 (w.heap.size ≤ W6.heap.size) := ⟨Nat.le_trans HB5.out.size (by exact HS6.out)⟩
      rw [← hW8]
      clear hW8 hP hts htd hxt htl hgok hgb hUt hU7 hb06 hb16 hrow7 hxm hU78 HO8
      obtain ⟨x0, x1, x2, x3⟩ := cells4 B18.out
      obtain ⟨u0, u1, u2, u3⟩ := cells4 B08.out
      have y0 := B18.out.frozen 0
      have y1 := B18.out.frozen 1
      have y2 := B18.out.frozen 2
      have y3 := B18.out.frozen 3
      go_wp2_with fail
      have HF := put4_upd (b := b1) (c0 := .int .i64 3) (c1 := .bool e) (c2 := .string t) (c3 := .slice (some ⟨g, 0, none⟩) l.length c4) HU8.out HZ.out.2.1
      have HG := put4_blk (c0 := .int .i64 3) (c1 := .bool e) (c2 := .string t) (c3 := .slice (some ⟨g, 0, none⟩) l.length c4) B18.out
      have HH := put4_own (c0 := .int .i64 3) (c1 := .bool e) (c2 := .string t) (c3 := .slice (some ⟨g, 0, none⟩) l.length c4) HO9.out B18.out
      obtain ⟨z0, z1, z2, z3⟩ := cells4 HG
      refine bodyPost_ret (v := .tuple #[.agg #[.int .i64 3, .bool e, .string t, .slice (some ⟨g, 0, none⟩) l.length c4], .int .i64 0]) (by simp [results, Tryd.results44, go_sem, z0, z1, z2, z3]) rfl ⟨HF.mono (fun k hk => (HK1.out k hk).1), fun h => ?_, fun h => ?_⟩
      ·rw [HRES.out, if_neg (fun h => h HQ0.out), ← HL8.out]
       exact ⟨_, rfl, HH.mono (fun k hk => hk.elim (fun h => .inl (HK1.out k h).1) (fun h => .inr (by have := HW6.out; omega)))⟩
      ·rw [HRES.out, if_neg (fun h => h HQ0.out)] at h; exact absurd rfl h
     ·have ho8 := hpost.no (by rw [← HQ.out]; exact hq0)
      rw [← HQ.out] at ho8
      obtain ⟨cq, hcq⟩ : ∃ cq, cq = q.2 := ⟨_, rfl⟩
      rw [← hcq] at ho8 hq0
      have HCQ := Aside0.mk hcq
      have HQ0 := Aside0.mk hq0
      clear hpost hcq
      refine ⟨_, ho8, ?_⟩
      clear ho8
      refine hK.out _ _ hHeld7 (fun _ => ?_)
      clear hK K hHeld7
      refine pure_ (i := 13) (N := some 28) (v := ?_) (a' := ?_) #[true, true, true, true, true, true, true, true, true, true, true, true, true, true, false, false, false, false, false, false] rfl rfl (by kernel_rfl) (fun _ _ _ h => h) (Or.inl ⟨by rfl, ?_⟩) ?_ ?_
      rotate_left
      ·intro w'
       go_simp
       with_reducible rfl
      rotate_left
      ·simp only [Act.put, List.setIfInBounds_toArray, List.set_cons_zero, List.set_cons_succ, i64_w, i32_w]
       rfl
      refine pure_ (i := 14) (N := some 42) (v := ?_) (a' := ?_) #[true, true, true, true, true, true, true, true, true, true, true, true, true, true, true, false, false, false, false, false] rfl rfl (by kernel_rfl) (fun _ _ _ h => h) (Or.inl ⟨by rfl, ?_⟩) ?_ ?_
      rotate_left
      ·intro w'
       go_simp
       with_reducible rfl
      rotate_left
      ·simp only [Act.put, List.setIfInBounds_toArray, List.set_cons_zero, List.set_cons_succ, i64_w, i32_w]
       rfl
      refine pure_ (i := 15) (N := some 43) (v := ?_) (a' := ?_) #[true, true, true, true, true, true, true, true, true, true, true, true, true, true, true, true, false, false, false, false] rfl rfl (by kernel_rfl) (fun _ _ _ h => h) (Or.inl ⟨by rfl, ?_⟩) ?_ ?_
      rotate_left
      ·intro w'
       go_simp
       with_reducible rfl
      rotate_left
      ·simp only [Act.put, List.setIfInBounds_toArray, List.set_cons_zero, List.set_cons_succ, i64_w, i32_w]
       rfl
      refine pure_ (i := 16) (N := some 44) (v := ?_) (a' := ?_) #[true, true, true, true, true, true, true, true, true, true, true, true, true, true, true, true, true, false, false, false] rfl rfl (by kernel_rfl) (fun _ _ _ h => h) (Or.inl ⟨by rfl, ?_⟩) ?_ ?_
      rotate_left
      ·intro w'
       go_simp
       with_reducible rfl
      rotate_left
      ·simp only [Act.put, List.setIfInBounds_toArray, List.set_cons_zero, List.set_cons_succ, i64_w, i32_w]
       rfl
      refine pure_ (i := 17) (N := some 45) (v := ?_) (a' := ?_) #[true, true, true, true, true, true, true, true, true, true, true, true, true, true, true, true, true, true, false, false] rfl rfl (by kernel_rfl) (fun _ _ _ h => h) (Or.inl ⟨by rfl, ?_⟩) ?_ ?_
      rotate_left
      ·intro w'
       go_simp
       with_reducible rfl
      rotate_left
      ·simp only [Act.put, List.setIfInBounds_toArray, List.set_cons_zero, List.set_cons_succ, i64_w, i32_w]
       rfl
      refine last_ (i := 18) (N := none) #[true, true, true, true, true, true, true, true, true, true, true, true, true, true, true, true, true, true, true, false] rfl rfl (by kernel_rfl) (by decide) (fun K hK => ?_)
      refine skip_ (w1 := (((W7.setCell ⟨g, i * 5 + 1, none⟩ (.int .i64 0)).setCell ⟨g, i * 5 + 2, none⟩ (.bool false)).setCell ⟨g, i * 5 + 3, none⟩ (.string ⟨#[]⟩)).setCell ⟨g, i * 5 + 4, none⟩ (.slice none 0 0)) (by rfl) rfl ?_ ?_
      ·go_simp
      refine hK.out _ _ ?_
      clear hK K w1 w2 w3 w4 z1 z2 z3 z4
      refine pure_ (i := 19) (N := some 10) (v := ?_) (a' := ?_) #[true, true, true, true, true, true, true, true, true, true, true, true, true, true, true, true, true, true, true, true] rfl rfl (by kernel_rfl) (fun _ _ _ h => h) (Or.inl ⟨by rfl, ?_⟩) ?_ ?_
      rotate_left
      ·intro w'
       go_simp
       with_reducible rfl
      rotate_left
      ·simp only [Act.put, List.setIfInBounds_toArray, List.set_cons_zero, List.set_cons_succ, i64_w, i32_w]
       rfl
      refine done_ (by kernel_rfl) ?_
      obtain ⟨W8, hW8⟩ : ∃ W8, W8 = (((W7.setCell ⟨g, i * 5 + 1, none⟩ (.int .i64 0)).setCell ⟨g, i * 5 + 2, none⟩ (.bool false)).setCell ⟨g, i * 5 + 3, none⟩ (.string ⟨#[]⟩)).setCell ⟨g, i * 5 + 4, none⟩ (.slice none 0 0) := ⟨_, rfl⟩
      obtain ⟨hP, hts, htd, hxt, htl, hgok, hgb, hUt, hU7, hb06, hb16, hrow7, hxm⟩ := HPX.out
      have hU78 : Upd (fun k => k = g) W7 W8 := by
       rw [hW8]
       exact (((Upd.setCell (S := fun k => k = g) (p := ⟨g, i * 5 + 1, none⟩) (.inl rfl) _).trans (Upd.setCell (S := fun k => k = g) (p := ⟨g, i * 5 + 2, none⟩) (.inl rfl) _) (fun k hk => .inl hk)).trans (Upd.setCell (S := fun k => k = g) (p := ⟨g, i * 5 + 3, none⟩) (.inl rfl) _) (fun k hk => .inl hk)).trans (Upd.setCell (S := fun k => k = g) (p := ⟨g, i * 5 + 4, none⟩) (.inl rfl) _) (fun k hk => .inl hk)
      have HU8 : Aside0 (Upd ok1 w W8) := ⟨hU7.trans hU78 (fun k hk => .inl (by rw [hk]; exact hgok))⟩
      have B18 := Aside0.mk (hb16.upd hU78 hgb.2)
      rw [← hW8]
      clear hW8 hP hts htd hxt htl hgok hgb hUt hU7 hb06 hb16 hrow7 hxm hU78
      obtain ⟨x0, x1, x2, x3⟩ := cells4 B18.out
      have y0 := B18.out.frozen 0
      have y1 := B18.out.frozen 1
      have y2 := B18.out.frozen 2
      have y3 := B18.out.frozen 3
      have y4 : (cq != 0) = true := bne_iff_ne.mpr hq0
      clear hq0
      go_wp2_with fail
      have HF := put4_upd (b := b1) (c0 := .int .i64 0) (c1 := .bool false) (c2 := .string ⟨#[]⟩) (c3 := .slice none 0 0) HU8.out HZ.out.2.1
      have HG := put4_blk (c0 := .int .i64 0) (c1 := .bool false) (c2 := .string ⟨#[]⟩) (c3 := .slice none 0 0) B18.out
      obtain ⟨z0, z1, z2, z3⟩ := cells4 HG
      refine bodyPost_ret (v := .tuple #[.agg #[.int .i64 0, .bool false, .string ⟨#[]⟩, .slice none 0 0], .int .i64 cq]) (by simp [results, Tryd.results44, go_sem, z0, z1, z2, z3]) rfl ⟨HF.mono (fun k hk => (HK1.out k hk).1), fun h => ?_, fun h => ?_⟩
      ·rw [HRES.out, if_pos (by rw [← HCQ.out]; exact HQ0.out)] at h; exact absurd h (by rw [← HCQ.out]; exact HQ0.out)
      ·rw [HRES.out, if_pos (by rw [← HCQ.out]; exact HQ0.out), HCQ.out]
  ·have k1 : (k != 3) = true := bne_iff_ne.mpr hk3
   have HRES : Aside0 (chN act (s :: r) k l = ([], 65)) := ⟨by rw [chN, if_pos hk3]⟩
   clear hk3
   go_enter Tryd.func44, Tryd.ntmps44
   go_wp2_with fail
   refine bodyPost_ret (v := .tuple #[.agg #[.int .i64 0, .bool false, .string ⟨#[]⟩, .slice none 0 0], .int .i64 65]) (by simp [results, Tryd.results44, go_sem]) rfl ⟨Upd.of_below (below_alloc (below_alloc (Below.refl _ _) _) _), fun h => ?_, fun h => ?_⟩
   ·rw [HRES.out] at h; exact absurd h (by decide)
   ·rw [HRES.out]
end Go.Proofs.YtnemeeidomceiaaDoor
end
section
namespace Go.Proofs.YtnemeeidomceiaaDoor
open Go.RowKit Go.Proofs.YtnemeeidomceiaaDoorW.PrintWords Go.Proofs.YtnemeeidomceiaaDoorW.PrintLast Go.Proofs.YtnemeeidomceiaaDoorW.PrintMore
set_option linter.unusedVariables false
set_option linter.unusedSimpArgs false
theorem tsz_pos : ∀ (f : Nat) (x : Ent), wf f x → 1 ≤ tsz f x
 | 0, x, h => h.elim
 | f + 1, x, h => by
  have h1 := own_pos x.f1 x.f2 x.f3
  have h2 := ksz_nonneg f x.f4
  show 1 ≤ ownS x.f1 x.f2 x.f3 + ksz f x.f4
  omega
theorem ksz_len (f : Nat) : ∀ l : List Ent, (l.length : Int) ≤ ksz f l + 0 ∨ ¬ ∀ y, y ∈ l → wf f y
 | [] => .inl (by simp [ksz])
 | y :: l => by
  by_cases hy : wf f y
  ·rcases ksz_len f l with h | h
   ·have h1 := tsz_pos f y hy
    have h2 := entS_range y.f0
    rw [ksz_cons, List.length_cons]
    exact .inl (by omega)
   ·exact .inr (fun hh => h (fun z hz => hh z (List.mem_cons_of_mem _ hz)))
  ·exact .inr (fun hh => hy (hh y List.mem_cons_self))
theorem ksz_mem (f : Nat) : ∀ (l : List Ent) (y : Ent), y ∈ l → tsz f y ≤ ksz f l
 | [], y, h => by cases h
 | z :: l, y, h => by
  have h1 := entS_range z.f0
  have h2 := tsz_nonneg f z
  have h3 := ksz_nonneg f l
  rw [ksz_cons]
  rcases List.mem_cons.1 h with rfl | h
  ·omega
  ·have := ksz_mem f l y h; omega
theorem wf_AllR : ∀ (f : Nat) (x : Ent), wf f x → tsz f x ≤ 1048576 → AllR x.f4
 | 0, x, h, _ => h.elim
 | f + 1, x, h, hf => by
  have h1 := ownS_range x.f1 x.f2 x.f3
  have h2 : ownS x.f1 x.f2 x.f3 + ksz f x.f4 ≤ 1048576 := hf
  refine .mk h.2.2.1 ?_ (fun y hy => wf_AllR f y (h.2.2.2 y hy) (by have := ksz_mem f x.f4 y hy; omega))
  rcases ksz_len f x.f4 with h3 | h3
  ·omega
  ·exact absurd h.2.2.2 h3
theorem look_AllR {k : Int} {e : Bool} {t : ByteArray} {l : List Ent} (h : lookCode (lookL k e t l) = 0) : AllR l := by
 have hfair := nodeL_fair 32 ⟨#[]⟩ ⟨⟨#[]⟩, k, e, t, l⟩ magS
 cases hs : lookL k e t l with
 | bad p c =>
  rw [hs] at h
  unfold lookL at hs
  rw [hs] at hfair
  exact absurd h hfair
 | ok b rows =>
  obtain ⟨h1, h2, h3, _⟩ := (look_iff k e t l b rows).1 hs
  exact wf_AllR 32 ⟨⟨#[]⟩, k, e, t, l⟩ h1 (by omega)
/-- What the closure of tree.Cut makes. -/
def cutAct (l : List Ent) (i : Nat) (hs : Bool) (s : ByteArray) : List Ent × Int := if hs = true then (l.eraseIdx i, 0) else (l, 3)
/-- The names of a path, if the tree is well and the path one; the error's number. -/
def readyP (k : Int) (e : Bool) (t : ByteArray) (l : List Ent) (path : ByteArray) : List ByteArray × Int := if lookCode (lookL k e t l) ≠ 0 then ([], lookCode (lookL k e t l)) else ((splitP path).1, (splitP path).2.1)
set_option maxHeartbeats 2000000 in
set_option maxRecDepth 100000 in
theorem ready_calls (k : Int) (e : Bool) (t : ByteArray) (l : List Ent) (path : ByteArray) (A : Option Addr) (c : Nat) (w : World) (hC : Kd.C kE w A l.length l) (hc : l.length ≤ c) (hh : Held t l) (hp : path.size ≤ 140737488351232) :
  Calls Tryd.prog 37 #[.agg #[.int .i64 k, .bool e, .string t, .slice A l.length c], .string path] w fun o w' => ∃ v, o = .returned (.tuple #[v, .int .i64 (readyP k e t l path).2]) ∧ Kd.R Kd.string 9 w' w.heap.size (fun _ => True) v (readyP k e t l path).1 ∧ Below w.heap.size w w' := by
 obtain ⟨cd, hcd⟩ : ∃ cd, cd = lookCode (lookL k e t l) := ⟨_, rfl⟩
 obtain ⟨q, hq⟩ : ∃ q, q = lookPath (lookL k e t l) := ⟨_, rfl⟩
 obtain ⟨sp, hsp⟩ : ∃ sp, sp = splitP path := ⟨_, rfl⟩
 have HCD := Aside0.mk hcd
 have HC := Aside0.mk (And.intro hC hc)
 have HCK : Aside0 (∀ W, Below w.heap.size w W → Calls Tryd.prog 14 #[.agg #[.int .i64 k, .bool e, .string t, .slice A l.length c]] W fun e w' => e = .returned (.tuple #[.string q, .int .i64 cd]) ∧ Below W.heap.size W w') := ⟨fun W hb => tree_Check.calls k e t A c l q cd W (Kd.C_below hC hb) hc (by unfold tree_Check.f; rw [if_pos hh, hcd, hq])⟩
 have HSP : Aside0 (∀ W, Calls Tryd.prog 29 #[.string path] W fun e w' => ∃ v0_ : Value, e = .returned (.tuple #[v0_, .agg #[.int .i64 sp.2.1, .int .i64 sp.2.2]]) ∧ Kd.R Kd.string 9 w' W.heap.size (fun _ => True) v0_ sp.1 ∧ Below W.heap.size W w') := ⟨fun W => name_Split.calls path sp.1 sp.2.1 sp.2.2 W (by unfold name_Split.f; rw [if_pos hp, hsp])⟩
 unfold readyP
 rw [← hcd, ← hsp]
 clear hC hc hh hcd hq hsp
 by_cases hz : cd = 0
 ·subst hz
  rw [if_neg (by decide)]
  go_enter Tryd.func37, Tryd.ntmps37
  go_wp2_with fail
  have hb1 : Below w.heap.size w (w.alloc (.cells #[.int .i64 k, .bool e, .string t, .slice A l.length c] 32)) := below_alloc (Below.refl _ _) _
  (with_reducible refine (HCK.out _ hb1).mono ?_)
  rintro o w1 ⟨rfl, hb2⟩
  have HB1 := Aside0.mk (below_step hb1 hb2)
  clear hb1 hb2
  go_wp2_with fail
  (with_reducible refine (HSP.out w1).mono ?_)
  rintro o w2 ⟨v, rfl, hR, hb⟩
  obtain ⟨A2, c2, hv⟩ := Kd.R_slice hR
  subst hv
  have HR := Aside0.mk (Kd.R_lower hR HB1.out.size)
  have HB2 := Aside0.mk (below_step HB1.out hb)
  clear hR hb HB1
  go_wp2_with fail
  obtain ⟨W3, hW3⟩ : ∃ W3, W3 = w2.alloc (.cells #[.int .i64 sp.2.1, .int .i64 sp.2.2] 35) := ⟨_, rfl⟩
  have hbl : Blk W3 w2.heap.size 35 [.int .i64 sp.2.1, .int .i64 sp.2.2] := by rw [hW3]; exact Blk.new _ _ _
  have hb3 : Below w2.heap.size w2 W3 := by rw [hW3]; exact below_alloc (Below.refl _ _) _
  have HR3 := Aside0.mk (Kd.R_below HR.out hb3)
  have HB3 := Aside0.mk (below_step HB2.out hb3)
  have x0 := hbl.cell 0 _ rfl
  rw [← hW3]
  clear hW3 hb3 hbl
  go_quiet (fail)
  go_wp2_with fail
  go_ret2
  exact ⟨_, rfl, Kd.R_below HR3.out (pw_below_drewN (Below.refl _ _) _), below_step HB3.out (pw_below_drewN (Below.refl _ _) _)⟩
 ·have hz1 : (cd != 0) = true := bne_iff_ne.mpr hz
  rw [if_pos hz]
  clear hz
  go_enter Tryd.func37, Tryd.ntmps37
  go_wp2_with fail
  have hb1 : Below w.heap.size w (w.alloc (.cells #[.int .i64 k, .bool e, .string t, .slice A l.length c] 32)) := below_alloc (Below.refl _ _) _
  (with_reducible refine (HCK.out _ hb1).mono ?_)
  rintro o w1 ⟨rfl, hb2⟩
  have HB1 := Aside0.mk (below_step hb1 hb2)
  clear hb1 hb2
  go_wp2_with fail
  go_ret2
  exact ⟨_, rfl, Kd.R_nil _ _ _ _ _, HB1.out⟩
abbrev NodeT := Int × Bool × ByteArray × List Ent
def zeroT : NodeT := (0, false, ⟨#[]⟩, [])
/-- The tree without what stands at a path. -/
def cutP (k : Int) (e : Bool) (t : ByteArray) (l : List Ent) (path : ByteArray) : NodeT × Int :=
 if (readyP k e t l path).2 ≠ 0 then (zeroT, (readyP k e t l path).2)
 else if (readyP k e t l path).1 = [] then (zeroT, 66)
 else if (chN cutAct (readyP k e t l path).1 k l).2 ≠ 0 then (zeroT, (chN cutAct (readyP k e t l path).1 k l).2)
 else ((k, e, t, (chN cutAct (readyP k e t l path).1 k l).1), 0)
/-- What hands a tree back. -/
structure TreePost (w : World) (r : NodeT × Int) (o : Ending) (w' : World) : Prop where
 out : ∃ v, o = .returned (.tuple #[.agg #[.int .i64 r.1.1, .bool r.1.2.1, .string r.1.2.2.1, v], .int .i64 r.2]) ∧ Own w' w.heap.size (fun k => w.heap.size ≤ k) v r.1.2.2.2
 below : Below w.heap.size w w'
theorem TreePost.read {w w' : World} {r : NodeT × Int} {o : Ending} (h : TreePost w r o w') : ∃ v, o = .returned (.tuple #[.agg #[.int .i64 r.1.1, .bool r.1.2.1, .string r.1.2.2.1, v], .int .i64 r.2]) ∧ Kd.R kE eE w' w.heap.size (fun _ => True) v r.1.2.2.2 :=
 h.out.elim fun v hv => ⟨v, hv.1, Kd.R_mono hv.2.toR (fun _ _ => trivial)⟩
theorem Own.above {w : World} {b b0 : Nat} {ok : Nat → Prop} {v : Value} {l : List Ent} (h : Own w b ok v l) (hb : b0 ≤ b) : Own w b0 (fun k => b0 ≤ k) v l := (h.bound.lower hb).mono (fun k hk => Nat.le_trans hb hk.2.1)
theorem below_put4 {B : Nat} {w W : World} {b : Nat} {c0 c1 c2 c3 : Value} (h : Below B w W) (hb : B ≤ b) : Below B w ((((W.setCell ⟨b, 0, none⟩ c0).setCell ⟨b, 1, none⟩ c1).setCell ⟨b, 2, none⟩ c2).setCell ⟨b, 3, none⟩ c3) :=
 (((h.setCell (p := ⟨b, 0, none⟩) hb c0).setCell (p := ⟨b, 1, none⟩) hb c1).setCell (p := ⟨b, 2, none⟩) hb c2).setCell (p := ⟨b, 3, none⟩) hb c3
theorem Upd.toBelow {w w' : World} {S : Nat → Prop} {B : Nat} (h : Upd S w w') (hS : ∀ k, S k → B ≤ k) (hB : B ≤ w.heap.size) : Below B w w' := h.below hS hB
end Go.Proofs.YtnemeeidomceiaaDoor
end
section
namespace Go.Proofs.YtnemeeidomceiaaDoor
open Go.RowKit Go.Proofs.YtnemeeidomceiaaDoorW.PrintWords Go.Proofs.YtnemeeidomceiaaDoorW.PrintLast Go.Proofs.YtnemeeidomceiaaDoorW.PrintMore
set_option linter.unusedVariables false
set_option linter.unusedSimpArgs false
/-- A kid's node. -/
def nodeOf (x : Ent) : NodeT := (x.f1, x.f2, x.f3, x.f4)
/-- What stands at these names; the error's number. -/
def getN : List ByteArray → NodeT → NodeT × Int
 | [], n => (n, 0)
 | s :: r, n => if n.1 ≠ 3 then (zeroT, 65) else match (if hasN n.2.2.2 s = true then n.2.2.2[rk n.2.2.2 s]? else none) with
  | none => (zeroT, 3)
  | some x => getN r (nodeOf x)
def getP (n : NodeT) (path : ByteArray) : NodeT × Int := if (readyP n.1 n.2.1 n.2.2.1 n.2.2.2 path).2 ≠ 0 then (zeroT, (readyP n.1 n.2.1 n.2.2.1 n.2.2.2 path).2) else getN (readyP n.1 n.2.1 n.2.2.1 n.2.2.2 path).1 n
theorem Fit.at_ {l : List Ent} (h : Fit l) {x : Ent} (hx : x ∈ l) : Fit x.f4 := by
 cases h with
 | mk h k => exact k x hx
theorem names_drop {w : World} {A : Option Addr} {ns : List ByteArray} (hC : Kd.C Kd.string w A ns.length ns) (j : Nat) (hj : j < ns.length) : ∃ ad, A = some ad ∧ w.cell? (ad.add j) = some (.string (ns[j]'hj)) := by
 obtain ⟨ad, hA, hc⟩ := Kd.at_string hC (j : Int) (by omega) (by omega)
 refine ⟨ad, hA, ?_⟩
 simp only [Int.toNat_natCast] at hc
 rw [hc]
 simp [rdOf, hj]
end Go.Proofs.YtnemeeidomceiaaDoor
end
section
namespace Go.Proofs.YtnemeeidomceiaaDoor
open Go.RowKit Go.Proofs.YtnemeeidomceiaaDoorW.PrintWords Go.Proofs.YtnemeeidomceiaaDoorW.PrintLast Go.Proofs.YtnemeeidomceiaaDoorW.PrintMore
set_option linter.unusedVariables false
set_option linter.unusedSimpArgs false
def EqPost (p : Prop) (w : World) (o : Ending) (w' : World) : Prop := ∃ b : Bool, o = .returned (.bool b) ∧ (b = true ↔ p) ∧ Below w.heap.size w w'
theorem toList_eq {a b : ByteArray} : a.toList = b.toList ↔ a = b := by
 rw [Lib.toList_data, Lib.toList_data]
 exact ⟨fun h => by cases a; cases b; congr; exact Array.toList_inj.1 h, fun h => by rw [h]⟩
theorem drop_at {l : List Ent} {j : Nat} (h : j < l.length) : l.drop j = rd_T63 l (j : Int) :: l.drop (j + 1) := by
 rw [List.drop_eq_getElem_cons h]
 simp [rd_T63, h]
set_option maxHeartbeats 4000000 in
set_option maxRecDepth 100000 in
theorem refEq_calls (la : List Ent) (hf : Fit la) : ∀ (ka : Int) (ea : Bool) (ta : ByteArray) (Aa : Option Addr) (ca : Nat) (kb : Int) (eb : Bool) (tb : ByteArray) (lb : List Ent) (Ab : Option Addr) (cb : Nat) (w : World), Kd.C kE w Aa la.length la → la.length ≤ ca → Kd.C kE w Ab lb.length lb → lb.length ≤ cb →
  Calls Tryd.prog 13 #[.agg #[.int .i64 ka, .bool ea, .string ta, .slice Aa la.length ca], .agg #[.int .i64 kb, .bool eb, .string tb, .slice Ab lb.length cb]] w (EqPost ((ka, ea, ta, la) = (kb, eb, tb, lb)) w) := by
 induction hf with
 | @mk la hn _ ih =>
 intro ka ea ta Aa ca kb eb tb lb Ab cb w hCa hca hCb hcb
 have HC := Aside0.mk (And.intro hCa (And.intro hca (And.intro hCb hcb)))
 have IH := Aside0.mk ih
 obtain ⟨n, hnl⟩ : ∃ n, n = la.length := ⟨_, rfl⟩
 obtain ⟨m, hml⟩ : ∃ m, m = lb.length := ⟨_, rfl⟩
 have HN := Aside0.mk (And.intro hnl hml)
 have hnb : n ≤ 4611686018427387903 := by omega
 rw [← hnl, ← hml]
 obtain ⟨p, hp⟩ : ∃ p : Prop, p = ((ka, ea, ta, la) = (kb, eb, tb, lb)) := ⟨_, rfl⟩
 rw [← hp]
 have HP := Aside0.mk hp
 have hbw : ∀ a b, Below w.heap.size w ((w.alloc a).alloc b) := fun a b => below_alloc (below_alloc (Below.refl _ _) _) _
 have HBW := Aside0.mk hbw
 clear hCa hca hCb hcb ih hnl hml hp hbw
 by_cases c1 : ka = kb
 case neg =>
  have d1 : (ka != kb) = true := bne_iff_ne.mpr c1
  have HQ : Aside0 ¬ p := ⟨by rw [HP.out]; exact fun h => c1 (congrArg (·.1) h)⟩
  clear c1
  go_enter Tryd.func13, Tryd.ntmps13
  go_wp2
  go_ret
  exact ⟨false, rfl, ⟨fun h => (by cases h), fun h => absurd h HQ.out⟩, HBW.out _ _⟩
 have d1 : (ka != kb) = false := bne_eq_false_iff_eq.mpr c1
 by_cases c2 : ea = eb
 case neg =>
  have HQ : Aside0 ¬ p := ⟨by rw [HP.out]; exact fun h => c2 (congrArg (·.2.1) h)⟩
  clear c1
  cases ea <;> cases eb <;> first | exact absurd rfl c2 | clear c2
  all_goals
   go_enter Tryd.func13, Tryd.ntmps13
   go_wp2
   go_ret
   exact ⟨false, rfl, ⟨fun h => (by cases h), fun h => absurd h HQ.out⟩, HBW.out _ _⟩
 subst c2
 have d2 : (ea != ea) = false := bne_eq_false_iff_eq.mpr rfl
 by_cases c3 : ta.toList = tb.toList
 case neg =>
  have d3 : (ta.toList != tb.toList) = true := bne_iff_ne.mpr c3
  have d3b : (ta.toList == tb.toList) = false := beq_eq_false_iff_ne.mpr c3
  have HQ : Aside0 ¬ p := ⟨by rw [HP.out]; exact fun h => c3 (congrArg (fun q => q.2.2.1.toList) h)⟩
  clear c1 c3
  go_enter Tryd.func13, Tryd.ntmps13
  go_wp2
  go_ret
  exact ⟨false, rfl, ⟨fun h => (by cases h), fun h => absurd h HQ.out⟩, HBW.out _ _⟩
 have d3 : (ta.toList != tb.toList) = false := bne_eq_false_iff_eq.mpr c3
 have d3b : (ta.toList == tb.toList) = true := beq_iff_eq.mpr c3
 by_cases c4 : n = m
 case neg =>
  have d4 : ((n : Int) != (m : Int)) = true := bne_iff_ne.mpr (by omega)
  have d5 : (n != m) = true := bne_iff_ne.mpr c4
  have HQ : Aside0 ¬ p := ⟨by rw [HP.out]; exact fun h => c4 (by rw [HN.out.1, HN.out.2]; exact congrArg (fun q => q.2.2.2.length) h)⟩
  clear c1 c3 c4
  go_enter Tryd.func13, Tryd.ntmps13
  go_wp2
  go_ret
  exact ⟨false, rfl, ⟨fun h => (by cases h), fun h => absurd h HQ.out⟩, HBW.out _ _⟩
 subst c4
 have d4 : ((n : Int) != (n : Int)) = false := bne_eq_false_iff_eq.mpr rfl
 have HPE : Aside0 (p ↔ la.drop 0 = lb.drop 0) := ⟨by rw [HP.out, c1, toList_eq.1 c3]; simp⟩
 clear c1 c3
 go_enter Tryd.func13, Tryd.ntmps13
 go_wp2
 obtain ⟨W2, hW2⟩ : ∃ W2, W2 = (w.alloc (.cells #[.int .i64 ka, .bool ea, .string ta, .slice Aa n ca] 32)).alloc (.cells #[.int .i64 kb, .bool ea, .string tb, .slice Ab n cb] 32) := ⟨_, rfl⟩
 rw [← hW2]
 obtain ⟨b0, hb0⟩ : ∃ b, b = w.heap.size := ⟨_, rfl⟩
 obtain ⟨b1, hb1⟩ : ∃ b, b = w.heap.size + 1 := ⟨_, rfl⟩
 rw [← hb1, ← hb0]
 have B0 : Aside0 (Blk W2 b0 32 [.int .i64 ka, .bool ea, .string ta, .slice Aa n ca]) := ⟨by rw [hW2, hb0]; exact (Blk.new w _ [.int .i64 ka, .bool ea, .string ta, .slice Aa n ca]).alloc _⟩
 have B1 : Aside0 (Blk W2 b1 32 [.int .i64 kb, .bool ea, .string tb, .slice Ab n cb]) := ⟨by rw [hW2]; exact Blk.new' _ _ [.int .i64 kb, .bool ea, .string tb, .slice Ab n cb] (by rw [hb1]; simp)⟩
 have HB : Aside0 (Below w.heap.size w W2) := ⟨by rw [hW2]; exact HBW.out _ _⟩
 clear hW2 hb0 hb1 d1 d2 d3 d4
 go_loopw [5] (fun v wr => ∃ j : Nat, j ≤ n ∧ v = .int .i64 j ∧ Aside0 (p ↔ la.drop j = lb.drop j) ∧ Aside0 (Below W2.heap.size W2 wr)) (fun v _ => n - (intOf v).toNat)
 case atStart => exact ⟨0, Nat.zero_le _, rfl, HPE, ⟨Below.refl _ _⟩⟩
 case round =>
  clear HPE
  obtain ⟨j, hj, rfl, HPJ, HBR⟩ := hrel
  have B0r := Aside0.mk (B0.out.below HBR.out)
  have B1r := Aside0.mk (B1.out.below HBR.out)
  obtain ⟨_, _, _, u3⟩ := cells4 B0r.out
  obtain ⟨_, _, _, v3⟩ := cells4 B1r.out
  have HBW2 := Aside0.mk (HB.out.trans (HBR.out.mono HB.out.size))
  by_cases hlt : j < n
  ·have p0 : (0 : Int) ≤ (j : Int) := by omega
   have p1 : (j : Int) < (n : Int) := by omega
   have hda := drop_at (l := la) (j := j) (by rw [← HN.out.1]; exact hlt)
   have hdb := drop_at (l := lb) (j := j) (by rw [← HN.out.2]; exact hlt)
   obtain ⟨ad, A4, c4, hA, e0, e1, e2, e3, e4, hl4, hC4⟩ := at_T63 HC.out.1 (j : Int) (by omega) (by rw [← HN.out.1]; omega)
   obtain ⟨bd, A5, c5, hB, f0, f1, f2, f3, f4, hl5, hC5⟩ := at_T63 HC.out.2.2.1 (j : Int) (by omega) (by rw [← HN.out.2]; omega)
   have h2 : j < la.length := by rw [← HN.out.1]; exact hlt
   have hxm : rd_T63 la (j : Int) ∈ la := by simp [rd_T63, h2]
   clear h2
   generalize rd_T63 la (j : Int) = x at *
   generalize rd_T63 lb (j : Int) = y at *
   subst hA hB
   simp only [Int.toNat_natCast] at e0 e1 e2 e3 e4 f0 f1 f2 f3 f4
   have HX := Aside0.mk (And.intro hda (And.intro hdb hxm))
   have HC4 := Aside0.mk (And.intro hC4 (And.intro hl4 (And.intro hC5 hl5)))
   have E := Aside0.mk (And.intro e1 (And.intro e2 (And.intro e3 (And.intro e4 (And.intro f1 (And.intro f2 (And.intro f3 f4)))))))
   replace e0 := pw_cell_below HBW2.out e0
   replace f0 := pw_cell_below HBW2.out f0
   clear hda hdb hxm hC4 hl4 hC5 hl5 e1 e2 e3 e4 f1 f2 f3 f4
   by_cases c5 : x.f0.toList = y.f0.toList
   ·have d5 : (x.f0.toList != y.f0.toList) = false := bne_eq_false_iff_eq.mpr c5
    have d5b : (x.f0.toList == y.f0.toList) = true := beq_iff_eq.mpr c5
    have HC5 := Aside0.mk c5
    clear c5
    go_wp2_with fail
    go_quiet (fail)
    go_wp2_with fail
    have hb3 : Below wr.heap.size wr (wr.drewN nq) := pw_below_drewN (Below.refl _ _) _
    generalize wr.drewN nq = W3 at *
    have hbw3 := below_step HBW2.out hb3
    obtain ⟨a1, a2, a3, a4, a5, a6, a7, a8⟩ := E.out
    replace a1 := pw_cell_below hbw3 a1
    replace a2 := pw_cell_below hbw3 a2
    replace a3 := pw_cell_below hbw3 a3
    replace a4 := pw_cell_below hbw3 a4
    replace a5 := pw_cell_below hbw3 a5
    replace a6 := pw_cell_below hbw3 a6
    replace a7 := pw_cell_below hbw3 a7
    replace a8 := pw_cell_below hbw3 a8
    have B03 := Aside0.mk (B0r.out.below hb3)
    have B13 := Aside0.mk (B1r.out.below hb3)
    refine start_ (n := 14) (S := fun w' => w'.cell? ⟨b0, 3, none⟩ = some (.slice (some ad) n ca) ∧ w'.cell? ⟨b1, 3, none⟩ = some (.slice (some bd) n cb) ∧ w'.cell? ⟨(ad.add (j * 5)).block, (ad.add (j * 5)).off + 1, none⟩ = some (.int .i64 x.f1) ∧ w'.cell? ⟨(ad.add (j * 5)).block, (ad.add (j * 5)).off + 2, none⟩ = some (.bool x.f2) ∧ w'.cell? ⟨(ad.add (j * 5)).block, (ad.add (j * 5)).off + 3, none⟩ = some (.string x.f3) ∧ w'.cell? ⟨(ad.add (j * 5)).block, (ad.add (j * 5)).off + 4, none⟩ = some (.slice A4 x.f4.length c4) ∧ w'.cell? ⟨(bd.add (j * 5)).block, (bd.add (j * 5)).off + 1, none⟩ = some (.int .i64 y.f1) ∧ w'.cell? ⟨(bd.add (j * 5)).block, (bd.add (j * 5)).off + 2, none⟩ = some (.bool y.f2) ∧ w'.cell? ⟨(bd.add (j * 5)).block, (bd.add (j * 5)).off + 3, none⟩ = some (.string y.f3) ∧ w'.cell? ⟨(bd.add (j * 5)).block, (bd.add (j * 5)).off + 4, none⟩ = some (.slice A5 y.f4.length c5)) (ds := []) #[false, false, false, false, false, false, false, false, false, false, false, false, false, false] (by kernel_rfl) rfl rfl (⟨B03.out.cell 3 _ rfl, B13.out.cell 3 _ rfl, a1, a2, a3, a4, a5, a6, a7, a8⟩) (fun hHeld => ?_)
    have hdr : Below W3.heap.size W3 W3.drew := below_drew (Below.refl _ _)
    generalize W3.drew = W4 at *
    refine pure_ (i := 0) (N := some 55) (v := ?_) (a' := ?_) #[true, false, false, false, false, false, false, false, false, false, false, false, false, false] rfl rfl (by kernel_rfl) (fun _ _ _ h => h) (Or.inl ⟨by rfl, ?_⟩) ?_ ?_
    rotate_left
    ·intro w'
     go_simp
     with_reducible rfl
    rotate_left
    ·simp only [Act.put, List.setIfInBounds_toArray, List.set_cons_zero, List.set_cons_succ, i64_w, i32_w]
     rfl
    refine take_ (i := 1) (N := some 56) (v := ?_) (a' := ?_) #[true, true, false, false, false, false, false, false, false, false, false, false, false, false] rfl rfl (by kernel_rfl) (fun _ _ _ h => h) (Or.inl ⟨by rfl, ?_⟩) hHeld ?_ ?_
    rotate_left
    ·rintro w' ⟨s0, s1, s2, s3, s4, s5, s6, s7, s8, s9⟩
     go_simp
     with_reducible rfl
    rotate_left
    ·simp only [Act.put, List.setIfInBounds_toArray, List.set_cons_zero, List.set_cons_succ, i64_w, i32_w]
     rfl
    refine pure_ (i := 2) (N := some 57) (v := ?_) (a' := ?_) #[true, true, true, false, false, false, false, false, false, false, false, false, false, false] rfl rfl (by kernel_rfl) (fun _ _ _ h => h) (Or.inl ⟨by rfl, ?_⟩) ?_ ?_
    rotate_left
    ·intro w'
     go_simp
     with_reducible rfl
    rotate_left
    ·simp only [Act.put, List.setIfInBounds_toArray, List.set_cons_zero, List.set_cons_succ, i64_w, i32_w]
     rfl
    refine pure_ (i := 3) (N := some 58) (v := ?_) (a' := ?_) #[true, true, true, true, false, false, false, false, false, false, false, false, false, false] rfl rfl (by kernel_rfl) (fun _ _ _ h => h) (Or.inl ⟨by rfl, ?_⟩) ?_ ?_
    rotate_left
    ·intro w'
     go_simp
     with_reducible rfl
    rotate_left
    ·simp only [Act.put, List.setIfInBounds_toArray, List.set_cons_zero, List.set_cons_succ, i64_w, i32_w]
     rfl
    refine pure_ (i := 4) (N := some 59) (v := ?_) (a' := ?_) #[true, true, true, true, true, false, false, false, false, false, false, false, false, false] rfl rfl (by kernel_rfl) (fun _ _ _ h => h) (Or.inl ⟨by rfl, ?_⟩) ?_ ?_
    rotate_left
    ·intro w'
     go_simp
     with_reducible rfl
    rotate_left
    ·simp only [Act.put, List.setIfInBounds_toArray, List.set_cons_zero, List.set_cons_succ, i64_w, i32_w]
     rfl
    refine take_ (i := 5) (N := some 60) (v := ?_) (a' := ?_) #[true, true, true, true, true, true, false, false, false, false, false, false, false, false] rfl rfl (by kernel_rfl) (fun _ _ _ h => h) (Or.inl ⟨by rfl, ?_⟩) hHeld ?_ ?_
    rotate_left
    ·rintro w' ⟨s0, s1, s2, s3, s4, s5, s6, s7, s8, s9⟩
     go_simp
     with_reducible rfl
    rotate_left
    ·simp only [Act.put, List.setIfInBounds_toArray, List.set_cons_zero, List.set_cons_succ, i64_w, i32_w]
     rfl
    refine pure_ (i := 6) (N := some 61) (v := ?_) (a' := ?_) #[true, true, true, true, true, true, true, false, false, false, false, false, false, false] rfl rfl (by kernel_rfl) (fun _ _ _ h => h) (Or.inl ⟨by rfl, ?_⟩) ?_ ?_
    rotate_left
    ·intro w'
     go_simp
     with_reducible rfl
    rotate_left
    ·simp only [Act.put, List.setIfInBounds_toArray, List.set_cons_zero, List.set_cons_succ, i64_w, i32_w]
     rfl
    refine take_ (i := 7) (N := some 62) (v := ?_) (a' := ?_) #[true, true, true, true, true, true, true, true, false, false, false, false, false, false] rfl rfl (by kernel_rfl) (fun _ _ _ h => h) (Or.inl ⟨by rfl, ?_⟩) hHeld ?_ ?_
    rotate_left
    ·rintro w' ⟨s0, s1, s2, s3, s4, s5, s6, s7, s8, s9⟩
     go_simp
     with_reducible rfl
    rotate_left
    ·simp only [Act.put, List.setIfInBounds_toArray, List.set_cons_zero, List.set_cons_succ, i64_w, i32_w]
     rfl
    refine pure_ (i := 8) (N := some 63) (v := ?_) (a' := ?_) #[true, true, true, true, true, true, true, true, true, false, false, false, false, false] rfl rfl (by kernel_rfl) (fun _ _ _ h => h) (Or.inl ⟨by rfl, ?_⟩) ?_ ?_
    rotate_left
    ·intro w'
     go_simp
     with_reducible rfl
    rotate_left
    ·simp only [Act.put, List.setIfInBounds_toArray, List.set_cons_zero, List.set_cons_succ, i64_w, i32_w]
     rfl
    refine pure_ (i := 9) (N := some 64) (v := ?_) (a' := ?_) #[true, true, true, true, true, true, true, true, true, true, false, false, false, false] rfl rfl (by kernel_rfl) (fun _ _ _ h => h) (Or.inl ⟨by rfl, ?_⟩) ?_ ?_
    rotate_left
    ·intro w'
     go_simp
     with_reducible rfl
    rotate_left
    ·simp only [Act.put, List.setIfInBounds_toArray, List.set_cons_zero, List.set_cons_succ, i64_w, i32_w]
     rfl
    refine pure_ (i := 10) (N := some 65) (v := ?_) (a' := ?_) #[true, true, true, true, true, true, true, true, true, true, true, false, false, false] rfl rfl (by kernel_rfl) (fun _ _ _ h => h) (Or.inl ⟨by rfl, ?_⟩) ?_ ?_
    rotate_left
    ·intro w'
     go_simp
     with_reducible rfl
    rotate_left
    ·simp only [Act.put, List.setIfInBounds_toArray, List.set_cons_zero, List.set_cons_succ, i64_w, i32_w]
     rfl
    refine take_ (i := 11) (N := some 66) (v := ?_) (a' := ?_) #[true, true, true, true, true, true, true, true, true, true, true, true, false, false] rfl rfl (by kernel_rfl) (fun _ _ _ h => h) (Or.inl ⟨by rfl, ?_⟩) hHeld ?_ ?_
    rotate_left
    ·rintro w' ⟨s0, s1, s2, s3, s4, s5, s6, s7, s8, s9⟩
     go_simp
     with_reducible rfl
    rotate_left
    ·simp only [Act.put, List.setIfInBounds_toArray, List.set_cons_zero, List.set_cons_succ, i64_w, i32_w]
     rfl
    refine one_ (i := 12) (N := some 67) #[true, true, true, true, true, true, true, true, true, true, true, true, true, false] rfl rfl (by kernel_rfl) (by decide) (fun K hK => ?_)
    have hb4 := below_step hbw3 hdr
    refine goes_ Tryd.func13 (by kernel_rfl) rfl #[.agg #[.int .i64 x.f1, .bool x.f2, .string x.f3, .slice A4 x.f4.length c4], .agg #[.int .i64 y.f1, .bool y.f2, .string y.f3, .slice A5 y.f4.length c5]] (by rfl) rfl rfl (by (try simp only [List.map_toArray, List.map_cons, List.map_nil]); first | done | rfl) ?_
    refine (IH.out x HX.out.2.2 x.f1 x.f2 x.f3 A4 c4 y.f1 y.f2 y.f3 y.f4 A5 c5 W4 (Kd.C_below HC4.out.1 hb4) HC4.out.2.1 (Kd.C_below HC4.out.2.2.1 hb4) HC4.out.2.2.2).mono ?_
    rintro o W5 ⟨bq, rfl, hbq, hb5⟩
    have hb35 := below_step hdr hb5
    have HB5 := Aside0.mk (below_step (below_step HBR.out hb3) hb35)
    have HW5 := Aside0.mk (below_step hbw3 hb35)
    have hHeld5 : W5.cell? ⟨b0, 3, none⟩ = some (.slice (some ad) n ca) ∧ W5.cell? ⟨b1, 3, none⟩ = some (.slice (some bd) n cb) := ⟨(B03.out.below hb35).cell 3 _ rfl, (B13.out.below hb35).cell 3 _ rfl⟩
    refine ⟨_, rfl, ?_⟩
    refine hK.out _ _ ⟨hHeld5.1, hHeld5.2, pw_cell_below hb35 a1, pw_cell_below hb35 a2, pw_cell_below hb35 a3, pw_cell_below hb35 a4, pw_cell_below hb35 a5, pw_cell_below hb35 a6, pw_cell_below hb35 a7, pw_cell_below hb35 a8⟩ (fun _ => ?_)
    clear hK K
    refine pure_ (i := 13) (N := some 6) (v := ?_) (a' := ?_) #[true, true, true, true, true, true, true, true, true, true, true, true, true, true] rfl rfl (by kernel_rfl) (fun _ _ _ h => h) (Or.inl ⟨by rfl, ?_⟩) ?_ ?_
    rotate_left
    ·intro w'
     go_simp
     with_reducible rfl
    rotate_left
    ·simp only [Act.put, List.setIfInBounds_toArray, List.set_cons_zero, List.set_cons_succ, i64_w, i32_w]
     rfl
    refine done_ (by kernel_rfl) ?_
    have HQ := Aside0.mk hbq
    clear hbq hb5 hb35 hb4 hdr hbw3 hb3 a1 a2 a3 a4 a5 a6 a7 a8 hHeld5 hHeld B03 B13 e0 f0 u3 v3
    cases bq with
    | true =>
     have HPN : Aside0 (p ↔ la.drop (j + 1) = lb.drop (j + 1)) := ⟨by
      have hxy := HQ.out.1 rfl
      have hx0 := toList_eq.1 HC5.out
      have hxe : x = y := by
       cases x; cases y
       simp only [Prod.mk.injEq] at hxy hx0
       obtain ⟨h1, h2, h3, h4⟩ := hxy
       subst hx0 h1 h2 h3 h4
       rfl
      rw [HPJ.out, HX.out.1, HX.out.2.1, hxe]
      simp⟩
     go_wp2_with fail
     go_roundw
     case rel => exact ⟨j + 1, by omega, by go_num, HPN, HB5⟩
     case measure => simp [intOf]; omega
    | false =>
     have HQN : Aside0 ¬ p := ⟨by
      rw [HPJ.out, HX.out.1, HX.out.2.1]
      intro h
      injection h with h _
      have := HQ.out.2 (by rw [h])
      cases this⟩
     go_wp2_with fail
     go_ret
     exact ⟨false, rfl, ⟨fun h => (by cases h), fun h => absurd h HQN.out⟩, HW5.out⟩
   ·have d5 : (x.f0.toList != y.f0.toList) = true := bne_iff_ne.mpr c5
    have d5b : (x.f0.toList == y.f0.toList) = false := beq_eq_false_iff_ne.mpr c5
    have HQ : Aside0 ¬ p := ⟨by rw [HPJ.out, HX.out.1, HX.out.2.1]; intro h; injection h with h _; exact c5 (by rw [h])⟩
    clear c5
    go_wp2_with fail
    go_quiet (fail)
    go_wp2_with fail
    go_ret
    exact ⟨false, rfl, ⟨fun h => (by cases h), fun h => absurd h HQ.out⟩, below_step HBW2.out (pw_below_drewN (Below.refl _ _) _)⟩
  ·obtain rfl : j = n := by omega
   go_wp2_with fail
   go_ret
   exact ⟨true, rfl, ⟨fun _ => HPJ.out.2 (by rw [List.drop_of_length_le (Nat.le_of_eq HN.out.1.symm), List.drop_of_length_le (Nat.le_of_eq HN.out.2.symm)]), fun _ => rfl⟩, HBW2.out⟩
set_option maxHeartbeats 1000000 in
set_option maxRecDepth 100000 in
theorem leaf_calls (s : ByteArray) (w : World) : Calls Tryd.prog 26 #[.string s] w fun o w' => o = .returned (.agg #[.int .i64 1, .bool false, .string s, .slice none 0 0]) ∧ Below w.heap.size w w' := by
 go_enter Tryd.func26, Tryd.ntmps26
 go_wp2
 refine bodyPost_ret (v := .agg #[.int .i64 1, .bool false, .string s, .slice none 0 0]) (by simp [results, Tryd.results26, go_sem]) rfl ⟨rfl, below_alloc (Below.refl _ _) _⟩
/-- The directory that every run looks at first. -/
def wakeL : List Ent := [⟨⟨#[97]⟩, 1, false, ⟨#[120]⟩, []⟩]
theorem wake_held : Held ⟨#[]⟩ wakeL := ⟨.of (fun x hx => by
 rw [wakeL, List.mem_singleton] at hx
 subst hx
 exact ⟨by decide, by decide, .of (by simp)⟩), by decide⟩
theorem lit_own (w : World) (x : Ent) (hx : x.f4 = []) : Own (w.alloc (.cells (ecells x (.slice none 0 0)).toArray eE)) w.heap.size (fun k => w.heap.size ≤ k) (.slice (some ⟨w.heap.size, 0, none⟩) 1 1) [x] := by
 refine .mk _ _ _ [⟨x, .slice none 0 0, fun _ => False⟩] rfl ?_ (fun k hk => ?_) (fun t ht => ?_) (fun t ht k hk => ?_) (List.pairwise_singleton _ _)
 ·exact ⟨rfl, .inr ⟨w.heap.size, 1, (ecells x (.slice none 0 0)).toArray, rfl, Nat.le_refl _, heap_alloc_new _ _, Nat.le_refl _, by unfold maxLen; omega, rfl, rfl⟩⟩
 ·simp [Value.ownBlock] at hk; omega
 ·rw [List.mem_singleton] at ht
  subst ht
  show Own _ _ _ (.slice none 0 0) x.f4
  rw [hx]
  exact Own.nil _ _ _
 ·rw [List.mem_singleton] at ht
  subst ht
  exact hk.elim
set_option maxHeartbeats 4000000 in
set_option maxRecDepth 100000 in
theorem awake_calls (w : World) : Calls Tryd.prog 10 #[] w fun o w' => o = .returned (.bool true) ∧ Below w.heap.size w w' := by
 have HS : Aside0 (∀ W A c, Kd.C kE W A 1 wakeL → 1 ≤ c → Calls Tryd.prog 27 #[.agg #[.int .i64 3, .bool false, .string ⟨#[]⟩, .slice A 1 c]] W fun e w' => e = .returned (.tuple #[.int .i64 288, .int .i64 0]) ∧ Below W.heap.size W w') := ⟨fun W A c hC hc => tree_Size.calls 3 false ⟨#[]⟩ A c wakeL 288 0 W hC hc (by unfold tree_Size.f; rw [if_pos wake_held, show lookL 3 false ⟨#[]⟩ wakeL = _ from awake_look]; rfl)⟩
 have HK : Aside0 (∀ W A c, Kd.C kE W A 1 wakeL → 1 ≤ c → Calls Tryd.prog 14 #[.agg #[.int .i64 3, .bool false, .string ⟨#[]⟩, .slice A 1 c]] W fun e w' => e = .returned (.tuple #[.string ⟨#[]⟩, .int .i64 0]) ∧ Below W.heap.size W w') := ⟨fun W A c hC hc => tree_Check.calls 3 false ⟨#[]⟩ A c wakeL ⟨#[]⟩ 0 W hC hc (by unfold tree_Check.f; rw [if_pos wake_held, show lookL 3 false ⟨#[]⟩ wakeL = _ from awake_look]; rfl)⟩
 have HW : Aside0 (∀ W A c, Kd.C kE W A 1 wakeL → 1 ≤ c → Calls Tryd.prog 15 #[.agg #[.int .i64 3, .bool false, .string ⟨#[]⟩, .slice A 1 c]] W fun e w' => ∃ v0_ : Value, e = .returned (.tuple #[v0_, .int .i64 0]) ∧ Kd.R k27 27 w' W.heap.size (fun _ => True) v0_ [⟨⟨#[]⟩, 3, false, ⟨#[]⟩⟩, ⟨⟨#[97]⟩, 1, false, ⟨#[120]⟩⟩] ∧ Below W.heap.size W w') := ⟨fun W A c hC hc => tree_Walk.calls 3 false ⟨#[]⟩ A c wakeL _ 0 W hC hc (by unfold tree_Walk.f; rw [if_pos wake_held, show lookL 3 false ⟨#[]⟩ wakeL = _ from awake_look]; rfl)⟩
 go_enter Tryd.func10, Tryd.ntmps10
 go_wp2_with fail
 (with_reducible refine (leaf_calls _ _).mono ?_)
 rintro o w1 ⟨rfl, hb1⟩
 go_wp2_with ((with_reducible refine gate_dst (N := 13) rfl ?_); refine Stand.go ?_)
 obtain ⟨Wa, hWa⟩ : ∃ Wa, Wa = w1.alloc (.cells #[.string ⟨#[97]⟩, .int .i64 1, .bool false, .string ⟨#[120]⟩, .slice none 0 0] eE) := ⟨_, rfl⟩
 have HO : Aside0 (Own Wa w1.heap.size (fun k => w1.heap.size ≤ k) (.slice (some ⟨w1.heap.size, 0, none⟩) 1 1) wakeL) := ⟨by rw [hWa]; exact lit_own w1 ⟨⟨#[97]⟩, 1, false, ⟨#[120]⟩, []⟩ rfl⟩
 rw [← hWa]
 obtain ⟨W2, hW2⟩ : ∃ W2, W2 = Wa.alloc (.cells #[.int .i64 3, .bool false, .string ⟨#[]⟩, .slice (some ⟨w1.heap.size, 0, none⟩) 1 1] 32) := ⟨_, rfl⟩
 obtain ⟨bn, hbn⟩ : ∃ b, b = Wa.heap.size := ⟨_, rfl⟩
 have hz : w1.heap.size + 1 = bn := by rw [hbn, hWa]; simp
 rw [hz]
 rw [← hW2]
 have BN : Aside0 (Blk W2 bn 32 [.int .i64 3, .bool false, .string ⟨#[]⟩, .slice (some ⟨w1.heap.size, 0, none⟩) 1 1]) := ⟨by rw [hW2]; exact Blk.new' _ _ [.int .i64 3, .bool false, .string ⟨#[]⟩, .slice (some ⟨w1.heap.size, 0, none⟩) 1 1] hbn⟩
 have HO2 : Aside0 (Own W2 w1.heap.size (fun k => w1.heap.size ≤ k) (.slice (some ⟨w1.heap.size, 0, none⟩) 1 1) wakeL) := ⟨by rw [hW2]; exact HO.out.newer (below_alloc (Below.refl _ _) _)⟩
 have HB2 : Aside0 (Below w.heap.size w W2) := ⟨by rw [hW2, hWa]; exact below_step hb1 (below_alloc (below_alloc (Below.refl _ _) _) _)⟩
 obtain ⟨b8, hb8⟩ : ∃ b, b = w1.heap.size := ⟨_, rfl⟩
 rw [← hb8] at BN HO2 ⊢
 unfold Stand
 clear hWa hW2 hbn hz hb8 hb1 HO
 obtain ⟨u0, u1, u2, u3⟩ := cells4 BN.out
 go_wp2_with fail
 (with_reducible refine (HS.out W2 _ _ HO2.out.toC.2.2 (Nat.le_refl _)).mono ?_)
 rintro o W3 ⟨rfl, hb⟩
 have BN3 := Aside0.mk (BN.out.below hb)
 have HO3 := Aside0.mk (HO2.out.newer hb)
 have HB3 := Aside0.mk (below_step HB2.out hb)
 clear hb BN HO2 HB2 HS u0 u1 u2 u3
 obtain ⟨u0, u1, u2, u3⟩ := cells4 BN3.out
 go_wp2_with fail
 (with_reducible refine (HK.out W3 _ _ HO3.out.toC.2.2 (Nat.le_refl _)).mono ?_)
 rintro o W4 ⟨rfl, hb⟩
 have BN4 := Aside0.mk (BN3.out.below hb)
 have HO4 := Aside0.mk (HO3.out.newer hb)
 have HB4 := Aside0.mk (below_step HB3.out hb)
 clear hb BN3 HO3 HB3 HK u0 u1 u2 u3
 obtain ⟨u0, u1, u2, u3⟩ := cells4 BN4.out
 go_wp2_with fail
 (with_reducible refine (HW.out W4 _ _ HO4.out.toC.2.2 (Nat.le_refl _)).mono ?_)
 rintro o W5 ⟨v, rfl, hR, hb⟩
 have hrr := Kd.R_reads hR
 obtain ⟨A5, c5, hv, hc5, hC5⟩ := hrr
 subst hv
 have HB5 := Aside0.mk (below_step HB4.out hb)
 obtain ⟨ad, hA, e0, e1, e2, e3⟩ := at_T27 hC5 1 (by decide) (by decide)
 subst hA
 have f0 : W5.cell? (ad.add 4) = some (.string ⟨#[97]⟩) := e0
 have f3 : W5.cell? ⟨(ad.add 4).block, (ad.add 4).off + 3, none⟩ = some (.string ⟨#[120]⟩) := e3
 have ha : ad.add 4 = ⟨ad.block, ad.off + 4, none⟩ := by have h := add_field ad 0 4 (by omega); rw [Nat.zero_add, Addr.add_zero'] at h; exact h
 rw [ha] at f0 f3
 have g3 : W5.cell? ⟨ad.block, ad.off + 7, none⟩ = some (.string ⟨#[120]⟩) := f3
 clear hb BN4 HO4 HB4 HW u0 u1 u2 u3 hR hC5 hc5 e0 e1 e2 e3 ha
 simp only [List.length_cons, List.length_nil]
 go_wp2_with fail
 go_ret
 exact ⟨rfl, HB5.out⟩
end Go.Proofs.YtnemeeidomceiaaDoor
end
section
namespace Go.Proofs.YtnemeeidomceiaaDoor
open Go.RowKit Go.Proofs.YtnemeeidomceiaaDoorW.PrintWords Go.Proofs.YtnemeeidomceiaaDoorW.PrintLast Go.Proofs.YtnemeeidomceiaaDoorW.PrintMore
set_option linter.unusedVariables false
set_option linter.unusedSimpArgs false
/-- The entry that is put. -/
def putK (sub : NodeT) (s : ByteArray) : Ent := ⟨s, sub.1, sub.2.1, sub.2.2.1, sub.2.2.2⟩
/-- What the closure of tree.Put makes. -/
def putAct (sub : NodeT) (l : List Ent) (i : Nat) (hs : Bool) (s : ByteArray) : List Ent × Int := (if hs = true then l.set i (putK sub s) else l.take i ++ putK sub s :: l.drop i, 0)
set_option maxHeartbeats 2000000 in
set_option maxRecDepth 100000 in
theorem put1_any (sub : NodeT) (bs cs : Nat) (As : Option Addr) (hfs : Fit sub.2.2.2) (hcs : sub.2.2.2.length ≤ cs) (l : List Ent) (s : ByteArray) (v : Value) (w : World) (base : Nat) (ok : Nat → Prop) (h : Own w base ok v l) (hl : AllR l) (hbs : base ≤ w.heap.size)
  (hok : ∀ k, ok k → base ≤ k ∧ k < w.heap.size) (hB : Blk w bs 32 [.int .i64 sub.1, .bool sub.2.1, .string sub.2.2.1, .slice As sub.2.2.2.length cs]) (hbb : bs < base) (hC : ∀ W, Below base w W → Kd.C kE W As sub.2.2.2.length sub.2.2.2) :
  Calls Tryd.prog 48 #[v, .int .i64 (rk l s), .bool (hasN l s), .string s, .pointer (some ⟨bs, 0, none⟩)] w fun o w' => ∃ v', o = .returned (.tuple #[v', .int .i64 (putAct sub l (rk l s) (hasN l s) s).2]) ∧ Own w' base (fun k => ok k ∨ w.heap.size ≤ k) v' (putAct sub l (rk l s) (hasN l s) s).1 ∧ Upd ok w w' := by
 obtain ⟨i, hi⟩ : ∃ i, i = rk l s := ⟨_, rfl⟩
 obtain ⟨hs, hhs⟩ : ∃ hs, hs = hasN l s := ⟨_, rfl⟩
 have hil : i ≤ l.length := by rw [hi]; exact rk_le l s
 have hlen := hl.rises.2
 have HH := Aside0.mk (And.intro h (And.intro hok hbs))
 have HC := Aside0.mk hC
 have HB := Aside0.mk hB
 have HCP : Aside0 (∀ W, Below base w W → Calls Tryd.prog 24 #[.agg #[.int .i64 sub.1, .bool sub.2.1, .string sub.2.2.1, .slice As sub.2.2.2.length cs]] W fun o w' => ∃ v, o = .returned (.agg #[.int .i64 sub.1, .bool sub.2.1, .string sub.2.2.1, v]) ∧ Own w' W.heap.size (fun k => W.heap.size ≤ k) v sub.2.2.2 ∧ Below W.heap.size W w') := ⟨fun W hb => copyO_calls _ hfs _ _ _ As cs W (hC W hb) hcs⟩
 obtain ⟨sk, se, st, sl⟩ := sub
 simp only at HCP HB
 rw [← hi, ← hhs]
 cases hs with
 | true =>
  obtain ⟨x, hx, hxs⟩ := hasN_at hhs.symm
  rw [← hi] at hx
  obtain ⟨A, c, hv, _⟩ := h.slice
  subst hv
  obtain ⟨g, A6, c6, hA, _, hbg, hgk, hgl, hfr, e0, e1, e2, e3, e4⟩ := h.at_ hx
  subst hA
  have hlt := (List.getElem?_eq_some_iff.1 hx).1
  have HX := Aside0.mk (And.intro hx (And.intro hxs (And.intro hi hhs)))
  have HG := Aside0.mk (And.intro hbg (And.intro hgk hgl))
  have HF := Aside0.mk hfr
  have HE := Aside0.mk (And.intro e1 (And.intro e2 (And.intro e3 e4)))
  have c0 := HB.out.cell 0 _ rfl
  have c1 := HB.out.cell 1 _ rfl
  have c2 := HB.out.cell 2 _ rfl
  have c3 := HB.out.cell 3 _ rfl
  have p0 : (0 : Int) ≤ (i : Int) := by omega
  have p1 : (i : Int) < (l.length : Int) := by omega
  clear h hl hbs hok hB hC hx hxs hi hhs hbg hgk hgl hfr e0 e1 e2 e3 e4 hfs hcs
  go_enter Tryd.func48, Tryd.ntmps48
  go_wp2_with fail
  (with_reducible refine (HCP.out w (Below.refl _ _)).mono ?_)
  rintro o w2 ⟨u, rfl, hu, hb⟩
  obtain ⟨A8, c8, hu8, _⟩ := hu.slice
  subst hu8
  have hcel : ∀ (j : Nat) (v : Value), w.cell? ⟨g, j, none⟩ = some v → w2.cell? ⟨g, j, none⟩ = some v := fun j v h => (hb.cell (p := ⟨g, j, none⟩) HG.out.2.2).trans h
  have w1 := hcel _ _ HE.out.1
  have w3 := hcel _ _ HE.out.2.1
  have w4 := hcel _ _ HE.out.2.2.1
  have w5 := hcel _ _ HE.out.2.2.2
  have hfz : ∀ (j : Nat), w2.frozen? ⟨g, j, none⟩ = false := fun j => (hb.frozen (p := ⟨g, j, none⟩) HG.out.2.2).trans (HF.out j)
  have z1 := hfz (i * 5 + 1)
  have z2 := hfz (i * 5 + 2)
  have z3 := hfz (i * 5 + 3)
  have z4 := hfz (i * 5 + 4)
  have HFIN := Aside0.mk (HH.out.1.store (k := sk) (e := se) (t := st) HX.out.1 hb HH.out.2.2 hu)
  clear hu hb hcel hfz
  go_wp2_with fail
  go_ret2
  refine ⟨_, rfl, ?_, HFIN.out.2⟩
  have := HFIN.out.1
  rw [HX.out.2.1] at this
  exact this
 | false =>
  obtain ⟨A, c, hv, _⟩ := h.slice
  subst hv
  have c0 := HB.out.cell 0 _ rfl
  have c1 := HB.out.cell 1 _ rfl
  have c2 := HB.out.cell 2 _ rfl
  have c3 := HB.out.cell 3 _ rfl
  have p0 : (0 : Int) ≤ (i : Int) := by omega
  have p1 : (i : Int) < (l.length : Int) + 1 := by omega
  clear h hl hbs hok hB hC hi hhs hfs hcs
  go_enter Tryd.func48, Tryd.ntmps48
  go_wp2_with fail
  obtain ⟨W1, hW1⟩ : ∃ W1, W1 = w.alloc (.cells #[.string s, .int .i64 0, .bool false, .string ⟨#[]⟩, .slice none 0 0] eE) := ⟨_, rfl⟩
  have hb1 : Below w.heap.size w W1 := by rw [hW1]; exact below_alloc (Below.refl _ _) _
  have hvb : W1.heap[w.heap.size]? = some (.cells (ecells ⟨s, 0, false, ⟨#[]⟩, []⟩ (.slice none 0 0)).toArray eE (0, 0)) := by rw [hW1]; exact heap_alloc_new _ _
  rw [← hW1]
  clear hW1
  obtain ⟨ts, hts, hP⟩ := (HH.out.1.newer hb1).parts
  have htl : ts.length = l.length := by rw [hts, List.length_map]
  have hown : W1.ownsRow base eE 5 (.slice A l.length c) l.length (fl ts) := by have := hP.row; rw [htl] at this; exact this
  have hne : (Value.slice A l.length c).ownBlock ≠ some w.heap.size := fun e => by have := (HH.out.2.1 _ (hP.own _ e).1).2; omega
  refine (insertEnt_all base l.length i _ (fl ts) w.heap.size (ecells ⟨s, 0, false, ⟨#[]⟩, []⟩ (.slice none 0 0)) W1 hown hil rfl hvb hne (ecells_one rfl) hP.ones (by omega) (Nat.le_trans HH.out.2.2 hb1.size)).mono ?_
  rintro o w2 ⟨v2, rfl, hrow2, hg2, hat2⟩
  have hO2 := Own.insert1 (x := ⟨s, 0, false, ⟨#[]⟩, []⟩) rfl hts hP hil hrow2 hg2 hat2
  have hU2 : Upd ok w w2 := (Upd.of_below hb1 (S := ok)).trans (Upd.of_grown hg2 (S := ok) (fun k hk => .inl (hP.own k hk).1)) (fun k hk => .inl hk)
  obtain ⟨l2, hl2⟩ : ∃ l2, l2 = l.take i ++ (⟨s, 0, false, ⟨#[]⟩, []⟩ : Ent) :: l.drop i := ⟨_, rfl⟩
  rw [← hl2] at hO2
  have hx : l2[i]? = some ⟨s, 0, false, ⟨#[]⟩, []⟩ := by
   rw [hl2, List.getElem?_append_right (by rw [List.length_take]; omega), List.length_take, Nat.min_eq_left hil, Nat.sub_self]; rfl
  have hlen2 : l2.length = l.length + 1 := by rw [hl2, List.length_append, List.length_cons, List.length_take, List.length_drop]; omega
  obtain ⟨A2, c2', hv2, _⟩ := hO2.slice
  subst hv2
  obtain ⟨g, A6, c6, hA, _, hbg, hgk, hgl, hfr, e0, e1, e2, e3, e4⟩ := hO2.at_ hx
  subst hA
  have HO2 := Aside0.mk (And.intro hO2 (And.intro hx (And.intro hl2 (And.intro hU2 hlen2))))
  have hbw : Below base w w2 := hU2.toBelow (fun k hk => (HH.out.2.1 k hk).1) HH.out.2.2
  have HBW := Aside0.mk hbw
  have d0 := (hbw.cell (p := ⟨bs, 0, none⟩) hbb).trans c0
  have d1 := (hbw.cell (p := ⟨bs, 1, none⟩) hbb).trans c1
  have d2 := (hbw.cell (p := ⟨bs, 2, none⟩) hbb).trans c2
  have d3 := (hbw.cell (p := ⟨bs, 3, none⟩) hbb).trans c3
  have HWS := Aside0.mk hb1.size
  have HG := Aside0.mk (And.intro hbg (And.intro hgk (And.intro hgl (Nat.le_trans HH.out.2.2 hbw.size))))
  have HF := Aside0.mk hfr
  have HE := Aside0.mk (And.intro e1 (And.intro e2 (And.intro e3 e4)))
  rw [hlen2]
  clear hts hP htl hown hne hvb hb1 hrow2 hg2 hat2 hO2 hU2 hl2 hx hlen2 hbg hgk hgl hfr e0 e1 e2 e3 e4 hbw c0 c1 c2 c3
  go_wp2_with fail
  (with_reducible refine (HCP.out w2 HBW.out).mono ?_)
  rintro o w3 ⟨u, rfl, hu, hb⟩
  obtain ⟨A8, c8, hu8, _⟩ := hu.slice
  subst hu8
  have hcel : ∀ (j : Nat) (v : Value), w2.cell? ⟨g, j, none⟩ = some v → w3.cell? ⟨g, j, none⟩ = some v := fun j v h => (hb.cell (p := ⟨g, j, none⟩) HG.out.2.2.1).trans h
  have w11 := hcel _ _ HE.out.1
  have w12 := hcel _ _ HE.out.2.1
  have w13 := hcel _ _ HE.out.2.2.1
  have w14 := hcel _ _ HE.out.2.2.2
  have hfz : ∀ (j : Nat), w3.frozen? ⟨g, j, none⟩ = false := fun j => (hb.frozen (p := ⟨g, j, none⟩) HG.out.2.2.1).trans (HF.out j)
  have z1 := hfz (i * 5 + 1)
  have z2 := hfz (i * 5 + 2)
  have z3 := hfz (i * 5 + 3)
  have z4 := hfz (i * 5 + 4)
  have HFIN := Aside0.mk (HO2.out.1.store (k := sk) (e := se) (t := st) HO2.out.2.1 hb HG.out.2.2.2 hu)
  have HW3 := Aside0.mk hb.size
  clear hu hb hcel hfz d0 d1 d2 d3
  go_wp2_with fail
  go_ret2
  have hlst : l2.set i (putK (sk, se, st, sl) s) = (putAct (sk, se, st, sl) l i false s).1 := by
   rw [HO2.out.2.2.1]
   show _ = l.take i ++ putK (sk, se, st, sl) s :: l.drop i
   rw [List.set_append_right _ _ (by rw [List.length_take]; omega), List.length_take, Nat.min_eq_left hil, Nat.sub_self]
   rfl
  have hF := HFIN.out
  rw [HO2.out.2.2.2.2] at hF
  refine ⟨_, rfl, ?_, HO2.out.2.2.2.1.trans hF.2 (fun k hk => ?_)⟩
  ·have h1 := hF.1
   rw [show ({ f0 := s, f1 := sk, f2 := se, f3 := st, f4 := sl } : Ent) = putK (sk, se, st, sl) s from rfl, hlst] at h1
   exact h1.mono (fun k hk => hk.elim (fun h => h.elim .inl (fun h => .inr (Nat.le_trans HWS.out h))) (fun h => .inr (by have := HBW.out.size; omega)))
  ·exact hk.elim .inl (fun h => .inr (Nat.le_trans HWS.out h))
/-- The tree with another one at a path. -/
def putP (n : NodeT) (path : ByteArray) (sub : NodeT) : NodeT × Int :=
 if lookCode (lookL n.1 n.2.1 n.2.2.1 n.2.2.2) ≠ 0 then (zeroT, lookCode (lookL n.1 n.2.1 n.2.2.1 n.2.2.2))
 else if (readyP sub.1 sub.2.1 sub.2.2.1 sub.2.2.2 path).2 ≠ 0 then (zeroT, (readyP sub.1 sub.2.1 sub.2.2.1 sub.2.2.2 path).2)
 else if (readyP sub.1 sub.2.1 sub.2.2.1 sub.2.2.2 path).1 = [] then (sub, 0)
 else if (chN (putAct sub) (readyP sub.1 sub.2.1 sub.2.2.1 sub.2.2.2 path).1 n.1 n.2.2.2).2 ≠ 0 then (zeroT, (chN (putAct sub) (readyP sub.1 sub.2.1 sub.2.2.1 sub.2.2.2 path).1 n.1 n.2.2.2).2)
 else if lookCode (lookL n.1 n.2.1 n.2.2.1 (chN (putAct sub) (readyP sub.1 sub.2.1 sub.2.2.1 sub.2.2.2 path).1 n.1 n.2.2.2).1) ≠ 0 then (zeroT, lookCode (lookL n.1 n.2.1 n.2.2.1 (chN (putAct sub) (readyP sub.1 sub.2.1 sub.2.2.1 sub.2.2.2 path).1 n.1 n.2.2.2).1))
 else ((n.1, n.2.1, n.2.2.1, (chN (putAct sub) (readyP sub.1 sub.2.1 sub.2.2.1 sub.2.2.2 path).1 n.1 n.2.2.2).1), 0)
theorem ready_zero {k : Int} {e : Bool} {t : ByteArray} {l : List Ent} {path : ByteArray} (h : (readyP k e t l path).2 = 0) : lookCode (lookL k e t l) = 0 ∧ (readyP k e t l path).1 = (splitP path).1 := by
 unfold readyP at h ⊢
 split at h
 ·rename_i h2; exact absurd h h2
 ·rename_i h2; rw [if_neg h2]; exact ⟨Decidable.of_not_not h2, rfl⟩
theorem goP_names : ∀ (l : List ByteArray) (names : List ByteArray) (frm : Nat), (∀ x, x ∈ names → nameE x = 0) → names.length ≤ 31 → (∀ x, x ∈ (goP l names frm).1 → nameE x = 0) ∧ (goP l names frm).1.length ≤ 31
 | [], names, frm, h, hl => ⟨h, hl⟩
 | x :: l, names, frm, h, hl => by
  unfold goP
  split
  ·exact ⟨by simp, by simp⟩
  ·split
   ·exact ⟨by simp, by simp⟩
   ·rename_i h1 h2
    refine goP_names l _ _ (fun y hy => ?_) (by rw [List.length_append, List.length_singleton]; omega)
    rcases List.mem_append.1 hy with hy | hy
    ·exact h y hy
    ·rw [List.mem_singleton] at hy; rw [hy]; exact Decidable.of_not_not h2
/-- The names of a path are names. -/
theorem split_names (path : ByteArray) : (∀ x, x ∈ (splitP path).1 → nameE x = 0) ∧ (splitP path).1.length ≤ 31 := by
 by_cases h : path.toList = []
 ·unfold splitP; rw [if_pos h]; exact ⟨by simp, by simp⟩
 ·rw [splitP_pieces path h]; exact goP_names _ [] 0 (by simp) (by simp)
theorem put_texts (sub : NodeT) (hs : Held sub.2.2.1 sub.2.2.2) : ∀ (ns : List ByteArray) (k : Int) (l : List Ent), (∀ x, x ∈ ns → nameE x = 0) → Texts l → Texts (chN (putAct sub) ns k l).1
 | [], k, l, _, h => h
 | s :: r, k, l, hn, h => by
  have hnil : Texts [] := .of (by simp)
  have hK : (putK sub s).f0.size ≤ 140737488351232 ∧ (putK sub s).f3.size ≤ 140737488351232 ∧ Texts (putK sub s).f4 := ⟨by have := nameE_size (hn s List.mem_cons_self); show s.size ≤ _; omega, hs.2, hs.1⟩
  unfold chN
  split
  ·exact hnil
  ·split
   ·split
    ·exact hnil
    ·show Texts (putAct sub l (rk l s) (hasN l s) s).1
     unfold putAct
     refine .of (fun x hx => ?_)
     split at hx
     ·rcases List.mem_or_eq_of_mem_set hx with hx | hx
      ·exact h.mem hx
      ·rw [hx]; exact hK
     ·rcases List.mem_append.1 hx with hx | hx
      ·exact h.mem (List.mem_of_mem_take hx)
      ·rcases List.mem_cons.1 hx with rfl | hx
       ·exact hK
       ·exact h.mem (List.mem_of_mem_drop hx)
   ·split
    ·exact hnil
    ·rename_i x hx
     split
     ·exact hnil
     ·have hxm : x ∈ l := by
       split at hx
       ·exact List.mem_of_getElem? hx
       ·cases hx
      refine .of (fun y hy => ?_)
      rcases List.mem_or_eq_of_mem_set hy with hy | hy
      ·exact h.mem hy
      ·rw [hy]
       exact ⟨(h.mem hxm).1, (h.mem hxm).2.1, put_texts sub hs r x.f1 x.f4 (fun z hz => hn z (List.mem_cons_of_mem _ hz)) (h.mem hxm).2.2⟩
set_option maxHeartbeats 4000000 in
set_option maxRecDepth 100000 in
theorem put_calls (n : NodeT) (path : ByteArray) (sub : NodeT) (A As : Option Addr) (c cs : Nat) (w : World) (hC : Kd.C kE w A n.2.2.2.length n.2.2.2) (hc : n.2.2.2.length ≤ c) (hh : Held n.2.2.1 n.2.2.2) (hf : Fit n.2.2.2) (hp : path.size ≤ 140737488351232)
  (hCs : Kd.C kE w As sub.2.2.2.length sub.2.2.2) (hcs : sub.2.2.2.length ≤ cs) (hhs : Held sub.2.2.1 sub.2.2.2) (hfs : Fit sub.2.2.2) :
  Calls Tryd.prog 20 #[.agg #[.int .i64 n.1, .bool n.2.1, .string n.2.2.1, .slice A n.2.2.2.length c], .string path, .agg #[.int .i64 sub.1, .bool sub.2.1, .string sub.2.2.1, .slice As sub.2.2.2.length cs]] w (TreePost w (putP n path sub)) := by
 obtain ⟨res, hres⟩ : ∃ res, res = putP n path sub := ⟨_, rfl⟩
 obtain ⟨k, e, t, l⟩ := n
 obtain ⟨sk, se, st, sl⟩ := sub
 simp only at *
 obtain ⟨rp, hrp⟩ : ∃ rp, rp = readyP sk se st sl path := ⟨_, rfl⟩
 obtain ⟨cn, hcn⟩ : ∃ cn, cn = lookCode (lookL k e t l) := ⟨_, rfl⟩
 obtain ⟨pn, hpn⟩ : ∃ pn, pn = lookPath (lookL k e t l) := ⟨_, rfl⟩
 obtain ⟨q, hq⟩ : ∃ q, q = chN (putAct (sk, se, st, sl)) rp.1 k l := ⟨_, rfl⟩
 obtain ⟨co, hco⟩ : ∃ co, co = lookCode (lookL k e t q.1) := ⟨_, rfl⟩
 obtain ⟨po, hpo⟩ : ∃ po, po = lookPath (lookL k e t q.1) := ⟨_, rfl⟩
 have HRES : Aside0 (res = if cn ≠ 0 then (zeroT, cn) else if rp.2 ≠ 0 then (zeroT, rp.2) else if rp.1 = [] then ((sk, se, st, sl), 0) else if q.2 ≠ 0 then (zeroT, q.2) else if co ≠ 0 then (zeroT, co) else ((k, e, t, q.1), 0)) := ⟨by rw [hres, hco, hq, hcn, hrp]; rfl⟩
 have HAR : Aside0 (cn = 0 → AllR l) := ⟨fun h => look_AllR (hcn ▸ h)⟩
 have HSZ : Aside0 (rp.2 = 0 → lookCode (lookL sk se st sl) = 0 ∧ rp.1 = (splitP path).1) := ⟨fun h => by rw [hrp] at h ⊢; exact ready_zero h⟩
 have HCN : Aside0 (∀ W, Below w.heap.size w W → Calls Tryd.prog 14 #[.agg #[.int .i64 k, .bool e, .string t, .slice A l.length c]] W fun e w' => e = .returned (.tuple #[.string pn, .int .i64 cn]) ∧ Below W.heap.size W w') := ⟨fun W hb => tree_Check.calls k e t A c l pn cn W (Kd.C_below hC hb) hc (by unfold tree_Check.f; rw [if_pos hh, hcn, hpn])⟩
 have HRD : Aside0 (∀ W, Below w.heap.size w W → Calls Tryd.prog 37 #[.agg #[.int .i64 sk, .bool se, .string st, .slice As sl.length cs], .string path] W fun o w' => ∃ v, o = .returned (.tuple #[v, .int .i64 rp.2]) ∧ Kd.R Kd.string 9 w' W.heap.size (fun _ => True) v rp.1 ∧ Below W.heap.size W w') := ⟨fun W hb => by rw [hrp]; exact ready_calls sk se st sl path As cs W (Kd.C_below hCs hb) hcs hhs hp⟩
 have HCP : Aside0 (∀ W, Below w.heap.size w W → Calls Tryd.prog 24 #[.agg #[.int .i64 k, .bool e, .string t, .slice A l.length c]] W fun o w' => ∃ v, o = .returned (.agg #[.int .i64 k, .bool e, .string t, v]) ∧ Own w' W.heap.size (fun k => W.heap.size ≤ k) v l ∧ Below W.heap.size W w') := ⟨fun W hb => copyO_calls l hf k e t A c W (Kd.C_below hC hb) hc⟩
 have HCS : Aside0 (∀ W, Below w.heap.size w W → Calls Tryd.prog 24 #[.agg #[.int .i64 sk, .bool se, .string st, .slice As sl.length cs]] W fun o w' => ∃ v, o = .returned (.agg #[.int .i64 sk, .bool se, .string st, v]) ∧ Own w' W.heap.size (fun k => W.heap.size ≤ k) v sl ∧ Below W.heap.size W w') := ⟨fun W hb => copyO_calls sl hfs sk se st As cs W (Kd.C_below hCs hb) hcs⟩
 have HSUB := Aside0.mk (And.intro hCs (And.intro hcs (And.intro hhs hfs)))
 have HTX : Aside0 (rp.2 = 0 → Held t q.1) := ⟨fun h => ⟨by
  have h2 := put_texts (sk, se, st, sl) hhs rp.1 k l (fun x hx => (split_names path).1 x (by rw [← (HSZ.out h).2]; exact hx)) hh.1
  rw [← hq] at h2; exact h2, hh.2⟩⟩
 have HCO : Aside0 (∀ W A2 c2, Held t q.1 → Kd.C kE W A2 q.1.length q.1 → q.1.length ≤ c2 → Calls Tryd.prog 14 #[.agg #[.int .i64 k, .bool e, .string t, .slice A2 q.1.length c2]] W fun e w' => e = .returned (.tuple #[.string po, .int .i64 co]) ∧ Below W.heap.size W w') := ⟨fun W A2 c2 hh2 hC2 hc2 => tree_Check.calls k e t A2 c2 q.1 po co W hC2 hc2 (by unfold tree_Check.f; rw [if_pos hh2, hco, hpo])⟩
 have HCK : Aside0 (∀ W A2 c2, lookCode (lookL sk se st sl) = 0 → Kd.C kE W A2 sl.length sl → sl.length ≤ c2 → Calls Tryd.prog 14 #[.agg #[.int .i64 sk, .bool se, .string st, .slice A2 sl.length c2]] W fun e w' => e = .returned (.tuple #[.string (lookPath (lookL sk se st sl)), .int .i64 0]) ∧ Below W.heap.size W w') := ⟨fun W A2 c2 h0 hC2 hc2 => tree_Check.calls sk se st A2 c2 sl _ 0 W hC2 hc2 (by unfold tree_Check.f; rw [if_pos hhs, h0])⟩
 have HQ := Aside0.mk hq
 rw [← hres]
 clear hC hc hh hf hp hCs hcs hhs hfs hres hrp hcn hpn hq hco hpo
 have HFIN : Aside0 (∀ (W : World) (b2 : Nat), Below w.heap.size w W → Blk W b2 32 [.int .i64 0, .bool false, .string ⟨#[]⟩, .slice none 0 0] → w.heap.size ≤ b2 → Below w.heap.size w ((((W.setCell ⟨b2, 0, none⟩ (.int .i64 0)).setCell ⟨b2, 1, none⟩ (.bool false)).setCell ⟨b2, 2, none⟩ (.string ⟨#[]⟩)).setCell ⟨b2, 3, none⟩ (.slice none 0 0)) ∧ Blk ((((W.setCell ⟨b2, 0, none⟩ (.int .i64 0)).setCell ⟨b2, 1, none⟩ (.bool false)).setCell ⟨b2, 2, none⟩ (.string ⟨#[]⟩)).setCell ⟨b2, 3, none⟩ (.slice none 0 0)) b2 32 [.int .i64 0, .bool false, .string ⟨#[]⟩, .slice none 0 0]) := ⟨fun W b2 hb hB hb2 => ⟨below_put4 hb hb2, put4_blk hB⟩⟩
 go_enter Tryd.func20, Tryd.ntmps20
 go_wp2_with fail
 obtain ⟨W1, hW1⟩ : ∃ W1, W1 = ((w.alloc (.cells #[.int .i64 k, .bool e, .string t, .slice A l.length c] 32)).alloc (.cells #[.int .i64 sk, .bool se, .string st, .slice As sl.length cs] 32)).alloc (.cells #[.int .i64 0, .bool false, .string ⟨#[]⟩, .slice none 0 0] 32) := ⟨_, rfl⟩
 rw [← hW1]
 obtain ⟨b0, hb0⟩ : ∃ b, b = w.heap.size := ⟨_, rfl⟩
 obtain ⟨b1, hb1⟩ : ∃ b, b = w.heap.size + 1 := ⟨_, rfl⟩
 obtain ⟨b2, hb2⟩ : ∃ b, b = w.heap.size + 1 + 1 := ⟨_, rfl⟩
 rw [← hb2, ← hb1, ← hb0]
 have B0 : Aside0 (Blk W1 b0 32 [.int .i64 k, .bool e, .string t, .slice A l.length c]) := ⟨by rw [hW1, hb0]; exact ((Blk.new w _ [.int .i64 k, .bool e, .string t, .slice A l.length c]).alloc _).alloc _⟩
 have B1 : Aside0 (Blk W1 b1 32 [.int .i64 sk, .bool se, .string st, .slice As sl.length cs]) := ⟨by rw [hW1, hb1]; exact (Blk.new' _ _ [.int .i64 sk, .bool se, .string st, .slice As sl.length cs] (by simp)).alloc _⟩
 have B2 : Aside0 (Blk W1 b2 32 [.int .i64 0, .bool false, .string ⟨#[]⟩, .slice none 0 0]) := ⟨by rw [hW1]; exact Blk.new' _ _ [.int .i64 0, .bool false, .string ⟨#[]⟩, .slice none 0 0] (by rw [hb2]; simp)⟩
 have HB : Aside0 (Below w.heap.size w W1) := ⟨by rw [hW1]; exact below_alloc (below_alloc (below_alloc (Below.refl _ _) _) _) _⟩
 have HZ : Aside0 (w.heap.size ≤ b0 ∧ w.heap.size ≤ b1 ∧ w.heap.size ≤ b2 ∧ b0 ≠ b2 ∧ b1 ≠ b2) := ⟨by omega⟩
 clear hW1 hb0 hb1 hb2
 have HFIN2 : Aside0 (∀ (W : World), Below w.heap.size w W → Blk W b2 32 [.int .i64 0, .bool false, .string ⟨#[]⟩, .slice none 0 0] → Below w.heap.size w ((((W.setCell ⟨b2, 0, none⟩ (.int .i64 0)).setCell ⟨b2, 1, none⟩ (.bool false)).setCell ⟨b2, 2, none⟩ (.string ⟨#[]⟩)).setCell ⟨b2, 3, none⟩ (.slice none 0 0)) ∧ Blk ((((W.setCell ⟨b2, 0, none⟩ (.int .i64 0)).setCell ⟨b2, 1, none⟩ (.bool false)).setCell ⟨b2, 2, none⟩ (.string ⟨#[]⟩)).setCell ⟨b2, 3, none⟩ (.slice none 0 0)) b2 32 [.int .i64 0, .bool false, .string ⟨#[]⟩, .slice none 0 0]) := ⟨fun W hb hB => HFIN.out W b2 hb hB HZ.out.2.2.1⟩
 clear HFIN
 have HFIN := HFIN2
 clear HFIN2
 (with_reducible refine (HCN.out W1 HB.out).mono ?_)
 rintro o W2 ⟨rfl, hb⟩
 have HB2 := Aside0.mk (below_step HB.out hb)
 have B02 := Aside0.mk (B0.out.below hb)
 have B12 := Aside0.mk (B1.out.below hb)
 have B22 := Aside0.mk (B2.out.below hb)
 clear hb HB B0 B1 B2 HCN
 have x0 := B22.out.frozen 0
 have x1 := B22.out.frozen 1
 have x2 := B22.out.frozen 2
 have x3 := B22.out.frozen 3
 obtain ⟨y0, y1, y2, y3⟩ := cells4 B22.out
 by_cases hz : cn = 0
 ·subst hz
  have HARL := Aside0.mk (HAR.out rfl)
  obtain ⟨u0, u1, u2, u3⟩ := cells4 B12.out
  clear HAR
  go_wp2_with fail
  (with_reducible refine (HRD.out W2 HB2.out).mono ?_)
  rintro o W3 ⟨v, rfl, hR, hb⟩
  obtain ⟨A2, c2, hv⟩ := Kd.R_slice hR
  subst hv
  have HR := Aside0.mk hR
  have HB3 := Aside0.mk (below_step HB2.out hb)
  have B03 := Aside0.mk (B02.out.below hb)
  have B13 := Aside0.mk (B12.out.below hb)
  have B23 := Aside0.mk (B22.out.below hb)
  clear hR hb HB2 B02 B12 B22 HRD x0 x1 x2 x3 y0 y1 y2 y3 u0 u1 u2 u3
  have x0 := B23.out.frozen 0
  have x1 := B23.out.frozen 1
  have x2 := B23.out.frozen 2
  have x3 := B23.out.frozen 3
  obtain ⟨y0, y1, y2, y3⟩ := cells4 B23.out
  obtain ⟨cd, hcd⟩ : ∃ cd, cd = rp.2 := ⟨_, rfl⟩
  rw [← hcd] at HSZ HTX HRES ⊢
  clear hcd
  by_cases hz : cd = 0
  ·subst hz
   have HSZ0 := Aside0.mk (HSZ.out rfl)
   have HTX0 := Aside0.mk (HTX.out rfl)
   obtain ⟨u0, u1, u2, u3⟩ := cells4 B03.out
   clear HSZ HTX
   go_wp2_with fail
   (with_reducible refine (HCP.out W3 HB3.out).mono ?_)
   rintro o W4 ⟨v, rfl, hO, hb⟩
   obtain ⟨A4, c4, hv, _⟩ := hO.slice
   subst hv
   have HO := Aside0.mk hO
   have HB34 := Aside0.mk hb
   have B14 := Aside0.mk (B13.out.below hb)
   have B24 := Aside0.mk (B23.out.below hb)
   have HB13 := Aside0.mk B13.out.lt
   have HB23 := Aside0.mk B23.out.lt
   clear hO hb B03 B13 B23 x0 x1 x2 x3 y0 y1 y2 y3 u0 u1 u2 u3
   have hmf : ∀ (fn : Fn) (first cap : Array Value) (w : World), (Instr.makeFunc fn first cap).run Tryd.prog w = .ok (.func fn first cap) w := fun _ _ _ _ => rfl
   go_wp2_with fail
   clear hmf
   have hrr := Kd.R_reads' HR.out
   have hNF : NamesF W4 (fun j => W3.heap.size ≤ j) A2 rp.1 := by
    have h1 := Kd.F_old (Kd.R_F HR.out) HB34.out
    rw [hrr.1] at h1
    exact Kd.F_mono h1 (fun j hj => ⟨fun h => by have := hj.2; omega, Nat.lt_of_lt_of_le hj.2 HB34.out.size⟩)
   have hch := change_calls 48 Tryd.f48 Tryd.func48 (by kernel_rfl) rfl #[.pointer (some ⟨b1, 0, none⟩)] (putAct (sk, se, st, sl)) W3.heap.size (fun X => Below W3.heap.size W4 X) (fun _ _ h k => h.trans k)
    (fun l s v X ok h hl hbs hX hok => put1_any (sk, se, st, sl) b1 cs As HSUB.out.2.2.2 HSUB.out.2.1 l s v X W3.heap.size ok h hl hbs hok ((hX.block b1 HB13.out).trans B14.out) HB13.out (fun W hW => Kd.C_below HSUB.out.1 (((below_step HB3.out HB34.out).trans (hX.mono HB3.out.size)).trans (hW.mono HB3.out.size)))) rp.1 k e t (.slice A4 l.length c4) l A2 c2 W4 (fun j => W3.heap.size ≤ j) HO.out HARL.out HB34.out.size (Below.refl _ _) hNF (by rw [← hrr.1]; exact hrr.2.1)
   rw [← HQ.out, ← hrr.1] at hch
   clear hrr hNF
   (with_reducible refine hch.mono ?_)
   clear hch
   rintro o W5 hpost
   have HB5 : Aside0 (Below w.heap.size w W5) := ⟨(below_step HB3.out HB34.out).trans (hpost.upd.toBelow (fun j hj => Nat.le_trans HB3.out.size hj) (Nat.le_trans HB3.out.size HB34.out.size))⟩
   have B15 := Aside0.mk (B14.out.upd hpost.upd (fun h => by have := HB13.out; omega))
   have B25 := Aside0.mk (B24.out.upd hpost.upd (fun h => by have := HB23.out; omega))
   obtain ⟨bo, hbo⟩ : ∃ b, b = W5.heap.size := ⟨_, rfl⟩
   have HBO : Aside0 (w.heap.size ≤ bo ∧ b1 ≠ bo ∧ b2 ≠ bo) := ⟨by have := HB5.out.size; have := B15.out.lt; have := B25.out.lt; omega⟩
   by_cases hn : rp.1 = []
   ·have HRT : Aside0 (res = ((sk, se, st, sl), 0)) := ⟨by have := HRES.out; rw [if_neg (fun h => h rfl), if_neg (fun h => h rfl), if_pos hn] at this; exact this⟩
    have hq0 : q.2 = 0 := by rw [HQ.out, hn]; rfl
    obtain ⟨v8, ho8, hO8⟩ := hpost.yes hq0
    subst ho8
    obtain ⟨A8, c8, hv8, _⟩ := hO8.slice
    subst hv8
    have hl0 : rp.1.length = 0 := by rw [hn]; rfl
    rw [hl0]
    clear hpost hq0 hO8 hn hl0
    go_wp2_with ((with_reducible refine gate_dst (N := 43) rfl ?_); refine Stand.go ?_)
    obtain ⟨W6, hW6⟩ : ∃ W6, W6 = W5.alloc (.cells #[.int .i64 k, .bool e, .string t, .slice A8 q.1.length c8] 32) := ⟨_, rfl⟩
    rw [← hbo, ← hW6]
    have HB6 : Aside0 (Below w.heap.size w W6) := ⟨by rw [hW6]; exact below_step HB5.out (below_alloc (Below.refl _ _) _)⟩
    have B16 : Aside0 (Blk W6 b1 32 [.int .i64 sk, .bool se, .string st, .slice As sl.length cs]) := ⟨by rw [hW6]; exact B15.out.alloc _⟩
    have B26 : Aside0 (Blk W6 b2 32 [.int .i64 0, .bool false, .string ⟨#[]⟩, .slice none 0 0]) := ⟨by rw [hW6]; exact B25.out.alloc _⟩
    have BO6 : Aside0 (Blk W6 bo 32 [.int .i64 k, .bool e, .string t, .slice A8 q.1.length c8]) := ⟨by rw [hW6]; exact Blk.new' _ _ [.int .i64 k, .bool e, .string t, .slice A8 q.1.length c8] hbo⟩
    unfold Stand
    clear hW6 hbo
    obtain ⟨u0, u1, u2, u3⟩ := cells4 B16.out
    go_wp2_with fail
    (with_reducible refine (HCS.out W6 HB6.out).mono ?_)
    rintro o W7 ⟨v9, rfl, hO9, hb⟩
    obtain ⟨A9, c9, hv9, _⟩ := hO9.slice
    subst hv9
    have BO7 := Aside0.mk (BO6.out.below hb)
    have B27 := Aside0.mk (B26.out.below hb)
    have HB7 := Aside0.mk (below_step HB6.out hb)
    have HO9 := Aside0.mk hO9
    have HS6 := Aside0.mk HB6.out.size
    clear hb hO9 HB6 B16 B26 BO6 u0 u1 u2 u3 B15 B25 HB5
    have x0 := BO7.out.frozen 0
    have x1 := BO7.out.frozen 1
    have x2 := BO7.out.frozen 2
    have x3 := BO7.out.frozen 3
    obtain ⟨y0, y1, y2, y3⟩ := cells4 BO7.out
    go_wp2_with ((with_reducible refine gate_dst (N := 48) rfl ?_); refine Stand.go ?_)
    obtain ⟨W8, hW8⟩ : ∃ W8, W8 = ((((W7.setCell ⟨bo, 0, none⟩ (.int .i64 sk)).setCell ⟨bo, 1, none⟩ (.bool se)).setCell ⟨bo, 2, none⟩ (.string st)).setCell ⟨bo, 3, none⟩ (.slice A9 sl.length c9)) := ⟨_, rfl⟩
    rw [← hW8]
    have BO8 : Aside0 (Blk W8 bo 32 [.int .i64 sk, .bool se, .string st, .slice A9 sl.length c9]) := ⟨by rw [hW8]; exact put4_blk BO7.out⟩
    have HB8 : Aside0 (Below w.heap.size w W8) := ⟨by rw [hW8]; exact below_put4 HB7.out HBO.out.1⟩
    have HO8 : Aside0 (Own W8 W6.heap.size (fun k => W6.heap.size ≤ k) (.slice A9 sl.length c9) sl) := ⟨by rw [hW8]; exact put4_own HO9.out BO7.out⟩
    have B28 : Aside0 (Blk W8 b2 32 [.int .i64 0, .bool false, .string ⟨#[]⟩, .slice none 0 0]) := ⟨by
     rw [hW8]
     have hne : b2 ≠ bo := HBO.out.2.2
     exact (Below.heap_setCell _ _ _ _ hne).trans ((Below.heap_setCell _ _ _ _ hne).trans ((Below.heap_setCell _ _ _ _ hne).trans ((Below.heap_setCell _ _ _ _ hne).trans B27.out)))⟩
    unfold Stand
    clear hW8 x0 x1 x2 x3 y0 y1 y2 y3 BO7 B27 HB7 HO9
    obtain ⟨u0, u1, u2, u3⟩ := cells4 BO8.out
    go_wp2_with fail
    (with_reducible refine (HCK.out W8 A9 c9 HSZ0.out.1 HO8.out.toC.2.2 HO8.out.toC.2.1).mono ?_)
    rintro o W9 ⟨rfl, hb⟩
    have BO9 := Aside0.mk (BO8.out.below hb)
    have B29 := Aside0.mk (B28.out.below hb)
    have HB9 := Aside0.mk (below_step HB8.out hb)
    have HO9 := Aside0.mk (HO8.out.newer hb)
    clear hb BO8 B28 HB8 HO8 u0 u1 u2 u3
    obtain ⟨u0, u1, u2, u3⟩ := cells4 BO9.out
    have x0 := B29.out.frozen 0
    have x1 := B29.out.frozen 1
    have x2 := B29.out.frozen 2
    have x3 := B29.out.frozen 3
    obtain ⟨y0, y1, y2, y3⟩ := cells4 B29.out
    go_wp2_with fail
    have hF : Below w.heap.size w ((((W9.setCell ⟨b2, 0, none⟩ (.int .i64 sk)).setCell ⟨b2, 1, none⟩ (.bool se)).setCell ⟨b2, 2, none⟩ (.string st)).setCell ⟨b2, 3, none⟩ (.slice A9 sl.length c9)) := below_put4 HB9.out HZ.out.2.2.1
    have hG := put4_blk (c0 := .int .i64 sk) (c1 := .bool se) (c2 := .string st) (c3 := .slice A9 sl.length c9) B29.out
    have hH := put4_own (c0 := .int .i64 sk) (c1 := .bool se) (c2 := .string st) (c3 := .slice A9 sl.length c9) HO9.out B29.out
    obtain ⟨z0, z1, z2, z3⟩ := cells4 hG
    rw [HRT.out]
    exact bodyPost_ret (v := .tuple #[.agg #[.int .i64 sk, .bool se, .string st, .slice A9 sl.length c9], .int .i64 0]) (by simp [results, Tryd.results20, go_sem, z0, z1, z2, z3]) rfl ⟨⟨_, rfl, hH.above HS6.out⟩, hF⟩
   ·have HRT : Aside0 (res = if q.2 ≠ 0 then (zeroT, q.2) else if co ≠ 0 then (zeroT, co) else ((k, e, t, q.1), 0)) := ⟨by have := HRES.out; rw [if_neg (fun h => h rfl), if_neg (fun h => h rfl), if_neg hn] at this; exact this⟩
    obtain ⟨m, hm⟩ : ∃ m, m = rp.1.length := ⟨_, rfl⟩
    have hm0 : ¬ m = 0 := by rw [hm]; exact fun h => hn (List.length_eq_zero_iff.1 h)
    have hm1 : ((m : Int) == 0) = false := beq_eq_false_iff_ne.mpr (by omega)
    rw [← hm]
    clear hn hm
    by_cases hq0 : q.2 = 0
    ·have HRU : Aside0 (res = if co ≠ 0 then (zeroT, co) else ((k, e, t, q.1), 0)) := ⟨by have := HRT.out; rw [if_neg (fun h => h hq0)] at this; exact this⟩
     obtain ⟨v8, ho8, hO8⟩ := hpost.yes hq0
     subst ho8
     have HO8 := Aside0.mk hO8
     obtain ⟨A8, c8, hv8, _⟩ := hO8.slice
     subst hv8
     clear hpost hq0 hO8
     go_wp2_with ((with_reducible refine gate_dst (N := 48) rfl ?_); refine Stand.go ?_)
     obtain ⟨W6, hW6⟩ : ∃ W6, W6 = W5.alloc (.cells #[.int .i64 k, .bool e, .string t, .slice A8 q.1.length c8] 32) := ⟨_, rfl⟩
     rw [← hbo, ← hW6]
     have HB6 : Aside0 (Below w.heap.size w W6) := ⟨by rw [hW6]; exact below_step HB5.out (below_alloc (Below.refl _ _) _)⟩
     have B16 : Aside0 (Blk W6 b1 32 [.int .i64 sk, .bool se, .string st, .slice As sl.length cs]) := ⟨by rw [hW6]; exact B15.out.alloc _⟩
     have B26 : Aside0 (Blk W6 b2 32 [.int .i64 0, .bool false, .string ⟨#[]⟩, .slice none 0 0]) := ⟨by rw [hW6]; exact B25.out.alloc _⟩
     have BO6 : Aside0 (Blk W6 bo 32 [.int .i64 k, .bool e, .string t, .slice A8 q.1.length c8]) := ⟨by rw [hW6]; exact Blk.new' _ _ [.int .i64 k, .bool e, .string t, .slice A8 q.1.length c8] hbo⟩
     have HO6 : Aside0 (Own W6 W3.heap.size (fun j => W3.heap.size ≤ j ∨ W4.heap.size ≤ j) (.slice A8 q.1.length c8) q.1) := ⟨by rw [hW6]; exact HO8.out.newer (below_alloc (Below.refl _ _) _)⟩
     unfold Stand
     clear hW6 hbo
     obtain ⟨u0, u1, u2, u3⟩ := cells4 BO6.out
     go_wp2_with fail
     (with_reducible refine (HCO.out W6 A8 c8 HTX0.out HO6.out.toC.2.2 HO6.out.toC.2.1).mono ?_)
     rintro o W9 ⟨rfl, hb⟩
     have BO9 := Aside0.mk (BO6.out.below hb)
     have B29 := Aside0.mk (B26.out.below hb)
     have HB9 := Aside0.mk (below_step HB6.out hb)
     have HO9 := Aside0.mk (HO6.out.newer hb)
     clear hb BO6 B26 HB6 HO6 u0 u1 u2 u3
     obtain ⟨u0, u1, u2, u3⟩ := cells4 BO9.out
     have x0 := B29.out.frozen 0
     have x1 := B29.out.frozen 1
     have x2 := B29.out.frozen 2
     have x3 := B29.out.frozen 3
     obtain ⟨y0, y1, y2, y3⟩ := cells4 B29.out
     by_cases hc0 : co = 0
     ·have HRV : Aside0 (res = ((k, e, t, q.1), 0)) := ⟨by have := HRU.out; rw [if_neg (fun h => h hc0)] at this; exact this⟩
      subst hc0
      go_wp2_with fail
      have hF : Below w.heap.size w ((((W9.setCell ⟨b2, 0, none⟩ (.int .i64 k)).setCell ⟨b2, 1, none⟩ (.bool e)).setCell ⟨b2, 2, none⟩ (.string t)).setCell ⟨b2, 3, none⟩ (.slice A8 q.1.length c8)) := below_put4 HB9.out HZ.out.2.2.1
      have hG := put4_blk (c0 := .int .i64 k) (c1 := .bool e) (c2 := .string t) (c3 := .slice A8 q.1.length c8) B29.out
      have hH := put4_own (c0 := .int .i64 k) (c1 := .bool e) (c2 := .string t) (c3 := .slice A8 q.1.length c8) HO9.out B29.out
      obtain ⟨z0, z1, z2, z3⟩ := cells4 hG
      rw [HRV.out]
      exact bodyPost_ret (v := .tuple #[.agg #[.int .i64 k, .bool e, .string t, .slice A8 q.1.length c8], .int .i64 0]) (by simp [results, Tryd.results20, go_sem, z0, z1, z2, z3]) rfl ⟨⟨_, rfl, hH.above HB3.out.size⟩, hF⟩
     ·have HRV : Aside0 (res = (zeroT, co)) := ⟨by have := HRU.out; rw [if_pos hc0] at this; exact this⟩
      have hc1 : (co != 0) = true := bne_iff_ne.mpr hc0
      clear hc0
      go_wp2_with fail
      have hF := HFIN.out W9 HB9.out B29.out
      obtain ⟨z0, z1, z2, z3⟩ := cells4 hF.2
      rw [HRV.out]
      exact bodyPost_ret (v := .tuple #[.agg #[.int .i64 0, .bool false, .string ⟨#[]⟩, .slice none 0 0], .int .i64 co]) (by simp [results, Tryd.results20, go_sem, z0, z1, z2, z3]) rfl ⟨⟨_, rfl, Own.nil _ _ _⟩, hF.1⟩
    ·have HRU : Aside0 (res = (zeroT, q.2)) := ⟨by have := HRT.out; rw [if_pos hq0] at this; exact this⟩
     have ho8 := hpost.no hq0
     subst ho8
     have hq1 : (q.2 != 0) = true := bne_iff_ne.mpr hq0
     have hq2 : (q.2 == 0) = false := beq_eq_false_iff_ne.mpr hq0
     clear hpost hq0
     have hlt2 : b2 < W5.heap.size := B25.out.lt
     have x0 := B25.out.frozen 0
     have x1 := B25.out.frozen 1
     have x2 := B25.out.frozen 2
     have x3 := B25.out.frozen 3
     obtain ⟨y0, y1, y2, y3⟩ := cells4 B25.out
     clear hbo
     go_wp2_with fail
     have hF := HFIN.out W5 HB5.out B25.out
     obtain ⟨z0, z1, z2, z3⟩ := cells4 (hF.2.alloc (.cells #[.int .i64 0, .bool false, .string ⟨#[]⟩, .slice none 0 0] 32))
     rw [HRU.out]
     exact bodyPost_ret (v := .tuple #[.agg #[.int .i64 0, .bool false, .string ⟨#[]⟩, .slice none 0 0], .int .i64 q.2]) (by simp [results, Tryd.results20, go_sem, z0, z1, z2, z3]) rfl ⟨⟨_, rfl, Own.nil _ _ _⟩, below_alloc hF.1 _⟩
  ·have HRT : Aside0 (res = (zeroT, cd)) := ⟨by have := HRES.out; rw [if_neg (fun h => h rfl), if_pos hz] at this; exact this⟩
   have hz1 : (cd != 0) = true := bne_iff_ne.mpr hz
   clear hz
   go_wp2_with fail
   have hF := HFIN.out W3 HB3.out B23.out
   obtain ⟨z0, z1, z2, z3⟩ := cells4 hF.2
   rw [HRT.out]
   exact bodyPost_ret (v := .tuple #[.agg #[.int .i64 0, .bool false, .string ⟨#[]⟩, .slice none 0 0], .int .i64 cd]) (by simp [results, Tryd.results20, go_sem, z0, z1, z2, z3]) rfl ⟨⟨_, rfl, Own.nil _ _ _⟩, hF.1⟩
 ·have HRT : Aside0 (res = (zeroT, cn)) := ⟨by have := HRES.out; rw [if_pos hz] at this; exact this⟩
  have hz1 : (cn != 0) = true := bne_iff_ne.mpr hz
  clear hz
  go_wp2_with fail
  have hF := HFIN.out W2 HB2.out B22.out
  obtain ⟨z0, z1, z2, z3⟩ := cells4 hF.2
  rw [HRT.out]
  exact bodyPost_ret (v := .tuple #[.agg #[.int .i64 0, .bool false, .string ⟨#[]⟩, .slice none 0 0], .int .i64 cn]) (by simp [results, Tryd.results20, go_sem, z0, z1, z2, z3]) rfl ⟨⟨_, rfl, Own.nil _ _ _⟩, hF.1⟩
end Go.Proofs.YtnemeeidomceiaaDoor
end
section
namespace Go.Proofs.YtnemeeidomceiaaDoor
open Go.RowKit Go.Proofs.YtnemeeidomceiaaDoorW.PrintWords Go.Proofs.YtnemeeidomceiaaDoorW.PrintLast Go.Proofs.YtnemeeidomceiaaDoorW.PrintMore
set_option linter.unusedVariables false
def flatT (r : NodeT × Int) : Int × Bool × ByteArray × List Ent × Int := (r.1.1, r.1.2.1, r.1.2.2.1, r.1.2.2.2, r.2)
open Classical in
noncomputable def tree_Cut.f (k : Int) (e : Bool) (t : ByteArray) (l : List Ent) (path : ByteArray) : Option (Int × Bool × ByteArray × List Ent × Int) := if Held t l ∧ Fit l ∧ path.size ≤ 140737488351232 then some (flatT (cutP k e t l path)) else none
open Classical in
noncomputable def tree_Put.f (k : Int) (e : Bool) (t : ByteArray) (l : List Ent) (path : ByteArray) (sk : Int) (se : Bool) (st : ByteArray) (sl : List Ent) : Option (Int × Bool × ByteArray × List Ent × Int) :=
 if (Held t l ∧ Fit l) ∧ path.size ≤ 140737488351232 ∧ Held st sl ∧ Fit sl then some (flatT (putP (k, e, t, l) path (sk, se, st, sl))) else none
end Go.Proofs.YtnemeeidomceiaaDoor
end
section
namespace Go.Proofs.YtnemeeidomceiaaDoor
open Go.RowKit Go.Proofs.YtnemeeidomceiaaDoorW.PrintWords
set_option linter.unusedVariables false
/-- The kid of a name. -/
def look (l : List Ent) (s : ByteArray) : Option Ent := if hasN l s = true then l[rk l s]? else none
theorem rk_spec : ∀ {l : List Ent} (s : ByteArray), Rising l → (∀ x, x ∈ l.take (rk l s) → cmpB x.f0 s < 0) ∧ (∀ x, x ∈ l.drop (rk l s) → ¬ cmpB x.f0 s < 0)
 | [], s, _ => ⟨by simp [rk], by simp [rk]⟩
 | y :: l, s, h => by
  have hp := List.pairwise_cons.1 h
  have ih := rk_spec s hp.2
  by_cases hy : cmpB y.f0 s < 0
  ·have e : rk (y :: l) s = rk l s + 1 := by unfold rk; rw [List.filter_cons_of_pos (by simpa using hy), List.length_cons]
   rw [e, List.take_succ_cons, List.drop_succ_cons]
   refine ⟨fun x hx => ?_, ih.2⟩
   rcases List.mem_cons.1 hx with rfl | hx
   ·exact hy
   ·exact ih.1 x hx
  ·have h0 : ∀ x, x ∈ l → ¬ cmpB x.f0 s < 0 := fun x hx hlt => hy (cmpB_trans (hp.1 x hx) hlt)
   have e : rk (y :: l) s = 0 := by
    unfold rk
    rw [List.filter_cons_of_neg (by simpa using hy), List.filter_eq_nil_iff.2 (fun x hx => by simpa using h0 x hx)]; rfl
   rw [e]
   refine ⟨by simp, fun x hx => ?_⟩
   rcases List.mem_cons.1 hx with rfl | hx
   ·exact hy
   ·exact h0 x hx
theorem look_iff' {l : List Ent} {s : ByteArray} {x : Ent} (h : Rising l) : look l s = some x ↔ x ∈ l ∧ x.f0 = s := by
 constructor
 ·intro hl
  unfold look at hl
  split at hl
  ·rename_i hh
   obtain ⟨y, hy, hs⟩ := hasN_at hh
   rw [hy] at hl
   injection hl with hl
   subst hl
   exact ⟨List.mem_of_getElem? hy, hs⟩
  ·cases hl
 ·rintro ⟨hm, hs⟩
  obtain ⟨i, hi⟩ := List.mem_iff_getElem?.1 hm
  have hil := (List.getElem?_eq_some_iff.1 hi).1
  have hr : rk l s = i := rk_of i (Nat.le_of_lt hil) (fun j y hj hy => by rw [← hs]; exact h.at hj hy hi) (fun j y hj hy hlt => by
   by_cases e : j = i
   ·subst e; rw [hi] at hy; injection hy with hy; rw [← hy, hs, cmpB_self] at hlt; omega
   ·have := h.at (show i < j by omega) hi hy
    rw [hs, cmpB_neg] at this
    omega)
  have hh : hasN l s = true := by unfold hasN; rw [hr, hi]; exact decide_eq_true ((cmpB_zero _ _).2 hs)
  unfold look
  rw [if_pos hh, hr, hi]
theorem look_none {l : List Ent} {s : ByteArray} (h : Rising l) : look l s = none ↔ ∀ x, x ∈ l → x.f0 ≠ s := by
 constructor
 ·intro hl x hx hs
  rw [(look_iff' h).2 ⟨hx, hs⟩] at hl; cases hl
 ·intro hn
  cases hl : look l s with
  | none => rfl
  | some x => exact absurd ((look_iff' h).1 hl).2 (hn x ((look_iff' h).1 hl).1)
theorem has_look {l : List Ent} {s : ByteArray} : hasN l s = true ↔ ∃ x, look l s = some x := by
 constructor
 ·intro h
  obtain ⟨x, hx, _⟩ := hasN_at h
  exact ⟨x, by unfold look; rw [if_pos h, hx]⟩
 ·rintro ⟨x, hx⟩
  unfold look at hx
  split at hx
  ·assumption
  ·cases hx
/-- Two rising lists of the same kids are one. -/
theorem rising_ext : ∀ {l m : List Ent}, Rising l → Rising m → (∀ x, x ∈ l ↔ x ∈ m) → l = m
 | [], [], _, _, _ => rfl
 | [], y :: m, _, _, h => by have := (h y).2 List.mem_cons_self; cases this
 | x :: l, [], _, _, h => by have := (h x).1 List.mem_cons_self; cases this
 | x :: l, y :: m, h1, h2, h => by
  have p1 := List.pairwise_cons.1 h1
  have p2 := List.pairwise_cons.1 h2
  have hxy : x = y := by
   rcases List.mem_cons.1 ((h x).1 List.mem_cons_self) with e | e
   ·exact e
   ·rcases List.mem_cons.1 ((h y).2 List.mem_cons_self) with e2 | e2
    ·exact e2.symm
    ·have a := p2.1 x e
     have b := p1.1 y e2
     rw [cmpB_neg] at a
     omega
  subst hxy
  rw [rising_ext p1.2 p2.2 (fun z => ?_)]
  have hx1 : ∀ z, z ∈ l → z ≠ x := fun z hz e => by subst e; have := p1.1 z hz; rw [cmpB_self] at this; omega
  have hx2 : ∀ z, z ∈ m → z ≠ x := fun z hz e => by subst e; have := p2.1 z hz; rw [cmpB_self] at this; omega
  constructor
  ·intro hz
   rcases List.mem_cons.1 ((h z).1 (List.mem_cons_of_mem _ hz)) with e | e
   ·exact absurd e (hx1 z hz)
   ·exact e
  ·intro hz
   rcases List.mem_cons.1 ((h z).2 (List.mem_cons_of_mem _ hz)) with e | e
   ·exact absurd e (hx2 z hz)
   ·exact e
/-- The kids with one more, or with one in another's place. -/
def put1 (l : List Ent) (z : Ent) : List Ent := if hasN l z.f0 = true then l.set (rk l z.f0) z else l.take (rk l z.f0) ++ z :: l.drop (rk l z.f0)
theorem put1_mem {l : List Ent} {z : Ent} (h : Rising l) (x : Ent) : x ∈ put1 l z ↔ x = z ∨ (x ∈ l ∧ x.f0 ≠ z.f0) := by
 unfold put1
 split
 ·rename_i hh
  obtain ⟨y, hy, hs⟩ := hasN_at hh
  have hil := (List.getElem?_eq_some_iff.1 hy).1
  constructor
  ·intro hx
   obtain ⟨j, hj⟩ := List.mem_iff_getElem?.1 hx
   rw [List.getElem?_set] at hj
   by_cases e : rk l z.f0 = j
   ·rw [if_pos e, if_pos (by omega)] at hj
    injection hj with hj
    exact .inl hj.symm
   ·rw [if_neg e] at hj
    refine .inr ⟨List.mem_of_getElem? hj, fun e2 => ?_⟩
    rcases Nat.lt_or_gt_of_ne e with hlt | hgt
    ·have := h.at hlt hy hj; rw [hs, e2, cmpB_self] at this; omega
    ·have := h.at hgt hj hy; rw [hs, e2, cmpB_self] at this; omega
  ·rintro (rfl | ⟨hx, hn⟩)
   ·exact List.mem_iff_getElem?.2 ⟨rk l x.f0, by rw [List.getElem?_set_self hil]⟩
   ·obtain ⟨j, hj⟩ := List.mem_iff_getElem?.1 hx
    refine List.mem_iff_getElem?.2 ⟨j, ?_⟩
    rw [List.getElem?_set_ne (fun e => ?_)]
    ·exact hj
    ·subst e
     rw [hy] at hj
     injection hj with hj
     subst hj
     exact hn hs
 ·rename_i hh
  have hno : ∀ x, x ∈ l → x.f0 ≠ z.f0 := by
   refine (look_none h).1 ?_
   cases hl : look l z.f0 with
   | none => rfl
   | some y => exact absurd (has_look.2 ⟨y, hl⟩) hh
  rw [List.mem_append, List.mem_cons]
  constructor
  ·rintro (hx | rfl | hx)
   ·exact .inr ⟨List.mem_of_mem_take hx, hno x (List.mem_of_mem_take hx)⟩
   ·exact .inl rfl
   ·exact .inr ⟨List.mem_of_mem_drop hx, hno x (List.mem_of_mem_drop hx)⟩
  ·rintro (rfl | ⟨hx, _⟩)
   ·exact .inr (.inl rfl)
   ·rw [← List.take_append_drop (rk l z.f0) l, List.mem_append] at hx
    rcases hx with hx | hx
    ·exact .inl hx
    ·exact .inr (.inr hx)
theorem put1_rising {l : List Ent} {z : Ent} (h : Rising l) : Rising (put1 l z) := by
 unfold put1
 split
 ·rename_i hh
  obtain ⟨y, hy, hs⟩ := hasN_at hh
  have e : (l.set (rk l z.f0) z).map (·.f0) = l.map (·.f0) := by
   rw [List.map_set]
   apply List.ext_getElem?
   intro j
   rw [List.getElem?_set]
   split
   ·rename_i e
    subst e
    split
    ·rw [List.getElem?_map, hy]; exact congrArg some hs.symm
    ·rename_i hn
     exact absurd (by rw [List.length_map]; exact (List.getElem?_eq_some_iff.1 hy).1) hn
   ·rfl
  have h1 : (l.map (·.f0)).Pairwise (fun a b => cmpB a b < 0) := List.pairwise_map.2 (show l.Pairwise _ from h)
  rw [← e] at h1
  exact List.pairwise_map.1 h1
 ·rename_i hh
  have hno : ∀ x, x ∈ l → x.f0 ≠ z.f0 := by
   refine (look_none h).1 ?_
   cases hl : look l z.f0 with
   | none => rfl
   | some y => exact absurd (has_look.2 ⟨y, hl⟩) hh
  have hsp := rk_spec z.f0 h
  have h0 := h
  unfold Rising at h0
  rw [← List.take_append_drop (rk l z.f0) l, List.pairwise_append] at h0
  refine List.pairwise_append.2 ⟨h0.1, List.pairwise_cons.2 ⟨fun x hx => ?_, h0.2.1⟩, fun x hx y hy => ?_⟩
  ·have a := hsp.2 x hx
   have b := hno x (List.mem_of_mem_drop hx)
   rw [cmpB_neg]
   have : cmpB x.f0 z.f0 ≠ 0 := fun e => b ((cmpB_zero _ _).1 e)
   omega
  ·rcases List.mem_cons.1 hy with rfl | hy
   ·exact hsp.1 x hx
   ·exact h0.2.2 x hx y hy
theorem putAct_eq (sub : NodeT) (l : List Ent) (s : ByteArray) : putAct sub l (rk l s) (hasN l s) s = (put1 l (putK sub s), 0) := rfl
/-- One name deeper. -/
theorem chN_deep (act : List Ent → Nat → Bool → ByteArray → List Ent × Int) {s : ByteArray} {r : List ByteArray} (hr : r ≠ []) {l : List Ent} {x : Ent} (hx : look l s = some x) (hR : Rising l) : chN act (s :: r) 3 l = if (chN act r x.f1 x.f4).2 ≠ 0 then ([], (chN act r x.f1 x.f4).2) else (put1 l { x with f4 := (chN act r x.f1 x.f4).1 }, 0) := by
 have hh : hasN l s = true := has_look.2 ⟨x, hx⟩
 have hxs : x.f0 = s := ((look_iff' hR).1 hx).2
 rw [chN, if_neg (fun h => h rfl), if_neg hr]
 unfold look at hx
 rw [hx]
 show (if (chN act r x.f1 x.f4).2 ≠ 0 then ([], (chN act r x.f1 x.f4).2) else (l.set (rk l s) { x with f4 := (chN act r x.f1 x.f4).1 }, 0)) = _
 unfold put1
 rw [if_pos (show hasN l ({ x with f4 := (chN act r x.f1 x.f4).1 } : Ent).f0 = true by show hasN l x.f0 = true; rw [hxs]; exact hh)]
 rw [show rk l ({ x with f4 := (chN act r x.f1 x.f4).1 } : Ent).f0 = rk l s from by show rk l x.f0 = _; rw [hxs]]
theorem chN_lost (act : List Ent → Nat → Bool → ByteArray → List Ent × Int) {s : ByteArray} {r : List ByteArray} (hr : r ≠ []) {l : List Ent} (hx : look l s = none) : chN act (s :: r) 3 l = ([], 3) := by
 rw [chN, if_neg (fun h => h rfl), if_neg hr]
 unfold look at hx
 rw [hx]
theorem AllR.look {l : List Ent} (h : AllR l) {s : ByteArray} {x : Ent} (hx : look l s = some x) : AllR x.f4 := by
 obtain ⟨i, hi⟩ := List.mem_iff_getElem?.1 ((look_iff' h.rises.1).1 hx).1
 exact h.at hi
end Go.Proofs.YtnemeeidomceiaaDoor
end
section
namespace Go.Proofs.YtnemeeidomceiaaDoor
open Go.RowKit Go.Proofs.YtnemeeidomceiaaDoorW.PrintWords
set_option linter.unusedVariables false
theorem look_at {l : List Ent} {s : ByteArray} {x : Ent} (h : look l s = some x) : hasN l s = true ∧ l[rk l s]? = some x := by
 have hh : hasN l s = true := has_look.2 ⟨x, h⟩
 refine ⟨hh, ?_⟩
 unfold look at h
 rw [if_pos hh] at h
 exact h
theorem AllR.fit : ∀ {l : List Ent}, AllR l → Fit l := by
 intro l h
 induction h with
 | mk h n k ih => exact .mk (by omega) ih
def codeN (n : NodeT) : Int := lookCode (lookL n.1 n.2.1 n.2.2.1 n.2.2.2)
def Good (n : NodeT) : Prop := Held n.2.2.1 n.2.2.2 ∧ Fit n.2.2.2
theorem good_zero : Good zeroT := ⟨⟨.of (by simp [zeroT]), by decide⟩, .mk (by simp [zeroT]) (by simp [zeroT])⟩
def pathE (p : ByteArray) : Int := (splitP p).2.1
theorem ready_eq (n : NodeT) (p : ByteArray) : readyP n.1 n.2.1 n.2.2.1 n.2.2.2 p = if codeN n ≠ 0 then ([], codeN n) else ((splitP p).1, pathE p) := rfl
theorem ready_ok {n : NodeT} (h : codeN n = 0) (p : ByteArray) : readyP n.1 n.2.1 n.2.2.1 n.2.2.2 p = ((splitP p).1, pathE p) := by rw [ready_eq, if_neg (fun e => e h)]
theorem putP_eq {n : NodeT} (h : codeN n = 0) {sub : NodeT} (hs : codeN sub = 0) {p : ByteArray} (hp : pathE p = 0) (hne : (splitP p).1 ≠ []) : putP n p sub = if (chN (putAct sub) (splitP p).1 n.1 n.2.2.2).2 ≠ 0 then (zeroT, (chN (putAct sub) (splitP p).1 n.1 n.2.2.2).2) else if codeN (n.1, n.2.1, n.2.2.1, (chN (putAct sub) (splitP p).1 n.1 n.2.2.2).1) ≠ 0 then (zeroT, codeN (n.1, n.2.1, n.2.2.1, (chN (putAct sub) (splitP p).1 n.1 n.2.2.2).1)) else ((n.1, n.2.1, n.2.2.1, (chN (putAct sub) (splitP p).1 n.1 n.2.2.2).1), 0) := by
 unfold putP
 rw [ready_ok hs, if_neg (fun e => e h), if_neg (fun e => e hp), if_neg hne]
 rfl
theorem split_nil {p : ByteArray} (h : p.toList = []) : splitP p = ([], 0, 0) := by unfold splitP; rw [if_pos h]
def slashed (x : ByteArray) : List UInt8 := x.data.toList ++ [47]
theorem ex_data (s : ByteArray) (a b : Nat) : (s.extract a b).data.toList = (s.data.toList.drop a).take (b - a) := by
 rw [ByteArray.data_extract, Array.toList_extract, List.extract_eq_take_drop]
theorem pieces_join (s : ByteArray) : ∀ (m frm i : Nat), i + m = s.size → frm ≤ i → (pieces s m frm i).flatMap slashed = s.data.toList.drop frm ++ [47]
 | 0, frm, i, h, hf => by
  rw [pieces, List.flatMap_cons, List.flatMap_nil, List.append_nil]
  unfold slashed
  rw [ex_data, List.take_of_length_le]
  rw [List.length_drop, Array.length_toList]
  show s.size - frm ≤ _
  omega
 | m + 1, frm, i, h, hf => by
  rw [pieces]
  have hi : i < s.data.toList.length := by rw [Array.length_toList]; show i < s.size; omega
  by_cases hb : bt s (i : Int) = 47
  ·rw [if_neg (fun e => e hb), List.flatMap_cons, pieces_join s m (i + 1) (i + 1) (by omega) (Nat.le_refl _)]
   unfold slashed
   rw [ex_data]
   have h1 : s.data.toList.drop i = 47 :: s.data.toList.drop (i + 1) := by
    rw [List.drop_eq_getElem_cons hi]
    have hc := bt_toList s i (by omega) 47
    have := (List.getElem?_eq_some_iff.1 (hc.2 hb)).2
    rw [this]
   have h2 : s.data.toList.drop frm = (s.data.toList.drop frm).take (i - frm) ++ s.data.toList.drop i := by
    have := (List.take_append_drop (i - frm) (s.data.toList.drop frm)).symm
    rw [List.drop_drop, show frm + (i - frm) = i from by omega] at this
    exact this
   generalize (s.data.toList.drop frm).take (i - frm) = u at *
   rw [h2, h1]
   simp
  ·rw [if_pos hb, pieces_join s m frm (i + 1) (by omega) (by omega)]
end Go.Proofs.YtnemeeidomceiaaDoor
end
section
namespace Go.Proofs.YtnemeeidomceiaaDoor
open Go.RowKit Go.Proofs.YtnemeeidomceiaaDoorW.PrintWords Go.Proofs.YtnemeeidomceiaaDoorW.PrintLast Go.Proofs.YtnemeeidomceiaaDoorW.PrintMore
set_option linter.unusedVariables false
open Classical in
noncomputable def depotref06_Equal.f (a0_0 : Int) (a0_1 : Bool) (a0_2 : ByteArray) (l0_3 : List Ent) (a1_0 : Int) (a1_1 : Bool) (a1_2 : ByteArray) (l1_3 : List Ent) : Option Bool := if Fit l0_3 then some (decide ((a0_0, a0_1, a0_2, l0_3) = (a1_0, a1_1, a1_2, l1_3))) else none
def depotlaw06_awake.f : Option Bool := some true
end Go.Proofs.YtnemeeidomceiaaDoor
end
section
namespace Go.Proofs.YtnemeeidomceiaaDoor
open Go.RowKit Go.Proofs.YtnemeeidomceiaaDoorW.PrintWords Go.Proofs.YtnemeeidomceiaaDoorW.PrintLast Go.Proofs.YtnemeeidomceiaaDoorW.PrintMore
set_option linter.unusedVariables false
open Classical in
noncomputable def tree_Get.f (k : Int) (e : Bool) (t : ByteArray) (l : List Ent) (path : ByteArray) : Option (Int × Bool × ByteArray × List Ent × Int) := if Held t l ∧ Fit l ∧ path.size ≤ 140737488351232 then some (flatT (getP (k, e, t, l) path)) else none
end Go.Proofs.YtnemeeidomceiaaDoor
end
section
namespace Go.Proofs.YtnemeeidomceiaaDoor.PGTreeGets
open Go.RowKit Go.Proofs.YtnemeeidomceiaaDoorW.PrintWords Go.Proofs.YtnemeeidomceiaaDoorW.PrintLast Go.Proofs.YtnemeeidomceiaaDoorW.PrintMore
attribute [local go_sem] max2_int min2_int max_two min_two max_three min_three max_four min_four   -- for this text's walks alone
set_option linter.unusedVariables false
set_option linter.unusedSimpArgs false
noncomputable section
def errW : Option Int → Value
 | none => .nilIface
 | some c => .iface 0 (.int .i64 c)
theorem errW_none : errW none = .nilIface := rfl
theorem errW_some (c : Int) : errW (some c) = .iface 0 (.int .i64 c) := rfl
theorem info9 : (Tryd.prog.info? 9).map (fun i => (i.zero, i.size, i.bytes)) = some (some (.string ⟨#[]⟩), 1, 16) := by kernel_rfl
end
end Go.Proofs.YtnemeeidomceiaaDoor.PGTreeGets
end
section
namespace Go.Proofs.YtnemeeidomceiaaDoor.PGTreeGets
open Go.RowKit Go.Proofs.YtnemeeidomceiaaDoorW.PrintWords Go.Proofs.YtnemeeidomceiaaDoorW.PrintLast Go.Proofs.YtnemeeidomceiaaDoorW.PrintMore
attribute [local go_sem] max2_int min2_int max_two min_two max_three min_three max_four min_four   -- for this text's walks alone
set_option linter.unusedVariables false
set_option linter.unusedSimpArgs false
noncomputable section
mutual
def depotref05_Split.l0 : Nat → ByteArray → List ByteArray → Int → Int → Option (List ByteArray × Int × Int)
 | 0, _, _, _, _ => none
 | k + 1, x0, x5, x6, x7 => if x7 ≤ (x0.size : Int) then (if x7 < (x0.size : Int) then (if 0 ≤ x7 then (depotref05_Split.j1 k x0 x5 x6 x7 ((bt x0 x7) != 47)) else (none)) else (depotref05_Split.j1 k x0 x5 x6 x7 false)) else (some (x5, 0, 0))
def depotref05_Split.j1 : Nat → ByteArray → List ByteArray → Int → Int → Bool → Option (List ByteArray × Int × Int)
 | 0, _, _, _, _, _ => none
 | k + 1, x0, x5, x6, x7, x26 => if x26 = true then (depotref05_Split.l0 k x0 x5 x6 (wrap64 (x7 + 1))) else (if (x5.length : Int) = 31 then (some (([] : List ByteArray), 61, x6)) else (if 0 ≤ x6 then (if x6 ≤ x7 then (if x7 ≤ (x0.size : Int) then ((depotref05_Check.f (x0.extract (x6 : Int).toNat (x7 : Int).toNat)).bind fun t102 => (if t102 = 0 then (if x5.length < 8796093022208 then (depotref05_Split.l0 k x0 (x5 ++ [x0.extract (x6 : Int).toNat (x7 : Int).toNat]) (wrap64 (x7 + 1)) (wrap64 (x7 + 1))) else (none)) else (some (([] : List ByteArray), t102, x6)))) else (none)) else (none)) else (none)))
end
def depotref05_Split.f (k : Nat) (a0 : ByteArray) : Option (List ByteArray × Int × Int) := if a0.toList = ([] : List UInt8) then (some (([] : List ByteArray), 0, 0)) else (depotref05_Split.l0 k a0 ([] : List ByteArray) 0 0)
theorem depotref05_Split.mono_l : ∀ k, (∀ y0 y1 y2 y3, LeO (depotref05_Split.l0 k y0 y1 y2 y3) (depotref05_Split.l0 (k + 1) y0 y1 y2 y3)) ∧ (∀ y0 y1 y2 y3 y4, LeO (depotref05_Split.j1 k y0 y1 y2 y3 y4) (depotref05_Split.j1 (k + 1) y0 y1 y2 y3 y4))
 | 0 => ⟨fun _ _ _ _ r h => by simp [depotref05_Split.l0] at h, fun _ _ _ _ _ r h => by simp [depotref05_Split.j1] at h⟩
 | k + 1 => by
  obtain ⟨ih0, ih1⟩ := depotref05_Split.mono_l k
  refine ⟨?_, ?_⟩
  ·intro y0 y1 y2 y3
   unfold depotref05_Split.l0
   repeat' first
   | (with_reducible exact ih0 _ _ _ _)
   | (with_reducible exact ih1 _ _ _ _ _)
   | (with_reducible exact LeO.refl _)
   | (with_reducible exact LeO.none _)
   | (with_reducible refine LeO.ite ?_ ?_)
   | (with_reducible refine LeO.bind ?_ (fun _ => ?_))
   | exact ih0 _ _ _ _
   | exact ih1 _ _ _ _ _
   | exact LeO.none _
   | refine LeO.ite ?_ ?_
   | refine LeO.bind ?_ (fun _ => ?_)
  ·intro y0 y1 y2 y3 y4
   unfold depotref05_Split.j1
   repeat' first
   | (with_reducible exact ih0 _ _ _ _)
   | (with_reducible exact ih1 _ _ _ _ _)
   | (with_reducible exact LeO.refl _)
   | (with_reducible exact LeO.none _)
   | (with_reducible refine LeO.ite ?_ ?_)
   | (with_reducible refine LeO.bind ?_ (fun _ => ?_))
   | exact ih0 _ _ _ _
   | exact ih1 _ _ _ _ _
   | exact LeO.none _
   | refine LeO.ite ?_ ?_
   | refine LeO.bind ?_ (fun _ => ?_)
theorem depotref05_Split.mono : ∀ a0 k, LeO (depotref05_Split.f k a0) (depotref05_Split.f (k + 1) a0) := by
 intro a0 k
 obtain ⟨ih0, ih1⟩ := depotref05_Split.mono_l k
 unfold depotref05_Split.f
 repeat' first
   | (with_reducible exact ih0 _ _ _ _)
   | (with_reducible exact ih1 _ _ _ _ _)
   | (with_reducible exact LeO.refl _)
   | (with_reducible exact LeO.none _)
   | (with_reducible refine LeO.ite ?_ ?_)
   | (with_reducible refine LeO.bind ?_ (fun _ => ?_))
   | exact ih0 _ _ _ _
   | exact ih1 _ _ _ _ _
   | exact LeO.none _
   | refine LeO.ite ?_ ?_
   | refine LeO.bind ?_ (fun _ => ?_)
set_option maxHeartbeats 8000000 in
set_option maxRecDepth 100000 in
theorem depotref05_Split.calls (k : Nat) (a0 : ByteArray) (r1 : List ByteArray) (r2 : Int) (r3 : Int) (w : World) (h : depotref05_Split.f k a0 = some (r1, r2, r3)) :
  Calls Tryd.prog 40 #[.string a0] w fun e w' => ∃ v0_ : Value, e = .returned (.tuple #[v0_, .int .i64 r2, .int .i64 r3]) ∧ Kd.R Kd.string 9 w' w.heap.size (fun _ => True) v0_ r1 ∧ Below w.heap.size w w' := by
 have HB := Aside0.mk (Below.refl w.heap.size w)
 have H : (if a0.toList = ([] : List UInt8) then (some (([] : List ByteArray), 0, 0)) else (depotref05_Split.l0 k a0 ([] : List ByteArray) 0 0)) = some (r1, r2, r3) := h
 clear h
 by_cases c2 : a0.toList = ([] : List UInt8)
 ·rw [if_pos c2] at H
  have c2b0 : (a0.toList == ([] : List UInt8)) = true := beq_iff_eq.mpr c2
  have c2b1 : (a0.toList != ([] : List UInt8)) = false := bne_eq_false_iff_eq.mpr c2
  clear c2
  simp only [Option.some.injEq, Prod.mk.injEq] at H
  obtain ⟨rfl, rfl, rfl⟩ := H
  go_enter Tryd.func40, Tryd.ntmps40
  go_wp2
  go_ret3
  exact ⟨_, by first | rfl | (simp [errW_none, errW_some] <;> rfl) | (simp [*, errW_none, errW_some] <;> rfl), by first | exact Kd.R_nil _ _ _ _ _ | exact Kd.N_nil _ _ _ _ _ | exact Kd.V_nil _ _ _ _ _ | exact Kd.Q_nil _ _ _ _ _ | exact Kd.S_nil _ _ _ _ _, by repeat (first | (with_reducible first | exact HB.out | apply below_alloc | apply pw_below_drewN | apply below_drew1) | exact HB.out)⟩
 ·rw [if_neg c2] at H
  have c2b0 : (a0.toList == ([] : List UInt8)) = false := beq_eq_false_iff_ne.mpr c2
  have c2b1 : (a0.toList != ([] : List UInt8)) = true := bne_iff_ne.mpr c2
  have H' := Aside0.mk H
  clear H
  go_enter Tryd.func40, Tryd.ntmps40
  go_wp2
  go_loopg [5, 6, 7] k (fun kq v5 v6 v7 w' => ∃ (x5_1 : List ByteArray) (x6_1 : Int) (x7_1 : Int), v6 = .int .i64 x6_1 ∧ v7 = .int .i64 x7_1 ∧ Aside0 (depotref05_Split.l0 kq a0 x5_1 x6_1 x7_1 = some (r1, r2, r3)) ∧ Aside0 (kq ≤ k) ∧ Aside0 (Kd.R Kd.string 9 w' w.heap.size (fun _ => True) v5 x5_1) ∧ Aside0 (Below w.heap.size w w'))
  case atStart => exact ⟨(([] : List ByteArray)), (0), (0), (by first | rfl | (simp; done) | (simp [*]; done)), (by first | rfl | (simp; done) | (simp [*]; done)), H', ⟨Nat.le_refl _⟩, ⟨by first | exact Kd.R_nil _ _ _ _ _ | exact Kd.N_nil _ _ _ _ _ | exact Kd.V_nil _ _ _ _ _ | exact Kd.Q_nil _ _ _ _ _ | exact Kd.S_nil _ _ _ _ _⟩, ⟨by repeat (first | (with_reducible first | exact HB.out | apply below_alloc | apply pw_below_drewN | apply below_drew1) | exact HB.out)⟩⟩
  case round =>
   clear H'
   try clear c2
   try clear c2b0
   try clear c2b1
   try clear p2
   obtain ⟨x5_1, x6_1, x7_1, rfl, rfl, HA, HK1, HO_5, HB⟩ := hrel
   cases gk with
   | zero => exact absurd HA.out (by simp [depotref05_Split.l0])
   | succ k1 =>
    have H := HA.out
    clear HA
    simp only [depotref05_Split.l0] at H
    by_cases c3 : x7_1 ≤ (a0.size : Int)
    ·rw [if_pos c3] at H
     have c3b0 : decide (x7_1 ≤ (a0.size : Int)) = true := decide_eq_true c3
     clear c3
     have HC4 := Aside0.mk H
     clear H
     go_upto_region 8 with (fail)
     go_cut [26] (fun v26 wc => ∃ (kq : Nat) (x26_3 : Bool), v26 = .bool x26_3 ∧ Aside0 (depotref05_Split.j1 kq a0 x5_1 x6_1 x7_1 x26_3 = some (r1, r2, r3)) ∧ Aside0 (kq ≤ k1) ∧ Aside0 (Kd.R Kd.string 9 wc w.heap.size (fun _ => True) u5 x5_1) ∧ Aside0 (Below w.heap.size w wc))
     case first =>
      have H := HC4.out
      clear HC4
      by_cases c5 : x7_1 < (a0.size : Int)
      ·rw [if_pos c5] at H
       have c5b0 : decide (x7_1 < (a0.size : Int)) = true := decide_eq_true c5
       clear c5
       (first | rw [c5b0] | (simp only [i64_w, i32_w]; rw [c5b0]) | skip)
       by_cases c6 : 0 ≤ x7_1
       ·rw [if_pos c6] at H
        have c6b0 : decide (0 ≤ x7_1) = true := decide_eq_true c6
        clear c6
        have H' := Aside0.mk H
        clear H
        have p7 : 0 ≤ (x7_1 : Int) := of_decide_eq_true (by first | (with_reducible assumption) | assumption)
        have q7 : x7_1 < (a0.size : Int) := of_decide_eq_true (by first | (with_reducible assumption) | assumption)
        have hx7 := bt_at a0 x7_1
        replace p7 := eq_true p7
        replace q7 := eq_true q7
        go_wp2
        go_meet
        case rel => exact ⟨_, (((bt a0 x7_1) != 47)), (by first | rfl | (simp; done) | (simp [*]; done)), H', ⟨by have := HK1.out; first | omega | exact Nat.le_refl _⟩, ⟨by (with_reducible repeat (first | apply Kd.R_alloc | apply Kd.R_drewN | apply Kd.R_drew)); exact HO_5.out⟩, ⟨by repeat (first | (with_reducible first | exact HB.out | apply below_alloc | apply pw_below_drewN | apply below_drew1) | exact HB.out)⟩⟩
       ·rw [if_neg c6] at H
        exact absurd H (by simp)
      ·rw [if_neg c5] at H
       have c5b0 : decide (x7_1 < (a0.size : Int)) = false := decide_eq_false c5
       clear c5
       (first | rw [c5b0] | (simp only [i64_w, i32_w]; rw [c5b0]) | skip)
       have H' := Aside0.mk H
       clear H
       go_wp2
       go_meet
       case rel => exact ⟨_, (false), (by first | rfl | (simp; done) | (simp [*]; done)), H', ⟨by have := HK1.out; first | omega | exact Nat.le_refl _⟩, ⟨by (with_reducible repeat (first | apply Kd.R_alloc | apply Kd.R_drewN | apply Kd.R_drew)); exact HO_5.out⟩, ⟨by repeat (first | (with_reducible first | exact HB.out | apply below_alloc | apply pw_below_drewN | apply below_drew1) | exact HB.out)⟩⟩
     case rest =>
      clear HC4
      try clear c2
      try clear c2b0
      try clear c2b1
      try clear p2
      try clear c3
      try clear c3b0
      try clear c4
      try clear c5
      try clear c5b0
      try clear c6
      try clear c6b0
      try clear p7
      try clear q7
      try clear hx7
      try clear p2
      try clear p7
      try clear q7
      obtain ⟨kq, x26_3, rfl, HA, HJ3, HO_5, HB⟩ := hcut
      cases kq with
      | zero => exact absurd HA.out (by simp [depotref05_Split.j1])
      | succ kj3 =>
       have H := HA.out
       clear HA
       simp only [depotref05_Split.j1] at H
       by_cases c8 : x26_3 = true
       ·subst c8
        have H1 : (depotref05_Split.l0 kj3 a0 x5_1 x6_1 (wrap64 (x7_1 + 1))) = some (r1, r2, r3) := by rw [if_pos rfl] at H; exact H
        clear H
        have H := H1
        clear H1
        have H' := Aside0.mk H
        clear H
        go_wp2
        go_roundg kj3
        case measure => have := HK1.out; have := HJ3.out; omega
        case rel => exact ⟨(x5_1), (x6_1), (wrap64 (x7_1 + 1)), (by first | rfl | (simp; done) | (simp [*]; done)), (by first | rfl | (simp; done) | (simp [*]; done)), H', ⟨by have := HK1.out; have := HJ3.out; omega⟩, ⟨by (with_reducible repeat (first | apply Kd.R_alloc | apply Kd.R_drewN | apply Kd.R_drew)); exact HO_5.out⟩, ⟨by repeat (first | (with_reducible first | exact HB.out | apply below_alloc | apply pw_below_drewN | apply below_drew1) | exact HB.out)⟩⟩
       ·replace c8 := Bool.eq_false_iff.mpr c8
        subst c8
        have H1 : (if (x5_1.length : Int) = 31 then (some (([] : List ByteArray), 61, x6_1)) else (if 0 ≤ x6_1 then (if x6_1 ≤ x7_1 then (if x7_1 ≤ (a0.size : Int) then ((depotref05_Check.f (a0.extract (x6_1 : Int).toNat (x7_1 : Int).toNat)).bind fun t102 => (if t102 = 0 then (if x5_1.length < 8796093022208 then (depotref05_Split.l0 kj3 a0 (x5_1 ++ [a0.extract (x6_1 : Int).toNat (x7_1 : Int).toNat]) (wrap64 (x7_1 + 1)) (wrap64 (x7_1 + 1))) else (none)) else (some (([] : List ByteArray), t102, x6_1)))) else (none)) else (none)) else (none))) = some (r1, r2, r3) := by rw [if_neg (show ¬ (false = true) by decide)] at H; exact H
        clear H
        have H := H1
        clear H1
        by_cases c9 : (x5_1.length : Int) = 31
        ·rw [if_pos c9] at H
         have c9b0 : ((x5_1.length : Int) == 31) = true := beq_iff_eq.mpr c9
         have c9b1 : ((x5_1.length : Int) != 31) = false := bne_eq_false_iff_eq.mpr c9
         clear c9
         simp only [Option.some.injEq, Prod.mk.injEq] at H
         obtain ⟨rfl, rfl, rfl⟩ := H
         obtain ⟨Ao10, co10, eo10⟩ := Kd.R_slice HO_5.out
         subst eo10
         go_wp2
         go_ret3
         exact ⟨_, by first | rfl | (simp [errW_none, errW_some] <;> rfl) | (simp [*, errW_none, errW_some] <;> rfl), by first | exact Kd.R_nil _ _ _ _ _ | exact Kd.N_nil _ _ _ _ _ | exact Kd.V_nil _ _ _ _ _ | exact Kd.Q_nil _ _ _ _ _ | exact Kd.S_nil _ _ _ _ _, by repeat (first | (with_reducible first | exact HB.out | apply below_alloc | apply pw_below_drewN | apply below_drew1) | exact HB.out)⟩
        ·rw [if_neg c9] at H
         have c9b0 : ((x5_1.length : Int) == 31) = false := beq_eq_false_iff_ne.mpr c9
         have c9b1 : ((x5_1.length : Int) != 31) = true := bne_iff_ne.mpr c9
         by_cases c11 : 0 ≤ x6_1
         ·rw [if_pos c11] at H
          have c11b0 := eq_true c11
          have c11b1 : decide (0 ≤ x6_1) = true := decide_eq_true c11
          clear c11
          by_cases c12 : x6_1 ≤ x7_1
          ·rw [if_pos c12] at H
           have c12b0 := eq_true c12
           have c12b1 : decide (x6_1 ≤ x7_1) = true := decide_eq_true c12
           clear c12
           by_cases c13 : x7_1 ≤ (a0.size : Int)
           ·rw [if_pos c13] at H
            have c13b0 := eq_true c13
            have c13b1 : decide (x7_1 ≤ (a0.size : Int)) = true := decide_eq_true c13
            clear c13
            replace H := Option.bind_eq_some_iff.mp H
            obtain ⟨t102, A140, H⟩ := H
            replace H : (if t102 = 0 then (if x5_1.length < 8796093022208 then (depotref05_Split.l0 kj3 a0 (x5_1 ++ [a0.extract (x6_1 : Int).toNat (x7_1 : Int).toNat]) (wrap64 (x7_1 + 1)) (wrap64 (x7_1 + 1))) else (none)) else (some (([] : List ByteArray), t102, x6_1))) = some (r1, r2, r3) := H
            have A14 := Aside0.mk A140
            clear A140
            by_cases c15 : t102 = 0
            ·rw [if_pos c15] at H
             have c15b0 : (t102 == 0) = true := beq_iff_eq.mpr c15
             have c15b1 : (t102 != 0) = false := bne_eq_false_iff_eq.mpr c15
             clear c15
             have c16b0 := eq_true (of_decide_eq_true (by first | (with_reducible assumption) | assumption) : 0 ≤ x6_1)
             have c17b0 := eq_true (of_decide_eq_true (by first | (with_reducible assumption) | assumption) : x6_1 ≤ x7_1)
             have c18b0 := eq_true (of_decide_eq_true (by first | (with_reducible assumption) | assumption) : x7_1 ≤ (a0.size : Int))
             by_cases c19 : x5_1.length < 8796093022208
             ·rw [if_pos c19] at H
              have LMc19 := Aside0.mk c19
              clear c19
              obtain ⟨y103, hy103⟩ : ∃ y_ : List ByteArray, y_ = (x5_1 ++ [a0.extract (x6_1 : Int).toNat (x7_1 : Int).toNat]) := ⟨_, rfl⟩
              replace H : (depotref05_Split.l0 kj3 a0 y103 (wrap64 (x7_1 + 1)) (wrap64 (x7_1 + 1))) = some (r1, r2, r3) := by first | (rw [hy103]; with_reducible exact H) | (have H2_ := (Option.bind_some _ _).symm.trans H; rw [hy103]; with_reducible exact H2_) | (have H2_ := (Option.bind_some _ _).symm.trans H; with_reducible exact H2_) | with_reducible exact H | (rw [hy103]; exact H) | exact H
              have Ny103 := Aside0.mk hy103
              clear hy103
              have H' := Aside0.mk H
              clear H
              obtain ⟨Ao20, co20, eo20⟩ := Kd.R_slice HO_5.out
              subst eo20
              go_wp2_with (first | ((with_reducible refine gate_callee (f := 66) rfl ?_); refine goesL_ (some 35) rfl rfl Tryd.func66 (by kernel_rfl) rfl #[.string (a0.extract (x6_1 : Int).toNat (x7_1 : Int).toNat)] rfl (by (try simp only [List.map_toArray, List.map_cons, List.map_nil]); first | done | rfl | (simp only [List.length_drop, List.length_take]; rfl)) ?_; (with_reducible refine (depotref05_Check.calls (a0.extract (x6_1 : Int).toNat (x7_1 : Int).toNat) t102 _ A14.out).mono ?_); rintro e w21 ⟨rfl, hb⟩; refine ⟨_, rfl, ?_⟩; have n0_ := Aside0.mk (Kd.R_below (by (with_reducible repeat (first | apply Kd.R_alloc | apply Kd.R_drewN | apply Kd.R_drew)); exact HO_5.out) hb); have n1_ := Aside0.mk (below_step (by repeat (first | (with_reducible first | exact HB.out | apply below_alloc | apply pw_below_drewN | apply below_drew1) | exact HB.out)) hb); clear HO_5; clear HB; have HO_5 := n0_; have HB := n1_; clear n0_ n1_; (try clear hb); (try clear hb2); (try clear hk); (try clear hi)) | ((with_reducible refine gate_builtin (b := .append) (xs := #[.tmp 40, .tmp 45]) rfl ?_); at_builtin; refine Kd.R_append Kd.string (w0 := w) w.heap.size rfl (.tmp 40) (.tmp 45) 68 9 (.string ⟨#[]⟩) 16 rfl Tryd.underlying68 info9 rfl (by decide) (by omega) (.slice Ao20 x5_1.length co20) x5_1 (a0.extract (x6_1 : Int).toNat (x7_1 : Int).toNat) [.string (a0.extract (x6_1 : Int).toNat (x7_1 : Int).toNat)] (fun _ => True) (fun _ => False) rfl rfl ?aP (fun _ hk => hk.elim) ?aF ?aO ?aB ?aS ?aL ?_; (case aP => exact rfl); (case aB => exact (by repeat (first | (with_reducible first | exact HB.out | apply below_alloc | apply pw_below_drewN | apply below_drew1) | exact HB.out))); (case aF => exact (fun _ _ => trivial)); (case aO => exact (by (with_reducible repeat (first | apply Kd.R_alloc | apply Kd.R_drewN | apply Kd.R_drew)); exact HO_5.out)); (case aS => exact (below_size (by repeat (first | (with_reducible first | exact HB.out | apply below_alloc | apply pw_below_drewN | apply below_drew1) | exact HB.out)))); (case aL => have := LMc19.out; omega); intro v104 w22 ho hb hg hat; rw [← Ny103.out] at ho; have n0_ := Aside0.mk (hb); have n1_ := Aside0.mk (ho); clear HB; clear HO_5; have HB := n0_; have HO105 := n1_; clear n0_ n1_; clear ho hb hg hat))
              go_roundg kj3
              case measure => have := HK1.out; have := HJ3.out; omega
              case rel => exact ⟨(y103), (wrap64 (x7_1 + 1)), (wrap64 (x7_1 + 1)), (by first | rfl | (simp; done) | (simp [*]; done)), (by first | rfl | (simp; done) | (simp [*]; done)), H', ⟨by have := HK1.out; have := HJ3.out; omega⟩, ⟨by (with_reducible repeat (first | apply Kd.R_alloc | apply Kd.R_drewN | apply Kd.R_drew)); exact HO105.out⟩, ⟨by repeat (first | (with_reducible first | exact HB.out | apply below_alloc | apply pw_below_drewN | apply below_drew1) | exact HB.out)⟩⟩
             ·rw [if_neg c19] at H
              exact absurd H (by simp)
            ·rw [if_neg c15] at H
             have c15b0 : (t102 == 0) = false := beq_eq_false_iff_ne.mpr c15
             have c15b1 : (t102 != 0) = true := bne_iff_ne.mpr c15
             simp only [Option.some.injEq, Prod.mk.injEq] at H
             obtain ⟨rfl, rfl, rfl⟩ := H
             obtain ⟨Ao23, co23, eo23⟩ := Kd.R_slice HO_5.out
             subst eo23
             go_wp2_with (first | ((with_reducible refine gate_callee (f := 66) rfl ?_); refine goesL_ (some 35) rfl rfl Tryd.func66 (by kernel_rfl) rfl #[.string (a0.extract (x6_1 : Int).toNat (x7_1 : Int).toNat)] rfl (by (try simp only [List.map_toArray, List.map_cons, List.map_nil]); first | done | rfl | (simp only [List.length_drop, List.length_take]; rfl)) ?_; (with_reducible refine (depotref05_Check.calls (a0.extract (x6_1 : Int).toNat (x7_1 : Int).toNat) t102 _ A14.out).mono ?_); rintro e w24 ⟨rfl, hb⟩; refine ⟨_, rfl, ?_⟩; have n0_ := Aside0.mk (Kd.R_below (by (with_reducible repeat (first | apply Kd.R_alloc | apply Kd.R_drewN | apply Kd.R_drew)); exact HO_5.out) hb); have n1_ := Aside0.mk (below_step (by repeat (first | (with_reducible first | exact HB.out | apply below_alloc | apply pw_below_drewN | apply below_drew1) | exact HB.out)) hb); clear HO_5; clear HB; have HO_5 := n0_; have HB := n1_; clear n0_ n1_; (try clear hb); (try clear hb2); (try clear hk); (try clear hi)))
             go_ret3
             exact ⟨_, by first | rfl | (simp [errW_none, errW_some] <;> rfl) | (simp [*, errW_none, errW_some] <;> rfl), by first | exact Kd.R_nil _ _ _ _ _ | exact Kd.N_nil _ _ _ _ _ | exact Kd.V_nil _ _ _ _ _ | exact Kd.Q_nil _ _ _ _ _ | exact Kd.S_nil _ _ _ _ _, by repeat (first | (with_reducible first | exact HB.out | apply below_alloc | apply pw_below_drewN | apply below_drew1) | exact HB.out)⟩
           ·rw [if_neg c13] at H
            exact absurd H (by simp)
          ·rw [if_neg c12] at H
           exact absurd H (by simp)
         ·rw [if_neg c11] at H
          exact absurd H (by simp)
    ·rw [if_neg c3] at H
     have c3b0 : decide (x7_1 ≤ (a0.size : Int)) = false := decide_eq_false c3
     clear c3
     simp only [Option.some.injEq, Prod.mk.injEq] at H
     obtain ⟨rfl, rfl, rfl⟩ := H
     go_wp2
     go_ret3
     exact ⟨_, by first | rfl | (simp [errW_none, errW_some] <;> rfl) | (simp [*, errW_none, errW_some] <;> rfl), by (with_reducible repeat (first | apply Kd.R_alloc | apply Kd.R_drewN | apply Kd.R_drew)); exact HO_5.out, by repeat (first | (with_reducible first | exact HB.out | apply below_alloc | apply pw_below_drewN | apply below_drew1) | exact HB.out)⟩
def depotref06_begins.l0 : Nat → List ByteArray → List ByteArray → Int → Option (Bool)
 | 0, _, _, _ => none
 | k + 1, x0, x1, x5 => if x5 < (x1.length : Int) then (if 0 ≤ x5 then (if x5 < (x0.length : Int) then (if (rdOf ByteArray.empty x0 x5).toList = (rdOf ByteArray.empty x1 x5).toList then (depotref06_begins.l0 k x0 x1 (wrap64 (x5 + 1))) else (some false)) else (none)) else (none)) else (some true)
def depotref06_begins.f (k : Nat) (l0 : List ByteArray) (l1 : List ByteArray) : Option (Bool) := if (l0.length : Int) < (l1.length : Int) then (some false) else (depotref06_begins.l0 k l0 l1 0)
theorem depotref06_begins.mono_l : ∀ k, (∀ y0 y1 y2, LeO (depotref06_begins.l0 k y0 y1 y2) (depotref06_begins.l0 (k + 1) y0 y1 y2))
 | 0 => fun _ _ _ r h => by simp [depotref06_begins.l0] at h
 | k + 1 => by
  have ih0 := depotref06_begins.mono_l k
  ·intro y0 y1 y2
   unfold depotref06_begins.l0
   repeat' first
   | (with_reducible exact ih0 _ _ _)
   | (with_reducible exact LeO.refl _)
   | (with_reducible exact LeO.none _)
   | (with_reducible refine LeO.ite ?_ ?_)
   | (with_reducible refine LeO.bind ?_ (fun _ => ?_))
   | exact ih0 _ _ _
   | exact LeO.none _
   | refine LeO.ite ?_ ?_
   | refine LeO.bind ?_ (fun _ => ?_)
theorem depotref06_begins.mono : ∀ a0 a1 k, LeO (depotref06_begins.f k a0 a1) (depotref06_begins.f (k + 1) a0 a1) := by
 intro a0 a1 k
 have ih0 := depotref06_begins.mono_l k
 unfold depotref06_begins.f
 repeat' first
   | (with_reducible exact ih0 _ _ _)
   | (with_reducible exact LeO.refl _)
   | (with_reducible exact LeO.none _)
   | (with_reducible refine LeO.ite ?_ ?_)
   | (with_reducible refine LeO.bind ?_ (fun _ => ?_))
   | exact ih0 _ _ _
   | exact LeO.none _
   | refine LeO.ite ?_ ?_
   | refine LeO.bind ?_ (fun _ => ?_)
set_option maxHeartbeats 8000000 in
set_option maxRecDepth 100000 in
theorem depotref06_begins.calls (k : Nat) (A0 : Option Addr) (c0 : Nat) (l0 : List ByteArray) (A1 : Option Addr) (c1 : Nat) (l1 : List ByteArray) (r : Bool) (w : World) (hr0 : Kd.C Kd.string w A0 l0.length l0) (hc0 : l0.length ≤ c0) (hr1 : Kd.C Kd.string w A1 l1.length l1) (hc1 : l1.length ≤ c1) (h : depotref06_begins.f k l0 l1 = some r) :
  Calls Tryd.prog 58 #[.slice A0 l0.length c0, .slice A1 l1.length c1] w fun e w' => e = .returned (.bool r) ∧ Drawn0 w w' := by
 have HR0 := Aside0.mk hr0
 have HC0 := Aside0.mk hc0
 clear hr0 hc0
 have HR1 := Aside0.mk hr1
 have HC1 := Aside0.mk hc1
 clear hr1 hc1
 have H : (if (l0.length : Int) < (l1.length : Int) then (some false) else (depotref06_begins.l0 k l0 l1 0)) = some r := h
 clear h
 by_cases c3 : (l0.length : Int) < (l1.length : Int)
 ·rw [if_pos c3] at H
  have c3b0 : decide ((l0.length : Int) < (l1.length : Int)) = true := decide_eq_true c3
  have c3b1 : decide (l0.length < l1.length) = true := decide_eq_true (Int.ofNat_lt.mp c3)
  clear c3
  obtain rfl := Option.some.inj H
  go_enter Tryd.func58, Tryd.ntmps58
  go_wp2
  repeat (go_quiet (fail); try go_wp2)
  go_ret
  exact ⟨by first | rfl | (simp; done) | (simp [*]; done), by repeat (first | exact Drawn0.refl _ | apply Drawn0.step)⟩
 ·rw [if_neg c3] at H
  have c3b0 : decide ((l0.length : Int) < (l1.length : Int)) = false := decide_eq_false c3
  have c3b1 : decide (l0.length < l1.length) = false := decide_eq_false (fun h => c3 (Int.ofNat_lt.mpr h))
  clear c3
  have H' := Aside0.mk H
  clear H
  go_enter Tryd.func58, Tryd.ntmps58
  go_wp2
  repeat (go_quiet (fail); try go_wp2)
  go_loopg [5] k (fun kq v5 w' => ∃ (x5_1 : Int), v5 = .int .i64 x5_1 ∧ Aside0 (depotref06_begins.l0 kq l0 l1 x5_1 = some r) ∧ Aside0 (kq ≤ k) ∧ Drawn0 w w')
  case atStart => exact ⟨(0), (by first | rfl | (simp; done) | (simp [*]; done)), H', ⟨Nat.le_refl _⟩, by repeat (first | exact Drawn0.refl _ | apply Drawn0.step)⟩
  case round =>
   clear H'
   try clear c1
   try clear p2
   try clear c3
   try clear c3b0
   try clear c3b1
   obtain ⟨x5_1, rfl, HA, HK1, ⟨m1, rfl⟩⟩ := hrel
   cases gk with
   | zero => exact absurd HA.out (by simp [depotref06_begins.l0])
   | succ k1 =>
    have H := HA.out
    clear HA
    simp only [depotref06_begins.l0] at H
    by_cases c4 : x5_1 < (l1.length : Int)
    ·rw [if_pos c4] at H
     have c4b0 : decide (x5_1 < (l1.length : Int)) = true := decide_eq_true c4
     clear c4
     by_cases c5 : 0 ≤ x5_1
     ·rw [if_pos c5] at H
      have c5b0 : decide (0 ≤ x5_1) = true := decide_eq_true c5
      clear c5
      by_cases c6 : x5_1 < (l0.length : Int)
      ·rw [if_pos c6] at H
       have c6b0 : decide (x5_1 < (l0.length : Int)) = true := decide_eq_true c6
       clear c6
       by_cases c7 : (rdOf ByteArray.empty l0 x5_1).toList = (rdOf ByteArray.empty l1 x5_1).toList
       ·rw [if_pos c7] at H
        have c7b0 : ((rdOf ByteArray.empty l0 x5_1).toList == (rdOf ByteArray.empty l1 x5_1).toList) = true := beq_iff_eq.mpr c7
        have c7b1 : ((rdOf ByteArray.empty l0 x5_1).toList != (rdOf ByteArray.empty l1 x5_1).toList) = false := bne_eq_false_iff_eq.mpr c7
        clear c7
        have H' := Aside0.mk H
        clear H
        have p106 : 0 ≤ (x5_1 : Int) := of_decide_eq_true (by first | (with_reducible assumption) | assumption)
        have q106 : x5_1 < (l0.length : Int) := of_decide_eq_true (by first | (with_reducible assumption) | assumption)
        obtain ⟨ad106, e106, hx106_0⟩ := Kd.at_string HR0.out x5_1 p106 q106
        cases e106
        replace p106 := eq_true p106
        replace q106 := eq_true q106
        have p107 : 0 ≤ (x5_1 : Int) := of_decide_eq_true (by first | (with_reducible assumption) | assumption)
        have q107 : x5_1 < (l1.length : Int) := of_decide_eq_true (by first | (with_reducible assumption) | assumption)
        obtain ⟨ad107, e107, hx107_0⟩ := Kd.at_string HR1.out x5_1 p107 q107
        cases e107
        replace p107 := eq_true p107
        replace q107 := eq_true q107
        go_wp2
        repeat (go_quiet (fail); try go_wp2)
        go_roundg k1
        case measure => have := HK1.out; omega
        case rel => exact ⟨(wrap64 (x5_1 + 1)), (by first | rfl | (simp; done) | (simp [*]; done)), H', ⟨by have := HK1.out; omega⟩, by repeat (first | exact Drawn0.refl _ | apply Drawn0.step)⟩
       ·rw [if_neg c7] at H
        have c7b0 : ((rdOf ByteArray.empty l0 x5_1).toList == (rdOf ByteArray.empty l1 x5_1).toList) = false := beq_eq_false_iff_ne.mpr c7
        have c7b1 : ((rdOf ByteArray.empty l0 x5_1).toList != (rdOf ByteArray.empty l1 x5_1).toList) = true := bne_iff_ne.mpr c7
        obtain rfl := Option.some.inj H
        have p106 : 0 ≤ (x5_1 : Int) := of_decide_eq_true (by first | (with_reducible assumption) | assumption)
        have q106 : x5_1 < (l0.length : Int) := of_decide_eq_true (by first | (with_reducible assumption) | assumption)
        obtain ⟨ad106, e106, hx106_0⟩ := Kd.at_string HR0.out x5_1 p106 q106
        cases e106
        replace p106 := eq_true p106
        replace q106 := eq_true q106
        have p107 : 0 ≤ (x5_1 : Int) := of_decide_eq_true (by first | (with_reducible assumption) | assumption)
        have q107 : x5_1 < (l1.length : Int) := of_decide_eq_true (by first | (with_reducible assumption) | assumption)
        obtain ⟨ad107, e107, hx107_0⟩ := Kd.at_string HR1.out x5_1 p107 q107
        cases e107
        replace p107 := eq_true p107
        replace q107 := eq_true q107
        go_wp2
        repeat (go_quiet (fail); try go_wp2)
        go_ret
        exact ⟨by first | rfl | (simp; done) | (simp [*]; done), by repeat (first | exact Drawn0.refl _ | apply Drawn0.step)⟩
      ·rw [if_neg c6] at H
       exact absurd H (by simp)
     ·rw [if_neg c5] at H
      exact absurd H (by simp)
    ·rw [if_neg c4] at H
     have c4b0 : decide (x5_1 < (l1.length : Int)) = false := decide_eq_false c4
     clear c4
     obtain rfl := Option.some.inj H
     go_wp2
     repeat (go_quiet (fail); try go_wp2)
     go_ret
     exact ⟨by first | rfl | (simp; done) | (simp [*]; done), by repeat (first | exact Drawn0.refl _ | apply Drawn0.step)⟩
end
end Go.Proofs.YtnemeeidomceiaaDoor.PGTreeGets
end
section
namespace Go.Proofs.YtnemeeidomceiaaDoor.PGTreeGets
open Go.RowKit Go.Proofs.YtnemeeidomceiaaDoorW.PrintWords Go.Proofs.YtnemeeidomceiaaDoorW.PrintLast Go.Proofs.YtnemeeidomceiaaDoorW.PrintMore
attribute [local go_sem] max2_int min2_int max_two min_two max_three min_three max_four min_four   -- for this text's walks alone
set_option linter.unusedVariables false
set_option linter.unusedSimpArgs false
noncomputable section
mutual
def depotref06_gather.l0 : Nat → List (S29) → Int → List ByteArray → List (S63) → Option ((List (S63)) × Int)
 | 0, _, _, _, _ => none
 | k + 1, x0, x1, x2, x8 => if x1 < (x0.length : Int) then (if 0 ≤ x1 then ((depotref05_Split.f k ((rd_T29 x0 x1).f0)).bind fun bt109 => (if bt109.2.1 = 0 then (if (bt109.1.length : Int) = (wrap64 ((x2.length : Int) + 1)) then ((depotref06_begins.f k bt109.1 x2).bind fun t114 => (depotref06_gather.j1 k x0 x1 x2 x8 bt109.1 (!t114))) else (depotref06_gather.j1 k x0 x1 x2 x8 bt109.1 true)) else (depotref06_gather.j1 k x0 x1 x2 x8 bt109.1 true))) else (none)) else (some (x8, x1))
def depotref06_gather.j1 : Nat → List (S29) → Int → List ByteArray → List (S63) → List ByteArray → Bool → Option ((List (S63)) × Int)
 | 0, _, _, _, _, _, _ => none
 | k + 1, x0, x1, x2, x8, x9, x45 => if x45 = true then (some (x8, x1)) else (if 0 ≤ (wrap64 ((x9.length : Int) - 1)) then (if (wrap64 ((x9.length : Int) - 1)) < (x9.length : Int) then (if (x8.length : Int) > 0 then (if 0 ≤ (wrap64 ((x8.length : Int) - 1)) then (if (wrap64 ((x8.length : Int) - 1)) < (x8.length : Int) then ((depotref05_Compare.f k ((rd_T63 x8 (wrap64 ((x8.length : Int) - 1))).f0) (rdOf ByteArray.empty x9 (wrap64 ((x9.length : Int) - 1)))).bind fun t117 => (depotref06_gather.j2 k x0 x1 x2 x8 x9 (rdOf ByteArray.empty x9 (wrap64 ((x9.length : Int) - 1))) (decide (t117 ≥ 0)))) else (none)) else (none)) else (depotref06_gather.j2 k x0 x1 x2 x8 x9 (rdOf ByteArray.empty x9 (wrap64 ((x9.length : Int) - 1))) false)) else (none)) else (none))
def depotref06_gather.j2 : Nat → List (S29) → Int → List ByteArray → List (S63) → List ByteArray → ByteArray → Bool → Option ((List (S63)) × Int)
 | 0, _, _, _, _, _, _, _ => none
 | k + 1, x0, x1, x2, x8, x9, x12, x68 => if x68 = true then (some (x8, x1)) else (if 0 ≤ x1 then (if x1 < (x0.length : Int) then ((depotref06_Own.f ((rd_T29 x0 x1).f1) ((rd_T29 x0 x1).f2) ((rd_T29 x0 x1).f3) ([] : List (S63))).bind fun bt122 => (if bt122.1 = 0 then (if 0 ≤ (wrap64 ((wrap64 (x1 + 1)) - 1)) then (if (wrap64 ((wrap64 (x1 + 1)) - 1)) < (x0.length : Int) then (if ((rd_T29 x0 (wrap64 ((wrap64 (x1 + 1)) - 1))).f1) = 3 then ((depotref06_gather.f k x0 (wrap64 (x1 + 1)) x9).bind fun bt125 => (if x8.length < 1954687338268 then (depotref06_gather.l0 k x0 bt125.2 x2 (x8 ++ [(⟨x12, (rd_T29 x0 x1).f1, (rd_T29 x0 x1).f2, (rd_T29 x0 x1).f3, bt125.1⟩ : S63)])) else (none))) else (if x8.length < 1954687338268 then (depotref06_gather.l0 k x0 (wrap64 (x1 + 1)) x2 (x8 ++ [(⟨x12, (rd_T29 x0 x1).f1, (rd_T29 x0 x1).f2, (rd_T29 x0 x1).f3, ([] : List (S63))⟩ : S63)])) else (none))) else (none)) else (none)) else (some (x8, x1)))) else (none)) else (none))
def depotref06_gather.f : Nat → List (S29) → Int → List ByteArray → Option ((List (S63)) × Int)
 | 0, _, _, _ => none
 | k + 1, l0, a1, l2 => depotref06_gather.l0 k l0 a1 l2 ([] : List (S63))
end
theorem depotref06_gather.mono_l : ∀ k, (∀ y0 y1 y2, LeO (depotref06_gather.f k y0 y1 y2) (depotref06_gather.f (k + 1) y0 y1 y2)) ∧ (∀ y0 y1 y2 y3, LeO (depotref06_gather.l0 k y0 y1 y2 y3) (depotref06_gather.l0 (k + 1) y0 y1 y2 y3)) ∧ (∀ y0 y1 y2 y3 y4 y5, LeO (depotref06_gather.j1 k y0 y1 y2 y3 y4 y5) (depotref06_gather.j1 (k + 1) y0 y1 y2 y3 y4 y5)) ∧ (∀ y0 y1 y2 y3 y4 y5 y6, LeO (depotref06_gather.j2 k y0 y1 y2 y3 y4 y5 y6) (depotref06_gather.j2 (k + 1) y0 y1 y2 y3 y4 y5 y6))
 | 0 => ⟨fun _ _ _ r h => by simp [depotref06_gather.f] at h, fun _ _ _ _ r h => by simp [depotref06_gather.l0] at h, fun _ _ _ _ _ _ r h => by simp [depotref06_gather.j1] at h, fun _ _ _ _ _ _ _ r h => by simp [depotref06_gather.j2] at h⟩
 | k + 1 => by
  obtain ⟨ih0, ih1, ih2, ih3⟩ := depotref06_gather.mono_l k
  refine ⟨?_, ?_, ?_, ?_⟩
  ·intro y0 y1 y2
   unfold depotref06_gather.f
   repeat' first
   | (with_reducible exact ih0 _ _ _)
   | (with_reducible exact ih1 _ _ _ _)
   | (with_reducible exact ih2 _ _ _ _ _ _)
   | (with_reducible exact ih3 _ _ _ _ _ _ _)
   | (with_reducible exact depotref05_Compare.mono _ _ _)
   | (with_reducible exact depotref05_Split.mono _ _)
   | (with_reducible exact depotref06_begins.mono _ _ _)
   | (with_reducible exact LeO.refl _)
   | (with_reducible exact LeO.none _)
   | (with_reducible refine LeO.ite ?_ ?_)
   | (with_reducible refine LeO.bind ?_ (fun _ => ?_))
   | exact ih0 _ _ _
   | exact ih1 _ _ _ _
   | exact ih2 _ _ _ _ _ _
   | exact ih3 _ _ _ _ _ _ _
   | exact depotref05_Compare.mono _ _ _
   | exact depotref05_Split.mono _ _
   | exact depotref06_begins.mono _ _ _
   | exact LeO.none _
   | refine LeO.ite ?_ ?_
   | refine LeO.bind ?_ (fun _ => ?_)
  ·intro y0 y1 y2 y3
   unfold depotref06_gather.l0
   repeat' first
   | (with_reducible exact ih0 _ _ _)
   | (with_reducible exact ih1 _ _ _ _)
   | (with_reducible exact ih2 _ _ _ _ _ _)
   | (with_reducible exact ih3 _ _ _ _ _ _ _)
   | (with_reducible exact depotref05_Compare.mono _ _ _)
   | (with_reducible exact depotref05_Split.mono _ _)
   | (with_reducible exact depotref06_begins.mono _ _ _)
   | (with_reducible exact LeO.refl _)
   | (with_reducible exact LeO.none _)
   | (with_reducible refine LeO.ite ?_ ?_)
   | (with_reducible refine LeO.bind ?_ (fun _ => ?_))
   | exact ih0 _ _ _
   | exact ih1 _ _ _ _
   | exact ih2 _ _ _ _ _ _
   | exact ih3 _ _ _ _ _ _ _
   | exact depotref05_Compare.mono _ _ _
   | exact depotref05_Split.mono _ _
   | exact depotref06_begins.mono _ _ _
   | exact LeO.none _
   | refine LeO.ite ?_ ?_
   | refine LeO.bind ?_ (fun _ => ?_)
  ·intro y0 y1 y2 y3 y4 y5
   unfold depotref06_gather.j1
   repeat' first
   | (with_reducible exact ih0 _ _ _)
   | (with_reducible exact ih1 _ _ _ _)
   | (with_reducible exact ih2 _ _ _ _ _ _)
   | (with_reducible exact ih3 _ _ _ _ _ _ _)
   | (with_reducible exact depotref05_Compare.mono _ _ _)
   | (with_reducible exact depotref05_Split.mono _ _)
   | (with_reducible exact depotref06_begins.mono _ _ _)
   | (with_reducible exact LeO.refl _)
   | (with_reducible exact LeO.none _)
   | (with_reducible refine LeO.ite ?_ ?_)
   | (with_reducible refine LeO.bind ?_ (fun _ => ?_))
   | exact ih0 _ _ _
   | exact ih1 _ _ _ _
   | exact ih2 _ _ _ _ _ _
   | exact ih3 _ _ _ _ _ _ _
   | exact depotref05_Compare.mono _ _ _
   | exact depotref05_Split.mono _ _
   | exact depotref06_begins.mono _ _ _
   | exact LeO.none _
   | refine LeO.ite ?_ ?_
   | refine LeO.bind ?_ (fun _ => ?_)
  ·intro y0 y1 y2 y3 y4 y5 y6
   unfold depotref06_gather.j2
   repeat' first
   | (with_reducible exact ih0 _ _ _)
   | (with_reducible exact ih1 _ _ _ _)
   | (with_reducible exact ih2 _ _ _ _ _ _)
   | (with_reducible exact ih3 _ _ _ _ _ _ _)
   | (with_reducible exact depotref05_Compare.mono _ _ _)
   | (with_reducible exact depotref05_Split.mono _ _)
   | (with_reducible exact depotref06_begins.mono _ _ _)
   | (with_reducible exact LeO.refl _)
   | (with_reducible exact LeO.none _)
   | (with_reducible refine LeO.ite ?_ ?_)
   | (with_reducible refine LeO.bind ?_ (fun _ => ?_))
   | exact ih0 _ _ _
   | exact ih1 _ _ _ _
   | exact ih2 _ _ _ _ _ _
   | exact ih3 _ _ _ _ _ _ _
   | exact depotref05_Compare.mono _ _ _
   | exact depotref05_Split.mono _ _
   | exact depotref06_begins.mono _ _ _
   | exact LeO.none _
   | refine LeO.ite ?_ ?_
   | refine LeO.bind ?_ (fun _ => ?_)
theorem depotref06_gather.mono : ∀ a0 a1 a2 k, LeO (depotref06_gather.f k a0 a1 a2) (depotref06_gather.f (k + 1) a0 a1 a2) := by
 intro a0 a1 a2 k
 obtain ⟨ih0, ih1, ih2, ih3⟩ := depotref06_gather.mono_l k
 exact ih0 a0 a1 a2
end
end Go.Proofs.YtnemeeidomceiaaDoor.PGTreeGets
end
section
namespace Go.Proofs.YtnemeeidomceiaaDoor.PGTreeGets
open Go.RowKit Go.Proofs.YtnemeeidomceiaaDoorW.PrintWords Go.Proofs.YtnemeeidomceiaaDoorW.PrintLast Go.Proofs.YtnemeeidomceiaaDoorW.PrintMore
attribute [local go_sem] max2_int min2_int max_two min_two max_three min_three max_four min_four   -- for this text's walks alone
set_option linter.unusedVariables false
set_option linter.unusedSimpArgs false
noncomputable section
def depotref06_fits.l0 : Nat → List (S29) → Int → Int → Option (Int)
 | 0, _, _, _ => none
 | k + 1, x0, x3, x4 => if x4 < (x0.length : Int) then (if 0 ≤ x4 then ((depotref06_Own.f ((rd_T29 x0 x4).f1) ((rd_T29 x0 x4).f2) ((rd_T29 x0 x4).f3) ([] : List (S63))).bind fun bt139 => ((depotref05_Split.f k ((rd_T29 x0 x4).f0)).bind fun bt142 => (if (bt142.1.length : Int) > 0 then (if 0 ≤ (wrap64 ((bt142.1.length : Int) - 1)) then (if (wrap64 ((bt142.1.length : Int) - 1)) < (bt142.1.length : Int) then ((depotref06_Entry.f (rdOf ByteArray.empty bt142.1 (wrap64 ((bt142.1.length : Int) - 1)))).bind fun t148 => (if (wrap64 ((wrap64 (x3 + bt139.2)) + t148)) > 1048576 then (some x4) else (depotref06_fits.l0 k x0 (wrap64 ((wrap64 (x3 + bt139.2)) + t148)) (wrap64 (x4 + 1))))) else (none)) else (none)) else (if (wrap64 (x3 + bt139.2)) > 1048576 then (some x4) else (depotref06_fits.l0 k x0 (wrap64 (x3 + bt139.2)) (wrap64 (x4 + 1))))))) else (none)) else (some (x0.length : Int))
def depotref06_fits.f (k : Nat) (l0 : List (S29)) : Option (Int) := (depotref06_Magic.f).bind fun t135 => (depotref06_fits.l0 k l0 t135 0)
theorem depotref06_fits.mono_l : ∀ k, (∀ y0 y1 y2, LeO (depotref06_fits.l0 k y0 y1 y2) (depotref06_fits.l0 (k + 1) y0 y1 y2))
 | 0 => fun _ _ _ r h => by simp [depotref06_fits.l0] at h
 | k + 1 => by
  have ih0 := depotref06_fits.mono_l k
  ·intro y0 y1 y2
   unfold depotref06_fits.l0
   repeat' first
   | (with_reducible exact ih0 _ _ _)
   | (with_reducible exact depotref05_Split.mono _ _)
   | (with_reducible exact LeO.refl _)
   | (with_reducible exact LeO.none _)
   | (with_reducible refine LeO.ite ?_ ?_)
   | (with_reducible refine LeO.bind ?_ (fun _ => ?_))
   | exact ih0 _ _ _
   | exact depotref05_Split.mono _ _
   | exact LeO.none _
   | refine LeO.ite ?_ ?_
   | refine LeO.bind ?_ (fun _ => ?_)
theorem depotref06_fits.mono : ∀ a0 k, LeO (depotref06_fits.f k a0) (depotref06_fits.f (k + 1) a0) := by
 intro a0 k
 have ih0 := depotref06_fits.mono_l k
 unfold depotref06_fits.f
 repeat' first
   | (with_reducible exact ih0 _ _ _)
   | (with_reducible exact depotref05_Split.mono _ _)
   | (with_reducible exact LeO.refl _)
   | (with_reducible exact LeO.none _)
   | (with_reducible refine LeO.ite ?_ ?_)
   | (with_reducible refine LeO.bind ?_ (fun _ => ?_))
   | exact ih0 _ _ _
   | exact depotref05_Split.mono _ _
   | exact LeO.none _
   | refine LeO.ite ?_ ?_
   | refine LeO.bind ?_ (fun _ => ?_)
def depotref06_fits.B5 : List Nat := [0, 0, 3, 7, 15, 0, 0, 96, 224, 480, 0, 0, 3072, 7168, 15360, 32767, 65535, 131071, 262143, 262143, 524287, 2097151]
end
end Go.Proofs.YtnemeeidomceiaaDoor.PGTreeGets
end
section
namespace Go.Proofs.YtnemeeidomceiaaDoor.PGTreeGets
open Go.RowKit Go.Proofs.YtnemeeidomceiaaDoorW.PrintWords Go.Proofs.YtnemeeidomceiaaDoorW.PrintLast Go.Proofs.YtnemeeidomceiaaDoorW.PrintMore
attribute [local go_sem] max2_int min2_int max_two min_two max_three min_three max_four min_four   -- for this text's walks alone
set_option linter.unusedVariables false
set_option linter.unusedSimpArgs false
noncomputable section
def depotref06_Build.j0 : Nat → List (S29) → Bool → Int → Bool → ByteArray → Option (Int × Bool × ByteArray × (List (S63)) × Int × Int)
 | 0, _, _, _, _, _ => none
 | k + 1, x0, x40, x154000, x154001, x154002 => if x40 = true then (some (0, false, (⟨#[]⟩ : ByteArray), ([] : List (S63)), 64, 0)) else (if 0 < (x0.length : Int) then (if ((rd_T29 x0 0).f1) = 3 then ((depotref06_gather.f k x0 1 ([] : List ByteArray)).bind fun bt158 => (if 0 ≤ bt158.2 then (if bt158.2 ≤ (x0.length : Int) then ((depotref06_fits.f k (x0.take (bt158.2 : Int).toNat)).bind fun t166 => (if t166 < (x0.length : Int) then (some (0, false, (⟨#[]⟩ : ByteArray), ([] : List (S63)), 64, t166)) else (some (x154000, x154001, x154002, bt158.1, 0, 0)))) else (none)) else (none))) else (if 1 ≤ (x0.length : Int) then ((depotref06_fits.f k (x0.take 1)).bind fun t171 => (if t171 < (x0.length : Int) then (some (0, false, (⟨#[]⟩ : ByteArray), ([] : List (S63)), 64, t171)) else (some (x154000, x154001, x154002, ([] : List (S63)), 0, 0)))) else (none))) else (none))
def depotref06_Build.f (k : Nat) (l0 : List (S29)) : Option (Int × Bool × ByteArray × (List (S63)) × Int × Int) := if (l0.length : Int) = 0 then (some (0, false, (⟨#[]⟩ : ByteArray), ([] : List (S63)), 50, 0)) else (if 0 < (l0.length : Int) then ((depotref06_Own.f ((rd_T29 l0 0).f1) ((rd_T29 l0 0).f2) ((rd_T29 l0 0).f3) ([] : List (S63))).bind fun bt154 => (if ((rd_T29 l0 0).f0).toList = ([] : List UInt8) then (depotref06_Build.j0 k l0 (bt154.1 != 0) ((rd_T29 l0 0).f1) ((rd_T29 l0 0).f2) ((rd_T29 l0 0).f3)) else (depotref06_Build.j0 k l0 true ((rd_T29 l0 0).f1) ((rd_T29 l0 0).f2) ((rd_T29 l0 0).f3)))) else (none))
theorem depotref06_Build.mono_l : ∀ k, (∀ y0 y1 y2 y3 y4, LeO (depotref06_Build.j0 k y0 y1 y2 y3 y4) (depotref06_Build.j0 (k + 1) y0 y1 y2 y3 y4))
 | 0 => fun _ _ _ _ _ r h => by simp [depotref06_Build.j0] at h
 | k + 1 => by
  have ih0 := depotref06_Build.mono_l k
  ·intro y0 y1 y2 y3 y4
   unfold depotref06_Build.j0
   repeat' first
   | (with_reducible exact ih0 _ _ _ _ _)
   | (with_reducible exact depotref06_fits.mono _ _)
   | (with_reducible exact depotref06_gather.mono _ _ _ _)
   | (with_reducible exact LeO.refl _)
   | (with_reducible exact LeO.none _)
   | (with_reducible refine LeO.ite ?_ ?_)
   | (with_reducible refine LeO.bind ?_ (fun _ => ?_))
   | exact ih0 _ _ _ _ _
   | exact depotref06_fits.mono _ _
   | exact depotref06_gather.mono _ _ _ _
   | exact LeO.none _
   | refine LeO.ite ?_ ?_
   | refine LeO.bind ?_ (fun _ => ?_)
theorem depotref06_Build.mono : ∀ a0 k, LeO (depotref06_Build.f k a0) (depotref06_Build.f (k + 1) a0) := by
 intro a0 k
 have ih0 := depotref06_Build.mono_l k
 unfold depotref06_Build.f
 repeat' first
   | (with_reducible exact ih0 _ _ _ _ _)
   | (with_reducible exact depotref06_fits.mono _ _)
   | (with_reducible exact depotref06_gather.mono _ _ _ _)
   | (with_reducible exact LeO.refl _)
   | (with_reducible exact LeO.none _)
   | (with_reducible refine LeO.ite ?_ ?_)
   | (with_reducible refine LeO.bind ?_ (fun _ => ?_))
   | exact ih0 _ _ _ _ _
   | exact depotref06_fits.mono _ _
   | exact depotref06_gather.mono _ _ _ _
   | exact LeO.none _
   | refine LeO.ite ?_ ?_
   | refine LeO.bind ?_ (fun _ => ?_)
def depotref06_Build.B3 : List Nat := [0, 1, 3, 7, 0, 16, 48, 112, 0, 256, 768, 1792, 4095, 0, 16383]
end
end Go.Proofs.YtnemeeidomceiaaDoor.PGTreeGets
end
