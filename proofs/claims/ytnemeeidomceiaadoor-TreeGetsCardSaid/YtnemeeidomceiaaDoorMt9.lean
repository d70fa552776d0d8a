import Derived.Test.YtnemeeidomceiaaDoorMt0
import Derived.Test.YtnemeeidomceiaaDoorMt1
import Derived.Test.YtnemeeidomceiaaDoorMt2
import Derived.Test.YtnemeeidomceiaaDoorMt4
import Derived.Test.YtnemeeidomceiaaDoorMt6
import Derived.Test.YtnemeeidomceiaaDoorMt7
import Derived.Test.YtnemeeidomceiaaDoorMt8
import Derived.Test.YtnemeeidomceiaaDoorProg
import Derived.Test.YtnemeeidomceiaaDoorWEqStructMt
import Derived.Test.YtnemeeidomceiaaDoorWLast
set_option linter.unusedSimpArgs false
set_option linter.unusedVariables false
section
namespace Go.Proofs.YtnemeeidomceiaaDoor
open Go.RowKit Go.Proofs.YtnemeeidomceiaaDoorW.PrintWords Go.Proofs.YtnemeeidomceiaaDoorW.PrintLast Go.Proofs.YtnemeeidomceiaaDoorW.PrintMore
set_option linter.unusedVariables false
set_option linter.unusedSimpArgs false
inductive AllR : List Ent → Prop
 | mk {l : List Ent} (h : Rising l) (n : l.length ≤ 1048576) (k : ∀ x : Ent, x ∈ l → AllR x.f4) : AllR l
def chN (act : List Ent → Nat → Bool → ByteArray → List Ent × Int) : List ByteArray → Int → List Ent → List Ent × Int
 | [], _, l => (l, 0)
 | s :: r, k, l =>
  if k ≠ 3 then ([], 65)
  else if r = [] then (if (act l (rk l s) (hasN l s) s).2 ≠ 0 then ([], (act l (rk l s) (hasN l s) s).2) else ((act l (rk l s) (hasN l s) s).1, 0))
  else match (if hasN l s = true then l[rk l s]? else none) with
   | none => ([], 3)
   | some x => if (chN act r x.f1 x.f4).2 ≠ 0 then ([], (chN act r x.f1 x.f4).2) else (l.set (rk l s) { x with f4 := (chN act r x.f1 x.f4).1 }, 0)
structure CutPost (base : Nat) (ok : Nat → Prop) (w : World) (k : Int) (e : Bool) (t : ByteArray) (r : List Ent × Int) (o : Ending) (w' : World) : Prop where
 upd : Upd ok w w'
 yes : r.2 = 0 → ∃ v', o = .returned (.tuple #[.agg #[.int .i64 k, .bool e, .string t, v'], .int .i64 0]) ∧ Own w' base (fun j => ok j ∨ w.heap.size ≤ j) v' r.1
 no : r.2 ≠ 0 → o = .returned (.tuple #[.agg #[.int .i64 0, .bool false, .string ⟨#[]⟩, .slice none 0 0], .int .i64 r.2])
theorem AllR.at {l : List Ent} (h : AllR l) {i : Nat} {x : Ent} (hx : l[i]? = some x) : AllR x.f4 := by
 cases h with
 | mk h n k => exact k x (List.mem_of_getElem? hx)
theorem AllR.rises {l : List Ent} (h : AllR l) : Rising l ∧ l.length ≤ 1048576 := by
 cases h with
 | mk h n k => exact ⟨h, n⟩
theorem hasN_at {l : List Ent} {s : ByteArray} (h : hasN l s = true) : ∃ x, l[rk l s]? = some x ∧ x.f0 = s := by
 unfold hasN at h
 split at h
 ·rename_i x hx
  exact ⟨x, hx, (cmpB_zero _ _).1 (of_decide_eq_true h)⟩
 ·cases h
abbrev NamesF (w : World) (ok : Nat → Prop) (A : Option Addr) (ns : List ByteArray) : Prop := Kd.F Kd.string w (fun j => ¬ ok j ∧ j < w.heap.size) A ns.length ns
theorem cells4 {w : World} {b : Nat} {q : TypeId} {a c d e : Value} (h : Blk w b q [a, c, d, e]) : w.cell? ⟨b, 0, none⟩ = some a ∧ w.cell? ⟨b, 1, none⟩ = some c ∧ w.cell? ⟨b, 2, none⟩ = some d ∧ w.cell? ⟨b, 3, none⟩ = some e :=
 ⟨h.cell 0 _ rfl, h.cell 1 _ rfl, h.cell 2 _ rfl, h.cell 3 _ rfl⟩
section
variable {w W : World} {b base : Nat} {okn S : Nat → Prop} {v : Value} {l : List Ent} {a0 a1 a2 a3 c0 c1 c2 c3 : Value}
theorem put4_upd (hU : Upd S w W) (hb : w.heap.size ≤ b) : Upd S w ((((W.setCell ⟨b, 0, none⟩ c0).setCell ⟨b, 1, none⟩ c1).setCell ⟨b, 2, none⟩ c2).setCell ⟨b, 3, none⟩ c3) :=
 (((hU.trans (Upd.setCell (S := fun k => k = b) (p := ⟨b, 0, none⟩) (.inl rfl) c0) (fun k hk => .inr (by omega))).trans (Upd.setCell (S := fun k => k = b) (p := ⟨b, 1, none⟩) (.inl rfl) c1) (fun k hk => .inr (by omega))).trans (Upd.setCell (S := fun k => k = b) (p := ⟨b, 2, none⟩) (.inl rfl) c2) (fun k hk => .inr (by omega))).trans (Upd.setCell (S := fun k => k = b) (p := ⟨b, 3, none⟩) (.inl rfl) c3) (fun k hk => .inr (by omega))
theorem put4_blk (hb : Blk W b 32 [a0, a1, a2, a3]) : Blk ((((W.setCell ⟨b, 0, none⟩ c0).setCell ⟨b, 1, none⟩ c1).setCell ⟨b, 2, none⟩ c2).setCell ⟨b, 3, none⟩ c3) b 32 [c0, c1, c2, c3] :=
 blk_put (cs := #[c0, c1, c2, a3]) (blk_put (cs := #[c0, c1, a2, a3]) (blk_put (cs := #[c0, a1, a2, a3]) (blk_put (cs := #[a0, a1, a2, a3]) hb 0 _ rfl) 1 _ rfl) 2 _ rfl) 3 _ rfl
theorem put4_own (h : Own W base okn v l) (hb : Blk W b 32 [a0, a1, a2, a3]) : Own ((((W.setCell ⟨b, 0, none⟩ c0).setCell ⟨b, 1, none⟩ c1).setCell ⟨b, 2, none⟩ c2).setCell ⟨b, 3, none⟩ c3) base okn v l := by
 have k1 : Blk (W.setCell ⟨b, 0, none⟩ c0) b 32 [c0, a1, a2, a3] := blk_put (cs := #[a0, a1, a2, a3]) hb 0 _ rfl
 have k2 : Blk ((W.setCell ⟨b, 0, none⟩ c0).setCell ⟨b, 1, none⟩ c1) b 32 [c0, c1, a2, a3] := blk_put (cs := #[c0, a1, a2, a3]) k1 1 _ rfl
 have k3 : Blk (((W.setCell ⟨b, 0, none⟩ c0).setCell ⟨b, 1, none⟩ c1).setCell ⟨b, 2, none⟩ c2) b 32 [c0, c1, c2, a3] := blk_put (cs := #[c0, c1, a2, a3]) k2 2 _ rfl
 exact (((h.set hb (by decide) 0 c0).set k1 (by decide) 1 c1).set k2 (by decide) 2 c2).set k3 (by decide) 3 c3
end
theorem names_at {w W : World} {ok S : Nat → Prop} {ad : Addr} {s : ByteArray} {r : List ByteArray} (hN : NamesF w ok (some ad) (s :: r)) (hU : Upd S w W) (hS : ∀ k, S k → ok k) : W.cell? ad = some (.string s) := by
 have hC := Kd.F_now (Kd.F_step hN (fun k hk hlt => hU.block k hlt (fun h => hk.1 (hS k h))))
 obtain ⟨ad2, hA, hc0⟩ := Kd.at_string hC 0 (Int.le_refl _) (by rw [List.length_cons]; omega)
 injection hA with hA
 subst hA
 replace hc0 : W.cell? (ad.add 0) = some (.string s) := hc0
 rw [Addr.add_zero'] at hc0
 exact hc0
theorem names_ad {w : World} {ok : Nat → Prop} {A : Option Addr} {s : ByteArray} {r : List ByteArray} (hN : NamesF w ok A (s :: r)) : ∃ ad, A = some ad := by
 obtain ⟨ad2, hA, hc0⟩ := Kd.at_string (Kd.F_now hN) 0 (Int.le_refl _) (by rw [List.length_cons]; omega)
 exact ⟨ad2, hA⟩
set_option maxHeartbeats 4000000 in
set_option maxRecDepth 100000 in
theorem change_calls (fA : Nat) (fnA : Func) (hfA : Tryd.prog.funcs[fA]? = some fnA) (hnA : (fnA.name == "runtime.NumGoroutine") = false) (hbA : fnA.body.isSome = true) (capA : Array Value) (act : List Ent → Nat → Bool → ByteArray → List Ent × Int) (base : Nat) (Inv : World → Prop)
  (hInv : ∀ w w', Inv w → Below base w w' → Inv w')
  (hAct : ∀ (l : List Ent) (s : ByteArray) (v : Value) (w : World) (ok : Nat → Prop), Own w base ok v l → AllR l → base ≤ w.heap.size → Inv w → (∀ k, ok k → base ≤ k ∧ k < w.heap.size) →
   Calls Tryd.prog fA (#[v, .int .i64 (rk l s), .bool (hasN l s), .string s] ++ capA) w fun o w' => ∃ v', o = .returned (.tuple #[v', .int .i64 (act l (rk l s) (hasN l s) s).2]) ∧ Own w' base (fun k => ok k ∨ w.heap.size ≤ k) v' (act l (rk l s) (hasN l s) s).1 ∧ Upd ok w w') : ∀ (ns : List ByteArray) (k : Int) (e : Bool) (t : ByteArray) (v : Value) (l : List Ent) (A : Option Addr) (c : Nat) (w : World) (ok : Nat → Prop), Own w base ok v l → AllR l → base ≤ w.heap.size → Inv w → NamesF w ok A ns → ns.length ≤ c →
  Calls Tryd.prog 44 #[.agg #[.int .i64 k, .bool e, .string t, v], .slice A ns.length c, .func (.func fA) #[] capA] w (CutPost base ok w k e t (chN act ns k l)) := by
 have HACT := Aside0.mk hAct
 have HINV := Aside0.mk hInv
 clear hAct hInv
 intro ns
 induction ns with
 | nil =>
  intro k e t v l A c w ok hO hR hbs hiv hN hc
  have HO := Aside0.mk hO
  obtain ⟨A4, c4, hv, hlc⟩ := hO.slice
  subst hv
  clear hO hR hN hc hiv hbs
  go_enter Tryd.func44, Tryd.ntmps44
  go_wp2_with fail
  have hb : Below w.heap.size w ((w.alloc (.cells #[.int .i64 k, .bool e, .string t, .slice A4 l.length c4] 32)).alloc (.cells #[.int .i64 k, .bool e, .string t, .slice A4 l.length c4] 32)) := below_alloc (below_alloc (Below.refl _ _) _) _
  refine bodyPost_ret (v := .tuple #[.agg #[.int .i64 k, .bool e, .string t, .slice A4 l.length c4], .int .i64 0]) (by simp [results, Tryd.results44, go_sem]) rfl ⟨Upd.of_below hb, fun h => ⟨_, rfl, (HO.out.newer hb).mono (fun k hk => .inl hk)⟩, fun h => absurd rfl h⟩
 | cons s r ih =>
  intro k e t v l A c w ok hO hR hbs hiv hN hc
  have HO := Aside0.mk hO.bound
  have HR := Aside0.mk hR
  have HN := Aside0.mk hN
  have IH := Aside0.mk ih
  have HIV := Aside0.mk hiv
  have HBS := Aside0.mk hbs
  obtain ⟨A4, c4, hv, hlc⟩ := hO.slice
  subst hv
  obtain ⟨ad, hA⟩ := names_ad hN
  subst hA
  clear hO hR hN ih hiv hbs
  obtain ⟨ok1, hok1⟩ : ∃ p, p = OwnB w base ok := ⟨_, rfl⟩
  rw [← hok1] at HO
  have HK1 : Aside0 (∀ k, ok1 k → ok k ∧ k < w.heap.size ∧ (∃ cells, w.heap[k]? = some (.cells cells eE (0, 0))) ∧ base ≤ k) := ⟨fun k hk => by rw [hok1] at hk; exact ⟨hk.1, hk.2.2.1, hk.2.2.2, hk.2.1⟩⟩
  clear hok1
  obtain ⟨n, hn⟩ : ∃ n, n = r.length + 1 := ⟨_, rfl⟩
  have hns : (s :: r).length = n := by rw [hn]; rfl
  rw [hns] at hc ⊢
  have HNL := Aside0.mk (And.intro hn hns)
  have hn1 : 1 ≤ n := by omega
  have t1 : ((n : Int) == 0) = false := beq_eq_false_iff_ne.mpr (by omega)
  clear hn hns
  by_cases hk3 : k = 3
  ·subst hk3
   have k1 : ((3 : Int) != 3) = false := rfl
   go_enter Tryd.func44, Tryd.ntmps44
   go_wp2_with fail
   obtain ⟨W2, hW2⟩ : ∃ W2, W2 = (w.alloc (.cells #[.int .i64 3, .bool e, .string t, .slice A4 l.length c4] 32)).alloc (.cells #[.int .i64 0, .bool false, .string ⟨#[]⟩, .slice none 0 0] 32) := ⟨_, rfl⟩
   rw [← hW2]
   obtain ⟨b0, hb0⟩ : ∃ b, b = w.heap.size := ⟨_, rfl⟩
   obtain ⟨b1, hb1⟩ : ∃ b, b = w.heap.size + 1 := ⟨_, rfl⟩
   rw [← hb1, ← hb0]
   have B0 : Aside0 (Blk W2 b0 32 [.int .i64 3, .bool e, .string t, .slice A4 l.length c4]) := ⟨by rw [hW2, hb0]; exact (Blk.new w _ [.int .i64 3, .bool e, .string t, .slice A4 l.length c4]).alloc _⟩
   have B1 : Aside0 (Blk W2 b1 32 [.int .i64 0, .bool false, .string ⟨#[]⟩, .slice none 0 0]) := ⟨by rw [hW2]; exact Blk.new' _ _ [.int .i64 0, .bool false, .string ⟨#[]⟩, .slice none 0 0] (by rw [hb1]; simp)⟩
   have HB : Aside0 (Below w.heap.size w W2) := ⟨by rw [hW2]; exact below_alloc (below_alloc (Below.refl _ _) _) _⟩
   have HZ : Aside0 (w.heap.size ≤ b0 ∧ w.heap.size ≤ b1 ∧ b0 ≠ b1) := ⟨by omega⟩
   clear hW2 hb0 hb1
   have HC0 := Aside0.mk (names_at HN.out (Upd.of_below HB.out (S := ok1)) (fun k hk => (HK1.out k hk).1))
   have HO2 := Aside0.mk (HO.out.newer HB.out)
   have g1 : (0 : Int) < (n : Int) := by omega
   have g0 : 0 < n := by omega
   refine start_ (n := 11) (S := fun w' => w'.cell? ⟨b0, 3, none⟩ = some (.slice A4 l.length c4) ∧ w'.cell? ad = some (.string s)) (ds := []) #[false, false, false, false, false, false, false, false, false, false, false] (by kernel_rfl) rfl rfl (⟨B0.out.cell 3 _ rfl, HC0.out⟩) (fun hHeld => ?_)
   have hdr : Below W2.heap.size W2 W2.drew := below_drew (Below.refl _ _)
   generalize W2.drew = W3 at *
   refine pure_ (i := 0) (N := some 20) (v := ?_) (a' := ?_) #[true, false, false, false, false, false, false, false, false, false, false] rfl rfl (by kernel_rfl) (fun _ _ _ h => h) (Or.inl ⟨by rfl, ?_⟩) ?_ ?_
   rotate_left
   ·intro w'
    go_simp
    with_reducible rfl
   rotate_left
   ·simp only [Act.put, List.setIfInBounds_toArray, List.set_cons_zero, List.set_cons_succ, i64_w, i32_w]
    rfl
   refine take_ (i := 1) (N := some 21) (v := ?_) (a' := ?_) #[true, true, false, false, false, false, false, false, false, false, false] rfl rfl (by kernel_rfl) (fun _ _ _ h => h) (Or.inl ⟨by rfl, ?_⟩) hHeld ?_ ?_
   rotate_left
   ·rintro w' ⟨s0, s1⟩
    go_simp
    with_reducible rfl
   rotate_left
   ·simp only [Act.put, List.setIfInBounds_toArray, List.set_cons_zero, List.set_cons_succ, i64_w, i32_w]
    rfl
   refine pure_ (i := 2) (N := some 22) (v := ?_) (a' := ?_) #[true, true, true, false, false, false, false, false, false, false, false] rfl rfl (by kernel_rfl) (fun _ _ _ h => h) (Or.inl ⟨by rfl, ?_⟩) ?_ ?_
   rotate_left
   ·intro w'
    go_simp
    with_reducible rfl
   rotate_left
   ·simp only [Act.put, List.setIfInBounds_toArray, List.set_cons_zero, List.set_cons_succ, i64_w, i32_w]
    rfl
   refine pure_ (i := 3) (N := some 23) (v := ?_) (a' := ?_) #[true, true, true, true, false, false, false, false, false, false, false] rfl rfl (by kernel_rfl) (fun _ _ _ h => h) (Or.inl ⟨by rfl, ?_⟩) ?_ ?_
   rotate_left
   ·intro w'
    go_simp
    with_reducible rfl
   rotate_left
   ·simp only [Act.put, List.setIfInBounds_toArray, List.set_cons_zero, List.set_cons_succ, i64_w, i32_w]
    rfl
   refine take_ (i := 4) (N := some 24) (v := ?_) (a' := ?_) #[true, true, true, true, true, false, false, false, false, false, false] rfl rfl (by kernel_rfl) (fun _ _ _ h => h) (Or.inl ⟨by rfl, ?_⟩) hHeld ?_ ?_
   rotate_left
   ·rintro w' ⟨s0, s1⟩
    go_simp
    with_reducible rfl
   rotate_left
   ·simp only [Act.put, List.setIfInBounds_toArray, List.set_cons_zero, List.set_cons_succ, i64_w, i32_w]
    rfl
   refine one_ (i := 5) (N := some 25) #[true, true, true, true, true, true, false, false, false, false, false] rfl rfl (by kernel_rfl) (by decide) (fun K hK => ?_)
   have hO3 := HO2.out.newer hdr
   have hrr := HR.out.rises
   refine goes_ Tryd.func38 (by kernel_rfl) rfl #[.slice A4 l.length c4, .string s] (by rfl) rfl rfl (by (try simp only [List.map_toArray, List.map_cons, List.map_nil]); first | done | rfl) ?_
   refine (find_calls l s hrr.1 A4 c4 W3 hO3.toC.2.2 hlc (by omega)).mono ?_
   rintro o W5 ⟨rfl, hb5⟩
   have hb6 := below_step hdr hb5
   have B05 := Aside0.mk (B0.out.below hb6)
   have B15 := Aside0.mk (B1.out.below hb6)
   have HB5 := Aside0.mk (below_step HB.out hb6)
   have HC5 := Aside0.mk (pw_cell_below hb6 HC0.out)
   have HO5 := Aside0.mk (HO2.out.newer hb6)
   clear hO3 hrr hb5 hb6 hdr B0 B1 HB HC0 HO2
   refine ⟨_, rfl, ?_⟩
   refine hK.out _ _ ⟨B05.out.cell 3 _ rfl, HC5.out⟩ (fun _ => ?_)
   clear hK K
   refine pure_ (i := 6) (N := some 19) (v := ?_) (a' := ?_) #[true, true, true, true, true, true, true, false, false, false, false] rfl rfl (by kernel_rfl) (fun _ _ _ h => h) (Or.inl ⟨by rfl, ?_⟩) ?_ ?_
   rotate_left
   ·intro w'
    go_simp
    with_reducible rfl
   rotate_left
   ·simp only [Act.put, List.setIfInBounds_toArray, List.set_cons_zero, List.set_cons_succ, i64_w, i32_w]
    rfl
   refine pure_ (i := 7) (N := some 26) (v := ?_) (a' := ?_) #[true, true, true, true, true, true, true, true, false, false, false] rfl rfl (by kernel_rfl) (fun _ _ _ h => h) (Or.inl ⟨by rfl, ?_⟩) ?_ ?_
   rotate_left
   ·intro w'
    go_simp
    with_reducible rfl
   rotate_left
   ·simp only [Act.put, List.setIfInBounds_toArray, List.set_cons_zero, List.set_cons_succ, i64_w, i32_w]
    rfl
   refine pure_ (i := 8) (N := some 27) (v := ?_) (a' := ?_) #[true, true, true, true, true, true, true, true, true, false, false] rfl rfl (by kernel_rfl) (fun _ _ _ h => h) (Or.inl ⟨by rfl, ?_⟩) ?_ ?_
   rotate_left
   ·intro w'
    go_simp
    with_reducible rfl
   rotate_left
   ·simp only [Act.put, List.setIfInBounds_toArray, List.set_cons_zero, List.set_cons_succ, i64_w, i32_w]
    rfl
   refine pure_ (i := 9) (N := some 8) (v := ?_) (a' := ?_) #[true, true, true, true, true, true, true, true, true, true, false] rfl rfl (by kernel_rfl) (fun _ _ _ h => h) (Or.inl ⟨by rfl, ?_⟩) ?_ ?_
   rotate_left
   ·intro w'
    go_simp
    with_reducible rfl
   rotate_left
   ·simp only [Act.put, List.setIfInBounds_toArray, List.set_cons_zero, List.set_cons_succ, i64_w, i32_w]
    rfl
   refine pure_ (i := 10) (N := some 9) (v := ?_) (a' := ?_) #[true, true, true, true, true, true, true, true, true, true, true] rfl rfl (by kernel_rfl) (fun _ _ _ h => h) (Or.inl ⟨by rfl, ?_⟩) ?_ ?_
   rotate_left
   ·intro w'
    go_simp
    with_reducible rfl
   rotate_left
   ·simp only [Act.put, List.setIfInBounds_toArray, List.set_cons_zero, List.set_cons_succ, i64_w, i32_w]
    rfl
   refine done_ (by kernel_rfl) ?_
   obtain ⟨hs, hhs⟩ : ∃ hs, hs = hasN l s := ⟨_, rfl⟩
   obtain ⟨i, hi⟩ : ∃ i, i = rk l s := ⟨_, rfl⟩
   rw [← hhs, ← hi]
   have HHS := Aside0.mk hhs
   have HI := Aside0.mk hi
   clear hhs hi
   by_cases hr1 : r = []
   ·have t2 : ((n : Int) == 1) = true := by have := HNL.out.1; rw [hr1] at this; rw [this]; rfl
    have HR1 := Aside0.mk hr1
    clear hr1
    go_wp2_with fail
    obtain ⟨q, hq⟩ : ∃ q, q = act l i hs s := ⟨_, rfl⟩
    have HRES : Aside0 (chN act (s :: r) 3 l = if q.2 ≠ 0 then ([], q.2) else (q.1, 0)) := ⟨by rw [chN, if_neg (by decide), if_pos HR1.out, ← HHS.out, ← HI.out, ← hq]⟩
    refine start_ (n := 15) (S := fun w' => w'.cell? ⟨b0, 3, none⟩ = some (.slice A4 l.length c4) ∧ w'.cell? ad = some (.string s)) (ds := [13]) #[false, false, false, false, false, false, false, false, false, false, false, false, false, false, false] (by kernel_rfl) rfl rfl (⟨B05.out.cell 3 _ rfl, HC5.out⟩) (fun hHeld => ?_)
    have hdr : Below W5.heap.size W5 W5.drew := below_drew (Below.refl _ _)
    generalize W5.drew = W6 at *
    refine pure_ (i := 0) (N := some 51) (v := ?_) (a' := ?_) #[true, false, false, false, false, false, false, false, false, false, false, false, false, false, false] rfl rfl (by kernel_rfl) (fun _ _ _ h => h) (Or.inl ⟨by rfl, ?_⟩) ?_ ?_
    rotate_left
    ·intro w'
     go_simp
     with_reducible rfl
    rotate_left
    ·simp only [Act.put, List.setIfInBounds_toArray, List.set_cons_zero, List.set_cons_succ, i64_w, i32_w]
     rfl
    refine pure_ (i := 1) (N := some 52) (v := ?_) (a' := ?_) #[true, true, false, false, false, false, false, false, false, false, false, false, false, false, false] rfl rfl (by kernel_rfl) (fun _ _ _ h => h) (Or.inl ⟨by rfl, ?_⟩) ?_ ?_
    rotate_left
    ·intro w'
     go_simp
     with_reducible rfl
    rotate_left
    ·simp only [Act.put, List.setIfInBounds_toArray, List.set_cons_zero, List.set_cons_succ, i64_w, i32_w]
     rfl
    refine take_ (i := 2) (N := some 53) (v := ?_) (a' := ?_) #[true, true, true, false, false, false, false, false, false, false, false, false, false, false, false] rfl rfl (by kernel_rfl) (fun _ _ _ h => h) (Or.inl ⟨by rfl, ?_⟩) hHeld ?_ ?_
    rotate_left
    ·rintro w' ⟨s0, s1⟩
     go_simp
     with_reducible rfl
    rotate_left
    ·simp only [Act.put, List.setIfInBounds_toArray, List.set_cons_zero, List.set_cons_succ, i64_w, i32_w]
     rfl
    refine pure_ (i := 3) (N := some 54) (v := ?_) (a' := ?_) #[true, true, true, true, false, false, false, false, false, false, false, false, false, false, false] rfl rfl (by kernel_rfl) (fun _ _ _ h => h) (Or.inl ⟨by rfl, ?_⟩) ?_ ?_
    rotate_left
    ·intro w'
     go_simp
     with_reducible rfl
    rotate_left
    ·simp only [Act.put, List.setIfInBounds_toArray, List.set_cons_zero, List.set_cons_succ, i64_w, i32_w]
     rfl
    refine pure_ (i := 4) (N := some 55) (v := ?_) (a' := ?_) #[true, true, true, true, true, false, false, false, false, false, false, false, false, false, false] rfl rfl (by kernel_rfl) (fun _ _ _ h => h) (Or.inl ⟨by rfl, ?_⟩) ?_ ?_
    rotate_left
    ·intro w'
     go_simp
     with_reducible rfl
    rotate_left
    ·simp only [Act.put, List.setIfInBounds_toArray, List.set_cons_zero, List.set_cons_succ, i64_w, i32_w]
     rfl
    refine pure_ (i := 5) (N := some 56) (v := ?_) (a' := ?_) #[true, true, true, true, true, true, false, false, false, false, false, false, false, false, false] rfl rfl (by kernel_rfl) (fun _ _ _ h => h) (Or.inl ⟨by rfl, ?_⟩) ?_ ?_
    rotate_left
    ·intro w'
     go_simp
     with_reducible rfl
    rotate_left
    ·simp only [Act.put, List.setIfInBounds_toArray, List.set_cons_zero, List.set_cons_succ, i64_w, i32_w]
     rfl
    refine pure_ (i := 6) (N := some 57) (v := ?_) (a' := ?_) #[true, true, true, true, true, true, true, false, false, false, false, false, false, false, false] rfl rfl (by kernel_rfl) (fun _ _ _ h => h) (Or.inl ⟨by rfl, ?_⟩) ?_ ?_
    rotate_left
    ·intro w'
     go_simp
     with_reducible rfl
    rotate_left
    ·simp only [Act.put, List.setIfInBounds_toArray, List.set_cons_zero, List.set_cons_succ, i64_w, i32_w]
     rfl
    refine take_ (i := 7) (N := some 58) (v := ?_) (a' := ?_) #[true, true, true, true, true, true, true, true, false, false, false, false, false, false, false] rfl rfl (by kernel_rfl) (fun _ _ _ h => h) (Or.inl ⟨by rfl, ?_⟩) hHeld ?_ ?_
    rotate_left
    ·rintro w' ⟨s0, s1⟩
     go_simp
     with_reducible rfl
    rotate_left
    ·simp only [Act.put, List.setIfInBounds_toArray, List.set_cons_zero, List.set_cons_succ, i64_w, i32_w]
     rfl
    refine one_ (i := 8) (N := some 59) #[true, true, true, true, true, true, true, true, true, false, false, false, false, false, false] rfl rfl (by kernel_rfl) (by decide) (fun K hK => ?_)
    refine goesC_ hfA hnA hbA #[.slice A4 l.length c4, .int .i64 i, .bool hs, .string s] (by rfl) rfl rfl (by rfl) (by (try simp only [List.map_toArray, List.map_cons, List.map_nil]); first | done | rfl) ?_
    have hb6 := below_step HB5.out hdr
    have hcall := HACT.out l s (.slice A4 l.length c4) W6 ok1 (HO5.out.newer hdr) HR.out (Nat.le_trans HBS.out hb6.size) (HINV.out w W6 HIV.out (hb6.mono HBS.out)) (fun k hk => ⟨(HK1.out k hk).2.2.2, Nat.lt_of_lt_of_le (HK1.out k hk).2.1 hb6.size⟩)
    rw [← HI.out, ← HHS.out, ← hq] at hcall
    refine hcall.mono ?_
    clear hcall hq
    rintro o W7 ⟨v', rfl, hO7, hU7⟩
    have HO7 := Aside0.mk hO7
    have HU7 := Aside0.mk hU7
    obtain ⟨A5, c5, hv5, _⟩ := HO7.out.slice
    subst hv5
    obtain ⟨l2, hl2⟩ : ∃ l2, l2 = q.1 := ⟨_, rfl⟩
    obtain ⟨cq, hcq⟩ : ∃ cq, cq = q.2 := ⟨_, rfl⟩
    rw [← hl2] at HO7 HRES
    rw [← hcq] at HRES
    rw [← hl2, ← hcq]
    have HU6 : Aside0 (Upd ok1 w W7) := ⟨(Upd.of_below hb6 (S := ok1)).trans HU7.out (fun k hk => .inl hk)⟩
    have HS6 := Aside0.mk hb6.size
    have B06 := Aside0.mk ((B05.out.below hdr).upd HU7.out (fun h => by have := (HK1.out b0 h).2.1; have := HZ.out; omega))
    have B16 := Aside0.mk ((B15.out.below hdr).upd HU7.out (fun h => by have := (HK1.out b1 h).2.1; have := HZ.out; omega))
    have x03 := B06.out.cell 3 _ rfl
    have y03 := B06.out.frozen 3
    have hC7 := names_at HN.out HU6.out (fun k hk => (HK1.out k hk).1)
    clear hdr B05 B15 HB5 HO5 HU7 hO7 hU7 hl2 hcq hb6
    refine ⟨_, rfl, ?_⟩
    refine hK.out _ _ ⟨x03, hC7⟩ (fun _ => ?_)
    clear hK K
    refine pure_ (i := 9) (N := some 50) (v := ?_) (a' := ?_) #[true, true, true, true, true, true, true, true, true, true, false, false, false, false, false] rfl rfl (by kernel_rfl) (fun _ _ _ h => h) (Or.inl ⟨by rfl, ?_⟩) ?_ ?_
    rotate_left
    ·intro w'
     go_simp
     with_reducible rfl
    rotate_left
    ·simp only [Act.put, List.setIfInBounds_toArray, List.set_cons_zero, List.set_cons_succ, i64_w, i32_w]
     rfl
    refine pure_ (i := 10) (N := some 60) (v := ?_) (a' := ?_) #[true, true, true, true, true, true, true, true, true, true, true, false, false, false, false] rfl rfl (by kernel_rfl) (fun _ _ _ h => h) (Or.inl ⟨by rfl, ?_⟩) ?_ ?_
    rotate_left
    ·intro w'
     go_simp
     with_reducible rfl
    rotate_left
    ·simp only [Act.put, List.setIfInBounds_toArray, List.set_cons_zero, List.set_cons_succ, i64_w, i32_w]
     rfl
    refine pure_ (i := 11) (N := some 61) (v := ?_) (a' := ?_) #[true, true, true, true, true, true, true, true, true, true, true, true, false, false, false] rfl rfl (by kernel_rfl) (fun _ _ _ h => h) (Or.inl ⟨by rfl, ?_⟩) ?_ ?_
    rotate_left
    ·intro w'
     go_simp
     with_reducible rfl
    rotate_left
    ·simp only [Act.put, List.setIfInBounds_toArray, List.set_cons_zero, List.set_cons_succ, i64_w, i32_w]
     rfl
    refine pure_ (i := 12) (N := some 62) (v := ?_) (a' := ?_) #[true, true, true, true, true, true, true, true, true, true, true, true, true, false, false] rfl rfl (by kernel_rfl) (fun _ _ _ h => h) (Or.inl ⟨by rfl, ?_⟩) ?_ ?_
    rotate_left
    ·intro w'
     go_simp
     with_reducible rfl
    rotate_left
    ·simp only [Act.put, List.setIfInBounds_toArray, List.set_cons_zero, List.set_cons_succ, i64_w, i32_w]
     rfl
    refine last_ (i := 13) (N := none) #[true, true, true, true, true, true, true, true, true, true, true, true, true, true, false] rfl rfl (by kernel_rfl) (by decide) (fun K hK => ?_)
    refine skip_ (w1 := W7.setCell ⟨b0, 3, none⟩ (.slice A5 l2.length c5)) (by rfl) rfl ?_ ?_
    ·go_simp
    refine hK.out _ _ ?_
    clear hK K
    refine pure_ (i := 14) (N := some 10) (v := ?_) (a' := ?_) #[true, true, true, true, true, true, true, true, true, true, true, true, true, true, true] rfl rfl (by kernel_rfl) (fun _ _ _ h => h) (Or.inl ⟨by rfl, ?_⟩) ?_ ?_
    rotate_left
    ·intro w'
     go_simp
     with_reducible rfl
    rotate_left
    ·simp only [Act.put, List.setIfInBounds_toArray, List.set_cons_zero, List.set_cons_succ, i64_w, i32_w]
     rfl
    refine done_ (by kernel_rfl) ?_
    obtain ⟨W8, hW8⟩ : ∃ W8, W8 = W7.setCell ⟨b0, 3, none⟩ (.slice A5 l2.length c5) := ⟨_, rfl⟩
    have HU8 : Aside0 (Upd ok1 w W8) := ⟨by rw [hW8]; exact HU6.out.trans (Upd.setCell (S := fun k => k = b0) (p := ⟨b0, 3, none⟩) (.inl rfl) _) (fun k hk => .inr (by have := HZ.out; omega))⟩
    have B08 : Aside0 (Blk W8 b0 32 [.int .i64 3, .bool e, .string t, .slice A5 l2.length c5]) := ⟨by rw [hW8]; exact blk_put (cs := #[.int .i64 3, .bool e, .string t, .slice A4 l.length c4]) B06.out 3 _ rfl⟩
    have B18 : Aside0 (Blk W8 b1 32 [.int .i64 0, .bool false, .string ⟨#[]⟩, .slice none 0 0]) := ⟨by rw [hW8]; exact (Below.heap_setCell _ _ _ _ (by show b1 ≠ b0; exact fun e => HZ.out.2.2 e.symm)).trans B16.out⟩
    have HO8 : Aside0 (Own W8 base (fun k => ok1 k ∨ W6.heap.size ≤ k) (.slice A5 l2.length c5) l2) := ⟨by rw [hW8]; exact HO7.out.set B06.out (by decide) 3 _⟩
    rw [← hW8]
    clear hW8 x03 y03 B06 B16 HU6 HO7 hHeld HC5 hC7
    obtain ⟨x0, x1, x2, x3⟩ := cells4 B18.out
    obtain ⟨u0, u1, u2, u3⟩ := cells4 B08.out
    have y0 := B18.out.frozen 0
    have y1 := B18.out.frozen 1
    have y2 := B18.out.frozen 2
    have y3 := B18.out.frozen 3
    by_cases hq0 : cq = 0
    ·subst hq0
     go_wp2_with fail
     have HF := put4_upd (b := b1) (c0 := .int .i64 3) (c1 := .bool e) (c2 := .string t) (c3 := .slice A5 l2.length c5) HU8.out HZ.out.2.1
     have HG := put4_blk (c0 := .int .i64 3) (c1 := .bool e) (c2 := .string t) (c3 := .slice A5 l2.length c5) B18.out
     have HH := put4_own (c0 := .int .i64 3) (c1 := .bool e) (c2 := .string t) (c3 := .slice A5 l2.length c5) HO8.out B18.out
     obtain ⟨z0, z1, z2, z3⟩ := cells4 HG
     refine bodyPost_ret (v := .tuple #[.agg #[.int .i64 3, .bool e, .string t, .slice A5 l2.length c5], .int .i64 0]) (by simp [results, Tryd.results44, go_sem, z0, z1, z2, z3]) rfl ⟨HF.mono (fun k hk => (HK1.out k hk).1), fun h => ?_, fun h => ?_⟩
     ·rw [HRES.out]
      exact ⟨_, rfl, HH.mono (fun k hk => hk.elim (fun h => .inl (HK1.out k h).1) (fun h => .inr (by have := HS6.out; omega)))⟩
     ·rw [HRES.out] at h; exact absurd rfl h
    ·have HQ0 := Aside0.mk hq0
     have y4 : (cq != 0) = true := bne_iff_ne.mpr hq0
     clear hq0
     go_wp2_with fail
     have HF := put4_upd (b := b1) (c0 := .int .i64 0) (c1 := .bool false) (c2 := .string ⟨#[]⟩) (c3 := .slice none 0 0) HU8.out HZ.out.2.1
     have HG := put4_blk (c0 := .int .i64 0) (c1 := .bool false) (c2 := .string ⟨#[]⟩) (c3 := .slice none 0 0) B18.out
     obtain ⟨z0, z1, z2, z3⟩ := cells4 HG
     refine bodyPost_ret (v := .tuple #[.agg #[.int .i64 0, .bool false, .string ⟨#[]⟩, .slice none 0 0], .int .i64 cq]) (by simp [results, Tryd.results44, go_sem, z0, z1, z2, z3]) rfl ⟨HF.mono (fun k hk => (HK1.out k hk).1), fun h => ?_, fun h => ?_⟩
     ·rw [HRES.out, if_pos HQ0.out] at h; exact absurd h HQ0.out
     ·rw [HRES.out, if_pos HQ0.out]
   ·have t2 : ((n : Int) == 1) = false := beq_eq_false_iff_ne.mpr (by
     have h1 := HNL.out.1
     cases r with
     | nil => exact absurd rfl hr1
     | cons a b => rw [List.length_cons] at h1; omega)
    have HR1 := Aside0.mk hr1
    cases hs
    case false =>
     have HRES : Aside0 (chN act (s :: r) 3 l = ([], 3)) := ⟨by rw [chN, if_neg (by decide), if_neg hr1, ← HHS.out]; rfl⟩
     clear hr1
     have HU8 : Aside0 (Upd ok1 w W5) := ⟨Upd.of_below HB5.out⟩
     obtain ⟨x0, x1, x2, x3⟩ := cells4 B15.out
     have y0 := B15.out.frozen 0
     have y1 := B15.out.frozen 1
     have y2 := B15.out.frozen 2
     have y3 := B15.out.frozen 3
     go_wp2_with fail
     have HF := put4_upd (b := b1) (c0 := .int .i64 0) (c1 := .bool false) (c2 := .string ⟨#[]⟩) (c3 := .slice none 0 0) HU8.out HZ.out.2.1
     have HG := put4_blk (c0 := .int .i64 0) (c1 := .bool false) (c2 := .string ⟨#[]⟩) (c3 := .slice none 0 0) B15.out
     obtain ⟨z0, z1, z2, z3⟩ := cells4 HG
     refine bodyPost_ret (v := .tuple #[.agg #[.int .i64 0, .bool false, .string ⟨#[]⟩, .slice none 0 0], .int .i64 3]) (by simp [results, Tryd.results44, go_sem, z0, z1, z2, z3]) rfl ⟨HF.mono (fun k hk => (HK1.out k hk).1), fun h => ?_, fun h => ?_⟩
     ·rw [HRES.out] at h; exact absurd h (by decide)
     ·rw [HRES.out]
    case true =>
     obtain ⟨x, hx, _⟩ := hasN_at HHS.out.symm
     rw [← HI.out] at hx
     have hil : i < l.length := (List.getElem?_eq_some_iff.1 hx).1
     obtain ⟨q, hq⟩ : ∃ q, q = chN act r x.f1 x.f4 := ⟨_, rfl⟩
     have HRES : Aside0 (chN act (s :: r) 3 l = if q.2 ≠ 0 then ([], q.2) else (l.set i { x with f4 := q.1 }, 0)) := ⟨by rw [chN, if_neg (by decide), if_neg hr1, ← HHS.out, ← HI.out, hq, if_pos rfl, hx]⟩
     have HQ := Aside0.mk hq
     have h2n : 2 ≤ n := by
      have h1 := HNL.out.1
      cases r with
      | nil => exact absurd rfl hr1
      | cons a b => rw [List.length_cons] at h1; omega
     have c1 : ¬ c = 1 := by omega
     have p2 : (1 : Int) ≤ (n : Int) := by omega
     have HAD : Aside0 (ad.add 1 = ⟨ad.block, ad.off + 1, none⟩) := ⟨by have h := add_field ad 0 1 (by omega); rw [Nat.zero_add, Addr.add_zero'] at h; exact h⟩
     clear hr1 hq
     go_wp2_with fail
     have hO6 := HO5.out.newer (below_drew (Below.refl W5.heap.size W5))
     obtain ⟨ts, hts, hP⟩ := hO6.parts
     obtain ⟨td, htd, hxt⟩ : ∃ td, ts[i]? = some td ∧ td.x = x := by
      rw [hts, List.getElem?_map] at hx
      exact Option.map_eq_some_iff.1 hx
     have htl : ts.length = l.length := by rw [hts, List.length_map]
     have hrow := hP.row
     rcases hrow.2 with ⟨_, h0⟩ | ⟨g, cap, cur, hv, hbg, hg, hncap, hcapm, hcurs, htake⟩
     ·omega
     injection hv with hv1 hv2 hv3
     subst hv1
     obtain ⟨A6, c6, hu6, hl6⟩ := (hP.sub td (List.mem_of_getElem? htd)).slice
     have hce : ∀ j, j < 5 → W5.drew.cell? ⟨g, i * 5 + j, none⟩ = (ecells td.x td.u)[j]? := fun j hj => by
      have h1 := fl_at ts i td htd j hj
      obtain ⟨u, hu⟩ : ∃ u, (ecells td.x td.u)[j]? = some u := ⟨_, List.getElem?_eq_getElem (by rw [ecells_len]; exact hj)⟩
      have h2 := hrow.cells (g := g) rfl (i * 5 + j) u (by rw [h1, hu])
      rw [add_plain] at h2
      rw [h2, hu]
     rw [hxt, hu6] at hce
     have e1 := hce 1 (by omega)
     have e2 := hce 2 (by omega)
     have e3 := hce 3 (by omega)
     have e4 := hce 4 (by omega)
     rw [hxt] at e1 e2 e3 e4
     have p0 : (0 : Int) ≤ (i : Int) := by omega
     have p1 : (i : Int) < (l.length : Int) := by omega
     have hX5 : W5.drew.cell? ⟨b0, 3, none⟩ = some (.slice (some ⟨g, 0, none⟩) l.length c4) := (B05.out.below (below_drew (Below.refl _ _))).cell 3 _ rfl
     have HPP := Aside0.mk (And.intro hP (And.intro hts (And.intro htd (And.intro hxt (And.intro htl (And.intro hu6 (And.intro hg hl6)))))))
     clear hP hts htd hxt htl hu6 hg hl6 hrow hbg hncap hcapm hcurs htake hce hv2 hv3 hO6 hx
     refine start_ (n := 20) (S := fun w' => w'.cell? ⟨b0, 3, none⟩ = some (.slice (some ⟨g, 0, none⟩) l.length c4) ∧ w'.cell? ⟨g, i * 5 + 1, none⟩ = some (.int .i64 x.f1) ∧ w'.cell? ⟨g, i * 5 + 2, none⟩ = some (.bool x.f2) ∧ w'.cell? ⟨g, i * 5 + 3, none⟩ = some (.string x.f3) ∧ w'.cell? ⟨g, i * 5 + 4, none⟩ = some (.slice A6 x.f4.length c6)) (ds := [18]) #[false, false, false, false, false, false, false, false, false, false, false, false, false, false, false, false, false, false, false, false] (by kernel_rfl) rfl rfl (⟨hX5, e1, e2, e3, e4⟩) (fun hHeld => ?_)
     have hdr : Below W5.heap.size W5 W5.drew := below_drew (Below.refl _ _)
     generalize W5.drew = W6 at *
     refine pure_ (i := 0) (N := some 29) (v := ?_) (a' := ?_) #[true, false, false, false, false, false, false, false, false, false, false, false, false, false, false, false, false, false, false, false] rfl rfl (by kernel_rfl) (fun _ _ _ h => h) (Or.inl ⟨by rfl, ?_⟩) ?_ ?_
     rotate_left
     ·intro w'
      go_simp
      with_reducible rfl
     rotate_left
     ·simp only [Act.put, List.setIfInBounds_toArray, List.set_cons_zero, List.set_cons_succ, i64_w, i32_w]
      rfl
     refine take_ (i := 1) (N := some 30) (v := ?_) (a' := ?_) #[true, true, false, false, false, false, false, false, false, false, false, false, false, false, false, false, false, false, false, false] rfl rfl (by kernel_rfl) (fun _ _ _ h => h) (Or.inl ⟨by rfl, ?_⟩) hHeld ?_ ?_
     rotate_left
     ·rintro w' ⟨s0, s1, s2, s3, s4⟩
      go_simp
      with_reducible rfl
     rotate_left
     ·simp only [Act.put, List.setIfInBounds_toArray, List.set_cons_zero, List.set_cons_succ, i64_w, i32_w]
      rfl
     refine pure_ (i := 2) (N := some 31) (v := ?_) (a' := ?_) #[true, true, true, false, false, false, false, false, false, false, false, false, false, false, false, false, false, false, false, false] rfl rfl (by kernel_rfl) (fun _ _ _ h => h) (Or.inl ⟨by rfl, ?_⟩) ?_ ?_
     rotate_left
     ·intro w'
      go_simp
      with_reducible rfl
     rotate_left
     ·simp only [Act.put, List.setIfInBounds_toArray, List.set_cons_zero, List.set_cons_succ, i64_w, i32_w]
      rfl
     refine pure_ (i := 3) (N := some 32) (v := ?_) (a' := ?_) #[true, true, true, true, false, false, false, false, false, false, false, false, false, false, false, false, false, false, false, false] rfl rfl (by kernel_rfl) (fun _ _ _ h => h) (Or.inl ⟨by rfl, ?_⟩) ?_ ?_
     rotate_left
     ·intro w'
      go_simp
      with_reducible rfl
     rotate_left
     ·simp only [Act.put, List.setIfInBounds_toArray, List.set_cons_zero, List.set_cons_succ, i64_w, i32_w]
      rfl
     refine take_ (i := 4) (N := some 33) (v := ?_) (a' := ?_) #[true, true, true, true, true, false, false, false, false, false, false, false, false, false, false, false, false, false, false, false] rfl rfl (by kernel_rfl) (fun _ _ _ h => h) (Or.inl ⟨by rfl, ?_⟩) hHeld ?_ ?_
     rotate_left
     ·rintro w' ⟨s0, s1, s2, s3, s4⟩
      go_simp
      with_reducible rfl
     rotate_left
     ·simp only [Act.put, List.setIfInBounds_toArray, List.set_cons_zero, List.set_cons_succ, i64_w, i32_w]
      rfl
     refine pure_ (i := 5) (N := some 34) (v := ?_) (a' := ?_) #[true, true, true, true, true, true, false, false, false, false, false, false, false, false, false, false, false, false, false, false] rfl rfl (by kernel_rfl) (fun _ _ _ h => h) (Or.inl ⟨by rfl, ?_⟩) ?_ ?_
     rotate_left
     ·intro w'
      go_simp
      with_reducible rfl
     rotate_left
     ·simp only [Act.put, List.setIfInBounds_toArray, List.set_cons_zero, List.set_cons_succ, i64_w, i32_w]
      rfl
     refine pure_ (i := 6) (N := some 35) (v := ?_) (a' := ?_) #[true, true, true, true, true, true, true, false, false, false, false, false, false, false, false, false, false, false, false, false] rfl rfl (by kernel_rfl) (fun _ _ _ h => h) (Or.inl ⟨by rfl, ?_⟩) ?_ ?_
     rotate_left
     ·intro w'
      go_simp
      with_reducible rfl
     rotate_left
     ·simp only [Act.put, List.setIfInBounds_toArray, List.set_cons_zero, List.set_cons_succ, i64_w, i32_w]
      rfl
     refine pure_ (i := 7) (N := some 36) (v := ?_) (a' := ?_) #[true, true, true, true, true, true, true, true, false, false, false, false, false, false, false, false, false, false, false, false] rfl rfl (by kernel_rfl) (fun _ _ _ h => h) (Or.inl ⟨by rfl, ?_⟩) ?_ ?_
     rotate_left
     ·intro w'
      go_simp
      with_reducible rfl
     rotate_left
     ·simp only [Act.put, List.setIfInBounds_toArray, List.set_cons_zero, List.set_cons_succ, i64_w, i32_w]
      rfl
     refine take_ (i := 8) (N := some 37) (v := ?_) (a' := ?_) #[true, true, true, true, true, true, true, true, true, false, false, false, false, false, false, false, false, false, false, false] rfl rfl (by kernel_rfl) (fun _ _ _ h => h) (Or.inl ⟨by rfl, ?_⟩) hHeld ?_ ?_
     rotate_left
     ·rintro w' ⟨s0, s1, s2, s3, s4⟩
      go_simp
      with_reducible rfl
     rotate_left
     ·simp only [Act.put, List.setIfInBounds_toArray, List.set_cons_zero, List.set_cons_succ, i64_w, i32_w]
      rfl
     refine pure_ (i := 9) (N := some 38) (v := ?_) (a' := ?_) #[true, true, true, true, true, true, true, true, true, true, false, false, false, false, false, false, false, false, false, false] rfl rfl (by kernel_rfl) (fun _ _ _ h => h) (Or.inl ⟨by rfl, ?_⟩) ?_ ?_
     rotate_left
     ·intro w'
      go_simp
      with_reducible rfl
     rotate_left
     ·simp only [Act.put, List.setIfInBounds_toArray, List.set_cons_zero, List.set_cons_succ, i64_w, i32_w]
      rfl
     refine pure_ (i := 10) (N := some 39) (v := ?_) (a' := ?_) #[true, true, true, true, true, true, true, true, true, true, true, false, false, false, false, false, false, false, false, false] rfl rfl (by kernel_rfl) (fun _ _ _ h => h) (Or.inl ⟨by rfl, ?_⟩) ?_ ?_
     rotate_left
     ·intro w'
      go_simp
      with_reducible rfl
     rotate_left
     ·simp only [Act.put, List.setIfInBounds_toArray, List.set_cons_zero, List.set_cons_succ, i64_w, i32_w]
      rfl
     refine pure_ (i := 11) (N := some 40) (v := ?_) (a' := ?_) #[true, true, true, true, true, true, true, true, true, true, true, true, false, false, false, false, false, false, false, false] rfl rfl (by kernel_rfl) (fun _ _ _ h => h) (Or.inl ⟨by rfl, ?_⟩) ?_ ?_
     rotate_left
     ·intro w'
      go_simp
      with_reducible rfl
     rotate_left
     ·simp only [Act.put, List.setIfInBounds_toArray, List.set_cons_zero, List.set_cons_succ, i64_w, i32_w]
      rfl
     refine one_ (i := 12) (N := some 41) #[true, true, true, true, true, true, true, true, true, true, true, true, true, false, false, false, false, false, false, false] rfl rfl (by kernel_rfl) (by decide) (fun K hK => ?_)
     refine goes_ Tryd.func44 (by kernel_rfl) rfl #[.agg #[.int .i64 x.f1, .bool x.f2, .string x.f3, .slice A6 x.f4.length c6], .slice (some ⟨ad.block, ad.off + 1, none⟩) (n - 1) (c - 1), .func (.func fA) #[] capA] (by rfl) rfl rfl (by (try simp only [List.map_toArray, List.map_cons, List.map_nil]); first | done | rfl) ?_
     obtain ⟨hP, hts, htd, hxt, htl, hu6, hg, hl6⟩ := HPP.out
     have htm : td ∈ ts := List.mem_of_getElem? htd
     have hb6 := below_step HB5.out hdr
     have hnr : r.length = n - 1 := by have := HNL.out.1; omega
     have hxm : l[i]? = some x := by rw [hts, List.getElem?_map, htd, ← hxt]; rfl
     have hsub := hP.sub td htm
     rw [hu6, hxt] at hsub
     have hNN : NamesF W6 td.f (some ⟨ad.block, ad.off + 1, none⟩) r := by
      rw [← HAD.out]
      refine Kd.F_mono (Kd.F_imp (Kd.F_step HN.out (fun k hk hlt => hb6.block k hlt)) (n' := r.length) (A' := some (ad.add 1)) (xs' := r) (fun W' hW' => ?_)) (fun k hk => ⟨fun h => hk.1 (HK1.out k (hP.inn td htm k h).1.1).1, Nat.lt_of_lt_of_le hk.2 hb6.size⟩)
      have h1 := Kd.C_drop (c := c) (m := 1) hW' (by rw [List.length_cons]; omega) (by rw [HNL.out.2]; exact hc)
      rw [if_neg (by omega)] at h1
      exact h1
     have hIH := IH.out x.f1 x.f2 x.f3 (.slice A6 x.f4.length c6) x.f4 (some ⟨ad.block, ad.off + 1, none⟩) (c - 1) W6 td.f hsub (HR.out.at hxm) (Nat.le_trans HBS.out hb6.size) (HINV.out w W6 HIV.out (hb6.mono HBS.out)) hNN (by omega)
     rw [hnr] at hIH
     refine hIH.mono ?_
     clear hIH
     intro o W7 hpost
     have hUt : Upd td.f W6 W7 := hpost.upd
     have hU7 : Upd ok1 w W7 := (Upd.of_below hb6 (S := ok1)).trans hUt (fun k hk => .inl (hP.inn td htm k hk).1.1)
     have hgn : ¬ td.f g := fun h => (hP.inn td htm g h).2 rfl
     have hg7 : W7.heap[g]? = some (.cells cur eE (0, 0)) := (hUt.block g (Array.getElem?_eq_some_iff.1 hg).1 hgn).trans hg
     have hcell7 : ∀ j v, W6.cell? ⟨g, j, none⟩ = some v → W7.cell? ⟨g, j, none⟩ = some v := fun j v h => by
      rw [cell_of_row W7 g j cur _ _ hg7]
      rw [cell_of_row W6 g j cur _ _ hg] at h
      exact h
     have hb06 : Blk W7 b0 32 [.int .i64 3, .bool e, .string t, .slice (some ⟨g, 0, none⟩) l.length c4] := (B05.out.below hdr).upd hUt (fun h => by have := (HK1.out b0 (hP.inn td htm b0 h).1.1).2.1; have := HZ.out; omega)
     have hb16 : Blk W7 b1 32 [.int .i64 0, .bool false, .string ⟨#[]⟩, .slice none 0 0] := (B15.out.below hdr).upd hUt (fun h => by have := (HK1.out b1 (hP.inn td htm b1 h).1.1).2.1; have := HZ.out; omega)
     have hHeld7 : W7.cell? ⟨b0, 3, none⟩ = some (.slice (some ⟨g, 0, none⟩) l.length c4) ∧ W7.cell? ⟨g, i * 5 + 1, none⟩ = some (.int .i64 x.f1) ∧ W7.cell? ⟨g, i * 5 + 2, none⟩ = some (.bool x.f2) ∧ W7.cell? ⟨g, i * 5 + 3, none⟩ = some (.string x.f3) ∧ W7.cell? ⟨g, i * 5 + 4, none⟩ = some (.slice A6 x.f4.length c6) :=
      ⟨hb06.cell 3 _ rfl, hcell7 _ _ hHeld.2.1, hcell7 _ _ hHeld.2.2.1, hcell7 _ _ hHeld.2.2.2.1, hcell7 _ _ hHeld.2.2.2.2⟩
     have hfr : ∀ j, W7.frozen? ⟨g, j, none⟩ = false := fun j => blk_frozen hg7 j
     have w1 := hHeld7.2.1
     have w2 := hHeld7.2.2.1
     have w3 := hHeld7.2.2.2.1
     have w4 := hHeld7.2.2.2.2
     have z1 := hfr (i * 5 + 1)
     have z2 := hfr (i * 5 + 2)
     have z3 := hfr (i * 5 + 3)
     have z4 := hfr (i * 5 + 4)
     have hrow7 : W7.ownsRow base eE 5 (.slice (some ⟨g, 0, none⟩) l.length c4) ts.length (fl ts) := own_move hP.row (fun k hk => by
      have : g = k := by simpa [Value.ownBlock] using hk
      rw [← this, hg7, hg])
     rw [htl] at hrow7
     have HS6 := Aside0.mk hdr.size
     have hgok : ok1 g := (hP.own g rfl).1
     have hglt : g < w.heap.size := (HK1.out g hgok).2.1
     have hgb : b0 ≠ g ∧ b1 ≠ g := by have := HZ.out; omega
     have HPX := Aside0.mk (And.intro hP (And.intro hts (And.intro htd (And.intro hxt (And.intro htl (And.intro hgok (And.intro hgb (And.intro hUt (And.intro hU7 (And.intro hb06 (And.intro hb16 (And.intro hrow7 hxm))))))))))))
     clear hP hts htd hxt htl hu6 hg hl6 htm hb6 hnr hxm hsub hNN hUt hU7 hgn hg7 hcell7 hb06 hb16 hfr hrow7 hgok hglt hgb HPP IH HR HN hHeld hdr e1 e2 e3 e4 hX5
     by_cases hq0 : q.2 = 0
     ·obtain ⟨v8, ho8, hO8⟩ := hpost.yes (by rw [← HQ.out]; exact hq0)
      rw [← HQ.out] at hO8
      have HO8 := Aside0.mk hO8
      obtain ⟨A8, c8, hv8, _⟩ := hO8.slice
      subst hv8
      obtain ⟨l8, hl8⟩ : ∃ l8, l8 = q.1 := ⟨_, rfl⟩
      rw [← hl8] at ho8 HO8
      have HL8 := Aside0.mk hl8
      have HQ0 := Aside0.mk hq0
      clear hO8 hpost hl8 hq0
      refine ⟨_, ho8, ?_⟩
      clear ho8
      refine hK.out _ _ hHeld7 (fun _ => ?_)
      clear hK K hHeld7
      refine pure_ (i := 13) (N := some 28) (v := ?_) (a' := ?_) #[true, true, true, true, true, true, true, true, true, true, true, true, true, true, false, false, false, false, false, false] rfl rfl (by kernel_rfl) (fun _ _ _ h => h) (Or.inl ⟨by rfl, ?_⟩) ?_ ?_
      rotate_left
      ·intro w'
       go_simp
       with_reducible rfl
      rotate_left
      ·simp only [Act.put, List.setIfInBounds_toArray, List.set_cons_zero, List.set_cons_succ, i64_w, i32_w]
       rfl
      refine pure_ (i := 14) (N := some 42) (v := ?_) (a' := ?_) #[true, true, true, true, true, true, true, true, true, true, true, true, true, true, true, false, false, false, false, false] rfl rfl (by kernel_rfl) (fun _ _ _ h => h) (Or.inl ⟨by rfl, ?_⟩) ?_ ?_
      rotate_left
      ·intro w'
       go_simp
       with_reducible rfl
      rotate_left
      ·simp only [Act.put, List.setIfInBounds_toArray, List.set_cons_zero, List.set_cons_succ, i64_w, i32_w]
       rfl
      refine pure_ (i := 15) (N := some 43) (v := ?_) (a' := ?_) #[true, true, true, true, true, true, true, true, true, true, true, true, true, true, true, true, false, false, false, false] rfl rfl (by kernel_rfl) (fun _ _ _ h => h) (Or.inl ⟨by rfl, ?_⟩) ?_ ?_
      rotate_left
      ·intro w'
       go_simp
       with_reducible rfl
      rotate_left
      ·simp only [Act.put, List.setIfInBounds_toArray, List.set_cons_zero, List.set_cons_succ, i64_w, i32_w]
       rfl
      refine pure_ (i := 16) (N := some 44) (v := ?_) (a' := ?_) #[true, true, true, true, true, true, true, true, true, true, true, true, true, true, true, true, true, false, false, false] rfl rfl (by kernel_rfl) (fun _ _ _ h => h) (Or.inl ⟨by rfl, ?_⟩) ?_ ?_
      rotate_left
      ·intro w'
       go_simp
       with_reducible rfl
      rotate_left
      ·simp only [Act.put, List.setIfInBounds_toArray, List.set_cons_zero, List.set_cons_succ, i64_w, i32_w]
       rfl
      refine pure_ (i := 17) (N := some 45) (v := ?_) (a' := ?_) #[true, true, true, true, true, true, true, true, true, true, true, true, true, true, true, true, true, true, false, false] rfl rfl (by kernel_rfl) (fun _ _ _ h => h) (Or.inl ⟨by rfl, ?_⟩) ?_ ?_
      rotate_left
      ·intro w'
       go_simp
       with_reducible rfl
      rotate_left
      ·simp only [Act.put, List.setIfInBounds_toArray, List.set_cons_zero, List.set_cons_succ, i64_w, i32_w]
       rfl
      refine last_ (i := 18) (N := none) #[true, true, true, true, true, true, true, true, true, true, true, true, true, true, true, true, true, true, true, false] rfl rfl (by kernel_rfl) (by decide) (fun K hK => ?_)
      refine skip_ (w1 := (((W7.setCell ⟨g, i * 5 + 1, none⟩ (.int .i64 x.f1)).setCell ⟨g, i * 5 + 2, none⟩ (.bool x.f2)).setCell ⟨g, i * 5 + 3, none⟩ (.string x.f3)).setCell ⟨g, i * 5 + 4, none⟩ (.slice A8 l8.length c8)) (by rfl) rfl ?_ ?_
      ·go_simp
      refine hK.out _ _ ?_
      clear hK K w1 w2 w3 w4 z1 z2 z3 z4
      refine pure_ (i := 19) (N := some 10) (v := ?_) (a' := ?_) #[true, true, true, true, true, true, true, true, true, true, true, true, true, true, true, true, true, true, true, true] rfl rfl (by kernel_rfl) (fun _ _ _ h => h) (Or.inl ⟨by rfl, ?_⟩) ?_ ?_
      rotate_left
      ·intro w'
       go_simp
       with_reducible rfl
      rotate_left
      ·simp only [Act.put, List.setIfInBounds_toArray, List.set_cons_zero, List.set_cons_succ, i64_w, i32_w]
       rfl
      refine done_ (by kernel_rfl) ?_
      obtain ⟨W8, hW8⟩ : ∃ W8, W8 = (((W7.setCell ⟨g, i * 5 + 1, none⟩ (.int .i64 x.f1)).setCell ⟨g, i * 5 + 2, none⟩ (.bool x.f2)).setCell ⟨g, i * 5 + 3, none⟩ (.string x.f3)).setCell ⟨g, i * 5 + 4, none⟩ (.slice A8 l8.length c8) := ⟨_, rfl⟩
      obtain ⟨hP, hts, htd, hxt, htl, hgok, hgb, hUt, hU7, hb06, hb16, hrow7, hxm⟩ := HPX.out
      have hU78 : Upd (fun k => k = g) W7 W8 := by
       rw [hW8]
       exact (((Upd.setCell (S := fun k => k = g) (p := ⟨g, i * 5 + 1, none⟩) (.inl rfl) _).trans (Upd.setCell (S := fun k => k = g) (p := ⟨g, i * 5 + 2, none⟩) (.inl rfl) _) (fun k hk => .inl hk)).trans (Upd.setCell (S := fun k => k = g) (p := ⟨g, i * 5 + 3, none⟩) (.inl rfl) _) (fun k hk => .inl hk)).trans (Upd.setCell (S := fun k => k = g) (p := ⟨g, i * 5 + 4, none⟩) (.inl rfl) _) (fun k hk => .inl hk)
      have HU8 : Aside0 (Upd ok1 w W8) := ⟨hU7.trans hU78 (fun k hk => .inl (by rw [hk]; exact hgok))⟩
      have B08 := Aside0.mk (hb06.upd hU78 hgb.1)
      have B18 := Aside0.mk (hb16.upd hU78 hgb.2)
      have HO9 : Aside0 (Own W8 base (fun j => ok1 j ∨ W6.heap.size ≤ j) (.slice (some ⟨g, 0, none⟩) l.length c4) (l.set i { x with f4 := l8 })) := ⟨by
       have hrow8 : W8.ownsRow base eE 5 (.slice (some ⟨g, 0, none⟩) l.length c4) ts.length (fl (ts.set i ⟨{ x with f4 := l8 }, .slice A8 l8.length c8, fun j => td.f j ∨ W6.heap.size ≤ j⟩)) := by
        rw [show ({ x with f4 := l8 } : Ent) = ⟨td.x.f0, x.f1, x.f2, x.f3, l8⟩ from by rw [hxt], ← fl_store ts i td htd, hW8, htl]
        exact own_setAt (own_setAt (own_setAt (own_setAt hrow7 _ (by omega) _) _ (by omega) _) _ (by omega) _) _ (by omega) _
       have h1 := hP.put (w2 := W7) (w3 := W8) (okn := fun j => ok1 j ∨ W6.heap.size ≤ j) (fun k hk => hk.2.2.1) i td ⟨{ x with f4 := l8 }, .slice A8 l8.length c8, fun j => td.f j ∨ W6.heap.size ≤ j⟩ htd hUt HO8.out (fun k hk => hk) hrow8
        ⟨hU78.os, hU78.tape, hU78.output, hU78.size, fun k hk hn => hU78.block k hk (fun e => hn (by rw [e]; rfl))⟩ (fun k hk => .inl hk.1) (fun k hk => .inr hk)
       rw [List.map_set, ← hts] at h1
       exact h1⟩
      have HW6 : Aside0 (w.heap.size ≤ W6.heap.size) := ⟨Nat.le_trans HB5.out.size (by exact HS6.out)⟩
      rw [← hW8]
      clear hW8 hP hts htd hxt htl hgok hgb hUt hU7 hb06 hb16 hrow7 hxm hU78 HO8
      obtain ⟨x0, x1, x2, x3⟩ := cells4 B18.out
      obtain ⟨u0, u1, u2, u3⟩ := cells4 B08.out
      have y0 := B18.out.frozen 0
      have y1 := B18.out.frozen 1
      have y2 := B18.out.frozen 2
      have y3 := B18.out.frozen 3
      go_wp2_with fail
      have HF := put4_upd (b := b1) (c0 := .int .i64 3) (c1 := .bool e) (c2 := .string t) (c3 := .slice (some ⟨g, 0, none⟩) l.length c4) HU8.out HZ.out.2.1
      have HG := put4_blk (c0 := .int .i64 3) (c1 := .bool e) (c2 := .string t) (c3 := .slice (some ⟨g, 0, none⟩) l.length c4) B18.out
      have HH := put4_own (c0 := .int .i64 3) (c1 := .bool e) (c2 := .string t) (c3 := .slice (some ⟨g, 0, none⟩) l.length c4) HO9.out B18.out
      obtain ⟨z0, z1, z2, z3⟩ := cells4 HG
      refine bodyPost_ret (v := .tuple #[.agg #[.int .i64 3, .bool e, .string t, .slice (some ⟨g, 0, none⟩) l.length c4], .int .i64 0]) (by simp [results, Tryd.results44, go_sem, z0, z1, z2, z3]) rfl ⟨HF.mono (fun k hk => (HK1.out k hk).1), fun h => ?_, fun h => ?_⟩
      ·rw [HRES.out, if_neg (fun h => h HQ0.out), ← HL8.out]
       exact ⟨_, rfl, HH.mono (fun k hk => hk.elim (fun h => .inl (HK1.out k h).1) (fun h => .inr (by have := HW6.out; omega)))⟩
      ·rw [HRES.out, if_neg (fun h => h HQ0.out)] at h; exact absurd rfl h
     ·have ho8 := hpost.no (by rw [← HQ.out]; exact hq0)
      rw [← HQ.out] at ho8
      obtain ⟨cq, hcq⟩ : ∃ cq, cq = q.2 := ⟨_, rfl⟩
      rw [← hcq] at ho8 hq0
      have HCQ := Aside0.mk hcq
      have HQ0 := Aside0.mk hq0
      clear hpost hcq
      refine ⟨_, ho8, ?_⟩
      clear ho8
      refine hK.out _ _ hHeld7 (fun _ => ?_)
      clear hK K hHeld7
      refine pure_ (i := 13) (N := some 28) (v := ?_) (a' := ?_) #[true, true, true, true, true, true, true, true, true, true, true, true, true, true, false, false, false, false, false, false] rfl rfl (by kernel_rfl) (fun _ _ _ h => h) (Or.inl ⟨by rfl, ?_⟩) ?_ ?_
      rotate_left
      ·intro w'
       go_simp
       with_reducible rfl
      rotate_left
      ·simp only [Act.put, List.setIfInBounds_toArray, List.set_cons_zero, List.set_cons_succ, i64_w, i32_w]
       rfl
      refine pure_ (i := 14) (N := some 42) (v := ?_) (a' := ?_) #[true, true, true, true, true, true, true, true, true, true, true, true, true, true, true, false, false, false, false, false] rfl rfl (by kernel_rfl) (fun _ _ _ h => h) (Or.inl ⟨by rfl, ?_⟩) ?_ ?_
      rotate_left
      ·intro w'
       go_simp
       with_reducible rfl
      rotate_left
      ·simp only [Act.put, List.setIfInBounds_toArray, List.set_cons_zero, List.set_cons_succ, i64_w, i32_w]
       rfl
      refine pure_ (i := 15) (N := some 43) (v := ?_) (a' := ?_) #[true, true, true, true, true, true, true, true, true, true, true, true, true, true, true, true, false, false, false, false] rfl rfl (by kernel_rfl) (fun _ _ _ h => h) (Or.inl ⟨by rfl, ?_⟩) ?_ ?_
      rotate_left
      ·intro w'
       go_simp
       with_reducible rfl
      rotate_left
      ·simp only [Act.put, List.setIfInBounds_toArray, List.set_cons_zero, List.set_cons_succ, i64_w, i32_w]
       rfl
      refine pure_ (i := 16) (N := some 44) (v := ?_) (a' := ?_) #[true, true, true, true, true, true, true, true, true, true, true, true, true, true, true, true, true, false, false, false] rfl rfl (by kernel_rfl) (fun _ _ _ h => h) (Or.inl ⟨by rfl, ?_⟩) ?_ ?_
      rotate_left
      ·intro w'
       go_simp
       with_reducible rfl
      rotate_left
      ·simp only [Act.put, List.setIfInBounds_toArray, List.set_cons_zero, List.set_cons_succ, i64_w, i32_w]
       rfl
      refine pure_ (i := 17) (N := some 45) (v := ?_) (a' := ?_) #[true, true, true, true, true, true, true, true, true, true, true, true, true, true, true, true, true, true, false, false] rfl rfl (by kernel_rfl) (fun _ _ _ h => h) (Or.inl ⟨by rfl, ?_⟩) ?_ ?_
      rotate_left
      ·intro w'
       go_simp
       with_reducible rfl
      rotate_left
      ·simp only [Act.put, List.setIfInBounds_toArray, List.set_cons_zero, List.set_cons_succ, i64_w, i32_w]
       rfl
      refine last_ (i := 18) (N := none) #[true, true, true, true, true, true, true, true, true, true, true, true, true, true, true, true, true, true, true, false] rfl rfl (by kernel_rfl) (by decide) (fun K hK => ?_)
      refine skip_ (w1 := (((W7.setCell ⟨g, i * 5 + 1, none⟩ (.int .i64 0)).setCell ⟨g, i * 5 + 2, none⟩ (.bool false)).setCell ⟨g, i * 5 + 3, none⟩ (.string ⟨#[]⟩)).setCell ⟨g, i * 5 + 4, none⟩ (.slice none 0 0)) (by rfl) rfl ?_ ?_
      ·go_simp
      refine hK.out _ _ ?_
      clear hK K w1 w2 w3 w4 z1 z2 z3 z4
      refine pure_ (i := 19) (N := some 10) (v := ?_) (a' := ?_) #[true, true, true, true, true, true, true, true, true, true, true, true, true, true, true, true, true, true, true, true] rfl rfl (by kernel_rfl) (fun _ _ _ h => h) (Or.inl ⟨by rfl, ?_⟩) ?_ ?_
      rotate_left
      ·intro w'
       go_simp
       with_reducible rfl
      rotate_left
      ·simp only [Act.put, List.setIfInBounds_toArray, List.set_cons_zero, List.set_cons_succ, i64_w, i32_w]
       rfl
      refine done_ (by kernel_rfl) ?_
      obtain ⟨W8, hW8⟩ : ∃ W8, W8 = (((W7.setCell ⟨g, i * 5 + 1, none⟩ (.int .i64 0)).setCell ⟨g, i * 5 + 2, none⟩ (.bool false)).setCell ⟨g, i * 5 + 3, none⟩ (.string ⟨#[]⟩)).setCell ⟨g, i * 5 + 4, none⟩ (.slice none 0 0) := ⟨_, rfl⟩
      obtain ⟨hP, hts, htd, hxt, htl, hgok, hgb, hUt, hU7, hb06, hb16, hrow7, hxm⟩ := HPX.out
      have hU78 : Upd (fun k => k = g) W7 W8 := by
       rw [hW8]
       exact (((Upd.setCell (S := fun k => k = g) (p := ⟨g, i * 5 + 1, none⟩) (.inl rfl) _).trans (Upd.setCell (S := fun k => k = g) (p := ⟨g, i * 5 + 2, none⟩) (.inl rfl) _) (fun k hk => .inl hk)).trans (Upd.setCell (S := fun k => k = g) (p := ⟨g, i * 5 + 3, none⟩) (.inl rfl) _) (fun k hk => .inl hk)).trans (Upd.setCell (S := fun k => k = g) (p := ⟨g, i * 5 + 4, none⟩) (.inl rfl) _) (fun k hk => .inl hk)
      have HU8 : Aside0 (Upd ok1 w W8) := ⟨hU7.trans hU78 (fun k hk => .inl (by rw [hk]; exact hgok))⟩
      have B18 := Aside0.mk (hb16.upd hU78 hgb.2)
      rw [← hW8]
      clear hW8 hP hts htd hxt htl hgok hgb hUt hU7 hb06 hb16 hrow7 hxm hU78
      obtain ⟨x0, x1, x2, x3⟩ := cells4 B18.out
      have y0 := B18.out.frozen 0
      have y1 := B18.out.frozen 1
      have y2 := B18.out.frozen 2
      have y3 := B18.out.frozen 3
      have y4 : (cq != 0) = true := bne_iff_ne.mpr hq0
      clear hq0
      go_wp2_with fail
      have HF := put4_upd (b := b1) (c0 := .int .i64 0) (c1 := .bool false) (c2 := .string ⟨#[]⟩) (c3 := .slice none 0 0) HU8.out HZ.out.2.1
      have HG := put4_blk (c0 := .int .i64 0) (c1 := .bool false) (c2 := .string ⟨#[]⟩) (c3 := .slice none 0 0) B18.out
      obtain ⟨z0, z1, z2, z3⟩ := cells4 HG
      refine bodyPost_ret (v := .tuple #[.agg #[.int .i64 0, .bool false, .string ⟨#[]⟩, .slice none 0 0], .int .i64 cq]) (by simp [results, Tryd.results44, go_sem, z0, z1, z2, z3]) rfl ⟨HF.mono (fun k hk => (HK1.out k hk).1), fun h => ?_, fun h => ?_⟩
      ·rw [HRES.out, if_pos (by rw [← HCQ.out]; exact HQ0.out)] at h; exact absurd h (by rw [← HCQ.out]; exact HQ0.out)
      ·rw [HRES.out, if_pos (by rw [← HCQ.out]; exact HQ0.out), HCQ.out]
  ·have k1 : (k != 3) = true := bne_iff_ne.mpr hk3
   have HRES : Aside0 (chN act (s :: r) k l = ([], 65)) := ⟨by rw [chN, if_pos hk3]⟩
   clear hk3
   go_enter Tryd.func44, Tryd.ntmps44
   go_wp2_with fail
   refine bodyPost_ret (v := .tuple #[.agg #[.int .i64 0, .bool false, .string ⟨#[]⟩, .slice none 0 0], .int .i64 65]) (by simp [results, Tryd.results44, go_sem]) rfl ⟨Upd.of_below (below_alloc (below_alloc (Below.refl _ _) _) _), fun h => ?_, fun h => ?_⟩
   ·rw [HRES.out] at h; exact absurd h (by decide)
   ·rw [HRES.out]
end Go.Proofs.YtnemeeidomceiaaDoor
end
section
namespace Go.Proofs.YtnemeeidomceiaaDoor
open Go.RowKit Go.Proofs.YtnemeeidomceiaaDoorW.PrintWords Go.Proofs.YtnemeeidomceiaaDoorW.PrintLast Go.Proofs.YtnemeeidomceiaaDoorW.PrintMore
set_option linter.unusedVariables false
set_option linter.unusedSimpArgs false
theorem tsz_pos : ∀ (f : Nat) (x : Ent), wf f x → 1 ≤ tsz f x
 | 0, x, h => h.elim
 | f + 1, x, h => by
  have h1 := own_pos x.f1 x.f2 x.f3
  have h2 := ksz_nonneg f x.f4
  show 1 ≤ ownS x.f1 x.f2 x.f3 + ksz f x.f4
  omega
theorem ksz_len (f : Nat) : ∀ l : List Ent, (l.length : Int) ≤ ksz f l + 0 ∨ ¬ ∀ y, y ∈ l → wf f y
 | [] => .inl (by simp [ksz])
 | y :: l => by
  by_cases hy : wf f y
  ·rcases ksz_len f l with h | h
   ·have h1 := tsz_pos f y hy
    have h2 := entS_range y.f0
    rw [ksz_cons, List.length_cons]
    exact .inl (by omega)
   ·exact .inr (fun hh => h (fun z hz => hh z (List.mem_cons_of_mem _ hz)))
  ·exact .inr (fun hh => hy (hh y List.mem_cons_self))
theorem ksz_mem (f : Nat) : ∀ (l : List Ent) (y : Ent), y ∈ l → tsz f y ≤ ksz f l
 | [], y, h => by cases h
 | z :: l, y, h => by
  have h1 := entS_range z.f0
  have h2 := tsz_nonneg f z
  have h3 := ksz_nonneg f l
  rw [ksz_cons]
  rcases List.mem_cons.1 h with rfl | h
  ·omega
  ·have := ksz_mem f l y h; omega
theorem wf_AllR : ∀ (f : Nat) (x : Ent), wf f x → tsz f x ≤ 1048576 → AllR x.f4
 | 0, x, h, _ => h.elim
 | f + 1, x, h, hf => by
  have h1 := ownS_range x.f1 x.f2 x.f3
  have h2 : ownS x.f1 x.f2 x.f3 + ksz f x.f4 ≤ 1048576 := hf
  refine .mk h.2.2.1 ?_ (fun y hy => wf_AllR f y (h.2.2.2 y hy) (by have := ksz_mem f x.f4 y hy; omega))
  rcases ksz_len f x.f4 with h3 | h3
  ·omega
  ·exact absurd h.2.2.2 h3
theorem look_AllR {k : Int} {e : Bool} {t : ByteArray} {l : List Ent} (h : lookCode (lookL k e t l) = 0) : AllR l := by
 have hfair := nodeL_fair 32 ⟨#[]⟩ ⟨⟨#[]⟩, k, e, t, l⟩ magS
 cases hs : lookL k e t l with
 | bad p c =>
  rw [hs] at h
  unfold lookL at hs
  rw [hs] at hfair
  exact absurd h hfair
 | ok b rows =>
  obtain ⟨h1, h2, h3, _⟩ := (look_iff k e t l b rows).1 hs
  exact wf_AllR 32 ⟨⟨#[]⟩, k, e, t, l⟩ h1 (by omega)
set_option maxHeartbeats 1000000 in
set_option maxRecDepth 100000 in
theorem cut1_yes (l : List Ent) (i : Nat) (s : ByteArray) (v : Value) (w : World) (base : Nat) (ok : Nat → Prop) (h : Own w base ok v l) (hi : i < l.length) :
  Calls Tryd.prog 45 #[v, .int .i64 i, .bool true, .string s] w fun o w' => ∃ v', o = .returned (.tuple #[v', .int .i64 0]) ∧ Aside0 (Own w' base ok v' (l.eraseIdx i)) ∧ Aside0 (Upd ok w w') := by
 obtain ⟨ts, hts, hP⟩ := h.parts
 have hln := congrArg List.length hts
 rw [List.length_map] at hln
 obtain ⟨m, hm⟩ : ∃ m, ts.length = m + 1 := ⟨ts.length - 1, by omega⟩
 have hrow := hP.row
 rw [hm] at hrow
 have hbd : (i : Int) < 9223372036854775807 := by
  rcases hrow.2 with ⟨_, h0⟩ | ⟨g, c, cur, _, _, _, hnc, hcm, _⟩
  ·omega
  ·unfold maxLen at hcm; omega
 have HD := Aside0.mk (deleteEnt_all base m i v (fl ts) w hrow (by omega) hP.ones)
 have HX := Aside0.mk (And.intro h (And.intro hts (And.intro hP (And.intro hm hln))))
 obtain ⟨A, c, hv⟩ := own_slice hrow
 subst hv
 have hi0 : (0 : Int) ≤ (i : Int) := by omega
 clear h hP hrow hts hln hm
 go_enter Tryd.func45, Tryd.ntmps45
 go_wp2_with fail
 (with_reducible refine HD.out.mono ?_)
 rintro o w1 ⟨v', rfl, hrow', hg, hat⟩
 obtain ⟨h, hts, hP, hm, hln⟩ := HX.out
 have HR : Aside0 (Own w1 base ok v' (l.eraseIdx i)) := ⟨by
  have := hP.delete (w1 := w1) (v1 := v') (fun k hk => hk.2.2.1) i (by omega) (by rw [show ts.length - 1 = m from by omega]; exact hrow') hg hat
  have e : (ts.eraseIdx i).map (·.x) = l.eraseIdx i := by rw [hts, List.eraseIdx_eq_take_drop_succ, List.eraseIdx_eq_take_drop_succ, List.map_append, List.map_take, List.map_drop]
  rw [e] at this
  exact this.mono (fun k hk => hk.1)⟩
 have HU : Aside0 (Upd ok w w1) := ⟨Upd.of_grown hg (fun k hk => .inl (hP.own k hk).1)⟩
 clear hrow' hg hat h hts hP hm hln HX HD
 go_wp2
 go_ret2
 exact ⟨_, rfl, HR, HU⟩
set_option maxHeartbeats 1000000 in
set_option maxRecDepth 100000 in
theorem cut1_no (i : Int) (s : ByteArray) (A : Option Addr) (n c : Nat) (w : World) :
  Calls Tryd.prog 45 #[.slice A n c, .int .i64 i, .bool false, .string s] w fun o w' => o = .returned (.tuple #[.slice A n c, .int .i64 3]) ∧ w = w' := by
 go_enter Tryd.func45, Tryd.ntmps45
 go_wp2
 go_ret2
 exact ⟨rfl, rfl⟩
def cutAct (l : List Ent) (i : Nat) (hs : Bool) (s : ByteArray) : List Ent × Int := if hs = true then (l.eraseIdx i, 0) else (l, 3)
theorem cut1_any (l : List Ent) (s : ByteArray) (v : Value) (w : World) (base : Nat) (ok : Nat → Prop) (h : Own w base ok v l) :
  Calls Tryd.prog 45 #[v, .int .i64 (rk l s), .bool (hasN l s), .string s] w fun o w' => ∃ v', o = .returned (.tuple #[v', .int .i64 (cutAct l (rk l s) (hasN l s) s).2]) ∧ Own w' base (fun k => ok k ∨ w.heap.size ≤ k) v' (cutAct l (rk l s) (hasN l s) s).1 ∧ Upd ok w w' := by
 cases hs : hasN l s with
 | true =>
  obtain ⟨x, hx, _⟩ := hasN_at hs
  refine (cut1_yes l (rk l s) s v w base ok h (List.getElem?_eq_some_iff.1 hx).1).mono ?_
  rintro o w' ⟨v', ho, hO, hU⟩
  exact ⟨v', ho, hO.out.mono (fun k hk => .inl hk), hU.out⟩
 | false =>
  obtain ⟨A, c, hv, _⟩ := h.slice
  subst hv
  refine (cut1_no (rk l s) s A l.length c w).mono ?_
  rintro o w' ⟨ho, rfl⟩
  exact ⟨_, ho, h.mono (fun k hk => .inl hk), Upd.refl _ _⟩
def readyP (k : Int) (e : Bool) (t : ByteArray) (l : List Ent) (path : ByteArray) : List ByteArray × Int := if lookCode (lookL k e t l) ≠ 0 then ([], lookCode (lookL k e t l)) else ((splitP path).1, (splitP path).2.1)
set_option maxHeartbeats 2000000 in
set_option maxRecDepth 100000 in
theorem ready_calls (k : Int) (e : Bool) (t : ByteArray) (l : List Ent) (path : ByteArray) (A : Option Addr) (c : Nat) (w : World) (hC : Kd.C kE w A l.length l) (hc : l.length ≤ c) (hh : Held t l) (hp : path.size ≤ 140737488351232) :
  Calls Tryd.prog 37 #[.agg #[.int .i64 k, .bool e, .string t, .slice A l.length c], .string path] w fun o w' => ∃ v, o = .returned (.tuple #[v, .int .i64 (readyP k e t l path).2]) ∧ Kd.R Kd.string 9 w' w.heap.size (fun _ => True) v (readyP k e t l path).1 ∧ Below w.heap.size w w' := by
 obtain ⟨cd, hcd⟩ : ∃ cd, cd = lookCode (lookL k e t l) := ⟨_, rfl⟩
 obtain ⟨q, hq⟩ : ∃ q, q = lookPath (lookL k e t l) := ⟨_, rfl⟩
 obtain ⟨sp, hsp⟩ : ∃ sp, sp = splitP path := ⟨_, rfl⟩
 have HCD := Aside0.mk hcd
 have HC := Aside0.mk (And.intro hC hc)
 have HCK : Aside0 (∀ W, Below w.heap.size w W → Calls Tryd.prog 14 #[.agg #[.int .i64 k, .bool e, .string t, .slice A l.length c]] W fun e w' => e = .returned (.tuple #[.string q, .int .i64 cd]) ∧ Below W.heap.size W w') := ⟨fun W hb => tree_Check.calls k e t A c l q cd W (Kd.C_below hC hb) hc (by unfold tree_Check.f; rw [if_pos hh, hcd, hq])⟩
 have HSP : Aside0 (∀ W, Calls Tryd.prog 29 #[.string path] W fun e w' => ∃ v0_ : Value, e = .returned (.tuple #[v0_, .agg #[.int .i64 sp.2.1, .int .i64 sp.2.2]]) ∧ Kd.R Kd.string 9 w' W.heap.size (fun _ => True) v0_ sp.1 ∧ Below W.heap.size W w') := ⟨fun W => name_Split.calls path sp.1 sp.2.1 sp.2.2 W (by unfold name_Split.f; rw [if_pos hp, hsp])⟩
 unfold readyP
 rw [← hcd, ← hsp]
 clear hC hc hh hcd hq hsp
 by_cases hz : cd = 0
 ·subst hz
  rw [if_neg (by decide)]
  go_enter Tryd.func37, Tryd.ntmps37
  go_wp2_with fail
  have hb1 : Below w.heap.size w (w.alloc (.cells #[.int .i64 k, .bool e, .string t, .slice A l.length c] 32)) := below_alloc (Below.refl _ _) _
  (with_reducible refine (HCK.out _ hb1).mono ?_)
  rintro o w1 ⟨rfl, hb2⟩
  have HB1 := Aside0.mk (below_step hb1 hb2)
  clear hb1 hb2
  go_wp2_with fail
  (with_reducible refine (HSP.out w1).mono ?_)
  rintro o w2 ⟨v, rfl, hR, hb⟩
  obtain ⟨A2, c2, hv⟩ := Kd.R_slice hR
  subst hv
  have HR := Aside0.mk (Kd.R_lower hR HB1.out.size)
  have HB2 := Aside0.mk (below_step HB1.out hb)
  clear hR hb HB1
  go_wp2_with fail
  obtain ⟨W3, hW3⟩ : ∃ W3, W3 = w2.alloc (.cells #[.int .i64 sp.2.1, .int .i64 sp.2.2] 35) := ⟨_, rfl⟩
  have hbl : Blk W3 w2.heap.size 35 [.int .i64 sp.2.1, .int .i64 sp.2.2] := by rw [hW3]; exact Blk.new _ _ _
  have hb3 : Below w2.heap.size w2 W3 := by rw [hW3]; exact below_alloc (Below.refl _ _) _
  have HR3 := Aside0.mk (Kd.R_below HR.out hb3)
  have HB3 := Aside0.mk (below_step HB2.out hb3)
  have x0 := hbl.cell 0 _ rfl
  rw [← hW3]
  clear hW3 hb3 hbl
  go_quiet (fail)
  go_wp2_with fail
  go_ret2
  exact ⟨_, rfl, Kd.R_below HR3.out (pw_below_drewN (Below.refl _ _) _), below_step HB3.out (pw_below_drewN (Below.refl _ _) _)⟩
 ·have hz1 : (cd != 0) = true := bne_iff_ne.mpr hz
  rw [if_pos hz]
  clear hz
  go_enter Tryd.func37, Tryd.ntmps37
  go_wp2_with fail
  have hb1 : Below w.heap.size w (w.alloc (.cells #[.int .i64 k, .bool e, .string t, .slice A l.length c] 32)) := below_alloc (Below.refl _ _) _
  (with_reducible refine (HCK.out _ hb1).mono ?_)
  rintro o w1 ⟨rfl, hb2⟩
  have HB1 := Aside0.mk (below_step hb1 hb2)
  clear hb1 hb2
  go_wp2_with fail
  go_ret2
  exact ⟨_, rfl, Kd.R_nil _ _ _ _ _, HB1.out⟩
abbrev NodeT := Int × Bool × ByteArray × List Ent
def zeroT : NodeT := (0, false, ⟨#[]⟩, [])
def cutP (k : Int) (e : Bool) (t : ByteArray) (l : List Ent) (path : ByteArray) : NodeT × Int :=
 if (readyP k e t l path).2 ≠ 0 then (zeroT, (readyP k e t l path).2)
 else if (readyP k e t l path).1 = [] then (zeroT, 66)
 else if (chN cutAct (readyP k e t l path).1 k l).2 ≠ 0 then (zeroT, (chN cutAct (readyP k e t l path).1 k l).2)
 else ((k, e, t, (chN cutAct (readyP k e t l path).1 k l).1), 0)
structure TreePost (w : World) (r : NodeT × Int) (o : Ending) (w' : World) : Prop where
 out : ∃ v, o = .returned (.tuple #[.agg #[.int .i64 r.1.1, .bool r.1.2.1, .string r.1.2.2.1, v], .int .i64 r.2]) ∧ Own w' w.heap.size (fun k => w.heap.size ≤ k) v r.1.2.2.2
 below : Below w.heap.size w w'
theorem TreePost.read {w w' : World} {r : NodeT × Int} {o : Ending} (h : TreePost w r o w') : ∃ v, o = .returned (.tuple #[.agg #[.int .i64 r.1.1, .bool r.1.2.1, .string r.1.2.2.1, v], .int .i64 r.2]) ∧ Kd.R kE eE w' w.heap.size (fun _ => True) v r.1.2.2.2 :=
 h.out.elim fun v hv => ⟨v, hv.1, Kd.R_mono hv.2.toR (fun _ _ => trivial)⟩
theorem Own.above {w : World} {b b0 : Nat} {ok : Nat → Prop} {v : Value} {l : List Ent} (h : Own w b ok v l) (hb : b0 ≤ b) : Own w b0 (fun k => b0 ≤ k) v l := (h.bound.lower hb).mono (fun k hk => Nat.le_trans hb hk.2.1)
theorem below_put4 {B : Nat} {w W : World} {b : Nat} {c0 c1 c2 c3 : Value} (h : Below B w W) (hb : B ≤ b) : Below B w ((((W.setCell ⟨b, 0, none⟩ c0).setCell ⟨b, 1, none⟩ c1).setCell ⟨b, 2, none⟩ c2).setCell ⟨b, 3, none⟩ c3) :=
 (((h.setCell (p := ⟨b, 0, none⟩) hb c0).setCell (p := ⟨b, 1, none⟩) hb c1).setCell (p := ⟨b, 2, none⟩) hb c2).setCell (p := ⟨b, 3, none⟩) hb c3
theorem Upd.toBelow {w w' : World} {S : Nat → Prop} {B : Nat} (h : Upd S w w') (hS : ∀ k, S k → B ≤ k) (hB : B ≤ w.heap.size) : Below B w w' := h.below hS hB
set_option maxHeartbeats 4000000 in
set_option maxRecDepth 100000 in
theorem cut_calls (k : Int) (e : Bool) (t : ByteArray) (l : List Ent) (path : ByteArray) (A : Option Addr) (c : Nat) (w : World) (hC : Kd.C kE w A l.length l) (hc : l.length ≤ c) (hh : Held t l) (hf : Fit l) (hp : path.size ≤ 140737488351232) :
  Calls Tryd.prog 18 #[.agg #[.int .i64 k, .bool e, .string t, .slice A l.length c], .string path] w (TreePost w (cutP k e t l path)) := by
 obtain ⟨rp, hrp⟩ : ∃ rp, rp = readyP k e t l path := ⟨_, rfl⟩
 have HAR : Aside0 (rp.2 = 0 → AllR l) := ⟨fun h => look_AllR (by
  rw [hrp] at h
  unfold readyP at h
  split at h
  ·rename_i h2; exact absurd h h2
  ·rename_i h2; exact Decidable.of_not_not h2)⟩
 have HC := Aside0.mk (And.intro hC hc)
 have HRD : Aside0 (∀ W, Below w.heap.size w W → Calls Tryd.prog 37 #[.agg #[.int .i64 k, .bool e, .string t, .slice A l.length c], .string path] W fun o w' => ∃ v, o = .returned (.tuple #[v, .int .i64 rp.2]) ∧ Kd.R Kd.string 9 w' W.heap.size (fun _ => True) v rp.1 ∧ Below W.heap.size W w') := ⟨fun W hb => by rw [hrp]; exact ready_calls k e t l path A c W (Kd.C_below hC hb) hc hh hp⟩
 have HCP : Aside0 (∀ W, Below w.heap.size w W → Calls Tryd.prog 24 #[.agg #[.int .i64 k, .bool e, .string t, .slice A l.length c]] W fun o w' => ∃ v, o = .returned (.agg #[.int .i64 k, .bool e, .string t, v]) ∧ Own w' W.heap.size (fun k => W.heap.size ≤ k) v l ∧ Below W.heap.size W w') := ⟨fun W hb => copyO_calls l hf k e t A c W (Kd.C_below hC hb) hc⟩
 obtain ⟨res, hres⟩ : ∃ res, res = cutP k e t l path := ⟨_, rfl⟩
 have HRES : Aside0 (res = if rp.2 ≠ 0 then (zeroT, rp.2) else if rp.1 = [] then (zeroT, 66) else if (chN cutAct rp.1 k l).2 ≠ 0 then (zeroT, (chN cutAct rp.1 k l).2) else ((k, e, t, (chN cutAct rp.1 k l).1), 0)) := ⟨by rw [hres, hrp]; rfl⟩
 rw [← hres]
 clear hC hc hh hf hrp hres
 have HFIN : Aside0 (∀ (W : World) (b : Nat) (cd : Int), Below w.heap.size w W → w.heap.size ≤ b → Blk W b 32 [.int .i64 0, .bool false, .string ⟨#[]⟩, .slice none 0 0] → Below w.heap.size w ((((W.setCell ⟨b, 0, none⟩ (.int .i64 0)).setCell ⟨b, 1, none⟩ (.bool false)).setCell ⟨b, 2, none⟩ (.string ⟨#[]⟩)).setCell ⟨b, 3, none⟩ (.slice none 0 0)) ∧ Blk ((((W.setCell ⟨b, 0, none⟩ (.int .i64 0)).setCell ⟨b, 1, none⟩ (.bool false)).setCell ⟨b, 2, none⟩ (.string ⟨#[]⟩)).setCell ⟨b, 3, none⟩ (.slice none 0 0)) b 32 [.int .i64 0, .bool false, .string ⟨#[]⟩, .slice none 0 0]) :=
  ⟨fun W b cd hb hb2 hB => ⟨below_put4 hb hb2, put4_blk hB⟩⟩
 go_enter Tryd.func18, Tryd.ntmps18
 go_wp2_with fail
 obtain ⟨W2, hW2⟩ : ∃ W2, W2 = (w.alloc (.cells #[.int .i64 k, .bool e, .string t, .slice A l.length c] 32)).alloc (.cells #[.int .i64 0, .bool false, .string ⟨#[]⟩, .slice none 0 0] 32) := ⟨_, rfl⟩
 rw [← hW2]
 obtain ⟨b0, hb0⟩ : ∃ b, b = w.heap.size := ⟨_, rfl⟩
 obtain ⟨b1, hb1⟩ : ∃ b, b = w.heap.size + 1 := ⟨_, rfl⟩
 rw [← hb1, ← hb0]
 have B0 : Aside0 (Blk W2 b0 32 [.int .i64 k, .bool e, .string t, .slice A l.length c]) := ⟨by rw [hW2, hb0]; exact (Blk.new w _ [.int .i64 k, .bool e, .string t, .slice A l.length c]).alloc _⟩
 have B1 : Aside0 (Blk W2 b1 32 [.int .i64 0, .bool false, .string ⟨#[]⟩, .slice none 0 0]) := ⟨by rw [hW2]; exact Blk.new' _ _ [.int .i64 0, .bool false, .string ⟨#[]⟩, .slice none 0 0] (by rw [hb1]; simp)⟩
 have HB : Aside0 (Below w.heap.size w W2) := ⟨by rw [hW2]; exact below_alloc (below_alloc (Below.refl _ _) _) _⟩
 have HZ : Aside0 (w.heap.size ≤ b0 ∧ w.heap.size ≤ b1 ∧ b0 ≠ b1) := ⟨by omega⟩
 clear hW2 hb0 hb1
 (with_reducible refine (HRD.out W2 HB.out).mono ?_)
 rintro o W3 ⟨v, rfl, hR, hb⟩
 obtain ⟨A2, c2, hv⟩ := Kd.R_slice hR
 subst hv
 have HR := Aside0.mk hR
 have HB3 := Aside0.mk (below_step HB.out hb)
 have B03 := Aside0.mk (B0.out.below hb)
 have B13 := Aside0.mk (B1.out.below hb)
 clear hR hb HB B0 B1 HRD
 obtain ⟨cd, hcd⟩ : ∃ cd, cd = rp.2 := ⟨_, rfl⟩
 rw [← hcd] at HAR HRES ⊢
 have x0 := B13.out.frozen 0
 have x1 := B13.out.frozen 1
 have x2 := B13.out.frozen 2
 have x3 := B13.out.frozen 3
 obtain ⟨y0, y1, y2, y3⟩ := cells4 B13.out
 clear hcd
 by_cases hz : cd = 0
 ·subst hz
  by_cases hn : rp.1 = []
  ·have HRS : Aside0 (res = (zeroT, 66)) := ⟨by have := HRES.out; rw [if_neg (by decide), if_pos hn] at this; exact this⟩
   have hl : rp.1.length = 0 := by rw [hn]; rfl
   rw [hl]
   clear hn hl
   go_wp2_with fail
   have hF := HFIN.out W3 b1 66 HB3.out HZ.out.2.1 B13.out
   obtain ⟨z0, z1, z2, z3⟩ := cells4 hF.2
   rw [HRS.out]
   exact bodyPost_ret (v := .tuple #[.agg #[.int .i64 0, .bool false, .string ⟨#[]⟩, .slice none 0 0], .int .i64 66]) (by simp [results, Tryd.results18, go_sem, z0, z1, z2, z3]) rfl ⟨⟨_, rfl, Own.nil _ _ _⟩, hF.1⟩
  ·have HRS : Aside0 (res = if (chN cutAct rp.1 k l).2 ≠ 0 then (zeroT, (chN cutAct rp.1 k l).2) else ((k, e, t, (chN cutAct rp.1 k l).1), 0)) := ⟨by have := HRES.out; rw [if_neg (by decide), if_neg hn] at this; exact this⟩
   obtain ⟨n, hnl⟩ : ∃ n, n = rp.1.length := ⟨_, rfl⟩
   have hn0 : ¬ n = 0 := by rw [hnl]; exact fun h => hn (List.length_eq_zero_iff.1 h)
   have hn1 : ((n : Int) == 0) = false := beq_eq_false_iff_ne.mpr (by omega)
   rw [← hnl]
   have HNL := Aside0.mk hnl
   obtain ⟨q, hq⟩ : ∃ q, q = chN cutAct rp.1 k l := ⟨_, rfl⟩
   have HQ := Aside0.mk hq
   rw [← hq] at HRS
   obtain ⟨u0, u1, u2, u3⟩ := cells4 B03.out
   clear hn hnl hq
   go_wp2_with fail
   (with_reducible refine (HCP.out W3 HB3.out).mono ?_)
   rintro o W4 ⟨v, rfl, hO, hb⟩
   obtain ⟨A4, c4, hv, _⟩ := hO.slice
   subst hv
   have HO := Aside0.mk hO
   have HB34 := Aside0.mk hb
   have B14 := Aside0.mk (B13.out.below hb)
   clear hO hb u0 u1 u2 u3
   go_wp2_with fail
   have hrr := Kd.R_reads' HR.out
   have hNF : NamesF W4 (fun j => W3.heap.size ≤ j) A2 rp.1 := by
    have h1 := Kd.F_old (Kd.R_F HR.out) HB34.out
    rw [hrr.1] at h1
    exact Kd.F_mono h1 (fun j hj => ⟨fun h => by have := hj.2; omega, Nat.lt_of_lt_of_le hj.2 HB34.out.size⟩)
   have hch := change_calls 45 Tryd.f45 Tryd.func45 (by kernel_rfl) rfl #[] cutAct W3.heap.size (fun _ => True) (fun _ _ _ _ => trivial) (fun l s v w ok h _ _ _ _ => cut1_any l s v w _ ok h) rp.1 k e t (.slice A4 l.length c4) l A2 c2 W4 (fun j => W3.heap.size ≤ j) HO.out (HAR.out (by first | rfl | trivial)) HB34.out.size trivial hNF (by rw [← hrr.1]; exact hrr.2.1)
   rw [← HNL.out, ← HQ.out] at hch
   clear hrr hNF
   (with_reducible refine hch.mono ?_)
   clear hch
   rintro o W5 hpost
   have HB5 : Aside0 (Below w.heap.size w W5) := ⟨(below_step HB3.out HB34.out).trans (hpost.upd.toBelow (fun j hj => Nat.le_trans HB3.out.size hj) (Nat.le_trans HB3.out.size HB34.out.size))⟩
   have B15 := Aside0.mk (B14.out.upd hpost.upd (fun h => by have := B13.out.lt; omega))
   have x0 := B15.out.frozen 0
   have x1 := B15.out.frozen 1
   have x2 := B15.out.frozen 2
   have x3 := B15.out.frozen 3
   obtain ⟨y0, y1, y2, y3⟩ := cells4 B15.out
   by_cases hq0 : q.2 = 0
   ·have HRT : Aside0 (res = ((k, e, t, q.1), 0)) := ⟨by have := HRS.out; rw [if_neg (fun h => h hq0)] at this; exact this⟩
    obtain ⟨v8, ho8, hO8⟩ := hpost.yes hq0
    subst ho8
    have HO8 := Aside0.mk hO8
    obtain ⟨A8, c8, hv8, _⟩ := hO8.slice
    subst hv8
    clear hO8 hpost hq0
    go_wp2_with fail
    have hF : Below w.heap.size w ((((W5.setCell ⟨b1, 0, none⟩ (.int .i64 k)).setCell ⟨b1, 1, none⟩ (.bool e)).setCell ⟨b1, 2, none⟩ (.string t)).setCell ⟨b1, 3, none⟩ (.slice A8 q.1.length c8)) := below_put4 HB5.out HZ.out.2.1
    have hG := put4_blk (c0 := .int .i64 k) (c1 := .bool e) (c2 := .string t) (c3 := .slice A8 q.1.length c8) B15.out
    have hH := put4_own (c0 := .int .i64 k) (c1 := .bool e) (c2 := .string t) (c3 := .slice A8 q.1.length c8) HO8.out B15.out
    obtain ⟨z0, z1, z2, z3⟩ := cells4 hG
    rw [HRT.out]
    exact bodyPost_ret (v := .tuple #[.agg #[.int .i64 k, .bool e, .string t, .slice A8 q.1.length c8], .int .i64 0]) (by simp [results, Tryd.results18, go_sem, z0, z1, z2, z3]) rfl ⟨⟨_, rfl, hH.above HB3.out.size⟩, hF⟩
   ·have HRT : Aside0 (res = (zeroT, q.2)) := ⟨by have := HRS.out; rw [if_pos hq0] at this; exact this⟩
    have ho8 := hpost.no hq0
    subst ho8
    clear hpost hq0
    go_wp2_with fail
    have hF := HFIN.out W5 b1 0 HB5.out HZ.out.2.1 B15.out
    obtain ⟨z0, z1, z2, z3⟩ := cells4 hF.2
    rw [HRT.out]
    exact bodyPost_ret (v := .tuple #[.agg #[.int .i64 0, .bool false, .string ⟨#[]⟩, .slice none 0 0], .int .i64 q.2]) (by simp [results, Tryd.results18, go_sem, z0, z1, z2, z3]) rfl ⟨⟨_, rfl, Own.nil _ _ _⟩, hF.1⟩
 ·have HRT : Aside0 (res = (zeroT, cd)) := ⟨by have := HRES.out; rw [if_pos hz] at this; exact this⟩
  have hz1 : (cd != 0) = true := bne_iff_ne.mpr hz
  have hz2 : (cd == 0) = false := beq_eq_false_iff_ne.mpr hz
  clear hz
  go_wp2_with fail
  have hF := HFIN.out W3 b1 0 HB3.out HZ.out.2.1 B13.out
  obtain ⟨z0, z1, z2, z3⟩ := cells4 hF.2
  rw [HRT.out]
  exact bodyPost_ret (v := .tuple #[.agg #[.int .i64 0, .bool false, .string ⟨#[]⟩, .slice none 0 0], .int .i64 cd]) (by simp [results, Tryd.results18, go_sem, z0, z1, z2, z3]) rfl ⟨⟨_, rfl, Own.nil _ _ _⟩, hF.1⟩
end Go.Proofs.YtnemeeidomceiaaDoor
end
section
namespace Go.Proofs.YtnemeeidomceiaaDoor
open Go.RowKit Go.Proofs.YtnemeeidomceiaaDoorW.PrintWords Go.Proofs.YtnemeeidomceiaaDoorW.PrintLast Go.Proofs.YtnemeeidomceiaaDoorW.PrintMore
set_option linter.unusedVariables false
set_option linter.unusedSimpArgs false
def nodeOf (x : Ent) : NodeT := (x.f1, x.f2, x.f3, x.f4)
def getN : List ByteArray → NodeT → NodeT × Int
 | [], n => (n, 0)
 | s :: r, n => if n.1 ≠ 3 then (zeroT, 65) else match (if hasN n.2.2.2 s = true then n.2.2.2[rk n.2.2.2 s]? else none) with
  | none => (zeroT, 3)
  | some x => getN r (nodeOf x)
def getP (n : NodeT) (path : ByteArray) : NodeT × Int := if (readyP n.1 n.2.1 n.2.2.1 n.2.2.2 path).2 ≠ 0 then (zeroT, (readyP n.1 n.2.1 n.2.2.1 n.2.2.2 path).2) else getN (readyP n.1 n.2.1 n.2.2.1 n.2.2.2 path).1 n
theorem Fit.at_ {l : List Ent} (h : Fit l) {x : Ent} (hx : x ∈ l) : Fit x.f4 := by
 cases h with
 | mk h k => exact k x hx
theorem names_drop {w : World} {A : Option Addr} {ns : List ByteArray} (hC : Kd.C Kd.string w A ns.length ns) (j : Nat) (hj : j < ns.length) : ∃ ad, A = some ad ∧ w.cell? (ad.add j) = some (.string (ns[j]'hj)) := by
 obtain ⟨ad, hA, hc⟩ := Kd.at_string hC (j : Int) (by omega) (by omega)
 refine ⟨ad, hA, ?_⟩
 simp only [Int.toNat_natCast] at hc
 rw [hc]
 simp [rdOf, hj]
set_option maxHeartbeats 4000000 in
set_option maxRecDepth 100000 in
theorem get_calls (n : NodeT) (path : ByteArray) (A : Option Addr) (c : Nat) (w : World) (hC : Kd.C kE w A n.2.2.2.length n.2.2.2) (hc : n.2.2.2.length ≤ c) (hh : Held n.2.2.1 n.2.2.2) (hf : Fit n.2.2.2) (hp : path.size ≤ 140737488351232) :
  Calls Tryd.prog 16 #[.agg #[.int .i64 n.1, .bool n.2.1, .string n.2.2.1, .slice A n.2.2.2.length c], .string path] w (TreePost w (getP n path)) := by
 obtain ⟨res, hres⟩ : ∃ res, res = getP n path := ⟨_, rfl⟩
 obtain ⟨k, e, t, l⟩ := n
 simp only at *
 obtain ⟨rp, hrp⟩ : ∃ rp, rp = readyP k e t l path := ⟨_, rfl⟩
 have HRES : Aside0 (res = if rp.2 ≠ 0 then (zeroT, rp.2) else getN rp.1 (k, e, t, l)) := ⟨by rw [hres, hrp]; rfl⟩
 have HAR : Aside0 (rp.2 = 0 → AllR l) := ⟨fun h => look_AllR (by
  rw [hrp] at h
  unfold readyP at h
  split at h
  ·rename_i h2; exact absurd h h2
  ·rename_i h2; exact Decidable.of_not_not h2)⟩
 have HC := Aside0.mk (And.intro hC (And.intro hc hf))
 have HRD : Aside0 (∀ W, Below w.heap.size w W → Calls Tryd.prog 37 #[.agg #[.int .i64 k, .bool e, .string t, .slice A l.length c], .string path] W fun o w' => ∃ v, o = .returned (.tuple #[v, .int .i64 rp.2]) ∧ Kd.R Kd.string 9 w' W.heap.size (fun _ => True) v rp.1 ∧ Below W.heap.size W w') := ⟨fun W hb => by rw [hrp]; exact ready_calls k e t l path A c W (Kd.C_below hC hb) hc hh hp⟩
 rw [← hres]
 clear hC hc hh hf hrp hres hp
 go_enter Tryd.func16, Tryd.ntmps16
 go_wp2_with fail
 obtain ⟨W2, hW2⟩ : ∃ W2, W2 = (w.alloc (.cells #[.int .i64 k, .bool e, .string t, .slice A l.length c] 32)).alloc (.cells #[.int .i64 0, .bool false, .string ⟨#[]⟩, .slice none 0 0] 32) := ⟨_, rfl⟩
 rw [← hW2]
 obtain ⟨b0, hb0⟩ : ∃ b, b = w.heap.size := ⟨_, rfl⟩
 obtain ⟨b1, hb1⟩ : ∃ b, b = w.heap.size + 1 := ⟨_, rfl⟩
 rw [← hb1, ← hb0]
 have B0 : Aside0 (Blk W2 b0 32 [.int .i64 k, .bool e, .string t, .slice A l.length c]) := ⟨by rw [hW2, hb0]; exact (Blk.new w _ [.int .i64 k, .bool e, .string t, .slice A l.length c]).alloc _⟩
 have B1 : Aside0 (Blk W2 b1 32 [.int .i64 0, .bool false, .string ⟨#[]⟩, .slice none 0 0]) := ⟨by rw [hW2]; exact Blk.new' _ _ [.int .i64 0, .bool false, .string ⟨#[]⟩, .slice none 0 0] (by rw [hb1]; simp)⟩
 have HB : Aside0 (Below w.heap.size w W2) := ⟨by rw [hW2]; exact below_alloc (below_alloc (Below.refl _ _) _) _⟩
 have HZ : Aside0 (w.heap.size ≤ b0 ∧ w.heap.size ≤ b1 ∧ b0 ≠ b1) := ⟨by omega⟩
 clear hW2 hb0 hb1
 have HFIN : Aside0 (∀ (W : World), Below w.heap.size w W → Blk W b1 32 [.int .i64 0, .bool false, .string ⟨#[]⟩, .slice none 0 0] → Below w.heap.size w ((((W.setCell ⟨b1, 0, none⟩ (.int .i64 0)).setCell ⟨b1, 1, none⟩ (.bool false)).setCell ⟨b1, 2, none⟩ (.string ⟨#[]⟩)).setCell ⟨b1, 3, none⟩ (.slice none 0 0)) ∧ Blk ((((W.setCell ⟨b1, 0, none⟩ (.int .i64 0)).setCell ⟨b1, 1, none⟩ (.bool false)).setCell ⟨b1, 2, none⟩ (.string ⟨#[]⟩)).setCell ⟨b1, 3, none⟩ (.slice none 0 0)) b1 32 [.int .i64 0, .bool false, .string ⟨#[]⟩, .slice none 0 0]) :=
  ⟨fun W hb hB => ⟨below_put4 hb HZ.out.2.1, put4_blk hB⟩⟩
 (with_reducible refine (HRD.out W2 HB.out).mono ?_)
 rintro o W3 ⟨v, rfl, hR, hb⟩
 obtain ⟨A2, c2, hv⟩ := Kd.R_slice hR
 subst hv
 have HR := Aside0.mk hR
 have HB3 := Aside0.mk (below_step HB.out hb)
 have B03 := Aside0.mk (B0.out.below hb)
 have B13 := Aside0.mk (B1.out.below hb)
 clear hR hb HB B0 B1 HRD
 obtain ⟨cd, hcd⟩ : ∃ cd, cd = rp.2 := ⟨_, rfl⟩
 rw [← hcd] at HAR HRES ⊢
 have x0 := B13.out.frozen 0
 have x1 := B13.out.frozen 1
 have x2 := B13.out.frozen 2
 have x3 := B13.out.frozen 3
 obtain ⟨y0, y1, y2, y3⟩ := cells4 B13.out
 clear hcd
 by_cases hz : cd = 0
 ·subst hz
  have HARL := Aside0.mk (HAR.out rfl)
  have HRT : Aside0 (res = getN rp.1 (k, e, t, l)) := ⟨by have := HRES.out; rw [if_neg (fun h => h rfl)] at this; exact this⟩
  obtain ⟨ns, hns⟩ : ∃ ns, ns = rp.1 := ⟨_, rfl⟩
  rw [← hns] at HR HRT ⊢
  have hrr := Kd.R_reads' HR.out
  have HNS := Aside0.mk hrr.2.2
  have hnl : ns.length ≤ 9223372036854775807 := hrr.2.2.2.1
  have HBK := Aside0.mk (Kd.R_bound HR.out)
  have HF : Aside0 (Kd.F Kd.string W3 (fun b => b ≠ b0) A2 ns.length ns) := ⟨Kd.F_mono (Kd.R_F (Kd.R_types HR.out B03.out (fun q hq => by
   rcases List.mem_cons.1 hq with h | h
   ·rw [h]; decide
   ·cases h))) (fun b hb => hb.2)⟩
  clear hns HAR HRES hrr x0 x1 x2 x3 y0 y1 y2 y3
  go_wp2_with fail
  go_loopw [24] (fun v24 wr => ∃ (j : Nat) (k' : Int) (e' : Bool) (t' : ByteArray) (l' : List Ent) (A' : Option Addr) (c' : Nat), j ≤ ns.length ∧ v24 = .int .i64 j ∧ l'.length ≤ c' ∧ Aside0 (Blk wr b0 32 [.int .i64 k', .bool e', .string t', .slice A' l'.length c']) ∧ Aside0 (Blk wr b1 32 [.int .i64 0, .bool false, .string ⟨#[]⟩, .slice none 0 0]) ∧ Aside0 (Kd.C kE w A' l'.length l') ∧ Aside0 (AllR l' ∧ Fit l') ∧ Aside0 (res = getN (ns.drop j) (k', e', t', l')) ∧ Aside0 (Upd (fun b => b = b0) W3 wr)) (fun v _ => ns.length - (intOf v).toNat)
  case atStart => exact ⟨0, k, e, t, l, A, c, Nat.zero_le _, rfl, HC.out.2.1, B03, B13, ⟨HC.out.1⟩, ⟨HARL.out, HC.out.2.2⟩, ⟨HRT.out⟩, ⟨Upd.refl _ _⟩⟩
  case round =>
   clear B03 B13 HARL HRT HC
   obtain ⟨j, k, e, t, l, A, c, hj, rfl, hlc, B0, B1, HC, HAF, HG, HU⟩ := hrel
   have HB : Aside0 (Below w.heap.size w wr) := ⟨HB3.out.trans (HU.out.toBelow (fun b hb => by rw [hb]; exact HZ.out.1) HB3.out.size)⟩
   obtain ⟨u0, u1, u2, u3⟩ := cells4 B0.out
   have x0 := B1.out.frozen 0
   have x1 := B1.out.frozen 1
   have x2 := B1.out.frozen 2
   have x3 := B1.out.frozen 3
   obtain ⟨y0, y1, y2, y3⟩ := cells4 B1.out
   by_cases hlt : j < ns.length
   ·have hCn : Kd.C Kd.string wr A2 ns.length ns := Kd.F_now (Kd.F_step HF.out (fun b hb hlt => HU.out.block b hlt (fun e => hb e)))
    obtain ⟨ad, hA, hc0⟩ := names_drop hCn j hlt
    subst hA
    obtain ⟨s, hs⟩ : ∃ s, s = ns[j]'hlt := ⟨_, rfl⟩
    rw [← hs] at hc0
    have HD : Aside0 (ns.drop j = s :: ns.drop (j + 1)) := ⟨by rw [List.drop_eq_getElem_cons hlt, hs]⟩
    clear hCn hs
    have p0 : (0 : Int) ≤ (j : Int) := by omega
    have p1 : (j : Int) < (ns.length : Int) := by omega
    by_cases hk : k = 3
    ·subst hk
     have k1 : ((3 : Int) != 3) = false := rfl
     obtain ⟨hb, hhb⟩ : ∃ hb, hb = hasN l s := ⟨_, rfl⟩
     obtain ⟨i, hi⟩ : ∃ i, i = rk l s := ⟨_, rfl⟩
     have HFD : Aside0 (Calls Tryd.prog 38 #[.slice A l.length c, .string s] wr fun e w' => e = .returned (.tuple #[.int .i64 i, .bool hb]) ∧ Below wr.heap.size wr w') := ⟨by rw [hi, hhb]; exact find_calls l s HAF.out.1.rises.1 A c wr (Kd.C_below HC.out HB.out) hlc (by have := HAF.out.1.rises.2; omega)⟩
     have HHB := Aside0.mk (And.intro hhb hi)
     clear hhb hi
     go_wp2_with fail
     (with_reducible refine HFD.out.mono ?_)
     rintro o W5 ⟨rfl, hb5⟩
     have B05 := Aside0.mk (B0.out.below hb5)
     have B15 := Aside0.mk (B1.out.below hb5)
     have HU5 := Aside0.mk (HU.out.step hb5)
     have HB5 := Aside0.mk (below_step HB.out hb5)
     clear hb5 B0 B1 HU HB HFD hc0 x0 x1 x2 x3 y0 y1 y2 y3 u0 u1 u2 u3
     have x0 := B15.out.frozen 0
     have x1 := B15.out.frozen 1
     have x2 := B15.out.frozen 2
     have x3 := B15.out.frozen 3
     obtain ⟨y0, y1, y2, y3⟩ := cells4 B15.out
     cases hb with
     | false =>
      have HRU : Aside0 (res = (zeroT, 3)) := ⟨by rw [HG.out, HD.out, getN, if_neg (fun h => h rfl)]; show (match (if hasN l s = true then l[rk l s]? else none) with | none => (zeroT, (3 : Int)) | some x => getN (ns.drop (j + 1)) (nodeOf x)) = _; rw [← HHB.out.1]; rfl⟩
      go_wp2_with fail
      have hF := HFIN.out W5 HB5.out B15.out
      obtain ⟨z0, z1, z2, z3⟩ := cells4 hF.2
      rw [HRU.out]
      exact bodyPost_ret (v := .tuple #[.agg #[.int .i64 0, .bool false, .string ⟨#[]⟩, .slice none 0 0], .int .i64 3]) (by simp [results, Tryd.results16, go_sem, z0, z1, z2, z3]) rfl ⟨⟨_, rfl, Own.nil _ _ _⟩, hF.1⟩
     | true =>
      obtain ⟨x, hx, _⟩ := hasN_at HHB.out.1.symm
      rw [← HHB.out.2] at hx
      have hil := (List.getElem?_eq_some_iff.1 hx).1
      have HRU : Aside0 (res = getN (ns.drop (j + 1)) (x.f1, x.f2, x.f3, x.f4)) := ⟨by rw [HG.out, HD.out, getN, if_neg (fun h => h rfl)]; show (match (if hasN l s = true then l[rk l s]? else none) with | none => (zeroT, (3 : Int)) | some x => getN (ns.drop (j + 1)) (nodeOf x)) = _; rw [← HHB.out.1, ← HHB.out.2, if_pos rfl, hx]; rfl⟩
      have HAX : Aside0 (AllR x.f4 ∧ Fit x.f4) := ⟨HAF.out.1.at hx, HAF.out.2.at_ (List.mem_of_getElem? hx)⟩
      have hxe : x = rd_T63 l (i : Int) := by
       have := List.getElem?_eq_some_iff.1 hx
       simp [rd_T63, hil, this.2.symm]
      obtain ⟨ad2, A4, c4, hA, e0, e1, e2, e3, e4, hl4, hC4⟩ := at_T63 HC.out (i : Int) (by omega) (by omega)
      rw [← hxe] at e0 e1 e2 e3 e4 hl4 hC4
      subst hA
      simp only [Int.toNat_natCast] at e0 e1 e2 e3 e4
      have HC4 := Aside0.mk hC4
      replace e0 := pw_cell_below HB5.out e0
      replace e1 := pw_cell_below HB5.out e1
      replace e2 := pw_cell_below HB5.out e2
      replace e3 := pw_cell_below HB5.out e3
      replace e4 := pw_cell_below HB5.out e4
      have q0 : (0 : Int) ≤ (i : Int) := by omega
      have q1 : (i : Int) < (l.length : Int) := by omega
      obtain ⟨u0, u1, u2, u3⟩ := cells4 B05.out
      have v0 := B05.out.frozen 0
      have v1 := B05.out.frozen 1
      have v2 := B05.out.frozen 2
      have v3 := B05.out.frozen 3
      clear hC4 hxe hx
      go_wp2_with fail
      go_roundw
      case rel =>
       refine ⟨j + 1, x.f1, x.f2, x.f3, x.f4, A4, c4, by omega, by go_num, hl4, ⟨put4_blk B05.out⟩, ⟨?_⟩, HC4, HAX, HRU, ⟨?_⟩⟩
       ·have hne : b1 ≠ b0 := fun e => HZ.out.2.2 e.symm
        exact (Below.heap_setCell _ _ _ _ hne).trans ((Below.heap_setCell _ _ _ _ hne).trans ((Below.heap_setCell _ _ _ _ hne).trans ((Below.heap_setCell _ _ _ _ hne).trans B15.out)))
       ·exact ((((HU5.out.trans (Upd.setCell (S := fun k => k = b0) (p := ⟨b0, 0, none⟩) (.inl rfl) _) (fun k hk => .inl hk)).trans (Upd.setCell (S := fun k => k = b0) (p := ⟨b0, 1, none⟩) (.inl rfl) _) (fun k hk => .inl hk)).trans (Upd.setCell (S := fun k => k = b0) (p := ⟨b0, 2, none⟩) (.inl rfl) _) (fun k hk => .inl hk)).trans (Upd.setCell (S := fun k => k = b0) (p := ⟨b0, 3, none⟩) (.inl rfl) _) (fun k hk => .inl hk))
      case measure => simp [intOf]; omega
    ·have k1 : (k != 3) = true := bne_iff_ne.mpr hk
     have HRU : Aside0 (res = (zeroT, 65)) := ⟨by rw [HG.out, HD.out, getN, if_pos hk]⟩
     clear hk
     go_wp2_with fail
     have hF := HFIN.out wr HB.out B1.out
     obtain ⟨z0, z1, z2, z3⟩ := cells4 hF.2
     rw [HRU.out]
     exact bodyPost_ret (v := .tuple #[.agg #[.int .i64 0, .bool false, .string ⟨#[]⟩, .slice none 0 0], .int .i64 65]) (by simp [results, Tryd.results16, go_sem, z0, z1, z2, z3]) rfl ⟨⟨_, rfl, Own.nil _ _ _⟩, hF.1⟩
   ·obtain rfl : j = ns.length := by omega
    have HRU : Aside0 (res = ((k, e, t, l), 0)) := ⟨by rw [HG.out, List.drop_length]; rfl⟩
    go_wp2_with fail
    (with_reducible refine (copyO_calls l HAF.out.2 k e t A c wr (Kd.C_below HC.out HB.out) hlc).mono ?_)
    rintro o W4 ⟨v, rfl, hO, hb⟩
    obtain ⟨A4, c4, hv, _⟩ := hO.slice
    subst hv
    have HO := Aside0.mk hO
    have HB4 := Aside0.mk (below_step HB.out hb)
    have HS := Aside0.mk HB.out.size
    have B14 := Aside0.mk (B1.out.below hb)
    clear hO hb B0 B1 HC HU HB x0 x1 x2 x3 y0 y1 y2 y3 u0 u1 u2 u3
    have x0 := B14.out.frozen 0
    have x1 := B14.out.frozen 1
    have x2 := B14.out.frozen 2
    have x3 := B14.out.frozen 3
    obtain ⟨y0, y1, y2, y3⟩ := cells4 B14.out
    go_wp2_with fail
    have hF : Below w.heap.size w ((((W4.setCell ⟨b1, 0, none⟩ (.int .i64 k)).setCell ⟨b1, 1, none⟩ (.bool e)).setCell ⟨b1, 2, none⟩ (.string t)).setCell ⟨b1, 3, none⟩ (.slice A4 l.length c4)) := below_put4 HB4.out HZ.out.2.1
    have hG := put4_blk (c0 := .int .i64 k) (c1 := .bool e) (c2 := .string t) (c3 := .slice A4 l.length c4) B14.out
    have hH := put4_own (c0 := .int .i64 k) (c1 := .bool e) (c2 := .string t) (c3 := .slice A4 l.length c4) HO.out B14.out
    obtain ⟨z0, z1, z2, z3⟩ := cells4 hG
    rw [HRU.out]
    exact bodyPost_ret (v := .tuple #[.agg #[.int .i64 k, .bool e, .string t, .slice A4 l.length c4], .int .i64 0]) (by simp [results, Tryd.results16, go_sem, z0, z1, z2, z3]) rfl ⟨⟨_, rfl, hH.above HS.out⟩, hF⟩
 ·have HRT : Aside0 (res = (zeroT, cd)) := ⟨by have := HRES.out; rw [if_pos hz] at this; exact this⟩
  have hz1 : (cd != 0) = true := bne_iff_ne.mpr hz
  clear hz
  go_wp2_with fail
  have hF := HFIN.out W3 HB3.out B13.out
  obtain ⟨z0, z1, z2, z3⟩ := cells4 hF.2
  rw [HRT.out]
  exact bodyPost_ret (v := .tuple #[.agg #[.int .i64 0, .bool false, .string ⟨#[]⟩, .slice none 0 0], .int .i64 cd]) (by simp [results, Tryd.results16, go_sem, z0, z1, z2, z3]) rfl ⟨⟨_, rfl, Own.nil _ _ _⟩, hF.1⟩
end Go.Proofs.YtnemeeidomceiaaDoor
end
section
namespace Go.Proofs.YtnemeeidomceiaaDoor
open Go.RowKit Go.Proofs.YtnemeeidomceiaaDoorW.PrintWords Go.Proofs.YtnemeeidomceiaaDoorW.PrintLast Go.Proofs.YtnemeeidomceiaaDoorW.PrintMore
set_option linter.unusedVariables false
set_option linter.unusedSimpArgs false
def EqPost (p : Prop) (w : World) (o : Ending) (w' : World) : Prop := ∃ b : Bool, o = .returned (.bool b) ∧ (b = true ↔ p) ∧ Below w.heap.size w w'
theorem toList_eq {a b : ByteArray} : a.toList = b.toList ↔ a = b := by
 rw [Lib.toList_data, Lib.toList_data]
 exact ⟨fun h => by cases a; cases b; congr; exact Array.toList_inj.1 h, fun h => by rw [h]⟩
theorem drop_at {l : List Ent} {j : Nat} (h : j < l.length) : l.drop j = rd_T63 l (j : Int) :: l.drop (j + 1) := by
 rw [List.drop_eq_getElem_cons h]
 simp [rd_T63, h]
set_option maxHeartbeats 4000000 in
set_option maxRecDepth 100000 in
theorem refEq_calls (la : List Ent) (hf : Fit la) : ∀ (ka : Int) (ea : Bool) (ta : ByteArray) (Aa : Option Addr) (ca : Nat) (kb : Int) (eb : Bool) (tb : ByteArray) (lb : List Ent) (Ab : Option Addr) (cb : Nat) (w : World), Kd.C kE w Aa la.length la → la.length ≤ ca → Kd.C kE w Ab lb.length lb → lb.length ≤ cb →
  Calls Tryd.prog 13 #[.agg #[.int .i64 ka, .bool ea, .string ta, .slice Aa la.length ca], .agg #[.int .i64 kb, .bool eb, .string tb, .slice Ab lb.length cb]] w (EqPost ((ka, ea, ta, la) = (kb, eb, tb, lb)) w) := by
 induction hf with
 | @mk la hn _ ih =>
 intro ka ea ta Aa ca kb eb tb lb Ab cb w hCa hca hCb hcb
 have HC := Aside0.mk (And.intro hCa (And.intro hca (And.intro hCb hcb)))
 have IH := Aside0.mk ih
 obtain ⟨n, hnl⟩ : ∃ n, n = la.length := ⟨_, rfl⟩
 obtain ⟨m, hml⟩ : ∃ m, m = lb.length := ⟨_, rfl⟩
 have HN := Aside0.mk (And.intro hnl hml)
 have hnb : n ≤ 4611686018427387903 := by omega
 rw [← hnl, ← hml]
 obtain ⟨p, hp⟩ : ∃ p : Prop, p = ((ka, ea, ta, la) = (kb, eb, tb, lb)) := ⟨_, rfl⟩
 rw [← hp]
 have HP := Aside0.mk hp
 have hbw : ∀ a b, Below w.heap.size w ((w.alloc a).alloc b) := fun a b => below_alloc (below_alloc (Below.refl _ _) _) _
 have HBW := Aside0.mk hbw
 clear hCa hca hCb hcb ih hnl hml hp hbw
 by_cases c1 : ka = kb
 case neg =>
  have d1 : (ka != kb) = true := bne_iff_ne.mpr c1
  have HQ : Aside0 ¬ p := ⟨by rw [HP.out]; exact fun h => c1 (congrArg (·.1) h)⟩
  clear c1
  go_enter Tryd.func13, Tryd.ntmps13
  go_wp2
  go_ret
  exact ⟨false, rfl, ⟨fun h => (by cases h), fun h => absurd h HQ.out⟩, HBW.out _ _⟩
 have d1 : (ka != kb) = false := bne_eq_false_iff_eq.mpr c1
 by_cases c2 : ea = eb
 case neg =>
  have HQ : Aside0 ¬ p := ⟨by rw [HP.out]; exact fun h => c2 (congrArg (·.2.1) h)⟩
  clear c1
  cases ea <;> cases eb <;> first | exact absurd rfl c2 | clear c2
  all_goals
   go_enter Tryd.func13, Tryd.ntmps13
   go_wp2
   go_ret
   exact ⟨false, rfl, ⟨fun h => (by cases h), fun h => absurd h HQ.out⟩, HBW.out _ _⟩
 subst c2
 have d2 : (ea != ea) = false := bne_eq_false_iff_eq.mpr rfl
 by_cases c3 : ta.toList = tb.toList
 case neg =>
  have d3 : (ta.toList != tb.toList) = true := bne_iff_ne.mpr c3
  have d3b : (ta.toList == tb.toList) = false := beq_eq_false_iff_ne.mpr c3
  have HQ : Aside0 ¬ p := ⟨by rw [HP.out]; exact fun h => c3 (congrArg (fun q => q.2.2.1.toList) h)⟩
  clear c1 c3
  go_enter Tryd.func13, Tryd.ntmps13
  go_wp2
  go_ret
  exact ⟨false, rfl, ⟨fun h => (by cases h), fun h => absurd h HQ.out⟩, HBW.out _ _⟩
 have d3 : (ta.toList != tb.toList) = false := bne_eq_false_iff_eq.mpr c3
 have d3b : (ta.toList == tb.toList) = true := beq_iff_eq.mpr c3
 by_cases c4 : n = m
 case neg =>
  have d4 : ((n : Int) != (m : Int)) = true := bne_iff_ne.mpr (by omega)
  have d5 : (n != m) = true := bne_iff_ne.mpr c4
  have HQ : Aside0 ¬ p := ⟨by rw [HP.out]; exact fun h => c4 (by rw [HN.out.1, HN.out.2]; exact congrArg (fun q => q.2.2.2.length) h)⟩
  clear c1 c3 c4
  go_enter Tryd.func13, Tryd.ntmps13
  go_wp2
  go_ret
  exact ⟨false, rfl, ⟨fun h => (by cases h), fun h => absurd h HQ.out⟩, HBW.out _ _⟩
 subst c4
 have d4 : ((n : Int) != (n : Int)) = false := bne_eq_false_iff_eq.mpr rfl
 have HPE : Aside0 (p ↔ la.drop 0 = lb.drop 0) := ⟨by rw [HP.out, c1, toList_eq.1 c3]; simp⟩
 clear c1 c3
 go_enter Tryd.func13, Tryd.ntmps13
 go_wp2
 obtain ⟨W2, hW2⟩ : ∃ W2, W2 = (w.alloc (.cells #[.int .i64 ka, .bool ea, .string ta, .slice Aa n ca] 32)).alloc (.cells #[.int .i64 kb, .bool ea, .string tb, .slice Ab n cb] 32) := ⟨_, rfl⟩
 rw [← hW2]
 obtain ⟨b0, hb0⟩ : ∃ b, b = w.heap.size := ⟨_, rfl⟩
 obtain ⟨b1, hb1⟩ : ∃ b, b = w.heap.size + 1 := ⟨_, rfl⟩
 rw [← hb1, ← hb0]
 have B0 : Aside0 (Blk W2 b0 32 [.int .i64 ka, .bool ea, .string ta, .slice Aa n ca]) := ⟨by rw [hW2, hb0]; exact (Blk.new w _ [.int .i64 ka, .bool ea, .string ta, .slice Aa n ca]).alloc _⟩
 have B1 : Aside0 (Blk W2 b1 32 [.int .i64 kb, .bool ea, .string tb, .slice Ab n cb]) := ⟨by rw [hW2]; exact Blk.new' _ _ [.int .i64 kb, .bool ea, .string tb, .slice Ab n cb] (by rw [hb1]; simp)⟩
 have HB : Aside0 (Below w.heap.size w W2) := ⟨by rw [hW2]; exact HBW.out _ _⟩
 clear hW2 hb0 hb1 d1 d2 d3 d4
 go_loopw [5] (fun v wr => ∃ j : Nat, j ≤ n ∧ v = .int .i64 j ∧ Aside0 (p ↔ la.drop j = lb.drop j) ∧ Aside0 (Below W2.heap.size W2 wr)) (fun v _ => n - (intOf v).toNat)
 case atStart => exact ⟨0, Nat.zero_le _, rfl, HPE, ⟨Below.refl _ _⟩⟩
 case round =>
  clear HPE
  obtain ⟨j, hj, rfl, HPJ, HBR⟩ := hrel
  have B0r := Aside0.mk (B0.out.below HBR.out)
  have B1r := Aside0.mk (B1.out.below HBR.out)
  obtain ⟨_, _, _, u3⟩ := cells4 B0r.out
  obtain ⟨_, _, _, v3⟩ := cells4 B1r.out
  have HBW2 := Aside0.mk (HB.out.trans (HBR.out.mono HB.out.size))
  by_cases hlt : j < n
  ·have p0 : (0 : Int) ≤ (j : Int) := by omega
   have p1 : (j : Int) < (n : Int) := by omega
   have hda := drop_at (l := la) (j := j) (by rw [← HN.out.1]; exact hlt)
   have hdb := drop_at (l := lb) (j := j) (by rw [← HN.out.2]; exact hlt)
   obtain ⟨ad, A4, c4, hA, e0, e1, e2, e3, e4, hl4, hC4⟩ := at_T63 HC.out.1 (j : Int) (by omega) (by rw [← HN.out.1]; omega)
   obtain ⟨bd, A5, c5, hB, f0, f1, f2, f3, f4, hl5, hC5⟩ := at_T63 HC.out.2.2.1 (j : Int) (by omega) (by rw [← HN.out.2]; omega)
   have h2 : j < la.length := by rw [← HN.out.1]; exact hlt
   have hxm : rd_T63 la (j : Int) ∈ la := by simp [rd_T63, h2]
   clear h2
   generalize rd_T63 la (j : Int) = x at *
   generalize rd_T63 lb (j : Int) = y at *
   subst hA hB
   simp only [Int.toNat_natCast] at e0 e1 e2 e3 e4 f0 f1 f2 f3 f4
   have HX := Aside0.mk (And.intro hda (And.intro hdb hxm))
   have HC4 := Aside0.mk (And.intro hC4 (And.intro hl4 (And.intro hC5 hl5)))
   have E := Aside0.mk (And.intro e1 (And.intro e2 (And.intro e3 (And.intro e4 (And.intro f1 (And.intro f2 (And.intro f3 f4)))))))
   replace e0 := pw_cell_below HBW2.out e0
   replace f0 := pw_cell_below HBW2.out f0
   clear hda hdb hxm hC4 hl4 hC5 hl5 e1 e2 e3 e4 f1 f2 f3 f4
   by_cases c5 : x.f0.toList = y.f0.toList
   ·have d5 : (x.f0.toList != y.f0.toList) = false := bne_eq_false_iff_eq.mpr c5
    have d5b : (x.f0.toList == y.f0.toList) = true := beq_iff_eq.mpr c5
    have HC5 := Aside0.mk c5
    clear c5
    go_wp2_with fail
    go_quiet (fail)
    go_wp2_with fail
    have hb3 : Below wr.heap.size wr (wr.drewN nq) := pw_below_drewN (Below.refl _ _) _
    generalize wr.drewN nq = W3 at *
    have hbw3 := below_step HBW2.out hb3
    obtain ⟨a1, a2, a3, a4, a5, a6, a7, a8⟩ := E.out
    replace a1 := pw_cell_below hbw3 a1
    replace a2 := pw_cell_below hbw3 a2
    replace a3 := pw_cell_below hbw3 a3
    replace a4 := pw_cell_below hbw3 a4
    replace a5 := pw_cell_below hbw3 a5
    replace a6 := pw_cell_below hbw3 a6
    replace a7 := pw_cell_below hbw3 a7
    replace a8 := pw_cell_below hbw3 a8
    have B03 := Aside0.mk (B0r.out.below hb3)
    have B13 := Aside0.mk (B1r.out.below hb3)
    refine start_ (n := 14) (S := fun w' => w'.cell? ⟨b0, 3, none⟩ = some (.slice (some ad) n ca) ∧ w'.cell? ⟨b1, 3, none⟩ = some (.slice (some bd) n cb) ∧ w'.cell? ⟨(ad.add (j * 5)).block, (ad.add (j * 5)).off + 1, none⟩ = some (.int .i64 x.f1) ∧ w'.cell? ⟨(ad.add (j * 5)).block, (ad.add (j * 5)).off + 2, none⟩ = some (.bool x.f2) ∧ w'.cell? ⟨(ad.add (j * 5)).block, (ad.add (j * 5)).off + 3, none⟩ = some (.string x.f3) ∧ w'.cell? ⟨(ad.add (j * 5)).block, (ad.add (j * 5)).off + 4, none⟩ = some (.slice A4 x.f4.length c4) ∧ w'.cell? ⟨(bd.add (j * 5)).block, (bd.add (j * 5)).off + 1, none⟩ = some (.int .i64 y.f1) ∧ w'.cell? ⟨(bd.add (j * 5)).block, (bd.add (j * 5)).off + 2, none⟩ = some (.bool y.f2) ∧ w'.cell? ⟨(bd.add (j * 5)).block, (bd.add (j * 5)).off + 3, none⟩ = some (.string y.f3) ∧ w'.cell? ⟨(bd.add (j * 5)).block, (bd.add (j * 5)).off + 4, none⟩ = some (.slice A5 y.f4.length c5)) (ds := []) #[false, false, false, false, false, false, false, false, false, false, false, false, false, false] (by kernel_rfl) rfl rfl (⟨B03.out.cell 3 _ rfl, B13.out.cell 3 _ rfl, a1, a2, a3, a4, a5, a6, a7, a8⟩) (fun hHeld => ?_)
    have hdr : Below W3.heap.size W3 W3.drew := below_drew (Below.refl _ _)
    generalize W3.drew = W4 at *
    refine pure_ (i := 0) (N := some 55) (v := ?_) (a' := ?_) #[true, false, false, false, false, false, false, false, false, false, false, false, false, false] rfl rfl (by kernel_rfl) (fun _ _ _ h => h) (Or.inl ⟨by rfl, ?_⟩) ?_ ?_
    rotate_left
    ·intro w'
     go_simp
     with_reducible rfl
    rotate_left
    ·simp only [Act.put, List.setIfInBounds_toArray, List.set_cons_zero, List.set_cons_succ, i64_w, i32_w]
     rfl
    refine take_ (i := 1) (N := some 56) (v := ?_) (a' := ?_) #[true, true, false, false, false, false, false, false, false, false, false, false, false, false] rfl rfl (by kernel_rfl) (fun _ _ _ h => h) (Or.inl ⟨by rfl, ?_⟩) hHeld ?_ ?_
    rotate_left
    ·rintro w' ⟨s0, s1, s2, s3, s4, s5, s6, s7, s8, s9⟩
     go_simp
     with_reducible rfl
    rotate_left
    ·simp only [Act.put, List.setIfInBounds_toArray, List.set_cons_zero, List.set_cons_succ, i64_w, i32_w]
     rfl
    refine pure_ (i := 2) (N := some 57) (v := ?_) (a' := ?_) #[true, true, true, false, false, false, false, false, false, false, false, false, false, false] rfl rfl (by kernel_rfl) (fun _ _ _ h => h) (Or.inl ⟨by rfl, ?_⟩) ?_ ?_
    rotate_left
    ·intro w'
     go_simp
     with_reducible rfl
    rotate_left
    ·simp only [Act.put, List.setIfInBounds_toArray, List.set_cons_zero, List.set_cons_succ, i64_w, i32_w]
     rfl
    refine pure_ (i := 3) (N := some 58) (v := ?_) (a' := ?_) #[true, true, true, true, false, false, false, false, false, false, false, false, false, false] rfl rfl (by kernel_rfl) (fun _ _ _ h => h) (Or.inl ⟨by rfl, ?_⟩) ?_ ?_
    rotate_left
    ·intro w'
     go_simp
     with_reducible rfl
    rotate_left
    ·simp only [Act.put, List.setIfInBounds_toArray, List.set_cons_zero, List.set_cons_succ, i64_w, i32_w]
     rfl
    refine pure_ (i := 4) (N := some 59) (v := ?_) (a' := ?_) #[true, true, true, true, true, false, false, false, false, false, false, false, false, false] rfl rfl (by kernel_rfl) (fun _ _ _ h => h) (Or.inl ⟨by rfl, ?_⟩) ?_ ?_
    rotate_left
    ·intro w'
     go_simp
     with_reducible rfl
    rotate_left
    ·simp only [Act.put, List.setIfInBounds_toArray, List.set_cons_zero, List.set_cons_succ, i64_w, i32_w]
     rfl
    refine take_ (i := 5) (N := some 60) (v := ?_) (a' := ?_) #[true, true, true, true, true, true, false, false, false, false, false, false, false, false] rfl rfl (by kernel_rfl) (fun _ _ _ h => h) (Or.inl ⟨by rfl, ?_⟩) hHeld ?_ ?_
    rotate_left
    ·rintro w' ⟨s0, s1, s2, s3, s4, s5, s6, s7, s8, s9⟩
     go_simp
     with_reducible rfl
    rotate_left
    ·simp only [Act.put, List.setIfInBounds_toArray, List.set_cons_zero, List.set_cons_succ, i64_w, i32_w]
     rfl
    refine pure_ (i := 6) (N := some 61) (v := ?_) (a' := ?_) #[true, true, true, true, true, true, true, false, false, false, false, false, false, false] rfl rfl (by kernel_rfl) (fun _ _ _ h => h) (Or.inl ⟨by rfl, ?_⟩) ?_ ?_
    rotate_left
    ·intro w'
     go_simp
     with_reducible rfl
    rotate_left
    ·simp only [Act.put, List.setIfInBounds_toArray, List.set_cons_zero, List.set_cons_succ, i64_w, i32_w]
     rfl
    refine take_ (i := 7) (N := some 62) (v := ?_) (a' := ?_) #[true, true, true, true, true, true, true, true, false, false, false, false, false, false] rfl rfl (by kernel_rfl) (fun _ _ _ h => h) (Or.inl ⟨by rfl, ?_⟩) hHeld ?_ ?_
    rotate_left
    ·rintro w' ⟨s0, s1, s2, s3, s4, s5, s6, s7, s8, s9⟩
     go_simp
     with_reducible rfl
    rotate_left
    ·simp only [Act.put, List.setIfInBounds_toArray, List.set_cons_zero, List.set_cons_succ, i64_w, i32_w]
     rfl
    refine pure_ (i := 8) (N := some 63) (v := ?_) (a' := ?_) #[true, true, true, true, true, true, true, true, true, false, false, false, false, false] rfl rfl (by kernel_rfl) (fun _ _ _ h => h) (Or.inl ⟨by rfl, ?_⟩) ?_ ?_
    rotate_left
    ·intro w'
     go_simp
     with_reducible rfl
    rotate_left
    ·simp only [Act.put, List.setIfInBounds_toArray, List.set_cons_zero, List.set_cons_succ, i64_w, i32_w]
     rfl
    refine pure_ (i := 9) (N := some 64) (v := ?_) (a' := ?_) #[true, true, true, true, true, true, true, true, true, true, false, false, false, false] rfl rfl (by kernel_rfl) (fun _ _ _ h => h) (Or.inl ⟨by rfl, ?_⟩) ?_ ?_
    rotate_left
    ·intro w'
     go_simp
     with_reducible rfl
    rotate_left
    ·simp only [Act.put, List.setIfInBounds_toArray, List.set_cons_zero, List.set_cons_succ, i64_w, i32_w]
     rfl
    refine pure_ (i := 10) (N := some 65) (v := ?_) (a' := ?_) #[true, true, true, true, true, true, true, true, true, true, true, false, false, false] rfl rfl (by kernel_rfl) (fun _ _ _ h => h) (Or.inl ⟨by rfl, ?_⟩) ?_ ?_
    rotate_left
    ·intro w'
     go_simp
     with_reducible rfl
    rotate_left
    ·simp only [Act.put, List.setIfInBounds_toArray, List.set_cons_zero, List.set_cons_succ, i64_w, i32_w]
     rfl
    refine take_ (i := 11) (N := some 66) (v := ?_) (a' := ?_) #[true, true, true, true, true, true, true, true, true, true, true, true, false, false] rfl rfl (by kernel_rfl) (fun _ _ _ h => h) (Or.inl ⟨by rfl, ?_⟩) hHeld ?_ ?_
    rotate_left
    ·rintro w' ⟨s0, s1, s2, s3, s4, s5, s6, s7, s8, s9⟩
     go_simp
     with_reducible rfl
    rotate_left
    ·simp only [Act.put, List.setIfInBounds_toArray, List.set_cons_zero, List.set_cons_succ, i64_w, i32_w]
     rfl
    refine one_ (i := 12) (N := some 67) #[true, true, true, true, true, true, true, true, true, true, true, true, true, false] rfl rfl (by kernel_rfl) (by decide) (fun K hK => ?_)
    have hb4 := below_step hbw3 hdr
    refine goes_ Tryd.func13 (by kernel_rfl) rfl #[.agg #[.int .i64 x.f1, .bool x.f2, .string x.f3, .slice A4 x.f4.length c4], .agg #[.int .i64 y.f1, .bool y.f2, .string y.f3, .slice A5 y.f4.length c5]] (by rfl) rfl rfl (by (try simp only [List.map_toArray, List.map_cons, List.map_nil]); first | done | rfl) ?_
    refine (IH.out x HX.out.2.2 x.f1 x.f2 x.f3 A4 c4 y.f1 y.f2 y.f3 y.f4 A5 c5 W4 (Kd.C_below HC4.out.1 hb4) HC4.out.2.1 (Kd.C_below HC4.out.2.2.1 hb4) HC4.out.2.2.2).mono ?_
    rintro o W5 ⟨bq, rfl, hbq, hb5⟩
    have hb35 := below_step hdr hb5
    have HB5 := Aside0.mk (below_step (below_step HBR.out hb3) hb35)
    have HW5 := Aside0.mk (below_step hbw3 hb35)
    have hHeld5 : W5.cell? ⟨b0, 3, none⟩ = some (.slice (some ad) n ca) ∧ W5.cell? ⟨b1, 3, none⟩ = some (.slice (some bd) n cb) := ⟨(B03.out.below hb35).cell 3 _ rfl, (B13.out.below hb35).cell 3 _ rfl⟩
    refine ⟨_, rfl, ?_⟩
    refine hK.out _ _ ⟨hHeld5.1, hHeld5.2, pw_cell_below hb35 a1, pw_cell_below hb35 a2, pw_cell_below hb35 a3, pw_cell_below hb35 a4, pw_cell_below hb35 a5, pw_cell_below hb35 a6, pw_cell_below hb35 a7, pw_cell_below hb35 a8⟩ (fun _ => ?_)
    clear hK K
    refine pure_ (i := 13) (N := some 6) (v := ?_) (a' := ?_) #[true, true, true, true, true, true, true, true, true, true, true, true, true, true] rfl rfl (by kernel_rfl) (fun _ _ _ h => h) (Or.inl ⟨by rfl, ?_⟩) ?_ ?_
    rotate_left
    ·intro w'
     go_simp
     with_reducible rfl
    rotate_left
    ·simp only [Act.put, List.setIfInBounds_toArray, List.set_cons_zero, List.set_cons_succ, i64_w, i32_w]
     rfl
    refine done_ (by kernel_rfl) ?_
    have HQ := Aside0.mk hbq
    clear hbq hb5 hb35 hb4 hdr hbw3 hb3 a1 a2 a3 a4 a5 a6 a7 a8 hHeld5 hHeld B03 B13 e0 f0 u3 v3
    cases bq with
    | true =>
     have HPN : Aside0 (p ↔ la.drop (j + 1) = lb.drop (j + 1)) := ⟨by
      have hxy := HQ.out.1 rfl
      have hx0 := toList_eq.1 HC5.out
      have hxe : x = y := by
       cases x; cases y
       simp only [Prod.mk.injEq] at hxy hx0
       obtain ⟨h1, h2, h3, h4⟩ := hxy
       subst hx0 h1 h2 h3 h4
       rfl
      rw [HPJ.out, HX.out.1, HX.out.2.1, hxe]
      simp⟩
     go_wp2_with fail
     go_roundw
     case rel => exact ⟨j + 1, by omega, by go_num, HPN, HB5⟩
     case measure => simp [intOf]; omega
    | false =>
     have HQN : Aside0 ¬ p := ⟨by
      rw [HPJ.out, HX.out.1, HX.out.2.1]
      intro h
      injection h with h _
      have := HQ.out.2 (by rw [h])
      cases this⟩
     go_wp2_with fail
     go_ret
     exact ⟨false, rfl, ⟨fun h => (by cases h), fun h => absurd h HQN.out⟩, HW5.out⟩
   ·have d5 : (x.f0.toList != y.f0.toList) = true := bne_iff_ne.mpr c5
    have d5b : (x.f0.toList == y.f0.toList) = false := beq_eq_false_iff_ne.mpr c5
    have HQ : Aside0 ¬ p := ⟨by rw [HPJ.out, HX.out.1, HX.out.2.1]; intro h; injection h with h _; exact c5 (by rw [h])⟩
    clear c5
    go_wp2_with fail
    go_quiet (fail)
    go_wp2_with fail
    go_ret
    exact ⟨false, rfl, ⟨fun h => (by cases h), fun h => absurd h HQ.out⟩, below_step HBW2.out (pw_below_drewN (Below.refl _ _) _)⟩
  ·obtain rfl : j = n := by omega
   go_wp2_with fail
   go_ret
   exact ⟨true, rfl, ⟨fun _ => HPJ.out.2 (by rw [List.drop_of_length_le (Nat.le_of_eq HN.out.1.symm), List.drop_of_length_le (Nat.le_of_eq HN.out.2.symm)]), fun _ => rfl⟩, HBW2.out⟩
set_option maxHeartbeats 1000000 in
set_option maxRecDepth 100000 in
theorem leaf_calls (s : ByteArray) (w : World) : Calls Tryd.prog 26 #[.string s] w fun o w' => o = .returned (.agg #[.int .i64 1, .bool false, .string s, .slice none 0 0]) ∧ Below w.heap.size w w' := by
 go_enter Tryd.func26, Tryd.ntmps26
 go_wp2
 refine bodyPost_ret (v := .agg #[.int .i64 1, .bool false, .string s, .slice none 0 0]) (by simp [results, Tryd.results26, go_sem]) rfl ⟨rfl, below_alloc (Below.refl _ _) _⟩
def wakeL : List Ent := [⟨⟨#[97]⟩, 1, false, ⟨#[120]⟩, []⟩]
theorem wake_held : Held ⟨#[]⟩ wakeL := ⟨.of (fun x hx => by
 rw [wakeL, List.mem_singleton] at hx
 subst hx
 exact ⟨by decide, by decide, .of (by simp)⟩), by decide⟩
theorem lit_own (w : World) (x : Ent) (hx : x.f4 = []) : Own (w.alloc (.cells (ecells x (.slice none 0 0)).toArray eE)) w.heap.size (fun k => w.heap.size ≤ k) (.slice (some ⟨w.heap.size, 0, none⟩) 1 1) [x] := by
 refine .mk _ _ _ [⟨x, .slice none 0 0, fun _ => False⟩] rfl ?_ (fun k hk => ?_) (fun t ht => ?_) (fun t ht k hk => ?_) (List.pairwise_singleton _ _)
 ·exact ⟨rfl, .inr ⟨w.heap.size, 1, (ecells x (.slice none 0 0)).toArray, rfl, Nat.le_refl _, heap_alloc_new _ _, Nat.le_refl _, by unfold maxLen; omega, rfl, rfl⟩⟩
 ·simp [Value.ownBlock] at hk; omega
 ·rw [List.mem_singleton] at ht
  subst ht
  show Own _ _ _ (.slice none 0 0) x.f4
  rw [hx]
  exact Own.nil _ _ _
 ·rw [List.mem_singleton] at ht
  subst ht
  exact hk.elim
set_option maxHeartbeats 4000000 in
set_option maxRecDepth 100000 in
theorem awake_calls (w : World) : Calls Tryd.prog 10 #[] w fun o w' => o = .returned (.bool true) ∧ Below w.heap.size w w' := by
 have HS : Aside0 (∀ W A c, Kd.C kE W A 1 wakeL → 1 ≤ c → Calls Tryd.prog 27 #[.agg #[.int .i64 3, .bool false, .string ⟨#[]⟩, .slice A 1 c]] W fun e w' => e = .returned (.tuple #[.int .i64 288, .int .i64 0]) ∧ Below W.heap.size W w') := ⟨fun W A c hC hc => tree_Size.calls 3 false ⟨#[]⟩ A c wakeL 288 0 W hC hc (by unfold tree_Size.f; rw [if_pos wake_held, show lookL 3 false ⟨#[]⟩ wakeL = _ from awake_look]; rfl)⟩
 have HK : Aside0 (∀ W A c, Kd.C kE W A 1 wakeL → 1 ≤ c → Calls Tryd.prog 14 #[.agg #[.int .i64 3, .bool false, .string ⟨#[]⟩, .slice A 1 c]] W fun e w' => e = .returned (.tuple #[.string ⟨#[]⟩, .int .i64 0]) ∧ Below W.heap.size W w') := ⟨fun W A c hC hc => tree_Check.calls 3 false ⟨#[]⟩ A c wakeL ⟨#[]⟩ 0 W hC hc (by unfold tree_Check.f; rw [if_pos wake_held, show lookL 3 false ⟨#[]⟩ wakeL = _ from awake_look]; rfl)⟩
 have HW : Aside0 (∀ W A c, Kd.C kE W A 1 wakeL → 1 ≤ c → Calls Tryd.prog 15 #[.agg #[.int .i64 3, .bool false, .string ⟨#[]⟩, .slice A 1 c]] W fun e w' => ∃ v0_ : Value, e = .returned (.tuple #[v0_, .int .i64 0]) ∧ Kd.R k27 27 w' W.heap.size (fun _ => True) v0_ [⟨⟨#[]⟩, 3, false, ⟨#[]⟩⟩, ⟨⟨#[97]⟩, 1, false, ⟨#[120]⟩⟩] ∧ Below W.heap.size W w') := ⟨fun W A c hC hc => tree_Walk.calls 3 false ⟨#[]⟩ A c wakeL _ 0 W hC hc (by unfold tree_Walk.f; rw [if_pos wake_held, show lookL 3 false ⟨#[]⟩ wakeL = _ from awake_look]; rfl)⟩
 go_enter Tryd.func10, Tryd.ntmps10
 go_wp2_with fail
 (with_reducible refine (leaf_calls _ _).mono ?_)
 rintro o w1 ⟨rfl, hb1⟩
 go_wp2_with ((with_reducible refine gate_dst (N := 13) rfl ?_); refine Stand.go ?_)
 obtain ⟨Wa, hWa⟩ : ∃ Wa, Wa = w1.alloc (.cells #[.string ⟨#[97]⟩, .int .i64 1, .bool false, .string ⟨#[120]⟩, .slice none 0 0] eE) := ⟨_, rfl⟩
 have HO : Aside0 (Own Wa w1.heap.size (fun k => w1.heap.size ≤ k) (.slice (some ⟨w1.heap.size, 0, none⟩) 1 1) wakeL) := ⟨by rw [hWa]; exact lit_own w1 ⟨⟨#[97]⟩, 1, false, ⟨#[120]⟩, []⟩ rfl⟩
 rw [← hWa]
 obtain ⟨W2, hW2⟩ : ∃ W2, W2 = Wa.alloc (.cells #[.int .i64 3, .bool false, .string ⟨#[]⟩, .slice (some ⟨w1.heap.size, 0, none⟩) 1 1] 32) := ⟨_, rfl⟩
 obtain ⟨bn, hbn⟩ : ∃ b, b = Wa.heap.size := ⟨_, rfl⟩
 have hz : w1.heap.size + 1 = bn := by rw [hbn, hWa]; simp
 rw [hz]
 rw [← hW2]
 have BN : Aside0 (Blk W2 bn 32 [.int .i64 3, .bool false, .string ⟨#[]⟩, .slice (some ⟨w1.heap.size, 0, none⟩) 1 1]) := ⟨by rw [hW2]; exact Blk.new' _ _ [.int .i64 3, .bool false, .string ⟨#[]⟩, .slice (some ⟨w1.heap.size, 0, none⟩) 1 1] hbn⟩
 have HO2 : Aside0 (Own W2 w1.heap.size (fun k => w1.heap.size ≤ k) (.slice (some ⟨w1.heap.size, 0, none⟩) 1 1) wakeL) := ⟨by rw [hW2]; exact HO.out.newer (below_alloc (Below.refl _ _) _)⟩
 have HB2 : Aside0 (Below w.heap.size w W2) := ⟨by rw [hW2, hWa]; exact below_step hb1 (below_alloc (below_alloc (Below.refl _ _) _) _)⟩
 obtain ⟨b8, hb8⟩ : ∃ b, b = w1.heap.size := ⟨_, rfl⟩
 rw [← hb8] at BN HO2 ⊢
 unfold Stand
 clear hWa hW2 hbn hz hb8 hb1 HO
 obtain ⟨u0, u1, u2, u3⟩ := cells4 BN.out
 go_wp2_with fail
 (with_reducible refine (HS.out W2 _ _ HO2.out.toC.2.2 (Nat.le_refl _)).mono ?_)
 rintro o W3 ⟨rfl, hb⟩
 have BN3 := Aside0.mk (BN.out.below hb)
 have HO3 := Aside0.mk (HO2.out.newer hb)
 have HB3 := Aside0.mk (below_step HB2.out hb)
 clear hb BN HO2 HB2 HS u0 u1 u2 u3
 obtain ⟨u0, u1, u2, u3⟩ := cells4 BN3.out
 go_wp2_with fail
 (with_reducible refine (HK.out W3 _ _ HO3.out.toC.2.2 (Nat.le_refl _)).mono ?_)
 rintro o W4 ⟨rfl, hb⟩
 have BN4 := Aside0.mk (BN3.out.below hb)
 have HO4 := Aside0.mk (HO3.out.newer hb)
 have HB4 := Aside0.mk (below_step HB3.out hb)
 clear hb BN3 HO3 HB3 HK u0 u1 u2 u3
 obtain ⟨u0, u1, u2, u3⟩ := cells4 BN4.out
 go_wp2_with fail
 (with_reducible refine (HW.out W4 _ _ HO4.out.toC.2.2 (Nat.le_refl _)).mono ?_)
 rintro o W5 ⟨v, rfl, hR, hb⟩
 have hrr := Kd.R_reads hR
 obtain ⟨A5, c5, hv, hc5, hC5⟩ := hrr
 subst hv
 have HB5 := Aside0.mk (below_step HB4.out hb)
 obtain ⟨ad, hA, e0, e1, e2, e3⟩ := at_T27 hC5 1 (by decide) (by decide)
 subst hA
 have f0 : W5.cell? (ad.add 4) = some (.string ⟨#[97]⟩) := e0
 have f3 : W5.cell? ⟨(ad.add 4).block, (ad.add 4).off + 3, none⟩ = some (.string ⟨#[120]⟩) := e3
 have ha : ad.add 4 = ⟨ad.block, ad.off + 4, none⟩ := by have h := add_field ad 0 4 (by omega); rw [Nat.zero_add, Addr.add_zero'] at h; exact h
 rw [ha] at f0 f3
 have g3 : W5.cell? ⟨ad.block, ad.off + 7, none⟩ = some (.string ⟨#[120]⟩) := f3
 clear hb BN4 HO4 HB4 HW u0 u1 u2 u3 hR hC5 hc5 e0 e1 e2 e3 ha
 simp only [List.length_cons, List.length_nil]
 go_wp2_with fail
 go_ret
 exact ⟨rfl, HB5.out⟩
end Go.Proofs.YtnemeeidomceiaaDoor
end
section
namespace Go.Proofs.YtnemeeidomceiaaDoor
open Go.RowKit Go.Proofs.YtnemeeidomceiaaDoorW.PrintWords Go.Proofs.YtnemeeidomceiaaDoorW.PrintLast Go.Proofs.YtnemeeidomceiaaDoorW.PrintMore
set_option linter.unusedVariables false
set_option linter.unusedSimpArgs false
def putK (sub : NodeT) (s : ByteArray) : Ent := ⟨s, sub.1, sub.2.1, sub.2.2.1, sub.2.2.2⟩
def putAct (sub : NodeT) (l : List Ent) (i : Nat) (hs : Bool) (s : ByteArray) : List Ent × Int := (if hs = true then l.set i (putK sub s) else l.take i ++ putK sub s :: l.drop i, 0)
def putP (n : NodeT) (path : ByteArray) (sub : NodeT) : NodeT × Int :=
 if lookCode (lookL n.1 n.2.1 n.2.2.1 n.2.2.2) ≠ 0 then (zeroT, lookCode (lookL n.1 n.2.1 n.2.2.1 n.2.2.2))
 else if (readyP sub.1 sub.2.1 sub.2.2.1 sub.2.2.2 path).2 ≠ 0 then (zeroT, (readyP sub.1 sub.2.1 sub.2.2.1 sub.2.2.2 path).2)
 else if (readyP sub.1 sub.2.1 sub.2.2.1 sub.2.2.2 path).1 = [] then (sub, 0)
 else if (chN (putAct sub) (readyP sub.1 sub.2.1 sub.2.2.1 sub.2.2.2 path).1 n.1 n.2.2.2).2 ≠ 0 then (zeroT, (chN (putAct sub) (readyP sub.1 sub.2.1 sub.2.2.1 sub.2.2.2 path).1 n.1 n.2.2.2).2)
 else if lookCode (lookL n.1 n.2.1 n.2.2.1 (chN (putAct sub) (readyP sub.1 sub.2.1 sub.2.2.1 sub.2.2.2 path).1 n.1 n.2.2.2).1) ≠ 0 then (zeroT, lookCode (lookL n.1 n.2.1 n.2.2.1 (chN (putAct sub) (readyP sub.1 sub.2.1 sub.2.2.1 sub.2.2.2 path).1 n.1 n.2.2.2).1))
 else ((n.1, n.2.1, n.2.2.1, (chN (putAct sub) (readyP sub.1 sub.2.1 sub.2.2.1 sub.2.2.2 path).1 n.1 n.2.2.2).1), 0)
theorem goP_names : ∀ (l : List ByteArray) (names : List ByteArray) (frm : Nat), (∀ x, x ∈ names → nameE x = 0) → names.length ≤ 31 → (∀ x, x ∈ (goP l names frm).1 → nameE x = 0) ∧ (goP l names frm).1.length ≤ 31
 | [], names, frm, h, hl => ⟨h, hl⟩
 | x :: l, names, frm, h, hl => by
  unfold goP
  split
  ·exact ⟨by simp, by simp⟩
  ·split
   ·exact ⟨by simp, by simp⟩
   ·rename_i h1 h2
    refine goP_names l _ _ (fun y hy => ?_) (by rw [List.length_append, List.length_singleton]; omega)
    rcases List.mem_append.1 hy with hy | hy
    ·exact h y hy
    ·rw [List.mem_singleton] at hy; rw [hy]; exact Decidable.of_not_not h2
theorem split_names (path : ByteArray) : (∀ x, x ∈ (splitP path).1 → nameE x = 0) ∧ (splitP path).1.length ≤ 31 := by
 by_cases h : path.toList = []
 ·unfold splitP; rw [if_pos h]; exact ⟨by simp, by simp⟩
 ·rw [splitP_pieces path h]; exact goP_names _ [] 0 (by simp) (by simp)
end Go.Proofs.YtnemeeidomceiaaDoor
end
section
namespace Go.Proofs.YtnemeeidomceiaaDoor
open Go.RowKit Go.Proofs.YtnemeeidomceiaaDoorW.PrintWords Go.Proofs.YtnemeeidomceiaaDoorW.PrintLast Go.Proofs.YtnemeeidomceiaaDoorW.PrintMore
set_option linter.unusedVariables false
def flatT (r : NodeT × Int) : Int × Bool × ByteArray × List Ent × Int := (r.1.1, r.1.2.1, r.1.2.2.1, r.1.2.2.2, r.2)
open Classical in
noncomputable def tree_Cut.f (k : Int) (e : Bool) (t : ByteArray) (l : List Ent) (path : ByteArray) : Option (Int × Bool × ByteArray × List Ent × Int) := if Held t l ∧ Fit l ∧ path.size ≤ 140737488351232 then some (flatT (cutP k e t l path)) else none
open Classical in
noncomputable def tree_Put.f (k : Int) (e : Bool) (t : ByteArray) (l : List Ent) (path : ByteArray) (sk : Int) (se : Bool) (st : ByteArray) (sl : List Ent) : Option (Int × Bool × ByteArray × List Ent × Int) :=
 if (Held t l ∧ Fit l) ∧ path.size ≤ 140737488351232 ∧ Held st sl ∧ Fit sl then some (flatT (putP (k, e, t, l) path (sk, se, st, sl))) else none
end Go.Proofs.YtnemeeidomceiaaDoor
end
section
namespace Go.Proofs.YtnemeeidomceiaaDoor
open Go.RowKit Go.Proofs.YtnemeeidomceiaaDoorW.PrintWords
set_option linter.unusedVariables false
def look (l : List Ent) (s : ByteArray) : Option Ent := if hasN l s = true then l[rk l s]? else none
theorem rk_spec : ∀ {l : List Ent} (s : ByteArray), Rising l → (∀ x, x ∈ l.take (rk l s) → cmpB x.f0 s < 0) ∧ (∀ x, x ∈ l.drop (rk l s) → ¬ cmpB x.f0 s < 0)
 | [], s, _ => ⟨by simp [rk], by simp [rk]⟩
 | y :: l, s, h => by
  have hp := List.pairwise_cons.1 h
  have ih := rk_spec s hp.2
  by_cases hy : cmpB y.f0 s < 0
  ·have e : rk (y :: l) s = rk l s + 1 := by unfold rk; rw [List.filter_cons_of_pos (by simpa using hy), List.length_cons]
   rw [e, List.take_succ_cons, List.drop_succ_cons]
   refine ⟨fun x hx => ?_, ih.2⟩
   rcases List.mem_cons.1 hx with rfl | hx
   ·exact hy
   ·exact ih.1 x hx
  ·have h0 : ∀ x, x ∈ l → ¬ cmpB x.f0 s < 0 := fun x hx hlt => hy (cmpB_trans (hp.1 x hx) hlt)
   have e : rk (y :: l) s = 0 := by
    unfold rk
    rw [List.filter_cons_of_neg (by simpa using hy), List.filter_eq_nil_iff.2 (fun x hx => by simpa using h0 x hx)]; rfl
   rw [e]
   refine ⟨by simp, fun x hx => ?_⟩
   rcases List.mem_cons.1 hx with rfl | hx
   ·exact hy
   ·exact h0 x hx
theorem look_iff' {l : List Ent} {s : ByteArray} {x : Ent} (h : Rising l) : look l s = some x ↔ x ∈ l ∧ x.f0 = s := by
 constructor
 ·intro hl
  unfold look at hl
  split at hl
  ·rename_i hh
   obtain ⟨y, hy, hs⟩ := hasN_at hh
   rw [hy] at hl
   injection hl with hl
   subst hl
   exact ⟨List.mem_of_getElem? hy, hs⟩
  ·cases hl
 ·rintro ⟨hm, hs⟩
  obtain ⟨i, hi⟩ := List.mem_iff_getElem?.1 hm
  have hil := (List.getElem?_eq_some_iff.1 hi).1
  have hr : rk l s = i := rk_of i (Nat.le_of_lt hil) (fun j y hj hy => by rw [← hs]; exact h.at hj hy hi) (fun j y hj hy hlt => by
   by_cases e : j = i
   ·subst e; rw [hi] at hy; injection hy with hy; rw [← hy, hs, cmpB_self] at hlt; omega
   ·have := h.at (show i < j by omega) hi hy
    rw [hs, cmpB_neg] at this
    omega)
  have hh : hasN l s = true := by unfold hasN; rw [hr, hi]; exact decide_eq_true ((cmpB_zero _ _).2 hs)
  unfold look
  rw [if_pos hh, hr, hi]
theorem look_none {l : List Ent} {s : ByteArray} (h : Rising l) : look l s = none ↔ ∀ x, x ∈ l → x.f0 ≠ s := by
 constructor
 ·intro hl x hx hs
  rw [(look_iff' h).2 ⟨hx, hs⟩] at hl; cases hl
 ·intro hn
  cases hl : look l s with
  | none => rfl
  | some x => exact absurd ((look_iff' h).1 hl).2 (hn x ((look_iff' h).1 hl).1)
theorem has_look {l : List Ent} {s : ByteArray} : hasN l s = true ↔ ∃ x, look l s = some x := by
 constructor
 ·intro h
  obtain ⟨x, hx, _⟩ := hasN_at h
  exact ⟨x, by unfold look; rw [if_pos h, hx]⟩
 ·rintro ⟨x, hx⟩
  unfold look at hx
  split at hx
  ·assumption
  ·cases hx
def put1 (l : List Ent) (z : Ent) : List Ent := if hasN l z.f0 = true then l.set (rk l z.f0) z else l.take (rk l z.f0) ++ z :: l.drop (rk l z.f0)
theorem put1_mem {l : List Ent} {z : Ent} (h : Rising l) (x : Ent) : x ∈ put1 l z ↔ x = z ∨ (x ∈ l ∧ x.f0 ≠ z.f0) := by
 unfold put1
 split
 ·rename_i hh
  obtain ⟨y, hy, hs⟩ := hasN_at hh
  have hil := (List.getElem?_eq_some_iff.1 hy).1
  constructor
  ·intro hx
   obtain ⟨j, hj⟩ := List.mem_iff_getElem?.1 hx
   rw [List.getElem?_set] at hj
   by_cases e : rk l z.f0 = j
   ·rw [if_pos e, if_pos (by omega)] at hj
    injection hj with hj
    exact .inl hj.symm
   ·rw [if_neg e] at hj
    refine .inr ⟨List.mem_of_getElem? hj, fun e2 => ?_⟩
    rcases Nat.lt_or_gt_of_ne e with hlt | hgt
    ·have := h.at hlt hy hj; rw [hs, e2, cmpB_self] at this; omega
    ·have := h.at hgt hj hy; rw [hs, e2, cmpB_self] at this; omega
  ·rintro (rfl | ⟨hx, hn⟩)
   ·exact List.mem_iff_getElem?.2 ⟨rk l x.f0, by rw [List.getElem?_set_self hil]⟩
   ·obtain ⟨j, hj⟩ := List.mem_iff_getElem?.1 hx
    refine List.mem_iff_getElem?.2 ⟨j, ?_⟩
    rw [List.getElem?_set_ne (fun e => ?_)]
    ·exact hj
    ·subst e
     rw [hy] at hj
     injection hj with hj
     subst hj
     exact hn hs
 ·rename_i hh
  have hno : ∀ x, x ∈ l → x.f0 ≠ z.f0 := by
   refine (look_none h).1 ?_
   cases hl : look l z.f0 with
   | none => rfl
   | some y => exact absurd (has_look.2 ⟨y, hl⟩) hh
  rw [List.mem_append, List.mem_cons]
  constructor
  ·rintro (hx | rfl | hx)
   ·exact .inr ⟨List.mem_of_mem_take hx, hno x (List.mem_of_mem_take hx)⟩
   ·exact .inl rfl
   ·exact .inr ⟨List.mem_of_mem_drop hx, hno x (List.mem_of_mem_drop hx)⟩
  ·rintro (rfl | ⟨hx, _⟩)
   ·exact .inr (.inl rfl)
   ·rw [← List.take_append_drop (rk l z.f0) l, List.mem_append] at hx
    rcases hx with hx | hx
    ·exact .inl hx
    ·exact .inr (.inr hx)
theorem put1_rising {l : List Ent} {z : Ent} (h : Rising l) : Rising (put1 l z) := by
 unfold put1
 split
 ·rename_i hh
  obtain ⟨y, hy, hs⟩ := hasN_at hh
  have e : (l.set (rk l z.f0) z).map (·.f0) = l.map (·.f0) := by
   rw [List.map_set]
   apply List.ext_getElem?
   intro j
   rw [List.getElem?_set]
   split
   ·rename_i e
    subst e
    split
    ·rw [List.getElem?_map, hy]; exact congrArg some hs.symm
    ·rename_i hn
     exact absurd (by rw [List.length_map]; exact (List.getElem?_eq_some_iff.1 hy).1) hn
   ·rfl
  have h1 : (l.map (·.f0)).Pairwise (fun a b => cmpB a b < 0) := List.pairwise_map.2 (show l.Pairwise _ from h)
  rw [← e] at h1
  exact List.pairwise_map.1 h1
 ·rename_i hh
  have hno : ∀ x, x ∈ l → x.f0 ≠ z.f0 := by
   refine (look_none h).1 ?_
   cases hl : look l z.f0 with
   | none => rfl
   | some y => exact absurd (has_look.2 ⟨y, hl⟩) hh
  have hsp := rk_spec z.f0 h
  have h0 := h
  unfold Rising at h0
  rw [← List.take_append_drop (rk l z.f0) l, List.pairwise_append] at h0
  refine List.pairwise_append.2 ⟨h0.1, List.pairwise_cons.2 ⟨fun x hx => ?_, h0.2.1⟩, fun x hx y hy => ?_⟩
  ·have a := hsp.2 x hx
   have b := hno x (List.mem_of_mem_drop hx)
   rw [cmpB_neg]
   have : cmpB x.f0 z.f0 ≠ 0 := fun e => b ((cmpB_zero _ _).1 e)
   omega
  ·rcases List.mem_cons.1 hy with rfl | hy
   ·exact hsp.1 x hx
   ·exact h0.2.2 x hx y hy
def cut1 (l : List Ent) (s : ByteArray) : List Ent := l.eraseIdx (rk l s)
theorem cut1_rising {l : List Ent} (s : ByteArray) (h : Rising l) : Rising (cut1 l s) := List.Pairwise.sublist (List.eraseIdx_sublist _ _) h
theorem cut1_mem {l : List Ent} {s : ByteArray} (h : Rising l) (hh : hasN l s = true) (x : Ent) : x ∈ cut1 l s ↔ x ∈ l ∧ x.f0 ≠ s := by
 obtain ⟨y, hy, hs⟩ := hasN_at hh
 unfold cut1
 rw [List.mem_eraseIdx_iff_getElem?]
 constructor
 ·rintro ⟨j, hj, hx⟩
  refine ⟨List.mem_of_getElem? hx, fun e => ?_⟩
  rcases Nat.lt_or_gt_of_ne hj with hlt | hgt
  ·have := h.at hlt hx hy; rw [hs, e, cmpB_self] at this; omega
  ·have := h.at hgt hy hx; rw [hs, e, cmpB_self] at this; omega
 ·rintro ⟨hx, hn⟩
  obtain ⟨j, hj⟩ := List.mem_iff_getElem?.1 hx
  exact ⟨j, fun e => by subst e; rw [hy] at hj; injection hj with hj; subst hj; exact hn hs, hj⟩
theorem cutAct_yes {l : List Ent} {s : ByteArray} (h : hasN l s = true) : cutAct l (rk l s) (hasN l s) s = (cut1 l s, 0) := by unfold cutAct; rw [if_pos h]; rfl
theorem cutAct_no {l : List Ent} {s : ByteArray} (h : ¬ hasN l s = true) : cutAct l (rk l s) (hasN l s) s = (l, 3) := by unfold cutAct; rw [if_neg h]
theorem chN_deep (act : List Ent → Nat → Bool → ByteArray → List Ent × Int) {s : ByteArray} {r : List ByteArray} (hr : r ≠ []) {l : List Ent} {x : Ent} (hx : look l s = some x) (hR : Rising l) : chN act (s :: r) 3 l = if (chN act r x.f1 x.f4).2 ≠ 0 then ([], (chN act r x.f1 x.f4).2) else (put1 l { x with f4 := (chN act r x.f1 x.f4).1 }, 0) := by
 have hh : hasN l s = true := has_look.2 ⟨x, hx⟩
 have hxs : x.f0 = s := ((look_iff' hR).1 hx).2
 rw [chN, if_neg (fun h => h rfl), if_neg hr]
 unfold look at hx
 rw [hx]
 show (if (chN act r x.f1 x.f4).2 ≠ 0 then ([], (chN act r x.f1 x.f4).2) else (l.set (rk l s) { x with f4 := (chN act r x.f1 x.f4).1 }, 0)) = _
 unfold put1
 rw [if_pos (show hasN l ({ x with f4 := (chN act r x.f1 x.f4).1 } : Ent).f0 = true by show hasN l x.f0 = true; rw [hxs]; exact hh)]
 rw [show rk l ({ x with f4 := (chN act r x.f1 x.f4).1 } : Ent).f0 = rk l s from by show rk l x.f0 = _; rw [hxs]]
theorem chN_lost (act : List Ent → Nat → Bool → ByteArray → List Ent × Int) {s : ByteArray} {r : List ByteArray} (hr : r ≠ []) {l : List Ent} (hx : look l s = none) : chN act (s :: r) 3 l = ([], 3) := by
 rw [chN, if_neg (fun h => h rfl), if_neg hr]
 unfold look at hx
 rw [hx]
theorem getN_step (s : ByteArray) (r : List ByteArray) (e : Bool) (t : ByteArray) (l : List Ent) : getN (s :: r) (3, e, t, l) = match look l s with
  | none => (zeroT, 3)
  | some x => getN r (nodeOf x) := by rw [getN, if_neg (fun h => h rfl)]; rfl
theorem AllR.look {l : List Ent} (h : AllR l) {s : ByteArray} {x : Ent} (hx : look l s = some x) : AllR x.f4 := by
 obtain ⟨i, hi⟩ := List.mem_iff_getElem?.1 ((look_iff' h.rises.1).1 hx).1
 exact h.at hi
end Go.Proofs.YtnemeeidomceiaaDoor
end
section
namespace Go.Proofs.YtnemeeidomceiaaDoor
open Go.RowKit Go.Proofs.YtnemeeidomceiaaDoorW.PrintWords
set_option linter.unusedVariables false
theorem look_zero (k : Int) (e : Bool) (t : ByteArray) (l : List Ent) : lookCode (lookL k e t l) = 0 ↔ wf 32 ⟨⟨#[]⟩, k, e, t, l⟩ ∧ 24 + tsz 32 ⟨⟨#[]⟩, k, e, t, l⟩ ≤ 1048576 := by
 constructor
 ·intro h
  have hfair := nodeL_fair 32 ⟨#[]⟩ ⟨⟨#[]⟩, k, e, t, l⟩ magS
  cases hs : lookL k e t l with
  | bad p c =>
   rw [hs] at h
   unfold lookL at hs
   rw [hs] at hfair
   exact absurd h hfair
  | ok b rows =>
   obtain ⟨h1, h2, h3, _⟩ := (look_iff k e t l b rows).1 hs
   exact ⟨h1, by omega⟩
 ·rintro ⟨h1, h2⟩
  rw [(look_iff k e t l _ _).2 ⟨h1, rfl, h2, rfl⟩]; rfl
theorem ksz_erase (f : Nat) : ∀ (l : List Ent) (i : Nat), ksz f (l.eraseIdx i) ≤ ksz f l
 | [], _ => by simp
 | y :: l, 0 => by
  have h1 := entS_range y.f0
  have h2 := tsz_nonneg f y
  rw [ksz_cons, List.eraseIdx_cons_zero]; omega
 | y :: l, i + 1 => by
  rw [List.eraseIdx_cons_succ, ksz_cons, ksz_cons]
  have := ksz_erase f l i
  omega
theorem ksz_set (f : Nat) : ∀ (l : List Ent) (i : Nat) (x z : Ent), l[i]? = some x → z.f0 = x.f0 → tsz f z ≤ tsz f x → ksz f (l.set i z) ≤ ksz f l
 | [], _, _, _, h, _, _ => by simp at h
 | y :: l, 0, x, z, h, h0, ht => by
  simp at h
  subst h
  rw [List.set_cons_zero, ksz_cons, ksz_cons, h0]; omega
 | y :: l, i + 1, x, z, h, h0, ht => by
  rw [List.set_cons_succ, ksz_cons, ksz_cons]
  have := ksz_set f l i x z (by simpa using h) h0 ht
  omega
theorem look_at {l : List Ent} {s : ByteArray} {x : Ent} (h : look l s = some x) : hasN l s = true ∧ l[rk l s]? = some x := by
 have hh : hasN l s = true := has_look.2 ⟨x, h⟩
 refine ⟨hh, ?_⟩
 unfold look at h
 rw [if_pos hh] at h
 exact h
theorem put1_at {l : List Ent} {s : ByteArray} {x : Ent} (q : List Ent) (h : look l s = some x) (hR : Rising l) : put1 l { x with f4 := q } = l.set (rk l s) { x with f4 := q } := by
 have hxs : x.f0 = s := ((look_iff' hR).1 h).2
 unfold put1
 rw [if_pos (show hasN l ({ x with f4 := q } : Ent).f0 = true by show hasN l x.f0 = true; rw [hxs]; exact (look_at h).1)]
 rw [show rk l ({ x with f4 := q } : Ent).f0 = rk l s from by show rk l x.f0 = _; rw [hxs]]
theorem cut_wf : ∀ (ns : List ByteArray) (f : Nat) (nm : ByteArray) (k : Int) (e : Bool) (t : ByteArray) (l l3 : List Ent), wf f ⟨nm, k, e, t, l⟩ → chN cutAct ns k l = (l3, 0) → wf f ⟨nm, k, e, t, l3⟩ ∧ tsz f ⟨nm, k, e, t, l3⟩ ≤ tsz f ⟨nm, k, e, t, l⟩
 | [], f, nm, k, e, t, l, l3, hw, h => by
  rw [chN] at h
  injection h with h _
  subst h
  exact ⟨hw, Int.le_refl _⟩
 | s :: r, 0, nm, k, e, t, l, l3, hw, h => hw.elim
 | s :: r, f + 1, nm, k, e, t, l, l3, hw, h => by
  have hk : k = 3 := by
   refine Decidable.of_not_not (fun hk => ?_)
   rw [chN, if_pos hk] at h
   injection h with _ h
   exact absurd h (by decide)
  subst hk
  obtain ⟨w1, w2, w3, w4⟩ := hw
  simp only at w1 w2 w3 w4
  have hfe : ∀ m, fieldsE 3 e t m = 0 := fun m => by rw [← w1]; unfold fieldsE; rfl
  have key : ∀ m, (∀ y, y ∈ m → nameE y.f0 = 0) → Rising m → (∀ y, y ∈ m → wf f y) → ksz f m ≤ ksz f l → wf (f + 1) ⟨nm, 3, e, t, m⟩ ∧ tsz (f + 1) ⟨nm, 3, e, t, m⟩ ≤ tsz (f + 1) ⟨nm, 3, e, t, l⟩ := fun m h1 h2 h3 h4 => ⟨⟨hfe m, h1, h2, h3⟩, by
   show ownS 3 e t + ksz f m ≤ ownS 3 e t + ksz f l
   omega⟩
  by_cases hr : r = []
  ·subst hr
   rw [chN, if_neg (fun h => h rfl), if_pos rfl] at h
   by_cases hh : hasN l s = true
   ·rw [cutAct_yes hh, if_neg (fun h => h rfl)] at h
    injection h with h _
    subst h
    exact key _ (fun y hy => w2 y ((cut1_mem w3 hh y).1 hy).1) (cut1_rising s w3) (fun y hy => w4 y ((cut1_mem w3 hh y).1 hy).1) (ksz_erase f l _)
   ·rw [cutAct_no hh, if_pos (fun h => absurd (show (3 : Int) = 0 from h) (by decide))] at h
    injection h with _ h
    exact absurd (show (3 : Int) = 0 from h) (by decide)
  ·cases hx : look l s with
   | none =>
    rw [chN_lost _ hr hx] at h
    injection h with _ h
    exact absurd h (by decide)
   | some x =>
    rw [chN_deep _ hr hx w3] at h
    by_cases hq : (chN cutAct r x.f1 x.f4).2 = 0
    ·rw [if_neg (fun e => e hq)] at h
     injection h with h _
     have hxm := ((look_iff' w3).1 hx).1
     have hxe : (⟨x.f0, x.f1, x.f2, x.f3, x.f4⟩ : Ent) = x := by cases x; rfl
     have ih := cut_wf r f x.f0 x.f1 x.f2 x.f3 x.f4 (chN cutAct r x.f1 x.f4).1 (by rw [hxe]; exact w4 x hxm) (Prod.ext rfl hq)
     rw [hxe] at ih
     generalize (chN cutAct r x.f1 x.f4).1 = q at h ih
     subst h
     have hm := put1_mem (z := { x with f4 := q }) w3
     refine key _ (fun y hy => ?_) (put1_rising w3) (fun y hy => ?_) ?_
     ·rcases (hm y).1 hy with rfl | hy
      ·exact w2 x hxm
      ·exact w2 y hy.1
     ·rcases (hm y).1 hy with rfl | hy
      ·exact ih.1
      ·exact w4 y hy.1
     ·rw [put1_at q hx w3]
      exact ksz_set f l _ x _ (look_at hx).2 rfl ih.2
    ·rw [if_pos hq] at h
     injection h with _ h
     exact absurd h hq
theorem AllR.fit : ∀ {l : List Ent}, AllR l → Fit l := by
 intro l h
 induction h with
 | mk h n k ih => exact .mk (by omega) ih
def codeN (n : NodeT) : Int := lookCode (lookL n.1 n.2.1 n.2.2.1 n.2.2.2)
def Good (n : NodeT) : Prop := Held n.2.2.1 n.2.2.2 ∧ Fit n.2.2.2
theorem good_zero : Good zeroT := ⟨⟨.of (by simp [zeroT]), by decide⟩, .mk (by simp [zeroT]) (by simp [zeroT])⟩
def pathE (p : ByteArray) : Int := (splitP p).2.1
theorem ready_eq (n : NodeT) (p : ByteArray) : readyP n.1 n.2.1 n.2.2.1 n.2.2.2 p = if codeN n ≠ 0 then ([], codeN n) else ((splitP p).1, pathE p) := rfl
theorem ready_ok {n : NodeT} (h : codeN n = 0) (p : ByteArray) : readyP n.1 n.2.1 n.2.2.1 n.2.2.2 p = ((splitP p).1, pathE p) := by rw [ready_eq, if_neg (fun e => e h)]
theorem getP_eq {n : NodeT} (h : codeN n = 0) (p : ByteArray) : getP n p = if pathE p ≠ 0 then (zeroT, pathE p) else getN (splitP p).1 n := by
 unfold getP
 rw [ready_ok h]
theorem cutP_eq {n : NodeT} (h : codeN n = 0) {p : ByteArray} (hp : pathE p = 0) (hne : (splitP p).1 ≠ []) : cutP n.1 n.2.1 n.2.2.1 n.2.2.2 p = if (chN cutAct (splitP p).1 n.1 n.2.2.2).2 ≠ 0 then (zeroT, (chN cutAct (splitP p).1 n.1 n.2.2.2).2) else ((n.1, n.2.1, n.2.2.1, (chN cutAct (splitP p).1 n.1 n.2.2.2).1), 0) := by
 unfold cutP
 rw [ready_ok h, if_neg (fun e => e hp), if_neg hne]
theorem getN_good : ∀ (ns : List ByteArray) (n : NodeT), Good n → Good (getN ns n).1
 | [], n, h => h
 | s :: r, n, h => by
  unfold getN
  split
  ·exact good_zero
  ·split
   ·exact good_zero
   ·rename_i x hx
    have hxm : x ∈ n.2.2.2 := by
     split at hx
     ·exact List.mem_of_getElem? hx
     ·cases hx
    exact getN_good r (nodeOf x) ⟨⟨(h.1.1.mem hxm).2.2, (h.1.1.mem hxm).2.1⟩, h.2.at_ hxm⟩
theorem getP_good {n : NodeT} (h : Good n) (p : ByteArray) : Good (getP n p).1 := by
 unfold getP
 split
 ·exact good_zero
 ·exact getN_good _ n h
theorem split_nil {p : ByteArray} (h : p.toList = []) : splitP p = ([], 0, 0) := by unfold splitP; rw [if_pos h]
def slashed (x : ByteArray) : List UInt8 := x.data.toList ++ [47]
theorem goP_all : ∀ (l names : List ByteArray) (frm : Nat), (goP l names frm).2.1 = 0 → (goP l names frm).1 = names ++ l
 | [], names, frm, _ => by rw [goP, List.append_nil]
 | x :: l, names, frm, h => by
  unfold goP at h ⊢
  split at h
  ·exact absurd (show (61 : Int) = 0 from h) (by decide)
  ·rename_i c1
   rw [if_neg c1]
   split at h
   ·rename_i c2; exact absurd h c2
   ·rename_i c2
    rw [if_neg c2, goP_all l _ _ h]; simp
theorem ex_data (s : ByteArray) (a b : Nat) : (s.extract a b).data.toList = (s.data.toList.drop a).take (b - a) := by
 rw [ByteArray.data_extract, Array.toList_extract, List.extract_eq_take_drop]
theorem pieces_join (s : ByteArray) : ∀ (m frm i : Nat), i + m = s.size → frm ≤ i → (pieces s m frm i).flatMap slashed = s.data.toList.drop frm ++ [47]
 | 0, frm, i, h, hf => by
  rw [pieces, List.flatMap_cons, List.flatMap_nil, List.append_nil]
  unfold slashed
  rw [ex_data, List.take_of_length_le]
  rw [List.length_drop, Array.length_toList]
  show s.size - frm ≤ _
  omega
 | m + 1, frm, i, h, hf => by
  rw [pieces]
  have hi : i < s.data.toList.length := by rw [Array.length_toList]; show i < s.size; omega
  by_cases hb : bt s (i : Int) = 47
  ·rw [if_neg (fun e => e hb), List.flatMap_cons, pieces_join s m (i + 1) (i + 1) (by omega) (Nat.le_refl _)]
   unfold slashed
   rw [ex_data]
   have h1 : s.data.toList.drop i = 47 :: s.data.toList.drop (i + 1) := by
    rw [List.drop_eq_getElem_cons hi]
    have hc := bt_toList s i (by omega) 47
    have := (List.getElem?_eq_some_iff.1 (hc.2 hb)).2
    rw [this]
   have h2 : s.data.toList.drop frm = (s.data.toList.drop frm).take (i - frm) ++ s.data.toList.drop i := by
    have := (List.take_append_drop (i - frm) (s.data.toList.drop frm)).symm
    rw [List.drop_drop, show frm + (i - frm) = i from by omega] at this
    exact this
   generalize (s.data.toList.drop frm).take (i - frm) = u at *
   rw [h2, h1]
   simp
  ·rw [if_pos hb, pieces_join s m frm (i + 1) (by omega) (by omega)]
theorem split_join {p : ByteArray} (hne : p.toList ≠ []) (h : pathE p = 0) : (splitP p).1 ≠ [] ∧ (splitP p).1.flatMap slashed = p.data.toList ++ [47] := by
 have hj := pieces_join p p.size 0 0 (by omega) (Nat.le_refl _)
 unfold pathE at h
 rw [splitP_pieces p hne] at h ⊢
 rw [goP_all _ _ _ h, List.nil_append]
 rw [List.drop_zero] at hj
 refine ⟨fun e => ?_, hj⟩
 unfold pcs at e
 rw [e] at hj
 simp at hj
end Go.Proofs.YtnemeeidomceiaaDoor
end
section
namespace Go.Proofs.YtnemeeidomceiaaDoor
open Go.RowKit Go.Proofs.YtnemeeidomceiaaDoorW.PrintWords Go.Proofs.YtnemeeidomceiaaDoorW.PrintLast Go.Proofs.YtnemeeidomceiaaDoorW.PrintMore
set_option linter.unusedVariables false
open Classical in
noncomputable def depotref06_Equal.f (a0_0 : Int) (a0_1 : Bool) (a0_2 : ByteArray) (l0_3 : List Ent) (a1_0 : Int) (a1_1 : Bool) (a1_2 : ByteArray) (l1_3 : List Ent) : Option Bool := if Fit l0_3 then some (decide ((a0_0, a0_1, a0_2, l0_3) = (a1_0, a1_1, a1_2, l1_3))) else none
def depotlaw06_awake.f : Option Bool := some true
end Go.Proofs.YtnemeeidomceiaaDoor
end
section
namespace Go.Proofs.YtnemeeidomceiaaDoor
open Go.RowKit Go.Proofs.YtnemeeidomceiaaDoorW.PrintWords Go.Proofs.YtnemeeidomceiaaDoorW.PrintLast Go.Proofs.YtnemeeidomceiaaDoorW.PrintMore
set_option linter.unusedVariables false
open Classical in
noncomputable def tree_Get.f (k : Int) (e : Bool) (t : ByteArray) (l : List Ent) (path : ByteArray) : Option (Int × Bool × ByteArray × List Ent × Int) := if Held t l ∧ Fit l ∧ path.size ≤ 140737488351232 then some (flatT (getP (k, e, t, l) path)) else none
end Go.Proofs.YtnemeeidomceiaaDoor
end
section
namespace Go.Proofs.YtnemeeidomceiaaDoor.PGTreeGets
open Go.RowKit Go.Proofs.YtnemeeidomceiaaDoorW.PrintWords Go.Proofs.YtnemeeidomceiaaDoorW.PrintLast Go.Proofs.YtnemeeidomceiaaDoorW.PrintMore
attribute [local go_sem] max2_int min2_int max_two min_two max_three min_three max_four min_four   -- for this text's walks alone
set_option linter.unusedVariables false
set_option linter.unusedSimpArgs false
noncomputable section
def errW : Option Int → Value
 | none => .nilIface
 | some c => .iface 0 (.int .i64 c)
theorem errW_none : errW none = .nilIface := rfl
theorem errW_some (c : Int) : errW (some c) = .iface 0 (.int .i64 c) := rfl
theorem info9 : (Tryd.prog.info? 9).map (fun i => (i.zero, i.size, i.bytes)) = some (some (.string ⟨#[]⟩), 1, 16) := by kernel_rfl
theorem info29 : (Tryd.prog.info? 29).map (fun i => (i.zero, i.size, i.bytes)) = some (some (.agg #[(.string ⟨#[]⟩), (.int .i64 0), (.bool false), (.string ⟨#[]⟩)]), 4, 48) := by kernel_rfl
theorem info63 : (Tryd.prog.info? 63).map (fun i => (i.zero, i.size, i.bytes)) = some (some (.agg #[(.string ⟨#[]⟩), (.int .i64 0), (.bool false), (.string ⟨#[]⟩), (.slice none 0 0)]), 5, 72) := by kernel_rfl
end
end Go.Proofs.YtnemeeidomceiaaDoor.PGTreeGets
end
section
namespace Go.Proofs.YtnemeeidomceiaaDoor.PGTreeGets
open Go.RowKit Go.Proofs.YtnemeeidomceiaaDoorW.PrintWords Go.Proofs.YtnemeeidomceiaaDoorW.PrintLast Go.Proofs.YtnemeeidomceiaaDoorW.PrintMore
attribute [local go_sem] max2_int min2_int max_two min_two max_three min_three max_four min_four   -- for this text's walks alone
set_option linter.unusedVariables false
set_option linter.unusedSimpArgs false
noncomputable section
mutual
def depotref05_Split.l0 : Nat → ByteArray → List ByteArray → Int → Int → Option (List ByteArray × Int × Int)
 | 0, _, _, _, _ => none
 | k + 1, x0, x5, x6, x7 => if x7 ≤ (x0.size : Int) then (if x7 < (x0.size : Int) then (if 0 ≤ x7 then (depotref05_Split.j1 k x0 x5 x6 x7 ((bt x0 x7) != 47)) else (none)) else (depotref05_Split.j1 k x0 x5 x6 x7 false)) else (some (x5, 0, 0))
def depotref05_Split.j1 : Nat → ByteArray → List ByteArray → Int → Int → Bool → Option (List ByteArray × Int × Int)
 | 0, _, _, _, _, _ => none
 | k + 1, x0, x5, x6, x7, x26 => if x26 = true then (depotref05_Split.l0 k x0 x5 x6 (wrap64 (x7 + 1))) else (if (x5.length : Int) = 31 then (some (([] : List ByteArray), 61, x6)) else (if 0 ≤ x6 then (if x6 ≤ x7 then (if x7 ≤ (x0.size : Int) then ((depotref05_Check.f (x0.extract (x6 : Int).toNat (x7 : Int).toNat)).bind fun t102 => (if t102 = 0 then (if x5.length < 8796093022208 then (depotref05_Split.l0 k x0 (x5 ++ [x0.extract (x6 : Int).toNat (x7 : Int).toNat]) (wrap64 (x7 + 1)) (wrap64 (x7 + 1))) else (none)) else (some (([] : List ByteArray), t102, x6)))) else (none)) else (none)) else (none)))
end
def depotref05_Split.f (k : Nat) (a0 : ByteArray) : Option (List ByteArray × Int × Int) := if a0.toList = ([] : List UInt8) then (some (([] : List ByteArray), 0, 0)) else (depotref05_Split.l0 k a0 ([] : List ByteArray) 0 0)
theorem depotref05_Split.mono_l : ∀ k, (∀ y0 y1 y2 y3, LeO (depotref05_Split.l0 k y0 y1 y2 y3) (depotref05_Split.l0 (k + 1) y0 y1 y2 y3)) ∧ (∀ y0 y1 y2 y3 y4, LeO (depotref05_Split.j1 k y0 y1 y2 y3 y4) (depotref05_Split.j1 (k + 1) y0 y1 y2 y3 y4))
 | 0 => ⟨fun _ _ _ _ r h => by simp [depotref05_Split.l0] at h, fun _ _ _ _ _ r h => by simp [depotref05_Split.j1] at h⟩
 | k + 1 => by
  obtain ⟨ih0, ih1⟩ := depotref05_Split.mono_l k
  refine ⟨?_, ?_⟩
  ·intro y0 y1 y2 y3
   unfold depotref05_Split.l0
   repeat' first
   | (with_reducible exact ih0 _ _ _ _)
   | (with_reducible exact ih1 _ _ _ _ _)
   | (with_reducible exact LeO.refl _)
   | (with_reducible exact LeO.none _)
   | (with_reducible refine LeO.ite ?_ ?_)
   | (with_reducible refine LeO.bind ?_ (fun _ => ?_))
   | exact ih0 _ _ _ _
   | exact ih1 _ _ _ _ _
   | exact LeO.none _
   | refine LeO.ite ?_ ?_
   | refine LeO.bind ?_ (fun _ => ?_)
  ·intro y0 y1 y2 y3 y4
   unfold depotref05_Split.j1
   repeat' first
   | (with_reducible exact ih0 _ _ _ _)
   | (with_reducible exact ih1 _ _ _ _ _)
   | (with_reducible exact LeO.refl _)
   | (with_reducible exact LeO.none _)
   | (with_reducible refine LeO.ite ?_ ?_)
   | (with_reducible refine LeO.bind ?_ (fun _ => ?_))
   | exact ih0 _ _ _ _
   | exact ih1 _ _ _ _ _
   | exact LeO.none _
   | refine LeO.ite ?_ ?_
   | refine LeO.bind ?_ (fun _ => ?_)
theorem depotref05_Split.mono : ∀ a0 k, LeO (depotref05_Split.f k a0) (depotref05_Split.f (k + 1) a0) := by
 intro a0 k
 obtain ⟨ih0, ih1⟩ := depotref05_Split.mono_l k
 unfold depotref05_Split.f
 repeat' first
   | (with_reducible exact ih0 _ _ _ _)
   | (with_reducible exact ih1 _ _ _ _ _)
   | (with_reducible exact LeO.refl _)
   | (with_reducible exact LeO.none _)
   | (with_reducible refine LeO.ite ?_ ?_)
   | (with_reducible refine LeO.bind ?_ (fun _ => ?_))
   | exact ih0 _ _ _ _
   | exact ih1 _ _ _ _ _
   | exact LeO.none _
   | refine LeO.ite ?_ ?_
   | refine LeO.bind ?_ (fun _ => ?_)
set_option maxHeartbeats 8000000 in
set_option maxRecDepth 100000 in
theorem depotref05_Split.calls (k : Nat) (a0 : ByteArray) (r1 : List ByteArray) (r2 : Int) (r3 : Int) (w : World) (h : depotref05_Split.f k a0 = some (r1, r2, r3)) :
  Calls Tryd.prog 40 #[.string a0] w fun e w' => ∃ v0_ : Value, e = .returned (.tuple #[v0_, .int .i64 r2, .int .i64 r3]) ∧ Kd.R Kd.string 9 w' w.heap.size (fun _ => True) v0_ r1 ∧ Below w.heap.size w w' := by
 have HB := Aside0.mk (Below.refl w.heap.size w)
 have H : (if a0.toList = ([] : List UInt8) then (some (([] : List ByteArray), 0, 0)) else (depotref05_Split.l0 k a0 ([] : List ByteArray) 0 0)) = some (r1, r2, r3) := h
 clear h
 by_cases c2 : a0.toList = ([] : List UInt8)
 ·rw [if_pos c2] at H
  have c2b0 : (a0.toList == ([] : List UInt8)) = true := beq_iff_eq.mpr c2
  have c2b1 : (a0.toList != ([] : List UInt8)) = false := bne_eq_false_iff_eq.mpr c2
  clear c2
  simp only [Option.some.injEq, Prod.mk.injEq] at H
  obtain ⟨rfl, rfl, rfl⟩ := H
  go_enter Tryd.func40, Tryd.ntmps40
  go_wp2
  go_ret3
  exact ⟨_, by first | rfl | (simp [errW_none, errW_some] <;> rfl) | (simp [*, errW_none, errW_some] <;> rfl), by first | exact Kd.R_nil _ _ _ _ _ | exact Kd.N_nil _ _ _ _ _ | exact Kd.V_nil _ _ _ _ _ | exact Kd.Q_nil _ _ _ _ _ | exact Kd.S_nil _ _ _ _ _, by repeat (first | (with_reducible first | exact HB.out | apply below_alloc | apply pw_below_drewN | apply below_drew1) | exact HB.out)⟩
 ·rw [if_neg c2] at H
  have c2b0 : (a0.toList == ([] : List UInt8)) = false := beq_eq_false_iff_ne.mpr c2
  have c2b1 : (a0.toList != ([] : List UInt8)) = true := bne_iff_ne.mpr c2
  have H' := Aside0.mk H
  clear H
  go_enter Tryd.func40, Tryd.ntmps40
  go_wp2
  go_loopg [5, 6, 7] k (fun kq v5 v6 v7 w' => ∃ (x5_1 : List ByteArray) (x6_1 : Int) (x7_1 : Int), v6 = .int .i64 x6_1 ∧ v7 = .int .i64 x7_1 ∧ Aside0 (depotref05_Split.l0 kq a0 x5_1 x6_1 x7_1 = some (r1, r2, r3)) ∧ Aside0 (kq ≤ k) ∧ Aside0 (Kd.R Kd.string 9 w' w.heap.size (fun _ => True) v5 x5_1) ∧ Aside0 (Below w.heap.size w w'))
  case atStart => exact ⟨(([] : List ByteArray)), (0), (0), (by first | rfl | (simp; done) | (simp [*]; done)), (by first | rfl | (simp; done) | (simp [*]; done)), H', ⟨Nat.le_refl _⟩, ⟨by first | exact Kd.R_nil _ _ _ _ _ | exact Kd.N_nil _ _ _ _ _ | exact Kd.V_nil _ _ _ _ _ | exact Kd.Q_nil _ _ _ _ _ | exact Kd.S_nil _ _ _ _ _⟩, ⟨by repeat (first | (with_reducible first | exact HB.out | apply below_alloc | apply pw_below_drewN | apply below_drew1) | exact HB.out)⟩⟩
  case round =>
   clear H'
   try clear c2
   try clear c2b0
   try clear c2b1
   try clear p2
   obtain ⟨x5_1, x6_1, x7_1, rfl, rfl, HA, HK1, HO_5, HB⟩ := hrel
   cases gk with
   | zero => exact absurd HA.out (by simp [depotref05_Split.l0])
   | succ k1 =>
    have H := HA.out
    clear HA
    simp only [depotref05_Split.l0] at H
    by_cases c3 : x7_1 ≤ (a0.size : Int)
    ·rw [if_pos c3] at H
     have c3b0 : decide (x7_1 ≤ (a0.size : Int)) = true := decide_eq_true c3
     clear c3
     have HC4 := Aside0.mk H
     clear H
     go_upto_region 8 with (fail)
     go_cut [26] (fun v26 wc => ∃ (kq : Nat) (x26_3 : Bool), v26 = .bool x26_3 ∧ Aside0 (depotref05_Split.j1 kq a0 x5_1 x6_1 x7_1 x26_3 = some (r1, r2, r3)) ∧ Aside0 (kq ≤ k1) ∧ Aside0 (Kd.R Kd.string 9 wc w.heap.size (fun _ => True) u5 x5_1) ∧ Aside0 (Below w.heap.size w wc))
     case first =>
      have H := HC4.out
      clear HC4
      by_cases c5 : x7_1 < (a0.size : Int)
      ·rw [if_pos c5] at H
       have c5b0 : decide (x7_1 < (a0.size : Int)) = true := decide_eq_true c5
       clear c5
       (first | rw [c5b0] | (simp only [i64_w, i32_w]; rw [c5b0]) | skip)
       by_cases c6 : 0 ≤ x7_1
       ·rw [if_pos c6] at H
        have c6b0 : decide (0 ≤ x7_1) = true := decide_eq_true c6
        clear c6
        have H' := Aside0.mk H
        clear H
        have p7 : 0 ≤ (x7_1 : Int) := of_decide_eq_true (by first | (with_reducible assumption) | assumption)
        have q7 : x7_1 < (a0.size : Int) := of_decide_eq_true (by first | (with_reducible assumption) | assumption)
        have hx7 := bt_at a0 x7_1
        replace p7 := eq_true p7
        replace q7 := eq_true q7
        go_wp2
        go_meet
        case rel => exact ⟨_, (((bt a0 x7_1) != 47)), (by first | rfl | (simp; done) | (simp [*]; done)), H', ⟨by have := HK1.out; first | omega | exact Nat.le_refl _⟩, ⟨by (with_reducible repeat (first | apply Kd.R_alloc | apply Kd.R_drewN | apply Kd.R_drew)); exact HO_5.out⟩, ⟨by repeat (first | (with_reducible first | exact HB.out | apply below_alloc | apply pw_below_drewN | apply below_drew1) | exact HB.out)⟩⟩
       ·rw [if_neg c6] at H
        exact absurd H (by simp)
      ·rw [if_neg c5] at H
       have c5b0 : decide (x7_1 < (a0.size : Int)) = false := decide_eq_false c5
       clear c5
       (first | rw [c5b0] | (simp only [i64_w, i32_w]; rw [c5b0]) | skip)
       have H' := Aside0.mk H
       clear H
       go_wp2
       go_meet
       case rel => exact ⟨_, (false), (by first | rfl | (simp; done) | (simp [*]; done)), H', ⟨by have := HK1.out; first | omega | exact Nat.le_refl _⟩, ⟨by (with_reducible repeat (first | apply Kd.R_alloc | apply Kd.R_drewN | apply Kd.R_drew)); exact HO_5.out⟩, ⟨by repeat (first | (with_reducible first | exact HB.out | apply below_alloc | apply pw_below_drewN | apply below_drew1) | exact HB.out)⟩⟩
     case rest =>
      clear HC4
      try clear c2
      try clear c2b0
      try clear c2b1
      try clear p2
      try clear c3
      try clear c3b0
      try clear c4
      try clear c5
      try clear c5b0
      try clear c6
      try clear c6b0
      try clear p7
      try clear q7
      try clear hx7
      try clear p2
      try clear p7
      try clear q7
      obtain ⟨kq, x26_3, rfl, HA, HJ3, HO_5, HB⟩ := hcut
      cases kq with
      | zero => exact absurd HA.out (by simp [depotref05_Split.j1])
      | succ kj3 =>
       have H := HA.out
       clear HA
       simp only [depotref05_Split.j1] at H
       by_cases c8 : x26_3 = true
       ·subst c8
        have H1 : (depotref05_Split.l0 kj3 a0 x5_1 x6_1 (wrap64 (x7_1 + 1))) = some (r1, r2, r3) := by rw [if_pos rfl] at H; exact H
        clear H
        have H := H1
        clear H1
        have H' := Aside0.mk H
        clear H
        go_wp2
        go_roundg kj3
        case measure => have := HK1.out; have := HJ3.out; omega
        case rel => exact ⟨(x5_1), (x6_1), (wrap64 (x7_1 + 1)), (by first | rfl | (simp; done) | (simp [*]; done)), (by first | rfl | (simp; done) | (simp [*]; done)), H', ⟨by have := HK1.out; have := HJ3.out; omega⟩, ⟨by (with_reducible repeat (first | apply Kd.R_alloc | apply Kd.R_drewN | apply Kd.R_drew)); exact HO_5.out⟩, ⟨by repeat (first | (with_reducible first | exact HB.out | apply below_alloc | apply pw_below_drewN | apply below_drew1) | exact HB.out)⟩⟩
       ·replace c8 := Bool.eq_false_iff.mpr c8
        subst c8
        have H1 : (if (x5_1.length : Int) = 31 then (some (([] : List ByteArray), 61, x6_1)) else (if 0 ≤ x6_1 then (if x6_1 ≤ x7_1 then (if x7_1 ≤ (a0.size : Int) then ((depotref05_Check.f (a0.extract (x6_1 : Int).toNat (x7_1 : Int).toNat)).bind fun t102 => (if t102 = 0 then (if x5_1.length < 8796093022208 then (depotref05_Split.l0 kj3 a0 (x5_1 ++ [a0.extract (x6_1 : Int).toNat (x7_1 : Int).toNat]) (wrap64 (x7_1 + 1)) (wrap64 (x7_1 + 1))) else (none)) else (some (([] : List ByteArray), t102, x6_1)))) else (none)) else (none)) else (none))) = some (r1, r2, r3) := by rw [if_neg (show ¬ (false = true) by decide)] at H; exact H
        clear H
        have H := H1
        clear H1
        by_cases c9 : (x5_1.length : Int) = 31
        ·rw [if_pos c9] at H
         have c9b0 : ((x5_1.length : Int) == 31) = true := beq_iff_eq.mpr c9
         have c9b1 : ((x5_1.length : Int) != 31) = false := bne_eq_false_iff_eq.mpr c9
         clear c9
         simp only [Option.some.injEq, Prod.mk.injEq] at H
         obtain ⟨rfl, rfl, rfl⟩ := H
         obtain ⟨Ao10, co10, eo10⟩ := Kd.R_slice HO_5.out
         subst eo10
         go_wp2
         go_ret3
         exact ⟨_, by first | rfl | (simp [errW_none, errW_some] <;> rfl) | (simp [*, errW_none, errW_some] <;> rfl), by first | exact Kd.R_nil _ _ _ _ _ | exact Kd.N_nil _ _ _ _ _ | exact Kd.V_nil _ _ _ _ _ | exact Kd.Q_nil _ _ _ _ _ | exact Kd.S_nil _ _ _ _ _, by repeat (first | (with_reducible first | exact HB.out | apply below_alloc | apply pw_below_drewN | apply below_drew1) | exact HB.out)⟩
        ·rw [if_neg c9] at H
         have c9b0 : ((x5_1.length : Int) == 31) = false := beq_eq_false_iff_ne.mpr c9
         have c9b1 : ((x5_1.length : Int) != 31) = true := bne_iff_ne.mpr c9
         by_cases c11 : 0 ≤ x6_1
         ·rw [if_pos c11] at H
          have c11b0 := eq_true c11
          have c11b1 : decide (0 ≤ x6_1) = true := decide_eq_true c11
          clear c11
          by_cases c12 : x6_1 ≤ x7_1
          ·rw [if_pos c12] at H
           have c12b0 := eq_true c12
           have c12b1 : decide (x6_1 ≤ x7_1) = true := decide_eq_true c12
           clear c12
           by_cases c13 : x7_1 ≤ (a0.size : Int)
           ·rw [if_pos c13] at H
            have c13b0 := eq_true c13
            have c13b1 : decide (x7_1 ≤ (a0.size : Int)) = true := decide_eq_true c13
            clear c13
            replace H := Option.bind_eq_some_iff.mp H
            obtain ⟨t102, A140, H⟩ := H
            replace H : (if t102 = 0 then (if x5_1.length < 8796093022208 then (depotref05_Split.l0 kj3 a0 (x5_1 ++ [a0.extract (x6_1 : Int).toNat (x7_1 : Int).toNat]) (wrap64 (x7_1 + 1)) (wrap64 (x7_1 + 1))) else (none)) else (some (([] : List ByteArray), t102, x6_1))) = some (r1, r2, r3) := H
            have A14 := Aside0.mk A140
            clear A140
            by_cases c15 : t102 = 0
            ·rw [if_pos c15] at H
             have c15b0 : (t102 == 0) = true := beq_iff_eq.mpr c15
             have c15b1 : (t102 != 0) = false := bne_eq_false_iff_eq.mpr c15
             clear c15
             have c16b0 := eq_true (of_decide_eq_true (by first | (with_reducible assumption) | assumption) : 0 ≤ x6_1)
             have c17b0 := eq_true (of_decide_eq_true (by first | (with_reducible assumption) | assumption) : x6_1 ≤ x7_1)
             have c18b0 := eq_true (of_decide_eq_true (by first | (with_reducible assumption) | assumption) : x7_1 ≤ (a0.size : Int))
             by_cases c19 : x5_1.length < 8796093022208
             ·rw [if_pos c19] at H
              have LMc19 := Aside0.mk c19
              clear c19
              obtain ⟨y103, hy103⟩ : ∃ y_ : List ByteArray, y_ = (x5_1 ++ [a0.extract (x6_1 : Int).toNat (x7_1 : Int).toNat]) := ⟨_, rfl⟩
              replace H : (depotref05_Split.l0 kj3 a0 y103 (wrap64 (x7_1 + 1)) (wrap64 (x7_1 + 1))) = some (r1, r2, r3) := by first | (rw [hy103]; with_reducible exact H) | (have H2_ := (Option.bind_some _ _).symm.trans H; rw [hy103]; with_reducible exact H2_) | (have H2_ := (Option.bind_some _ _).symm.trans H; with_reducible exact H2_) | with_reducible exact H | (rw [hy103]; exact H) | exact H
              have Ny103 := Aside0.mk hy103
              clear hy103
              have H' := Aside0.mk H
              clear H
              obtain ⟨Ao20, co20, eo20⟩ := Kd.R_slice HO_5.out
              subst eo20
              go_wp2_with (first | ((with_reducible refine gate_callee (f := 66) rfl ?_); refine goesL_ (some 35) rfl rfl Tryd.func66 (by kernel_rfl) rfl #[.string (a0.extract (x6_1 : Int).toNat (x7_1 : Int).toNat)] rfl (by (try simp only [List.map_toArray, List.map_cons, List.map_nil]); first | done | rfl | (simp only [List.length_drop, List.length_take]; rfl)) ?_; (with_reducible refine (depotref05_Check.calls (a0.extract (x6_1 : Int).toNat (x7_1 : Int).toNat) t102 _ A14.out).mono ?_); rintro e w21 ⟨rfl, hb⟩; refine ⟨_, rfl, ?_⟩; have n0_ := Aside0.mk (Kd.R_below (by (with_reducible repeat (first | apply Kd.R_alloc | apply Kd.R_drewN | apply Kd.R_drew)); exact HO_5.out) hb); have n1_ := Aside0.mk (below_step (by repeat (first | (with_reducible first | exact HB.out | apply below_alloc | apply pw_below_drewN | apply below_drew1) | exact HB.out)) hb); clear HO_5; clear HB; have HO_5 := n0_; have HB := n1_; clear n0_ n1_; (try clear hb); (try clear hb2); (try clear hk); (try clear hi)) | ((with_reducible refine gate_builtin (b := .append) (xs := #[.tmp 40, .tmp 45]) rfl ?_); at_builtin; refine Kd.R_append Kd.string (w0 := w) w.heap.size rfl (.tmp 40) (.tmp 45) 68 9 (.string ⟨#[]⟩) 16 rfl Tryd.underlying68 info9 rfl (by decide) (by omega) (.slice Ao20 x5_1.length co20) x5_1 (a0.extract (x6_1 : Int).toNat (x7_1 : Int).toNat) [.string (a0.extract (x6_1 : Int).toNat (x7_1 : Int).toNat)] (fun _ => True) (fun _ => False) rfl rfl ?aP (fun _ hk => hk.elim) ?aF ?aO ?aB ?aS ?aL ?_; (case aP => exact rfl); (case aB => exact (by repeat (first | (with_reducible first | exact HB.out | apply below_alloc | apply pw_below_drewN | apply below_drew1) | exact HB.out))); (case aF => exact (fun _ _ => trivial)); (case aO => exact (by (with_reducible repeat (first | apply Kd.R_alloc | apply Kd.R_drewN | apply Kd.R_drew)); exact HO_5.out)); (case aS => exact (below_size (by repeat (first | (with_reducible first | exact HB.out | apply below_alloc | apply pw_below_drewN | apply below_drew1) | exact HB.out)))); (case aL => have := LMc19.out; omega); intro v104 w22 ho hb hg hat; rw [← Ny103.out] at ho; have n0_ := Aside0.mk (hb); have n1_ := Aside0.mk (ho); clear HB; clear HO_5; have HB := n0_; have HO105 := n1_; clear n0_ n1_; clear ho hb hg hat))
              go_roundg kj3
              case measure => have := HK1.out; have := HJ3.out; omega
              case rel => exact ⟨(y103), (wrap64 (x7_1 + 1)), (wrap64 (x7_1 + 1)), (by first | rfl | (simp; done) | (simp [*]; done)), (by first | rfl | (simp; done) | (simp [*]; done)), H', ⟨by have := HK1.out; have := HJ3.out; omega⟩, ⟨by (with_reducible repeat (first | apply Kd.R_alloc | apply Kd.R_drewN | apply Kd.R_drew)); exact HO105.out⟩, ⟨by repeat (first | (with_reducible first | exact HB.out | apply below_alloc | apply pw_below_drewN | apply below_drew1) | exact HB.out)⟩⟩
             ·rw [if_neg c19] at H
              exact absurd H (by simp)
            ·rw [if_neg c15] at H
             have c15b0 : (t102 == 0) = false := beq_eq_false_iff_ne.mpr c15
             have c15b1 : (t102 != 0) = true := bne_iff_ne.mpr c15
             simp only [Option.some.injEq, Prod.mk.injEq] at H
             obtain ⟨rfl, rfl, rfl⟩ := H
             obtain ⟨Ao23, co23, eo23⟩ := Kd.R_slice HO_5.out
             subst eo23
             go_wp2_with (first | ((with_reducible refine gate_callee (f := 66) rfl ?_); refine goesL_ (some 35) rfl rfl Tryd.func66 (by kernel_rfl) rfl #[.string (a0.extract (x6_1 : Int).toNat (x7_1 : Int).toNat)] rfl (by (try simp only [List.map_toArray, List.map_cons, List.map_nil]); first | done | rfl | (simp only [List.length_drop, List.length_take]; rfl)) ?_; (with_reducible refine (depotref05_Check.calls (a0.extract (x6_1 : Int).toNat (x7_1 : Int).toNat) t102 _ A14.out).mono ?_); rintro e w24 ⟨rfl, hb⟩; refine ⟨_, rfl, ?_⟩; have n0_ := Aside0.mk (Kd.R_below (by (with_reducible repeat (first | apply Kd.R_alloc | apply Kd.R_drewN | apply Kd.R_drew)); exact HO_5.out) hb); have n1_ := Aside0.mk (below_step (by repeat (first | (with_reducible first | exact HB.out | apply below_alloc | apply pw_below_drewN | apply below_drew1) | exact HB.out)) hb); clear HO_5; clear HB; have HO_5 := n0_; have HB := n1_; clear n0_ n1_; (try clear hb); (try clear hb2); (try clear hk); (try clear hi)))
             go_ret3
             exact ⟨_, by first | rfl | (simp [errW_none, errW_some] <;> rfl) | (simp [*, errW_none, errW_some] <;> rfl), by first | exact Kd.R_nil _ _ _ _ _ | exact Kd.N_nil _ _ _ _ _ | exact Kd.V_nil _ _ _ _ _ | exact Kd.Q_nil _ _ _ _ _ | exact Kd.S_nil _ _ _ _ _, by repeat (first | (with_reducible first | exact HB.out | apply below_alloc | apply pw_below_drewN | apply below_drew1) | exact HB.out)⟩
           ·rw [if_neg c13] at H
            exact absurd H (by simp)
          ·rw [if_neg c12] at H
           exact absurd H (by simp)
         ·rw [if_neg c11] at H
          exact absurd H (by simp)
    ·rw [if_neg c3] at H
     have c3b0 : decide (x7_1 ≤ (a0.size : Int)) = false := decide_eq_false c3
     clear c3
     simp only [Option.some.injEq, Prod.mk.injEq] at H
     obtain ⟨rfl, rfl, rfl⟩ := H
     go_wp2
     go_ret3
     exact ⟨_, by first | rfl | (simp [errW_none, errW_some] <;> rfl) | (simp [*, errW_none, errW_some] <;> rfl), by (with_reducible repeat (first | apply Kd.R_alloc | apply Kd.R_drewN | apply Kd.R_drew)); exact HO_5.out, by repeat (first | (with_reducible first | exact HB.out | apply below_alloc | apply pw_below_drewN | apply below_drew1) | exact HB.out)⟩
def depotref06_begins.l0 : Nat → List ByteArray → List ByteArray → Int → Option (Bool)
 | 0, _, _, _ => none
 | k + 1, x0, x1, x5 => if x5 < (x1.length : Int) then (if 0 ≤ x5 then (if x5 < (x0.length : Int) then (if (rdOf ByteArray.empty x0 x5).toList = (rdOf ByteArray.empty x1 x5).toList then (depotref06_begins.l0 k x0 x1 (wrap64 (x5 + 1))) else (some false)) else (none)) else (none)) else (some true)
def depotref06_begins.f (k : Nat) (l0 : List ByteArray) (l1 : List ByteArray) : Option (Bool) := if (l0.length : Int) < (l1.length : Int) then (some false) else (depotref06_begins.l0 k l0 l1 0)
theorem depotref06_begins.mono_l : ∀ k, (∀ y0 y1 y2, LeO (depotref06_begins.l0 k y0 y1 y2) (depotref06_begins.l0 (k + 1) y0 y1 y2))
 | 0 => fun _ _ _ r h => by simp [depotref06_begins.l0] at h
 | k + 1 => by
  have ih0 := depotref06_begins.mono_l k
  ·intro y0 y1 y2
   unfold depotref06_begins.l0
   repeat' first
   | (with_reducible exact ih0 _ _ _)
   | (with_reducible exact LeO.refl _)
   | (with_reducible exact LeO.none _)
   | (with_reducible refine LeO.ite ?_ ?_)
   | (with_reducible refine LeO.bind ?_ (fun _ => ?_))
   | exact ih0 _ _ _
   | exact LeO.none _
   | refine LeO.ite ?_ ?_
   | refine LeO.bind ?_ (fun _ => ?_)
theorem depotref06_begins.mono : ∀ a0 a1 k, LeO (depotref06_begins.f k a0 a1) (depotref06_begins.f (k + 1) a0 a1) := by
 intro a0 a1 k
 have ih0 := depotref06_begins.mono_l k
 unfold depotref06_begins.f
 repeat' first
   | (with_reducible exact ih0 _ _ _)
   | (with_reducible exact LeO.refl _)
   | (with_reducible exact LeO.none _)
   | (with_reducible refine LeO.ite ?_ ?_)
   | (with_reducible refine LeO.bind ?_ (fun _ => ?_))
   | exact ih0 _ _ _
   | exact LeO.none _
   | refine LeO.ite ?_ ?_
   | refine LeO.bind ?_ (fun _ => ?_)
set_option maxHeartbeats 8000000 in
set_option maxRecDepth 100000 in
theorem depotref06_begins.calls (k : Nat) (A0 : Option Addr) (c0 : Nat) (l0 : List ByteArray) (A1 : Option Addr) (c1 : Nat) (l1 : List ByteArray) (r : Bool) (w : World) (hr0 : Kd.C Kd.string w A0 l0.length l0) (hc0 : l0.length ≤ c0) (hr1 : Kd.C Kd.string w A1 l1.length l1) (hc1 : l1.length ≤ c1) (h : depotref06_begins.f k l0 l1 = some r) :
  Calls Tryd.prog 58 #[.slice A0 l0.length c0, .slice A1 l1.length c1] w fun e w' => e = .returned (.bool r) ∧ Drawn0 w w' := by
 have HR0 := Aside0.mk hr0
 have HC0 := Aside0.mk hc0
 clear hr0 hc0
 have HR1 := Aside0.mk hr1
 have HC1 := Aside0.mk hc1
 clear hr1 hc1
 have H : (if (l0.length : Int) < (l1.length : Int) then (some false) else (depotref06_begins.l0 k l0 l1 0)) = some r := h
 clear h
 by_cases c3 : (l0.length : Int) < (l1.length : Int)
 ·rw [if_pos c3] at H
  have c3b0 : decide ((l0.length : Int) < (l1.length : Int)) = true := decide_eq_true c3
  have c3b1 : decide (l0.length < l1.length) = true := decide_eq_true (Int.ofNat_lt.mp c3)
  clear c3
  obtain rfl := Option.some.inj H
  go_enter Tryd.func58, Tryd.ntmps58
  go_wp2
  repeat (go_quiet (fail); try go_wp2)
  go_ret
  exact ⟨by first | rfl | (simp; done) | (simp [*]; done), by repeat (first | exact Drawn0.refl _ | apply Drawn0.step)⟩
 ·rw [if_neg c3] at H
  have c3b0 : decide ((l0.length : Int) < (l1.length : Int)) = false := decide_eq_false c3
  have c3b1 : decide (l0.length < l1.length) = false := decide_eq_false (fun h => c3 (Int.ofNat_lt.mpr h))
  clear c3
  have H' := Aside0.mk H
  clear H
  go_enter Tryd.func58, Tryd.ntmps58
  go_wp2
  repeat (go_quiet (fail); try go_wp2)
  go_loopg [5] k (fun kq v5 w' => ∃ (x5_1 : Int), v5 = .int .i64 x5_1 ∧ Aside0 (depotref06_begins.l0 kq l0 l1 x5_1 = some r) ∧ Aside0 (kq ≤ k) ∧ Drawn0 w w')
  case atStart => exact ⟨(0), (by first | rfl | (simp; done) | (simp [*]; done)), H', ⟨Nat.le_refl _⟩, by repeat (first | exact Drawn0.refl _ | apply Drawn0.step)⟩
  case round =>
   clear H'
   try clear c1
   try clear p2
   try clear c3
   try clear c3b0
   try clear c3b1
   obtain ⟨x5_1, rfl, HA, HK1, ⟨m1, rfl⟩⟩ := hrel
   cases gk with
   | zero => exact absurd HA.out (by simp [depotref06_begins.l0])
   | succ k1 =>
    have H := HA.out
    clear HA
    simp only [depotref06_begins.l0] at H
    by_cases c4 : x5_1 < (l1.length : Int)
    ·rw [if_pos c4] at H
     have c4b0 : decide (x5_1 < (l1.length : Int)) = true := decide_eq_true c4
     clear c4
     by_cases c5 : 0 ≤ x5_1
     ·rw [if_pos c5] at H
      have c5b0 : decide (0 ≤ x5_1) = true := decide_eq_true c5
      clear c5
      by_cases c6 : x5_1 < (l0.length : Int)
      ·rw [if_pos c6] at H
       have c6b0 : decide (x5_1 < (l0.length : Int)) = true := decide_eq_true c6
       clear c6
       by_cases c7 : (rdOf ByteArray.empty l0 x5_1).toList = (rdOf ByteArray.empty l1 x5_1).toList
       ·rw [if_pos c7] at H
        have c7b0 : ((rdOf ByteArray.empty l0 x5_1).toList == (rdOf ByteArray.empty l1 x5_1).toList) = true := beq_iff_eq.mpr c7
        have c7b1 : ((rdOf ByteArray.empty l0 x5_1).toList != (rdOf ByteArray.empty l1 x5_1).toList) = false := bne_eq_false_iff_eq.mpr c7
        clear c7
        have H' := Aside0.mk H
        clear H
        have p106 : 0 ≤ (x5_1 : Int) := of_decide_eq_true (by first | (with_reducible assumption) | assumption)
        have q106 : x5_1 < (l0.length : Int) := of_decide_eq_true (by first | (with_reducible assumption) | assumption)
        obtain ⟨ad106, e106, hx106_0⟩ := Kd.at_string HR0.out x5_1 p106 q106
        cases e106
        replace p106 := eq_true p106
        replace q106 := eq_true q106
        have p107 : 0 ≤ (x5_1 : Int) := of_decide_eq_true (by first | (with_reducible assumption) | assumption)
        have q107 : x5_1 < (l1.length : Int) := of_decide_eq_true (by first | (with_reducible assumption) | assumption)
        obtain ⟨ad107, e107, hx107_0⟩ := Kd.at_string HR1.out x5_1 p107 q107
        cases e107
        replace p107 := eq_true p107
        replace q107 := eq_true q107
        go_wp2
        repeat (go_quiet (fail); try go_wp2)
        go_roundg k1
        case measure => have := HK1.out; omega
        case rel => exact ⟨(wrap64 (x5_1 + 1)), (by first | rfl | (simp; done) | (simp [*]; done)), H', ⟨by have := HK1.out; omega⟩, by repeat (first | exact Drawn0.refl _ | apply Drawn0.step)⟩
       ·rw [if_neg c7] at H
        have c7b0 : ((rdOf ByteArray.empty l0 x5_1).toList == (rdOf ByteArray.empty l1 x5_1).toList) = false := beq_eq_false_iff_ne.mpr c7
        have c7b1 : ((rdOf ByteArray.empty l0 x5_1).toList != (rdOf ByteArray.empty l1 x5_1).toList) = true := bne_iff_ne.mpr c7
        obtain rfl := Option.some.inj H
        have p106 : 0 ≤ (x5_1 : Int) := of_decide_eq_true (by first | (with_reducible assumption) | assumption)
        have q106 : x5_1 < (l0.length : Int) := of_decide_eq_true (by first | (with_reducible assumption) | assumption)
        obtain ⟨ad106, e106, hx106_0⟩ := Kd.at_string HR0.out x5_1 p106 q106
        cases e106
        replace p106 := eq_true p106
        replace q106 := eq_true q106
        have p107 : 0 ≤ (x5_1 : Int) := of_decide_eq_true (by first | (with_reducible assumption) | assumption)
        have q107 : x5_1 < (l1.length : Int) := of_decide_eq_true (by first | (with_reducible assumption) | assumption)
        obtain ⟨ad107, e107, hx107_0⟩ := Kd.at_string HR1.out x5_1 p107 q107
        cases e107
        replace p107 := eq_true p107
        replace q107 := eq_true q107
        go_wp2
        repeat (go_quiet (fail); try go_wp2)
        go_ret
        exact ⟨by first | rfl | (simp; done) | (simp [*]; done), by repeat (first | exact Drawn0.refl _ | apply Drawn0.step)⟩
      ·rw [if_neg c6] at H
       exact absurd H (by simp)
     ·rw [if_neg c5] at H
      exact absurd H (by simp)
    ·rw [if_neg c4] at H
     have c4b0 : decide (x5_1 < (l1.length : Int)) = false := decide_eq_false c4
     clear c4
     obtain rfl := Option.some.inj H
     go_wp2
     repeat (go_quiet (fail); try go_wp2)
     go_ret
     exact ⟨by first | rfl | (simp; done) | (simp [*]; done), by repeat (first | exact Drawn0.refl _ | apply Drawn0.step)⟩
end
end Go.Proofs.YtnemeeidomceiaaDoor.PGTreeGets
end
section
namespace Go.Proofs.YtnemeeidomceiaaDoor
open Go.RowKit Go.Proofs.YtnemeeidomceiaaDoorW.PrintWords Go.Proofs.YtnemeeidomceiaaDoorW.PrintLast Go.Proofs.YtnemeeidomceiaaDoorW.PrintMore
set_option linter.unusedVariables false
set_option linter.unusedSimpArgs false
end Go.Proofs.YtnemeeidomceiaaDoor
end
section
namespace Go.Proofs.YtnemeeidomceiaaDoor
open Go.RowKit Go.Proofs.YtnemeeidomceiaaDoorW.PrintWords Go.Proofs.YtnemeeidomceiaaDoorW.PrintLast Go.Proofs.YtnemeeidomceiaaDoorW.PrintMore
set_option linter.unusedVariables false
set_option linter.unusedSimpArgs false
inductive Small : List Ent → Prop
 | mk {l : List Ent} (n : l.length ≤ 1048576) (k : ∀ x : Ent, x ∈ l → Small x.f4) : Small l
theorem Small.at_ {l : List Ent} (h : Small l) : l.length ≤ 1048576 ∧ ∀ x : Ent, x ∈ l → Small x.f4 := by
 cases h with
 | mk n k => exact ⟨n, k⟩
theorem set5 (P Q : List Value) (s0 s1 s2 s3 s4 z a b c d : Value) : (((((P ++ [s0, s1, s2, s3, s4] ++ Q).set P.length z).set (P.length + 1) a).set (P.length + 2) b).set (P.length + 3) c).set (P.length + 4) d = P ++ [z, a, b, c, d] ++ Q := by
 simp [List.set_append]
theorem fl_store5 (ts : List Kid) (i : Nat) (t : Kid) (ht : ts[i]? = some t) (x : Ent) (u : Value) (f : Nat → Prop) :
  (((((fl ts).set (i * 5) (.string x.f0)).set (i * 5 + 1) (.int .i64 x.f1)).set (i * 5 + 2) (.bool x.f2)).set (i * 5 + 3) (.string x.f3)).set (i * 5 + 4) u = fl (ts.set i ⟨x, u, f⟩) := by
 obtain ⟨hi, hte⟩ := List.getElem?_eq_some_iff.1 ht
 have hP : (fl (ts.take i)).length = i * 5 := by rw [fl_len, List.length_take, Nat.min_eq_left (Nat.le_of_lt hi)]
 have e1 : fl ts = fl (ts.take i) ++ ecells t.x t.u ++ fl (ts.drop (i + 1)) := by
  conv => lhs; rw [← List.take_append_drop i ts, fl_append, List.drop_eq_getElem_cons hi, hte]
  rw [fl, List.append_assoc]
 rw [fl_set ts i _ hi, fl_take ts i (Nat.le_of_lt hi), fl_drop ts (i + 1) hi, e1, ← hP]
 exact set5 _ _ _ _ _ _ _ _ _ _ _ _
def put5 (w : World) (g i : Nat) (x : Ent) (u : Value) : World := ((((w.setCell ⟨g, i * 5, none⟩ (.string x.f0)).setCell ⟨g, i * 5 + 1, none⟩ (.int .i64 x.f1)).setCell ⟨g, i * 5 + 2, none⟩ (.bool x.f2)).setCell ⟨g, i * 5 + 3, none⟩ (.string x.f3)).setCell ⟨g, i * 5 + 4, none⟩ u
theorem put5_upd (w : World) (g i : Nat) (x : Ent) (u : Value) : Upd (fun k => k = g) w (put5 w g i x u) :=
 ((((Upd.setCell (S := fun k => k = g) (p := ⟨g, i * 5, none⟩) (.inl rfl) _).trans (Upd.setCell (S := fun k => k = g) (p := ⟨g, i * 5 + 1, none⟩) (.inl rfl) _) (fun k hk => .inl hk)).trans (Upd.setCell (S := fun k => k = g) (p := ⟨g, i * 5 + 2, none⟩) (.inl rfl) _) (fun k hk => .inl hk)).trans (Upd.setCell (S := fun k => k = g) (p := ⟨g, i * 5 + 3, none⟩) (.inl rfl) _) (fun k hk => .inl hk)).trans (Upd.setCell (S := fun k => k = g) (p := ⟨g, i * 5 + 4, none⟩) (.inl rfl) _) (fun k hk => .inl hk)
theorem OwnP.over {w w2 : World} {base : Nat} {ok okn : Nat → Prop} {g n c i : Nat} {ts : List Kid} {td : Kid} (h : OwnP w base ok (.slice (some ⟨g, 0, none⟩) n c) ts) (hlt : ∀ k, ok k → k < w.heap.size) (htd : ts[i]? = some td) (hU : Upd td.f w w2) (x : Ent) (hx : x.f4 = []) (hn : n = ts.length) (hok : ∀ k, ok k → okn k) (hfresh : ∀ k, w.heap.size ≤ k → okn k) :
  Own (put5 w2 g i x (.slice none 0 0)) base okn (.slice (some ⟨g, 0, none⟩) n c) ((ts.map (·.x)).set i x) := by
 have hi := (List.getElem?_eq_some_iff.1 htd).1
 have hgn : ¬ td.f g := fun hf => (h.inn td (List.mem_of_getElem? htd) g hf).2 rfl
 have hrow2 : w2.ownsRow base eE 5 (.slice (some ⟨g, 0, none⟩) n c) ts.length (fl ts) := own_move h.row (fun k hk => by
  have : g = k := by simpa [Value.ownBlock] using hk
  rw [← this]
  exact hU.block g (hlt g (h.own g rfl)) hgn)
 have hrow3 : (put5 w2 g i x (.slice none 0 0)).ownsRow base eE 5 (.slice (some ⟨g, 0, none⟩) n c) ts.length (fl (ts.set i ⟨x, .slice none 0 0, fun _ => False⟩)) := by
  rw [← fl_store5 ts i td htd]
  subst hn
  exact own_setAt (own_setAt (own_setAt (own_setAt (own_setAt hrow2 _ (by omega) _) _ (by omega) _) _ (by omega) _) _ (by omega) _) _ (by omega) _
 have hU23 := put5_upd w2 g i x (.slice none 0 0)
 have h1 := h.put (w2 := w2) (okn := okn) hlt i td ⟨x, .slice none 0 0, fun _ => False⟩ htd hU (by show Own w2 base _ _ x.f4; rw [hx]; exact Own.nil _ _ _) (fun k hk => hk.elim) hrow3 ⟨hU23.os, hU23.tape, hU23.output, hU23.size, fun k hk hn => hU23.block k hk (fun e => hn (by rw [e]; rfl))⟩ hok hfresh
 rw [List.map_set] at h1
 exact h1
theorem OwnP.at_ {w : World} {base : Nat} {ok : Nat → Prop} {A : Option Addr} {n c i : Nat} {ts : List Kid} {td : Kid} (h : OwnP w base ok (.slice A n c) ts) (htd : ts[i]? = some td) :
  ∃ g A6 c6 cur, A = some ⟨g, 0, none⟩ ∧ td.u = .slice A6 td.x.f4.length c6 ∧ td.x.f4.length ≤ c6 ∧ w.heap[g]? = some (.cells cur eE (0, 0)) ∧ ok g ∧ ∀ j, j < 5 → cur[i * 5 + j]? = (ecells td.x (.slice A6 td.x.f4.length c6))[j]? := by
 have hi := (List.getElem?_eq_some_iff.1 htd).1
 have hrow := h.row
 rcases hrow.2 with ⟨_, h0⟩ | ⟨g, cap, cur, hv, hbg, hg, _⟩
 ·omega
 injection hv with hv1 hv2 hv3
 subst hv1
 obtain ⟨A6, c6, hu6, hl6⟩ := (h.sub td (List.mem_of_getElem? htd)).slice
 refine ⟨g, A6, c6, cur, rfl, hu6, hl6, hg, h.own g rfl, fun j hj => ?_⟩
 have h1 := fl_at ts i td htd j hj
 obtain ⟨u, hu⟩ : ∃ u, (ecells td.x td.u)[j]? = some u := ⟨_, List.getElem?_eq_getElem (by rw [ecells_len]; exact hj)⟩
 have h2 := hrow.cells (g := g) rfl (i * 5 + j) u (by rw [h1, hu])
 rw [add_plain, cell_of_row w g (i * 5 + j) cur _ _ hg] at h2
 rw [h2, ← hu6, hu]
end Go.Proofs.YtnemeeidomceiaaDoor
end
section
namespace Go.Proofs.YtnemeeidomceiaaDoor
open Go.RowKit Go.Proofs.YtnemeeidomceiaaDoorW.PrintWords Go.Proofs.YtnemeeidomceiaaDoorW.PrintLast Go.Proofs.YtnemeeidomceiaaDoorW.PrintMore
set_option linter.unusedVariables false
set_option linter.unusedSimpArgs false
def lastAt (f : List Ent → List Ent) : Nat → List Ent → List Ent
 | 0, l => f l
 | k + 1, l => match l.getLast? with
  | none => l
  | some x => l.dropLast ++ [⟨x.f0, x.f1, x.f2, x.f3, lastAt f k x.f4⟩]
def spineN : Nat → NodeT → Option NodeT
 | 0, n => some n
 | k + 1, n => match n.2.2.2.getLast? with
  | none => none
  | some x => spineN k (nodeOf x)
inductive SpP (W : World) : Value → List Ent → List Addr → Prop
 | nil (v : Value) (l : List Ent) : SpP W v l []
 | cons {g c : Nat} {l : List Ent} {x : Ent} {u : Value} {ps : List Addr} (hl : l.getLast? = some x) (hu : W.cell? ⟨g, (l.length - 1) * 5 + 4, none⟩ = some u) (h : SpP W u x.f4 ps) : SpP W (.slice (some ⟨g, 0, none⟩) l.length c) l (⟨g, (l.length - 1) * 5 + 1, none⟩ :: ps)
theorem SpP.of {W W2 : World} (hU : ∀ g c j, W.cell? ⟨g, j, none⟩ = some c → W2.cell? ⟨g, j, none⟩ = some c) : ∀ {v : Value} {l : List Ent} {ps : List Addr}, SpP W v l ps → SpP W2 v l ps := by
 intro v l ps h
 induction h with
 | nil v l => exact .nil v l
 | cons hl hu _ ih => exact .cons hl (hU _ _ _ hu) ih
end Go.Proofs.YtnemeeidomceiaaDoor
end
section
namespace Go.Proofs.YtnemeeidomceiaaDoor
open Go.RowKit Go.Proofs.YtnemeeidomceiaaDoorW.PrintWords Go.Proofs.YtnemeeidomceiaaDoorW.PrintLast Go.Proofs.YtnemeeidomceiaaDoorW.PrintMore
set_option linter.unusedVariables false
set_option linter.unusedSimpArgs false
section
variable {W W' w' : World} {b : Nat} {A As A' : Option Addr} {c cs c' : Nat} {k k1 sk k' x : Int} {e e1 se e' : Bool} {t t1 st t' p path : ByteArray} {l l1 sl l' : List Ent} {o : Ending}
structure NB (W : World) (b : Nat) (A : Option Addr) (c : Nat) (k : Int) (e : Bool) (t : ByteArray) (l : List Ent) : Prop where
 blk : Blk W b 32 [.int .i64 k, .bool e, .string t, .slice A l.length c]
 len : l.length ≤ c
 row : Kd.C kE W A l.length l
theorem NB.below (h : NB W b A c k e t l) (hb : Below W.heap.size W W') : NB W' b A c k e t l := ⟨h.blk.below hb, h.len, Kd.C_below h.row hb⟩
theorem NB.new {W : World} (hl : l.length ≤ c) (hC : Kd.C kE W A l.length l) : NB (W.alloc (.cells #[.int .i64 k, .bool e, .string t, .slice A l.length c] 32)) W.heap.size A c k e t l :=
 ⟨Blk.new W _ [.int .i64 k, .bool e, .string t, .slice A l.length c], hl, Kd.C_below hC (below_alloc (Below.refl _ _) _)⟩
def Made (W : World) (k : Int) (e : Bool) (t : ByteArray) (l : List Ent) (x : Int) (o : Ending) (w' : World) : Prop :=
 ∃ A c, o = .returned (.tuple #[.agg #[.int .i64 k, .bool e, .string t, .slice A l.length c], .int .i64 x]) ∧ (l.length ≤ c ∧ Kd.C kE w' A l.length l) ∧ Below W.heap.size W w'
theorem TreePost.made {r : NodeT × Int} (h : TreePost W r o w') (hr : r = ((k, e, t, l), x)) : Made W k e t l x o w' := by
 subst hr
 obtain ⟨v, hv, hR⟩ := h.read
 have hb := h.below
 obtain ⟨A, c, rfl, hc, hC⟩ := Kd.R_reads hR
 exact ⟨A, c, hv, ⟨hc, hC⟩, hb⟩
theorem get_to (h : getP (k, e, t, l) path = ((k1, e1, t1, l1), x)) (hg : Good (k, e, t, l)) (hp : path.size ≤ 140737488351232) (hC : Kd.C kE W A l.length l) (hc : l.length ≤ c) :
  Calls Tryd.prog 16 #[.agg #[.int .i64 k, .bool e, .string t, .slice A l.length c], .string path] W (Made W k1 e1 t1 l1 x) :=
 (get_calls (k, e, t, l) path A c W hC hc hg.1 hg.2 hp).mono fun _ _ hh => hh.made h
theorem cut_to (h : cutP k e t l path = ((k1, e1, t1, l1), x)) (hg : Good (k, e, t, l)) (hp : path.size ≤ 140737488351232) (hC : Kd.C kE W A l.length l) (hc : l.length ≤ c) :
  Calls Tryd.prog 18 #[.agg #[.int .i64 k, .bool e, .string t, .slice A l.length c], .string path] W (Made W k1 e1 t1 l1 x) :=
 (cut_calls k e t l path A c W hC hc hg.1 hg.2 hp).mono fun _ _ hh => hh.made h
theorem eq_to (h : (k, e, t, l) = (k', e', t', l')) (hf : Fit l) (hC : Kd.C kE W A l.length l) (hc : l.length ≤ c) (hC' : Kd.C kE W A' l'.length l') (hc' : l'.length ≤ c') :
  Calls Tryd.prog 13 #[.agg #[.int .i64 k, .bool e, .string t, .slice A l.length c], .agg #[.int .i64 k', .bool e', .string t', .slice A' l'.length c']] W fun o w' => o = .returned (.bool true) ∧ Below W.heap.size W w' :=
 (refEq_calls l hf k e t A c k' e' t' l' A' c' W hC hc hC' hc').mono fun _ _ ⟨b, ho, hb, hw⟩ => ⟨by rw [ho, hb.2 h], hw⟩
end
end Go.Proofs.YtnemeeidomceiaaDoor
end
