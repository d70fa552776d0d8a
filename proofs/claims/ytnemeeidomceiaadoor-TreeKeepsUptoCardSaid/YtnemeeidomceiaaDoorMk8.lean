import Derived.Test.YtnemeeidomceiaaDoorMk3
import Derived.Test.YtnemeeidomceiaaDoorMk4
import Derived.Test.YtnemeeidomceiaaDoorMk6
import Derived.Test.YtnemeeidomceiaaDoorMk7
import Derived.BigQuiet
import Derived.Deep.QuietTactic
set_option linter.unusedSimpArgs false
set_option linter.unusedVariables false
section
namespace Go.Proofs.YtnemeeidomceiaaDoor
open Go.RowKit Go.Proofs.YtnemeeidomceiaaDoorW.PrintWords Go.Proofs.YtnemeeidomceiaaDoorW.PrintLast Go.Proofs.YtnemeeidomceiaaDoorW.PrintMore
set_option linter.unusedVariables false
set_option linter.unusedSimpArgs false
/-- Every row of the tree is of rising names. -/
inductive AllR : List Ent → Prop
  | mk {l : List Ent} (h : Rising l) (n : l.length ≤ 1048576) (k : ∀ x : Ent, x ∈ l → AllR x.f4) : AllR l
/-- The kids with those of the last name's directory as act makes them; the error's number. -/
def chN (act : List Ent → Nat → Bool → ByteArray → List Ent × Int) : List ByteArray → Int → List Ent → List Ent × Int
  | [], _, l => (l, 0)
  | s :: r, k, l =>
    if k ≠ 3 then ([], 65)
    else if r = [] then (if (act l (rk l s) (hasN l s) s).2 ≠ 0 then ([], (act l (rk l s) (hasN l s) s).2) else ((act l (rk l s) (hasN l s) s).1, 0))
    else match (if hasN l s = true then l[rk l s]? else none) with
      | none => ([], 3)
      | some x => if (chN act r x.f1 x.f4).2 ≠ 0 then ([], (chN act r x.f1 x.f4).2) else (l.set (rk l s) { x with f4 := (chN act r x.f1 x.f4).1 }, 0)
structure CutPost (base : Nat) (ok : Nat → Prop) (w : World) (k : Int) (e : Bool) (t : ByteArray) (r : List Ent × Int) (o : Ending) (w' : World) : Prop where
  upd : Upd ok w w'
  yes : r.2 = 0 → ∃ v', o = .returned (.tuple #[.agg #[.int .i64 k, .bool e, .string t, v'], .int .i64 0]) ∧ Own w' base (fun j => ok j ∨ w.heap.size ≤ j) v' r.1
  no : r.2 ≠ 0 → o = .returned (.tuple #[.agg #[.int .i64 0, .bool false, .string ⟨#[]⟩, .slice none 0 0], .int .i64 r.2])
theorem AllR.at {l : List Ent} (h : AllR l) {i : Nat} {x : Ent} (hx : l[i]? = some x) : AllR x.f4 := by
  cases h with
  | mk h n k => exact k x (List.mem_of_getElem? hx)
theorem AllR.rises {l : List Ent} (h : AllR l) : Rising l ∧ l.length ≤ 1048576 := by
  cases h with
  | mk h n k => exact ⟨h, n⟩
theorem hasN_at {l : List Ent} {s : ByteArray} (h : hasN l s = true) : ∃ x, l[rk l s]? = some x ∧ x.f0 = s := by
  unfold hasN at h
  split at h
  · rename_i x hx
    exact ⟨x, hx, (cmpB_zero _ _).1 (of_decide_eq_true h)⟩
  · cases h
/-- The names that are left: their row is none of the tree's. -/
abbrev NamesF (w : World) (ok : Nat → Prop) (A : Option Addr) (ns : List ByteArray) : Prop := Kd.F Kd.string w (fun j => ¬ ok j ∧ j < w.heap.size) A ns.length ns
theorem cells4 {w : World} {b : Nat} {q : TypeId} {a c d e : Value} (h : Blk w b q [a, c, d, e]) : w.cell? ⟨b, 0, none⟩ = some a ∧ w.cell? ⟨b, 1, none⟩ = some c ∧ w.cell? ⟨b, 2, none⟩ = some d ∧ w.cell? ⟨b, 3, none⟩ = some e :=
  ⟨h.cell 0 _ rfl, h.cell 1 _ rfl, h.cell 2 _ rfl, h.cell 3 _ rfl⟩
section
variable {w W : World} {b base : Nat} {okn S : Nat → Prop} {v : Value} {l : List Ent} {a0 a1 a2 a3 c0 c1 c2 c3 : Value}
theorem put4_upd (hU : Upd S w W) (hb : w.heap.size ≤ b) : Upd S w ((((W.setCell ⟨b, 0, none⟩ c0).setCell ⟨b, 1, none⟩ c1).setCell ⟨b, 2, none⟩ c2).setCell ⟨b, 3, none⟩ c3) :=
  (((hU.trans (Upd.setCell (S := fun k => k = b) (p := ⟨b, 0, none⟩) (.inl rfl) c0) (fun k hk => .inr (by omega))).trans (Upd.setCell (S := fun k => k = b) (p := ⟨b, 1, none⟩) (.inl rfl) c1) (fun k hk => .inr (by omega))).trans (Upd.setCell (S := fun k => k = b) (p := ⟨b, 2, none⟩) (.inl rfl) c2) (fun k hk => .inr (by omega))).trans (Upd.setCell (S := fun k => k = b) (p := ⟨b, 3, none⟩) (.inl rfl) c3) (fun k hk => .inr (by omega))
theorem put4_blk (hb : Blk W b 32 [a0, a1, a2, a3]) : Blk ((((W.setCell ⟨b, 0, none⟩ c0).setCell ⟨b, 1, none⟩ c1).setCell ⟨b, 2, none⟩ c2).setCell ⟨b, 3, none⟩ c3) b 32 [c0, c1, c2, c3] :=
  blk_put (cs := #[c0, c1, c2, a3]) (blk_put (cs := #[c0, c1, a2, a3]) (blk_put (cs := #[c0, a1, a2, a3]) (blk_put (cs := #[a0, a1, a2, a3]) hb 0 _ rfl) 1 _ rfl) 2 _ rfl) 3 _ rfl
theorem put4_own (h : Own W base okn v l) (hb : Blk W b 32 [a0, a1, a2, a3]) : Own ((((W.setCell ⟨b, 0, none⟩ c0).setCell ⟨b, 1, none⟩ c1).setCell ⟨b, 2, none⟩ c2).setCell ⟨b, 3, none⟩ c3) base okn v l := by
  have k1 : Blk (W.setCell ⟨b, 0, none⟩ c0) b 32 [c0, a1, a2, a3] := blk_put (cs := #[a0, a1, a2, a3]) hb 0 _ rfl
  have k2 : Blk ((W.setCell ⟨b, 0, none⟩ c0).setCell ⟨b, 1, none⟩ c1) b 32 [c0, c1, a2, a3] := blk_put (cs := #[c0, a1, a2, a3]) k1 1 _ rfl
  have k3 : Blk (((W.setCell ⟨b, 0, none⟩ c0).setCell ⟨b, 1, none⟩ c1).setCell ⟨b, 2, none⟩ c2) b 32 [c0, c1, c2, a3] := blk_put (cs := #[c0, c1, a2, a3]) k2 2 _ rfl
  exact (((h.set hb (by decide) 0 c0).set k1 (by decide) 1 c1).set k2 (by decide) 2 c2).set k3 (by decide) 3 c3
end
theorem names_at {w W : World} {ok S : Nat → Prop} {ad : Addr} {s : ByteArray} {r : List ByteArray} (hN : NamesF w ok (some ad) (s :: r)) (hU : Upd S w W) (hS : ∀ k, S k → ok k) : W.cell? ad = some (.string s) := by
  have hC := Kd.F_now (Kd.F_step hN (fun k hk hlt => hU.block k hlt (fun h => hk.1 (hS k h))))
  obtain ⟨ad2, hA, hc0⟩ := Kd.at_string hC 0 (Int.le_refl _) (by rw [List.length_cons]; omega)
  injection hA with hA
  subst hA
  replace hc0 : W.cell? (ad.add 0) = some (.string s) := hc0
  rw [Addr.add_zero'] at hc0
  exact hc0
theorem names_ad {w : World} {ok : Nat → Prop} {A : Option Addr} {s : ByteArray} {r : List ByteArray} (hN : NamesF w ok A (s :: r)) : ∃ ad, A = some ad := by
  obtain ⟨ad2, hA, hc0⟩ := Kd.at_string (Kd.F_now hN) 0 (Int.le_refl _) (by rw [List.length_cons]; omega)
  exact ⟨ad2, hA⟩
set_option maxHeartbeats 4000000 in
set_option maxRecDepth 100000 in
theorem change_calls (fA : Nat) (fnA : Func) (hfA : Tryd.prog.funcs[fA]? = some fnA) (hnA : (fnA.name == "runtime.NumGoroutine") = false) (hbA : fnA.body.isSome = true) (capA : Array Value) (act : List Ent → Nat → Bool → ByteArray → List Ent × Int) (base : Nat) (Inv : World → Prop)
    (hInv : ∀ w w', Inv w → Below base w w' → Inv w')
    (hAct : ∀ (l : List Ent) (s : ByteArray) (v : Value) (w : World) (ok : Nat → Prop), Own w base ok v l → AllR l → base ≤ w.heap.size → Inv w → (∀ k, ok k → base ≤ k ∧ k < w.heap.size) →
      Calls Tryd.prog fA (#[v, .int .i64 (rk l s), .bool (hasN l s), .string s] ++ capA) w fun o w' => ∃ v', o = .returned (.tuple #[v', .int .i64 (act l (rk l s) (hasN l s) s).2]) ∧ Own w' base (fun k => ok k ∨ w.heap.size ≤ k) v' (act l (rk l s) (hasN l s) s).1 ∧ Upd ok w w') : ∀ (ns : List ByteArray) (k : Int) (e : Bool) (t : ByteArray) (v : Value) (l : List Ent) (A : Option Addr) (c : Nat) (w : World) (ok : Nat → Prop), Own w base ok v l → AllR l → base ≤ w.heap.size → Inv w → NamesF w ok A ns → ns.length ≤ c →
    Calls Tryd.prog 44 #[.agg #[.int .i64 k, .bool e, .string t, v], .slice A ns.length c, .func (.func fA) #[] capA] w (CutPost base ok w k e t (chN act ns k l)) := by
  have HACT := Aside0.mk hAct
  have HINV := Aside0.mk hInv
  clear hAct hInv
  intro ns
  induction ns with
  | nil =>
    intro k e t v l A c w ok hO hR hbs hiv hN hc
    have HO := Aside0.mk hO
    obtain ⟨A4, c4, hv, hlc⟩ := hO.slice
    subst hv
    clear hO hR hN hc hiv hbs
    go_enter Tryd.func44, Tryd.ntmps44
    go_wp2_with fail
    have hb : Below w.heap.size w ((w.alloc (.cells #[.int .i64 k, .bool e, .string t, .slice A4 l.length c4] 32)).alloc (.cells #[.int .i64 k, .bool e, .string t, .slice A4 l.length c4] 32)) := below_alloc (below_alloc (Below.refl _ _) _) _
    refine bodyPost_ret (v := .tuple #[.agg #[.int .i64 k, .bool e, .string t, .slice A4 l.length c4], .int .i64 0]) (by simp [results, Tryd.results44, go_sem]) rfl ⟨Upd.of_below hb, fun h => ⟨_, rfl, (HO.out.newer hb).mono (fun k hk => .inl hk)⟩, fun h => absurd rfl h⟩
  | cons s r ih =>
    intro k e t v l A c w ok hO hR hbs hiv hN hc
    have HO := Aside0.mk hO.bound
    have HR := Aside0.mk hR
    have HN := Aside0.mk hN
    have IH := Aside0.mk ih
    have HIV := Aside0.mk hiv
    have HBS := Aside0.mk hbs
    obtain ⟨A4, c4, hv, hlc⟩ := hO.slice
    subst hv
    obtain ⟨ad, hA⟩ := names_ad hN
    subst hA
    clear hO hR hN ih hiv hbs
    obtain ⟨ok1, hok1⟩ : ∃ p, p = OwnB w base ok := ⟨_, rfl⟩
    rw [← hok1] at HO
    have HK1 : Aside0 (∀ k, ok1 k → ok k ∧ k < w.heap.size ∧ (∃ cells, w.heap[k]? = some (.cells cells eE (0, 0))) ∧ base ≤ k) := ⟨fun k hk => by rw [hok1] at hk; exact ⟨hk.1, hk.2.2.1, hk.2.2.2, hk.2.1⟩⟩
    clear hok1
    obtain ⟨n, hn⟩ : ∃ n, n = r.length + 1 := ⟨_, rfl⟩
    have hns : (s :: r).length = n := by rw [hn]; rfl
    rw [hns] at hc ⊢
    have HNL := Aside0.mk (And.intro hn hns)
    have hn1 : 1 ≤ n := by omega
    have t1 : ((n : Int) == 0) = false := beq_eq_false_iff_ne.mpr (by omega)
    clear hn hns
    by_cases hk3 : k = 3
    · subst hk3
      have k1 : ((3 : Int) != 3) = false := rfl
      go_enter Tryd.func44, Tryd.ntmps44
      go_wp2_with fail
      obtain ⟨W2, hW2⟩ : ∃ W2, W2 = (w.alloc (.cells #[.int .i64 3, .bool e, .string t, .slice A4 l.length c4] 32)).alloc (.cells #[.int .i64 0, .bool false, .string ⟨#[]⟩, .slice none 0 0] 32) := ⟨_, rfl⟩
      rw [← hW2]
      obtain ⟨b0, hb0⟩ : ∃ b, b = w.heap.size := ⟨_, rfl⟩
      obtain ⟨b1, hb1⟩ : ∃ b, b = w.heap.size + 1 := ⟨_, rfl⟩
      rw [← hb1, ← hb0]
      have B0 : Aside0 (Blk W2 b0 32 [.int .i64 3, .bool e, .string t, .slice A4 l.length c4]) := ⟨by rw [hW2, hb0]; exact (Blk.new w _ [.int .i64 3, .bool e, .string t, .slice A4 l.length c4]).alloc _⟩
      have B1 : Aside0 (Blk W2 b1 32 [.int .i64 0, .bool false, .string ⟨#[]⟩, .slice none 0 0]) := ⟨by rw [hW2]; exact Blk.new' _ _ [.int .i64 0, .bool false, .string ⟨#[]⟩, .slice none 0 0] (by rw [hb1]; simp)⟩
      have HB : Aside0 (Below w.heap.size w W2) := ⟨by rw [hW2]; exact below_alloc (below_alloc (Below.refl _ _) _) _⟩
      have HZ : Aside0 (w.heap.size ≤ b0 ∧ w.heap.size ≤ b1 ∧ b0 ≠ b1) := ⟨by omega⟩
      clear hW2 hb0 hb1
      have HC0 := Aside0.mk (names_at HN.out (Upd.of_below HB.out (S := ok1)) (fun k hk => (HK1.out k hk).1))
      have HO2 := Aside0.mk (HO.out.newer HB.out)
      have g1 : (0 : Int) < (n : Int) := by omega
      have g0 : 0 < n := by omega
      refine start_ (n := 11) (S := fun w' => w'.cell? ⟨b0, 3, none⟩ = some (.slice A4 l.length c4) ∧ w'.cell? ad = some (.string s)) (ds := []) #[false, false, false, false, false, false, false, false, false, false, false] (by kernel_rfl) rfl rfl (⟨B0.out.cell 3 _ rfl, HC0.out⟩) (fun hHeld => ?_)
      have hdr : Below W2.heap.size W2 W2.drew := below_drew (Below.refl _ _)
      generalize W2.drew = W3 at *
      refine pure_ (i := 0) (N := some 20) (v := ?_) (a' := ?_) #[true, false, false, false, false, false, false, false, false, false, false] rfl rfl (by kernel_rfl) (fun _ _ _ h => h) (Or.inl ⟨by rfl, ?_⟩) ?_ ?_
      rotate_left
      · intro w'
        go_simp
        with_reducible rfl
      rotate_left
      · simp only [Act.put, List.setIfInBounds_toArray, List.set_cons_zero, List.set_cons_succ, i64_w, i32_w]
        rfl
      refine take_ (i := 1) (N := some 21) (v := ?_) (a' := ?_) #[true, true, false, false, false, false, false, false, false, false, false] rfl rfl (by kernel_rfl) (fun _ _ _ h => h) (Or.inl ⟨by rfl, ?_⟩) hHeld ?_ ?_
      rotate_left
      · rintro w' ⟨s0, s1⟩
        go_simp
        with_reducible rfl
      rotate_left
      · simp only [Act.put, List.setIfInBounds_toArray, List.set_cons_zero, List.set_cons_succ, i64_w, i32_w]
        rfl
      refine pure_ (i := 2) (N := some 22) (v := ?_) (a' := ?_) #[true, true, true, false, false, false, false, false, false, false, false] rfl rfl (by kernel_rfl) (fun _ _ _ h => h) (Or.inl ⟨by rfl, ?_⟩) ?_ ?_
      rotate_left
      · intro w'
        go_simp
        with_reducible rfl
      rotate_left
      · simp only [Act.put, List.setIfInBounds_toArray, List.set_cons_zero, List.set_cons_succ, i64_w, i32_w]
        rfl
      refine pure_ (i := 3) (N := some 23) (v := ?_) (a' := ?_) #[true, true, true, true, false, false, false, false, false, false, false] rfl rfl (by kernel_rfl) (fun _ _ _ h => h) (Or.inl ⟨by rfl, ?_⟩) ?_ ?_
      rotate_left
      · intro w'
        go_simp
        with_reducible rfl
      rotate_left
      · simp only [Act.put, List.setIfInBounds_toArray, List.set_cons_zero, List.set_cons_succ, i64_w, i32_w]
        rfl
      refine take_ (i := 4) (N := some 24) (v := ?_) (a' := ?_) #[true, true, true, true, true, false, false, false, false, false, false] rfl rfl (by kernel_rfl) (fun _ _ _ h => h) (Or.inl ⟨by rfl, ?_⟩) hHeld ?_ ?_
      rotate_left
      · rintro w' ⟨s0, s1⟩
        go_simp
        with_reducible rfl
      rotate_left
      · simp only [Act.put, List.setIfInBounds_toArray, List.set_cons_zero, List.set_cons_succ, i64_w, i32_w]
        rfl
      refine one_ (i := 5) (N := some 25) #[true, true, true, true, true, true, false, false, false, false, false] rfl rfl (by kernel_rfl) (by decide) (fun K hK => ?_)
      have hO3 := HO2.out.newer hdr
      have hrr := HR.out.rises
      refine goes_ Tryd.func38 (by kernel_rfl) rfl #[.slice A4 l.length c4, .string s] (by rfl) rfl rfl (by (try simp only [List.map_toArray, List.map_cons, List.map_nil]); first | done | rfl) ?_
      refine (find_calls l s hrr.1 A4 c4 W3 hO3.toC.2.2 hlc (by omega)).mono ?_
      rintro o W5 ⟨rfl, hb5⟩
      have hb6 := below_step hdr hb5
      have B05 := Aside0.mk (B0.out.below hb6)
      have B15 := Aside0.mk (B1.out.below hb6)
      have HB5 := Aside0.mk (below_step HB.out hb6)
      have HC5 := Aside0.mk (pw_cell_below hb6 HC0.out)
      have HO5 := Aside0.mk (HO2.out.newer hb6)
      clear hO3 hrr hb5 hb6 hdr B0 B1 HB HC0 HO2
      refine ⟨_, rfl, ?_⟩
      refine hK.out _ _ ⟨B05.out.cell 3 _ rfl, HC5.out⟩ (fun _ => ?_)
      clear hK K
      refine pure_ (i := 6) (N := some 19) (v := ?_) (a' := ?_) #[true, true, true, true, true, true, true, false, false, false, false] rfl rfl (by kernel_rfl) (fun _ _ _ h => h) (Or.inl ⟨by rfl, ?_⟩) ?_ ?_
      rotate_left
      · intro w'
        go_simp
        with_reducible rfl
      rotate_left
      · simp only [Act.put, List.setIfInBounds_toArray, List.set_cons_zero, List.set_cons_succ, i64_w, i32_w]
        rfl
      refine pure_ (i := 7) (N := some 26) (v := ?_) (a' := ?_) #[true, true, true, true, true, true, true, true, false, false, false] rfl rfl (by kernel_rfl) (fun _ _ _ h => h) (Or.inl ⟨by rfl, ?_⟩) ?_ ?_
      rotate_left
      · intro w'
        go_simp
        with_reducible rfl
      rotate_left
      · simp only [Act.put, List.setIfInBounds_toArray, List.set_cons_zero, List.set_cons_succ, i64_w, i32_w]
        rfl
      refine pure_ (i := 8) (N := some 27) (v := ?_) (a' := ?_) #[true, true, true, true, true, true, true, true, true, false, false] rfl rfl (by kernel_rfl) (fun _ _ _ h => h) (Or.inl ⟨by rfl, ?_⟩) ?_ ?_
      rotate_left
      · intro w'
        go_simp
        with_reducible rfl
      rotate_left
      · simp only [Act.put, List.setIfInBounds_toArray, List.set_cons_zero, List.set_cons_succ, i64_w, i32_w]
        rfl
      refine pure_ (i := 9) (N := some 8) (v := ?_) (a' := ?_) #[true, true, true, true, true, true, true, true, true, true, false] rfl rfl (by kernel_rfl) (fun _ _ _ h => h) (Or.inl ⟨by rfl, ?_⟩) ?_ ?_
      rotate_left
      · intro w'
        go_simp
        with_reducible rfl
      rotate_left
      · simp only [Act.put, List.setIfInBounds_toArray, List.set_cons_zero, List.set_cons_succ, i64_w, i32_w]
        rfl
      refine pure_ (i := 10) (N := some 9) (v := ?_) (a' := ?_) #[true, true, true, true, true, true, true, true, true, true, true] rfl rfl (by kernel_rfl) (fun _ _ _ h => h) (Or.inl ⟨by rfl, ?_⟩) ?_ ?_
      rotate_left
      · intro w'
        go_simp
        with_reducible rfl
      rotate_left
      · simp only [Act.put, List.setIfInBounds_toArray, List.set_cons_zero, List.set_cons_succ, i64_w, i32_w]
        rfl
      refine done_ (by kernel_rfl) ?_
      obtain ⟨hs, hhs⟩ : ∃ hs, hs = hasN l s := ⟨_, rfl⟩
      obtain ⟨i, hi⟩ : ∃ i, i = rk l s := ⟨_, rfl⟩
      rw [← hhs, ← hi]
      have HHS := Aside0.mk hhs
      have HI := Aside0.mk hi
      clear hhs hi
      by_cases hr1 : r = []
      · have t2 : ((n : Int) == 1) = true := by have := HNL.out.1; rw [hr1] at this; rw [this]; rfl
        have HR1 := Aside0.mk hr1
        clear hr1
        go_wp2_with fail
        obtain ⟨q, hq⟩ : ∃ q, q = act l i hs s := ⟨_, rfl⟩
        have HRES : Aside0 (chN act (s :: r) 3 l = if q.2 ≠ 0 then ([], q.2) else (q.1, 0)) := ⟨by rw [chN, if_neg (by decide), if_pos HR1.out, ← HHS.out, ← HI.out, ← hq]⟩
        refine start_ (n := 15) (S := fun w' => w'.cell? ⟨b0, 3, none⟩ = some (.slice A4 l.length c4) ∧ w'.cell? ad = some (.string s)) (ds := [13]) #[false, false, false, false, false, false, false, false, false, false, false, false, false, false, false] (by kernel_rfl) rfl rfl (⟨B05.out.cell 3 _ rfl, HC5.out⟩) (fun hHeld => ?_)
        have hdr : Below W5.heap.size W5 W5.drew := below_drew (Below.refl _ _)
        generalize W5.drew = W6 at *
        refine pure_ (i := 0) (N := some 51) (v := ?_) (a' := ?_) #[true, false, false, false, false, false, false, false, false, false, false, false, false, false, false] rfl rfl (by kernel_rfl) (fun _ _ _ h => h) (Or.inl ⟨by rfl, ?_⟩) ?_ ?_
        rotate_left
        · intro w'
          go_simp
          with_reducible rfl
        rotate_left
        · simp only [Act.put, List.setIfInBounds_toArray, List.set_cons_zero, List.set_cons_succ, i64_w, i32_w]
          rfl
        refine pure_ (i := 1) (N := some 52) (v := ?_) (a' := ?_) #[true, true, false, false, false, false, false, false, false, false, false, false, false, false, false] rfl rfl (by kernel_rfl) (fun _ _ _ h => h) (Or.inl ⟨by rfl, ?_⟩) ?_ ?_
        rotate_left
        · intro w'
          go_simp
          with_reducible rfl
        rotate_left
        · simp only [Act.put, List.setIfInBounds_toArray, List.set_cons_zero, List.set_cons_succ, i64_w, i32_w]
          rfl
        refine take_ (i := 2) (N := some 53) (v := ?_) (a' := ?_) #[true, true, true, false, false, false, false, false, false, false, false, false, false, false, false] rfl rfl (by kernel_rfl) (fun _ _ _ h => h) (Or.inl ⟨by rfl, ?_⟩) hHeld ?_ ?_
        rotate_left
        · rintro w' ⟨s0, s1⟩
          go_simp
          with_reducible rfl
        rotate_left
        · simp only [Act.put, List.setIfInBounds_toArray, List.set_cons_zero, List.set_cons_succ, i64_w, i32_w]
          rfl
        refine pure_ (i := 3) (N := some 54) (v := ?_) (a' := ?_) #[true, true, true, true, false, false, false, false, false, false, false, false, false, false, false] rfl rfl (by kernel_rfl) (fun _ _ _ h => h) (Or.inl ⟨by rfl, ?_⟩) ?_ ?_
        rotate_left
        · intro w'
          go_simp
          with_reducible rfl
        rotate_left
        · simp only [Act.put, List.setIfInBounds_toArray, List.set_cons_zero, List.set_cons_succ, i64_w, i32_w]
          rfl
        refine pure_ (i := 4) (N := some 55) (v := ?_) (a' := ?_) #[true, true, true, true, true, false, false, false, false, false, false, false, false, false, false] rfl rfl (by kernel_rfl) (fun _ _ _ h => h) (Or.inl ⟨by rfl, ?_⟩) ?_ ?_
        rotate_left
        · intro w'
          go_simp
          with_reducible rfl
        rotate_left
        · simp only [Act.put, List.setIfInBounds_toArray, List.set_cons_zero, List.set_cons_succ, i64_w, i32_w]
          rfl
        refine pure_ (i := 5) (N := some 56) (v := ?_) (a' := ?_) #[true, true, true, true, true, true, false, false, false, false, false, false, false, false, false] rfl rfl (by kernel_rfl) (fun _ _ _ h => h) (Or.inl ⟨by rfl, ?_⟩) ?_ ?_
        rotate_left
        · intro w'
          go_simp
          with_reducible rfl
        rotate_left
        · simp only [Act.put, List.setIfInBounds_toArray, List.set_cons_zero, List.set_cons_succ, i64_w, i32_w]
          rfl
        refine pure_ (i := 6) (N := some 57) (v := ?_) (a' := ?_) #[true, true, true, true, true, true, true, false, false, false, false, false, false, false, false] rfl rfl (by kernel_rfl) (fun _ _ _ h => h) (Or.inl ⟨by rfl, ?_⟩) ?_ ?_
        rotate_left
        · intro w'
          go_simp
          with_reducible rfl
        rotate_left
        · simp only [Act.put, List.setIfInBounds_toArray, List.set_cons_zero, List.set_cons_succ, i64_w, i32_w]
          rfl
        refine take_ (i := 7) (N := some 58) (v := ?_) (a' := ?_) #[true, true, true, true, true, true, true, true, false, false, false, false, false, false, false] rfl rfl (by kernel_rfl) (fun _ _ _ h => h) (Or.inl ⟨by rfl, ?_⟩) hHeld ?_ ?_
        rotate_left
        · rintro w' ⟨s0, s1⟩
          go_simp
          with_reducible rfl
        rotate_left
        · simp only [Act.put, List.setIfInBounds_toArray, List.set_cons_zero, List.set_cons_succ, i64_w, i32_w]
          rfl
        refine one_ (i := 8) (N := some 59) #[true, true, true, true, true, true, true, true, true, false, false, false, false, false, false] rfl rfl (by kernel_rfl) (by decide) (fun K hK => ?_)
        refine goesC_ hfA hnA hbA #[.slice A4 l.length c4, .int .i64 i, .bool hs, .string s] (by rfl) rfl rfl (by rfl) (by (try simp only [List.map_toArray, List.map_cons, List.map_nil]); first | done | rfl) ?_
        have hb6 := below_step HB5.out hdr
        have hcall := HACT.out l s (.slice A4 l.length c4) W6 ok1 (HO5.out.newer hdr) HR.out (Nat.le_trans HBS.out hb6.size) (HINV.out w W6 HIV.out (hb6.mono HBS.out)) (fun k hk => ⟨(HK1.out k hk).2.2.2, Nat.lt_of_lt_of_le (HK1.out k hk).2.1 hb6.size⟩)
        rw [← HI.out, ← HHS.out, ← hq] at hcall
        refine hcall.mono ?_
        clear hcall hq
        rintro o W7 ⟨v', rfl, hO7, hU7⟩
        have HO7 := Aside0.mk hO7
        have HU7 := Aside0.mk hU7
        obtain ⟨A5, c5, hv5, _⟩ := HO7.out.slice
        subst hv5
        obtain ⟨l2, hl2⟩ : ∃ l2, l2 = q.1 := ⟨_, rfl⟩
        obtain ⟨cq, hcq⟩ : ∃ cq, cq = q.2 := ⟨_, rfl⟩
        rw [← hl2] at HO7 HRES
        rw [← hcq] at HRES
        rw [← hl2, ← hcq]
        have HU6 : Aside0 (Upd ok1 w W7) := ⟨(Upd.of_below hb6 (S := ok1)).trans HU7.out (fun k hk => .inl hk)⟩
        have HS6 := Aside0.mk hb6.size
        have B06 := Aside0.mk ((B05.out.below hdr).upd HU7.out (fun h => by have := (HK1.out b0 h).2.1; have := HZ.out; omega))
        have B16 := Aside0.mk ((B15.out.below hdr).upd HU7.out (fun h => by have := (HK1.out b1 h).2.1; have := HZ.out; omega))
        have x03 := B06.out.cell 3 _ rfl
        have y03 := B06.out.frozen 3
        have hC7 := names_at HN.out HU6.out (fun k hk => (HK1.out k hk).1)
        clear hdr B05 B15 HB5 HO5 HU7 hO7 hU7 hl2 hcq hb6
        refine ⟨_, rfl, ?_⟩
        refine hK.out _ _ ⟨x03, hC7⟩ (fun _ => ?_)
        clear hK K
        refine pure_ (i := 9) (N := some 50) (v := ?_) (a' := ?_) #[true, true, true, true, true, true, true, true, true, true, false, false, false, false, false] rfl rfl (by kernel_rfl) (fun _ _ _ h => h) (Or.inl ⟨by rfl, ?_⟩) ?_ ?_
        rotate_left
        · intro w'
          go_simp
          with_reducible rfl
        rotate_left
        · simp only [Act.put, List.setIfInBounds_toArray, List.set_cons_zero, List.set_cons_succ, i64_w, i32_w]
          rfl
        refine pure_ (i := 10) (N := some 60) (v := ?_) (a' := ?_) #[true, true, true, true, true, true, true, true, true, true, true, false, false, false, false] rfl rfl (by kernel_rfl) (fun _ _ _ h => h) (Or.inl ⟨by rfl, ?_⟩) ?_ ?_
        rotate_left
        · intro w'
          go_simp
          with_reducible rfl
        rotate_left
        · simp only [Act.put, List.setIfInBounds_toArray, List.set_cons_zero, List.set_cons_succ, i64_w, i32_w]
          rfl
        refine pure_ (i := 11) (N := some 61) (v := ?_) (a' := ?_) #[true, true, true, true, true, true, true, true, true, true, true, true, false, false, false] rfl rfl (by kernel_rfl) (fun _ _ _ h => h) (Or.inl ⟨by rfl, ?_⟩) ?_ ?_
        rotate_left
        · intro w'
          go_simp
          with_reducible rfl
        rotate_left
        · simp only [Act.put, List.setIfInBounds_toArray, List.set_cons_zero, List.set_cons_succ, i64_w, i32_w]
          rfl
        refine pure_ (i := 12) (N := some 62) (v := ?_) (a' := ?_) #[true, true, true, true, true, true, true, true, true, true, true, true, true, false, false] rfl rfl (by kernel_rfl) (fun _ _ _ h => h) (Or.inl ⟨by rfl, ?_⟩) ?_ ?_
        rotate_left
        · intro w'
          go_simp
          with_reducible rfl
        rotate_left
        · simp only [Act.put, List.setIfInBounds_toArray, List.set_cons_zero, List.set_cons_succ, i64_w, i32_w]
          rfl
        refine last_ (i := 13) (N := none) #[true, true, true, true, true, true, true, true, true, true, true, true, true, true, false] rfl rfl (by kernel_rfl) (by decide) (fun K hK => ?_)
        refine skip_ (w1 := W7.setCell ⟨b0, 3, none⟩ (.slice A5 l2.length c5)) (by rfl) rfl ?_ ?_
        · go_simp
        refine hK.out _ _ ?_
        clear hK K
        refine pure_ (i := 14) (N := some 10) (v := ?_) (a' := ?_) #[true, true, true, true, true, true, true, true, true, true, true, true, true, true, true] rfl rfl (by kernel_rfl) (fun _ _ _ h => h) (Or.inl ⟨by rfl, ?_⟩) ?_ ?_
        rotate_left
        · intro w'
          go_simp
          with_reducible rfl
        rotate_left
        · simp only [Act.put, List.setIfInBounds_toArray, List.set_cons_zero, List.set_cons_succ, i64_w, i32_w]
          rfl
        refine done_ (by kernel_rfl) ?_
        obtain ⟨W8, hW8⟩ : ∃ W8, W8 = W7.setCell ⟨b0, 3, none⟩ (.slice A5 l2.length c5) := ⟨_, rfl⟩
        have HU8 : Aside0 (Upd ok1 w W8) := ⟨by rw [hW8]; exact HU6.out.trans (Upd.setCell (S := fun k => k = b0) (p := ⟨b0, 3, none⟩) (.inl rfl) _) (fun k hk => .inr (by have := HZ.out; omega))⟩
        have B08 : Aside0 (Blk W8 b0 32 [.int .i64 3, .bool e, .string t, .slice A5 l2.length c5]) := ⟨by rw [hW8]; exact blk_put (cs := #[.int .i64 3, .bool e, .string t, .slice A4 l.length c4]) B06.out 3 _ rfl⟩
        have B18 : Aside0 (Blk W8 b1 32 [.int .i64 0, .bool false, .string ⟨#[]⟩, .slice none 0 0]) := ⟨by rw [hW8]; exact (Below.heap_setCell _ _ _ _ (by show b1 ≠ b0; exact fun e => HZ.out.2.2 e.symm)).trans B16.out⟩
        have HO8 : Aside0 (Own W8 base (fun k => ok1 k ∨ W6.heap.size ≤ k) (.slice A5 l2.length c5) l2) := ⟨by rw [hW8]; exact HO7.out.set B06.out (by decide) 3 _⟩
        rw [← hW8]
        clear hW8 x03 y03 B06 B16 HU6 HO7 hHeld HC5 hC7
        obtain ⟨x0, x1, x2, x3⟩ := cells4 B18.out
        obtain ⟨u0, u1, u2, u3⟩ := cells4 B08.out
        have y0 := B18.out.frozen 0
        have y1 := B18.out.frozen 1
        have y2 := B18.out.frozen 2
        have y3 := B18.out.frozen 3
        by_cases hq0 : cq = 0
        · subst hq0
          go_wp2_with fail
          have HF := put4_upd (b := b1) (c0 := .int .i64 3) (c1 := .bool e) (c2 := .string t) (c3 := .slice A5 l2.length c5) HU8.out HZ.out.2.1
          have HG := put4_blk (c0 := .int .i64 3) (c1 := .bool e) (c2 := .string t) (c3 := .slice A5 l2.length c5) B18.out
          have HH := put4_own (c0 := .int .i64 3) (c1 := .bool e) (c2 := .string t) (c3 := .slice A5 l2.length c5) HO8.out B18.out
          obtain ⟨z0, z1, z2, z3⟩ := cells4 HG
          refine bodyPost_ret (v := .tuple #[.agg #[.int .i64 3, .bool e, .string t, .slice A5 l2.length c5], .int .i64 0]) (by simp [results, Tryd.results44, go_sem, z0, z1, z2, z3]) rfl ⟨HF.mono (fun k hk => (HK1.out k hk).1), fun h => ?_, fun h => ?_⟩
          · rw [HRES.out]
            exact ⟨_, rfl, HH.mono (fun k hk => hk.elim (fun h => .inl (HK1.out k h).1) (fun h => .inr (by have := HS6.out; omega)))⟩
          · rw [HRES.out] at h; exact absurd rfl h
        · have HQ0 := Aside0.mk hq0
          have y4 : (cq != 0) = true := bne_iff_ne.mpr hq0
          clear hq0
          go_wp2_with fail
          have HF := put4_upd (b := b1) (c0 := .int .i64 0) (c1 := .bool false) (c2 := .string ⟨#[]⟩) (c3 := .slice none 0 0) HU8.out HZ.out.2.1
          have HG := put4_blk (c0 := .int .i64 0) (c1 := .bool false) (c2 := .string ⟨#[]⟩) (c3 := .slice none 0 0) B18.out
          obtain ⟨z0, z1, z2, z3⟩ := cells4 HG
          refine bodyPost_ret (v := .tuple #[.agg #[.int .i64 0, .bool false, .string ⟨#[]⟩, .slice none 0 0], .int .i64 cq]) (by simp [results, Tryd.results44, go_sem, z0, z1, z2, z3]) rfl ⟨HF.mono (fun k hk => (HK1.out k hk).1), fun h => ?_, fun h => ?_⟩
          · rw [HRES.out, if_pos HQ0.out] at h; exact absurd h HQ0.out
          · rw [HRES.out, if_pos HQ0.out]
      · have t2 : ((n : Int) == 1) = false := beq_eq_false_iff_ne.mpr (by
          have h1 := HNL.out.1
          cases r with
          | nil => exact absurd rfl hr1
          | cons a b => rw [List.length_cons] at h1; omega)
        have HR1 := Aside0.mk hr1
        cases hs
        case false =>
          have HRES : Aside0 (chN act (s :: r) 3 l = ([], 3)) := ⟨by rw [chN, if_neg (by decide), if_neg hr1, ← HHS.out]; rfl⟩
          clear hr1
          have HU8 : Aside0 (Upd ok1 w W5) := ⟨Upd.of_below HB5.out⟩
          obtain ⟨x0, x1, x2, x3⟩ := cells4 B15.out
          have y0 := B15.out.frozen 0
          have y1 := B15.out.frozen 1
          have y2 := B15.out.frozen 2
          have y3 := B15.out.frozen 3
          go_wp2_with fail
          have HF := put4_upd (b := b1) (c0 := .int .i64 0) (c1 := .bool false) (c2 := .string ⟨#[]⟩) (c3 := .slice none 0 0) HU8.out HZ.out.2.1
          have HG := put4_blk (c0 := .int .i64 0) (c1 := .bool false) (c2 := .string ⟨#[]⟩) (c3 := .slice none 0 0) B15.out
          obtain ⟨z0, z1, z2, z3⟩ := cells4 HG
          refine bodyPost_ret (v := .tuple #[.agg #[.int .i64 0, .bool false, .string ⟨#[]⟩, .slice none 0 0], .int .i64 3]) (by simp [results, Tryd.results44, go_sem, z0, z1, z2, z3]) rfl ⟨HF.mono (fun k hk => (HK1.out k hk).1), fun h => ?_, fun h => ?_⟩
          · rw [HRES.out] at h; exact absurd h (by decide)
          · rw [HRES.out]
        case true =>
          obtain ⟨x, hx, _⟩ := hasN_at HHS.out.symm
          rw [← HI.out] at hx
          have hil : i < l.length := (List.getElem?_eq_some_iff.1 hx).1
          obtain ⟨q, hq⟩ : ∃ q, q = chN act r x.f1 x.f4 := ⟨_, rfl⟩
          have HRES : Aside0 (chN act (s :: r) 3 l = if q.2 ≠ 0 then ([], q.2) else (l.set i { x with f4 := q.1 }, 0)) := ⟨by rw [chN, if_neg (by decide), if_neg hr1, ← HHS.out, ← HI.out, hq, if_pos rfl, hx]⟩
          have HQ := Aside0.mk hq
          have h2n : 2 ≤ n := by
            have h1 := HNL.out.1
            cases r with
            | nil => exact absurd rfl hr1
            | cons a b => rw [List.length_cons] at h1; omega
          have c1 : ¬ c = 1 := by omega
          have p2 : (1 : Int) ≤ (n : Int) := by omega
          have HAD : Aside0 (ad.add 1 = ⟨ad.block, ad.off + 1, none⟩) := ⟨by have h := add_field ad 0 1 (by omega); rw [Nat.zero_add, Addr.add_zero'] at h; exact h⟩
          clear hr1 hq
          go_wp2_with fail
          have hO6 := HO5.out.newer (below_drew (Below.refl W5.heap.size W5))
          obtain ⟨ts, hts, hP⟩ := hO6.parts
          obtain ⟨td, htd, hxt⟩ : ∃ td, ts[i]? = some td ∧ td.x = x := by
            rw [hts, List.getElem?_map] at hx
            exact Option.map_eq_some_iff.1 hx
          have htl : ts.length = l.length := by rw [hts, List.length_map]
          have hrow := hP.row
          rcases hrow.2 with ⟨_, h0⟩ | ⟨g, cap, cur, hv, hbg, hg, hncap, hcapm, hcurs, htake⟩
          · omega
          injection hv with hv1 hv2 hv3
          subst hv1
          obtain ⟨A6, c6, hu6, hl6⟩ := (hP.sub td (List.mem_of_getElem? htd)).slice
          have hce : ∀ j, j < 5 → W5.drew.cell? ⟨g, i * 5 + j, none⟩ = (ecells td.x td.u)[j]? := fun j hj => by
            have h1 := fl_at ts i td htd j hj
            obtain ⟨u, hu⟩ : ∃ u, (ecells td.x td.u)[j]? = some u := ⟨_, List.getElem?_eq_getElem (by rw [ecells_len]; exact hj)⟩
            have h2 := hrow.cells (g := g) rfl (i * 5 + j) u (by rw [h1, hu])
            rw [add_plain] at h2
            rw [h2, hu]
          rw [hxt, hu6] at hce
          have e1 := hce 1 (by omega)
          have e2 := hce 2 (by omega)
          have e3 := hce 3 (by omega)
          have e4 := hce 4 (by omega)
          rw [hxt] at e1 e2 e3 e4
          have p0 : (0 : Int) ≤ (i : Int) := by omega
          have p1 : (i : Int) < (l.length : Int) := by omega
          have hX5 : W5.drew.cell? ⟨b0, 3, none⟩ = some (.slice (some ⟨g, 0, none⟩) l.length c4) := (B05.out.below (below_drew (Below.refl _ _))).cell 3 _ rfl
          have HPP := Aside0.mk (And.intro hP (And.intro hts (And.intro htd (And.intro hxt (And.intro htl (And.intro hu6 (And.intro hg hl6)))))))
          clear hP hts htd hxt htl hu6 hg hl6 hrow hbg hncap hcapm hcurs htake hce hv2 hv3 hO6 hx
          refine start_ (n := 20) (S := fun w' => w'.cell? ⟨b0, 3, none⟩ = some (.slice (some ⟨g, 0, none⟩) l.length c4) ∧ w'.cell? ⟨g, i * 5 + 1, none⟩ = some (.int .i64 x.f1) ∧ w'.cell? ⟨g, i * 5 + 2, none⟩ = some (.bool x.f2) ∧ w'.cell? ⟨g, i * 5 + 3, none⟩ = some (.string x.f3) ∧ w'.cell? ⟨g, i * 5 + 4, none⟩ = some (.slice A6 x.f4.length c6)) (ds := [18]) #[false, false, false, false, false, false, false, false, false, false, false, false, false, false, false, false, false, false, false, false] (by kernel_rfl) rfl rfl (⟨hX5, e1, e2, e3, e4⟩) (fun hHeld => ?_)
          have hdr : Below W5.heap.size W5 W5.drew := below_drew (Below.refl _ _)
          generalize W5.drew = W6 at *
          refine pure_ (i := 0) (N := some 29) (v := ?_) (a' := ?_) #[true, false, false, false, false, false, false, false, false, false, false, false, false, false, false, false, false, false, false, false] rfl rfl (by kernel_rfl) (fun _ _ _ h => h) (Or.inl ⟨by rfl, ?_⟩) ?_ ?_
          rotate_left
          · intro w'
            go_simp
            with_reducible rfl
          rotate_left
          · simp only [Act.put, List.setIfInBounds_toArray, List.set_cons_zero, List.set_cons_succ, i64_w, i32_w]
            rfl
          refine take_ (i := 1) (N := some 30) (v := ?_) (a' := ?_) #[true, true, false, false, false, false, false, false, false, false, false, false, false, false, false, false, false, false, false, false] rfl rfl (by kernel_rfl) (fun _ _ _ h => h) (Or.inl ⟨by rfl, ?_⟩) hHeld ?_ ?_
          rotate_left
          · rintro w' ⟨s0, s1, s2, s3, s4⟩
            go_simp
            with_reducible rfl
          rotate_left
          · simp only [Act.put, List.setIfInBounds_toArray, List.set_cons_zero, List.set_cons_succ, i64_w, i32_w]
            rfl
          refine pure_ (i := 2) (N := some 31) (v := ?_) (a' := ?_) #[true, true, true, false, false, false, false, false, false, false, false, false, false, false, false, false, false, false, false, false] rfl rfl (by kernel_rfl) (fun _ _ _ h => h) (Or.inl ⟨by rfl, ?_⟩) ?_ ?_
          rotate_left
          · intro w'
            go_simp
            with_reducible rfl
          rotate_left
          · simp only [Act.put, List.setIfInBounds_toArray, List.set_cons_zero, List.set_cons_succ, i64_w, i32_w]
            rfl
          refine pure_ (i := 3) (N := some 32) (v := ?_) (a' := ?_) #[true, true, true, true, false, false, false, false, false, false, false, false, false, false, false, false, false, false, false, false] rfl rfl (by kernel_rfl) (fun _ _ _ h => h) (Or.inl ⟨by rfl, ?_⟩) ?_ ?_
          rotate_left
          · intro w'
            go_simp
            with_reducible rfl
          rotate_left
          · simp only [Act.put, List.setIfInBounds_toArray, List.set_cons_zero, List.set_cons_succ, i64_w, i32_w]
            rfl
          refine take_ (i := 4) (N := some 33) (v := ?_) (a' := ?_) #[true, true, true, true, true, false, false, false, false, false, false, false, false, false, false, false, false, false, false, false] rfl rfl (by kernel_rfl) (fun _ _ _ h => h) (Or.inl ⟨by rfl, ?_⟩) hHeld ?_ ?_
          rotate_left
          · rintro w' ⟨s0, s1, s2, s3, s4⟩
            go_simp
            with_reducible rfl
          rotate_left
          · simp only [Act.put, List.setIfInBounds_toArray, List.set_cons_zero, List.set_cons_succ, i64_w, i32_w]
            rfl
          refine pure_ (i := 5) (N := some 34) (v := ?_) (a' := ?_) #[true, true, true, true, true, true, false, false, false, false, false, false, false, false, false, false, false, false, false, false] rfl rfl (by kernel_rfl) (fun _ _ _ h => h) (Or.inl ⟨by rfl, ?_⟩) ?_ ?_
          rotate_left
          · intro w'
            go_simp
            with_reducible rfl
          rotate_left
          · simp only [Act.put, List.setIfInBounds_toArray, List.set_cons_zero, List.set_cons_succ, i64_w, i32_w]
            rfl
          refine pure_ (i := 6) (N := some 35) (v := ?_) (a' := ?_) #[true, true, true, true, true, true, true, false, false, false, false, false, false, false, false, false, false, false, false, false] rfl rfl (by kernel_rfl) (fun _ _ _ h => h) (Or.inl ⟨by rfl, ?_⟩) ?_ ?_
          rotate_left
          · intro w'
            go_simp
            with_reducible rfl
          rotate_left
          · simp only [Act.put, List.setIfInBounds_toArray, List.set_cons_zero, List.set_cons_succ, i64_w, i32_w]
            rfl
          refine pure_ (i := 7) (N := some 36) (v := ?_) (a' := ?_) #[true, true, true, true, true, true, true, true, false, false, false, false, false, false, false, false, false, false, false, false] rfl rfl (by kernel_rfl) (fun _ _ _ h => h) (Or.inl ⟨by rfl, ?_⟩) ?_ ?_
          rotate_left
          · intro w'
            go_simp
            with_reducible rfl
          rotate_left
          · simp only [Act.put, List.setIfInBounds_toArray, List.set_cons_zero, List.set_cons_succ, i64_w, i32_w]
            rfl
          refine take_ (i := 8) (N := some 37) (v := ?_) (a' := ?_) #[true, true, true, true, true, true, true, true, true, false, false, false, false, false, false, false, false, false, false, false] rfl rfl (by kernel_rfl) (fun _ _ _ h => h) (Or.inl ⟨by rfl, ?_⟩) hHeld ?_ ?_
          rotate_left
          · rintro w' ⟨s0, s1, s2, s3, s4⟩
            go_simp
            with_reducible rfl
          rotate_left
          · simp only [Act.put, List.setIfInBounds_toArray, List.set_cons_zero, List.set_cons_succ, i64_w, i32_w]
            rfl
          refine pure_ (i := 9) (N := some 38) (v := ?_) (a' := ?_) #[true, true, true, true, true, true, true, true, true, true, false, false, false, false, false, false, false, false, false, false] rfl rfl (by kernel_rfl) (fun _ _ _ h => h) (Or.inl ⟨by rfl, ?_⟩) ?_ ?_
          rotate_left
          · intro w'
            go_simp
            with_reducible rfl
          rotate_left
          · simp only [Act.put, List.setIfInBounds_toArray, List.set_cons_zero, List.set_cons_succ, i64_w, i32_w]
            rfl
          refine pure_ (i := 10) (N := some 39) (v := ?_) (a' := ?_) #[true, true, true, true, true, true, true, true, true, true, true, false, false, false, false, false, false, false, false, false] rfl rfl (by kernel_rfl) (fun _ _ _ h => h) (Or.inl ⟨by rfl, ?_⟩) ?_ ?_
          rotate_left
          · intro w'
            go_simp
            with_reducible rfl
          rotate_left
          · simp only [Act.put, List.setIfInBounds_toArray, List.set_cons_zero, List.set_cons_succ, i64_w, i32_w]
            rfl
          refine pure_ (i := 11) (N := some 40) (v := ?_) (a' := ?_) #[true, true, true, true, true, true, true, true, true, true, true, true, false, false, false, false, false, false, false, false] rfl rfl (by kernel_rfl) (fun _ _ _ h => h) (Or.inl ⟨by rfl, ?_⟩) ?_ ?_
          rotate_left
          · intro w'
            go_simp
            with_reducible rfl
          rotate_left
          · simp only [Act.put, List.setIfInBounds_toArray, List.set_cons_zero, List.set_cons_succ, i64_w, i32_w]
            rfl
          refine one_ (i := 12) (N := some 41) #[true, true, true, true, true, true, true, true, true, true, true, true, true, false, false, false, false, false, false, false] rfl rfl (by kernel_rfl) (by decide) (fun K hK => ?_)
          refine goes_ Tryd.func44 (by kernel_rfl) rfl #[.agg #[.int .i64 x.f1, .bool x.f2, .string x.f3, .slice A6 x.f4.length c6], .slice (some ⟨ad.block, ad.off + 1, none⟩) (n - 1) (c - 1), .func (.func fA) #[] capA] (by rfl) rfl rfl (by (try simp only [List.map_toArray, List.map_cons, List.map_nil]); first | done | rfl) ?_
          obtain ⟨hP, hts, htd, hxt, htl, hu6, hg, hl6⟩ := HPP.out
          have htm : td ∈ ts := List.mem_of_getElem? htd
          have hb6 := below_step HB5.out hdr
          have hnr : r.length = n - 1 := by have := HNL.out.1; omega
          have hxm : l[i]? = some x := by rw [hts, List.getElem?_map, htd, ← hxt]; rfl
          have hsub := hP.sub td htm
          rw [hu6, hxt] at hsub
          have hNN : NamesF W6 td.f (some ⟨ad.block, ad.off + 1, none⟩) r := by
            rw [← HAD.out]
            refine Kd.F_mono (Kd.F_imp (Kd.F_step HN.out (fun k hk hlt => hb6.block k hlt)) (n' := r.length) (A' := some (ad.add 1)) (xs' := r) (fun W' hW' => ?_)) (fun k hk => ⟨fun h => hk.1 (HK1.out k (hP.inn td htm k h).1.1).1, Nat.lt_of_lt_of_le hk.2 hb6.size⟩)
            have h1 := Kd.C_drop (c := c) (m := 1) hW' (by rw [List.length_cons]; omega) (by rw [HNL.out.2]; exact hc)
            rw [if_neg (by omega)] at h1
            exact h1
          have hIH := IH.out x.f1 x.f2 x.f3 (.slice A6 x.f4.length c6) x.f4 (some ⟨ad.block, ad.off + 1, none⟩) (c - 1) W6 td.f hsub (HR.out.at hxm) (Nat.le_trans HBS.out hb6.size) (HINV.out w W6 HIV.out (hb6.mono HBS.out)) hNN (by omega)
          rw [hnr] at hIH
          refine hIH.mono ?_
          clear hIH
          intro o W7 hpost
          have hUt : Upd td.f W6 W7 := hpost.upd
          have hU7 : Upd ok1 w W7 := (Upd.of_below hb6 (S := ok1)).trans hUt (fun k hk => .inl (hP.inn td htm k hk).1.1)
          have hgn : ¬ td.f g := fun h => (hP.inn td htm g h).2 rfl
          have hg7 : W7.heap[g]? = some (.cells cur eE (0, 0)) := (hUt.block g (Array.getElem?_eq_some_iff.1 hg).1 hgn).trans hg
          have hcell7 : ∀ j v, W6.cell? ⟨g, j, none⟩ = some v → W7.cell? ⟨g, j, none⟩ = some v := fun j v h => by
            rw [cell_of_row W7 g j cur _ _ hg7]
            rw [cell_of_row W6 g j cur _ _ hg] at h
            exact h
          have hb06 : Blk W7 b0 32 [.int .i64 3, .bool e, .string t, .slice (some ⟨g, 0, none⟩) l.length c4] := (B05.out.below hdr).upd hUt (fun h => by have := (HK1.out b0 (hP.inn td htm b0 h).1.1).2.1; have := HZ.out; omega)
          have hb16 : Blk W7 b1 32 [.int .i64 0, .bool false, .string ⟨#[]⟩, .slice none 0 0] := (B15.out.below hdr).upd hUt (fun h => by have := (HK1.out b1 (hP.inn td htm b1 h).1.1).2.1; have := HZ.out; omega)
          have hHeld7 : W7.cell? ⟨b0, 3, none⟩ = some (.slice (some ⟨g, 0, none⟩) l.length c4) ∧ W7.cell? ⟨g, i * 5 + 1, none⟩ = some (.int .i64 x.f1) ∧ W7.cell? ⟨g, i * 5 + 2, none⟩ = some (.bool x.f2) ∧ W7.cell? ⟨g, i * 5 + 3, none⟩ = some (.string x.f3) ∧ W7.cell? ⟨g, i * 5 + 4, none⟩ = some (.slice A6 x.f4.length c6) :=
            ⟨hb06.cell 3 _ rfl, hcell7 _ _ hHeld.2.1, hcell7 _ _ hHeld.2.2.1, hcell7 _ _ hHeld.2.2.2.1, hcell7 _ _ hHeld.2.2.2.2⟩
          have hfr : ∀ j, W7.frozen? ⟨g, j, none⟩ = false := fun j => blk_frozen hg7 j
          have w1 := hHeld7.2.1
          have w2 := hHeld7.2.2.1
          have w3 := hHeld7.2.2.2.1
          have w4 := hHeld7.2.2.2.2
          have z1 := hfr (i * 5 + 1)
          have z2 := hfr (i * 5 + 2)
          have z3 := hfr (i * 5 + 3)
          have z4 := hfr (i * 5 + 4)
          have hrow7 : W7.ownsRow base eE 5 (.slice (some ⟨g, 0, none⟩) l.length c4) ts.length (fl ts) := own_move hP.row (fun k hk => by
            have : g = k := by simpa [Value.ownBlock] using hk
            rw [← this, hg7, hg])
          rw [htl] at hrow7
          have HS6 := Aside0.mk hdr.size
          have hgok : ok1 g := (hP.own g rfl).1
          have hglt : g < w.heap.size := (HK1.out g hgok).2.1
          have hgb : b0 ≠ g ∧ b1 ≠ g := by have := HZ.out; omega
          have HPX := Aside0.mk (And.intro hP (And.intro hts (And.intro htd (And.intro hxt (And.intro htl (And.intro hgok (And.intro hgb (And.intro hUt (And.intro hU7 (And.intro hb06 (And.intro hb16 (And.intro hrow7 hxm))))))))))))
          clear hP hts htd hxt htl hu6 hg hl6 htm hb6 hnr hxm hsub hNN hUt hU7 hgn hg7 hcell7 hb06 hb16 hfr hrow7 hgok hglt hgb HPP IH HR HN hHeld hdr e1 e2 e3 e4 hX5
          by_cases hq0 : q.2 = 0
          · obtain ⟨v8, ho8, hO8⟩ := hpost.yes (by rw [← HQ.out]; exact hq0)
            rw [← HQ.out] at hO8
            have HO8 := Aside0.mk hO8
            obtain ⟨A8, c8, hv8, _⟩ := hO8.slice
            subst hv8
            obtain ⟨l8, hl8⟩ : ∃ l8, l8 = q.1 := ⟨_, rfl⟩
            rw [← hl8] at ho8 HO8
            have HL8 := Aside0.mk hl8
            have HQ0 := Aside0.mk hq0
            clear hO8 hpost hl8 hq0
            refine ⟨_, ho8, ?_⟩
            clear ho8
            refine hK.out _ _ hHeld7 (fun _ => ?_)
            clear hK K hHeld7
            refine pure_ (i := 13) (N := some 28) (v := ?_) (a' := ?_) #[true, true, true, true, true, true, true, true, true, true, true, true, true, true, false, false, false, false, false, false] rfl rfl (by kernel_rfl) (fun _ _ _ h => h) (Or.inl ⟨by rfl, ?_⟩) ?_ ?_
            rotate_left
            · intro w'
              go_simp
              with_reducible rfl
            rotate_left
            · simp only [Act.put, List.setIfInBounds_toArray, List.set_cons_zero, List.set_cons_succ, i64_w, i32_w]
              rfl
            refine pure_ (i := 14) (N := some 42) (v := ?_) (a' := ?_) #[true, true, true, true, true, true, true, true, true, true, true, true, true, true, true, false, false, false, false, false] rfl rfl (by kernel_rfl) (fun _ _ _ h => h) (Or.inl ⟨by rfl, ?_⟩) ?_ ?_
            rotate_left
            · intro w'
              go_simp
              with_reducible rfl
            rotate_left
            · simp only [Act.put, List.setIfInBounds_toArray, List.set_cons_zero, List.set_cons_succ, i64_w, i32_w]
              rfl
            refine pure_ (i := 15) (N := some 43) (v := ?_) (a' := ?_) #[true, true, true, true, true, true, true, true, true, true, true, true, true, true, true, true, false, false, false, false] rfl rfl (by kernel_rfl) (fun _ _ _ h => h) (Or.inl ⟨by rfl, ?_⟩) ?_ ?_
            rotate_left
            · intro w'
              go_simp
              with_reducible rfl
            rotate_left
            · simp only [Act.put, List.setIfInBounds_toArray, List.set_cons_zero, List.set_cons_succ, i64_w, i32_w]
              rfl
            refine pure_ (i := 16) (N := some 44) (v := ?_) (a' := ?_) #[true, true, true, true, true, true, true, true, true, true, true, true, true, true, true, true, true, false, false, false] rfl rfl (by kernel_rfl) (fun _ _ _ h => h) (Or.inl ⟨by rfl, ?_⟩) ?_ ?_
            rotate_left
            · intro w'
              go_simp
              with_reducible rfl
            rotate_left
            · simp only [Act.put, List.setIfInBounds_toArray, List.set_cons_zero, List.set_cons_succ, i64_w, i32_w]
              rfl
            refine pure_ (i := 17) (N := some 45) (v := ?_) (a' := ?_) #[true, true, true, true, true, true, true, true, true, true, true, true, true, true, true, true, true, true, false, false] rfl rfl (by kernel_rfl) (fun _ _ _ h => h) (Or.inl ⟨by rfl, ?_⟩) ?_ ?_
            rotate_left
            · intro w'
              go_simp
              with_reducible rfl
            rotate_left
            · simp only [Act.put, List.setIfInBounds_toArray, List.set_cons_zero, List.set_cons_succ, i64_w, i32_w]
              rfl
            refine last_ (i := 18) (N := none) #[true, true, true, true, true, true, true, true, true, true, true, true, true, true, true, true, true, true, true, false] rfl rfl (by kernel_rfl) (by decide) (fun K hK => ?_)
            refine skip_ (w1 := (((W7.setCell ⟨g, i * 5 + 1, none⟩ (.int .i64 x.f1)).setCell ⟨g, i * 5 + 2, none⟩ (.bool x.f2)).setCell ⟨g, i * 5 + 3, none⟩ (.string x.f3)).setCell ⟨g, i * 5 + 4, none⟩ (.slice A8 l8.length c8)) (by rfl) rfl ?_ ?_
            · go_simp
            refine hK.out _ _ ?_
            clear hK K w1 w2 w3 w4 z1 z2 z3 z4
            refine pure_ (i := 19) (N := some 10) (v := ?_) (a' := ?_) #[true, true, true, true, true, true, true, true, true, true, true, true, true, true, true, true, true, true, true, true] rfl rfl (by kernel_rfl) (fun _ _ _ h => h) (Or.inl ⟨by rfl, ?_⟩) ?_ ?_
            rotate_left
            · intro w'
              go_simp
              with_reducible rfl
            rotate_left
            · simp only [Act.put, List.setIfInBounds_toArray, List.set_cons_zero, List.set_cons_succ, i64_w, i32_w]
              rfl
            refine done_ (by kernel_rfl) ?_
            obtain ⟨W8, hW8⟩ : ∃ W8, W8 = (((W7.setCell ⟨g, i * 5 + 1, none⟩ (.int .i64 x.f1)).setCell ⟨g, i * 5 + 2, none⟩ (.bool x.f2)).setCell ⟨g, i * 5 + 3, none⟩ (.string x.f3)).setCell ⟨g, i * 5 + 4, none⟩ (.slice A8 l8.length c8) := ⟨_, rfl⟩
            obtain ⟨hP, hts, htd, hxt, htl, hgok, hgb, hUt, hU7, hb06, hb16, hrow7, hxm⟩ := HPX.out
            have hU78 : Upd (fun k => k = g) W7 W8 := by
              rw [hW8]
              exact (((Upd.setCell (S := fun k => k = g) (p := ⟨g, i * 5 + 1, none⟩) (.inl rfl) _).trans (Upd.setCell (S := fun k => k = g) (p := ⟨g, i * 5 + 2, none⟩) (.inl rfl) _) (fun k hk => .inl hk)).trans (Upd.setCell (S := fun k => k = g) (p := ⟨g, i * 5 + 3, none⟩) (.inl rfl) _) (fun k hk => .inl hk)).trans (Upd.setCell (S := fun k => k = g) (p := ⟨g, i * 5 + 4, none⟩) (.inl rfl) _) (fun k hk => .inl hk)
            have HU8 : Aside0 (Upd ok1 w W8) := ⟨hU7.trans hU78 (fun k hk => .inl (by rw [hk]; exact hgok))⟩
            have B08 := Aside0.mk (hb06.upd hU78 hgb.1)
            have B18 := Aside0.mk (hb16.upd hU78 hgb.2)
            have HO9 : Aside0 (Own W8 base (fun j => ok1 j ∨ W6.heap.size ≤ j) (.slice (some ⟨g, 0, none⟩) l.length c4) (l.set i { x with f4 := l8 })) := ⟨by
              have hrow8 : W8.ownsRow base eE 5 (.slice (some ⟨g, 0, none⟩) l.length c4) ts.length (fl (ts.set i ⟨{ x with f4 := l8 }, .slice A8 l8.length c8, fun j => td.f j ∨ W6.heap.size ≤ j⟩)) := by
                rw [show ({ x with f4 := l8 } : Ent) = ⟨td.x.f0, x.f1, x.f2, x.f3, l8⟩ from by rw [hxt], ← fl_store ts i td htd, hW8, htl]
                exact own_setAt (own_setAt (own_setAt (own_setAt hrow7 _ (by omega) _) _ (by omega) _) _ (by omega) _) _ (by omega) _
              have h1 := hP.put (w2 := W7) (w3 := W8) (okn := fun j => ok1 j ∨ W6.heap.size ≤ j) (fun k hk => hk.2.2.1) i td ⟨{ x with f4 := l8 }, .slice A8 l8.length c8, fun j => td.f j ∨ W6.heap.size ≤ j⟩ htd hUt HO8.out (fun k hk => hk) hrow8
                ⟨hU78.os, hU78.tape, hU78.output, hU78.size, fun k hk hn => hU78.block k hk (fun e => hn (by rw [e]; rfl))⟩ (fun k hk => .inl hk.1) (fun k hk => .inr hk)
              rw [List.map_set, ← hts] at h1
              exact h1⟩
            have HW6 : Aside0 (w.heap.size ≤ W6.heap.size) := ⟨Nat.le_trans HB5.out.size (by exact HS6.out)⟩
            rw [← hW8]
            clear hW8 hP hts htd hxt htl hgok hgb hUt hU7 hb06 hb16 hrow7 hxm hU78 HO8
            obtain ⟨x0, x1, x2, x3⟩ := cells4 B18.out
            obtain ⟨u0, u1, u2, u3⟩ := cells4 B08.out
            have y0 := B18.out.frozen 0
            have y1 := B18.out.frozen 1
            have y2 := B18.out.frozen 2
            have y3 := B18.out.frozen 3
            go_wp2_with fail
            have HF := put4_upd (b := b1) (c0 := .int .i64 3) (c1 := .bool e) (c2 := .string t) (c3 := .slice (some ⟨g, 0, none⟩) l.length c4) HU8.out HZ.out.2.1
            have HG := put4_blk (c0 := .int .i64 3) (c1 := .bool e) (c2 := .string t) (c3 := .slice (some ⟨g, 0, none⟩) l.length c4) B18.out
            have HH := put4_own (c0 := .int .i64 3) (c1 := .bool e) (c2 := .string t) (c3 := .slice (some ⟨g, 0, none⟩) l.length c4) HO9.out B18.out
            obtain ⟨z0, z1, z2, z3⟩ := cells4 HG
            refine bodyPost_ret (v := .tuple #[.agg #[.int .i64 3, .bool e, .string t, .slice (some ⟨g, 0, none⟩) l.length c4], .int .i64 0]) (by simp [results, Tryd.results44, go_sem, z0, z1, z2, z3]) rfl ⟨HF.mono (fun k hk => (HK1.out k hk).1), fun h => ?_, fun h => ?_⟩
            · rw [HRES.out, if_neg (fun h => h HQ0.out), ← HL8.out]
              exact ⟨_, rfl, HH.mono (fun k hk => hk.elim (fun h => .inl (HK1.out k h).1) (fun h => .inr (by have := HW6.out; omega)))⟩
            · rw [HRES.out, if_neg (fun h => h HQ0.out)] at h; exact absurd rfl h
          · have ho8 := hpost.no (by rw [← HQ.out]; exact hq0)
            rw [← HQ.out] at ho8
            obtain ⟨cq, hcq⟩ : ∃ cq, cq = q.2 := ⟨_, rfl⟩
            rw [← hcq] at ho8 hq0
            have HCQ := Aside0.mk hcq
            have HQ0 := Aside0.mk hq0
            clear hpost hcq
            refine ⟨_, ho8, ?_⟩
            clear ho8
            refine hK.out _ _ hHeld7 (fun _ => ?_)
            clear hK K hHeld7
            refine pure_ (i := 13) (N := some 28) (v := ?_) (a' := ?_) #[true, true, true, true, true, true, true, true, true, true, true, true, true, true, false, false, false, false, false, false] rfl rfl (by kernel_rfl) (fun _ _ _ h => h) (Or.inl ⟨by rfl, ?_⟩) ?_ ?_
            rotate_left
            · intro w'
              go_simp
              with_reducible rfl
            rotate_left
            · simp only [Act.put, List.setIfInBounds_toArray, List.set_cons_zero, List.set_cons_succ, i64_w, i32_w]
              rfl
            refine pure_ (i := 14) (N := some 42) (v := ?_) (a' := ?_) #[true, true, true, true, true, true, true, true, true, true, true, true, true, true, true, false, false, false, false, false] rfl rfl (by kernel_rfl) (fun _ _ _ h => h) (Or.inl ⟨by rfl, ?_⟩) ?_ ?_
            rotate_left
            · intro w'
              go_simp
              with_reducible rfl
            rotate_left
            · simp only [Act.put, List.setIfInBounds_toArray, List.set_cons_zero, List.set_cons_succ, i64_w, i32_w]
              rfl
            refine pure_ (i := 15) (N := some 43) (v := ?_) (a' := ?_) #[true, true, true, true, true, true, true, true, true, true, true, true, true, true, true, true, false, false, false, false] rfl rfl (by kernel_rfl) (fun _ _ _ h => h) (Or.inl ⟨by rfl, ?_⟩) ?_ ?_
            rotate_left
            · intro w'
              go_simp
              with_reducible rfl
            rotate_left
            · simp only [Act.put, List.setIfInBounds_toArray, List.set_cons_zero, List.set_cons_succ, i64_w, i32_w]
              rfl
            refine pure_ (i := 16) (N := some 44) (v := ?_) (a' := ?_) #[true, true, true, true, true, true, true, true, true, true, true, true, true, true, true, true, true, false, false, false] rfl rfl (by kernel_rfl) (fun _ _ _ h => h) (Or.inl ⟨by rfl, ?_⟩) ?_ ?_
            rotate_left
            · intro w'
              go_simp
              with_reducible rfl
            rotate_left
            · simp only [Act.put, List.setIfInBounds_toArray, List.set_cons_zero, List.set_cons_succ, i64_w, i32_w]
              rfl
            refine pure_ (i := 17) (N := some 45) (v := ?_) (a' := ?_) #[true, true, true, true, true, true, true, true, true, true, true, true, true, true, true, true, true, true, false, false] rfl rfl (by kernel_rfl) (fun _ _ _ h => h) (Or.inl ⟨by rfl, ?_⟩) ?_ ?_
            rotate_left
            · intro w'
              go_simp
              with_reducible rfl
            rotate_left
            · simp only [Act.put, List.setIfInBounds_toArray, List.set_cons_zero, List.set_cons_succ, i64_w, i32_w]
              rfl
            refine last_ (i := 18) (N := none) #[true, true, true, true, true, true, true, true, true, true, true, true, true, true, true, true, true, true, true, false] rfl rfl (by kernel_rfl) (by decide) (fun K hK => ?_)
            refine skip_ (w1 := (((W7.setCell ⟨g, i * 5 + 1, none⟩ (.int .i64 0)).setCell ⟨g, i * 5 + 2, none⟩ (.bool false)).setCell ⟨g, i * 5 + 3, none⟩ (.string ⟨#[]⟩)).setCell ⟨g, i * 5 + 4, none⟩ (.slice none 0 0)) (by rfl) rfl ?_ ?_
            · go_simp
            refine hK.out _ _ ?_
            clear hK K w1 w2 w3 w4 z1 z2 z3 z4
            refine pure_ (i := 19) (N := some 10) (v := ?_) (a' := ?_) #[true, true, true, true, true, true, true, true, true, true, true, true, true, true, true, true, true, true, true, true] rfl rfl (by kernel_rfl) (fun _ _ _ h => h) (Or.inl ⟨by rfl, ?_⟩) ?_ ?_
            rotate_left
            · intro w'
              go_simp
              with_reducible rfl
            rotate_left
            · simp only [Act.put, List.setIfInBounds_toArray, List.set_cons_zero, List.set_cons_succ, i64_w, i32_w]
              rfl
            refine done_ (by kernel_rfl) ?_
            obtain ⟨W8, hW8⟩ : ∃ W8, W8 = (((W7.setCell ⟨g, i * 5 + 1, none⟩ (.int .i64 0)).setCell ⟨g, i * 5 + 2, none⟩ (.bool false)).setCell ⟨g, i * 5 + 3, none⟩ (.string ⟨#[]⟩)).setCell ⟨g, i * 5 + 4, none⟩ (.slice none 0 0) := ⟨_, rfl⟩
            obtain ⟨hP, hts, htd, hxt, htl, hgok, hgb, hUt, hU7, hb06, hb16, hrow7, hxm⟩ := HPX.out
            have hU78 : Upd (fun k => k = g) W7 W8 := by
              rw [hW8]
              exact (((Upd.setCell (S := fun k => k = g) (p := ⟨g, i * 5 + 1, none⟩) (.inl rfl) _).trans (Upd.setCell (S := fun k => k = g) (p := ⟨g, i * 5 + 2, none⟩) (.inl rfl) _) (fun k hk => .inl hk)).trans (Upd.setCell (S := fun k => k = g) (p := ⟨g, i * 5 + 3, none⟩) (.inl rfl) _) (fun k hk => .inl hk)).trans (Upd.setCell (S := fun k => k = g) (p := ⟨g, i * 5 + 4, none⟩) (.inl rfl) _) (fun k hk => .inl hk)
            have HU8 : Aside0 (Upd ok1 w W8) := ⟨hU7.trans hU78 (fun k hk => .inl (by rw [hk]; exact hgok))⟩
            have B18 := Aside0.mk (hb16.upd hU78 hgb.2)
            rw [← hW8]
            clear hW8 hP hts htd hxt htl hgok hgb hUt hU7 hb06 hb16 hrow7 hxm hU78
            obtain ⟨x0, x1, x2, x3⟩ := cells4 B18.out
            have y0 := B18.out.frozen 0
            have y1 := B18.out.frozen 1
            have y2 := B18.out.frozen 2
            have y3 := B18.out.frozen 3
            have y4 : (cq != 0) = true := bne_iff_ne.mpr hq0
            clear hq0
            go_wp2_with fail
            have HF := put4_upd (b := b1) (c0 := .int .i64 0) (c1 := .bool false) (c2 := .string ⟨#[]⟩) (c3 := .slice none 0 0) HU8.out HZ.out.2.1
            have HG := put4_blk (c0 := .int .i64 0) (c1 := .bool false) (c2 := .string ⟨#[]⟩) (c3 := .slice none 0 0) B18.out
            obtain ⟨z0, z1, z2, z3⟩ := cells4 HG
            refine bodyPost_ret (v := .tuple #[.agg #[.int .i64 0, .bool false, .string ⟨#[]⟩, .slice none 0 0], .int .i64 cq]) (by simp [results, Tryd.results44, go_sem, z0, z1, z2, z3]) rfl ⟨HF.mono (fun k hk => (HK1.out k hk).1), fun h => ?_, fun h => ?_⟩
            · rw [HRES.out, if_pos (by rw [← HCQ.out]; exact HQ0.out)] at h; exact absurd h (by rw [← HCQ.out]; exact HQ0.out)
            · rw [HRES.out, if_pos (by rw [← HCQ.out]; exact HQ0.out), HCQ.out]
    · have k1 : (k != 3) = true := bne_iff_ne.mpr hk3
      have HRES : Aside0 (chN act (s :: r) k l = ([], 65)) := ⟨by rw [chN, if_pos hk3]⟩
      clear hk3
      go_enter Tryd.func44, Tryd.ntmps44
      go_wp2_with fail
      refine bodyPost_ret (v := .tuple #[.agg #[.int .i64 0, .bool false, .string ⟨#[]⟩, .slice none 0 0], .int .i64 65]) (by simp [results, Tryd.results44, go_sem]) rfl ⟨Upd.of_below (below_alloc (below_alloc (Below.refl _ _) _) _), fun h => ?_, fun h => ?_⟩
      · rw [HRES.out] at h; exact absurd h (by decide)
      · rw [HRES.out]
end Go.Proofs.YtnemeeidomceiaaDoor
end
section
namespace Go.Proofs.YtnemeeidomceiaaDoor
open Go.RowKit Go.Proofs.YtnemeeidomceiaaDoorW.PrintWords Go.Proofs.YtnemeeidomceiaaDoorW.PrintLast Go.Proofs.YtnemeeidomceiaaDoorW.PrintMore
set_option linter.unusedVariables false
set_option linter.unusedSimpArgs false
theorem tsz_pos : ∀ (f : Nat) (x : Ent), wf f x → 1 ≤ tsz f x
  | 0, x, h => h.elim
  | f + 1, x, h => by
    have h1 := own_pos x.f1 x.f2 x.f3
    have h2 := ksz_nonneg f x.f4
    show 1 ≤ ownS x.f1 x.f2 x.f3 + ksz f x.f4
    omega
theorem ksz_len (f : Nat) : ∀ l : List Ent, (l.length : Int) ≤ ksz f l + 0 ∨ ¬ ∀ y, y ∈ l → wf f y
  | [] => .inl (by simp [ksz])
  | y :: l => by
    by_cases hy : wf f y
    · rcases ksz_len f l with h | h
      · have h1 := tsz_pos f y hy
        have h2 := entS_range y.f0
        rw [ksz_cons, List.length_cons]
        exact .inl (by omega)
      · exact .inr (fun hh => h (fun z hz => hh z (List.mem_cons_of_mem _ hz)))
    · exact .inr (fun hh => hy (hh y List.mem_cons_self))
theorem ksz_mem (f : Nat) : ∀ (l : List Ent) (y : Ent), y ∈ l → tsz f y ≤ ksz f l
  | [], y, h => by cases h
  | z :: l, y, h => by
    have h1 := entS_range z.f0
    have h2 := tsz_nonneg f z
    have h3 := ksz_nonneg f l
    rw [ksz_cons]
    rcases List.mem_cons.1 h with rfl | h
    · omega
    · have := ksz_mem f l y h; omega
theorem wf_AllR : ∀ (f : Nat) (x : Ent), wf f x → tsz f x ≤ 1048576 → AllR x.f4
  | 0, x, h, _ => h.elim
  | f + 1, x, h, hf => by
    have h1 := ownS_range x.f1 x.f2 x.f3
    have h2 : ownS x.f1 x.f2 x.f3 + ksz f x.f4 ≤ 1048576 := hf
    refine .mk h.2.2.1 ?_ (fun y hy => wf_AllR f y (h.2.2.2 y hy) (by have := ksz_mem f x.f4 y hy; omega))
    rcases ksz_len f x.f4 with h3 | h3
    · omega
    · exact absurd h.2.2.2 h3
theorem look_AllR {k : Int} {e : Bool} {t : ByteArray} {l : List Ent} (h : lookCode (lookL k e t l) = 0) : AllR l := by
  have hfair := nodeL_fair 32 ⟨#[]⟩ ⟨⟨#[]⟩, k, e, t, l⟩ magS
  cases hs : lookL k e t l with
  | bad p c =>
    rw [hs] at h
    unfold lookL at hs
    rw [hs] at hfair
    exact absurd h hfair
  | ok b rows =>
    obtain ⟨h1, h2, h3, _⟩ := (look_iff k e t l b rows).1 hs
    exact wf_AllR 32 ⟨⟨#[]⟩, k, e, t, l⟩ h1 (by omega)
set_option maxHeartbeats 1000000 in
set_option maxRecDepth 100000 in
theorem cut1_yes (l : List Ent) (i : Nat) (s : ByteArray) (v : Value) (w : World) (base : Nat) (ok : Nat → Prop) (h : Own w base ok v l) (hi : i < l.length) :
    Calls Tryd.prog 45 #[v, .int .i64 i, .bool true, .string s] w fun o w' => ∃ v', o = .returned (.tuple #[v', .int .i64 0]) ∧ Aside0 (Own w' base ok v' (l.eraseIdx i)) ∧ Aside0 (Upd ok w w') := by
  obtain ⟨ts, hts, hP⟩ := h.parts
  have hln := congrArg List.length hts
  rw [List.length_map] at hln
  obtain ⟨m, hm⟩ : ∃ m, ts.length = m + 1 := ⟨ts.length - 1, by omega⟩
  have hrow := hP.row
  rw [hm] at hrow
  have hbd : (i : Int) < 9223372036854775807 := by
    rcases hrow.2 with ⟨_, h0⟩ | ⟨g, c, cur, _, _, _, hnc, hcm, _⟩
    · omega
    · unfold maxLen at hcm; omega
  have HD := Aside0.mk (deleteEnt_all base m i v (fl ts) w hrow (by omega) hP.ones)
  have HX := Aside0.mk (And.intro h (And.intro hts (And.intro hP (And.intro hm hln))))
  obtain ⟨A, c, hv⟩ := own_slice hrow
  subst hv
  have hi0 : (0 : Int) ≤ (i : Int) := by omega
  clear h hP hrow hts hln hm
  go_enter Tryd.func45, Tryd.ntmps45
  go_wp2_with fail
  (with_reducible refine HD.out.mono ?_)
  rintro o w1 ⟨v', rfl, hrow', hg, hat⟩
  obtain ⟨h, hts, hP, hm, hln⟩ := HX.out
  have HR : Aside0 (Own w1 base ok v' (l.eraseIdx i)) := ⟨by
    have := hP.delete (w1 := w1) (v1 := v') (fun k hk => hk.2.2.1) i (by omega) (by rw [show ts.length - 1 = m from by omega]; exact hrow') hg hat
    have e : (ts.eraseIdx i).map (·.x) = l.eraseIdx i := by rw [hts, List.eraseIdx_eq_take_drop_succ, List.eraseIdx_eq_take_drop_succ, List.map_append, List.map_take, List.map_drop]
    rw [e] at this
    exact this.mono (fun k hk => hk.1)⟩
  have HU : Aside0 (Upd ok w w1) := ⟨Upd.of_grown hg (fun k hk => .inl (hP.own k hk).1)⟩
  clear hrow' hg hat h hts hP hm hln HX HD
  go_wp2
  go_ret2
  exact ⟨_, rfl, HR, HU⟩
set_option maxHeartbeats 1000000 in
set_option maxRecDepth 100000 in
theorem cut1_no (i : Int) (s : ByteArray) (A : Option Addr) (n c : Nat) (w : World) :
    Calls Tryd.prog 45 #[.slice A n c, .int .i64 i, .bool false, .string s] w fun o w' => o = .returned (.tuple #[.slice A n c, .int .i64 3]) ∧ w = w' := by
  go_enter Tryd.func45, Tryd.ntmps45
  go_wp2
  go_ret2
  exact ⟨rfl, rfl⟩
/-- What the closure of tree.Cut makes. -/
def cutAct (l : List Ent) (i : Nat) (hs : Bool) (s : ByteArray) : List Ent × Int := if hs = true then (l.eraseIdx i, 0) else (l, 3)
theorem cut1_any (l : List Ent) (s : ByteArray) (v : Value) (w : World) (base : Nat) (ok : Nat → Prop) (h : Own w base ok v l) :
    Calls Tryd.prog 45 #[v, .int .i64 (rk l s), .bool (hasN l s), .string s] w fun o w' => ∃ v', o = .returned (.tuple #[v', .int .i64 (cutAct l (rk l s) (hasN l s) s).2]) ∧ Own w' base (fun k => ok k ∨ w.heap.size ≤ k) v' (cutAct l (rk l s) (hasN l s) s).1 ∧ Upd ok w w' := by
  cases hs : hasN l s with
  | true =>
    obtain ⟨x, hx, _⟩ := hasN_at hs
    refine (cut1_yes l (rk l s) s v w base ok h (List.getElem?_eq_some_iff.1 hx).1).mono ?_
    rintro o w' ⟨v', ho, hO, hU⟩
    exact ⟨v', ho, hO.out.mono (fun k hk => .inl hk), hU.out⟩
  | false =>
    obtain ⟨A, c, hv, _⟩ := h.slice
    subst hv
    refine (cut1_no (rk l s) s A l.length c w).mono ?_
    rintro o w' ⟨ho, rfl⟩
    exact ⟨_, ho, h.mono (fun k hk => .inl hk), Upd.refl _ _⟩
/-- The names of a path, if the tree is well and the path one; the error's number. -/
def readyP (k : Int) (e : Bool) (t : ByteArray) (l : List Ent) (path : ByteArray) : List ByteArray × Int := if lookCode (lookL k e t l) ≠ 0 then ([], lookCode (lookL k e t l)) else ((splitP path).1, (splitP path).2.1)
set_option maxHeartbeats 2000000 in
set_option maxRecDepth 100000 in
theorem ready_calls (k : Int) (e : Bool) (t : ByteArray) (l : List Ent) (path : ByteArray) (A : Option Addr) (c : Nat) (w : World) (hC : Kd.C kE w A l.length l) (hc : l.length ≤ c) (hh : Held t l) (hp : path.size ≤ 140737488351232) :
    Calls Tryd.prog 37 #[.agg #[.int .i64 k, .bool e, .string t, .slice A l.length c], .string path] w fun o w' => ∃ v, o = .returned (.tuple #[v, .int .i64 (readyP k e t l path).2]) ∧ Kd.R Kd.string 9 w' w.heap.size (fun _ => True) v (readyP k e t l path).1 ∧ Below w.heap.size w w' := by
  obtain ⟨cd, hcd⟩ : ∃ cd, cd = lookCode (lookL k e t l) := ⟨_, rfl⟩
  obtain ⟨q, hq⟩ : ∃ q, q = lookPath (lookL k e t l) := ⟨_, rfl⟩
  obtain ⟨sp, hsp⟩ : ∃ sp, sp = splitP path := ⟨_, rfl⟩
  have HCD := Aside0.mk hcd
  have HC := Aside0.mk (And.intro hC hc)
  have HCK : Aside0 (∀ W, Below w.heap.size w W → Calls Tryd.prog 14 #[.agg #[.int .i64 k, .bool e, .string t, .slice A l.length c]] W fun e w' => e = .returned (.tuple #[.string q, .int .i64 cd]) ∧ Below W.heap.size W w') := ⟨fun W hb => tree_Check.calls k e t A c l q cd W (Kd.C_below hC hb) hc (by unfold tree_Check.f; rw [if_pos hh, hcd, hq])⟩
  have HSP : Aside0 (∀ W, Calls Tryd.prog 29 #[.string path] W fun e w' => ∃ v0_ : Value, e = .returned (.tuple #[v0_, .agg #[.int .i64 sp.2.1, .int .i64 sp.2.2]]) ∧ Kd.R Kd.string 9 w' W.heap.size (fun _ => True) v0_ sp.1 ∧ Below W.heap.size W w') := ⟨fun W => name_Split.calls path sp.1 sp.2.1 sp.2.2 W (by unfold name_Split.f; rw [if_pos hp, hsp])⟩
  unfold readyP
  rw [← hcd, ← hsp]
  clear hC hc hh hcd hq hsp
  by_cases hz : cd = 0
  · subst hz
    rw [if_neg (by decide)]
    go_enter Tryd.func37, Tryd.ntmps37
    go_wp2_with fail
    have hb1 : Below w.heap.size w (w.alloc (.cells #[.int .i64 k, .bool e, .string t, .slice A l.length c] 32)) := below_alloc (Below.refl _ _) _
    (with_reducible refine (HCK.out _ hb1).mono ?_)
    rintro o w1 ⟨rfl, hb2⟩
    have HB1 := Aside0.mk (below_step hb1 hb2)
    clear hb1 hb2
    go_wp2_with fail
    (with_reducible refine (HSP.out w1).mono ?_)
    rintro o w2 ⟨v, rfl, hR, hb⟩
    obtain ⟨A2, c2, hv⟩ := Kd.R_slice hR
    subst hv
    have HR := Aside0.mk (Kd.R_lower hR HB1.out.size)
    have HB2 := Aside0.mk (below_step HB1.out hb)
    clear hR hb HB1
    go_wp2_with fail
    obtain ⟨W3, hW3⟩ : ∃ W3, W3 = w2.alloc (.cells #[.int .i64 sp.2.1, .int .i64 sp.2.2] 35) := ⟨_, rfl⟩
    have hbl : Blk W3 w2.heap.size 35 [.int .i64 sp.2.1, .int .i64 sp.2.2] := by rw [hW3]; exact Blk.new _ _ _
    have hb3 : Below w2.heap.size w2 W3 := by rw [hW3]; exact below_alloc (Below.refl _ _) _
    have HR3 := Aside0.mk (Kd.R_below HR.out hb3)
    have HB3 := Aside0.mk (below_step HB2.out hb3)
    have x0 := hbl.cell 0 _ rfl
    rw [← hW3]
    clear hW3 hb3 hbl
    go_quiet (fail)
    go_wp2_with fail
    go_ret2
    exact ⟨_, rfl, Kd.R_below HR3.out (pw_below_drewN (Below.refl _ _) _), below_step HB3.out (pw_below_drewN (Below.refl _ _) _)⟩
  · have hz1 : (cd != 0) = true := bne_iff_ne.mpr hz
    rw [if_pos hz]
    clear hz
    go_enter Tryd.func37, Tryd.ntmps37
    go_wp2_with fail
    have hb1 : Below w.heap.size w (w.alloc (.cells #[.int .i64 k, .bool e, .string t, .slice A l.length c] 32)) := below_alloc (Below.refl _ _) _
    (with_reducible refine (HCK.out _ hb1).mono ?_)
    rintro o w1 ⟨rfl, hb2⟩
    have HB1 := Aside0.mk (below_step hb1 hb2)
    clear hb1 hb2
    go_wp2_with fail
    go_ret2
    exact ⟨_, rfl, Kd.R_nil _ _ _ _ _, HB1.out⟩
abbrev NodeT := Int × Bool × ByteArray × List Ent
def zeroT : NodeT := (0, false, ⟨#[]⟩, [])
/-- The tree without what stands at a path. -/
def cutP (k : Int) (e : Bool) (t : ByteArray) (l : List Ent) (path : ByteArray) : NodeT × Int :=
  if (readyP k e t l path).2 ≠ 0 then (zeroT, (readyP k e t l path).2)
  else if (readyP k e t l path).1 = [] then (zeroT, 66)
  else if (chN cutAct (readyP k e t l path).1 k l).2 ≠ 0 then (zeroT, (chN cutAct (readyP k e t l path).1 k l).2)
  else ((k, e, t, (chN cutAct (readyP k e t l path).1 k l).1), 0)
/-- What hands a tree back. -/
structure TreePost (w : World) (r : NodeT × Int) (o : Ending) (w' : World) : Prop where
  out : ∃ v, o = .returned (.tuple #[.agg #[.int .i64 r.1.1, .bool r.1.2.1, .string r.1.2.2.1, v], .int .i64 r.2]) ∧ Own w' w.heap.size (fun k => w.heap.size ≤ k) v r.1.2.2.2
  below : Below w.heap.size w w'
theorem TreePost.read {w w' : World} {r : NodeT × Int} {o : Ending} (h : TreePost w r o w') : ∃ v, o = .returned (.tuple #[.agg #[.int .i64 r.1.1, .bool r.1.2.1, .string r.1.2.2.1, v], .int .i64 r.2]) ∧ Kd.R kE eE w' w.heap.size (fun _ => True) v r.1.2.2.2 :=
  h.out.elim fun v hv => ⟨v, hv.1, Kd.R_mono hv.2.toR (fun _ _ => trivial)⟩
theorem Own.above {w : World} {b b0 : Nat} {ok : Nat → Prop} {v : Value} {l : List Ent} (h : Own w b ok v l) (hb : b0 ≤ b) : Own w b0 (fun k => b0 ≤ k) v l := (h.bound.lower hb).mono (fun k hk => Nat.le_trans hb hk.2.1)
theorem below_put4 {B : Nat} {w W : World} {b : Nat} {c0 c1 c2 c3 : Value} (h : Below B w W) (hb : B ≤ b) : Below B w ((((W.setCell ⟨b, 0, none⟩ c0).setCell ⟨b, 1, none⟩ c1).setCell ⟨b, 2, none⟩ c2).setCell ⟨b, 3, none⟩ c3) :=
  (((h.setCell (p := ⟨b, 0, none⟩) hb c0).setCell (p := ⟨b, 1, none⟩) hb c1).setCell (p := ⟨b, 2, none⟩) hb c2).setCell (p := ⟨b, 3, none⟩) hb c3
theorem Upd.toBelow {w w' : World} {S : Nat → Prop} {B : Nat} (h : Upd S w w') (hS : ∀ k, S k → B ≤ k) (hB : B ≤ w.heap.size) : Below B w w' := h.below hS hB
set_option maxHeartbeats 4000000 in
set_option maxRecDepth 100000 in
theorem cut_calls (k : Int) (e : Bool) (t : ByteArray) (l : List Ent) (path : ByteArray) (A : Option Addr) (c : Nat) (w : World) (hC : Kd.C kE w A l.length l) (hc : l.length ≤ c) (hh : Held t l) (hf : Fit l) (hp : path.size ≤ 140737488351232) :
    Calls Tryd.prog 18 #[.agg #[.int .i64 k, .bool e, .string t, .slice A l.length c], .string path] w (TreePost w (cutP k e t l path)) := by
  obtain ⟨rp, hrp⟩ : ∃ rp, rp = readyP k e t l path := ⟨_, rfl⟩
  have HAR : Aside0 (rp.2 = 0 → AllR l) := ⟨fun h => look_AllR (by
    rw [hrp] at h
    unfold readyP at h
    split at h
    · rename_i h2; exact absurd h h2
    · rename_i h2; exact Decidable.of_not_not h2)⟩
  have HC := Aside0.mk (And.intro hC hc)
  have HRD : Aside0 (∀ W, Below w.heap.size w W → Calls Tryd.prog 37 #[.agg #[.int .i64 k, .bool e, .string t, .slice A l.length c], .string path] W fun o w' => ∃ v, o = .returned (.tuple #[v, .int .i64 rp.2]) ∧ Kd.R Kd.string 9 w' W.heap.size (fun _ => True) v rp.1 ∧ Below W.heap.size W w') := ⟨fun W hb => by rw [hrp]; exact ready_calls k e t l path A c W (Kd.C_below hC hb) hc hh hp⟩
  have HCP : Aside0 (∀ W, Below w.heap.size w W → Calls Tryd.prog 24 #[.agg #[.int .i64 k, .bool e, .string t, .slice A l.length c]] W fun o w' => ∃ v, o = .returned (.agg #[.int .i64 k, .bool e, .string t, v]) ∧ Own w' W.heap.size (fun k => W.heap.size ≤ k) v l ∧ Below W.heap.size W w') := ⟨fun W hb => copyO_calls l hf k e t A c W (Kd.C_below hC hb) hc⟩
  obtain ⟨res, hres⟩ : ∃ res, res = cutP k e t l path := ⟨_, rfl⟩
  have HRES : Aside0 (res = if rp.2 ≠ 0 then (zeroT, rp.2) else if rp.1 = [] then (zeroT, 66) else if (chN cutAct rp.1 k l).2 ≠ 0 then (zeroT, (chN cutAct rp.1 k l).2) else ((k, e, t, (chN cutAct rp.1 k l).1), 0)) := ⟨by rw [hres, hrp]; rfl⟩
  rw [← hres]
  clear hC hc hh hf hrp hres
  have HFIN : Aside0 (∀ (W : World) (b : Nat) (cd : Int), Below w.heap.size w W → w.heap.size ≤ b → Blk W b 32 [.int .i64 0, .bool false, .string ⟨#[]⟩, .slice none 0 0] → Below w.heap.size w ((((W.setCell ⟨b, 0, none⟩ (.int .i64 0)).setCell ⟨b, 1, none⟩ (.bool false)).setCell ⟨b, 2, none⟩ (.string ⟨#[]⟩)).setCell ⟨b, 3, none⟩ (.slice none 0 0)) ∧ Blk ((((W.setCell ⟨b, 0, none⟩ (.int .i64 0)).setCell ⟨b, 1, none⟩ (.bool false)).setCell ⟨b, 2, none⟩ (.string ⟨#[]⟩)).setCell ⟨b, 3, none⟩ (.slice none 0 0)) b 32 [.int .i64 0, .bool false, .string ⟨#[]⟩, .slice none 0 0]) :=
    ⟨fun W b cd hb hb2 hB => ⟨below_put4 hb hb2, put4_blk hB⟩⟩
  go_enter Tryd.func18, Tryd.ntmps18
  go_wp2_with fail
  obtain ⟨W2, hW2⟩ : ∃ W2, W2 = (w.alloc (.cells #[.int .i64 k, .bool e, .string t, .slice A l.length c] 32)).alloc (.cells #[.int .i64 0, .bool false, .string ⟨#[]⟩, .slice none 0 0] 32) := ⟨_, rfl⟩
  rw [← hW2]
  obtain ⟨b0, hb0⟩ : ∃ b, b = w.heap.size := ⟨_, rfl⟩
  obtain ⟨b1, hb1⟩ : ∃ b, b = w.heap.size + 1 := ⟨_, rfl⟩
  rw [← hb1, ← hb0]
  have B0 : Aside0 (Blk W2 b0 32 [.int .i64 k, .bool e, .string t, .slice A l.length c]) := ⟨by rw [hW2, hb0]; exact (Blk.new w _ [.int .i64 k, .bool e, .string t, .slice A l.length c]).alloc _⟩
  have B1 : Aside0 (Blk W2 b1 32 [.int .i64 0, .bool false, .string ⟨#[]⟩, .slice none 0 0]) := ⟨by rw [hW2]; exact Blk.new' _ _ [.int .i64 0, .bool false, .string ⟨#[]⟩, .slice none 0 0] (by rw [hb1]; simp)⟩
  have HB : Aside0 (Below w.heap.size w W2) := ⟨by rw [hW2]; exact below_alloc (below_alloc (Below.refl _ _) _) _⟩
  have HZ : Aside0 (w.heap.size ≤ b0 ∧ w.heap.size ≤ b1 ∧ b0 ≠ b1) := ⟨by omega⟩
  clear hW2 hb0 hb1
  (with_reducible refine (HRD.out W2 HB.out).mono ?_)
  rintro o W3 ⟨v, rfl, hR, hb⟩
  obtain ⟨A2, c2, hv⟩ := Kd.R_slice hR
  subst hv
  have HR := Aside0.mk hR
  have HB3 := Aside0.mk (below_step HB.out hb)
  have B03 := Aside0.mk (B0.out.below hb)
  have B13 := Aside0.mk (B1.out.below hb)
  clear hR hb HB B0 B1 HRD
  obtain ⟨cd, hcd⟩ : ∃ cd, cd = rp.2 := ⟨_, rfl⟩
  rw [← hcd] at HAR HRES ⊢
  have x0 := B13.out.frozen 0
  have x1 := B13.out.frozen 1
  have x2 := B13.out.frozen 2
  have x3 := B13.out.frozen 3
  obtain ⟨y0, y1, y2, y3⟩ := cells4 B13.out
  clear hcd
  by_cases hz : cd = 0
  · subst hz
    by_cases hn : rp.1 = []
    · have HRS : Aside0 (res = (zeroT, 66)) := ⟨by have := HRES.out; rw [if_neg (by decide), if_pos hn] at this; exact this⟩
      have hl : rp.1.length = 0 := by rw [hn]; rfl
      rw [hl]
      clear hn hl
      go_wp2_with fail
      have hF := HFIN.out W3 b1 66 HB3.out HZ.out.2.1 B13.out
      obtain ⟨z0, z1, z2, z3⟩ := cells4 hF.2
      rw [HRS.out]
      exact bodyPost_ret (v := .tuple #[.agg #[.int .i64 0, .bool false, .string ⟨#[]⟩, .slice none 0 0], .int .i64 66]) (by simp [results, Tryd.results18, go_sem, z0, z1, z2, z3]) rfl ⟨⟨_, rfl, Own.nil _ _ _⟩, hF.1⟩
    · have HRS : Aside0 (res = if (chN cutAct rp.1 k l).2 ≠ 0 then (zeroT, (chN cutAct rp.1 k l).2) else ((k, e, t, (chN cutAct rp.1 k l).1), 0)) := ⟨by have := HRES.out; rw [if_neg (by decide), if_neg hn] at this; exact this⟩
      obtain ⟨n, hnl⟩ : ∃ n, n = rp.1.length := ⟨_, rfl⟩
      have hn0 : ¬ n = 0 := by rw [hnl]; exact fun h => hn (List.length_eq_zero_iff.1 h)
      have hn1 : ((n : Int) == 0) = false := beq_eq_false_iff_ne.mpr (by omega)
      rw [← hnl]
      have HNL := Aside0.mk hnl
      obtain ⟨q, hq⟩ : ∃ q, q = chN cutAct rp.1 k l := ⟨_, rfl⟩
      have HQ := Aside0.mk hq
      rw [← hq] at HRS
      obtain ⟨u0, u1, u2, u3⟩ := cells4 B03.out
      clear hn hnl hq
      go_wp2_with fail
      (with_reducible refine (HCP.out W3 HB3.out).mono ?_)
      rintro o W4 ⟨v, rfl, hO, hb⟩
      obtain ⟨A4, c4, hv, _⟩ := hO.slice
      subst hv
      have HO := Aside0.mk hO
      have HB34 := Aside0.mk hb
      have B14 := Aside0.mk (B13.out.below hb)
      clear hO hb u0 u1 u2 u3
      go_wp2_with fail
      have hrr := Kd.R_reads' HR.out
      have hNF : NamesF W4 (fun j => W3.heap.size ≤ j) A2 rp.1 := by
        have h1 := Kd.F_old (Kd.R_F HR.out) HB34.out
        rw [hrr.1] at h1
        exact Kd.F_mono h1 (fun j hj => ⟨fun h => by have := hj.2; omega, Nat.lt_of_lt_of_le hj.2 HB34.out.size⟩)
      have hch := change_calls 45 Tryd.f45 Tryd.func45 (by kernel_rfl) rfl #[] cutAct W3.heap.size (fun _ => True) (fun _ _ _ _ => trivial) (fun l s v w ok h _ _ _ _ => cut1_any l s v w _ ok h) rp.1 k e t (.slice A4 l.length c4) l A2 c2 W4 (fun j => W3.heap.size ≤ j) HO.out (HAR.out (by first | rfl | trivial)) HB34.out.size trivial hNF (by rw [← hrr.1]; exact hrr.2.1)
      rw [← HNL.out, ← HQ.out] at hch
      clear hrr hNF
      (with_reducible refine hch.mono ?_)
      clear hch
      rintro o W5 hpost
      have HB5 : Aside0 (Below w.heap.size w W5) := ⟨(below_step HB3.out HB34.out).trans (hpost.upd.toBelow (fun j hj => Nat.le_trans HB3.out.size hj) (Nat.le_trans HB3.out.size HB34.out.size))⟩
      have B15 := Aside0.mk (B14.out.upd hpost.upd (fun h => by have := B13.out.lt; omega))
      have x0 := B15.out.frozen 0
      have x1 := B15.out.frozen 1
      have x2 := B15.out.frozen 2
      have x3 := B15.out.frozen 3
      obtain ⟨y0, y1, y2, y3⟩ := cells4 B15.out
      by_cases hq0 : q.2 = 0
      · have HRT : Aside0 (res = ((k, e, t, q.1), 0)) := ⟨by have := HRS.out; rw [if_neg (fun h => h hq0)] at this; exact this⟩
        obtain ⟨v8, ho8, hO8⟩ := hpost.yes hq0
        subst ho8
        have HO8 := Aside0.mk hO8
        obtain ⟨A8, c8, hv8, _⟩ := hO8.slice
        subst hv8
        clear hO8 hpost hq0
        go_wp2_with fail
        have hF : Below w.heap.size w ((((W5.setCell ⟨b1, 0, none⟩ (.int .i64 k)).setCell ⟨b1, 1, none⟩ (.bool e)).setCell ⟨b1, 2, none⟩ (.string t)).setCell ⟨b1, 3, none⟩ (.slice A8 q.1.length c8)) := below_put4 HB5.out HZ.out.2.1
        have hG := put4_blk (c0 := .int .i64 k) (c1 := .bool e) (c2 := .string t) (c3 := .slice A8 q.1.length c8) B15.out
        have hH := put4_own (c0 := .int .i64 k) (c1 := .bool e) (c2 := .string t) (c3 := .slice A8 q.1.length c8) HO8.out B15.out
        obtain ⟨z0, z1, z2, z3⟩ := cells4 hG
        rw [HRT.out]
        exact bodyPost_ret (v := .tuple #[.agg #[.int .i64 k, .bool e, .string t, .slice A8 q.1.length c8], .int .i64 0]) (by simp [results, Tryd.results18, go_sem, z0, z1, z2, z3]) rfl ⟨⟨_, rfl, hH.above HB3.out.size⟩, hF⟩
      · have HRT : Aside0 (res = (zeroT, q.2)) := ⟨by have := HRS.out; rw [if_pos hq0] at this; exact this⟩
        have ho8 := hpost.no hq0
        subst ho8
        clear hpost hq0
        go_wp2_with fail
        have hF := HFIN.out W5 b1 0 HB5.out HZ.out.2.1 B15.out
        obtain ⟨z0, z1, z2, z3⟩ := cells4 hF.2
        rw [HRT.out]
        exact bodyPost_ret (v := .tuple #[.agg #[.int .i64 0, .bool false, .string ⟨#[]⟩, .slice none 0 0], .int .i64 q.2]) (by simp [results, Tryd.results18, go_sem, z0, z1, z2, z3]) rfl ⟨⟨_, rfl, Own.nil _ _ _⟩, hF.1⟩
  · have HRT : Aside0 (res = (zeroT, cd)) := ⟨by have := HRES.out; rw [if_pos hz] at this; exact this⟩
    have hz1 : (cd != 0) = true := bne_iff_ne.mpr hz
    have hz2 : (cd == 0) = false := beq_eq_false_iff_ne.mpr hz
    clear hz
    go_wp2_with fail
    have hF := HFIN.out W3 b1 0 HB3.out HZ.out.2.1 B13.out
    obtain ⟨z0, z1, z2, z3⟩ := cells4 hF.2
    rw [HRT.out]
    exact bodyPost_ret (v := .tuple #[.agg #[.int .i64 0, .bool false, .string ⟨#[]⟩, .slice none 0 0], .int .i64 cd]) (by simp [results, Tryd.results18, go_sem, z0, z1, z2, z3]) rfl ⟨⟨_, rfl, Own.nil _ _ _⟩, hF.1⟩
end Go.Proofs.YtnemeeidomceiaaDoor
end
section
namespace Go.Proofs.YtnemeeidomceiaaDoor
open Go.RowKit Go.Proofs.YtnemeeidomceiaaDoorW.PrintWords Go.Proofs.YtnemeeidomceiaaDoorW.PrintLast Go.Proofs.YtnemeeidomceiaaDoorW.PrintMore
set_option linter.unusedVariables false
set_option linter.unusedSimpArgs false
/-- A kid's node. -/
def nodeOf (x : Ent) : NodeT := (x.f1, x.f2, x.f3, x.f4)
/-- What stands at these names; the error's number. -/
def getN : List ByteArray → NodeT → NodeT × Int
  | [], n => (n, 0)
  | s :: r, n => if n.1 ≠ 3 then (zeroT, 65) else match (if hasN n.2.2.2 s = true then n.2.2.2[rk n.2.2.2 s]? else none) with
    | none => (zeroT, 3)
    | some x => getN r (nodeOf x)
def getP (n : NodeT) (path : ByteArray) : NodeT × Int := if (readyP n.1 n.2.1 n.2.2.1 n.2.2.2 path).2 ≠ 0 then (zeroT, (readyP n.1 n.2.1 n.2.2.1 n.2.2.2 path).2) else getN (readyP n.1 n.2.1 n.2.2.1 n.2.2.2 path).1 n
theorem Fit.at_ {l : List Ent} (h : Fit l) {x : Ent} (hx : x ∈ l) : Fit x.f4 := by
  cases h with
  | mk h k => exact k x hx
theorem names_drop {w : World} {A : Option Addr} {ns : List ByteArray} (hC : Kd.C Kd.string w A ns.length ns) (j : Nat) (hj : j < ns.length) : ∃ ad, A = some ad ∧ w.cell? (ad.add j) = some (.string (ns[j]'hj)) := by
  obtain ⟨ad, hA, hc⟩ := Kd.at_string hC (j : Int) (by omega) (by omega)
  refine ⟨ad, hA, ?_⟩
  simp only [Int.toNat_natCast] at hc
  rw [hc]
  simp [rdOf, hj]
set_option maxHeartbeats 4000000 in
set_option maxRecDepth 100000 in
theorem get_calls (n : NodeT) (path : ByteArray) (A : Option Addr) (c : Nat) (w : World) (hC : Kd.C kE w A n.2.2.2.length n.2.2.2) (hc : n.2.2.2.length ≤ c) (hh : Held n.2.2.1 n.2.2.2) (hf : Fit n.2.2.2) (hp : path.size ≤ 140737488351232) :
    Calls Tryd.prog 16 #[.agg #[.int .i64 n.1, .bool n.2.1, .string n.2.2.1, .slice A n.2.2.2.length c], .string path] w (TreePost w (getP n path)) := by
  obtain ⟨res, hres⟩ : ∃ res, res = getP n path := ⟨_, rfl⟩
  obtain ⟨k, e, t, l⟩ := n
  simp only at *
  obtain ⟨rp, hrp⟩ : ∃ rp, rp = readyP k e t l path := ⟨_, rfl⟩
  have HRES : Aside0 (res = if rp.2 ≠ 0 then (zeroT, rp.2) else getN rp.1 (k, e, t, l)) := ⟨by rw [hres, hrp]; rfl⟩
  have HAR : Aside0 (rp.2 = 0 → AllR l) := ⟨fun h => look_AllR (by
    rw [hrp] at h
    unfold readyP at h
    split at h
    · rename_i h2; exact absurd h h2
    · rename_i h2; exact Decidable.of_not_not h2)⟩
  have HC := Aside0.mk (And.intro hC (And.intro hc hf))
  have HRD : Aside0 (∀ W, Below w.heap.size w W → Calls Tryd.prog 37 #[.agg #[.int .i64 k, .bool e, .string t, .slice A l.length c], .string path] W fun o w' => ∃ v, o = .returned (.tuple #[v, .int .i64 rp.2]) ∧ Kd.R Kd.string 9 w' W.heap.size (fun _ => True) v rp.1 ∧ Below W.heap.size W w') := ⟨fun W hb => by rw [hrp]; exact ready_calls k e t l path A c W (Kd.C_below hC hb) hc hh hp⟩
  rw [← hres]
  clear hC hc hh hf hrp hres hp
  go_enter Tryd.func16, Tryd.ntmps16
  go_wp2_with fail
  obtain ⟨W2, hW2⟩ : ∃ W2, W2 = (w.alloc (.cells #[.int .i64 k, .bool e, .string t, .slice A l.length c] 32)).alloc (.cells #[.int .i64 0, .bool false, .string ⟨#[]⟩, .slice none 0 0] 32) := ⟨_, rfl⟩
  rw [← hW2]
  obtain ⟨b0, hb0⟩ : ∃ b, b = w.heap.size := ⟨_, rfl⟩
  obtain ⟨b1, hb1⟩ : ∃ b, b = w.heap.size + 1 := ⟨_, rfl⟩
  rw [← hb1, ← hb0]
  have B0 : Aside0 (Blk W2 b0 32 [.int .i64 k, .bool e, .string t, .slice A l.length c]) := ⟨by rw [hW2, hb0]; exact (Blk.new w _ [.int .i64 k, .bool e, .string t, .slice A l.length c]).alloc _⟩
  have B1 : Aside0 (Blk W2 b1 32 [.int .i64 0, .bool false, .string ⟨#[]⟩, .slice none 0 0]) := ⟨by rw [hW2]; exact Blk.new' _ _ [.int .i64 0, .bool false, .string ⟨#[]⟩, .slice none 0 0] (by rw [hb1]; simp)⟩
  have HB : Aside0 (Below w.heap.size w W2) := ⟨by rw [hW2]; exact below_alloc (below_alloc (Below.refl _ _) _) _⟩
  have HZ : Aside0 (w.heap.size ≤ b0 ∧ w.heap.size ≤ b1 ∧ b0 ≠ b1) := ⟨by omega⟩
  clear hW2 hb0 hb1
  have HFIN : Aside0 (∀ (W : World), Below w.heap.size w W → Blk W b1 32 [.int .i64 0, .bool false, .string ⟨#[]⟩, .slice none 0 0] → Below w.heap.size w ((((W.setCell ⟨b1, 0, none⟩ (.int .i64 0)).setCell ⟨b1, 1, none⟩ (.bool false)).setCell ⟨b1, 2, none⟩ (.string ⟨#[]⟩)).setCell ⟨b1, 3, none⟩ (.slice none 0 0)) ∧ Blk ((((W.setCell ⟨b1, 0, none⟩ (.int .i64 0)).setCell ⟨b1, 1, none⟩ (.bool false)).setCell ⟨b1, 2, none⟩ (.string ⟨#[]⟩)).setCell ⟨b1, 3, none⟩ (.slice none 0 0)) b1 32 [.int .i64 0, .bool false, .string ⟨#[]⟩, .slice none 0 0]) :=
    ⟨fun W hb hB => ⟨below_put4 hb HZ.out.2.1, put4_blk hB⟩⟩
  (with_reducible refine (HRD.out W2 HB.out).mono ?_)
  rintro o W3 ⟨v, rfl, hR, hb⟩
  obtain ⟨A2, c2, hv⟩ := Kd.R_slice hR
  subst hv
  have HR := Aside0.mk hR
  have HB3 := Aside0.mk (below_step HB.out hb)
  have B03 := Aside0.mk (B0.out.below hb)
  have B13 := Aside0.mk (B1.out.below hb)
  clear hR hb HB B0 B1 HRD
  obtain ⟨cd, hcd⟩ : ∃ cd, cd = rp.2 := ⟨_, rfl⟩
  rw [← hcd] at HAR HRES ⊢
  have x0 := B13.out.frozen 0
  have x1 := B13.out.frozen 1
  have x2 := B13.out.frozen 2
  have x3 := B13.out.frozen 3
  obtain ⟨y0, y1, y2, y3⟩ := cells4 B13.out
  clear hcd
  by_cases hz : cd = 0
  · subst hz
    have HARL := Aside0.mk (HAR.out rfl)
    have HRT : Aside0 (res = getN rp.1 (k, e, t, l)) := ⟨by have := HRES.out; rw [if_neg (fun h => h rfl)] at this; exact this⟩
    obtain ⟨ns, hns⟩ : ∃ ns, ns = rp.1 := ⟨_, rfl⟩
    rw [← hns] at HR HRT ⊢
    have hrr := Kd.R_reads' HR.out
    have HNS := Aside0.mk hrr.2.2
    have hnl : ns.length ≤ 9223372036854775807 := hrr.2.2.2.1
    have HBK := Aside0.mk (Kd.R_bound HR.out)
    have HF : Aside0 (Kd.F Kd.string W3 (fun b => b ≠ b0) A2 ns.length ns) := ⟨Kd.F_mono (Kd.R_F (Kd.R_types HR.out B03.out (fun q hq => by
      rcases List.mem_cons.1 hq with h | h
      · rw [h]; decide
      · cases h))) (fun b hb => hb.2)⟩
    clear hns HAR HRES hrr x0 x1 x2 x3 y0 y1 y2 y3
    go_wp2_with fail
    go_loopw [24] (fun v24 wr => ∃ (j : Nat) (k' : Int) (e' : Bool) (t' : ByteArray) (l' : List Ent) (A' : Option Addr) (c' : Nat), j ≤ ns.length ∧ v24 = .int .i64 j ∧ l'.length ≤ c' ∧ Aside0 (Blk wr b0 32 [.int .i64 k', .bool e', .string t', .slice A' l'.length c']) ∧ Aside0 (Blk wr b1 32 [.int .i64 0, .bool false, .string ⟨#[]⟩, .slice none 0 0]) ∧ Aside0 (Kd.C kE w A' l'.length l') ∧ Aside0 (AllR l' ∧ Fit l') ∧ Aside0 (res = getN (ns.drop j) (k', e', t', l')) ∧ Aside0 (Upd (fun b => b = b0) W3 wr)) (fun v _ => ns.length - (intOf v).toNat)
    case atStart => exact ⟨0, k, e, t, l, A, c, Nat.zero_le _, rfl, HC.out.2.1, B03, B13, ⟨HC.out.1⟩, ⟨HARL.out, HC.out.2.2⟩, ⟨HRT.out⟩, ⟨Upd.refl _ _⟩⟩
    case round =>
      clear B03 B13 HARL HRT HC
      obtain ⟨j, k, e, t, l, A, c, hj, rfl, hlc, B0, B1, HC, HAF, HG, HU⟩ := hrel
      have HB : Aside0 (Below w.heap.size w wr) := ⟨HB3.out.trans (HU.out.toBelow (fun b hb => by rw [hb]; exact HZ.out.1) HB3.out.size)⟩
      obtain ⟨u0, u1, u2, u3⟩ := cells4 B0.out
      have x0 := B1.out.frozen 0
      have x1 := B1.out.frozen 1
      have x2 := B1.out.frozen 2
      have x3 := B1.out.frozen 3
      obtain ⟨y0, y1, y2, y3⟩ := cells4 B1.out
      by_cases hlt : j < ns.length
      · have hCn : Kd.C Kd.string wr A2 ns.length ns := Kd.F_now (Kd.F_step HF.out (fun b hb hlt => HU.out.block b hlt (fun e => hb e)))
        obtain ⟨ad, hA, hc0⟩ := names_drop hCn j hlt
        subst hA
        obtain ⟨s, hs⟩ : ∃ s, s = ns[j]'hlt := ⟨_, rfl⟩
        rw [← hs] at hc0
        have HD : Aside0 (ns.drop j = s :: ns.drop (j + 1)) := ⟨by rw [List.drop_eq_getElem_cons hlt, hs]⟩
        clear hCn hs
        have p0 : (0 : Int) ≤ (j : Int) := by omega
        have p1 : (j : Int) < (ns.length : Int) := by omega
        by_cases hk : k = 3
        · subst hk
          have k1 : ((3 : Int) != 3) = false := rfl
          obtain ⟨hb, hhb⟩ : ∃ hb, hb = hasN l s := ⟨_, rfl⟩
          obtain ⟨i, hi⟩ : ∃ i, i = rk l s := ⟨_, rfl⟩
          have HFD : Aside0 (Calls Tryd.prog 38 #[.slice A l.length c, .string s] wr fun e w' => e = .returned (.tuple #[.int .i64 i, .bool hb]) ∧ Below wr.heap.size wr w') := ⟨by rw [hi, hhb]; exact find_calls l s HAF.out.1.rises.1 A c wr (Kd.C_below HC.out HB.out) hlc (by have := HAF.out.1.rises.2; omega)⟩
          have HHB := Aside0.mk (And.intro hhb hi)
          clear hhb hi
          go_wp2_with fail
          (with_reducible refine HFD.out.mono ?_)
          rintro o W5 ⟨rfl, hb5⟩
          have B05 := Aside0.mk (B0.out.below hb5)
          have B15 := Aside0.mk (B1.out.below hb5)
          have HU5 := Aside0.mk (HU.out.step hb5)
          have HB5 := Aside0.mk (below_step HB.out hb5)
          clear hb5 B0 B1 HU HB HFD hc0 x0 x1 x2 x3 y0 y1 y2 y3 u0 u1 u2 u3
          have x0 := B15.out.frozen 0
          have x1 := B15.out.frozen 1
          have x2 := B15.out.frozen 2
          have x3 := B15.out.frozen 3
          obtain ⟨y0, y1, y2, y3⟩ := cells4 B15.out
          cases hb with
          | false =>
            have HRU : Aside0 (res = (zeroT, 3)) := ⟨by rw [HG.out, HD.out, getN, if_neg (fun h => h rfl)]; show (match (if hasN l s = true then l[rk l s]? else none) with | none => (zeroT, (3 : Int)) | some x => getN (ns.drop (j + 1)) (nodeOf x)) = _; rw [← HHB.out.1]; rfl⟩
            go_wp2_with fail
            have hF := HFIN.out W5 HB5.out B15.out
            obtain ⟨z0, z1, z2, z3⟩ := cells4 hF.2
            rw [HRU.out]
            exact bodyPost_ret (v := .tuple #[.agg #[.int .i64 0, .bool false, .string ⟨#[]⟩, .slice none 0 0], .int .i64 3]) (by simp [results, Tryd.results16, go_sem, z0, z1, z2, z3]) rfl ⟨⟨_, rfl, Own.nil _ _ _⟩, hF.1⟩
          | true =>
            obtain ⟨x, hx, _⟩ := hasN_at HHB.out.1.symm
            rw [← HHB.out.2] at hx
            have hil := (List.getElem?_eq_some_iff.1 hx).1
            have HRU : Aside0 (res = getN (ns.drop (j + 1)) (x.f1, x.f2, x.f3, x.f4)) := ⟨by rw [HG.out, HD.out, getN, if_neg (fun h => h rfl)]; show (match (if hasN l s = true then l[rk l s]? else none) with | none => (zeroT, (3 : Int)) | some x => getN (ns.drop (j + 1)) (nodeOf x)) = _; rw [← HHB.out.1, ← HHB.out.2, if_pos rfl, hx]; rfl⟩
            have HAX : Aside0 (AllR x.f4 ∧ Fit x.f4) := ⟨HAF.out.1.at hx, HAF.out.2.at_ (List.mem_of_getElem? hx)⟩
            have hxe : x = rd_T63 l (i : Int) := by
              have := List.getElem?_eq_some_iff.1 hx
              simp [rd_T63, hil, this.2.symm]
            obtain ⟨ad2, A4, c4, hA, e0, e1, e2, e3, e4, hl4, hC4⟩ := at_T63 HC.out (i : Int) (by omega) (by omega)
            rw [← hxe] at e0 e1 e2 e3 e4 hl4 hC4
            subst hA
            simp only [Int.toNat_natCast] at e0 e1 e2 e3 e4
            have HC4 := Aside0.mk hC4
            replace e0 := pw_cell_below HB5.out e0
            replace e1 := pw_cell_below HB5.out e1
            replace e2 := pw_cell_below HB5.out e2
            replace e3 := pw_cell_below HB5.out e3
            replace e4 := pw_cell_below HB5.out e4
            have q0 : (0 : Int) ≤ (i : Int) := by omega
            have q1 : (i : Int) < (l.length : Int) := by omega
            obtain ⟨u0, u1, u2, u3⟩ := cells4 B05.out
            have v0 := B05.out.frozen 0
            have v1 := B05.out.frozen 1
            have v2 := B05.out.frozen 2
            have v3 := B05.out.frozen 3
            clear hC4 hxe hx
            go_wp2_with fail
            go_roundw
            case rel =>
              refine ⟨j + 1, x.f1, x.f2, x.f3, x.f4, A4, c4, by omega, by go_num, hl4, ⟨put4_blk B05.out⟩, ⟨?_⟩, HC4, HAX, HRU, ⟨?_⟩⟩
              · have hne : b1 ≠ b0 := fun e => HZ.out.2.2 e.symm
                exact (Below.heap_setCell _ _ _ _ hne).trans ((Below.heap_setCell _ _ _ _ hne).trans ((Below.heap_setCell _ _ _ _ hne).trans ((Below.heap_setCell _ _ _ _ hne).trans B15.out)))
              · exact ((((HU5.out.trans (Upd.setCell (S := fun k => k = b0) (p := ⟨b0, 0, none⟩) (.inl rfl) _) (fun k hk => .inl hk)).trans (Upd.setCell (S := fun k => k = b0) (p := ⟨b0, 1, none⟩) (.inl rfl) _) (fun k hk => .inl hk)).trans (Upd.setCell (S := fun k => k = b0) (p := ⟨b0, 2, none⟩) (.inl rfl) _) (fun k hk => .inl hk)).trans (Upd.setCell (S := fun k => k = b0) (p := ⟨b0, 3, none⟩) (.inl rfl) _) (fun k hk => .inl hk))
            case measure => simp [intOf]; omega
        · have k1 : (k != 3) = true := bne_iff_ne.mpr hk
          have HRU : Aside0 (res = (zeroT, 65)) := ⟨by rw [HG.out, HD.out, getN, if_pos hk]⟩
          clear hk
          go_wp2_with fail
          have hF := HFIN.out wr HB.out B1.out
          obtain ⟨z0, z1, z2, z3⟩ := cells4 hF.2
          rw [HRU.out]
          exact bodyPost_ret (v := .tuple #[.agg #[.int .i64 0, .bool false, .string ⟨#[]⟩, .slice none 0 0], .int .i64 65]) (by simp [results, Tryd.results16, go_sem, z0, z1, z2, z3]) rfl ⟨⟨_, rfl, Own.nil _ _ _⟩, hF.1⟩
      · obtain rfl : j = ns.length := by omega
        have HRU : Aside0 (res = ((k, e, t, l), 0)) := ⟨by rw [HG.out, List.drop_length]; rfl⟩
        go_wp2_with fail
        (with_reducible refine (copyO_calls l HAF.out.2 k e t A c wr (Kd.C_below HC.out HB.out) hlc).mono ?_)
        rintro o W4 ⟨v, rfl, hO, hb⟩
        obtain ⟨A4, c4, hv, _⟩ := hO.slice
        subst hv
        have HO := Aside0.mk hO
        have HB4 := Aside0.mk (below_step HB.out hb)
        have HS := Aside0.mk HB.out.size
        have B14 := Aside0.mk (B1.out.below hb)
        clear hO hb B0 B1 HC HU HB x0 x1 x2 x3 y0 y1 y2 y3 u0 u1 u2 u3
        have x0 := B14.out.frozen 0
        have x1 := B14.out.frozen 1
        have x2 := B14.out.frozen 2
        have x3 := B14.out.frozen 3
        obtain ⟨y0, y1, y2, y3⟩ := cells4 B14.out
        go_wp2_with fail
        have hF : Below w.heap.size w ((((W4.setCell ⟨b1, 0, none⟩ (.int .i64 k)).setCell ⟨b1, 1, none⟩ (.bool e)).setCell ⟨b1, 2, none⟩ (.string t)).setCell ⟨b1, 3, none⟩ (.slice A4 l.length c4)) := below_put4 HB4.out HZ.out.2.1
        have hG := put4_blk (c0 := .int .i64 k) (c1 := .bool e) (c2 := .string t) (c3 := .slice A4 l.length c4) B14.out
        have hH := put4_own (c0 := .int .i64 k) (c1 := .bool e) (c2 := .string t) (c3 := .slice A4 l.length c4) HO.out B14.out
        obtain ⟨z0, z1, z2, z3⟩ := cells4 hG
        rw [HRU.out]
        exact bodyPost_ret (v := .tuple #[.agg #[.int .i64 k, .bool e, .string t, .slice A4 l.length c4], .int .i64 0]) (by simp [results, Tryd.results16, go_sem, z0, z1, z2, z3]) rfl ⟨⟨_, rfl, hH.above HS.out⟩, hF⟩
  · have HRT : Aside0 (res = (zeroT, cd)) := ⟨by have := HRES.out; rw [if_pos hz] at this; exact this⟩
    have hz1 : (cd != 0) = true := bne_iff_ne.mpr hz
    clear hz
    go_wp2_with fail
    have hF := HFIN.out W3 HB3.out B13.out
    obtain ⟨z0, z1, z2, z3⟩ := cells4 hF.2
    rw [HRT.out]
    exact bodyPost_ret (v := .tuple #[.agg #[.int .i64 0, .bool false, .string ⟨#[]⟩, .slice none 0 0], .int .i64 cd]) (by simp [results, Tryd.results16, go_sem, z0, z1, z2, z3]) rfl ⟨⟨_, rfl, Own.nil _ _ _⟩, hF.1⟩
end Go.Proofs.YtnemeeidomceiaaDoor
end
section
namespace Go.Proofs.YtnemeeidomceiaaDoor
open Go.RowKit Go.Proofs.YtnemeeidomceiaaDoorW.PrintWords Go.Proofs.YtnemeeidomceiaaDoorW.PrintLast Go.Proofs.YtnemeeidomceiaaDoorW.PrintMore
set_option linter.unusedVariables false
set_option linter.unusedSimpArgs false
set_option maxHeartbeats 4000000 in
set_option maxRecDepth 100000 in
theorem cloneO_calls (l : List Ent) (hf : Fit l) : ∀ (k : Int) (e : Bool) (t : ByteArray) (A : Option Addr) (c : Nat) (w : World), Kd.C kE w A l.length l → l.length ≤ c →
    Calls Tryd.prog 23 #[.agg #[.int .i64 k, .bool e, .string t, .slice A l.length c]] w
      fun o w' => ∃ v, o = .returned (.agg #[.int .i64 k, .bool e, .string t, v]) ∧ Own w' w.heap.size (fun k => w.heap.size ≤ k) v l ∧ Below w.heap.size w w' := by
  induction hf with
  | @mk l h72 _ ih =>
  intro k e t A c w hx hcx
  have HX := Aside0.mk hx
  have IH := Aside0.mk ih
  obtain ⟨n, hn⟩ : ∃ n, n = l.length := ⟨_, rfl⟩
  have HNL := Aside0.mk hn
  have H72 : Aside0 (n * 72 ≤ 140737488355328) := ⟨by rw [hn]; exact h72⟩
  have hm : n ≤ 140737488355328 := by omega
  rw [← hn]
  clear hx ih hn h72 hcx
  go_enter Tryd.func23, Tryd.ntmps23
  go_wp2
  obtain ⟨W2, hW2⟩ : ∃ W2, W2 = ((w.alloc (.cells #[.int .i64 k, .bool e, .string t, .slice A n c] 32)).alloc (.cells #[.int .i64 0, .bool false, .string ⟨#[]⟩, .slice none 0 0] 32)).alloc (.cells #[.int .i64 k, .bool e, .string t, .slice none 0 0] 32) := ⟨_, rfl⟩
  rw [← hW2]
  obtain ⟨b0, hb0⟩ : ∃ b, b = w.heap.size := ⟨_, rfl⟩
  obtain ⟨b1, hb1⟩ : ∃ b, b = w.heap.size + 1 := ⟨_, rfl⟩
  obtain ⟨b2, hb2⟩ : ∃ b, b = w.heap.size + 1 + 1 := ⟨_, rfl⟩
  rw [← hb2, ← hb1, ← hb0]
  have B0 : Aside0 (Blk W2 b0 32 [.int .i64 k, .bool e, .string t, .slice A n c]) := ⟨by rw [hW2, hb0]; exact ((Blk.new w _ [.int .i64 k, .bool e, .string t, .slice A n c]).alloc _).alloc _⟩
  have B1 : Aside0 (Blk W2 b1 32 [.int .i64 0, .bool false, .string ⟨#[]⟩, .slice none 0 0]) := ⟨by rw [hW2, hb1]; exact (Blk.new' _ _ [.int .i64 0, .bool false, .string ⟨#[]⟩, .slice none 0 0] (by simp)).alloc _⟩
  have B2 : Aside0 (Blk W2 b2 32 [.int .i64 k, .bool e, .string t, .slice none 0 0]) := ⟨by rw [hW2]; exact Blk.new' _ _ [.int .i64 k, .bool e, .string t, .slice none 0 0] (by rw [hb2]; simp)⟩
  have HB : Aside0 (Below w.heap.size w W2) := ⟨by rw [hW2]; exact below_alloc (below_alloc (below_alloc (Below.refl _ _) _) _) _⟩
  have HZ : Aside0 (w.heap.size ≤ b0 ∧ w.heap.size ≤ b1 ∧ w.heap.size ≤ b2 ∧ b0 ≠ b2 ∧ b1 ≠ b2 ∧ W2.heap.size = b2 + 1 ∧ b0 < b2 ∧ b1 < b2) := ⟨by rw [hW2]; simp; omega⟩
  clear hW2 hb0 hb1 hb2
  go_loopw [4, 5] (fun v4 _ wr => ∃ (j : Nat) (A5 : Option Addr) (c5 : Nat), j ≤ n ∧ v4 = .int .i64 j ∧ Aside0 (Blk wr b0 32 [.int .i64 k, .bool e, .string t, .slice A n c]) ∧ Aside0 (Blk wr b1 32 [.int .i64 0, .bool false, .string ⟨#[]⟩, .slice none 0 0]) ∧ Aside0 (Blk wr b2 32 [.int .i64 k, .bool e, .string t, .slice A5 j c5]) ∧ Aside0 (Own wr w.heap.size (fun k => b2 < k) (.slice A5 j c5) (l.take j)) ∧ Aside0 (Below w.heap.size w wr)) (fun v _ _ => n - (intOf v).toNat)
  case atStart => exact ⟨0, none, 0, Nat.zero_le _, rfl, B0, B1, B2, ⟨by rw [List.take_zero]; exact Own.nil _ _ _⟩, HB⟩
  case round =>
    clear B0 B1 B2 HB
    obtain ⟨j, A5, c5, hj, rfl, B0, B1, B2, HO, HB⟩ := hrel
    obtain ⟨u0, u1, u2, u3⟩ := cells4 B0.out
    obtain ⟨v0, v1, v2, v3⟩ := cells4 B2.out
    by_cases hlt : j < n
    · have p0 : (0 : Int) ≤ (j : Int) := by omega
      have p1 : (j : Int) < (n : Int) := by omega
      have hll : j < l.length := by rw [← HNL.out]; exact hlt
      obtain ⟨ad, A4, c4, hA, e0, e1, e2, e3, e4, hl4, hC4⟩ := at_T63 HX.out (j : Int) (by omega) (by omega)
      subst hA
      simp only [Int.toNat_natCast] at e0 e1 e2 e3 e4
      have HC4 := Aside0.mk (And.intro hC4 hl4)
      have HTS := Aside0.mk (take_snoc2 l j hll)
      have HMEM : Aside0 (rd_T63 l (j : Int) ∈ l) := ⟨by simp [rd_T63, hll]⟩
      clear hC4 hl4 hll
      generalize rd_T63 l (j : Int) = x at *
      have HE0 := Aside0.mk e0
      replace e1 := pw_cell_below HB.out e1
      replace e2 := pw_cell_below HB.out e2
      replace e3 := pw_cell_below HB.out e3
      replace e4 := pw_cell_below HB.out e4
      clear e0
      go_wp2_with fail
      (with_reducible refine (IH.out x HMEM.out x.f1 x.f2 x.f3 A4 c4 wr (Kd.C_below HC4.out.1 HB.out) HC4.out.2).mono ?_)
      rintro o w5 ⟨v4, rfl, hr4, hb⟩
      obtain ⟨A6, c6, hv4, _⟩ := hr4.slice
      subst hv4
      have HS : Aside0 (b2 < wr.heap.size) := ⟨B2.out.lt⟩
      have HN := Aside0.mk hr4
      replace B0 := Aside0.mk (B0.out.below hb)
      replace B1 := Aside0.mk (B1.out.below hb)
      replace B2 := Aside0.mk (B2.out.below hb)
      replace HO := Aside0.mk (HO.out.bound.newer hb)
      replace HB := Aside0.mk (below_step HB.out hb)
      have HWS := Aside0.mk hb.size
      clear hr4 hb e1 e2 e3 e4 u0 u1 u2 u3 v0 v1 v2 v3
      go_wp2_with fail
      obtain ⟨W6, hW6⟩ : ∃ W6, W6 = w5.alloc (.cells #[.int .i64 x.f1, .bool x.f2, .string x.f3, .slice A6 x.f4.length c6] 32) := ⟨_, rfl⟩
      obtain ⟨b5, hb5⟩ : ∃ b, b = w5.heap.size := ⟨_, rfl⟩
      rw [← hW6, ← hb5]
      have B5 : Aside0 (Blk W6 b5 32 [.int .i64 x.f1, .bool x.f2, .string x.f3, .slice A6 x.f4.length c6]) := ⟨by rw [hW6, hb5]; exact Blk.new w5 _ [.int .i64 x.f1, .bool x.f2, .string x.f3, .slice A6 x.f4.length c6]⟩
      have hb : Below w5.heap.size w5 W6 := by rw [hW6]; exact below_alloc (Below.refl _ _) _
      replace B0 := Aside0.mk (B0.out.below hb)
      replace B1 := Aside0.mk (B1.out.below hb)
      replace B2 := Aside0.mk (B2.out.below hb)
      replace HO := Aside0.mk (HO.out.newer hb)
      replace HN := Aside0.mk (HN.out.bound.newer hb)
      replace HB := Aside0.mk (below_step HB.out hb)
      have HW5 := Aside0.mk (And.intro hb.size hb5)
      clear hW6 hb5 hb
      refine start_ (n := 14) (S := fun w' => w'.cell? ⟨b2, 3, none⟩ = some (.slice A5 j c5) ∧ w'.cell? ⟨b0, 3, none⟩ = some (.slice (some ad) n c) ∧ w'.cell? (ad.add (j * 5)) = some (.string x.f0) ∧ w'.cell? ⟨b5, 0, none⟩ = some (.int .i64 x.f1) ∧ w'.cell? ⟨b5, 1, none⟩ = some (.bool x.f2) ∧ w'.cell? ⟨b5, 2, none⟩ = some (.string x.f3) ∧ w'.cell? ⟨b5, 3, none⟩ = some (.slice A6 x.f4.length c6)) (ds := [13]) #[false, false, false, false, false, false, false, false, false, false, false, false, false, false] (by kernel_rfl) rfl rfl (⟨B2.out.cell 3 _ rfl, B0.out.cell 3 _ rfl, pw_cell_below HB.out HE0.out, cells4 B5.out⟩) (fun hHeld => ?_)
      have hb : Below W6.heap.size W6 W6.drew := below_drew (Below.refl _ _)
      generalize W6.drew = W7 at *
      replace B0 := Aside0.mk (B0.out.below hb)
      replace B1 := Aside0.mk (B1.out.below hb)
      replace B2 := Aside0.mk (B2.out.below hb)
      replace B5 := Aside0.mk (B5.out.below hb)
      replace HO := Aside0.mk (HO.out.newer hb)
      replace HN := Aside0.mk (HN.out.newer hb)
      replace HB := Aside0.mk (below_step HB.out hb)
      have HW6 := Aside0.mk hb.size
      clear hb
      refine pure_ (i := 0) (N := some 27) (v := ?_) (a' := ?_) #[true, false, false, false, false, false, false, false, false, false, false, false, false, false] rfl rfl (by kernel_rfl) (fun _ _ _ h => h) (Or.inl ⟨by rfl, ?_⟩) ?_ ?_
      rotate_left
      · intro w'
        go_simp
        with_reducible rfl
      rotate_left
      · simp only [Act.put, List.setIfInBounds_toArray, List.set_cons_zero, List.set_cons_succ, i64_w, i32_w]
        rfl
      refine take_ (i := 1) (N := some 28) (v := ?_) (a' := ?_) #[true, true, false, false, false, false, false, false, false, false, false, false, false, false] rfl rfl (by kernel_rfl) (fun _ _ _ h => h) (Or.inl ⟨by rfl, ?_⟩) hHeld ?_ ?_
      rotate_left
      · rintro w' ⟨s0, s1, s2, s3, s4, s5, s6⟩
        go_simp
        with_reducible rfl
      rotate_left
      · simp only [Act.put, List.setIfInBounds_toArray, List.set_cons_zero, List.set_cons_succ, i64_w, i32_w]
        rfl
      refine pure_ (i := 2) (N := some 29) (v := ?_) (a' := ?_) #[true, true, true, false, false, false, false, false, false, false, false, false, false, false] rfl rfl (by kernel_rfl) (fun _ _ _ h => h) (Or.inl ⟨by rfl, ?_⟩) ?_ ?_
      rotate_left
      · intro w'
        go_simp
        with_reducible rfl
      rotate_left
      · simp only [Act.put, List.setIfInBounds_toArray, List.set_cons_zero, List.set_cons_succ, i64_w, i32_w]
        rfl
      refine take_ (i := 3) (N := some 30) (v := ?_) (a' := ?_) #[true, true, true, true, false, false, false, false, false, false, false, false, false, false] rfl rfl (by kernel_rfl) (fun _ _ _ h => h) (Or.inl ⟨by rfl, ?_⟩) hHeld ?_ ?_
      rotate_left
      · rintro w' ⟨s0, s1, s2, s3, s4, s5, s6⟩
        go_simp
        with_reducible rfl
      rotate_left
      · simp only [Act.put, List.setIfInBounds_toArray, List.set_cons_zero, List.set_cons_succ, i64_w, i32_w]
        rfl
      refine pure_ (i := 4) (N := some 31) (v := ?_) (a' := ?_) #[true, true, true, true, true, false, false, false, false, false, false, false, false, false] rfl rfl (by kernel_rfl) (fun _ _ _ h => h) (Or.inl ⟨by rfl, ?_⟩) ?_ ?_
      rotate_left
      · intro w'
        go_simp
        with_reducible rfl
      rotate_left
      · simp only [Act.put, List.setIfInBounds_toArray, List.set_cons_zero, List.set_cons_succ, i64_w, i32_w]
        rfl
      refine pure_ (i := 5) (N := some 32) (v := ?_) (a' := ?_) #[true, true, true, true, true, true, false, false, false, false, false, false, false, false] rfl rfl (by kernel_rfl) (fun _ _ _ h => h) (Or.inl ⟨by rfl, ?_⟩) ?_ ?_
      rotate_left
      · intro w'
        go_simp
        with_reducible rfl
      rotate_left
      · simp only [Act.put, List.setIfInBounds_toArray, List.set_cons_zero, List.set_cons_succ, i64_w, i32_w]
        rfl
      refine pure_ (i := 6) (N := some 33) (v := ?_) (a' := ?_) #[true, true, true, true, true, true, true, false, false, false, false, false, false, false] rfl rfl (by kernel_rfl) (fun _ _ _ h => h) (Or.inl ⟨by rfl, ?_⟩) ?_ ?_
      rotate_left
      · intro w'
        go_simp
        with_reducible rfl
      rotate_left
      · simp only [Act.put, List.setIfInBounds_toArray, List.set_cons_zero, List.set_cons_succ, i64_w, i32_w]
        rfl
      refine take_ (i := 7) (N := some 34) (v := ?_) (a' := ?_) #[true, true, true, true, true, true, true, true, false, false, false, false, false, false] rfl rfl (by kernel_rfl) (fun _ _ _ h => h) (Or.inl ⟨by rfl, ?_⟩) hHeld ?_ ?_
      rotate_left
      · rintro w' ⟨s0, s1, s2, s3, s4, s5, s6⟩
        go_simp
        with_reducible rfl
      rotate_left
      · simp only [Act.put, List.setIfInBounds_toArray, List.set_cons_zero, List.set_cons_succ, i64_w, i32_w]
        rfl
      refine take_ (i := 8) (N := some 35) (v := ?_) (a' := ?_) #[true, true, true, true, true, true, true, true, true, false, false, false, false, false] rfl rfl (by kernel_rfl) (fun _ _ _ h => h) (Or.inl ⟨by rfl, ?_⟩) hHeld ?_ ?_
      rotate_left
      · rintro w' ⟨s0, s1, s2, s3, s4, s5, s6⟩
        go_simp
        with_reducible rfl
      rotate_left
      · simp only [Act.put, List.setIfInBounds_toArray, List.set_cons_zero, List.set_cons_succ, i64_w, i32_w]
        rfl
      refine pure_ (i := 9) (N := some 36) (v := ?_) (a' := ?_) #[true, true, true, true, true, true, true, true, true, true, false, false, false, false] rfl rfl (by kernel_rfl) (fun _ _ _ h => h) (Or.inl ⟨by rfl, ?_⟩) ?_ ?_
      rotate_left
      · intro w'
        go_simp
        with_reducible rfl
      rotate_left
      · simp only [Act.put, List.setIfInBounds_toArray, List.set_cons_zero, List.set_cons_succ, i64_w, i32_w]
        rfl
      refine one_ (i := 10) (N := some 37) #[true, true, true, true, true, true, true, true, true, true, true, false, false, false] rfl rfl (by kernel_rfl) (by decide) (fun K hK => ?_)
      refine value_ (w1 := W7.alloc (.cells #[.string x.f0, .int .i64 x.f1, .bool x.f2, .string x.f3, .slice A6 x.f4.length c6] 63)) (v := .slice (some ⟨W7.heap.size, 0, none⟩) 1 1) (by rfl) rfl ?_ ?_
      · go_simp
      have hba : Below W7.heap.size W7 (W7.alloc (.cells #[.string x.f0, .int .i64 x.f1, .bool x.f2, .string x.f3, .slice A6 x.f4.length c6] 63)) := below_alloc (Below.refl _ _) _
      refine hK.out _ _ ⟨(B2.out.below hba).cell 3 _ rfl, (B0.out.below hba).cell 3 _ rfl, pw_cell_below (below_step HB.out hba) HE0.out, cells4 (B5.out.below hba)⟩ (fun _ => ?_)
      clear hK K hba
      refine one_ (i := 11) (N := some 38) #[true, true, true, true, true, true, true, true, true, true, true, true, false, false] rfl rfl (by kernel_rfl) (by decide) (fun K hK => ?_)
      obtain ⟨ts, hts, hP⟩ := HO.out.parts
      have hln := congrArg List.length hts
      rw [List.length_map, List.length_take, Nat.min_eq_left (by rw [← HNL.out]; exact hj)] at hln
      refine step_append_cells (w0 := w) w.heap.size (by rfl) (.tmp 28) (.tmp 37) 30 63 (.agg #[.string ⟨#[]⟩, .int .i64 0, .bool false, .string ⟨#[]⟩, .slice none 0 0]) 5 72 rfl Tryd.underlying30 (by kernel_rfl) rfl (by decide) (by decide)
        (.slice A5 j c5) ts.length (fl ts) (ecells x (.slice A6 x.f4.length c6)) (by rfl) (by rfl) rfl (ecells_one rfl) hP.row HB.out HB.out.size (by have := H72.out; omega) ?_
      intro v1 wn hrow hb1 hg hat
      obtain ⟨A8, c8, hv8⟩ : ∃ A8 c8, v1 = .slice A8 (j + 1) c8 := by
        rcases hrow.2 with ⟨h1, _⟩ | ⟨g2, cap2, cur, hv, _⟩
        · omega
        · exact ⟨_, _, by rw [hv, ← hln]⟩
      subst hv8
      have hz1 := HS.out
      have hz2 := HWS.out
      have hz3 := HW5.out
      have hz4 := HW6.out
      have hvlt : ∀ k, (Value.slice A5 j c5).ownBlock = some k → b2 < k ∧ k < wr.heap.size := fun k hk => ⟨(hP.own k hk).1.1, (hP.own k hk).1.2.2.1⟩
      have hz5 := HZ.out
      have hkeep : ∀ {b : Nat} {vs : List Value}, Blk W7 b 32 vs → (b ≤ b2 ∨ b = b5) → Blk wn b 32 vs := fun {b vs} h hb => (hg.block b h.lt (fun e => by have := hvlt b e.symm; omega)).trans h
      have HO4 : Aside0 (Own wn w.heap.size (fun k => b2 < k) (.slice A8 (j + 1) c8) (l.take (j + 1))) := ⟨by
        rw [HTS.out, hts]
        refine hP.snoc (fun k hk => by have := hk.1.2.2.1; omega) ⟨x, .slice A6 x.f4.length c6, OwnB w5 wr.heap.size (fun k => wr.heap.size ≤ k)⟩ ((HN.out.lower (by omega)).grown hg (fun k hk e => ?_)) (fun k hk => ⟨fun h => ?_, ?_, fun e => ?_⟩) hrow hg hat (fun k hk => hk.1.1) (fun k hk => by omega)
        · have := hvlt k e.symm; have := hk.2.1; omega
        · have := h.1.2.2.1; have := hk.2.1; omega
        · have := hk.2.1; show b2 < k; omega
        · rcases hat with h1 | ⟨b, h1, hb⟩
          · rw [h1] at e; have := hvlt k e.symm; have := hk.2.1; omega
          · rw [h1] at e; injection e with e; have := hk.2.2.1; omega⟩
      replace B0 := Aside0.mk (hkeep B0.out (.inl (by omega)))
      replace B1 := Aside0.mk (hkeep B1.out (.inl (by omega)))
      replace B2 := Aside0.mk (hkeep B2.out (.inl (Nat.le_refl _)))
      replace B5 := Aside0.mk (hkeep B5.out (.inr rfl))
      replace HB := Aside0.mk hb1
      have y03 := B2.out.frozen 3
      have x03 := B2.out.cell 3 _ rfl
      clear hrow hb1 hg hat hkeep hvlt hts hln hP HO HN hz1 hz2 hz3 hz4 hz5 ts
      refine hK.out _ _ ⟨x03, B0.out.cell 3 _ rfl, pw_cell_below HB.out HE0.out, cells4 B5.out⟩ (fun _ => ?_)
      clear hK K
      refine pure_ (i := 12) (N := some 39) (v := ?_) (a' := ?_) #[true, true, true, true, true, true, true, true, true, true, true, true, true, false] rfl rfl (by kernel_rfl) (fun _ _ _ h => h) (Or.inl ⟨by rfl, ?_⟩) ?_ ?_
      rotate_left
      · intro w'
        go_simp
        with_reducible rfl
      rotate_left
      · simp only [Act.put, List.setIfInBounds_toArray, List.set_cons_zero, List.set_cons_succ, i64_w, i32_w]
        rfl
      refine last_ (i := 13) (N := none) #[true, true, true, true, true, true, true, true, true, true, true, true, true, true] rfl rfl (by kernel_rfl) (by decide) (fun K hK => ?_)
      refine skip_ (w1 := wn.setCell ⟨b2, 3, none⟩ (.slice A8 (j + 1) c8)) (by rfl) rfl ?_ ?_
      · go_simp
      refine hK.out _ _ ?_
      clear hK K
      refine done_ (by kernel_rfl) ?_
      obtain ⟨W9, hW9⟩ : ∃ W9, W9 = wn.setCell ⟨b2, 3, none⟩ (.slice A8 (j + 1) c8) := ⟨_, rfl⟩
      have hz5 := HZ.out
      have B29 : Aside0 (Blk W9 b2 32 [.int .i64 k, .bool e, .string t, .slice A8 (j + 1) c8]) := ⟨by rw [hW9]; exact blk_put (cs := #[.int .i64 k, .bool e, .string t, .slice A5 j c5]) B2.out 3 _ rfl⟩
      have B09 : Aside0 (Blk W9 b0 32 [.int .i64 k, .bool e, .string t, .slice (some ad) n c]) := ⟨by rw [hW9]; exact (Below.heap_setCell _ _ _ _ (by show b0 ≠ b2; omega)).trans B0.out⟩
      have B19 : Aside0 (Blk W9 b1 32 [.int .i64 0, .bool false, .string ⟨#[]⟩, .slice none 0 0]) := ⟨by rw [hW9]; exact (Below.heap_setCell _ _ _ _ (by show b1 ≠ b2; omega)).trans B1.out⟩
      have HO9 : Aside0 (Own W9 w.heap.size (fun k => b2 < k) (.slice A8 (j + 1) c8) (l.take (j + 1))) := ⟨by rw [hW9]; exact HO4.out.set B2.out (by decide) 3 _⟩
      have HB9 : Aside0 (Below w.heap.size w W9) := ⟨by rw [hW9]; exact HB.out.setCell (p := ⟨b2, 3, none⟩) (by show w.heap.size ≤ b2; omega) _⟩
      rw [← hW9]
      clear hW9 hz5 B0 B1 B2 B5 HO4 HB x03 y03 hHeld
      go_wp2_with fail
      go_roundw
      case rel => exact ⟨j + 1, A8, c8, by omega, by go_num, B09, B19, B29, HO9, HB9⟩
      case measure => simp [intOf]; omega
    · obtain rfl : j = n := by omega
      obtain ⟨y0, y1, y2, y3⟩ := cells4 B1.out
      have z0 := B1.out.frozen 0
      have z1 := B1.out.frozen 1
      have z2 := B1.out.frozen 2
      have z3 := B1.out.frozen 3
      have hl : l.take j = l := by rw [HNL.out, List.take_length]
      have HO4 : Aside0 (Own wr w.heap.size (fun k => b2 < k) (.slice A5 j c5) l) := ⟨by have := HO.out; rw [hl] at this; exact this⟩
      clear HO hl
      go_wp2_with fail
      have HF := below_put4 (b := b1) (c0 := .int .i64 k) (c1 := .bool e) (c2 := .string t) (c3 := .slice A5 j c5) HB.out HZ.out.2.1
      have HG := put4_blk (c0 := .int .i64 k) (c1 := .bool e) (c2 := .string t) (c3 := .slice A5 j c5) B1.out
      have HH := put4_own (c0 := .int .i64 k) (c1 := .bool e) (c2 := .string t) (c3 := .slice A5 j c5) HO4.out B1.out
      obtain ⟨g0, g1, g2, g3⟩ := cells4 HG
      exact bodyPost_ret (v := .agg #[.int .i64 k, .bool e, .string t, .slice A5 j c5]) (by simp [results, Tryd.results23, go_sem, g0, g1, g2, g3]) rfl ⟨_, rfl, HH.mono (fun k hk => by have := HZ.out; show w.heap.size ≤ k; omega), HF⟩
end Go.Proofs.YtnemeeidomceiaaDoor
end
section
namespace Go.Proofs.YtnemeeidomceiaaDoor
open Go.RowKit Go.Proofs.YtnemeeidomceiaaDoorW.PrintWords Go.Proofs.YtnemeeidomceiaaDoorW.PrintLast Go.Proofs.YtnemeeidomceiaaDoorW.PrintMore
set_option linter.unusedVariables false
set_option linter.unusedSimpArgs false
/-- Rows of no more kids than a tree of an archive may have. -/
inductive Small : List Ent → Prop
  | mk {l : List Ent} (n : l.length ≤ 1048576) (k : ∀ x : Ent, x ∈ l → Small x.f4) : Small l
theorem Small.at_ {l : List Ent} (h : Small l) : l.length ≤ 1048576 ∧ ∀ x : Ent, x ∈ l → Small x.f4 := by
  cases h with
  | mk n k => exact ⟨n, k⟩
theorem set5 (P Q : List Value) (s0 s1 s2 s3 s4 z a b c d : Value) : (((((P ++ [s0, s1, s2, s3, s4] ++ Q).set P.length z).set (P.length + 1) a).set (P.length + 2) b).set (P.length + 3) c).set (P.length + 4) d = P ++ [z, a, b, c, d] ++ Q := by
  simp [List.set_append]
theorem fl_store5 (ts : List Kid) (i : Nat) (t : Kid) (ht : ts[i]? = some t) (x : Ent) (u : Value) (f : Nat → Prop) :
    (((((fl ts).set (i * 5) (.string x.f0)).set (i * 5 + 1) (.int .i64 x.f1)).set (i * 5 + 2) (.bool x.f2)).set (i * 5 + 3) (.string x.f3)).set (i * 5 + 4) u = fl (ts.set i ⟨x, u, f⟩) := by
  obtain ⟨hi, hte⟩ := List.getElem?_eq_some_iff.1 ht
  have hP : (fl (ts.take i)).length = i * 5 := by rw [fl_len, List.length_take, Nat.min_eq_left (Nat.le_of_lt hi)]
  have e1 : fl ts = fl (ts.take i) ++ ecells t.x t.u ++ fl (ts.drop (i + 1)) := by
    conv => lhs; rw [← List.take_append_drop i ts, fl_append, List.drop_eq_getElem_cons hi, hte]
    rw [fl, List.append_assoc]
  rw [fl_set ts i _ hi, fl_take ts i (Nat.le_of_lt hi), fl_drop ts (i + 1) hi, e1, ← hP]
  exact set5 _ _ _ _ _ _ _ _ _ _ _ _
/-- Five cells of a row's kid, stored. -/
def put5 (w : World) (g i : Nat) (x : Ent) (u : Value) : World := ((((w.setCell ⟨g, i * 5, none⟩ (.string x.f0)).setCell ⟨g, i * 5 + 1, none⟩ (.int .i64 x.f1)).setCell ⟨g, i * 5 + 2, none⟩ (.bool x.f2)).setCell ⟨g, i * 5 + 3, none⟩ (.string x.f3)).setCell ⟨g, i * 5 + 4, none⟩ u
theorem put5_upd (w : World) (g i : Nat) (x : Ent) (u : Value) : Upd (fun k => k = g) w (put5 w g i x u) :=
  ((((Upd.setCell (S := fun k => k = g) (p := ⟨g, i * 5, none⟩) (.inl rfl) _).trans (Upd.setCell (S := fun k => k = g) (p := ⟨g, i * 5 + 1, none⟩) (.inl rfl) _) (fun k hk => .inl hk)).trans (Upd.setCell (S := fun k => k = g) (p := ⟨g, i * 5 + 2, none⟩) (.inl rfl) _) (fun k hk => .inl hk)).trans (Upd.setCell (S := fun k => k = g) (p := ⟨g, i * 5 + 3, none⟩) (.inl rfl) _) (fun k hk => .inl hk)).trans (Upd.setCell (S := fun k => k = g) (p := ⟨g, i * 5 + 4, none⟩) (.inl rfl) _) (fun k hk => .inl hk)
/-- A kid's subtree has turned, then the kid was written over by one without kids. -/
theorem OwnP.over {w w2 : World} {base : Nat} {ok okn : Nat → Prop} {g n c i : Nat} {ts : List Kid} {td : Kid} (h : OwnP w base ok (.slice (some ⟨g, 0, none⟩) n c) ts) (hlt : ∀ k, ok k → k < w.heap.size) (htd : ts[i]? = some td) (hU : Upd td.f w w2) (x : Ent) (hx : x.f4 = []) (hn : n = ts.length) (hok : ∀ k, ok k → okn k) (hfresh : ∀ k, w.heap.size ≤ k → okn k) :
    Own (put5 w2 g i x (.slice none 0 0)) base okn (.slice (some ⟨g, 0, none⟩) n c) ((ts.map (·.x)).set i x) := by
  have hi := (List.getElem?_eq_some_iff.1 htd).1
  have hgn : ¬ td.f g := fun hf => (h.inn td (List.mem_of_getElem? htd) g hf).2 rfl
  have hrow2 : w2.ownsRow base eE 5 (.slice (some ⟨g, 0, none⟩) n c) ts.length (fl ts) := own_move h.row (fun k hk => by
    have : g = k := by simpa [Value.ownBlock] using hk
    rw [← this]
    exact hU.block g (hlt g (h.own g rfl)) hgn)
  have hrow3 : (put5 w2 g i x (.slice none 0 0)).ownsRow base eE 5 (.slice (some ⟨g, 0, none⟩) n c) ts.length (fl (ts.set i ⟨x, .slice none 0 0, fun _ => False⟩)) := by
    rw [← fl_store5 ts i td htd]
    subst hn
    exact own_setAt (own_setAt (own_setAt (own_setAt (own_setAt hrow2 _ (by omega) _) _ (by omega) _) _ (by omega) _) _ (by omega) _) _ (by omega) _
  have hU23 := put5_upd w2 g i x (.slice none 0 0)
  have h1 := h.put (w2 := w2) (okn := okn) hlt i td ⟨x, .slice none 0 0, fun _ => False⟩ htd hU (by show Own w2 base _ _ x.f4; rw [hx]; exact Own.nil _ _ _) (fun k hk => hk.elim) hrow3 ⟨hU23.os, hU23.tape, hU23.output, hU23.size, fun k hk hn => hU23.block k hk (fun e => hn (by rw [e]; rfl))⟩ hok hfresh
  rw [List.map_set] at h1
  exact h1
/-- Kid i, with the row's block. -/
theorem OwnP.at_ {w : World} {base : Nat} {ok : Nat → Prop} {A : Option Addr} {n c i : Nat} {ts : List Kid} {td : Kid} (h : OwnP w base ok (.slice A n c) ts) (htd : ts[i]? = some td) :
    ∃ g A6 c6 cur, A = some ⟨g, 0, none⟩ ∧ td.u = .slice A6 td.x.f4.length c6 ∧ td.x.f4.length ≤ c6 ∧ w.heap[g]? = some (.cells cur eE (0, 0)) ∧ ok g ∧ ∀ j, j < 5 → cur[i * 5 + j]? = (ecells td.x (.slice A6 td.x.f4.length c6))[j]? := by
  have hi := (List.getElem?_eq_some_iff.1 htd).1
  have hrow := h.row
  rcases hrow.2 with ⟨_, h0⟩ | ⟨g, cap, cur, hv, hbg, hg, _⟩
  · omega
  injection hv with hv1 hv2 hv3
  subst hv1
  obtain ⟨A6, c6, hu6, hl6⟩ := (h.sub td (List.mem_of_getElem? htd)).slice
  refine ⟨g, A6, c6, cur, rfl, hu6, hl6, hg, h.own g rfl, fun j hj => ?_⟩
  have h1 := fl_at ts i td htd j hj
  obtain ⟨u, hu⟩ : ∃ u, (ecells td.x td.u)[j]? = some u := ⟨_, List.getElem?_eq_getElem (by rw [ecells_len]; exact hj)⟩
  have h2 := hrow.cells (g := g) rfl (i * 5 + j) u (by rw [h1, hu])
  rw [add_plain, cell_of_row w g (i * 5 + j) cur _ _ hg] at h2
  rw [h2, ← hu6, hu]
theorem cells_of {w : World} {g i : Nat} {cur : Array Value} {x : Ent} {u : Value} (hg : w.heap[g]? = some (.cells cur eE (0, 0))) (hc : ∀ j, j < 5 → cur[i * 5 + j]? = (ecells x u)[j]?) :
    w.cell? ⟨g, i * 5, none⟩ = some (.string x.f0) ∧ w.cell? ⟨g, i * 5 + 1, none⟩ = some (.int .i64 x.f1) ∧ w.cell? ⟨g, i * 5 + 2, none⟩ = some (.bool x.f2) ∧ w.cell? ⟨g, i * 5 + 3, none⟩ = some (.string x.f3) ∧ w.cell? ⟨g, i * 5 + 4, none⟩ = some u := by
  have hh : ∀ j, j < 5 → w.cell? ⟨g, i * 5 + j, none⟩ = (ecells x u)[j]? := fun j hj => by rw [cell_of_row w g (i * 5 + j) cur _ _ hg, hc j hj]
  exact ⟨hh 0 (by omega), hh 1 (by omega), hh 2 (by omega), hh 3 (by omega), hh 4 (by omega)⟩
theorem wp_of_step {P : Program} {ops : Array Oper} {o : Oper} {a : Act} {W : World} {K : Act → World → Prop} {Q : Exit → Act → World → Prop} {K2 : Prop} (h : if Region.wanted o (yielded ops a.tmps) = true then Oper.wp P o a W K Q else K2) (hw : Region.wanted o (yielded ops a.tmps) = true) : Oper.wp P o a W K Q := by
  rw [if_pos hw] at h; exact h
/-- What a tree is written over with. -/
def spE : Ent := ⟨⟨#[115, 112, 111, 105, 108, 116]⟩, 9, false, ⟨#[]⟩, []⟩
def moreE : Ent := ⟨⟨#[109, 111, 114, 101]⟩, 0, false, ⟨#[]⟩, []⟩
theorem spl_at {l : List Ent} {j : Nat} (hj : j < l.length) : (List.replicate j spE ++ l.drop j)[j]? = some (l[j]'hj) ∧ (List.replicate j spE ++ l.drop j).set j spE = List.replicate (j + 1) spE ++ l.drop (j + 1) := by
  constructor
  · rw [List.getElem?_append_right (by rw [List.length_replicate]; exact Nat.le_refl _), List.length_replicate, Nat.sub_self, List.getElem?_drop, Nat.add_zero, List.getElem?_eq_getElem hj]
  · rw [List.set_append, if_neg (by rw [List.length_replicate]; omega), List.length_replicate, Nat.sub_self, List.drop_eq_getElem_cons hj, List.set_cons_zero, List.replicate_succ', List.append_assoc]
    rfl
set_option maxHeartbeats 4000000 in
set_option maxRecDepth 100000 in
theorem spoil_calls (l : List Ent) (hs : Small l) : ∀ (k : Int) (e : Bool) (t : ByteArray) (A : Option Addr) (c : Nat) (base : Nat) (ok : Nat → Prop) (w : World), Own w base ok (.slice A l.length c) l → base ≤ w.heap.size →
    Calls Tryd.prog 25 #[.agg #[.int .i64 k, .bool e, .string t, .slice A l.length c]] w
      fun o w' => o = .returned (.tuple #[]) ∧ Upd (OwnB w base ok) w w' := by
  induction hs with
  | @mk l hn _ ih =>
  intro k e t A c base ok w ho hbs
  have HO := Aside0.mk ho.bound
  have IH := Aside0.mk ih
  obtain ⟨ok1, hok1⟩ : ∃ ok1, ok1 = OwnB w base ok := ⟨_, rfl⟩
  rw [← hok1] at HO ⊢
  have HK : Aside0 (∀ k, ok1 k → base ≤ k ∧ k < w.heap.size) := ⟨fun k h => by rw [hok1] at h; exact ⟨h.2.1, h.2.2.1⟩⟩
  have HBS := Aside0.mk hbs
  obtain ⟨n, hnl⟩ : ∃ n, n = l.length := ⟨_, rfl⟩
  have HNL := Aside0.mk hnl
  rw [← hnl] at HO ⊢
  have hn2 : n ≤ 1048576 := by omega
  clear ho hbs ih hn hnl hok1
  go_enter Tryd.func25, Tryd.ntmps25
  go_wp2
  obtain ⟨W2, hW2⟩ : ∃ W2, W2 = w.alloc (.cells #[.int .i64 k, .bool e, .string t, .slice A n c] 32) := ⟨_, rfl⟩
  obtain ⟨b0, hb0⟩ : ∃ b, b = w.heap.size := ⟨_, rfl⟩
  rw [← hW2, ← hb0]
  have B0 : Aside0 (Blk W2 b0 32 [.int .i64 k, .bool e, .string t, .slice A n c]) := ⟨by rw [hW2, hb0]; exact Blk.new w _ [.int .i64 k, .bool e, .string t, .slice A n c]⟩
  have HU : Aside0 (Upd ok1 w W2) := ⟨Upd.of_below (by rw [hW2]; exact below_alloc (Below.refl _ _) _)⟩
  have HO2 : Aside0 (Own W2 base (fun k => ok1 k ∨ b0 < k) (.slice A n c) (List.replicate 0 spE ++ l.drop 0)) := ⟨by
    rw [List.drop_zero, hW2]; exact (HO.out.newer (below_alloc (Below.refl _ _) _)).mono (fun k hk => .inl hk)⟩
  have HZ : Aside0 (b0 = w.heap.size ∧ W2.heap.size = b0 + 1) := ⟨by rw [hW2, hb0]; simp⟩
  clear hW2 hb0 HO
  go_loopw [7, 2] (fun v7 _ wr => ∃ j : Nat, j ≤ n ∧ v7 = .int .i64 j ∧ Aside0 (Blk wr b0 32 [.int .i64 k, .bool e, .string t, .slice A n c]) ∧ Aside0 (Upd ok1 w wr) ∧ Aside0 (b0 < wr.heap.size) ∧ Aside0 (Own wr base (fun k => ok1 k ∨ b0 < k) (.slice A n c) (List.replicate j spE ++ l.drop j))) (fun v _ _ => n - (intOf v).toNat)
  case atStart => exact ⟨0, Nat.zero_le _, rfl, B0, HU, ⟨by have := HZ.out; omega⟩, HO2⟩
  case round =>
    clear B0 HU HO2
    obtain ⟨j, hj, rfl, B0, HU, HS, HO⟩ := hrel
    by_cases hlt : j < n
    · have p0 : (0 : Int) ≤ (j : Int) := by omega
      have p1 : (j : Int) < (n : Int) := by omega
      have hjl : j < l.length := by rw [← HNL.out]; exact hlt
      obtain ⟨x, hxe⟩ : ∃ x, x = l[j]'hjl := ⟨_, rfl⟩
      have hspl := spl_at hjl
      rw [← hxe] at hspl
      have hxm : x ∈ l := by rw [hxe]; exact List.getElem_mem _
      obtain ⟨ts, hts, hP⟩ := HO.out.parts
      obtain ⟨td, htd, hxt⟩ : ∃ td, ts[j]? = some td ∧ td.x = x := by
        have h1 := hspl.1
        rw [hts, List.getElem?_map] at h1
        exact Option.map_eq_some_iff.1 h1
      obtain ⟨g, A6, c6, cur, hA, hu6, hl6, hg, hgok, hcur⟩ := hP.at_ htd
      subst hA
      rw [hxt] at hu6 hl6 hcur
      have htm := List.mem_of_getElem? htd
      obtain ⟨e0, e1, e2, e3, e4⟩ := cells_of hg hcur
      have hsub := hP.sub td htm
      rw [hu6, hxt] at hsub
      have HX := Aside0.mk (And.intro hspl (And.intro hts (And.intro hP (And.intro htd (And.intro hxt (And.intro hg (And.intro hgok (And.intro hcur htm))))))))
      have HIH := Aside0.mk (IH.out x hxm x.f1 x.f2 x.f3 A6 c6 base td.f wr hsub (Nat.le_trans HBS.out HU.out.size))
      obtain ⟨u0, u1, u2, u3⟩ := cells4 B0.out
      clear hjl hxe hspl hxm hts hP htd hxt hg hgok hcur htm hu6 hl6 hsub HO
      go_wp2_with fail
      (with_reducible refine (HIH.out).mono ?_)
      rintro o w5 ⟨rfl, hU5⟩
      obtain ⟨hspl, hts, hP, htd, hxt, hg, hgok, hcur, htm⟩ := HX.out
      have hUt : Upd td.f wr w5 := hU5.mono (fun k hk => hk.1)
      have hgn : ¬ td.f g := fun hf => (hP.inn td htm g hf).2 rfl
      have hg5 : w5.heap[g]? = some (.cells cur eE (0, 0)) := hUt.blk hg hgn
      have B05 : Aside0 (Blk w5 b0 32 [.int .i64 k, .bool e, .string t, .slice (some ⟨g, 0, none⟩) n c]) := ⟨B0.out.upd hUt (fun hf => by
        rcases (hP.inn td htm b0 hf).1.1 with h | h
        · have := (HK.out b0 h).2; have := HZ.out; omega
        · omega)⟩
      have HU5 : Aside0 (Upd ok1 w w5 ∧ Upd td.f wr w5) := ⟨HU.out.trans hUt (fun k hk => by
        rcases (hP.inn td htm k hk).1.1 with h | h
        · exact .inl h
        · exact .inr (by have := HZ.out; omega)), hUt⟩
      obtain ⟨u0, u1, u2, u3⟩ := cells4 B05.out
      obtain ⟨e0, e1, e2, e3, e4⟩ := cells_of hg5 hcur
      have z0 := blk_frozen hg5 (j * 5)
      have z1 := blk_frozen hg5 (j * 5 + 1)
      have z2 := blk_frozen hg5 (j * 5 + 2)
      have z3 := blk_frozen hg5 (j * 5 + 3)
      have z4 := blk_frozen hg5 (j * 5 + 4)
      clear hspl hts hP htd hxt hg hgok hcur htm hU5 hUt hgn hg5 HIH B0 HU
      go_wp2_with fail
      obtain ⟨W9, hW9⟩ : ∃ W9, W9 = put5 w5 g j spE (.slice none 0 0) := ⟨_, rfl⟩
      have hW9' := hW9
      unfold put5 spE at hW9'
      rw [← hW9']
      obtain ⟨hspl, hts, hP, htd, hxt, hg, hgok, hcur, htm⟩ := HX.out
      have hp5 := put5_upd w5 g j spE (.slice none 0 0)
      rw [← hW9] at hp5
      have hz := HZ.out
      have hgb : ok1 g ∧ g < b0 ∨ b0 < g := by
        rcases hgok.1 with h | h
        · exact .inl ⟨h, by have := (HK.out g h).2; omega⟩
        · exact .inr h
      have hO9 := hP.over (w2 := w5) (okn := fun k => ok1 k ∨ b0 < k) (fun k hk => hk.2.2.1) htd HU5.out.2 spE rfl (by have := congrArg List.length hts; rw [List.length_map, List.length_append, List.length_replicate, List.length_drop, ← HNL.out] at this; omega) (fun k hk => hk.1) (fun k hk => .inr (by have := HS.out; omega))
      rw [← hW9, ← hts, hspl.2] at hO9
      refine ⟨⟨j + 1, by omega, by go_num, ⟨B05.out.upd hp5 (fun h => by omega)⟩, ⟨HU5.out.1.trans hp5 (fun k hk => ?_)⟩, ⟨?_⟩, ⟨hO9⟩⟩, ?_⟩
      · rw [hk]; rcases hgb with h | h
        · exact .inl h.1
        · exact .inr (by omega)
      · have := HS.out; have := HU5.out.2.size; have := hp5.size; omega
      · simp [intOf]; omega
    · obtain rfl : j = n := by omega
      have hlr : List.replicate j spE ++ l.drop j = List.replicate j spE := by rw [HNL.out, List.drop_length, List.append_nil]
      rw [hlr] at HO
      clear hlr
      go_wp2_with fail
      go_loopw [3] (fun v3 wr2 => ∃ (i : Nat) (A5 : Option Addr) (c5 : Nat), i ≤ 3 ∧ v3 = .int .i64 i ∧ Aside0 (Blk wr2 b0 32 [.int .i64 k, .bool e, .string t, .slice A5 (j + i) c5]) ∧ Aside0 (Upd ok1 w wr2) ∧ Aside0 (b0 < wr2.heap.size) ∧ Aside0 (Own wr2 base (fun k => ok1 k ∨ b0 < k) (.slice A5 (j + i) c5) (List.replicate j spE ++ List.replicate i moreE))) (fun v _ => 3 - (intOf v).toNat)
      case atStart => exact ⟨0, A, c, Nat.zero_le _, rfl, B0, HU, HS, ⟨by rw [List.replicate_zero, List.append_nil]; exact HO.out⟩⟩
      case round =>
        clear B0 HU HS HO
        obtain ⟨i, A5, c5, hi, rfl, B0, HU, HS, HO⟩ := hrel
        obtain ⟨u0, u1, u2, u3⟩ := cells4 B0.out
        have y3 := B0.out.frozen 3
        by_cases hlt2 : i < 3
        · have q1 : (i : Int) < 3 := by omega
          go_wp2_with ((with_reducible refine gate_dst (N := 32) rfl ?_); refine Stand.go ?_)
          unfold Stand
          refine wpList_plain rfl fun K hK => ?_
          obtain ⟨ts, hts, hP⟩ := HO.out.parts
          have hln : ts.length = j + i := by have := congrArg List.length hts; rw [List.length_map, List.length_append, List.length_replicate, List.length_replicate] at this; omega
          refine wp_of_step (ops := #[]) (step_append_cells (w0 := wr) base (by rfl) (.tmp 29) (.tmp 31) 30 63 (.agg #[.string ⟨#[]⟩, .int .i64 0, .bool false, .string ⟨#[]⟩, .slice none 0 0]) 5 72 rfl Tryd.underlying30 (by kernel_rfl) rfl (by decide) (by decide)
            (.slice A5 (j + i) c5) ts.length (fl ts) (ecells moreE (.slice none 0 0)) (by rfl) (by rfl) rfl (ecells_one rfl) hP.row (Below.refl _ _) (Nat.le_trans HBS.out HU.out.size) (by omega) ?_) (by rfl)
          intro v1 wn hrow hb1 hg hat
          obtain ⟨A8, c8, hv8⟩ : ∃ A8 c8, v1 = .slice A8 (j + (i + 1)) c8 := by
            rcases hrow.2 with ⟨_, h1⟩ | ⟨g2, cap2, cur, hv, _⟩
            · omega
            · exact ⟨_, _, by rw [hv, hln, Nat.add_assoc]⟩
          subst hv8
          have hz := HZ.out
          have hz1 := HS.out
          have hvlt : ∀ k, (Value.slice A5 (j + i) c5).ownBlock = some k → (ok1 k ∨ b0 < k) ∧ k < wr.heap.size ∧ k ≠ b0 := fun k hk => ⟨(hP.own k hk).1, (hP.own k hk).2.2.1, fun e => by
            rcases (hP.own k hk).1 with h | h
            · have := (HK.out k h).2; omega
            · omega⟩
          have B04 : Aside0 (Blk wn b0 32 [.int .i64 k, .bool e, .string t, .slice A5 (j + i) c5]) := ⟨(hg.block b0 B0.out.lt (fun e => (hvlt b0 e.symm).2.2 rfl)).trans B0.out⟩
          have HO4 : Aside0 (Own wn base (fun k => ok1 k ∨ b0 < k) (.slice A8 (j + (i + 1)) c8) (List.replicate j spE ++ List.replicate (i + 1) moreE)) := ⟨by
            rw [List.replicate_succ', ← List.append_assoc, hts]
            refine hP.snoc (fun k hk => hk.2.2.1) ⟨moreE, .slice none 0 0, fun _ => False⟩ (Own.nil _ _ _) (fun k hk => hk.elim) hrow hg hat (fun k hk => hk.1) (fun k hk => .inr (by omega))⟩
          have HU4 : Aside0 (Upd ok1 w wn) := ⟨HU.out.trans (Upd.of_grown (S := fun k => ok1 k ∨ b0 < k) hg (fun k hk => .inl (hvlt k hk).1)) (fun k hk => hk.elim .inl (fun h => .inr (by omega)))⟩
          have HS4 : Aside0 (b0 < wn.heap.size) := ⟨by have := hg.size; omega⟩
          clear hrow hb1 hg hat hvlt hts hP hln ts HO B0 HU HS y3 u0 u1 u2 u3 hz1 hz
          have x3 := B04.out.cell 3 _ rfl
          have y3 := B04.out.frozen 3
          refine hK _ _ ?_
          clear hK K
          go_wp2_with fail
          obtain ⟨W9, hW9⟩ : ∃ W9, W9 = wn.setCell ⟨b0, 3, none⟩ (.slice A8 (j + (i + 1)) c8) := ⟨_, rfl⟩
          rw [← hW9]
          have hz := HZ.out
          refine ⟨⟨i + 1, A8, c8, by omega, by go_num, ⟨by rw [hW9]; exact blk_put (cs := #[.int .i64 k, .bool e, .string t, .slice A5 (j + i) c5]) B04.out 3 _ rfl⟩, ⟨?_⟩, ⟨?_⟩, ⟨by rw [hW9]; exact HO4.out.set B04.out (by decide) 3 _⟩⟩, ?_⟩
          · rw [hW9]; exact HU4.out.trans (Upd.setCell (S := fun k => k = b0) (p := ⟨b0, 3, none⟩) (.inl rfl) _) (fun k hk => .inr (by omega))
          · rw [hW9]; have := HS4.out; simpa [World.setCell] using this
          · simp [intOf]; omega
        · obtain rfl : i = 3 := by omega
          go_wp2_with fail
          exact bodyPost_end (v := .tuple #[]) (by simp [results, Tryd.results25, go_sem]) rfl ⟨rfl, HU.out⟩
end Go.Proofs.YtnemeeidomceiaaDoor
end
section
namespace Go.Proofs.YtnemeeidomceiaaDoor
open Go.RowKit Go.Proofs.YtnemeeidomceiaaDoorW.PrintWords Go.Proofs.YtnemeeidomceiaaDoorW.PrintLast Go.Proofs.YtnemeeidomceiaaDoorW.PrintMore
set_option linter.unusedVariables false
set_option linter.unusedSimpArgs false
def EqPost (p : Prop) (w : World) (o : Ending) (w' : World) : Prop := ∃ b : Bool, o = .returned (.bool b) ∧ (b = true ↔ p) ∧ Below w.heap.size w w'
theorem toList_eq {a b : ByteArray} : a.toList = b.toList ↔ a = b := by
  rw [Lib.toList_data, Lib.toList_data]
  exact ⟨fun h => by cases a; cases b; congr; exact Array.toList_inj.1 h, fun h => by rw [h]⟩
theorem drop_at {l : List Ent} {j : Nat} (h : j < l.length) : l.drop j = rd_T63 l (j : Int) :: l.drop (j + 1) := by
  rw [List.drop_eq_getElem_cons h]
  simp [rd_T63, h]
set_option maxHeartbeats 4000000 in
set_option maxRecDepth 100000 in
theorem refEq_calls (la : List Ent) (hf : Fit la) : ∀ (ka : Int) (ea : Bool) (ta : ByteArray) (Aa : Option Addr) (ca : Nat) (kb : Int) (eb : Bool) (tb : ByteArray) (lb : List Ent) (Ab : Option Addr) (cb : Nat) (w : World), Kd.C kE w Aa la.length la → la.length ≤ ca → Kd.C kE w Ab lb.length lb → lb.length ≤ cb →
    Calls Tryd.prog 13 #[.agg #[.int .i64 ka, .bool ea, .string ta, .slice Aa la.length ca], .agg #[.int .i64 kb, .bool eb, .string tb, .slice Ab lb.length cb]] w (EqPost ((ka, ea, ta, la) = (kb, eb, tb, lb)) w) := by
  induction hf with
  | @mk la hn _ ih =>
  intro ka ea ta Aa ca kb eb tb lb Ab cb w hCa hca hCb hcb
  have HC := Aside0.mk (And.intro hCa (And.intro hca (And.intro hCb hcb)))
  have IH := Aside0.mk ih
  obtain ⟨n, hnl⟩ : ∃ n, n = la.length := ⟨_, rfl⟩
  obtain ⟨m, hml⟩ : ∃ m, m = lb.length := ⟨_, rfl⟩
  have HN := Aside0.mk (And.intro hnl hml)
  have hnb : n ≤ 4611686018427387903 := by omega
  rw [← hnl, ← hml]
  obtain ⟨p, hp⟩ : ∃ p : Prop, p = ((ka, ea, ta, la) = (kb, eb, tb, lb)) := ⟨_, rfl⟩
  rw [← hp]
  have HP := Aside0.mk hp
  have hbw : ∀ a b, Below w.heap.size w ((w.alloc a).alloc b) := fun a b => below_alloc (below_alloc (Below.refl _ _) _) _
  have HBW := Aside0.mk hbw
  clear hCa hca hCb hcb ih hnl hml hp hbw
  by_cases c1 : ka = kb
  case neg =>
    have d1 : (ka != kb) = true := bne_iff_ne.mpr c1
    have HQ : Aside0 ¬ p := ⟨by rw [HP.out]; exact fun h => c1 (congrArg (·.1) h)⟩
    clear c1
    go_enter Tryd.func13, Tryd.ntmps13
    go_wp2
    go_ret
    exact ⟨false, rfl, ⟨fun h => (by cases h), fun h => absurd h HQ.out⟩, HBW.out _ _⟩
  have d1 : (ka != kb) = false := bne_eq_false_iff_eq.mpr c1
  by_cases c2 : ea = eb
  case neg =>
    have HQ : Aside0 ¬ p := ⟨by rw [HP.out]; exact fun h => c2 (congrArg (·.2.1) h)⟩
    clear c1
    cases ea <;> cases eb <;> first | exact absurd rfl c2 | clear c2
    all_goals
      go_enter Tryd.func13, Tryd.ntmps13
      go_wp2
      go_ret
      exact ⟨false, rfl, ⟨fun h => (by cases h), fun h => absurd h HQ.out⟩, HBW.out _ _⟩
  subst c2
  have d2 : (ea != ea) = false := bne_eq_false_iff_eq.mpr rfl
  by_cases c3 : ta.toList = tb.toList
  case neg =>
    have d3 : (ta.toList != tb.toList) = true := bne_iff_ne.mpr c3
    have d3b : (ta.toList == tb.toList) = false := beq_eq_false_iff_ne.mpr c3
    have HQ : Aside0 ¬ p := ⟨by rw [HP.out]; exact fun h => c3 (congrArg (fun q => q.2.2.1.toList) h)⟩
    clear c1 c3
    go_enter Tryd.func13, Tryd.ntmps13
    go_wp2
    go_ret
    exact ⟨false, rfl, ⟨fun h => (by cases h), fun h => absurd h HQ.out⟩, HBW.out _ _⟩
  have d3 : (ta.toList != tb.toList) = false := bne_eq_false_iff_eq.mpr c3
  have d3b : (ta.toList == tb.toList) = true := beq_iff_eq.mpr c3
  by_cases c4 : n = m
  case neg =>
    have d4 : ((n : Int) != (m : Int)) = true := bne_iff_ne.mpr (by omega)
    have d5 : (n != m) = true := bne_iff_ne.mpr c4
    have HQ : Aside0 ¬ p := ⟨by rw [HP.out]; exact fun h => c4 (by rw [HN.out.1, HN.out.2]; exact congrArg (fun q => q.2.2.2.length) h)⟩
    clear c1 c3 c4
    go_enter Tryd.func13, Tryd.ntmps13
    go_wp2
    go_ret
    exact ⟨false, rfl, ⟨fun h => (by cases h), fun h => absurd h HQ.out⟩, HBW.out _ _⟩
  subst c4
  have d4 : ((n : Int) != (n : Int)) = false := bne_eq_false_iff_eq.mpr rfl
  have HPE : Aside0 (p ↔ la.drop 0 = lb.drop 0) := ⟨by rw [HP.out, c1, toList_eq.1 c3]; simp⟩
  clear c1 c3
  go_enter Tryd.func13, Tryd.ntmps13
  go_wp2
  obtain ⟨W2, hW2⟩ : ∃ W2, W2 = (w.alloc (.cells #[.int .i64 ka, .bool ea, .string ta, .slice Aa n ca] 32)).alloc (.cells #[.int .i64 kb, .bool ea, .string tb, .slice Ab n cb] 32) := ⟨_, rfl⟩
  rw [← hW2]
  obtain ⟨b0, hb0⟩ : ∃ b, b = w.heap.size := ⟨_, rfl⟩
  obtain ⟨b1, hb1⟩ : ∃ b, b = w.heap.size + 1 := ⟨_, rfl⟩
  rw [← hb1, ← hb0]
  have B0 : Aside0 (Blk W2 b0 32 [.int .i64 ka, .bool ea, .string ta, .slice Aa n ca]) := ⟨by rw [hW2, hb0]; exact (Blk.new w _ [.int .i64 ka, .bool ea, .string ta, .slice Aa n ca]).alloc _⟩
  have B1 : Aside0 (Blk W2 b1 32 [.int .i64 kb, .bool ea, .string tb, .slice Ab n cb]) := ⟨by rw [hW2]; exact Blk.new' _ _ [.int .i64 kb, .bool ea, .string tb, .slice Ab n cb] (by rw [hb1]; simp)⟩
  have HB : Aside0 (Below w.heap.size w W2) := ⟨by rw [hW2]; exact HBW.out _ _⟩
  clear hW2 hb0 hb1 d1 d2 d3 d4
  go_loopw [5] (fun v wr => ∃ j : Nat, j ≤ n ∧ v = .int .i64 j ∧ Aside0 (p ↔ la.drop j = lb.drop j) ∧ Aside0 (Below W2.heap.size W2 wr)) (fun v _ => n - (intOf v).toNat)
  case atStart => exact ⟨0, Nat.zero_le _, rfl, HPE, ⟨Below.refl _ _⟩⟩
  case round =>
    clear HPE
    obtain ⟨j, hj, rfl, HPJ, HBR⟩ := hrel
    have B0r := Aside0.mk (B0.out.below HBR.out)
    have B1r := Aside0.mk (B1.out.below HBR.out)
    obtain ⟨_, _, _, u3⟩ := cells4 B0r.out
    obtain ⟨_, _, _, v3⟩ := cells4 B1r.out
    have HBW2 := Aside0.mk (HB.out.trans (HBR.out.mono HB.out.size))
    by_cases hlt : j < n
    · have p0 : (0 : Int) ≤ (j : Int) := by omega
      have p1 : (j : Int) < (n : Int) := by omega
      have hda := drop_at (l := la) (j := j) (by rw [← HN.out.1]; exact hlt)
      have hdb := drop_at (l := lb) (j := j) (by rw [← HN.out.2]; exact hlt)
      obtain ⟨ad, A4, c4, hA, e0, e1, e2, e3, e4, hl4, hC4⟩ := at_T63 HC.out.1 (j : Int) (by omega) (by rw [← HN.out.1]; omega)
      obtain ⟨bd, A5, c5, hB, f0, f1, f2, f3, f4, hl5, hC5⟩ := at_T63 HC.out.2.2.1 (j : Int) (by omega) (by rw [← HN.out.2]; omega)
      have h2 : j < la.length := by rw [← HN.out.1]; exact hlt
      have hxm : rd_T63 la (j : Int) ∈ la := by simp [rd_T63, h2]
      clear h2
      generalize rd_T63 la (j : Int) = x at *
      generalize rd_T63 lb (j : Int) = y at *
      subst hA hB
      simp only [Int.toNat_natCast] at e0 e1 e2 e3 e4 f0 f1 f2 f3 f4
      have HX := Aside0.mk (And.intro hda (And.intro hdb hxm))
      have HC4 := Aside0.mk (And.intro hC4 (And.intro hl4 (And.intro hC5 hl5)))
      have E := Aside0.mk (And.intro e1 (And.intro e2 (And.intro e3 (And.intro e4 (And.intro f1 (And.intro f2 (And.intro f3 f4)))))))
      replace e0 := pw_cell_below HBW2.out e0
      replace f0 := pw_cell_below HBW2.out f0
      clear hda hdb hxm hC4 hl4 hC5 hl5 e1 e2 e3 e4 f1 f2 f3 f4
      by_cases c5 : x.f0.toList = y.f0.toList
      · have d5 : (x.f0.toList != y.f0.toList) = false := bne_eq_false_iff_eq.mpr c5
        have d5b : (x.f0.toList == y.f0.toList) = true := beq_iff_eq.mpr c5
        have HC5 := Aside0.mk c5
        clear c5
        go_wp2_with fail
        go_quiet (fail)
        go_wp2_with fail
        have hb3 : Below wr.heap.size wr (wr.drewN nq) := pw_below_drewN (Below.refl _ _) _
        generalize wr.drewN nq = W3 at *
        have hbw3 := below_step HBW2.out hb3
        obtain ⟨a1, a2, a3, a4, a5, a6, a7, a8⟩ := E.out
        replace a1 := pw_cell_below hbw3 a1
        replace a2 := pw_cell_below hbw3 a2
        replace a3 := pw_cell_below hbw3 a3
        replace a4 := pw_cell_below hbw3 a4
        replace a5 := pw_cell_below hbw3 a5
        replace a6 := pw_cell_below hbw3 a6
        replace a7 := pw_cell_below hbw3 a7
        replace a8 := pw_cell_below hbw3 a8
        have B03 := Aside0.mk (B0r.out.below hb3)
        have B13 := Aside0.mk (B1r.out.below hb3)
        refine start_ (n := 14) (S := fun w' => w'.cell? ⟨b0, 3, none⟩ = some (.slice (some ad) n ca) ∧ w'.cell? ⟨b1, 3, none⟩ = some (.slice (some bd) n cb) ∧ w'.cell? ⟨(ad.add (j * 5)).block, (ad.add (j * 5)).off + 1, none⟩ = some (.int .i64 x.f1) ∧ w'.cell? ⟨(ad.add (j * 5)).block, (ad.add (j * 5)).off + 2, none⟩ = some (.bool x.f2) ∧ w'.cell? ⟨(ad.add (j * 5)).block, (ad.add (j * 5)).off + 3, none⟩ = some (.string x.f3) ∧ w'.cell? ⟨(ad.add (j * 5)).block, (ad.add (j * 5)).off + 4, none⟩ = some (.slice A4 x.f4.length c4) ∧ w'.cell? ⟨(bd.add (j * 5)).block, (bd.add (j * 5)).off + 1, none⟩ = some (.int .i64 y.f1) ∧ w'.cell? ⟨(bd.add (j * 5)).block, (bd.add (j * 5)).off + 2, none⟩ = some (.bool y.f2) ∧ w'.cell? ⟨(bd.add (j * 5)).block, (bd.add (j * 5)).off + 3, none⟩ = some (.string y.f3) ∧ w'.cell? ⟨(bd.add (j * 5)).block, (bd.add (j * 5)).off + 4, none⟩ = some (.slice A5 y.f4.length c5)) (ds := []) #[false, false, false, false, false, false, false, false, false, false, false, false, false, false] (by kernel_rfl) rfl rfl (⟨B03.out.cell 3 _ rfl, B13.out.cell 3 _ rfl, a1, a2, a3, a4, a5, a6, a7, a8⟩) (fun hHeld => ?_)
        have hdr : Below W3.heap.size W3 W3.drew := below_drew (Below.refl _ _)
        generalize W3.drew = W4 at *
        refine pure_ (i := 0) (N := some 55) (v := ?_) (a' := ?_) #[true, false, false, false, false, false, false, false, false, false, false, false, false, false] rfl rfl (by kernel_rfl) (fun _ _ _ h => h) (Or.inl ⟨by rfl, ?_⟩) ?_ ?_
        rotate_left
        · intro w'
          go_simp
          with_reducible rfl
        rotate_left
        · simp only [Act.put, List.setIfInBounds_toArray, List.set_cons_zero, List.set_cons_succ, i64_w, i32_w]
          rfl
        refine take_ (i := 1) (N := some 56) (v := ?_) (a' := ?_) #[true, true, false, false, false, false, false, false, false, false, false, false, false, false] rfl rfl (by kernel_rfl) (fun _ _ _ h => h) (Or.inl ⟨by rfl, ?_⟩) hHeld ?_ ?_
        rotate_left
        · rintro w' ⟨s0, s1, s2, s3, s4, s5, s6, s7, s8, s9⟩
          go_simp
          with_reducible rfl
        rotate_left
        · simp only [Act.put, List.setIfInBounds_toArray, List.set_cons_zero, List.set_cons_succ, i64_w, i32_w]
          rfl
        refine pure_ (i := 2) (N := some 57) (v := ?_) (a' := ?_) #[true, true, true, false, false, false, false, false, false, false, false, false, false, false] rfl rfl (by kernel_rfl) (fun _ _ _ h => h) (Or.inl ⟨by rfl, ?_⟩) ?_ ?_
        rotate_left
        · intro w'
          go_simp
          with_reducible rfl
        rotate_left
        · simp only [Act.put, List.setIfInBounds_toArray, List.set_cons_zero, List.set_cons_succ, i64_w, i32_w]
          rfl
        refine pure_ (i := 3) (N := some 58) (v := ?_) (a' := ?_) #[true, true, true, true, false, false, false, false, false, false, false, false, false, false] rfl rfl (by kernel_rfl) (fun _ _ _ h => h) (Or.inl ⟨by rfl, ?_⟩) ?_ ?_
        rotate_left
        · intro w'
          go_simp
          with_reducible rfl
        rotate_left
        · simp only [Act.put, List.setIfInBounds_toArray, List.set_cons_zero, List.set_cons_succ, i64_w, i32_w]
          rfl
        refine pure_ (i := 4) (N := some 59) (v := ?_) (a' := ?_) #[true, true, true, true, true, false, false, false, false, false, false, false, false, false] rfl rfl (by kernel_rfl) (fun _ _ _ h => h) (Or.inl ⟨by rfl, ?_⟩) ?_ ?_
        rotate_left
        · intro w'
          go_simp
          with_reducible rfl
        rotate_left
        · simp only [Act.put, List.setIfInBounds_toArray, List.set_cons_zero, List.set_cons_succ, i64_w, i32_w]
          rfl
        refine take_ (i := 5) (N := some 60) (v := ?_) (a' := ?_) #[true, true, true, true, true, true, false, false, false, false, false, false, false, false] rfl rfl (by kernel_rfl) (fun _ _ _ h => h) (Or.inl ⟨by rfl, ?_⟩) hHeld ?_ ?_
        rotate_left
        · rintro w' ⟨s0, s1, s2, s3, s4, s5, s6, s7, s8, s9⟩
          go_simp
          with_reducible rfl
        rotate_left
        · simp only [Act.put, List.setIfInBounds_toArray, List.set_cons_zero, List.set_cons_succ, i64_w, i32_w]
          rfl
        refine pure_ (i := 6) (N := some 61) (v := ?_) (a' := ?_) #[true, true, true, true, true, true, true, false, false, false, false, false, false, false] rfl rfl (by kernel_rfl) (fun _ _ _ h => h) (Or.inl ⟨by rfl, ?_⟩) ?_ ?_
        rotate_left
        · intro w'
          go_simp
          with_reducible rfl
        rotate_left
        · simp only [Act.put, List.setIfInBounds_toArray, List.set_cons_zero, List.set_cons_succ, i64_w, i32_w]
          rfl
        refine take_ (i := 7) (N := some 62) (v := ?_) (a' := ?_) #[true, true, true, true, true, true, true, true, false, false, false, false, false, false] rfl rfl (by kernel_rfl) (fun _ _ _ h => h) (Or.inl ⟨by rfl, ?_⟩) hHeld ?_ ?_
        rotate_left
        · rintro w' ⟨s0, s1, s2, s3, s4, s5, s6, s7, s8, s9⟩
          go_simp
          with_reducible rfl
        rotate_left
        · simp only [Act.put, List.setIfInBounds_toArray, List.set_cons_zero, List.set_cons_succ, i64_w, i32_w]
          rfl
        refine pure_ (i := 8) (N := some 63) (v := ?_) (a' := ?_) #[true, true, true, true, true, true, true, true, true, false, false, false, false, false] rfl rfl (by kernel_rfl) (fun _ _ _ h => h) (Or.inl ⟨by rfl, ?_⟩) ?_ ?_
        rotate_left
        · intro w'
          go_simp
          with_reducible rfl
        rotate_left
        · simp only [Act.put, List.setIfInBounds_toArray, List.set_cons_zero, List.set_cons_succ, i64_w, i32_w]
          rfl
        refine pure_ (i := 9) (N := some 64) (v := ?_) (a' := ?_) #[true, true, true, true, true, true, true, true, true, true, false, false, false, false] rfl rfl (by kernel_rfl) (fun _ _ _ h => h) (Or.inl ⟨by rfl, ?_⟩) ?_ ?_
        rotate_left
        · intro w'
          go_simp
          with_reducible rfl
        rotate_left
        · simp only [Act.put, List.setIfInBounds_toArray, List.set_cons_zero, List.set_cons_succ, i64_w, i32_w]
          rfl
        refine pure_ (i := 10) (N := some 65) (v := ?_) (a' := ?_) #[true, true, true, true, true, true, true, true, true, true, true, false, false, false] rfl rfl (by kernel_rfl) (fun _ _ _ h => h) (Or.inl ⟨by rfl, ?_⟩) ?_ ?_
        rotate_left
        · intro w'
          go_simp
          with_reducible rfl
        rotate_left
        · simp only [Act.put, List.setIfInBounds_toArray, List.set_cons_zero, List.set_cons_succ, i64_w, i32_w]
          rfl
        refine take_ (i := 11) (N := some 66) (v := ?_) (a' := ?_) #[true, true, true, true, true, true, true, true, true, true, true, true, false, false] rfl rfl (by kernel_rfl) (fun _ _ _ h => h) (Or.inl ⟨by rfl, ?_⟩) hHeld ?_ ?_
        rotate_left
        · rintro w' ⟨s0, s1, s2, s3, s4, s5, s6, s7, s8, s9⟩
          go_simp
          with_reducible rfl
        rotate_left
        · simp only [Act.put, List.setIfInBounds_toArray, List.set_cons_zero, List.set_cons_succ, i64_w, i32_w]
          rfl
        refine one_ (i := 12) (N := some 67) #[true, true, true, true, true, true, true, true, true, true, true, true, true, false] rfl rfl (by kernel_rfl) (by decide) (fun K hK => ?_)
        have hb4 := below_step hbw3 hdr
        refine goes_ Tryd.func13 (by kernel_rfl) rfl #[.agg #[.int .i64 x.f1, .bool x.f2, .string x.f3, .slice A4 x.f4.length c4], .agg #[.int .i64 y.f1, .bool y.f2, .string y.f3, .slice A5 y.f4.length c5]] (by rfl) rfl rfl (by (try simp only [List.map_toArray, List.map_cons, List.map_nil]); first | done | rfl) ?_
        refine (IH.out x HX.out.2.2 x.f1 x.f2 x.f3 A4 c4 y.f1 y.f2 y.f3 y.f4 A5 c5 W4 (Kd.C_below HC4.out.1 hb4) HC4.out.2.1 (Kd.C_below HC4.out.2.2.1 hb4) HC4.out.2.2.2).mono ?_
        rintro o W5 ⟨bq, rfl, hbq, hb5⟩
        have hb35 := below_step hdr hb5
        have HB5 := Aside0.mk (below_step (below_step HBR.out hb3) hb35)
        have HW5 := Aside0.mk (below_step hbw3 hb35)
        have hHeld5 : W5.cell? ⟨b0, 3, none⟩ = some (.slice (some ad) n ca) ∧ W5.cell? ⟨b1, 3, none⟩ = some (.slice (some bd) n cb) := ⟨(B03.out.below hb35).cell 3 _ rfl, (B13.out.below hb35).cell 3 _ rfl⟩
        refine ⟨_, rfl, ?_⟩
        refine hK.out _ _ ⟨hHeld5.1, hHeld5.2, pw_cell_below hb35 a1, pw_cell_below hb35 a2, pw_cell_below hb35 a3, pw_cell_below hb35 a4, pw_cell_below hb35 a5, pw_cell_below hb35 a6, pw_cell_below hb35 a7, pw_cell_below hb35 a8⟩ (fun _ => ?_)
        clear hK K
        refine pure_ (i := 13) (N := some 6) (v := ?_) (a' := ?_) #[true, true, true, true, true, true, true, true, true, true, true, true, true, true] rfl rfl (by kernel_rfl) (fun _ _ _ h => h) (Or.inl ⟨by rfl, ?_⟩) ?_ ?_
        rotate_left
        · intro w'
          go_simp
          with_reducible rfl
        rotate_left
        · simp only [Act.put, List.setIfInBounds_toArray, List.set_cons_zero, List.set_cons_succ, i64_w, i32_w]
          rfl
        refine done_ (by kernel_rfl) ?_
        have HQ := Aside0.mk hbq
        clear hbq hb5 hb35 hb4 hdr hbw3 hb3 a1 a2 a3 a4 a5 a6 a7 a8 hHeld5 hHeld B03 B13 e0 f0 u3 v3
        cases bq with
        | true =>
          have HPN : Aside0 (p ↔ la.drop (j + 1) = lb.drop (j + 1)) := ⟨by
            have hxy := HQ.out.1 rfl
            have hx0 := toList_eq.1 HC5.out
            have hxe : x = y := by
              cases x; cases y
              simp only [Prod.mk.injEq] at hxy hx0
              obtain ⟨h1, h2, h3, h4⟩ := hxy
              subst hx0 h1 h2 h3 h4
              rfl
            rw [HPJ.out, HX.out.1, HX.out.2.1, hxe]
            simp⟩
          go_wp2_with fail
          go_roundw
          case rel => exact ⟨j + 1, by omega, by go_num, HPN, HB5⟩
          case measure => simp [intOf]; omega
        | false =>
          have HQN : Aside0 ¬ p := ⟨by
            rw [HPJ.out, HX.out.1, HX.out.2.1]
            intro h
            injection h with h _
            have := HQ.out.2 (by rw [h])
            cases this⟩
          go_wp2_with fail
          go_ret
          exact ⟨false, rfl, ⟨fun h => (by cases h), fun h => absurd h HQN.out⟩, HW5.out⟩
      · have d5 : (x.f0.toList != y.f0.toList) = true := bne_iff_ne.mpr c5
        have d5b : (x.f0.toList == y.f0.toList) = false := beq_eq_false_iff_ne.mpr c5
        have HQ : Aside0 ¬ p := ⟨by rw [HPJ.out, HX.out.1, HX.out.2.1]; intro h; injection h with h _; exact c5 (by rw [h])⟩
        clear c5
        go_wp2_with fail
        go_quiet (fail)
        go_wp2_with fail
        go_ret
        exact ⟨false, rfl, ⟨fun h => (by cases h), fun h => absurd h HQ.out⟩, below_step HBW2.out (pw_below_drewN (Below.refl _ _) _)⟩
    · obtain rfl : j = n := by omega
      go_wp2_with fail
      go_ret
      exact ⟨true, rfl, ⟨fun _ => HPJ.out.2 (by rw [List.drop_of_length_le (Nat.le_of_eq HN.out.1.symm), List.drop_of_length_le (Nat.le_of_eq HN.out.2.symm)]), fun _ => rfl⟩, HBW2.out⟩
set_option maxHeartbeats 1000000 in
set_option maxRecDepth 100000 in
theorem leaf_calls (s : ByteArray) (w : World) : Calls Tryd.prog 26 #[.string s] w fun o w' => o = .returned (.agg #[.int .i64 1, .bool false, .string s, .slice none 0 0]) ∧ Below w.heap.size w w' := by
  go_enter Tryd.func26, Tryd.ntmps26
  go_wp2
  refine bodyPost_ret (v := .agg #[.int .i64 1, .bool false, .string s, .slice none 0 0]) (by simp [results, Tryd.results26, go_sem]) rfl ⟨rfl, below_alloc (Below.refl _ _) _⟩
/-- The directory that every run looks at first. -/
def wakeL : List Ent := [⟨⟨#[97]⟩, 1, false, ⟨#[120]⟩, []⟩]
theorem wake_held : Held ⟨#[]⟩ wakeL := ⟨.of (fun x hx => by
  rw [wakeL, List.mem_singleton] at hx
  subst hx
  exact ⟨by decide, by decide, .of (by simp)⟩), by decide⟩
theorem lit_own (w : World) (x : Ent) (hx : x.f4 = []) : Own (w.alloc (.cells (ecells x (.slice none 0 0)).toArray eE)) w.heap.size (fun k => w.heap.size ≤ k) (.slice (some ⟨w.heap.size, 0, none⟩) 1 1) [x] := by
  refine .mk _ _ _ [⟨x, .slice none 0 0, fun _ => False⟩] rfl ?_ (fun k hk => ?_) (fun t ht => ?_) (fun t ht k hk => ?_) (List.pairwise_singleton _ _)
  · exact ⟨rfl, .inr ⟨w.heap.size, 1, (ecells x (.slice none 0 0)).toArray, rfl, Nat.le_refl _, heap_alloc_new _ _, Nat.le_refl _, by unfold maxLen; omega, rfl, rfl⟩⟩
  · simp [Value.ownBlock] at hk; omega
  · rw [List.mem_singleton] at ht
    subst ht
    show Own _ _ _ (.slice none 0 0) x.f4
    rw [hx]
    exact Own.nil _ _ _
  · rw [List.mem_singleton] at ht
    subst ht
    exact hk.elim
set_option maxHeartbeats 4000000 in
set_option maxRecDepth 100000 in
theorem awake_calls (w : World) : Calls Tryd.prog 10 #[] w fun o w' => o = .returned (.bool true) ∧ Below w.heap.size w w' := by
  have HS : Aside0 (∀ W A c, Kd.C kE W A 1 wakeL → 1 ≤ c → Calls Tryd.prog 27 #[.agg #[.int .i64 3, .bool false, .string ⟨#[]⟩, .slice A 1 c]] W fun e w' => e = .returned (.tuple #[.int .i64 288, .int .i64 0]) ∧ Below W.heap.size W w') := ⟨fun W A c hC hc => tree_Size.calls 3 false ⟨#[]⟩ A c wakeL 288 0 W hC hc (by unfold tree_Size.f; rw [if_pos wake_held, show lookL 3 false ⟨#[]⟩ wakeL = _ from awake_look]; rfl)⟩
  have HK : Aside0 (∀ W A c, Kd.C kE W A 1 wakeL → 1 ≤ c → Calls Tryd.prog 14 #[.agg #[.int .i64 3, .bool false, .string ⟨#[]⟩, .slice A 1 c]] W fun e w' => e = .returned (.tuple #[.string ⟨#[]⟩, .int .i64 0]) ∧ Below W.heap.size W w') := ⟨fun W A c hC hc => tree_Check.calls 3 false ⟨#[]⟩ A c wakeL ⟨#[]⟩ 0 W hC hc (by unfold tree_Check.f; rw [if_pos wake_held, show lookL 3 false ⟨#[]⟩ wakeL = _ from awake_look]; rfl)⟩
  have HW : Aside0 (∀ W A c, Kd.C kE W A 1 wakeL → 1 ≤ c → Calls Tryd.prog 15 #[.agg #[.int .i64 3, .bool false, .string ⟨#[]⟩, .slice A 1 c]] W fun e w' => ∃ v0_ : Value, e = .returned (.tuple #[v0_, .int .i64 0]) ∧ Kd.R k27 27 w' W.heap.size (fun _ => True) v0_ [⟨⟨#[]⟩, 3, false, ⟨#[]⟩⟩, ⟨⟨#[97]⟩, 1, false, ⟨#[120]⟩⟩] ∧ Below W.heap.size W w') := ⟨fun W A c hC hc => tree_Walk.calls 3 false ⟨#[]⟩ A c wakeL _ 0 W hC hc (by unfold tree_Walk.f; rw [if_pos wake_held, show lookL 3 false ⟨#[]⟩ wakeL = _ from awake_look]; rfl)⟩
  go_enter Tryd.func10, Tryd.ntmps10
  go_wp2_with fail
  (with_reducible refine (leaf_calls _ _).mono ?_)
  rintro o w1 ⟨rfl, hb1⟩
  go_wp2_with ((with_reducible refine gate_dst (N := 13) rfl ?_); refine Stand.go ?_)
  obtain ⟨Wa, hWa⟩ : ∃ Wa, Wa = w1.alloc (.cells #[.string ⟨#[97]⟩, .int .i64 1, .bool false, .string ⟨#[120]⟩, .slice none 0 0] eE) := ⟨_, rfl⟩
  have HO : Aside0 (Own Wa w1.heap.size (fun k => w1.heap.size ≤ k) (.slice (some ⟨w1.heap.size, 0, none⟩) 1 1) wakeL) := ⟨by rw [hWa]; exact lit_own w1 ⟨⟨#[97]⟩, 1, false, ⟨#[120]⟩, []⟩ rfl⟩
  rw [← hWa]
  obtain ⟨W2, hW2⟩ : ∃ W2, W2 = Wa.alloc (.cells #[.int .i64 3, .bool false, .string ⟨#[]⟩, .slice (some ⟨w1.heap.size, 0, none⟩) 1 1] 32) := ⟨_, rfl⟩
  obtain ⟨bn, hbn⟩ : ∃ b, b = Wa.heap.size := ⟨_, rfl⟩
  have hz : w1.heap.size + 1 = bn := by rw [hbn, hWa]; simp
  rw [hz]
  rw [← hW2]
  have BN : Aside0 (Blk W2 bn 32 [.int .i64 3, .bool false, .string ⟨#[]⟩, .slice (some ⟨w1.heap.size, 0, none⟩) 1 1]) := ⟨by rw [hW2]; exact Blk.new' _ _ [.int .i64 3, .bool false, .string ⟨#[]⟩, .slice (some ⟨w1.heap.size, 0, none⟩) 1 1] hbn⟩
  have HO2 : Aside0 (Own W2 w1.heap.size (fun k => w1.heap.size ≤ k) (.slice (some ⟨w1.heap.size, 0, none⟩) 1 1) wakeL) := ⟨by rw [hW2]; exact HO.out.newer (below_alloc (Below.refl _ _) _)⟩
  have HB2 : Aside0 (Below w.heap.size w W2) := ⟨by rw [hW2, hWa]; exact below_step hb1 (below_alloc (below_alloc (Below.refl _ _) _) _)⟩
  obtain ⟨b8, hb8⟩ : ∃ b, b = w1.heap.size := ⟨_, rfl⟩
  rw [← hb8] at BN HO2 ⊢
  unfold Stand
  clear hWa hW2 hbn hz hb8 hb1 HO
  obtain ⟨u0, u1, u2, u3⟩ := cells4 BN.out
  go_wp2_with fail
  (with_reducible refine (HS.out W2 _ _ HO2.out.toC.2.2 (Nat.le_refl _)).mono ?_)
  rintro o W3 ⟨rfl, hb⟩
  have BN3 := Aside0.mk (BN.out.below hb)
  have HO3 := Aside0.mk (HO2.out.newer hb)
  have HB3 := Aside0.mk (below_step HB2.out hb)
  clear hb BN HO2 HB2 HS u0 u1 u2 u3
  obtain ⟨u0, u1, u2, u3⟩ := cells4 BN3.out
  go_wp2_with fail
  (with_reducible refine (HK.out W3 _ _ HO3.out.toC.2.2 (Nat.le_refl _)).mono ?_)
  rintro o W4 ⟨rfl, hb⟩
  have BN4 := Aside0.mk (BN3.out.below hb)
  have HO4 := Aside0.mk (HO3.out.newer hb)
  have HB4 := Aside0.mk (below_step HB3.out hb)
  clear hb BN3 HO3 HB3 HK u0 u1 u2 u3
  obtain ⟨u0, u1, u2, u3⟩ := cells4 BN4.out
  go_wp2_with fail
  (with_reducible refine (HW.out W4 _ _ HO4.out.toC.2.2 (Nat.le_refl _)).mono ?_)
  rintro o W5 ⟨v, rfl, hR, hb⟩
  have hrr := Kd.R_reads hR
  obtain ⟨A5, c5, hv, hc5, hC5⟩ := hrr
  subst hv
  have HB5 := Aside0.mk (below_step HB4.out hb)
  obtain ⟨ad, hA, e0, e1, e2, e3⟩ := at_T27 hC5 1 (by decide) (by decide)
  subst hA
  have f0 : W5.cell? (ad.add 4) = some (.string ⟨#[97]⟩) := e0
  have f3 : W5.cell? ⟨(ad.add 4).block, (ad.add 4).off + 3, none⟩ = some (.string ⟨#[120]⟩) := e3
  have ha : ad.add 4 = ⟨ad.block, ad.off + 4, none⟩ := by have h := add_field ad 0 4 (by omega); rw [Nat.zero_add, Addr.add_zero'] at h; exact h
  rw [ha] at f0 f3
  have g3 : W5.cell? ⟨ad.block, ad.off + 7, none⟩ = some (.string ⟨#[120]⟩) := f3
  clear hb BN4 HO4 HB4 HW u0 u1 u2 u3 hR hC5 hc5 e0 e1 e2 e3 ha
  simp only [List.length_cons, List.length_nil]
  go_wp2_with fail
  go_ret
  exact ⟨rfl, HB5.out⟩
end Go.Proofs.YtnemeeidomceiaaDoor
end
section
namespace Go.Proofs.YtnemeeidomceiaaDoor
open Go.RowKit Go.Proofs.YtnemeeidomceiaaDoorW.PrintWords Go.Proofs.YtnemeeidomceiaaDoorW.PrintLast Go.Proofs.YtnemeeidomceiaaDoorW.PrintMore
set_option linter.unusedVariables false
set_option linter.unusedSimpArgs false
/-- The entry that is put. -/
def putK (sub : NodeT) (s : ByteArray) : Ent := ⟨s, sub.1, sub.2.1, sub.2.2.1, sub.2.2.2⟩
/-- What the closure of tree.Put makes. -/
def putAct (sub : NodeT) (l : List Ent) (i : Nat) (hs : Bool) (s : ByteArray) : List Ent × Int := (if hs = true then l.set i (putK sub s) else l.take i ++ putK sub s :: l.drop i, 0)
set_option maxHeartbeats 2000000 in
set_option maxRecDepth 100000 in
theorem put1_any (sub : NodeT) (bs cs : Nat) (As : Option Addr) (hfs : Fit sub.2.2.2) (hcs : sub.2.2.2.length ≤ cs) (l : List Ent) (s : ByteArray) (v : Value) (w : World) (base : Nat) (ok : Nat → Prop) (h : Own w base ok v l) (hl : AllR l) (hbs : base ≤ w.heap.size)
    (hok : ∀ k, ok k → base ≤ k ∧ k < w.heap.size) (hB : Blk w bs 32 [.int .i64 sub.1, .bool sub.2.1, .string sub.2.2.1, .slice As sub.2.2.2.length cs]) (hbb : bs < base) (hC : ∀ W, Below base w W → Kd.C kE W As sub.2.2.2.length sub.2.2.2) :
    Calls Tryd.prog 48 #[v, .int .i64 (rk l s), .bool (hasN l s), .string s, .pointer (some ⟨bs, 0, none⟩)] w fun o w' => ∃ v', o = .returned (.tuple #[v', .int .i64 (putAct sub l (rk l s) (hasN l s) s).2]) ∧ Own w' base (fun k => ok k ∨ w.heap.size ≤ k) v' (putAct sub l (rk l s) (hasN l s) s).1 ∧ Upd ok w w' := by
  obtain ⟨i, hi⟩ : ∃ i, i = rk l s := ⟨_, rfl⟩
  obtain ⟨hs, hhs⟩ : ∃ hs, hs = hasN l s := ⟨_, rfl⟩
  have hil : i ≤ l.length := by rw [hi]; exact rk_le l s
  have hlen := hl.rises.2
  have HH := Aside0.mk (And.intro h (And.intro hok hbs))
  have HC := Aside0.mk hC
  have HB := Aside0.mk hB
  have HCP : Aside0 (∀ W, Below base w W → Calls Tryd.prog 24 #[.agg #[.int .i64 sub.1, .bool sub.2.1, .string sub.2.2.1, .slice As sub.2.2.2.length cs]] W fun o w' => ∃ v, o = .returned (.agg #[.int .i64 sub.1, .bool sub.2.1, .string sub.2.2.1, v]) ∧ Own w' W.heap.size (fun k => W.heap.size ≤ k) v sub.2.2.2 ∧ Below W.heap.size W w') := ⟨fun W hb => copyO_calls _ hfs _ _ _ As cs W (hC W hb) hcs⟩
  obtain ⟨sk, se, st, sl⟩ := sub
  simp only at HCP HB
  rw [← hi, ← hhs]
  cases hs with
  | true =>
    obtain ⟨x, hx, hxs⟩ := hasN_at hhs.symm
    rw [← hi] at hx
    obtain ⟨A, c, hv, _⟩ := h.slice
    subst hv
    obtain ⟨g, A6, c6, hA, _, hbg, hgk, hgl, hfr, e0, e1, e2, e3, e4⟩ := h.at_ hx
    subst hA
    have hlt := (List.getElem?_eq_some_iff.1 hx).1
    have HX := Aside0.mk (And.intro hx (And.intro hxs (And.intro hi hhs)))
    have HG := Aside0.mk (And.intro hbg (And.intro hgk hgl))
    have HF := Aside0.mk hfr
    have HE := Aside0.mk (And.intro e1 (And.intro e2 (And.intro e3 e4)))
    have c0 := HB.out.cell 0 _ rfl
    have c1 := HB.out.cell 1 _ rfl
    have c2 := HB.out.cell 2 _ rfl
    have c3 := HB.out.cell 3 _ rfl
    have p0 : (0 : Int) ≤ (i : Int) := by omega
    have p1 : (i : Int) < (l.length : Int) := by omega
    clear h hl hbs hok hB hC hx hxs hi hhs hbg hgk hgl hfr e0 e1 e2 e3 e4 hfs hcs
    go_enter Tryd.func48, Tryd.ntmps48
    go_wp2_with fail
    (with_reducible refine (HCP.out w (Below.refl _ _)).mono ?_)
    rintro o w2 ⟨u, rfl, hu, hb⟩
    obtain ⟨A8, c8, hu8, _⟩ := hu.slice
    subst hu8
    have hcel : ∀ (j : Nat) (v : Value), w.cell? ⟨g, j, none⟩ = some v → w2.cell? ⟨g, j, none⟩ = some v := fun j v h => (hb.cell (p := ⟨g, j, none⟩) HG.out.2.2).trans h
    have w1 := hcel _ _ HE.out.1
    have w3 := hcel _ _ HE.out.2.1
    have w4 := hcel _ _ HE.out.2.2.1
    have w5 := hcel _ _ HE.out.2.2.2
    have hfz : ∀ (j : Nat), w2.frozen? ⟨g, j, none⟩ = false := fun j => (hb.frozen (p := ⟨g, j, none⟩) HG.out.2.2).trans (HF.out j)
    have z1 := hfz (i * 5 + 1)
    have z2 := hfz (i * 5 + 2)
    have z3 := hfz (i * 5 + 3)
    have z4 := hfz (i * 5 + 4)
    have HFIN := Aside0.mk (HH.out.1.store (k := sk) (e := se) (t := st) HX.out.1 hb HH.out.2.2 hu)
    clear hu hb hcel hfz
    go_wp2_with fail
    go_ret2
    refine ⟨_, rfl, ?_, HFIN.out.2⟩
    have := HFIN.out.1
    rw [HX.out.2.1] at this
    exact this
  | false =>
    obtain ⟨A, c, hv, _⟩ := h.slice
    subst hv
    have c0 := HB.out.cell 0 _ rfl
    have c1 := HB.out.cell 1 _ rfl
    have c2 := HB.out.cell 2 _ rfl
    have c3 := HB.out.cell 3 _ rfl
    have p0 : (0 : Int) ≤ (i : Int) := by omega
    have p1 : (i : Int) < (l.length : Int) + 1 := by omega
    clear h hl hbs hok hB hC hi hhs hfs hcs
    go_enter Tryd.func48, Tryd.ntmps48
    go_wp2_with fail
    obtain ⟨W1, hW1⟩ : ∃ W1, W1 = w.alloc (.cells #[.string s, .int .i64 0, .bool false, .string ⟨#[]⟩, .slice none 0 0] eE) := ⟨_, rfl⟩
    have hb1 : Below w.heap.size w W1 := by rw [hW1]; exact below_alloc (Below.refl _ _) _
    have hvb : W1.heap[w.heap.size]? = some (.cells (ecells ⟨s, 0, false, ⟨#[]⟩, []⟩ (.slice none 0 0)).toArray eE (0, 0)) := by rw [hW1]; exact heap_alloc_new _ _
    rw [← hW1]
    clear hW1
    obtain ⟨ts, hts, hP⟩ := (HH.out.1.newer hb1).parts
    have htl : ts.length = l.length := by rw [hts, List.length_map]
    have hown : W1.ownsRow base eE 5 (.slice A l.length c) l.length (fl ts) := by have := hP.row; rw [htl] at this; exact this
    have hne : (Value.slice A l.length c).ownBlock ≠ some w.heap.size := fun e => by have := (HH.out.2.1 _ (hP.own _ e).1).2; omega
    refine (insertEnt_all base l.length i _ (fl ts) w.heap.size (ecells ⟨s, 0, false, ⟨#[]⟩, []⟩ (.slice none 0 0)) W1 hown hil rfl hvb hne (ecells_one rfl) hP.ones (by omega) (Nat.le_trans HH.out.2.2 hb1.size)).mono ?_
    rintro o w2 ⟨v2, rfl, hrow2, hg2, hat2⟩
    have hO2 := Own.insert1 (x := ⟨s, 0, false, ⟨#[]⟩, []⟩) rfl hts hP hil hrow2 hg2 hat2
    have hU2 : Upd ok w w2 := (Upd.of_below hb1 (S := ok)).trans (Upd.of_grown hg2 (S := ok) (fun k hk => .inl (hP.own k hk).1)) (fun k hk => .inl hk)
    obtain ⟨l2, hl2⟩ : ∃ l2, l2 = l.take i ++ (⟨s, 0, false, ⟨#[]⟩, []⟩ : Ent) :: l.drop i := ⟨_, rfl⟩
    rw [← hl2] at hO2
    have hx : l2[i]? = some ⟨s, 0, false, ⟨#[]⟩, []⟩ := by
      rw [hl2, List.getElem?_append_right (by rw [List.length_take]; omega), List.length_take, Nat.min_eq_left hil, Nat.sub_self]; rfl
    have hlen2 : l2.length = l.length + 1 := by rw [hl2, List.length_append, List.length_cons, List.length_take, List.length_drop]; omega
    obtain ⟨A2, c2', hv2, _⟩ := hO2.slice
    subst hv2
    obtain ⟨g, A6, c6, hA, _, hbg, hgk, hgl, hfr, e0, e1, e2, e3, e4⟩ := hO2.at_ hx
    subst hA
    have HO2 := Aside0.mk (And.intro hO2 (And.intro hx (And.intro hl2 (And.intro hU2 hlen2))))
    have hbw : Below base w w2 := hU2.toBelow (fun k hk => (HH.out.2.1 k hk).1) HH.out.2.2
    have HBW := Aside0.mk hbw
    have d0 := (hbw.cell (p := ⟨bs, 0, none⟩) hbb).trans c0
    have d1 := (hbw.cell (p := ⟨bs, 1, none⟩) hbb).trans c1
    have d2 := (hbw.cell (p := ⟨bs, 2, none⟩) hbb).trans c2
    have d3 := (hbw.cell (p := ⟨bs, 3, none⟩) hbb).trans c3
    have HWS := Aside0.mk hb1.size
    have HG := Aside0.mk (And.intro hbg (And.intro hgk (And.intro hgl (Nat.le_trans HH.out.2.2 hbw.size))))
    have HF := Aside0.mk hfr
    have HE := Aside0.mk (And.intro e1 (And.intro e2 (And.intro e3 e4)))
    rw [hlen2]
    clear hts hP htl hown hne hvb hb1 hrow2 hg2 hat2 hO2 hU2 hl2 hx hlen2 hbg hgk hgl hfr e0 e1 e2 e3 e4 hbw c0 c1 c2 c3
    go_wp2_with fail
    (with_reducible refine (HCP.out w2 HBW.out).mono ?_)
    rintro o w3 ⟨u, rfl, hu, hb⟩
    obtain ⟨A8, c8, hu8, _⟩ := hu.slice
    subst hu8
    have hcel : ∀ (j : Nat) (v : Value), w2.cell? ⟨g, j, none⟩ = some v → w3.cell? ⟨g, j, none⟩ = some v := fun j v h => (hb.cell (p := ⟨g, j, none⟩) HG.out.2.2.1).trans h
    have w11 := hcel _ _ HE.out.1
    have w12 := hcel _ _ HE.out.2.1
    have w13 := hcel _ _ HE.out.2.2.1
    have w14 := hcel _ _ HE.out.2.2.2
    have hfz : ∀ (j : Nat), w3.frozen? ⟨g, j, none⟩ = false := fun j => (hb.frozen (p := ⟨g, j, none⟩) HG.out.2.2.1).trans (HF.out j)
    have z1 := hfz (i * 5 + 1)
    have z2 := hfz (i * 5 + 2)
    have z3 := hfz (i * 5 + 3)
    have z4 := hfz (i * 5 + 4)
    have HFIN := Aside0.mk (HO2.out.1.store (k := sk) (e := se) (t := st) HO2.out.2.1 hb HG.out.2.2.2 hu)
    have HW3 := Aside0.mk hb.size
    clear hu hb hcel hfz d0 d1 d2 d3
    go_wp2_with fail
    go_ret2
    have hlst : l2.set i (putK (sk, se, st, sl) s) = (putAct (sk, se, st, sl) l i false s).1 := by
      rw [HO2.out.2.2.1]
      show _ = l.take i ++ putK (sk, se, st, sl) s :: l.drop i
      rw [List.set_append_right _ _ (by rw [List.length_take]; omega), List.length_take, Nat.min_eq_left hil, Nat.sub_self]
      rfl
    have hF := HFIN.out
    rw [HO2.out.2.2.2.2] at hF
    refine ⟨_, rfl, ?_, HO2.out.2.2.2.1.trans hF.2 (fun k hk => ?_)⟩
    · have h1 := hF.1
      rw [show ({ f0 := s, f1 := sk, f2 := se, f3 := st, f4 := sl } : Ent) = putK (sk, se, st, sl) s from rfl, hlst] at h1
      exact h1.mono (fun k hk => hk.elim (fun h => h.elim .inl (fun h => .inr (Nat.le_trans HWS.out h))) (fun h => .inr (by have := HBW.out.size; omega)))
    · exact hk.elim .inl (fun h => .inr (Nat.le_trans HWS.out h))
/-- The tree with another one at a path. -/
def putP (n : NodeT) (path : ByteArray) (sub : NodeT) : NodeT × Int :=
  if lookCode (lookL n.1 n.2.1 n.2.2.1 n.2.2.2) ≠ 0 then (zeroT, lookCode (lookL n.1 n.2.1 n.2.2.1 n.2.2.2))
  else if (readyP sub.1 sub.2.1 sub.2.2.1 sub.2.2.2 path).2 ≠ 0 then (zeroT, (readyP sub.1 sub.2.1 sub.2.2.1 sub.2.2.2 path).2)
  else if (readyP sub.1 sub.2.1 sub.2.2.1 sub.2.2.2 path).1 = [] then (sub, 0)
  else if (chN (putAct sub) (readyP sub.1 sub.2.1 sub.2.2.1 sub.2.2.2 path).1 n.1 n.2.2.2).2 ≠ 0 then (zeroT, (chN (putAct sub) (readyP sub.1 sub.2.1 sub.2.2.1 sub.2.2.2 path).1 n.1 n.2.2.2).2)
  else if lookCode (lookL n.1 n.2.1 n.2.2.1 (chN (putAct sub) (readyP sub.1 sub.2.1 sub.2.2.1 sub.2.2.2 path).1 n.1 n.2.2.2).1) ≠ 0 then (zeroT, lookCode (lookL n.1 n.2.1 n.2.2.1 (chN (putAct sub) (readyP sub.1 sub.2.1 sub.2.2.1 sub.2.2.2 path).1 n.1 n.2.2.2).1))
  else ((n.1, n.2.1, n.2.2.1, (chN (putAct sub) (readyP sub.1 sub.2.1 sub.2.2.1 sub.2.2.2 path).1 n.1 n.2.2.2).1), 0)
theorem ready_zero {k : Int} {e : Bool} {t : ByteArray} {l : List Ent} {path : ByteArray} (h : (readyP k e t l path).2 = 0) : lookCode (lookL k e t l) = 0 ∧ (readyP k e t l path).1 = (splitP path).1 := by
  unfold readyP at h ⊢
  split at h
  · rename_i h2; exact absurd h h2
  · rename_i h2; rw [if_neg h2]; exact ⟨Decidable.of_not_not h2, rfl⟩
theorem goP_names : ∀ (l : List ByteArray) (names : List ByteArray) (frm : Nat), (∀ x, x ∈ names → nameE x = 0) → names.length ≤ 31 → (∀ x, x ∈ (goP l names frm).1 → nameE x = 0) ∧ (goP l names frm).1.length ≤ 31
  | [], names, frm, h, hl => ⟨h, hl⟩
  | x :: l, names, frm, h, hl => by
    unfold goP
    split
    · exact ⟨by simp, by simp⟩
    · split
      · exact ⟨by simp, by simp⟩
      · rename_i h1 h2
        refine goP_names l _ _ (fun y hy => ?_) (by rw [List.length_append, List.length_singleton]; omega)
        rcases List.mem_append.1 hy with hy | hy
        · exact h y hy
        · rw [List.mem_singleton] at hy; rw [hy]; exact Decidable.of_not_not h2
/-- The names of a path are names. -/
theorem split_names (path : ByteArray) : (∀ x, x ∈ (splitP path).1 → nameE x = 0) ∧ (splitP path).1.length ≤ 31 := by
  by_cases h : path.toList = []
  · unfold splitP; rw [if_pos h]; exact ⟨by simp, by simp⟩
  · rw [splitP_pieces path h]; exact goP_names _ [] 0 (by simp) (by simp)
theorem put_texts (sub : NodeT) (hs : Held sub.2.2.1 sub.2.2.2) : ∀ (ns : List ByteArray) (k : Int) (l : List Ent), (∀ x, x ∈ ns → nameE x = 0) → Texts l → Texts (chN (putAct sub) ns k l).1
  | [], k, l, _, h => h
  | s :: r, k, l, hn, h => by
    have hnil : Texts [] := .of (by simp)
    have hK : (putK sub s).f0.size ≤ 140737488351232 ∧ (putK sub s).f3.size ≤ 140737488351232 ∧ Texts (putK sub s).f4 := ⟨by have := nameE_size (hn s List.mem_cons_self); show s.size ≤ _; omega, hs.2, hs.1⟩
    unfold chN
    split
    · exact hnil
    · split
      · split
        · exact hnil
        · show Texts (putAct sub l (rk l s) (hasN l s) s).1
          unfold putAct
          refine .of (fun x hx => ?_)
          split at hx
          · rcases List.mem_or_eq_of_mem_set hx with hx | hx
            · exact h.mem hx
            · rw [hx]; exact hK
          · rcases List.mem_append.1 hx with hx | hx
            · exact h.mem (List.mem_of_mem_take hx)
            · rcases List.mem_cons.1 hx with rfl | hx
              · exact hK
              · exact h.mem (List.mem_of_mem_drop hx)
      · split
        · exact hnil
        · rename_i x hx
          split
          · exact hnil
          · have hxm : x ∈ l := by
              split at hx
              · exact List.mem_of_getElem? hx
              · cases hx
            refine .of (fun y hy => ?_)
            rcases List.mem_or_eq_of_mem_set hy with hy | hy
            · exact h.mem hy
            · rw [hy]
              exact ⟨(h.mem hxm).1, (h.mem hxm).2.1, put_texts sub hs r x.f1 x.f4 (fun z hz => hn z (List.mem_cons_of_mem _ hz)) (h.mem hxm).2.2⟩
set_option maxHeartbeats 4000000 in
set_option maxRecDepth 100000 in
theorem put_calls (n : NodeT) (path : ByteArray) (sub : NodeT) (A As : Option Addr) (c cs : Nat) (w : World) (hC : Kd.C kE w A n.2.2.2.length n.2.2.2) (hc : n.2.2.2.length ≤ c) (hh : Held n.2.2.1 n.2.2.2) (hf : Fit n.2.2.2) (hp : path.size ≤ 140737488351232)
    (hCs : Kd.C kE w As sub.2.2.2.length sub.2.2.2) (hcs : sub.2.2.2.length ≤ cs) (hhs : Held sub.2.2.1 sub.2.2.2) (hfs : Fit sub.2.2.2) :
    Calls Tryd.prog 20 #[.agg #[.int .i64 n.1, .bool n.2.1, .string n.2.2.1, .slice A n.2.2.2.length c], .string path, .agg #[.int .i64 sub.1, .bool sub.2.1, .string sub.2.2.1, .slice As sub.2.2.2.length cs]] w (TreePost w (putP n path sub)) := by
  obtain ⟨res, hres⟩ : ∃ res, res = putP n path sub := ⟨_, rfl⟩
  obtain ⟨k, e, t, l⟩ := n
  obtain ⟨sk, se, st, sl⟩ := sub
  simp only at *
  obtain ⟨rp, hrp⟩ : ∃ rp, rp = readyP sk se st sl path := ⟨_, rfl⟩
  obtain ⟨cn, hcn⟩ : ∃ cn, cn = lookCode (lookL k e t l) := ⟨_, rfl⟩
  obtain ⟨pn, hpn⟩ : ∃ pn, pn = lookPath (lookL k e t l) := ⟨_, rfl⟩
  obtain ⟨q, hq⟩ : ∃ q, q = chN (putAct (sk, se, st, sl)) rp.1 k l := ⟨_, rfl⟩
  obtain ⟨co, hco⟩ : ∃ co, co = lookCode (lookL k e t q.1) := ⟨_, rfl⟩
  obtain ⟨po, hpo⟩ : ∃ po, po = lookPath (lookL k e t q.1) := ⟨_, rfl⟩
  have HRES : Aside0 (res = if cn ≠ 0 then (zeroT, cn) else if rp.2 ≠ 0 then (zeroT, rp.2) else if rp.1 = [] then ((sk, se, st, sl), 0) else if q.2 ≠ 0 then (zeroT, q.2) else if co ≠ 0 then (zeroT, co) else ((k, e, t, q.1), 0)) := ⟨by rw [hres, hco, hq, hcn, hrp]; rfl⟩
  have HAR : Aside0 (cn = 0 → AllR l) := ⟨fun h => look_AllR (hcn ▸ h)⟩
  have HSZ : Aside0 (rp.2 = 0 → lookCode (lookL sk se st sl) = 0 ∧ rp.1 = (splitP path).1) := ⟨fun h => by rw [hrp] at h ⊢; exact ready_zero h⟩
  have HCN : Aside0 (∀ W, Below w.heap.size w W → Calls Tryd.prog 14 #[.agg #[.int .i64 k, .bool e, .string t, .slice A l.length c]] W fun e w' => e = .returned (.tuple #[.string pn, .int .i64 cn]) ∧ Below W.heap.size W w') := ⟨fun W hb => tree_Check.calls k e t A c l pn cn W (Kd.C_below hC hb) hc (by unfold tree_Check.f; rw [if_pos hh, hcn, hpn])⟩
  have HRD : Aside0 (∀ W, Below w.heap.size w W → Calls Tryd.prog 37 #[.agg #[.int .i64 sk, .bool se, .string st, .slice As sl.length cs], .string path] W fun o w' => ∃ v, o = .returned (.tuple #[v, .int .i64 rp.2]) ∧ Kd.R Kd.string 9 w' W.heap.size (fun _ => True) v rp.1 ∧ Below W.heap.size W w') := ⟨fun W hb => by rw [hrp]; exact ready_calls sk se st sl path As cs W (Kd.C_below hCs hb) hcs hhs hp⟩
  have HCP : Aside0 (∀ W, Below w.heap.size w W → Calls Tryd.prog 24 #[.agg #[.int .i64 k, .bool e, .string t, .slice A l.length c]] W fun o w' => ∃ v, o = .returned (.agg #[.int .i64 k, .bool e, .string t, v]) ∧ Own w' W.heap.size (fun k => W.heap.size ≤ k) v l ∧ Below W.heap.size W w') := ⟨fun W hb => copyO_calls l hf k e t A c W (Kd.C_below hC hb) hc⟩
  have HCS : Aside0 (∀ W, Below w.heap.size w W → Calls Tryd.prog 24 #[.agg #[.int .i64 sk, .bool se, .string st, .slice As sl.length cs]] W fun o w' => ∃ v, o = .returned (.agg #[.int .i64 sk, .bool se, .string st, v]) ∧ Own w' W.heap.size (fun k => W.heap.size ≤ k) v sl ∧ Below W.heap.size W w') := ⟨fun W hb => copyO_calls sl hfs sk se st As cs W (Kd.C_below hCs hb) hcs⟩
  have HSUB := Aside0.mk (And.intro hCs (And.intro hcs (And.intro hhs hfs)))
  have HTX : Aside0 (rp.2 = 0 → Held t q.1) := ⟨fun h => ⟨by
    have h2 := put_texts (sk, se, st, sl) hhs rp.1 k l (fun x hx => (split_names path).1 x (by rw [← (HSZ.out h).2]; exact hx)) hh.1
    rw [← hq] at h2; exact h2, hh.2⟩⟩
  have HCO : Aside0 (∀ W A2 c2, Held t q.1 → Kd.C kE W A2 q.1.length q.1 → q.1.length ≤ c2 → Calls Tryd.prog 14 #[.agg #[.int .i64 k, .bool e, .string t, .slice A2 q.1.length c2]] W fun e w' => e = .returned (.tuple #[.string po, .int .i64 co]) ∧ Below W.heap.size W w') := ⟨fun W A2 c2 hh2 hC2 hc2 => tree_Check.calls k e t A2 c2 q.1 po co W hC2 hc2 (by unfold tree_Check.f; rw [if_pos hh2, hco, hpo])⟩
  have HCK : Aside0 (∀ W A2 c2, lookCode (lookL sk se st sl) = 0 → Kd.C kE W A2 sl.length sl → sl.length ≤ c2 → Calls Tryd.prog 14 #[.agg #[.int .i64 sk, .bool se, .string st, .slice A2 sl.length c2]] W fun e w' => e = .returned (.tuple #[.string (lookPath (lookL sk se st sl)), .int .i64 0]) ∧ Below W.heap.size W w') := ⟨fun W A2 c2 h0 hC2 hc2 => tree_Check.calls sk se st A2 c2 sl _ 0 W hC2 hc2 (by unfold tree_Check.f; rw [if_pos hhs, h0])⟩
  have HQ := Aside0.mk hq
  rw [← hres]
  clear hC hc hh hf hp hCs hcs hhs hfs hres hrp hcn hpn hq hco hpo
  have HFIN : Aside0 (∀ (W : World) (b2 : Nat), Below w.heap.size w W → Blk W b2 32 [.int .i64 0, .bool false, .string ⟨#[]⟩, .slice none 0 0] → w.heap.size ≤ b2 → Below w.heap.size w ((((W.setCell ⟨b2, 0, none⟩ (.int .i64 0)).setCell ⟨b2, 1, none⟩ (.bool false)).setCell ⟨b2, 2, none⟩ (.string ⟨#[]⟩)).setCell ⟨b2, 3, none⟩ (.slice none 0 0)) ∧ Blk ((((W.setCell ⟨b2, 0, none⟩ (.int .i64 0)).setCell ⟨b2, 1, none⟩ (.bool false)).setCell ⟨b2, 2, none⟩ (.string ⟨#[]⟩)).setCell ⟨b2, 3, none⟩ (.slice none 0 0)) b2 32 [.int .i64 0, .bool false, .string ⟨#[]⟩, .slice none 0 0]) := ⟨fun W b2 hb hB hb2 => ⟨below_put4 hb hb2, put4_blk hB⟩⟩
  go_enter Tryd.func20, Tryd.ntmps20
  go_wp2_with fail
  obtain ⟨W1, hW1⟩ : ∃ W1, W1 = ((w.alloc (.cells #[.int .i64 k, .bool e, .string t, .slice A l.length c] 32)).alloc (.cells #[.int .i64 sk, .bool se, .string st, .slice As sl.length cs] 32)).alloc (.cells #[.int .i64 0, .bool false, .string ⟨#[]⟩, .slice none 0 0] 32) := ⟨_, rfl⟩
  rw [← hW1]
  obtain ⟨b0, hb0⟩ : ∃ b, b = w.heap.size := ⟨_, rfl⟩
  obtain ⟨b1, hb1⟩ : ∃ b, b = w.heap.size + 1 := ⟨_, rfl⟩
  obtain ⟨b2, hb2⟩ : ∃ b, b = w.heap.size + 1 + 1 := ⟨_, rfl⟩
  rw [← hb2, ← hb1, ← hb0]
  have B0 : Aside0 (Blk W1 b0 32 [.int .i64 k, .bool e, .string t, .slice A l.length c]) := ⟨by rw [hW1, hb0]; exact ((Blk.new w _ [.int .i64 k, .bool e, .string t, .slice A l.length c]).alloc _).alloc _⟩
  have B1 : Aside0 (Blk W1 b1 32 [.int .i64 sk, .bool se, .string st, .slice As sl.length cs]) := ⟨by rw [hW1, hb1]; exact (Blk.new' _ _ [.int .i64 sk, .bool se, .string st, .slice As sl.length cs] (by simp)).alloc _⟩
  have B2 : Aside0 (Blk W1 b2 32 [.int .i64 0, .bool false, .string ⟨#[]⟩, .slice none 0 0]) := ⟨by rw [hW1]; exact Blk.new' _ _ [.int .i64 0, .bool false, .string ⟨#[]⟩, .slice none 0 0] (by rw [hb2]; simp)⟩
  have HB : Aside0 (Below w.heap.size w W1) := ⟨by rw [hW1]; exact below_alloc (below_alloc (below_alloc (Below.refl _ _) _) _) _⟩
  have HZ : Aside0 (w.heap.size ≤ b0 ∧ w.heap.size ≤ b1 ∧ w.heap.size ≤ b2 ∧ b0 ≠ b2 ∧ b1 ≠ b2) := ⟨by omega⟩
  clear hW1 hb0 hb1 hb2
  have HFIN2 : Aside0 (∀ (W : World), Below w.heap.size w W → Blk W b2 32 [.int .i64 0, .bool false, .string ⟨#[]⟩, .slice none 0 0] → Below w.heap.size w ((((W.setCell ⟨b2, 0, none⟩ (.int .i64 0)).setCell ⟨b2, 1, none⟩ (.bool false)).setCell ⟨b2, 2, none⟩ (.string ⟨#[]⟩)).setCell ⟨b2, 3, none⟩ (.slice none 0 0)) ∧ Blk ((((W.setCell ⟨b2, 0, none⟩ (.int .i64 0)).setCell ⟨b2, 1, none⟩ (.bool false)).setCell ⟨b2, 2, none⟩ (.string ⟨#[]⟩)).setCell ⟨b2, 3, none⟩ (.slice none 0 0)) b2 32 [.int .i64 0, .bool false, .string ⟨#[]⟩, .slice none 0 0]) := ⟨fun W hb hB => HFIN.out W b2 hb hB HZ.out.2.2.1⟩
  clear HFIN
  have HFIN := HFIN2
  clear HFIN2
  (with_reducible refine (HCN.out W1 HB.out).mono ?_)
  rintro o W2 ⟨rfl, hb⟩
  have HB2 := Aside0.mk (below_step HB.out hb)
  have B02 := Aside0.mk (B0.out.below hb)
  have B12 := Aside0.mk (B1.out.below hb)
  have B22 := Aside0.mk (B2.out.below hb)
  clear hb HB B0 B1 B2 HCN
  have x0 := B22.out.frozen 0
  have x1 := B22.out.frozen 1
  have x2 := B22.out.frozen 2
  have x3 := B22.out.frozen 3
  obtain ⟨y0, y1, y2, y3⟩ := cells4 B22.out
  by_cases hz : cn = 0
  · subst hz
    have HARL := Aside0.mk (HAR.out rfl)
    obtain ⟨u0, u1, u2, u3⟩ := cells4 B12.out
    clear HAR
    go_wp2_with fail
    (with_reducible refine (HRD.out W2 HB2.out).mono ?_)
    rintro o W3 ⟨v, rfl, hR, hb⟩
    obtain ⟨A2, c2, hv⟩ := Kd.R_slice hR
    subst hv
    have HR := Aside0.mk hR
    have HB3 := Aside0.mk (below_step HB2.out hb)
    have B03 := Aside0.mk (B02.out.below hb)
    have B13 := Aside0.mk (B12.out.below hb)
    have B23 := Aside0.mk (B22.out.below hb)
    clear hR hb HB2 B02 B12 B22 HRD x0 x1 x2 x3 y0 y1 y2 y3 u0 u1 u2 u3
    have x0 := B23.out.frozen 0
    have x1 := B23.out.frozen 1
    have x2 := B23.out.frozen 2
    have x3 := B23.out.frozen 3
    obtain ⟨y0, y1, y2, y3⟩ := cells4 B23.out
    obtain ⟨cd, hcd⟩ : ∃ cd, cd = rp.2 := ⟨_, rfl⟩
    rw [← hcd] at HSZ HTX HRES ⊢
    clear hcd
    by_cases hz : cd = 0
    · subst hz
      have HSZ0 := Aside0.mk (HSZ.out rfl)
      have HTX0 := Aside0.mk (HTX.out rfl)
      obtain ⟨u0, u1, u2, u3⟩ := cells4 B03.out
      clear HSZ HTX
      go_wp2_with fail
      (with_reducible refine (HCP.out W3 HB3.out).mono ?_)
      rintro o W4 ⟨v, rfl, hO, hb⟩
      obtain ⟨A4, c4, hv, _⟩ := hO.slice
      subst hv
      have HO := Aside0.mk hO
      have HB34 := Aside0.mk hb
      have B14 := Aside0.mk (B13.out.below hb)
      have B24 := Aside0.mk (B23.out.below hb)
      have HB13 := Aside0.mk B13.out.lt
      have HB23 := Aside0.mk B23.out.lt
      clear hO hb B03 B13 B23 x0 x1 x2 x3 y0 y1 y2 y3 u0 u1 u2 u3
      have hmf : ∀ (fn : Fn) (first cap : Array Value) (w : World), (Instr.makeFunc fn first cap).run Tryd.prog w = .ok (.func fn first cap) w := fun _ _ _ _ => rfl
      go_wp2_with fail
      clear hmf
      have hrr := Kd.R_reads' HR.out
      have hNF : NamesF W4 (fun j => W3.heap.size ≤ j) A2 rp.1 := by
        have h1 := Kd.F_old (Kd.R_F HR.out) HB34.out
        rw [hrr.1] at h1
        exact Kd.F_mono h1 (fun j hj => ⟨fun h => by have := hj.2; omega, Nat.lt_of_lt_of_le hj.2 HB34.out.size⟩)
      have hch := change_calls 48 Tryd.f48 Tryd.func48 (by kernel_rfl) rfl #[.pointer (some ⟨b1, 0, none⟩)] (putAct (sk, se, st, sl)) W3.heap.size (fun X => Below W3.heap.size W4 X) (fun _ _ h k => h.trans k)
        (fun l s v X ok h hl hbs hX hok => put1_any (sk, se, st, sl) b1 cs As HSUB.out.2.2.2 HSUB.out.2.1 l s v X W3.heap.size ok h hl hbs hok ((hX.block b1 HB13.out).trans B14.out) HB13.out (fun W hW => Kd.C_below HSUB.out.1 (((below_step HB3.out HB34.out).trans (hX.mono HB3.out.size)).trans (hW.mono HB3.out.size)))) rp.1 k e t (.slice A4 l.length c4) l A2 c2 W4 (fun j => W3.heap.size ≤ j) HO.out HARL.out HB34.out.size (Below.refl _ _) hNF (by rw [← hrr.1]; exact hrr.2.1)
      rw [← HQ.out, ← hrr.1] at hch
      clear hrr hNF
      (with_reducible refine hch.mono ?_)
      clear hch
      rintro o W5 hpost
      have HB5 : Aside0 (Below w.heap.size w W5) := ⟨(below_step HB3.out HB34.out).trans (hpost.upd.toBelow (fun j hj => Nat.le_trans HB3.out.size hj) (Nat.le_trans HB3.out.size HB34.out.size))⟩
      have B15 := Aside0.mk (B14.out.upd hpost.upd (fun h => by have := HB13.out; omega))
      have B25 := Aside0.mk (B24.out.upd hpost.upd (fun h => by have := HB23.out; omega))
      obtain ⟨bo, hbo⟩ : ∃ b, b = W5.heap.size := ⟨_, rfl⟩
      have HBO : Aside0 (w.heap.size ≤ bo ∧ b1 ≠ bo ∧ b2 ≠ bo) := ⟨by have := HB5.out.size; have := B15.out.lt; have := B25.out.lt; omega⟩
      by_cases hn : rp.1 = []
      · have HRT : Aside0 (res = ((sk, se, st, sl), 0)) := ⟨by have := HRES.out; rw [if_neg (fun h => h rfl), if_neg (fun h => h rfl), if_pos hn] at this; exact this⟩
        have hq0 : q.2 = 0 := by rw [HQ.out, hn]; rfl
        obtain ⟨v8, ho8, hO8⟩ := hpost.yes hq0
        subst ho8
        obtain ⟨A8, c8, hv8, _⟩ := hO8.slice
        subst hv8
        have hl0 : rp.1.length = 0 := by rw [hn]; rfl
        rw [hl0]
        clear hpost hq0 hO8 hn hl0
        go_wp2_with ((with_reducible refine gate_dst (N := 43) rfl ?_); refine Stand.go ?_)
        obtain ⟨W6, hW6⟩ : ∃ W6, W6 = W5.alloc (.cells #[.int .i64 k, .bool e, .string t, .slice A8 q.1.length c8] 32) := ⟨_, rfl⟩
        rw [← hbo, ← hW6]
        have HB6 : Aside0 (Below w.heap.size w W6) := ⟨by rw [hW6]; exact below_step HB5.out (below_alloc (Below.refl _ _) _)⟩
        have B16 : Aside0 (Blk W6 b1 32 [.int .i64 sk, .bool se, .string st, .slice As sl.length cs]) := ⟨by rw [hW6]; exact B15.out.alloc _⟩
        have B26 : Aside0 (Blk W6 b2 32 [.int .i64 0, .bool false, .string ⟨#[]⟩, .slice none 0 0]) := ⟨by rw [hW6]; exact B25.out.alloc _⟩
        have BO6 : Aside0 (Blk W6 bo 32 [.int .i64 k, .bool e, .string t, .slice A8 q.1.length c8]) := ⟨by rw [hW6]; exact Blk.new' _ _ [.int .i64 k, .bool e, .string t, .slice A8 q.1.length c8] hbo⟩
        unfold Stand
        clear hW6 hbo
        obtain ⟨u0, u1, u2, u3⟩ := cells4 B16.out
        go_wp2_with fail
        (with_reducible refine (HCS.out W6 HB6.out).mono ?_)
        rintro o W7 ⟨v9, rfl, hO9, hb⟩
        obtain ⟨A9, c9, hv9, _⟩ := hO9.slice
        subst hv9
        have BO7 := Aside0.mk (BO6.out.below hb)
        have B27 := Aside0.mk (B26.out.below hb)
        have HB7 := Aside0.mk (below_step HB6.out hb)
        have HO9 := Aside0.mk hO9
        have HS6 := Aside0.mk HB6.out.size
        clear hb hO9 HB6 B16 B26 BO6 u0 u1 u2 u3 B15 B25 HB5
        have x0 := BO7.out.frozen 0
        have x1 := BO7.out.frozen 1
        have x2 := BO7.out.frozen 2
        have x3 := BO7.out.frozen 3
        obtain ⟨y0, y1, y2, y3⟩ := cells4 BO7.out
        go_wp2_with ((with_reducible refine gate_dst (N := 48) rfl ?_); refine Stand.go ?_)
        obtain ⟨W8, hW8⟩ : ∃ W8, W8 = ((((W7.setCell ⟨bo, 0, none⟩ (.int .i64 sk)).setCell ⟨bo, 1, none⟩ (.bool se)).setCell ⟨bo, 2, none⟩ (.string st)).setCell ⟨bo, 3, none⟩ (.slice A9 sl.length c9)) := ⟨_, rfl⟩
        rw [← hW8]
        have BO8 : Aside0 (Blk W8 bo 32 [.int .i64 sk, .bool se, .string st, .slice A9 sl.length c9]) := ⟨by rw [hW8]; exact put4_blk BO7.out⟩
        have HB8 : Aside0 (Below w.heap.size w W8) := ⟨by rw [hW8]; exact below_put4 HB7.out HBO.out.1⟩
        have HO8 : Aside0 (Own W8 W6.heap.size (fun k => W6.heap.size ≤ k) (.slice A9 sl.length c9) sl) := ⟨by rw [hW8]; exact put4_own HO9.out BO7.out⟩
        have B28 : Aside0 (Blk W8 b2 32 [.int .i64 0, .bool false, .string ⟨#[]⟩, .slice none 0 0]) := ⟨by
          rw [hW8]
          have hne : b2 ≠ bo := HBO.out.2.2
          exact (Below.heap_setCell _ _ _ _ hne).trans ((Below.heap_setCell _ _ _ _ hne).trans ((Below.heap_setCell _ _ _ _ hne).trans ((Below.heap_setCell _ _ _ _ hne).trans B27.out)))⟩
        unfold Stand
        clear hW8 x0 x1 x2 x3 y0 y1 y2 y3 BO7 B27 HB7 HO9
        obtain ⟨u0, u1, u2, u3⟩ := cells4 BO8.out
        go_wp2_with fail
        (with_reducible refine (HCK.out W8 A9 c9 HSZ0.out.1 HO8.out.toC.2.2 HO8.out.toC.2.1).mono ?_)
        rintro o W9 ⟨rfl, hb⟩
        have BO9 := Aside0.mk (BO8.out.below hb)
        have B29 := Aside0.mk (B28.out.below hb)
        have HB9 := Aside0.mk (below_step HB8.out hb)
        have HO9 := Aside0.mk (HO8.out.newer hb)
        clear hb BO8 B28 HB8 HO8 u0 u1 u2 u3
        obtain ⟨u0, u1, u2, u3⟩ := cells4 BO9.out
        have x0 := B29.out.frozen 0
        have x1 := B29.out.frozen 1
        have x2 := B29.out.frozen 2
        have x3 := B29.out.frozen 3
        obtain ⟨y0, y1, y2, y3⟩ := cells4 B29.out
        go_wp2_with fail
        have hF : Below w.heap.size w ((((W9.setCell ⟨b2, 0, none⟩ (.int .i64 sk)).setCell ⟨b2, 1, none⟩ (.bool se)).setCell ⟨b2, 2, none⟩ (.string st)).setCell ⟨b2, 3, none⟩ (.slice A9 sl.length c9)) := below_put4 HB9.out HZ.out.2.2.1
        have hG := put4_blk (c0 := .int .i64 sk) (c1 := .bool se) (c2 := .string st) (c3 := .slice A9 sl.length c9) B29.out
        have hH := put4_own (c0 := .int .i64 sk) (c1 := .bool se) (c2 := .string st) (c3 := .slice A9 sl.length c9) HO9.out B29.out
        obtain ⟨z0, z1, z2, z3⟩ := cells4 hG
        rw [HRT.out]
        exact bodyPost_ret (v := .tuple #[.agg #[.int .i64 sk, .bool se, .string st, .slice A9 sl.length c9], .int .i64 0]) (by simp [results, Tryd.results20, go_sem, z0, z1, z2, z3]) rfl ⟨⟨_, rfl, hH.above HS6.out⟩, hF⟩
      · have HRT : Aside0 (res = if q.2 ≠ 0 then (zeroT, q.2) else if co ≠ 0 then (zeroT, co) else ((k, e, t, q.1), 0)) := ⟨by have := HRES.out; rw [if_neg (fun h => h rfl), if_neg (fun h => h rfl), if_neg hn] at this; exact this⟩
        obtain ⟨m, hm⟩ : ∃ m, m = rp.1.length := ⟨_, rfl⟩
        have hm0 : ¬ m = 0 := by rw [hm]; exact fun h => hn (List.length_eq_zero_iff.1 h)
        have hm1 : ((m : Int) == 0) = false := beq_eq_false_iff_ne.mpr (by omega)
        rw [← hm]
        clear hn hm
        by_cases hq0 : q.2 = 0
        · have HRU : Aside0 (res = if co ≠ 0 then (zeroT, co) else ((k, e, t, q.1), 0)) := ⟨by have := HRT.out; rw [if_neg (fun h => h hq0)] at this; exact this⟩
          obtain ⟨v8, ho8, hO8⟩ := hpost.yes hq0
          subst ho8
          have HO8 := Aside0.mk hO8
          obtain ⟨A8, c8, hv8, _⟩ := hO8.slice
          subst hv8
          clear hpost hq0 hO8
          go_wp2_with ((with_reducible refine gate_dst (N := 48) rfl ?_); refine Stand.go ?_)
          obtain ⟨W6, hW6⟩ : ∃ W6, W6 = W5.alloc (.cells #[.int .i64 k, .bool e, .string t, .slice A8 q.1.length c8] 32) := ⟨_, rfl⟩
          rw [← hbo, ← hW6]
          have HB6 : Aside0 (Below w.heap.size w W6) := ⟨by rw [hW6]; exact below_step HB5.out (below_alloc (Below.refl _ _) _)⟩
          have B16 : Aside0 (Blk W6 b1 32 [.int .i64 sk, .bool se, .string st, .slice As sl.length cs]) := ⟨by rw [hW6]; exact B15.out.alloc _⟩
          have B26 : Aside0 (Blk W6 b2 32 [.int .i64 0, .bool false, .string ⟨#[]⟩, .slice none 0 0]) := ⟨by rw [hW6]; exact B25.out.alloc _⟩
          have BO6 : Aside0 (Blk W6 bo 32 [.int .i64 k, .bool e, .string t, .slice A8 q.1.length c8]) := ⟨by rw [hW6]; exact Blk.new' _ _ [.int .i64 k, .bool e, .string t, .slice A8 q.1.length c8] hbo⟩
          have HO6 : Aside0 (Own W6 W3.heap.size (fun j => W3.heap.size ≤ j ∨ W4.heap.size ≤ j) (.slice A8 q.1.length c8) q.1) := ⟨by rw [hW6]; exact HO8.out.newer (below_alloc (Below.refl _ _) _)⟩
          unfold Stand
          clear hW6 hbo
          obtain ⟨u0, u1, u2, u3⟩ := cells4 BO6.out
          go_wp2_with fail
          (with_reducible refine (HCO.out W6 A8 c8 HTX0.out HO6.out.toC.2.2 HO6.out.toC.2.1).mono ?_)
          rintro o W9 ⟨rfl, hb⟩
          have BO9 := Aside0.mk (BO6.out.below hb)
          have B29 := Aside0.mk (B26.out.below hb)
          have HB9 := Aside0.mk (below_step HB6.out hb)
          have HO9 := Aside0.mk (HO6.out.newer hb)
          clear hb BO6 B26 HB6 HO6 u0 u1 u2 u3
          obtain ⟨u0, u1, u2, u3⟩ := cells4 BO9.out
          have x0 := B29.out.frozen 0
          have x1 := B29.out.frozen 1
          have x2 := B29.out.frozen 2
          have x3 := B29.out.frozen 3
          obtain ⟨y0, y1, y2, y3⟩ := cells4 B29.out
          by_cases hc0 : co = 0
          · have HRV : Aside0 (res = ((k, e, t, q.1), 0)) := ⟨by have := HRU.out; rw [if_neg (fun h => h hc0)] at this; exact this⟩
            subst hc0
            go_wp2_with fail
            have hF : Below w.heap.size w ((((W9.setCell ⟨b2, 0, none⟩ (.int .i64 k)).setCell ⟨b2, 1, none⟩ (.bool e)).setCell ⟨b2, 2, none⟩ (.string t)).setCell ⟨b2, 3, none⟩ (.slice A8 q.1.length c8)) := below_put4 HB9.out HZ.out.2.2.1
            have hG := put4_blk (c0 := .int .i64 k) (c1 := .bool e) (c2 := .string t) (c3 := .slice A8 q.1.length c8) B29.out
            have hH := put4_own (c0 := .int .i64 k) (c1 := .bool e) (c2 := .string t) (c3 := .slice A8 q.1.length c8) HO9.out B29.out
            obtain ⟨z0, z1, z2, z3⟩ := cells4 hG
            rw [HRV.out]
            exact bodyPost_ret (v := .tuple #[.agg #[.int .i64 k, .bool e, .string t, .slice A8 q.1.length c8], .int .i64 0]) (by simp [results, Tryd.results20, go_sem, z0, z1, z2, z3]) rfl ⟨⟨_, rfl, hH.above HB3.out.size⟩, hF⟩
          · have HRV : Aside0 (res = (zeroT, co)) := ⟨by have := HRU.out; rw [if_pos hc0] at this; exact this⟩
            have hc1 : (co != 0) = true := bne_iff_ne.mpr hc0
            clear hc0
            go_wp2_with fail
            have hF := HFIN.out W9 HB9.out B29.out
            obtain ⟨z0, z1, z2, z3⟩ := cells4 hF.2
            rw [HRV.out]
            exact bodyPost_ret (v := .tuple #[.agg #[.int .i64 0, .bool false, .string ⟨#[]⟩, .slice none 0 0], .int .i64 co]) (by simp [results, Tryd.results20, go_sem, z0, z1, z2, z3]) rfl ⟨⟨_, rfl, Own.nil _ _ _⟩, hF.1⟩
        · have HRU : Aside0 (res = (zeroT, q.2)) := ⟨by have := HRT.out; rw [if_pos hq0] at this; exact this⟩
          have ho8 := hpost.no hq0
          subst ho8
          have hq1 : (q.2 != 0) = true := bne_iff_ne.mpr hq0
          have hq2 : (q.2 == 0) = false := beq_eq_false_iff_ne.mpr hq0
          clear hpost hq0
          have hlt2 : b2 < W5.heap.size := B25.out.lt
          have x0 := B25.out.frozen 0
          have x1 := B25.out.frozen 1
          have x2 := B25.out.frozen 2
          have x3 := B25.out.frozen 3
          obtain ⟨y0, y1, y2, y3⟩ := cells4 B25.out
          clear hbo
          go_wp2_with fail
          have hF := HFIN.out W5 HB5.out B25.out
          obtain ⟨z0, z1, z2, z3⟩ := cells4 (hF.2.alloc (.cells #[.int .i64 0, .bool false, .string ⟨#[]⟩, .slice none 0 0] 32))
          rw [HRU.out]
          exact bodyPost_ret (v := .tuple #[.agg #[.int .i64 0, .bool false, .string ⟨#[]⟩, .slice none 0 0], .int .i64 q.2]) (by simp [results, Tryd.results20, go_sem, z0, z1, z2, z3]) rfl ⟨⟨_, rfl, Own.nil _ _ _⟩, below_alloc hF.1 _⟩
    · have HRT : Aside0 (res = (zeroT, cd)) := ⟨by have := HRES.out; rw [if_neg (fun h => h rfl), if_pos hz] at this; exact this⟩
      have hz1 : (cd != 0) = true := bne_iff_ne.mpr hz
      clear hz
      go_wp2_with fail
      have hF := HFIN.out W3 HB3.out B23.out
      obtain ⟨z0, z1, z2, z3⟩ := cells4 hF.2
      rw [HRT.out]
      exact bodyPost_ret (v := .tuple #[.agg #[.int .i64 0, .bool false, .string ⟨#[]⟩, .slice none 0 0], .int .i64 cd]) (by simp [results, Tryd.results20, go_sem, z0, z1, z2, z3]) rfl ⟨⟨_, rfl, Own.nil _ _ _⟩, hF.1⟩
  · have HRT : Aside0 (res = (zeroT, cn)) := ⟨by have := HRES.out; rw [if_pos hz] at this; exact this⟩
    have hz1 : (cn != 0) = true := bne_iff_ne.mpr hz
    clear hz
    go_wp2_with fail
    have hF := HFIN.out W2 HB2.out B22.out
    obtain ⟨z0, z1, z2, z3⟩ := cells4 hF.2
    rw [HRT.out]
    exact bodyPost_ret (v := .tuple #[.agg #[.int .i64 0, .bool false, .string ⟨#[]⟩, .slice none 0 0], .int .i64 cn]) (by simp [results, Tryd.results20, go_sem, z0, z1, z2, z3]) rfl ⟨⟨_, rfl, Own.nil _ _ _⟩, hF.1⟩
end Go.Proofs.YtnemeeidomceiaaDoor
end
section
namespace Go.Proofs.YtnemeeidomceiaaDoor
open Go.RowKit Go.Proofs.YtnemeeidomceiaaDoorW.PrintWords Go.Proofs.YtnemeeidomceiaaDoorW.PrintLast Go.Proofs.YtnemeeidomceiaaDoorW.PrintMore
set_option linter.unusedVariables false
def flatT (r : NodeT × Int) : Int × Bool × ByteArray × List Ent × Int := (r.1.1, r.1.2.1, r.1.2.2.1, r.1.2.2.2, r.2)
open Classical in
noncomputable def tree_Cut.f (k : Int) (e : Bool) (t : ByteArray) (l : List Ent) (path : ByteArray) : Option (Int × Bool × ByteArray × List Ent × Int) := if Held t l ∧ Fit l ∧ path.size ≤ 140737488351232 then some (flatT (cutP k e t l path)) else none
open Classical in
noncomputable def tree_Put.f (k : Int) (e : Bool) (t : ByteArray) (l : List Ent) (path : ByteArray) (sk : Int) (se : Bool) (st : ByteArray) (sl : List Ent) : Option (Int × Bool × ByteArray × List Ent × Int) :=
  if (Held t l ∧ Fit l) ∧ path.size ≤ 140737488351232 ∧ Held st sl ∧ Fit sl then some (flatT (putP (k, e, t, l) path (sk, se, st, sl))) else none
end Go.Proofs.YtnemeeidomceiaaDoor
end
