import Derived.Test.YtnemeeidomceiaaDoorMk8
import Derived.Deep.QuietTactic
set_option linter.unusedSimpArgs false
set_option linter.unusedVariables false
section
namespace Go.Proofs.YtnemeeidomceiaaDoor
open Go.RowKit Go.Proofs.YtnemeeidomceiaaDoorW.PrintWords
set_option linter.unusedVariables false
/-- The kid of a name. -/
def look (l : List Ent) (s : ByteArray) : Option Ent := if hasN l s = true then l[rk l s]? else none
theorem rk_spec : ∀ {l : List Ent} (s : ByteArray), Rising l → (∀ x, x ∈ l.take (rk l s) → cmpB x.f0 s < 0) ∧ (∀ x, x ∈ l.drop (rk l s) → ¬ cmpB x.f0 s < 0)
  | [], s, _ => ⟨by simp [rk], by simp [rk]⟩
  | y :: l, s, h => by
    have hp := List.pairwise_cons.1 h
    have ih := rk_spec s hp.2
    by_cases hy : cmpB y.f0 s < 0
    · have e : rk (y :: l) s = rk l s + 1 := by unfold rk; rw [List.filter_cons_of_pos (by simpa using hy), List.length_cons]
      rw [e, List.take_succ_cons, List.drop_succ_cons]
      refine ⟨fun x hx => ?_, ih.2⟩
      rcases List.mem_cons.1 hx with rfl | hx
      · exact hy
      · exact ih.1 x hx
    · have h0 : ∀ x, x ∈ l → ¬ cmpB x.f0 s < 0 := fun x hx hlt => hy (cmpB_trans (hp.1 x hx) hlt)
      have e : rk (y :: l) s = 0 := by
        unfold rk
        rw [List.filter_cons_of_neg (by simpa using hy), List.filter_eq_nil_iff.2 (fun x hx => by simpa using h0 x hx)]; rfl
      rw [e]
      refine ⟨by simp, fun x hx => ?_⟩
      rcases List.mem_cons.1 hx with rfl | hx
      · exact hy
      · exact h0 x hx
theorem look_iff' {l : List Ent} {s : ByteArray} {x : Ent} (h : Rising l) : look l s = some x ↔ x ∈ l ∧ x.f0 = s := by
  constructor
  · intro hl
    unfold look at hl
    split at hl
    · rename_i hh
      obtain ⟨y, hy, hs⟩ := hasN_at hh
      rw [hy] at hl
      injection hl with hl
      subst hl
      exact ⟨List.mem_of_getElem? hy, hs⟩
    · cases hl
  · rintro ⟨hm, hs⟩
    obtain ⟨i, hi⟩ := List.mem_iff_getElem?.1 hm
    have hil := (List.getElem?_eq_some_iff.1 hi).1
    have hr : rk l s = i := rk_of i (Nat.le_of_lt hil) (fun j y hj hy => by rw [← hs]; exact h.at hj hy hi) (fun j y hj hy hlt => by
      by_cases e : j = i
      · subst e; rw [hi] at hy; injection hy with hy; rw [← hy, hs, cmpB_self] at hlt; omega
      · have := h.at (show i < j by omega) hi hy
        rw [hs, cmpB_neg] at this
        omega)
    have hh : hasN l s = true := by unfold hasN; rw [hr, hi]; exact decide_eq_true ((cmpB_zero _ _).2 hs)
    unfold look
    rw [if_pos hh, hr, hi]
theorem look_none {l : List Ent} {s : ByteArray} (h : Rising l) : look l s = none ↔ ∀ x, x ∈ l → x.f0 ≠ s := by
  constructor
  · intro hl x hx hs
    rw [(look_iff' h).2 ⟨hx, hs⟩] at hl; cases hl
  · intro hn
    cases hl : look l s with
    | none => rfl
    | some x => exact absurd ((look_iff' h).1 hl).2 (hn x ((look_iff' h).1 hl).1)
theorem has_look {l : List Ent} {s : ByteArray} : hasN l s = true ↔ ∃ x, look l s = some x := by
  constructor
  · intro h
    obtain ⟨x, hx, _⟩ := hasN_at h
    exact ⟨x, by unfold look; rw [if_pos h, hx]⟩
  · rintro ⟨x, hx⟩
    unfold look at hx
    split at hx
    · assumption
    · cases hx
/-- The kids with one more, or with one in another's place. -/
def put1 (l : List Ent) (z : Ent) : List Ent := if hasN l z.f0 = true then l.set (rk l z.f0) z else l.take (rk l z.f0) ++ z :: l.drop (rk l z.f0)
theorem put1_mem {l : List Ent} {z : Ent} (h : Rising l) (x : Ent) : x ∈ put1 l z ↔ x = z ∨ (x ∈ l ∧ x.f0 ≠ z.f0) := by
  unfold put1
  split
  · rename_i hh
    obtain ⟨y, hy, hs⟩ := hasN_at hh
    have hil := (List.getElem?_eq_some_iff.1 hy).1
    constructor
    · intro hx
      obtain ⟨j, hj⟩ := List.mem_iff_getElem?.1 hx
      rw [List.getElem?_set] at hj
      by_cases e : rk l z.f0 = j
      · rw [if_pos e, if_pos (by omega)] at hj
        injection hj with hj
        exact .inl hj.symm
      · rw [if_neg e] at hj
        refine .inr ⟨List.mem_of_getElem? hj, fun e2 => ?_⟩
        rcases Nat.lt_or_gt_of_ne e with hlt | hgt
        · have := h.at hlt hy hj; rw [hs, e2, cmpB_self] at this; omega
        · have := h.at hgt hj hy; rw [hs, e2, cmpB_self] at this; omega
    · rintro (rfl | ⟨hx, hn⟩)
      · exact List.mem_iff_getElem?.2 ⟨rk l x.f0, by rw [List.getElem?_set_self hil]⟩
      · obtain ⟨j, hj⟩ := List.mem_iff_getElem?.1 hx
        refine List.mem_iff_getElem?.2 ⟨j, ?_⟩
        rw [List.getElem?_set_ne (fun e => ?_)]
        · exact hj
        · subst e
          rw [hy] at hj
          injection hj with hj
          subst hj
          exact hn hs
  · rename_i hh
    have hno : ∀ x, x ∈ l → x.f0 ≠ z.f0 := by
      refine (look_none h).1 ?_
      cases hl : look l z.f0 with
      | none => rfl
      | some y => exact absurd (has_look.2 ⟨y, hl⟩) hh
    rw [List.mem_append, List.mem_cons]
    constructor
    · rintro (hx | rfl | hx)
      · exact .inr ⟨List.mem_of_mem_take hx, hno x (List.mem_of_mem_take hx)⟩
      · exact .inl rfl
      · exact .inr ⟨List.mem_of_mem_drop hx, hno x (List.mem_of_mem_drop hx)⟩
    · rintro (rfl | ⟨hx, _⟩)
      · exact .inr (.inl rfl)
      · rw [← List.take_append_drop (rk l z.f0) l, List.mem_append] at hx
        rcases hx with hx | hx
        · exact .inl hx
        · exact .inr (.inr hx)
theorem put1_rising {l : List Ent} {z : Ent} (h : Rising l) : Rising (put1 l z) := by
  unfold put1
  split
  · rename_i hh
    obtain ⟨y, hy, hs⟩ := hasN_at hh
    have e : (l.set (rk l z.f0) z).map (·.f0) = l.map (·.f0) := by
      rw [List.map_set]
      apply List.ext_getElem?
      intro j
      rw [List.getElem?_set]
      split
      · rename_i e
        subst e
        split
        · rw [List.getElem?_map, hy]; exact congrArg some hs.symm
        · rename_i hn
          exact absurd (by rw [List.length_map]; exact (List.getElem?_eq_some_iff.1 hy).1) hn
      · rfl
    have h1 : (l.map (·.f0)).Pairwise (fun a b => cmpB a b < 0) := List.pairwise_map.2 (show l.Pairwise _ from h)
    rw [← e] at h1
    exact List.pairwise_map.1 h1
  · rename_i hh
    have hno : ∀ x, x ∈ l → x.f0 ≠ z.f0 := by
      refine (look_none h).1 ?_
      cases hl : look l z.f0 with
      | none => rfl
      | some y => exact absurd (has_look.2 ⟨y, hl⟩) hh
    have hsp := rk_spec z.f0 h
    have h0 := h
    unfold Rising at h0
    rw [← List.take_append_drop (rk l z.f0) l, List.pairwise_append] at h0
    refine List.pairwise_append.2 ⟨h0.1, List.pairwise_cons.2 ⟨fun x hx => ?_, h0.2.1⟩, fun x hx y hy => ?_⟩
    · have a := hsp.2 x hx
      have b := hno x (List.mem_of_mem_drop hx)
      rw [cmpB_neg]
      have : cmpB x.f0 z.f0 ≠ 0 := fun e => b ((cmpB_zero _ _).1 e)
      omega
    · rcases List.mem_cons.1 hy with rfl | hy
      · exact hsp.1 x hx
      · exact h0.2.2 x hx y hy
/-- The kids without one. -/
def cut1 (l : List Ent) (s : ByteArray) : List Ent := l.eraseIdx (rk l s)
theorem cut1_rising {l : List Ent} (s : ByteArray) (h : Rising l) : Rising (cut1 l s) := List.Pairwise.sublist (List.eraseIdx_sublist _ _) h
theorem cut1_mem {l : List Ent} {s : ByteArray} (h : Rising l) (hh : hasN l s = true) (x : Ent) : x ∈ cut1 l s ↔ x ∈ l ∧ x.f0 ≠ s := by
  obtain ⟨y, hy, hs⟩ := hasN_at hh
  unfold cut1
  rw [List.mem_eraseIdx_iff_getElem?]
  constructor
  · rintro ⟨j, hj, hx⟩
    refine ⟨List.mem_of_getElem? hx, fun e => ?_⟩
    rcases Nat.lt_or_gt_of_ne hj with hlt | hgt
    · have := h.at hlt hx hy; rw [hs, e, cmpB_self] at this; omega
    · have := h.at hgt hy hx; rw [hs, e, cmpB_self] at this; omega
  · rintro ⟨hx, hn⟩
    obtain ⟨j, hj⟩ := List.mem_iff_getElem?.1 hx
    exact ⟨j, fun e => by subst e; rw [hy] at hj; injection hj with hj; subst hj; exact hn hs, hj⟩
theorem cutAct_yes {l : List Ent} {s : ByteArray} (h : hasN l s = true) : cutAct l (rk l s) (hasN l s) s = (cut1 l s, 0) := by unfold cutAct; rw [if_pos h]; rfl
theorem cutAct_no {l : List Ent} {s : ByteArray} (h : ¬ hasN l s = true) : cutAct l (rk l s) (hasN l s) s = (l, 3) := by unfold cutAct; rw [if_neg h]
/-- One name deeper. -/
theorem chN_deep (act : List Ent → Nat → Bool → ByteArray → List Ent × Int) {s : ByteArray} {r : List ByteArray} (hr : r ≠ []) {l : List Ent} {x : Ent} (hx : look l s = some x) (hR : Rising l) : chN act (s :: r) 3 l = if (chN act r x.f1 x.f4).2 ≠ 0 then ([], (chN act r x.f1 x.f4).2) else (put1 l { x with f4 := (chN act r x.f1 x.f4).1 }, 0) := by
  have hh : hasN l s = true := has_look.2 ⟨x, hx⟩
  have hxs : x.f0 = s := ((look_iff' hR).1 hx).2
  rw [chN, if_neg (fun h => h rfl), if_neg hr]
  unfold look at hx
  rw [hx]
  show (if (chN act r x.f1 x.f4).2 ≠ 0 then ([], (chN act r x.f1 x.f4).2) else (l.set (rk l s) { x with f4 := (chN act r x.f1 x.f4).1 }, 0)) = _
  unfold put1
  rw [if_pos (show hasN l ({ x with f4 := (chN act r x.f1 x.f4).1 } : Ent).f0 = true by show hasN l x.f0 = true; rw [hxs]; exact hh)]
  rw [show rk l ({ x with f4 := (chN act r x.f1 x.f4).1 } : Ent).f0 = rk l s from by show rk l x.f0 = _; rw [hxs]]
theorem chN_lost (act : List Ent → Nat → Bool → ByteArray → List Ent × Int) {s : ByteArray} {r : List ByteArray} (hr : r ≠ []) {l : List Ent} (hx : look l s = none) : chN act (s :: r) 3 l = ([], 3) := by
  rw [chN, if_neg (fun h => h rfl), if_neg hr]
  unfold look at hx
  rw [hx]
theorem AllR.look {l : List Ent} (h : AllR l) {s : ByteArray} {x : Ent} (hx : look l s = some x) : AllR x.f4 := by
  obtain ⟨i, hi⟩ := List.mem_iff_getElem?.1 ((look_iff' h.rises.1).1 hx).1
  exact h.at hi
end Go.Proofs.YtnemeeidomceiaaDoor
end
section
namespace Go.Proofs.YtnemeeidomceiaaDoor
open Go.RowKit Go.Proofs.YtnemeeidomceiaaDoorW.PrintWords
set_option linter.unusedVariables false
theorem look_zero (k : Int) (e : Bool) (t : ByteArray) (l : List Ent) : lookCode (lookL k e t l) = 0 ↔ wf 32 ⟨⟨#[]⟩, k, e, t, l⟩ ∧ 24 + tsz 32 ⟨⟨#[]⟩, k, e, t, l⟩ ≤ 1048576 := by
  constructor
  · intro h
    have hfair := nodeL_fair 32 ⟨#[]⟩ ⟨⟨#[]⟩, k, e, t, l⟩ magS
    cases hs : lookL k e t l with
    | bad p c =>
      rw [hs] at h
      unfold lookL at hs
      rw [hs] at hfair
      exact absurd h hfair
    | ok b rows =>
      obtain ⟨h1, h2, h3, _⟩ := (look_iff k e t l b rows).1 hs
      exact ⟨h1, by omega⟩
  · rintro ⟨h1, h2⟩
    rw [(look_iff k e t l _ _).2 ⟨h1, rfl, h2, rfl⟩]; rfl
theorem ksz_erase (f : Nat) : ∀ (l : List Ent) (i : Nat), ksz f (l.eraseIdx i) ≤ ksz f l
  | [], _ => by simp
  | y :: l, 0 => by
    have h1 := entS_range y.f0
    have h2 := tsz_nonneg f y
    rw [ksz_cons, List.eraseIdx_cons_zero]; omega
  | y :: l, i + 1 => by
    rw [List.eraseIdx_cons_succ, ksz_cons, ksz_cons]
    have := ksz_erase f l i
    omega
theorem ksz_set (f : Nat) : ∀ (l : List Ent) (i : Nat) (x z : Ent), l[i]? = some x → z.f0 = x.f0 → tsz f z ≤ tsz f x → ksz f (l.set i z) ≤ ksz f l
  | [], _, _, _, h, _, _ => by simp at h
  | y :: l, 0, x, z, h, h0, ht => by
    simp at h
    subst h
    rw [List.set_cons_zero, ksz_cons, ksz_cons, h0]; omega
  | y :: l, i + 1, x, z, h, h0, ht => by
    rw [List.set_cons_succ, ksz_cons, ksz_cons]
    have := ksz_set f l i x z (by simpa using h) h0 ht
    omega
theorem look_at {l : List Ent} {s : ByteArray} {x : Ent} (h : look l s = some x) : hasN l s = true ∧ l[rk l s]? = some x := by
  have hh : hasN l s = true := has_look.2 ⟨x, h⟩
  refine ⟨hh, ?_⟩
  unfold look at h
  rw [if_pos hh] at h
  exact h
theorem put1_at {l : List Ent} {s : ByteArray} {x : Ent} (q : List Ent) (h : look l s = some x) (hR : Rising l) : put1 l { x with f4 := q } = l.set (rk l s) { x with f4 := q } := by
  have hxs : x.f0 = s := ((look_iff' hR).1 h).2
  unfold put1
  rw [if_pos (show hasN l ({ x with f4 := q } : Ent).f0 = true by show hasN l x.f0 = true; rw [hxs]; exact (look_at h).1)]
  rw [show rk l ({ x with f4 := q } : Ent).f0 = rk l s from by show rk l x.f0 = _; rw [hxs]]
/-- A tree with something cut out is as well as it was, and no longer. -/
theorem cut_wf : ∀ (ns : List ByteArray) (f : Nat) (nm : ByteArray) (k : Int) (e : Bool) (t : ByteArray) (l l3 : List Ent), wf f ⟨nm, k, e, t, l⟩ → chN cutAct ns k l = (l3, 0) → wf f ⟨nm, k, e, t, l3⟩ ∧ tsz f ⟨nm, k, e, t, l3⟩ ≤ tsz f ⟨nm, k, e, t, l⟩
  | [], f, nm, k, e, t, l, l3, hw, h => by
    rw [chN] at h
    injection h with h _
    subst h
    exact ⟨hw, Int.le_refl _⟩
  | s :: r, 0, nm, k, e, t, l, l3, hw, h => hw.elim
  | s :: r, f + 1, nm, k, e, t, l, l3, hw, h => by
    have hk : k = 3 := by
      refine Decidable.of_not_not (fun hk => ?_)
      rw [chN, if_pos hk] at h
      injection h with _ h
      exact absurd h (by decide)
    subst hk
    obtain ⟨w1, w2, w3, w4⟩ := hw
    simp only at w1 w2 w3 w4
    have hfe : ∀ m, fieldsE 3 e t m = 0 := fun m => by rw [← w1]; unfold fieldsE; rfl
    have key : ∀ m, (∀ y, y ∈ m → nameE y.f0 = 0) → Rising m → (∀ y, y ∈ m → wf f y) → ksz f m ≤ ksz f l → wf (f + 1) ⟨nm, 3, e, t, m⟩ ∧ tsz (f + 1) ⟨nm, 3, e, t, m⟩ ≤ tsz (f + 1) ⟨nm, 3, e, t, l⟩ := fun m h1 h2 h3 h4 => ⟨⟨hfe m, h1, h2, h3⟩, by
      show ownS 3 e t + ksz f m ≤ ownS 3 e t + ksz f l
      omega⟩
    by_cases hr : r = []
    · subst hr
      rw [chN, if_neg (fun h => h rfl), if_pos rfl] at h
      by_cases hh : hasN l s = true
      · rw [cutAct_yes hh, if_neg (fun h => h rfl)] at h
        injection h with h _
        subst h
        exact key _ (fun y hy => w2 y ((cut1_mem w3 hh y).1 hy).1) (cut1_rising s w3) (fun y hy => w4 y ((cut1_mem w3 hh y).1 hy).1) (ksz_erase f l _)
      · rw [cutAct_no hh, if_pos (fun h => absurd (show (3 : Int) = 0 from h) (by decide))] at h
        injection h with _ h
        exact absurd (show (3 : Int) = 0 from h) (by decide)
    · cases hx : look l s with
      | none =>
        rw [chN_lost _ hr hx] at h
        injection h with _ h
        exact absurd h (by decide)
      | some x =>
        rw [chN_deep _ hr hx w3] at h
        by_cases hq : (chN cutAct r x.f1 x.f4).2 = 0
        · rw [if_neg (fun e => e hq)] at h
          injection h with h _
          have hxm := ((look_iff' w3).1 hx).1
          have hxe : (⟨x.f0, x.f1, x.f2, x.f3, x.f4⟩ : Ent) = x := by cases x; rfl
          have ih := cut_wf r f x.f0 x.f1 x.f2 x.f3 x.f4 (chN cutAct r x.f1 x.f4).1 (by rw [hxe]; exact w4 x hxm) (Prod.ext rfl hq)
          rw [hxe] at ih
          generalize (chN cutAct r x.f1 x.f4).1 = q at h ih
          subst h
          have hm := put1_mem (z := { x with f4 := q }) w3
          refine key _ (fun y hy => ?_) (put1_rising w3) (fun y hy => ?_) ?_
          · rcases (hm y).1 hy with rfl | hy
            · exact w2 x hxm
            · exact w2 y hy.1
          · rcases (hm y).1 hy with rfl | hy
            · exact ih.1
            · exact w4 y hy.1
          · rw [put1_at q hx w3]
            exact ksz_set f l _ x _ (look_at hx).2 rfl ih.2
        · rw [if_pos hq] at h
          injection h with _ h
          exact absurd h hq
theorem AllR.fit : ∀ {l : List Ent}, AllR l → Fit l := by
  intro l h
  induction h with
  | mk h n k ih => exact .mk (by omega) ih
def codeN (n : NodeT) : Int := lookCode (lookL n.1 n.2.1 n.2.2.1 n.2.2.2)
def Good (n : NodeT) : Prop := Held n.2.2.1 n.2.2.2 ∧ Fit n.2.2.2
theorem good_zero : Good zeroT := ⟨⟨.of (by simp [zeroT]), by decide⟩, .mk (by simp [zeroT]) (by simp [zeroT])⟩
def pathE (p : ByteArray) : Int := (splitP p).2.1
theorem ready_eq (n : NodeT) (p : ByteArray) : readyP n.1 n.2.1 n.2.2.1 n.2.2.2 p = if codeN n ≠ 0 then ([], codeN n) else ((splitP p).1, pathE p) := rfl
theorem ready_ok {n : NodeT} (h : codeN n = 0) (p : ByteArray) : readyP n.1 n.2.1 n.2.2.1 n.2.2.2 p = ((splitP p).1, pathE p) := by rw [ready_eq, if_neg (fun e => e h)]
theorem getP_eq {n : NodeT} (h : codeN n = 0) (p : ByteArray) : getP n p = if pathE p ≠ 0 then (zeroT, pathE p) else getN (splitP p).1 n := by
  unfold getP
  rw [ready_ok h]
theorem getN_good : ∀ (ns : List ByteArray) (n : NodeT), Good n → Good (getN ns n).1
  | [], n, h => h
  | s :: r, n, h => by
    unfold getN
    split
    · exact good_zero
    · split
      · exact good_zero
      · rename_i x hx
        have hxm : x ∈ n.2.2.2 := by
          split at hx
          · exact List.mem_of_getElem? hx
          · cases hx
        exact getN_good r (nodeOf x) ⟨⟨(h.1.1.mem hxm).2.2, (h.1.1.mem hxm).2.1⟩, h.2.at_ hxm⟩
theorem getP_good {n : NodeT} (h : Good n) (p : ByteArray) : Good (getP n p).1 := by
  unfold getP
  split
  · exact good_zero
  · exact getN_good _ n h
theorem put_codes {n sub : NodeT} {p : ByteArray} (h : (putP n p sub).2 = 0) : codeN n = 0 ∧ codeN sub = 0 ∧ pathE p = 0 := by
  unfold putP at h
  split at h
  · rename_i c; exact absurd h c
  · rename_i c
    split at h
    · rename_i c2; exact absurd h c2
    · rename_i c2
      have h2 := ready_zero (Decidable.of_not_not c2)
      have h3 := Decidable.of_not_not c2
      rw [ready_ok (n := sub) h2.1] at h3
      exact ⟨Decidable.of_not_not c, h2.1, h3⟩
end Go.Proofs.YtnemeeidomceiaaDoor
end
section
namespace Go.Proofs.YtnemeeidomceiaaDoor
open Go.RowKit Go.Proofs.YtnemeeidomceiaaDoorW.PrintWords Go.Proofs.YtnemeeidomceiaaDoorW.PrintLast Go.Proofs.YtnemeeidomceiaaDoorW.PrintMore
set_option linter.unusedVariables false
set_option linter.unusedSimpArgs false
end Go.Proofs.YtnemeeidomceiaaDoor
end
section
namespace Go.Proofs.YtnemeeidomceiaaDoor
open Go.RowKit Go.Proofs.YtnemeeidomceiaaDoorW.PrintWords Go.Proofs.YtnemeeidomceiaaDoorW.PrintLast Go.Proofs.YtnemeeidomceiaaDoorW.PrintMore
set_option linter.unusedVariables false
set_option linter.unusedSimpArgs false
section
variable {W W' w' : World} {b : Nat} {A As A' : Option Addr} {c cs c' : Nat} {k k1 sk k' x : Int} {e e1 se e' : Bool} {t t1 st t' p path : ByteArray} {l l1 sl l' : List Ent} {o : Ending}
/-- A node in a variable of its own. -/
structure NB (W : World) (b : Nat) (A : Option Addr) (c : Nat) (k : Int) (e : Bool) (t : ByteArray) (l : List Ent) : Prop where
  blk : Blk W b 32 [.int .i64 k, .bool e, .string t, .slice A l.length c]
  len : l.length ≤ c
  row : Kd.C kE W A l.length l
theorem NB.below (h : NB W b A c k e t l) (hb : Below W.heap.size W W') : NB W' b A c k e t l := ⟨h.blk.below hb, h.len, Kd.C_below h.row hb⟩
theorem NB.new {W : World} (hl : l.length ≤ c) (hC : Kd.C kE W A l.length l) : NB (W.alloc (.cells #[.int .i64 k, .bool e, .string t, .slice A l.length c] 32)) W.heap.size A c k e t l :=
  ⟨Blk.new W _ [.int .i64 k, .bool e, .string t, .slice A l.length c], hl, Kd.C_below hC (below_alloc (Below.refl _ _) _)⟩
/-- A tree handed back, and an error's number. -/
def Made (W : World) (k : Int) (e : Bool) (t : ByteArray) (l : List Ent) (x : Int) (o : Ending) (w' : World) : Prop :=
  ∃ A c, o = .returned (.tuple #[.agg #[.int .i64 k, .bool e, .string t, .slice A l.length c], .int .i64 x]) ∧ (l.length ≤ c ∧ Kd.C kE w' A l.length l) ∧ Below W.heap.size W w'
theorem TreePost.made {r : NodeT × Int} (h : TreePost W r o w') (hr : r = ((k, e, t, l), x)) : Made W k e t l x o w' := by
  subst hr
  obtain ⟨v, hv, hR⟩ := h.read
  have hb := h.below
  obtain ⟨A, c, rfl, hc, hC⟩ := Kd.R_reads hR
  exact ⟨A, c, hv, ⟨hc, hC⟩, hb⟩
theorem Good.fit (h : Good (k, e, t, l)) : Fit l := h.2
theorem eq_to (h : (k, e, t, l) = (k', e', t', l')) (hf : Fit l) (hC : Kd.C kE W A l.length l) (hc : l.length ≤ c) (hC' : Kd.C kE W A' l'.length l') (hc' : l'.length ≤ c') :
    Calls Tryd.prog 13 #[.agg #[.int .i64 k, .bool e, .string t, .slice A l.length c], .agg #[.int .i64 k', .bool e', .string t', .slice A' l'.length c']] W fun o w' => o = .returned (.bool true) ∧ Below W.heap.size W w' :=
  (refEq_calls l hf k e t A c k' e' t' l' A' c' W hC hc hC' hc').mono fun _ _ ⟨b, ho, hb, hw⟩ => ⟨by rw [ho, hb.2 h], hw⟩
/-- Other in a variable of its own. -/
structure XB (W : World) (b : Nat) (A : Option Addr) (c : Nat) (k : Int) (e : Bool) (t : ByteArray) (l : List Ent) (p : ByteArray) : Prop where
  blk : Blk W b 56 [.int .i64 k, .bool e, .string t, .slice A l.length c, .string p]
  len : l.length ≤ c
  row : Kd.C kE W A l.length l
theorem XB.below (h : XB W b A c k e t l p) (hb : Below W.heap.size W W') : XB W' b A c k e t l p := ⟨h.blk.below hb, h.len, Kd.C_below h.row hb⟩
theorem XB.cells (h : XB W b A c k e t l p) : W.cell? ⟨b, 0, none⟩ = some (.int .i64 k) ∧ W.cell? ⟨b, 1, none⟩ = some (.bool e) ∧ W.cell? ⟨b, 2, none⟩ = some (.string t) ∧ W.cell? ⟨b, 3, none⟩ = some (.slice A l.length c) ∧ W.cell? ⟨b, 4, none⟩ = some (.string p) :=
  ⟨h.blk.cell 0 _ rfl, h.blk.cell 1 _ rfl, h.blk.cell 2 _ rfl, h.blk.cell 3 _ rfl, h.blk.cell 4 _ rfl⟩
end
end Go.Proofs.YtnemeeidomceiaaDoor
end
section
namespace Go.Proofs.YtnemeeidomceiaaDoor
open Go.RowKit Go.Proofs.YtnemeeidomceiaaDoorW.PrintWords Go.Proofs.YtnemeeidomceiaaDoorW.PrintLast Go.Proofs.YtnemeeidomceiaaDoorW.PrintMore
set_option linter.unusedVariables false
set_option linter.unusedSimpArgs false
section
variable {w W W' W2 : World} {b bn bs base : Nat} {f g : Nat → Prop} {A An As A' : Option Addr} {c cn cs c' : Nat} {k kn ks x : Int} {e en es : Bool} {t tn ts : ByteArray} {l ln ls : List Ent} {va vb : Option (Option Addr × Nat)} {pa pb : Option Nat}
/-- A tree with memory of its own, in a variable of its own. -/
structure TB (W : World) (base b : Nat) (f : Nat → Prop) (A : Option Addr) (c : Nat) (k : Int) (e : Bool) (t : ByteArray) (l : List Ent) : Prop where
  blk : Blk W b 32 [.int .i64 k, .bool e, .string t, .slice A l.length c]
  own : Own W base f (.slice A l.length c) l
  bnd : ∀ k, f k → k < W.heap.size
theorem TB.len (h : TB W base b f A c k e t l) : l.length ≤ c := h.own.toC.2.1
theorem TB.row (h : TB W base b f A c k e t l) : Kd.C kE W A l.length l := h.own.toC.2.2
theorem TB.below (h : TB W base b f A c k e t l) (hb : Below W.heap.size W W') : TB W' base b f A c k e t l := ⟨h.blk.below hb, h.own.newer hb, fun k hk => Nat.lt_of_lt_of_le (h.bnd k hk) hb.size⟩
theorem ownB_node {vs : List Value} (h : Blk W b 32 vs) : ¬ OwnB W base g b := fun hg => by
  obtain ⟨cells, hc⟩ := hg.2.2.2
  have h1 := h.symm.trans hc
  injection h1 with h1
  injection h1 with _ h2 _
  exact absurd h2 (by decide)
theorem TB.upd (h : TB W base b f A c k e t l) (hU : Upd (OwnB W base g) W W') (hd : ∀ k, f k → g k → False) : TB W' base b f A c k e t l :=
  ⟨h.blk.upd hU (ownB_node h.blk), h.own.upd hU (fun k hk hg => hd k hk hg.1), fun k hk => Nat.lt_of_lt_of_le (h.bnd k hk) hU.size⟩
theorem NB.upd (h : NB W b A c k e t l) (hU : Upd (OwnB W base g) W W') (hC : Kd.C kE W' A l.length l) : NB W' b A c k e t l := ⟨h.blk.upd hU (ownB_node h.blk), h.len, hC⟩
/-- A tree that was just made, laid into a variable. -/
theorem TB.new (hO : Own W' W.heap.size (fun k => W.heap.size ≤ k) (.slice A l.length c) l) (hb : base ≤ W.heap.size) : TB (W'.alloc (.cells #[.int .i64 k, .bool e, .string t, .slice A l.length c] 32)) base W'.heap.size (fun k => W.heap.size ≤ k ∧ k < W'.heap.size) A c k e t l :=
  ⟨Blk.new W' _ [.int .i64 k, .bool e, .string t, .slice A l.length c], ((hO.bound.lower hb).mono (fun k hk => ⟨hk.2.1, hk.2.2.1⟩)).newer (below_alloc (Below.refl _ _) _), fun k hk => Nat.lt_of_lt_of_le hk.2 (by simp)⟩
/-- A tree handed back in memory of its own, and an error's number. -/
def MadeO (W : World) (k : Int) (e : Bool) (t : ByteArray) (l : List Ent) (x : Int) (o : Ending) (w' : World) : Prop :=
  ∃ A c, o = .returned (.tuple #[.agg #[.int .i64 k, .bool e, .string t, .slice A l.length c], .int .i64 x]) ∧ Own w' W.heap.size (fun k => W.heap.size ≤ k) (.slice A l.length c) l ∧ Below W.heap.size W w'
def MadeN (W : World) (k : Int) (e : Bool) (t : ByteArray) (l : List Ent) (o : Ending) (w' : World) : Prop :=
  ∃ A c, o = .returned (.agg #[.int .i64 k, .bool e, .string t, .slice A l.length c]) ∧ Own w' W.heap.size (fun k => W.heap.size ≤ k) (.slice A l.length c) l ∧ Below W.heap.size W w'
theorem TreePost.madeO {r : NodeT × Int} {o : Ending} (h : TreePost W r o W') (hr : r = ((k, e, t, l), x)) : MadeO W k e t l x o W' := by
  subst hr
  obtain ⟨⟨v, hv, hO⟩, hb⟩ := h
  obtain ⟨A, c, rfl, _⟩ := hO.slice
  exact ⟨A, c, hv, hO, hb⟩
variable {k1 sk : Int} {e1 se : Bool} {t1 st path : ByteArray} {l1 sl : List Ent}
theorem putO (h : putP (k, e, t, l) path (sk, se, st, sl) = ((k1, e1, t1, l1), x)) (hg : Good (k, e, t, l)) (hgs : Good (sk, se, st, sl)) (hp : path.size ≤ 140737488351232) (hC : Kd.C kE W A l.length l) (hc : l.length ≤ c) (hCs : Kd.C kE W As sl.length sl) (hcs : sl.length ≤ cs) :
    Calls Tryd.prog 20 #[.agg #[.int .i64 k, .bool e, .string t, .slice A l.length c], .string path, .agg #[.int .i64 sk, .bool se, .string st, .slice As sl.length cs]] W (MadeO W k1 e1 t1 l1 x) :=
  (put_calls (k, e, t, l) path (sk, se, st, sl) A As c cs W hC hc hg.1 hg.2 hp hCs hcs hgs.1 hgs.2).mono fun _ _ hh => hh.madeO h
theorem getO (h : getP (k, e, t, l) path = ((k1, e1, t1, l1), x)) (hg : Good (k, e, t, l)) (hp : path.size ≤ 140737488351232) (hC : Kd.C kE W A l.length l) (hc : l.length ≤ c) :
    Calls Tryd.prog 16 #[.agg #[.int .i64 k, .bool e, .string t, .slice A l.length c], .string path] W (MadeO W k1 e1 t1 l1 x) :=
  (get_calls (k, e, t, l) path A c W hC hc hg.1 hg.2 hp).mono fun _ _ hh => hh.madeO h
theorem cutO (h : cutP k e t l path = ((k1, e1, t1, l1), x)) (hg : Good (k, e, t, l)) (hp : path.size ≤ 140737488351232) (hC : Kd.C kE W A l.length l) (hc : l.length ≤ c) :
    Calls Tryd.prog 18 #[.agg #[.int .i64 k, .bool e, .string t, .slice A l.length c], .string path] W (MadeO W k1 e1 t1 l1 x) :=
  (cut_calls k e t l path A c W hC hc hg.1 hg.2 hp).mono fun _ _ hh => hh.madeO h
theorem copyO (hf : Fit l) (hC : Kd.C kE W A l.length l) (hc : l.length ≤ c) :
    Calls Tryd.prog 24 #[.agg #[.int .i64 k, .bool e, .string t, .slice A l.length c]] W (MadeN W k e t l) :=
  (copyO_calls l hf k e t A c W hC hc).mono fun _ _ hh => hh.elim fun v hv => by
    obtain ⟨A, c, rfl, _⟩ := hv.2.1.slice
    exact ⟨A, c, hv⟩
theorem cloneO (hf : Fit l) (hC : Kd.C kE W A l.length l) (hc : l.length ≤ c) :
    Calls Tryd.prog 23 #[.agg #[.int .i64 k, .bool e, .string t, .slice A l.length c]] W (MadeN W k e t l) :=
  (cloneO_calls l hf k e t A c W hC hc).mono fun _ _ hh => hh.elim fun v hv => by
    obtain ⟨A, c, rfl, _⟩ := hv.2.1.slice
    exact ⟨A, c, hv⟩
theorem spoilO (hs : Small l) (h : TB W base b f A c k e t l) (hb : base ≤ W.heap.size) :
    Calls Tryd.prog 25 #[.agg #[.int .i64 k, .bool e, .string t, .slice A l.length c]] W fun o w' => o = .returned (.tuple #[]) ∧ Upd (OwnB W base f) W w' := spoil_calls l hs k e t A c base f W h.own hb
theorem Upd.downTo (h : Upd (OwnB W base g) W W') (hb : base ≤ W.heap.size) : Below base W W' := h.below (fun k hk => hk.2.1) hb
/-- The two copies that TreeKeeps makes first, as far as they are made. -/
structure P2 (w : World) (bn : Nat) (An : Option Addr) (cn : Nat) (kn : Int) (en : Bool) (tn : ByteArray) (ln : List Ent) (bs : Nat) (As : Option Addr) (cs : Nat) (ks : Int) (es : Bool) (ts : ByteArray) (ls : List Ent) (va vb : Option (Option Addr × Nat)) (pa pb : Option Nat) (W : World) : Prop where
  below : Below w.heap.size w W
  nn : NB W bn An cn kn en tn ln
  ns : NB W bs As cs ks es ts ls
  foot : ∃ fa fb : Nat → Prop, (∀ k, fa k → k < W.heap.size) ∧ (∀ k, fb k → k < W.heap.size) ∧ (∀ k, fa k → fb k → False) ∧ (∀ v, va = some v → Own W w.heap.size fa (.slice v.1 ln.length v.2) ln) ∧ (∀ v, vb = some v → Own W w.heap.size fb (.slice v.1 ls.length v.2) ls)
  za : ∀ p, pa = some p → (w.heap.size ≤ p ∧ bn < p ∧ bs < p) ∧ Blk W p 32 [.int .i64 0, .bool false, .string ⟨#[]⟩, .slice none 0 0]
  zb : ∀ p, pb = some p → (w.heap.size ≤ p ∧ bn < p ∧ bs < p) ∧ Blk W p 32 [.int .i64 0, .bool false, .string ⟨#[]⟩, .slice none 0 0]
  ne : ∀ p q, pa = some p → pb = some q → p ≠ q
theorem P2.start (h : Below w.heap.size w W) (h1 : NB W bn An cn kn en tn ln) (h2 : NB W bs As cs ks es ts ls) : P2 w bn An cn kn en tn ln bs As cs ks es ts ls none none none none W :=
  ⟨h, h1, h2, ⟨fun _ => False, fun _ => False, fun _ h => h.elim, fun _ h => h.elim, fun _ h => h.elim, fun _ h => (by cases h), fun _ h => (by cases h)⟩, fun _ h => (by cases h), fun _ h => (by cases h), fun _ _ h => (by cases h)⟩
theorem P2.callA (h : P2 w bn An cn kn en tn ln bs As cs ks es ts ls none vb pa pb W) (hO : Own W' W.heap.size (fun k => W.heap.size ≤ k) (.slice A ln.length c) ln) (hb : Below W.heap.size W W') : P2 w bn An cn kn en tn ln bs As cs ks es ts ls (some (A, c)) vb pa pb W' := by
  obtain ⟨fa, fb, h1, h2, h3, h4, h5⟩ := h.foot
  exact ⟨below_step h.below hb, h.nn.below hb, h.ns.below hb, ⟨fun k => W.heap.size ≤ k ∧ k < W'.heap.size, fb, fun k hk => hk.2, fun k hk => Nat.lt_of_lt_of_le (h2 k hk) hb.size, fun k hk hk2 => by have := h2 k hk2; have := hk.1; omega, fun v hv => by
    injection hv with hv; subst hv
    exact (hO.bound.lower h.below.size).mono (fun k hk => ⟨hk.2.1, hk.2.2.1⟩), fun v hv => (h5 v hv).newer hb⟩, fun p hp => ⟨(h.za p hp).1, (h.za p hp).2.below hb⟩, fun p hp => ⟨(h.zb p hp).1, (h.zb p hp).2.below hb⟩, h.ne⟩
theorem P2.callB (h : P2 w bn An cn kn en tn ln bs As cs ks es ts ls va none pa pb W) (hO : Own W' W.heap.size (fun k => W.heap.size ≤ k) (.slice A ls.length c) ls) (hb : Below W.heap.size W W') : P2 w bn An cn kn en tn ln bs As cs ks es ts ls va (some (A, c)) pa pb W' := by
  obtain ⟨fa, fb, h1, h2, h3, h4, h5⟩ := h.foot
  exact ⟨below_step h.below hb, h.nn.below hb, h.ns.below hb, ⟨fa, fun k => W.heap.size ≤ k ∧ k < W'.heap.size, fun k hk => Nat.lt_of_lt_of_le (h1 k hk) hb.size, fun k hk => hk.2, fun k hk hk2 => by have := h1 k hk; have := hk2.1; omega, fun v hv => (h4 v hv).newer hb, fun v hv => by
    injection hv with hv; subst hv
    exact (hO.bound.lower h.below.size).mono (fun k hk => ⟨hk.2.1, hk.2.2.1⟩)⟩, fun p hp => ⟨(h.za p hp).1, (h.za p hp).2.below hb⟩, fun p hp => ⟨(h.zb p hp).1, (h.zb p hp).2.below hb⟩, h.ne⟩
theorem P2.any (h : P2 w bn An cn kn en tn ln bs As cs ks es ts ls va vb pa pb W) (hb : Below W.heap.size W W') : P2 w bn An cn kn en tn ln bs As cs ks es ts ls va vb pa pb W' := by
  obtain ⟨fa, fb, h1, h2, h3, h4, h5⟩ := h.foot
  exact ⟨below_step h.below hb, h.nn.below hb, h.ns.below hb, ⟨fa, fb, fun k hk => Nat.lt_of_lt_of_le (h1 k hk) hb.size, fun k hk => Nat.lt_of_lt_of_le (h2 k hk) hb.size, h3, fun v hv => (h4 v hv).newer hb, fun v hv => (h5 v hv).newer hb⟩, fun p hp => ⟨(h.za p hp).1, (h.za p hp).2.below hb⟩, fun p hp => ⟨(h.zb p hp).1, (h.zb p hp).2.below hb⟩, h.ne⟩
abbrev zeroC : Obj := .cells #[.int .i64 0, .bool false, .string ⟨#[]⟩, .slice none 0 0] 32
theorem P2.allocA (h : P2 w bn An cn kn en tn ln bs As cs ks es ts ls va vb none pb W) : P2 w bn An cn kn en tn ln bs As cs ks es ts ls va vb (some W.heap.size) pb (W.alloc zeroC) := by
  have h2 := h.any (below_alloc (Below.refl _ W) zeroC)
  exact ⟨h2.below, h2.nn, h2.ns, h2.foot, fun p hp => by injection hp with hp; subst hp; exact ⟨⟨h.below.size, h.nn.blk.lt, h.ns.blk.lt⟩, Blk.new W _ [.int .i64 0, .bool false, .string ⟨#[]⟩, .slice none 0 0]⟩, h2.zb, fun p q hp hq e => by injection hp with hp; have := (h.zb q hq).2.lt; omega⟩
theorem P2.allocB (h : P2 w bn An cn kn en tn ln bs As cs ks es ts ls va vb pa none W) : P2 w bn An cn kn en tn ln bs As cs ks es ts ls va vb pa (some W.heap.size) (W.alloc zeroC) := by
  have h2 := h.any (below_alloc (Below.refl _ W) zeroC)
  exact ⟨h2.below, h2.nn, h2.ns, h2.foot, h2.za, fun p hp => by injection hp with hp; subst hp; exact ⟨⟨h.below.size, h.nn.blk.lt, h.ns.blk.lt⟩, Blk.new W _ [.int .i64 0, .bool false, .string ⟨#[]⟩, .slice none 0 0]⟩, fun p q hp hq e => by injection hq with hq; have := (h.za p hp).2.lt; omega⟩
theorem P2.cells (h : P2 w bn An cn kn en tn ln bs As cs ks es ts ls va vb pa pb W) : (W.cell? ⟨bn, 0, none⟩ = some (.int .i64 kn) ∧ W.cell? ⟨bn, 1, none⟩ = some (.bool en) ∧ W.cell? ⟨bn, 2, none⟩ = some (.string tn) ∧ W.cell? ⟨bn, 3, none⟩ = some (.slice An ln.length cn)) ∧ W.cell? ⟨bs, 0, none⟩ = some (.int .i64 ks) ∧ W.cell? ⟨bs, 1, none⟩ = some (.bool es) ∧ W.cell? ⟨bs, 2, none⟩ = some (.string ts) ∧ W.cell? ⟨bs, 3, none⟩ = some (.slice As ls.length cs) := ⟨cells4 h.nn.blk, cells4 h.ns.blk⟩
theorem put4_upd1 {c0 c1 c2 c3 : Value} : Upd (fun q => q = b) W ((((W.setCell ⟨b, 0, none⟩ c0).setCell ⟨b, 1, none⟩ c1).setCell ⟨b, 2, none⟩ c2).setCell ⟨b, 3, none⟩ c3) :=
  (((Upd.setCell (S := fun q => q = b) (p := ⟨b, 0, none⟩) (.inl rfl) _).trans (Upd.setCell (S := fun q => q = b) (p := ⟨b, 1, none⟩) (.inl rfl) _) (fun k hk => .inl hk)).trans (Upd.setCell (S := fun q => q = b) (p := ⟨b, 2, none⟩) (.inl rfl) _) (fun k hk => .inl hk)).trans (Upd.setCell (S := fun q => q = b) (p := ⟨b, 3, none⟩) (.inl rfl) _) (fun k hk => .inl hk)
end
theorem fields_ne {k : Int} {e : Bool} {t : ByteArray} {l : List Ent} (h : fieldsE k e t l = 0) : k ≠ 0 := fun hk => by
  subst hk
  unfold fieldsE at h
  simp at h
theorem code_kind {n : NodeT} (h : codeN n = 0) : n.1 ≠ 0 := by
  have h1 := ((look_zero n.1 n.2.1 n.2.2.1 n.2.2.2).1 h).1
  exact fields_ne (k := n.1) h1.1
theorem put_kind {n sub : NodeT} {p : ByteArray} (h : (putP n p sub).2 = 0) : (putP n p sub).1.1 ≠ 0 := by
  obtain ⟨h1, h2, h3⟩ := put_codes h
  unfold putP at h ⊢
  rw [ready_ok h2] at h ⊢
  rw [if_neg (fun e => e h1), if_neg (fun e => e h3)] at h ⊢
  split
  · exact code_kind h2
  · rename_i c3
    rw [if_neg c3] at h
    split
    · rename_i c4
      rw [if_pos c4] at h; exact absurd h c4
    · rename_i c4
      rw [if_neg c4] at h
      split
      · rename_i c5
        rw [if_pos c5] at h; exact absurd h c5
      · exact (show n.1 ≠ 0 from code_kind h1)
theorem get_kind : ∀ (ns : List ByteArray) (f : Nat) (n : NodeT) (nm : ByteArray), wf f ⟨nm, n.1, n.2.1, n.2.2.1, n.2.2.2⟩ → (getN ns n).2 = 0 → (getN ns n).1.1 ≠ 0
  | [], 0, n, nm, h, _ => h.elim
  | [], f + 1, n, nm, h, _ => fields_ne (k := n.1) h.1
  | s :: r, 0, n, nm, h, _ => h.elim
  | s :: r, f + 1, n, nm, h, h0 => by
    unfold getN at h0 ⊢
    split at h0
    · exact absurd (show (65 : Int) = 0 from h0) (by decide)
    · rename_i c1
      rw [if_neg c1]
      split at h0
      · exact absurd (show (3 : Int) = 0 from h0) (by decide)
      · rename_i y hy
        have hym : y ∈ n.2.2.2 := by
          split at hy
          · exact List.mem_of_getElem? hy
          · cases hy
        have hye : (⟨y.f0, y.f1, y.f2, y.f3, y.f4⟩ : Ent) = y := by cases y; rfl
        exact get_kind r f (nodeOf y) y.f0 (by show wf f ⟨y.f0, y.f1, y.f2, y.f3, y.f4⟩; rw [hye]; exact h.2.2.2 y hym) h0
theorem getP_kind {n : NodeT} {p : ByteArray} (h : (getP n p).2 = 0) : (getP n p).1.1 ≠ 0 := by
  by_cases h1 : codeN n = 0
  · rw [getP_eq h1] at h ⊢
    split
    · rename_i c; rw [if_pos c] at h; exact absurd h c
    · rename_i c
      rw [if_neg c] at h
      exact get_kind _ 32 n ⟨#[]⟩ ((look_zero n.1 n.2.1 n.2.2.1 n.2.2.2).1 h1).1 h
  · unfold getP at h
    rw [ready_eq, if_pos h1, if_pos h1] at h
    exact absurd h h1
theorem chN_kind {act : List Ent → Nat → Bool → ByteArray → List Ent × Int} {ns : List ByteArray} {k : Int} {l : List Ent} (hn : ns ≠ []) (h : (chN act ns k l).2 = 0) : k = 3 := by
  cases ns with
  | nil => exact absurd rfl hn
  | cons s r =>
    refine Decidable.of_not_not (fun hk => ?_)
    rw [chN, if_pos hk] at h
    exact absurd (show (65 : Int) = 0 from h) (by decide)
theorem cut_kind {k : Int} {e : Bool} {t : ByteArray} {l : List Ent} {p : ByteArray} (h : (cutP k e t l p).2 = 0) : (cutP k e t l p).1.1 = 3 := by
  unfold cutP at h ⊢
  split
  · rename_i c; rw [if_pos c] at h; exact absurd h c
  · rename_i c
    rw [if_neg c] at h
    split
    · rename_i c2; rw [if_pos c2] at h; exact absurd (show (66 : Int) = 0 from h) (by decide)
    · rename_i c2
      rw [if_neg c2] at h
      split
      · rename_i c3; rw [if_pos c3] at h; exact absurd h c3
      · rename_i c3
        exact chN_kind c2 (Decidable.of_not_not c3)
theorem putP_fit {n sub : NodeT} {p : ByteArray} (hs : Fit sub.2.2.2) : Fit (putP n p sub).1.2.2.2 := by
  unfold putP
  split
  · exact good_zero.2
  · split
    · exact good_zero.2
    · split
      · exact hs
      · split
        · exact good_zero.2
        · split
          · exact good_zero.2
          · rename_i c5
            exact (look_AllR (Decidable.of_not_not c5)).fit
theorem cutP_fit {k : Int} {e : Bool} {t : ByteArray} {l : List Ent} {p : ByteArray} : Fit (cutP k e t l p).1.2.2.2 := by
  unfold cutP
  split
  · exact good_zero.2
  · rename_i c
    split
    · exact good_zero.2
    · split
      · exact good_zero.2
      · rename_i c3
        have h1 := (ready_zero (Decidable.of_not_not c)).1
        have hw := (look_zero k e t l).1 h1
        have h2 := cut_wf _ 32 ⟨#[]⟩ k e t l _ hw.1 (Prod.ext rfl (Decidable.of_not_not c3))
        exact (look_AllR ((look_zero k e t _).2 ⟨h2.1, by have := hw.2; have := h2.2; omega⟩)).fit
theorem getN_small : ∀ (ns : List ByteArray) (n : NodeT), Small n.2.2.2 → Small (getN ns n).1.2.2.2
  | [], n, h => h
  | s :: r, n, h => by
    unfold getN
    split
    · exact .mk (by simp [zeroT]) (by simp [zeroT])
    · split
      · exact .mk (by simp [zeroT]) (by simp [zeroT])
      · rename_i x hx
        have hxm : x ∈ n.2.2.2 := by
          split at hx
          · exact List.mem_of_getElem? hx
          · cases hx
        exact getN_small r (nodeOf x) (h.at_.2 x hxm)
theorem getP_small {n : NodeT} (h : Small n.2.2.2) (p : ByteArray) : Small (getP n p).1.2.2.2 := by
  unfold getP
  split
  · exact .mk (by simp [zeroT]) (by simp [zeroT])
  · exact getN_small _ n h
end Go.Proofs.YtnemeeidomceiaaDoor
end
section
namespace Go.Proofs.YtnemeeidomceiaaDoor
open Go.RowKit Go.Proofs.YtnemeeidomceiaaDoorW.PrintWords Go.Proofs.YtnemeeidomceiaaDoorW.PrintLast Go.Proofs.YtnemeeidomceiaaDoorW.PrintMore
set_option linter.unusedVariables false
set_option linter.unusedSimpArgs false
set_option maxHeartbeats 8000000 in
set_option maxRecDepth 100000 in
theorem keeps_calls (k : Int) (e : Bool) (t : ByteArray) (l : List Ent) (path : ByteArray) (sk : Int) (se : Bool) (st : ByteArray) (sl : List Ent) (A : Option Addr) (c : Nat) (As : Option Addr) (cs : Nat) (w : World) (hC : Kd.C kE w A l.length l) (hc : l.length ≤ c) (hn : Good (k, e, t, l)) (hsm : Small l) (hp : path.size ≤ 140737488351232) (hCs : Kd.C kE w As sl.length sl) (hcs : sl.length ≤ cs) (hs : Good (sk, se, st, sl)) (hsms : Small sl) :
    Calls Tryd.prog 9 #[.agg #[.int .i64 k, .bool e, .string t, .slice A l.length c], .string path, .agg #[.int .i64 sk, .bool se, .string st, .slice As sl.length cs]] w fun o w' => o = .returned (.bool true) ∧ Below w.heap.size w w' := by
  obtain ⟨⟨⟨kp, ep, tp, lp⟩, xp⟩, hr1⟩ : ∃ r, putP (k, e, t, l) path (sk, se, st, sl) = r := ⟨_, rfl⟩
  obtain ⟨⟨⟨kg, eg, tg, lg⟩, xg⟩, hr2⟩ : ∃ r, getP (k, e, t, l) path = r := ⟨_, rfl⟩
  obtain ⟨⟨⟨kc, ec, tc, lc⟩, xc⟩, hr3⟩ : ∃ r, cutP k e t l path = r := ⟨_, rfl⟩
  have HR1 := Aside0.mk hr1
  have HR2 := Aside0.mk hr2
  have HR3 := Aside0.mk hr3
  have HN := Aside0.mk hn
  have HS := Aside0.mk hs
  have HSM := Aside0.mk (And.intro hsm hsms)
  have HP := Aside0.mk hp
  have HC0 := Aside0.mk (And.intro hC (And.intro hc (And.intro hCs hcs)))
  have HF : Aside0 (Fit lp ∧ Fit lg ∧ Fit lc ∧ Small lg) := ⟨by
    have h1 := putP_fit (n := (k, e, t, l)) (p := path) (sub := (sk, se, st, sl)) hs.2
    have h2 := getP_good hn path
    have h3 := cutP_fit (k := k) (e := e) (t := t) (l := l) (p := path)
    have h4 := getP_small (n := (k, e, t, l)) hsm path
    rw [hr1] at h1; rw [hr2] at h2 h4; rw [hr3] at h3
    exact ⟨h1, h2.2, h3, h4⟩⟩
  have HKD : Aside0 ((xp = 0 → kp ≠ 0) ∧ (xg = 0 → kg ≠ 0) ∧ (xc = 0 → kc = 3)) := ⟨⟨fun h => by
    have := put_kind (n := (k, e, t, l)) (sub := (sk, se, st, sl)) (p := path) (by rw [hr1]; exact h); rw [hr1] at this; exact this, fun h => by
    have := getP_kind (n := (k, e, t, l)) (p := path) (by rw [hr2]; exact h); rw [hr2] at this; exact this, fun h => by
    have := cut_kind (k := k) (e := e) (t := t) (l := l) (p := path) (by rw [hr3]; exact h); rw [hr3] at this; exact this⟩⟩
  clear hr1 hr2 hr3 hn hs hp hC hc hCs hcs hsm hsms
  go_enter Tryd.func9, Tryd.ntmps9
  go_wp2_with fail
  obtain ⟨W1, hW1⟩ : ∃ W1, W1 = (w.alloc (.cells #[.int .i64 k, .bool e, .string t, .slice A l.length c] 32)).alloc (.cells #[.int .i64 sk, .bool se, .string st, .slice As sl.length cs] 32) := ⟨_, rfl⟩
  rw [← hW1]
  obtain ⟨bn, hbn⟩ : ∃ b, b = w.heap.size := ⟨_, rfl⟩
  obtain ⟨bs, hbs⟩ : ∃ b, b = w.heap.size + 1 := ⟨_, rfl⟩
  rw [← hbs, ← hbn]
  have NN : Aside0 (NB W1 bn A c k e t l) := ⟨by rw [hW1, hbn]; exact (NB.new HC0.out.2.1 HC0.out.1).below (below_alloc (Below.refl _ _) _)⟩
  have NS : Aside0 (NB W1 bs As cs sk se st sl) := ⟨by rw [hW1]; exact ⟨Blk.new' _ _ [.int .i64 sk, .bool se, .string st, .slice As sl.length cs] (by rw [hbs]; simp), HC0.out.2.2.2, Kd.C_below HC0.out.2.2.1 (below_alloc (below_alloc (Below.refl _ _) _) _)⟩⟩
  have HB : Aside0 (Below w.heap.size w W1) := ⟨by rw [hW1]; exact below_alloc (below_alloc (Below.refl _ _) _) _⟩
  clear hW1 hbn hbs
  (with_reducible refine (awake_calls W1).mono ?_)
  rintro o w1 ⟨rfl, hb⟩
  replace NN := Aside0.mk (NN.out.below hb)
  replace NS := Aside0.mk (NS.out.below hb)
  replace HB := Aside0.mk (below_step HB.out hb)
  clear hb
  go_wp2_with fail
  refine start_ (n := 8) (S := fun w' => w'.cell? ⟨bn, 0, none⟩ = some (.int .i64 k) ∧ w'.cell? ⟨bn, 1, none⟩ = some (.bool e) ∧ w'.cell? ⟨bn, 2, none⟩ = some (.string t) ∧ w'.cell? ⟨bn, 3, none⟩ = some (.slice A l.length c) ∧ w'.cell? ⟨bs, 0, none⟩ = some (.int .i64 sk) ∧ w'.cell? ⟨bs, 1, none⟩ = some (.bool se) ∧ w'.cell? ⟨bs, 2, none⟩ = some (.string st) ∧ w'.cell? ⟨bs, 3, none⟩ = some (.slice As sl.length cs)) (ds := [6, 7]) #[false, false, false, false, false, false, false, false] (by kernel_rfl) rfl rfl (⟨NN.out.blk.cell 0 _ rfl, NN.out.blk.cell 1 _ rfl, NN.out.blk.cell 2 _ rfl, NN.out.blk.cell 3 _ rfl, cells4 NS.out.blk⟩) (fun hHeld => ?_)
  have hdr : Below w1.heap.size w1 w1.drew := below_drew (Below.refl _ _)
  have Q0 := Aside0.mk (P2.start (below_step HB.out hdr) (NN.out.below hdr) (NS.out.below hdr))
  generalize w1.drew = X0 at *
  clear hdr NN NS HB
  refine take_ (i := 0) (N := some 23) (v := ?_) (a' := ?_) #[true, false, false, false, false, false, false, false] rfl rfl (by kernel_rfl) (fun _ _ _ h => h) (Or.inl ⟨by rfl, ?_⟩) hHeld ?_ ?_
  rotate_left
  · rintro w' ⟨s0, s1, s2, s3, s4, s5, s6, s7⟩
    go_simp
    with_reducible rfl
  rotate_left
  · simp only [Act.put, List.setIfInBounds_toArray, List.set_cons_zero, List.set_cons_succ, i64_w, i32_w]
    rfl
  refine take_ (i := 2) (N := some 25) (v := ?_) (a' := ?_) #[true, false, true, false, false, false, false, false] rfl rfl (by kernel_rfl) (fun _ _ _ h => h) (Or.inl ⟨by rfl, ?_⟩) hHeld ?_ ?_
  rotate_left
  · rintro w' ⟨s0, s1, s2, s3, s4, s5, s6, s7⟩
    go_simp
    with_reducible rfl
  rotate_left
  · simp only [Act.put, List.setIfInBounds_toArray, List.set_cons_zero, List.set_cons_succ, i64_w, i32_w]
    rfl
  refine join_ (σ := (Option Addr × Nat) × (Option Addr × Nat) × Nat × Nat) 2 #[true, true, true, true, true, true, false, false] (fun p => [(24, .agg #[.int .i64 k, .bool e, .string t, .slice p.1.1 l.length p.1.2]), (26, .agg #[.int .i64 sk, .bool se, .string st, .slice p.2.1.1 sl.length p.2.1.2]), (7, .pointer (some ⟨p.2.2.1, 0, none⟩)), (8, .pointer (some ⟨p.2.2.2, 0, none⟩))]) (fun p w' => P2 w bn A c k e t l bs As cs sk se st sl (some p.1) (some p.2.1) (some p.2.2.1) (some p.2.2.2) w') ?_ ?_
  rotate_left
  · intro hCont
    refine three_ (i := 1) (j := 4) (k := 5) (Ni := some 24) (Nj := some 7) (Nk := some 8) #[true, true, true, false, false, false, false, false] #[true, false, true, false, true, false, false, false] #[true, false, true, false, false, true, false, false] rfl rfl rfl rfl rfl rfl (by kernel_rfl) (by decide) (by decide) (by decide) (fun K hK => ?_) (fun K hK => ?_) (fun K hK => ?_)
    · skip
      refine goes_ Tryd.func23 (by kernel_rfl) rfl #[.agg #[.int .i64 k, .bool e, .string t, .slice A l.length c]] (by rfl) rfl rfl (by (try simp only [List.map_toArray, List.map_cons, List.map_nil]); first | done | rfl) ?_
      refine (cloneO (Good.fit HN.out) Q0.out.nn.row Q0.out.nn.len).mono ?_
      rintro o X1 ⟨A1, c1, rfl, hO, hb⟩
      have Q1 := Aside0.mk (Q0.out.callA hO hb)
      clear hO hb
      refine ⟨_, rfl, ?_⟩
      obtain ⟨⟨u0, u1, u2, u3⟩, u4⟩ := Q1.out.cells
      refine hK.out _ _ ⟨u0, u1, u2, u3, u4⟩ (fun _ => ?_)
      clear hK K u0 u1 u2 u3 u4
      refine norm_ (a' := ?_) ?_ ?_
      rotate_left
      · show Act.put _ (some 24) _ = _
        simp only [Act.put, List.setIfInBounds_toArray, List.set_cons_zero, List.set_cons_succ]
        rfl
      refine three_ (i := 3) (j := 4) (k := 5) (Ni := some 26) (Nj := some 7) (Nk := some 8) #[true, true, true, true, false, false, false, false] #[true, true, true, false, true, false, false, false] #[true, true, true, false, false, true, false, false] rfl rfl rfl rfl rfl rfl (by kernel_rfl) (by decide) (by decide) (by decide) (fun K hK => ?_) (fun K hK => ?_) (fun K hK => ?_)
      · skip
        refine goes_ Tryd.func23 (by kernel_rfl) rfl #[.agg #[.int .i64 sk, .bool se, .string st, .slice As sl.length cs]] (by rfl) rfl rfl (by (try simp only [List.map_toArray, List.map_cons, List.map_nil]); first | done | rfl) ?_
        refine (cloneO (Good.fit HS.out) Q1.out.ns.row Q1.out.ns.len).mono ?_
        rintro o X2 ⟨A2, c2, rfl, hO, hb⟩
        have Q2 := Aside0.mk (Q1.out.callB hO hb)
        clear hO hb
        refine ⟨_, rfl, ?_⟩
        obtain ⟨⟨u0, u1, u2, u3⟩, u4⟩ := Q2.out.cells
        refine hK.out _ _ ⟨u0, u1, u2, u3, u4⟩ (fun _ => ?_)
        clear hK K u0 u1 u2 u3 u4
        refine norm_ (a' := ?_) ?_ ?_
        rotate_left
        · show Act.put _ (some 26) _ = _
          simp only [Act.put, List.setIfInBounds_toArray, List.set_cons_zero, List.set_cons_succ]
          rfl
        refine two_ (i := 4) (j := 5) (Ni := some 7) (Nj := some 8) #[true, true, true, true, true, false, false, false] #[true, true, true, true, false, true, false, false] rfl rfl rfl rfl (by kernel_rfl) (by decide) (by decide) (fun K hK => ?_) (fun K hK => ?_)
        · skip
          refine value_ (v := .pointer (some ⟨X2.heap.size, 0, none⟩)) (w1 := X2.alloc zeroC) (by rfl) rfl ?_ ?_
          · first | rfl | (go_simp; done) | kernel_rfl
          have Q3 := Aside0.mk (Q2.out.allocA)
          generalize X2.alloc zeroC = X3 at *
          obtain ⟨⟨u0, u1, u2, u3⟩, u4⟩ := Q3.out.cells
          refine hK.out _ _ ⟨u0, u1, u2, u3, u4⟩ (fun _ => ?_)
          clear hK K u0 u1 u2 u3 u4
          refine norm_ (a' := ?_) ?_ ?_
          rotate_left
          · show Act.put _ (some 7) _ = _
            simp only [Act.put, List.setIfInBounds_toArray, List.set_cons_zero, List.set_cons_succ]
            rfl
          refine one_ (i := 5) (N := some 8) #[true, true, true, true, true, true, false, false] rfl rfl (by kernel_rfl) (by decide) (fun K hK => ?_)
          refine value_ (v := .pointer (some ⟨X3.heap.size, 0, none⟩)) (w1 := X3.alloc zeroC) (by rfl) rfl ?_ ?_
          · first | rfl | (go_simp; done) | kernel_rfl
          have Q4 := Aside0.mk (Q3.out.allocB)
          generalize X3.alloc zeroC = X4 at *
          obtain ⟨⟨u0, u1, u2, u3⟩, u4⟩ := Q4.out.cells
          refine hK.out _ _ ⟨u0, u1, u2, u3, u4⟩ (fun _ => ?_)
          clear hK K u0 u1 u2 u3 u4
          refine norm_ (a' := ?_) ?_ ?_
          rotate_left
          · show Act.put _ (some 8) _ = _
            simp only [Act.put, List.setIfInBounds_toArray, List.set_cons_zero, List.set_cons_succ]
            rfl
          exact norm_ (by first | (simp only [putAll, Act.put, List.setIfInBounds_toArray, List.set_cons_zero, List.set_cons_succ]; done) | (simp only [putAll, Act.put, List.setIfInBounds_toArray, List.set_cons_zero, List.set_cons_succ]; rfl)) (hCont ((A1, c1), (A2, c2), X2.heap.size, X3.heap.size) _ Q4.out)
        · skip
          refine value_ (v := .pointer (some ⟨X2.heap.size, 0, none⟩)) (w1 := X2.alloc zeroC) (by rfl) rfl ?_ ?_
          · first | rfl | (go_simp; done) | kernel_rfl
          have Q5 := Aside0.mk (Q2.out.allocB)
          generalize X2.alloc zeroC = X5 at *
          obtain ⟨⟨u0, u1, u2, u3⟩, u4⟩ := Q5.out.cells
          refine hK.out _ _ ⟨u0, u1, u2, u3, u4⟩ (fun _ => ?_)
          clear hK K u0 u1 u2 u3 u4
          refine norm_ (a' := ?_) ?_ ?_
          rotate_left
          · show Act.put _ (some 8) _ = _
            simp only [Act.put, List.setIfInBounds_toArray, List.set_cons_zero, List.set_cons_succ]
            rfl
          refine one_ (i := 4) (N := some 7) #[true, true, true, true, true, true, false, false] rfl rfl (by kernel_rfl) (by decide) (fun K hK => ?_)
          refine value_ (v := .pointer (some ⟨X5.heap.size, 0, none⟩)) (w1 := X5.alloc zeroC) (by rfl) rfl ?_ ?_
          · first | rfl | (go_simp; done) | kernel_rfl
          have Q6 := Aside0.mk (Q5.out.allocA)
          generalize X5.alloc zeroC = X6 at *
          obtain ⟨⟨u0, u1, u2, u3⟩, u4⟩ := Q6.out.cells
          refine hK.out _ _ ⟨u0, u1, u2, u3, u4⟩ (fun _ => ?_)
          clear hK K u0 u1 u2 u3 u4
          refine norm_ (a' := ?_) ?_ ?_
          rotate_left
          · show Act.put _ (some 7) _ = _
            simp only [Act.put, List.setIfInBounds_toArray, List.set_cons_zero, List.set_cons_succ]
            rfl
          exact norm_ (by first | (simp only [putAll, Act.put, List.setIfInBounds_toArray, List.set_cons_zero, List.set_cons_succ]; done) | (simp only [putAll, Act.put, List.setIfInBounds_toArray, List.set_cons_zero, List.set_cons_succ]; rfl)) (hCont ((A1, c1), (A2, c2), X5.heap.size, X2.heap.size) _ Q6.out)
      · skip
        refine value_ (v := .pointer (some ⟨X1.heap.size, 0, none⟩)) (w1 := X1.alloc zeroC) (by rfl) rfl ?_ ?_
        · first | rfl | (go_simp; done) | kernel_rfl
        have Q7 := Aside0.mk (Q1.out.allocA)
        generalize X1.alloc zeroC = X7 at *
        obtain ⟨⟨u0, u1, u2, u3⟩, u4⟩ := Q7.out.cells
        refine hK.out _ _ ⟨u0, u1, u2, u3, u4⟩ (fun _ => ?_)
        clear hK K u0 u1 u2 u3 u4
        refine norm_ (a' := ?_) ?_ ?_
        rotate_left
        · show Act.put _ (some 7) _ = _
          simp only [Act.put, List.setIfInBounds_toArray, List.set_cons_zero, List.set_cons_succ]
          rfl
        refine two_ (i := 3) (j := 5) (Ni := some 26) (Nj := some 8) #[true, true, true, true, true, false, false, false] #[true, true, true, false, true, true, false, false] rfl rfl rfl rfl (by kernel_rfl) (by decide) (by decide) (fun K hK => ?_) (fun K hK => ?_)
        · skip
          refine goes_ Tryd.func23 (by kernel_rfl) rfl #[.agg #[.int .i64 sk, .bool se, .string st, .slice As sl.length cs]] (by rfl) rfl rfl (by (try simp only [List.map_toArray, List.map_cons, List.map_nil]); first | done | rfl) ?_
          refine (cloneO (Good.fit HS.out) Q7.out.ns.row Q7.out.ns.len).mono ?_
          rintro o X8 ⟨A8, c8, rfl, hO, hb⟩
          have Q8 := Aside0.mk (Q7.out.callB hO hb)
          clear hO hb
          refine ⟨_, rfl, ?_⟩
          obtain ⟨⟨u0, u1, u2, u3⟩, u4⟩ := Q8.out.cells
          refine hK.out _ _ ⟨u0, u1, u2, u3, u4⟩ (fun _ => ?_)
          clear hK K u0 u1 u2 u3 u4
          refine norm_ (a' := ?_) ?_ ?_
          rotate_left
          · show Act.put _ (some 26) _ = _
            simp only [Act.put, List.setIfInBounds_toArray, List.set_cons_zero, List.set_cons_succ]
            rfl
          refine one_ (i := 5) (N := some 8) #[true, true, true, true, true, true, false, false] rfl rfl (by kernel_rfl) (by decide) (fun K hK => ?_)
          refine value_ (v := .pointer (some ⟨X8.heap.size, 0, none⟩)) (w1 := X8.alloc zeroC) (by rfl) rfl ?_ ?_
          · first | rfl | (go_simp; done) | kernel_rfl
          have Q9 := Aside0.mk (Q8.out.allocB)
          generalize X8.alloc zeroC = X9 at *
          obtain ⟨⟨u0, u1, u2, u3⟩, u4⟩ := Q9.out.cells
          refine hK.out _ _ ⟨u0, u1, u2, u3, u4⟩ (fun _ => ?_)
          clear hK K u0 u1 u2 u3 u4
          refine norm_ (a' := ?_) ?_ ?_
          rotate_left
          · show Act.put _ (some 8) _ = _
            simp only [Act.put, List.setIfInBounds_toArray, List.set_cons_zero, List.set_cons_succ]
            rfl
          exact norm_ (by first | (simp only [putAll, Act.put, List.setIfInBounds_toArray, List.set_cons_zero, List.set_cons_succ]; done) | (simp only [putAll, Act.put, List.setIfInBounds_toArray, List.set_cons_zero, List.set_cons_succ]; rfl)) (hCont ((A1, c1), (A8, c8), X1.heap.size, X8.heap.size) _ Q9.out)
        · skip
          refine value_ (v := .pointer (some ⟨X7.heap.size, 0, none⟩)) (w1 := X7.alloc zeroC) (by rfl) rfl ?_ ?_
          · first | rfl | (go_simp; done) | kernel_rfl
          have Q10 := Aside0.mk (Q7.out.allocB)
          generalize X7.alloc zeroC = X10 at *
          obtain ⟨⟨u0, u1, u2, u3⟩, u4⟩ := Q10.out.cells
          refine hK.out _ _ ⟨u0, u1, u2, u3, u4⟩ (fun _ => ?_)
          clear hK K u0 u1 u2 u3 u4
          refine norm_ (a' := ?_) ?_ ?_
          rotate_left
          · show Act.put _ (some 8) _ = _
            simp only [Act.put, List.setIfInBounds_toArray, List.set_cons_zero, List.set_cons_succ]
            rfl
          refine one_ (i := 3) (N := some 26) #[true, true, true, true, true, true, false, false] rfl rfl (by kernel_rfl) (by decide) (fun K hK => ?_)
          refine goes_ Tryd.func23 (by kernel_rfl) rfl #[.agg #[.int .i64 sk, .bool se, .string st, .slice As sl.length cs]] (by rfl) rfl rfl (by (try simp only [List.map_toArray, List.map_cons, List.map_nil]); first | done | rfl) ?_
          refine (cloneO (Good.fit HS.out) Q10.out.ns.row Q10.out.ns.len).mono ?_
          rintro o X11 ⟨A11, c11, rfl, hO, hb⟩
          have Q11 := Aside0.mk (Q10.out.callB hO hb)
          clear hO hb
          refine ⟨_, rfl, ?_⟩
          obtain ⟨⟨u0, u1, u2, u3⟩, u4⟩ := Q11.out.cells
          refine hK.out _ _ ⟨u0, u1, u2, u3, u4⟩ (fun _ => ?_)
          clear hK K u0 u1 u2 u3 u4
          refine norm_ (a' := ?_) ?_ ?_
          rotate_left
          · show Act.put _ (some 26) _ = _
            simp only [Act.put, List.setIfInBounds_toArray, List.set_cons_zero, List.set_cons_succ]
            rfl
          exact norm_ (by first | (simp only [putAll, Act.put, List.setIfInBounds_toArray, List.set_cons_zero, List.set_cons_succ]; done) | (simp only [putAll, Act.put, List.setIfInBounds_toArray, List.set_cons_zero, List.set_cons_succ]; rfl)) (hCont ((A1, c1), (A11, c11), X1.heap.size, X7.heap.size) _ Q11.out)
      · skip
        refine value_ (v := .pointer (some ⟨X1.heap.size, 0, none⟩)) (w1 := X1.alloc zeroC) (by rfl) rfl ?_ ?_
        · first | rfl | (go_simp; done) | kernel_rfl
        have Q12 := Aside0.mk (Q1.out.allocB)
        generalize X1.alloc zeroC = X12 at *
        obtain ⟨⟨u0, u1, u2, u3⟩, u4⟩ := Q12.out.cells
        refine hK.out _ _ ⟨u0, u1, u2, u3, u4⟩ (fun _ => ?_)
        clear hK K u0 u1 u2 u3 u4
        refine norm_ (a' := ?_) ?_ ?_
        rotate_left
        · show Act.put _ (some 8) _ = _
          simp only [Act.put, List.setIfInBounds_toArray, List.set_cons_zero, List.set_cons_succ]
          rfl
        refine two_ (i := 3) (j := 4) (Ni := some 26) (Nj := some 7) #[true, true, true, true, false, true, false, false] #[true, true, true, false, true, true, false, false] rfl rfl rfl rfl (by kernel_rfl) (by decide) (by decide) (fun K hK => ?_) (fun K hK => ?_)
        · skip
          refine goes_ Tryd.func23 (by kernel_rfl) rfl #[.agg #[.int .i64 sk, .bool se, .string st, .slice As sl.length cs]] (by rfl) rfl rfl (by (try simp only [List.map_toArray, List.map_cons, List.map_nil]); first | done | rfl) ?_
          refine (cloneO (Good.fit HS.out) Q12.out.ns.row Q12.out.ns.len).mono ?_
          rintro o X13 ⟨A13, c13, rfl, hO, hb⟩
          have Q13 := Aside0.mk (Q12.out.callB hO hb)
          clear hO hb
          refine ⟨_, rfl, ?_⟩
          obtain ⟨⟨u0, u1, u2, u3⟩, u4⟩ := Q13.out.cells
          refine hK.out _ _ ⟨u0, u1, u2, u3, u4⟩ (fun _ => ?_)
          clear hK K u0 u1 u2 u3 u4
          refine norm_ (a' := ?_) ?_ ?_
          rotate_left
          · show Act.put _ (some 26) _ = _
            simp only [Act.put, List.setIfInBounds_toArray, List.set_cons_zero, List.set_cons_succ]
            rfl
          refine one_ (i := 4) (N := some 7) #[true, true, true, true, true, true, false, false] rfl rfl (by kernel_rfl) (by decide) (fun K hK => ?_)
          refine value_ (v := .pointer (some ⟨X13.heap.size, 0, none⟩)) (w1 := X13.alloc zeroC) (by rfl) rfl ?_ ?_
          · first | rfl | (go_simp; done) | kernel_rfl
          have Q14 := Aside0.mk (Q13.out.allocA)
          generalize X13.alloc zeroC = X14 at *
          obtain ⟨⟨u0, u1, u2, u3⟩, u4⟩ := Q14.out.cells
          refine hK.out _ _ ⟨u0, u1, u2, u3, u4⟩ (fun _ => ?_)
          clear hK K u0 u1 u2 u3 u4
          refine norm_ (a' := ?_) ?_ ?_
          rotate_left
          · show Act.put _ (some 7) _ = _
            simp only [Act.put, List.setIfInBounds_toArray, List.set_cons_zero, List.set_cons_succ]
            rfl
          exact norm_ (by first | (simp only [putAll, Act.put, List.setIfInBounds_toArray, List.set_cons_zero, List.set_cons_succ]; done) | (simp only [putAll, Act.put, List.setIfInBounds_toArray, List.set_cons_zero, List.set_cons_succ]; rfl)) (hCont ((A1, c1), (A13, c13), X13.heap.size, X1.heap.size) _ Q14.out)
        · skip
          refine value_ (v := .pointer (some ⟨X12.heap.size, 0, none⟩)) (w1 := X12.alloc zeroC) (by rfl) rfl ?_ ?_
          · first | rfl | (go_simp; done) | kernel_rfl
          have Q15 := Aside0.mk (Q12.out.allocA)
          generalize X12.alloc zeroC = X15 at *
          obtain ⟨⟨u0, u1, u2, u3⟩, u4⟩ := Q15.out.cells
          refine hK.out _ _ ⟨u0, u1, u2, u3, u4⟩ (fun _ => ?_)
          clear hK K u0 u1 u2 u3 u4
          refine norm_ (a' := ?_) ?_ ?_
          rotate_left
          · show Act.put _ (some 7) _ = _
            simp only [Act.put, List.setIfInBounds_toArray, List.set_cons_zero, List.set_cons_succ]
            rfl
          refine one_ (i := 3) (N := some 26) #[true, true, true, true, true, true, false, false] rfl rfl (by kernel_rfl) (by decide) (fun K hK => ?_)
          refine goes_ Tryd.func23 (by kernel_rfl) rfl #[.agg #[.int .i64 sk, .bool se, .string st, .slice As sl.length cs]] (by rfl) rfl rfl (by (try simp only [List.map_toArray, List.map_cons, List.map_nil]); first | done | rfl) ?_
          refine (cloneO (Good.fit HS.out) Q15.out.ns.row Q15.out.ns.len).mono ?_
          rintro o X16 ⟨A16, c16, rfl, hO, hb⟩
          have Q16 := Aside0.mk (Q15.out.callB hO hb)
          clear hO hb
          refine ⟨_, rfl, ?_⟩
          obtain ⟨⟨u0, u1, u2, u3⟩, u4⟩ := Q16.out.cells
          refine hK.out _ _ ⟨u0, u1, u2, u3, u4⟩ (fun _ => ?_)
          clear hK K u0 u1 u2 u3 u4
          refine norm_ (a' := ?_) ?_ ?_
          rotate_left
          · show Act.put _ (some 26) _ = _
            simp only [Act.put, List.setIfInBounds_toArray, List.set_cons_zero, List.set_cons_succ]
            rfl
          exact norm_ (by first | (simp only [putAll, Act.put, List.setIfInBounds_toArray, List.set_cons_zero, List.set_cons_succ]; done) | (simp only [putAll, Act.put, List.setIfInBounds_toArray, List.set_cons_zero, List.set_cons_succ]; rfl)) (hCont ((A1, c1), (A16, c16), X12.heap.size, X1.heap.size) _ Q16.out)
    · skip
      refine value_ (v := .pointer (some ⟨X0.heap.size, 0, none⟩)) (w1 := X0.alloc zeroC) (by rfl) rfl ?_ ?_
      · first | rfl | (go_simp; done) | kernel_rfl
      have Q17 := Aside0.mk (Q0.out.allocA)
      generalize X0.alloc zeroC = X17 at *
      obtain ⟨⟨u0, u1, u2, u3⟩, u4⟩ := Q17.out.cells
      refine hK.out _ _ ⟨u0, u1, u2, u3, u4⟩ (fun _ => ?_)
      clear hK K u0 u1 u2 u3 u4
      refine norm_ (a' := ?_) ?_ ?_
      rotate_left
      · show Act.put _ (some 7) _ = _
        simp only [Act.put, List.setIfInBounds_toArray, List.set_cons_zero, List.set_cons_succ]
        rfl
      refine two_ (i := 1) (j := 5) (Ni := some 24) (Nj := some 8) #[true, true, true, false, true, false, false, false] #[true, false, true, false, true, true, false, false] rfl rfl rfl rfl (by kernel_rfl) (by decide) (by decide) (fun K hK => ?_) (fun K hK => ?_)
      · skip
        refine goes_ Tryd.func23 (by kernel_rfl) rfl #[.agg #[.int .i64 k, .bool e, .string t, .slice A l.length c]] (by rfl) rfl rfl (by (try simp only [List.map_toArray, List.map_cons, List.map_nil]); first | done | rfl) ?_
        refine (cloneO (Good.fit HN.out) Q17.out.nn.row Q17.out.nn.len).mono ?_
        rintro o X18 ⟨A18, c18, rfl, hO, hb⟩
        have Q18 := Aside0.mk (Q17.out.callA hO hb)
        clear hO hb
        refine ⟨_, rfl, ?_⟩
        obtain ⟨⟨u0, u1, u2, u3⟩, u4⟩ := Q18.out.cells
        refine hK.out _ _ ⟨u0, u1, u2, u3, u4⟩ (fun _ => ?_)
        clear hK K u0 u1 u2 u3 u4
        refine norm_ (a' := ?_) ?_ ?_
        rotate_left
        · show Act.put _ (some 24) _ = _
          simp only [Act.put, List.setIfInBounds_toArray, List.set_cons_zero, List.set_cons_succ]
          rfl
        refine two_ (i := 3) (j := 5) (Ni := some 26) (Nj := some 8) #[true, true, true, true, true, false, false, false] #[true, true, true, false, true, true, false, false] rfl rfl rfl rfl (by kernel_rfl) (by decide) (by decide) (fun K hK => ?_) (fun K hK => ?_)
        · skip
          refine goes_ Tryd.func23 (by kernel_rfl) rfl #[.agg #[.int .i64 sk, .bool se, .string st, .slice As sl.length cs]] (by rfl) rfl rfl (by (try simp only [List.map_toArray, List.map_cons, List.map_nil]); first | done | rfl) ?_
          refine (cloneO (Good.fit HS.out) Q18.out.ns.row Q18.out.ns.len).mono ?_
          rintro o X19 ⟨A19, c19, rfl, hO, hb⟩
          have Q19 := Aside0.mk (Q18.out.callB hO hb)
          clear hO hb
          refine ⟨_, rfl, ?_⟩
          obtain ⟨⟨u0, u1, u2, u3⟩, u4⟩ := Q19.out.cells
          refine hK.out _ _ ⟨u0, u1, u2, u3, u4⟩ (fun _ => ?_)
          clear hK K u0 u1 u2 u3 u4
          refine norm_ (a' := ?_) ?_ ?_
          rotate_left
          · show Act.put _ (some 26) _ = _
            simp only [Act.put, List.setIfInBounds_toArray, List.set_cons_zero, List.set_cons_succ]
            rfl
          refine one_ (i := 5) (N := some 8) #[true, true, true, true, true, true, false, false] rfl rfl (by kernel_rfl) (by decide) (fun K hK => ?_)
          refine value_ (v := .pointer (some ⟨X19.heap.size, 0, none⟩)) (w1 := X19.alloc zeroC) (by rfl) rfl ?_ ?_
          · first | rfl | (go_simp; done) | kernel_rfl
          have Q20 := Aside0.mk (Q19.out.allocB)
          generalize X19.alloc zeroC = X20 at *
          obtain ⟨⟨u0, u1, u2, u3⟩, u4⟩ := Q20.out.cells
          refine hK.out _ _ ⟨u0, u1, u2, u3, u4⟩ (fun _ => ?_)
          clear hK K u0 u1 u2 u3 u4
          refine norm_ (a' := ?_) ?_ ?_
          rotate_left
          · show Act.put _ (some 8) _ = _
            simp only [Act.put, List.setIfInBounds_toArray, List.set_cons_zero, List.set_cons_succ]
            rfl
          exact norm_ (by first | (simp only [putAll, Act.put, List.setIfInBounds_toArray, List.set_cons_zero, List.set_cons_succ]; done) | (simp only [putAll, Act.put, List.setIfInBounds_toArray, List.set_cons_zero, List.set_cons_succ]; rfl)) (hCont ((A18, c18), (A19, c19), X0.heap.size, X19.heap.size) _ Q20.out)
        · skip
          refine value_ (v := .pointer (some ⟨X18.heap.size, 0, none⟩)) (w1 := X18.alloc zeroC) (by rfl) rfl ?_ ?_
          · first | rfl | (go_simp; done) | kernel_rfl
          have Q21 := Aside0.mk (Q18.out.allocB)
          generalize X18.alloc zeroC = X21 at *
          obtain ⟨⟨u0, u1, u2, u3⟩, u4⟩ := Q21.out.cells
          refine hK.out _ _ ⟨u0, u1, u2, u3, u4⟩ (fun _ => ?_)
          clear hK K u0 u1 u2 u3 u4
          refine norm_ (a' := ?_) ?_ ?_
          rotate_left
          · show Act.put _ (some 8) _ = _
            simp only [Act.put, List.setIfInBounds_toArray, List.set_cons_zero, List.set_cons_succ]
            rfl
          refine one_ (i := 3) (N := some 26) #[true, true, true, true, true, true, false, false] rfl rfl (by kernel_rfl) (by decide) (fun K hK => ?_)
          refine goes_ Tryd.func23 (by kernel_rfl) rfl #[.agg #[.int .i64 sk, .bool se, .string st, .slice As sl.length cs]] (by rfl) rfl rfl (by (try simp only [List.map_toArray, List.map_cons, List.map_nil]); first | done | rfl) ?_
          refine (cloneO (Good.fit HS.out) Q21.out.ns.row Q21.out.ns.len).mono ?_
          rintro o X22 ⟨A22, c22, rfl, hO, hb⟩
          have Q22 := Aside0.mk (Q21.out.callB hO hb)
          clear hO hb
          refine ⟨_, rfl, ?_⟩
          obtain ⟨⟨u0, u1, u2, u3⟩, u4⟩ := Q22.out.cells
          refine hK.out _ _ ⟨u0, u1, u2, u3, u4⟩ (fun _ => ?_)
          clear hK K u0 u1 u2 u3 u4
          refine norm_ (a' := ?_) ?_ ?_
          rotate_left
          · show Act.put _ (some 26) _ = _
            simp only [Act.put, List.setIfInBounds_toArray, List.set_cons_zero, List.set_cons_succ]
            rfl
          exact norm_ (by first | (simp only [putAll, Act.put, List.setIfInBounds_toArray, List.set_cons_zero, List.set_cons_succ]; done) | (simp only [putAll, Act.put, List.setIfInBounds_toArray, List.set_cons_zero, List.set_cons_succ]; rfl)) (hCont ((A18, c18), (A22, c22), X0.heap.size, X18.heap.size) _ Q22.out)
      · skip
        refine value_ (v := .pointer (some ⟨X17.heap.size, 0, none⟩)) (w1 := X17.alloc zeroC) (by rfl) rfl ?_ ?_
        · first | rfl | (go_simp; done) | kernel_rfl
        have Q23 := Aside0.mk (Q17.out.allocB)
        generalize X17.alloc zeroC = X23 at *
        obtain ⟨⟨u0, u1, u2, u3⟩, u4⟩ := Q23.out.cells
        refine hK.out _ _ ⟨u0, u1, u2, u3, u4⟩ (fun _ => ?_)
        clear hK K u0 u1 u2 u3 u4
        refine norm_ (a' := ?_) ?_ ?_
        rotate_left
        · show Act.put _ (some 8) _ = _
          simp only [Act.put, List.setIfInBounds_toArray, List.set_cons_zero, List.set_cons_succ]
          rfl
        refine one_ (i := 1) (N := some 24) #[true, true, true, false, true, true, false, false] rfl rfl (by kernel_rfl) (by decide) (fun K hK => ?_)
        refine goes_ Tryd.func23 (by kernel_rfl) rfl #[.agg #[.int .i64 k, .bool e, .string t, .slice A l.length c]] (by rfl) rfl rfl (by (try simp only [List.map_toArray, List.map_cons, List.map_nil]); first | done | rfl) ?_
        refine (cloneO (Good.fit HN.out) Q23.out.nn.row Q23.out.nn.len).mono ?_
        rintro o X24 ⟨A24, c24, rfl, hO, hb⟩
        have Q24 := Aside0.mk (Q23.out.callA hO hb)
        clear hO hb
        refine ⟨_, rfl, ?_⟩
        obtain ⟨⟨u0, u1, u2, u3⟩, u4⟩ := Q24.out.cells
        refine hK.out _ _ ⟨u0, u1, u2, u3, u4⟩ (fun _ => ?_)
        clear hK K u0 u1 u2 u3 u4
        refine norm_ (a' := ?_) ?_ ?_
        rotate_left
        · show Act.put _ (some 24) _ = _
          simp only [Act.put, List.setIfInBounds_toArray, List.set_cons_zero, List.set_cons_succ]
          rfl
        refine one_ (i := 3) (N := some 26) #[true, true, true, true, true, true, false, false] rfl rfl (by kernel_rfl) (by decide) (fun K hK => ?_)
        refine goes_ Tryd.func23 (by kernel_rfl) rfl #[.agg #[.int .i64 sk, .bool se, .string st, .slice As sl.length cs]] (by rfl) rfl rfl (by (try simp only [List.map_toArray, List.map_cons, List.map_nil]); first | done | rfl) ?_
        refine (cloneO (Good.fit HS.out) Q24.out.ns.row Q24.out.ns.len).mono ?_
        rintro o X25 ⟨A25, c25, rfl, hO, hb⟩
        have Q25 := Aside0.mk (Q24.out.callB hO hb)
        clear hO hb
        refine ⟨_, rfl, ?_⟩
        obtain ⟨⟨u0, u1, u2, u3⟩, u4⟩ := Q25.out.cells
        refine hK.out _ _ ⟨u0, u1, u2, u3, u4⟩ (fun _ => ?_)
        clear hK K u0 u1 u2 u3 u4
        refine norm_ (a' := ?_) ?_ ?_
        rotate_left
        · show Act.put _ (some 26) _ = _
          simp only [Act.put, List.setIfInBounds_toArray, List.set_cons_zero, List.set_cons_succ]
          rfl
        exact norm_ (by first | (simp only [putAll, Act.put, List.setIfInBounds_toArray, List.set_cons_zero, List.set_cons_succ]; done) | (simp only [putAll, Act.put, List.setIfInBounds_toArray, List.set_cons_zero, List.set_cons_succ]; rfl)) (hCont ((A24, c24), (A25, c25), X0.heap.size, X17.heap.size) _ Q25.out)
    · skip
      refine value_ (v := .pointer (some ⟨X0.heap.size, 0, none⟩)) (w1 := X0.alloc zeroC) (by rfl) rfl ?_ ?_
      · first | rfl | (go_simp; done) | kernel_rfl
      have Q26 := Aside0.mk (Q0.out.allocB)
      generalize X0.alloc zeroC = X26 at *
      obtain ⟨⟨u0, u1, u2, u3⟩, u4⟩ := Q26.out.cells
      refine hK.out _ _ ⟨u0, u1, u2, u3, u4⟩ (fun _ => ?_)
      clear hK K u0 u1 u2 u3 u4
      refine norm_ (a' := ?_) ?_ ?_
      rotate_left
      · show Act.put _ (some 8) _ = _
        simp only [Act.put, List.setIfInBounds_toArray, List.set_cons_zero, List.set_cons_succ]
        rfl
      refine two_ (i := 1) (j := 4) (Ni := some 24) (Nj := some 7) #[true, true, true, false, false, true, false, false] #[true, false, true, false, true, true, false, false] rfl rfl rfl rfl (by kernel_rfl) (by decide) (by decide) (fun K hK => ?_) (fun K hK => ?_)
      · skip
        refine goes_ Tryd.func23 (by kernel_rfl) rfl #[.agg #[.int .i64 k, .bool e, .string t, .slice A l.length c]] (by rfl) rfl rfl (by (try simp only [List.map_toArray, List.map_cons, List.map_nil]); first | done | rfl) ?_
        refine (cloneO (Good.fit HN.out) Q26.out.nn.row Q26.out.nn.len).mono ?_
        rintro o X27 ⟨A27, c27, rfl, hO, hb⟩
        have Q27 := Aside0.mk (Q26.out.callA hO hb)
        clear hO hb
        refine ⟨_, rfl, ?_⟩
        obtain ⟨⟨u0, u1, u2, u3⟩, u4⟩ := Q27.out.cells
        refine hK.out _ _ ⟨u0, u1, u2, u3, u4⟩ (fun _ => ?_)
        clear hK K u0 u1 u2 u3 u4
        refine norm_ (a' := ?_) ?_ ?_
        rotate_left
        · show Act.put _ (some 24) _ = _
          simp only [Act.put, List.setIfInBounds_toArray, List.set_cons_zero, List.set_cons_succ]
          rfl
        refine two_ (i := 3) (j := 4) (Ni := some 26) (Nj := some 7) #[true, true, true, true, false, true, false, false] #[true, true, true, false, true, true, false, false] rfl rfl rfl rfl (by kernel_rfl) (by decide) (by decide) (fun K hK => ?_) (fun K hK => ?_)
        · skip
          refine goes_ Tryd.func23 (by kernel_rfl) rfl #[.agg #[.int .i64 sk, .bool se, .string st, .slice As sl.length cs]] (by rfl) rfl rfl (by (try simp only [List.map_toArray, List.map_cons, List.map_nil]); first | done | rfl) ?_
          refine (cloneO (Good.fit HS.out) Q27.out.ns.row Q27.out.ns.len).mono ?_
          rintro o X28 ⟨A28, c28, rfl, hO, hb⟩
          have Q28 := Aside0.mk (Q27.out.callB hO hb)
          clear hO hb
          refine ⟨_, rfl, ?_⟩
          obtain ⟨⟨u0, u1, u2, u3⟩, u4⟩ := Q28.out.cells
          refine hK.out _ _ ⟨u0, u1, u2, u3, u4⟩ (fun _ => ?_)
          clear hK K u0 u1 u2 u3 u4
          refine norm_ (a' := ?_) ?_ ?_
          rotate_left
          · show Act.put _ (some 26) _ = _
            simp only [Act.put, List.setIfInBounds_toArray, List.set_cons_zero, List.set_cons_succ]
            rfl
          refine one_ (i := 4) (N := some 7) #[true, true, true, true, true, true, false, false] rfl rfl (by kernel_rfl) (by decide) (fun K hK => ?_)
          refine value_ (v := .pointer (some ⟨X28.heap.size, 0, none⟩)) (w1 := X28.alloc zeroC) (by rfl) rfl ?_ ?_
          · first | rfl | (go_simp; done) | kernel_rfl
          have Q29 := Aside0.mk (Q28.out.allocA)
          generalize X28.alloc zeroC = X29 at *
          obtain ⟨⟨u0, u1, u2, u3⟩, u4⟩ := Q29.out.cells
          refine hK.out _ _ ⟨u0, u1, u2, u3, u4⟩ (fun _ => ?_)
          clear hK K u0 u1 u2 u3 u4
          refine norm_ (a' := ?_) ?_ ?_
          rotate_left
          · show Act.put _ (some 7) _ = _
            simp only [Act.put, List.setIfInBounds_toArray, List.set_cons_zero, List.set_cons_succ]
            rfl
          exact norm_ (by first | (simp only [putAll, Act.put, List.setIfInBounds_toArray, List.set_cons_zero, List.set_cons_succ]; done) | (simp only [putAll, Act.put, List.setIfInBounds_toArray, List.set_cons_zero, List.set_cons_succ]; rfl)) (hCont ((A27, c27), (A28, c28), X28.heap.size, X0.heap.size) _ Q29.out)
        · skip
          refine value_ (v := .pointer (some ⟨X27.heap.size, 0, none⟩)) (w1 := X27.alloc zeroC) (by rfl) rfl ?_ ?_
          · first | rfl | (go_simp; done) | kernel_rfl
          have Q30 := Aside0.mk (Q27.out.allocA)
          generalize X27.alloc zeroC = X30 at *
          obtain ⟨⟨u0, u1, u2, u3⟩, u4⟩ := Q30.out.cells
          refine hK.out _ _ ⟨u0, u1, u2, u3, u4⟩ (fun _ => ?_)
          clear hK K u0 u1 u2 u3 u4
          refine norm_ (a' := ?_) ?_ ?_
          rotate_left
          · show Act.put _ (some 7) _ = _
            simp only [Act.put, List.setIfInBounds_toArray, List.set_cons_zero, List.set_cons_succ]
            rfl
          refine one_ (i := 3) (N := some 26) #[true, true, true, true, true, true, false, false] rfl rfl (by kernel_rfl) (by decide) (fun K hK => ?_)
          refine goes_ Tryd.func23 (by kernel_rfl) rfl #[.agg #[.int .i64 sk, .bool se, .string st, .slice As sl.length cs]] (by rfl) rfl rfl (by (try simp only [List.map_toArray, List.map_cons, List.map_nil]); first | done | rfl) ?_
          refine (cloneO (Good.fit HS.out) Q30.out.ns.row Q30.out.ns.len).mono ?_
          rintro o X31 ⟨A31, c31, rfl, hO, hb⟩
          have Q31 := Aside0.mk (Q30.out.callB hO hb)
          clear hO hb
          refine ⟨_, rfl, ?_⟩
          obtain ⟨⟨u0, u1, u2, u3⟩, u4⟩ := Q31.out.cells
          refine hK.out _ _ ⟨u0, u1, u2, u3, u4⟩ (fun _ => ?_)
          clear hK K u0 u1 u2 u3 u4
          refine norm_ (a' := ?_) ?_ ?_
          rotate_left
          · show Act.put _ (some 26) _ = _
            simp only [Act.put, List.setIfInBounds_toArray, List.set_cons_zero, List.set_cons_succ]
            rfl
          exact norm_ (by first | (simp only [putAll, Act.put, List.setIfInBounds_toArray, List.set_cons_zero, List.set_cons_succ]; done) | (simp only [putAll, Act.put, List.setIfInBounds_toArray, List.set_cons_zero, List.set_cons_succ]; rfl)) (hCont ((A27, c27), (A31, c31), X27.heap.size, X0.heap.size) _ Q31.out)
      · skip
        refine value_ (v := .pointer (some ⟨X26.heap.size, 0, none⟩)) (w1 := X26.alloc zeroC) (by rfl) rfl ?_ ?_
        · first | rfl | (go_simp; done) | kernel_rfl
        have Q32 := Aside0.mk (Q26.out.allocA)
        generalize X26.alloc zeroC = X32 at *
        obtain ⟨⟨u0, u1, u2, u3⟩, u4⟩ := Q32.out.cells
        refine hK.out _ _ ⟨u0, u1, u2, u3, u4⟩ (fun _ => ?_)
        clear hK K u0 u1 u2 u3 u4
        refine norm_ (a' := ?_) ?_ ?_
        rotate_left
        · show Act.put _ (some 7) _ = _
          simp only [Act.put, List.setIfInBounds_toArray, List.set_cons_zero, List.set_cons_succ]
          rfl
        refine one_ (i := 1) (N := some 24) #[true, true, true, false, true, true, false, false] rfl rfl (by kernel_rfl) (by decide) (fun K hK => ?_)
        refine goes_ Tryd.func23 (by kernel_rfl) rfl #[.agg #[.int .i64 k, .bool e, .string t, .slice A l.length c]] (by rfl) rfl rfl (by (try simp only [List.map_toArray, List.map_cons, List.map_nil]); first | done | rfl) ?_
        refine (cloneO (Good.fit HN.out) Q32.out.nn.row Q32.out.nn.len).mono ?_
        rintro o X33 ⟨A33, c33, rfl, hO, hb⟩
        have Q33 := Aside0.mk (Q32.out.callA hO hb)
        clear hO hb
        refine ⟨_, rfl, ?_⟩
        obtain ⟨⟨u0, u1, u2, u3⟩, u4⟩ := Q33.out.cells
        refine hK.out _ _ ⟨u0, u1, u2, u3, u4⟩ (fun _ => ?_)
        clear hK K u0 u1 u2 u3 u4
        refine norm_ (a' := ?_) ?_ ?_
        rotate_left
        · show Act.put _ (some 24) _ = _
          simp only [Act.put, List.setIfInBounds_toArray, List.set_cons_zero, List.set_cons_succ]
          rfl
        refine one_ (i := 3) (N := some 26) #[true, true, true, true, true, true, false, false] rfl rfl (by kernel_rfl) (by decide) (fun K hK => ?_)
        refine goes_ Tryd.func23 (by kernel_rfl) rfl #[.agg #[.int .i64 sk, .bool se, .string st, .slice As sl.length cs]] (by rfl) rfl rfl (by (try simp only [List.map_toArray, List.map_cons, List.map_nil]); first | done | rfl) ?_
        refine (cloneO (Good.fit HS.out) Q33.out.ns.row Q33.out.ns.len).mono ?_
        rintro o X34 ⟨A34, c34, rfl, hO, hb⟩
        have Q34 := Aside0.mk (Q33.out.callB hO hb)
        clear hO hb
        refine ⟨_, rfl, ?_⟩
        obtain ⟨⟨u0, u1, u2, u3⟩, u4⟩ := Q34.out.cells
        refine hK.out _ _ ⟨u0, u1, u2, u3, u4⟩ (fun _ => ?_)
        clear hK K u0 u1 u2 u3 u4
        refine norm_ (a' := ?_) ?_ ?_
        rotate_left
        · show Act.put _ (some 26) _ = _
          simp only [Act.put, List.setIfInBounds_toArray, List.set_cons_zero, List.set_cons_succ]
          rfl
        exact norm_ (by first | (simp only [putAll, Act.put, List.setIfInBounds_toArray, List.set_cons_zero, List.set_cons_succ]; done) | (simp only [putAll, Act.put, List.setIfInBounds_toArray, List.set_cons_zero, List.set_cons_succ]; rfl)) (hCont ((A33, c33), (A34, c34), X26.heap.size, X0.heap.size) _ Q34.out)
  rintro ⟨⟨Aa, ca⟩, ⟨Ab, cb⟩, ba, bb⟩ X hQ
  clear Q0 hHeld
  have HQ := Aside0.mk hQ
  clear hQ
  refine norm_ (a' := ?_) ?_ ?_
  rotate_left
  · simp only [putAll, Act.put, List.setIfInBounds_toArray, List.set_cons_zero, List.set_cons_succ]
    rfl
  obtain ⟨hza, hBa⟩ := HQ.out.za ba rfl
  obtain ⟨hzb, hBb⟩ := HQ.out.zb bb rfl
  have hab := HQ.out.ne ba bb rfl rfl
  obtain ⟨fa, fb, hfa, hfb, hfd, hoa, hob⟩ := HQ.out.foot
  have hoa := hoa _ rfl
  have hob := hob _ rfl
  have NN := Aside0.mk HQ.out.nn
  have NS := Aside0.mk HQ.out.ns
  have HB := Aside0.mk HQ.out.below
  have HBa := Aside0.mk hBa
  have HBb := Aside0.mk hBb
  have HOa := Aside0.mk hoa
  have HOb := Aside0.mk hob
  obtain ⟨s0, hs0⟩ : ∃ s0, s0 = X.heap.size := ⟨_, rfl⟩
  rw [← hs0] at hfa hfb
  have HSZ : Aside0 (s0 ≤ X.heap.size) := ⟨Nat.le_of_eq hs0⟩
  have HFT := Aside0.mk (And.intro hfa (And.intro hfb hfd))
  have HZ := Aside0.mk (And.intro hza (And.intro hzb hab))
  clear HQ hza hBa hzb hBb hab hfa hfb hfd hoa hob hs0
  obtain ⟨g0, g1, g2, g3⟩ := cells4 HBa.out
  have y0 := HBa.out.frozen 0
  have y1 := HBa.out.frozen 1
  have y2 := HBa.out.frozen 2
  have y3 := HBa.out.frozen 3
  refine last_ (i := 6) (N := none) #[true, true, true, true, true, true, true, false] rfl rfl (by kernel_rfl) (by decide) (fun K hK => ?_)
  refine skip_ (w1 := (((X.setCell ⟨ba, 0, none⟩ (.int .i64 k)).setCell ⟨ba, 1, none⟩ (.bool e)).setCell ⟨ba, 2, none⟩ (.string t)).setCell ⟨ba, 3, none⟩ (.slice Aa l.length ca)) (by rfl) rfl ?_ ?_
  · go_simp
  refine hK.out _ _ ?_
  clear hK K g0 g1 g2 g3 y0 y1 y2 y3
  have hU := put4_upd1 (W := X) (b := ba) (c0 := .int .i64 k) (c1 := .bool e) (c2 := .string t) (c3 := .slice Aa l.length ca)
  have HOa2 := Aside0.mk (put4_own (c0 := .int .i64 k) (c1 := .bool e) (c2 := .string t) (c3 := .slice Aa l.length ca) HOa.out HBa.out)
  have HOb2 := Aside0.mk (put4_own (c0 := .int .i64 k) (c1 := .bool e) (c2 := .string t) (c3 := .slice Aa l.length ca) HOb.out HBa.out)
  have HBa2 := Aside0.mk (put4_blk (c0 := .int .i64 k) (c1 := .bool e) (c2 := .string t) (c3 := .slice Aa l.length ca) HBa.out)
  generalize (((X.setCell ⟨ba, 0, none⟩ (.int .i64 k)).setCell ⟨ba, 1, none⟩ (.bool e)).setCell ⟨ba, 2, none⟩ (.string t)).setCell ⟨ba, 3, none⟩ (.slice Aa l.length ca) = X1 at *
  have hz := HZ.out
  have HB2 : Aside0 (Below w.heap.size w X1) := ⟨HB.out.trans (hU.below (fun q hq => by rw [hq]; exact hz.1.1) HB.out.size)⟩
  have HBb2 := Aside0.mk (HBb.out.upd hU (fun h => hz.2.2 h.symm))
  have NN2 : Aside0 (NB X1 bn A c k e t l) := ⟨⟨NN.out.blk.upd hU (fun h => by have := hz.1.2.1; omega), NN.out.len, Kd.C_below HC0.out.1 HB2.out⟩⟩
  have NS2 : Aside0 (NB X1 bs As cs sk se st sl) := ⟨⟨NS.out.blk.upd hU (fun h => by have := hz.1.2.2; omega), NS.out.len, Kd.C_below HC0.out.2.2.1 HB2.out⟩⟩
  have HSZ2 : Aside0 (s0 ≤ X1.heap.size) := ⟨Nat.le_trans HSZ.out hU.size⟩
  clear hU hz HOa HOb HBa HBb NN NS HB HSZ
  obtain ⟨g0, g1, g2, g3⟩ := cells4 HBb2.out
  have y0 := HBb2.out.frozen 0
  have y1 := HBb2.out.frozen 1
  have y2 := HBb2.out.frozen 2
  have y3 := HBb2.out.frozen 3
  refine last_ (i := 7) (N := none) #[true, true, true, true, true, true, true, true] rfl rfl (by kernel_rfl) (by decide) (fun K hK => ?_)
  refine skip_ (w1 := (((X1.setCell ⟨bb, 0, none⟩ (.int .i64 sk)).setCell ⟨bb, 1, none⟩ (.bool se)).setCell ⟨bb, 2, none⟩ (.string st)).setCell ⟨bb, 3, none⟩ (.slice Ab sl.length cb)) (by rfl) rfl ?_ ?_
  · go_simp
  refine hK.out _ _ ?_
  clear hK K g0 g1 g2 g3 y0 y1 y2 y3
  have hU := put4_upd1 (W := X1) (b := bb) (c0 := .int .i64 sk) (c1 := .bool se) (c2 := .string st) (c3 := .slice Ab sl.length cb)
  have hoa := put4_own (c0 := .int .i64 sk) (c1 := .bool se) (c2 := .string st) (c3 := .slice Ab sl.length cb) HOa2.out HBb2.out
  have hob := put4_own (c0 := .int .i64 sk) (c1 := .bool se) (c2 := .string st) (c3 := .slice Ab sl.length cb) HOb2.out HBb2.out
  have hbb := put4_blk (c0 := .int .i64 sk) (c1 := .bool se) (c2 := .string st) (c3 := .slice Ab sl.length cb) HBb2.out
  generalize (((X1.setCell ⟨bb, 0, none⟩ (.int .i64 sk)).setCell ⟨bb, 1, none⟩ (.bool se)).setCell ⟨bb, 2, none⟩ (.string st)).setCell ⟨bb, 3, none⟩ (.slice Ab sl.length cb) = X2 at *
  have hz := HZ.out
  have HB : Aside0 (Below w.heap.size w X2) := ⟨HB2.out.trans (hU.below (fun q hq => by rw [hq]; exact hz.2.1.1) HB2.out.size)⟩
  have hba := HBa2.out.upd hU (fun h => hz.2.2 h)
  have NN : Aside0 (NB X2 bn A c k e t l) := ⟨⟨NN2.out.blk.upd hU (fun h => by have := hz.2.1.2.1; omega), NN2.out.len, Kd.C_below HC0.out.1 HB.out⟩⟩
  have NS : Aside0 (NB X2 bs As cs sk se st sl) := ⟨⟨NS2.out.blk.upd hU (fun h => by have := hz.2.1.2.2; omega), NS2.out.len, Kd.C_below HC0.out.2.2.1 HB.out⟩⟩
  have HSZ : Aside0 (s0 ≤ X2.heap.size) := ⟨Nat.le_trans HSZ2.out hU.size⟩
  have Ta : Aside0 (TB X2 w.heap.size ba fa Aa ca k e t l) := ⟨⟨hba, hoa, fun k hk => Nat.lt_of_lt_of_le (HFT.out.1 k hk) HSZ.out⟩⟩
  have Tb : Aside0 (TB X2 w.heap.size bb fb Ab cb sk se st sl) := ⟨⟨hbb, hob, fun k hk => Nat.lt_of_lt_of_le (HFT.out.2.1 k hk) HSZ.out⟩⟩
  clear hU hz HOa2 HOb2 HBa2 HBb2 NN2 NS2 HB2 HSZ2 hoa hob hba hbb HZ
  refine done_ (by kernel_rfl) ?_
  obtain ⟨u0, u1, u2, u3⟩ := cells4 Ta.out.blk
  obtain ⟨v0, v1, v2, v3⟩ := cells4 Tb.out.blk
  go_wp2_with fail
  (with_reducible refine (putO HR1.out HN.out HS.out HP.out Ta.out.row Ta.out.len Tb.out.row Tb.out.len).mono ?_)
  rintro o wp ⟨Ap, cp, rfl, hO, hb1⟩
  clear u0 u1 u2 u3 v0 v1 v2 v3
  have hT := TB.new (k := kp) (e := ep) (t := tp) hO HB.out.size
  obtain ⟨zp, hz⟩ : ∃ z, z = X2.heap.size := ⟨_, rfl⟩
  have Zp := Aside0.mk (And.intro HSZ.out hb1.size)
  have hb := below_step hb1 (below_alloc (Below.refl _ (wp)) (.cells #[.int .i64 kp, .bool ep, .string tp, .slice Ap lp.length cp] 32))
  rw [← hz] at hT Zp
  have Tp := Aside0.mk hT
  clear hO hb1 hT hz
  replace NN := Aside0.mk (NN.out.below hb)
  replace NS := Aside0.mk (NS.out.below hb)
  replace Ta := Aside0.mk (Ta.out.below hb)
  replace Tb := Aside0.mk (Tb.out.below hb)
  replace HB := Aside0.mk (below_step HB.out hb)
  replace HSZ : Aside0 (wp.heap.size ≤ (wp.alloc (.cells #[.int .i64 kp, .bool ep, .string tp, .slice Ap lp.length cp] 32)).heap.size) := ⟨by simp⟩
  clear hb
  obtain ⟨u0, u1, u2, u3⟩ := cells4 Ta.out.blk
  go_wp2_with fail
  obtain ⟨Wp, hW⟩ : ∃ W, W = wp.alloc (.cells #[.int .i64 kp, .bool ep, .string tp, .slice Ap lp.length cp] 32) := ⟨_, rfl⟩
  obtain ⟨bp, hbb⟩ : ∃ b, b = wp.heap.size := ⟨_, rfl⟩
  rw [← hW] at NN NS Ta Tb Tp HB HSZ ⊢
  rw [← hbb] at Tp Zp HSZ ⊢
  clear hW hbb
  (with_reducible refine (getO HR2.out HN.out HP.out Ta.out.row Ta.out.len).mono ?_)
  rintro o wg ⟨Ag, cg, rfl, hO, hb1⟩
  clear u0 u1 u2 u3
  have hT := TB.new (k := kg) (e := eg) (t := tg) hO HB.out.size
  obtain ⟨zg, hz⟩ : ∃ z, z = Wp.heap.size := ⟨_, rfl⟩
  have Zg := Aside0.mk (And.intro HSZ.out hb1.size)
  have hb := below_step hb1 (below_alloc (Below.refl _ (wg)) (.cells #[.int .i64 kg, .bool eg, .string tg, .slice Ag lg.length cg] 32))
  rw [← hz] at hT Zg
  have Tg := Aside0.mk hT
  clear hO hb1 hT hz
  replace NN := Aside0.mk (NN.out.below hb)
  replace NS := Aside0.mk (NS.out.below hb)
  replace Ta := Aside0.mk (Ta.out.below hb)
  replace Tb := Aside0.mk (Tb.out.below hb)
  replace Tp := Aside0.mk (Tp.out.below hb)
  replace HB := Aside0.mk (below_step HB.out hb)
  replace HSZ : Aside0 (wg.heap.size ≤ (wg.alloc (.cells #[.int .i64 kg, .bool eg, .string tg, .slice Ag lg.length cg] 32)).heap.size) := ⟨by simp⟩
  clear hb
  obtain ⟨u0, u1, u2, u3⟩ := cells4 Ta.out.blk
  go_wp2_with fail
  obtain ⟨Wg, hW⟩ : ∃ W, W = wg.alloc (.cells #[.int .i64 kg, .bool eg, .string tg, .slice Ag lg.length cg] 32) := ⟨_, rfl⟩
  obtain ⟨bg, hbb⟩ : ∃ b, b = wg.heap.size := ⟨_, rfl⟩
  rw [← hW] at NN NS Ta Tb Tp Tg HB HSZ ⊢
  rw [← hbb] at Tg Zg HSZ ⊢
  clear hW hbb
  (with_reducible refine (getO HR2.out HN.out HP.out Ta.out.row Ta.out.len).mono ?_)
  rintro o wq ⟨Aq, cq, rfl, hO, hb1⟩
  clear u0 u1 u2 u3
  have hT := TB.new (k := kg) (e := eg) (t := tg) hO HB.out.size
  obtain ⟨zq, hz⟩ : ∃ z, z = Wg.heap.size := ⟨_, rfl⟩
  have Zq := Aside0.mk (And.intro HSZ.out hb1.size)
  have hb := below_step hb1 (below_alloc (Below.refl _ (wq)) (.cells #[.int .i64 kg, .bool eg, .string tg, .slice Aq lg.length cq] 32))
  rw [← hz] at hT Zq
  have Tq := Aside0.mk hT
  clear hO hb1 hT hz
  replace NN := Aside0.mk (NN.out.below hb)
  replace NS := Aside0.mk (NS.out.below hb)
  replace Ta := Aside0.mk (Ta.out.below hb)
  replace Tb := Aside0.mk (Tb.out.below hb)
  replace Tp := Aside0.mk (Tp.out.below hb)
  replace Tg := Aside0.mk (Tg.out.below hb)
  replace HB := Aside0.mk (below_step HB.out hb)
  replace HSZ : Aside0 (wq.heap.size ≤ (wq.alloc (.cells #[.int .i64 kg, .bool eg, .string tg, .slice Aq lg.length cq] 32)).heap.size) := ⟨by simp⟩
  clear hb
  obtain ⟨u0, u1, u2, u3⟩ := cells4 Ta.out.blk
  go_wp2_with fail
  obtain ⟨Wq, hW⟩ : ∃ W, W = wq.alloc (.cells #[.int .i64 kg, .bool eg, .string tg, .slice Aq lg.length cq] 32) := ⟨_, rfl⟩
  obtain ⟨bq, hbb⟩ : ∃ b, b = wq.heap.size := ⟨_, rfl⟩
  rw [← hW] at NN NS Ta Tb Tp Tg Tq HB HSZ ⊢
  rw [← hbb] at Tq Zq HSZ ⊢
  clear hW hbb
  (with_reducible refine (cutO HR3.out HN.out HP.out Ta.out.row Ta.out.len).mono ?_)
  rintro o wc ⟨Ac, cc, rfl, hO, hb1⟩
  clear u0 u1 u2 u3
  have hT := TB.new (k := kc) (e := ec) (t := tc) hO HB.out.size
  obtain ⟨zc, hz⟩ : ∃ z, z = Wq.heap.size := ⟨_, rfl⟩
  have Zc := Aside0.mk (And.intro HSZ.out hb1.size)
  have hb := below_step hb1 (below_alloc (Below.refl _ (wc)) (.cells #[.int .i64 kc, .bool ec, .string tc, .slice Ac lc.length cc] 32))
  rw [← hz] at hT Zc
  have Tc := Aside0.mk hT
  clear hO hb1 hT hz
  replace NN := Aside0.mk (NN.out.below hb)
  replace NS := Aside0.mk (NS.out.below hb)
  replace Ta := Aside0.mk (Ta.out.below hb)
  replace Tb := Aside0.mk (Tb.out.below hb)
  replace Tp := Aside0.mk (Tp.out.below hb)
  replace Tg := Aside0.mk (Tg.out.below hb)
  replace Tq := Aside0.mk (Tq.out.below hb)
  replace HB := Aside0.mk (below_step HB.out hb)
  replace HSZ : Aside0 (wc.heap.size ≤ (wc.alloc (.cells #[.int .i64 kc, .bool ec, .string tc, .slice Ac lc.length cc] 32)).heap.size) := ⟨by simp⟩
  clear hb
  obtain ⟨u0, u1, u2, u3⟩ := cells4 Ta.out.blk
  go_wp2_with fail
  obtain ⟨Wc, hW⟩ : ∃ W, W = wc.alloc (.cells #[.int .i64 kc, .bool ec, .string tc, .slice Ac lc.length cc] 32) := ⟨_, rfl⟩
  obtain ⟨bc, hbb⟩ : ∃ b, b = wc.heap.size := ⟨_, rfl⟩
  rw [← hW] at NN NS Ta Tb Tp Tg Tq Tc HB HSZ ⊢
  rw [← hbb] at Tc Zc HSZ ⊢
  clear hW hbb
  (with_reducible refine (copyO (Good.fit HN.out) Ta.out.row Ta.out.len).mono ?_)
  rintro o wm ⟨Am, cm, rfl, hO, hb1⟩
  clear u0 u1 u2 u3
  have hT := TB.new (k := k) (e := e) (t := t) hO HB.out.size
  obtain ⟨zm, hz⟩ : ∃ z, z = Wc.heap.size := ⟨_, rfl⟩
  have Zm := Aside0.mk (And.intro HSZ.out hb1.size)
  have hb := below_step hb1 (below_alloc (Below.refl _ (wm)) (.cells #[.int .i64 k, .bool e, .string t, .slice Am l.length cm] 32))
  rw [← hz] at hT Zm
  have Tm := Aside0.mk hT
  clear hO hb1 hT hz
  replace NN := Aside0.mk (NN.out.below hb)
  replace NS := Aside0.mk (NS.out.below hb)
  replace Ta := Aside0.mk (Ta.out.below hb)
  replace Tb := Aside0.mk (Tb.out.below hb)
  replace Tp := Aside0.mk (Tp.out.below hb)
  replace Tg := Aside0.mk (Tg.out.below hb)
  replace Tq := Aside0.mk (Tq.out.below hb)
  replace Tc := Aside0.mk (Tc.out.below hb)
  replace HB := Aside0.mk (below_step HB.out hb)
  replace HSZ : Aside0 (wm.heap.size ≤ (wm.alloc (.cells #[.int .i64 k, .bool e, .string t, .slice Am l.length cm] 32)).heap.size) := ⟨by simp⟩
  clear hb
  obtain ⟨u0, u1, u2, u3⟩ := cells4 Ta.out.blk
  obtain ⟨v0, v1, v2, v3⟩ := cells4 NN.out.blk
  go_wp2_with fail
  obtain ⟨Wm, hW⟩ : ∃ W, W = wm.alloc (.cells #[.int .i64 k, .bool e, .string t, .slice Am l.length cm] 32) := ⟨_, rfl⟩
  obtain ⟨bm, hbb⟩ : ∃ b, b = wm.heap.size := ⟨_, rfl⟩
  rw [← hW] at NN NS Ta Tb Tp Tg Tq Tc Tm HB HSZ ⊢
  rw [← hbb] at Tm Zm HSZ ⊢
  clear hW hbb
  (with_reducible refine (eq_to rfl (Good.fit HN.out) Ta.out.row Ta.out.len NN.out.row NN.out.len).mono ?_)
  rintro o wq1 ⟨rfl, hb⟩
  clear u0 u1 u2 u3 v0 v1 v2 v3
  replace NN := Aside0.mk (NN.out.below hb)
  replace NS := Aside0.mk (NS.out.below hb)
  replace Ta := Aside0.mk (Ta.out.below hb)
  replace Tb := Aside0.mk (Tb.out.below hb)
  replace Tp := Aside0.mk (Tp.out.below hb)
  replace Tg := Aside0.mk (Tg.out.below hb)
  replace Tq := Aside0.mk (Tq.out.below hb)
  replace Tc := Aside0.mk (Tc.out.below hb)
  replace Tm := Aside0.mk (Tm.out.below hb)
  replace HB := Aside0.mk (below_step HB.out hb)
  replace HSZ := Aside0.mk (Nat.le_trans HSZ.out hb.size)
  clear hb
  obtain ⟨u0, u1, u2, u3⟩ := cells4 Tb.out.blk
  obtain ⟨v0, v1, v2, v3⟩ := cells4 NS.out.blk
  go_wp2_with fail
  (with_reducible refine (eq_to rfl (Good.fit HS.out) Tb.out.row Tb.out.len NS.out.row NS.out.len).mono ?_)
  rintro o wq2 ⟨rfl, hb⟩
  clear u0 u1 u2 u3 v0 v1 v2 v3
  replace NN := Aside0.mk (NN.out.below hb)
  replace NS := Aside0.mk (NS.out.below hb)
  replace Ta := Aside0.mk (Ta.out.below hb)
  replace Tb := Aside0.mk (Tb.out.below hb)
  replace Tp := Aside0.mk (Tp.out.below hb)
  replace Tg := Aside0.mk (Tg.out.below hb)
  replace Tq := Aside0.mk (Tq.out.below hb)
  replace Tc := Aside0.mk (Tc.out.below hb)
  replace Tm := Aside0.mk (Tm.out.below hb)
  replace HB := Aside0.mk (below_step HB.out hb)
  replace HSZ := Aside0.mk (Nat.le_trans HSZ.out hb.size)
  clear hb
  clear NS
  obtain ⟨u0, u1, u2, u3⟩ := cells4 Tp.out.blk
  go_wp2_with fail
  (with_reducible refine (cloneO HF.out.1 Tp.out.row Tp.out.len).mono ?_)
  rintro o ww ⟨Aw, cw, rfl, hO, hb1⟩
  clear u0 u1 u2 u3
  have hT := TB.new (k := kp) (e := ep) (t := tp) hO HB.out.size
  obtain ⟨zw, hz⟩ : ∃ z, z = wq2.heap.size := ⟨_, rfl⟩
  have Zw := Aside0.mk (And.intro HSZ.out hb1.size)
  have hb := below_step hb1 (below_alloc (Below.refl _ (ww)) (.cells #[.int .i64 kp, .bool ep, .string tp, .slice Aw lp.length cw] 32))
  rw [← hz] at hT Zw
  have Tw := Aside0.mk hT
  clear hO hb1 hT hz
  replace NN := Aside0.mk (NN.out.below hb)
  replace Ta := Aside0.mk (Ta.out.below hb)
  replace Tb := Aside0.mk (Tb.out.below hb)
  replace Tp := Aside0.mk (Tp.out.below hb)
  replace Tg := Aside0.mk (Tg.out.below hb)
  replace Tq := Aside0.mk (Tq.out.below hb)
  replace Tc := Aside0.mk (Tc.out.below hb)
  replace Tm := Aside0.mk (Tm.out.below hb)
  replace HB := Aside0.mk (below_step HB.out hb)
  replace HSZ : Aside0 (ww.heap.size ≤ (ww.alloc (.cells #[.int .i64 kp, .bool ep, .string tp, .slice Aw lp.length cw] 32)).heap.size) := ⟨by simp⟩
  clear hb
  obtain ⟨u0, u1, u2, u3⟩ := cells4 Tc.out.blk
  go_wp2_with fail
  obtain ⟨Ww, hW⟩ : ∃ W, W = ww.alloc (.cells #[.int .i64 kp, .bool ep, .string tp, .slice Aw lp.length cw] 32) := ⟨_, rfl⟩
  obtain ⟨bw, hbb⟩ : ∃ b, b = ww.heap.size := ⟨_, rfl⟩
  rw [← hW] at NN Ta Tb Tp Tg Tq Tc Tm Tw HB HSZ ⊢
  rw [← hbb] at Tw Zw HSZ ⊢
  clear hW hbb
  (with_reducible refine (cloneO HF.out.2.2.1 Tc.out.row Tc.out.len).mono ?_)
  rintro o ws ⟨As, cs, rfl, hO, hb1⟩
  clear u0 u1 u2 u3
  have hT := TB.new (k := kc) (e := ec) (t := tc) hO HB.out.size
  obtain ⟨zs, hz⟩ : ∃ z, z = Ww.heap.size := ⟨_, rfl⟩
  have Zs := Aside0.mk (And.intro HSZ.out hb1.size)
  have hb := below_step hb1 (below_alloc (Below.refl _ (ws)) (.cells #[.int .i64 kc, .bool ec, .string tc, .slice As lc.length cs] 32))
  rw [← hz] at hT Zs
  have Ts := Aside0.mk hT
  clear hO hb1 hT hz
  replace NN := Aside0.mk (NN.out.below hb)
  replace Ta := Aside0.mk (Ta.out.below hb)
  replace Tb := Aside0.mk (Tb.out.below hb)
  replace Tp := Aside0.mk (Tp.out.below hb)
  replace Tg := Aside0.mk (Tg.out.below hb)
  replace Tq := Aside0.mk (Tq.out.below hb)
  replace Tc := Aside0.mk (Tc.out.below hb)
  replace Tm := Aside0.mk (Tm.out.below hb)
  replace Tw := Aside0.mk (Tw.out.below hb)
  replace HB := Aside0.mk (below_step HB.out hb)
  replace HSZ : Aside0 (ws.heap.size ≤ (ws.alloc (.cells #[.int .i64 kc, .bool ec, .string tc, .slice As lc.length cs] 32)).heap.size) := ⟨by simp⟩
  clear hb
  obtain ⟨u0, u1, u2, u3⟩ := cells4 Tg.out.blk
  go_wp2_with fail
  obtain ⟨Ws, hW⟩ : ∃ W, W = ws.alloc (.cells #[.int .i64 kc, .bool ec, .string tc, .slice As lc.length cs] 32) := ⟨_, rfl⟩
  obtain ⟨bs, hbb⟩ : ∃ b, b = ws.heap.size := ⟨_, rfl⟩
  rw [← hW] at NN Ta Tb Tp Tg Tq Tc Tm Tw Ts HB HSZ ⊢
  rw [← hbb] at Ts Zs HSZ ⊢
  clear hW hbb
  (with_reducible refine (cloneO HF.out.2.1 Tg.out.row Tg.out.len).mono ?_)
  rintro o wh ⟨Ah, ch, rfl, hO, hb1⟩
  clear u0 u1 u2 u3
  have hT := TB.new (k := kg) (e := eg) (t := tg) hO HB.out.size
  obtain ⟨zh, hz⟩ : ∃ z, z = Ws.heap.size := ⟨_, rfl⟩
  have Zh := Aside0.mk (And.intro HSZ.out hb1.size)
  have hb := below_step hb1 (below_alloc (Below.refl _ (wh)) (.cells #[.int .i64 kg, .bool eg, .string tg, .slice Ah lg.length ch] 32))
  rw [← hz] at hT Zh
  have Th := Aside0.mk hT
  clear hO hb1 hT hz
  replace NN := Aside0.mk (NN.out.below hb)
  replace Ta := Aside0.mk (Ta.out.below hb)
  replace Tb := Aside0.mk (Tb.out.below hb)
  replace Tp := Aside0.mk (Tp.out.below hb)
  replace Tg := Aside0.mk (Tg.out.below hb)
  replace Tq := Aside0.mk (Tq.out.below hb)
  replace Tc := Aside0.mk (Tc.out.below hb)
  replace Tm := Aside0.mk (Tm.out.below hb)
  replace Tw := Aside0.mk (Tw.out.below hb)
  replace Ts := Aside0.mk (Ts.out.below hb)
  replace HB := Aside0.mk (below_step HB.out hb)
  replace HSZ : Aside0 (wh.heap.size ≤ (wh.alloc (.cells #[.int .i64 kg, .bool eg, .string tg, .slice Ah lg.length ch] 32)).heap.size) := ⟨by simp⟩
  clear hb
  obtain ⟨u0, u1, u2, u3⟩ := cells4 Ta.out.blk
  go_wp2_with fail
  obtain ⟨Wh, hW⟩ : ∃ W, W = wh.alloc (.cells #[.int .i64 kg, .bool eg, .string tg, .slice Ah lg.length ch] 32) := ⟨_, rfl⟩
  obtain ⟨bh, hbb⟩ : ∃ b, b = wh.heap.size := ⟨_, rfl⟩
  rw [← hW] at NN Ta Tb Tp Tg Tq Tc Tm Tw Ts Th HB HSZ ⊢
  rw [← hbb] at Th Zh HSZ ⊢
  clear hW hbb
  (with_reducible refine (spoilO HSM.out.1 Ta.out HB.out.size).mono ?_)
  rintro o wq3 ⟨rfl, hU⟩
  clear u0 u1 u2 u3
  have hbd := HB.out.trans (hU.downTo HB.out.size)
  have hch0 := Zp.out
  have hch1 := Zg.out
  have hch2 := Zq.out
  have hch3 := Zc.out
  have hch4 := Zm.out
  have hch5 := Zw.out
  have hch6 := Zs.out
  have hch7 := Zh.out
  replace NN := Aside0.mk (NN.out.upd hU (Kd.C_below HC0.out.1 hbd))
  replace Tb := Aside0.mk (Tb.out.upd hU (fun q h1 h2 => by exact HFT.out.2.2 q h2 h1))
  replace Tp := Aside0.mk (Tp.out.upd hU (fun q h1 h2 => by have h1 : zp ≤ q ∧ q < bp := h1; have h3 := HFT.out.1 q h2; omega))
  replace Tg := Aside0.mk (Tg.out.upd hU (fun q h1 h2 => by have h1 : zg ≤ q ∧ q < bg := h1; have h3 := HFT.out.1 q h2; omega))
  replace Tq := Aside0.mk (Tq.out.upd hU (fun q h1 h2 => by have h1 : zq ≤ q ∧ q < bq := h1; have h3 := HFT.out.1 q h2; omega))
  replace Tc := Aside0.mk (Tc.out.upd hU (fun q h1 h2 => by have h1 : zc ≤ q ∧ q < bc := h1; have h3 := HFT.out.1 q h2; omega))
  replace Tm := Aside0.mk (Tm.out.upd hU (fun q h1 h2 => by have h1 : zm ≤ q ∧ q < bm := h1; have h3 := HFT.out.1 q h2; omega))
  replace Tw := Aside0.mk (Tw.out.upd hU (fun q h1 h2 => by have h1 : zw ≤ q ∧ q < bw := h1; have h3 := HFT.out.1 q h2; omega))
  replace Ts := Aside0.mk (Ts.out.upd hU (fun q h1 h2 => by have h1 : zs ≤ q ∧ q < bs := h1; have h3 := HFT.out.1 q h2; omega))
  replace Th := Aside0.mk (Th.out.upd hU (fun q h1 h2 => by have h1 : zh ≤ q ∧ q < bh := h1; have h3 := HFT.out.1 q h2; omega))
  replace HB := Aside0.mk hbd
  replace HSZ := Aside0.mk (Nat.le_trans HSZ.out hU.size)
  clear hU hbd Ta hch0 hch1 hch2 hch3 hch4 hch5 hch6 hch7
  obtain ⟨u0, u1, u2, u3⟩ := cells4 Tb.out.blk
  go_wp2_with fail
  (with_reducible refine (spoilO HSM.out.2 Tb.out HB.out.size).mono ?_)
  rintro o wq4 ⟨rfl, hU⟩
  clear u0 u1 u2 u3
  have hbd := HB.out.trans (hU.downTo HB.out.size)
  have hch0 := Zp.out
  have hch1 := Zg.out
  have hch2 := Zq.out
  have hch3 := Zc.out
  have hch4 := Zm.out
  have hch5 := Zw.out
  have hch6 := Zs.out
  have hch7 := Zh.out
  replace NN := Aside0.mk (NN.out.upd hU (Kd.C_below HC0.out.1 hbd))
  replace Tp := Aside0.mk (Tp.out.upd hU (fun q h1 h2 => by have h1 : zp ≤ q ∧ q < bp := h1; have h3 := HFT.out.2.1 q h2; omega))
  replace Tg := Aside0.mk (Tg.out.upd hU (fun q h1 h2 => by have h1 : zg ≤ q ∧ q < bg := h1; have h3 := HFT.out.2.1 q h2; omega))
  replace Tq := Aside0.mk (Tq.out.upd hU (fun q h1 h2 => by have h1 : zq ≤ q ∧ q < bq := h1; have h3 := HFT.out.2.1 q h2; omega))
  replace Tc := Aside0.mk (Tc.out.upd hU (fun q h1 h2 => by have h1 : zc ≤ q ∧ q < bc := h1; have h3 := HFT.out.2.1 q h2; omega))
  replace Tm := Aside0.mk (Tm.out.upd hU (fun q h1 h2 => by have h1 : zm ≤ q ∧ q < bm := h1; have h3 := HFT.out.2.1 q h2; omega))
  replace Tw := Aside0.mk (Tw.out.upd hU (fun q h1 h2 => by have h1 : zw ≤ q ∧ q < bw := h1; have h3 := HFT.out.2.1 q h2; omega))
  replace Ts := Aside0.mk (Ts.out.upd hU (fun q h1 h2 => by have h1 : zs ≤ q ∧ q < bs := h1; have h3 := HFT.out.2.1 q h2; omega))
  replace Th := Aside0.mk (Th.out.upd hU (fun q h1 h2 => by have h1 : zh ≤ q ∧ q < bh := h1; have h3 := HFT.out.2.1 q h2; omega))
  replace HB := Aside0.mk hbd
  replace HSZ := Aside0.mk (Nat.le_trans HSZ.out hU.size)
  clear hU hbd Tb hch0 hch1 hch2 hch3 hch4 hch5 hch6 hch7
  obtain ⟨u0, u1, u2, u3⟩ := cells4 Tq.out.blk
  go_wp2_with fail
  (with_reducible refine (spoilO HF.out.2.2.2 Tq.out HB.out.size).mono ?_)
  rintro o wq5 ⟨rfl, hU⟩
  clear u0 u1 u2 u3
  have hbd := HB.out.trans (hU.downTo HB.out.size)
  have hch0 := Zp.out
  have hch1 := Zg.out
  have hch2 := Zq.out
  have hch3 := Zc.out
  have hch4 := Zm.out
  have hch5 := Zw.out
  have hch6 := Zs.out
  have hch7 := Zh.out
  replace NN := Aside0.mk (NN.out.upd hU (Kd.C_below HC0.out.1 hbd))
  replace Tp := Aside0.mk (Tp.out.upd hU (fun q h1 h2 => by have h1 : zp ≤ q ∧ q < bp := h1; have h2 : zq ≤ q ∧ q < bq := h2; omega))
  replace Tg := Aside0.mk (Tg.out.upd hU (fun q h1 h2 => by have h1 : zg ≤ q ∧ q < bg := h1; have h2 : zq ≤ q ∧ q < bq := h2; omega))
  replace Tc := Aside0.mk (Tc.out.upd hU (fun q h1 h2 => by have h1 : zc ≤ q ∧ q < bc := h1; have h2 : zq ≤ q ∧ q < bq := h2; omega))
  replace Tm := Aside0.mk (Tm.out.upd hU (fun q h1 h2 => by have h1 : zm ≤ q ∧ q < bm := h1; have h2 : zq ≤ q ∧ q < bq := h2; omega))
  replace Tw := Aside0.mk (Tw.out.upd hU (fun q h1 h2 => by have h1 : zw ≤ q ∧ q < bw := h1; have h2 : zq ≤ q ∧ q < bq := h2; omega))
  replace Ts := Aside0.mk (Ts.out.upd hU (fun q h1 h2 => by have h1 : zs ≤ q ∧ q < bs := h1; have h2 : zq ≤ q ∧ q < bq := h2; omega))
  replace Th := Aside0.mk (Th.out.upd hU (fun q h1 h2 => by have h1 : zh ≤ q ∧ q < bh := h1; have h2 : zq ≤ q ∧ q < bq := h2; omega))
  replace HB := Aside0.mk hbd
  replace HSZ := Aside0.mk (Nat.le_trans HSZ.out hU.size)
  clear hU hbd Tq hch0 hch1 hch2 hch3 hch4 hch5 hch6 hch7
  obtain ⟨u0, u1, u2, u3⟩ := cells4 Tp.out.blk
  obtain ⟨v0, v1, v2, v3⟩ := cells4 Tw.out.blk
  go_wp2_with fail
  (with_reducible refine (eq_to rfl HF.out.1 Tp.out.row Tp.out.len Tw.out.row Tw.out.len).mono ?_)
  rintro o wq6 ⟨rfl, hb⟩
  clear u0 u1 u2 u3 v0 v1 v2 v3
  replace NN := Aside0.mk (NN.out.below hb)
  replace Tp := Aside0.mk (Tp.out.below hb)
  replace Tg := Aside0.mk (Tg.out.below hb)
  replace Tc := Aside0.mk (Tc.out.below hb)
  replace Tm := Aside0.mk (Tm.out.below hb)
  replace Tw := Aside0.mk (Tw.out.below hb)
  replace Ts := Aside0.mk (Ts.out.below hb)
  replace Th := Aside0.mk (Th.out.below hb)
  replace HB := Aside0.mk (below_step HB.out hb)
  replace HSZ := Aside0.mk (Nat.le_trans HSZ.out hb.size)
  clear hb
  obtain ⟨u0, u1, u2, u3⟩ := cells4 Tc.out.blk
  obtain ⟨v0, v1, v2, v3⟩ := cells4 Ts.out.blk
  go_wp2_with fail
  (with_reducible refine (eq_to rfl HF.out.2.2.1 Tc.out.row Tc.out.len Ts.out.row Ts.out.len).mono ?_)
  rintro o wq7 ⟨rfl, hb⟩
  clear u0 u1 u2 u3 v0 v1 v2 v3
  replace NN := Aside0.mk (NN.out.below hb)
  replace Tp := Aside0.mk (Tp.out.below hb)
  replace Tg := Aside0.mk (Tg.out.below hb)
  replace Tc := Aside0.mk (Tc.out.below hb)
  replace Tm := Aside0.mk (Tm.out.below hb)
  replace Tw := Aside0.mk (Tw.out.below hb)
  replace Ts := Aside0.mk (Ts.out.below hb)
  replace Th := Aside0.mk (Th.out.below hb)
  replace HB := Aside0.mk (below_step HB.out hb)
  replace HSZ := Aside0.mk (Nat.le_trans HSZ.out hb.size)
  clear hb
  obtain ⟨u0, u1, u2, u3⟩ := cells4 Tg.out.blk
  obtain ⟨v0, v1, v2, v3⟩ := cells4 Th.out.blk
  go_wp2_with fail
  (with_reducible refine (eq_to rfl HF.out.2.1 Tg.out.row Tg.out.len Th.out.row Th.out.len).mono ?_)
  rintro o wq8 ⟨rfl, hb⟩
  clear u0 u1 u2 u3 v0 v1 v2 v3
  replace NN := Aside0.mk (NN.out.below hb)
  replace Tp := Aside0.mk (Tp.out.below hb)
  replace Tg := Aside0.mk (Tg.out.below hb)
  replace Tc := Aside0.mk (Tc.out.below hb)
  replace Tm := Aside0.mk (Tm.out.below hb)
  replace Tw := Aside0.mk (Tw.out.below hb)
  replace Ts := Aside0.mk (Ts.out.below hb)
  replace Th := Aside0.mk (Th.out.below hb)
  replace HB := Aside0.mk (below_step HB.out hb)
  replace HSZ := Aside0.mk (Nat.le_trans HSZ.out hb.size)
  clear hb
  obtain ⟨u0, u1, u2, u3⟩ := cells4 Tm.out.blk
  obtain ⟨v0, v1, v2, v3⟩ := cells4 NN.out.blk
  go_wp2_with fail
  (with_reducible refine (eq_to rfl (Good.fit HN.out) Tm.out.row Tm.out.len NN.out.row NN.out.len).mono ?_)
  rintro o wq9 ⟨rfl, hb⟩
  clear u0 u1 u2 u3 v0 v1 v2 v3
  replace NN := Aside0.mk (NN.out.below hb)
  replace Tp := Aside0.mk (Tp.out.below hb)
  replace Tg := Aside0.mk (Tg.out.below hb)
  replace Tc := Aside0.mk (Tc.out.below hb)
  replace Tm := Aside0.mk (Tm.out.below hb)
  replace Tw := Aside0.mk (Tw.out.below hb)
  replace Ts := Aside0.mk (Ts.out.below hb)
  replace Th := Aside0.mk (Th.out.below hb)
  replace HB := Aside0.mk (below_step HB.out hb)
  replace HSZ := Aside0.mk (Nat.le_trans HSZ.out hb.size)
  clear hb
  obtain ⟨u0, u1, u2, u3⟩ := cells4 Tg.out.blk
  go_wp2_with fail
  (with_reducible refine (spoilO HF.out.2.2.2 Tg.out HB.out.size).mono ?_)
  rintro o wq10 ⟨rfl, hU⟩
  clear u0 u1 u2 u3
  have hbd := HB.out.trans (hU.downTo HB.out.size)
  have hch0 := Zp.out
  have hch1 := Zg.out
  have hch2 := Zq.out
  have hch3 := Zc.out
  have hch4 := Zm.out
  have hch5 := Zw.out
  have hch6 := Zs.out
  have hch7 := Zh.out
  replace NN := Aside0.mk (NN.out.upd hU (Kd.C_below HC0.out.1 hbd))
  replace Tp := Aside0.mk (Tp.out.upd hU (fun q h1 h2 => by have h1 : zp ≤ q ∧ q < bp := h1; have h2 : zg ≤ q ∧ q < bg := h2; omega))
  replace Tc := Aside0.mk (Tc.out.upd hU (fun q h1 h2 => by have h1 : zc ≤ q ∧ q < bc := h1; have h2 : zg ≤ q ∧ q < bg := h2; omega))
  replace Tm := Aside0.mk (Tm.out.upd hU (fun q h1 h2 => by have h1 : zm ≤ q ∧ q < bm := h1; have h2 : zg ≤ q ∧ q < bg := h2; omega))
  replace Tw := Aside0.mk (Tw.out.upd hU (fun q h1 h2 => by have h1 : zw ≤ q ∧ q < bw := h1; have h2 : zg ≤ q ∧ q < bg := h2; omega))
  replace Ts := Aside0.mk (Ts.out.upd hU (fun q h1 h2 => by have h1 : zs ≤ q ∧ q < bs := h1; have h2 : zg ≤ q ∧ q < bg := h2; omega))
  replace Th := Aside0.mk (Th.out.upd hU (fun q h1 h2 => by have h1 : zh ≤ q ∧ q < bh := h1; have h2 : zg ≤ q ∧ q < bg := h2; omega))
  replace HB := Aside0.mk hbd
  replace HSZ := Aside0.mk (Nat.le_trans HSZ.out hU.size)
  clear hU hbd Tg hch0 hch1 hch2 hch3 hch4 hch5 hch6 hch7
  obtain ⟨u0, u1, u2, u3⟩ := cells4 Tm.out.blk
  go_wp2_with fail
  (with_reducible refine (spoilO HSM.out.1 Tm.out HB.out.size).mono ?_)
  rintro o wq11 ⟨rfl, hU⟩
  clear u0 u1 u2 u3
  have hbd := HB.out.trans (hU.downTo HB.out.size)
  have hch0 := Zp.out
  have hch1 := Zg.out
  have hch2 := Zq.out
  have hch3 := Zc.out
  have hch4 := Zm.out
  have hch5 := Zw.out
  have hch6 := Zs.out
  have hch7 := Zh.out
  replace NN := Aside0.mk (NN.out.upd hU (Kd.C_below HC0.out.1 hbd))
  replace Tp := Aside0.mk (Tp.out.upd hU (fun q h1 h2 => by have h1 : zp ≤ q ∧ q < bp := h1; have h2 : zm ≤ q ∧ q < bm := h2; omega))
  replace Tc := Aside0.mk (Tc.out.upd hU (fun q h1 h2 => by have h1 : zc ≤ q ∧ q < bc := h1; have h2 : zm ≤ q ∧ q < bm := h2; omega))
  replace Tw := Aside0.mk (Tw.out.upd hU (fun q h1 h2 => by have h1 : zw ≤ q ∧ q < bw := h1; have h2 : zm ≤ q ∧ q < bm := h2; omega))
  replace Ts := Aside0.mk (Ts.out.upd hU (fun q h1 h2 => by have h1 : zs ≤ q ∧ q < bs := h1; have h2 : zm ≤ q ∧ q < bm := h2; omega))
  replace Th := Aside0.mk (Th.out.upd hU (fun q h1 h2 => by have h1 : zh ≤ q ∧ q < bh := h1; have h2 : zm ≤ q ∧ q < bm := h2; omega))
  replace HB := Aside0.mk hbd
  replace HSZ := Aside0.mk (Nat.le_trans HSZ.out hU.size)
  clear hU hbd Tm hch0 hch1 hch2 hch3 hch4 hch5 hch6 hch7
  obtain ⟨u0, u1, u2, u3⟩ := cells4 Tp.out.blk
  obtain ⟨v0, v1, v2, v3⟩ := cells4 Tw.out.blk
  go_wp2_with fail
  (with_reducible refine (eq_to rfl HF.out.1 Tp.out.row Tp.out.len Tw.out.row Tw.out.len).mono ?_)
  rintro o wq12 ⟨rfl, hb⟩
  clear u0 u1 u2 u3 v0 v1 v2 v3
  replace NN := Aside0.mk (NN.out.below hb)
  replace Tp := Aside0.mk (Tp.out.below hb)
  replace Tc := Aside0.mk (Tc.out.below hb)
  replace Tw := Aside0.mk (Tw.out.below hb)
  replace Ts := Aside0.mk (Ts.out.below hb)
  replace Th := Aside0.mk (Th.out.below hb)
  replace HB := Aside0.mk (below_step HB.out hb)
  replace HSZ := Aside0.mk (Nat.le_trans HSZ.out hb.size)
  clear hb
  obtain ⟨u0, u1, u2, u3⟩ := cells4 Tc.out.blk
  obtain ⟨v0, v1, v2, v3⟩ := cells4 Ts.out.blk
  go_wp2_with fail
  (with_reducible refine (eq_to rfl HF.out.2.2.1 Tc.out.row Tc.out.len Ts.out.row Ts.out.len).mono ?_)
  rintro o wq13 ⟨rfl, hb⟩
  clear u0 u1 u2 u3 v0 v1 v2 v3
  replace NN := Aside0.mk (NN.out.below hb)
  replace Tp := Aside0.mk (Tp.out.below hb)
  replace Tc := Aside0.mk (Tc.out.below hb)
  replace Tw := Aside0.mk (Tw.out.below hb)
  replace Ts := Aside0.mk (Ts.out.below hb)
  replace Th := Aside0.mk (Th.out.below hb)
  replace HB := Aside0.mk (below_step HB.out hb)
  replace HSZ := Aside0.mk (Nat.le_trans HSZ.out hb.size)
  clear hb
  obtain ⟨u0, u1, u2, u3⟩ := cells4 Tp.out.blk
  obtain ⟨v0, v1, v2, v3⟩ := cells4 Th.out.blk
  obtain ⟨x0, x1, x2, x3⟩ := cells4 Tc.out.blk
  by_cases h0 : xp = 0
  · skip
    have j0 : (kp != 0) = true := bne_iff_ne.mpr (HKD.out.1 h0)
    have i0 : (xp != 0) = false := bne_eq_false_iff_eq.mpr h0
    clear h0
    by_cases h1 : xg = 0
    · skip
      have j1 : (kg != 0) = true := bne_iff_ne.mpr (HKD.out.2.1 h1)
      have i1 : (xg != 0) = false := bne_eq_false_iff_eq.mpr h1
      clear h1
      by_cases h2 : xc = 0
      · skip
        have j2 : (kc == 3) = true := beq_iff_eq.mpr (HKD.out.2.2 h2)
        have i2 : (xc != 0) = false := bne_eq_false_iff_eq.mpr h2
        clear h2
        go_wp2_with fail
        go_ret
        exact ⟨rfl, HB.out⟩
      · skip
        have i2 : (xc != 0) = true := bne_iff_ne.mpr h2
        clear h2
        go_wp2_with fail
        go_ret
        exact ⟨rfl, HB.out⟩
    · skip
      have i1 : (xg != 0) = true := bne_iff_ne.mpr h1
      clear h1
      by_cases h2 : xc = 0
      · skip
        have j2 : (kc == 3) = true := beq_iff_eq.mpr (HKD.out.2.2 h2)
        have i2 : (xc != 0) = false := bne_eq_false_iff_eq.mpr h2
        clear h2
        go_wp2_with fail
        go_ret
        exact ⟨rfl, HB.out⟩
      · skip
        have i2 : (xc != 0) = true := bne_iff_ne.mpr h2
        clear h2
        go_wp2_with fail
        go_ret
        exact ⟨rfl, HB.out⟩
  · skip
    have i0 : (xp != 0) = true := bne_iff_ne.mpr h0
    clear h0
    by_cases h1 : xg = 0
    · skip
      have j1 : (kg != 0) = true := bne_iff_ne.mpr (HKD.out.2.1 h1)
      have i1 : (xg != 0) = false := bne_eq_false_iff_eq.mpr h1
      clear h1
      by_cases h2 : xc = 0
      · skip
        have j2 : (kc == 3) = true := beq_iff_eq.mpr (HKD.out.2.2 h2)
        have i2 : (xc != 0) = false := bne_eq_false_iff_eq.mpr h2
        clear h2
        go_wp2_with fail
        go_ret
        exact ⟨rfl, HB.out⟩
      · skip
        have i2 : (xc != 0) = true := bne_iff_ne.mpr h2
        clear h2
        go_wp2_with fail
        go_ret
        exact ⟨rfl, HB.out⟩
    · skip
      have i1 : (xg != 0) = true := bne_iff_ne.mpr h1
      clear h1
      by_cases h2 : xc = 0
      · skip
        have j2 : (kc == 3) = true := beq_iff_eq.mpr (HKD.out.2.2 h2)
        have i2 : (xc != 0) = false := bne_eq_false_iff_eq.mpr h2
        clear h2
        go_wp2_with fail
        go_ret
        exact ⟨rfl, HB.out⟩
      · skip
        have i2 : (xc != 0) = true := bne_iff_ne.mpr h2
        clear h2
        go_wp2_with fail
        go_ret
        exact ⟨rfl, HB.out⟩
end Go.Proofs.YtnemeeidomceiaaDoor
end
