import Derived.Test.YtnemeeidomceiaaDoorMg10
import Derived.Deep.QuietTactic
section
/-! What is put is got, the rest is as it was, cut out it is gone: on lists of kids alone. -/
namespace Go.Proofs.YtnemeeidomceiaaDoor
open Go.RowKit Go.Proofs.YtnemeeidomceiaaDoorW.PrintWords
set_option linter.unusedVariables false
/-- The kid of a name. -/
def look (l : List Ent) (s : ByteArray) : Option Ent := if hasN l s = true then l[rk l s]? else none
theorem rk_spec : ∀ {l : List Ent} (s : ByteArray), Rising l → (∀ x, x ∈ l.take (rk l s) → cmpB x.f0 s < 0) ∧ (∀ x, x ∈ l.drop (rk l s) → ¬ cmpB x.f0 s < 0)
  | [], s, _ => ⟨by simp [rk], by simp [rk]⟩
  | y :: l, s, h => by
    have hp := List.pairwise_cons.1 h
    have ih := rk_spec s hp.2
    by_cases hy : cmpB y.f0 s < 0
    · have e : rk (y :: l) s = rk l s + 1 := by unfold rk; rw [List.filter_cons_of_pos (by simpa using hy), List.length_cons]
      rw [e, List.take_succ_cons, List.drop_succ_cons]
      refine ⟨fun x hx => ?_, ih.2⟩
      rcases List.mem_cons.1 hx with rfl | hx
      · exact hy
      · exact ih.1 x hx
    · have h0 : ∀ x, x ∈ l → ¬ cmpB x.f0 s < 0 := fun x hx hlt => hy (cmpB_trans (hp.1 x hx) hlt)
      have e : rk (y :: l) s = 0 := by
        unfold rk
        rw [List.filter_cons_of_neg (by simpa using hy), List.filter_eq_nil_iff.2 (fun x hx => by simpa using h0 x hx)]; rfl
      rw [e]
      refine ⟨by simp, fun x hx => ?_⟩
      rcases List.mem_cons.1 hx with rfl | hx
      · exact hy
      · exact h0 x hx
theorem look_iff' {l : List Ent} {s : ByteArray} {x : Ent} (h : Rising l) : look l s = some x ↔ x ∈ l ∧ x.f0 = s := by
  constructor
  · intro hl
    unfold look at hl
    split at hl
    · rename_i hh
      obtain ⟨y, hy, hs⟩ := hasN_at hh
      rw [hy] at hl
      injection hl with hl
      subst hl
      exact ⟨List.mem_of_getElem? hy, hs⟩
    · cases hl
  · rintro ⟨hm, hs⟩
    obtain ⟨i, hi⟩ := List.mem_iff_getElem?.1 hm
    have hil := (List.getElem?_eq_some_iff.1 hi).1
    have hr : rk l s = i := rk_of i (Nat.le_of_lt hil) (fun j y hj hy => by rw [← hs]; exact h.at hj hy hi) (fun j y hj hy hlt => by
      by_cases e : j = i
      · subst e; rw [hi] at hy; injection hy with hy; rw [← hy, hs, cmpB_self] at hlt; omega
      · have := h.at (show i < j by omega) hi hy
        rw [hs, cmpB_neg] at this
        omega)
    have hh : hasN l s = true := by unfold hasN; rw [hr, hi]; exact decide_eq_true ((cmpB_zero _ _).2 hs)
    unfold look
    rw [if_pos hh, hr, hi]
theorem look_none {l : List Ent} {s : ByteArray} (h : Rising l) : look l s = none ↔ ∀ x, x ∈ l → x.f0 ≠ s := by
  constructor
  · intro hl x hx hs
    rw [(look_iff' h).2 ⟨hx, hs⟩] at hl; cases hl
  · intro hn
    cases hl : look l s with
    | none => rfl
    | some x => exact absurd ((look_iff' h).1 hl).2 (hn x ((look_iff' h).1 hl).1)
theorem has_look {l : List Ent} {s : ByteArray} : hasN l s = true ↔ ∃ x, look l s = some x := by
  constructor
  · intro h
    obtain ⟨x, hx, _⟩ := hasN_at h
    exact ⟨x, by unfold look; rw [if_pos h, hx]⟩
  · rintro ⟨x, hx⟩
    unfold look at hx
    split at hx
    · assumption
    · cases hx
theorem look_same {l m : List Ent} {s : ByteArray} (h : Rising l) (h2 : Rising m) (hm : ∀ x : Ent, x.f0 = s → (x ∈ l ↔ x ∈ m)) : look l s = look m s := by
  cases hl : look l s with
  | none => exact ((look_none h2).2 (fun x hx hs => (look_none h).1 hl x ((hm x hs).2 hx) hs)).symm
  | some x =>
    have hx := (look_iff' h).1 hl
    exact ((look_iff' h2).2 ⟨(hm x hx.2).1 hx.1, hx.2⟩).symm
/-- Two rising lists of the same kids are one. -/
theorem rising_ext : ∀ {l m : List Ent}, Rising l → Rising m → (∀ x, x ∈ l ↔ x ∈ m) → l = m
  | [], [], _, _, _ => rfl
  | [], y :: m, _, _, h => by have := (h y).2 List.mem_cons_self; cases this
  | x :: l, [], _, _, h => by have := (h x).1 List.mem_cons_self; cases this
  | x :: l, y :: m, h1, h2, h => by
    have p1 := List.pairwise_cons.1 h1
    have p2 := List.pairwise_cons.1 h2
    have hxy : x = y := by
      rcases List.mem_cons.1 ((h x).1 List.mem_cons_self) with e | e
      · exact e
      · rcases List.mem_cons.1 ((h y).2 List.mem_cons_self) with e2 | e2
        · exact e2.symm
        · have a := p2.1 x e
          have b := p1.1 y e2
          rw [cmpB_neg] at a
          omega
    subst hxy
    rw [rising_ext p1.2 p2.2 (fun z => ?_)]
    have hx1 : ∀ z, z ∈ l → z ≠ x := fun z hz e => by subst e; have := p1.1 z hz; rw [cmpB_self] at this; omega
    have hx2 : ∀ z, z ∈ m → z ≠ x := fun z hz e => by subst e; have := p2.1 z hz; rw [cmpB_self] at this; omega
    constructor
    · intro hz
      rcases List.mem_cons.1 ((h z).1 (List.mem_cons_of_mem _ hz)) with e | e
      · exact absurd e (hx1 z hz)
      · exact e
    · intro hz
      rcases List.mem_cons.1 ((h z).2 (List.mem_cons_of_mem _ hz)) with e | e
      · exact absurd e (hx2 z hz)
      · exact e
/-- The kids with one more, or with one in another's place. -/
def put1 (l : List Ent) (z : Ent) : List Ent := if hasN l z.f0 = true then l.set (rk l z.f0) z else l.take (rk l z.f0) ++ z :: l.drop (rk l z.f0)
theorem put1_mem {l : List Ent} {z : Ent} (h : Rising l) (x : Ent) : x ∈ put1 l z ↔ x = z ∨ (x ∈ l ∧ x.f0 ≠ z.f0) := by
  unfold put1
  split
  · rename_i hh
    obtain ⟨y, hy, hs⟩ := hasN_at hh
    have hil := (List.getElem?_eq_some_iff.1 hy).1
    constructor
    · intro hx
      obtain ⟨j, hj⟩ := List.mem_iff_getElem?.1 hx
      rw [List.getElem?_set] at hj
      by_cases e : rk l z.f0 = j
      · rw [if_pos e, if_pos (by omega)] at hj
        injection hj with hj
        exact .inl hj.symm
      · rw [if_neg e] at hj
        refine .inr ⟨List.mem_of_getElem? hj, fun e2 => ?_⟩
        rcases Nat.lt_or_gt_of_ne e with hlt | hgt
        · have := h.at hlt hy hj; rw [hs, e2, cmpB_self] at this; omega
        · have := h.at hgt hj hy; rw [hs, e2, cmpB_self] at this; omega
    · rintro (rfl | ⟨hx, hn⟩)
      · exact List.mem_iff_getElem?.2 ⟨rk l x.f0, by rw [List.getElem?_set_self hil]⟩
      · obtain ⟨j, hj⟩ := List.mem_iff_getElem?.1 hx
        refine List.mem_iff_getElem?.2 ⟨j, ?_⟩
        rw [List.getElem?_set_ne (fun e => ?_)]
        · exact hj
        · subst e
          rw [hy] at hj
          injection hj with hj
          subst hj
          exact hn hs
  · rename_i hh
    have hno : ∀ x, x ∈ l → x.f0 ≠ z.f0 := by
      refine (look_none h).1 ?_
      cases hl : look l z.f0 with
      | none => rfl
      | some y => exact absurd (has_look.2 ⟨y, hl⟩) hh
    rw [List.mem_append, List.mem_cons]
    constructor
    · rintro (hx | rfl | hx)
      · exact .inr ⟨List.mem_of_mem_take hx, hno x (List.mem_of_mem_take hx)⟩
      · exact .inl rfl
      · exact .inr ⟨List.mem_of_mem_drop hx, hno x (List.mem_of_mem_drop hx)⟩
    · rintro (rfl | ⟨hx, _⟩)
      · exact .inr (.inl rfl)
      · rw [← List.take_append_drop (rk l z.f0) l, List.mem_append] at hx
        rcases hx with hx | hx
        · exact .inl hx
        · exact .inr (.inr hx)
theorem put1_rising {l : List Ent} {z : Ent} (h : Rising l) : Rising (put1 l z) := by
  unfold put1
  split
  · rename_i hh
    obtain ⟨y, hy, hs⟩ := hasN_at hh
    have e : (l.set (rk l z.f0) z).map (·.f0) = l.map (·.f0) := by
      rw [List.map_set]
      apply List.ext_getElem?
      intro j
      rw [List.getElem?_set]
      split
      · rename_i e
        subst e
        split
        · rw [List.getElem?_map, hy]; exact congrArg some hs.symm
        · rename_i hn
          exact absurd (by rw [List.length_map]; exact (List.getElem?_eq_some_iff.1 hy).1) hn
      · rfl
    have h1 : (l.map (·.f0)).Pairwise (fun a b => cmpB a b < 0) := List.pairwise_map.2 (show l.Pairwise _ from h)
    rw [← e] at h1
    exact List.pairwise_map.1 h1
  · rename_i hh
    have hno : ∀ x, x ∈ l → x.f0 ≠ z.f0 := by
      refine (look_none h).1 ?_
      cases hl : look l z.f0 with
      | none => rfl
      | some y => exact absurd (has_look.2 ⟨y, hl⟩) hh
    have hsp := rk_spec z.f0 h
    have h0 := h
    unfold Rising at h0
    rw [← List.take_append_drop (rk l z.f0) l, List.pairwise_append] at h0
    refine List.pairwise_append.2 ⟨h0.1, List.pairwise_cons.2 ⟨fun x hx => ?_, h0.2.1⟩, fun x hx y hy => ?_⟩
    · have a := hsp.2 x hx
      have b := hno x (List.mem_of_mem_drop hx)
      rw [cmpB_neg]
      have : cmpB x.f0 z.f0 ≠ 0 := fun e => b ((cmpB_zero _ _).1 e)
      omega
    · rcases List.mem_cons.1 hy with rfl | hy
      · exact hsp.1 x hx
      · exact h0.2.2 x hx y hy
theorem put1_look {l : List Ent} {z : Ent} (h : Rising l) : look (put1 l z) z.f0 = some z := (look_iff' (put1_rising h)).2 ⟨(put1_mem h z).2 (.inl rfl), rfl⟩
theorem put1_other {l : List Ent} {z : Ent} {s : ByteArray} (h : Rising l) (hs : s ≠ z.f0) : look (put1 l z) s = look l s :=
  look_same (put1_rising h) h (fun x hx => ⟨fun hm => by
    rcases (put1_mem h x).1 hm with e | e
    · exact absurd (by rw [← hx, e]) hs
    · exact e.1, fun hm => (put1_mem h x).2 (.inr ⟨hm, by rw [hx]; exact hs⟩)⟩)
/-- The kids without one. -/
def cut1 (l : List Ent) (s : ByteArray) : List Ent := l.eraseIdx (rk l s)
theorem cut1_rising {l : List Ent} (s : ByteArray) (h : Rising l) : Rising (cut1 l s) := List.Pairwise.sublist (List.eraseIdx_sublist _ _) h
theorem cut1_mem {l : List Ent} {s : ByteArray} (h : Rising l) (hh : hasN l s = true) (x : Ent) : x ∈ cut1 l s ↔ x ∈ l ∧ x.f0 ≠ s := by
  obtain ⟨y, hy, hs⟩ := hasN_at hh
  unfold cut1
  rw [List.mem_eraseIdx_iff_getElem?]
  constructor
  · rintro ⟨j, hj, hx⟩
    refine ⟨List.mem_of_getElem? hx, fun e => ?_⟩
    rcases Nat.lt_or_gt_of_ne hj with hlt | hgt
    · have := h.at hlt hx hy; rw [hs, e, cmpB_self] at this; omega
    · have := h.at hgt hy hx; rw [hs, e, cmpB_self] at this; omega
  · rintro ⟨hx, hn⟩
    obtain ⟨j, hj⟩ := List.mem_iff_getElem?.1 hx
    exact ⟨j, fun e => by subst e; rw [hy] at hj; injection hj with hj; subst hj; exact hn hs, hj⟩
theorem putAct_eq (sub : NodeT) (l : List Ent) (s : ByteArray) : putAct sub l (rk l s) (hasN l s) s = (put1 l (putK sub s), 0) := rfl
theorem cutAct_yes {l : List Ent} {s : ByteArray} (h : hasN l s = true) : cutAct l (rk l s) (hasN l s) s = (cut1 l s, 0) := by unfold cutAct; rw [if_pos h]; rfl
theorem cutAct_no {l : List Ent} {s : ByteArray} (h : ¬ hasN l s = true) : cutAct l (rk l s) (hasN l s) s = (l, 3) := by unfold cutAct; rw [if_neg h]
/-- One name deeper. -/
theorem chN_deep (act : List Ent → Nat → Bool → ByteArray → List Ent × Int) {s : ByteArray} {r : List ByteArray} (hr : r ≠ []) {l : List Ent} {x : Ent} (hx : look l s = some x) (hR : Rising l) : chN act (s :: r) 3 l = if (chN act r x.f1 x.f4).2 ≠ 0 then ([], (chN act r x.f1 x.f4).2) else (put1 l { x with f4 := (chN act r x.f1 x.f4).1 }, 0) := by
  have hh : hasN l s = true := has_look.2 ⟨x, hx⟩
  have hxs : x.f0 = s := ((look_iff' hR).1 hx).2
  rw [chN, if_neg (fun h => h rfl), if_neg hr]
  unfold look at hx
  rw [hx]
  show (if (chN act r x.f1 x.f4).2 ≠ 0 then ([], (chN act r x.f1 x.f4).2) else (l.set (rk l s) { x with f4 := (chN act r x.f1 x.f4).1 }, 0)) = _
  unfold put1
  rw [if_pos (show hasN l ({ x with f4 := (chN act r x.f1 x.f4).1 } : Ent).f0 = true by show hasN l x.f0 = true; rw [hxs]; exact hh)]
  rw [show rk l ({ x with f4 := (chN act r x.f1 x.f4).1 } : Ent).f0 = rk l s from by show rk l x.f0 = _; rw [hxs]]
theorem chN_lost (act : List Ent → Nat → Bool → ByteArray → List Ent × Int) {s : ByteArray} {r : List ByteArray} (hr : r ≠ []) {l : List Ent} (hx : look l s = none) : chN act (s :: r) 3 l = ([], 3) := by
  rw [chN, if_neg (fun h => h rfl), if_neg hr]
  unfold look at hx
  rw [hx]
theorem getN_step (s : ByteArray) (r : List ByteArray) (e : Bool) (t : ByteArray) (l : List Ent) : getN (s :: r) (3, e, t, l) = match look l s with
    | none => (zeroT, 3)
    | some x => getN r (nodeOf x) := by rw [getN, if_neg (fun h => h rfl)]; rfl
theorem AllR.look {l : List Ent} (h : AllR l) {s : ByteArray} {x : Ent} (hx : look l s = some x) : AllR x.f4 := by
  obtain ⟨i, hi⟩ := List.mem_iff_getElem?.1 ((look_iff' h.rises.1).1 hx).1
  exact h.at hi
/-- What a put that went well is made of, level by level. -/
theorem put_ind (sub : NodeT) (P : List ByteArray → List Ent → List Ent → Prop) (h1 : ∀ s l, AllR l → P [s] l (put1 l (putK sub s)))
    (h2 : ∀ s r l x q, AllR l → r ≠ [] → look l s = some x → x.f1 = 3 → chN (putAct sub) r 3 x.f4 = (q, 0) → P r x.f4 q → P (s :: r) l (put1 l { x with f4 := q })) :
    ∀ (ns : List ByteArray) (k : Int) (l l2 : List Ent), ns ≠ [] → AllR l → chN (putAct sub) ns k l = (l2, 0) → k = 3 ∧ P ns l l2
  | [], k, l, l2, hn, _, _ => absurd rfl hn
  | s :: r, k, l, l2, _, hl, h => by
    have hk : k = 3 := by
      refine Decidable.of_not_not (fun hk => ?_)
      rw [chN, if_pos hk] at h
      injection h with _ h
      exact absurd h (by decide)
    subst hk
    refine ⟨rfl, ?_⟩
    by_cases hr : r = []
    · subst hr
      rw [chN, if_neg (fun h => h rfl), if_pos rfl, putAct_eq] at h
      rw [if_neg (fun h => h rfl)] at h
      injection h with h _
      subst h
      exact h1 s l hl
    · cases hx : look l s with
      | none =>
        rw [chN_lost _ hr hx] at h
        injection h with _ h
        exact absurd h (by decide)
      | some x =>
        rw [chN_deep _ hr hx hl.rises.1] at h
        by_cases hq : (chN (putAct sub) r x.f1 x.f4).2 = 0
        · rw [if_neg (fun e => e hq)] at h
          injection h with h _
          have hpair : chN (putAct sub) r x.f1 x.f4 = ((chN (putAct sub) r x.f1 x.f4).1, 0) := Prod.ext rfl hq
          have ih := put_ind sub P h1 h2 r x.f1 x.f4 _ hr (hl.look hx) hpair
          rw [← h]
          exact h2 s r l x _ hl hr hx ih.1 ((congrArg (fun z => chN (putAct sub) r z x.f4) ih.1.symm).trans hpair) ih.2
        · rw [if_pos hq] at h
          injection h with _ h
          exact absurd h hq
/-- What was put is got. -/
theorem put_got (sub : NodeT) (ns : List ByteArray) (k : Int) (l l2 : List Ent) (hn : ns ≠ []) (hl : AllR l) (h : chN (putAct sub) ns k l = (l2, 0)) : ∀ e t, getN ns (k, e, t, l2) = (sub, 0) := by
  have := put_ind sub (fun ns l l2 => ∀ e t, getN ns (3, e, t, l2) = (sub, 0)) (fun s l hl e t => by
      rw [getN_step, show look (put1 l (putK sub s)) s = some (putK sub s) from put1_look hl.rises.1]; rfl)
    (fun s r l x q hl hr hx hk hq ih e t => by
      have hxs : x.f0 = s := ((look_iff' hl.rises.1).1 hx).2
      rw [getN_step, show look (put1 l { x with f4 := q }) s = some { x with f4 := q } from by rw [← hxs]; exact put1_look (z := { x with f4 := q }) hl.rises.1]
      show getN r (x.f1, x.f2, x.f3, q) = _
      rw [hk]
      exact ih _ _) ns k l l2 hn hl h
  rw [this.1]
  exact this.2
/-- What lies neither above nor below is as it was. -/
theorem put_apart (sub : NodeT) (ns : List ByteArray) (k : Int) (l l2 : List Ent) (hn : ns ≠ []) (hl : AllR l) (h : chN (putAct sub) ns k l = (l2, 0)) : ∀ ms, ¬ ns <+: ms → ¬ ms <+: ns → ∀ e t, getN ms (k, e, t, l2) = getN ms (k, e, t, l) := by
  have := put_ind sub (fun ns l l2 => ∀ ms, ¬ ns <+: ms → ¬ ms <+: ns → ∀ e t, getN ms (3, e, t, l2) = getN ms (3, e, t, l)) (fun s l hl ms h1 h2 e t => by
      cases ms with
      | nil => exact absurd List.nil_prefix h2
      | cons s' r' =>
        have hne : s' ≠ s := fun e => h1 (by rw [e]; exact ⟨r', rfl⟩)
        rw [getN_step, getN_step, put1_other hl.rises.1 (show s' ≠ (putK sub s).f0 from hne)])
    (fun s r l x q hl hr hx hk hq ih ms h1 h2 e t => by
      cases ms with
      | nil => exact absurd List.nil_prefix h2
      | cons s' r' =>
        have hxs : x.f0 = s := ((look_iff' hl.rises.1).1 hx).2
        rw [getN_step, getN_step]
        by_cases e : s' = s
        · subst e
          rw [hx, show look (put1 l { x with f4 := q }) s' = some { x with f4 := q } from by rw [← hxs]; exact put1_look (z := { x with f4 := q }) hl.rises.1]
          show getN r' (x.f1, x.f2, x.f3, q) = getN r' (x.f1, x.f2, x.f3, x.f4)
          rw [hk]
          exact ih r' (fun hp => h1 (by rw [List.cons_prefix_cons]; exact ⟨rfl, hp⟩)) (fun hp => h2 (by rw [List.cons_prefix_cons]; exact ⟨rfl, hp⟩)) _ _
        · rw [put1_other hl.rises.1 (show s' ≠ ({ x with f4 := q } : Ent).f0 from by show s' ≠ x.f0; rw [hxs]; exact e)]) ns k l l2 hn hl h
  rw [this.1]
  exact this.2
/-- Cut out it is gone; put back it is there. -/
theorem put_cut (sub : NodeT) (ns : List ByteArray) (k : Int) (l l2 : List Ent) (hn : ns ≠ []) (hl : AllR l) (h : chN (putAct sub) ns k l = (l2, 0)) : ∃ l3, Rising l2 ∧ chN cutAct ns k l2 = (l3, 0) ∧ (∀ e t, getN ns (k, e, t, l3) = (zeroT, 3)) ∧ chN cutAct ns k l3 = ([], 3) ∧ chN (putAct sub) ns k l3 = (l2, 0) := by
  have := put_ind sub (fun ns l l2 => ∃ l3, Rising l2 ∧ (chN cutAct ns 3 l2 = (l3, 0)) ∧ (∀ e t, getN ns (3, e, t, l3) = (zeroT, 3)) ∧ chN cutAct ns 3 l3 = ([], 3) ∧ chN (putAct sub) ns 3 l3 = (l2, 0)) (fun s l hl => by
      have hR := put1_rising (z := putK sub s) hl.rises.1
      have hh : hasN (put1 l (putK sub s)) s = true := has_look.2 ⟨_, put1_look (z := putK sub s) hl.rises.1⟩
      have hR3 := cut1_rising s hR
      have hno : look (cut1 (put1 l (putK sub s)) s) s = none := (look_none hR3).2 (fun x hx => ((cut1_mem hR hh x).1 hx).2)
      have hnh : ¬ hasN (cut1 (put1 l (putK sub s)) s) s = true := fun h => by
        obtain ⟨x, hx⟩ := has_look.1 h
        rw [hno] at hx; cases hx
      refine ⟨cut1 (put1 l (putK sub s)) s, hR, ?_, fun e t => by rw [getN_step, hno], ?_, ?_⟩
      · rw [chN, if_neg (fun h => h rfl), if_pos rfl, cutAct_yes hh]; rfl
      · rw [chN, if_neg (fun h => h rfl), if_pos rfl, cutAct_no hnh]; rfl
      · rw [chN, if_neg (fun h => h rfl), if_pos rfl, putAct_eq, if_neg (fun h => h rfl)]
        refine Prod.ext (rising_ext (put1_rising hR3) hR (fun x => ?_)) rfl
        rw [put1_mem hR3, cut1_mem hR hh, put1_mem hl.rises.1]
        constructor
        · rintro (h | ⟨⟨h, _⟩, _⟩)
          · exact .inl h
          · exact h
        · rintro (h | h)
          · exact .inl h
          · exact .inr ⟨⟨.inr h, h.2⟩, h.2⟩)
    (fun s r l x q hl hr hx hk hq ih => by
      obtain ⟨q3, hRq, i1, i2, i3, i4⟩ := ih
      have hxs : x.f0 = s := ((look_iff' hl.rises.1).1 hx).2
      have hR := put1_rising (z := { x with f4 := q }) hl.rises.1
      have hlk : look (put1 l { x with f4 := q }) s = some { x with f4 := q } := by rw [← hxs]; exact put1_look (z := { x with f4 := q }) hl.rises.1
      have hR3 := put1_rising (z := { x with f4 := q3 }) hR
      have hlk3 : look (put1 (put1 l { x with f4 := q }) { x with f4 := q3 }) s = some { x with f4 := q3 } := by rw [← hxs]; exact put1_look (z := { x with f4 := q3 }) hR
      refine ⟨put1 (put1 l { x with f4 := q }) { x with f4 := q3 }, hR, ?_, fun e t => ?_, ?_, ?_⟩
      · rw [chN_deep _ hr hlk hR]
        show (if (chN cutAct r x.f1 q).2 ≠ 0 then ([], (chN cutAct r x.f1 q).2) else (put1 (put1 l { x with f4 := q }) { x with f4 := (chN cutAct r x.f1 q).1 }, 0)) = _
        have j : chN cutAct r x.f1 q = (q3, 0) := (congrArg (fun z => chN cutAct r z q) hk).trans i1
        rw [j]; rfl
      · rw [getN_step, hlk3]
        show getN r (x.f1, x.f2, x.f3, q3) = _
        rw [hk]; exact i2 _ _
      · rw [chN_deep _ hr hlk3 hR3]
        show (if (chN cutAct r x.f1 q3).2 ≠ 0 then ([], (chN cutAct r x.f1 q3).2) else _) = _
        have j : chN cutAct r x.f1 q3 = ([], 3) := (congrArg (fun z => chN cutAct r z q3) hk).trans i3
        rw [j]; rfl
      · rw [chN_deep _ hr hlk3 hR3]
        show (if (chN (putAct sub) r x.f1 q3).2 ≠ 0 then ([], (chN (putAct sub) r x.f1 q3).2) else (put1 (put1 (put1 l { x with f4 := q }) { x with f4 := q3 }) { x with f4 := (chN (putAct sub) r x.f1 q3).1 }, 0)) = _
        have j : chN (putAct sub) r x.f1 q3 = (q, 0) := (congrArg (fun z => chN (putAct sub) r z q3) hk).trans i4
        rw [j, if_neg (fun h => h rfl)]
        refine Prod.ext (rising_ext (put1_rising hR3) hR (fun y => ?_)) rfl
        rw [put1_mem hR3, put1_mem hR, put1_mem hl.rises.1]
        constructor
        · rintro (h | ⟨h | ⟨h, _⟩, h2⟩)
          · exact .inl h
          · rw [h] at h2; exact absurd rfl h2
          · exact h
        · rintro (h | h)
          · exact .inl h
          · exact .inr ⟨.inr ⟨.inr h, h.2⟩, h.2⟩) ns k l l2 hn hl h
  rw [this.1]
  exact this.2
end Go.Proofs.YtnemeeidomceiaaDoor
end
section
/-! The law of Put, Get and Cut, on trees alone. -/
namespace Go.Proofs.YtnemeeidomceiaaDoor
open Go.RowKit Go.Proofs.YtnemeeidomceiaaDoorW.PrintWords
set_option linter.unusedVariables false
theorem look_zero (k : Int) (e : Bool) (t : ByteArray) (l : List Ent) : lookCode (lookL k e t l) = 0 ↔ wf 32 ⟨⟨#[]⟩, k, e, t, l⟩ ∧ 24 + tsz 32 ⟨⟨#[]⟩, k, e, t, l⟩ ≤ 1048576 := by
  constructor
  · intro h
    have hfair := nodeL_fair 32 ⟨#[]⟩ ⟨⟨#[]⟩, k, e, t, l⟩ magS
    cases hs : lookL k e t l with
    | bad p c =>
      rw [hs] at h
      unfold lookL at hs
      rw [hs] at hfair
      exact absurd h hfair
    | ok b rows =>
      obtain ⟨h1, h2, h3, _⟩ := (look_iff k e t l b rows).1 hs
      exact ⟨h1, by omega⟩
  · rintro ⟨h1, h2⟩
    rw [(look_iff k e t l _ _).2 ⟨h1, rfl, h2, rfl⟩]; rfl
theorem ksz_erase (f : Nat) : ∀ (l : List Ent) (i : Nat), ksz f (l.eraseIdx i) ≤ ksz f l
  | [], _ => by simp
  | y :: l, 0 => by
    have h1 := entS_range y.f0
    have h2 := tsz_nonneg f y
    rw [ksz_cons, List.eraseIdx_cons_zero]; omega
  | y :: l, i + 1 => by
    rw [List.eraseIdx_cons_succ, ksz_cons, ksz_cons]
    have := ksz_erase f l i
    omega
theorem ksz_set (f : Nat) : ∀ (l : List Ent) (i : Nat) (x z : Ent), l[i]? = some x → z.f0 = x.f0 → tsz f z ≤ tsz f x → ksz f (l.set i z) ≤ ksz f l
  | [], _, _, _, h, _, _ => by simp at h
  | y :: l, 0, x, z, h, h0, ht => by
    simp at h
    subst h
    rw [List.set_cons_zero, ksz_cons, ksz_cons, h0]; omega
  | y :: l, i + 1, x, z, h, h0, ht => by
    rw [List.set_cons_succ, ksz_cons, ksz_cons]
    have := ksz_set f l i x z (by simpa using h) h0 ht
    omega
theorem look_at {l : List Ent} {s : ByteArray} {x : Ent} (h : look l s = some x) : hasN l s = true ∧ l[rk l s]? = some x := by
  have hh : hasN l s = true := has_look.2 ⟨x, h⟩
  refine ⟨hh, ?_⟩
  unfold look at h
  rw [if_pos hh] at h
  exact h
theorem put1_at {l : List Ent} {s : ByteArray} {x : Ent} (q : List Ent) (h : look l s = some x) (hR : Rising l) : put1 l { x with f4 := q } = l.set (rk l s) { x with f4 := q } := by
  have hxs : x.f0 = s := ((look_iff' hR).1 h).2
  unfold put1
  rw [if_pos (show hasN l ({ x with f4 := q } : Ent).f0 = true by show hasN l x.f0 = true; rw [hxs]; exact (look_at h).1)]
  rw [show rk l ({ x with f4 := q } : Ent).f0 = rk l s from by show rk l x.f0 = _; rw [hxs]]
/-- A tree with something cut out is as well as it was, and no longer. -/
theorem cut_wf : ∀ (ns : List ByteArray) (f : Nat) (nm : ByteArray) (k : Int) (e : Bool) (t : ByteArray) (l l3 : List Ent), wf f ⟨nm, k, e, t, l⟩ → chN cutAct ns k l = (l3, 0) → wf f ⟨nm, k, e, t, l3⟩ ∧ tsz f ⟨nm, k, e, t, l3⟩ ≤ tsz f ⟨nm, k, e, t, l⟩
  | [], f, nm, k, e, t, l, l3, hw, h => by
    rw [chN] at h
    injection h with h _
    subst h
    exact ⟨hw, Int.le_refl _⟩
  | s :: r, 0, nm, k, e, t, l, l3, hw, h => hw.elim
  | s :: r, f + 1, nm, k, e, t, l, l3, hw, h => by
    have hk : k = 3 := by
      refine Decidable.of_not_not (fun hk => ?_)
      rw [chN, if_pos hk] at h
      injection h with _ h
      exact absurd h (by decide)
    subst hk
    obtain ⟨w1, w2, w3, w4⟩ := hw
    simp only at w1 w2 w3 w4
    have hfe : ∀ m, fieldsE 3 e t m = 0 := fun m => by rw [← w1]; unfold fieldsE; rfl
    have key : ∀ m, (∀ y, y ∈ m → nameE y.f0 = 0) → Rising m → (∀ y, y ∈ m → wf f y) → ksz f m ≤ ksz f l → wf (f + 1) ⟨nm, 3, e, t, m⟩ ∧ tsz (f + 1) ⟨nm, 3, e, t, m⟩ ≤ tsz (f + 1) ⟨nm, 3, e, t, l⟩ := fun m h1 h2 h3 h4 => ⟨⟨hfe m, h1, h2, h3⟩, by
      show ownS 3 e t + ksz f m ≤ ownS 3 e t + ksz f l
      omega⟩
    by_cases hr : r = []
    · subst hr
      rw [chN, if_neg (fun h => h rfl), if_pos rfl] at h
      by_cases hh : hasN l s = true
      · rw [cutAct_yes hh, if_neg (fun h => h rfl)] at h
        injection h with h _
        subst h
        exact key _ (fun y hy => w2 y ((cut1_mem w3 hh y).1 hy).1) (cut1_rising s w3) (fun y hy => w4 y ((cut1_mem w3 hh y).1 hy).1) (ksz_erase f l _)
      · rw [cutAct_no hh, if_pos (fun h => absurd (show (3 : Int) = 0 from h) (by decide))] at h
        injection h with _ h
        exact absurd (show (3 : Int) = 0 from h) (by decide)
    · cases hx : look l s with
      | none =>
        rw [chN_lost _ hr hx] at h
        injection h with _ h
        exact absurd h (by decide)
      | some x =>
        rw [chN_deep _ hr hx w3] at h
        by_cases hq : (chN cutAct r x.f1 x.f4).2 = 0
        · rw [if_neg (fun e => e hq)] at h
          injection h with h _
          have hxm := ((look_iff' w3).1 hx).1
          have hxe : (⟨x.f0, x.f1, x.f2, x.f3, x.f4⟩ : Ent) = x := by cases x; rfl
          have ih := cut_wf r f x.f0 x.f1 x.f2 x.f3 x.f4 (chN cutAct r x.f1 x.f4).1 (by rw [hxe]; exact w4 x hxm) (Prod.ext rfl hq)
          rw [hxe] at ih
          generalize (chN cutAct r x.f1 x.f4).1 = q at h ih
          subst h
          have hm := put1_mem (z := { x with f4 := q }) w3
          refine key _ (fun y hy => ?_) (put1_rising w3) (fun y hy => ?_) ?_
          · rcases (hm y).1 hy with rfl | hy
            · exact w2 x hxm
            · exact w2 y hy.1
          · rcases (hm y).1 hy with rfl | hy
            · exact ih.1
            · exact w4 y hy.1
          · rw [put1_at q hx w3]
            exact ksz_set f l _ x _ (look_at hx).2 rfl ih.2
        · rw [if_pos hq] at h
          injection h with _ h
          exact absurd h hq
theorem cut_texts : ∀ (ns : List ByteArray) (k : Int) (l : List Ent), Texts l → Texts (chN cutAct ns k l).1
  | [], k, l, h => h
  | s :: r, k, l, h => by
    have hnil : Texts [] := .of (by simp)
    unfold chN
    split
    · exact hnil
    · split
      · split
        · exact hnil
        · show Texts (cutAct l (rk l s) (hasN l s) s).1
          unfold cutAct
          split
          · exact .of (fun x hx => h.mem (List.mem_of_mem_eraseIdx hx))
          · exact h
      · split
        · exact hnil
        · rename_i x hx
          split
          · exact hnil
          · have hxm : x ∈ l := by
              split at hx
              · exact List.mem_of_getElem? hx
              · cases hx
            refine .of (fun y hy => ?_)
            rcases List.mem_or_eq_of_mem_set hy with hy | hy
            · exact h.mem hy
            · rw [hy]
              exact ⟨(h.mem hxm).1, (h.mem hxm).2.1, cut_texts r x.f1 x.f4 (h.mem hxm).2.2⟩
theorem AllR.fit : ∀ {l : List Ent}, AllR l → Fit l := by
  intro l h
  induction h with
  | mk h n k ih => exact .mk (by omega) ih
def codeN (n : NodeT) : Int := lookCode (lookL n.1 n.2.1 n.2.2.1 n.2.2.2)
def Good (n : NodeT) : Prop := Held n.2.2.1 n.2.2.2 ∧ Fit n.2.2.2
theorem good_zero : Good zeroT := ⟨⟨.of (by simp [zeroT]), by decide⟩, .mk (by simp [zeroT]) (by simp [zeroT])⟩
def pathE (p : ByteArray) : Int := (splitP p).2.1
theorem ready_eq (n : NodeT) (p : ByteArray) : readyP n.1 n.2.1 n.2.2.1 n.2.2.2 p = if codeN n ≠ 0 then ([], codeN n) else ((splitP p).1, pathE p) := rfl
theorem ready_ok {n : NodeT} (h : codeN n = 0) (p : ByteArray) : readyP n.1 n.2.1 n.2.2.1 n.2.2.2 p = ((splitP p).1, pathE p) := by rw [ready_eq, if_neg (fun e => e h)]
theorem getP_eq {n : NodeT} (h : codeN n = 0) (p : ByteArray) : getP n p = if pathE p ≠ 0 then (zeroT, pathE p) else getN (splitP p).1 n := by
  unfold getP
  rw [ready_ok h]
theorem cutP_eq {n : NodeT} (h : codeN n = 0) {p : ByteArray} (hp : pathE p = 0) (hne : (splitP p).1 ≠ []) : cutP n.1 n.2.1 n.2.2.1 n.2.2.2 p = if (chN cutAct (splitP p).1 n.1 n.2.2.2).2 ≠ 0 then (zeroT, (chN cutAct (splitP p).1 n.1 n.2.2.2).2) else ((n.1, n.2.1, n.2.2.1, (chN cutAct (splitP p).1 n.1 n.2.2.2).1), 0) := by
  unfold cutP
  rw [ready_ok h, if_neg (fun e => e hp), if_neg hne]
theorem putP_eq {n : NodeT} (h : codeN n = 0) {sub : NodeT} (hs : codeN sub = 0) {p : ByteArray} (hp : pathE p = 0) (hne : (splitP p).1 ≠ []) : putP n p sub = if (chN (putAct sub) (splitP p).1 n.1 n.2.2.2).2 ≠ 0 then (zeroT, (chN (putAct sub) (splitP p).1 n.1 n.2.2.2).2) else if codeN (n.1, n.2.1, n.2.2.1, (chN (putAct sub) (splitP p).1 n.1 n.2.2.2).1) ≠ 0 then (zeroT, codeN (n.1, n.2.1, n.2.2.1, (chN (putAct sub) (splitP p).1 n.1 n.2.2.2).1)) else ((n.1, n.2.1, n.2.2.1, (chN (putAct sub) (splitP p).1 n.1 n.2.2.2).1), 0) := by
  unfold putP
  rw [ready_ok hs, if_neg (fun e => e h), if_neg (fun e => e hp), if_neg hne]
  rfl
theorem getN_good : ∀ (ns : List ByteArray) (n : NodeT), Good n → Good (getN ns n).1
  | [], n, h => h
  | s :: r, n, h => by
    unfold getN
    split
    · exact good_zero
    · split
      · exact good_zero
      · rename_i x hx
        have hxm : x ∈ n.2.2.2 := by
          split at hx
          · exact List.mem_of_getElem? hx
          · cases hx
        exact getN_good r (nodeOf x) ⟨⟨(h.1.1.mem hxm).2.2, (h.1.1.mem hxm).2.1⟩, h.2.at_ hxm⟩
theorem getP_good {n : NodeT} (h : Good n) (p : ByteArray) : Good (getP n p).1 := by
  unfold getP
  split
  · exact good_zero
  · exact getN_good _ n h
/-- A put that failed hands back nothing. -/
theorem put_bad {n sub : NodeT} {p : ByteArray} (h : (putP n p sub).2 ≠ 0) : (putP n p sub).1 = zeroT := by
  unfold putP at h ⊢
  split
  · rfl
  · rename_i c1
    rw [if_neg c1] at h
    split
    · rfl
    · rename_i c2
      rw [if_neg c2] at h
      split
      · rename_i c3
        rw [if_pos c3] at h
        exact absurd rfl h
      · rename_i c3
        rw [if_neg c3] at h
        split
        · rfl
        · rename_i c4
          rw [if_neg c4] at h
          split
          · rfl
          · rename_i c5
            rw [if_neg c5] at h
            exact absurd rfl h
theorem put_codes {n sub : NodeT} {p : ByteArray} (h : (putP n p sub).2 = 0) : codeN n = 0 ∧ codeN sub = 0 ∧ pathE p = 0 := by
  unfold putP at h
  split at h
  · rename_i c; exact absurd h c
  · rename_i c
    split at h
    · rename_i c2; exact absurd h c2
    · rename_i c2
      have h2 := ready_zero (Decidable.of_not_not c2)
      have h3 := Decidable.of_not_not c2
      rw [ready_ok (n := sub) h2.1] at h3
      exact ⟨Decidable.of_not_not c, h2.1, h3⟩
theorem split_nil {p : ByteArray} (h : p.toList = []) : splitP p = ([], 0, 0) := by unfold splitP; rw [if_pos h]
/-- What was put at the root. -/
theorem put_root {n sub : NodeT} {p : ByteArray} (hp : p.toList = []) (h : (putP n p sub).2 = 0) : (putP n p sub).1 = sub ∧ codeN sub = 0 ∧ getP sub p = (sub, 0) ∧ cutP sub.1 sub.2.1 sub.2.2.1 sub.2.2.2 p = (zeroT, 66) := by
  obtain ⟨h1, h2, h3⟩ := put_codes h
  refine ⟨?_, h2, ?_, ?_⟩
  · unfold putP
    rw [ready_ok h2, if_neg (fun e => e h1), if_neg (fun e => e h3), split_nil hp]
    rfl
  · rw [getP_eq h2, if_neg (fun e => e h3), split_nil hp]; rfl
  · unfold cutP
    rw [ready_ok h2, if_neg (fun e => e h3), split_nil hp]
    rfl
def slashed (x : ByteArray) : List UInt8 := x.data.toList ++ [47]
theorem goP_all : ∀ (l names : List ByteArray) (frm : Nat), (goP l names frm).2.1 = 0 → (goP l names frm).1 = names ++ l
  | [], names, frm, _ => by rw [goP, List.append_nil]
  | x :: l, names, frm, h => by
    unfold goP at h ⊢
    split at h
    · exact absurd (show (61 : Int) = 0 from h) (by decide)
    · rename_i c1
      rw [if_neg c1]
      split at h
      · rename_i c2; exact absurd h c2
      · rename_i c2
        rw [if_neg c2, goP_all l _ _ h]; simp
theorem ex_data (s : ByteArray) (a b : Nat) : (s.extract a b).data.toList = (s.data.toList.drop a).take (b - a) := by
  rw [ByteArray.data_extract, Array.toList_extract, List.extract_eq_take_drop]
theorem pieces_join (s : ByteArray) : ∀ (m frm i : Nat), i + m = s.size → frm ≤ i → (pieces s m frm i).flatMap slashed = s.data.toList.drop frm ++ [47]
  | 0, frm, i, h, hf => by
    rw [pieces, List.flatMap_cons, List.flatMap_nil, List.append_nil]
    unfold slashed
    rw [ex_data, List.take_of_length_le]
    rw [List.length_drop, Array.length_toList]
    show s.size - frm ≤ _
    omega
  | m + 1, frm, i, h, hf => by
    rw [pieces]
    have hi : i < s.data.toList.length := by rw [Array.length_toList]; show i < s.size; omega
    by_cases hb : bt s (i : Int) = 47
    · rw [if_neg (fun e => e hb), List.flatMap_cons, pieces_join s m (i + 1) (i + 1) (by omega) (Nat.le_refl _)]
      unfold slashed
      rw [ex_data]
      have h1 : s.data.toList.drop i = 47 :: s.data.toList.drop (i + 1) := by
        rw [List.drop_eq_getElem_cons hi]
        have hc := bt_toList s i (by omega) 47
        have := (List.getElem?_eq_some_iff.1 (hc.2 hb)).2
        rw [this]
      have h2 : s.data.toList.drop frm = (s.data.toList.drop frm).take (i - frm) ++ s.data.toList.drop i := by
        have := (List.take_append_drop (i - frm) (s.data.toList.drop frm)).symm
        rw [List.drop_drop, show frm + (i - frm) = i from by omega] at this
        exact this
      generalize (s.data.toList.drop frm).take (i - frm) = u at *
      rw [h2, h1]
      simp
    · rw [if_pos hb, pieces_join s m frm (i + 1) (by omega) (by omega)]
theorem split_join {p : ByteArray} (hne : p.toList ≠ []) (h : pathE p = 0) : (splitP p).1 ≠ [] ∧ (splitP p).1.flatMap slashed = p.data.toList ++ [47] := by
  have hj := pieces_join p p.size 0 0 (by omega) (Nat.le_refl _)
  unfold pathE at h
  rw [splitP_pieces p hne] at h ⊢
  rw [goP_all _ _ _ h, List.nil_append]
  rw [List.drop_zero] at hj
  refine ⟨fun e => ?_, hj⟩
  unfold pcs at e
  rw [e] at hj
  simp at hj
theorem flat_prefix {ns ms : List ByteArray} (h : ns <+: ms) : ns.flatMap slashed <+: ms.flatMap slashed := by
  obtain ⟨r, rfl⟩ := h
  rw [List.flatMap_append]
  exact List.prefix_append _ _
/-- Neither of two paths lies below the other, by their texts. -/
def apartP (a b : ByteArray) : Prop := (¬ a.data.toList ++ [47] <+: b.data.toList ++ [47]) ∧ (¬ b.data.toList ++ [47] <+: a.data.toList ++ [47]) ∧ a.toList ≠ [] ∧ b.toList ≠ []
theorem apart_names {a b : ByteArray} (h : apartP a b) (ha : pathE a = 0) (hb : pathE b = 0) : ¬ (splitP a).1 <+: (splitP b).1 ∧ ¬ (splitP b).1 <+: (splitP a).1 := by
  have ja := (split_join h.2.2.1 ha).2
  have jb := (split_join h.2.2.2 hb).2
  refine ⟨fun hp => h.1 ?_, fun hp => h.2.1 ?_⟩
  · rw [← ja, ← jb]; exact flat_prefix hp
  · rw [← ja, ← jb]; exact flat_prefix hp
/-- What was put is got; what lies apart is as it was; cut out it is gone, and put again it is there. -/
theorem put_deep {n sub : NodeT} {p : ByteArray} (hp : p.toList ≠ []) (hn : Good n) (hs : Good sub) (h : (putP n p sub).2 = 0) :
    codeN (putP n p sub).1 = 0 ∧ Good (putP n p sub).1 ∧ getP (putP n p sub).1 p = (sub, 0) ∧ (∀ xp, apartP p xp → getP n xp = getP (putP n p sub).1 xp) ∧
    ∃ less, Good less ∧ cutP (putP n p sub).1.1 (putP n p sub).1.2.1 (putP n p sub).1.2.2.1 (putP n p sub).1.2.2.2 p = (less, 0) ∧ getP less p = (zeroT, 3) ∧ cutP less.1 less.2.1 less.2.2.1 less.2.2.2 p = (zeroT, 3) ∧ putP less p sub = ((putP n p sub).1, 0) := by
  obtain ⟨c1, c2, c3⟩ := put_codes h
  obtain ⟨hne, _⟩ := split_join hp c3
  have hnm := split_names p
  have hap : ∀ xp, apartP p xp → pathE xp = 0 → ¬ (splitP p).1 <+: (splitP xp).1 ∧ ¬ (splitP xp).1 <+: (splitP p).1 := fun xp ha hx => apart_names ha c3 hx
  have heq := putP_eq c1 c2 c3 hne
  rw [heq] at h ⊢
  obtain ⟨k, e, t, l⟩ := n
  have hall : AllR l := look_AllR c1
  generalize hnse : (splitP p).1 = ns at *
  simp only at h ⊢
  by_cases d1 : (chN (putAct sub) ns k l).2 = 0
  case neg => rw [if_pos d1] at h; exact absurd h d1
  rw [if_neg (fun e => e d1)] at h ⊢
  have hput := put_texts sub hs.1 ns k l hnm.1 hn.1.1
  obtain ⟨l2, hl2⟩ : ∃ l2, l2 = (chN (putAct sub) ns k l).1 := ⟨_, rfl⟩
  rw [← hl2] at h hput ⊢
  have hch : chN (putAct sub) ns k l = (l2, 0) := Prod.ext hl2.symm d1
  by_cases d2 : codeN (k, e, t, l2) = 0
  case neg => rw [if_pos d2] at h; exact absurd h d2
  rw [if_neg (fun e => e d2)] at h ⊢
  show codeN (k, e, t, l2) = 0 ∧ Good (k, e, t, l2) ∧ getP (k, e, t, l2) p = (sub, 0) ∧ (∀ xp, apartP p xp → getP (k, e, t, l) xp = getP (k, e, t, l2) xp) ∧
    ∃ less, Good less ∧ cutP k e t l2 p = (less, 0) ∧ getP less p = (zeroT, 3) ∧ cutP less.1 less.2.1 less.2.2.1 less.2.2.2 p = (zeroT, 3) ∧ putP less p sub = ((k, e, t, l2), 0)
  have hall2 : AllR l2 := look_AllR d2
  have hw2 := (look_zero k e t l2).1 d2
  refine ⟨d2, ⟨⟨hput, hn.1.2⟩, hall2.fit⟩, ?_, fun xp ha => ?_, ?_⟩
  · rw [getP_eq d2, if_neg (fun e => e c3), hnse]
    exact put_got sub ns k l l2 hne hall hch e t
  · rw [getP_eq c1, getP_eq d2]
    by_cases hx : pathE xp = 0
    · rw [if_neg (fun e => e hx), if_neg (fun e => e hx)]
      exact (put_apart sub ns k l l2 hne hall hch _ (hap xp ha hx).1 (hap xp ha hx).2 e t).symm
    · rw [if_pos hx, if_pos hx]
  · obtain ⟨l3, hR, i1, i2, i3, i4⟩ := put_cut sub ns k l l2 hne hall hch
    have hw3 := cut_wf ns 32 ⟨#[]⟩ k e t l2 l3 hw2.1 i1
    have d3 : codeN (k, e, t, l3) = 0 := (look_zero k e t l3).2 ⟨hw3.1, by have := hw2.2; have := hw3.2; omega⟩
    have ht3 : Texts l3 := by have := cut_texts ns k l2 hput; rw [i1] at this; exact this
    have d2' : codeN ((k, e, t, l2) : NodeT) = 0 := d2
    refine ⟨(k, e, t, l3), ⟨⟨ht3, hn.1.2⟩, (look_AllR d3).fit⟩, ?_, ?_, ?_, ?_⟩
    · have := cutP_eq d2 c3 (by rw [hnse]; exact hne)
      rw [hnse] at this
      simp only [i1] at this
      exact this
    · rw [getP_eq d3, if_neg (fun e => e c3), hnse]
      exact i2 e t
    · have := cutP_eq d3 c3 (by rw [hnse]; exact hne)
      rw [hnse] at this
      simp only [i3] at this
      exact this
    · have := putP_eq d3 c2 c3 (by rw [hnse]; exact hne)
      rw [hnse] at this
      simp only [i4] at this
      rw [if_neg (fun e => e rfl), if_neg (fun e => e d2)] at this
      exact this
end Go.Proofs.YtnemeeidomceiaaDoor
end
section
/-! apart, begins. -/
namespace Go.Proofs.YtnemeeidomceiaaDoor
open Go.RowKit Go.Proofs.YtnemeeidomceiaaDoorW.PrintWords Go.Proofs.YtnemeeidomceiaaDoorW.PrintLast Go.Proofs.YtnemeeidomceiaaDoorW.PrintMore
set_option linter.unusedVariables false
set_option linter.unusedSimpArgs false
theorem prefix_ex {s p : ByteArray} (h : p.size ≤ s.size) : (s.extract 0 p.size).toList = p.toList ↔ p.data.toList <+: s.data.toList := by
  rw [Lib.toList_data, Lib.toList_data, ex_data, List.drop_zero, Nat.sub_zero, List.prefix_iff_eq_take, Array.length_toList]
  exact eq_comm
theorem prefix_size {s p : ByteArray} (h : p.data.toList <+: s.data.toList) : p.size ≤ s.size := by
  have := h.length_le
  rw [Array.length_toList, Array.length_toList] at this
  exact this
set_option maxHeartbeats 1000000 in
set_option maxRecDepth 100000 in
theorem begins_calls (s p : ByteArray) (hs : s.size ≤ 140737488355327) (hp : p.size ≤ 140737488355327) (w : World) : Calls Tryd.prog 51 #[.string s, .string p] w (EqPost (p.data.toList <+: s.data.toList) w) := by
  by_cases h : p.size ≤ s.size
  · have hi : (p.size : Int) ≤ (s.size : Int) := by omega
    by_cases hq : (s.extract 0 p.size).toList = p.toList
    · have hb : ((s.extract 0 p.size).toList == p.toList) = true := beq_iff_eq.mpr hq
      have HP := Aside0.mk ((prefix_ex h).1 hq)
      clear hq
      go_enter Tryd.func51, Tryd.ntmps51
      go_wp2
      go_ret
      exact ⟨true, rfl, ⟨fun _ => HP.out, fun _ => rfl⟩, Below.refl _ _⟩
    · have hb : ((s.extract 0 p.size).toList == p.toList) = false := beq_eq_false_iff_ne.mpr hq
      have HP := Aside0.mk (fun e => hq ((prefix_ex h).2 e))
      clear hq
      go_enter Tryd.func51, Tryd.ntmps51
      go_wp2
      go_ret
      exact ⟨false, rfl, ⟨fun h => (by cases h), fun h => absurd h HP.out⟩, Below.refl _ _⟩
  · have hi : ¬ (p.size : Int) ≤ (s.size : Int) := by omega
    have HP := Aside0.mk (fun e => h (prefix_size e))
    go_enter Tryd.func51, Tryd.ntmps51
    go_wp2
    go_ret
    exact ⟨false, rfl, ⟨fun h => (by cases h), fun h => absurd h HP.out⟩, Below.refl _ _⟩
theorem slash_data (a : ByteArray) : (a ++ ⟨#[47]⟩).data.toList = a.data.toList ++ [47] := by
  rw [ByteArray.data_append, Array.toList_append]
set_option maxHeartbeats 1000000 in
set_option maxRecDepth 100000 in
theorem apart_calls (a b : ByteArray) (ha : a.size ≤ 140737488351232) (hb : b.size ≤ 140737488351232) (w : World) : Calls Tryd.prog 22 #[.string a, .string b] w (EqPost (apartP a b) w) := by
  obtain ⟨P, hP⟩ : ∃ P, P = apartP a b := ⟨_, rfl⟩
  rw [← hP]
  have HP := Aside0.mk hP
  clear hP
  have HB := Aside0.mk (begins_calls (a ++ ⟨#[47]⟩) (b ++ ⟨#[47]⟩) (by rw [ByteArray.size_append]; show a.size + 1 ≤ _; omega) (by rw [ByteArray.size_append]; show b.size + 1 ≤ _; omega))
  have HA := Aside0.mk (begins_calls (b ++ ⟨#[47]⟩) (a ++ ⟨#[47]⟩) (by rw [ByteArray.size_append]; show b.size + 1 ≤ _; omega) (by rw [ByteArray.size_append]; show a.size + 1 ≤ _; omega))
  by_cases h : a.toList = b.toList
  · have h1 : (a.toList != b.toList) = false := bne_eq_false_iff_eq.mpr h
    have h2 : (a.toList == b.toList) = true := beq_iff_eq.mpr h
    have HQ : Aside0 ¬ P := ⟨by rw [HP.out]; exact fun hh => hh.1 (by rw [← Lib.toList_data, ← Lib.toList_data, h]; exact List.prefix_refl _)⟩
    clear h HA HB
    go_enter Tryd.func22, Tryd.ntmps22
    go_wp2
    go_ret
    exact ⟨false, rfl, ⟨fun h => (by cases h), fun h => absurd h HQ.out⟩, Below.refl _ _⟩
  · have h1 : (a.toList != b.toList) = true := bne_iff_ne.mpr h
    have h2 : (a.toList == b.toList) = false := beq_eq_false_iff_ne.mpr h
    clear h
    go_enter Tryd.func22, Tryd.ntmps22
    go_wp2_with fail
    (with_reducible refine (HB.out _).mono ?_)
    rintro o w1 ⟨b1, rfl, hb1, hw1⟩
    have HB1 := Aside0.mk hb1
    have HW1 := Aside0.mk hw1
    clear hb1 hw1
    cases b1 with
    | true =>
      have HQ : Aside0 ¬ P := ⟨by rw [HP.out]; exact fun hh => hh.2.1 (by rw [← slash_data, ← slash_data]; exact HB1.out.1 rfl)⟩
      go_wp2_with fail
      go_ret
      exact ⟨false, rfl, ⟨fun h => (by cases h), fun h => absurd h HQ.out⟩, HW1.out⟩
    | false =>
      go_wp2_with fail
      (with_reducible refine (HA.out _).mono ?_)
      rintro o w2 ⟨b2, rfl, hb2, hw2⟩
      have HB2 := Aside0.mk hb2
      have HW2 := Aside0.mk (below_step HW1.out hw2)
      clear hb2 hw2
      cases b2 with
      | true =>
        have HQ : Aside0 ¬ P := ⟨by rw [HP.out]; exact fun hh => hh.1 (by rw [← slash_data, ← slash_data]; exact HB2.out.1 rfl)⟩
        go_wp2_with fail
        go_ret
        exact ⟨false, rfl, ⟨fun h => (by cases h), fun h => absurd h HQ.out⟩, HW2.out⟩
      | false =>
        have hq1 : ¬ b.data.toList ++ [47] <+: a.data.toList ++ [47] := fun hh => by rw [← slash_data, ← slash_data] at hh; cases HB1.out.2 hh
        have hq2 : ¬ a.data.toList ++ [47] <+: b.data.toList ++ [47] := fun hh => by rw [← slash_data, ← slash_data] at hh; cases HB2.out.2 hh
        have HPQ : Aside0 (P ↔ a.toList ≠ [] ∧ b.toList ≠ []) := ⟨by rw [HP.out]; exact ⟨fun hh => ⟨hh.2.2.1, hh.2.2.2⟩, fun hh => ⟨hq2, hq1, hh.1, hh.2⟩⟩⟩
        clear hq1 hq2
        by_cases ea : a.toList = []
        · have e1 : (a.toList != []) = false := bne_eq_false_iff_eq.mpr ea
          have e2 : (a.toList == []) = true := beq_iff_eq.mpr ea
          have HQ : Aside0 ¬ P := ⟨by rw [HPQ.out]; exact fun hh => hh.1 ea⟩
          clear ea
          go_wp2_with fail
          go_ret
          exact ⟨false, rfl, ⟨fun h => (by cases h), fun h => absurd h HQ.out⟩, HW2.out⟩
        · have e1 : (a.toList != []) = true := bne_iff_ne.mpr ea
          have e2 : (a.toList == []) = false := beq_eq_false_iff_ne.mpr ea
          have EA := Aside0.mk ea
          clear ea
          by_cases eb : b.toList = []
          · have f1 : (b.toList != []) = false := bne_eq_false_iff_eq.mpr eb
            have f2 : (b.toList == []) = true := beq_iff_eq.mpr eb
            have HQ : Aside0 ¬ P := ⟨by rw [HPQ.out]; exact fun hh => hh.2 eb⟩
            clear eb
            go_wp2_with fail
            go_ret
            exact ⟨false, rfl, ⟨fun h => (by cases h), fun h => absurd h HQ.out⟩, HW2.out⟩
          · have f1 : (b.toList != []) = true := bne_iff_ne.mpr eb
            have f2 : (b.toList == []) = false := beq_eq_false_iff_ne.mpr eb
            have HQ : Aside0 P := ⟨HPQ.out.2 ⟨EA.out, eb⟩⟩
            clear eb
            go_wp2_with fail
            go_ret
            exact ⟨true, rfl, ⟨fun _ => HQ.out, fun _ => rfl⟩, HW2.out⟩
end Go.Proofs.YtnemeeidomceiaaDoor
end
section
/-! The walk of TreePutGet. -/
namespace Go.Proofs.YtnemeeidomceiaaDoor
open Go.RowKit Go.Proofs.YtnemeeidomceiaaDoorW.PrintWords Go.Proofs.YtnemeeidomceiaaDoorW.PrintLast Go.Proofs.YtnemeeidomceiaaDoorW.PrintMore
set_option linter.unusedVariables false
set_option linter.unusedSimpArgs false
section
variable {W W' w' : World} {b : Nat} {A As A' : Option Addr} {c cs c' : Nat} {k k1 sk k' x : Int} {e e1 se e' : Bool} {t t1 st t' p path : ByteArray} {l l1 sl l' : List Ent} {o : Ending}
/-- A node in a variable of its own. -/
structure NB (W : World) (b : Nat) (A : Option Addr) (c : Nat) (k : Int) (e : Bool) (t : ByteArray) (l : List Ent) : Prop where
  blk : Blk W b 32 [.int .i64 k, .bool e, .string t, .slice A l.length c]
  len : l.length ≤ c
  row : Kd.C kE W A l.length l
theorem NB.below (h : NB W b A c k e t l) (hb : Below W.heap.size W W') : NB W' b A c k e t l := ⟨h.blk.below hb, h.len, Kd.C_below h.row hb⟩
theorem NB.new {W : World} (hl : l.length ≤ c) (hC : Kd.C kE W A l.length l) : NB (W.alloc (.cells #[.int .i64 k, .bool e, .string t, .slice A l.length c] 32)) W.heap.size A c k e t l :=
  ⟨Blk.new W _ [.int .i64 k, .bool e, .string t, .slice A l.length c], hl, Kd.C_below hC (below_alloc (Below.refl _ _) _)⟩
/-- A tree handed back, and an error's number. -/
def Made (W : World) (k : Int) (e : Bool) (t : ByteArray) (l : List Ent) (x : Int) (o : Ending) (w' : World) : Prop :=
  ∃ A c, o = .returned (.tuple #[.agg #[.int .i64 k, .bool e, .string t, .slice A l.length c], .int .i64 x]) ∧ (l.length ≤ c ∧ Kd.C kE w' A l.length l) ∧ Below W.heap.size W w'
theorem TreePost.made {r : NodeT × Int} (h : TreePost W r o w') (hr : r = ((k, e, t, l), x)) : Made W k e t l x o w' := by
  subst hr
  obtain ⟨⟨v, hv, hR⟩, hb⟩ := h
  obtain ⟨A, c, rfl, hc, hC⟩ := Kd.R_reads hR
  exact ⟨A, c, hv, ⟨hc, hC⟩, hb⟩
theorem Good.fit (h : Good (k, e, t, l)) : Fit l := h.2
theorem put_to (h : putP (k, e, t, l) path (sk, se, st, sl) = ((k1, e1, t1, l1), x)) (hg : Good (k, e, t, l)) (hgs : Good (sk, se, st, sl)) (hp : path.size ≤ 140737488351232) (hC : Kd.C kE W A l.length l) (hc : l.length ≤ c) (hCs : Kd.C kE W As sl.length sl) (hcs : sl.length ≤ cs) :
    Calls Tryd.prog 20 #[.agg #[.int .i64 k, .bool e, .string t, .slice A l.length c], .string path, .agg #[.int .i64 sk, .bool se, .string st, .slice As sl.length cs]] W (Made W k1 e1 t1 l1 x) :=
  (put_calls (k, e, t, l) path (sk, se, st, sl) A As c cs W hC hc hg.1 hg.2 hp hCs hcs hgs.1 hgs.2).mono fun _ _ hh => hh.made h
theorem get_to (h : getP (k, e, t, l) path = ((k1, e1, t1, l1), x)) (hg : Good (k, e, t, l)) (hp : path.size ≤ 140737488351232) (hC : Kd.C kE W A l.length l) (hc : l.length ≤ c) :
    Calls Tryd.prog 16 #[.agg #[.int .i64 k, .bool e, .string t, .slice A l.length c], .string path] W (Made W k1 e1 t1 l1 x) :=
  (get_calls (k, e, t, l) path A c W hC hc hg.1 hg.2 hp).mono fun _ _ hh => hh.made h
theorem cut_to (h : cutP k e t l path = ((k1, e1, t1, l1), x)) (hg : Good (k, e, t, l)) (hp : path.size ≤ 140737488351232) (hC : Kd.C kE W A l.length l) (hc : l.length ≤ c) :
    Calls Tryd.prog 18 #[.agg #[.int .i64 k, .bool e, .string t, .slice A l.length c], .string path] W (Made W k1 e1 t1 l1 x) :=
  (cut_calls k e t l path A c W hC hc hg.1 hg.2 hp).mono fun _ _ hh => hh.made h
theorem check_to (h : codeN (k, e, t, l) = 0) (hg : Good (k, e, t, l)) (hC : Kd.C kE W A l.length l) (hc : l.length ≤ c) :
    Calls Tryd.prog 14 #[.agg #[.int .i64 k, .bool e, .string t, .slice A l.length c]] W fun o w' => ∃ q, o = .returned (.tuple #[.string q, .int .i64 0]) ∧ Below W.heap.size W w' :=
  (tree_Check.calls k e t A c l _ 0 W hC hc (by unfold tree_Check.f; rw [if_pos hg.1, show lookCode (lookL k e t l) = 0 from h])).mono fun _ _ hh => ⟨_, hh⟩
theorem eq_to (h : (k, e, t, l) = (k', e', t', l')) (hf : Fit l) (hC : Kd.C kE W A l.length l) (hc : l.length ≤ c) (hC' : Kd.C kE W A' l'.length l') (hc' : l'.length ≤ c') :
    Calls Tryd.prog 13 #[.agg #[.int .i64 k, .bool e, .string t, .slice A l.length c], .agg #[.int .i64 k', .bool e', .string t', .slice A' l'.length c']] W fun o w' => o = .returned (.bool true) ∧ Below W.heap.size W w' :=
  (refEq_calls l hf k e t A c k' e' t' l' A' c' W hC hc hC' hc').mono fun _ _ ⟨b, ho, hb, hw⟩ => ⟨by rw [ho, hb.2 h], hw⟩
theorem eq_zero (h : (k, e, t, l) = zeroT) (hf : Fit l) (hC : Kd.C kE W A l.length l) (hc : l.length ≤ c) :
    Calls Tryd.prog 13 #[.agg #[.int .i64 k, .bool e, .string t, .slice A l.length c], .agg #[.int .i64 0, .bool false, .string ⟨#[]⟩, .slice none 0 0]] W fun o w' => o = .returned (.bool true) ∧ Below W.heap.size W w' :=
  eq_to (k' := 0) (e' := false) (t' := ⟨#[]⟩) (l' := []) (A' := none) (c' := 0) h hf hC hc ⟨rfl, by simp, fun h => by simp at h⟩ (Nat.le_refl _)
/-- Other in a variable of its own. -/
structure XB (W : World) (b : Nat) (A : Option Addr) (c : Nat) (k : Int) (e : Bool) (t : ByteArray) (l : List Ent) (p : ByteArray) : Prop where
  blk : Blk W b 56 [.int .i64 k, .bool e, .string t, .slice A l.length c, .string p]
  len : l.length ≤ c
  row : Kd.C kE W A l.length l
theorem XB.below (h : XB W b A c k e t l p) (hb : Below W.heap.size W W') : XB W' b A c k e t l p := ⟨h.blk.below hb, h.len, Kd.C_below h.row hb⟩
theorem XB.cells (h : XB W b A c k e t l p) : W.cell? ⟨b, 0, none⟩ = some (.int .i64 k) ∧ W.cell? ⟨b, 1, none⟩ = some (.bool e) ∧ W.cell? ⟨b, 2, none⟩ = some (.string t) ∧ W.cell? ⟨b, 3, none⟩ = some (.slice A l.length c) ∧ W.cell? ⟨b, 4, none⟩ = some (.string p) :=
  ⟨h.blk.cell 0 _ rfl, h.blk.cell 1 _ rfl, h.blk.cell 2 _ rfl, h.blk.cell 3 _ rfl, h.blk.cell 4 _ rfl⟩
end
set_option maxHeartbeats 4000000 in
set_option maxRecDepth 100000 in
theorem putget_calls (k : Int) (e : Bool) (t : ByteArray) (l : List Ent) (path : ByteArray) (sk : Int) (se : Bool) (st : ByteArray) (sl : List Ent) (xp : ByteArray) (A : Option Addr) (c : Nat) (As : Option Addr) (cs : Nat) (w : World) (hC : Kd.C kE w A l.length l) (hc : l.length ≤ c) (hn : Good (k, e, t, l)) (hp : path.size ≤ 140737488351232) (hCs : Kd.C kE w As sl.length sl) (hcs : sl.length ≤ cs) (hs : Good (sk, se, st, sl)) (hxp : xp.size ≤ 140737488351232) :
    Calls Tryd.prog 8 #[.agg #[.int .i64 k, .bool e, .string t, .slice A l.length c], .string path, .agg #[.int .i64 sk, .bool se, .string st, .slice As sl.length cs, .string xp]] w fun o w' => o = .returned (.bool true) ∧ Below w.heap.size w w' := by
  obtain ⟨⟨⟨km, em, tm, lm⟩, xm⟩, hr⟩ : ∃ r, putP (k, e, t, l) path (sk, se, st, sl) = r := ⟨_, rfl⟩
  have HR := Aside0.mk hr
  have HN := Aside0.mk hn
  have HS := Aside0.mk hs
  have HP := Aside0.mk hp
  have HXP := Aside0.mk hxp
  have HC0 := Aside0.mk (And.intro hC (And.intro hc (And.intro hCs hcs)))
  have HBAD : Aside0 (xm ≠ 0 → (km, em, tm, lm) = zeroT) := ⟨fun h => by
    have := put_bad (n := (k, e, t, l)) (sub := (sk, se, st, sl)) (p := path) (by rw [hr]; exact h)
    rw [hr] at this; exact this⟩
  have HROOT : Aside0 (path.toList = [] → xm = 0 → (km, em, tm, lm) = (sk, se, st, sl) ∧ codeN (sk, se, st, sl) = 0 ∧ getP (sk, se, st, sl) path = ((sk, se, st, sl), 0) ∧ cutP sk se st sl path = (zeroT, 66)) := ⟨fun h h0 => by
    have := put_root (n := (k, e, t, l)) (sub := (sk, se, st, sl)) h (by rw [hr]; exact h0)
    rw [hr] at this; exact this⟩
  have HDEEP : Aside0 (path.toList ≠ [] → xm = 0 → codeN (km, em, tm, lm) = 0 ∧ Good (km, em, tm, lm) ∧ getP (km, em, tm, lm) path = ((sk, se, st, sl), 0) ∧ (∀ xp, apartP path xp → getP (k, e, t, l) xp = getP (km, em, tm, lm) xp) ∧
      ∃ less : NodeT, Good less ∧ cutP km em tm lm path = (less, 0) ∧ getP less path = (zeroT, 3) ∧ cutP less.1 less.2.1 less.2.2.1 less.2.2.2 path = (zeroT, 3) ∧ putP less path (sk, se, st, sl) = ((km, em, tm, lm), 0)) := ⟨fun h h0 => by
    have := put_deep (n := (k, e, t, l)) (sub := (sk, se, st, sl)) h hn hs (by rw [hr]; exact h0)
    rw [hr] at this; exact this⟩
  obtain ⟨⟨kz, ez, tz, lz⟩, hz⟩ : ∃ q : NodeT, zeroT = q := ⟨_, rfl⟩
  rw [hz] at HROOT HDEEP
  clear hr hn hs hp hxp hC hc hCs hcs hz
  go_enter Tryd.func8, Tryd.ntmps8
  go_wp2_with fail
  obtain ⟨W1, hW1⟩ : ∃ W1, W1 = (w.alloc (.cells #[.int .i64 k, .bool e, .string t, .slice A l.length c] 32)).alloc (.cells #[.int .i64 sk, .bool se, .string st, .slice As sl.length cs, .string xp] 56) := ⟨_, rfl⟩
  rw [← hW1]
  obtain ⟨bn, hbn⟩ : ∃ b, b = w.heap.size := ⟨_, rfl⟩
  obtain ⟨bx, hbx⟩ : ∃ b, b = w.heap.size + 1 := ⟨_, rfl⟩
  rw [← hbx, ← hbn]
  have NN : Aside0 (NB W1 bn A c k e t l) := ⟨by rw [hW1, hbn]; exact (NB.new HC0.out.2.1 HC0.out.1).below (below_alloc (Below.refl _ _) _)⟩
  have NX : Aside0 (XB W1 bx As cs sk se st sl xp) := ⟨by rw [hW1]; exact ⟨Blk.new' _ _ [.int .i64 sk, .bool se, .string st, .slice As sl.length cs, .string xp] (by rw [hbx]; simp), HC0.out.2.2.2, Kd.C_below HC0.out.2.2.1 (below_alloc (below_alloc (Below.refl _ _) _) _)⟩⟩
  have HB : Aside0 (Below w.heap.size w W1) := ⟨by rw [hW1]; exact below_alloc (below_alloc (Below.refl _ _) _) _⟩
  clear hW1 hbn hbx HC0
  (with_reducible refine (awake_calls W1).mono ?_)
  rintro o w1 ⟨rfl, hb⟩
  replace NN := Aside0.mk (NN.out.below hb)
  replace NX := Aside0.mk (NX.out.below hb)
  replace HB := Aside0.mk (below_step HB.out hb)
  clear hb
  obtain ⟨u0, u1, u2, u3⟩ := cells4 NN.out.blk
  obtain ⟨v0, v1, v2, v3, v4⟩ := NX.out.cells
  go_wp2_with fail
  (with_reducible refine (put_to HR.out HN.out HS.out HP.out NN.out.row NN.out.len NX.out.row NX.out.len).mono ?_)
  rintro o wm ⟨Am, cm, rfl, hrow, hb1⟩
  clear u0 u1 u2 u3 v0 v1 v2 v3 v4
  have Nm := Aside0.mk (NB.new (k := km) (e := em) (t := tm) hrow.1 hrow.2)
  have hb := below_step hb1 (below_alloc (Below.refl _ (wm)) (.cells #[.int .i64 km, .bool em, .string tm, .slice Am lm.length cm] 32))
  clear hrow hb1
  replace NN := Aside0.mk (NN.out.below hb)
  replace NX := Aside0.mk (NX.out.below hb)
  replace HB := Aside0.mk (below_step HB.out hb)
  clear hb
  by_cases hx : xm = 0
  case neg =>
    have d0 : (xm != 0) = true := bne_iff_ne.mpr hx
    have HZ := Aside0.mk (HBAD.out hx)
    have hlm : Fit lm := by have := congrArg (fun q => q.2.2.2) HZ.out; rw [show lm = [] from this]; exact good_zero.2
    have HF := Aside0.mk hlm
    clear hx hlm
    obtain ⟨u0, u1, u2, u3⟩ := cells4 Nm.out.blk
    go_wp2_with fail
    obtain ⟨Wm, hW⟩ : ∃ W, W = wm.alloc (.cells #[.int .i64 km, .bool em, .string tm, .slice Am lm.length cm] 32) := ⟨_, rfl⟩
    obtain ⟨bm, hbb⟩ : ∃ b, b = wm.heap.size := ⟨_, rfl⟩
    rw [← hW] at NN NX Nm HB ⊢
    rw [← hbb] at Nm ⊢
    clear hW hbb
    (with_reducible refine (eq_zero HZ.out HF.out Nm.out.row Nm.out.len).mono ?_)
    rintro o wq ⟨rfl, hb⟩
    clear u0 u1 u2 u3
    replace Nm := Aside0.mk (Nm.out.below hb)
    replace HB := Aside0.mk (below_step HB.out hb)
    clear hb
    go_wp2_with fail
    go_ret
    exact ⟨rfl, HB.out⟩
  subst hx
  have HG : Aside0 (codeN (km, em, tm, lm) = 0 ∧ Good (km, em, tm, lm) ∧ getP (km, em, tm, lm) path = ((sk, se, st, sl), 0)) := ⟨by
    by_cases hpp : path.toList = []
    · obtain ⟨h1, h2, h3, h4⟩ := HROOT.out hpp (by first | trivial | rfl)
      rw [h1]; exact ⟨h2, HS.out, h3⟩
    · obtain ⟨h1, h2, h3, _⟩ := HDEEP.out hpp (by first | trivial | rfl)
      exact ⟨h1, h2, h3⟩⟩
  clear HBAD
  obtain ⟨u0, u1, u2, u3⟩ := cells4 Nm.out.blk
  go_wp2_with fail
  obtain ⟨Wm, hW⟩ : ∃ W, W = wm.alloc (.cells #[.int .i64 km, .bool em, .string tm, .slice Am lm.length cm] 32) := ⟨_, rfl⟩
  obtain ⟨bm, hbb⟩ : ∃ b, b = wm.heap.size := ⟨_, rfl⟩
  rw [← hW] at NN NX Nm HB ⊢
  rw [← hbb] at Nm ⊢
  clear hW hbb
  (with_reducible refine (check_to HG.out.1 HG.out.2.1 Nm.out.row Nm.out.len).mono ?_)
  rintro o wc ⟨qc, rfl, hb⟩
  clear u0 u1 u2 u3
  replace NN := Aside0.mk (NN.out.below hb)
  replace NX := Aside0.mk (NX.out.below hb)
  replace Nm := Aside0.mk (Nm.out.below hb)
  replace HB := Aside0.mk (below_step HB.out hb)
  clear hb
  obtain ⟨u0, u1, u2, u3⟩ := cells4 Nm.out.blk
  go_wp2_with fail
  (with_reducible refine (get_to HG.out.2.2 HG.out.2.1 HP.out Nm.out.row Nm.out.len).mono ?_)
  rintro o wg ⟨Ag, cg, rfl, hrow, hb1⟩
  clear u0 u1 u2 u3
  have Ng := Aside0.mk (NB.new (k := sk) (e := se) (t := st) hrow.1 hrow.2)
  have hb := below_step hb1 (below_alloc (Below.refl _ (wg)) (.cells #[.int .i64 sk, .bool se, .string st, .slice Ag sl.length cg] 32))
  clear hrow hb1
  replace NN := Aside0.mk (NN.out.below hb)
  replace NX := Aside0.mk (NX.out.below hb)
  replace Nm := Aside0.mk (Nm.out.below hb)
  replace HB := Aside0.mk (below_step HB.out hb)
  clear hb
  obtain ⟨u0, u1, u2, u3⟩ := cells4 Ng.out.blk
  obtain ⟨v0, v1, v2, v3, v4⟩ := NX.out.cells
  go_wp2_with fail
  obtain ⟨Wg, hW⟩ : ∃ W, W = wg.alloc (.cells #[.int .i64 sk, .bool se, .string st, .slice Ag sl.length cg] 32) := ⟨_, rfl⟩
  obtain ⟨bg, hbb⟩ : ∃ b, b = wg.heap.size := ⟨_, rfl⟩
  rw [← hW] at NN NX Nm Ng HB ⊢
  rw [← hbb] at Ng ⊢
  clear hW hbb
  (with_reducible refine (eq_to rfl (Good.fit HS.out) Ng.out.row Ng.out.len NX.out.row NX.out.len).mono ?_)
  rintro o wq ⟨rfl, hb⟩
  clear u0 u1 u2 u3 v0 v1 v2 v3 v4
  replace NN := Aside0.mk (NN.out.below hb)
  replace NX := Aside0.mk (NX.out.below hb)
  replace Nm := Aside0.mk (Nm.out.below hb)
  replace HB := Aside0.mk (below_step HB.out hb)
  clear hb
  clear Ng
  by_cases hpp : path.toList = []
  ·
    have d1 : (path.toList == []) = true := beq_iff_eq.mpr hpp
    have d2 : (path.toList != []) = false := bne_eq_false_iff_eq.mpr hpp
    have HT := Aside0.mk (HROOT.out hpp (by first | trivial | rfl))
    have HCU : Aside0 (cutP km em tm lm path = ((kz, ez, tz, lz), 66)) := ⟨by
      have h := HT.out
      have h1 : cutP km em tm lm path = cutP sk se st sl path := by
        have := congrArg (fun q : NodeT => cutP q.1 q.2.1 q.2.2.1 q.2.2.2 path) h.1
        exact this
      rw [h1, h.2.2.2]⟩
    clear hpp HDEEP HROOT
    obtain ⟨u0, u1, u2, u3⟩ := cells4 Nm.out.blk
    go_wp2_with fail
    (with_reducible refine (cut_to HCU.out HG.out.2.1 HP.out Nm.out.row Nm.out.len).mono ?_)
    rintro o wz ⟨Az, cz, rfl, hrow, hb1⟩
    clear u0 u1 u2 u3
    have Nz := Aside0.mk (NB.new (k := kz) (e := ez) (t := tz) hrow.1 hrow.2)
    have hb := below_step hb1 (below_alloc (Below.refl _ (wz)) (.cells #[.int .i64 kz, .bool ez, .string tz, .slice Az lz.length cz] 32))
    clear hrow hb1
    replace NX := Aside0.mk (NX.out.below hb)
    replace Nm := Aside0.mk (Nm.out.below hb)
    replace HB := Aside0.mk (below_step HB.out hb)
    clear hb
    obtain ⟨u0, u1, u2, u3⟩ := cells4 Nm.out.blk
    obtain ⟨v0, v1, v2, v3, v4⟩ := NX.out.cells
    go_wp2_with fail
    obtain ⟨Wz, hW⟩ : ∃ W, W = wz.alloc (.cells #[.int .i64 kz, .bool ez, .string tz, .slice Az lz.length cz] 32) := ⟨_, rfl⟩
    obtain ⟨bz, hbb⟩ : ∃ b, b = wz.heap.size := ⟨_, rfl⟩
    rw [← hW] at NX Nm Nz HB ⊢
    rw [← hbb] at Nz ⊢
    clear hW hbb
    (with_reducible refine (eq_to HT.out.1 (Good.fit HG.out.2.1) Nm.out.row Nm.out.len NX.out.row NX.out.len).mono ?_)
    rintro o wq ⟨rfl, hb⟩
    clear u0 u1 u2 u3 v0 v1 v2 v3 v4
    replace Nm := Aside0.mk (Nm.out.below hb)
    replace HB := Aside0.mk (below_step HB.out hb)
    clear hb
    go_wp2_with fail
    go_ret
    exact ⟨rfl, HB.out⟩
  ·
    have d1 : (path.toList == []) = false := beq_eq_false_iff_ne.mpr hpp
    have d2 : (path.toList != []) = true := bne_iff_ne.mpr hpp
    obtain ⟨_, _, _, hap, ⟨kl, el, tl, ll⟩, hgl, hc1, hg3, hc3, hpb⟩ := HDEEP.out hpp (by first | trivial | rfl)
    have HL := Aside0.mk (And.intro hgl (And.intro hc1 (And.intro hg3 (And.intro hc3 hpb))))
    have HAP := Aside0.mk (hap xp)
    clear hpp HDEEP HROOT hap hgl hc1 hg3 hc3 hpb
    obtain ⟨u0, u1, u2, u3, u4⟩ := NX.out.cells
    go_wp2_with fail
    (with_reducible refine (apart_calls path xp HP.out HXP.out _).mono ?_)
    rintro o wa ⟨ba, rfl, hba, hb⟩
    have HBA := Aside0.mk hba
    clear hba
    clear u0 u1 u2 u3 u4
    replace NN := Aside0.mk (NN.out.below hb)
    replace NX := Aside0.mk (NX.out.below hb)
    replace Nm := Aside0.mk (Nm.out.below hb)
    replace HB := Aside0.mk (below_step HB.out hb)
    clear hb
    cases ba
    case true =>
      obtain ⟨⟨⟨kw, ew, tw, lw⟩, xw⟩, hw⟩ : ∃ r, getP (k, e, t, l) xp = r := ⟨_, rfl⟩
      have HW := Aside0.mk (And.intro hw ((HAP.out (HBA.out.1 rfl)).symm.trans hw))
      have HGW : Aside0 (Good (kw, ew, tw, lw)) := ⟨by have := getP_good HN.out xp; rw [hw] at this; exact this⟩
      have d3 : (xw != xw) = false := bne_eq_false_iff_eq.mpr rfl
      clear hw
      obtain ⟨u0, u1, u2, u3⟩ := cells4 NN.out.blk
      obtain ⟨v0, v1, v2, v3, v4⟩ := NX.out.cells
      go_wp2_with fail
      (with_reducible refine (get_to HW.out.1 HN.out HXP.out NN.out.row NN.out.len).mono ?_)
      rintro o ww ⟨Aw, cw, rfl, hrow, hb1⟩
      clear u0 u1 u2 u3 v0 v1 v2 v3 v4
      have Nw := Aside0.mk (NB.new (k := kw) (e := ew) (t := tw) hrow.1 hrow.2)
      have hb := below_step hb1 (below_alloc (Below.refl _ (ww)) (.cells #[.int .i64 kw, .bool ew, .string tw, .slice Aw lw.length cw] 32))
      clear hrow hb1
      replace NX := Aside0.mk (NX.out.below hb)
      replace Nm := Aside0.mk (Nm.out.below hb)
      replace HB := Aside0.mk (below_step HB.out hb)
      clear hb
      obtain ⟨u0, u1, u2, u3⟩ := cells4 Nm.out.blk
      obtain ⟨v0, v1, v2, v3, v4⟩ := NX.out.cells
      go_wp2_with fail
      obtain ⟨Ww, hW⟩ : ∃ W, W = ww.alloc (.cells #[.int .i64 kw, .bool ew, .string tw, .slice Aw lw.length cw] 32) := ⟨_, rfl⟩
      obtain ⟨bw, hbb⟩ : ∃ b, b = ww.heap.size := ⟨_, rfl⟩
      rw [← hW] at NX Nm Nw HB ⊢
      rw [← hbb] at Nw ⊢
      clear hW hbb
      (with_reducible refine (get_to HW.out.2 HG.out.2.1 HXP.out Nm.out.row Nm.out.len).mono ?_)
      rintro o wi ⟨Ai, ci, rfl, hrow, hb1⟩
      clear u0 u1 u2 u3 v0 v1 v2 v3 v4
      have Ni := Aside0.mk (NB.new (k := kw) (e := ew) (t := tw) hrow.1 hrow.2)
      have hb := below_step hb1 (below_alloc (Below.refl _ (wi)) (.cells #[.int .i64 kw, .bool ew, .string tw, .slice Ai lw.length ci] 32))
      clear hrow hb1
      replace NX := Aside0.mk (NX.out.below hb)
      replace Nm := Aside0.mk (Nm.out.below hb)
      replace Nw := Aside0.mk (Nw.out.below hb)
      replace HB := Aside0.mk (below_step HB.out hb)
      clear hb
      obtain ⟨u0, u1, u2, u3⟩ := cells4 Nw.out.blk
      obtain ⟨v0, v1, v2, v3⟩ := cells4 Ni.out.blk
      go_wp2_with fail
      obtain ⟨Wi, hW⟩ : ∃ W, W = wi.alloc (.cells #[.int .i64 kw, .bool ew, .string tw, .slice Ai lw.length ci] 32) := ⟨_, rfl⟩
      obtain ⟨bi, hbb⟩ : ∃ b, b = wi.heap.size := ⟨_, rfl⟩
      rw [← hW] at NX Nm Nw Ni HB ⊢
      rw [← hbb] at Ni ⊢
      clear hW hbb
      (with_reducible refine (eq_to rfl (Good.fit HGW.out) Nw.out.row Nw.out.len Ni.out.row Ni.out.len).mono ?_)
      rintro o wq ⟨rfl, hb⟩
      clear u0 u1 u2 u3 v0 v1 v2 v3
      replace NX := Aside0.mk (NX.out.below hb)
      replace Nm := Aside0.mk (Nm.out.below hb)
      replace HB := Aside0.mk (below_step HB.out hb)
      clear hb
      clear Nw Ni d3
      obtain ⟨u0, u1, u2, u3⟩ := cells4 Nm.out.blk
      go_wp2_with fail
      (with_reducible refine (cut_to HL.out.2.1 HG.out.2.1 HP.out Nm.out.row Nm.out.len).mono ?_)
      rintro o wl ⟨Al, cl, rfl, hrow, hb1⟩
      clear u0 u1 u2 u3
      have Nl := Aside0.mk (NB.new (k := kl) (e := el) (t := tl) hrow.1 hrow.2)
      have hb := below_step hb1 (below_alloc (Below.refl _ (wl)) (.cells #[.int .i64 kl, .bool el, .string tl, .slice Al ll.length cl] 32))
      clear hrow hb1
      replace NX := Aside0.mk (NX.out.below hb)
      replace Nm := Aside0.mk (Nm.out.below hb)
      replace HB := Aside0.mk (below_step HB.out hb)
      clear hb
      obtain ⟨u0, u1, u2, u3⟩ := cells4 Nl.out.blk
      go_wp2_with fail
      obtain ⟨Wl, hW⟩ : ∃ W, W = wl.alloc (.cells #[.int .i64 kl, .bool el, .string tl, .slice Al ll.length cl] 32) := ⟨_, rfl⟩
      obtain ⟨bl, hbb⟩ : ∃ b, b = wl.heap.size := ⟨_, rfl⟩
      rw [← hW] at NX Nm Nl HB ⊢
      rw [← hbb] at Nl ⊢
      clear hW hbb
      (with_reducible refine (get_to HL.out.2.2.1 HL.out.1 HP.out Nl.out.row Nl.out.len).mono ?_)
      rintro o wh ⟨Ah, ch, rfl, hrow, hb1⟩
      clear u0 u1 u2 u3
      have Nh := Aside0.mk (NB.new (k := kz) (e := ez) (t := tz) hrow.1 hrow.2)
      have hb := below_step hb1 (below_alloc (Below.refl _ (wh)) (.cells #[.int .i64 kz, .bool ez, .string tz, .slice Ah lz.length ch] 32))
      clear hrow hb1
      replace NX := Aside0.mk (NX.out.below hb)
      replace Nm := Aside0.mk (Nm.out.below hb)
      replace Nl := Aside0.mk (Nl.out.below hb)
      replace HB := Aside0.mk (below_step HB.out hb)
      clear hb
      obtain ⟨u0, u1, u2, u3⟩ := cells4 Nl.out.blk
      go_wp2_with fail
      obtain ⟨Wh, hW⟩ : ∃ W, W = wh.alloc (.cells #[.int .i64 kz, .bool ez, .string tz, .slice Ah lz.length ch] 32) := ⟨_, rfl⟩
      obtain ⟨bh, hbb⟩ : ∃ b, b = wh.heap.size := ⟨_, rfl⟩
      rw [← hW] at NX Nm Nl Nh HB ⊢
      rw [← hbb] at Nh ⊢
      clear hW hbb
      (with_reducible refine (cut_to HL.out.2.2.2.1 HL.out.1 HP.out Nl.out.row Nl.out.len).mono ?_)
      rintro o wk ⟨Ak, ck, rfl, hrow, hb1⟩
      clear u0 u1 u2 u3
      have Nk := Aside0.mk (NB.new (k := kz) (e := ez) (t := tz) hrow.1 hrow.2)
      have hb := below_step hb1 (below_alloc (Below.refl _ (wk)) (.cells #[.int .i64 kz, .bool ez, .string tz, .slice Ak lz.length ck] 32))
      clear hrow hb1
      replace NX := Aside0.mk (NX.out.below hb)
      replace Nm := Aside0.mk (Nm.out.below hb)
      replace Nl := Aside0.mk (Nl.out.below hb)
      replace HB := Aside0.mk (below_step HB.out hb)
      clear hb
      obtain ⟨u0, u1, u2, u3⟩ := cells4 Nl.out.blk
      obtain ⟨v0, v1, v2, v3, v4⟩ := NX.out.cells
      go_wp2_with fail
      obtain ⟨Wk, hW⟩ : ∃ W, W = wk.alloc (.cells #[.int .i64 kz, .bool ez, .string tz, .slice Ak lz.length ck] 32) := ⟨_, rfl⟩
      obtain ⟨bk, hbb⟩ : ∃ b, b = wk.heap.size := ⟨_, rfl⟩
      rw [← hW] at NX Nm Nl Nk HB ⊢
      rw [← hbb] at Nk ⊢
      clear hW hbb
      (with_reducible refine (put_to HL.out.2.2.2.2 HL.out.1 HS.out HP.out Nl.out.row Nl.out.len NX.out.row NX.out.len).mono ?_)
      rintro o wb ⟨Ab, cb, rfl, hrow, hb1⟩
      clear u0 u1 u2 u3 v0 v1 v2 v3 v4
      have Nb := Aside0.mk (NB.new (k := km) (e := em) (t := tm) hrow.1 hrow.2)
      have hb := below_step hb1 (below_alloc (Below.refl _ (wb)) (.cells #[.int .i64 km, .bool em, .string tm, .slice Ab lm.length cb] 32))
      clear hrow hb1
      replace Nm := Aside0.mk (Nm.out.below hb)
      replace HB := Aside0.mk (below_step HB.out hb)
      clear hb
      obtain ⟨u0, u1, u2, u3⟩ := cells4 Nb.out.blk
      obtain ⟨v0, v1, v2, v3⟩ := cells4 Nm.out.blk
      go_wp2_with fail
      obtain ⟨Wb, hW⟩ : ∃ W, W = wb.alloc (.cells #[.int .i64 km, .bool em, .string tm, .slice Ab lm.length cb] 32) := ⟨_, rfl⟩
      obtain ⟨bb, hbb⟩ : ∃ b, b = wb.heap.size := ⟨_, rfl⟩
      rw [← hW] at Nm Nb HB ⊢
      rw [← hbb] at Nb ⊢
      clear hW hbb
      (with_reducible refine (eq_to rfl (Good.fit HG.out.2.1) Nb.out.row Nb.out.len Nm.out.row Nm.out.len).mono ?_)
      rintro o wq ⟨rfl, hb⟩
      clear u0 u1 u2 u3 v0 v1 v2 v3
      replace Nm := Aside0.mk (Nm.out.below hb)
      replace HB := Aside0.mk (below_step HB.out hb)
      clear hb
      go_wp2_with fail
      go_ret
      exact ⟨rfl, HB.out⟩
    case false =>
      obtain ⟨u0, u1, u2, u3⟩ := cells4 Nm.out.blk
      go_wp2_with fail
      (with_reducible refine (cut_to HL.out.2.1 HG.out.2.1 HP.out Nm.out.row Nm.out.len).mono ?_)
      rintro o wl ⟨Al, cl, rfl, hrow, hb1⟩
      clear u0 u1 u2 u3
      have Nl := Aside0.mk (NB.new (k := kl) (e := el) (t := tl) hrow.1 hrow.2)
      have hb := below_step hb1 (below_alloc (Below.refl _ (wl)) (.cells #[.int .i64 kl, .bool el, .string tl, .slice Al ll.length cl] 32))
      clear hrow hb1
      replace NX := Aside0.mk (NX.out.below hb)
      replace Nm := Aside0.mk (Nm.out.below hb)
      replace HB := Aside0.mk (below_step HB.out hb)
      clear hb
      obtain ⟨u0, u1, u2, u3⟩ := cells4 Nl.out.blk
      go_wp2_with fail
      obtain ⟨Wl, hW⟩ : ∃ W, W = wl.alloc (.cells #[.int .i64 kl, .bool el, .string tl, .slice Al ll.length cl] 32) := ⟨_, rfl⟩
      obtain ⟨bl, hbb⟩ : ∃ b, b = wl.heap.size := ⟨_, rfl⟩
      rw [← hW] at NX Nm Nl HB ⊢
      rw [← hbb] at Nl ⊢
      clear hW hbb
      (with_reducible refine (get_to HL.out.2.2.1 HL.out.1 HP.out Nl.out.row Nl.out.len).mono ?_)
      rintro o wh ⟨Ah, ch, rfl, hrow, hb1⟩
      clear u0 u1 u2 u3
      have Nh := Aside0.mk (NB.new (k := kz) (e := ez) (t := tz) hrow.1 hrow.2)
      have hb := below_step hb1 (below_alloc (Below.refl _ (wh)) (.cells #[.int .i64 kz, .bool ez, .string tz, .slice Ah lz.length ch] 32))
      clear hrow hb1
      replace NX := Aside0.mk (NX.out.below hb)
      replace Nm := Aside0.mk (Nm.out.below hb)
      replace Nl := Aside0.mk (Nl.out.below hb)
      replace HB := Aside0.mk (below_step HB.out hb)
      clear hb
      obtain ⟨u0, u1, u2, u3⟩ := cells4 Nl.out.blk
      go_wp2_with fail
      obtain ⟨Wh, hW⟩ : ∃ W, W = wh.alloc (.cells #[.int .i64 kz, .bool ez, .string tz, .slice Ah lz.length ch] 32) := ⟨_, rfl⟩
      obtain ⟨bh, hbb⟩ : ∃ b, b = wh.heap.size := ⟨_, rfl⟩
      rw [← hW] at NX Nm Nl Nh HB ⊢
      rw [← hbb] at Nh ⊢
      clear hW hbb
      (with_reducible refine (cut_to HL.out.2.2.2.1 HL.out.1 HP.out Nl.out.row Nl.out.len).mono ?_)
      rintro o wk ⟨Ak, ck, rfl, hrow, hb1⟩
      clear u0 u1 u2 u3
      have Nk := Aside0.mk (NB.new (k := kz) (e := ez) (t := tz) hrow.1 hrow.2)
      have hb := below_step hb1 (below_alloc (Below.refl _ (wk)) (.cells #[.int .i64 kz, .bool ez, .string tz, .slice Ak lz.length ck] 32))
      clear hrow hb1
      replace NX := Aside0.mk (NX.out.below hb)
      replace Nm := Aside0.mk (Nm.out.below hb)
      replace Nl := Aside0.mk (Nl.out.below hb)
      replace HB := Aside0.mk (below_step HB.out hb)
      clear hb
      obtain ⟨u0, u1, u2, u3⟩ := cells4 Nl.out.blk
      obtain ⟨v0, v1, v2, v3, v4⟩ := NX.out.cells
      go_wp2_with fail
      obtain ⟨Wk, hW⟩ : ∃ W, W = wk.alloc (.cells #[.int .i64 kz, .bool ez, .string tz, .slice Ak lz.length ck] 32) := ⟨_, rfl⟩
      obtain ⟨bk, hbb⟩ : ∃ b, b = wk.heap.size := ⟨_, rfl⟩
      rw [← hW] at NX Nm Nl Nk HB ⊢
      rw [← hbb] at Nk ⊢
      clear hW hbb
      (with_reducible refine (put_to HL.out.2.2.2.2 HL.out.1 HS.out HP.out Nl.out.row Nl.out.len NX.out.row NX.out.len).mono ?_)
      rintro o wb ⟨Ab, cb, rfl, hrow, hb1⟩
      clear u0 u1 u2 u3 v0 v1 v2 v3 v4
      have Nb := Aside0.mk (NB.new (k := km) (e := em) (t := tm) hrow.1 hrow.2)
      have hb := below_step hb1 (below_alloc (Below.refl _ (wb)) (.cells #[.int .i64 km, .bool em, .string tm, .slice Ab lm.length cb] 32))
      clear hrow hb1
      replace Nm := Aside0.mk (Nm.out.below hb)
      replace HB := Aside0.mk (below_step HB.out hb)
      clear hb
      obtain ⟨u0, u1, u2, u3⟩ := cells4 Nb.out.blk
      obtain ⟨v0, v1, v2, v3⟩ := cells4 Nm.out.blk
      go_wp2_with fail
      obtain ⟨Wb, hW⟩ : ∃ W, W = wb.alloc (.cells #[.int .i64 km, .bool em, .string tm, .slice Ab lm.length cb] 32) := ⟨_, rfl⟩
      obtain ⟨bb, hbb⟩ : ∃ b, b = wb.heap.size := ⟨_, rfl⟩
      rw [← hW] at Nm Nb HB ⊢
      rw [← hbb] at Nb ⊢
      clear hW hbb
      (with_reducible refine (eq_to rfl (Good.fit HG.out.2.1) Nb.out.row Nb.out.len Nm.out.row Nm.out.len).mono ?_)
      rintro o wq ⟨rfl, hb⟩
      clear u0 u1 u2 u3 v0 v1 v2 v3
      replace Nm := Aside0.mk (Nm.out.below hb)
      replace HB := Aside0.mk (below_step HB.out hb)
      clear hb
      go_wp2_with fail
      go_ret
      exact ⟨rfl, HB.out⟩
end Go.Proofs.YtnemeeidomceiaaDoor
end
