import Derived.Test.YtnemeeidomceiaaDoorMt10
import Derived.Test.YtnemeeidomceiaaDoorMt9
set_option linter.unusedSimpArgs false
set_option linter.unusedVariables false
section
namespace Go.Proofs.YtnemeeidomceiaaDoor
open Go.RowKit Go.Proofs.YtnemeeidomceiaaDoorW.PrintWords
set_option linter.unusedVariables false
structure BSt where
 n : NodeT
 path : List ByteArray
 bytes : Int
 first : Bool
def leafN (r : RowT) : NodeT := (r.2.1, r.2.2.1, r.2.2.2, [])
def leafX (r : RowT) (s : ByteArray) : Ent := ⟨s, r.2.1, r.2.2.1, r.2.2.2, []⟩
def rowS (r : RowT) : Int := ownS r.2.1 r.2.2.1 r.2.2.2
def lastLt (l : List Ent) (s : ByteArray) : Bool := match l.getLast? with
 | none => true
 | some x => decide (cmpB x.f0 s < 0)
def appAt (k : Nat) (z : List Ent) (n : NodeT) : NodeT := (n.1, n.2.1, n.2.2.1, lastAt (fun l => l ++ z) k n.2.2.2)
def stepB (s : BSt) (r : RowT) : Option BSt :=
 if pathE r.1 ≠ 0 ∨ codeN (leafN r) ≠ 0 then none
 else if s.first = true then (if (splitP r.1).1 ≠ [] ∨ 1048576 < s.bytes + rowS r then none else some ⟨leafN r, [], s.bytes + rowS r, false⟩)
 else match (splitP r.1).1.getLast? with
  | none => none
  | some z =>
   if (splitP r.1).1.dropLast ≠ s.path.take ((splitP r.1).1.length - 1) then none
   else match spineN ((splitP r.1).1.length - 1) s.n with
    | none => none
    | some d => if d.1 ≠ 3 ∨ lastLt d.2.2.2 z = false ∨ 1048576 < s.bytes + rowS r + entS z then none
     else some ⟨appAt ((splitP r.1).1.length - 1) [leafX r z] s.n, (splitP r.1).1, s.bytes + rowS r + entS z, false⟩
def stB : List RowT → BSt → Option BSt
 | [], s => some s
 | r :: rs, s => (stepB s r).bind (stB rs)
def goB : List RowT → BSt → Int → NodeT × Int × Int
 | [], s, _ => (s.n, 0, 0)
 | r :: rs, s, i => match stepB s r with
  | none => (zeroT, 64, i)
  | some s2 => goB rs s2 (i + 1)
def initB : BSt := ⟨zeroT, [], 24, true⟩
def buildP (rows : List RowT) : NodeT × Int × Int := if rows = [] then (zeroT, 50, 0) else goB rows initB 0
theorem stB_append : ∀ (a b : List RowT) (s : BSt), stB (a ++ b) s = (stB a s).bind (stB b)
 | [], b, s => rfl
 | r :: a, b, s => by
  show (stepB s r).bind (stB (a ++ b)) = ((stepB s r).bind (stB a)).bind (stB b)
  cases stepB s r with
  | none => rfl
  | some s2 => exact stB_append a b s2
theorem goB_some : ∀ (rs : List RowT) (s s2 : BSt) (i : Int), stB rs s = some s2 → goB rs s i = (s2.n, 0, 0)
 | [], s, s2, i, h => by injection h with h; subst h; rfl
 | r :: rs, s, s2, i, h => by
  unfold stB at h
  unfold goB
  cases hs : stepB s r with
  | none => rw [hs] at h; cases h
  | some s3 => rw [hs] at h; exact goB_some rs s3 s2 (i + 1) h
theorem dropLast_snoc {l : List Ent} {x : Ent} (h : l.getLast? = some x) : l = l.dropLast ++ [x] := by
 obtain ⟨ys, rfl⟩ := List.getLast?_eq_some_iff.1 h
 simp
theorem last_snoc (l : List Ent) (z : Ent) : (l ++ [z]).getLast? = some z := by simp
theorem spine_step {k : Nat} {n d : NodeT} (h : spineN (k + 1) n = some d) : ∃ x, n.2.2.2.getLast? = some x ∧ spineN k (nodeOf x) = some d := by
 unfold spineN at h
 cases hx : n.2.2.2.getLast? with
 | none => rw [hx] at h; cases h
 | some x => rw [hx] at h; exact ⟨x, rfl, h⟩
theorem lastAt_succ {f : List Ent → List Ent} {k : Nat} {l : List Ent} {x : Ent} (h : l.getLast? = some x) : lastAt f (k + 1) l = l.dropLast ++ [⟨x.f0, x.f1, x.f2, x.f3, lastAt f k x.f4⟩] := by rw [lastAt, h]
theorem app_spine : ∀ (k : Nat) (n d : NodeT) (z : List Ent), spineN k n = some d → spineN k (appAt k z n) = some (d.1, d.2.1, d.2.2.1, d.2.2.2 ++ z)
 | 0, n, d, z, h => by injection h with h; subst h; rfl
 | k + 1, n, d, z, h => by
  obtain ⟨x, hx, h⟩ := spine_step h
  have ih := app_spine k (nodeOf x) d z h
  unfold appAt spineN
  simp only
  rw [lastAt_succ hx, last_snoc]
  exact ih
theorem app_app : ∀ (k : Nat) (n d : NodeT) (z y : List Ent), spineN k n = some d → appAt k y (appAt k z n) = appAt k (z ++ y) n := by
 have key : ∀ (k : Nat) (n d : NodeT) (z y : List Ent), spineN k n = some d → lastAt (fun l => l ++ y) k (lastAt (fun l => l ++ z) k n.2.2.2) = lastAt (fun l => l ++ (z ++ y)) k n.2.2.2 := by
  intro k
  induction k with
  | zero => intro n d z y h; simp [lastAt]
  | succ k ih =>
   intro n d z y h
   obtain ⟨x, hx, h⟩ := spine_step h
   have h1 := ih (nodeOf x) d z y h
   rw [lastAt_succ hx, lastAt_succ (last_snoc _ _), lastAt_succ hx]
   simp only [List.dropLast_concat]
   have h2 : (nodeOf x).2.2.2 = x.f4 := rfl
   rw [h2] at h1
   rw [h1]
 intro k n d z y h
 unfold appAt
 rw [key k n d z y h]
theorem app_down : ∀ (k : Nat) (n d : NodeT) (z : Ent) (y : List Ent), spineN k n = some d → appAt (k + 1) y (appAt k [z] n) = appAt k [{ z with f4 := z.f4 ++ y }] n := by
 have key : ∀ (k : Nat) (n d : NodeT) (z : Ent) (y : List Ent), spineN k n = some d → lastAt (fun l => l ++ y) (k + 1) (lastAt (fun l => l ++ [z]) k n.2.2.2) = lastAt (fun l => l ++ [{ z with f4 := z.f4 ++ y }]) k n.2.2.2 := by
  intro k
  induction k with
  | zero =>
   intro n d z y h
   show lastAt (fun l => l ++ y) 1 (n.2.2.2 ++ [z]) = n.2.2.2 ++ [_]
   rw [lastAt_succ (last_snoc _ _)]
   simp [lastAt]
  | succ k ih =>
   intro n d z y h
   obtain ⟨x, hx, h⟩ := spine_step h
   have h1 := ih (nodeOf x) d z y h
   have h2 : (nodeOf x).2.2.2 = x.f4 := rfl
   rw [h2] at h1
   rw [lastAt_succ hx, lastAt_succ (last_snoc _ _), lastAt_succ hx]
   simp only [List.dropLast_concat]
   rw [h1]
 intro k n d z y h
 unfold appAt
 rw [key k n d z y h]
theorem app_spine_down : ∀ (k : Nat) (n d : NodeT) (z : Ent), spineN k n = some d → spineN (k + 1) (appAt k [z] n) = some (nodeOf z)
 | 0, n, d, z, h => by
  show (match (n.2.2.2 ++ [z]).getLast? with | none => none | some x => spineN 0 (nodeOf x)) = _
  rw [last_snoc]; rfl
 | k + 1, n, d, z, h => by
  obtain ⟨x, hx, h⟩ := spine_step h
  have ih := app_spine_down k (nodeOf x) d z h
  show (match (lastAt (fun l => l ++ [z]) (k + 1) n.2.2.2).getLast? with | none => none | some x => spineN (k + 1) (nodeOf x)) = _
  rw [lastAt_succ hx, last_snoc]
  exact ih
def chainN : Nat → List Ent → List ByteArray
 | 0, _ => []
 | k + 1, l => match l.getLast? with
  | none => []
  | some x => x.f0 :: chainN k x.f4
def joinP : Nat → ByteArray → List ByteArray → ByteArray
 | 0, p, _ => p
 | _ + 1, p, [] => p
 | f + 1, p, s :: ns => joinP f (belowP p s (32 - (f : Int))) ns
theorem joinP_nil (f : Nat) (p : ByteArray) : joinP f p [] = p := by cases f <;> rfl
theorem joinP_snoc : ∀ (k g : Nat) (p : ByteArray) (ns : List ByteArray) (s : ByteArray), ns.length = k → joinP (k + g + 1) p (ns ++ [s]) = belowP (joinP (k + g + 1) p ns) s (32 - (g : Int))
 | 0, g, p, ns, s, h => by
  rw [List.length_eq_zero_iff] at h
  subst h
  rw [Nat.zero_add, List.nil_append, joinP_nil]
  show joinP g _ [] = _
  rw [joinP_nil]
 | k + 1, g, p, [], s, h => by cases h
 | k + 1, g, p, q :: ns, s, h => by
  rw [show k + 1 + g + 1 = (k + g + 1) + 1 from by omega]
  show joinP (k + g + 1) _ (ns ++ [s]) = belowP (joinP (k + g + 1) _ ns) s _
  exact joinP_snoc k g _ ns s (by simpa using h)
def slash1 (s : ByteArray) : List UInt8 := 47 :: s.data.toList
theorem joinP_data : ∀ (f : Nat) (p : ByteArray) (ns : List ByteArray), f ≤ 31 → ns.length ≤ f → (joinP f p ns).data.toList = p.data.toList ++ ns.flatMap slash1
 | 0, p, ns, _, h => by
  have : ns = [] := List.length_eq_zero_iff.1 (by omega)
  subst this
  simp [joinP]
 | f + 1, p, [], _, _ => by simp [joinP]
 | f + 1, p, s :: ns, h1, h2 => by
  show (joinP f (belowP p s (32 - (f : Int))) ns).data.toList = _
  rw [joinP_data f _ ns (by omega) (by simpa using h2)]
  unfold belowP
  rw [if_neg (by omega)]
  simp [slash1, ByteArray.data_append]
theorem slash_flip : ∀ (s : ByteArray) (ns : List ByteArray), s.data.toList ++ ns.flatMap slash1 ++ [47] = (s :: ns).flatMap slashed
 | s, [] => by simp [slashed]
 | s, q :: ns => by
  have := slash_flip q ns
  rw [List.flatMap_cons (x := s), ← this]
  simp [slashed, slash1]
theorem ba_ext {a b : ByteArray} (h : a.data.toList = b.data.toList) : a = b := by
 cases a; cases b
 simp only [ByteArray.mk.injEq]
 exact Array.toList_inj.1 h
theorem joinP_flat {s : ByteArray} {ns : List ByteArray} (h : ns.length ≤ 30) : (joinP 32 ⟨#[]⟩ (s :: ns)).data.toList ++ [47] = (s :: ns).flatMap slashed := by
 have e : joinP 32 ⟨#[]⟩ (s :: ns) = joinP 31 s ns := by
  show joinP 31 (belowP _ s (32 - ((31 : Nat) : Int))) ns = _
  unfold belowP
  rw [if_pos (by decide)]
 rw [e, joinP_data 31 s ns (by omega) (by omega), slash_flip]
theorem split_joined {p : ByteArray} (h : pathE p = 0) : joinP 32 ⟨#[]⟩ (splitP p).1 = p := by
 by_cases hne : p.toList = []
 ·rw [split_nil hne]
  show (⟨#[]⟩ : ByteArray) = p
  have h2 : p.data.toList = [] := by rw [← Lib.toList_data]; exact hne
  exact ba_ext h2.symm
 ·obtain ⟨h1, h2⟩ := split_join hne h
  have hl := (split_names p).2
  cases hs : (splitP p).1 with
  | nil => exact absurd hs h1
  | cons s ns =>
   rw [hs] at h2 hl
   have h3 := joinP_flat (s := s) (ns := ns) (by simpa using hl)
   rw [h2] at h3
   exact ba_ext (List.append_cancel_right h3)
theorem flat_inj : ∀ (a b : List ByteArray), (∀ x, x ∈ a → (47 : UInt8) ∉ x.data.toList) → (∀ x, x ∈ b → (47 : UInt8) ∉ x.data.toList) → a.flatMap slashed = b.flatMap slashed → a = b
 | [], [], _, _, _ => rfl
 | [], y :: b, _, _, h => by simp [slashed] at h
 | x :: a, [], _, _, h => by simp [slashed] at h
 | x :: a, y :: b, ha, hb, h => by
  rw [List.flatMap_cons, List.flatMap_cons] at h
  unfold slashed at h
  rw [List.append_assoc, List.append_assoc, List.singleton_append, List.singleton_append] at h
  have key : ∀ (u v s t : List UInt8), (47 : UInt8) ∉ u → (47 : UInt8) ∉ v → u ++ 47 :: s = v ++ 47 :: t → u = v ∧ s = t := by
   intro u
   induction u with
   | nil =>
    intro v s t _ hv h
    cases v with
    | nil => simp at h; exact ⟨rfl, h⟩
    | cons c v => simp at h; exact absurd (by rw [← h.1]; simp) hv
   | cons c u ih =>
    intro v s t hu hv h
    cases v with
    | nil => simp at h; exact absurd (by rw [h.1]; simp) hu
    | cons d v =>
     simp at h
     obtain ⟨r1, r2⟩ := ih v s t (fun hm => hu (List.mem_cons_of_mem _ hm)) (fun hm => hv (List.mem_cons_of_mem _ hm)) h.2
     exact ⟨by rw [h.1, r1], r2⟩
  obtain ⟨h1, h2⟩ := key _ _ _ _ (ha x List.mem_cons_self) (hb y List.mem_cons_self) h
  rw [ba_ext h1, flat_inj a b (fun z hz => ha z (List.mem_cons_of_mem _ hz)) (fun z hz => hb z (List.mem_cons_of_mem _ hz)) h2]
theorem indexAny_mem (chars : List UInt8) (x : UInt8) (hx : chars.contains x = true) : ∀ l : List UInt8, x ∈ l → 0 ≤ Lib.indexAny l chars
 | [], h => by cases h
 | b :: l, h => by
  unfold Lib.indexAny
  split
  ·exact Int.le_refl _
  ·rename_i hb
   rcases List.mem_cons.1 h with rfl | h
   ·exact absurd hx hb
   ·have ih := indexAny_mem chars x hx l h
    rw [if_neg (by simp; omega)]
    omega
theorem name_plain {s : ByteArray} (h : nameE s = 0) : (47 : UInt8) ∉ s.data.toList := by
 intro hm
 unfold nameE at h
 split at h
 ·cases h
 ·split at h
  ·cases h
  ·split at h
   ·cases h
   ·rename_i h3
    refine h3 ?_
    unfold Lib.containsAny
    exact decide_eq_true (indexAny_mem _ 47 (by rw [sep_mem]; rfl) _ hm)
theorem pieces_plain (s : ByteArray) : ∀ (m frm i : Nat), i + m = s.size → frm ≤ i → (∀ t : Nat, frm ≤ t → t < i → bt s (t : Int) ≠ 47) → ∀ x, x ∈ pieces s m frm i → (47 : UInt8) ∉ x.data.toList := by
 have hex : ∀ frm i : Nat, i ≤ s.size → frm ≤ i → (∀ t : Nat, frm ≤ t → t < i → bt s (t : Int) ≠ 47) → (47 : UInt8) ∉ (s.extract frm i).data.toList := by
  intro frm i hi hf hno hm
  rw [ex_data] at hm
  obtain ⟨j, hj, he⟩ := List.mem_iff_getElem.1 hm
  rw [List.length_take, List.length_drop, Array.length_toList] at hj
  rw [List.getElem_take, List.getElem_drop] at he
  have h1 := hno (frm + j) (by omega) (by omega)
  have hlt : frm + j < s.size := by omega
  exact h1 ((bt_toList s (frm + j) hlt 47).1 (by rw [List.getElem?_eq_getElem (by rw [Array.length_toList]; exact hlt), he]))
 intro m
 induction m with
 | zero =>
  intro frm i h hf hno x hx
  rw [pieces, List.mem_singleton] at hx
  subst hx
  exact hex frm i (by omega) hf hno
 | succ m ih =>
  intro frm i h hf hno x hx
  rw [pieces] at hx
  by_cases hb : bt s (i : Int) = 47
  ·rw [if_neg (fun e => e hb)] at hx
   rcases List.mem_cons.1 hx with rfl | hx
   ·exact hex frm i (by omega) hf hno
   ·exact ih (i + 1) (i + 1) (by omega) (Nat.le_refl _) (fun t h1 h2 => by omega) x hx
  ·rw [if_pos hb] at hx
   exact ih frm (i + 1) (by omega) (by omega) (fun t h1 h2 => by
    by_cases e : t = i
    ·subst e; exact hb
    ·exact hno t h1 (by omega)) x hx
theorem goP_well : ∀ (l names : List ByteArray) (frm : Nat), (∀ x, x ∈ l → nameE x = 0) → names.length + l.length ≤ 31 → goP l names frm = (names ++ l, 0, 0)
 | [], names, frm, _, _ => by rw [goP, List.append_nil]
 | x :: l, names, frm, h, hl => by
  rw [List.length_cons] at hl
  rw [goP, if_neg (by omega), if_neg (fun e => e (h x List.mem_cons_self)), goP_well l _ _ (fun y hy => h y (List.mem_cons_of_mem _ hy)) (by rw [List.length_append, List.length_singleton]; omega)]
  simp
theorem joined_split {ns : List ByteArray} (h : ∀ x, x ∈ ns → nameE x = 0) (hl : ns.length ≤ 31) : splitP (joinP 32 ⟨#[]⟩ ns) = (ns, 0, 0) := by
 cases ns with
 | nil => rw [joinP_nil]; exact split_nil (by rw [Lib.toList_data])
 | cons s ns =>
  have hj := joinP_flat (s := s) (ns := ns) (by simpa using hl)
  obtain ⟨p, hp⟩ : ∃ p, p = joinP 32 ⟨#[]⟩ (s :: ns) := ⟨_, rfl⟩
  rw [← hp] at hj ⊢
  have h0 : p.toList ≠ [] := by
   intro e
   rw [Lib.toList_data] at e
   rw [e, List.flatMap_cons] at hj
   unfold slashed at hj
   have hsz : s.data.toList = [] := by
    cases hs : s.data.toList with
    | nil => rfl
    | cons c u => rw [hs] at hj; simp at hj
   have hn := h s List.mem_cons_self
   unfold nameE at hn
   rw [if_pos (by show s.data.size = 0; rw [← Array.length_toList, hsz]; rfl)] at hn
   cases hn
  have h1 := pieces_join p p.size 0 0 (by omega) (Nat.le_refl _)
  rw [List.drop_zero, hj] at h1
  have h2 := flat_inj _ _ (pieces_plain p p.size 0 0 (by omega) (Nat.le_refl _) (fun t h1 h2 => by omega)) (fun x hx => name_plain (h x hx)) h1
  rw [splitP_pieces p h0]
  unfold pcs
  rw [h2, goP_well (s :: ns) [] 0 h (by simpa using hl), List.nil_append]
end Go.Proofs.YtnemeeidomceiaaDoor
end
section
namespace Go.Proofs.YtnemeeidomceiaaDoor
open Go.RowKit Go.Proofs.YtnemeeidomceiaaDoorW.PrintWords
set_option linter.unusedVariables false
def entN (n : NodeT) : Ent := ⟨⟨#[]⟩, n.1, n.2.1, n.2.2.1, n.2.2.2⟩
theorem last_of_rising {l m : List Ent} {z : Ent} (h : Rising (l ++ z :: m)) : lastLt l z.f0 = true := by
 unfold lastLt
 cases hx : l.getLast? with
 | none => rfl
 | some x => exact decide_eq_true ((List.pairwise_append.1 h).2.2 x (List.mem_of_getLast? hx) z List.mem_cons_self)
theorem fields_leaf {k : Int} {e : Bool} {t : ByteArray} {l : List Ent} (h : fieldsE k e t l = 0) : fieldsE k e t [] = 0 := by
 by_cases h3 : k = 3
 ·subst h3
  unfold fieldsE at h ⊢
  rw [if_neg (by decide), if_neg (by decide), if_pos rfl] at h ⊢
  exact h
 ·rw [fields_kids h h3] at h; exact h
structure BInv (rs : List RowT) (s : BSt) : Prop where
 first : s.first = false
 wfs : wf 32 (entN s.n)
 bytes : s.bytes = 24 + tsz 32 (entN s.n)
 room : s.bytes ≤ 1048576
 rows : trows 32 ⟨#[]⟩ (entN s.n) = rs
 path : chainN s.path.length s.n.2.2.2 = s.path
theorem leaf_ok {r : RowT} (h : codeN (leafN r) = 0) : fieldsE r.2.1 r.2.2.1 r.2.2.2 [] = 0 ∧ 24 + rowS r ≤ 1048576 ∧ ∀ (g : Nat) (s p : ByteArray), wf (g + 1) (leafX r s) ∧ tsz (g + 1) (leafX r s) = rowS r ∧ trows (g + 1) p (leafX r s) = [(p, r.2)] := by
 obtain ⟨h1, h2⟩ := (look_zero _ _ _ _).1 h
 have e : tsz 32 (⟨⟨#[]⟩, r.2.1, r.2.2.1, r.2.2.2, []⟩ : Ent) = rowS r := by show ownS _ _ _ + ([] : List Int).sum = _; rw [List.sum_nil, Int.add_zero]; rfl
 refine ⟨h1.1, ?_, fun g s p => ⟨⟨h1.1, (fun y hy => (by cases hy)), List.Pairwise.nil, (fun y hy => (by cases hy))⟩, ?_, rfl⟩⟩
 ·have h3 : 24 + tsz 32 (⟨⟨#[]⟩, r.2.1, r.2.2.1, r.2.2.2, []⟩ : Ent) ≤ 1048576 := h2
  rw [e] at h3; exact h3
 ·show ownS _ _ _ + ([] : List Int).sum = _; rw [List.sum_nil, Int.add_zero]; rfl
theorem first_inv {r : RowT} {s2 : BSt} (h : stepB initB r = some s2) : BInv [r] s2 := by
 unfold stepB at h
 split at h
 ·cases h
 rename_i h1
 rw [if_pos (show initB.first = true from rfl)] at h
 split at h
 ·cases h
 rename_i h2
 injection h with h
 subst h
 simp only [not_or, Decidable.not_not] at h1 h2
 obtain ⟨f1, f2, f3⟩ := leaf_ok h1.2
 obtain ⟨a1, a2, a3⟩ := f3 31 ⟨#[]⟩ ⟨#[]⟩
 have hp : r.1 = ⟨#[]⟩ := by
  rw [← split_joined h1.1, h2.1, joinP_nil]
 refine ⟨rfl, a1, ?_, by have := h2.2; show initB.bytes + rowS r ≤ _; omega, ?_, rfl⟩
 ·show 24 + rowS r = 24 + _
  rw [← a2]; rfl
 ·show trows 32 ⟨#[]⟩ (leafX r ⟨#[]⟩) = _
  rw [a3, ← hp]
theorem build_kids (g k : Nat) (hg : 32 = k + g + 1)
  (ih : ∀ (y : Ent) (s : BSt) (d : NodeT) (ns : List ByteArray), wf g y → s.first = false → nameE y.f0 = 0 → (∀ x, x ∈ ns → nameE x = 0) → ns.length = k → s.path.take k = ns → spineN k s.n = some d → d.1 = 3 → lastLt d.2.2.2 y.f0 = true → 24 ≤ s.bytes → s.bytes + entS y.f0 + tsz g y ≤ 1048576 →
   ∃ s2, stB (trows g (joinP 32 ⟨#[]⟩ (ns ++ [y.f0])) y) s = some s2 ∧ s2.n = appAt k [y] s.n ∧ s2.path.take k = ns ∧ s2.bytes = s.bytes + entS y.f0 + tsz g y ∧ s2.first = false) :
  ∀ (l : List Ent) (s : BSt) (d : NodeT) (ns : List ByteArray), s.first = false → (∀ x, x ∈ ns → nameE x = 0) → ns.length = k → s.path.take k = ns → spineN k s.n = some d → d.1 = 3 → Rising (d.2.2.2 ++ l) → (∀ y, y ∈ l → nameE y.f0 = 0) → (∀ y, y ∈ l → wf g y) → 24 ≤ s.bytes → s.bytes + ksz g l ≤ 1048576 →
   ∃ s2, stB (l.flatMap (fun y => trows g (belowP (joinP 32 ⟨#[]⟩ ns) y.f0 (32 - (g : Int))) y)) s = some s2 ∧ s2.n = appAt k l s.n ∧ s2.path.take k = ns ∧ s2.bytes = s.bytes + ksz g l ∧ s2.first = false
 | [], s, d, ns, hf, hv, hl, hp, hd, h3, hr, hn, hw, hb, hz => by
  refine ⟨s, rfl, ?_, hp, by simp [ksz], hf⟩
  have key : ∀ (k : Nat) (l : List Ent), lastAt (fun l => l ++ []) k l = l := by
   intro k
   induction k with
   | zero => intro l; simp [lastAt]
   | succ k ih =>
    intro l
    unfold lastAt
    cases hx : l.getLast? with
    | none => rfl
    | some x =>
     simp only
     rw [ih x.f4, show (⟨x.f0, x.f1, x.f2, x.f3, x.f4⟩ : Ent) = x from by cases x; rfl]
     exact (dropLast_snoc hx).symm
  unfold appAt
  rw [key k]
 | y :: l, s, d, ns, hf, hv, hl, hp, hd, h3, hr, hn, hw, hb, hz => by
  have hks := ksz_nonneg g l
  have hts := tsz_nonneg g y
  have hes := entS_range y.f0
  rw [ksz_cons] at hz
  have hj : joinP 32 ⟨#[]⟩ (ns ++ [y.f0]) = belowP (joinP 32 ⟨#[]⟩ ns) y.f0 (32 - (g : Int)) := by rw [hg]; exact joinP_snoc k g _ ns y.f0 hl
  obtain ⟨s2, a1, a2, a3, a4, a5⟩ := ih y s d ns (hw y List.mem_cons_self) hf (hn y List.mem_cons_self) hv hl hp hd h3 (last_of_rising hr) hb (by omega)
  have hd2 : spineN k s2.n = some (d.1, d.2.1, d.2.2.1, d.2.2.2 ++ [y]) := by rw [a2]; exact app_spine k s.n d [y] hd
  obtain ⟨s3, b1, b2, b3, b4, b5⟩ := build_kids g k hg ih l s2 _ ns a5 hv hl a3 hd2 h3 (by rw [List.append_assoc]; exact hr) (fun z hz => hn z (List.mem_cons_of_mem _ hz)) (fun z hz => hw z (List.mem_cons_of_mem _ hz)) (by omega) (by omega)
  refine ⟨s3, ?_, ?_, b3, by rw [b4, a4, ksz_cons]; omega, b5⟩
  ·rw [List.flatMap_cons, stB_append, ← hj, a1]
   exact b1
  ·rw [b2, a2, app_app k s.n d [y] l hd]; rfl
theorem build_sub : ∀ (g k : Nat) (y : Ent) (s : BSt) (d : NodeT) (ns : List ByteArray), 32 = k + g + 1 → wf g y → s.first = false → nameE y.f0 = 0 → (∀ x, x ∈ ns → nameE x = 0) → ns.length = k → s.path.take k = ns → spineN k s.n = some d → d.1 = 3 → lastLt d.2.2.2 y.f0 = true → 24 ≤ s.bytes → s.bytes + entS y.f0 + tsz g y ≤ 1048576 →
   ∃ s2, stB (trows g (joinP 32 ⟨#[]⟩ (ns ++ [y.f0])) y) s = some s2 ∧ s2.n = appAt k [y] s.n ∧ s2.path.take k = ns ∧ s2.bytes = s.bytes + entS y.f0 + tsz g y ∧ s2.first = false
 | 0, k, y, s, d, ns, hg, hw, hf, hn, hv, hl, hp, hd, h3, hlt, hb, hz => hw.elim
 | g + 1, k, y, s, d, ns, hg, hw, hf, hn, hv, hl, hp, hd, h3, hlt, hb, hz => by
  obtain ⟨w1, w2, w3, w4⟩ := hw
  have et : tsz (g + 1) y = ownS y.f1 y.f2 y.f3 + ksz g y.f4 := rfl
  rw [et] at hz
  have hks := ksz_nonneg g y.f4
  have hes := entS_range y.f0
  obtain ⟨P, hP⟩ : ∃ P, P = joinP 32 ⟨#[]⟩ (ns ++ [y.f0]) := ⟨_, rfl⟩
  have hall : ∀ x, x ∈ ns ++ [y.f0] → nameE x = 0 := fun x hx => by
   rcases List.mem_append.1 hx with hx | hx
   ·exact hv x hx
   ·rw [List.mem_singleton] at hx; rw [hx]; exact hn
  have hsp : splitP P = (ns ++ [y.f0], 0, 0) := by rw [hP]; exact joined_split hall (by rw [List.length_append, List.length_singleton]; omega)
  obtain ⟨r, hr⟩ : ∃ r : RowT, r = (P, y.f1, y.f2, y.f3) := ⟨_, rfl⟩
  have hcode : codeN (leafN r) = 0 := by
   rw [hr]
   refine (look_zero _ _ _ _).2 ⟨⟨fields_leaf w1, (fun u hu => (by cases hu)), List.Pairwise.nil, (fun u hu => (by cases hu))⟩, ?_⟩
   show 24 + (ownS y.f1 y.f2 y.f3 + ([] : List Int).sum) ≤ _
   rw [List.sum_nil]
   omega
  have hstep : stepB s r = some ⟨appAt k [leafX r y.f0] s.n, ns ++ [y.f0], s.bytes + rowS r + entS y.f0, false⟩ := by
   have e1 : splitP r.1 = (ns ++ [y.f0], 0, 0) := by rw [hr]; exact hsp
   have e2 : rowS r = ownS y.f1 y.f2 y.f3 := by rw [hr]; rfl
   unfold stepB
   rw [if_neg (by unfold pathE; rw [e1]; simp [hcode]), if_neg (by rw [hf]; decide), e1]
   simp only
   rw [List.getLast?_concat]
   simp only
   rw [List.dropLast_concat, List.length_append, List.length_singleton, Nat.add_sub_cancel, hl, if_neg (by rw [hp]; simp), hd]
   simp only
   rw [if_neg (by simp only [not_or, Decidable.not_not]; exact ⟨h3, by rw [hlt]; decide, by omega⟩)]
  have hd1 : spineN (k + 1) (appAt k [leafX r y.f0] s.n) = some (nodeOf (leafX r y.f0)) := app_spine_down k s.n d _ hd
  have e2 : rowS r = ownS y.f1 y.f2 y.f3 := by rw [hr]; rfl
  have hpos := own_pos y.f1 y.f2 y.f3
  have hfin : ({ leafX r y.f0 with f4 := (leafX r y.f0).f4 ++ y.f4 } : Ent) = y := by rw [hr]; cases y; simp [leafX]
  by_cases hk3 : y.f1 = 3
  ·obtain ⟨s3, b1, b2, b3, b4, b5⟩ := build_kids g (k + 1) (by omega) (fun y s d ns => build_sub g (k + 1) y s d ns (by omega)) y.f4 ⟨appAt k [leafX r y.f0] s.n, ns ++ [y.f0], s.bytes + rowS r + entS y.f0, false⟩ _ (ns ++ [y.f0]) rfl hall (by rw [List.length_append, List.length_singleton, hl]) (by
    show (ns ++ [y.f0]).take (k + 1) = _
    rw [List.take_of_length_le (by rw [List.length_append, List.length_singleton]; omega)]) hd1 (by rw [hr]; exact hk3) (by show Rising ([] ++ y.f4); rw [List.nil_append]; exact w3) w2 w4 (by show 24 ≤ s.bytes + rowS r + _; omega) (by show s.bytes + rowS r + _ + _ ≤ _; omega)
   refine ⟨s3, ?_, ?_, ?_, ?_, b5⟩
   ·show stB ((joinP 32 ⟨#[]⟩ (ns ++ [y.f0]), y.f1, y.f2, y.f3) :: _) s = _
    rw [← hP, ← hr]
    unfold stB
    rw [hstep]
    rw [← hP] at b1
    exact b1
   ·rw [b2]
    show appAt (k + 1) y.f4 (appAt k [leafX r y.f0] s.n) = _
    rw [app_down k s.n d _ _ hd, hfin]
   ·have h1 := congrArg (List.take k) b3
    rw [List.take_take, Nat.min_eq_left (by omega)] at h1
    rw [h1, ← hl, List.take_left]
   ·rw [b4, et]
    show s.bytes + rowS r + entS y.f0 + ksz g y.f4 = _
    omega
  ·have hnil : y.f4 = [] := fields_kids w1 hk3
   refine ⟨⟨appAt k [leafX r y.f0] s.n, ns ++ [y.f0], s.bytes + rowS r + entS y.f0, false⟩, ?_, ?_, ?_, ?_, rfl⟩
   ·show stB ((joinP 32 ⟨#[]⟩ (ns ++ [y.f0]), y.f1, y.f2, y.f3) :: y.f4.flatMap _) s = _
    rw [hnil, ← hP, ← hr]
    unfold stB
    rw [hstep]
    rfl
   ·show appAt k [leafX r y.f0] s.n = _
    rw [hnil, List.append_nil] at hfin
    have : leafX r y.f0 = y := by rw [← hfin]; rfl
    rw [this]
   ·show (ns ++ [y.f0]).take k = ns
    rw [← hl, List.take_left]
   ·show s.bytes + rowS r + entS y.f0 = _
    rw [et, hnil]
    simp [ksz]
    omega
theorem rows_build {n : NodeT} {b : Int} {rows : List RowT} (h : lookL n.1 n.2.1 n.2.2.1 n.2.2.2 = .ok b rows) : ∃ s, stB rows initB = some s ∧ s.n = n ∧ rows ≠ [] ∧ (rows.head?).map (·.1) = some ⟨#[]⟩ := by
 obtain ⟨hw, hb, hle, hr⟩ := (look_iff n.1 n.2.1 n.2.2.1 n.2.2.2 b rows).1 h
 obtain ⟨k, e, t, l⟩ := n
 simp only at *
 obtain ⟨w1, w2, w3, w4⟩ := hw
 have w1' : fieldsE k e t l = 0 := w1
 have et : tsz 32 (⟨⟨#[]⟩, k, e, t, l⟩ : Ent) = ownS k e t + ksz 31 l := rfl
 rw [et] at hb
 have hks := ksz_nonneg 31 l
 have hpos := own_pos k e t
 have hrows : rows = (⟨#[]⟩, k, e, t) :: l.flatMap (fun y => trows 31 (belowP ⟨#[]⟩ y.f0 (32 - ((31 : Nat) : Int))) y) := hr
 obtain ⟨r, hrr⟩ : ∃ r : RowT, r = (⟨#[]⟩, k, e, t) := ⟨_, rfl⟩
 have hcode : codeN (leafN r) = 0 := by
  rw [hrr]
  refine (look_zero _ _ _ _).2 ⟨⟨fields_leaf w1', (fun u hu => (by cases hu)), List.Pairwise.nil, (fun u hu => (by cases hu))⟩, ?_⟩
  show 24 + (ownS k e t + ([] : List Int).sum) ≤ _
  rw [List.sum_nil]
  omega
 have e2 : rowS r = ownS k e t := by rw [hrr]; rfl
 have hstep : stepB initB r = some ⟨leafN r, [], 24 + rowS r, false⟩ := by
  have e1 : splitP r.1 = ([], 0, 0) := by rw [hrr]; exact split_nil (by rw [Lib.toList_data])
  unfold stepB
  rw [if_neg (by unfold pathE; rw [e1]; simp [hcode]), if_pos (show initB.first = true from rfl), e1]
  simp only
  rw [if_neg (by simp only [not_or, Decidable.not_not]; exact ⟨trivial, by show ¬ 1048576 < 24 + rowS r; omega⟩)]
  rfl
 refine ⟨?_, ?_, ?_, by rw [hrows]; simp, by rw [hrows]; rfl⟩
 ·exact ⟨(k, e, t, l), ((stB rows initB).getD initB).path, ((stB rows initB).getD initB).bytes, ((stB rows initB).getD initB).first⟩
 ·rw [hrows, ← hrr]
  unfold stB
  rw [hstep]
  show stB _ _ = some ⟨_, ((stB _ _).getD initB).path, ((stB _ _).getD initB).bytes, ((stB _ _).getD initB).first⟩
  have hgoal : ∃ s3, stB (l.flatMap (fun y => trows 31 (belowP ⟨#[]⟩ y.f0 (32 - ((31 : Nat) : Int))) y)) ⟨leafN r, [], 24 + rowS r, false⟩ = some s3 ∧ s3.n = (k, e, t, l) := by
   by_cases hk3 : k = 3
   ·obtain ⟨s3, b1, b2, b3, b4, b5⟩ := build_kids 31 0 (by omega) (fun y s d ns => build_sub 31 0 y s d ns (by omega)) l ⟨leafN r, [], 24 + rowS r, false⟩ (leafN r) [] rfl (by simp) rfl rfl rfl (by rw [hrr]; exact hk3) (by show Rising ([] ++ l); rw [List.nil_append]; exact w3) w2 w4 (by show 24 ≤ 24 + rowS r; omega) (by show 24 + rowS r + ksz 31 l ≤ _; omega)
    refine ⟨s3, ?_, ?_⟩
    ·rw [joinP_nil] at b1; exact b1
    ·rw [b2, hrr]
     show (k, e, t, [] ++ l) = _
     rw [List.nil_append]
   ·have hnil : l = [] := fields_kids w1' hk3
    rw [hnil]
    exact ⟨_, rfl, by rw [hrr]; rfl⟩
  obtain ⟨s3, hs3, hn3⟩ := hgoal
  rw [hs3]
  show some s3 = some ⟨(k, e, t, l), s3.path, s3.bytes, s3.first⟩
  rw [← hn3]
 ·rfl
end Go.Proofs.YtnemeeidomceiaaDoor
end
section
namespace Go.Proofs.YtnemeeidomceiaaDoor
open Go.RowKit Go.Proofs.YtnemeeidomceiaaDoorW.PrintWords
set_option linter.unusedVariables false
def ownF (r : RowT) : Int := fieldsE r.2.1 r.2.2.1 r.2.2.2 []
def stepS (s : BSt) (r : RowT) : Option BSt :=
 if pathE r.1 ≠ 0 ∨ ownF r ≠ 0 then none
 else match (splitP r.1).1.getLast? with
  | none => none
  | some z =>
   if (splitP r.1).1.dropLast ≠ s.path.take ((splitP r.1).1.length - 1) then none
   else match spineN ((splitP r.1).1.length - 1) s.n with
    | none => none
    | some d => if d.1 ≠ 3 ∨ lastLt d.2.2.2 z = false then none
     else some ⟨appAt ((splitP r.1).1.length - 1) [leafX r z] s.n, (splitP r.1).1, s.bytes + rowS r + entS z, false⟩
def stS : List RowT → BSt → Option BSt
 | [], s => some s
 | r :: rs, s => (stepS s r).bind (stS rs)
theorem stS_append : ∀ (a b : List RowT) (s : BSt), stS (a ++ b) s = (stS a s).bind (stS b)
 | [], b, s => rfl
 | r :: a, b, s => by
  show (stepS s r).bind (stS (a ++ b)) = ((stepS s r).bind (stS a)).bind (stS b)
  cases stepS s r with
  | none => rfl
  | some s2 => exact stS_append a b s2
theorem rowS_pos (r : RowT) : 0 ≤ rowS r := by have := own_pos r.2.1 r.2.2.1 r.2.2.2; show 0 ≤ ownS _ _ _; omega
theorem code_leaf (r : RowT) : codeN (leafN r) = 0 ↔ ownF r = 0 ∧ 24 + rowS r ≤ 1048576 := by
 refine ⟨fun h => ⟨(leaf_ok h).1, (leaf_ok h).2.1⟩, fun ⟨h1, h2⟩ => (look_zero _ _ _ _).2 ⟨⟨h1, (fun u hu => (by cases hu)), List.Pairwise.nil, (fun u hu => (by cases hu))⟩, ?_⟩⟩
 show 24 + (ownS _ _ _ + ([] : List Int).sum) ≤ _
 rw [List.sum_nil, Int.add_zero]
 exact h2
theorem step_S {s : BSt} {r : RowT} (hf : s.first = false) (hb : 24 ≤ s.bytes) : stepB s r = (stepS s r).bind (fun s2 => if 1048576 < s2.bytes then none else some s2) := by
 have hr := rowS_pos r
 unfold stepB stepS
 by_cases h1 : pathE r.1 ≠ 0 ∨ ownF r ≠ 0
 ·rw [if_pos h1, if_pos (by
   rcases h1 with h | h
   ·exact .inl h
   ·exact .inr (fun e => h ((code_leaf r).1 e).1))]
  rfl
 ·rw [if_neg h1, if_neg (show ¬ s.first = true by rw [hf]; decide)]
  simp only [not_or, Decidable.not_not] at h1
  cases hz : (splitP r.1).1.getLast? with
  | none => simp only [ite_self]; rfl
  | some z =>
   simp only
   have he := entS_range z
   by_cases h2 : (splitP r.1).1.dropLast ≠ s.path.take ((splitP r.1).1.length - 1)
   ·rw [if_pos h2, if_pos h2, ite_self]; rfl
   ·rw [if_neg h2, if_neg h2]
    cases hd : spineN ((splitP r.1).1.length - 1) s.n with
    | none => simp only [ite_self]; rfl
    | some d =>
     simp only
     by_cases h3 : d.1 ≠ 3 ∨ lastLt d.2.2.2 z = false
     ·have hc : d.1 ≠ 3 ∨ lastLt d.2.2.2 z = false ∨ 1048576 < s.bytes + rowS r + entS z := by
       rcases h3 with h | h
       ·exact Or.inl h
       ·exact Or.inr (Or.inl h)
      rw [if_pos h3, if_pos hc, ite_self]; rfl
     ·rw [if_neg h3]
      show _ = if 1048576 < s.bytes + rowS r + entS z then none else _
      by_cases h4 : 1048576 < s.bytes + rowS r + entS z
      ·have hc : d.1 ≠ 3 ∨ lastLt d.2.2.2 z = false ∨ 1048576 < s.bytes + rowS r + entS z := Or.inr (Or.inr h4)
       rw [if_pos h4, if_pos hc, ite_self]
      ·have hc : ¬ (d.1 ≠ 3 ∨ lastLt d.2.2.2 z = false ∨ 1048576 < s.bytes + rowS r + entS z) := by
        rintro (h | h | h)
        ·exact h3 (Or.inl h)
        ·exact h3 (Or.inr h)
        ·exact h4 h
       rw [if_neg h4, if_neg (by rw [h1.1, (code_leaf r).2 ⟨h1.2, by omega⟩]; simp), if_neg hc]
theorem step_long {s : BSt} {r : RowT} (h : s.path.length + 1 < (splitP r.1).1.length) : stepS s r = none := by
 unfold stepS
 by_cases h1 : pathE r.1 ≠ 0 ∨ ownF r ≠ 0
 ·rw [if_pos h1]
 ·rw [if_neg h1]
  cases hz : (splitP r.1).1.getLast? with
  | none => rfl
  | some z =>
   simp only
   rw [if_pos (fun e => ?_)]
   have := congrArg List.length e
   rw [List.length_dropLast, List.length_take] at this
   omega
theorem appAt_nil (k : Nat) (n : NodeT) : appAt k [] n = n := by
 have key : ∀ (k : Nat) (l : List Ent), lastAt (fun l => l ++ []) k l = l := by
  intro k
  induction k with
  | zero => intro l; simp [lastAt]
  | succ k ih =>
   intro l
   unfold lastAt
   cases hx : l.getLast? with
   | none => rfl
   | some x =>
    simp only
    rw [ih x.f4, show (⟨x.f0, x.f1, x.f2, x.f3, x.f4⟩ : Ent) = x from by cases x; rfl]
    exact (dropLast_snoc hx).symm
 unfold appAt
 rw [key k]
def lastN (r : RowT) : ByteArray := (splitP r.1).1.getLastD ⟨#[]⟩
def gat : Nat → List RowT → List ByteArray → List Ent → List Ent × List RowT
 | 0, rest, _, kids => (kids, rest)
 | f + 1, [], _, kids => (kids, [])
 | f + 1, r :: rs, dir, kids =>
  if pathE r.1 ≠ 0 ∨ (splitP r.1).1.length ≠ dir.length + 1 ∨ (splitP r.1).1.dropLast ≠ dir then (kids, r :: rs)
  else if lastLt kids (lastN r) = false then (kids, r :: rs)
  else if ownF r ≠ 0 then (kids, r :: rs)
  else if r.2.1 = 3 then gat f (gat f rs (splitP r.1).1 []).2 dir (kids ++ [⟨lastN r, r.2.1, r.2.2.1, r.2.2.2, (gat f rs (splitP r.1).1 []).1⟩])
  else gat f rs dir (kids ++ [leafX r (lastN r)])
theorem last_lastN {r : RowT} (h : (splitP r.1).1 ≠ []) : (splitP r.1).1.getLast? = some (lastN r) := by
 unfold lastN
 rw [List.getLastD_eq_getLast?]
 cases hz : (splitP r.1).1.getLast? with
 | none => rw [List.getLast?_eq_none_iff] at hz; exact absurd hz h
 | some z => rfl
theorem gat_le : ∀ (f : Nat) (rest : List RowT) (dir : List ByteArray) (kids : List Ent), (gat f rest dir kids).2.length ≤ rest.length
 | 0, rest, dir, kids => Nat.le_refl _
 | f + 1, [], dir, kids => Nat.le_refl _
 | f + 1, r :: rs, dir, kids => by
  unfold gat
  split
  ·exact Nat.le_refl _
  split
  ·exact Nat.le_refl _
  split
  ·exact Nat.le_refl _
  split
  ·have h1 := gat_le f rs (splitP r.1).1 []
   have h2 := gat_le f (gat f rs (splitP r.1).1 []).2 dir (kids ++ [⟨lastN r, r.2.1, r.2.2.1, r.2.2.2, (gat f rs (splitP r.1).1 []).1⟩])
   simp only [List.length_cons]
   omega
  ·have h1 := gat_le f rs dir (kids ++ [leafX r (lastN r)])
   simp only [List.length_cons]
   omega
structure GatSaid (k : Nat) (dir : List ByteArray) (s : BSt) (kids : List Ent) (rest : List RowT) (out : List Ent × List RowT) (used : List RowT) (s2 : BSt) (new : List Ent) : Prop where
 rest : rest = used ++ out.2
 run : stS used s = some s2
 kids : out.1 = kids ++ new
 n : s2.n = appAt k new s.n
 path : s2.path.take k = dir
 stop : ∀ r rs, out.2 = r :: rs → k + 1 ≤ (splitP r.1).1.length → stepS s2 r = none
theorem gat_sim : ∀ (f : Nat) (rest : List RowT) (k : Nat) (dir : List ByteArray) (s : BSt) (d : NodeT), rest.length ≤ f → dir.length = k → s.path.take k = dir → spineN k s.n = some d → d.1 = 3 →
  (∀ r rs, rest = r :: rs → k + 2 ≤ (splitP r.1).1.length → stepS s r = none) → ∃ used s2 new, GatSaid k dir s d.2.2.2 rest (gat f rest dir d.2.2.2) used s2 new
 | 0, rest, k, dir, s, d, hl, hk, hp, hd, h3, hlow => by
  obtain rfl : rest = [] := List.length_eq_zero_iff.1 (by omega)
  exact ⟨[], s, [], rfl, rfl, (List.append_nil _).symm, (appAt_nil k s.n).symm, hp, fun r rs h => by cases h⟩
 | f + 1, [], k, dir, s, d, hl, hk, hp, hd, h3, hlow => ⟨[], s, [], rfl, rfl, (List.append_nil _).symm, (appAt_nil k s.n).symm, hp, fun r rs h => by cases h⟩
 | f + 1, r :: rs, k, dir, s, d, hl, hk, hp, hd, h3, hlow => by
  have stay : (k + 1 ≤ (splitP r.1).1.length → stepS s r = none) → ∃ used s2 new, GatSaid k dir s d.2.2.2 (r :: rs) (d.2.2.2, r :: rs) used s2 new := fun hs =>
   ⟨[], s, [], rfl, rfl, (List.append_nil _).symm, (appAt_nil k s.n).symm, hp, fun r' rs' h => by injection h with h1 h2; subst h1; exact hs⟩
  unfold gat
  by_cases h1 : pathE r.1 ≠ 0 ∨ (splitP r.1).1.length ≠ dir.length + 1 ∨ (splitP r.1).1.dropLast ≠ dir
  ·rw [if_pos h1]
   refine stay fun hlen => ?_
   by_cases h2 : k + 2 ≤ (splitP r.1).1.length
   ·exact hlow r rs rfl h2
   ·unfold stepS
    by_cases h4 : pathE r.1 ≠ 0 ∨ ownF r ≠ 0
    ·rw [if_pos h4]
    ·rw [if_neg h4]
     cases hz : (splitP r.1).1.getLast? with
     | none => rfl
     | some z =>
      simp only
      rw [if_pos]
      rw [show (splitP r.1).1.length - 1 = k from by omega, hp]
      rcases h1 with h | h | h
      ·exact absurd h (fun e => h4 (.inl e))
      ·omega
      ·exact h
  ·rw [if_neg h1]
   simp only [not_or, Decidable.not_not] at h1
   obtain ⟨e1, e2, e3⟩ := h1
   have hne : (splitP r.1).1 ≠ [] := fun e => by rw [e] at e2; simp at e2
   have hz := last_lastN hne
   have hkk : (splitP r.1).1.length - 1 = k := by omega
   by_cases h2 : lastLt d.2.2.2 (lastN r) = false
   ·rw [if_pos h2]
    refine stay fun hlen => ?_
    unfold stepS
    by_cases h4 : pathE r.1 ≠ 0 ∨ ownF r ≠ 0
    ·rw [if_pos h4]
    ·rw [if_neg h4, hz]
     simp only
     rw [hkk, if_neg (by rw [hp, e3]; simp), hd]
     simp only
     rw [if_pos (.inr h2)]
   ·rw [if_neg h2]
    by_cases h4 : ownF r ≠ 0
    ·rw [if_pos h4]
     refine stay fun hlen => ?_
     unfold stepS
     rw [if_pos (.inr h4)]
    ·rw [if_neg h4]
     rw [Decidable.not_not] at h4
     obtain ⟨s1, hs1⟩ : ∃ s1 : BSt, s1 = ⟨appAt k [leafX r (lastN r)] s.n, (splitP r.1).1, s.bytes + rowS r + entS (lastN r), false⟩ := ⟨_, rfl⟩
     have hstep : stepS s r = some s1 := by
      unfold stepS
      rw [if_neg (by rw [e1, h4]; simp), hz]
      simp only
      rw [hkk, if_neg (by rw [hp, e3]; simp), hd]
      simp only
      rw [if_neg (by simp only [not_or, Decidable.not_not]; exact ⟨h3, h2⟩), hs1]
     have hp1 : s1.path = (splitP r.1).1 := by rw [hs1]
     have hn1 : s1.n = appAt k [leafX r (lastN r)] s.n := by rw [hs1]
     have htk : (splitP r.1).1.take k = dir := by rw [← hkk, ← List.dropLast_eq_take, e3]
     have hl1 : s1.path.length = k + 1 := by rw [hp1]; omega
     have hdn : spineN (k + 1) s1.n = some (nodeOf (leafX r (lastN r))) := by rw [hn1]; exact app_spine_down k s.n d _ hd
     clear hs1
     simp only [List.length_cons] at hl
     by_cases h5 : r.2.1 = 3
     ·rw [if_pos h5]
      obtain ⟨u1, s2, n1, g1⟩ := gat_sim f rs (k + 1) (splitP r.1).1 s1 (nodeOf (leafX r (lastN r))) (by omega) (by omega) (by rw [hp1, List.take_of_length_le (by omega)]) hdn h5 (fun r' rs' _ hlen => step_long (by omega))
      obtain ⟨out1, ho1⟩ : ∃ o, o = gat f rs (splitP r.1).1 [] := ⟨_, rfl⟩
      have g1' : GatSaid (k + 1) (splitP r.1).1 s1 [] rs out1 u1 s2 n1 := by rw [ho1]; exact g1
      rw [← ho1]
      have hle := gat_le f rs (splitP r.1).1 []
      rw [← ho1] at hle
      have hk1 : out1.1 = n1 := by rw [g1'.kids]; rfl
      have hn2 : s2.n = appAt k [⟨lastN r, r.2.1, r.2.2.1, r.2.2.2, out1.1⟩] s.n := by
       rw [g1'.n, hn1, app_down k s.n d _ _ hd, hk1]
       rfl
      have hd2 : spineN k s2.n = some (d.1, d.2.1, d.2.2.1, d.2.2.2 ++ [⟨lastN r, r.2.1, r.2.2.1, r.2.2.2, out1.1⟩]) := by rw [hn2]; exact app_spine k s.n d _ hd
      have hp2 : s2.path.take k = dir := by
       have := congrArg (List.take k) g1'.path
       rw [List.take_take, Nat.min_eq_left (by omega), htk] at this
       exact this
      obtain ⟨u2, s3, n2, g2⟩ := gat_sim f out1.2 k dir s2 _ (by omega) hk hp2 hd2 h3 (fun r' rs' h hlen => g1'.stop r' rs' h (by omega))
      refine ⟨r :: (u1 ++ u2), s3, [⟨lastN r, r.2.1, r.2.2.1, r.2.2.2, out1.1⟩] ++ n2, ?_, ?_, ?_, ?_, g2.path, g2.stop⟩
      ·conv => lhs; rw [g1'.rest]
       have := g2.rest
       rw [List.cons_append, List.append_assoc]
       congr 2
      ·unfold stS
       rw [hstep]
       show stS (u1 ++ u2) s1 = _
       rw [stS_append, g1'.run]
       exact g2.run
      ·rw [g2.kids, List.append_assoc]
      ·rw [g2.n, hn2, app_app k s.n d _ _ hd]
     ·rw [if_neg h5]
      have hd2 : spineN k s1.n = some (d.1, d.2.1, d.2.2.1, d.2.2.2 ++ [leafX r (lastN r)]) := by rw [hn1]; exact app_spine k s.n d _ hd
      obtain ⟨u2, s3, n2, g2⟩ := gat_sim f rs k dir s1 _ (by omega) hk (by rw [hp1, htk]) hd2 h3 (fun r' rs' h hlen => by
       by_cases h6 : k + 2 < (splitP r'.1).1.length
       ·exact step_long (by omega)
       ·unfold stepS
        by_cases h7 : pathE r'.1 ≠ 0 ∨ ownF r' ≠ 0
        ·rw [if_pos h7]
        ·rw [if_neg h7]
         cases hz' : (splitP r'.1).1.getLast? with
         | none => rfl
         | some z =>
          simp only
          by_cases h8 : (splitP r'.1).1.dropLast ≠ s1.path.take ((splitP r'.1).1.length - 1)
          ·rw [if_pos h8]
          ·rw [if_neg h8, show (splitP r'.1).1.length - 1 = k + 1 from by omega, hdn]
           simp only
           rw [if_pos (.inl h5)])
      refine ⟨r :: u2, s3, [leafX r (lastN r)] ++ n2, ?_, ?_, ?_, ?_, g2.path, g2.stop⟩
      ·have := g2.rest
       rw [List.cons_append]
       congr 1
      ·unfold stS
       rw [hstep]
       exact g2.run
      ·rw [g2.kids, List.append_assoc]
      ·rw [g2.n, hn1, app_app k s.n d _ _ hd]
def rowB (r : RowT) : Int := rowS r + (match (splitP r.1).1.getLast? with | none => 0 | some z => entS z)
def fitsL : List RowT → Int → Nat
 | [], _ => 0
 | r :: rs, b => if 1048576 < b + rowB r then 0 else fitsL rs (b + rowB r) + 1
theorem fits_le : ∀ (rs : List RowT) (b : Int), fitsL rs b ≤ rs.length
 | [], b => Nat.le_refl _
 | r :: rs, b => by
  unfold fitsL
  have := fits_le rs (b + rowB r)
  split
  ·exact Nat.zero_le _
  ·simp only [List.length_cons]; omega
theorem stepS_bytes {s s2 : BSt} {r : RowT} (h : stepS s r = some s2) : s2.bytes = s.bytes + rowB r ∧ s2.first = false := by
 unfold stepS at h
 split at h
 ·cases h
 unfold rowB
 cases hz : (splitP r.1).1.getLast? with
 | none => rw [hz] at h; cases h
 | some z =>
  rw [hz] at h
  simp only at h ⊢
  split at h
  ·cases h
  split at h
  ·cases h
  split at h
  ·cases h
  injection h with h
  subst h
  exact ⟨by show s.bytes + rowS r + entS z = _; omega, rfl⟩
theorem rowB_pos (r : RowT) : 0 ≤ rowB r := by
 have := rowS_pos r
 unfold rowB
 cases (splitP r.1).1.getLast? with
 | none => show 0 ≤ _ + (0 : Int); omega
 | some z => have := entS_range z; show 0 ≤ _ + entS z; omega
theorem go_used : ∀ (used rest : List RowT) (s s2 : BSt) (i : Int), s.first = false → 24 ≤ s.bytes → stS used s = some s2 →
  (fitsL used s.bytes < used.length ∧ goB (used ++ rest) s i = (zeroT, 64, i + (fitsL used s.bytes : Int))) ∨ (fitsL used s.bytes = used.length ∧ goB (used ++ rest) s i = goB rest s2 (i + (used.length : Int)) ∧ s2.first = false ∧ 24 ≤ s2.bytes)
 | [], rest, s, s2, i, hf, hb, h => by
  injection h with h
  subst h
  exact .inr ⟨rfl, by simp, hf, hb⟩
 | r :: used, rest, s, s2, i, hf, hb, h => by
  unfold stS at h
  cases hs : stepS s r with
  | none => rw [hs] at h; cases h
  | some s1 =>
   rw [hs] at h
   have h' : stS used s1 = some s2 := h
   obtain ⟨b1, b2⟩ := stepS_bytes hs
   have hpos := rowB_pos r
   have hB := step_S (r := r) hf hb
   rw [hs] at hB
   have hB' : stepB s r = if 1048576 < s1.bytes then none else some s1 := hB
   unfold fitsL
   by_cases hbig : 1048576 < s.bytes + rowB r
   ·rw [if_pos hbig]
    rw [if_pos (by omega)] at hB'
    refine .inl ⟨by simp, ?_⟩
    show goB (r :: (used ++ rest)) s i = _
    unfold goB
    rw [hB']
    simp
   ·rw [if_neg hbig]
    rw [if_neg (by omega)] at hB'
    have hgo : goB (r :: used ++ rest) s i = goB (used ++ rest) s1 (i + 1) := by
     show goB (r :: (used ++ rest)) s i = _
     conv => lhs; unfold goB
     rw [hB']
    rw [hgo, ← b1]
    rcases go_used used rest s1 s2 (i + 1) b2 (by omega) h' with ⟨c1, c2⟩ | ⟨c1, c2, c3, c4⟩
    ·refine .inl ⟨by simp only [List.length_cons]; omega, ?_⟩
     rw [c2]
     congr 2
     omega
    ·refine .inr ⟨by simp only [List.length_cons]; omega, ?_, c3, c4⟩
     rw [c2]
     congr 1
     simp only [List.length_cons]
     omega
def refG (r : RowT) (rs : List RowT) : List Ent × List RowT := if r.2.1 = 3 then gat rs.length rs [] [] else ([], rs)
def refB : List RowT → NodeT × Int × Int
 | [] => (zeroT, 50, 0)
 | r :: rs =>
  if r.1.toList ≠ [] ∨ ownF r ≠ 0 then (zeroT, 64, 0)
  else if fitsL ((r :: rs).take ((rs.length + 1) - (refG r rs).2.length)) 24 < rs.length + 1 then (zeroT, 64, (fitsL ((r :: rs).take ((rs.length + 1) - (refG r rs).2.length)) 24 : Int))
  else ((r.2.1, r.2.2.1, r.2.2.2, (refG r rs).1), 0, 0)
theorem refG_said (r : RowT) (rs : List RowT) (b : Int) : ∃ used s2, rs = used ++ (refG r rs).2 ∧ stS used ⟨leafN r, [], b, false⟩ = some s2 ∧ s2.n = (r.2.1, r.2.2.1, r.2.2.2, (refG r rs).1) ∧ ∀ r' rs', (refG r rs).2 = r' :: rs' → stepS s2 r' = none := by
 have hnone : ∀ (s : BSt) (r' : RowT), (splitP r'.1).1.length = 0 → stepS s r' = none := fun s r' h => by
  unfold stepS
  rw [List.length_eq_zero_iff.1 h]
  by_cases h7 : pathE r'.1 ≠ 0 ∨ ownF r' ≠ 0
  ·rw [if_pos h7]
  ·rw [if_neg h7]; rfl
 unfold refG
 by_cases h3 : r.2.1 = 3
 ·rw [if_pos h3]
  obtain ⟨used, s2, new, g⟩ := gat_sim rs.length rs 0 [] ⟨leafN r, [], b, false⟩ (leafN r) (Nat.le_refl _) rfl rfl rfl h3 (fun r' rs' h hlen => step_long (by show ([] : List ByteArray).length + 1 < _; simp; omega))
  refine ⟨used, s2, g.rest, g.run, ?_, fun r' rs' h => ?_⟩
  ·have hk := g.kids
   have hk' : (gat rs.length rs [] []).1 = [] ++ new := hk
   rw [hk', g.n]
   rfl
  ·by_cases h0 : (splitP r'.1).1.length = 0
   ·exact hnone s2 r' h0
   ·exact g.stop r' rs' h (by omega)
 ·rw [if_neg h3]
  refine ⟨[], _, rfl, rfl, rfl, fun r' rs' h => ?_⟩
  by_cases h0 : (splitP r'.1).1.length = 0
  ·exact hnone _ r' h0
  ·by_cases h6 : 1 < (splitP r'.1).1.length
   ·exact step_long (by show ([] : List ByteArray).length + 1 < _; simp; omega)
   ·unfold stepS
    by_cases h7 : pathE r'.1 ≠ 0 ∨ ownF r' ≠ 0
    ·rw [if_pos h7]
    ·rw [if_neg h7]
     cases hz' : (splitP r'.1).1.getLast? with
     | none => rfl
     | some z =>
      simp only
      split
      ·rfl
      ·rw [show (splitP r'.1).1.length - 1 = 0 from by omega]
       show (if (leafN r).1 ≠ 3 ∨ _ then _ else _) = _
       rw [if_pos (.inl h3)]
theorem path_root {p : ByteArray} : p.toList = [] ↔ pathE p = 0 ∧ (splitP p).1 = [] := by
 constructor
 ·intro h
  have e := split_nil h
  unfold pathE
  rw [e]
  exact ⟨rfl, rfl⟩
 ·rintro ⟨h1, h2⟩
  have := split_joined h1
  rw [h2, joinP_nil] at this
  rw [← this, Lib.toList_data]
theorem ref_build (rows : List RowT) : refB rows = buildP rows := by
 cases rows with
 | nil => rfl
 | cons r rs =>
  unfold buildP
  rw [if_neg (by simp)]
  show (if r.1.toList ≠ [] ∨ ownF r ≠ 0 then (zeroT, 64, 0) else _) = goB (r :: rs) initB 0
  unfold goB
  by_cases h1 : r.1.toList ≠ [] ∨ ownF r ≠ 0
  ·rw [if_pos h1]
   have hs : stepB initB r = none := by
    unfold stepB
    by_cases h2 : pathE r.1 ≠ 0 ∨ codeN (leafN r) ≠ 0
    ·rw [if_pos h2]
    ·rw [if_neg h2, if_pos (show initB.first = true from rfl)]
     simp only [not_or, Decidable.not_not] at h2
     have hn : (splitP r.1).1 ≠ [] := fun e => by
      rcases h1 with h | h
      ·exact h (path_root.2 ⟨h2.1, e⟩)
      ·exact h ((code_leaf r).1 h2.2).1
     rw [if_pos (Or.inl hn)]
   rw [hs]
  ·rw [if_neg h1]
   simp only [not_or, Decidable.not_not] at h1
   obtain ⟨p1, p2⟩ := path_root.1 h1.1
   have hrb : rowB r = rowS r := by
    unfold rowB
    rw [p2]
    show _ + (0 : Int) = _
    omega
   obtain ⟨used, s2, g1, g2, g3, g4⟩ := refG_said r rs (24 + rowS r)
   obtain ⟨out, hout⟩ : ∃ o, o = refG r rs := ⟨_, rfl⟩
   rw [← hout] at g1 g3 g4 ⊢
   have htake : (r :: rs).take ((rs.length + 1) - out.2.length) = r :: used := by
    have hl : rs.length = used.length + out.2.length := by have := congrArg List.length g1; rw [List.length_append] at this; exact this
    rw [show rs.length + 1 - out.2.length = used.length + 1 from by omega, List.take_succ_cons]
    conv => lhs; rw [g1]
    rw [List.take_left]
   have hl : rs.length = used.length + out.2.length := by have := congrArg List.length g1; rw [List.length_append] at this; exact this
   rw [htake]
   by_cases hbig : 1048576 < 24 + rowS r
   ·have hs : stepB initB r = none := by
     unfold stepB
     rw [if_pos (.inr (fun e => by have := ((code_leaf r).1 e).2; omega))]
    have hf : fitsL (r :: used) 24 = 0 := by
     unfold fitsL
     rw [if_pos (by rw [hrb]; exact hbig)]
    rw [hs, hf, if_pos (by omega)]
    rfl
   ·have hs : stepB initB r = some ⟨leafN r, [], 24 + rowS r, false⟩ := by
     unfold stepB
     rw [if_neg (by rw [p1, (code_leaf r).2 ⟨h1.2, by omega⟩]; simp), if_pos (show initB.first = true from rfl), p2, if_neg (by
      simp only [not_or, Decidable.not_not]
      exact ⟨trivial, hbig⟩)]
     rfl
    have hf : fitsL (r :: used) 24 = fitsL used (24 + rowS r) + 1 := by
     conv => lhs; unfold fitsL
     rw [hrb, if_neg hbig]
    rw [hs, hf]
    simp only
    have hrp := rowS_pos r
    rcases go_used used out.2 ⟨leafN r, [], 24 + rowS r, false⟩ s2 (0 + 1) rfl (by show 24 ≤ 24 + rowS r; omega) g2 with ⟨c1, c2⟩ | ⟨c1, c2, c3, c4⟩
    ·conv => rhs; rw [g1]
     have c1' : fitsL used (24 + rowS r) < used.length := c1
     rw [c2, if_pos (by omega)]
     congr 2
     show ((fitsL used (24 + rowS r) + 1 : Nat) : Int) = 0 + 1 + (fitsL used (24 + rowS r) : Int)
     omega
    ·have c1' : fitsL used (24 + rowS r) = used.length := c1
     conv => rhs; rw [g1]
     rw [c2]
     cases ho : out.2 with
     | nil =>
      rw [ho] at hl
      rw [if_neg (by rw [c1']; simp at hl; omega)]
      show _ = (s2.n, 0, 0)
      rw [g3]
     | cons r' rs' =>
      rw [ho] at hl
      rw [if_pos (by rw [c1']; simp at hl; omega)]
      have hnone := step_S (r := r') c3 c4
      rw [g4 r' rs' ho] at hnone
      have hnone' : stepB s2 r' = none := hnone
      unfold goB
      rw [hnone']
      congr 2
      rw [c1']
      show ((used.length + 1 : Nat) : Int) = 0 + 1 + (used.length : Int)
      omega
end Go.Proofs.YtnemeeidomceiaaDoor
end
section
namespace Go.Proofs.YtnemeeidomceiaaDoor.PGTreeGets
open Go.RowKit Go.Proofs.YtnemeeidomceiaaDoorW.PrintWords Go.Proofs.YtnemeeidomceiaaDoor
set_option linter.unusedSimpArgs false
set_option linter.unusedVariables false
theorem up_le {α : Type} {g : Nat → Option α} (h : ∀ k, LeO (g k) (g (k + 1))) {r : α} {a b : Nat} (ha : g a = some r) (hab : a ≤ b) : g b = some r := by
 induction hab with
 | refl => exact ha
 | step _ ih => exact h _ _ ih
theorem w64n {i : Int} (h0 : -9223372036854775808 ≤ i) (h1 : i < 9223372036854775808) : wrap64 i = i := by unfold wrap64; omega
theorem refSplit_loop (s : ByteArray) (hs : s.size ≤ 4611686018427387904) : ∀ (m i : Nat), i + m = s.size → ∀ (names : List ByteArray) (frm : Nat), frm ≤ i → names.length ≤ 31 →
  depotref05_Split.l0 (2 * m + 4) s names (frm : Int) (i : Int) = some (splitG s m names frm i)
 | 0, i, h, names, frm, hf, hn => by
  have hw : wrap64 ((i : Int) + 1) = (i : Int) + 1 := w64n (by omega) (by omega)
  have hR : splitG s 0 names frm i = (pieceE s names frm i).getD (names ++ [s.extract frm i], 0, 0) := rfl
  generalize splitG s 0 names frm i = R at hR ⊢
  rw [depotref05_Split.l0, if_pos (by omega), if_neg (by omega), depotref05_Split.j1, if_neg (by decide)]
  unfold pieceE at hR
  by_cases h31 : names.length = 31
  ·rw [if_pos h31] at hR
   rw [if_pos (by omega), hR]; rfl
  ·rw [if_neg h31] at hR
   rw [if_neg (by omega), if_pos (by omega), if_pos (by omega), if_pos (by omega)]
   simp only [Int.toNat_natCast, depotref05_Check.f, Option.bind_some]
   by_cases hz : nameE (s.extract frm i) = 0
   ·rw [if_neg (fun e => e hz)] at hR
    rw [if_pos hz, if_pos (by omega), hw, depotref05_Split.l0, if_neg (by omega), hR]; rfl
   ·rw [if_pos hz] at hR
    rw [if_neg hz, hR]; rfl
 | m + 1, i, h, names, frm, hf, hn => by
  have hw : wrap64 ((i : Int) + 1) = ((i + 1 : Nat) : Int) := by rw [w64n (by omega) (by omega)]; omega
  have hR : splitG s (m + 1) names frm i = if bt s (i : Int) ≠ 47 then splitG s m names frm (i + 1) else (pieceE s names frm i).getD (splitG s m (names ++ [s.extract frm i]) (i + 1) (i + 1)) := rfl
  generalize splitG s (m + 1) names frm i = R at hR ⊢
  rw [show 2 * (m + 1) + 4 = (2 * m + 4) + 1 + 1 from by omega, depotref05_Split.l0, if_pos (by omega), if_pos (by omega), if_pos (by omega), depotref05_Split.j1]
  by_cases hb : bt s (i : Int) = 47
  ·rw [if_neg (fun e => e hb)] at hR
   have hb2 : ¬ ((bt s (i : Int) != 47) = true) := by simp [hb]
   rw [if_neg hb2]
   unfold pieceE at hR
   by_cases h31 : names.length = 31
   ·rw [if_pos h31] at hR
    rw [if_pos (by omega), hR]; rfl
   ·rw [if_neg h31] at hR
    rw [if_neg (by omega), if_pos (by omega), if_pos (by omega), if_pos (by omega)]
    simp only [Int.toNat_natCast, depotref05_Check.f, Option.bind_some]
    by_cases hz : nameE (s.extract frm i) = 0
    ·rw [if_neg (fun e => e hz)] at hR
     rw [if_pos hz, if_pos (by omega), hw, hR]
     exact refSplit_loop s hs m (i + 1) (by omega) (names ++ [s.extract frm i]) (i + 1) (Nat.le_refl _) (by rw [List.length_append, List.length_singleton]; omega)
    ·rw [if_pos hz] at hR
     rw [if_neg hz, hR]; rfl
  ·rw [if_pos hb] at hR
   have hb2 : (bt s (i : Int) != 47) = true := by simp [hb]
   rw [if_pos hb2, hw, hR]
   exact refSplit_loop s hs m (i + 1) (by omega) names frm (by omega) hn
theorem refSplit (s : ByteArray) (hs : s.size ≤ 4611686018427387904) : depotref05_Split.f (2 * s.size + 4) s = some (splitP s) := by
 unfold depotref05_Split.f splitP
 by_cases h : s.toList = []
 ·rw [if_pos h, if_pos h]
 ·rw [if_neg h, if_neg h]
  exact refSplit_loop s hs s.size 0 (by omega) [] 0 (Nat.le_refl _) (Nat.zero_le _)
theorem split_k (s : ByteArray) (hs : s.size ≤ 1048576) {k : Nat} (hk : 8000000 ≤ k) : depotref05_Split.f k s = some (splitP s) :=
 up_le (fun k => depotref05_Split.mono s k) (refSplit s (by omega)) (by omega)
theorem text_eqs {a b : ByteArray} (h : a.toList = b.toList) : a = b := by
 rw [Lib.toList_data, Lib.toList_data] at h
 cases a; cases b
 simp only at h
 congr
 exact Array.ext' h
theorem rdOf_at {xs : List ByteArray} {i : Nat} (h : i < xs.length) : rdOf ByteArray.empty xs (i : Int) = xs[i] := by simp [rdOf, h]
theorem begins_loop (a b : List ByteArray) (hl : b.length ≤ a.length) (hb : b.length ≤ 1000) : ∀ (d i k : Nat), b.length - i = d → i ≤ b.length → d < k → a.take i = b.take i → depotref06_begins.l0 k a b (i : Int) = some (decide (a.take b.length = b))
 | 0, i, k, hd, hi, hk, ht => by
  obtain ⟨k, rfl⟩ : ∃ q, k = q + 1 := ⟨k - 1, by omega⟩
  obtain rfl : i = b.length := by omega
  rw [depotref06_begins.l0, if_neg (by omega)]
  rw [List.take_of_length_le (Nat.le_refl b.length)] at ht
  rw [decide_eq_true ht]
 | d + 1, i, k, hd, hi, hk, ht => by
  obtain ⟨k, rfl⟩ : ∃ q, k = q + 1 := ⟨k - 1, by omega⟩
  have hi1 : i < b.length := by omega
  have hi2 : i < a.length := by omega
  rw [depotref06_begins.l0, if_pos (by omega), if_pos (by omega), if_pos (by omega), rdOf_at hi1, rdOf_at hi2]
  by_cases he : a[i].toList = b[i].toList
  ·rw [if_pos he, w64n (by omega) (by omega), show (i : Int) + 1 = ((i + 1 : Nat) : Int) from by omega]
   refine begins_loop a b hl hb d (i + 1) k (by omega) (by omega) (by omega) ?_
   rw [List.take_succ_eq_append_getElem hi1, List.take_succ_eq_append_getElem hi2, ht, text_eqs he]
  ·rw [if_neg he]
   rw [decide_eq_false (fun e => he ?_)]
   have : a[i] = b[i] := by
    have h1 : (a.take b.length)[i]? = b[i]? := by rw [e]
    rw [List.getElem?_take, if_pos hi1, List.getElem?_eq_getElem hi2, List.getElem?_eq_getElem hi1] at h1
    injection h1
   rw [this]
theorem begins_k (a b : List ByteArray) (hl : a.length = b.length + 1) (hb : b.length ≤ 1000) {k : Nat} (hk : 1001 < k) : depotref06_begins.f k a b = some (decide (a.dropLast = b)) := by
 unfold depotref06_begins.f
 rw [if_neg (by omega)]
 have h := begins_loop a b (by omega) hb b.length 0 k (by omega) (by omega) (by omega) rfl
 have e : a.dropLast = a.take b.length := by rw [List.dropLast_eq_take, hl]; rfl
 rw [e]
 exact h
theorem compare_k (a b : ByteArray) (ha : a.size ≤ 255) (hb : b.size ≤ 255) {k : Nat} (hk : 8000000 ≤ k) : ∃ c, depotref05_Compare.f k a b = some c ∧ (0 ≤ c ↔ ¬ cmpB a b < 0) := by
 obtain ⟨c, h1, h2⟩ := compare_E a b (by omega) (by omega) k (by omega)
 refine ⟨c, h1, h2.trans ?_⟩
 rw [nle_cmp]
 have := cmpB_neg a b
 omega
theorem gat_suffix : ∀ (f : Nat) (rest : List RowT) (dir : List ByteArray) (kids : List Ent), ∃ u, rest = u ++ (gat f rest dir kids).2
 | 0, rest, dir, kids => ⟨[], rfl⟩
 | f + 1, [], dir, kids => ⟨[], rfl⟩
 | f + 1, r :: rs, dir, kids => by
  unfold gat
  split
  ·exact ⟨[], rfl⟩
  split
  ·exact ⟨[], rfl⟩
  split
  ·exact ⟨[], rfl⟩
  split
  ·obtain ⟨u1, h1⟩ := gat_suffix f rs (splitP r.1).1 []
   obtain ⟨u2, h2⟩ := gat_suffix f (gat f rs (splitP r.1).1 []).2 dir (kids ++ [⟨lastN r, r.2.1, r.2.2.1, r.2.2.2, (gat f rs (splitP r.1).1 []).1⟩])
   refine ⟨r :: (u1 ++ u2), ?_⟩
   rw [List.cons_append, List.append_assoc, ← h2, ← h1]
  ·obtain ⟨u1, h1⟩ := gat_suffix f rs dir (kids ++ [leafX r (lastN r)])
   refine ⟨r :: u1, ?_⟩
   rw [List.cons_append, ← h1]
theorem lastLt_false {l : List Ent} {x : Ent} {s : ByteArray} (h : l[l.length - 1]? = some x) : lastLt l s = false ↔ ¬ cmpB x.f0 s < 0 := by
 unfold lastLt
 rw [List.getLast?_eq_getElem?, h]
 simp
theorem rd_row {us : List RowT} {i : Nat} (h : i < us.length) : rd_T29 (us.map rowR) (i : Int) = rowR us[i] := by simp [rd_T29, h]
theorem rd_ent {l : List Ent} {i : Nat} (h : i < l.length) : rd_T63 l (i : Int) = l[i] := by simp [rd_T63, h]
theorem own_k (r : RowT) (h : r.2.2.2.size ≤ 140737488351232) : depotref06_Own.f (rowR r).f1 (rowR r).f2 (rowR r).f3 [] = some (ownF r, if ownF r = 0 then rowS r else 0) := by
 unfold depotref06_Own.f
 rw [if_pos (by show r.2.2.2.size ≤ _; omega)]
 rfl
structure RowsIn (us : List RowT) : Prop where
 len : us.length ≤ 1048576
 txt : ∀ r, r ∈ us → r.1.size ≤ 1048576 ∧ r.2.2.2.size ≤ 140737488351232
set_option maxHeartbeats 1000000 in
theorem gather_ok (us : List RowT) (hin : RowsIn us) : ∀ (f i : Nat) (dir : List ByteArray) (kids : List Ent) (k : Nat), us.length - i ≤ f → i ≤ us.length → 8000000 + 4 * f + 4 ≤ k → dir.length ≤ 100 → kids.length ≤ i → (∀ x, x ∈ kids → x.f0.size ≤ 255) →
  depotref06_gather.l0 k (us.map rowR) (i : Int) dir kids = some ((gat f (us.drop i) dir kids).1, ((us.length - (gat f (us.drop i) dir kids).2.length : Nat) : Int)) := by
 intro f
 induction f with
 | zero =>
  intro i dir kids k hf hi hk hd hkl hkn
  obtain ⟨k, rfl⟩ : ∃ q, k = q + 1 := ⟨k - 1, by omega⟩
  obtain rfl : i = us.length := by omega
  rw [depotref06_gather.l0, List.length_map, if_neg (by omega), List.drop_of_length_le (Nat.le_refl _)]
  rfl
 | succ f ih =>
  intro i dir kids k hf hi hk hd hkl hkn
  have hlen := hin.len
  obtain ⟨k, rfl⟩ : ∃ q, k = q + 1 := ⟨k - 1, by omega⟩
  by_cases hlt : i < us.length
  ·have hdrop : us.drop i = us[i] :: us.drop (i + 1) := List.drop_eq_getElem_cons hlt
   have hrow := rd_row hlt
   have hmem : us[i] ∈ us := List.getElem_mem hlt
   obtain ⟨r, hr⟩ : ∃ r, r = us[i] := ⟨_, rfl⟩
   rw [← hr] at hdrop hrow hmem
   have ht := hin.txt r hmem
   have hnm := split_names r.1
   rw [hdrop, depotref06_gather.l0, List.length_map, if_pos (by omega), if_pos (by omega), hrow, show (rowR r).f0 = r.1 from rfl, split_k r.1 ht.1 (by omega)]
   simp only [Option.bind_some]
   have hlh : ((us.length - (r :: us.drop (i + 1)).length : Nat) : Int) = (i : Int) := by rw [← hdrop, List.length_drop]; omega
   obtain ⟨k, rfl⟩ : ∃ q, k = q + 1 := ⟨k - 1, by omega⟩
   have stop : depotref06_gather.j1 (k + 1) (us.map rowR) (i : Int) dir kids (splitP r.1).1 true = some (kids, ((us.length - (r :: us.drop (i + 1)).length : Nat) : Int)) := by rw [depotref06_gather.j1, if_pos rfl, hlh]
   unfold gat
   by_cases h1 : pathE r.1 = 0
   ·rw [if_pos (show (splitP r.1).2.1 = 0 from h1)]
    by_cases h2 : (splitP r.1).1.length = dir.length + 1
    ·rw [if_pos (by rw [w64n (by omega) (by omega), h2]; omega), begins_k _ _ h2 (by omega) (by omega)]
     simp only [Option.bind_some]
     by_cases h3 : (splitP r.1).1.dropLast = dir
     ·rw [decide_eq_true h3, if_neg (by simp only [not_or, Decidable.not_not]; exact ⟨h1, h2, h3⟩)]
      rw [depotref06_gather.j1, if_neg (by decide)]
      have hwl : wrap64 (((splitP r.1).1.length : Int) - 1) = ((dir.length : Nat) : Int) := by rw [h2, w64n (by omega) (by omega)]; omega
      have hne : (splitP r.1).1 ≠ [] := fun e => by rw [e] at h2; simp at h2
      have hlast : rdOf ByteArray.empty (splitP r.1).1 ((dir.length : Nat) : Int) = lastN r := by
       have h4 := last_lastN hne
       rw [List.getLast?_eq_getElem?, h2] at h4
       rw [rdOf_at (by omega)]
       exact (List.getElem?_eq_some_iff.1 h4).2
      have hln : (lastN r).size ≤ 255 := nameE_size (hnm.1 _ (List.mem_of_getLast? (last_lastN hne)))
      rw [hwl]
      clear hwl
      rw [if_pos (by omega), if_pos (by omega), hlast]
      obtain ⟨k, rfl⟩ : ∃ q, k = q + 1 := ⟨k - 1, by omega⟩
      have later : ∀ R, R = (if ownF r ≠ 0 then (kids, r :: us.drop (i + 1)) else if r.2.1 = 3 then gat f (gat f (us.drop (i + 1)) (splitP r.1).1 []).2 dir (kids ++ [⟨lastN r, r.2.1, r.2.2.1, r.2.2.2, (gat f (us.drop (i + 1)) (splitP r.1).1 []).1⟩]) else gat f (us.drop (i + 1)) dir (kids ++ [leafX r (lastN r)])) → lastLt kids (lastN r) = true → depotref06_gather.j2 (k + 1) (us.map rowR) (i : Int) dir kids (splitP r.1).1 (lastN r) false = some (R.1, ((us.length - R.2.length : Nat) : Int)) := by
       intro R hR hlt2
       rw [depotref06_gather.j2, if_neg (by decide), List.length_map, if_pos (by omega), if_pos (by omega), hrow, own_k r ht.2]
       simp only [Option.bind_some]
       by_cases h4 : ownF r = 0
       ·rw [if_pos h4]
        rw [if_neg (show ¬ ownF r ≠ 0 from fun e => e h4)] at hR
        have hwi : wrap64 ((i : Int) + 1) = ((i + 1 : Nat) : Int) := by rw [w64n (by omega) (by omega)]; omega
        rw [hwi]
        clear hwi
        have hwj : wrap64 (((i + 1 : Nat) : Int) - 1) = (i : Int) := by rw [w64n (by omega) (by omega)]; omega
        rw [hwj]
        clear hwj
        rw [if_pos (by omega), if_pos (by omega), hrow]
        have hkids : ∀ (e : Ent), e.f0 = lastN r → ∀ x, x ∈ kids ++ [e] → x.f0.size ≤ 255 := fun e he x hx => by
         rcases List.mem_append.1 hx with hx | hx
         ·exact hkn x hx
         ·rw [List.mem_singleton] at hx; rw [hx, he]; exact hln
        by_cases h5 : r.2.1 = 3
        ·rw [if_pos (show (rowR r).f1 = 3 from h5)]
         rw [if_pos h5] at hR
         obtain ⟨k, rfl⟩ : ∃ q, k = q + 1 := ⟨k - 1, by omega⟩
         rw [depotref06_gather.f, ih (i + 1) (splitP r.1).1 [] k (by omega) (by omega) (by omega) (by omega) (by simp) (by simp)]
         simp only [Option.bind_some]
         obtain ⟨u, hu⟩ := gat_suffix f (us.drop (i + 1)) (splitP r.1).1 []
         obtain ⟨o1, o2, ho⟩ : ∃ o1 o2, gat f (us.drop (i + 1)) (splitP r.1).1 [] = (o1, o2) := ⟨_, _, rfl⟩
         rw [ho] at hu hR ⊢
         simp only at hu hR ⊢
         have hlu : us.length - (i + 1) = u.length + o2.length := by have := congrArg List.length hu; rw [List.length_drop, List.length_append] at this; exact this
         have hd2 : us.drop (us.length - o2.length) = o2 := by
          rw [show us.length - o2.length = i + 1 + u.length from by omega, ← List.drop_drop, hu, List.drop_left]
         rw [if_pos (by omega)]
         have := ih (us.length - o2.length) dir (kids ++ [⟨lastN r, r.2.1, r.2.2.1, r.2.2.2, o1⟩]) (k + 1) (by omega) (by omega) (by omega) hd (by rw [List.length_append, List.length_singleton]; omega) (hkids _ rfl)
         rw [hd2] at this
         rw [hR]
         exact this
        ·rw [if_neg (show ¬ (rowR r).f1 = 3 from h5), if_pos (by omega)]
         rw [if_neg h5] at hR
         rw [hR]
         exact ih (i + 1) dir (kids ++ [leafX r (lastN r)]) k (by omega) (by omega) (by omega) hd (by rw [List.length_append, List.length_singleton]; omega) (hkids _ rfl)
       ·rw [if_neg h4]
        rw [if_pos (show ownF r ≠ 0 from h4)] at hR
        rw [hR, hlh]
      by_cases hk0 : kids.length = 0
      ·rw [if_neg (by omega)]
       have hlt2 : lastLt kids (lastN r) = true := by rw [List.length_eq_zero_iff.1 hk0]; rfl
       rw [if_neg (show ¬ lastLt kids (lastN r) = false by rw [hlt2]; decide)]
       exact later _ rfl hlt2
      ·have hwk : wrap64 ((kids.length : Int) - 1) = ((kids.length - 1 : Nat) : Int) := by rw [w64n (by omega) (by omega)]; omega
       have hkk : kids.length - 1 < kids.length := by omega
       rw [hwk]
       clear hwk
       rw [if_pos (by omega), if_pos (by omega), if_pos (by omega), rd_ent hkk]
       obtain ⟨c, hc1, hc2⟩ := compare_k (kids[kids.length - 1]).f0 (lastN r) (hkn _ (List.getElem_mem hkk)) hln (k := k + 1) (by omega)
       rw [hc1]
       simp only [Option.bind_some]
       have hll := lastLt_false (s := lastN r) (List.getElem?_eq_getElem hkk)
       by_cases h6 : lastLt kids (lastN r) = false
       ·rw [if_pos h6, decide_eq_true (show c ≥ 0 from hc2.2 (hll.1 h6)), depotref06_gather.j2, if_pos rfl, hlh]
       ·rw [if_neg h6, decide_eq_false (show ¬ c ≥ 0 from fun e => h6 (hll.2 (hc2.1 e)))]
        exact later _ rfl (by simpa using h6)
     ·rw [decide_eq_false h3, if_pos (Or.inr (Or.inr h3))]
      exact stop
    ·rw [if_neg (by rw [w64n (by omega) (by omega)]; omega), if_pos (Or.inr (Or.inl h2))]
     exact stop
   ·rw [if_neg (show ¬ (splitP r.1).2.1 = 0 from h1), if_pos (Or.inl h1)]
    exact stop
  ·obtain rfl : i = us.length := by omega
   rw [depotref06_gather.l0, List.length_map, if_neg (by omega), List.drop_of_length_le (Nat.le_refl _)]
   rfl
theorem fits_ok (us : List RowT) (hin : RowsIn us) (hown : ∀ r, r ∈ us → ownF r = 0) : ∀ (d i k : Nat) (b : Int), us.length - i = d → i ≤ us.length → 8000000 + d < k → 0 ≤ b → b ≤ 1048576 →
  depotref06_fits.l0 k (us.map rowR) b (i : Int) = some ((i + fitsL (us.drop i) b : Nat) : Int) := by
 intro d
 induction d with
 | zero =>
  intro i k b hd hi hk hb0 hb1
  obtain ⟨k, rfl⟩ : ∃ q, k = q + 1 := ⟨k - 1, by omega⟩
  obtain rfl : i = us.length := by omega
  rw [depotref06_fits.l0, List.length_map, if_neg (by omega), List.drop_of_length_le (Nat.le_refl _)]
  rfl
 | succ d ih =>
  intro i k b hd hi hk hb0 hb1
  have hlen := hin.len
  obtain ⟨k, rfl⟩ : ∃ q, k = q + 1 := ⟨k - 1, by omega⟩
  have hlt : i < us.length := by omega
  have hdrop : us.drop i = us[i] :: us.drop (i + 1) := List.drop_eq_getElem_cons hlt
  have hrow := rd_row hlt
  have hmem : us[i] ∈ us := List.getElem_mem hlt
  obtain ⟨r, hr⟩ : ∃ r, r = us[i] := ⟨_, rfl⟩
  rw [← hr] at hdrop hrow hmem
  have ht := hin.txt r hmem
  have hnm := split_names r.1
  have hrs := ownS_range r.2.1 r.2.2.1 r.2.2.2
  have hrs2 : 0 ≤ rowS r ∧ rowS r ≤ 10000000000000 := hrs
  have HWI : Aside0 (wrap64 ((i : Int) + 1) = ((i + 1 : Nat) : Int)) := ⟨by rw [w64n (by omega) (by omega)]; omega⟩
  rw [hdrop, depotref06_fits.l0, List.length_map, if_pos (by omega), if_pos (by omega), hrow, own_k r ht.2]
  simp only [Option.bind_some]
  rw [if_pos (hown r hmem), show (rowR r).f0 = r.1 from rfl, split_k r.1 ht.1 (by omega)]
  simp only [Option.bind_some]
  unfold fitsL
  by_cases h1 : (splitP r.1).1 = []
  ·have hrb : rowB r = rowS r := by
    unfold rowB
    rw [h1]
    show _ + (0 : Int) = _
    omega
   rw [h1, hrb, if_neg (by simp), w64n (i := b + rowS r) (by omega) (by omega)]
   by_cases h2 : b + rowS r > 1048576
   ·rw [if_pos h2, if_pos h2]; rfl
   ·rw [if_neg h2, if_neg h2, HWI.out, ih (i + 1) k (b + rowS r) (by omega) (by omega) (by omega) (by omega) (by omega)]
    congr 2
    omega
  ·have hz := last_lastN h1
   have hpos : 0 < (splitP r.1).1.length := List.length_pos_iff.2 h1
   have hes := entS_range (lastN r)
   have hrb : rowB r = rowS r + entS (lastN r) := by unfold rowB; rw [hz]
   have hwl : wrap64 (((splitP r.1).1.length : Int) - 1) = (((splitP r.1).1.length - 1 : Nat) : Int) := by rw [w64n (by omega) (by omega)]; omega
   have hlast : rdOf ByteArray.empty (splitP r.1).1 (((splitP r.1).1.length - 1 : Nat) : Int) = lastN r := by
    rw [List.getLast?_eq_getElem?] at hz
    rw [rdOf_at (by omega)]
    exact (List.getElem?_eq_some_iff.1 hz).2
   rw [hwl]
   clear hwl
   rw [if_pos (by omega), if_pos (by omega), if_pos (by omega), hlast]
   unfold depotref06_Entry.f
   simp only [Option.bind_some]
   rw [w64n (i := b + rowS r) (by omega) (by omega), w64n (i := b + rowS r + entS (lastN r)) (by omega) (by omega), hrb, ← Int.add_assoc]
   by_cases h2 : b + rowS r + entS (lastN r) > 1048576
   ·rw [if_pos h2, if_pos h2]; rfl
   ·rw [if_neg h2, if_neg h2, HWI.out, ih (i + 1) k (b + rowS r + entS (lastN r)) (by omega) (by omega) (by omega) (by omega) (by omega)]
    congr 2
    omega
theorem st_own : ∀ (used : List RowT) (s s2 : BSt), stS used s = some s2 → ∀ r, r ∈ used → ownF r = 0
 | [], s, s2, h, r, hr => by cases hr
 | q :: used, s, s2, h, r, hr => by
  unfold stS at h
  cases hs : stepS s q with
  | none => rw [hs] at h; cases h
  | some s1 =>
   rw [hs] at h
   rcases List.mem_cons.1 hr with rfl | hr
   ·unfold stepS at hs
    split at hs
    ·cases hs
    ·rename_i hq
     simp only [not_or, Decidable.not_not] at hq
     exact hq.2
   ·exact st_own used s1 s2 h r hr
theorem fits_k (us : List RowT) (hin : RowsIn us) (hown : ∀ r, r ∈ us → ownF r = 0) {k : Nat} (hk : 10000000 ≤ k) : depotref06_fits.f k (us.map rowR) = some ((fitsL us 24 : Nat) : Int) := by
 unfold depotref06_fits.f depotref06_Magic.f
 simp only [Option.bind_some]
 rw [magS_eq]
 have h := fits_ok us hin hown us.length 0 k 24 (by omega) (Nat.zero_le _) (by have := hin.len; omega) (by decide) (by decide)
 rw [List.drop_zero, Nat.zero_add] at h
 exact h
end Go.Proofs.YtnemeeidomceiaaDoor.PGTreeGets
end
section
namespace Go.Proofs.YtnemeeidomceiaaDoor
open Go.RowKit Go.Proofs.YtnemeeidomceiaaDoorW.PrintWords
set_option linter.unusedVariables false
set_option linter.unusedSimpArgs false
abbrev NRow := List ByteArray × Int × Bool × ByteArray
def nrows : Nat → List ByteArray → Ent → List NRow
 | 0, _, _ => []
 | g + 1, pre, x => (pre, x.f1, x.f2, x.f3) :: x.f4.flatMap (fun y => nrows g (pre ++ [y.f0]) y)
def toRow (q : NRow) : RowT := (joinP 32 ⟨#[]⟩ q.1, q.2)
theorem trows_n : ∀ (g : Nat) (pre : List ByteArray) (x : Ent), pre.length + g = 32 → trows g (joinP 32 ⟨#[]⟩ pre) x = (nrows g pre x).map toRow
 | 0, pre, x, h => rfl
 | g + 1, pre, x, h => by
  show _ :: x.f4.flatMap (fun y => trows g (belowP (joinP 32 ⟨#[]⟩ pre) y.f0 (32 - (g : Int))) y) = (_ :: x.f4.flatMap (fun y => nrows g (pre ++ [y.f0]) y)).map toRow
  rw [List.map_cons, List.map_flatMap]
  congr 1
  have he : ∀ y : Ent, belowP (joinP 32 ⟨#[]⟩ pre) y.f0 (32 - (g : Int)) = joinP 32 ⟨#[]⟩ (pre ++ [y.f0]) := fun y => by
   have h32 : 32 = pre.length + g + 1 := by omega
   rw [h32]
   exact (joinP_snoc pre.length g _ pre y.f0 rfl).symm
  congr 1
  funext y
  rw [he y]
  exact trows_n g (pre ++ [y.f0]) y (by rw [List.length_append, List.length_singleton]; omega)
theorem nrows_pre : ∀ (g : Nat) (pre : List ByteArray) (x : Ent) (r : NRow), r ∈ nrows g pre x → pre <+: r.1
 | 0, pre, x, r, h => by cases h
 | g + 1, pre, x, r, h => by
  have h' : r ∈ (pre, x.f1, x.f2, x.f3) :: x.f4.flatMap (fun y => nrows g (pre ++ [y.f0]) y) := h
  rcases List.mem_cons.1 h' with rfl | h'
  ·exact List.prefix_refl _
  ·obtain ⟨y, _, hr⟩ := List.mem_flatMap.1 h'
   exact (List.prefix_append pre [y.f0]).trans (nrows_pre g (pre ++ [y.f0]) y r hr)
theorem nrows_names : ∀ (g : Nat) (pre : List ByteArray) (x : Ent) (r : NRow), wf g x → (∀ s, s ∈ pre → nameE s = 0) → r ∈ nrows g pre x → (∀ s, s ∈ r.1 → nameE s = 0) ∧ r.1.length + 1 ≤ pre.length + g
 | 0, pre, x, r, hw, hp, h => by cases h
 | g + 1, pre, x, r, hw, hp, h => by
  have h' : r ∈ (pre, x.f1, x.f2, x.f3) :: x.f4.flatMap (fun y => nrows g (pre ++ [y.f0]) y) := h
  rcases List.mem_cons.1 h' with rfl | h'
  ·exact ⟨hp, by simp⟩
  ·obtain ⟨y, hy, hr⟩ := List.mem_flatMap.1 h'
   obtain ⟨a, b⟩ := nrows_names g (pre ++ [y.f0]) y r (hw.2.2.2 y hy) (fun s hs => by
    rcases List.mem_append.1 hs with hs | hs
    ·exact hp s hs
    ·rw [List.mem_singleton] at hs; rw [hs]; exact hw.2.1 y hy) hr
   rw [List.length_append, List.length_singleton] at b
   exact ⟨a, by omega⟩
def atN : List ByteArray → Ent → Option Ent
 | [], x => some x
 | s :: q, x => (look x.f4 s).bind (atN q)
theorem atN_snoc : ∀ (p : List ByteArray) (s : ByteArray) (x : Ent), atN (p ++ [s]) x = (atN p x).bind (fun y => look y.f4 s)
 | [], s, x => by
  show (look x.f4 s).bind (atN []) = look x.f4 s
  cases look x.f4 s <;> rfl
 | t :: p, s, x => by
  show (look x.f4 t).bind (atN (p ++ [s])) = ((look x.f4 t).bind (atN p)).bind _
  cases look x.f4 t with
  | none => rfl
  | some y => exact atN_snoc p s y
theorem look_split {l : List Ent} {s : ByteArray} {y : Ent} (h : Rising l) (hl : look l s = some y) : ∃ l1 l2, l = l1 ++ y :: l2 ∧ l1.length = rk l s ∧ y.f0 = s ∧ (∀ z, z ∈ l1 → z.f0 ≠ s) ∧ (∀ z, z ∈ l2 → z.f0 ≠ s) := by
 obtain ⟨hh, hi⟩ := look_at hl
 obtain ⟨hm, hs⟩ := (look_iff' h).1 hl
 obtain ⟨hlt, he⟩ := List.getElem?_eq_some_iff.1 hi
 have hsp : l = l.take (rk l s) ++ y :: l.drop (rk l s + 1) := by
  conv => lhs; rw [← List.take_append_drop (rk l s) l, List.drop_eq_getElem_cons hlt, he]
 refine ⟨l.take (rk l s), l.drop (rk l s + 1), hsp, by rw [List.length_take]; omega, hs, fun z hz e => ?_, fun z hz e => ?_⟩
 ·have h2 := h
  unfold Rising at h2
  rw [hsp] at h2
  have := (List.pairwise_append.1 h2).2.2 z hz y List.mem_cons_self
  rw [e, ← hs, cmpB_self] at this
  omega
 ·have h2 := h
  unfold Rising at h2
  rw [hsp] at h2
  have := (List.pairwise_cons.1 (List.pairwise_append.1 h2).2.1).1 z hz
  rw [e, ← hs, cmpB_self] at this
  omega
theorem pre_other {pre q : List ByteArray} {s t : ByteArray} {r : List ByteArray} (h1 : (pre ++ [t]) <+: r) (hne : t ≠ s) : ¬ (pre ++ s :: q) <+: r := fun h2 => by
 have h3 : (pre ++ [s]) <+: r := List.IsPrefix.trans ⟨q, by rw [List.append_assoc]; rfl⟩ h2
 have h4 : pre ++ [t] = pre ++ [s] := by
  rcases List.prefix_or_prefix_of_prefix h1 h3 with h | h
  ·exact h.eq_of_length (by simp)
  ·exact (h.eq_of_length (by simp)).symm
 have h5 := List.append_cancel_left h4
 injection h5 with h5
 exact hne h5
theorem pre_self {pre q : List ByteArray} {s : ByteArray} : ¬ (pre ++ s :: q) <+: pre := fun h => by
 have := h.length_le
 rw [List.length_append, List.length_cons] at this
 omega
structure BlockAt (g : Nat) (pre q : List ByteArray) (x y : Ent) (A C : List NRow) (g2 : Nat) : Prop where
 deep : g = g2 + q.length
 wfy : wf g2 y
 size : tsz g2 y ≤ tsz g x
 rows : nrows g pre x = A ++ (nrows g2 (pre ++ q) y ++ C)
 left : ∀ r, r ∈ A → ¬ (pre ++ q) <+: r.1
 right : ∀ r, r ∈ C → ¬ (pre ++ q) <+: r.1
theorem block_at : ∀ (q : List ByteArray) (g : Nat) (pre : List ByteArray) (x : Ent), wf g x →
  (∀ y, atN q x = some y → ∃ A C g2, BlockAt g pre q x y A C g2) ∧ (atN q x = none → ∀ r, r ∈ nrows g pre x → ¬ (pre ++ q) <+: r.1)
 | [], g, pre, x, hw => by
  refine ⟨fun y hy => ?_, fun h => by cases h⟩
  injection hy with hy
  subst hy
  exact ⟨[], [], g, rfl, hw, Int.le_refl _, by rw [List.append_nil, List.append_nil]; rfl, (by simp), (by simp)⟩
 | s :: q, 0, pre, x, hw => hw.elim
 | s :: q, g + 1, pre, x, hw => by
  obtain ⟨w1, w2, w3, w4⟩ := hw
  have hrows : nrows (g + 1) pre x = (pre, x.f1, x.f2, x.f3) :: x.f4.flatMap (fun y => nrows g (pre ++ [y.f0]) y) := rfl
  have hoth : ∀ (l : List Ent), (∀ z, z ∈ l → z.f0 ≠ s) → ∀ r, r ∈ l.flatMap (fun y => nrows g (pre ++ [y.f0]) y) → ¬ (pre ++ s :: q) <+: r.1 := fun l hl r hr => by
   obtain ⟨z, hz, hrz⟩ := List.mem_flatMap.1 hr
   exact pre_other (nrows_pre g _ z r hrz) (hl z hz)
  cases hl : look x.f4 s with
  | none =>
   have hn := (look_none w3).1 hl
   refine ⟨fun y hy => ?_, fun _ r hr => ?_⟩
   ·have : (look x.f4 s).bind (atN q) = some y := hy
    rw [hl] at this; cases this
   ·rw [hrows] at hr
    rcases List.mem_cons.1 hr with rfl | hr
    ·exact pre_self
    ·exact hoth _ hn r hr
  | some z =>
   obtain ⟨l1, l2, hsp, _, hzs, ho1, ho2⟩ := look_split w3 hl
   have hzm : z ∈ x.f4 := by rw [hsp]; simp
   have hfm : x.f4.flatMap (fun y => nrows g (pre ++ [y.f0]) y) = l1.flatMap (fun y => nrows g (pre ++ [y.f0]) y) ++ (nrows g (pre ++ [s]) z ++ l2.flatMap (fun y => nrows g (pre ++ [y.f0]) y)) := by
    rw [hsp, List.flatMap_append, List.flatMap_cons, hzs]
   have happ : (pre ++ [s]) ++ q = pre ++ s :: q := by rw [List.append_assoc]; rfl
   obtain ⟨i1, i2⟩ := block_at q g (pre ++ [s]) z (w4 z hzm)
   have hat : atN (s :: q) x = atN q z := by show (look x.f4 s).bind (atN q) = _; rw [hl]; rfl
   rw [happ] at i2
   refine ⟨fun y hy => ?_, fun hn r hr => ?_⟩
   ·rw [hat] at hy
    obtain ⟨A, C, g2, b⟩ := i1 y hy
    have bl := b.left
    have br := b.right
    have bw := b.rows
    rw [happ] at bl br bw
    refine ⟨(pre, x.f1, x.f2, x.f3) :: (l1.flatMap (fun y => nrows g (pre ++ [y.f0]) y) ++ A), C ++ l2.flatMap (fun y => nrows g (pre ++ [y.f0]) y), g2, ?_, b.wfy, ?_, ?_, fun r hr => ?_, fun r hr => ?_⟩
    ·have := b.deep; rw [List.length_cons]; omega
    ·have h1 := b.size
     have h2 := ksz_mem g x.f4 z hzm
     have h3 := own_pos x.f1 x.f2 x.f3
     show _ ≤ ownS x.f1 x.f2 x.f3 + ksz g x.f4
     omega
    ·rw [hrows, hfm, bw]
     simp only [List.cons_append, List.append_assoc]
    ·rcases List.mem_cons.1 hr with rfl | hr
     ·exact pre_self
     ·rcases List.mem_append.1 hr with hr | hr
      ·exact hoth l1 ho1 r hr
      ·exact bl r hr
    ·rcases List.mem_append.1 hr with hr | hr
     ·exact br r hr
     ·exact hoth l2 ho2 r hr
   ·rw [hat] at hn
    rw [hrows, hfm] at hr
    rcases List.mem_cons.1 hr with rfl | hr
    ·exact pre_self
    ·rcases List.mem_append.1 hr with hr | hr
     ·exact hoth l1 ho1 r hr
     ·rcases List.mem_append.1 hr with hr | hr
      ·exact i2 hn r hr
      ·exact hoth l2 ho2 r hr
def wayR : List ByteArray → Ent → Int
 | [], _ => 0
 | s :: q, x => if x.f1 ≠ 3 then 65 else match look x.f4 s with
  | none => if q = [] then 0 else 3
  | some y => wayR q y
theorem wayR_cons (s : ByteArray) (q : List ByteArray) (x : Ent) : wayR (s :: q) x = if x.f1 ≠ 3 then 65 else match look x.f4 s with
  | none => if q = [] then 0 else 3
  | some y => wayR q y := rfl
theorem atN_cons (s : ByteArray) (q : List ByteArray) (x : Ent) : atN (s :: q) x = (look x.f4 s).bind (atN q) := rfl
theorem get_way : ∀ (q : List ByteArray) (x : Ent), getN q (nodeOf x) = if wayR q x ≠ 0 then (zeroT, wayR q x) else match atN q x with
  | none => (zeroT, 3)
  | some y => (nodeOf y, 0)
 | [], x => rfl
 | s :: q, x => by
  by_cases h3 : x.f1 = 3
  ·have hn : nodeOf x = (3, x.f2, x.f3, x.f4) := by show (x.f1, _) = _; rw [h3]
   rw [hn, getN_step, wayR_cons, atN_cons, if_neg (show ¬ x.f1 ≠ 3 from fun e => e h3)]
   cases hl : look x.f4 s with
   | none =>
    by_cases hq : q = []
    ·simp [hq]
    ·simp [hq]
   | some y => exact get_way q y
  ·have e1 : getN (s :: q) (nodeOf x) = (zeroT, 65) := by unfold getN; rw [if_pos (show (nodeOf x).1 ≠ 3 from h3)]
   have e2 : wayR (s :: q) x = 65 := by unfold wayR; rw [if_pos h3]
   rw [e1, e2, if_pos (by decide)]
theorem cut_way : ∀ (q : List ByteArray) (nm : ByteArray) (k : Int) (e : Bool) (t : ByteArray) (l : List Ent), q ≠ [] → Rising l → AllR l →
  (chN cutAct q k l).2 = if wayR q ⟨nm, k, e, t, l⟩ ≠ 0 then wayR q ⟨nm, k, e, t, l⟩ else match atN q ⟨nm, k, e, t, l⟩ with
   | none => 3
   | some _ => 0
 | [], nm, k, e, t, l, hq, hR, hA => absurd rfl hq
 | s :: q, nm, k, e, t, l, hq, hR, hA => by
  by_cases h3 : k = 3
  ·subst h3
   rw [wayR_cons, atN_cons]
   show _ = if (if (3 : Int) ≠ 3 then (65 : Int) else match look l s with | none => if q = [] then (0 : Int) else 3 | some y => wayR q y) ≠ 0 then (if (3 : Int) ≠ 3 then (65 : Int) else match look l s with | none => if q = [] then (0 : Int) else 3 | some y => wayR q y) else match (look l s).bind (atN q) with | none => (3 : Int) | some _ => 0
   rw [if_neg (show ¬ (3 : Int) ≠ 3 by decide)]
   by_cases h0 : q = []
   ·subst h0
    have e1 : chN cutAct [s] 3 l = if (cutAct l (rk l s) (hasN l s) s).2 ≠ 0 then ([], (cutAct l (rk l s) (hasN l s) s).2) else ((cutAct l (rk l s) (hasN l s) s).1, 0) := by
     unfold chN
     rw [if_neg (by decide), if_pos rfl]
    rw [e1]
    cases hl : look l s with
    | none =>
     have hh : ¬ hasN l s = true := fun hh => by
      unfold look at hl
      rw [if_pos hh] at hl
      obtain ⟨y, hy, _⟩ := hasN_at hh
      rw [hy] at hl; cases hl
     rw [cutAct_no hh]
     simp
    | some y =>
     rw [cutAct_yes (look_at hl).1]
     simp [wayR, atN]
   ·cases hl : look l s with
    | none =>
     rw [chN_lost cutAct h0 hl]
     simp [h0]
    | some y =>
     rw [chN_deep cutAct h0 hl hR]
     have hAy := hA.look hl
     have ih := cut_way q y.f0 y.f1 y.f2 y.f3 y.f4 h0 hAy.rises.1 hAy
     have hy : (⟨y.f0, y.f1, y.f2, y.f3, y.f4⟩ : Ent) = y := by cases y; rfl
     rw [hy] at ih
     show (if (chN cutAct q y.f1 y.f4).2 ≠ 0 then (([] : List Ent), (chN cutAct q y.f1 y.f4).2) else _).2 = if wayR q y ≠ 0 then wayR q y else match atN q y with | none => 3 | some _ => 0
     rw [← ih]
     by_cases hc : (chN cutAct q y.f1 y.f4).2 = 0
     ·rw [if_neg (fun e => e hc), hc]
     ·rw [if_pos hc]
  ·have e1 : chN cutAct (s :: q) k l = ([], 65) := by unfold chN; rw [if_pos h3]
   have e2 : wayR (s :: q) ⟨nm, k, e, t, l⟩ = 65 := by unfold wayR; rw [if_pos h3]
   rw [e1, e2, if_pos (by decide)]
theorem cut_rows : ∀ (q : List ByteArray) (g : Nat) (pre : List ByteArray) (nm : ByteArray) (k : Int) (e : Bool) (t : ByteArray) (l l3 : List Ent), q ≠ [] → wf g ⟨nm, k, e, t, l⟩ → chN cutAct q k l = (l3, 0) →
  nrows g pre ⟨nm, k, e, t, l3⟩ = (nrows g pre ⟨nm, k, e, t, l⟩).filter (fun r => decide (¬ (pre ++ q) <+: r.1))
 | [], g, pre, nm, k, e, t, l, l3, hq, hw, hc => absurd rfl hq
 | s :: q, 0, pre, nm, k, e, t, l, l3, hq, hw, hc => hw.elim
 | s :: q, g + 1, pre, nm, k, e, t, l, l3, hq, hw, hc => by
  obtain ⟨w1, w2, w3, w4⟩ := hw
  have w3' : Rising l := w3
  have hrows : ∀ m : List Ent, nrows (g + 1) pre ⟨nm, k, e, t, m⟩ = (pre, k, e, t) :: m.flatMap (fun y => nrows g (pre ++ [y.f0]) y) := fun m => rfl
  have hkeep : ∀ (m : List Ent), (∀ z, z ∈ m → z.f0 ≠ s) → (m.flatMap (fun y => nrows g (pre ++ [y.f0]) y)).filter (fun r => decide (¬ (pre ++ s :: q) <+: r.1)) = m.flatMap (fun y => nrows g (pre ++ [y.f0]) y) := fun m hm => by
   refine List.filter_eq_self.2 (fun r hr => decide_eq_true ?_)
   obtain ⟨z, hz, hrz⟩ := List.mem_flatMap.1 hr
   exact pre_other (nrows_pre g _ z r hrz) (hm z hz)
  have h3 : k = 3 := by
   refine Decidable.of_not_not (fun h => ?_)
   unfold chN at hc
   rw [if_pos h] at hc
   injection hc with _ hc
   cases hc
  subst h3
  rw [hrows, hrows, List.filter_cons_of_pos (by exact decide_eq_true pre_self)]
  congr 1
  cases hl : look l s with
  | none =>
   exfalso
   by_cases h0 : q = []
   ·subst h0
    have hh : ¬ hasN l s = true := fun hh => by
     unfold look at hl
     rw [if_pos hh] at hl
     obtain ⟨y, hy, _⟩ := hasN_at hh
     rw [hy] at hl; cases hl
    unfold chN at hc
    rw [if_neg (by decide), if_pos rfl, cutAct_no hh, if_pos (show (l, (3 : Int)).2 ≠ 0 from (by decide : (3 : Int) ≠ 0))] at hc
    injection hc with _ hc
    cases hc
   ·rw [chN_lost cutAct h0 hl] at hc
    injection hc with _ hc
    cases hc
  | some z =>
   obtain ⟨l1, l2, hsp, hrk, hzs, ho1, ho2⟩ := look_split w3' hl
   have hzm : z ∈ l := by rw [hsp]; simp
   have happ : (pre ++ [s]) ++ q = pre ++ s :: q := by rw [List.append_assoc]; rfl
   have hfm : l.flatMap (fun y => nrows g (pre ++ [y.f0]) y) = l1.flatMap (fun y => nrows g (pre ++ [y.f0]) y) ++ (nrows g (pre ++ [s]) z ++ l2.flatMap (fun y => nrows g (pre ++ [y.f0]) y)) := by
    conv => lhs; rw [hsp]
    rw [List.flatMap_append, List.flatMap_cons, hzs]
   rw [hfm, List.filter_append, List.filter_append, hkeep l1 ho1, hkeep l2 ho2]
   by_cases h0 : q = []
   ·subst h0
    unfold chN at hc
    rw [if_neg (by decide), if_pos rfl, cutAct_yes (look_at hl).1, if_neg (show ¬ (cut1 l s, (0 : Int)).2 ≠ 0 from fun h => h rfl)] at hc
    injection hc with hc _
    have hcut : cut1 l s = l1 ++ l2 := by
     unfold cut1
     rw [← hrk]
     conv => lhs; rw [hsp]
     rw [List.eraseIdx_append_of_length_le (Nat.le_refl _), Nat.sub_self]
     rfl
    have hnone : (nrows g (pre ++ [s]) z).filter (fun r => decide (¬ (pre ++ [s]) <+: r.1)) = [] := by
     refine List.filter_eq_nil_iff.2 (fun r hr => ?_)
     simp [nrows_pre g _ z r hr]
    rw [← hc, hcut, List.flatMap_append, hnone, List.nil_append]
   ·rw [chN_deep cutAct h0 hl w3'] at hc
    by_cases hc2 : (chN cutAct q z.f1 z.f4).2 = 0
    ·rw [if_neg (fun e => e hc2)] at hc
     injection hc with hc _
     rw [put1_at _ hl w3', ← hrk] at hc
     have hze : (⟨z.f0, z.f1, z.f2, z.f3, z.f4⟩ : Ent) = z := by cases z; rfl
     have ih := cut_rows q g (pre ++ [s]) z.f0 z.f1 z.f2 z.f3 z.f4 (chN cutAct q z.f1 z.f4).1 h0 (by rw [hze]; exact w4 z hzm) (by rw [← hc2])
     rw [happ, hze] at ih
     have hset : l3 = l1 ++ ({ z with f4 := (chN cutAct q z.f1 z.f4).1 } : Ent) :: l2 := by
      rw [← hc]
      conv => lhs; rw [hsp]
      rw [List.set_append_right _ _ (Nat.le_refl _), Nat.sub_self]
      rfl
     rw [hset, List.flatMap_append, List.flatMap_cons]
     congr 1
     congr 1
     show nrows g (pre ++ [z.f0]) { z with f4 := (chN cutAct q z.f1 z.f4).1 } = _
     have e5 : pre ++ [z.f0] = pre ++ [s] := by rw [hzs]
     rw [e5]
     exact ih
    ·rw [if_pos hc2] at hc
     injection hc with _ hc
     exact absurd hc hc2
theorem nrows_drop : ∀ (g : Nat) (p pre : List ByteArray) (x : Ent), (nrows g (p ++ pre) x).map (fun r => (r.1.drop p.length, r.2)) = nrows g pre x
 | 0, p, pre, x => rfl
 | g + 1, p, pre, x => by
  show ((p ++ pre, x.f1, x.f2, x.f3) :: x.f4.flatMap (fun y => nrows g ((p ++ pre) ++ [y.f0]) y)).map _ = (pre, x.f1, x.f2, x.f3) :: x.f4.flatMap (fun y => nrows g (pre ++ [y.f0]) y)
  rw [List.map_cons, List.map_flatMap, List.drop_left]
  congr 1
  congr 1
  funext y
  rw [List.append_assoc]
  exact nrows_drop g p (pre ++ [y.f0]) y
theorem wf_up : ∀ (g h : Nat) (x : Ent), g ≤ h → wf g x → wf h x ∧ tsz h x = tsz g x ∧ ∀ pre, nrows h pre x = nrows g pre x
 | 0, h, x, hgh, hw => hw.elim
 | g + 1, 0, x, hgh, hw => absurd hgh (by omega)
 | g + 1, h + 1, x, hgh, hw => by
  obtain ⟨w1, w2, w3, w4⟩ := hw
  have ih : ∀ y, y ∈ x.f4 → wf h y ∧ tsz h y = tsz g y ∧ ∀ pre, nrows h pre y = nrows g pre y := fun y hy => wf_up g h y (by omega) (w4 y hy)
  refine ⟨⟨w1, w2, w3, fun y hy => (ih y hy).1⟩, ?_, fun pre => ?_⟩
  ·show ownS x.f1 x.f2 x.f3 + (x.f4.map (fun y => entS y.f0 + tsz h y)).sum = ownS x.f1 x.f2 x.f3 + (x.f4.map (fun y => entS y.f0 + tsz g y)).sum
   congr 2
   exact List.map_congr_left (fun y hy => by rw [(ih y hy).2.1])
  ·show (pre, x.f1, x.f2, x.f3) :: x.f4.flatMap (fun y => nrows h (pre ++ [y.f0]) y) = (pre, x.f1, x.f2, x.f3) :: x.f4.flatMap (fun y => nrows g (pre ++ [y.f0]) y)
   congr 1
   rw [List.flatMap_def, List.flatMap_def]
   congr 1
   exact List.map_congr_left (fun y hy => (ih y hy).2.2 (pre ++ [y.f0]))
end Go.Proofs.YtnemeeidomceiaaDoor
end
section
namespace Go.Proofs.YtnemeeidomceiaaDoor.PGTreeGets
open Go.RowKit Go.Proofs.YtnemeeidomceiaaDoorW.PrintWords Go.Proofs.YtnemeeidomceiaaDoor
set_option linter.unusedSimpArgs false
set_option linter.unusedVariables false
theorem joinP_size : ∀ (f : Nat) (p : ByteArray) (ns : List ByteArray), (∀ s, s ∈ ns → s.size ≤ 255) → (joinP f p ns).size ≤ p.size + 256 * ns.length
 | 0, p, ns, h => by show p.size ≤ _; omega
 | f + 1, p, [], h => by show p.size ≤ _; omega
 | f + 1, p, s :: ns, h => by
  have h1 := joinP_size f (belowP p s (32 - (f : Int))) ns (fun x hx => h x (List.mem_cons_of_mem _ hx))
  have h2 := h s List.mem_cons_self
  have h3 : (belowP p s (32 - (f : Int))).size ≤ p.size + 1 + s.size := by
   unfold belowP
   split
   ·omega
   ·rw [ByteArray.size_append, ByteArray.size_append]
    have : (⟨#[47]⟩ : ByteArray).size = 1 := rfl
    omega
  show (joinP f (belowP p s (32 - (f : Int))) ns).size ≤ _
  rw [List.length_cons]
  omega
theorem nrows_txt : ∀ (g : Nat) (pre : List ByteArray) (x : Ent), x.f3.size ≤ 140737488351232 → Texts x.f4 → ∀ r, r ∈ nrows g pre x → r.2.2.2.size ≤ 140737488351232
 | 0, pre, x, h3, h4, r, h => by cases h
 | g + 1, pre, x, h3, h4, r, h => by
  have h' : r ∈ (pre, x.f1, x.f2, x.f3) :: x.f4.flatMap (fun y => nrows g (pre ++ [y.f0]) y) := h
  rcases List.mem_cons.1 h' with rfl | h'
  ·exact h3
  ·obtain ⟨y, hy, hr⟩ := List.mem_flatMap.1 h'
   cases h4 with
   | mk h k => exact nrows_txt g (pre ++ [y.f0]) y (h y hy).2 (k y hy) r hr
def Names (q : List ByteArray) : Prop := (∀ s, s ∈ q → nameE s = 0) ∧ q.length ≤ 31
theorem Names.split {q : List ByteArray} (h : Names q) : splitP (joinP 32 ⟨#[]⟩ q) = (q, 0, 0) := joined_split h.1 h.2
theorem Names.size {q : List ByteArray} (h : Names q) : (joinP 32 ⟨#[]⟩ q).size ≤ 8192 := by
 have h1 := joinP_size 32 ⟨#[]⟩ q (fun s hs => nameE_size (h.1 s hs))
 have h2 := h.2
 have h3 : (⟨#[]⟩ : ByteArray).size = 0 := rfl
 omega
theorem Names.take {q : List ByteArray} (h : Names q) (i : Nat) : Names (q.take i) := ⟨fun s hs => h.1 s (List.mem_of_mem_take hs), by rw [List.length_take]; have := h.2; omega⟩
theorem Names.drop {q : List ByteArray} (h : Names q) (i : Nat) : Names (q.drop i) := ⟨fun s hs => h.1 s (List.mem_of_mem_drop hs), by rw [List.length_drop]; have := h.2; omega⟩
structure NOk (ns : List NRow) : Prop where
 len : ns.length ≤ 1048576
 nam : ∀ q, q ∈ ns → Names q.1
 txt : ∀ q, q ∈ ns → q.2.2.2.size ≤ 140737488351232
def rowN (q : NRow) : RefRow := rowR (toRow q)
theorem NOk.rows {ns : List NRow} (h : NOk ns) : RowsIn (ns.map toRow) := ⟨by rw [List.length_map]; exact h.len, fun r hr => by
 obtain ⟨q, hq, rfl⟩ := List.mem_map.1 hr
 exact ⟨Nat.le_trans (h.nam q hq).size (by decide), h.txt q hq⟩⟩
theorem rd_n {ns : List NRow} {i : Nat} (h : i < ns.length) : rd_T29 (ns.map rowN) (i : Int) = rowN ns[i] := by simp [rd_T29, h]
theorem split_n {q : NRow} (h : Names q.1) {k : Nat} (hk : 8000000 ≤ k) : depotref05_Split.f k (rowN q).f0 = some (q.1, 0, 0) := by
 have := split_k (joinP 32 ⟨#[]⟩ q.1) (Nat.le_trans h.size (by decide)) hk
 rw [h.split] at this
 exact this
theorem begins_n (a b : List ByteArray) (hb : b.length ≤ 1000) {k : Nat} (hk : 1001 < k) : depotref06_begins.f k a b = some (decide (b <+: a)) := by
 unfold depotref06_begins.f
 by_cases hl : a.length < b.length
 ·rw [if_pos (by omega), decide_eq_false (fun h => by have := h.length_le; omega)]
 ·rw [if_neg (by omega)]
  have h := begins_loop a b (by omega) hb b.length 0 k (by omega) (by omega) (by omega) rfl
  have e : decide (b <+: a) = decide (a.take b.length = b) := by
   by_cases h2 : a.take b.length = b
   ·rw [decide_eq_true h2, decide_eq_true (List.prefix_iff_eq_take.2 h2.symm)]
   ·rw [decide_eq_false h2, decide_eq_false (fun h3 => h2 (List.prefix_iff_eq_take.1 h3).symm)]
  rw [e]
  exact h
def undL : List NRow → List ByteArray → Int → Nat → Int × Int
 | [], _, frm, i => (frm, (i : Int))
 | r :: rs, names, frm, i => if names <+: r.1 then undL rs names (if frm < 0 then (i : Int) else frm) (i + 1) else if 0 ≤ frm then (frm, (i : Int)) else undL rs names frm (i + 1)
theorem under_ok (ns : List NRow) (hok : NOk ns) (names : List ByteArray) (hn : names.length ≤ 1000) : ∀ (d i k : Nat) (frm : Int), ns.length - i = d → i ≤ ns.length → 8000000 + 2 * d + 2 ≤ k →
  depotref06_under.l0 k (ns.map rowN) names frm (i : Int) = some (undL (ns.drop i) names frm i)
 | 0, i, k, frm, hd, hi, hk => by
  obtain ⟨k, rfl⟩ : ∃ q, k = q + 1 := ⟨k - 1, by omega⟩
  obtain rfl : i = ns.length := by omega
  rw [depotref06_under.l0, List.length_map, if_neg (by omega), List.drop_of_length_le (Nat.le_refl _)]
  rfl
 | d + 1, i, k, frm, hd, hi, hk => by
  have hlen := hok.len
  obtain ⟨k, rfl⟩ : ∃ q, k = q + 1 + 1 := ⟨k - 2, by omega⟩
  have hlt : i < ns.length := by omega
  have hdrop : ns.drop i = ns[i] :: ns.drop (i + 1) := List.drop_eq_getElem_cons hlt
  have hrow := rd_n hlt
  have hmem : ns[i] ∈ ns := List.getElem_mem hlt
  obtain ⟨r, hr⟩ : ∃ r, r = ns[i] := ⟨_, rfl⟩
  rw [← hr] at hdrop hrow hmem
  have ih := fun frm => under_ok ns hok names hn d (i + 1) k frm (by omega) (by omega) (by omega)
  rw [hdrop, depotref06_under.l0, List.length_map, if_pos (by omega), if_pos (by omega), hrow, split_n (hok.nam r hmem) (by omega)]
  simp only [Option.bind_some]
  rw [begins_n _ _ hn (by omega)]
  simp only [Option.bind_some]
  have HW : Aside0 (wrap64 ((i : Int) + 1) = ((i + 1 : Nat) : Int)) := ⟨by rw [w64n (by omega) (by omega)]; omega⟩
  unfold undL
  by_cases hp : names <+: r.1
  ·rw [decide_eq_true hp, if_pos rfl, if_pos hp]
   by_cases hf : frm < 0
   ·rw [decide_eq_true hf, if_pos hf, depotref06_under.j1, if_pos rfl, if_pos rfl, HW.out]
    exact ih _
   ·rw [decide_eq_false hf, if_neg hf, depotref06_under.j1, if_neg (by decide), if_pos rfl, HW.out]
    exact ih _
  ·rw [decide_eq_false hp, if_neg (by decide), if_neg hp, depotref06_under.j1, if_neg (by decide), if_neg (by decide), HW.out]
   by_cases hf : frm ≥ 0
   ·rw [if_pos hf, if_pos (show 0 ≤ frm from hf)]
   ·rw [if_neg hf, if_neg (show ¬ 0 ≤ frm from hf)]
    exact ih _
theorem und_left : ∀ (A rest : List NRow) (names : List ByteArray) (i : Nat), (∀ r, r ∈ A → ¬ names <+: r.1) → undL (A ++ rest) names (-1) i = undL rest names (-1) (i + A.length)
 | [], rest, names, i, h => rfl
 | a :: A, rest, names, i, h => by
  show undL (a :: (A ++ rest)) names (-1) i = _
  rw [undL, if_neg (h a List.mem_cons_self), if_neg (by decide), und_left A rest names (i + 1) (fun r hr => h r (List.mem_cons_of_mem _ hr)), List.length_cons]
  congr 1
  omega
theorem und_mid : ∀ (B C : List NRow) (names : List ByteArray) (frm : Int) (i : Nat), 0 ≤ frm → (∀ r, r ∈ B → names <+: r.1) → (∀ r, r ∈ C → ¬ names <+: r.1) → undL (B ++ C) names frm i = (frm, ((i + B.length : Nat) : Int))
 | [], [], names, frm, i, hf, hB, hC => rfl
 | [], c :: C, names, frm, i, hf, hB, hC => by
  show undL (c :: C) names frm i = _
  rw [undL, if_neg (hC c List.mem_cons_self), if_pos hf]
  rfl
 | b :: B, C, names, frm, i, hf, hB, hC => by
  show undL (b :: (B ++ C)) names frm i = _
  rw [undL, if_pos (hB b List.mem_cons_self), if_neg (by omega), und_mid B C names frm (i + 1) hf (fun r hr => hB r (List.mem_cons_of_mem _ hr)) hC, List.length_cons]
  congr 2
  omega
theorem und_block {A B C : List NRow} {names : List ByteArray} (hA : ∀ r, r ∈ A → ¬ names <+: r.1) (hB : ∀ r, r ∈ B → names <+: r.1) (hC : ∀ r, r ∈ C → ¬ names <+: r.1) (hb : B ≠ []) : undL (A ++ (B ++ C)) names (-1) 0 = ((A.length : Int), ((A.length + B.length : Nat) : Int)) := by
 rw [und_left A _ names 0 hA, Nat.zero_add]
 cases B with
 | nil => exact absurd rfl hb
 | cons b B =>
  show undL (b :: (B ++ C)) names (-1) A.length = _
  rw [undL, if_pos (hB b List.mem_cons_self), if_pos (by decide), und_mid B C names _ (A.length + 1) (by omega) (fun r hr => hB r (List.mem_cons_of_mem _ hr)) hC, List.length_cons]
  congr 2
  omega
theorem und_none {ns : List NRow} {names : List ByteArray} (hA : ∀ r, r ∈ ns → ¬ names <+: r.1) : undL ns names (-1) 0 = (-1, (ns.length : Int)) := by
 have := und_left ns [] names 0 hA
 rw [List.append_nil, Nat.zero_add] at this
 rw [this]
 rfl
structure TreeOk (x : Ent) : Prop where
 wfx : wf 32 x
 ok : NOk (nrows 32 [] x)
theorem wf_ne {g : Nat} {x : Ent} (h : wf g x) : ∃ m, g = m + 1 := by
 cases g with
 | zero => exact h.elim
 | succ m => exact ⟨m, rfl⟩
theorem under_at {x : Ent} (h : TreeOk x) (q : List ByteArray) (hq : q.length ≤ 1000) {k : Nat} (hk : 11000000 ≤ k) :
  (∀ y, atN q x = some y → ∃ A C g2, BlockAt 32 [] q x y A C g2 ∧ depotref06_under.f k ((nrows 32 [] x).map rowN) q = some ((A.length : Int), ((A.length + (nrows g2 q y).length : Nat) : Int))) ∧
  (atN q x = none → depotref06_under.f k ((nrows 32 [] x).map rowN) q = some (-1, ((nrows 32 [] x).length : Int))) := by
 obtain ⟨h1, h2⟩ := block_at q 32 [] x h.wfx
 have hlen := h.ok.len
 have hu := under_ok _ h.ok q hq (nrows 32 [] x).length 0 k (-1) (by omega) (Nat.zero_le _) (by omega)
 rw [List.drop_zero] at hu
 refine ⟨fun y hy => ?_, fun hn => ?_⟩
 ·obtain ⟨A, C, g2, b⟩ := h1 y hy
  refine ⟨A, C, g2, b, ?_⟩
  have hb := b.rows
  rw [List.nil_append] at hb
  have hl := b.left
  have hr := b.right
  rw [List.nil_append] at hl hr
  unfold depotref06_under.f
  have hu2 : depotref06_under.l0 k ((nrows 32 [] x).map rowN) q (-1) 0 = some (undL (nrows 32 [] x) q (-1) 0) := hu
  rw [hu2, hb, und_block hl (fun r hr => nrows_pre g2 q y r hr) hr]
  obtain ⟨m, rfl⟩ := wf_ne b.wfy
  intro e
  cases e
 ·unfold depotref06_under.f
  have hu2 : depotref06_under.l0 k ((nrows 32 [] x).map rowN) q (-1) 0 = some (undL (nrows 32 [] x) q (-1) 0) := hu
  have h3 := h2 hn
  rw [List.nil_append] at h3
  rw [hu2, und_none h3]
theorem way_ok {x : Ent} (h : TreeOk x) (q : List ByteArray) (hq : Names q) : ∀ (d i k : Nat), q.length - i = d → i ≤ q.length → 11000000 + d < k →
  depotref06_Way.l0 k ((nrows 32 [] x).map rowN) q (i : Int) = some (match atN (q.take i) x with
   | none => if i = q.length then 0 else 3
   | some y => wayR (q.drop i) y)
 | 0, i, k, hd, hi, hk => by
  obtain ⟨k, rfl⟩ : ∃ q, k = q + 1 := ⟨k - 1, by omega⟩
  obtain rfl : i = q.length := by omega
  rw [depotref06_Way.l0, if_neg (by omega), List.drop_of_length_le (Nat.le_refl _)]
  cases atN (q.take q.length) x with
  | none => simp
  | some y => rfl
 | d + 1, i, k, hd, hi, hk => by
  obtain ⟨k, rfl⟩ : ∃ q, k = q + 1 := ⟨k - 1, by omega⟩
  have hlt : i < q.length := by omega
  have hq31 := hq.2
  have hqt : (q.take i).length ≤ 1000 := by rw [List.length_take]; omega
  have HW : Aside0 (wrap64 ((i : Int) + 1) = ((i + 1 : Nat) : Int)) := ⟨by rw [w64n (by omega) (by omega)]; omega⟩
  rw [depotref06_Way.l0, if_pos (by omega), if_pos (by omega), if_pos (by omega), Int.toNat_natCast, HW.out]
  obtain ⟨u1, u2⟩ := under_at h (q.take i) hqt (k := k) (by omega)
  have hdrop : q.drop i = q[i] :: q.drop (i + 1) := List.drop_eq_getElem_cons hlt
  have htake : q.take (i + 1) = q.take i ++ [q[i]] := List.take_succ_eq_append_getElem hlt
  cases hat : atN (q.take i) x with
  | none =>
   rw [u2 hat]
   simp only [Option.bind_some]
   rw [if_pos (by omega), if_neg (by omega)]
  | some y =>
   obtain ⟨A, C, g2, b, hu⟩ := u1 y hat
   obtain ⟨m, rfl⟩ := wf_ne b.wfy
   have hrw := b.rows
   rw [List.nil_append] at hrw
   have hA : A.length < (nrows 32 [] x).length := by
    rw [hrw, List.length_append, List.length_append]
    show A.length < A.length + ((_ :: _ : List NRow).length + C.length)
    rw [List.length_cons]
    omega
   have hget : (nrows 32 [] x)[A.length] = (q.take i, y.f1, y.f2, y.f3) := by
    have h5 : (nrows 32 [] x)[A.length]? = some (q.take i, y.f1, y.f2, y.f3) := by
     rw [hrw, List.getElem?_append_right (Nat.le_refl _), Nat.sub_self]
     rfl
    rw [List.getElem?_eq_getElem hA] at h5
    injection h5
   rw [hu]
   simp only [Option.bind_some]
   rw [if_neg (by omega), if_pos (by omega), List.length_map, if_pos (by omega), rd_n hA, hget, hdrop, wayR_cons]
   by_cases h3 : y.f1 = 3
   ·rw [if_pos (show (rowN (q.take i, y.f1, y.f2, y.f3)).f1 = 3 from h3), if_neg (show ¬ y.f1 ≠ 3 from fun e => e h3), way_ok h q hq d (i + 1) k (by omega) (by omega) (by omega), htake, atN_snoc, hat]
    show some (match look y.f4 q[i] with | none => if i + 1 = q.length then 0 else 3 | some y => wayR (q.drop (i + 1)) y) = _
    cases look y.f4 q[i] with
    | none =>
     by_cases h6 : i + 1 = q.length
     ·rw [if_pos h6, if_pos (List.drop_of_length_le (by omega))]
     ·rw [if_neg h6, if_neg (fun e => by have := congrArg List.length e; rw [List.length_drop] at this; simp at this; omega)]
    | some z => rfl
   ·rw [if_neg (show ¬ (rowN (q.take i, y.f1, y.f2, y.f3)).f1 = 3 from h3), if_pos (show y.f1 ≠ 3 from h3)]
theorem way_k {x : Ent} (h : TreeOk x) (q : List ByteArray) (hq : Names q) {k : Nat} (hk : 12000000 ≤ k) : depotref06_Way.f k ((nrows 32 [] x).map rowN) q = some (wayR q x) := by
 have := way_ok h q hq q.length 0 k (by omega) (Nat.zero_le _) (by have := hq.2; omega)
 rw [List.take_zero, List.drop_zero] at this
 exact this
theorem path_loop (q : List ByteArray) (hq : Names q) : ∀ (d i k : Nat), q.length - i = d → i ≤ q.length → d < k → depotref06_pathOf.l0 k q (joinP 32 ⟨#[]⟩ (q.take i)) (i : Int) = some (joinP 32 ⟨#[]⟩ q)
 | 0, i, k, hd, hi, hk => by
  obtain ⟨k, rfl⟩ : ∃ q, k = q + 1 := ⟨k - 1, by omega⟩
  obtain rfl : i = q.length := by omega
  rw [depotref06_pathOf.l0, if_neg (by omega), List.take_of_length_le (Nat.le_refl _)]
 | d + 1, i, k, hd, hi, hk => by
  obtain ⟨k, rfl⟩ : ∃ q, k = q + 1 := ⟨k - 1, by omega⟩
  have hlt : i < q.length := by omega
  have hq31 := hq.2
  have htake : q.take (i + 1) = q.take i ++ [q[i]] := List.take_succ_eq_append_getElem hlt
  have hs1 := (hq.take i).size
  have hs2 := nameE_size (hq.1 q[i] (List.getElem_mem hlt))
  have HW : Aside0 (wrap64 ((i : Int) + 1) = ((i + 1 : Nat) : Int)) := ⟨by rw [w64n (by omega) (by omega)]; omega⟩
  have hj : joinP 32 ⟨#[]⟩ (q.take (i + 1)) = belowP (joinP 32 ⟨#[]⟩ (q.take i)) q[i] (32 - ((31 - i : Nat) : Int)) := by
   have h32 : 32 = i + (31 - i) + 1 := by omega
   rw [htake]
   conv => lhs; rw [h32]
   rw [joinP_snoc i (31 - i) _ (q.take i) q[i] (by rw [List.length_take]; omega), ← h32]
  have ih := path_loop q hq d (i + 1) k (by omega) (by omega) (by omega)
  rw [hj] at ih
  unfold belowP at ih
  rw [depotref06_pathOf.l0, if_pos (by omega), HW.out, rdOf_at hlt]
  have h47 : (⟨#[47]⟩ : ByteArray).size = 1 := rfl
  by_cases h0 : i = 0
  ·rw [if_pos (by omega)] at ih
   rw [if_neg (by omega), if_pos (by omega), if_pos (by omega)]
   have e : joinP 32 ⟨#[]⟩ (q.take i) = (⟨#[]⟩ : ByteArray) := by rw [h0, List.take_zero, joinP_nil]
   rw [e]
   have e2 : (⟨#[]⟩ : ByteArray) ++ q[i] = q[i] := by
    have h5 : (⟨#[]⟩ : ByteArray) = ByteArray.empty := rfl
    rw [h5, ByteArray.empty_append]
   rw [e2]
   exact ih
  ·rw [if_neg (by omega)] at ih
   rw [if_pos (by omega), if_pos (by omega), if_pos (by omega), if_pos (by rw [ByteArray.size_append, h47]; omega)]
   exact ih
theorem path_k (q : List ByteArray) (hq : Names q) {k : Nat} (hk : 100 < k) : depotref06_pathOf.f k q = some (joinP 32 ⟨#[]⟩ q) := by
 have := path_loop q hq q.length 0 k (by omega) (Nat.zero_le _) (by have := hq.2; omega)
 rw [List.take_zero, joinP_nil] at this
 exact this
theorem build_tree {x : Ent} (hw : wf 32 x) (hs : 24 + tsz 32 x ≤ 1048576) : buildP ((nrows 32 [] x).map toRow) = (nodeOf x, 0, 0) := by
 have h1 : lookL x.f1 x.f2 x.f3 x.f4 = .ok (24 + tsz 32 ⟨⟨#[]⟩, x.f1, x.f2, x.f3, x.f4⟩) (trows 32 ⟨#[]⟩ ⟨⟨#[]⟩, x.f1, x.f2, x.f3, x.f4⟩) := (look_iff _ _ _ _ _ _).2 ⟨hw, rfl, hs, rfl⟩
 obtain ⟨s, r1, r2, r3, r4⟩ := rows_build (n := nodeOf x) h1
 have h2 : trows 32 ⟨#[]⟩ ⟨⟨#[]⟩, x.f1, x.f2, x.f3, x.f4⟩ = (nrows 32 [] x).map toRow := by
  have := trows_n 32 [] ⟨⟨#[]⟩, x.f1, x.f2, x.f3, x.f4⟩ rfl
  rw [joinP_nil] at this
  exact this
 rw [h2] at r1 r3
 unfold buildP
 rw [if_neg r3, goB_some _ initB s 0 r1, r2]
theorem NOk.of {ns ms : List NRow} (h : NOk ns) (hl : ms.length ≤ ns.length) (hm : ∀ q, q ∈ ms → ∃ p i, p ∈ ns ∧ q = (p.1.drop i, p.2)) : NOk ms :=
 ⟨Nat.le_trans hl h.len, fun q hq => by obtain ⟨p, i, hp, rfl⟩ := hm q hq; exact (h.nam p hp).drop i, fun q hq => by obtain ⟨p, i, hp, rfl⟩ := hm q hq; exact h.txt p hp⟩
theorem look_tree {a : Int} {e : Bool} {c : ByteArray} {l : List Ent} {bb : Int} {rws : List RowT} (hh : Held c l) (hs : lookL a e c l = .ok bb rws) : TreeOk ⟨⟨#[]⟩, a, e, c, l⟩ ∧ 24 + tsz 32 ⟨⟨#[]⟩, a, e, c, l⟩ ≤ 1048576 ∧ rws = (nrows 32 [] ⟨⟨#[]⟩, a, e, c, l⟩).map toRow := by
 obtain ⟨q1, q2, q3, q4⟩ := (look_iff a e c l bb rws).1 hs
 have hn := trows_n 32 [] ⟨⟨#[]⟩, a, e, c, l⟩ rfl
 rw [joinP_nil] at hn
 have hfair : LookFair magS (lookL a e c l) := nodeL_fair _ _ _ _
 rw [hs] at hfair
 obtain ⟨f1, f2⟩ := hfair
 have f3 := f2 (by rw [magS_eq]; decide)
 rw [magS_eq] at f1
 refine ⟨⟨q1, ⟨?_, fun q hq => ?_, fun q hq => nrows_txt 32 [] ⟨⟨#[]⟩, a, e, c, l⟩ hh.2 hh.1 q hq⟩⟩, by omega, by rw [q4, hn]⟩
 ·rw [q4, hn, List.length_map] at f1
  omega
 ·obtain ⟨z1, z2⟩ := nrows_names 32 [] ⟨⟨#[]⟩, a, e, c, l⟩ q q1 (by simp) hq
  exact ⟨z1, by simp at z2; omega⟩
theorem look_f {a : Int} {e : Bool} {c : ByteArray} {l : List Ent} (hh : Held c l) : depotref06_Look.f a e c l = some ((lookRows (lookL a e c l)).map rowR, lookSize (lookL a e c l), lookCode (lookL a e c l), lookPath (lookL a e c l)) := if_pos hh
theorem split_big (s : ByteArray) (hs : s.size ≤ 140737488351232) {k : Nat} (hk : 2 * s.size + 4 ≤ k) : depotref05_Split.f k s = some (splitP s) :=
 up_le (fun k => depotref05_Split.mono s k) (refSplit s (by omega)) hk
theorem without_loop (ns : List NRow) (hl : ns.length ≤ 1048576) (a b : Nat) (hab : a ≤ b) : ∀ (d i k : Nat), ns.length - i = d → i ≤ ns.length → d < k →
  depotref06_without.l0 k (ns.map rowN) (((ns.take (min i a)) ++ ((ns.take i).drop b)).map rowN) (a : Int) (b : Int) (i : Int) = some ((ns.take a ++ ns.drop b).map rowN)
 | 0, i, k, hd, hi, hk => by
  obtain ⟨k, rfl⟩ : ∃ q, k = q + 1 := ⟨k - 1, by omega⟩
  obtain rfl : i = ns.length := by omega
  rw [depotref06_without.l0, List.length_map, if_neg (by omega), List.take_of_length_le (Nat.le_refl _)]
  congr 3
  by_cases h : ns.length ≤ a
  ·rw [Nat.min_eq_left h, List.take_of_length_le (Nat.le_refl _), List.take_of_length_le h]
  ·rw [Nat.min_eq_right (by omega)]
 | d + 1, i, k, hd, hi, hk => by
  obtain ⟨k, rfl⟩ : ∃ q, k = q + 1 := ⟨k - 1, by omega⟩
  have hlt : i < ns.length := by omega
  have HW : Aside0 (wrap64 ((i : Int) + 1) = ((i + 1 : Nat) : Int)) := ⟨by rw [w64n (by omega) (by omega)]; omega⟩
  have ih := without_loop ns hl a b hab d (i + 1) k (by omega) (by omega) (by omega)
  have htk : ns.take (i + 1) = ns.take i ++ [ns[i]] := List.take_succ_eq_append_getElem hlt
  have hlen : (((ns.take (min i a)) ++ ((ns.take i).drop b)).map rowN).length < 2932031007402 := by
   rw [List.length_map, List.length_append, List.length_take, List.length_drop, List.length_take]
   omega
  rw [depotref06_without.l0, List.length_map, if_pos (by omega), if_neg (by omega), HW.out, rd_n hlt]
  by_cases h1 : i < a
  ·rw [if_pos (by omega), if_pos (by omega), if_pos hlen]
   have e1 : (ns.take i).drop b = [] := List.drop_of_length_le (by rw [List.length_take]; omega)
   have e2 : (ns.take (i + 1)).drop b = [] := List.drop_of_length_le (by rw [List.length_take]; omega)
   rw [e2, List.append_nil, Nat.min_eq_left (by omega), htk, List.map_append] at ih
   rw [e1, List.append_nil, Nat.min_eq_left (by omega)]
   exact ih
  ·by_cases h2 : b ≤ i
   ·rw [if_neg (by omega), if_pos (by omega), if_pos (by omega), if_pos hlen]
    rw [Nat.min_eq_right (by omega), htk, List.drop_append_of_le_length (by rw [List.length_take]; omega), ← List.append_assoc, List.map_append] at ih
    rw [Nat.min_eq_right (by omega)]
    exact ih
   ·rw [if_neg (by omega), if_neg (by omega)]
    have e1 : (ns.take i).drop b = [] := List.drop_of_length_le (by rw [List.length_take]; omega)
    have e2 : (ns.take (i + 1)).drop b = [] := List.drop_of_length_le (by rw [List.length_take]; omega)
    rw [e2, Nat.min_eq_right (by omega)] at ih
    rw [e1, Nat.min_eq_right (by omega)]
    exact ih
theorem cutP_fits {k : Int} {e : Bool} {t : ByteArray} {l : List Ent} {p : ByteArray} : Fit (cutP k e t l p).1.2.2.2 := by
 have hz : Fit zeroT.2.2.2 := .mk (by simp [zeroT]) (by simp [zeroT])
 by_cases hc : lookCode (lookL k e t l) = 0
 ·obtain ⟨hw, hs⟩ := (look_zero k e t l).1 hc
  unfold cutP
  split
  ·exact hz
  ·split
   ·exact hz
   ·split
    ·exact hz
    ·rename_i h1 h2 h3
     rw [Decidable.not_not] at h3
     obtain ⟨w3, t3⟩ := cut_wf (readyP k e t l p).1 32 ⟨#[]⟩ k e t l (chN cutAct (readyP k e t l p).1 k l).1 hw (by rw [← h3])
     exact (wf_AllR 32 ⟨⟨#[]⟩, k, e, t, (chN cutAct (readyP k e t l p).1 k l).1⟩ w3 (by omega)).fit
 ·have hr : (readyP k e t l p).2 ≠ 0 := by unfold readyP; rw [if_pos hc]; exact hc
  unfold cutP
  rw [if_pos hr]
  exact hz
end Go.Proofs.YtnemeeidomceiaaDoor.PGTreeGets
end
section
namespace Go.Proofs.YtnemeeidomceiaaDoor
open Go.RowKit Go.Proofs.YtnemeeidomceiaaDoorW.PrintWords Go.Proofs.YtnemeeidomceiaaDoorW.PrintLast Go.Proofs.YtnemeeidomceiaaDoorW.PrintMore
set_option linter.unusedVariables false
set_option linter.unusedSimpArgs false
structure BuildOk (kk : Nat) (l0 : List RefRow) (n : NodeT) : Prop where
 pos : 0 < l0.length
 small : l0.length ≤ 1048576
 root : (rd_T29 l0 0).f0.toList = []
 own : ∃ ow, depotref06_Own.f (rd_T29 l0 0).f1 (rd_T29 l0 0).f2 (rd_T29 l0 0).f3 [] = some (0, ow)
 node : n.1 = (rd_T29 l0 0).f1 ∧ n.2.1 = (rd_T29 l0 0).f2 ∧ n.2.2.1 = (rd_T29 l0 0).f3
 kids : ((rd_T29 l0 0).f1 = 3 ∧ PGTreeGets.depotref06_gather.f kk l0 1 [] = some (n.2.2.2, (l0.length : Int))) ∨ ((rd_T29 l0 0).f1 ≠ 3 ∧ l0.length = 1 ∧ n.2.2.2 = [])
 fits : PGTreeGets.depotref06_fits.f kk l0 = some (l0.length : Int)
set_option maxHeartbeats 4000000 in
set_option maxRecDepth 100000 in
theorem refbuild_walk (l0 : List RefRow) (A : Option Addr) (c : Nat) (w : World) (hC : Kd.C k29 w A l0.length l0) (hc : l0.length ≤ c) (kk : Nat) (n : NodeT) (hF : BuildOk kk l0 n) :
  Calls Tryd.prog 12 #[.slice A l0.length c] w fun e w' => ∃ v3_ : Value, e = .returned (.tuple #[.agg #[.int .i64 n.1, .bool n.2.1, .string n.2.2.1, v3_], .int .i64 0, .int .i64 0]) ∧ Kd.R kE eE w' w.heap.size (fun _ => True) v3_ n.2.2.2 ∧ Below w.heap.size w w' := by
 obtain ⟨ad, hA, e0, e1, e2, e3⟩ := at_T29 hC 0 (Int.le_refl _) (by have := hF.pos; omega)
 subst hA
 obtain ⟨r, hr⟩ : ∃ r, r = rd_T29 l0 0 := ⟨_, rfl⟩
 obtain ⟨ow, how⟩ := hF.own
 obtain ⟨n1, n2, n3⟩ := hF.node
 have hkids := hF.kids
 have hroot := hF.root
 rw [← hr] at e0 e1 e2 e3 how n1 n2 n3 hkids hroot
 obtain ⟨nk, ne, nt, nl⟩ := n
 simp only at n1 n2 n3 hkids
 subst n1 n2 n3
 have HC := Aside0.mk (And.intro hC hc)
 have HOW := Aside0.mk how
 have HK := Aside0.mk hkids
 have HFI := Aside0.mk hF.fits
 have HSM := Aside0.mk (And.intro hF.pos hF.small)
 have p0 : (0 : Int) < (l0.length : Int) := by have := hF.pos; omega
 have p0n : 0 < l0.length := hF.pos
 have d0 : ((l0.length : Int) == 0) = false := beq_eq_false_iff_ne.mpr (by omega)
 have d1 : (r.f0.toList != []) = false := bne_eq_false_iff_eq.mpr hroot
 have d2 : (r.f0.toList == []) = true := beq_iff_eq.mpr hroot
 simp only [Int.toNat_zero, Nat.zero_mul, Nat.zero_add, Nat.add_zero] at e0 e1 e2 e3
 rw [Addr.add_zero'] at e0 e1 e2 e3
 clear hC hc how hkids hF hr hroot
 go_enter Tryd.func12, Tryd.ntmps12
 go_wp2_with fail
 obtain ⟨W1, hW1⟩ : ∃ W1, W1 = w.alloc (.cells #[.int .i64 0, .bool false, .string ⟨#[]⟩, .slice none 0 0] 32) := ⟨_, rfl⟩
 obtain ⟨b2, hb2⟩ : ∃ b, b = w.heap.size := ⟨_, rfl⟩
 rw [← hW1, ← hb2]
 have hb01 : Below w.heap.size w W1 := by rw [hW1]; exact below_alloc (Below.refl _ _) _
 have hdr : Below W1.heap.size W1 W1.drew := below_drew (Below.refl _ _)
 have hbd : Below w.heap.size w W1.drew := below_step hb01 hdr
 have R2 : Aside0 (Blk W1.drew b2 32 [.int .i64 0, .bool false, .string ⟨#[]⟩, .slice none 0 0]) := ⟨Blk.below (by rw [hW1, hb2]; exact Blk.new w _ [.int .i64 0, .bool false, .string ⟨#[]⟩, .slice none 0 0]) hdr⟩
 have HB : Aside0 (Below w.heap.size w W1.drew) := ⟨hbd⟩
 have HBB : Aside0 (w.heap.size ≤ b2) := ⟨by rw [hb2]; exact Nat.le_refl _⟩
 replace e0 := pw_cell_below hbd e0
 replace e1 := pw_cell_below hbd e1
 replace e2 := pw_cell_below hbd e2
 replace e3 := pw_cell_below hbd e3
 clear hW1 hb2
 refine start_ (n := 15) (S := fun w' => w'.cell? ⟨ad.block, ad.off + 1, none⟩ = some (.int .i64 r.f1) ∧ w'.cell? ⟨ad.block, ad.off + 2, none⟩ = some (.bool r.f2) ∧ w'.cell? ⟨ad.block, ad.off + 3, none⟩ = some (.string r.f3)) (ds := []) #[false, false, false, false, false, false, false, false, false, false, false, false, false, false, false] (by kernel_rfl) rfl rfl (⟨e1, e2, e3⟩) (fun hHeld => ?_)
 generalize W1.drew = W2 at *
 clear hdr hbd hb01
 refine pure_ (i := 0) (N := some 14) (v := ?_) (a' := ?_) #[true, false, false, false, false, false, false, false, false, false, false, false, false, false, false] rfl rfl (by kernel_rfl) (fun _ _ _ h => h) (Or.inl ⟨by rfl, ?_⟩) ?_ ?_
 rotate_left
 ·intro w'
  go_simp
  with_reducible rfl
 rotate_left
 ·simp only [Act.put, List.setIfInBounds_toArray, List.set_cons_zero, List.set_cons_succ, i64_w, i32_w]
  rfl
 refine pure_ (i := 1) (N := some 15) (v := ?_) (a' := ?_) #[true, true, false, false, false, false, false, false, false, false, false, false, false, false, false] rfl rfl (by kernel_rfl) (fun _ _ _ h => h) (Or.inl ⟨by rfl, ?_⟩) ?_ ?_
 rotate_left
 ·intro w'
  go_simp
  with_reducible rfl
 rotate_left
 ·simp only [Act.put, List.setIfInBounds_toArray, List.set_cons_zero, List.set_cons_succ, i64_w, i32_w]
  rfl
 refine pure_ (i := 2) (N := some 16) (v := ?_) (a' := ?_) #[true, true, true, false, false, false, false, false, false, false, false, false, false, false, false] rfl rfl (by kernel_rfl) (fun _ _ _ h => h) (Or.inl ⟨by rfl, ?_⟩) ?_ ?_
 rotate_left
 ·intro w'
  go_simp
  with_reducible rfl
 rotate_left
 ·simp only [Act.put, List.setIfInBounds_toArray, List.set_cons_zero, List.set_cons_succ, i64_w, i32_w]
  rfl
 refine take_ (i := 3) (N := some 17) (v := ?_) (a' := ?_) #[true, true, true, true, false, false, false, false, false, false, false, false, false, false, false] rfl rfl (by kernel_rfl) (fun _ _ _ h => h) (Or.inl ⟨by rfl, ?_⟩) hHeld ?_ ?_
 rotate_left
 ·rintro w' ⟨s0, s1, s2⟩
  go_simp
  with_reducible rfl
 rotate_left
 ·simp only [Act.put, List.setIfInBounds_toArray, List.set_cons_zero, List.set_cons_succ, i64_w, i32_w]
  rfl
 refine pure_ (i := 4) (N := some 18) (v := ?_) (a' := ?_) #[true, true, true, true, true, false, false, false, false, false, false, false, false, false, false] rfl rfl (by kernel_rfl) (fun _ _ _ h => h) (Or.inl ⟨by rfl, ?_⟩) ?_ ?_
 rotate_left
 ·intro w'
  go_simp
  with_reducible rfl
 rotate_left
 ·simp only [Act.put, List.setIfInBounds_toArray, List.set_cons_zero, List.set_cons_succ, i64_w, i32_w]
  rfl
 refine pure_ (i := 5) (N := some 19) (v := ?_) (a' := ?_) #[true, true, true, true, true, true, false, false, false, false, false, false, false, false, false] rfl rfl (by kernel_rfl) (fun _ _ _ h => h) (Or.inl ⟨by rfl, ?_⟩) ?_ ?_
 rotate_left
 ·intro w'
  go_simp
  with_reducible rfl
 rotate_left
 ·simp only [Act.put, List.setIfInBounds_toArray, List.set_cons_zero, List.set_cons_succ, i64_w, i32_w]
  rfl
 refine pure_ (i := 6) (N := some 20) (v := ?_) (a' := ?_) #[true, true, true, true, true, true, true, false, false, false, false, false, false, false, false] rfl rfl (by kernel_rfl) (fun _ _ _ h => h) (Or.inl ⟨by rfl, ?_⟩) ?_ ?_
 rotate_left
 ·intro w'
  go_simp
  with_reducible rfl
 rotate_left
 ·simp only [Act.put, List.setIfInBounds_toArray, List.set_cons_zero, List.set_cons_succ, i64_w, i32_w]
  rfl
 refine take_ (i := 7) (N := some 21) (v := ?_) (a' := ?_) #[true, true, true, true, true, true, true, true, false, false, false, false, false, false, false] rfl rfl (by kernel_rfl) (fun _ _ _ h => h) (Or.inl ⟨by rfl, ?_⟩) hHeld ?_ ?_
 rotate_left
 ·rintro w' ⟨s0, s1, s2⟩
  go_simp
  with_reducible rfl
 rotate_left
 ·simp only [Act.put, List.setIfInBounds_toArray, List.set_cons_zero, List.set_cons_succ, i64_w, i32_w]
  rfl
 refine pure_ (i := 8) (N := some 22) (v := ?_) (a' := ?_) #[true, true, true, true, true, true, true, true, true, false, false, false, false, false, false] rfl rfl (by kernel_rfl) (fun _ _ _ h => h) (Or.inl ⟨by rfl, ?_⟩) ?_ ?_
 rotate_left
 ·intro w'
  go_simp
  with_reducible rfl
 rotate_left
 ·simp only [Act.put, List.setIfInBounds_toArray, List.set_cons_zero, List.set_cons_succ, i64_w, i32_w]
  rfl
 refine pure_ (i := 9) (N := some 23) (v := ?_) (a' := ?_) #[true, true, true, true, true, true, true, true, true, true, false, false, false, false, false] rfl rfl (by kernel_rfl) (fun _ _ _ h => h) (Or.inl ⟨by rfl, ?_⟩) ?_ ?_
 rotate_left
 ·intro w'
  go_simp
  with_reducible rfl
 rotate_left
 ·simp only [Act.put, List.setIfInBounds_toArray, List.set_cons_zero, List.set_cons_succ, i64_w, i32_w]
  rfl
 refine pure_ (i := 10) (N := some 24) (v := ?_) (a' := ?_) #[true, true, true, true, true, true, true, true, true, true, true, false, false, false, false] rfl rfl (by kernel_rfl) (fun _ _ _ h => h) (Or.inl ⟨by rfl, ?_⟩) ?_ ?_
 rotate_left
 ·intro w'
  go_simp
  with_reducible rfl
 rotate_left
 ·simp only [Act.put, List.setIfInBounds_toArray, List.set_cons_zero, List.set_cons_succ, i64_w, i32_w]
  rfl
 refine take_ (i := 11) (N := some 25) (v := ?_) (a' := ?_) #[true, true, true, true, true, true, true, true, true, true, true, true, false, false, false] rfl rfl (by kernel_rfl) (fun _ _ _ h => h) (Or.inl ⟨by rfl, ?_⟩) hHeld ?_ ?_
 rotate_left
 ·rintro w' ⟨s0, s1, s2⟩
  go_simp
  with_reducible rfl
 rotate_left
 ·simp only [Act.put, List.setIfInBounds_toArray, List.set_cons_zero, List.set_cons_succ, i64_w, i32_w]
  rfl
 refine pure_ (i := 12) (N := some 26) (v := ?_) (a' := ?_) #[true, true, true, true, true, true, true, true, true, true, true, true, true, false, false] rfl rfl (by kernel_rfl) (fun _ _ _ h => h) (Or.inl ⟨by rfl, ?_⟩) ?_ ?_
 rotate_left
 ·intro w'
  go_simp
  with_reducible rfl
 rotate_left
 ·simp only [Act.put, List.setIfInBounds_toArray, List.set_cons_zero, List.set_cons_succ, i64_w, i32_w]
  rfl
 obtain ⟨W3, hW3⟩ : ∃ W3, W3 = W2.alloc (.cells #[.int .i64 0, .bool false, .string ⟨#[]⟩, .slice none 0 0] 32) := ⟨_, rfl⟩
 obtain ⟨b5, hb5⟩ : ∃ b, b = W2.heap.size := ⟨_, rfl⟩
 have hb23 : Below W2.heap.size W2 W3 := by rw [hW3]; exact below_alloc (Below.refl _ _) _
 have R5 : Aside0 (Blk W3 b5 32 [.int .i64 0, .bool false, .string ⟨#[]⟩, .slice none 0 0]) := ⟨by rw [hW3, hb5]; exact Blk.new W2 _ [.int .i64 0, .bool false, .string ⟨#[]⟩, .slice none 0 0]⟩
 have HLT : Aside0 (b2 < b5) := ⟨by rw [hb5]; exact R2.out.lt⟩
 replace R2 := Aside0.mk (R2.out.below hb23)
 replace HB := Aside0.mk (below_step HB.out hb23)
 have HAD : Aside0 (ad.block ≠ b5) := ⟨by have := World.block_lt_of_cell? _ _ e0; omega⟩
 replace e0 := pw_cell_below hb23 e0
 replace e1 := pw_cell_below hb23 e1
 replace e2 := pw_cell_below hb23 e2
 replace e3 := pw_cell_below hb23 e3
 refine one_ (i := 13) (N := some 5) #[true, true, true, true, true, true, true, true, true, true, true, true, true, true, false] rfl rfl (by kernel_rfl) (by decide) (fun K hK => ?_)
 refine value_ (w1 := W3) (v := .pointer (some ⟨b5, 0, none⟩)) (by rfl) rfl ?_ ?_
 ·rw [hW3, hb5]
  go_simp
 refine hK.out _ _ ⟨e1, e2, e3⟩ (fun _ => ?_)
 clear hK K hW3 hb5 hb23 hHeld
 refine norm_ (a' := ?_) ?_ ?_
 rotate_left
 ·simp only [Act.put, List.setIfInBounds_toArray, List.set_cons_zero, List.set_cons_succ, i64_w, i32_w]
  rfl
 have hne : b5 ≠ b2 := Nat.ne_of_gt HLT.out
 have hadne : ad.block ≠ b5 := HAD.out
 obtain ⟨W4, hW4⟩ : ∃ W4, W4 = (((W3.setCell ⟨b5, 0, none⟩ (.int .i64 r.f1)).setCell ⟨b5, 1, none⟩ (.bool r.f2)).setCell ⟨b5, 2, none⟩ (.string r.f3)).setCell ⟨b5, 3, none⟩ (.slice none 0 0) := ⟨_, rfl⟩
 have R5n : Blk W4 b5 32 [.int .i64 r.f1, .bool r.f2, .string r.f3, .slice none 0 0] := by rw [hW4]; exact put4_blk R5.out
 have hk4 : ∀ j, j ≠ b5 → W4.heap[j]? = W3.heap[j]? := fun j hj => by
  rw [hW4, Below.heap_setCell _ _ _ _ (by exact hj), Below.heap_setCell _ _ _ _ (by exact hj), Below.heap_setCell _ _ _ _ (by exact hj), Below.heap_setCell _ _ _ _ (by exact hj)]
 have R2n : Blk W4 b2 32 [.int .i64 0, .bool false, .string ⟨#[]⟩, .slice none 0 0] := by
  unfold Blk
  rw [hk4 b2 (fun e => hne e.symm)]
  exact R2.out
 have hBn : Below w.heap.size w W4 := by rw [hW4]; exact below_put4 HB.out (Nat.le_trans HBB.out (Nat.le_of_lt HLT.out))
 have hcl : ∀ (p : Addr) (u : Value), p.block ≠ b5 → W3.cell? p = some u → W4.cell? p = some u := fun p u hp hc => by
  unfold World.cell? at hc ⊢
  rw [hk4 p.block hp]
  exact hc
 have g0 := hcl ad _ hadne e0
 have g1 := hcl ⟨ad.block, ad.off + 1, none⟩ _ hadne e1
 have g2 := hcl ⟨ad.block, ad.off + 2, none⟩ _ hadne e2
 have g3 := hcl ⟨ad.block, ad.off + 3, none⟩ _ hadne e3
 obtain ⟨v0_, v1_, v2_, v3_⟩ := cells4 R5.out
 have f0 := R5.out.frozen 0
 have f1 := R5.out.frozen 1
 have f2 := R5.out.frozen 2
 have f3 := R5.out.frozen 3
 refine one_ (i := 14) (N := none) #[true, true, true, true, true, true, true, true, true, true, true, true, true, true, true] rfl rfl (by kernel_rfl) (by decide) (fun K hK => ?_)
 refine skip_ (w1 := W4) (by rfl) rfl ?_ ?_
 ·rw [hW4]
  show _ = Result.ok _ ((((W3.setCell ⟨b5, 0, none⟩ (.int .i64 r.f1)).setCell ⟨b5, 1, none⟩ (.bool r.f2)).setCell ⟨b5, 2, none⟩ (.string r.f3)).setCell ⟨b5, 3, none⟩ (.slice none 0 0))
  go_simp
 refine hK.out _ _ ⟨g1, g2, g3⟩ (fun _ => ?_)
 clear hK K v0_ v1_ v2_ v3_ f0 f1 f2 f3
 refine done_ (by kernel_rfl) ?_
 clear e0 e1 e2 e3 g2 g3
 replace R2 := Aside0.mk R2n
 replace R5 := Aside0.mk R5n
 replace HB := Aside0.mk hBn
 clear R2n R5n hBn hcl hk4 hW4
 obtain ⟨x0, x1, x2, x3⟩ := cells4 R5.out
 go_wp2_with fail
 clear x0 x1 x2 x3
 have hcall := depotref06_Own.calls r.f1 r.f2 r.f3 none 0 [] 0 ow W4 (Kd.C_nil _ _) (Nat.le_refl _) HOW.out
 rw [List.length_nil] at hcall
 (with_reducible refine hcall.mono ?_)
 clear hcall
 rintro o w5 ⟨rfl, hb⟩
 replace R2 := Aside0.mk (R2.out.below hb)
 replace R5 := Aside0.mk (R5.out.below hb)
 replace HB := Aside0.mk (below_step HB.out hb)
 replace g0 := pw_cell_below hb g0
 replace g1 := pw_cell_below hb g1
 clear hb HOW
 have fin : ∀ (W : World) (vv : Value), True := fun _ _ => trivial
 clear fin
 by_cases h3 : r.f1 = 3
 ·have d3 : (r.f1 == 3) = true := beq_iff_eq.mpr h3
  obtain ⟨h3', hg⟩ : r.f1 = 3 ∧ PGTreeGets.depotref06_gather.f kk l0 1 [] = some (nl, (l0.length : Int)) := by
   rcases HK.out with h | h
   ·exact h
   ·exact absurd h3 h.1
  have HG := Aside0.mk hg
  clear hg h3' HK h3
  have pc : l0.length ≤ c := HC.out.2
  have pci : (l0.length : Int) ≤ (c : Int) := by omega
  go_wp2_with fail
  have hcall := PGTreeGets.depotref06_gather.calls kk (some ad) c l0 1 none 0 [] nl (l0.length : Int) w5 (Kd.C_below HC.out.1 HB.out) HC.out.2 (Kd.C_nil _ _) (Nat.le_refl _) HG.out
  rw [List.length_nil] at hcall
  (with_reducible refine hcall.mono ?_)
  clear hcall HG
  rintro o w6 ⟨vk, rfl, hR, hb⟩
  obtain ⟨Ag, kg, hvk, hz1, hz2⟩ := Kd.R_reads hR
  subst hvk
  clear hz1 hz2
  have H5LT : Aside0 (b5 < w5.heap.size) := ⟨R5.out.lt⟩
  have H2LT : Aside0 (b2 < w5.heap.size) := ⟨R2.out.lt⟩
  replace R2 := Aside0.mk (R2.out.below hb)
  replace R5 := Aside0.mk (R5.out.below hb)
  replace HB := Aside0.mk (below_step HB.out hb)
  have HRG := Aside0.mk hR
  clear hb hR g0 g1
  obtain ⟨u0_, u1_, u2_, u3_⟩ := cells4 R5.out
  have f3 := R5.out.frozen 3
  go_wp2_with fail
  clear u0_ u1_ u2_ u3_ f3
  obtain ⟨w7, hw7⟩ : ∃ w7, w7 = w6.setCell ⟨b5, 3, none⟩ (.slice Ag nl.length kg) := ⟨_, rfl⟩
  rw [← hw7]
  replace R5 : Aside0 (Blk w7 b5 32 [.int .i64 r.f1, .bool r.f2, .string r.f3, (.slice Ag nl.length kg)]) := ⟨by rw [hw7]; exact blk_put (cs := #[.int .i64 r.f1, .bool r.f2, .string r.f3, .slice none 0 0]) R5.out 3 _ rfl⟩
  replace R2 : Aside0 (Blk w7 b2 32 [.int .i64 0, .bool false, .string ⟨#[]⟩, .slice none 0 0]) := ⟨by
   unfold Blk
   rw [hw7, Below.heap_setCell _ _ _ _ (by exact fun e => hne e.symm)]
   exact R2.out⟩
  replace HB : Aside0 (Below w.heap.size w w7) := ⟨by rw [hw7]; exact HB.out.setCell (p := ⟨b5, 3, none⟩) (Nat.le_trans HBB.out (Nat.le_of_lt HLT.out)) _⟩
  have HRV0 : Aside0 (Kd.R kE eE w7 b2 (fun j => b2 < j) (.slice Ag nl.length kg) nl) := ⟨by
   rw [hw7]
   have h7 : Kd.R kE eE w6 w5.heap.size (fun j => w5.heap.size ≤ j) (.slice Ag nl.length kg) nl := Kd.R_mono (Kd.R_bound HRG.out) (fun j hj => hj.2.1)
   have h8 : ∀ j, w5.heap.size ≤ j → j ≠ b5 := fun j hj e => by have := H5LT.out; omega
   exact Kd.R_lower (Kd.R_mono (Kd.R_far h7 (p := ⟨b5, 3, none⟩) h8 _) (fun j hj => Nat.lt_of_lt_of_le H2LT.out hj)) (Nat.le_of_lt H2LT.out)⟩
  clear hw7 HRG
  (with_reducible refine (PGTreeGets.depotref06_fits.calls kk (some ad) c l0 (l0.length : Int) w7 (Kd.C_below HC.out.1 HB.out) HC.out.2 HFI.out).mono ?_)
  rintro o w8 ⟨rfl, hb⟩
  replace R2 := Aside0.mk (R2.out.below hb)
  replace R5 := Aside0.mk (R5.out.below hb)
  replace HB := Aside0.mk (below_step HB.out hb)
  have HRV : Aside0 (Kd.R kE eE w8 b2 (fun j => b2 < j) (.slice Ag nl.length kg) nl) := ⟨Kd.R_below HRV0.out hb⟩
  clear hb
  obtain ⟨u0_, u1_, u2_, u3_⟩ := cells4 R5.out
  obtain ⟨v0_, v1_, v2_, v3_⟩ := cells4 R2.out
  have f0 := R2.out.frozen 0
  have f1 := R2.out.frozen 1
  have f2 := R2.out.frozen 2
  have f3 := R2.out.frozen 3
  have q9 : ¬ (l0.length : Int) < (l0.length : Int) := Int.lt_irrefl _
  go_wp2_with fail
  obtain ⟨Wf, hWf⟩ : ∃ Wf, Wf = (((w8.setCell ⟨b2, 0, none⟩ (.int .i64 r.f1)).setCell ⟨b2, 1, none⟩ (.bool r.f2)).setCell ⟨b2, 2, none⟩ (.string r.f3)).setCell ⟨b2, 3, none⟩ (.slice Ag nl.length kg) := ⟨_, rfl⟩
  have hRf : Blk Wf b2 32 [.int .i64 r.f1, .bool r.f2, .string r.f3, (.slice Ag nl.length kg)] := by rw [hWf]; exact put4_blk R2.out
  have hBf : Below w.heap.size w Wf := by rw [hWf]; exact below_put4 HB.out HBB.out
  have h4 : ∀ j, b2 < j → j ≠ b2 := fun j hj e => Nat.lt_irrefl _ (e ▸ hj)
  have hRR : Kd.R kE eE Wf w.heap.size (fun _ => True) (.slice Ag nl.length kg) nl := by
   rw [hWf]
   exact Kd.R_lower (Kd.R_mono (Kd.R_far (Kd.R_far (Kd.R_far (Kd.R_far HRV.out (p := ⟨b2, 0, none⟩) h4 _) (p := ⟨b2, 1, none⟩) h4 _) (p := ⟨b2, 2, none⟩) h4 _) (p := ⟨b2, 3, none⟩) h4 _) (fun _ _ => trivial)) HBB.out
  rw [← hWf]
  obtain ⟨k0_, k1_, k2_, k3_⟩ := cells4 hRf
  exact bodyPost_ret (v := .tuple #[.agg #[.int .i64 r.f1, .bool r.f2, .string r.f3, (.slice Ag nl.length kg)], .int .i64 0, .int .i64 0]) (by simp [results, Tryd.results12, go_sem, k0_, k1_, k2_, k3_]) rfl ⟨(.slice Ag nl.length kg), rfl, hRR, hBf⟩
 ·have d3 : (r.f1 == 3) = false := beq_eq_false_iff_ne.mpr h3
  obtain ⟨hl1, hnl⟩ : l0.length = 1 ∧ nl = [] := by
   rcases HK.out with h | h
   ·exact absurd h.1 h3
   ·exact h.2
  subst hnl
  have HL1 := Aside0.mk hl1
  have p2 : (1 : Int) ≤ (l0.length : Int) := by omega
  have pc : 1 ≤ c := Nat.le_trans HSM.out.1 HC.out.2
  have pci : (1 : Int) ≤ (c : Int) := by omega
  have pl : 1 ≤ l0.length := HSM.out.1
  clear hl1 HK
  go_wp2_with fail
  rw [show (Value.slice (some ad) 1 c) = Value.slice (some ad) l0.length c from by rw [HL1.out]]
  have HRV0 : Aside0 (Kd.R kE eE w5 b2 (fun j => b2 < j) (.slice none 0 0) []) := ⟨Kd.R_nil _ _ _ _ _⟩
  (with_reducible refine (PGTreeGets.depotref06_fits.calls kk (some ad) c l0 (l0.length : Int) w5 (Kd.C_below HC.out.1 HB.out) HC.out.2 HFI.out).mono ?_)
  rintro o w8 ⟨rfl, hb⟩
  replace R2 := Aside0.mk (R2.out.below hb)
  replace R5 := Aside0.mk (R5.out.below hb)
  replace HB := Aside0.mk (below_step HB.out hb)
  have HRV : Aside0 (Kd.R kE eE w8 b2 (fun j => b2 < j) (.slice none 0 0) []) := ⟨Kd.R_below HRV0.out hb⟩
  clear hb
  obtain ⟨u0_, u1_, u2_, u3_⟩ := cells4 R5.out
  obtain ⟨v0_, v1_, v2_, v3_⟩ := cells4 R2.out
  have f0 := R2.out.frozen 0
  have f1 := R2.out.frozen 1
  have f2 := R2.out.frozen 2
  have f3 := R2.out.frozen 3
  have q9 : ¬ (l0.length : Int) < (l0.length : Int) := Int.lt_irrefl _
  go_wp2_with fail
  obtain ⟨Wf, hWf⟩ : ∃ Wf, Wf = (((w8.setCell ⟨b2, 0, none⟩ (.int .i64 r.f1)).setCell ⟨b2, 1, none⟩ (.bool r.f2)).setCell ⟨b2, 2, none⟩ (.string r.f3)).setCell ⟨b2, 3, none⟩ (.slice none 0 0) := ⟨_, rfl⟩
  have hRf : Blk Wf b2 32 [.int .i64 r.f1, .bool r.f2, .string r.f3, (.slice none 0 0)] := by rw [hWf]; exact put4_blk R2.out
  have hBf : Below w.heap.size w Wf := by rw [hWf]; exact below_put4 HB.out HBB.out
  have h4 : ∀ j, b2 < j → j ≠ b2 := fun j hj e => Nat.lt_irrefl _ (e ▸ hj)
  have hRR : Kd.R kE eE Wf w.heap.size (fun _ => True) (.slice none 0 0) [] := by
   rw [hWf]
   exact Kd.R_lower (Kd.R_mono (Kd.R_far (Kd.R_far (Kd.R_far (Kd.R_far HRV.out (p := ⟨b2, 0, none⟩) h4 _) (p := ⟨b2, 1, none⟩) h4 _) (p := ⟨b2, 2, none⟩) h4 _) (p := ⟨b2, 3, none⟩) h4 _) (fun _ _ => trivial)) HBB.out
  rw [← hWf]
  obtain ⟨k0_, k1_, k2_, k3_⟩ := cells4 hRf
  exact bodyPost_ret (v := .tuple #[.agg #[.int .i64 r.f1, .bool r.f2, .string r.f3, (.slice none 0 0)], .int .i64 0, .int .i64 0]) (by simp [results, Tryd.results12, go_sem, k0_, k1_, k2_, k3_]) rfl ⟨(.slice none 0 0), rfl, hRR, hBf⟩
open Go.Proofs.YtnemeeidomceiaaDoor.PGTreeGets in
theorem build_ok (ns : List NRow) (h : NOk ns) (n : NodeT) (hb : buildP (ns.map toRow) = (n, 0, 0)) (kk : Nat) (hk : 13000000 ≤ kk) : BuildOk kk (ns.map rowN) n := by
 rw [← ref_build] at hb
 have hR : ns.map rowN = (ns.map toRow).map rowR := by rw [List.map_map]; rfl
 have hin := h.rows
 rw [hR]
 generalize ns.map toRow = us at *
 cases us with
 | nil =>
  have hb' : ((zeroT, (50 : Int), (0 : Int)) : NodeT × Int × Int) = (n, 0, 0) := hb
  injection hb' with _ hb'
  injection hb' with hb' _
  exact absurd hb' (by decide)
 | cons r rs =>
  have hlen := hin.len
  simp only [List.length_cons] at hlen
  have ht := hin.txt r List.mem_cons_self
  have hb' : (if r.1.toList ≠ [] ∨ ownF r ≠ 0 then (zeroT, (64 : Int), (0 : Int))
   else if fitsL ((r :: rs).take ((rs.length + 1) - (refG r rs).2.length)) 24 < rs.length + 1 then (zeroT, 64, (fitsL ((r :: rs).take ((rs.length + 1) - (refG r rs).2.length)) 24 : Int))
   else ((r.2.1, r.2.2.1, r.2.2.2, (refG r rs).1), 0, 0)) = (n, 0, 0) := hb
  by_cases hA : r.1.toList ≠ [] ∨ ownF r ≠ 0
  ·rw [if_pos hA] at hb'
   injection hb' with _ hb'
   injection hb' with hb' _
   exact absurd hb' (by decide)
  ·rw [if_neg hA] at hb'
   by_cases hB : fitsL ((r :: rs).take ((rs.length + 1) - (refG r rs).2.length)) 24 < rs.length + 1
   ·rw [if_pos hB] at hb'
    injection hb' with _ hb'
    injection hb' with hb' _
    exact absurd hb' (by decide)
   ·rw [if_neg hB] at hb'
    injection hb' with hn _
    simp only [not_or, Decidable.not_not] at hA
    obtain ⟨used, s2, g1, g2, _, _⟩ := refG_said r rs 0
    have hfl := fits_le ((r :: rs).take ((rs.length + 1) - (refG r rs).2.length)) 24
    rw [List.length_take, List.length_cons] at hfl
    have ho : (refG r rs).2 = [] := List.length_eq_zero_iff.1 (by omega)
    rw [ho] at g1 hB
    rw [List.append_nil] at g1
    have htk : (r :: rs).take ((rs.length + 1) - ([] : List RowT).length) = r :: rs := List.take_of_length_le (by simp)
    rw [htk] at hB
    have hfl2 := fits_le (r :: rs) 24
    rw [List.length_cons] at hfl2
    have hfe : fitsL (r :: rs) 24 = rs.length + 1 := by omega
    have hown : ∀ q, q ∈ r :: rs → ownF q = 0 := fun q hq => by
     rcases List.mem_cons.1 hq with rfl | hq
     ·exact hA.2
     ·rw [g1] at hq; exact st_own used _ s2 g2 q hq
    have hl : (((r :: rs).map rowR).length : Int) = ((rs.length + 1 : Nat) : Int) := by rw [List.length_map]; rfl
    refine ⟨by rw [List.length_map]; simp, by rw [List.length_map]; exact hin.len, hA.1, ⟨_, by have := own_k r ht.2; rw [hA.2] at this; exact this⟩, ?_, ?_, ?_⟩
    ·rw [← hn]; exact ⟨rfl, rfl, rfl⟩
    ·by_cases h3 : r.2.1 = 3
     ·refine Or.inl ⟨h3, ?_⟩
      have hg : refG r rs = gat rs.length rs [] [] := by unfold refG; rw [if_pos h3]
      obtain ⟨k, rfl⟩ : ∃ q, kk = q + 1 := ⟨kk - 1, by omega⟩
      rw [depotref06_gather.f]
      have := gather_ok (r :: rs) hin rs.length 1 [] [] k (by simp) (by simp) (by omega) (by simp) (by simp) (by simp)
      rw [show (r :: rs).drop 1 = rs from rfl, ← hg, ho] at this
      have hn2 : n.2.2.2 = (refG r rs).1 := by rw [← hn]
      rw [hn2, hl]
      exact this
     ·have hg : refG r rs = ([], rs) := by unfold refG; rw [if_neg h3]
      rw [hg] at ho
      have ho' : rs = [] := ho
      refine Or.inr ⟨h3, by rw [ho', List.length_map]; rfl, ?_⟩
      rw [← hn, hg]
    ·have := fits_k (r :: rs) hin hown (k := kk) (by omega)
     rw [hfe] at this
     rw [hl]
     exact this
open Go.Proofs.YtnemeeidomceiaaDoor.PGTreeGets in
theorem get_okay {x y : Ent} (h : TreeOk x) (hs : 24 + tsz 32 x ≤ 1048576) {q : List ByteArray} {A C : List NRow} {g2 : Nat} (b : BlockAt 32 [] q x y A C g2) (k : Nat) (hk : 13000000 ≤ k) :
  BuildOk k (((nrows g2 q y).map (fun r => ((r.1.drop q.length, r.2) : NRow))).map rowN) (nodeOf y) := by
 have hd := nrows_drop g2 q [] y
 rw [List.append_nil] at hd
 have hrw := b.rows
 rw [List.nil_append] at hrw
 have hok : NOk ((nrows g2 q y).map (fun r => ((r.1.drop q.length, r.2) : NRow))) := h.ok.of (by rw [List.length_map, hrw, List.length_append, List.length_append]; omega) (fun r hr => by
  obtain ⟨p, hp, rfl⟩ := List.mem_map.1 hr
  exact ⟨p, q.length, by rw [hrw]; exact List.mem_append_right _ (List.mem_append_left _ hp), rfl⟩)
 refine build_ok _ hok _ ?_ k hk
 obtain ⟨w1, w2, w3⟩ := wf_up g2 32 y (by have := b.deep; omega) b.wfy
 rw [hd, ← w3 [], build_tree w1 (by have := b.size; omega)]
end Go.Proofs.YtnemeeidomceiaaDoor
end
section
namespace Go.Proofs.YtnemeeidomceiaaDoor
open Go.RowKit Go.Proofs.YtnemeeidomceiaaDoorW.PrintWords Go.Proofs.YtnemeeidomceiaaDoorW.PrintLast Go.Proofs.YtnemeeidomceiaaDoorW.PrintMore
set_option linter.unusedVariables false
set_option linter.unusedSimpArgs false
abbrev seenT : TypeId := 87
inductive CutFlow (kk : Nat) (R0 : List RefRow) (c0 : Int) (ns : List ByteArray) (cd : Int) (r : NodeT × Int) : Prop
 | bad (h : c0 ≠ 0) (hr : r = (zeroT, c0))
 | path (h : c0 = 0) (h1 : cd ≠ 0) (hr : r = (zeroT, cd))
 | root (h : c0 = 0) (h1 : cd = 0) (h2 : ns = []) (hr : r = (zeroT, 66))
 | way (h : c0 = 0) (h1 : cd = 0) (h2 : ns ≠ []) (wy : Int) (hw : PGTreeGets.depotref06_Way.f kk R0 ns = some wy) (h3 : wy ≠ 0) (hr : r = (zeroT, wy))
 | lost (h : c0 = 0) (h1 : cd = 0) (h2 : ns ≠ []) (hw : PGTreeGets.depotref06_Way.f kk R0 ns = some 0) (fr to_ : Int) (hu : PGTreeGets.depotref06_under.f kk R0 ns = some (fr, to_)) (h3 : fr < 0) (hr : r = (zeroT, 3))
 | cut (h : c0 = 0) (h1 : cd = 0) (h2 : ns ≠ []) (hw : PGTreeGets.depotref06_Way.f kk R0 ns = some 0) (fr to_ : Int) (hu : PGTreeGets.depotref06_under.f kk R0 ns = some (fr, to_)) (h3 : ¬ fr < 0) (R1 : List RefRow) (ho : PGTreeGets.depotref06_without.f kk R0 ns = some R1)
   (n : NodeT) (hb : BuildOk kk R1 n) (hr : r = (n, 0))
theorem made_zero {w W : World} {x : Int} {o : Ending} (ho : o = .returned (.tuple #[.agg #[.int .i64 0, .bool false, .string ⟨#[]⟩, .slice none 0 0], .int .i64 x])) (hb : Below w.heap.size w W) : Made w zeroT.1 zeroT.2.1 zeroT.2.2.1 zeroT.2.2.2 x o W :=
 ⟨none, 0, ho, ⟨Nat.le_refl _, Kd.C_nil _ _⟩, hb⟩
set_option maxHeartbeats 4000000 in
set_option maxRecDepth 100000 in
theorem refcut_walk (k : Int) (e : Bool) (t : ByteArray) (l : List Ent) (path : ByteArray) (A : Option Addr) (c : Nat) (w : World) (hC : Kd.C kE w A l.length l) (hc : l.length ≤ c) (kk : Nat) (R0 : List RefRow) (z0 c0 : Int) (q0 : ByteArray) (hL : depotref06_Look.f k e t l = some (R0, z0, c0, q0))
  (ns : List ByteArray) (cd pt : Int) (hS : PGTreeGets.depotref05_Split.f kk path = some (ns, cd, pt)) (r : NodeT × Int) (hF : CutFlow kk R0 c0 ns cd r) :
  Calls Tryd.prog 19 #[.agg #[.int .i64 k, .bool e, .string t, .slice A l.length c], .string path] w (Made w r.1.1 r.1.2.1 r.1.2.2.1 r.1.2.2.2 r.2) := by
 have HL := Aside0.mk hL
 have HS := Aside0.mk hS
 have HF := Aside0.mk hF
 have HC0 := Aside0.mk (And.intro hC hc)
 clear hL hS hF hC hc
 go_enter Tryd.func19, Tryd.ntmps19
 go_wp2_with fail
 obtain ⟨W1, hW1⟩ : ∃ W1, W1 = (w.alloc (.cells #[.int .i64 k, .bool e, .string t, .slice A l.length c] 32)).alloc (.cells #[.int .i64 0, .bool false, .string ⟨#[]⟩, .slice none 0 0] 32) := ⟨_, rfl⟩
 rw [← hW1]
 obtain ⟨b4, hb4⟩ : ∃ b, b = w.heap.size + 1 := ⟨_, rfl⟩
 rw [← hb4]
 have R4 : Aside0 (Blk W1 b4 32 [.int .i64 0, .bool false, .string ⟨#[]⟩, .slice none 0 0]) := ⟨by rw [hW1]; exact Blk.new' _ _ [.int .i64 0, .bool false, .string ⟨#[]⟩, .slice none 0 0] (by rw [hb4]; simp)⟩
 have HB : Aside0 (Below w.heap.size w W1) := ⟨by rw [hW1]; exact below_alloc (below_alloc (Below.refl _ _) _) _⟩
 have HC1 : Aside0 (Kd.C kE W1 A l.length l) := ⟨Kd.C_below HC0.out.1 HB.out⟩
 have HBB : Aside0 (w.heap.size ≤ b4) := ⟨by rw [hb4]; exact Nat.le_succ _⟩
 have HLT4 : Aside0 (b4 < W1.heap.size) := ⟨R4.out.lt⟩
 clear hW1 hb4
 (with_reducible refine (depotref06_Look.calls k e t A c l R0 z0 c0 q0 W1 HC1.out HC0.out.2 HL.out).mono ?_)
 rintro o w1 ⟨v0, rfl, hR, hb⟩
 obtain ⟨A1, k1, hv0, hk1, hC1⟩ := Kd.R_reads hR
 subst hv0
 have HSZ := Aside0.mk hb.size
 replace R4 := Aside0.mk (R4.out.below hb)
 replace HB := Aside0.mk (below_step HB.out hb)
 have HR := Aside0.mk hC1
 clear hb hR hC1 HC0 HC1 HL
 have hgo : ∀ (W2 : World), True := fun _ => trivial
 clear hgo
 obtain ⟨b6, hb6⟩ : ∃ b, b = w1.heap.size := ⟨_, rfl⟩
 obtain ⟨W2, hW2⟩ : ∃ W2, W2 = w1.alloc (.cells #[.slice A1 R0.length k1, .int .i64 z0, .int .i64 c0, .string q0] seenT) := ⟨_, rfl⟩
 have R6 : Aside0 (Blk W2 b6 seenT [.slice A1 R0.length k1, .int .i64 z0, .int .i64 c0, .string q0]) := ⟨by rw [hW2, hb6]; exact Blk.new w1 _ [.slice A1 R0.length k1, .int .i64 z0, .int .i64 c0, .string q0]⟩
 have hb12 : Below w1.heap.size w1 W2 := by rw [hW2]; exact below_alloc (Below.refl _ _) _
 replace R4 := Aside0.mk (R4.out.below hb12)
 replace HB := Aside0.mk (below_step HB.out hb12)
 replace HR := Aside0.mk (Kd.C_below HR.out hb12)
 have HNE : Aside0 (b6 ≠ b4) := ⟨by have := HLT4.out; have := HSZ.out; omega⟩
 clear hb12
 by_cases h0 : c0 = 0
 ·subst h0
  have d0 : ((0 : Int) != 0) = false := rfl
  go_wp2_with fail
  rw [← hW2, ← hb6]
  clear hW2 hb6
  replace HB := HB
  (with_reducible refine (PGTreeGets.depotref05_Split.calls kk path ns cd pt W2 HS.out).mono ?_)
  rintro o w2 ⟨v0, rfl, hR, hb⟩
  obtain ⟨A2, k2, hv0, hk2, hC2⟩ := Kd.R_reads hR
  subst hv0
  replace R4 := Aside0.mk (R4.out.below hb)
  replace R6 := Aside0.mk (R6.out.below hb)
  replace HB := Aside0.mk (below_step HB.out hb)
  replace HR := Aside0.mk (Kd.C_below HR.out hb)
  have HN := Aside0.mk hC2
  clear hb hR hC2 HS
  have zero : ∀ (x : Int) (W : World), True := fun _ _ => trivial
  clear zero
  by_cases h1 : cd = 0
  ·subst h1
   have d1 : ((0 : Int) == 0) = true := rfl
   by_cases h2 : ns = []
   ·have d2 : ((ns.length : Int) == 0) = true := by rw [h2]; rfl
    have hr : r = (zeroT, 66) := by
     cases HF.out with
     | bad h hr => exact absurd rfl h
     | path h h1 hr => exact absurd rfl h1
     | root h h2 h3 hr => exact hr
     | way h h1 h3 => exact absurd h2 h3
     | lost h h1 h3 => exact absurd h2 h3
     | cut h h1 h3 => exact absurd h2 h3
    clear HF
    obtain ⟨v0_, v1_, v2_, v3_⟩ := cells4 R4.out
    have f0 := R4.out.frozen 0
    have f1 := R4.out.frozen 1
    have f2 := R4.out.frozen 2
    have f3 := R4.out.frozen 3
    go_wp2_with fail
    obtain ⟨Wf, hWf⟩ : ∃ Wf, Wf = (((w2.setCell ⟨b4, 0, none⟩ (.int .i64 0)).setCell ⟨b4, 1, none⟩ (.bool false)).setCell ⟨b4, 2, none⟩ (.string ⟨#[]⟩)).setCell ⟨b4, 3, none⟩ (.slice none 0 0) := ⟨_, rfl⟩
    have hRf : Blk Wf b4 32 [.int .i64 0, .bool false, .string ⟨#[]⟩, .slice none 0 0] := by rw [hWf]; exact put4_blk R4.out
    have hBf : Below w.heap.size w Wf := by rw [hWf]; exact below_put4 HB.out HBB.out
    rw [← hWf, hr]
    obtain ⟨k0_, k1_, k2_, k3_⟩ := cells4 hRf
    refine bodyPost_ret (v := .tuple #[.agg #[.int .i64 0, .bool false, .string ⟨#[]⟩, .slice none 0 0], .int .i64 66]) (by simp [results, Tryd.results19, go_sem, k0_, k1_, k2_, k3_]) rfl (made_zero rfl hBf)
   ·have d2 : ((ns.length : Int) == 0) = false := beq_eq_false_iff_ne.mpr (by have := List.length_pos_iff.2 h2; omega)
    obtain ⟨wy, hwy⟩ : ∃ wy, PGTreeGets.depotref06_Way.f kk R0 ns = some wy := by
     cases HF.out with
     | bad h hr => exact absurd rfl h
     | path h h1 hr => exact absurd rfl h1
     | root h h1 h3 hr => exact absurd h3 h2
     | way h h1 h3 wy hw => exact ⟨wy, hw⟩
     | lost h h1 h3 hw => exact ⟨0, hw⟩
     | cut h h1 h3 hw => exact ⟨0, hw⟩
    obtain ⟨x0, x1, x2, x3⟩ := cells4 R6.out
    go_wp2_with fail
    clear x0 x1 x2 x3
    (with_reducible refine (PGTreeGets.depotref06_Way.calls kk A1 k1 R0 A2 k2 ns wy w2 HR.out hk1 HN.out hk2 hwy).mono ?_)
    rintro o w3 ⟨rfl, hb⟩
    replace R4 := Aside0.mk (R4.out.below hb)
    replace R6 := Aside0.mk (R6.out.below hb)
    replace HB := Aside0.mk (below_step HB.out hb)
    replace HR := Aside0.mk (Kd.C_below HR.out hb)
    replace HN := Aside0.mk (Kd.C_below HN.out hb)
    have HW := Aside0.mk hwy
    clear hb hwy
    by_cases h3 : wy = 0
    ·subst h3
     have d3 : ((0 : Int) != 0) = false := rfl
     obtain ⟨fr, to_, hu⟩ : ∃ fr to_, PGTreeGets.depotref06_under.f kk R0 ns = some (fr, to_) := by
      cases HF.out with
      | bad h hr => exact absurd rfl h
      | path h h1 hr => exact absurd rfl h1
      | root h h1 h3 hr => exact absurd h3 h2
      | way h h1 h3 wy hw h4 => rw [HW.out] at hw; injection hw with hw; exact absurd hw.symm h4
      | lost h h1 h3 hw fr to_ hu => exact ⟨fr, to_, hu⟩
      | cut h h1 h3 hw fr to_ hu => exact ⟨fr, to_, hu⟩
     obtain ⟨x0, x1, x2, x3⟩ := cells4 R6.out
     go_wp2_with fail
     clear x0 x1 x2 x3
     (with_reducible refine (PGTreeGets.depotref06_under.calls kk A1 k1 R0 A2 k2 ns fr to_ w3 HR.out hk1 HN.out hk2 hu).mono ?_)
     rintro o w4 ⟨rfl, hb⟩
     replace R4 := Aside0.mk (R4.out.below hb)
     replace R6 := Aside0.mk (R6.out.below hb)
     replace HB := Aside0.mk (below_step HB.out hb)
     replace HR := Aside0.mk (Kd.C_below HR.out hb)
     replace HN := Aside0.mk (Kd.C_below HN.out hb)
     have HU := Aside0.mk hu
     clear hb hu
     by_cases h4 : fr < 0
     ·have hr : r = (zeroT, 3) := by
       cases HF.out with
       | bad h hr => exact absurd rfl h
       | path h h1 hr => exact absurd rfl h1
       | root h h1 h3 hr => exact absurd h3 h2
       | way h h1 h3 wy hw h4 => rw [HW.out] at hw; injection hw with hw; exact absurd hw.symm h4
       | lost h h1 h3 hw fr to_ hu h5 hr => exact hr
       | cut h h1 h3 hw fr' to' hu h5 => rw [HU.out] at hu; injection hu with hu; injection hu with hu _; subst hu; exact absurd h4 h5
      clear HF
      obtain ⟨v0_, v1_, v2_, v3_⟩ := cells4 R4.out
      have f0 := R4.out.frozen 0
      have f1 := R4.out.frozen 1
      have f2 := R4.out.frozen 2
      have f3 := R4.out.frozen 3
      go_wp2_with fail
      obtain ⟨Wf, hWf⟩ : ∃ Wf, Wf = (((w4.setCell ⟨b4, 0, none⟩ (.int .i64 0)).setCell ⟨b4, 1, none⟩ (.bool false)).setCell ⟨b4, 2, none⟩ (.string ⟨#[]⟩)).setCell ⟨b4, 3, none⟩ (.slice none 0 0) := ⟨_, rfl⟩
      have hRf : Blk Wf b4 32 [.int .i64 0, .bool false, .string ⟨#[]⟩, .slice none 0 0] := by rw [hWf]; exact put4_blk R4.out
      have hBf : Below w.heap.size w Wf := by rw [hWf]; exact below_put4 HB.out HBB.out
      rw [← hWf, hr]
      obtain ⟨k0_, k1_, k2_, k3_⟩ := cells4 hRf
      refine bodyPost_ret (v := .tuple #[.agg #[.int .i64 0, .bool false, .string ⟨#[]⟩, .slice none 0 0], .int .i64 3]) (by simp [results, Tryd.results19, go_sem, k0_, k1_, k2_, k3_]) rfl (made_zero rfl hBf)
     ·obtain ⟨R1, n, ho, hbd, hr⟩ : ∃ R1 n, PGTreeGets.depotref06_without.f kk R0 ns = some R1 ∧ BuildOk kk R1 n ∧ r = (n, 0) := by
       cases HF.out with
       | bad h hr => exact absurd rfl h
       | path h h1 hr => exact absurd rfl h1
       | root h h1 h3 hr => exact absurd h3 h2
       | way h h1 h3 wy hw h4 => rw [HW.out] at hw; injection hw with hw; exact absurd hw.symm h4
       | lost h h1 h3 hw fr' to' hu h5 hr => rw [HU.out] at hu; injection hu with hu; injection hu with hu _; subst hu; exact absurd h5 h4
       | cut h h1 h3 hw fr' to' hu h5 R1 ho n hb hr => exact ⟨R1, n, ho, hb, hr⟩
      obtain ⟨nk, ne, nt, nl⟩ := n
      have HBD := Aside0.mk hbd
      clear HF hbd
      obtain ⟨x0, x1, x2, x3⟩ := cells4 R6.out
      go_wp2_with fail
      clear x0 x1 x2 x3
      (with_reducible refine (PGTreeGets.depotref06_without.calls kk A1 k1 R0 A2 k2 ns R1 w4 HR.out hk1 HN.out hk2 ho).mono ?_)
      rintro o w5 ⟨v0, rfl, hR, hb⟩
      obtain ⟨A5, k5, hv0, hk5, hC5⟩ := Kd.R_reads hR
      subst hv0
      replace R4 := Aside0.mk (R4.out.below hb)
      replace HB := Aside0.mk (below_step HB.out hb)
      have H5 := Aside0.mk hC5
      clear hb hR hC5 ho
      go_wp2_with fail
      have hcall := refbuild_walk R1 A5 k5 w5 H5.out hk5 kk (nk, ne, nt, nl) HBD.out
      dsimp only at hcall
      (with_reducible refine hcall.mono ?_)
      clear hcall
      rintro o w6 ⟨v0, rfl, hR, hb⟩
      have H4LT : Aside0 (b4 < w5.heap.size) := ⟨R4.out.lt⟩
      replace R4 := Aside0.mk (R4.out.below hb)
      have HR6 := Aside0.mk hR
      replace HB := Aside0.mk (below_step HB.out hb)
      clear hb hR
      obtain ⟨A6, k6, hv6, hk6, hC6⟩ := Kd.R_reads HR6.out
      subst hv6
      have H6 := Aside0.mk (And.intro hk6 hC6)
      clear hk6 hC6
      go_wp2_with ((with_reducible refine gate_dst (N := 65) rfl ?_); refine Stand.go ?_)
      unfold Stand
      obtain ⟨W7, hW7⟩ : ∃ W7, W7 = w6.alloc (.cells #[.int .i64 nk, .bool ne, .string nt, .slice A6 nl.length k6] 32) := ⟨_, rfl⟩
      obtain ⟨b12, hb12⟩ : ∃ b, b = w6.heap.size := ⟨_, rfl⟩
      rw [← hW7, ← hb12]
      have hb67 : Below w6.heap.size w6 W7 := by rw [hW7]; exact below_alloc (Below.refl _ _) _
      have R12 : Blk W7 b12 32 [.int .i64 nk, .bool ne, .string nt, .slice A6 nl.length k6] := by rw [hW7, hb12]; exact Blk.new w6 _ [.int .i64 nk, .bool ne, .string nt, .slice A6 nl.length k6]
      replace R4 := Aside0.mk (R4.out.below hb67)
      replace HB := Aside0.mk (below_step HB.out hb67)
      have HR7 : Aside0 (Kd.R kE eE W7 w5.heap.size (fun j => w5.heap.size ≤ j) (.slice A6 nl.length k6) nl) := ⟨Kd.R_below (Kd.R_mono (Kd.R_bound HR6.out) (fun j hj => hj.2.1)) hb67⟩
      clear HR6
      clear hW7 hb12 hb67
      obtain ⟨u0_, u1_, u2_, u3_⟩ := cells4 R12
      obtain ⟨v0_, v1_, v2_, v3_⟩ := cells4 R4.out
      have f0 := R4.out.frozen 0
      have f1 := R4.out.frozen 1
      have f2 := R4.out.frozen 2
      have f3 := R4.out.frozen 3
      clear R12
      go_wp2_with fail
      obtain ⟨Wf, hWf⟩ : ∃ Wf, Wf = (((W7.setCell ⟨b4, 0, none⟩ (.int .i64 nk)).setCell ⟨b4, 1, none⟩ (.bool ne)).setCell ⟨b4, 2, none⟩ (.string nt)).setCell ⟨b4, 3, none⟩ (.slice A6 nl.length k6) := ⟨_, rfl⟩
      have hRf : Blk Wf b4 32 [.int .i64 nk, .bool ne, .string nt, .slice A6 nl.length k6] := by rw [hWf]; exact put4_blk R4.out
      have hBf : Below w.heap.size w Wf := by rw [hWf]; exact below_put4 HB.out HBB.out
      have hCf : Kd.C kE Wf A6 nl.length nl := by
       have h4 : ∀ j, w5.heap.size ≤ j → j ≠ b4 := fun j hj e => by have := H4LT.out; omega
       rw [hWf]
       exact (Kd.R_reads' (Kd.R_far (Kd.R_far (Kd.R_far (Kd.R_far HR7.out (p := ⟨b4, 0, none⟩) h4 _) (p := ⟨b4, 1, none⟩) h4 _) (p := ⟨b4, 2, none⟩) h4 _) (p := ⟨b4, 3, none⟩) h4 _)).2.2
      rw [← hWf, hr]
      obtain ⟨k0_, k1_, k2_, k3_⟩ := cells4 hRf
      exact bodyPost_ret (v := .tuple #[.agg #[.int .i64 nk, .bool ne, .string nt, .slice A6 nl.length k6], .int .i64 0]) (by simp [results, Tryd.results19, go_sem, k0_, k1_, k2_, k3_]) rfl ⟨A6, k6, rfl, ⟨H6.out.1, hCf⟩, hBf⟩
    ·have d3 : (wy != 0) = true := bne_iff_ne.mpr h3
     have hr : r = (zeroT, wy) := by
      cases HF.out with
      | bad h hr => exact absurd rfl h
      | path h h1 hr => exact absurd rfl h1
      | root h h1 h3 hr => exact absurd h3 h2
      | way h h1 h3 wy' hw h4 hr => rw [HW.out] at hw; injection hw with hw; rw [hr, hw]
      | lost h h1 h3' hw => rw [HW.out] at hw; injection hw with hw; exact absurd hw h3
      | cut h h1 h3' hw => rw [HW.out] at hw; injection hw with hw; exact absurd hw h3
     clear HF
     obtain ⟨v0_, v1_, v2_, v3_⟩ := cells4 R4.out
     have f0 := R4.out.frozen 0
     have f1 := R4.out.frozen 1
     have f2 := R4.out.frozen 2
     have f3 := R4.out.frozen 3
     go_wp2_with fail
     obtain ⟨Wf, hWf⟩ : ∃ Wf, Wf = (((w3.setCell ⟨b4, 0, none⟩ (.int .i64 0)).setCell ⟨b4, 1, none⟩ (.bool false)).setCell ⟨b4, 2, none⟩ (.string ⟨#[]⟩)).setCell ⟨b4, 3, none⟩ (.slice none 0 0) := ⟨_, rfl⟩
     have hRf : Blk Wf b4 32 [.int .i64 0, .bool false, .string ⟨#[]⟩, .slice none 0 0] := by rw [hWf]; exact put4_blk R4.out
     have hBf : Below w.heap.size w Wf := by rw [hWf]; exact below_put4 HB.out HBB.out
     rw [← hWf, hr]
     obtain ⟨k0_, k1_, k2_, k3_⟩ := cells4 hRf
     refine bodyPost_ret (v := .tuple #[.agg #[.int .i64 0, .bool false, .string ⟨#[]⟩, .slice none 0 0], .int .i64 wy]) (by simp [results, Tryd.results19, go_sem, k0_, k1_, k2_, k3_]) rfl (made_zero rfl hBf)
  ·have d1 : (cd == 0) = false := beq_eq_false_iff_ne.mpr h1
   have d2 : (cd != 0) = true := bne_iff_ne.mpr h1
   have hr : r = (zeroT, cd) := by
    cases HF.out with
    | bad h hr => exact absurd rfl h
    | path h h1 hr => exact hr
    | root h h2 h3 hr => exact absurd h2 h1
    | way h h2 => exact absurd h2 h1
    | lost h h2 => exact absurd h2 h1
    | cut h h2 => exact absurd h2 h1
   clear HF
   obtain ⟨v0_, v1_, v2_, v3_⟩ := cells4 R4.out
   have f0 := R4.out.frozen 0
   have f1 := R4.out.frozen 1
   have f2 := R4.out.frozen 2
   have f3 := R4.out.frozen 3
   go_wp2_with fail
   obtain ⟨Wf, hWf⟩ : ∃ Wf, Wf = (((w2.setCell ⟨b4, 0, none⟩ (.int .i64 0)).setCell ⟨b4, 1, none⟩ (.bool false)).setCell ⟨b4, 2, none⟩ (.string ⟨#[]⟩)).setCell ⟨b4, 3, none⟩ (.slice none 0 0) := ⟨_, rfl⟩
   have hRf : Blk Wf b4 32 [.int .i64 0, .bool false, .string ⟨#[]⟩, .slice none 0 0] := by rw [hWf]; exact put4_blk R4.out
   have hBf : Below w.heap.size w Wf := by rw [hWf]; exact below_put4 HB.out HBB.out
   rw [← hWf, hr]
   obtain ⟨k0, k1_, k2_, k3⟩ := cells4 hRf
   refine bodyPost_ret (v := .tuple #[.agg #[.int .i64 0, .bool false, .string ⟨#[]⟩, .slice none 0 0], .int .i64 cd]) (by simp [results, Tryd.results19, go_sem, k0, k1_, k2_, k3]) rfl (made_zero rfl hBf)
 ·have d0 : (c0 != 0) = true := bne_iff_ne.mpr h0
  have hr : r = (zeroT, c0) := by
   cases HF.out with
   | bad h hr => exact hr
   | path h h1 hr => exact absurd h h0
   | root h h1 h2 hr => exact absurd h h0
   | way h => exact absurd h h0
   | lost h => exact absurd h h0
   | cut h => exact absurd h h0
  clear HF
  go_wp2_with fail
  rw [← hW2, ← hb6]
  clear hW2 hb6
  obtain ⟨x0, x1, x2, x3⟩ := cells4 R6.out
  have hdr : Below W2.heap.size W2 W2.drew := below_drew (Below.refl _ _)
  refine start_ (n := 5) (S := fun w' => w'.cell? ⟨b6, 2, none⟩ = some (.int .i64 c0)) (ds := []) #[false, false, false, false, false] (by kernel_rfl) rfl rfl (pw_cell_below hdr x2) (fun hHeld => ?_)
  have R4d := Aside0.mk (R4.out.below hdr)
  have HBd := Aside0.mk (below_step HB.out hdr)
  have y2 := pw_cell_below hdr x2
  generalize W2.drew = W3 at *
  clear hdr R4 HB R6 x0 x1 x2 x3
  refine pure_ (i := 0) (N := some 20) (v := ?_) (a' := ?_) #[true, false, false, false, false] rfl rfl (by kernel_rfl) (fun _ _ _ h => h) (Or.inl ⟨by rfl, ?_⟩) ?_ ?_
  rotate_left
  ·intro w'
   go_simp
   with_reducible rfl
  rotate_left
  ·simp only [Act.put, List.setIfInBounds_toArray, List.set_cons_zero, List.set_cons_succ, i64_w, i32_w]
   rfl
  refine pure_ (i := 1) (N := some 21) (v := ?_) (a' := ?_) #[true, true, false, false, false] rfl rfl (by kernel_rfl) (fun _ _ _ h => h) (Or.inl ⟨by rfl, ?_⟩) ?_ ?_
  rotate_left
  ·intro w'
   go_simp
   with_reducible rfl
  rotate_left
  ·simp only [Act.put, List.setIfInBounds_toArray, List.set_cons_zero, List.set_cons_succ, i64_w, i32_w]
   rfl
  refine take_ (i := 2) (N := some 22) (v := ?_) (a' := ?_) #[true, true, true, false, false] rfl rfl (by kernel_rfl) (fun _ _ _ h => h) (Or.inl ⟨by rfl, ?_⟩) hHeld ?_ ?_
  rotate_left
  ·intro w' s0
   go_simp
   with_reducible rfl
  rotate_left
  ·simp only [Act.put, List.setIfInBounds_toArray, List.set_cons_zero, List.set_cons_succ, i64_w, i32_w]
   rfl
  obtain ⟨Wf, hWf⟩ : ∃ Wf, Wf = (((W3.setCell ⟨b4, 0, none⟩ (.int .i64 0)).setCell ⟨b4, 1, none⟩ (.bool false)).setCell ⟨b4, 2, none⟩ (.string ⟨#[]⟩)).setCell ⟨b4, 3, none⟩ (.slice none 0 0) := ⟨_, rfl⟩
  have hRf : Blk Wf b4 32 [.int .i64 0, .bool false, .string ⟨#[]⟩, .slice none 0 0] := by rw [hWf]; exact put4_blk R4d.out
  have hBf : Below w.heap.size w Wf := by rw [hWf]; exact below_put4 HBd.out HBB.out
  have hne : b6 ≠ b4 := HNE.out
  have hyf : Wf.cell? ⟨b6, 2, none⟩ = some (.int .i64 c0) := by
   have e : Wf.heap[b6]? = W3.heap[b6]? := by
    rw [hWf, Below.heap_setCell _ _ _ _ (by exact hne), Below.heap_setCell _ _ _ _ (by exact hne), Below.heap_setCell _ _ _ _ (by exact hne), Below.heap_setCell _ _ _ _ (by exact hne)]
   unfold World.cell? at y2 ⊢
   rw [e]; exact y2
  obtain ⟨v0_, v1_, v2_, v3_⟩ := cells4 R4d.out
  have f0 := R4d.out.frozen 0
  have f1 := R4d.out.frozen 1
  have f2 := R4d.out.frozen 2
  have f3 := R4d.out.frozen 3
  refine one_ (i := 3) (N := none) #[true, true, true, true, false] rfl rfl (by kernel_rfl) (by decide) (fun K hK => ?_)
  refine skip_ (w1 := Wf) (by rfl) rfl ?_ ?_
  ·rw [hWf]
   show _ = Result.ok _ ((((W3.setCell ⟨b4, 0, none⟩ (.int .i64 0)).setCell ⟨b4, 1, none⟩ (.bool false)).setCell ⟨b4, 2, none⟩ (.string ⟨#[]⟩)).setCell ⟨b4, 3, none⟩ (.slice none 0 0))
   go_simp
  refine hK.out _ _ hyf (fun _ => ?_)
  clear hK K v0_ v1_ v2_ v3_ f0 f1 f2 f3
  refine pure_ (i := 4) (N := some 5) (v := ?_) (a' := ?_) #[true, true, true, true, true] rfl rfl (by kernel_rfl) (fun _ _ _ h => h) (Or.inl ⟨by rfl, ?_⟩) ?_ ?_
  rotate_left
  ·intro w'
   go_simp
   with_reducible rfl
  rotate_left
  ·simp only [Act.put, List.setIfInBounds_toArray, List.set_cons_zero, List.set_cons_succ, i64_w, i32_w]
   rfl
  refine done_ (by kernel_rfl) ?_
  go_wp2_with fail
  rw [hr]
  obtain ⟨k0, k1_, k2, k3⟩ := cells4 hRf
  refine bodyPost_ret (v := .tuple #[.agg #[.int .i64 0, .bool false, .string ⟨#[]⟩, .slice none 0 0], .int .i64 c0]) (by simp [results, Tryd.results19, go_sem, k0, k1_, k2, k3]) rfl (made_zero rfl hBf)
end Go.Proofs.YtnemeeidomceiaaDoor
end
section
namespace Go.Proofs.YtnemeeidomceiaaDoor
open Go.RowKit Go.Proofs.YtnemeeidomceiaaDoorW.PrintWords Go.Proofs.YtnemeeidomceiaaDoorW.PrintLast Go.Proofs.YtnemeeidomceiaaDoorW.PrintMore
set_option linter.unusedVariables false
set_option linter.unusedSimpArgs false
theorem meas2_ (i n : Nat) (h : i < n) : n - ((i : Int) + 1).toNat < n - ((i : Int)).toNat := by omega
theorem rd_ref {l : List RefRow} {j : Nat} (h : j < l.length) : rd_T29 l (j : Int) = l[j] := by simp [rd_T29, h]
def newRow (q : RefRow → ByteArray) (r : RefRow) : RefRow := ⟨q r, r.f1, r.f2, r.f3⟩
inductive GetFlow (kk : Nat) (R0 : List RefRow) (c0 : Int) (ns : List ByteArray) (cd : Int) (r : NodeT × Int) : Prop
 | bad (h : c0 ≠ 0) (hr : r = (zeroT, c0))
 | path (h : c0 = 0) (h1 : cd ≠ 0) (hr : r = (zeroT, cd))
 | way (h : c0 = 0) (h1 : cd = 0) (wy : Int) (hw : PGTreeGets.depotref06_Way.f kk R0 ns = some wy) (h3 : wy ≠ 0) (hr : r = (zeroT, wy))
 | lost (h : c0 = 0) (h1 : cd = 0) (hw : PGTreeGets.depotref06_Way.f kk R0 ns = some 0) (fr to_ : Int) (hu : PGTreeGets.depotref06_under.f kk R0 ns = some (fr, to_)) (h3 : fr < 0) (hr : r = (zeroT, 3))
 | got (h : c0 = 0) (h1 : cd = 0) (hw : PGTreeGets.depotref06_Way.f kk R0 ns = some 0) (fr m : Nat) (hu : PGTreeGets.depotref06_under.f kk R0 ns = some ((fr : Int), ((fr + m : Nat) : Int))) (hm : fr + m ≤ R0.length) (h20 : R0.length ≤ 1048576) (q : RefRow → ByteArray)
   (hq : ∀ i : Nat, i < m → ∃ ps u v, PGTreeGets.depotref05_Split.f kk (rd_T29 R0 ((fr + i : Nat) : Int)).f0 = some (ps, u, v) ∧ ns.length ≤ ps.length ∧ PGTreeGets.depotref06_pathOf.f kk (ps.drop ns.length) = some (q (rd_T29 R0 ((fr + i : Nat) : Int))))
   (n : NodeT) (hb : BuildOk kk (((R0.drop fr).take m).map (newRow q)) n) (hr : r = (n, 0))
set_option maxHeartbeats 4000000 in
set_option maxRecDepth 100000 in
theorem refget_walk (k : Int) (e : Bool) (t : ByteArray) (l : List Ent) (path : ByteArray) (A : Option Addr) (c : Nat) (w : World) (hC : Kd.C kE w A l.length l) (hc : l.length ≤ c) (kk : Nat) (R0 : List RefRow) (z0 c0 : Int) (q0 : ByteArray) (hL : depotref06_Look.f k e t l = some (R0, z0, c0, q0))
  (ns : List ByteArray) (cd pt : Int) (hS : PGTreeGets.depotref05_Split.f kk path = some (ns, cd, pt)) (r : NodeT × Int) (hF : GetFlow kk R0 c0 ns cd r) :
  Calls Tryd.prog 17 #[.agg #[.int .i64 k, .bool e, .string t, .slice A l.length c], .string path] w (Made w r.1.1 r.1.2.1 r.1.2.2.1 r.1.2.2.2 r.2) := by
 have HL := Aside0.mk hL
 have HS := Aside0.mk hS
 have HF := Aside0.mk hF
 have HC0 := Aside0.mk (And.intro hC hc)
 clear hL hS hF hC hc
 go_enter Tryd.func17, Tryd.ntmps17
 go_wp2_with fail
 obtain ⟨W1, hW1⟩ : ∃ W1, W1 = (w.alloc (.cells #[.int .i64 k, .bool e, .string t, .slice A l.length c] 32)).alloc (.cells #[.int .i64 0, .bool false, .string ⟨#[]⟩, .slice none 0 0] 32) := ⟨_, rfl⟩
 rw [← hW1]
 obtain ⟨b4, hb4⟩ : ∃ b, b = w.heap.size + 1 := ⟨_, rfl⟩
 rw [← hb4]
 have R4 : Aside0 (Blk W1 b4 32 [.int .i64 0, .bool false, .string ⟨#[]⟩, .slice none 0 0]) := ⟨by rw [hW1]; exact Blk.new' _ _ [.int .i64 0, .bool false, .string ⟨#[]⟩, .slice none 0 0] (by rw [hb4]; simp)⟩
 have HB : Aside0 (Below w.heap.size w W1) := ⟨by rw [hW1]; exact below_alloc (below_alloc (Below.refl _ _) _) _⟩
 have HC1 : Aside0 (Kd.C kE W1 A l.length l) := ⟨Kd.C_below HC0.out.1 HB.out⟩
 have HBB : Aside0 (w.heap.size ≤ b4) := ⟨by rw [hb4]; exact Nat.le_succ _⟩
 have HLT4 : Aside0 (b4 < W1.heap.size) := ⟨R4.out.lt⟩
 clear hW1 hb4
 (with_reducible refine (depotref06_Look.calls k e t A c l R0 z0 c0 q0 W1 HC1.out HC0.out.2 HL.out).mono ?_)
 rintro o w1 ⟨v0, rfl, hR, hb⟩
 obtain ⟨A1, k1, hv0, hk1, hC1⟩ := Kd.R_reads hR
 subst hv0
 have HSZ := Aside0.mk hb.size
 replace R4 := Aside0.mk (R4.out.below hb)
 replace HB := Aside0.mk (below_step HB.out hb)
 have HR := Aside0.mk hC1
 clear hb hR hC1 HC0 HC1 HL
 have hgo : ∀ (W2 : World), True := fun _ => trivial
 clear hgo
 obtain ⟨b6, hb6⟩ : ∃ b, b = w1.heap.size := ⟨_, rfl⟩
 obtain ⟨W2, hW2⟩ : ∃ W2, W2 = w1.alloc (.cells #[.slice A1 R0.length k1, .int .i64 z0, .int .i64 c0, .string q0] seenT) := ⟨_, rfl⟩
 have R6 : Aside0 (Blk W2 b6 seenT [.slice A1 R0.length k1, .int .i64 z0, .int .i64 c0, .string q0]) := ⟨by rw [hW2, hb6]; exact Blk.new w1 _ [.slice A1 R0.length k1, .int .i64 z0, .int .i64 c0, .string q0]⟩
 have hb12 : Below w1.heap.size w1 W2 := by rw [hW2]; exact below_alloc (Below.refl _ _) _
 replace R4 := Aside0.mk (R4.out.below hb12)
 replace HB := Aside0.mk (below_step HB.out hb12)
 replace HR := Aside0.mk (Kd.C_below HR.out hb12)
 have HNE : Aside0 (b6 ≠ b4) := ⟨by have := HLT4.out; have := HSZ.out; omega⟩
 clear hb12
 by_cases h0 : c0 = 0
 ·subst h0
  have d0 : ((0 : Int) != 0) = false := rfl
  go_wp2_with fail
  rw [← hW2, ← hb6]
  clear hW2 hb6
  replace HB := HB
  (with_reducible refine (PGTreeGets.depotref05_Split.calls kk path ns cd pt W2 HS.out).mono ?_)
  rintro o w2 ⟨v0, rfl, hR, hb⟩
  obtain ⟨A2, k2, hv0, hk2, hC2⟩ := Kd.R_reads hR
  subst hv0
  replace R4 := Aside0.mk (R4.out.below hb)
  replace R6 := Aside0.mk (R6.out.below hb)
  replace HB := Aside0.mk (below_step HB.out hb)
  replace HR := Aside0.mk (Kd.C_below HR.out hb)
  have HN := Aside0.mk hC2
  clear hb hR hC2 HS
  have zero : ∀ (x : Int) (W : World), True := fun _ _ => trivial
  clear zero
  by_cases h1 : cd = 0
  ·subst h1
   have d1 : ((0 : Int) == 0) = true := rfl
   obtain ⟨wy, hwy⟩ : ∃ wy, PGTreeGets.depotref06_Way.f kk R0 ns = some wy := by
    cases HF.out with
    | bad h hr => exact absurd rfl h
    | path h h1 hr => exact absurd rfl h1
    | way h h1 wy hw => exact ⟨wy, hw⟩
    | lost h h1 hw => exact ⟨0, hw⟩
    | got h h1 hw => exact ⟨0, hw⟩
   obtain ⟨x0, x1, x2, x3⟩ := cells4 R6.out
   go_wp2_with fail
   clear x0 x1 x2 x3
   (with_reducible refine (PGTreeGets.depotref06_Way.calls kk A1 k1 R0 A2 k2 ns wy w2 HR.out hk1 HN.out hk2 hwy).mono ?_)
   rintro o w3 ⟨rfl, hb⟩
   replace R4 := Aside0.mk (R4.out.below hb)
   replace R6 := Aside0.mk (R6.out.below hb)
   replace HB := Aside0.mk (below_step HB.out hb)
   replace HR := Aside0.mk (Kd.C_below HR.out hb)
   replace HN := Aside0.mk (Kd.C_below HN.out hb)
   have HW := Aside0.mk hwy
   clear hb hwy
   by_cases h3 : wy = 0
   ·subst h3
    have d3 : ((0 : Int) != 0) = false := rfl
    obtain ⟨fr, to_, hu⟩ : ∃ fr to_, PGTreeGets.depotref06_under.f kk R0 ns = some (fr, to_) := by
     cases HF.out with
     | bad h hr => exact absurd rfl h
     | path h h1 hr => exact absurd rfl h1
     | way h h1 wy hw h4 => rw [HW.out] at hw; injection hw with hw; exact absurd hw.symm h4
     | lost h h1 hw fr to_ hu => exact ⟨fr, to_, hu⟩
     | got h h1 hw fr m hu => exact ⟨_, _, hu⟩
    obtain ⟨x0, x1, x2, x3⟩ := cells4 R6.out
    go_wp2_with fail
    clear x0 x1 x2 x3
    (with_reducible refine (PGTreeGets.depotref06_under.calls kk A1 k1 R0 A2 k2 ns fr to_ w3 HR.out hk1 HN.out hk2 hu).mono ?_)
    rintro o w4 ⟨rfl, hb⟩
    replace R4 := Aside0.mk (R4.out.below hb)
    replace R6 := Aside0.mk (R6.out.below hb)
    replace HB := Aside0.mk (below_step HB.out hb)
    replace HR := Aside0.mk (Kd.C_below HR.out hb)
    replace HN := Aside0.mk (Kd.C_below HN.out hb)
    have HU := Aside0.mk hu
    clear hb hu
    by_cases h4 : fr < 0
    ·have hr : r = (zeroT, 3) := by
      cases HF.out with
      | bad h hr => exact absurd rfl h
      | path h h1 hr => exact absurd rfl h1
      | way h h1 wy hw h4 => rw [HW.out] at hw; injection hw with hw; exact absurd hw.symm h4
      | lost h h1 hw fr to_ hu h5 hr => exact hr
      | got h h1 hw fr' m hu => rw [HU.out] at hu; injection hu with hu; injection hu with hu _; omega
     clear HF
     obtain ⟨v0_, v1_, v2_, v3_⟩ := cells4 R4.out
     have f0 := R4.out.frozen 0
     have f1 := R4.out.frozen 1
     have f2 := R4.out.frozen 2
     have f3 := R4.out.frozen 3
     go_wp2_with fail
     obtain ⟨Wf, hWf⟩ : ∃ Wf, Wf = (((w4.setCell ⟨b4, 0, none⟩ (.int .i64 0)).setCell ⟨b4, 1, none⟩ (.bool false)).setCell ⟨b4, 2, none⟩ (.string ⟨#[]⟩)).setCell ⟨b4, 3, none⟩ (.slice none 0 0) := ⟨_, rfl⟩
     have hRf : Blk Wf b4 32 [.int .i64 0, .bool false, .string ⟨#[]⟩, .slice none 0 0] := by rw [hWf]; exact put4_blk R4.out
     have hBf : Below w.heap.size w Wf := by rw [hWf]; exact below_put4 HB.out HBB.out
     rw [← hWf, hr]
     obtain ⟨k0_, k1_, k2_, k3_⟩ := cells4 hRf
     refine bodyPost_ret (v := .tuple #[.agg #[.int .i64 0, .bool false, .string ⟨#[]⟩, .slice none 0 0], .int .i64 3]) (by simp [results, Tryd.results17, go_sem, k0_, k1_, k2_, k3_]) rfl (made_zero rfl hBf)
    ·obtain ⟨f, m, rfl, rfl, hm, h20, q, hq, n, hbd, hr⟩ : ∃ (f m : Nat), fr = (f : Int) ∧ to_ = ((f + m : Nat) : Int) ∧ f + m ≤ R0.length ∧ R0.length ≤ 1048576 ∧ ∃ q : RefRow → ByteArray, (∀ i : Nat, i < m → ∃ ps u v, PGTreeGets.depotref05_Split.f kk (rd_T29 R0 ((f + i : Nat) : Int)).f0 = some (ps, u, v) ∧ ns.length ≤ ps.length ∧ PGTreeGets.depotref06_pathOf.f kk (ps.drop ns.length) = some (q (rd_T29 R0 ((f + i : Nat) : Int)))) ∧
       ∃ (n : NodeT), BuildOk kk (((R0.drop f).take m).map (newRow q)) n ∧ r = (n, 0) := by
      cases HF.out with
      | bad h hr => exact absurd rfl h
      | path h h1 hr => exact absurd rfl h1
      | way h h1 wy hw h4 => rw [HW.out] at hw; injection hw with hw; exact absurd hw.symm h4
      | lost h h1 hw fr' to' hu h5 hr => rw [HU.out] at hu; injection hu with hu; injection hu with hu _; subst hu; exact absurd h5 h4
      | got h h1 hw fr' m hu hm h20 q hq n hb hr => rw [HU.out] at hu; injection hu with hu; injection hu with hu hu2; exact ⟨fr', m, hu, hu2, hm, h20, q, hq, n, hb, hr⟩
     obtain ⟨nk, ne, nt, nl⟩ := n
     have HBD := Aside0.mk hbd
     have HQ := Aside0.mk hq
     have HM := Aside0.mk (And.intro hm h20)
     clear HF HU hbd hq
     go_wp2_with fail
     obtain ⟨R1, hR1⟩ : ∃ R1, R1 = ((R0.drop f).take m).map (newRow q) := ⟨_, rfl⟩
     have hl1 : R1.length = m := by rw [hR1, List.length_map, List.length_take, List.length_drop]; omega
     have HR1 := Aside0.mk (And.intro hR1 hl1)
     rw [← hR1] at HBD
     clear hR1 hl1 hm h20
     go_loopw [12, 13, 14, 15, 16, 17] (fun v12 v13 _ _ _ _ wr => ∃ (i : Nat), i ≤ m ∧ v13 = .int .i64 ((f + i : Nat) : Int) ∧ Aside0 (Kd.R k29 29 wr w4.heap.size (fun _ => True) v12 (R1.take i)) ∧ Aside0 (Below w4.heap.size w4 wr)) (fun _ v _ _ _ _ _ => f + m - (intOf v).toNat)
     case atStart => exact ⟨0, Nat.zero_le _, rfl, ⟨Kd.R_nil _ _ _ _ _⟩, ⟨Below.refl _ _⟩⟩
     case round =>
      obtain ⟨i, hi, rfl, HRW, HBW⟩ := hrel
      obtain ⟨Aw, cw, hvw, hcw, hCw⟩ := Kd.R_reads HRW.out
      have hti : (R1.take i).length = i := by rw [List.length_take, HR1.out.2]; omega
      rw [hti] at hvw hcw
      subst hvw
      clear hti
      by_cases hlt : i < m
      ·obtain ⟨ps, pu, pv, hsp, hle, hpa⟩ := HQ.out i hlt
       obtain ⟨ad, hA, e0, e1, e2, e3⟩ := at_T29 (Kd.C_below HR.out HBW.out) ((f + i : Nat) : Int) (by omega) (by have := HM.out; omega)
       subst hA
       simp only [Int.toNat_natCast] at e0 e1 e2 e3
       obtain ⟨r0, hr0⟩ : ∃ r0, r0 = rd_T29 R0 ((f + i : Nat) : Int) := ⟨_, rfl⟩
       rw [← hr0] at e0 e1 e2 e3 hsp hpa
       have HR0 := Aside0.mk hr0
       obtain ⟨x0, x1, x2, x3⟩ := cells4 (R6.out.below HBW.out)
       have p0 : (0 : Int) ≤ ((f + i : Nat) : Int) := by omega
       have p1 : ((f + i : Nat) : Int) < (R0.length : Int) := by have := HM.out; omega
       have p2 : ((f + i : Nat) : Int) < ((f + m : Nat) : Int) := by omega
       have HPA := Aside0.mk hpa
       have HCW := Aside0.mk (And.intro hcw hCw)
       clear x1 x2 x3 hr0 hpa hcw hCw
       go_wp2_with fail
       (with_reducible refine (PGTreeGets.depotref05_Split.calls kk r0.f0 ps pu pv wr hsp).mono ?_)
       rintro o wa ⟨v0, rfl, hRa, hba⟩
       obtain ⟨A3, k3, hv3, hk3, hC3⟩ := Kd.R_reads hRa
       subst hv3
       replace e0 := pw_cell_below hba e0
       replace e1 := pw_cell_below hba e1
       replace e2 := pw_cell_below hba e2
       replace e3 := pw_cell_below hba e3
       replace x0 := pw_cell_below hba x0
       have HRA := Aside0.mk (And.intro hRa hC3)
       have HBA := Aside0.mk hba
       have q0 : (0 : Int) ≤ (ns.length : Int) := by omega
       have q1 : (ns.length : Int) ≤ (ps.length : Int) := by omega
       have q2 : ns.length ≤ ps.length := hle
       clear hba hRa hC3 hsp
       have HDR := Kd.C_drop (c := k3) (m := ns.length) HRA.out.2 hle hk3
       by_cases hkk : k3 = ns.length
       ·have hSL : (if k3 = ns.length then A3 else A3.map (·.add (ns.length * Kd.string.sz))) = A3 := if_pos hkk
        rw [hSL] at HDR
        have HDC := Aside0.mk HDR
        have q3 : (k3 : Int) = (ns.length : Int) := by omega
        clear HDR hSL
        go_wp2_with fail
        have hlen : (ps.drop ns.length).length = ps.length - ns.length := List.length_drop
        rw [← hlen]
        obtain ⟨Wb, hWb⟩ : ∃ Wb, Wb = wa.alloc (.cells #[.string r0.f0, .int .i64 r0.f1, .bool r0.f2, .string r0.f3] 29) := ⟨_, rfl⟩
        obtain ⟨b17, hb17⟩ : ∃ b, b = wa.heap.size := ⟨_, rfl⟩
        rw [← hWb, ← hb17]
        have hbab : Below wa.heap.size wa Wb := by rw [hWb]; exact below_alloc (Below.refl _ _) _
        have B17 : Aside0 (Blk Wb b17 29 [.string r0.f0, .int .i64 r0.f1, .bool r0.f2, .string r0.f3]) := ⟨by rw [hWb, hb17]; exact Blk.new wa _ [.string r0.f0, .int .i64 r0.f1, .bool r0.f2, .string r0.f3]⟩
        have HDB := Aside0.mk (Kd.C_below HDC.out hbab)
        have HBB2 := Aside0.mk (below_step HBA.out hbab)
        have HLE17 : Aside0 (wr.heap.size ≤ b17) := ⟨by rw [hb17]; exact HBA.out.size⟩
        clear hWb hb17 hbab e0 e1 e2 e3 x0 HDC
        (with_reducible refine (PGTreeGets.depotref06_pathOf.calls kk A3 0 (ps.drop ns.length) (q r0) Wb HDB.out (by rw [hlen]; omega) HPA.out).mono ?_)
        rintro o wb ⟨rfl, nd, rfl⟩
        have hbbd : Below Wb.heap.size Wb (Wb.drewN nd) := pw_below_drewN (Below.refl _ _) nd
        replace B17 := Aside0.mk (B17.out.below hbbd)
        replace HBB2 := Aside0.mk (below_step HBB2.out hbbd)
        generalize Wb.drewN nd = Wc at *
        clear hbbd HDB
        obtain ⟨y0, y1, y2, y3⟩ := cells4 B17.out
        have f0 := B17.out.frozen 0
        go_wp2_with ((with_reducible refine gate_dst (N := 84) rfl ?_); refine Stand.go ?_)
        unfold Stand
        obtain ⟨Wd, hWd⟩ : ∃ Wd, Wd = Wc.setCell ⟨b17, 0, none⟩ (.string (q r0)) := ⟨_, rfl⟩
        rw [← hWd]
        have B17e : Blk Wd b17 29 [.string (q r0), .int .i64 r0.f1, .bool r0.f2, .string r0.f3] := by rw [hWd]; exact blk_put (cs := #[.string r0.f0, .int .i64 r0.f1, .bool r0.f2, .string r0.f3]) B17.out 0 _ rfl
        have HBD2 : Aside0 (Below wr.heap.size wr Wd) := ⟨by rw [hWd]; exact HBB2.out.setCell (p := ⟨b17, 0, none⟩) HLE17.out _⟩
        clear hWd y0 y1 y2 y3 f0 B17 HBB2
        obtain ⟨y0, y1, y2, y3⟩ := cells4 B17e
        clear B17e
        go_wp2_with ((with_reducible refine gate_dst (N := 86) rfl ?_); refine Stand.go ?_)
        clear y0 y1 y2 y3
        refine Kd.R_append k29 (w0 := w4) w4.heap.size rfl (.tmp 83) (.tmp 85) 24 29 (.agg #[.string ⟨#[]⟩, .int .i64 0, .bool false, .string ⟨#[]⟩]) 48 rfl Tryd.underlying24 (by kernel_rfl) rfl (by decide) (by decide) (.slice Aw i cw) (R1.take i) (newRow q r0) [.string (q r0), .int .i64 r0.f1, .bool r0.f2, .string r0.f3] (fun _ => True) (fun k => True ∧ some k ≠ (Value.slice Aw i cw).ownBlock) ?hs ?hx (k29_mkM _ _ _ _) (fun _ h => h) (fun _ _ => trivial) (Kd.R_below HRW.out HBD2.out) (below_step HBW.out HBD2.out) (Nat.le_trans HBW.out.size HBD2.out.size) (by rw [List.length_take, HR1.out.2]; have := HM.out; omega) ?_
        case hs => rfl
        case hx => first | rfl | (go_simp; done) | (simp [Act.eval, World.setCell]; done)
        intro v1 wz hR2 hB2 _ _
        have hsnoc : R1.take i ++ [newRow q r0] = R1.take (i + 1) := by
         have hi1 : i < R1.length := by rw [HR1.out.2]; exact hlt
         rw [List.take_succ_eq_append_getElem hi1]
         congr 2
         have h5 : R1[i]? = some (newRow q r0) := by
          have hfi : f + i < R0.length := by have := HM.out; omega
          rw [HR1.out.1, List.getElem?_map, List.getElem?_take, if_pos hlt, List.getElem?_drop, List.getElem?_eq_getElem hfi, HR0.out, rd_ref hfi]
          rfl
         rw [List.getElem?_eq_getElem hi1] at h5
         injection h5 with h5
         exact h5.symm
        rw [hsnoc] at hR2
        have HR2 := Aside0.mk hR2
        have HB2 := Aside0.mk hB2
        clear hR2 hB2 hsnoc
        have hI1_ : ((f + i : Nat) : Int) + 1 ≤ 9223372036854775807 := by have := HM.out; omega
        have hI2_ : ((f + i : Nat) : Int) + 1 < 9223372036854775808 := by omega
        go_wp2_with fail
        go_roundw
        case rel => exact ⟨i + 1, hlt, congrArg (Value.int IntKind.i64) (by omega), HR2, HB2⟩
        case measure =>
         show f + m - (((f + i : Nat) : Int) + 1).toNat < f + m - (((f + i : Nat) : Int)).toNat
         exact meas2_ (f + i) _ (by omega)
       ·have hSL : (if k3 = ns.length then A3 else A3.map (·.add (ns.length * Kd.string.sz))) = Option.map (fun x => x.add ns.length) A3 := by
         rw [if_neg hkk, show ns.length * Kd.string.sz = ns.length from Nat.mul_one _]
        rw [hSL] at HDR
        have HDC := Aside0.mk HDR
        clear HDR hSL
        go_wp2_with fail
        have hlen : (ps.drop ns.length).length = ps.length - ns.length := List.length_drop
        rw [← hlen]
        obtain ⟨Wb, hWb⟩ : ∃ Wb, Wb = wa.alloc (.cells #[.string r0.f0, .int .i64 r0.f1, .bool r0.f2, .string r0.f3] 29) := ⟨_, rfl⟩
        obtain ⟨b17, hb17⟩ : ∃ b, b = wa.heap.size := ⟨_, rfl⟩
        rw [← hWb, ← hb17]
        have hbab : Below wa.heap.size wa Wb := by rw [hWb]; exact below_alloc (Below.refl _ _) _
        have B17 : Aside0 (Blk Wb b17 29 [.string r0.f0, .int .i64 r0.f1, .bool r0.f2, .string r0.f3]) := ⟨by rw [hWb, hb17]; exact Blk.new wa _ [.string r0.f0, .int .i64 r0.f1, .bool r0.f2, .string r0.f3]⟩
        have HDB := Aside0.mk (Kd.C_below HDC.out hbab)
        have HBB2 := Aside0.mk (below_step HBA.out hbab)
        have HLE17 : Aside0 (wr.heap.size ≤ b17) := ⟨by rw [hb17]; exact HBA.out.size⟩
        clear hWb hb17 hbab e0 e1 e2 e3 x0 HDC
        (with_reducible refine (PGTreeGets.depotref06_pathOf.calls kk (Option.map (fun x => x.add ns.length) A3) (k3 - ns.length) (ps.drop ns.length) (q r0) Wb HDB.out (by rw [hlen]; omega) HPA.out).mono ?_)
        rintro o wb ⟨rfl, nd, rfl⟩
        have hbbd : Below Wb.heap.size Wb (Wb.drewN nd) := pw_below_drewN (Below.refl _ _) nd
        replace B17 := Aside0.mk (B17.out.below hbbd)
        replace HBB2 := Aside0.mk (below_step HBB2.out hbbd)
        generalize Wb.drewN nd = Wc at *
        clear hbbd HDB
        obtain ⟨y0, y1, y2, y3⟩ := cells4 B17.out
        have f0 := B17.out.frozen 0
        go_wp2_with ((with_reducible refine gate_dst (N := 84) rfl ?_); refine Stand.go ?_)
        unfold Stand
        obtain ⟨Wd, hWd⟩ : ∃ Wd, Wd = Wc.setCell ⟨b17, 0, none⟩ (.string (q r0)) := ⟨_, rfl⟩
        rw [← hWd]
        have B17e : Blk Wd b17 29 [.string (q r0), .int .i64 r0.f1, .bool r0.f2, .string r0.f3] := by rw [hWd]; exact blk_put (cs := #[.string r0.f0, .int .i64 r0.f1, .bool r0.f2, .string r0.f3]) B17.out 0 _ rfl
        have HBD2 : Aside0 (Below wr.heap.size wr Wd) := ⟨by rw [hWd]; exact HBB2.out.setCell (p := ⟨b17, 0, none⟩) HLE17.out _⟩
        clear hWd y0 y1 y2 y3 f0 B17 HBB2
        obtain ⟨y0, y1, y2, y3⟩ := cells4 B17e
        clear B17e
        go_wp2_with ((with_reducible refine gate_dst (N := 86) rfl ?_); refine Stand.go ?_)
        clear y0 y1 y2 y3
        refine Kd.R_append k29 (w0 := w4) w4.heap.size rfl (.tmp 83) (.tmp 85) 24 29 (.agg #[.string ⟨#[]⟩, .int .i64 0, .bool false, .string ⟨#[]⟩]) 48 rfl Tryd.underlying24 (by kernel_rfl) rfl (by decide) (by decide) (.slice Aw i cw) (R1.take i) (newRow q r0) [.string (q r0), .int .i64 r0.f1, .bool r0.f2, .string r0.f3] (fun _ => True) (fun k => True ∧ some k ≠ (Value.slice Aw i cw).ownBlock) ?hs ?hx (k29_mkM _ _ _ _) (fun _ h => h) (fun _ _ => trivial) (Kd.R_below HRW.out HBD2.out) (below_step HBW.out HBD2.out) (Nat.le_trans HBW.out.size HBD2.out.size) (by rw [List.length_take, HR1.out.2]; have := HM.out; omega) ?_
        case hs => rfl
        case hx => first | rfl | (go_simp; done) | (simp [Act.eval, World.setCell]; done)
        intro v1 wz hR2 hB2 _ _
        have hsnoc : R1.take i ++ [newRow q r0] = R1.take (i + 1) := by
         have hi1 : i < R1.length := by rw [HR1.out.2]; exact hlt
         rw [List.take_succ_eq_append_getElem hi1]
         congr 2
         have h5 : R1[i]? = some (newRow q r0) := by
          have hfi : f + i < R0.length := by have := HM.out; omega
          rw [HR1.out.1, List.getElem?_map, List.getElem?_take, if_pos hlt, List.getElem?_drop, List.getElem?_eq_getElem hfi, HR0.out, rd_ref hfi]
          rfl
         rw [List.getElem?_eq_getElem hi1] at h5
         injection h5 with h5
         exact h5.symm
        rw [hsnoc] at hR2
        have HR2 := Aside0.mk hR2
        have HB2 := Aside0.mk hB2
        clear hR2 hB2 hsnoc
        have hI1_ : ((f + i : Nat) : Int) + 1 ≤ 9223372036854775807 := by have := HM.out; omega
        have hI2_ : ((f + i : Nat) : Int) + 1 < 9223372036854775808 := by omega
        go_wp2_with fail
        go_roundw
        case rel => exact ⟨i + 1, hlt, congrArg (Value.int IntKind.i64) (by omega), HR2, HB2⟩
        case measure =>
         show f + m - (((f + i : Nat) : Int) + 1).toNat < f + m - (((f + i : Nat) : Int)).toNat
         exact meas2_ (f + i) _ (by omega)
      ·obtain rfl : i = m := by omega
       have hfin : R1.take i = R1 := List.take_of_length_le (by rw [HR1.out.2]; exact Nat.le_refl _)
       rw [hfin] at hCw
       have hcall := refbuild_walk R1 Aw cw wr hCw (by rw [HR1.out.2]; exact hcw) kk (nk, ne, nt, nl) HBD.out
       dsimp only at hcall
       rw [HR1.out.2] at hcall
       have HCALL := Aside0.mk hcall
       clear hcall
       have R4w := Aside0.mk (R4.out.below HBW.out)
       have HBw := Aside0.mk (below_step HB.out HBW.out)
       clear hfin HRW
       go_wp2_with fail
       (with_reducible refine HCALL.out.mono ?_)
       rintro o w6 ⟨v0, rfl, hR, hb⟩
       have H4LT : Aside0 (b4 < wr.heap.size) := ⟨R4w.out.lt⟩
       replace R4w := Aside0.mk (R4w.out.below hb)
       have HR6 := Aside0.mk hR
       replace HBw := Aside0.mk (below_step HBw.out hb)
       clear hb hR
       obtain ⟨A6, k6, hv6, hk6, hC6⟩ := Kd.R_reads HR6.out
       subst hv6
       have H6 := Aside0.mk (And.intro hk6 hC6)
       clear hk6 hC6
       go_wp2_with ((with_reducible refine gate_dst (N := 93) rfl ?_); refine Stand.go ?_)
       unfold Stand
       obtain ⟨W7, hW7⟩ : ∃ W7, W7 = w6.alloc (.cells #[.int .i64 nk, .bool ne, .string nt, .slice A6 nl.length k6] 32) := ⟨_, rfl⟩
       obtain ⟨b12, hb12⟩ : ∃ b, b = w6.heap.size := ⟨_, rfl⟩
       rw [← hW7, ← hb12]
       have hb67 : Below w6.heap.size w6 W7 := by rw [hW7]; exact below_alloc (Below.refl _ _) _
       have R12 : Blk W7 b12 32 [.int .i64 nk, .bool ne, .string nt, .slice A6 nl.length k6] := by rw [hW7, hb12]; exact Blk.new w6 _ [.int .i64 nk, .bool ne, .string nt, .slice A6 nl.length k6]
       replace R4w := Aside0.mk (R4w.out.below hb67)
       replace HBw := Aside0.mk (below_step HBw.out hb67)
       have HR7 : Aside0 (Kd.R kE eE W7 wr.heap.size (fun j => wr.heap.size ≤ j) (.slice A6 nl.length k6) nl) := ⟨Kd.R_below (Kd.R_mono (Kd.R_bound HR6.out) (fun j hj => hj.2.1)) hb67⟩
       clear HR6
       clear hW7 hb12 hb67
       obtain ⟨u0_, u1_, u2_, u3_⟩ := cells4 R12
       obtain ⟨v0_, v1_, v2_, v3_⟩ := cells4 R4w.out
       have f0 := R4w.out.frozen 0
       have f1 := R4w.out.frozen 1
       have f2 := R4w.out.frozen 2
       have f3 := R4w.out.frozen 3
       clear R12
       go_wp2_with fail
       obtain ⟨Wf, hWf⟩ : ∃ Wf, Wf = (((W7.setCell ⟨b4, 0, none⟩ (.int .i64 nk)).setCell ⟨b4, 1, none⟩ (.bool ne)).setCell ⟨b4, 2, none⟩ (.string nt)).setCell ⟨b4, 3, none⟩ (.slice A6 nl.length k6) := ⟨_, rfl⟩
       have hRf : Blk Wf b4 32 [.int .i64 nk, .bool ne, .string nt, .slice A6 nl.length k6] := by rw [hWf]; exact put4_blk R4w.out
       have hBf : Below w.heap.size w Wf := by rw [hWf]; exact below_put4 HBw.out HBB.out
       have hCf : Kd.C kE Wf A6 nl.length nl := by
        have h4 : ∀ j, wr.heap.size ≤ j → j ≠ b4 := fun j hj e => by have := H4LT.out; omega
        rw [hWf]
        exact (Kd.R_reads' (Kd.R_far (Kd.R_far (Kd.R_far (Kd.R_far HR7.out (p := ⟨b4, 0, none⟩) h4 _) (p := ⟨b4, 1, none⟩) h4 _) (p := ⟨b4, 2, none⟩) h4 _) (p := ⟨b4, 3, none⟩) h4 _)).2.2
       rw [← hWf, hr]
       obtain ⟨k0_, k1_, k2_, k3_⟩ := cells4 hRf
       exact bodyPost_ret (v := .tuple #[.agg #[.int .i64 nk, .bool ne, .string nt, .slice A6 nl.length k6], .int .i64 0]) (by simp [results, Tryd.results17, go_sem, k0_, k1_, k2_, k3_]) rfl ⟨A6, k6, rfl, ⟨H6.out.1, hCf⟩, hBf⟩
   ·have d3 : (wy != 0) = true := bne_iff_ne.mpr h3
    have hr : r = (zeroT, wy) := by
     cases HF.out with
     | bad h hr => exact absurd rfl h
     | path h h1 hr => exact absurd rfl h1
     | way h h1 wy' hw h4 hr => rw [HW.out] at hw; injection hw with hw; rw [hr, hw]
     | lost h h1 hw => rw [HW.out] at hw; injection hw with hw; exact absurd hw h3
     | got h h1 hw => rw [HW.out] at hw; injection hw with hw; exact absurd hw h3
    clear HF
    obtain ⟨v0_, v1_, v2_, v3_⟩ := cells4 R4.out
    have f0 := R4.out.frozen 0
    have f1 := R4.out.frozen 1
    have f2 := R4.out.frozen 2
    have f3 := R4.out.frozen 3
    go_wp2_with fail
    obtain ⟨Wf, hWf⟩ : ∃ Wf, Wf = (((w3.setCell ⟨b4, 0, none⟩ (.int .i64 0)).setCell ⟨b4, 1, none⟩ (.bool false)).setCell ⟨b4, 2, none⟩ (.string ⟨#[]⟩)).setCell ⟨b4, 3, none⟩ (.slice none 0 0) := ⟨_, rfl⟩
    have hRf : Blk Wf b4 32 [.int .i64 0, .bool false, .string ⟨#[]⟩, .slice none 0 0] := by rw [hWf]; exact put4_blk R4.out
    have hBf : Below w.heap.size w Wf := by rw [hWf]; exact below_put4 HB.out HBB.out
    rw [← hWf, hr]
    obtain ⟨k0_, k1_, k2_, k3_⟩ := cells4 hRf
    refine bodyPost_ret (v := .tuple #[.agg #[.int .i64 0, .bool false, .string ⟨#[]⟩, .slice none 0 0], .int .i64 wy]) (by simp [results, Tryd.results17, go_sem, k0_, k1_, k2_, k3_]) rfl (made_zero rfl hBf)
  ·have d1 : (cd == 0) = false := beq_eq_false_iff_ne.mpr h1
   have d2 : (cd != 0) = true := bne_iff_ne.mpr h1
   have hr : r = (zeroT, cd) := by
    cases HF.out with
    | bad h hr => exact absurd rfl h
    | path h h1 hr => exact hr
    | way h h2 => exact absurd h2 h1
    | lost h h2 => exact absurd h2 h1
    | got h h2 => exact absurd h2 h1
   clear HF
   obtain ⟨v0_, v1_, v2_, v3_⟩ := cells4 R4.out
   have f0 := R4.out.frozen 0
   have f1 := R4.out.frozen 1
   have f2 := R4.out.frozen 2
   have f3 := R4.out.frozen 3
   go_wp2_with fail
   obtain ⟨Wf, hWf⟩ : ∃ Wf, Wf = (((w2.setCell ⟨b4, 0, none⟩ (.int .i64 0)).setCell ⟨b4, 1, none⟩ (.bool false)).setCell ⟨b4, 2, none⟩ (.string ⟨#[]⟩)).setCell ⟨b4, 3, none⟩ (.slice none 0 0) := ⟨_, rfl⟩
   have hRf : Blk Wf b4 32 [.int .i64 0, .bool false, .string ⟨#[]⟩, .slice none 0 0] := by rw [hWf]; exact put4_blk R4.out
   have hBf : Below w.heap.size w Wf := by rw [hWf]; exact below_put4 HB.out HBB.out
   rw [← hWf, hr]
   obtain ⟨k0, k1_, k2_, k3⟩ := cells4 hRf
   refine bodyPost_ret (v := .tuple #[.agg #[.int .i64 0, .bool false, .string ⟨#[]⟩, .slice none 0 0], .int .i64 cd]) (by simp [results, Tryd.results17, go_sem, k0, k1_, k2_, k3]) rfl (made_zero rfl hBf)
 ·have d0 : (c0 != 0) = true := bne_iff_ne.mpr h0
  have hr : r = (zeroT, c0) := by
   cases HF.out with
   | bad h hr => exact hr
   | path h h1 hr => exact absurd h h0
   | way h => exact absurd h h0
   | lost h => exact absurd h h0
   | got h => exact absurd h h0
  clear HF
  go_wp2_with fail
  rw [← hW2, ← hb6]
  clear hW2 hb6
  obtain ⟨x0, x1, x2, x3⟩ := cells4 R6.out
  have hdr : Below W2.heap.size W2 W2.drew := below_drew (Below.refl _ _)
  refine start_ (n := 5) (S := fun w' => w'.cell? ⟨b6, 2, none⟩ = some (.int .i64 c0)) (ds := []) #[false, false, false, false, false] (by kernel_rfl) rfl rfl (pw_cell_below hdr x2) (fun hHeld => ?_)
  have R4d := Aside0.mk (R4.out.below hdr)
  have HBd := Aside0.mk (below_step HB.out hdr)
  have y2 := pw_cell_below hdr x2
  generalize W2.drew = W3 at *
  clear hdr R4 HB R6 x0 x1 x2 x3
  refine pure_ (i := 0) (N := some 26) (v := ?_) (a' := ?_) #[true, false, false, false, false] rfl rfl (by kernel_rfl) (fun _ _ _ h => h) (Or.inl ⟨by rfl, ?_⟩) ?_ ?_
  rotate_left
  ·intro w'
   go_simp
   with_reducible rfl
  rotate_left
  ·simp only [Act.put, List.setIfInBounds_toArray, List.set_cons_zero, List.set_cons_succ, i64_w, i32_w]
   rfl
  refine pure_ (i := 1) (N := some 27) (v := ?_) (a' := ?_) #[true, true, false, false, false] rfl rfl (by kernel_rfl) (fun _ _ _ h => h) (Or.inl ⟨by rfl, ?_⟩) ?_ ?_
  rotate_left
  ·intro w'
   go_simp
   with_reducible rfl
  rotate_left
  ·simp only [Act.put, List.setIfInBounds_toArray, List.set_cons_zero, List.set_cons_succ, i64_w, i32_w]
   rfl
  refine take_ (i := 2) (N := some 28) (v := ?_) (a' := ?_) #[true, true, true, false, false] rfl rfl (by kernel_rfl) (fun _ _ _ h => h) (Or.inl ⟨by rfl, ?_⟩) hHeld ?_ ?_
  rotate_left
  ·intro w' s0
   go_simp
   with_reducible rfl
  rotate_left
  ·simp only [Act.put, List.setIfInBounds_toArray, List.set_cons_zero, List.set_cons_succ, i64_w, i32_w]
   rfl
  obtain ⟨Wf, hWf⟩ : ∃ Wf, Wf = (((W3.setCell ⟨b4, 0, none⟩ (.int .i64 0)).setCell ⟨b4, 1, none⟩ (.bool false)).setCell ⟨b4, 2, none⟩ (.string ⟨#[]⟩)).setCell ⟨b4, 3, none⟩ (.slice none 0 0) := ⟨_, rfl⟩
  have hRf : Blk Wf b4 32 [.int .i64 0, .bool false, .string ⟨#[]⟩, .slice none 0 0] := by rw [hWf]; exact put4_blk R4d.out
  have hBf : Below w.heap.size w Wf := by rw [hWf]; exact below_put4 HBd.out HBB.out
  have hne : b6 ≠ b4 := HNE.out
  have hyf : Wf.cell? ⟨b6, 2, none⟩ = some (.int .i64 c0) := by
   have e : Wf.heap[b6]? = W3.heap[b6]? := by
    rw [hWf, Below.heap_setCell _ _ _ _ (by exact hne), Below.heap_setCell _ _ _ _ (by exact hne), Below.heap_setCell _ _ _ _ (by exact hne), Below.heap_setCell _ _ _ _ (by exact hne)]
   unfold World.cell? at y2 ⊢
   rw [e]; exact y2
  obtain ⟨v0_, v1_, v2_, v3_⟩ := cells4 R4d.out
  have f0 := R4d.out.frozen 0
  have f1 := R4d.out.frozen 1
  have f2 := R4d.out.frozen 2
  have f3 := R4d.out.frozen 3
  refine one_ (i := 3) (N := none) #[true, true, true, true, false] rfl rfl (by kernel_rfl) (by decide) (fun K hK => ?_)
  refine skip_ (w1 := Wf) (by rfl) rfl ?_ ?_
  ·rw [hWf]
   show _ = Result.ok _ ((((W3.setCell ⟨b4, 0, none⟩ (.int .i64 0)).setCell ⟨b4, 1, none⟩ (.bool false)).setCell ⟨b4, 2, none⟩ (.string ⟨#[]⟩)).setCell ⟨b4, 3, none⟩ (.slice none 0 0))
   go_simp
  refine hK.out _ _ hyf (fun _ => ?_)
  clear hK K v0_ v1_ v2_ v3_ f0 f1 f2 f3
  refine pure_ (i := 4) (N := some 5) (v := ?_) (a' := ?_) #[true, true, true, true, true] rfl rfl (by kernel_rfl) (fun _ _ _ h => h) (Or.inl ⟨by rfl, ?_⟩) ?_ ?_
  rotate_left
  ·intro w'
   go_simp
   with_reducible rfl
  rotate_left
  ·simp only [Act.put, List.setIfInBounds_toArray, List.set_cons_zero, List.set_cons_succ, i64_w, i32_w]
   rfl
  refine done_ (by kernel_rfl) ?_
  go_wp2_with fail
  rw [hr]
  obtain ⟨k0, k1_, k2, k3⟩ := cells4 hRf
  refine bodyPost_ret (v := .tuple #[.agg #[.int .i64 0, .bool false, .string ⟨#[]⟩, .slice none 0 0], .int .i64 c0]) (by simp [results, Tryd.results17, go_sem, k0, k1_, k2, k3]) rfl (made_zero rfl hBf)
end Go.Proofs.YtnemeeidomceiaaDoor
end
