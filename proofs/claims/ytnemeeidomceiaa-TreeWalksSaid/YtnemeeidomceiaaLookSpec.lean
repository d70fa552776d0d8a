import Derived.Test.YtnemeeidomceiaaExtAny
/-! What a look at a tree tells, in plain words: the first offence with its path, or the archive's bytes and the rows. No program in sight. -/
namespace Go.Proofs.Ytnemeeidomceiaa
open Go.RowKit Go.Proofs.YtnemeeidomceiaaW.PrintWords
set_option linter.unusedVariables false
abbrev Ent := S49
/-- The bytes that a text of n bytes takes. -/
def fr (n : Nat) : Int := if n ≤ 1099511627776 then 8 + ((n + 7) / 8 * 8 : Nat) else 0
theorem fr_range (n : Nat) : 0 ≤ fr n ∧ fr n ≤ 1099511627792 := by unfold fr; split <;> omega
def frs : List ByteArray → Int
  | [] => 0
  | s :: l => fr s.size + frs l
theorem frs_range : ∀ l : List ByteArray, 0 ≤ frs l ∧ frs l ≤ 1099511627792 * (l.length : Int)
  | [] => by simp [frs]
  | s :: l => by
    have h1 := frs_range l
    have h2 := fr_range s.size
    simp only [frs, List.length_cons]
    omega
theorem frs_snoc : ∀ (l : List ByteArray) (s : ByteArray), frs (l ++ [s]) = frs l + fr s.size
  | [], s => by simp [frs]
  | x :: l, s => by simp only [List.cons_append, frs, frs_snoc l s]; omega
def wOpen : ByteArray := ⟨#[40]⟩
def wShut : ByteArray := ⟨#[41]⟩
def wType : ByteArray := ⟨#[116, 121, 112, 101]⟩
def wReg : ByteArray := ⟨#[114, 101, 103, 117, 108, 97, 114]⟩
def wCont : ByteArray := ⟨#[99, 111, 110, 116, 101, 110, 116, 115]⟩
def wExec : ByteArray := ⟨#[101, 120, 101, 99, 117, 116, 97, 98, 108, 101]⟩
def wNone : ByteArray := ⟨#[]⟩
def wSym : ByteArray := ⟨#[115, 121, 109, 108, 105, 110, 107]⟩
def wTarget : ByteArray := ⟨#[116, 97, 114, 103, 101, 116]⟩
def wDir : ByteArray := ⟨#[100, 105, 114, 101, 99, 116, 111, 114, 121]⟩
def wEntry : ByteArray := ⟨#[101, 110, 116, 114, 121]⟩
def wName : ByteArray := ⟨#[110, 97, 109, 101]⟩
def wNode : ByteArray := ⟨#[110, 111, 100, 101]⟩
def wMagic : ByteArray := ⟨#[100, 101, 112, 111, 116, 45, 97, 114, 99, 104, 105, 118, 101, 45, 49]⟩
def fileW (t : ByteArray) : List ByteArray := [wOpen, wType, wReg, wCont, t, wShut]
def execW : List ByteArray := [wExec, wNone]
def linkW (t : ByteArray) : List ByteArray := [wOpen, wType, wSym, wTarget, t, wShut]
def dirW : List ByteArray := [wOpen, wType, wDir, wShut]
def entW (n : ByteArray) : List ByteArray := [wEntry, wOpen, wName, n, wNode, wShut]
def magW : List ByteArray := [wMagic]
/-- The bytes of a node in an archive, but for its kids. -/
def ownS (k : Int) (e : Bool) (t : ByteArray) : Int :=
  if k = 1 then (if e = true then frs (fileW t) + frs execW else frs (fileW t)) else if k = 2 then frs (linkW t) else frs dirW
theorem ownS_range (k : Int) (e : Bool) (t : ByteArray) : 0 ≤ ownS k e t ∧ ownS k e t ≤ 10000000000000 := by
  have h1 := frs_range (fileW t)
  have h2 := frs_range execW
  have h3 := frs_range (linkW t)
  have h4 := frs_range dirW
  simp only [fileW, execW, linkW, dirW, List.length_cons, List.length_nil] at h1 h2 h3 h4
  unfold ownS
  split
  · split <;> simp only [fileW, execW] <;> omega
  · split <;> simp only [linkW, dirW] <;> omega
def entS (n : ByteArray) : Int := frs (entW n)
theorem entS_range (n : ByteArray) : 0 ≤ entS n ∧ entS n ≤ 10000000000000 := by
  have h1 := frs_range (entW n)
  simp only [entW, List.length_cons, List.length_nil] at h1
  unfold entS
  simp only [entW]
  omega
def magS : Int := frs magW
theorem magS_eq : magS = 24 := by decide
/-- May a link have this target? -/
def targetE (t : ByteArray) : Int := if t.size = 0 then 63 else if t.data.toList.contains 0 = true then 63 else 0
/-- Are a node's own fields as its kind wants them? -/
def fieldsE (k : Int) (e : Bool) (t : ByteArray) (l : List Ent) : Int :=
  if k = 1 then (if 0 < l.length then 62 else 0)
  else if k = 2 then (if e = true then 62 else if 0 < l.length then 62 else targetE t)
  else if k = 3 then (if e = true then 62 else if t.size = 0 then 0 else 62)
  else 60
/-- May a text be the name of an entry? -/
def nameE (s : ByteArray) : Int :=
  if s.size = 0 then 50 else if 255 < s.size then 6 else if Lib.containsAny s.data.toList sep.data.toList = true then 51
  else if s.toList = [46] then 52 else if s.toList = [46, 46] then 52 else 0
/-- The path of a kid. -/
def belowP (path kid : ByteArray) (depth : Int) : ByteArray := if depth = 1 then kid else path ++ ⟨#[47]⟩ ++ kid
/-- Does a stand at b, or ahead of it? -/
def nle (a b : ByteArray) : Bool := Op.bytesLess a.toList b.toList || a.toList == b.toList
abbrev RowT := ByteArray × Int × Bool × ByteArray
inductive Look
  | bad (path : ByteArray) (code : Int)
  | ok (bytes : Int) (rows : List RowT)
def Look.pre (rs : List RowT) : Look → Look
  | .bad p c => .bad p c
  | .ok b r => .ok b (rs ++ r)
theorem Look.pre_nil (s : Look) : s.pre [] = s := by cases s <;> rfl
theorem Look.pre_pre (s : Look) (a b : List RowT) : (s.pre a).pre b = s.pre (b ++ a) := by cases s <;> simp [Look.pre]
/-- What follows where a part was well. -/
def Look.then (s : Look) (k : Int → Look) : Look := match s with
  | .bad p c => .bad p c
  | .ok b r => (k b).pre r
def kidAt (nd : ByteArray → Ent → Int → Look) (depth : Int) (path : ByteArray) (prev : Option ByteArray) (x : Ent) (b : Int) : Look :=
  if nameE x.f0 ≠ 0 then .bad (belowP path x.f0 depth) (nameE x.f0)
  else if prev.any (fun p => nle x.f0 p) = true then .bad (belowP path x.f0 depth) 64
  else if 1048576 < b + entS x.f0 then .bad (belowP path x.f0 depth) 2
  else nd (belowP path x.f0 depth) x (b + entS x.f0)
def kidsL (nd : ByteArray → Ent → Int → Look) (depth : Int) (path : ByteArray) : Option ByteArray → List Ent → Int → Look
  | _, [], b => .ok b []
  | prev, x :: xs, b => (kidAt nd depth path prev x b).then (fun b2 => kidsL nd depth path (some x.f0) xs b2)
/-- A node that stands f nodes ahead of the deepest. -/
def nodeL : Nat → ByteArray → Ent → Int → Look
  | 0, path, _, _ => .bad path 61
  | f + 1, path, x, b =>
    if fieldsE x.f1 x.f2 x.f3 x.f4 ≠ 0 then .bad path (fieldsE x.f1 x.f2 x.f3 x.f4)
    else if 1048576 < b + ownS x.f1 x.f2 x.f3 then .bad path 2
    else (kidsL (nodeL f) (32 - (f : Int)) path none x.f4 (b + ownS x.f1 x.f2 x.f3)).pre [(path, x.f1, x.f2, x.f3)]
/-- The whole tree. -/
def lookL (k : Int) (e : Bool) (t : ByteArray) (l : List Ent) : Look := nodeL 32 ⟨#[]⟩ ⟨⟨#[]⟩, k, e, t, l⟩ magS
/-- The kid ahead of place i. -/
def prevAt (l : List Ent) (i : Nat) : Option ByteArray := if i = 0 then none else (l[i - 1]?).map (·.f0)
theorem prevAt_succ {l : List Ent} {i : Nat} {x : Ent} (h : l[i]? = some x) : prevAt l (i + 1) = some x.f0 := by
  unfold prevAt
  rw [if_neg (by omega), Nat.add_sub_cancel, h]
  rfl
theorem kids_step (nd : ByteArray → Ent → Int → Look) (depth : Int) (path : ByteArray) (l : List Ent) (i : Nat) (x : Ent) (h : l[i]? = some x) (b : Int) :
    kidsL nd depth path (prevAt l i) (l.drop i) b = (kidAt nd depth path (prevAt l i) x b).then (fun b2 => kidsL nd depth path (prevAt l (i + 1)) (l.drop (i + 1)) b2) := by
  obtain ⟨hi, hx⟩ := List.getElem?_eq_some_iff.1 h
  rw [List.drop_eq_getElem_cons hi, hx, prevAt_succ h]
  rfl
theorem Look.then_ok {s : Look} {b : Int} {r : List RowT} (h : s = .ok b r) (k : Int → Look) : s.then k = (k b).pre r := by rw [h]; rfl
theorem Look.then_bad {s : Look} {p : ByteArray} {c : Int} (h : s = .bad p c) (k : Int → Look) : s.then k = .bad p c := by rw [h]; rfl
theorem kids_bad {nd : ByteArray → Ent → Int → Look} {depth : Int} {path : ByteArray} {l : List Ent} {i : Nat} {x : Ent} {b : Int} {r : Look} {rs : List RowT} {q : ByteArray} {c : Int} (h : l[i]? = some x)
    (hr : r = (kidsL nd depth path (prevAt l i) (l.drop i) b).pre rs) (hk : kidAt nd depth path (prevAt l i) x b = .bad q c) : r = .bad q c := by
  rw [hr, kids_step nd depth path l i x h b, Look.then_bad hk]
  rfl
theorem kids_ok {nd : ByteArray → Ent → Int → Look} {depth : Int} {path : ByteArray} {l : List Ent} {i : Nat} {x : Ent} {b b2 : Int} {r : Look} {rs rows : List RowT} (h : l[i]? = some x)
    (hr : r = (kidsL nd depth path (prevAt l i) (l.drop i) b).pre rs) (hk : kidAt nd depth path (prevAt l i) x b = .ok b2 rows) : r = (kidsL nd depth path (prevAt l (i + 1)) (l.drop (i + 1)) b2).pre (rs ++ rows) := by
  rw [hr, kids_step nd depth path l i x h b, Look.then_ok hk, Look.pre_pre]
theorem belowP_size {path kid : ByteArray} (depth : Int) (h : nameE kid = 0) : (belowP path kid depth).size ≤ path.size + 256 := by
  have h2 : kid.size ≤ 255 := by
    unfold nameE at h
    split at h
    · omega
    · split at h
      · omega
      · omega
  unfold belowP
  split
  · omega
  · rw [ByteArray.size_append, ByteArray.size_append]
    show path.size + 1 + kid.size ≤ _
    omega
/-- Every text of the tree is one that a memory holds. -/
inductive Texts : List Ent → Prop
  | mk {l : List Ent} (h : ∀ x, x ∈ l → x.f0.size ≤ 140737488351232 ∧ x.f3.size ≤ 140737488351232) (k : ∀ x, x ∈ l → Texts x.f4) : Texts l
theorem Texts.at {l : List Ent} (h : Texts l) {i : Nat} {x : Ent} (hx : l[i]? = some x) : x.f0.size ≤ 140737488351232 ∧ x.f3.size ≤ 140737488351232 ∧ Texts x.f4 := by
  cases h with
  | mk h k => exact ⟨(h x (List.mem_of_getElem? hx)).1, (h x (List.mem_of_getElem? hx)).2, k x (List.mem_of_getElem? hx)⟩
/-- A link or a file has no kids where its fields are as they should be. -/
theorem fields_kids {k : Int} {e : Bool} {t : ByteArray} {l : List Ent} (h : fieldsE k e t l = 0) (hk : k ≠ 3) : l = [] := by
  unfold fieldsE at h
  split at h
  · split at h
    · omega
    · exact List.length_eq_zero_iff.1 (by omega)
  · split at h
    · split at h
      · omega
      · split at h
        · omega
        · exact List.length_eq_zero_iff.1 (by omega)
    · first | omega | (rw [if_neg hk] at h; omega)
theorem fields_kind {k : Int} {e : Bool} {t : ByteArray} {l : List Ent} (h : fieldsE k e t l = 0) : k = 1 ∨ k = 2 ∨ k = 3 := by
  unfold fieldsE at h
  by_cases h1 : k = 1
  · exact .inl h1
  by_cases h2 : k = 2
  · exact .inr (.inl h2)
  by_cases h3 : k = 3
  · exact .inr (.inr h3)
  rw [if_neg h1, if_neg h2, if_neg h3] at h
  omega
theorem kidsL_all {nd : ByteArray → Ent → Int → Look} {depth : Int} {path : ByteArray} (P : Int → Look → Prop) (hb : ∀ p c b, c ≠ 0 → P b (.bad p c)) (hnd : ∀ q x b, P b (nd q x b))
    (hok : ∀ b, P b (.ok b [])) (hmono : ∀ b b' s, b ≤ b' → b' ≤ 1048576 → P b' s → P b s) (hpre : ∀ b b2 rows s, P b (.ok b2 rows) → P b2 s → P b (s.pre rows)) (hbad0 : ∀ b p c, P b (.bad p c) → c ≠ 0) : ∀ (l : List Ent) (prev : Option ByteArray) (b : Int), P b (kidsL nd depth path prev l b)
  | [], prev, b => hok b
  | x :: l, prev, b => by
    have hk : P b (kidAt nd depth path prev x b) := by
      unfold kidAt
      have he := entS_range x.f0
      split
      · rename_i h; exact hb _ _ _ h
      · split
        · exact hb _ _ _ (by decide)
        · split
          · exact hb _ _ _ (by decide)
          · exact hmono _ _ _ (by omega) (by omega) (hnd _ _ _)
    show P b ((kidAt nd depth path prev x b).then (fun b2 => kidsL nd depth path (some x.f0) l b2))
    cases hs : kidAt nd depth path prev x b with
    | bad q c => rw [hs] at hk; exact hk
    | ok b2 rows => rw [hs] at hk; exact hpre _ _ _ _ hk (kidsL_all P hb hnd hok hmono hpre hbad0 l (some x.f0) b2)
/-- No offence has the number 0; and each row takes a byte at least. -/
def LookFair (b : Int) : Look → Prop
  | .bad _ c => c ≠ 0
  | .ok b2 rows => b + (rows.length : Int) ≤ b2 ∧ (b ≤ 1048576 → b2 ≤ 1048576)
theorem own_pos (k : Int) (e : Bool) (t : ByteArray) : 1 ≤ ownS k e t := by
  have h1 : 16 ≤ frs (fileW t) := by
    have := frs_range [wType, wReg, wCont, t, wShut]
    have e : frs (fileW t) = fr wOpen.size + frs [wType, wReg, wCont, t, wShut] := rfl
    have e2 : fr wOpen.size = 16 := rfl
    omega
  have h2 : 16 ≤ frs (linkW t) := by
    have := frs_range [wType, wSym, wTarget, t, wShut]
    have e : frs (linkW t) = fr wOpen.size + frs [wType, wSym, wTarget, t, wShut] := rfl
    have e2 : fr wOpen.size = 16 := rfl
    omega
  have h3 : 16 ≤ frs dirW := by decide
  have h4 := frs_range execW
  unfold ownS
  split
  · split <;> omega
  · split <;> omega
theorem nodeL_fair : ∀ (f : Nat) (path : ByteArray) (x : Ent) (b : Int), LookFair b (nodeL f path x b)
  | 0, _, _, _ => by show (61 : Int) ≠ 0; decide
  | f + 1, path, x, b => by
    unfold nodeL
    split
    · rename_i h; exact h
    · split
      · show (2 : Int) ≠ 0; decide
      · have ho := own_pos x.f1 x.f2 x.f3
        have hk := kidsL_all (nd := nodeL f) (depth := 32 - (f : Int)) (path := path) LookFair (fun p c b h => h) (fun q y b => nodeL_fair f q y b) (fun b => by show b + 0 ≤ b ∧ (b ≤ 1048576 → b ≤ 1048576); omega)
          (fun b b' s hb hm h => by cases s with
            | bad => exact h
            | ok b2 rows => simp only [LookFair] at h ⊢; omega)
          (fun b b2 rows s h1 h2 => by cases s with
            | bad => exact h2
            | ok b3 rows2 => simp only [LookFair, Look.pre, List.length_append] at h1 h2 ⊢; omega) (fun b p c h => h) x.f4 none (b + ownS x.f1 x.f2 x.f3)
        generalize kidsL (nodeL f) (32 - (f : Int)) path none x.f4 (b + ownS x.f1 x.f2 x.f3) = s at hk
        cases s with
        | bad => exact hk
        | ok b2 rows =>
          simp only [LookFair, Look.pre, List.length_append, List.length_singleton] at hk ⊢
          omega
end Go.Proofs.Ytnemeeidomceiaa
