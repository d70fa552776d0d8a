import Derived.Test.YtnemeeidomceiaaDoorMa8
import Derived.Test.YtnemeeidomceiaaDoorPBTreeBackx2Ma
set_option linter.unusedSimpArgs false
set_option linter.unusedVariables false
namespace Go.Proofs.YtnemeeidomceiaaDoor.PBTreeBack
open Go.RowKit Go.Proofs.YtnemeeidomceiaaDoorW.PrintWords Go.Proofs.YtnemeeidomceiaaDoor
set_option linter.unusedSimpArgs false
set_option linter.unusedVariables false
abbrev Sm (s : ByteArray) : Prop := s.size ≤ 140737488351232
theorem below_size' (p s : ByteArray) (d : Int) : (belowP p s d).size ≤ p.size + 1 + s.size := by
 unfold belowP
 split
 ·omega
 ·rw [ByteArray.size_append, ByteArray.size_append]
  have : (⟨#[47]⟩ : ByteArray).size = 1 := rfl
  omega
theorem trows_small : ∀ (g : Nat) (p : ByteArray) (x : Ent), wf g x → Sm x.f3 → Texts x.f4 → ∀ r, r ∈ trows g p x → r.1.size ≤ p.size + 256 * g ∧ Sm r.2.2.2
 | 0, p, x, hw, h3, h4, r, hr => hw.elim
 | g + 1, p, x, hw, h3, h4, r, hr => by
  obtain ⟨w1, w2, w3, w4⟩ := hw
  have hr' : r ∈ (p, x.f1, x.f2, x.f3) :: x.f4.flatMap (fun y => trows g (belowP p y.f0 (32 - (g : Int))) y) := hr
  rcases List.mem_cons.1 hr' with rfl | hr'
  ·exact ⟨by show p.size ≤ _; omega, h3⟩
  ·obtain ⟨y, hy, hry⟩ := List.mem_flatMap.1 hr'
   cases h4 with
   | mk h k =>
    obtain ⟨a, b⟩ := trows_small g _ y (w4 y hy) (h y hy).2 (k y hy) r hry
    have hs := nameE_size (w2 y hy)
    have hb := below_size' p y.f0 (32 - (g : Int))
    exact ⟨by omega, b⟩
theorem texts_last {z : Ent} (hz : Sm z.f0 ∧ Sm z.f3) (hzk : Texts z.f4) : ∀ (k : Nat) (l : List Ent), Texts l → Texts (lastAt (fun l => l ++ [z]) k l)
 | 0, l, h => by
  cases h with
  | mk h k => exact Texts.mk (fun x hx => by
    rcases List.mem_append.1 hx with hx | hx
    ·exact h x hx
    ·rw [List.mem_singleton] at hx; rw [hx]; exact hz) (fun x hx => by
    rcases List.mem_append.1 hx with hx | hx
    ·exact k x hx
    ·rw [List.mem_singleton] at hx; rw [hx]; exact hzk)
 | k + 1, l, h => by
  cases hx : l.getLast? with
  | none => rw [lastAt, hx]; exact h
  | some x =>
   have hm := List.mem_of_getLast? hx
   rw [lastAt_succ hx]
   cases h with
   | mk h kk =>
    exact Texts.mk (fun y hy => by
     rcases List.mem_append.1 hy with hy | hy
     ·exact h y (List.dropLast_subset _ hy)
     ·rw [List.mem_singleton] at hy; rw [hy]; exact h x hm) (fun y hy => by
     rcases List.mem_append.1 hy with hy | hy
     ·exact kk y (List.dropLast_subset _ hy)
     ·rw [List.mem_singleton] at hy; rw [hy]; exact texts_last hz hzk k x.f4 (kk x hm))
theorem step_held {s s2 : BSt} {r : RowT} (h : Held s.n.2.2.1 s.n.2.2.2) (hr : Sm r.2.2.2) (hs : stepB s r = some s2) : Held s2.n.2.2.1 s2.n.2.2.2 := by
 unfold stepB at hs
 split at hs
 ·cases hs
 split at hs
 ·split at hs
  ·cases hs
  ·injection hs with hs
   subst hs
   exact ⟨Texts.mk (fun x hx => (by cases hx)) (fun x hx => (by cases hx)), hr⟩
 ·have hnm := split_names r.1
  cases hz : (splitP r.1).1.getLast? with
  | none => rw [hz] at hs; cases hs
  | some z =>
   rw [hz] at hs
   simp only at hs
   split at hs
   ·cases hs
   split at hs
   ·cases hs
   split at hs
   ·cases hs
   injection hs with hs
   subst hs
   have hzs := nameE_size (hnm.1 z (List.mem_of_getLast? hz))
   exact ⟨texts_last (z := leafX r z) ⟨by show z.size ≤ _; omega, hr⟩ (Texts.mk (fun x hx => (by cases hx)) (fun x hx => (by cases hx))) _ _ h.1, h.2⟩
theorem st_held : ∀ (rs : List RowT) (s s2 : BSt), Held s.n.2.2.1 s.n.2.2.2 → (∀ r, r ∈ rs → Sm r.2.2.2) → stB rs s = some s2 → Held s2.n.2.2.1 s2.n.2.2.2
 | [], s, s2, h, _, hs => by injection hs with hs; subst hs; exact h
 | r :: rs, s, s2, h, hr, hs => by
  unfold stB at hs
  cases h1 : stepB s r with
  | none => rw [h1] at hs; cases hs
  | some s1 =>
   rw [h1] at hs
   exact st_held rs s1 s2 (step_held h (hr r List.mem_cons_self) h1) (fun q hq => hr q (List.mem_cons_of_mem _ hq)) hs
theorem held_zero : Held initB.n.2.2.1 initB.n.2.2.2 := ⟨Texts.mk (fun x hx => (by cases hx)) (fun x hx => (by cases hx)), by decide⟩
theorem same_rows (l : List OwnRw) : (l.map rowU).map rowW = l := by
 rw [List.map_map]
 have : (rowW ∘ rowU) = id := by funext r; cases r; rfl
 rw [this, List.map_id]
theorem same_rows2 (l : List RowT) : (l.map rowW).map rowU = l := by
 rw [List.map_map]
 have : (rowU ∘ rowW) = id := by funext r; rfl
 rw [this, List.map_id]
theorem loop_true (l : List OwnRw) (hl : l.length ≤ 140737488351232) : ∀ (d i k : Nat), l.length - i = d → i ≤ l.length → d < k → depotlaw06_TreeBack.l0 k l l (l.length : Int) (i : Int) = some true
 | 0, i, k, hd, hi, hk => by
  obtain ⟨k, rfl⟩ : ∃ q, k = q + 1 := ⟨k - 1, by omega⟩
  rw [depotlaw06_TreeBack.l0, if_neg (by omega)]
 | d + 1, i, k, hd, hi, hk => by
  obtain ⟨k, rfl⟩ : ∃ q, k = q + 1 := ⟨k - 1, by omega⟩
  have hw : wrap64 ((i : Int) + 1) = ((i + 1 : Nat) : Int) := by
   rw [show (i : Int) + 1 = ((i + 1 : Nat) : Int) from by omega]
   exact (Go.Proofs.YtnemeeidomceiaaDoorW.PrintLast.i64_w _).symm.trans (IntWalk.i64_in _ (by omega))
  rw [depotlaw06_TreeBack.l0, hw]
  clear hw
  rw [if_pos (by omega), if_pos (by omega), if_pos (by omega), if_pos (by omega), if_pos rfl, if_pos rfl, if_pos rfl, if_pos rfl]
  exact loop_true l hl d (i + 1) k (by omega) (by omega) (by omega)
theorem build_some {l : List OwnRw} (h : RowsOk l) : tree_Build.f l = some (flatB (buildP (l.map rowU))) := if_pos h
theorem back_true (l : List OwnRw) (hl : l.length ≤ 140737488351232) (h : RowsOk l) (k : Nat) (hk : l.length + 1 < k) : depotlaw06_TreeBack.j0 (k + 1) l = some true := by
 rw [depotlaw06_TreeBack.j0, build_some h]
 simp only [Option.bind_some]
 by_cases h0 : l = []
 ·subst h0
  rfl
 ·have hlen : 0 < l.length := List.length_pos_iff.2 h0
  have hne : l.map rowU ≠ [] := fun e => h0 (List.map_eq_nil_iff.1 e)
  have hb : buildP (l.map rowU) = goB (l.map rowU) initB 0 := by unfold buildP; rw [if_neg hne]
  rcases goB_first (l.map rowU) initB 0 with ⟨_, s2, h2⟩ | ⟨j, h1, h2, _, _⟩
  ·rw [hb, goB_some _ _ s2 0 h2]
   have hi := built_rows hne h2
   obtain ⟨hc, hlk⟩ := built_look hi
   have hheld := st_held (l.map rowU) initB s2 held_zero (fun r hr => by
    obtain ⟨q, hq, rfl⟩ := List.mem_map.1 hr
    exact (h q hq).2) h2
   have hck : tree_Check.f s2.n.1 s2.n.2.1 s2.n.2.2.1 s2.n.2.2.2 = some (⟨#[]⟩, 0) := by
    unfold tree_Check.f
    rw [if_pos hheld, hlk]
    rfl
   have hwk : tree_Walk.f s2.n.1 s2.n.2.1 s2.n.2.2.1 s2.n.2.2.2 = some (l, 0) := by
    unfold tree_Walk.f
    rw [if_pos hheld, hlk]
    show some ((l.map rowU).map rowW, (0 : Int)) = _
    rw [same_rows]
   simp only [flatB, if_true]
   rw [hck, hwk]
   simp only [Option.bind_some, if_true]
   obtain ⟨k, rfl⟩ : ∃ q, k = q + 1 := ⟨k - 1, by omega⟩
   rw [depotlaw06_TreeBack.j1, if_neg (by simp)]
   exact loop_true l hl l.length 0 k (by omega) (Nat.zero_le _) (by omega)
  ·rw [List.length_map] at h1
   rw [hb, h2]
   show (if (64 : Int) = 0 then _ else if (l.length : Int) = 0 then some true else if 0 + (j : Int) ≥ 0 then some (decide (0 + (j : Int) < (l.length : Int))) else some false) = _
   rw [if_neg (show ¬ (64 : Int) = 0 by decide), if_neg (show ¬ (l.length : Int) = 0 by omega), if_pos (show (0 : Int) + (j : Int) ≥ 0 by omega), decide_eq_true (by omega)]
theorem law_true (a : Int) (b : Bool) (c : ByteArray) (l : List Ent) (rows : List OwnRw) (hh : Held c l) (hf : Fit l) (hl : rows.length ≤ 140737488351232) (hok : RowsOk rows) : ∃ k, depotlaw06_TreeBack.f k a b c l rows = some true := by
 refine ⟨rows.length + 2 + 1, ?_⟩
 have hback := back_true rows hl hok (rows.length + 2) (by omega)
 unfold depotlaw06_TreeBack.f
 rw [show depotlaw06_awake.f = some true from rfl]
 have hck : tree_Check.f a b c l = some (lookPath (lookL a b c l), lookCode (lookL a b c l)) := by unfold tree_Check.f; rw [if_pos hh]
 have hwk : tree_Walk.f a b c l = some ((lookRows (lookL a b c l)).map rowW, lookCode (lookL a b c l)) := by unfold tree_Walk.f; rw [if_pos hh]
 rw [hck, hwk]
 simp only [Option.bind_some, if_true]
 by_cases h0 : lookCode (lookL a b c l) = 0
 ·rw [if_pos h0]
  have hfair := nodeL_fair 32 ⟨#[]⟩ ⟨⟨#[]⟩, a, b, c, l⟩ magS
  cases hs : lookL a b c l with
  | bad p q =>
   rw [hs] at h0
   have hfair' : LookFair magS (lookL a b c l) := hfair
   rw [hs] at hfair'
   exact absurd h0 hfair'
  | ok bb rws =>
   obtain ⟨s, r1, r2, r3, r4⟩ := rows_build (n := (a, b, c, l)) hs
   obtain ⟨q1, q2, q3, q4⟩ := (look_iff a b c l bb rws).1 hs
   have hsm : RowsOk (rws.map rowW) := fun r hr => by
    obtain ⟨q, hq, rfl⟩ := List.mem_map.1 hr
    rw [q4] at hq
    obtain ⟨z1, z2⟩ := trows_small 32 ⟨#[]⟩ ⟨⟨#[]⟩, a, b, c, l⟩ q1 hh.2 hh.1 q hq
    have : (⟨#[]⟩ : ByteArray).size = 0 := rfl
    exact ⟨by show q.1.size ≤ _; omega, z2⟩
   have hbd : tree_Build.f (rws.map rowW) = some (a, b, c, l, 0, 0) := by
    rw [build_some hsm, same_rows2]
    unfold buildP
    rw [if_neg r3, goB_some rws initB s 0 r1, r2]
    rfl
   show ((tree_Build.f (rws.map rowW)).bind _) = _
   rw [hbd]
   simp only [Option.bind_some, if_true]
   unfold depotref06_Equal.f
   rw [if_pos hf]
   simp only [Option.bind_some]
   rw [decide_eq_true trivial]
   simp only [if_true]
   show (if (((rws.map rowW).length : Nat) : Int) = 0 then some false else if 0 < (((rws.map rowW).length : Nat) : Int) then (if (rd_T27 (rws.map rowW) 0).f0.toList = [] then _ else _) else _) = _
   have hpos : 0 < rws.length := List.length_pos_iff.2 r3
   rw [List.length_map, if_neg (by omega), if_pos (by omega)]
   rw [if_pos]
   ·exact hback
   ·cases rws with
    | nil => exact absurd rfl r3
    | cons r rs =>
     have h5 : some r.1 = some (⟨#[]⟩ : ByteArray) := r4
     injection h5 with h5
     show r.1.toList = []
     rw [h5, Lib.toList_data]
 ·rw [if_neg h0]
  exact hback
end Go.Proofs.YtnemeeidomceiaaDoor.PBTreeBack
