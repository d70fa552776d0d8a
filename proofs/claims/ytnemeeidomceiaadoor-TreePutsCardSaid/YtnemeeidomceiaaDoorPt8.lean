import Derived.Test.YtnemeeidomceiaaDoorDelEnt
import Derived.Test.YtnemeeidomceiaaDoorInsEnt
import Derived.Test.YtnemeeidomceiaaDoorPt4
import Derived.Laws.MakeOwn
set_option linter.unusedSimpArgs false
set_option linter.unusedVariables false
section
namespace Go.Proofs.YtnemeeidomceiaaDoor
open Go.RowKit Go.Proofs.YtnemeeidomceiaaDoorW.PrintWords Go.Proofs.YtnemeeidomceiaaDoorW.PrintLast Go.Proofs.YtnemeeidomceiaaDoorW.PrintMore
set_option linter.unusedVariables false
set_option linter.unusedSimpArgs false
abbrev eE : Nat := 63
abbrev kE : Kd Ent := k63
/-- An entry's cells. -/
def ecells (x : Ent) (u : Value) : List Value := [.string x.f0, .int .i64 x.f1, .bool x.f2, .string x.f3, u]
theorem ecells_len (x : Ent) (u : Value) : (ecells x u).length = 5 := rfl
/-- A kid: its entry, its row's value, its blocks. -/
structure Kid where
 x : Ent
 u : Value
 f : Nat → Prop
/-- A row's cells. -/
def fl : List Kid → List Value
 | [] => []
 | t :: ts => ecells t.x t.u ++ fl ts
theorem fl_len : ∀ ts : List Kid, (fl ts).length = ts.length * 5
 | [] => rfl
 | t :: ts => by rw [fl, List.length_append, ecells_len, fl_len ts, List.length_cons]; omega
theorem fl_append : ∀ a b : List Kid, fl (a ++ b) = fl a ++ fl b
 | [], b => rfl
 | t :: a, b => by
  show ecells t.x t.u ++ fl (a ++ b) = (ecells t.x t.u ++ fl a) ++ fl b
  rw [fl_append a b, List.append_assoc]
theorem fl_one (t : Kid) : fl [t] = ecells t.x t.u := by show ecells t.x t.u ++ [] = _; rw [List.append_nil]
theorem fl_take (ts : List Kid) (i : Nat) (hi : i ≤ ts.length) : (fl ts).take (i * 5) = fl (ts.take i) := by
 have h1 := fl_len (ts.take i)
 rw [List.length_take, Nat.min_eq_left hi] at h1
 conv => lhs; rw [← List.take_append_drop i ts, fl_append]
 rw [← h1, List.take_left]
theorem fl_drop (ts : List Kid) (i : Nat) (hi : i ≤ ts.length) : (fl ts).drop (i * 5) = fl (ts.drop i) := by
 have h1 := fl_len (ts.take i)
 rw [List.length_take, Nat.min_eq_left hi] at h1
 conv => lhs; rw [← List.take_append_drop i ts, fl_append]
 rw [← h1, List.drop_left]
theorem fl_at (ts : List Kid) (i : Nat) (t : Kid) (ht : ts[i]? = some t) (j : Nat) (hj : j < 5) : (fl ts)[i * 5 + j]? = (ecells t.x t.u)[j]? := by
 obtain ⟨hi, ht⟩ := List.getElem?_eq_some_iff.1 ht
 rw [← List.getElem?_drop, fl_drop ts i (Nat.le_of_lt hi), List.drop_eq_getElem_cons hi, ht, fl, List.getElem?_append_left (by rw [ecells_len]; exact hj)]
theorem fl_seg (ts : List Kid) (i : Nat) (t : Kid) (ht : ts[i]? = some t) : ((fl ts).drop (i * 5)).take 5 = ecells t.x t.u := by
 obtain ⟨hi, ht⟩ := List.getElem?_eq_some_iff.1 ht
 rw [fl_drop ts i (Nat.le_of_lt hi), List.drop_eq_getElem_cons hi, ht, fl, show 5 = (ecells t.x t.u).length from rfl, List.take_left]
theorem fl_set (ts : List Kid) (i : Nat) (t : Kid) (hi : i < ts.length) : fl (ts.set i t) = (fl ts).take (i * 5) ++ ecells t.x t.u ++ (fl ts).drop ((i + 1) * 5) := by
 rw [fl_take ts i (Nat.le_of_lt hi), fl_drop ts (i + 1) hi, List.set_eq_take_append_cons_drop, if_pos hi, fl_append, List.append_assoc]
 rfl
/-- No two kids have a block in common. -/
def Sep (ts : List Kid) : Prop := ts.Pairwise (fun a b => ∀ k, a.f k → ¬ b.f k)
inductive Own (w : World) (base : Nat) : (Nat → Prop) → Value → List Ent → Prop
 | mk (ok : Nat → Prop) (v : Value) (l : List Ent) (ts : List Kid) (hl : l = ts.map (·.x)) (row : w.ownsRow base eE 5 v ts.length (fl ts)) (own : ∀ k, v.ownBlock = some k → ok k)
  (sub : ∀ t : Kid, t ∈ ts → Own w base t.f t.u t.x.f4) (inn : ∀ t : Kid, t ∈ ts → ∀ k, t.f k → ok k ∧ some k ≠ v.ownBlock) (sep : Sep ts) : Own w base ok v l
section
variable {w w1 : World} {base : Nat} {ok ok' : Nat → Prop} {v : Value} {l : List Ent} {ts : List Kid}
theorem Own.mono (h : Own w base ok v l) (hok : ∀ k, ok k → ok' k) : Own w base ok' v l := by
 cases h with
 | mk _ _ _ ts hl row own sub inn sep => exact .mk _ _ _ ts hl row (fun k hk => hok k (own k hk)) sub (fun t ht k h2 => ⟨hok k (inn t ht k h2).1, (inn t ht k h2).2⟩) sep
/-- What a tree's blocks are. -/
def OwnB (w : World) (base : Nat) (ok : Nat → Prop) (k : Nat) : Prop := ok k ∧ base ≤ k ∧ k < w.heap.size ∧ ∃ cells, w.heap[k]? = some (.cells cells eE (0, 0))
theorem fl_map (g : (Nat → Prop) → Nat → Prop) : ∀ ts : List Kid, fl (ts.map (fun t => ⟨t.x, t.u, g t.f⟩)) = fl ts
 | [] => rfl
 | t :: ts => by rw [List.map_cons, fl, fl, fl_map g ts]
theorem Own.bound (h : Own w base ok v l) : Own w base (OwnB w base ok) v l := by
 induction h with
 | mk ok v l ts hl row own sub inn sep ih =>
  refine .mk _ _ _ (ts.map (fun t => ⟨t.x, t.u, OwnB w base t.f⟩)) (by rw [hl, List.map_map]; rfl) (by rw [fl_map, List.length_map]; exact row) (fun k hk => ⟨own k hk, own_base row k hk, own_lt row k hk, own_typed row k hk⟩) (fun t ht => ?_) (fun t ht k hk => ?_) (List.pairwise_map.2 (sep.imp (fun h k h1 h2 => h k h1.1 h2.1)))
  ·obtain ⟨t0, h0, rfl⟩ := List.mem_map.1 ht
   exact ih t0 h0
  ·obtain ⟨t0, h0, rfl⟩ := List.mem_map.1 ht
   exact ⟨⟨(inn t0 h0 k hk.1).1, hk.2⟩, (inn t0 h0 k hk.1).2⟩
theorem Own.move (h : Own w base ok v l) (hm : ∀ k, ok k → w1.heap[k]? = w.heap[k]?) : Own w1 base ok v l := by
 induction h with
 | mk ok v l ts hl row own sub inn sep ih => exact .mk _ _ _ ts hl (own_move row (fun k hk => hm k (own k hk))) own (fun t ht => ih t ht (fun k hk => hm k (inn t ht k hk).1)) inn sep
theorem Own.step (h : Own w base ok v l) (hm : ∀ k, ok k → base ≤ k → k < w.heap.size → (∃ cells, w.heap[k]? = some (.cells cells eE (0, 0))) → w1.heap[k]? = w.heap[k]?) : Own w1 base ok v l :=
 (h.bound.move (fun k hk => hm k hk.1 hk.2.1 hk.2.2.1 hk.2.2.2)).mono (fun _ hk => hk.1)
theorem Own.newer (h : Own w base ok v l) (hb : Below w.heap.size w w1) : Own w1 base ok v l := h.step (fun k _ _ hk _ => hb.block k hk)
theorem Own.far (h : Own w base ok v l) {p : Addr} (hp : ∀ k, ok k → k ≠ p.block) (u : Value) : Own (w.setCell p u) base ok v l := h.step (fun k hk _ _ _ => Below.heap_setCell _ _ _ _ (hp k hk))
/-- A block of another type's cells has turned. -/
theorem Own.set (h : Own w base ok v l) {g q : Nat} {vs : List Value} (hb : Blk w g q vs) (ht : q ≠ eE) (j : Nat) (u : Value) : Own (w.setCell ⟨g, j, none⟩ u) base ok v l :=
 h.step (fun k _ _ _ hc => Below.heap_setCell _ _ _ _ (fun e => by
  obtain ⟨cells, hc⟩ := hc
  have e2 : k = g := e
  subst e2
  unfold Blk at hb
  rw [hb] at hc
  injection hc with hc
  injection hc with _ hc
  exact ht hc))
theorem Own.grown (h : Own w base ok v l) {row : Option Nat} (hg : w.grownBy w1 row) (hr : ∀ k, ok k → some k ≠ row) : Own w1 base ok v l := h.step (fun k hk _ hlt _ => hg.block k hlt (hr k hk))
theorem Own.upd (h : Own w base ok v l) {S : Nat → Prop} (hU : Upd S w w1) (hS : ∀ k, ok k → ¬ S k) : Own w1 base ok v l := h.step (fun k hk _ hlt _ => hU.block k hlt (hS k hk))
theorem Own.lower {base' : Nat} (h : Own w base ok v l) (hb : base' ≤ base) : Own w base' ok v l := by
 induction h with
 | mk ok v l ts hl row own sub inn sep ih => exact .mk _ _ _ ts hl (own_weaken row hb) own ih inn sep
theorem Own.nil (w : World) (base : Nat) (ok : Nat → Prop) : Own w base ok (.slice none 0 0) [] :=
 .mk _ _ _ [] rfl (own_nil _ _ _ _) (fun k hk => by simp [Value.ownBlock] at hk) (fun t ht => by simp at ht) (fun t ht => by simp at ht) List.Pairwise.nil
theorem Own.slice (h : Own w base ok v l) : ∃ A c, v = .slice A l.length c ∧ l.length ≤ c := by
 cases h with
 | mk _ _ _ ts hl row own sub inn sep =>
  obtain ⟨A, c, rfl⟩ := own_slice row
  rw [hl, List.length_map]
  exact ⟨A, c, rfl, own_le row⟩
/-- Read as the printer reads it. -/
theorem Own.toR (h : Own w base ok v l) : Kd.R kE eE w base ok v l := by
 induction h with
 | mk ok v l ts hl row own sub inn sep ih =>
  refine ⟨own, fl ts, by rw [hl, List.length_map]; exact row, by rw [hl, List.length_map]; exact fl_len ts, fun j x hj => ?_⟩
  rw [hl, List.getElem?_map] at hj
  obtain ⟨t, ht, rfl⟩ := Option.map_eq_some_iff.1 hj
  have hm : t ∈ ts := List.mem_of_getElem? ht
  have hM := k63_mkM w base t.f t.x (ih t hm)
  show kE.M w base _ t.x (((fl ts).drop (j * 5)).take 5)
  rw [fl_seg ts j t ht]
  exact kE.M_mono (fun k hk => inn t hm k hk) hM
theorem Own.toC {A : Option Addr} {n c : Nat} (h : Own w base ok (.slice A n c) l) : n = l.length ∧ n ≤ c ∧ Kd.C kE w A l.length l := Kd.R_reads' h.toR
/-- The parts of a tree of one's own. -/
structure OwnP (w : World) (base : Nat) (ok : Nat → Prop) (v : Value) (ts : List Kid) : Prop where
 row : w.ownsRow base eE 5 v ts.length (fl ts)
 own : ∀ k, v.ownBlock = some k → ok k
 sub : ∀ t : Kid, t ∈ ts → Own w base t.f t.u t.x.f4
 inn : ∀ t : Kid, t ∈ ts → ∀ k, t.f k → ok k ∧ some k ≠ v.ownBlock
 sep : Sep ts
theorem Own.parts (h : Own w base ok v l) : ∃ ts, l = ts.map (·.x) ∧ OwnP w base (OwnB w base ok) v ts := by
 cases h.bound with
 | mk _ _ _ ts hl row own sub inn sep => exact ⟨ts, hl, row, own, sub, inn, sep⟩
theorem OwnP.all (h : OwnP w base ok v ts) : Own w base ok v (ts.map (·.x)) := .mk _ _ _ ts rfl h.row h.own h.sub h.inn h.sep
theorem ecells_one {x : Ent} {u : Value} (h : u.oneCell' = true) : ∀ c ∈ ecells x u, c.oneCell' = true := by
 intro c hc
 simp only [ecells, List.mem_cons, List.not_mem_nil, or_false] at hc
 rcases hc with rfl | rfl | rfl | rfl | rfl
 ·rfl
 ·rfl
 ·rfl
 ·rfl
 ·exact h
theorem Own.one (h : Own w base ok v l) : v.oneCell' = true := by
 obtain ⟨A, c, rfl, _⟩ := h.slice
 rfl
theorem OwnP.ones (h : OwnP w base ok v ts) : ∀ c ∈ fl ts, c.oneCell' = true := by
 have key : ∀ qs : List Kid, (∀ t ∈ qs, t.u.oneCell' = true) → ∀ c ∈ fl qs, c.oneCell' = true := by
  intro qs
  induction qs with
  | nil => intro _ c hc; cases hc
  | cons t qs ih =>
   intro hq c hc
   rcases List.mem_append.1 hc with hc | hc
   ·exact ecells_one (hq t List.mem_cons_self) c hc
   ·exact ih (fun s hs => hq s (List.mem_cons_of_mem _ hs)) c hc
 exact key ts (fun t ht => (h.sub t ht).one)
/-- The row was written (it is v1 now, of the kids ts1): each kid that was there before lies where it lay; a new one is told. -/
theorem OwnP.turned (h : OwnP w base ok v ts) {okn : Nat → Prop} {v1 : Value} {ts1 : List Kid} (row : w1.ownsRow base eE 5 v1 ts1.length (fl ts1)) (hg : w.grownBy w1 v.ownBlock) (hlt : ∀ k, ok k → k < w.heap.size) (hat : v1.ownBlock = v.ownBlock ∨ ∃ b, v1.ownBlock = some b ∧ w.heap.size ≤ b)
  (hok : ∀ k, ok k → okn k) (hfresh : ∀ k, w.heap.size ≤ k → okn k) (hnew : ∀ t ∈ ts1, t ∈ ts ∨ (Own w1 base t.f t.u t.x.f4 ∧ ∀ k, t.f k → okn k ∧ some k ≠ v1.ownBlock)) (sep : Sep ts1) : Own w1 base okn v1 (ts1.map (·.x)) := by
 have hne : ∀ k, some k ≠ v.ownBlock → k < w.heap.size → some k ≠ v1.ownBlock := fun k hk hl => by
  rcases hat with e | ⟨b, e, hb⟩
  ·rw [e]; exact hk
  ·rw [e]; intro e2; injection e2 with e2; omega
 refine .mk _ _ _ ts1 rfl row (fun k hk => ?_) (fun t ht => ?_) (fun t ht k hk => ?_) sep
 ·rcases hat with e | ⟨b, e, hb⟩
  ·exact hok k (h.own k (by rw [← e]; exact hk))
  ·rw [e] at hk; injection hk with hk; exact hfresh k (by omega)
 ·rcases hnew t ht with h1 | h1
  ·exact (h.sub t h1).grown hg (fun k hk => (h.inn t h1 k hk).2)
  ·exact h1.1
 ·rcases hnew t ht with h1 | h1
  ·have h2 := h.inn t h1 k hk
   exact ⟨hok k h2.1, hne k h2.2 (hlt k h2.1)⟩
  ·exact h1.2 k hk
end
/-- A cell of a row of one's own, stored into. -/
theorem own_setAt {w : World} {base g n cap size : Nat} {e : TypeId} {xs : List Value} (h : w.ownsRow base e size (.slice (some ⟨g, 0, none⟩) n cap) n xs) (k : Nat) (hk : k < n * size) (u : Value) : (w.setCell ⟨g, k, none⟩ u).ownsRow base e size (.slice (some ⟨g, 0, none⟩) n cap) n (xs.set k u) := by
 obtain ⟨hl, h2⟩ := h
 refine ⟨by rw [List.length_set]; exact hl, ?_⟩
 rcases h2 with ⟨h3, _⟩ | ⟨g2, cap2, cur, hv, hb, hg, hn, hc, hs, ht⟩
 ·cases h3
 ·injection hv with h1 _ h3
  injection h1 with h1
  injection h1 with h1
  subst h1 h3
  refine .inr ⟨g, cap, cur.setIfInBounds k u, rfl, hb, blk_set hg k u, hn, hc, by rw [Array.size_setIfInBounds]; exact hs, ?_⟩
  rw [Array.toList_setIfInBounds, ← ht, List.take_set]
theorem set4 (P Q : List Value) (s0 s1 s2 s3 s4 a b c d : Value) : ((((P ++ [s0, s1, s2, s3, s4] ++ Q).set (P.length + 1) a).set (P.length + 2) b).set (P.length + 3) c).set (P.length + 4) d = P ++ [s0, a, b, c, d] ++ Q := by
 simp [List.set_append]
/-- A kid's node, stored into. -/
theorem fl_store (ts : List Kid) (i : Nat) (t : Kid) (ht : ts[i]? = some t) (k : Int) (e : Bool) (s : ByteArray) (u : Value) (l : List Ent) (f : Nat → Prop) :
  ((((fl ts).set (i * 5 + 1) (.int .i64 k)).set (i * 5 + 2) (.bool e)).set (i * 5 + 3) (.string s)).set (i * 5 + 4) u = fl (ts.set i ⟨⟨t.x.f0, k, e, s, l⟩, u, f⟩) := by
 obtain ⟨hi, hte⟩ := List.getElem?_eq_some_iff.1 ht
 have hP : (fl (ts.take i)).length = i * 5 := by rw [fl_len, List.length_take, Nat.min_eq_left (Nat.le_of_lt hi)]
 have e1 : fl ts = fl (ts.take i) ++ ecells t.x t.u ++ fl (ts.drop (i + 1)) := by
  conv => lhs; rw [← List.take_append_drop i ts, fl_append, List.drop_eq_getElem_cons hi, hte]
  rw [fl, List.append_assoc]
 rw [fl_set ts i _ hi, fl_take ts i (Nat.le_of_lt hi), fl_drop ts (i + 1) hi, e1, ← hP]
 exact set4 _ _ _ _ _ _ _ _ _ _ _
section
variable {w w1 w2 w3 : World} {base : Nat} {ok okn : Nat → Prop} {v v1 : Value} {l : List Ent} {ts : List Kid}
theorem OwnP.snoc (h : OwnP w base ok v ts) (hlt : ∀ k, ok k → k < w.heap.size) (t : Kid) (ht : Own w1 base t.f t.u t.x.f4) (htf : ∀ k, t.f k → ¬ ok k ∧ okn k ∧ some k ≠ v1.ownBlock) (row : w1.ownsRow base eE 5 v1 (ts.length + 1) (fl ts ++ ecells t.x t.u)) (hg : w.grownBy w1 v.ownBlock)
  (hat : v1.ownBlock = v.ownBlock ∨ ∃ b, v1.ownBlock = some b ∧ w.heap.size ≤ b) (hok : ∀ k, ok k → okn k) (hfresh : ∀ k, w.heap.size ≤ k → okn k) : Own w1 base okn v1 (ts.map (·.x) ++ [t.x]) := by
 have h1 := h.turned (ts1 := ts ++ [t]) (okn := okn) (by rw [List.length_append, List.length_singleton, fl_append, fl_one]; exact row) hg hlt hat hok hfresh (fun s hs => by
  rcases List.mem_append.1 hs with hs | hs
  ·exact .inl hs
  ·rw [List.mem_singleton] at hs
   subst hs
   exact .inr ⟨ht, fun k hk => (htf k hk).2⟩) (List.pairwise_append.2 ⟨h.sep, List.pairwise_singleton _ _, fun a ha b hb k h1 h2 => by
    rw [List.mem_singleton] at hb
    subst hb
    exact (htf k h2).1 (h.inn a ha k h1).1⟩)
 rw [List.map_append] at h1
 exact h1
theorem OwnP.insert (h : OwnP w base ok v ts) (hlt : ∀ k, ok k → k < w.heap.size) (i : Nat) (t : Kid) (ht : Own w1 base t.f t.u t.x.f4) (htf : ∀ k, t.f k → ¬ ok k ∧ okn k ∧ some k ≠ v1.ownBlock) (hi : i ≤ ts.length) (row : w1.ownsRow base eE 5 v1 (ts.length + 1) ((fl ts).take (i * 5) ++ ecells t.x t.u ++ (fl ts).drop (i * 5))) (hg : w.grownBy w1 v.ownBlock)
  (hat : v1.ownBlock = v.ownBlock ∨ ∃ b, v1.ownBlock = some b ∧ w.heap.size ≤ b) (hok : ∀ k, ok k → okn k) (hfresh : ∀ k, w.heap.size ≤ k → okn k) : ∃ ts1, ts1 = ts.take i ++ t :: ts.drop i ∧ Own w1 base okn v1 (ts1.map (·.x)) := by
 have hs : ts.take i ++ ts.drop i = ts := List.take_append_drop i ts
 have hsep := h.sep
 unfold Sep at hsep
 rw [← hs, List.pairwise_append] at hsep
 refine ⟨_, rfl, h.turned (ts1 := ts.take i ++ t :: ts.drop i) (okn := okn) ?_ hg hlt hat hok hfresh (fun s hm => ?_) ?_⟩
 ·rw [fl_take ts i hi, fl_drop ts i hi] at row
  have e : fl (ts.take i ++ t :: ts.drop i) = fl (ts.take i) ++ ecells t.x t.u ++ fl (ts.drop i) := by rw [fl_append, List.append_assoc]; rfl
  rw [e, show (ts.take i ++ t :: ts.drop i).length = ts.length + 1 from by rw [List.length_append, List.length_cons, List.length_take, List.length_drop]; omega]
  exact row
 ·rcases List.mem_append.1 hm with hm | hm
  ·exact .inl (List.mem_of_mem_take hm)
  ·rcases List.mem_cons.1 hm with rfl | hm
   ·exact .inr ⟨ht, fun k hk => (htf k hk).2⟩
   ·exact .inl (List.mem_of_mem_drop hm)
 ·refine List.pairwise_append.2 ⟨hsep.1, List.pairwise_cons.2 ⟨fun b hb k h1 h2 => (htf k h1).1 (h.inn b (List.mem_of_mem_drop hb) k h2).1, hsep.2.1⟩, fun a ha b hb => ?_⟩
  rcases List.mem_cons.1 hb with rfl | hb
  ·exact fun k h1 h2 => (htf k h2).1 (h.inn a (List.mem_of_mem_take ha) k h1).1
  ·exact hsep.2.2 a ha b hb
/-- Kid i's subtree has turned (w to w2), then its node was stored (w2 to w3). -/
theorem OwnP.put (h : OwnP w base ok v ts) (hlt : ∀ k, ok k → k < w.heap.size) (i : Nat) (t t2 : Kid) (ht : ts[i]? = some t) (hU : Upd t.f w w2) (ht2 : Own w2 base t2.f t2.u t2.x.f4) (htf : ∀ k, t2.f k → t.f k ∨ w.heap.size ≤ k)
  (row : w3.ownsRow base eE 5 v ts.length (fl (ts.set i t2))) (hg : w2.grownBy w3 v.ownBlock) (hok : ∀ k, ok k → okn k) (hfresh : ∀ k, w.heap.size ≤ k → okn k) : Own w3 base okn v ((ts.set i t2).map (·.x)) := by
 obtain ⟨hi, hte⟩ := List.getElem?_eq_some_iff.1 ht
 have htm : t ∈ ts := List.mem_of_getElem? ht
 have hs : ts = ts.take i ++ t :: ts.drop (i + 1) := by
  conv => lhs; rw [← List.take_append_drop i ts, List.drop_eq_getElem_cons hi, hte]
 have hset : ts.set i t2 = ts.take i ++ t2 :: ts.drop (i + 1) := by rw [List.set_eq_take_append_cons_drop, if_pos hi]
 have hsep := h.sep
 unfold Sep at hsep
 rw [hs, List.pairwise_append, List.pairwise_cons] at hsep
 have hvlt : ∀ k, v.ownBlock = some k → k < w.heap.size := fun k hk => own_lt h.row k hk
 have hfar : ∀ s, s ∈ ts.take i ∨ s ∈ ts.drop (i + 1) → ∀ k, s.f k → ¬ t.f k := fun s hs k h1 h2 => by
  rcases hs with hs | hs
  ·exact hsep.2.2 s hs t List.mem_cons_self k h1 h2
  ·exact hsep.2.1.1 s hs k h2 h1
 have hmem : ∀ s, s ∈ ts.take i ∨ s ∈ ts.drop (i + 1) → s ∈ ts := fun s hs => hs.elim List.mem_of_mem_take List.mem_of_mem_drop
 have hnew : ∀ k, t2.f k → okn k ∧ some k ≠ v.ownBlock := fun k hk => by
  rcases htf k hk with h1 | h1
  ·exact ⟨hok k (h.inn t htm k h1).1, (h.inn t htm k h1).2⟩
  ·exact ⟨hfresh k h1, fun e => by have := hvlt k e.symm; omega⟩
 have hold : ∀ s, s ∈ ts.take i ∨ s ∈ ts.drop (i + 1) → Own w3 base s.f s.u s.x.f4 := fun s hs => ((h.sub s (hmem s hs)).upd hU (fun k hk => hfar s hs k hk)).grown hg (fun k hk => (h.inn s (hmem s hs) k hk).2)
 have hd2 : ∀ s, s ∈ ts.take i ∨ s ∈ ts.drop (i + 1) → ∀ k, s.f k → ¬ t2.f k := fun s hs k h1 h2 => by
  rcases htf k h2 with h3 | h3
  ·exact hfar s hs k h1 h3
  ·have := hlt k (h.inn s (hmem s hs) k h1).1; omega
 refine .mk _ _ _ (ts.set i t2) rfl (by rw [List.length_set]; exact row) (fun k hk => hok k (h.own k hk)) (fun s hs => ?_) (fun s hs k hk => ?_) ?_
 ·rw [hset] at hs
  rcases List.mem_append.1 hs with hs | hs
  ·exact hold s (.inl hs)
  ·rcases List.mem_cons.1 hs with rfl | hs
   ·exact ht2.grown hg (fun k hk => (hnew k hk).2)
   ·exact hold s (.inr hs)
 ·rw [hset] at hs
  rcases List.mem_append.1 hs with hs | hs
  ·exact ⟨hok k (h.inn s (hmem s (.inl hs)) k hk).1, (h.inn s (hmem s (.inl hs)) k hk).2⟩
  ·rcases List.mem_cons.1 hs with rfl | hs
   ·exact hnew k hk
   ·exact ⟨hok k (h.inn s (hmem s (.inr hs)) k hk).1, (h.inn s (hmem s (.inr hs)) k hk).2⟩
 ·rw [hset]
  refine List.pairwise_append.2 ⟨hsep.1, List.pairwise_cons.2 ⟨fun b hb k h1 h2 => hd2 b (.inr hb) k h2 h1, hsep.2.1.2⟩, fun a ha b hb => ?_⟩
  rcases List.mem_cons.1 hb with rfl | hb
  ·exact fun k h1 h2 => hd2 a (.inl ha) k h1 h2
  ·exact hsep.2.2 a ha b (List.mem_cons_of_mem _ hb)
end
/-- The cells of kid i. -/
theorem Own.at_ {w : World} {base : Nat} {ok : Nat → Prop} {A : Option Addr} {n c i : Nat} {l : List Ent} {x : Ent} (h : Own w base ok (.slice A n c) l) (hx : l[i]? = some x) : ∃ g A6 c6, A = some ⟨g, 0, none⟩ ∧ n = l.length ∧ base ≤ g ∧ ok g ∧ g < w.heap.size ∧ (∀ j, w.frozen? ⟨g, j, none⟩ = false) ∧
  w.cell? ⟨g, i * 5, none⟩ = some (.string x.f0) ∧ w.cell? ⟨g, i * 5 + 1, none⟩ = some (.int .i64 x.f1) ∧ w.cell? ⟨g, i * 5 + 2, none⟩ = some (.bool x.f2) ∧ w.cell? ⟨g, i * 5 + 3, none⟩ = some (.string x.f3) ∧ w.cell? ⟨g, i * 5 + 4, none⟩ = some (.slice A6 x.f4.length c6) := by
 obtain ⟨A0, c0, hv0, _⟩ := h.slice
 injection hv0 with _ hn0 _
 obtain ⟨ts, hts, hP⟩ := h.parts
 obtain ⟨td, htd, hxt⟩ : ∃ td, ts[i]? = some td ∧ td.x = x := by
  rw [hts, List.getElem?_map] at hx
  exact Option.map_eq_some_iff.1 hx
 have hi := (List.getElem?_eq_some_iff.1 htd).1
 have hrow := hP.row
 rcases hrow.2 with ⟨_, h0⟩ | ⟨g, cap, cur, hv, hbg, hg, _⟩
 ·omega
 injection hv with hv1 hv2 hv3
 subst hv1
 obtain ⟨A6, c6, hu6, _⟩ := (hP.sub td (List.mem_of_getElem? htd)).slice
 have hce : ∀ j, j < 5 → w.cell? ⟨g, i * 5 + j, none⟩ = (ecells td.x td.u)[j]? := fun j hj => by
  have h1 := fl_at ts i td htd j hj
  obtain ⟨u, hu⟩ : ∃ u, (ecells td.x td.u)[j]? = some u := ⟨_, List.getElem?_eq_getElem (by rw [ecells_len]; exact hj)⟩
  have h2 := hrow.cells (g := g) rfl (i * 5 + j) u (by rw [h1, hu])
  rw [add_plain] at h2
  rw [h2, hu]
 rw [hxt, hu6, hxt] at hce
 exact ⟨g, A6, c6, rfl, hn0, hbg, (hP.own g rfl).1, (hP.own g rfl).2.2.1, fun j => blk_frozen hg j, hce 0 (by omega), hce 1 (by omega), hce 2 (by omega), hce 3 (by omega), hce 4 (by omega)⟩
/-- A node that is new (u, with its kids l2) is stored at kid i. -/
theorem Own.store {w w2 : World} {base : Nat} {ok : Nat → Prop} {g c i : Nat} {l l2 : List Ent} {x : Ent} {k : Int} {e : Bool} {t : ByteArray} {u : Value} (h : Own w base ok (.slice (some ⟨g, 0, none⟩) l.length c) l) (hx : l[i]? = some x) (hb : Below w.heap.size w w2) (hbs : base ≤ w.heap.size) (hu : Own w2 w.heap.size (fun k => w.heap.size ≤ k) u l2) :
  Own ((((w2.setCell ⟨g, i * 5 + 1, none⟩ (.int .i64 k)).setCell ⟨g, i * 5 + 2, none⟩ (.bool e)).setCell ⟨g, i * 5 + 3, none⟩ (.string t)).setCell ⟨g, i * 5 + 4, none⟩ u) base (fun k => ok k ∨ w.heap.size ≤ k) (.slice (some ⟨g, 0, none⟩) l.length c) (l.set i ⟨x.f0, k, e, t, l2⟩) ∧
  Upd ok w ((((w2.setCell ⟨g, i * 5 + 1, none⟩ (.int .i64 k)).setCell ⟨g, i * 5 + 2, none⟩ (.bool e)).setCell ⟨g, i * 5 + 3, none⟩ (.string t)).setCell ⟨g, i * 5 + 4, none⟩ u) := by
 obtain ⟨w3, hw3⟩ : ∃ w3, w3 = ((((w2.setCell ⟨g, i * 5 + 1, none⟩ (.int .i64 k)).setCell ⟨g, i * 5 + 2, none⟩ (.bool e)).setCell ⟨g, i * 5 + 3, none⟩ (.string t)).setCell ⟨g, i * 5 + 4, none⟩ u) := ⟨_, rfl⟩
 rw [← hw3]
 obtain ⟨ts, hts, hP⟩ := h.parts
 obtain ⟨td, htd, hxt⟩ : ∃ td, ts[i]? = some td ∧ td.x = x := by
  rw [hts, List.getElem?_map] at hx
  exact Option.map_eq_some_iff.1 hx
 have htl : ts.length = l.length := by rw [hts, List.length_map]
 have hi := (List.getElem?_eq_some_iff.1 htd).1
 have hgok := hP.own g rfl
 have hU23 : Upd (fun k => k = g) w2 w3 := by
  rw [hw3]
  exact (((Upd.setCell (S := fun k => k = g) (p := ⟨g, i * 5 + 1, none⟩) (.inl rfl) _).trans (Upd.setCell (S := fun k => k = g) (p := ⟨g, i * 5 + 2, none⟩) (.inl rfl) _) (fun k hk => .inl hk)).trans (Upd.setCell (S := fun k => k = g) (p := ⟨g, i * 5 + 3, none⟩) (.inl rfl) _) (fun k hk => .inl hk)).trans (Upd.setCell (S := fun k => k = g) (p := ⟨g, i * 5 + 4, none⟩) (.inl rfl) _) (fun k hk => .inl hk)
 have hrow2 : w2.ownsRow base eE 5 (.slice (some ⟨g, 0, none⟩) l.length c) ts.length (fl ts) := own_move hP.row (fun k hk => hb.block k (hP.own k hk).2.2.1)
 rw [htl] at hrow2
 have hrow3 : w3.ownsRow base eE 5 (.slice (some ⟨g, 0, none⟩) l.length c) ts.length (fl (ts.set i ⟨⟨td.x.f0, k, e, t, l2⟩, u, fun k => w.heap.size ≤ k⟩)) := by
  rw [← fl_store ts i td htd, hw3, htl]
  exact own_setAt (own_setAt (own_setAt (own_setAt hrow2 _ (by omega) _) _ (by omega) _) _ (by omega) _) _ (by omega) _
 have h1 := hP.put (w2 := w2) (w3 := w3) (okn := fun j => ok j ∨ w.heap.size ≤ j) (fun k hk => hk.2.2.1) i td ⟨⟨td.x.f0, k, e, t, l2⟩, u, fun k => w.heap.size ≤ k⟩ htd (Upd.of_below hb) (hu.lower hbs) (fun k hk => .inr hk) hrow3
  ⟨hU23.os, hU23.tape, hU23.output, hU23.size, fun k hk hn => hU23.block k hk (fun e => hn (by rw [e]; rfl))⟩ (fun k hk => .inl hk.1) (fun k hk => .inr hk)
 rw [List.map_set, ← hts, hxt] at h1
 exact ⟨h1, (Upd.of_below hb).trans hU23 (fun k hk => .inl (by rw [hk]; exact hgok.1))⟩
/-- A new kid without kids is inserted. -/
theorem Own.insert1 {w w1 : World} {base : Nat} {ok : Nat → Prop} {v v1 : Value} {l : List Ent} {ts : List Kid} {i : Nat} {x : Ent} (hx : x.f4 = []) (hts : l = ts.map (·.x)) (hP : OwnP w base (OwnB w base ok) v ts) (hi : i ≤ l.length) (hrow : w1.ownsRow base eE 5 v1 (l.length + 1) ((fl ts).take (i * 5) ++ ecells x (.slice none 0 0) ++ (fl ts).drop (i * 5)))
  (hg : w.grownBy w1 v.ownBlock) (hat : v1.ownBlock = v.ownBlock ∨ v1.ownBlock = some w.heap.size) : Own w1 base (fun k => ok k ∨ w.heap.size ≤ k) v1 (l.take i ++ x :: l.drop i) := by
 have htl : ts.length = l.length := by rw [hts, List.length_map]
 obtain ⟨ts1, h1, h2⟩ := hP.insert (w1 := w1) (v1 := v1) (okn := fun k => ok k ∨ w.heap.size ≤ k) (fun k hk => hk.2.2.1) i ⟨x, .slice none 0 0, fun _ => False⟩ (by show Own w1 base _ (.slice none 0 0) x.f4; rw [hx]; exact Own.nil _ _ _) (fun k hk => hk.elim) (by omega) (by rw [htl]; exact hrow) hg (hat.imp id (fun h => ⟨_, h, Nat.le_refl _⟩)) (fun k hk => .inl hk.1) (fun k hk => .inr hk)
 rw [h1, List.map_append, List.map_cons, List.map_take, List.map_drop, ← hts] at h2
 exact h2
end Go.Proofs.YtnemeeidomceiaaDoor
end
section
namespace Go.Proofs.YtnemeeidomceiaaDoor
open Go.RowKit Go.Proofs.YtnemeeidomceiaaDoorW.PrintWords Go.Proofs.YtnemeeidomceiaaDoorW.PrintLast Go.Proofs.YtnemeeidomceiaaDoorW.PrintMore
set_option linter.unusedSimpArgs false
set_option linter.unusedVariables false
/-- No row of the tree takes more bytes than a row may. -/
inductive Fit : List S63 → Prop
 | mk {l : List S63} (h : l.length * 72 ≤ 140737488355328) (k : ∀ x, x ∈ l → Fit x.f4) : Fit l
theorem cells5 {w : World} {g : Nat} {t : TypeId} {c0 c1 c2 c3 c4 : Value} (h : w.heap[g]? = some (.cells #[c0, c1, c2, c3, c4] t (0, 0))) :
  w.cell? ⟨g, 0, none⟩ = some c0 ∧ w.cell? ⟨g, 1, none⟩ = some c1 ∧ w.cell? ⟨g, 2, none⟩ = some c2 ∧ w.cell? ⟨g, 3, none⟩ = some c3 ∧ w.cell? ⟨g, 4, none⟩ = some c4 :=
 ⟨(blk_cell h 0).trans rfl, (blk_cell h 1).trans rfl, (blk_cell h 2).trans rfl, (blk_cell h 3).trans rfl, (blk_cell h 4).trans rfl⟩
theorem take_snoc2 (l : List S63) (k : Nat) (h : k < l.length) : l.take (k + 1) = l.take k ++ [rd_T63 l (k : Int)] := by
 rw [List.take_succ_eq_append_getElem h]
 simp [rd_T63, h]
set_option maxHeartbeats 1000000 in
set_option maxRecDepth 100000 in
theorem copyO_calls (l : List S63) (hf : Fit l) : ∀ (k : Int) (e : Bool) (t : ByteArray) (A : Option Addr) (c : Nat) (w : World), Kd.C k63 w A l.length l → l.length ≤ c →
  Calls Tryd.prog 24 #[.agg #[.int .i64 k, .bool e, .string t, .slice A l.length c]] w
   fun o w' => ∃ v, o = .returned (.agg #[.int .i64 k, .bool e, .string t, v]) ∧ Own w' w.heap.size (fun k => w.heap.size ≤ k) v l ∧ Below w.heap.size w w' := by
 induction hf with
 | @mk l h72 _ ih =>
 intro k e t A c w hx hcx
 have HX := Aside0.mk hx
 have IH := Aside0.mk ih
 have hm : l.length ≤ 140737488355328 := by omega
 obtain ⟨i0, hi, hzz⟩ := Option.map_eq_some_iff.1 (show (Tryd.prog.info? 63).map (fun i => (i.zero, i.size, i.bytes)) = some (some (.agg #[.string ⟨#[]⟩, .int .i64 0, .bool false, .string ⟨#[]⟩, .slice none 0 0]), 5, 72) by kernel_rfl)
 simp only [Prod.mk.injEq] at hzz
 obtain ⟨hz0, hz1, hz2⟩ := hzz
 have hmk : ∀ W, (Instr.makeSlice 30 (.int .i64 0) (.int .i64 (l.length : Int))).run Tryd.prog W = .ok (.slice (some ⟨W.heap.size, 0, none⟩) 0 l.length) (W.alloc (.cells (madeCells #[.string ⟨#[]⟩, .int .i64 0, .bool false, .string ⟨#[]⟩, .slice none 0 0] (l.length * 5)) 63)) := by
  intro W
  have := run_make (P := Tryd.prog) W 30 63 i0 _ Tryd.underlying30 hi hz0 .i64 .i64 0 (l.length : Int) (by omega) (by omega) (by rw [hz2]; omega) (by omega)
  rw [hz1] at this
  simpa [Value.cells] using this
 have Z := Aside0.mk (And.intro hi (And.intro hz0 (And.intro hz1 hz2)))
 clear hx ih hi hz0 hz1 hz2
 obtain ⟨W2, hW2⟩ : ∃ W2, W2 = (w.alloc (.cells #[.int .i64 k, .bool e, .string t, .slice A l.length c] 32)).alloc (.cells #[.int .i64 0, .bool false, .string ⟨#[]⟩, .slice none 0 0] 32) := ⟨_, rfl⟩
 have hs2 : W2.heap.size = w.heap.size + 1 + 1 := by rw [hW2]; simp
 have HB0 : Aside0 (Below w.heap.size w W2) := ⟨by rw [hW2]; exact below_alloc (below_alloc (Below.refl _ _) _) _⟩
 have G1 : Aside0 (W2.heap[w.heap.size]? = some (.cells #[.int .i64 k, .bool e, .string t, .slice A l.length c] 32 (0, 0))) := ⟨by rw [hW2]; exact blk_alloc (heap_alloc_new _ _) _⟩
 have G2 : Aside0 (W2.heap[w.heap.size + 1]? = some (.cells #[.int .i64 0, .bool false, .string ⟨#[]⟩, .slice none 0 0] 32 (0, 0))) := ⟨by rw [hW2]; have := heap_alloc_new (w.alloc (.cells #[.int .i64 k, .bool e, .string t, .slice A l.length c] 32)) (.cells #[.int .i64 0, .bool false, .string ⟨#[]⟩, .slice none 0 0] 32); simpa using this⟩
 have RM : ∀ W : World, Aside0 (Own (W.alloc (.cells (madeCells #[.string ⟨#[]⟩, .int .i64 0, .bool false, .string ⟨#[]⟩, .slice none 0 0] (l.length * 5)) 63)) W.heap.size (fun k => W.heap.size ≤ k) (.slice (some ⟨W.heap.size, 0, none⟩) 0 l.length) []) := fun W =>
  ⟨.mk _ _ _ [] rfl (World.ownsRow_made W _ l.length (Nat.le_refl _) (by unfold maxLen; omega) (size_madeCells _ _)) (fun k hk => by simp [Value.ownBlock] at hk; omega) (fun t ht => by simp at ht) (fun t ht => by simp at ht) List.Pairwise.nil⟩
 go_enter Tryd.func24, Tryd.ntmps24
 go_wp2
 rw [← hW2]
 go_loopw [3, 5, 13] (fun v3 _ v13 wr => ∃ j : Nat, j ≤ l.length ∧ v13 = .int .i64 j ∧ Aside0 (Own wr W2.heap.size (fun k => W2.heap.size ≤ k) v3 (l.take j)) ∧ Aside0 (Below W2.heap.size W2 wr)) (fun _ _ v _ => l.length - (intOf v).toNat)
 case atStart => 
  refine ⟨0, Nat.zero_le _, rfl, ?_, ⟨below_alloc (Below.refl _ _) _⟩⟩
  have := RM W2
  rw [hs2] at *
  exact this
 case round =>
  obtain ⟨j, hj, rfl, HO, HB⟩ := hrel
  have HBw : Aside0 (Below w.heap.size w wr) := ⟨HB0.out.trans (HB.out.mono (by omega))⟩
  by_cases hlt : j < l.length
  ·obtain ⟨ad, A4, c4, hA, e0, e1, e2, e3, e4, hl4, hC4⟩ := at_T63 (Kd.C_below HX.out HBw.out) (j : Int) (by omega) (by omega)
   subst hA
   simp only [Int.toNat_natCast] at e0 e1 e2 e3 e4
   have HC4 := Aside0.mk hC4
   have HL4 := Aside0.mk hl4
   have HTS := Aside0.mk (take_snoc2 l j hlt)
   have HMEM : Aside0 (rd_T63 l (j : Int) ∈ l) := ⟨by simp [rd_T63, hlt]⟩
   clear hC4 hl4
   generalize rd_T63 l (j : Int) = x at *
   have hblk := World.block_lt_of_cell? _ _ e0
   obtain ⟨A3, c3, hu3, _⟩ := HO.out.slice
   rw [List.length_take, Nat.min_eq_left hj] at hu3
   subst hu3
   go_wp2
   obtain ⟨ws, hws⟩ : ∃ ws, ws = (wr.alloc (.cells #[.string x.f0, .int .i64 x.f1, .bool x.f2, .string x.f3, .slice A4 x.f4.length c4] 63)).drew := ⟨_, rfl⟩
   have HS : Aside0 (ws.heap[wr.heap.size]? = some (.cells #[.string x.f0, .int .i64 x.f1, .bool x.f2, .string x.f3, .slice A4 x.f4.length c4] 63 (0, 0))) := ⟨by rw [hws]; exact heap_alloc_new _ _⟩
   have HBs : Aside0 (Below wr.heap.size wr ws) := ⟨by rw [hws]; exact below_drew (below_alloc (Below.refl _ _) _)⟩
   have HLT : Aside0 (wr.heap.size < ws.heap.size) := ⟨by rw [hws]; simp [World.drew]⟩
   have HNE : Aside0 (some wr.heap.size ≠ (Value.slice A3 j c3).ownBlock) := ⟨by
    intro he
    obtain ⟨ts, _, hP⟩ := HO.out.parts
    have := own_lt hP.row _ he.symm
    omega⟩
   refine start_ (n := 10) (S := fun w' => w'.cell? ⟨wr.heap.size, 0, none⟩ = some (.string x.f0) ∧ w'.cell? ⟨wr.heap.size, 1, none⟩ = some (.int .i64 x.f1) ∧ w'.cell? ⟨wr.heap.size, 2, none⟩ = some (.bool x.f2) ∧ w'.cell? ⟨wr.heap.size, 3, none⟩ = some (.string x.f3) ∧ w'.cell? ⟨wr.heap.size, 4, none⟩ = some (.slice A4 x.f4.length c4)) (ds := []) #[false, false, false, false, false, false, false, false, false, false] (by kernel_rfl) rfl rfl (by rw [← hws]; exact cells5 HS.out) (fun hHeld => ?_)
   rw [← hws] at hHeld ⊢
   have HO2 := Aside0.mk (HO.out.newer HBs.out)
   have HB2 := Aside0.mk (below_step HB.out HBs.out)
   have HC2 := Aside0.mk (Kd.C_below HC4.out HBs.out)
   clear hws HBs HO HB HBw HC4
   refine pure_ (i := 0) (N := some 17) (v := ?_) (a' := ?_) #[true, false, false, false, false, false, false, false, false, false] rfl rfl (by kernel_rfl) (fun _ _ _ h => h) (Or.inl ⟨by rfl, ?_⟩) ?_ ?_
   rotate_left
   ·intro w'
    go_simp
    with_reducible rfl
   rotate_left
   ·simp only [Act.put, List.setIfInBounds_toArray, List.set_cons_zero, List.set_cons_succ, i64_w, i32_w]
    rfl
   refine pure_ (i := 1) (N := some 18) (v := ?_) (a' := ?_) #[true, true, false, false, false, false, false, false, false, false] rfl rfl (by kernel_rfl) (fun _ _ _ h => h) (Or.inl ⟨by rfl, ?_⟩) ?_ ?_
   rotate_left
   ·intro w'
    go_simp
    with_reducible rfl
   rotate_left
   ·simp only [Act.put, List.setIfInBounds_toArray, List.set_cons_zero, List.set_cons_succ, i64_w, i32_w]
    rfl
   refine take_ (i := 2) (N := some 19) (v := ?_) (a' := ?_) #[true, true, true, false, false, false, false, false, false, false] rfl rfl (by kernel_rfl) (fun _ _ _ h => h) (Or.inl ⟨by rfl, ?_⟩) hHeld ?_ ?_
   rotate_left
   ·rintro w' ⟨s0, s1, s2, s3, s4⟩
    go_simp
    with_reducible rfl
   rotate_left
   ·simp only [Act.put, List.setIfInBounds_toArray, List.set_cons_zero, List.set_cons_succ, i64_w, i32_w]
    rfl
   refine pure_ (i := 3) (N := some 20) (v := ?_) (a' := ?_) #[true, true, true, true, false, false, false, false, false, false] rfl rfl (by kernel_rfl) (fun _ _ _ h => h) (Or.inl ⟨by rfl, ?_⟩) ?_ ?_
   rotate_left
   ·intro w'
    go_simp
    with_reducible rfl
   rotate_left
   ·simp only [Act.put, List.setIfInBounds_toArray, List.set_cons_zero, List.set_cons_succ, i64_w, i32_w]
    rfl
   refine take_ (i := 4) (N := some 21) (v := ?_) (a' := ?_) #[true, true, true, true, true, false, false, false, false, false] rfl rfl (by kernel_rfl) (fun _ _ _ h => h) (Or.inl ⟨by rfl, ?_⟩) hHeld ?_ ?_
   rotate_left
   ·rintro w' ⟨s0, s1, s2, s3, s4⟩
    go_simp
    with_reducible rfl
   rotate_left
   ·simp only [Act.put, List.setIfInBounds_toArray, List.set_cons_zero, List.set_cons_succ, i64_w, i32_w]
    rfl
   refine one_ (i := 5) (N := some 22) #[true, true, true, true, true, true, false, false, false, false] rfl rfl (by kernel_rfl) (by decide) (fun K hK => ?_)
   refine goes_ Tryd.func24 (by kernel_rfl) rfl #[.agg #[.int .i64 x.f1, .bool x.f2, .string x.f3, .slice A4 x.f4.length c4]] (by rfl) rfl rfl (by (try simp only [List.map_toArray, List.map_cons, List.map_nil]); first | done | rfl) ?_
   refine (IH.out x HMEM.out x.f1 x.f2 x.f3 A4 c4 _ HC2.out HL4.out).mono ?_
   rintro o w1 ⟨v4, rfl, hr4, hb⟩
   obtain ⟨A5, c5, hv4, _⟩ := hr4.slice
   subst hv4
   have HN := Aside0.mk hr4.bound
   have HW1 := Aside0.mk (And.intro HB2.out.size hb.size)
   have HO3 := Aside0.mk (HO2.out.bound.newer hb)
   have HB3 := Aside0.mk (below_step HB2.out hb)
   have HS3 := Aside0.mk ((hb.block _ HLT.out).trans HS.out)
   have HLT3 := Aside0.mk (Nat.lt_of_lt_of_le HLT.out hb.size)
   clear hr4 hb HO2 HB2 HS HLT HC2
   refine ⟨_, rfl, ?_⟩
   refine hK.out _ _ (cells5 HS3.out) (fun _ => ?_)
   clear hK K
   refine pure_ (i := 6) (N := some 23) (v := ?_) (a' := ?_) #[true, true, true, true, true, true, true, false, false, false] rfl rfl (by kernel_rfl) (fun _ _ _ h => h) (Or.inl ⟨by rfl, ?_⟩) ?_ ?_
   rotate_left
   ·intro w'
    go_simp
    with_reducible rfl
   rotate_left
   ·simp only [Act.put, List.setIfInBounds_toArray, List.set_cons_zero, List.set_cons_succ, i64_w, i32_w]
    rfl
   refine one_ (i := 7) (N := some 24) #[true, true, true, true, true, true, true, true, false, false] rfl rfl (by kernel_rfl) (by decide) (fun K hK => ?_)
   refine value_ (w1 := w1.alloc (.cells #[.string x.f0, .int .i64 x.f1, .bool x.f2, .string x.f3, .slice A5 x.f4.length c5] 63)) (v := .slice (some ⟨w1.heap.size, 0, none⟩) 1 1) (by rfl) rfl ?_ ?_
   ·go_simp
   refine hK.out _ _ (cells5 (blk_alloc HS3.out _)) (fun _ => ?_)
   clear hK K
   refine one_ (i := 8) (N := some 25) #[true, true, true, true, true, true, true, true, true, false] rfl rfl (by kernel_rfl) (by decide) (fun K hK => ?_)
   obtain ⟨ts, hts, hP⟩ := HO3.out.parts
   have hln := congrArg List.length hts
   rw [List.length_map, List.length_take, Nat.min_eq_left hj] at hln
   refine step_append_cells (w0 := W2) W2.heap.size (by rfl) (.tmp 17) (.tmp 24) 30 63 (.agg #[.string ⟨#[]⟩, .int .i64 0, .bool false, .string ⟨#[]⟩, .slice none 0 0]) 5 72 rfl Tryd.underlying30 (by kernel_rfl) rfl (by decide) (by decide)
    (.slice A3 j c3) ts.length (fl ts) (ecells x (.slice A5 x.f4.length c5)) (by rfl) (by rfl) rfl (ecells_one rfl) hP.row HB3.out HB3.out.size (by omega) ?_
   intro v1 wn hrow hb1 hg hat
   have HO4 : Aside0 (Own wn W2.heap.size (fun k => W2.heap.size ≤ k) v1 (l.take j ++ [x])) := ⟨by
    rw [hts]
    have hgz := hg.size
    have hz := HW1.out
    have hlt3 : ∀ k, OwnB w1 W2.heap.size (OwnB ws W2.heap.size (fun k => W2.heap.size ≤ k)) k → k < ws.heap.size := fun k hk => hk.1.2.2.1
    have hvlt : ∀ k, (Value.slice A3 j c3).ownBlock = some k → k < ws.heap.size := fun k hk => hlt3 k (hP.own k hk)
    refine hP.snoc (fun k hk => Nat.lt_of_lt_of_le (hlt3 k hk) hz.2) ⟨x, .slice A5 x.f4.length c5, OwnB w1 ws.heap.size (fun k => ws.heap.size ≤ k)⟩ ((HN.out.lower hz.1).grown hg (fun k hk e => ?_)) (fun k hk => ⟨fun h => ?_, ?_, fun e => ?_⟩) hrow hg hat (fun k hk => hk.2.1) (fun k hk => by omega)
    ·have := hvlt k e.symm; have := hk.2.1; omega
    ·have := hlt3 k h; have := hk.2.1; omega
    ·have := hk.2.1; omega
    ·rcases hat with h1 | ⟨b, h1, hb⟩
     ·rw [h1] at e; have := hvlt k e.symm; have := hk.2.1; omega
     ·rw [h1] at e; injection e with e; have := hk.2.2.1; omega⟩
   have HB4 := Aside0.mk hb1
   have HS4 := Aside0.mk ((hg.block _ HLT3.out HNE.out).trans HS3.out)
   clear hrow hb1 hg hat HO3 HB3 HN hts hln hP ts
   refine hK.out _ _ (cells5 HS4.out) (fun _ => ?_)
   clear hK K
   refine pure_ (i := 9) (N := some 3) (v := ?_) (a' := ?_) #[true, true, true, true, true, true, true, true, true, true] rfl rfl (by kernel_rfl) (fun _ _ _ h => h) (Or.inl ⟨by rfl, ?_⟩) ?_ ?_
   rotate_left
   ·intro w'
    go_simp
    with_reducible rfl
   rotate_left
   ·simp only [Act.put, List.setIfInBounds_toArray, List.set_cons_zero, List.set_cons_succ, i64_w, i32_w]
    rfl
   refine done_ (by kernel_rfl) ?_
   go_wp2
   go_roundw
   case rel => exact ⟨j + 1, by omega, by go_num, ⟨by rw [HTS.out]; exact HO4.out⟩, HB4⟩
   case measure => simp [intOf]; omega
  ·obtain rfl : j = l.length := by omega
   obtain ⟨A3, c3, hu3, _⟩ := HO.out.slice
   rw [List.length_take, Nat.min_eq_left (Nat.le_refl _)] at hu3
   subst hu3
   have B1 := Aside0.mk ((HB.out.block w.heap.size (by omega)).trans G1.out)
   have B2 := Aside0.mk ((HB.out.block (w.heap.size + 1) (by omega)).trans G2.out)
   have h10 := (blk_cell B1.out 0).trans rfl
   have h11 := (blk_cell B1.out 1).trans rfl
   have h12 := (blk_cell B1.out 2).trans rfl
   have h13 := (blk_cell B1.out 3).trans rfl
   have z13 := blk_frozen B1.out 3
   have h20 := (blk_cell B2.out 0).trans rfl
   have h21 := (blk_cell B2.out 1).trans rfl
   have h22 := (blk_cell B2.out 2).trans rfl
   have h23 := (blk_cell B2.out 3).trans rfl
   have z20 := blk_frozen B2.out 0
   have z21 := blk_frozen B2.out 1
   have z22 := blk_frozen B2.out 2
   have z23 := blk_frozen B2.out 3
   simp only [List.getElem?_toArray, List.getElem?_cons_zero, List.getElem?_cons_succ] at h10 h11 h12 h13 h20 h21 h22 h23
   have hlen1 := hs2
   have HO5 : Aside0 (Own wr W2.heap.size (fun k => W2.heap.size ≤ k) (.slice A3 l.length c3) l) := ⟨by
    have := HO.out
    rw [List.take_length] at this
    exact this⟩
   clear HO
   go_wp2
   have hg1 : w.heap.size + 1 ≠ w.heap.size := by omega
   refine bodyPost_ret (results_cell_row rfl _ _ (w.heap.size + 1) 32 #[.int .i64 k, .bool e, .string t, .slice A3 l.length c3] (0, 0) _ rfl
    (blk_put (cs := #[.int .i64 k, .bool e, .string t, .slice none 0 0]) (blk_put (cs := #[.int .i64 k, .bool e, .string ⟨#[]⟩, .slice none 0 0]) (blk_put (cs := #[.int .i64 k, .bool false, .string ⟨#[]⟩, .slice none 0 0]) (blk_put (cs := #[.int .i64 0, .bool false, .string ⟨#[]⟩, .slice none 0 0]) ((Below.heap_setCell _ _ _ _ (by exact hg1)).trans B2.out) 0 _ rfl) 1 _ rfl) 2 _ rfl) 3 _ rfl) Tryd.underlying32 rfl (by kernel_rfl)) rfl ?_
   refine ⟨_, rfl, ((HO5.out.lower (by omega)).step (fun k hk _ _ _ => ?_)).mono (fun k hk => ?_), ?_⟩
   ·have hb1 : W2.heap.size ≤ k := hk
    rw [Below.heap_setCell _ _ _ _ (by show k ≠ w.heap.size + 1; omega), Below.heap_setCell _ _ _ _ (by show k ≠ w.heap.size + 1; omega), Below.heap_setCell _ _ _ _ (by show k ≠ w.heap.size + 1; omega), Below.heap_setCell _ _ _ _ (by show k ≠ w.heap.size + 1; omega), Below.heap_setCell _ _ _ _ (by show k ≠ w.heap.size; omega)]
   ·have hb1 : W2.heap.size ≤ k := hk
    omega
   ·exact ((((HBw.out.setCell (Nat.le_refl _) _).setCell (by show w.heap.size ≤ w.heap.size + 1; omega) _).setCell (by show w.heap.size ≤ w.heap.size + 1; omega) _).setCell (by show w.heap.size ≤ w.heap.size + 1; omega) _).setCell (by show w.heap.size ≤ w.heap.size + 1; omega) _
open Classical in
noncomputable def tree_Copy.f (k : Int) (e : Bool) (t : ByteArray) (l : List S63) : Option (Int × Bool × ByteArray × List S63) := if Fit l then some (k, e, t, l) else none
end Go.Proofs.YtnemeeidomceiaaDoor
end
