import Derived.Test.YtkpicjhhkdjejaaAsked
import Derived.Test.YtkpicjhhkdjejaaOpens
set_option linter.unusedVariables false
namespace Go.Proofs.Ytkpicjhhkdjejaa
open Go.RowKit Go.Proofs.YtkpicjhhkdjejaaW.PrintWords Go.Proofs.YtkpicjhhkdjejaaW.PrintLast Go.Proofs.Ytkpicjhhkdjejaa.Tb Go.Proofs.Ytkpicjhhkdjejaa.PTablePlays
theorem asked_all (w : World) (base t : Nat) (ok : Nat → Prop) (m : List (ByteArray × Int)) (l : List Pr) (A : Option Addr) (c : Nat) (x0 x1 x3 : Int) (k : ByteArray) (h : TabSI w base ok t m) (hC : Kd.C k40 w A l.length l) (hc : l.length ≤ c) (hs : Same m l) :
    Calls Try.prog 31 #[.pointer (some ⟨t, 0, none⟩), .slice A l.length c, .agg #[.int .i64 x0, .int .i64 x1, .string k, .int .i64 x3]] w (AskPost w) := by
  by_cases h1 : x1 = 1
  · subst h1; exact asked_get w base t ok m l A c x0 x3 k h hC hc hs
  · by_cases h3 : x1 = 3
    · subst h3; exact asked_rank w base t ok m l A c x0 x3 k h hC hc hs
    · by_cases h4 : x1 = 4
      · subst h4; exact asked_at w base t ok m l A c x0 x3 k h hC hc hs
      · by_cases h5 : x1 = 5
        · subst h5; exact asked_keys w base t ok m l A c x0 x3 k h hC hc hs
        · exact asked_other w base t ok m l A c x0 x1 x3 k h1 h3 h4 h5 h hC hc hs
/-- A block of a table's own types. -/
def TT (w : World) (k : Nat) : Prop := ∃ cells q, (q = 9 ∨ q = 3 ∨ q = 64) ∧ w.heap[k]? = some (.cells cells q (0, 0))
theorem TabSI.typed {w : World} {base t : Nat} {ok : Nat → Prop} {m : List (ByteArray × Int)} (h : TabSI w base ok t m) : TabSI w base (fun k => (ok k ∧ base ≤ k ∧ k < w.heap.size) ∧ TT w k) t m := by
  obtain ⟨kv, vv, ht, h1, h2, h3, h4, h5, h6, h7, h8⟩ := h.bound
  exact ⟨kv, vv, ht, ⟨h1, _, _, .inr (.inr rfl), ht⟩, h2, fun k hk => ⟨h3 k hk, by obtain ⟨cs, hc⟩ := own_typed h6 k hk; exact ⟨_, _, .inl rfl, hc⟩⟩, fun k hk => ⟨h4 k hk, by obtain ⟨cs, hc⟩ := own_typed h7 k hk; exact ⟨_, _, .inr (.inl rfl), hc⟩⟩, h5, h6, h7, h8⟩
theorem TT.ne {w : World} {g q : Nat} {cells : Array Value} (hb : w.heap[g]? = some (.cells cells q (0, 0))) (h1 : q ≠ 9) (h2 : q ≠ 3) (h3 : q ≠ 64) : ¬ TT w g := by
  rintro ⟨cs, q', hq, hc⟩
  rw [hb] at hc
  injection hc with hc
  injection hc with _ hc
  subst hc
  rcases hq with h | h | h
  · exact h1 h
  · exact h2 h
  · exact h3 h
def upd {α : Type} (f : Nat → α) (j : Nat) (x : α) : Nat → α := fun i => if i = j then x else f i
theorem upd_same {α : Type} (f : Nat → α) (j : Nat) (x : α) : upd f j x j = x := if_pos rfl
theorem upd_other {α : Type} (f : Nat → α) {i j : Nat} (x : α) (h : i ≠ j) : upd f j x i = f i := if_neg h
/-- Two tables, apart from one another. -/
def PS (B : Nat) (w : World) (t : Nat → Nat) (m : Nat → List (ByteArray × Int)) : Prop :=
  ∃ ok : Nat → Nat → Prop, (∀ i, i < 2 → TabSI w B (ok i) (t i) (m i)) ∧ (∀ i i' k, i < 2 → i' < 2 → i ≠ i' → ok i k → ¬ ok i' k) ∧ B ≤ w.heap.size
theorem PS.below {B : Nat} {w w' : World} {t : Nat → Nat} {m : Nat → List (ByteArray × Int)} (h : PS B w t m) (hb : Below w.heap.size w w') : PS B w' t m := by
  obtain ⟨ok, h1, h2, h3⟩ := h
  exact ⟨ok, fun i hi => (h1 i hi).keep (S := fun _ => False) (Upd.of_below hb) (fun _ _ h => h), h2, Nat.le_trans h3 hb.size⟩
theorem PS.tab {B : Nat} {w : World} {t : Nat → Nat} {m : Nat → List (ByteArray × Int)} (h : PS B w t m) {j : Nat} (hj : j < 2) : ∃ ok, TabSI w B ok (t j) (m j) := by
  obtain ⟨ok, h1, h2, h3⟩ := h
  exact ⟨ok j, h1 j hj⟩
/-- A call that changes one table. -/
theorem PS.step {B : Nat} {w : World} {t : Nat → Nat} {m : Nat → List (ByteArray × Int)} (h : PS B w t m) {j : Nat} (hj : j < 2) (m' : List (ByteArray × Int)) {f : FuncId} {args : Array Value} {b : Bool}
    (hc : ∀ ok, TabSI w B ok (t j) (m j) → Calls Try.prog f args w (PutPostSI w B ok (t j) m' b)) :
    Calls Try.prog f args w fun e w' => e = .returned (.bool b) ∧ Aside0 (PS B w' t (upd m j m')) ∧ Aside0 (Upd (TT w) w w') ∧ Aside0 (Below B w w') := by
  obtain ⟨ok, h1, h2, h3⟩ := h
  refine (hc _ ((h1 j hj).typed)).mono ?_
  rintro e w' ⟨he, hT, hU⟩
  refine ⟨he, ⟨fun i k => if i = j then ((ok j k ∧ B ≤ k ∧ k < w.heap.size) ∧ TT w k) ∨ w.heap.size ≤ k else ok i k ∧ k < w.heap.size, fun i hi => ?_, fun i i' k hi hi' hne ho ho' => ?_, Nat.le_trans h3 hU.size⟩, ⟨hU.mono (fun k hk => hk.2)⟩, ⟨hU.below (fun k hk => hk.1.2.1) h3⟩⟩
  · by_cases hij : i = j
    · subst hij
      rw [upd_same]
      exact hT.mono (fun k hk => by simpa using hk)
    · rw [upd_other _ _ hij]
      exact (((h1 i hi).bound).keep hU (fun k hk hs => h2 i j k hi hj hij hk.1 hs.1.1)).mono (fun k hk => by simpa [hij] using ⟨hk.1, hk.2.2⟩)
  · by_cases hij : i = j
    · subst hij
      have hi'j : ¬ i' = i := fun e => hne e.symm
      simp only [if_true, hi'j, if_false] at ho ho'
      rcases ho with ho | ho
      · exact h2 i i' k hi hi' hne ho.1.1 ho'.1
      · omega
    · simp only [hij, if_false] at ho
      by_cases hij' : i' = j
      · subst hij'
        simp only [if_true] at ho'
        rcases ho' with ho' | ho'
        · exact h2 i i' k hi hi' hne ho.1 ho'.1.1
        · omega
      · simp only [hij', if_false] at ho'
        exact h2 i i' k hi hi' hne ho.1 ho'.1
/-- A fork takes the other one's place. -/
theorem PS.fork {B : Nat} {w w' : World} {t : Nat → Nat} {m : Nat → List (ByteArray × Int)} (h : PS B w t m) {j i : Nat} (hj : j < 2) (hi : i < 2) (hij : i ≠ j) {t' : Nat} (hT : TabSI w' w.heap.size (fun k => w.heap.size ≤ k) t' (m j)) (hb : Below w.heap.size w w') : PS B w' (upd t i t') (upd m i (m j)) := by
  obtain ⟨ok, h1, h2, h3⟩ := h
  refine ⟨fun x k => if x = i then w.heap.size ≤ k else ok x k ∧ k < w.heap.size, fun x hx => ?_, fun x y k hx hy hne ho ho' => ?_, Nat.le_trans h3 hb.size⟩
  · by_cases hxi : x = i
    · subst hxi
      rw [upd_same, upd_same]
      exact (hT.lower h3).mono (fun k hk => by simpa using hk)
    · rw [upd_other _ _ hxi, upd_other _ _ hxi]
      exact (((h1 x hx).bound).keep (S := fun _ => False) (Upd.of_below hb) (fun _ _ h => h)).mono (fun k hk => by simpa [hxi] using ⟨hk.1, hk.2.2⟩)
  · by_cases hxi : x = i
    · subst hxi
      have hyx : ¬ y = x := fun e => hne e.symm
      simp only [if_true, hyx, if_false] at ho ho'
      omega
    · simp only [hxi, if_false] at ho
      by_cases hyi : y = i
      · simp only [hyi, if_true] at ho'
        omega
      · simp only [hyi, if_false] at ho'
        exact h2 x y k hx hy hne ho.1 ho'.1
/-- A row of pairs is none of the tables' blocks. -/
theorem row_upd {B : Nat} {w w' : World} {v : Value} {l : List Pr} (h : Kd.R k40 40 w B (fun _ => True) v l) (hu : Upd (TT w) w w') : Kd.R k40 40 w' B (fun _ => True) v l :=
  Kd.R_mono (Kd.R_step (Kd.R_bound h) (fun k hk hlt => hu.block k hlt (by
    obtain ⟨q, hq, cells, hc⟩ := hk.2.2.2
    have hq' : q = 40 := by
      rcases List.mem_cons.1 hq with h | h
      · exact h
      · rw [show k40.E = [] from rfl] at h; cases h
    subst hq'
    exact TT.ne hc (by decide) (by decide) (by decide)))) (fun _ _ => trivial)
def ptr (t : Nat) : Value := .pointer (some ⟨t, 0, none⟩)
/-- What holds in the midst of a call of a script. -/
structure PSq (W w : World) (g b : Nat) (t : Nat → Nat) (m : Nat → List (ByteArray × Int)) (l : Nat → List Pr) (v : Nat → Value) : Prop where
  below : Below W.heap.size W w
  gW : W.heap.size ≤ g
  bW : W.heap.size ≤ b
  hg : w.heap[g]? = some (.cells #[ptr (t 0), ptr (t 1)] 23 (0, 0))
  hb : w.heap[b]? = some (.cells #[v 0, v 1] 58 (0, 0))
  ps : PS W.heap.size w t m
  rows : ∀ i, i < 2 → Kd.R k40 40 w W.heap.size (fun _ => True) (v i) (l i)
/-- What holds between two calls of a script. -/
structure PSt (W w : World) (g b n : Nat) (t : Nat → Nat) (m : Nat → List (ByteArray × Int)) (l : Nat → List Pr) (v : Nat → Value) : Prop where
  q : PSq W w g b t m l v
  perm : ∀ i, i < 2 → ((m i).map ofP).Perm (l i)
  len : ∀ i, i < 2 → (l i).length ≤ n
section
variable {W w w' : World} {g b n : Nat} {t : Nat → Nat} {m m' : Nat → List (ByteArray × Int)} {l : Nat → List Pr} {v : Nat → Value}
theorem PSq.srt (h : PSq W w g b t m l v) {j : Nat} (hj : j < 2) : Srt slt (m j) := by obtain ⟨ok, hT⟩ := h.ps.tab hj; exact hT.srt
theorem PSt.same (h : PSt W w g b n t m l v) {j : Nat} (hj : j < 2) (hn : n ≤ 4000000000000) : Same (m j) (l j) := ⟨h.perm j hj, h.q.srt hj, by have := h.len j hj; omega⟩
theorem PSt.mlen (h : PSt W w g b n t m l v) {j : Nat} (hj : j < 2) : (m j).length ≤ n := by have := (h.perm j hj).length_eq; simp at this; have := h.len j hj; omega
theorem PSq.cg (h : PSq W w g b t m l v) {j : Nat} (hj : j < 2) : w.cell? ⟨g, j, none⟩ = some (.pointer (some ⟨t j, 0, none⟩)) := by
  rw [cell_of_row w g j _ _ _ h.hg]
  match j, hj with
  | 0, _ => rfl
  | 1, _ => rfl
theorem PSq.cb (h : PSq W w g b t m l v) {j : Nat} (hj : j < 2) : w.cell? ⟨b, j, none⟩ = some (v j) := by
  rw [cell_of_row w b j _ _ _ h.hb]
  match j, hj with
  | 0, _ => rfl
  | 1, _ => rfl
theorem PSq.zb (h : PSq W w g b t m l v) (j : Nat) : w.frozen? ⟨b, j, none⟩ = false := blk_frozen h.hb j
theorem PSq.zg (h : PSq W w g b t m l v) (j : Nat) : w.frozen? ⟨g, j, none⟩ = false := blk_frozen h.hg j
theorem PSt.more (h : PSt W w g b n t m l v) {n' : Nat} (hn : n ≤ n') : PSt W w g b n' t m l v := ⟨h.q, h.perm, fun i hi => Nat.le_trans (h.len i hi) hn⟩
theorem PSq.step_ (h : PSq W w g b t m l v) (hb : Below w.heap.size w w') : PSq W w' g b t m l v :=
  ⟨below_then h.below h.below.size hb, h.gW, h.bW, (hb.block g (blk_lt h.hg)).trans h.hg, (hb.block b (blk_lt h.hb)).trans h.hb, h.ps.below hb, fun i hi => Kd.R_below (h.rows i hi) hb⟩
theorem PSt.step_ (h : PSt W w g b n t m l v) (hb : Below w.heap.size w w') : PSt W w' g b n t m l v := ⟨h.q.step_ hb, h.perm, h.len⟩
/-- A table's call. -/
theorem PSq.call (h : PSq W w g b t m l v) (hp : PS W.heap.size w' t m') (hu : Upd (TT w) w w') (hb : Below W.heap.size w w') : PSq W w' g b t m' l v :=
  ⟨h.below.trans hb, h.gW, h.bW, hu.blk h.hg (TT.ne h.hg (by decide) (by decide) (by decide)), hu.blk h.hb (TT.ne h.hb (by decide) (by decide) (by decide)), hp, fun i hi => row_upd (h.rows i hi) hu⟩
theorem PS.far {B : Nat} (hps : PS B w t m) {q : Nat} {cells : Array Value} (hb : w.heap[b]? = some (.cells cells q (0, 0))) (h1 : q ≠ 9) (h2 : q ≠ 3) (h3 : q ≠ 64) (hU : Upd (fun k => k = b) w w') : PS B w' t m := by
  obtain ⟨ok, k1, k2, k3⟩ := hps
  refine ⟨fun i k => ok i k ∧ TT w k, fun i hi => ?_, fun i i' k hi hi' hne ho ho' => k2 i i' k hi hi' hne ho.1 ho'.1, Nat.le_trans k3 hU.size⟩
  exact (((k1 i hi).typed).keep hU (fun k hk e => by subst e; exact TT.ne hb h1 h2 h3 hk.2)).mono (fun k hk => ⟨hk.1.1, hk.2⟩)
/-- A store of another row of pairs. -/
theorem PSq.row (h : PSq W w g b t m l v) {j : Nat} (hj : j < 2) {u : Value} {x : List Pr} (hu : Kd.R k40 40 w W.heap.size (fun _ => True) u x) : PSq W (w.setCell ⟨b, j, none⟩ u) g b t m (upd l j x) (upd v j u) := by
  have hU : Upd (fun k => k = b) w (w.setCell ⟨b, j, none⟩ u) := Upd.setCell (S := fun k => k = b) (p := ⟨b, j, none⟩) (.inl rfl) _
  have hgb : g ≠ b := fun e => by have hg := h.hg; rw [e, h.hb] at hg; injection hg with hg; injection hg with _ hg; exact absurd hg (by decide)
  refine ⟨h.below.trans (hU.below (fun k hk => by rw [hk]; exact h.bW) h.below.size), h.gW, h.bW, hU.blk h.hg hgb, ?_, h.ps.far h.hb (by decide) (by decide) (by decide) hU, fun i hi => ?_⟩
  · have := blk_put h.hb j u rfl
    rw [this]
    match j, hj with
    | 0, _ => rfl
    | 1, _ => rfl
  · by_cases hij : i = j
    · subst hij
      rw [upd_same, upd_same]
      exact Kd.R_set hu h.hb (by decide) i _
    · rw [upd_other _ _ hij, upd_other _ _ hij]
      exact Kd.R_set (h.rows i hi) h.hb (by decide) j _
/-- A store of another table. -/
theorem PSq.tabl (h : PSq W w g b t m l v) {j : Nat} (hj : j < 2) {t' : Nat} {m' : Nat → List (ByteArray × Int)} (hp : PS W.heap.size w (upd t j t') m') : PSq W (w.setCell ⟨g, j, none⟩ (.pointer (some ⟨t', 0, none⟩))) g b (upd t j t') m' l v := by
  have hU : Upd (fun k => k = g) w (w.setCell ⟨g, j, none⟩ (.pointer (some ⟨t', 0, none⟩))) := Upd.setCell (S := fun k => k = g) (p := ⟨g, j, none⟩) (.inl rfl) _
  have hgb : b ≠ g := fun e => by have hg := h.hg; rw [← e, h.hb] at hg; injection hg with hg; injection hg with _ hg; exact absurd hg (by decide)
  refine ⟨h.below.trans (hU.below (fun k hk => by rw [hk]; exact h.gW) h.below.size), h.gW, h.bW, ?_, hU.blk h.hb hgb, hp.far h.hg (by decide) (by decide) (by decide) hU, fun i hi => ?_⟩
  · have := blk_put h.hg j (.pointer (some ⟨t', 0, none⟩)) rfl
    rw [this]
    match j, hj with
    | 0, _ => rfl
    | 1, _ => rfl
  · exact Kd.R_set (h.rows i hi) h.hg (by decide) j _
end
/-- A call's record among the arguments. -/
def kOp : Kd (Int × Int × ByteArray × Int) := Kd.pair (Kd.int .i64) (Kd.pair (Kd.int .i64) (Kd.pair Kd.string (Kd.int .i64)))
theorem at_Op {w : World} {A : Option Addr} {n : Nat} {xs : List (Int × Int × ByteArray × Int)} (h : Kd.C kOp w A n xs) (i : Nat) (hi : i < n) (x : Int × Int × ByteArray × Int) (hx : xs[i]? = some x) :
    ∃ ad : Addr, A = some ad ∧ w.cell? (ad.add (i * 4)) = some (.int .i64 x.1) ∧ w.cell? ⟨(ad.add (i * 4)).block, (ad.add (i * 4)).off + 1, none⟩ = some (.int .i64 x.2.1) ∧ w.cell? ⟨(ad.add (i * 4)).block, (ad.add (i * 4)).off + 2, none⟩ = some (.string x.2.2.1) ∧ w.cell? ⟨(ad.add (i * 4)).block, (ad.add (i * 4)).off + 3, none⟩ = some (.int .i64 x.2.2.2) := by
  obtain ⟨ad, c, e, _, hK, hc0⟩ := Kd.C_get h (0, 0, ByteArray.empty, 0) (i : Int) (by omega) (by omega)
  rw [Int.toNat_natCast, List.getD_eq_getElem?_getD, hx] at hK
  rw [Int.toNat_natCast] at hc0
  have hc : ∀ j u, c[j]? = some u → w.cell? (ad.add (i * 4 + j)) = some u := hc0
  obtain ⟨_, _, rfl, rfl, _, _, rfl, rfl, _, _, rfl, rfl, rfl⟩ := hK
  exact ⟨ad, e, hc 0 _ rfl, by rw [← add_field _ _ 1 (by omega)]; exact hc 1 _ rfl, by rw [← add_field _ _ 2 (by omega)]; exact hc 2 _ rfl, by rw [← add_field _ _ 3 (by omega)]; exact hc 3 _ rfl⟩
theorem and_one (x : Int) : bits .and .i64 x 1 = x % 2 := by
  show IntKind.i64.wrap ((BitVec.ofInt 64 x &&& BitVec.ofInt 64 1).toNat : Int) = _
  have h1 : (BitVec.ofInt 64 x &&& BitVec.ofInt 64 1).toNat = (BitVec.ofInt 64 x).toNat % 2 := by
    rw [BitVec.toNat_and]
    exact Nat.and_one_is_mod _
  have h2 : ((BitVec.ofInt 64 x).toNat : Int) = x % 18446744073709551616 := by
    rw [BitVec.toNat_ofInt]
    omega
  rw [h1, IntKind.wrap_i64]
  omega
end Go.Proofs.Ytkpicjhhkdjejaa
