import Derived.Test.YtkpicjhhkdjejaaOneState
set_option linter.unusedVariables false
set_option linter.unusedSimpArgs false
namespace Go.Proofs.Ytkpicjhhkdjejaa
open Go.RowKit Go.Proofs.YtkpicjhhkdjejaaW.PrintWords Go.Proofs.YtkpicjhhkdjejaaW.PrintLast Go.Proofs.YtkpicjhhkdjejaaW.PrintMore Go.Proofs.Ytkpicjhhkdjejaa.Tb Go.Proofs.Ytkpicjhhkdjejaa.PTablePlays
/-- The table, its fork and the second list of keys, while the first list is spoilt. -/
structure KF (W : World) (lo hi t f : Nat) (m : List (ByteArray × Int)) (l : List Pr) (v vB : Value) (w : World) : Prop where
  below : Below W.heap.size W w
  l0 : W.heap.size ≤ lo
  l1 : lo ≤ hi
  l2 : hi ≤ w.heap.size
  tab : TabSI w W.heap.size (fun k => k < lo) t m
  row : Kd.R k40 40 w W.heap.size (fun k => k < lo) v l
  b : Kd.R Kd.string 9 w W.heap.size (fun k => hi ≤ k) vB (m.map (·.1))
  fork : TabSI w W.heap.size (fun k => hi ≤ k) f m
/-- The first list of keys. -/
structure KA (W w4 : World) (lo hi n : Nat) (v : Value) (w : World) : Prop where
  row : ∃ ys : List ByteArray, ys.length = n ∧ Kd.R Kd.string 9 w W.heap.size (fun k => (lo ≤ k ∧ k < hi) ∨ w4.heap.size ≤ k) v ys
  upd : Upd (fun k => lo ≤ k ∧ k < hi) w4 w
section
variable {W w w' w2 w3 w4 : World} {lo hi t f n : Nat} {m : List (ByteArray × Int)} {l : List Pr} {v vA vB : Value}
theorem KF.upd (h : KF W lo hi t f m l v vB w) (hU : Upd (fun k => lo ≤ k ∧ k < hi) w w') : KF W lo hi t f m l v vB w' :=
  ⟨h.below.trans (hU.below (fun k hk => Nat.le_trans h.l0 hk.1) h.below.size), h.l0, h.l1, Nat.le_trans h.l2 hU.size, h.tab.keep hU (fun k hk hs => by omega), Kd.R_step h.row (fun k hk hlt => hU.block k hlt (by omega)), Kd.R_step h.b (fun k hk hlt => hU.block k hlt (by omega)), h.fork.keep hU (fun k hk hs => by omega)⟩
theorem KF.mk_ (h : OSt W w n t m l v) (hb2 : Below w.heap.size w w2) (hb3 : Below w2.heap.size w2 w3) (hb4 : Below w3.heap.size w3 w4) (hR : Kd.R Kd.string 9 w3 w2.heap.size (fun k => w2.heap.size ≤ k ∧ k < w3.heap.size) vB (m.map (·.1))) (hT : TabSI w4 w3.heap.size (fun k => w3.heap.size ≤ k) f m) : KF W w.heap.size w2.heap.size t f m l v vB w4 := by
  have s0 := h.below.size
  have s2 := hb2.size
  have s3 := hb3.size
  have s4 := hb4.size
  have hb : Below w.heap.size w w4 := below_two (below_two hb2 hb3) hb4
  refine ⟨below_then h.below s0 hb, s0, s2, by omega, ?_, ?_, ?_, ?_⟩
  · exact ((h.tab.bound).keep (S := fun _ => False) (Upd.of_below hb) (fun _ _ h => h)).mono (fun k hk => hk.2.2)
  · exact Kd.R_below (Kd.R_mono (Kd.R_bound h.row) (fun k hk => hk.2.2.1)) hb
  · exact Kd.R_below (Kd.R_mono (Kd.R_lower hR (by omega)) (fun k hk => hk.1)) hb4
  · exact (hT.lower (by omega)).mono (fun k hk => by omega)
theorem KA.mk_ (h : OSt W w n t m l v) (hb2 : Below w.heap.size w w2) (hb3 : Below w2.heap.size w2 w3) (hb4 : Below w3.heap.size w3 w4) (hR : Kd.R Kd.string 9 w2 w.heap.size (fun k => w.heap.size ≤ k ∧ k < w2.heap.size) vA (m.map (·.1))) : KA W w4 w.heap.size w2.heap.size m.length vA w4 := by
  have s0 := h.below.size
  exact ⟨⟨m.map (·.1), by simp, Kd.R_below (Kd.R_mono (Kd.R_lower hR s0) (fun k hk => .inl hk)) (below_two hb3 hb4)⟩, Upd.refl _ _⟩
theorem KA.slice (h : KA W w4 lo hi n v w) : ∃ A c, v = .slice A n c := by
  obtain ⟨ys, hy, hR⟩ := h.row
  obtain ⟨A, c, hv⟩ := Kd.R_slice hR
  exact ⟨A, c, by rw [hv, hy]⟩
/-- One place of the list is spoilt. -/
theorem KA.store {A : Option Addr} {c : Nat} (h : KA W w4 lo hi n (.slice A n c) w) (hl : lo ≤ hi) (i : Nat) (hi' : i < n) (x : ByteArray) :
    ∃ g y, A = some ⟨g, 0, none⟩ ∧ w.cell? ⟨g, i, none⟩ = some (.string y) ∧ w.frozen? ⟨g, i, none⟩ = false ∧ KA W w4 lo hi n (.slice A n c) (w.setCell ⟨g, i, none⟩ (.string x)) := by
  obtain ⟨⟨ys, hy, hR⟩, hU⟩ := h
  obtain ⟨inner, hown⟩ := Kd.R_own hR
  rcases hown.2 with ⟨_, h0⟩ | ⟨g, cap, cur, hv, _⟩
  · omega
  · injection hv with hA _ hc
    subst hA hc hy
    have hc := Kd.R_cell ByteArray.empty hR (i : Int) (by omega) (by omega)
    have hp := Kd.R_put hR (i : Int) x
    simp only [Int.toNat_natCast] at hc hp
    refine ⟨g, _, rfl, hc.1, hc.2, ⟨_, by rw [List.length_set], hp.1⟩, hU.trans (Upd.of_grown hp.2 (S := fun k => (lo ≤ k ∧ k < hi) ∨ w4.heap.size ≤ k) (fun k hk => .inl (by injection hk with hk; subst hk; exact hR.1 _ rfl))) (fun k hk => hk)⟩
theorem KA.grown {w1 : World} {v1 : Value} {okA : Nat → Prop} {ys : List ByteArray} (h : KA W w4 lo hi n v w) (hR : Kd.R Kd.string 9 w1 W.heap.size (fun k => (lo ≤ k ∧ k < hi) ∨ w4.heap.size ≤ k) v1 ys) (hg : w.grownBy w1 v.ownBlock) (hy : ys.length = n + 1) : KA W w4 lo hi (n + 1) v1 w1 := by
  obtain ⟨⟨zs, hz, hR0⟩, hU⟩ := h
  exact ⟨⟨ys, hy, hR⟩, hU.trans (Upd.of_grown hg (S := fun k => (lo ≤ k ∧ k < hi) ∨ w4.heap.size ≤ k) (fun k hk => .inl (hR0.1 k hk))) (fun k hk => hk)⟩
def two {α : Type} (a b : α) : Nat → α := fun i => if i = 0 then a else b
theorem two_upd0 {α : Type} (a b c : α) : upd (two a b) 0 c = two c b := by
  funext i
  by_cases h : i = 0
  · subst h; rw [upd_same]; rfl
  · rw [upd_other _ _ h]; simp [two, h]
theorem two_upd1 {α : Type} (a b c : α) : ∀ i, i < 2 → upd (two a b) 1 c i = two a c i := fun i hi => by
  by_cases h : i = 1
  · subst h; rw [upd_same]; rfl
  · rw [upd_other _ _ h]
    obtain rfl : i = 0 := by omega
    rfl
/-- The two tables at the end. -/
structure KP (W w : World) (t f : Nat) (m m' : List (ByteArray × Int)) (l : List Pr) (v : Value) : Prop where
  below : Below W.heap.size W w
  ps : PS W.heap.size w (two t f) (two m m')
  row : Kd.R k40 40 w W.heap.size (fun _ => True) v l
theorem KF.kp (h : KF W lo hi t f m l v vB w) : KP W w t f m m l v := by
  refine ⟨h.below, ⟨fun i k => if i = 0 then k < lo else hi ≤ k, fun i hi => ?_, fun i i' k h1 h2 hne ho ho' => ?_, h.below.size⟩, Kd.R_mono h.row (fun _ _ => trivial)⟩
  · match i, hi with
    | 0, _ => exact h.tab.mono (fun k hk => by simpa using hk)
    | 1, _ => exact h.fork.mono (fun k hk => by simpa using hk)
  · have := h.l1
    match i, i', h1, h2 with
    | 0, 0, _, _ => exact hne rfl
    | 1, 1, _, _ => exact hne rfl
    | 0, 1, _, _ => simp at ho ho'; omega
    | 1, 0, _, _ => simp at ho ho'; omega
theorem PS.congr {B : Nat} {tt tt' : Nat → Nat} {mm mm' : Nat → List (ByteArray × Int)} (h : PS B w tt mm) (h1 : ∀ i, i < 2 → tt i = tt' i) (h2 : ∀ i, i < 2 → mm i = mm' i) : PS B w tt' mm' := by
  obtain ⟨ok, a, b, c⟩ := h
  exact ⟨ok, fun i hi => by rw [← h1 i hi, ← h2 i hi]; exact a i hi, b, c⟩
theorem KP.step_ {m' : List (ByteArray × Int)} (h : KP W w t f m m' l v) (hb : Below w.heap.size w w') : KP W w' t f m m' l v := ⟨below_then h.below h.below.size hb, h.ps.below hb, Kd.R_below h.row hb⟩
theorem KP.tab0 {m' : List (ByteArray × Int)} (h : KP W w t f m m' l v) : ∃ ok, TabSI w W.heap.size ok t m := h.ps.tab (j := 0) (by omega)
theorem KP.tab1 {m' : List (ByteArray × Int)} (h : KP W w t f m m' l v) : ∃ ok, TabSI w W.heap.size ok f m' := h.ps.tab (j := 1) (by omega)
theorem kp_put {m' : List (ByteArray × Int)} (h : KP W w t f m m' l v) (k : ByteArray) (x : Int) (hl : m.length ≤ 4000000000000) (c : Bool) (hc : c = true ↔ ¬ has m k) :
    Calls Try.prog 9 #[.pointer (some ⟨t, 0, none⟩), .string k, .int .i64 x] w fun e w' => e = .returned (.bool c) ∧ Aside0 (KP W w' t f (put slt m k x) m' l v) :=
  (h.ps.step (j := 0) (by omega) _ (fun ok hT => put_SI w W.heap.size t ok m k x hT (by omega) (by omega) h.below.size c hc)).mono fun e w' hp => ⟨hp.1, ⟨h.below.trans hp.2.2.2.out, hp.2.1.out.congr (fun _ _ => rfl) (fun i hi => by rw [two_upd0]), row_upd h.row hp.2.2.1.out⟩⟩
theorem kp_cut {m' : List (ByteArray × Int)} (h : KP W w t f m m' l v) (k : ByteArray) (hl : m'.length ≤ 4000000000000) (c : Bool) (hc : c = true ↔ has m' k) :
    Calls Try.prog 10 #[.pointer (some ⟨f, 0, none⟩), .string k] w fun e w' => e = .returned (.bool c) ∧ Aside0 (KP W w' t f m (cut slt m' k) l v) :=
  (h.ps.step (j := 1) (by omega) _ (fun ok hT => cut_SI w W.heap.size f ok m' k hT (by omega) c hc)).mono fun e w' hp => ⟨hp.1, ⟨h.below.trans hp.2.2.2.out, hp.2.1.out.congr (fun _ _ => rfl) (fun i hi => by rw [two_upd1 _ _ _ i hi]), row_upd h.row hp.2.2.1.out⟩⟩
end
end Go.Proofs.Ytkpicjhhkdjejaa
