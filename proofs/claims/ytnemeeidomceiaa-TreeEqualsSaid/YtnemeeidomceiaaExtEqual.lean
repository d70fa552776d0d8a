import Derived.Test.YtnemeeidomceiaaTreeKinds
namespace Go.Proofs.Ytnemeeidomceiaa
open Go.RowKit Go.Proofs.YtnemeeidomceiaaW.PrintWords Go.Proofs.YtnemeeidomceiaaW.PrintLast Go.Proofs.YtnemeeidomceiaaW.PrintMore
set_option linter.unusedSimpArgs false
set_option linter.unusedVariables false

noncomputable def eqB {α : Type} (x y : α) : Bool := @decide (x = y) (Classical.propDecidable _)
theorem eqB_true {α : Type} {x y : α} (h : x = y) : eqB x y = true := by unfold eqB; simp [h]
theorem eqB_false {α : Type} {x y : α} (h : ¬ x = y) : eqB x y = false := by unfold eqB; simp [h]
theorem text_eq {s t : ByteArray} (h : s.toList = t.toList) : s = t := by
  rw [ByteArray.toList_eq, ByteArray.toList_eq] at h
  cases s; cases t
  simpa [Array.toList_inj] using h

/-- What a Node's Equal says, below a size. -/
def EqualBelow (n : Nat) : Prop := ∀ (k : Int) (e : Bool) (t : ByteArray) (A : Option Addr) (c : Nat) (l : List S49) (k' : Int) (e' : Bool) (t' : ByteArray) (A' : Option Addr) (c' : Nat) (l' : List S49) (w : World),
  SizeOf.sizeOf l < n → Kd.C k49 w A l.length l → l.length ≤ c → Kd.C k49 w A' l'.length l' → l'.length ≤ c' →
  Calls Try.prog 6 #[.agg #[.int .i64 k, .bool e, .string t, .slice A l.length c], .agg #[.int .i64 k', .bool e', .string t', .slice A' l'.length c']] w
    fun o w' => o = .returned (.bool (eqB (k, e, t, l) (k', e', t', l'))) ∧ Below w.heap.size w w'

set_option maxHeartbeats 1000000 in
set_option maxRecDepth 100000 in
theorem equal1_calls (n : Nat) (ih : EqualBelow n) (x y : S49) (Ax Ay : Option Addr) (cx cy : Nat) (w : World) (hn : SizeOf.sizeOf x.f4 < n)
    (hx : Kd.C k49 w Ax x.f4.length x.f4) (hcx : x.f4.length ≤ cx) (hy : Kd.C k49 w Ay y.f4.length y.f4) (hcy : y.f4.length ≤ cy) :
    Calls Try.prog 19 #[.agg #[.string x.f0, .int .i64 x.f1, .bool x.f2, .string x.f3, .slice Ax x.f4.length cx], .agg #[.string y.f0, .int .i64 y.f1, .bool y.f2, .string y.f3, .slice Ay y.f4.length cy]] w
      fun o w' => o = .returned (.bool (eqB x y)) ∧ Below w.heap.size w w' := by
  have HX := Aside0.mk hx
  have HY := Aside0.mk hy
  have IH := Aside0.mk ih
  have HN := Aside0.mk hn
  clear hx hy ih hn
  obtain ⟨x0, x1, x2, x3, x4⟩ := x
  obtain ⟨y0, y1, y2, y3, y4⟩ := y
  simp only at *
  have HCX := Aside0.mk hcx
  have HCY := Aside0.mk hcy
  clear hcx hcy
  by_cases h0 : x0.toList = y0.toList
  · have h0b : (x0.toList == y0.toList) = true := beq_iff_eq.2 h0
    obtain rfl := text_eq h0
    clear h0
    go_enter Try.func19, Try.ntmps19
    go_wp2_with fail
    refine (IH.out x1 x2 x3 Ax cx x4 y1 y2 y3 Ay cy y4 _ HN.out (Kd.C_alloc (Kd.C_alloc HX.out _) _) HCX.out (Kd.C_alloc (Kd.C_alloc HY.out _) _) HCY.out).mono ?_
    rintro o w1 ⟨rfl, hb⟩
    have HB := Aside0.mk (below_step (((Below.refl w.heap.size w).alloc (Nat.le_refl _) _).alloc (by simp) _) hb)
    clear hb
    have HR : Aside0 (eqB (S49.mk x0 x1 x2 x3 x4) (S49.mk x0 y1 y2 y3 y4) = eqB (x1, x2, x3, x4) (y1, y2, y3, y4)) := ⟨by
      unfold eqB
      congr 1
      simp⟩
    generalize eqB (x1, x2, x3, x4) (y1, y2, y3, y4) = r at *
    go_wp2_with fail
    go_ret
    exact ⟨by rw [HR.out]; rfl, HB.out⟩
  · have h0b : (x0.toList == y0.toList) = false := beq_eq_false_iff_ne.2 h0
    have HR := Aside0.mk (eqB_false (x := S49.mk x0 x1 x2 x3 x4) (y := S49.mk y0 y1 y2 y3 y4) (fun h => h0 (by cases h; rfl)))
    clear h0
    go_enter Try.func19, Try.ntmps19
    go_wp2_with fail
    go_ret
    exact ⟨by rw [HR.out]; rfl, ((Below.refl _ _).alloc (Nat.le_refl _) _).alloc (by simp) _⟩

theorem take_snoc (l : List S49) (k : Nat) (h : k < l.length) : l.take (k + 1) = l.take k ++ [rd_T49 l (k : Int)] := by
  rw [List.take_succ_eq_append_getElem h]
  simp [rd_T49, h]
set_option maxHeartbeats 1000000 in
set_option maxRecDepth 100000 in
theorem equalFunc_calls (n : Nat) (ih : EqualBelow n) (l l' : List S49) (A A' : Option Addr) (c c' : Nat) (w : World) (hn : SizeOf.sizeOf l ≤ n)
    (hx : Kd.C k49 w A l.length l) (hcx : l.length ≤ c) (hy : Kd.C k49 w A' l'.length l') (hcy : l'.length ≤ c') :
    Calls Try.prog 18 #[.slice A l.length c, .slice A' l'.length c', .func (.func 19) #[] #[]] w
      fun o w' => o = .returned (.bool (eqB l l')) ∧ Below w.heap.size w w' := by
  have HX := Aside0.mk hx
  have HY := Aside0.mk hy
  have IH := Aside0.mk ih
  have HN := Aside0.mk hn
  have hm := hx.2.1
  clear hx hy ih hn
  by_cases hl : l.length = l'.length
  · have hlb : (l.length == l'.length) = true := beq_iff_eq.2 hl
    have hlb2 : ((l.length : Int) != (l'.length : Int)) = false := by rw [bne_eq_false_iff_eq]; omega
    have HL := Aside0.mk hl
    clear hl
    go_enter Try.func18, Try.ntmps18
    go_wp2
    go_loopw [7, 8, 9, 17] (fun _ _ _ v17 wr => ∃ k : Nat, k ≤ l.length ∧ v17 = .int .i64 k ∧ Aside0 (l.take k = l'.take k) ∧ Aside0 (Below w.heap.size w wr)) (fun _ _ _ v _ => l.length - (intOf v).toNat)
    case atStart => exact ⟨0, Nat.zero_le _, rfl, ⟨rfl⟩, ⟨Below.refl _ _⟩⟩
    case round =>
      obtain ⟨k, hk, rfl, HT, HB⟩ := hrel
      by_cases hlt : k < l.length
      · have hlt' : k < l'.length := by have := HL.out; omega
        obtain ⟨ad, A4, c4, hA, e0, e1, e2, e3, e4, hl4, hC4⟩ := at_T49 (Kd.C_below HX.out HB.out) (k : Int) (by omega) (by omega)
        obtain ⟨ad', A4', c4', hA', e0', e1', e2', e3', e4', hl4', hC4'⟩ := at_T49 (Kd.C_below HY.out HB.out) (k : Int) (by omega) (by omega)
        subst hA hA'
        simp only [Int.toNat_natCast] at e0 e1 e2 e3 e4 e0' e1' e2' e3' e4'
        have HC4 := Aside0.mk hC4
        have HC4' := Aside0.mk hC4'
        have HL4 := Aside0.mk hl4
        have HL4' := Aside0.mk hl4'
        have HTS := Aside0.mk (take_snoc l k hlt)
        have HTS' := Aside0.mk (take_snoc l' k hlt')
        have HSZ : Aside0 (SizeOf.sizeOf (rd_T49 l (k : Int)).f4 < n) := ⟨by
          have hmem : rd_T49 l (k : Int) ∈ l := by simp [rd_T49, hlt]
          have h1 := List.sizeOf_lt_of_mem hmem
          have h2 : SizeOf.sizeOf (rd_T49 l (k : Int)).f4 < SizeOf.sizeOf (rd_T49 l (k : Int)) := by
            cases rd_T49 l (k : Int)
            simp
            omega
          have := HN.out
          omega⟩
        clear hC4 hC4' hl4 hl4'
        generalize rd_T49 l (k : Int) = x at *
        generalize rd_T49 l' (k : Int) = y at *
        have hblk := World.block_lt_of_cell? _ _ e0'
        go_wp2_with fail
        refine (equal1_calls n IH.out x y A4 A4' c4 c4' _ HSZ.out (Kd.C_alloc (Kd.C_alloc HC4.out _) _) HL4.out (Kd.C_alloc (Kd.C_alloc HC4'.out _) _) HL4'.out).mono ?_
        rintro o w1 ⟨rfl, hb⟩
        have HB1 := Aside0.mk (below_step (below_alloc (below_alloc HB.out _) _) hb)
        clear hb e0 e1 e2 e3 e4 e0' e1' e2' e3' e4' HB HC4 HC4'
        by_cases hxy : x = y
        · have HE := eqB_true hxy
          have HXY := Aside0.mk hxy
          clear hxy
          go_wp2_with fail
          go_roundw
          case rel => exact ⟨k + 1, by omega, by go_num, ⟨by rw [HTS.out, HTS'.out, HT.out, HXY.out]⟩, HB1⟩
          case measure => simp [intOf]; omega
        · have HE := eqB_false hxy
          have HXY := Aside0.mk hxy
          clear hxy
          go_wp2_with fail
          go_ret
          refine ⟨?_, HB1.out⟩
          have hne : ¬ l = l' := fun h => HXY.out (by
            have h1 := HTS.out
            have h2 := HTS'.out
            have h3 := HT.out
            rw [← h] at h2 h3
            exact List.singleton_inj.1 (List.append_cancel_left (h1.symm.trans h2)))
          rw [eqB_false hne]
          rfl
      · obtain rfl : k = l.length := by omega
        go_wp2_with fail
        go_ret
        refine ⟨?_, HB.out⟩
        have h1 : l = l' := by
          have := HT.out
          rw [List.take_of_length_le (Nat.le_refl _), List.take_of_length_le (by have := HL.out; omega)] at this
          exact this
        rw [eqB_true h1]
        rfl
  · have hlb : (l.length == l'.length) = false := beq_eq_false_iff_ne.2 hl
    have HR := Aside0.mk (eqB_false (x := l) (y := l') (fun h => hl (by rw [h])))
    clear hl
    go_enter Try.func18, Try.ntmps18
    go_wp2_with fail
    go_ret
    exact ⟨by rw [HR.out]; rfl, Below.refl _ _⟩

set_option maxHeartbeats 1000000 in
set_option maxRecDepth 100000 in
theorem equal_step (n : Nat) (ih : EqualBelow n) : EqualBelow (n + 1) := by
  intro k e t A c l k' e' t' A' c' l' w hn hx hcx hy hcy
  have HX := Aside0.mk hx
  have HY := Aside0.mk hy
  have HCX := Aside0.mk hcx
  have HCY := Aside0.mk hcy
  have IH := Aside0.mk ih
  have HN : Aside0 (SizeOf.sizeOf l ≤ n) := ⟨by omega⟩
  clear hx hy ih hn hcx hcy
  by_cases h : k = k' ∧ e = e' ∧ t.toList = t'.toList
  · obtain ⟨rfl, rfl, h3⟩ := h
    have h1b : (k != k) = false := by simp
    have h2b : (e != e) = false := by simp
    have h3b : (t.toList != t'.toList) = false := by rw [h3]; simp
    obtain rfl := text_eq h3
    clear h3
    go_enter Try.func6, Try.ntmps6
    go_wp2_with fail
    refine (equalFunc_calls n IH.out l l' A A' c c' _ HN.out (Kd.C_alloc (Kd.C_alloc HX.out _) _) HCX.out (Kd.C_alloc (Kd.C_alloc HY.out _) _) HCY.out).mono ?_
    rintro o w1 ⟨rfl, hb⟩
    have HB := Aside0.mk (below_step (((Below.refl w.heap.size w).alloc (Nat.le_refl _) _).alloc (by simp) _) hb)
    clear hb
    have HR : Aside0 (eqB (k, e, t, l) (k, e, t, l') = eqB l l') := ⟨by
      unfold eqB
      congr 1
      simp⟩
    generalize eqB l l' = r at *
    go_wp2_with fail
    go_ret
    exact ⟨by rw [HR.out]; rfl, HB.out⟩
  · have HR := Aside0.mk (eqB_false (x := (k, e, t, l)) (y := (k', e', t', l')) (fun q => h (by cases q; exact ⟨rfl, rfl, rfl⟩)))
    have hways : ((k != k') = true ∧ (k == k') = false) ∨ ((k != k') = false ∧ (k == k') = true ∧ (e != e') = true ∧ (e == e') = false) ∨ ((k != k') = false ∧ (k == k') = true ∧ (e != e') = false ∧ (e == e') = true ∧ (t.toList != t'.toList) = true ∧ (t.toList == t'.toList) = false) := by
      by_cases h1 : k = k'
      · by_cases h2 : e = e'
        · right; right
          have h3 : ¬ t.toList = t'.toList := fun h3 => h ⟨h1, h2, h3⟩
          exact ⟨by simp [h1], by simp [h1], by simp [h2], by simp [h2], by rw [bne_iff_ne]; exact h3, beq_eq_false_iff_ne.2 h3⟩
        · right; left
          exact ⟨by simp [h1], by simp [h1], by simp [h2], by simp [h2]⟩
      · left
        simp [h1]
    clear h
    rcases hways with ⟨h1, h1'⟩ | ⟨h1, h1', h2, h2'⟩ | ⟨h1, h1', h2, h2', h3, h3'⟩
    all_goals
      go_enter Try.func6, Try.ntmps6
      go_wp2_with fail
      go_ret
      exact ⟨by rw [HR.out]; rfl, ((Below.refl _ _).alloc (Nat.le_refl _) _).alloc (by simp) _⟩
theorem equal_all (n : Nat) : EqualBelow n := by
  induction n with
  | zero => intro k e t A c l k' e' t' A' c' l' w hn; exact absurd hn (Nat.not_lt_zero _)
  | succ n ih => exact equal_step n ih
noncomputable def tree_Equal.f (k : Int) (e : Bool) (t : ByteArray) (l : List S49) (k' : Int) (e' : Bool) (t' : ByteArray) (l' : List S49) : Option Bool := some (eqB (k, e, t, l) (k', e', t', l'))
theorem tree_Equal.calls (k : Int) (e : Bool) (t : ByteArray) (A : Option Addr) (c : Nat) (l : List S49) (k' : Int) (e' : Bool) (t' : ByteArray) (A' : Option Addr) (c' : Nat) (l' : List S49) (r : Bool) (w : World)
    (hx : Kd.C k49 w A l.length l) (hcx : l.length ≤ c) (hy : Kd.C k49 w A' l'.length l') (hcy : l'.length ≤ c') (h : tree_Equal.f k e t l k' e' t' l' = some r) :
    Calls Try.prog 6 #[.agg #[.int .i64 k, .bool e, .string t, .slice A l.length c], .agg #[.int .i64 k', .bool e', .string t', .slice A' l'.length c']] w
      fun o w' => o = .returned (.bool r) ∧ Below w.heap.size w w' := by
  obtain rfl := Option.some.inj h
  exact equal_all _ k e t A c l k' e' t' A' c' l' w (Nat.lt_succ_self _) hx hcx hy hcy
end Go.Proofs.Ytnemeeidomceiaa
