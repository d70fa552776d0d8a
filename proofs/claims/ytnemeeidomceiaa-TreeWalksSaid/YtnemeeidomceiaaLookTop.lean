import Derived.Test.YtnemeeidomceiaaLookRef
import Derived.Test.YtnemeeidomceiaaLookDoor
/-! Look: the document's answer about a tree. -/
namespace Go.Proofs.Ytnemeeidomceiaa
open Go.RowKit Go.Proofs.YtnemeeidomceiaaW.PrintWords Go.Proofs.YtnemeeidomceiaaW.PrintLast Go.Proofs.YtnemeeidomceiaaW.PrintMore Go.Proofs.Ytnemeeidomceiaa.PTreeChecks
set_option linter.unusedVariables false
set_option linter.unusedSimpArgs false
def lookRows : Look → List RowT
  | .bad _ _ => []
  | .ok _ r => r
/-- The whole walk, called from Look. -/
theorem top_visit (k : Int) (e : Bool) (t : ByteArray) (A : Option Addr) (c : Nat) (l : List Ent) (w : World) (hC : Kd.C k49 w A l.length l) (hc : l.length ≤ c) (ht : Texts l) (h3 : t.size ≤ 140737488351232) (W : World) (hb : Below w.heap.size w W) :
    Calls Try.prog 22 #[.agg #[.slice none 0 0, .int .i64 magS, .int .i64 0, .string ⟨#[]⟩], .string ⟨#[]⟩, .agg #[.int .i64 k, .bool e, .string t, .slice A l.length c], .int .i64 1] W fun o W' =>
      ∃ v1 rows1 b1 c1 p1, o = .returned (.agg #[v1, .int .i64 b1, .int .i64 c1, .string p1]) ∧ RowsAt W' w.heap.size v1 rows1 ∧ RefRes (lookL k e t l) [] rows1 b1 c1 p1 ∧ Below W.heap.size W W' := by
  have h := ref_all 32 (Nat.le_refl _) ⟨#[]⟩ ⟨⟨#[]⟩, k, e, t, l⟩ A c magS (.slice none 0 0) [] ⟨#[]⟩ w.heap.size w W hb (Nat.le_refl _) hb.size (Kd.R_nil _ _ _ _ _) (by rw [magS_eq]; decide) (by rw [magS_eq]; decide) (by rw [magS_eq]; decide) (by decide) ht h3 hC hc
  refine h.mono ?_
  rintro o W' ⟨v1, rows1, b1, c1, p1, rfl, hR, hU, _, hres⟩
  exact ⟨v1, rows1, b1, c1, p1, rfl, hR, hres, hU.below (fun k hk => by cases hk) (Nat.le_refl _)⟩
/-- What the walk left for Look. -/
def TopRes (s : Look) (w w' : World) (b2 : Nat) (p : Nat × Value) : Prop := ∃ v1 rows1 b1 c1 p1, p.2 = .agg #[v1, .int .i64 b1, .int .i64 c1, .string p1] ∧ RowsAt w' w.heap.size v1 rows1 ∧ RefRes s [] rows1 b1 c1 p1 ∧ Below w.heap.size w w' ∧
  Blk w' p.1 36 [.slice none 0 0, .int .i64 0, .int .i64 0, .string ⟨#[]⟩] ∧ Blk w' b2 36 [.slice none 0 0, .int .i64 0, .int .i64 0, .string ⟨#[]⟩] ∧ b2 < p.1 ∧ w.heap.size ≤ b2
/-- What Look says. -/
def TopPost (s : Look) (w : World) (o : Ending) (w' : World) : Prop := ∃ v, o = .returned (.agg #[v, .int .i64 (lookSize s), .int .i64 (lookCode s), .string (lookPath s)]) ∧ RowsAt w' w.heap.size v ((lookRows s).map rowR) ∧ Below w.heap.size w w'
set_option maxHeartbeats 4000000 in
set_option maxRecDepth 100000 in
theorem look_calls (k : Int) (e : Bool) (t : ByteArray) (A : Option Addr) (c : Nat) (l : List Ent) (w : World) (hC : Kd.C k49 w A l.length l) (hc : l.length ≤ c) (ht : Texts l) (h3 : t.size ≤ 140737488351232) :
    Calls Try.prog 13 #[.agg #[.int .i64 k, .bool e, .string t, .slice A l.length c]] w (TopPost (lookL k e t l) w) := by
  have HV := Aside0.mk (top_visit k e t A c l w hC hc ht h3)
  have HFAIR : Aside0 (LookFair magS (lookL k e t l)) := ⟨nodeL_fair _ _ _ _⟩
  clear hC ht h3
  generalize lookL k e t l = s at *
  go_enter Try.func13, Try.ntmps13
  go_wp2_with fail
  obtain ⟨Wa, hWa⟩ : ∃ Wa, Wa = w.alloc (.cells #[.int .i64 k, .bool e, .string t, .slice A l.length c] 25) := ⟨_, rfl⟩
  have za : Wa.heap.size = w.heap.size + 1 := by rw [hWa]; simp
  have HBA : Aside0 (Blk Wa w.heap.size 25 [.int .i64 k, .bool e, .string t, .slice A l.length c]) := ⟨by rw [hWa]; exact Blk.new _ _ _⟩
  have HLA : Aside0 (Below w.heap.size w Wa) := ⟨by rw [hWa]; exact (Below.refl _ _).alloc (Nat.le_refl _) _⟩
  rw [← hWa]
  try rw [← za]
  clear hWa
  obtain ⟨Wb, hWb⟩ : ∃ Wb, Wb = Wa.alloc (.cells #[.slice none 0 0, .int .i64 0, .int .i64 0, .string ⟨#[]⟩] 36) := ⟨_, rfl⟩
  have HZp : Aside0 (Blk Wb Wa.heap.size 36 [.slice none 0 0, .int .i64 0, .int .i64 0, .string ⟨#[]⟩]) := ⟨by rw [hWb]; exact Blk.new _ _ _⟩
  have hal : Below Wa.heap.size Wa Wb := by rw [hWb]; exact (Below.refl _ _).alloc (Nat.le_refl _) _
  rw [← hWb]
  clear hWb
  have HLp := Aside0.mk (HLA.out.trans (hal.mono HLA.out.size))
  have HNp := Aside0.mk (HBA.out.below hal)
  obtain ⟨bn, hbn⟩ : ∃ q, q = w.heap.size := ⟨_, rfl⟩
  obtain ⟨b2, hb2⟩ : ∃ q, q = Wa.heap.size := ⟨_, rfl⟩
  have hbw : w.heap.size ≤ b2 := by omega
  have hb12 : bn < b2 := by omega
  rw [← hbn, ← hb2] at ⊢
  rw [← hbn] at HNp
  rw [← hb2] at HZp
  clear hal HBA HLA za hbn hb2
  refine start_ (n := 6) (S := fun w' => w'.cell? ⟨bn, 0, none⟩ = some (.int .i64 k) ∧ w'.cell? ⟨bn, 1, none⟩ = some (.bool e) ∧ w'.cell? ⟨bn, 2, none⟩ = some (.string t) ∧ w'.cell? ⟨bn, 3, none⟩ = some (.slice A l.length c)) (ds := [5]) #[false, false, false, false, false, false] (by kernel_rfl) rfl rfl (⟨HNp.out.cell 0 _ rfl, HNp.out.cell 1 _ rfl, HNp.out.cell 2 _ rfl, HNp.out.cell 3 _ rfl⟩) (fun hHeld => ?_)
  replace HLp : Aside0 (Below w.heap.size w Wb.drew) := ⟨below_drew HLp.out⟩
  replace HNp : Aside0 (Blk Wb.drew bn 25 [.int .i64 k, .bool e, .string t, .slice A l.length c]) := ⟨HNp.out⟩
  replace HZp : Aside0 (Blk Wb.drew b2 36 [.slice none 0 0, .int .i64 0, .int .i64 0, .string ⟨#[]⟩]) := ⟨HZp.out⟩
  generalize Wb.drew = Wc at *
  refine take_ (i := 2) (N := some 6) (v := ?_) (a' := ?_) #[false, false, true, false, false, false] rfl rfl (by kernel_rfl) (fun _ _ _ h => h) (Or.inl ⟨by rfl, ?_⟩) hHeld ?_ ?_
  rotate_left
  · rintro w' ⟨s0, s1, s2, s3⟩
    go_simp
    with_reducible rfl
  rotate_left
  · simp only [Act.put, List.setIfInBounds_toArray, List.set_cons_zero, List.set_cons_succ, i64_w, i32_w]
    rfl
  refine join_ (σ := Nat × Value) 1 #[true, true, true, true, true, false] (fun p => [(4, .int .i64 magS), (5, .agg #[.slice none 0 0, .int .i64 magS, .int .i64 0, .string ⟨#[]⟩]), (7, p.2), (3, .pointer (some ⟨p.1, 0, none⟩))]) (fun p w' => TopRes s w w' b2 p) ?_ ?_
  rotate_left
  · intro hCont
    refine two_ (i := 0) (j := 4) (Ni := some 4) (Nj := some 3) #[true, false, true, false, false, false] #[false, false, true, false, true, false] rfl rfl rfl rfl (by kernel_rfl) (by decide) (by decide) (fun K hK => ?_) (fun K hK => ?_)
    · skip
      refine goes_ Try.func23 (by kernel_rfl) rfl #[] (by rfl) rfl rfl (by first | (simp; done) | rfl | kernel_rfl) ?_
      refine (depotref06_Magic.calls 40 magS Wc (magic_E 40 (Nat.le_refl _))).mono ?_
      rintro o W1 ⟨rfl, hbW1⟩
      have HLW1 := Aside0.mk (HLp.out.trans (hbW1.mono HLp.out.size))
      have HNW1 := Aside0.mk (HNp.out.below hbW1)
      have HZW1 := Aside0.mk (HZp.out.below hbW1)
      refine ⟨_, rfl, ?_⟩
      refine hK.out _ _ ⟨HNW1.out.cell 0 _ rfl, HNW1.out.cell 1 _ rfl, HNW1.out.cell 2 _ rfl, HNW1.out.cell 3 _ rfl⟩ (fun hHeld => ?_)
      clear hK K
      refine norm_ (a' := ?_) ?_ ?_
      rotate_left
      · show Act.put _ (some 4) _ = _
        simp only [Act.put, List.setIfInBounds_toArray, List.set_cons_zero, List.set_cons_succ]
        rfl
      have HLp := HLW1
      have HNp := HNW1
      have HZp := HZW1
      refine pure_ (i := 1) (N := some 5) (v := ?_) (a' := ?_) #[true, true, true, false, false, false] rfl rfl (by kernel_rfl) (fun _ _ _ h => h) (Or.inl ⟨by rfl, ?_⟩) ?_ ?_
      rotate_left
      · intro w'
        go_simp
        with_reducible rfl
      rotate_left
      · simp only [Act.put, List.setIfInBounds_toArray, List.set_cons_zero, List.set_cons_succ, i64_w, i32_w]
        rfl
      refine two_ (i := 3) (j := 4) (Ni := some 7) (Nj := some 3) #[true, true, true, true, false, false] #[true, true, true, false, true, false] rfl rfl rfl rfl (by kernel_rfl) (by decide) (by decide) (fun K hK => ?_) (fun K hK => ?_)
      · skip
        refine goes_ Try.func22 (by kernel_rfl) rfl #[.agg #[.slice none 0 0, .int .i64 magS, .int .i64 0, .string ⟨#[]⟩], .string ⟨#[]⟩, .agg #[.int .i64 k, .bool e, .string t, .slice A l.length c], .int .i64 1] (by rfl) rfl rfl (by first | rfl | (simp only [List.map_toArray, List.map_cons, List.map_nil]; rfl)) ?_
        refine (HV.out W1 HLp.out).mono ?_
        rintro o W2 ⟨v1, rows1, b1, c1, p1, rfl, hRv, hres, hbW2⟩
        have HLW2 := Aside0.mk (HLp.out.trans (hbW2.mono HLp.out.size))
        have HNW2 := Aside0.mk (HNp.out.below hbW2)
        have HZW2 := Aside0.mk (HZp.out.below hbW2)
        refine ⟨_, rfl, ?_⟩
        refine hK.out _ _ ⟨HNW2.out.cell 0 _ rfl, HNW2.out.cell 1 _ rfl, HNW2.out.cell 2 _ rfl, HNW2.out.cell 3 _ rfl⟩ (fun hHeld => ?_)
        clear hK K
        refine norm_ (a' := ?_) ?_ ?_
        rotate_left
        · show Act.put _ (some 7) _ = _
          simp only [Act.put, List.setIfInBounds_toArray, List.set_cons_zero, List.set_cons_succ]
          rfl
        have HLp := HLW2
        have HNp := HNW2
        have HZp := HZW2
        have HRW := Aside0.mk hRv
        refine one_ (i := 4) (N := some 3) #[true, true, true, true, true, false] rfl rfl (by kernel_rfl) (by decide) (fun K hK => ?_)
        refine value_ (v := .pointer (some ⟨W2.heap.size, 0, none⟩)) (w1 := W2.alloc (.cells #[.slice none 0 0, .int .i64 0, .int .i64 0, .string ⟨#[]⟩] 36)) (by rfl) rfl ?_ ?_
        · first | rfl | (go_simp; done) | kernel_rfl
        have hbW3 : Below W2.heap.size W2 (W2.alloc (.cells #[.slice none 0 0, .int .i64 0, .int .i64 0, .string ⟨#[]⟩] 36)) := (Below.refl _ _).alloc (Nat.le_refl _) _
        have BGW3 : Aside0 (Blk (W2.alloc (.cells #[.slice none 0 0, .int .i64 0, .int .i64 0, .string ⟨#[]⟩] 36)) W2.heap.size 36 [.slice none 0 0, .int .i64 0, .int .i64 0, .string ⟨#[]⟩]) := ⟨Blk.new _ _ _⟩
        generalize W2.alloc (.cells #[.slice none 0 0, .int .i64 0, .int .i64 0, .string ⟨#[]⟩] 36) = W3 at *
        have HLW3 := Aside0.mk (HLp.out.trans (hbW3.mono HLp.out.size))
        have HNW3 := Aside0.mk (HNp.out.below hbW3)
        have HZW3 := Aside0.mk (HZp.out.below hbW3)
        have hgW3 : b2 < W2.heap.size := HZp.out.lt
        have hhW3 : w.heap.size ≤ W2.heap.size := HLp.out.size
        refine hK.out _ _ ⟨HNW3.out.cell 0 _ rfl, HNW3.out.cell 1 _ rfl, HNW3.out.cell 2 _ rfl, HNW3.out.cell 3 _ rfl⟩ (fun hHeld => ?_)
        clear hK K
        refine norm_ (a' := ?_) ?_ ?_
        rotate_left
        · show Act.put _ (some 3) _ = _
          simp only [Act.put, List.setIfInBounds_toArray, List.set_cons_zero, List.set_cons_succ]
          rfl
        exact norm_ (by first | (simp only [putAll, Act.put, List.setIfInBounds_toArray, List.set_cons_zero, List.set_cons_succ]; done) | (simp only [putAll, Act.put, List.setIfInBounds_toArray, List.set_cons_zero, List.set_cons_succ]; rfl)) (hCont (W2.heap.size, .agg #[v1, .int .i64 b1, .int .i64 c1, .string p1]) _ ⟨v1, rows1, b1, c1, p1, rfl, Kd.R_below HRW.out hbW3, hres, HLW3.out, BGW3.out, HZW3.out, hgW3, hbw⟩)
      · skip
        refine value_ (v := .pointer (some ⟨W1.heap.size, 0, none⟩)) (w1 := W1.alloc (.cells #[.slice none 0 0, .int .i64 0, .int .i64 0, .string ⟨#[]⟩] 36)) (by rfl) rfl ?_ ?_
        · first | rfl | (go_simp; done) | kernel_rfl
        have hbW2 : Below W1.heap.size W1 (W1.alloc (.cells #[.slice none 0 0, .int .i64 0, .int .i64 0, .string ⟨#[]⟩] 36)) := (Below.refl _ _).alloc (Nat.le_refl _) _
        have BGW2 : Aside0 (Blk (W1.alloc (.cells #[.slice none 0 0, .int .i64 0, .int .i64 0, .string ⟨#[]⟩] 36)) W1.heap.size 36 [.slice none 0 0, .int .i64 0, .int .i64 0, .string ⟨#[]⟩]) := ⟨Blk.new _ _ _⟩
        generalize W1.alloc (.cells #[.slice none 0 0, .int .i64 0, .int .i64 0, .string ⟨#[]⟩] 36) = W2 at *
        have HLW2 := Aside0.mk (HLp.out.trans (hbW2.mono HLp.out.size))
        have HNW2 := Aside0.mk (HNp.out.below hbW2)
        have HZW2 := Aside0.mk (HZp.out.below hbW2)
        have hgW2 : b2 < W1.heap.size := HZp.out.lt
        have hhW2 : w.heap.size ≤ W1.heap.size := HLp.out.size
        refine hK.out _ _ ⟨HNW2.out.cell 0 _ rfl, HNW2.out.cell 1 _ rfl, HNW2.out.cell 2 _ rfl, HNW2.out.cell 3 _ rfl⟩ (fun hHeld => ?_)
        clear hK K
        refine norm_ (a' := ?_) ?_ ?_
        rotate_left
        · show Act.put _ (some 3) _ = _
          simp only [Act.put, List.setIfInBounds_toArray, List.set_cons_zero, List.set_cons_succ]
          rfl
        have HLp := HLW2
        have HNp := HNW2
        have HZp := HZW2
        refine one_ (i := 3) (N := some 7) #[true, true, true, true, true, false] rfl rfl (by kernel_rfl) (by decide) (fun K hK => ?_)
        refine goes_ Try.func22 (by kernel_rfl) rfl #[.agg #[.slice none 0 0, .int .i64 magS, .int .i64 0, .string ⟨#[]⟩], .string ⟨#[]⟩, .agg #[.int .i64 k, .bool e, .string t, .slice A l.length c], .int .i64 1] (by rfl) rfl rfl (by first | rfl | (simp only [List.map_toArray, List.map_cons, List.map_nil]; rfl)) ?_
        refine (HV.out W2 HLp.out).mono ?_
        rintro o W3 ⟨v1, rows1, b1, c1, p1, rfl, hRv, hres, hbW3⟩
        have HLW3 := Aside0.mk (HLp.out.trans (hbW3.mono HLp.out.size))
        have HNW3 := Aside0.mk (HNp.out.below hbW3)
        have HZW3 := Aside0.mk (HZp.out.below hbW3)
        refine ⟨_, rfl, ?_⟩
        refine hK.out _ _ ⟨HNW3.out.cell 0 _ rfl, HNW3.out.cell 1 _ rfl, HNW3.out.cell 2 _ rfl, HNW3.out.cell 3 _ rfl⟩ (fun hHeld => ?_)
        clear hK K
        refine norm_ (a' := ?_) ?_ ?_
        rotate_left
        · show Act.put _ (some 7) _ = _
          simp only [Act.put, List.setIfInBounds_toArray, List.set_cons_zero, List.set_cons_succ]
          rfl
        exact norm_ (by first | (simp only [putAll, Act.put, List.setIfInBounds_toArray, List.set_cons_zero, List.set_cons_succ]; done) | (simp only [putAll, Act.put, List.setIfInBounds_toArray, List.set_cons_zero, List.set_cons_succ]; rfl)) (hCont (W1.heap.size, .agg #[v1, .int .i64 b1, .int .i64 c1, .string p1]) _ ⟨v1, rows1, b1, c1, p1, rfl, hRv, hres, HLW3.out, BGW2.out.below hbW3, HZW3.out, hgW2, hbw⟩)
    · skip
      refine value_ (v := .pointer (some ⟨Wc.heap.size, 0, none⟩)) (w1 := Wc.alloc (.cells #[.slice none 0 0, .int .i64 0, .int .i64 0, .string ⟨#[]⟩] 36)) (by rfl) rfl ?_ ?_
      · first | rfl | (go_simp; done) | kernel_rfl
      have hbW1 : Below Wc.heap.size Wc (Wc.alloc (.cells #[.slice none 0 0, .int .i64 0, .int .i64 0, .string ⟨#[]⟩] 36)) := (Below.refl _ _).alloc (Nat.le_refl _) _
      have BGW1 : Aside0 (Blk (Wc.alloc (.cells #[.slice none 0 0, .int .i64 0, .int .i64 0, .string ⟨#[]⟩] 36)) Wc.heap.size 36 [.slice none 0 0, .int .i64 0, .int .i64 0, .string ⟨#[]⟩]) := ⟨Blk.new _ _ _⟩
      generalize Wc.alloc (.cells #[.slice none 0 0, .int .i64 0, .int .i64 0, .string ⟨#[]⟩] 36) = W1 at *
      have HLW1 := Aside0.mk (HLp.out.trans (hbW1.mono HLp.out.size))
      have HNW1 := Aside0.mk (HNp.out.below hbW1)
      have HZW1 := Aside0.mk (HZp.out.below hbW1)
      have hgW1 : b2 < Wc.heap.size := HZp.out.lt
      have hhW1 : w.heap.size ≤ Wc.heap.size := HLp.out.size
      refine hK.out _ _ ⟨HNW1.out.cell 0 _ rfl, HNW1.out.cell 1 _ rfl, HNW1.out.cell 2 _ rfl, HNW1.out.cell 3 _ rfl⟩ (fun hHeld => ?_)
      clear hK K
      refine norm_ (a' := ?_) ?_ ?_
      rotate_left
      · show Act.put _ (some 3) _ = _
        simp only [Act.put, List.setIfInBounds_toArray, List.set_cons_zero, List.set_cons_succ]
        rfl
      have HLp := HLW1
      have HNp := HNW1
      have HZp := HZW1
      refine one_ (i := 0) (N := some 4) #[true, false, true, false, true, false] rfl rfl (by kernel_rfl) (by decide) (fun K hK => ?_)
      refine goes_ Try.func23 (by kernel_rfl) rfl #[] (by rfl) rfl rfl (by first | (simp; done) | rfl | kernel_rfl) ?_
      refine (depotref06_Magic.calls 40 magS W1 (magic_E 40 (Nat.le_refl _))).mono ?_
      rintro o W2 ⟨rfl, hbW2⟩
      have HLW2 := Aside0.mk (HLp.out.trans (hbW2.mono HLp.out.size))
      have HNW2 := Aside0.mk (HNp.out.below hbW2)
      have HZW2 := Aside0.mk (HZp.out.below hbW2)
      refine ⟨_, rfl, ?_⟩
      refine hK.out _ _ ⟨HNW2.out.cell 0 _ rfl, HNW2.out.cell 1 _ rfl, HNW2.out.cell 2 _ rfl, HNW2.out.cell 3 _ rfl⟩ (fun hHeld => ?_)
      clear hK K
      refine norm_ (a' := ?_) ?_ ?_
      rotate_left
      · show Act.put _ (some 4) _ = _
        simp only [Act.put, List.setIfInBounds_toArray, List.set_cons_zero, List.set_cons_succ]
        rfl
      have HLp := HLW2
      have HNp := HNW2
      have HZp := HZW2
      refine pure_ (i := 1) (N := some 5) (v := ?_) (a' := ?_) #[true, true, true, false, true, false] rfl rfl (by kernel_rfl) (fun _ _ _ h => h) (Or.inl ⟨by rfl, ?_⟩) ?_ ?_
      rotate_left
      · intro w'
        go_simp
        with_reducible rfl
      rotate_left
      · simp only [Act.put, List.setIfInBounds_toArray, List.set_cons_zero, List.set_cons_succ, i64_w, i32_w]
        rfl
      refine one_ (i := 3) (N := some 7) #[true, true, true, true, true, false] rfl rfl (by kernel_rfl) (by decide) (fun K hK => ?_)
      refine goes_ Try.func22 (by kernel_rfl) rfl #[.agg #[.slice none 0 0, .int .i64 magS, .int .i64 0, .string ⟨#[]⟩], .string ⟨#[]⟩, .agg #[.int .i64 k, .bool e, .string t, .slice A l.length c], .int .i64 1] (by rfl) rfl rfl (by first | rfl | (simp only [List.map_toArray, List.map_cons, List.map_nil]; rfl)) ?_
      refine (HV.out W2 HLp.out).mono ?_
      rintro o W3 ⟨v1, rows1, b1, c1, p1, rfl, hRv, hres, hbW3⟩
      have HLW3 := Aside0.mk (HLp.out.trans (hbW3.mono HLp.out.size))
      have HNW3 := Aside0.mk (HNp.out.below hbW3)
      have HZW3 := Aside0.mk (HZp.out.below hbW3)
      refine ⟨_, rfl, ?_⟩
      refine hK.out _ _ ⟨HNW3.out.cell 0 _ rfl, HNW3.out.cell 1 _ rfl, HNW3.out.cell 2 _ rfl, HNW3.out.cell 3 _ rfl⟩ (fun hHeld => ?_)
      clear hK K
      refine norm_ (a' := ?_) ?_ ?_
      rotate_left
      · show Act.put _ (some 7) _ = _
        simp only [Act.put, List.setIfInBounds_toArray, List.set_cons_zero, List.set_cons_succ]
        rfl
      exact norm_ (by first | (simp only [putAll, Act.put, List.setIfInBounds_toArray, List.set_cons_zero, List.set_cons_succ]; done) | (simp only [putAll, Act.put, List.setIfInBounds_toArray, List.set_cons_zero, List.set_cons_succ]; rfl)) (hCont (Wc.heap.size, .agg #[v1, .int .i64 b1, .int .i64 c1, .string p1]) _ ⟨v1, rows1, b1, c1, p1, rfl, hRv, hres, HLW3.out, (BGW1.out.below hbW2).below hbW3, HZW3.out, hgW1, hbw⟩)
  rintro ⟨g, v7⟩ W5 ⟨v1, rows1, b1, c1, p1, rfl, hR5, hres, hL5, hG5, hZ5, hbg, hbw⟩
  obtain ⟨A5, c5, hv5⟩ := Kd.R_slice hR5
  subst hv5
  refine norm_ (a' := ?_) ?_ ?_
  rotate_left
  · simp only [putAll, Act.put, List.setIfInBounds_toArray, List.set_cons_zero, List.set_cons_succ]
    rfl
  have g0 := hG5.cell 0 _ rfl
  have g1 := hG5.cell 1 _ rfl
  have g2 := hG5.cell 2 _ rfl
  have g3 := hG5.cell 3 _ rfl
  have y0 := hG5.frozen 0
  have y1 := hG5.frozen 1
  have y2 := hG5.frozen 2
  have y3 := hG5.frozen 3
  have hs1 := store1 hG5 0 (.slice A5 rows1.length c5)
  have hs2 := store1 hs1.1 1 (.int .i64 b1)
  have hs3 := store1 hs2.1 2 (.int .i64 c1)
  have g1' := hs1.1.cell 1 _ rfl
  have y1' := hs1.1.frozen 1
  have g2' := hs2.1.cell 2 _ rfl
  have y2' := hs2.1.frozen 2
  have g3' := hs3.1.cell 3 _ rfl
  have y3' := hs3.1.frozen 3
  refine last_ (i := 5) (N := none) #[true, true, true, true, true, true] rfl rfl (by kernel_rfl) (by decide) (fun K hK => ?_)
  refine skip_ (w1 := (((W5.setCell ⟨g, 0, none⟩ (.slice A5 rows1.length c5)).setCell ⟨g, 1, none⟩ (.int .i64 b1)).setCell ⟨g, 2, none⟩ (.int .i64 c1)).setCell ⟨g, 3, none⟩ (.string p1)) (by rfl) rfl ?_ ?_
  · first | (go_simp; done) | (simp [go_sem, store, g0, y0, g1', y1', g2', y2', g3', y3']; done) | (go_simp; simp [go_sem, store, g0, y0, g1', y1', g2', y2', g3', y3'])
  refine hK.out _ _ ?_
  clear hK K
  refine done_ (by kernel_rfl) ?_
  have hs := store4 hG5 (.slice A5 rows1.length c5) (.int .i64 b1) (.int .i64 c1) (.string p1)
  have HR6 := Aside0.mk (rows_upd hR5 hs.2 (fun q hq => by rw [hq]; exact ⟨_, _, hG5, by decide⟩))
  have HL6 := Aside0.mk (hL5.trans (hs.2.below (fun q hq => by rw [hq]; omega) hL5.size))
  have HZ6 := Aside0.mk (hZ5.upd hs.2 (by omega))
  have HG6 := Aside0.mk hs.1
  generalize (((W5.setCell ⟨g, 0, none⟩ (.slice A5 rows1.length c5)).setCell ⟨g, 1, none⟩ (.int .i64 b1)).setCell ⟨g, 2, none⟩ (.int .i64 c1)).setCell ⟨g, 3, none⟩ (.string p1) = W6 at *
  clear hs hR5 hL5 hG5 hZ5 g0 g1 g2 g3 y0 y1 y2 y3 g1' g2' g3' y1' y2' y3' hs1 hs2 hs3 HV
  have g2 := HG6.out.cell 2 _ rfl
  have z0 := HZ6.out.cell 0 _ rfl
  have z1 := HZ6.out.cell 1 _ rfl
  have z2 := HZ6.out.cell 2 _ rfl
  have z3 := HZ6.out.cell 3 _ rfl
  have y0 := HZ6.out.frozen 0
  have y1 := HZ6.out.frozen 1
  have y2 := HZ6.out.frozen 2
  have y3 := HZ6.out.frozen 3
  have g3 := HG6.out.cell 3 _ rfl
  cases s with
  | bad q c2 =>
    obtain ⟨rfl, rfl⟩ := hres
    have hcn : (c1 != 0) = true := bne_iff_ne.2 HFAIR.out
    go_wp2
    refine bodyPost_ret (results_cell_row rfl _ _ b2 36 #[.slice none 0 0, .int .i64 0, .int .i64 c1, .string p1] (0, 0) _ rfl (store4 HZ6.out _ _ _ _).1 Try.underlying36 rfl (by kernel_rfl)) rfl ?_
    exact ⟨_, rfl, Kd.R_nil _ _ _ _ _, HL6.out.trans ((store4 HZ6.out _ _ _ _).2.below (fun q hq => by rw [hq]; exact hbw) HL6.out.size)⟩
  | ok b3 rows =>
    obtain ⟨rfl, rfl, hrw⟩ := hres
    have HRW := Aside0.mk hrw
    clear hrw
    have g0 := HG6.out.cell 0 _ rfl
    have g1 := HG6.out.cell 1 _ rfl
    have u3 := HG6.out.frozen 3
    go_wp2_with fail
    obtain ⟨W7, hW7⟩ : ∃ q, q = W6.setCell ⟨g, 3, none⟩ (.string ⟨#[]⟩) := ⟨_, rfl⟩
    have hp := store1 HG6.out 3 (.string ⟨#[]⟩)
    rw [← hW7] at hp
    try rw [← hW7]
    clear hW7 g0 g1 g2 g3 u3 z0 z1 z2 z3 y0 y1 y2 y3
    have hz7 := HZ6.out.upd hp.2 (by omega)
    have HR7 := Aside0.mk (rows_upd HR6.out hp.2 (fun q hq => by rw [hq]; exact ⟨_, _, HG6.out, by decide⟩))
    have HL7 := Aside0.mk (HL6.out.trans (hp.2.below (fun q hq => by rw [hq]; omega) HL6.out.size))
    have g0 := hp.1.cell 0 _ rfl
    have g1 := hp.1.cell 1 _ rfl
    have g2 := hp.1.cell 2 _ rfl
    have g3 := hp.1.cell 3 _ rfl
    have z0 := hz7.cell 0 _ rfl
    have z1 := hz7.cell 1 _ rfl
    have z2 := hz7.cell 2 _ rfl
    have z3 := hz7.cell 3 _ rfl
    have y0 := hz7.frozen 0
    have y1 := hz7.frozen 1
    have y2 := hz7.frozen 2
    have y3 := hz7.frozen 3
    go_wp2
    have HS := store4 hz7 (.slice A5 rows1.length c5) (.int .i64 b1) (.int .i64 0) (.string ⟨#[]⟩)
    refine bodyPost_ret (results_cell_row rfl _ _ b2 36 #[.slice A5 rows1.length c5, .int .i64 b1, .int .i64 0, .string ⟨#[]⟩] (0, 0) _ rfl HS.1 Try.underlying36 rfl (by kernel_rfl)) rfl ?_
    refine ⟨_, rfl, ?_, HL7.out.trans (HS.2.below (fun q hq => by rw [hq]; exact hbw) HL7.out.size)⟩
    have h := rows_upd HR7.out HS.2 (fun q hq => by rw [hq]; exact ⟨_, _, hz7, by decide⟩)
    have h2 : rows1 = rows.map rowR := HRW.out
    show RowsAt _ w.heap.size _ (rows.map rowR)
    rw [← h2]
    exact h
end Go.Proofs.Ytnemeeidomceiaa
