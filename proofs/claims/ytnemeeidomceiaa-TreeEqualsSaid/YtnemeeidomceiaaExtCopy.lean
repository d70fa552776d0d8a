import Derived.Test.YtnemeeidomceiaaTreeKinds
import Derived.Laws.MakeOwn
namespace Go.Proofs.Ytnemeeidomceiaa
open Go.RowKit Go.Proofs.YtnemeeidomceiaaW.PrintWords Go.Proofs.YtnemeeidomceiaaW.PrintLast Go.Proofs.YtnemeeidomceiaaW.PrintMore
set_option linter.unusedSimpArgs false
set_option linter.unusedVariables false

/-- No row of the tree takes more bytes than a row may. -/
inductive Fit : List S49 → Prop
  | mk {l : List S49} (h : l.length * 72 ≤ 140737488355328) (k : ∀ x, x ∈ l → Fit x.f4) : Fit l

theorem cells5 {w : World} {g : Nat} {t : TypeId} {c0 c1 c2 c3 c4 : Value} (h : w.heap[g]? = some (.cells #[c0, c1, c2, c3, c4] t (0, 0))) :
    w.cell? ⟨g, 0, none⟩ = some c0 ∧ w.cell? ⟨g, 1, none⟩ = some c1 ∧ w.cell? ⟨g, 2, none⟩ = some c2 ∧ w.cell? ⟨g, 3, none⟩ = some c3 ∧ w.cell? ⟨g, 4, none⟩ = some c4 :=
  ⟨(blk_cell h 0).trans rfl, (blk_cell h 1).trans rfl, (blk_cell h 2).trans rfl, (blk_cell h 3).trans rfl, (blk_cell h 4).trans rfl⟩
theorem take_snoc2 (l : List S49) (k : Nat) (h : k < l.length) : l.take (k + 1) = l.take k ++ [rd_T49 l (k : Int)] := by
  rw [List.take_succ_eq_append_getElem h]
  simp [rd_T49, h]
set_option maxHeartbeats 1000000 in
set_option maxRecDepth 100000 in
theorem copy_calls (l : List S49) (hf : Fit l) : ∀ (k : Int) (e : Bool) (t : ByteArray) (A : Option Addr) (c : Nat) (w : World), Kd.C k49 w A l.length l → l.length ≤ c →
    Calls Try.prog 9 #[.agg #[.int .i64 k, .bool e, .string t, .slice A l.length c]] w
      fun o w' => ∃ v, o = .returned (.agg #[.int .i64 k, .bool e, .string t, v]) ∧ Kd.R k49 49 w' w.heap.size (fun _ => True) v l ∧ Below w.heap.size w w' := by
  induction hf with
  | @mk l h72 _ ih =>
  intro k e t A c w hx hcx
  have HX := Aside0.mk hx
  have IH := Aside0.mk ih
  have hm : l.length ≤ 140737488355328 := by omega
  obtain ⟨i0, hi, hzz⟩ := Option.map_eq_some_iff.1 (show (Try.prog.info? 49).map (fun i => (i.zero, i.size, i.bytes)) = some (some (.agg #[.string ⟨#[]⟩, .int .i64 0, .bool false, .string ⟨#[]⟩, .slice none 0 0]), 5, 72) by kernel_rfl)
  simp only [Prod.mk.injEq] at hzz
  obtain ⟨hz0, hz1, hz2⟩ := hzz
  have hmk : ∀ W, (Instr.makeSlice 23 (.int .i64 0) (.int .i64 (l.length : Int))).run Try.prog W = .ok (.slice (some ⟨W.heap.size, 0, none⟩) 0 l.length) (W.alloc (.cells (madeCells #[.string ⟨#[]⟩, .int .i64 0, .bool false, .string ⟨#[]⟩, .slice none 0 0] (l.length * 5)) 49)) := by
    intro W
    have := run_make (P := Try.prog) W 23 49 i0 _ Try.underlying23 hi hz0 .i64 .i64 0 (l.length : Int) (by omega) (by omega) (by rw [hz2]; omega) (by omega)
    rw [hz1] at this
    simpa [Value.cells] using this
  have Z := Aside0.mk (And.intro hi (And.intro hz0 (And.intro hz1 hz2)))
  clear hx ih hi hz0 hz1 hz2
  obtain ⟨W2, hW2⟩ : ∃ W2, W2 = (w.alloc (.cells #[.int .i64 k, .bool e, .string t, .slice A l.length c] 25)).alloc (.cells #[.int .i64 0, .bool false, .string ⟨#[]⟩, .slice none 0 0] 25) := ⟨_, rfl⟩
  have hs2 : W2.heap.size = w.heap.size + 1 + 1 := by rw [hW2]; simp
  have HB0 : Aside0 (Below w.heap.size w W2) := ⟨by rw [hW2]; exact below_alloc (below_alloc (Below.refl _ _) _) _⟩
  have G1 : Aside0 (W2.heap[w.heap.size]? = some (.cells #[.int .i64 k, .bool e, .string t, .slice A l.length c] 25 (0, 0))) := ⟨by rw [hW2]; exact blk_alloc (heap_alloc_new _ _) _⟩
  have G2 : Aside0 (W2.heap[w.heap.size + 1]? = some (.cells #[.int .i64 0, .bool false, .string ⟨#[]⟩, .slice none 0 0] 25 (0, 0))) := ⟨by rw [hW2]; have := heap_alloc_new (w.alloc (.cells #[.int .i64 k, .bool e, .string t, .slice A l.length c] 25)) (.cells #[.int .i64 0, .bool false, .string ⟨#[]⟩, .slice none 0 0] 25); simpa using this⟩
  have RM : ∀ W : World, Aside0 (Kd.R k49 49 (W.alloc (.cells (madeCells #[.string ⟨#[]⟩, .int .i64 0, .bool false, .string ⟨#[]⟩, .slice none 0 0] (l.length * 5)) 49)) W.heap.size (fun _ => True) (.slice (some ⟨W.heap.size, 0, none⟩) 0 l.length) []) := fun W =>
    ⟨⟨fun _ _ => trivial, [], World.ownsRow_made W _ l.length (Nat.le_refl _) (by unfold maxLen; omega) (size_madeCells _ _), Reps.none _ _⟩⟩
  go_enter Try.func9, Try.ntmps9
  go_wp2
  rw [← hW2]
  go_loopw [3, 5, 13] (fun v3 _ v13 wr => ∃ j : Nat, j ≤ l.length ∧ v13 = .int .i64 j ∧ Aside0 (Kd.R k49 49 wr W2.heap.size (fun _ => True) v3 (l.take j)) ∧ Aside0 (Below W2.heap.size W2 wr)) (fun _ _ v _ => l.length - (intOf v).toNat)
  case atStart => 
    refine ⟨0, Nat.zero_le _, rfl, ?_, ⟨below_alloc (Below.refl _ _) _⟩⟩
    have := RM W2
    rw [hs2] at *
    exact this
  case round =>
    obtain ⟨j, hj, rfl, HO, HB⟩ := hrel
    have HBw : Aside0 (Below w.heap.size w wr) := ⟨HB0.out.trans (HB.out.mono (by omega))⟩
    by_cases hlt : j < l.length
    · obtain ⟨ad, A4, c4, hA, e0, e1, e2, e3, e4, hl4, hC4⟩ := at_T49 (Kd.C_below HX.out HBw.out) (j : Int) (by omega) (by omega)
      subst hA
      simp only [Int.toNat_natCast] at e0 e1 e2 e3 e4
      have HC4 := Aside0.mk hC4
      have HL4 := Aside0.mk hl4
      have HTS := Aside0.mk (take_snoc2 l j hlt)
      have HMEM : Aside0 (rd_T49 l (j : Int) ∈ l) := ⟨by simp [rd_T49, hlt]⟩
      clear hC4 hl4
      generalize rd_T49 l (j : Int) = x at *
      have hblk := World.block_lt_of_cell? _ _ e0
      obtain ⟨A3, c3, hu3⟩ := Kd.R_slice HO.out
      rw [List.length_take, Nat.min_eq_left hj] at hu3
      subst hu3
      go_wp2
      obtain ⟨ws, hws⟩ : ∃ ws, ws = (wr.alloc (.cells #[.string x.f0, .int .i64 x.f1, .bool x.f2, .string x.f3, .slice A4 x.f4.length c4] 49)).drew := ⟨_, rfl⟩
      have HS : Aside0 (ws.heap[wr.heap.size]? = some (.cells #[.string x.f0, .int .i64 x.f1, .bool x.f2, .string x.f3, .slice A4 x.f4.length c4] 49 (0, 0))) := ⟨by rw [hws]; exact heap_alloc_new _ _⟩
      have HBs : Aside0 (Below wr.heap.size wr ws) := ⟨by rw [hws]; exact below_drew (below_alloc (Below.refl _ _) _)⟩
      have HLT : Aside0 (wr.heap.size < ws.heap.size) := ⟨by rw [hws]; simp [World.drew]⟩
      have HNE : Aside0 (some wr.heap.size ≠ (Value.slice A3 j c3).ownBlock) := ⟨by
        obtain ⟨inner, ho⟩ := Kd.R_own HO.out
        intro he
        have := own_lt ho _ he.symm
        omega⟩
      refine start_ (n := 10) (S := fun w' => w'.cell? ⟨wr.heap.size, 0, none⟩ = some (.string x.f0) ∧ w'.cell? ⟨wr.heap.size, 1, none⟩ = some (.int .i64 x.f1) ∧ w'.cell? ⟨wr.heap.size, 2, none⟩ = some (.bool x.f2) ∧ w'.cell? ⟨wr.heap.size, 3, none⟩ = some (.string x.f3) ∧ w'.cell? ⟨wr.heap.size, 4, none⟩ = some (.slice A4 x.f4.length c4)) (ds := []) #[false, false, false, false, false, false, false, false, false, false] (by kernel_rfl) rfl rfl (by rw [← hws]; exact cells5 HS.out) (fun hHeld => ?_)
      rw [← hws] at hHeld ⊢
      have HO2 := Aside0.mk (Kd.R_below HO.out HBs.out)
      have HB2 := Aside0.mk (below_step HB.out HBs.out)
      have HC2 := Aside0.mk (Kd.C_below HC4.out HBs.out)
      clear hws HBs HO HB HBw HC4
      refine pure_ (i := 0) (N := some 17) (v := ?_) (a' := ?_) #[true, false, false, false, false, false, false, false, false, false] rfl rfl (by kernel_rfl) (fun _ _ _ h => h) (Or.inl ⟨by rfl, ?_⟩) ?_ ?_
      rotate_left
      · intro w'
        go_simp
        with_reducible rfl
      rotate_left
      · simp only [Act.put, List.setIfInBounds_toArray, List.set_cons_zero, List.set_cons_succ, i64_w, i32_w]
        rfl
      refine pure_ (i := 1) (N := some 18) (v := ?_) (a' := ?_) #[true, true, false, false, false, false, false, false, false, false] rfl rfl (by kernel_rfl) (fun _ _ _ h => h) (Or.inl ⟨by rfl, ?_⟩) ?_ ?_
      rotate_left
      · intro w'
        go_simp
        with_reducible rfl
      rotate_left
      · simp only [Act.put, List.setIfInBounds_toArray, List.set_cons_zero, List.set_cons_succ, i64_w, i32_w]
        rfl
      refine take_ (i := 2) (N := some 19) (v := ?_) (a' := ?_) #[true, true, true, false, false, false, false, false, false, false] rfl rfl (by kernel_rfl) (fun _ _ _ h => h) (Or.inl ⟨by rfl, ?_⟩) hHeld ?_ ?_
      rotate_left
      · rintro w' ⟨s0, s1, s2, s3, s4⟩
        go_simp
        with_reducible rfl
      rotate_left
      · simp only [Act.put, List.setIfInBounds_toArray, List.set_cons_zero, List.set_cons_succ, i64_w, i32_w]
        rfl
      refine pure_ (i := 3) (N := some 20) (v := ?_) (a' := ?_) #[true, true, true, true, false, false, false, false, false, false] rfl rfl (by kernel_rfl) (fun _ _ _ h => h) (Or.inl ⟨by rfl, ?_⟩) ?_ ?_
      rotate_left
      · intro w'
        go_simp
        with_reducible rfl
      rotate_left
      · simp only [Act.put, List.setIfInBounds_toArray, List.set_cons_zero, List.set_cons_succ, i64_w, i32_w]
        rfl
      refine take_ (i := 4) (N := some 21) (v := ?_) (a' := ?_) #[true, true, true, true, true, false, false, false, false, false] rfl rfl (by kernel_rfl) (fun _ _ _ h => h) (Or.inl ⟨by rfl, ?_⟩) hHeld ?_ ?_
      rotate_left
      · rintro w' ⟨s0, s1, s2, s3, s4⟩
        go_simp
        with_reducible rfl
      rotate_left
      · simp only [Act.put, List.setIfInBounds_toArray, List.set_cons_zero, List.set_cons_succ, i64_w, i32_w]
        rfl
      refine one_ (i := 5) (N := some 22) #[true, true, true, true, true, true, false, false, false, false] rfl rfl (by kernel_rfl) (by decide) (fun K hK => ?_)
      refine goes_ Try.func9 (by kernel_rfl) rfl #[.agg #[.int .i64 x.f1, .bool x.f2, .string x.f3, .slice A4 x.f4.length c4]] (by rfl) rfl rfl (by (try simp only [List.map_toArray, List.map_cons, List.map_nil]); first | done | rfl) ?_
      refine (IH.out x HMEM.out x.f1 x.f2 x.f3 A4 c4 _ HC2.out HL4.out).mono ?_
      rintro o w1 ⟨v4, rfl, hr4, hb⟩
      obtain ⟨inner2, hown2⟩ := Kd.R_own HO2.out
      obtain ⟨A5, c5, hv4⟩ := Kd.R_slice hr4
      subst hv4
      have HN := Aside0.mk (Kd.R_lower (Kd.R_new hr4 hown2) HB2.out.size)
      have HO3 := Aside0.mk (Kd.R_below HO2.out hb)
      have HB3 := Aside0.mk (below_step HB2.out hb)
      have HS3 := Aside0.mk ((hb.block _ HLT.out).trans HS.out)
      have HLT3 := Aside0.mk (Nat.lt_of_lt_of_le HLT.out hb.size)
      clear hr4 hb hown2 HO2 HB2 HS HLT HC2
      refine ⟨_, rfl, ?_⟩
      refine hK.out _ _ (cells5 HS3.out) (fun _ => ?_)
      clear hK K
      refine pure_ (i := 6) (N := some 23) (v := ?_) (a' := ?_) #[true, true, true, true, true, true, true, false, false, false] rfl rfl (by kernel_rfl) (fun _ _ _ h => h) (Or.inl ⟨by rfl, ?_⟩) ?_ ?_
      rotate_left
      · intro w'
        go_simp
        with_reducible rfl
      rotate_left
      · simp only [Act.put, List.setIfInBounds_toArray, List.set_cons_zero, List.set_cons_succ, i64_w, i32_w]
        rfl
      refine one_ (i := 7) (N := some 24) #[true, true, true, true, true, true, true, true, false, false] rfl rfl (by kernel_rfl) (by decide) (fun K hK => ?_)
      refine value_ (w1 := w1.alloc (.cells #[.string x.f0, .int .i64 x.f1, .bool x.f2, .string x.f3, .slice A5 x.f4.length c5] 49)) (v := .slice (some ⟨w1.heap.size, 0, none⟩) 1 1) (by rfl) rfl ?_ ?_
      · go_simp
      refine hK.out _ _ (cells5 (blk_alloc HS3.out _)) (fun _ => ?_)
      clear hK K
      refine one_ (i := 8) (N := some 25) #[true, true, true, true, true, true, true, true, true, false] rfl rfl (by kernel_rfl) (by decide) (fun K hK => ?_)
      refine Kd.R_append_step k49 (w0 := W2) W2.heap.size (by rfl) (.tmp 17) (.tmp 24) 23 49 (.agg #[.string ⟨#[]⟩, .int .i64 0, .bool false, .string ⟨#[]⟩, .slice none 0 0]) 72 rfl Try.underlying23 (by kernel_rfl) rfl (by decide) (by decide)
        (.slice A3 j c3) (l.take j) x [.string x.f0, .int .i64 x.f1, .bool x.f2, .string x.f3, .slice A5 x.f4.length c5] (fun _ => True) _ (by rfl) (by rfl) (k49_mkM _ _ _ x HN.out) (fun _ h => h) (fun _ _ => trivial) HO3.out HB3.out HB3.out.size (by rw [List.length_take]; omega) ?_
      intro v1 wn hR hb1 hg hat
      have HO4 := Aside0.mk hR
      have HB4 := Aside0.mk hb1
      have HS4 := Aside0.mk ((hg.block _ HLT3.out HNE.out).trans HS3.out)
      clear hR hb1 hg hat HO3 HB3 HN
      refine hK.out _ _ (cells5 HS4.out) (fun _ => ?_)
      clear hK K
      refine pure_ (i := 9) (N := some 3) (v := ?_) (a' := ?_) #[true, true, true, true, true, true, true, true, true, true] rfl rfl (by kernel_rfl) (fun _ _ _ h => h) (Or.inl ⟨by rfl, ?_⟩) ?_ ?_
      rotate_left
      · intro w'
        go_simp
        with_reducible rfl
      rotate_left
      · simp only [Act.put, List.setIfInBounds_toArray, List.set_cons_zero, List.set_cons_succ, i64_w, i32_w]
        rfl
      refine done_ (by kernel_rfl) ?_
      go_wp2
      go_roundw
      case rel => exact ⟨j + 1, by omega, by go_num, ⟨by rw [HTS.out]; exact HO4.out⟩, HB4⟩
      case measure => simp [intOf]; omega
    · obtain rfl : j = l.length := by omega
      obtain ⟨A3, c3, hu3⟩ := Kd.R_slice HO.out
      subst hu3
      have B1 := Aside0.mk ((HB.out.block w.heap.size (by omega)).trans G1.out)
      have B2 := Aside0.mk ((HB.out.block (w.heap.size + 1) (by omega)).trans G2.out)
      have h10 := (blk_cell B1.out 0).trans rfl
      have h11 := (blk_cell B1.out 1).trans rfl
      have h12 := (blk_cell B1.out 2).trans rfl
      have h13 := (blk_cell B1.out 3).trans rfl
      have z13 := blk_frozen B1.out 3
      have h20 := (blk_cell B2.out 0).trans rfl
      have h21 := (blk_cell B2.out 1).trans rfl
      have h22 := (blk_cell B2.out 2).trans rfl
      have h23 := (blk_cell B2.out 3).trans rfl
      have z20 := blk_frozen B2.out 0
      have z21 := blk_frozen B2.out 1
      have z22 := blk_frozen B2.out 2
      have z23 := blk_frozen B2.out 3
      simp only [List.getElem?_toArray, List.getElem?_cons_zero, List.getElem?_cons_succ] at h10 h11 h12 h13 h20 h21 h22 h23
      have hlen1 := hs2
      have HO5 : Aside0 (Kd.R k49 49 wr W2.heap.size (fun _ => True) (.slice A3 l.length c3) l) := ⟨by
        have := HO.out
        rw [List.take_length] at this
        exact this⟩
      clear HO
      go_wp2
      have hg1 : w.heap.size + 1 ≠ w.heap.size := by omega
      refine bodyPost_ret (results_cell_row rfl _ _ (w.heap.size + 1) 25 #[.int .i64 k, .bool e, .string t, .slice A3 l.length c3] (0, 0) _ rfl
        (blk_put (cs := #[.int .i64 k, .bool e, .string t, .slice none 0 0]) (blk_put (cs := #[.int .i64 k, .bool e, .string ⟨#[]⟩, .slice none 0 0]) (blk_put (cs := #[.int .i64 k, .bool false, .string ⟨#[]⟩, .slice none 0 0]) (blk_put (cs := #[.int .i64 0, .bool false, .string ⟨#[]⟩, .slice none 0 0]) ((Below.heap_setCell _ _ _ _ (by exact hg1)).trans B2.out) 0 _ rfl) 1 _ rfl) 2 _ rfl) 3 _ rfl) Try.underlying25 rfl (by kernel_rfl)) rfl ?_
      refine ⟨_, rfl, Kd.R_lower (Kd.R_mono (Kd.R_move (Kd.R_bound HO5.out) (fun b hb => ?_)) (fun _ _ => trivial)) (by omega), ?_⟩
      · have hb1 : W2.heap.size ≤ b := hb.2.1
        rw [Below.heap_setCell _ _ _ _ (by show b ≠ w.heap.size + 1; omega), Below.heap_setCell _ _ _ _ (by show b ≠ w.heap.size + 1; omega), Below.heap_setCell _ _ _ _ (by show b ≠ w.heap.size + 1; omega), Below.heap_setCell _ _ _ _ (by show b ≠ w.heap.size + 1; omega), Below.heap_setCell _ _ _ _ (by show b ≠ w.heap.size; omega)]
      · exact ((((HBw.out.setCell (Nat.le_refl _) _).setCell (by show w.heap.size ≤ w.heap.size + 1; omega) _).setCell (by show w.heap.size ≤ w.heap.size + 1; omega) _).setCell (by show w.heap.size ≤ w.heap.size + 1; omega) _).setCell (by show w.heap.size ≤ w.heap.size + 1; omega) _
open Classical in
noncomputable def tree_Copy.f (k : Int) (e : Bool) (t : ByteArray) (l : List S49) : Option (Int × Bool × ByteArray × List S49) := if Fit l then some (k, e, t, l) else none
theorem tree_Copy.calls (k : Int) (e : Bool) (t : ByteArray) (A : Option Addr) (c : Nat) (l : List S49) (r1 : Int) (r2 : Bool) (r3 : ByteArray) (r4 : List S49) (w : World) (hx : Kd.C k49 w A l.length l) (hcx : l.length ≤ c) (h : tree_Copy.f k e t l = some (r1, r2, r3, r4)) :
    Calls Try.prog 9 #[.agg #[.int .i64 k, .bool e, .string t, .slice A l.length c]] w
      fun o w' => ∃ v3_ : Value, o = .returned (.agg #[.int .i64 r1, .bool r2, .string r3, v3_]) ∧ Kd.R k49 49 w' w.heap.size (fun _ => True) v3_ r4 ∧ Below w.heap.size w w' := by
  unfold tree_Copy.f at h
  by_cases hf : Fit l
  · rw [if_pos hf] at h
    simp only [Option.some.injEq, Prod.mk.injEq] at h
    obtain ⟨rfl, rfl, rfl, rfl⟩ := h
    exact copy_calls l hf k e t A c w hx hcx
  · rw [if_neg hf] at h
    cases h
end Go.Proofs.Ytnemeeidomceiaa
