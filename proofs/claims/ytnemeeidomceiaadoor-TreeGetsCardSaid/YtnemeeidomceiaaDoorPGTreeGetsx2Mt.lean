import Derived.Test.YtnemeeidomceiaaDoorMt9
set_option linter.unusedSimpArgs false
set_option linter.unusedVariables false
namespace Go.Proofs.YtnemeeidomceiaaDoor.PGTreeGets
open Go.RowKit Go.Proofs.YtnemeeidomceiaaDoorW.PrintWords Go.Proofs.YtnemeeidomceiaaDoorW.PrintLast Go.Proofs.YtnemeeidomceiaaDoorW.PrintMore
attribute [local go_sem] max2_int min2_int max_two min_two max_three min_three max_four min_four   -- for this text's walks alone
set_option linter.unusedVariables false
set_option linter.unusedSimpArgs false
noncomputable section
mutual
def depotref06_gather.l0 : Nat → List (S29) → Int → List ByteArray → List (S63) → Option ((List (S63)) × Int)
 | 0, _, _, _, _ => none
 | k + 1, x0, x1, x2, x8 => if x1 < (x0.length : Int) then (if 0 ≤ x1 then ((depotref05_Split.f k ((rd_T29 x0 x1).f0)).bind fun bt109 => (if bt109.2.1 = 0 then (if (bt109.1.length : Int) = (wrap64 ((x2.length : Int) + 1)) then ((depotref06_begins.f k bt109.1 x2).bind fun t114 => (depotref06_gather.j1 k x0 x1 x2 x8 bt109.1 (!t114))) else (depotref06_gather.j1 k x0 x1 x2 x8 bt109.1 true)) else (depotref06_gather.j1 k x0 x1 x2 x8 bt109.1 true))) else (none)) else (some (x8, x1))
def depotref06_gather.j1 : Nat → List (S29) → Int → List ByteArray → List (S63) → List ByteArray → Bool → Option ((List (S63)) × Int)
 | 0, _, _, _, _, _, _ => none
 | k + 1, x0, x1, x2, x8, x9, x45 => if x45 = true then (some (x8, x1)) else (if 0 ≤ (wrap64 ((x9.length : Int) - 1)) then (if (wrap64 ((x9.length : Int) - 1)) < (x9.length : Int) then (if (x8.length : Int) > 0 then (if 0 ≤ (wrap64 ((x8.length : Int) - 1)) then (if (wrap64 ((x8.length : Int) - 1)) < (x8.length : Int) then ((depotref05_Compare.f k ((rd_T63 x8 (wrap64 ((x8.length : Int) - 1))).f0) (rdOf ByteArray.empty x9 (wrap64 ((x9.length : Int) - 1)))).bind fun t117 => (depotref06_gather.j2 k x0 x1 x2 x8 x9 (rdOf ByteArray.empty x9 (wrap64 ((x9.length : Int) - 1))) (decide (t117 ≥ 0)))) else (none)) else (none)) else (depotref06_gather.j2 k x0 x1 x2 x8 x9 (rdOf ByteArray.empty x9 (wrap64 ((x9.length : Int) - 1))) false)) else (none)) else (none))
def depotref06_gather.j2 : Nat → List (S29) → Int → List ByteArray → List (S63) → List ByteArray → ByteArray → Bool → Option ((List (S63)) × Int)
 | 0, _, _, _, _, _, _, _ => none
 | k + 1, x0, x1, x2, x8, x9, x12, x68 => if x68 = true then (some (x8, x1)) else (if 0 ≤ x1 then (if x1 < (x0.length : Int) then ((depotref06_Own.f ((rd_T29 x0 x1).f1) ((rd_T29 x0 x1).f2) ((rd_T29 x0 x1).f3) ([] : List (S63))).bind fun bt122 => (if bt122.1 = 0 then (if 0 ≤ (wrap64 ((wrap64 (x1 + 1)) - 1)) then (if (wrap64 ((wrap64 (x1 + 1)) - 1)) < (x0.length : Int) then (if ((rd_T29 x0 (wrap64 ((wrap64 (x1 + 1)) - 1))).f1) = 3 then ((depotref06_gather.f k x0 (wrap64 (x1 + 1)) x9).bind fun bt125 => (if x8.length < 1954687338268 then (depotref06_gather.l0 k x0 bt125.2 x2 (x8 ++ [(⟨x12, (rd_T29 x0 x1).f1, (rd_T29 x0 x1).f2, (rd_T29 x0 x1).f3, bt125.1⟩ : S63)])) else (none))) else (if x8.length < 1954687338268 then (depotref06_gather.l0 k x0 (wrap64 (x1 + 1)) x2 (x8 ++ [(⟨x12, (rd_T29 x0 x1).f1, (rd_T29 x0 x1).f2, (rd_T29 x0 x1).f3, ([] : List (S63))⟩ : S63)])) else (none))) else (none)) else (none)) else (some (x8, x1)))) else (none)) else (none))
def depotref06_gather.f : Nat → List (S29) → Int → List ByteArray → Option ((List (S63)) × Int)
 | 0, _, _, _ => none
 | k + 1, l0, a1, l2 => depotref06_gather.l0 k l0 a1 l2 ([] : List (S63))
end
theorem depotref06_gather.mono_l : ∀ k, (∀ y0 y1 y2, LeO (depotref06_gather.f k y0 y1 y2) (depotref06_gather.f (k + 1) y0 y1 y2)) ∧ (∀ y0 y1 y2 y3, LeO (depotref06_gather.l0 k y0 y1 y2 y3) (depotref06_gather.l0 (k + 1) y0 y1 y2 y3)) ∧ (∀ y0 y1 y2 y3 y4 y5, LeO (depotref06_gather.j1 k y0 y1 y2 y3 y4 y5) (depotref06_gather.j1 (k + 1) y0 y1 y2 y3 y4 y5)) ∧ (∀ y0 y1 y2 y3 y4 y5 y6, LeO (depotref06_gather.j2 k y0 y1 y2 y3 y4 y5 y6) (depotref06_gather.j2 (k + 1) y0 y1 y2 y3 y4 y5 y6))
 | 0 => ⟨fun _ _ _ r h => by simp [depotref06_gather.f] at h, fun _ _ _ _ r h => by simp [depotref06_gather.l0] at h, fun _ _ _ _ _ _ r h => by simp [depotref06_gather.j1] at h, fun _ _ _ _ _ _ _ r h => by simp [depotref06_gather.j2] at h⟩
 | k + 1 => by
  obtain ⟨ih0, ih1, ih2, ih3⟩ := depotref06_gather.mono_l k
  refine ⟨?_, ?_, ?_, ?_⟩
  ·intro y0 y1 y2
   unfold depotref06_gather.f
   repeat' first
   | (with_reducible exact ih0 _ _ _)
   | (with_reducible exact ih1 _ _ _ _)
   | (with_reducible exact ih2 _ _ _ _ _ _)
   | (with_reducible exact ih3 _ _ _ _ _ _ _)
   | (with_reducible exact depotref05_Compare.mono _ _ _)
   | (with_reducible exact depotref05_Split.mono _ _)
   | (with_reducible exact depotref06_begins.mono _ _ _)
   | (with_reducible exact LeO.refl _)
   | (with_reducible exact LeO.none _)
   | (with_reducible refine LeO.ite ?_ ?_)
   | (with_reducible refine LeO.bind ?_ (fun _ => ?_))
   | exact ih0 _ _ _
   | exact ih1 _ _ _ _
   | exact ih2 _ _ _ _ _ _
   | exact ih3 _ _ _ _ _ _ _
   | exact depotref05_Compare.mono _ _ _
   | exact depotref05_Split.mono _ _
   | exact depotref06_begins.mono _ _ _
   | exact LeO.none _
   | refine LeO.ite ?_ ?_
   | refine LeO.bind ?_ (fun _ => ?_)
  ·intro y0 y1 y2 y3
   unfold depotref06_gather.l0
   repeat' first
   | (with_reducible exact ih0 _ _ _)
   | (with_reducible exact ih1 _ _ _ _)
   | (with_reducible exact ih2 _ _ _ _ _ _)
   | (with_reducible exact ih3 _ _ _ _ _ _ _)
   | (with_reducible exact depotref05_Compare.mono _ _ _)
   | (with_reducible exact depotref05_Split.mono _ _)
   | (with_reducible exact depotref06_begins.mono _ _ _)
   | (with_reducible exact LeO.refl _)
   | (with_reducible exact LeO.none _)
   | (with_reducible refine LeO.ite ?_ ?_)
   | (with_reducible refine LeO.bind ?_ (fun _ => ?_))
   | exact ih0 _ _ _
   | exact ih1 _ _ _ _
   | exact ih2 _ _ _ _ _ _
   | exact ih3 _ _ _ _ _ _ _
   | exact depotref05_Compare.mono _ _ _
   | exact depotref05_Split.mono _ _
   | exact depotref06_begins.mono _ _ _
   | exact LeO.none _
   | refine LeO.ite ?_ ?_
   | refine LeO.bind ?_ (fun _ => ?_)
  ·intro y0 y1 y2 y3 y4 y5
   unfold depotref06_gather.j1
   repeat' first
   | (with_reducible exact ih0 _ _ _)
   | (with_reducible exact ih1 _ _ _ _)
   | (with_reducible exact ih2 _ _ _ _ _ _)
   | (with_reducible exact ih3 _ _ _ _ _ _ _)
   | (with_reducible exact depotref05_Compare.mono _ _ _)
   | (with_reducible exact depotref05_Split.mono _ _)
   | (with_reducible exact depotref06_begins.mono _ _ _)
   | (with_reducible exact LeO.refl _)
   | (with_reducible exact LeO.none _)
   | (with_reducible refine LeO.ite ?_ ?_)
   | (with_reducible refine LeO.bind ?_ (fun _ => ?_))
   | exact ih0 _ _ _
   | exact ih1 _ _ _ _
   | exact ih2 _ _ _ _ _ _
   | exact ih3 _ _ _ _ _ _ _
   | exact depotref05_Compare.mono _ _ _
   | exact depotref05_Split.mono _ _
   | exact depotref06_begins.mono _ _ _
   | exact LeO.none _
   | refine LeO.ite ?_ ?_
   | refine LeO.bind ?_ (fun _ => ?_)
  ·intro y0 y1 y2 y3 y4 y5 y6
   unfold depotref06_gather.j2
   repeat' first
   | (with_reducible exact ih0 _ _ _)
   | (with_reducible exact ih1 _ _ _ _)
   | (with_reducible exact ih2 _ _ _ _ _ _)
   | (with_reducible exact ih3 _ _ _ _ _ _ _)
   | (with_reducible exact depotref05_Compare.mono _ _ _)
   | (with_reducible exact depotref05_Split.mono _ _)
   | (with_reducible exact depotref06_begins.mono _ _ _)
   | (with_reducible exact LeO.refl _)
   | (with_reducible exact LeO.none _)
   | (with_reducible refine LeO.ite ?_ ?_)
   | (with_reducible refine LeO.bind ?_ (fun _ => ?_))
   | exact ih0 _ _ _
   | exact ih1 _ _ _ _
   | exact ih2 _ _ _ _ _ _
   | exact ih3 _ _ _ _ _ _ _
   | exact depotref05_Compare.mono _ _ _
   | exact depotref05_Split.mono _ _
   | exact depotref06_begins.mono _ _ _
   | exact LeO.none _
   | refine LeO.ite ?_ ?_
   | refine LeO.bind ?_ (fun _ => ?_)
theorem depotref06_gather.mono : ∀ a0 a1 a2 k, LeO (depotref06_gather.f k a0 a1 a2) (depotref06_gather.f (k + 1) a0 a1 a2) := by
 intro a0 a1 a2 k
 obtain ⟨ih0, ih1, ih2, ih3⟩ := depotref06_gather.mono_l k
 exact ih0 a0 a1 a2
def depotref06_gather.T9 : Bool × List (List Nat × List Nat) := (true, [([], []), ([], []), ([0, 1], [0, 1]), ([2], [2]), ([3], [3]), ([], []), ([], []), ([5, 6], [5, 6]), ([7], [7]), ([8], [8]), ([], []), ([], []), ([10, 11], [10, 11]), ([12], [12]), ([13], [13]), ([4, 9, 14], [4, 9, 14]), ([], []), ([16, 15, 0, 1, 2, 3, 4, 5, 6, 7, 8, 9, 10, 11, 12, 13, 14, 15, 16], [15, 16])])
def depotref06_gather.B9 : List Nat := [0, 0, 3, 7, 15, 0, 0, 96, 224, 480, 0, 0, 3072, 7168, 15360, 32767, 0, 131071]
theorem depotref06_gather.tab9 : rtab .any (opsOf Tryd.f33 9) = depotref06_gather.T9 := by kernel_rfl
theorem depotref06_gather.bits9 : waitsOk depotref06_gather.T9.2 depotref06_gather.B9 = true := by kernel_rfl
set_option maxHeartbeats 8000000 in
set_option maxRecDepth 100000 in
theorem depotref06_gather.calls (k : Nat) : ∀ (A0 : Option Addr) (c0 : Nat) (l0 : List (S29)) (a1 : Int) (A2 : Option Addr) (c2 : Nat) (l2 : List ByteArray) (r1 : List (S63)) (r2 : Int) (w : World) (hr0 : Kd.C k29 w A0 l0.length l0) (hc0 : l0.length ≤ c0) (hr2 : Kd.C Kd.string w A2 l2.length l2) (hc2 : l2.length ≤ c2) (h : depotref06_gather.f k l0 a1 l2 = some (r1, r2)),
  Calls Tryd.prog 33 #[.slice A0 l0.length c0, .int .i64 a1, .slice A2 l2.length c2] w fun e w' => ∃ v0_ : Value, e = .returned (.tuple #[v0_, .int .i64 r2]) ∧ Kd.R k63 63 w' w.heap.size (fun _ => True) v0_ r1 ∧ Below w.heap.size w w' := by
 induction k using Nat.strongRecOn with
 | _ k ih =>
 intro A0 c0 l0 a1 A2 c2 l2 r1 r2 w hr0 hc0 hr2 hc2 h
 cases k with
 | zero => exact absurd h (by simp [depotref06_gather.f])
 | succ k =>
 simp only [depotref06_gather.f] at h
 have hu32 := Tryd.underlying32
 have hu63 := Tryd.underlying63
 have HR0 := Aside0.mk hr0
 have HC0 := Aside0.mk hc0
 clear hr0 hc0
 have HR2 := Aside0.mk hr2
 have HC2 := Aside0.mk hc2
 clear hr2 hc2
 have HB := Aside0.mk (Below.refl w.heap.size w)
 have H : (depotref06_gather.l0 k l0 a1 l2 ([] : List (S63))) = some (r1, r2) := h
 clear h
 have H' := Aside0.mk H
 clear H
 go_enter Tryd.func33, Tryd.ntmps33
 go_wp2
 go_loopg [1, 8] k (fun kq v1 v8 w' => ∃ (x1_1 : Int) (x8_1 : List (S63)), v1 = .int .i64 x1_1 ∧ Aside0 (depotref06_gather.l0 kq l0 x1_1 l2 x8_1 = some (r1, r2)) ∧ Aside0 (kq ≤ k) ∧ Aside0 (Kd.R k63 63 w' w.heap.size (fun _ => True) v8 x8_1) ∧ Aside0 (Below w.heap.size w w'))
 case atStart => exact ⟨(a1), (([] : List (S63))), (by first | rfl | (simp; done) | (simp [*]; done)), H', ⟨Nat.le_refl _⟩, ⟨by first | exact Kd.R_nil _ _ _ _ _ | exact Kd.N_nil _ _ _ _ _ | exact Kd.V_nil _ _ _ _ _ | exact Kd.Q_nil _ _ _ _ _ | exact Kd.S_nil _ _ _ _ _⟩, ⟨by repeat (first | (with_reducible first | exact HB.out | apply below_alloc | apply pw_below_drewN | apply below_drew1) | exact HB.out)⟩⟩
 case round =>
  clear H'
  try clear c2
  try clear p2
  try clear c3
  obtain ⟨x1_1, x8_1, rfl, HA, HK1, HO_8, HB⟩ := hrel
  cases gk with
  | zero => exact absurd HA.out (by simp [depotref06_gather.l0])
  | succ k1 =>
   have H := HA.out
   clear HA
   simp only [depotref06_gather.l0] at H
   by_cases c4 : x1_1 < (l0.length : Int)
   ·rw [if_pos c4] at H
    have c4b0 : decide (x1_1 < (l0.length : Int)) = true := decide_eq_true c4
    clear c4
    by_cases c5 : 0 ≤ x1_1
    ·rw [if_pos c5] at H
     have c5b0 : decide (0 ≤ x1_1) = true := decide_eq_true c5
     clear c5
     replace H := Option.bind_eq_some_iff.mp H
     obtain ⟨⟨t109, t110, t111⟩, A60, H⟩ := H
     replace H : (if t110 = 0 then (if (t109.length : Int) = (wrap64 ((l2.length : Int) + 1)) then ((depotref06_begins.f k1 t109 l2).bind fun t114 => (depotref06_gather.j1 k1 l0 x1_1 l2 x8_1 t109 (!t114))) else (depotref06_gather.j1 k1 l0 x1_1 l2 x8_1 t109 true)) else (depotref06_gather.j1 k1 l0 x1_1 l2 x8_1 t109 true)) = some (r1, r2) := H
     have A6 := Aside0.mk A60
     clear A60
     have HC7 := Aside0.mk H
     clear H
     have p108 : 0 ≤ (x1_1 : Int) := of_decide_eq_true (by first | (with_reducible assumption) | assumption)
     have q108 : x1_1 < (l0.length : Int) := of_decide_eq_true (by first | (with_reducible assumption) | assumption)
     obtain ⟨ad108, e108, hx108_0, hx108_1, hx108_2, hx108_3⟩ := at_T29 HR0.out x1_1 p108 q108
     cases e108
     replace hx108_0 := (HB.out.cell (World.block_lt_of_cell? w _ hx108_0)).trans hx108_0
     replace hx108_1 := (HB.out.cell (World.block_lt_of_cell? w _ hx108_1)).trans hx108_1
     replace hx108_2 := (HB.out.cell (World.block_lt_of_cell? w _ hx108_2)).trans hx108_2
     replace hx108_3 := (HB.out.cell (World.block_lt_of_cell? w _ hx108_3)).trans hx108_3
     replace p108 := eq_true p108
     replace q108 := eq_true q108
     go_upto_region 4 with (first | ((with_reducible refine gate_callee (f := 40) rfl ?_); refine goesL_ (some 26) rfl rfl Tryd.func40 (by kernel_rfl) rfl #[.string ((rd_T29 l0 x1_1).f0)] rfl (by (try simp only [List.map_toArray, List.map_cons, List.map_nil]); first | done | rfl | (simp only [List.length_drop, List.length_take]; rfl)) ?_; (with_reducible refine (depotref05_Split.calls k1 ((rd_T29 l0 x1_1).f0) t109 t110 t111 _ A6.out).mono ?_); rintro e w8 ⟨v112, rfl, ho0, hb⟩; refine ⟨_, rfl, ?_⟩; have n0_ := Aside0.mk (Kd.R_below (by (with_reducible repeat (first | apply Kd.R_alloc | apply Kd.R_drewN | apply Kd.R_drew)); exact HO_8.out) hb); have n1_ := Aside0.mk (Kd.R_lower ho0 (below_size (by repeat (first | (with_reducible first | exact HB.out | apply below_alloc | apply pw_below_drewN | apply below_drew1) | exact HB.out)))); have n2_ := Aside0.mk (below_step (by repeat (first | (with_reducible first | exact HB.out | apply below_alloc | apply pw_below_drewN | apply below_drew1) | exact HB.out)) hb); clear HO_8; clear HB; have HO_8 := n0_; have HO113 := n1_; have HB := n2_; clear n0_ n1_ n2_; (try clear hb); (try clear hb2); (try clear hk); (try clear hi); (try clear ho0)))
     (try simp only [Act.put, List.setIfInBounds_toArray, List.set_cons_zero, List.set_cons_succ])
     go_cut [45] (fun v45 wc => ∃ (kq : Nat) (x45_6 : Bool), v45 = .bool x45_6 ∧ Aside0 (depotref06_gather.j1 kq l0 x1_1 l2 x8_1 t109 x45_6 = some (r1, r2)) ∧ Aside0 (kq ≤ k1) ∧ Aside0 (Kd.R k63 63 wc w.heap.size (fun _ => True) u8 x8_1) ∧ Aside0 (Kd.R Kd.string 9 wc w.heap.size (fun _ => True) v112 t109) ∧ Aside0 (Below w.heap.size w wc))
     case first =>
      have H := HC7.out
      clear HC7
      by_cases c9 : t110 = 0
      ·rw [if_pos c9] at H
       have c9b0 : (t110 == 0) = true := beq_iff_eq.mpr c9
       have c9b1 : (t110 != 0) = false := bne_eq_false_iff_eq.mpr c9
       clear c9
       (first | rw [c9b0] | (simp only [i64_w, i32_w]; rw [c9b0]) | skip)
       by_cases c10 : (t109.length : Int) = (wrap64 ((l2.length : Int) + 1))
       ·rw [if_pos c10] at H
        have c10b0 : ((t109.length : Int) == (wrap64 ((l2.length : Int) + 1))) = true := beq_iff_eq.mpr c10
        have c10b1 : ((t109.length : Int) != (wrap64 ((l2.length : Int) + 1))) = false := bne_eq_false_iff_eq.mpr c10
        clear c10
        replace H := Option.bind_eq_some_iff.mp H
        obtain ⟨t114, A110, H⟩ := H
        replace H : (depotref06_gather.j1 k1 l0 x1_1 l2 x8_1 t109 (!t114)) = some (r1, r2) := H
        have A11 := Aside0.mk A110
        clear A110
        have H' := Aside0.mk H
        clear H
        obtain ⟨Ao12, co12, eo12⟩ := Kd.R_slice HO113.out
        subst eo12
        go_wp2_with (first | (go_at_call 58; (with_reducible refine (depotref06_begins.calls k1 _ _ t109 _ _ l2 t114 _ ?side1 ?side2 ?side3 ?side4 A11.out).mono ?_); (case side1 => repeat (first | exact (Kd.R_reads' HO113.out).2.2 | (with_reducible refine Kd.C_alloc ?_ _) | (with_reducible refine Kd.C_drewN ?_ _) | (with_reducible refine Kd.C_drew ?_))); (case side2 => exact (Kd.R_reads' HO113.out).2.1); (case side3 => repeat (first | exact (Kd.C_below HR2.out HB.out) | (with_reducible refine Kd.C_alloc ?_ _) | (with_reducible refine Kd.C_drewN ?_ _) | (with_reducible refine Kd.C_drew ?_))); (case side4 => exact HC2.out); rintro e w' ⟨rfl, ⟨nd, rfl⟩⟩))
        go_meet
        case rel => exact ⟨_, (!t114), (by first | rfl | (simp; (try clear A11); done) | (simp [*]; done)), H', ⟨by have := HK1.out; first | omega | exact Nat.le_refl _⟩, ⟨by (with_reducible repeat (first | apply Kd.R_alloc | apply Kd.R_drewN | apply Kd.R_drew)); exact HO_8.out⟩, ⟨by (with_reducible repeat (first | apply Kd.R_alloc | apply Kd.R_drewN | apply Kd.R_drew)); exact HO113.out⟩, ⟨by repeat (first | (with_reducible first | exact HB.out | apply below_alloc | apply pw_below_drewN | apply below_drew1) | exact HB.out)⟩⟩
       ·rw [if_neg c10] at H
        have c10b0 : ((t109.length : Int) == (wrap64 ((l2.length : Int) + 1))) = false := beq_eq_false_iff_ne.mpr c10
        have c10b1 : ((t109.length : Int) != (wrap64 ((l2.length : Int) + 1))) = true := bne_iff_ne.mpr c10
        have H' := Aside0.mk H
        clear H
        obtain ⟨Ao13, co13, eo13⟩ := Kd.R_slice HO113.out
        subst eo13
        go_wp2
        go_meet
        case rel => exact ⟨_, (true), (by first | rfl | (simp; done) | (simp [*]; done)), H', ⟨by have := HK1.out; first | omega | exact Nat.le_refl _⟩, ⟨by (with_reducible repeat (first | apply Kd.R_alloc | apply Kd.R_drewN | apply Kd.R_drew)); exact HO_8.out⟩, ⟨by (with_reducible repeat (first | apply Kd.R_alloc | apply Kd.R_drewN | apply Kd.R_drew)); exact HO113.out⟩, ⟨by repeat (first | (with_reducible first | exact HB.out | apply below_alloc | apply pw_below_drewN | apply below_drew1) | exact HB.out)⟩⟩
      ·rw [if_neg c9] at H
       have c9b0 : (t110 == 0) = false := beq_eq_false_iff_ne.mpr c9
       have c9b1 : (t110 != 0) = true := bne_iff_ne.mpr c9
       (first | rw [c9b0] | (simp only [i64_w, i32_w]; rw [c9b0]) | skip)
       have H' := Aside0.mk H
       clear H
       go_wp2
       go_meet
       case rel => exact ⟨_, (true), (by first | rfl | (simp; done) | (simp [*]; done)), H', ⟨by have := HK1.out; first | omega | exact Nat.le_refl _⟩, ⟨by (with_reducible repeat (first | apply Kd.R_alloc | apply Kd.R_drewN | apply Kd.R_drew)); exact HO_8.out⟩, ⟨by (with_reducible repeat (first | apply Kd.R_alloc | apply Kd.R_drewN | apply Kd.R_drew)); exact HO113.out⟩, ⟨by repeat (first | (with_reducible first | exact HB.out | apply below_alloc | apply pw_below_drewN | apply below_drew1) | exact HB.out)⟩⟩
     case rest =>
      clear HC7
      try clear c1
      try clear p1
      try clear q1
      try clear hx1
      try clear c2
      try clear p2
      try clear c3
      try clear c4
      try clear c4b0
      try clear c5
      try clear c5b0
      try clear p6
      try clear c9
      try clear c9b0
      try clear c9b1
      try clear c10
      try clear c10b0
      try clear c10b1
      try clear p10
      try clear q10
      try clear hx10
      try clear hx108_0
      try clear hx108_1
      try clear hx108_2
      try clear hx108_3
      try clear p108
      try clear p2
      try clear q108
      obtain ⟨kq, x45_6, rfl, HA, HJ6, HO_8, HO_9, HB⟩ := hcut
      cases kq with
      | zero => exact absurd HA.out (by simp [depotref06_gather.j1])
      | succ kj6 =>
       have H := HA.out
       clear HA
       simp only [depotref06_gather.j1] at H
       by_cases c14 : x45_6 = true
       ·subst c14
        have H1 : (some (x8_1, x1_1)) = some (r1, r2) := by rw [if_pos rfl] at H; exact H
        clear H
        have H := H1
        clear H1
        simp only [Option.some.injEq, Prod.mk.injEq] at H
        obtain ⟨rfl, rfl⟩ := H
        go_wp2
        go_ret2
        exact ⟨_, by first | rfl | (simp [errW_none, errW_some] <;> rfl) | (simp [*, errW_none, errW_some] <;> rfl), by (with_reducible repeat (first | apply Kd.R_alloc | apply Kd.R_drewN | apply Kd.R_drew)); exact HO_8.out, by repeat (first | (with_reducible first | exact HB.out | apply below_alloc | apply pw_below_drewN | apply below_drew1) | exact HB.out)⟩
       ·replace c14 := Bool.eq_false_iff.mpr c14
        subst c14
        have H1 : (if 0 ≤ (wrap64 ((t109.length : Int) - 1)) then (if (wrap64 ((t109.length : Int) - 1)) < (t109.length : Int) then (if (x8_1.length : Int) > 0 then (if 0 ≤ (wrap64 ((x8_1.length : Int) - 1)) then (if (wrap64 ((x8_1.length : Int) - 1)) < (x8_1.length : Int) then ((depotref05_Compare.f kj6 ((rd_T63 x8_1 (wrap64 ((x8_1.length : Int) - 1))).f0) (rdOf ByteArray.empty t109 (wrap64 ((t109.length : Int) - 1)))).bind fun t117 => (depotref06_gather.j2 kj6 l0 x1_1 l2 x8_1 t109 (rdOf ByteArray.empty t109 (wrap64 ((t109.length : Int) - 1))) (decide (t117 ≥ 0)))) else (none)) else (none)) else (depotref06_gather.j2 kj6 l0 x1_1 l2 x8_1 t109 (rdOf ByteArray.empty t109 (wrap64 ((t109.length : Int) - 1))) false)) else (none)) else (none)) = some (r1, r2) := by rw [if_neg (show ¬ (false = true) by decide)] at H; exact H
        clear H
        have H := H1
        clear H1
        obtain ⟨ji15, hji15⟩ : ∃ j_ : Int, (wrap64 ((t109.length : Int) - 1)) = j_ := ⟨_, rfl⟩
        replace H : (if 0 ≤ (ji15) then (if (ji15) < (t109.length : Int) then (if (x8_1.length : Int) > 0 then (if 0 ≤ (wrap64 ((x8_1.length : Int) - 1)) then (if (wrap64 ((x8_1.length : Int) - 1)) < (x8_1.length : Int) then ((depotref05_Compare.f kj6 ((rd_T63 x8_1 (wrap64 ((x8_1.length : Int) - 1))).f0) (rdOf ByteArray.empty t109 (ji15))).bind fun t117 => (depotref06_gather.j2 kj6 l0 x1_1 l2 x8_1 t109 (rdOf ByteArray.empty t109 (ji15)) (decide (t117 ≥ 0)))) else (none)) else (none)) else (depotref06_gather.j2 kj6 l0 x1_1 l2 x8_1 t109 (rdOf ByteArray.empty t109 (ji15)) false)) else (none)) else (none)) = some (r1, r2) := by first | (rw [hji15] at H; exact H) | (simp only [hji15] at H ⊢; exact H)
        have hji15w : (IntKind.i64.wrap ((t109.length : Int) - 1)) = ji15 := (i64_w _).trans hji15
        by_cases c16 : 0 ≤ (ji15)
        ·rw [if_pos c16] at H
         have c16b0 : decide (0 ≤ (ji15)) = true := decide_eq_true c16
         clear c16
         by_cases c17 : (ji15) < (t109.length : Int)
         ·rw [if_pos c17] at H
          have c17b0 : decide ((ji15) < (t109.length : Int)) = true := decide_eq_true c17
          clear c17
          have HC18 := Aside0.mk H
          clear H
          obtain ⟨Ao19, co19, eo19⟩ := Kd.R_slice HO_9.out
          subst eo19
          have p115 : 0 ≤ ((ji15) : Int) := of_decide_eq_true (by first | (with_reducible assumption) | assumption)
          have q115 : (ji15) < (t109.length : Int) := of_decide_eq_true (by first | (with_reducible assumption) | assumption)
          obtain ⟨ad115, e115, hx115_0⟩ := Kd.at_string (Kd.R_reads' HO_9.out).2.2 (ji15) p115 q115
          cases e115
          replace p115 := eq_true p115
          replace q115 := eq_true q115
          go_upto_region 7 with (fail)
          go_cut [68] (fun v68 wc => ∃ (kq : Nat) (x68_17 : Bool), v68 = .bool x68_17 ∧ Aside0 (depotref06_gather.j2 kq l0 x1_1 l2 x8_1 t109 (rdOf ByteArray.empty t109 (ji15)) x68_17 = some (r1, r2)) ∧ Aside0 (kq ≤ kj6) ∧ Aside0 (Kd.R k63 63 wc w.heap.size (fun _ => True) u8 x8_1) ∧ Aside0 (Kd.R Kd.string 9 wc w.heap.size (fun _ => True) (.slice (some ad115) t109.length co19) t109) ∧ Aside0 (Below w.heap.size w wc))
          case first =>
           have H := HC18.out
           clear HC18
           by_cases c20 : (x8_1.length : Int) > 0
           ·rw [if_pos c20] at H
            have c20b0 : decide (0 < (x8_1.length : Int)) = true := decide_eq_true c20
            have c20b1 : decide (0 < x8_1.length) = true := decide_eq_true (by omega)
            clear c20
            (first | rw [c20b0] | (simp only [i64_w, i32_w]; rw [c20b0]) | skip)
            obtain ⟨ji21, hji21⟩ : ∃ j_ : Int, (wrap64 ((x8_1.length : Int) - 1)) = j_ := ⟨_, rfl⟩
            replace H : (if 0 ≤ (ji21) then (if (ji21) < (x8_1.length : Int) then ((depotref05_Compare.f kj6 ((rd_T63 x8_1 (ji21)).f0) (rdOf ByteArray.empty t109 (ji15))).bind fun t117 => (depotref06_gather.j2 kj6 l0 x1_1 l2 x8_1 t109 (rdOf ByteArray.empty t109 (ji15)) (decide (t117 ≥ 0)))) else (none)) else (none)) = some (r1, r2) := by first | (rw [hji21] at H; exact H) | (simp only [hji21] at H ⊢; exact H)
            have hji21w : (IntKind.i64.wrap ((x8_1.length : Int) - 1)) = ji21 := (i64_w _).trans hji21
            by_cases c22 : 0 ≤ (ji21)
            ·rw [if_pos c22] at H
             have c22b0 : decide (0 ≤ (ji21)) = true := decide_eq_true c22
             clear c22
             by_cases c23 : (ji21) < (x8_1.length : Int)
             ·rw [if_pos c23] at H
              have c23b0 : decide ((ji21) < (x8_1.length : Int)) = true := decide_eq_true c23
              clear c23
              replace H := Option.bind_eq_some_iff.mp H
              obtain ⟨t117, A240, H⟩ := H
              replace H : (depotref06_gather.j2 kj6 l0 x1_1 l2 x8_1 t109 (rdOf ByteArray.empty t109 (ji15)) (decide (t117 ≥ 0))) = some (r1, r2) := H
              have A24 := Aside0.mk A240
              clear A240
              have H' := Aside0.mk H
              clear H
              obtain ⟨Ao25, co25, eo25⟩ := Kd.R_slice HO_8.out
              subst eo25
              have p116 : 0 ≤ ((ji21) : Int) := of_decide_eq_true (by first | (with_reducible assumption) | assumption)
              have q116 : (ji21) < (x8_1.length : Int) := of_decide_eq_true (by first | (with_reducible assumption) | assumption)
              obtain ⟨ad116, A116_4, c116_4, e116, hx116_0, hx116_1, hx116_2, hx116_3, hx116_4, hl116_4, hi116_4⟩ := at_T63 (Kd.R_reads' HO_8.out).2.2 (ji21) p116 q116
              cases e116
              obtain ⟨ce116, hce116, hMe116, hcc116⟩ := Kd.R_get HO_8.out z63 (ji21) p116 (by first | exact q116 | exact of_decide_eq_true (by first | (with_reducible assumption) | assumption) | (have e_ := (Kd.R_reads' HO_8.out).1; omega))
              obtain ⟨ve116_4, rfl, ge116_4⟩ := k63_openM hMe116
              have hv116_4 := hcc116 4 _ rfl
              rw [add_field _ _ 4 (by omega)] at hv116_4
              replace hv116_4 := Option.some.inj (hv116_4.symm.trans hx116_4)
              rw [hv116_4] at ge116_4
              have HL116_4 := Aside0.mk (show Kd.R k63 63 _ _ _ _ ((rd_T63 x8_1 (ji21)).f4) from ge116_4)
              clear hv116_4 ge116_4
              clear hcc116 hce116
              have HR116_4 := Aside0.mk hi116_4
              have HC116_4 := Aside0.mk hl116_4
              clear hi116_4 hl116_4
              replace p116 := eq_true p116
              replace q116 := eq_true q116
              go_wp2_with (first | (go_at_call 59; (with_reducible refine (depotref05_Compare.calls kj6 ((rd_T63 x8_1 (ji21)).f0) (rdOf ByteArray.empty t109 (ji15)) t117 _ A24.out).mono ?_); rintro e w26 ⟨rfl, hb⟩; (try clear A24); have n0_ := Aside0.mk (Kd.R_below (by (with_reducible repeat (first | apply Kd.R_alloc | apply Kd.R_drewN | apply Kd.R_drew)); exact HO_8.out) hb); have n1_ := Aside0.mk (Kd.R_below (by (with_reducible repeat (first | apply Kd.R_alloc | apply Kd.R_drewN | apply Kd.R_drew)); exact HO_9.out) hb); have n2_ := Aside0.mk (Kd.R_below (by (with_reducible repeat (first | apply Kd.R_alloc | apply Kd.R_drewN | apply Kd.R_drew)); exact HL116_4.out) hb); have n3_ := Aside0.mk (Kd.C_below (by repeat (first | (with_reducible exact HR116_4.out) | (with_reducible refine Kd.C_alloc ?_ _) | (with_reducible refine Kd.C_drewN ?_ _) | (with_reducible refine Kd.C_drew ?_) | exact HR116_4.out)) hb); have n4_ := Aside0.mk (below_step (by repeat (first | (with_reducible first | exact HB.out | apply below_alloc | apply pw_below_drewN | apply below_drew1) | exact HB.out)) hb); clear HO_8; clear HO_9; clear HL116_4; clear HR116_4; clear HB; have HO_8 := n0_; have HO_9 := n1_; have HL116_4 := n2_; have HR116_4 := n3_; have HB := n4_; clear n0_ n1_ n2_ n3_ n4_; (try clear hb); (try clear hb2); (try clear hk); (try clear hi)))
              go_meet
              case rel => exact ⟨_, (decide (t117 ≥ 0)), (by first | rfl | (simp; done) | (simp [*]; done)), H', ⟨by have := HK1.out; have := HJ6.out; first | omega | exact Nat.le_refl _⟩, ⟨by (with_reducible repeat (first | apply Kd.R_alloc | apply Kd.R_drewN | apply Kd.R_drew)); exact HO_8.out⟩, ⟨by (with_reducible repeat (first | apply Kd.R_alloc | apply Kd.R_drewN | apply Kd.R_drew)); exact HO_9.out⟩, ⟨by repeat (first | (with_reducible first | exact HB.out | apply below_alloc | apply pw_below_drewN | apply below_drew1) | exact HB.out)⟩⟩
             ·rw [if_neg c23] at H
              exact absurd H (by simp)
            ·rw [if_neg c22] at H
             exact absurd H (by simp)
           ·rw [if_neg c20] at H
            have c20b0 : decide (0 < (x8_1.length : Int)) = false := decide_eq_false c20
            have c20b1 : decide (0 < x8_1.length) = false := decide_eq_false (by omega)
            clear c20
            (first | rw [c20b0] | (simp only [i64_w, i32_w]; rw [c20b0]) | skip)
            have H' := Aside0.mk H
            clear H
            obtain ⟨Ao27, co27, eo27⟩ := Kd.R_slice HO_8.out
            subst eo27
            go_wp2
            go_meet
            case rel => exact ⟨_, (false), (by first | rfl | (simp; done) | (simp [*]; done)), H', ⟨by have := HK1.out; have := HJ6.out; first | omega | exact Nat.le_refl _⟩, ⟨by (with_reducible repeat (first | apply Kd.R_alloc | apply Kd.R_drewN | apply Kd.R_drew)); exact HO_8.out⟩, ⟨by (with_reducible repeat (first | apply Kd.R_alloc | apply Kd.R_drewN | apply Kd.R_drew)); exact HO_9.out⟩, ⟨by repeat (first | (with_reducible first | exact HB.out | apply below_alloc | apply pw_below_drewN | apply below_drew1) | exact HB.out)⟩⟩
          case rest =>
           clear HC18
           try clear c1
           try clear p1
           try clear q1
           try clear hx1
           try clear c2
           try clear p2
           try clear c3
           try clear c4
           try clear c4b0
           try clear c5
           try clear c5b0
           try clear p6
           try clear c9
           try clear c9b0
           try clear c9b1
           try clear c10
           try clear c10b0
           try clear c10b1
           try clear p10
           try clear q10
           try clear hx10
           try clear c11
           try clear p11
           try clear q11
           try clear hx11
           try clear c14
           try clear c16
           try clear c16b0
           try clear c17
           try clear c17b0
           try clear c20
           try clear c20b0
           try clear c20b1
           try clear c22
           try clear c22b0
           try clear c23
           try clear c23b0
           try clear hx108_0
           try clear hx108_1
           try clear hx108_2
           try clear hx108_3
           try clear hx115_0
           try clear hx116_0
           try clear hx116_1
           try clear hx116_2
           try clear hx116_3
           try clear hx116_4
           try clear p1
           try clear p10
           try clear p108
           try clear p115
           try clear p116
           try clear p2
           try clear p6
           try clear q1
           try clear q10
           try clear q108
           try clear q115
           try clear q116
           obtain ⟨kq, x68_17, rfl, HA, HJ17, HO_8, HO_9, HB⟩ := hcut
           cases kq with
           | zero => exact absurd HA.out (by simp [depotref06_gather.j2])
           | succ kj17 =>
            have H := HA.out
            clear HA
            simp only [depotref06_gather.j2] at H
            by_cases c28 : x68_17 = true
            ·subst c28
             have H1 : (some (x8_1, x1_1)) = some (r1, r2) := by rw [if_pos rfl] at H; exact H
             clear H
             have H := H1
             clear H1
             simp only [Option.some.injEq, Prod.mk.injEq] at H
             obtain ⟨rfl, rfl⟩ := H
             go_wp2
             go_ret2
             exact ⟨_, by first | rfl | (simp [errW_none, errW_some] <;> rfl) | (simp only [← hji15]; first | rfl | (simp [errW_none, errW_some] <;> rfl)) | (simp [*, errW_none, errW_some] <;> rfl), by (with_reducible repeat (first | apply Kd.R_alloc | apply Kd.R_drewN | apply Kd.R_drew)); exact HO_8.out, by repeat (first | (with_reducible first | exact HB.out | apply below_alloc | apply pw_below_drewN | apply below_drew1) | exact HB.out)⟩
            ·replace c28 := Bool.eq_false_iff.mpr c28
             subst c28
             have H1 : (if 0 ≤ x1_1 then (if x1_1 < (l0.length : Int) then ((depotref06_Own.f ((rd_T29 l0 x1_1).f1) ((rd_T29 l0 x1_1).f2) ((rd_T29 l0 x1_1).f3) ([] : List (S63))).bind fun bt122 => (if bt122.1 = 0 then (if 0 ≤ (wrap64 ((wrap64 (x1_1 + 1)) - 1)) then (if (wrap64 ((wrap64 (x1_1 + 1)) - 1)) < (l0.length : Int) then (if ((rd_T29 l0 (wrap64 ((wrap64 (x1_1 + 1)) - 1))).f1) = 3 then ((depotref06_gather.f kj17 l0 (wrap64 (x1_1 + 1)) t109).bind fun bt125 => (if x8_1.length < 1954687338268 then (depotref06_gather.l0 kj17 l0 bt125.2 l2 (x8_1 ++ [(⟨(rdOf ByteArray.empty t109 (ji15)), (rd_T29 l0 x1_1).f1, (rd_T29 l0 x1_1).f2, (rd_T29 l0 x1_1).f3, bt125.1⟩ : S63)])) else (none))) else (if x8_1.length < 1954687338268 then (depotref06_gather.l0 kj17 l0 (wrap64 (x1_1 + 1)) l2 (x8_1 ++ [(⟨(rdOf ByteArray.empty t109 (ji15)), (rd_T29 l0 x1_1).f1, (rd_T29 l0 x1_1).f2, (rd_T29 l0 x1_1).f3, ([] : List (S63))⟩ : S63)])) else (none))) else (none)) else (none)) else (some (x8_1, x1_1)))) else (none)) else (none)) = some (r1, r2) := by rw [if_neg (show ¬ (false = true) by decide)] at H; exact H
             clear H
             have H := H1
             clear H1
             by_cases c29 : 0 ≤ x1_1
             ·rw [if_pos c29] at H
              have c29b0 : decide (0 ≤ x1_1) = true := decide_eq_true c29
              clear c29
              by_cases c30 : x1_1 < (l0.length : Int)
              ·rw [if_pos c30] at H
               have c30b0 : decide (x1_1 < (l0.length : Int)) = true := decide_eq_true c30
               clear c30
               replace H := Option.bind_eq_some_iff.mp H
               obtain ⟨⟨t122, t123⟩, A310, H⟩ := H
               replace H : (if t122 = 0 then (if 0 ≤ (wrap64 ((wrap64 (x1_1 + 1)) - 1)) then (if (wrap64 ((wrap64 (x1_1 + 1)) - 1)) < (l0.length : Int) then (if ((rd_T29 l0 (wrap64 ((wrap64 (x1_1 + 1)) - 1))).f1) = 3 then ((depotref06_gather.f kj17 l0 (wrap64 (x1_1 + 1)) t109).bind fun bt125 => (if x8_1.length < 1954687338268 then (depotref06_gather.l0 kj17 l0 bt125.2 l2 (x8_1 ++ [(⟨(rdOf ByteArray.empty t109 (ji15)), (rd_T29 l0 x1_1).f1, (rd_T29 l0 x1_1).f2, (rd_T29 l0 x1_1).f3, bt125.1⟩ : S63)])) else (none))) else (if x8_1.length < 1954687338268 then (depotref06_gather.l0 kj17 l0 (wrap64 (x1_1 + 1)) l2 (x8_1 ++ [(⟨(rdOf ByteArray.empty t109 (ji15)), (rd_T29 l0 x1_1).f1, (rd_T29 l0 x1_1).f2, (rd_T29 l0 x1_1).f3, ([] : List (S63))⟩ : S63)])) else (none))) else (none)) else (none)) else (some (x8_1, x1_1))) = some (r1, r2) := H
               have A31 := Aside0.mk A310
               clear A310
               by_cases c32 : t122 = 0
               ·rw [if_pos c32] at H
                have c32b0 : (t122 == 0) = true := beq_iff_eq.mpr c32
                have c32b1 : (t122 != 0) = false := bne_eq_false_iff_eq.mpr c32
                clear c32
                obtain ⟨ji33, hji33⟩ : ∃ j_ : Int, (wrap64 ((wrap64 (x1_1 + 1)) - 1)) = j_ := ⟨_, rfl⟩
                replace H : (if 0 ≤ (ji33) then (if (ji33) < (l0.length : Int) then (if ((rd_T29 l0 (ji33)).f1) = 3 then ((depotref06_gather.f kj17 l0 (wrap64 (x1_1 + 1)) t109).bind fun bt125 => (if x8_1.length < 1954687338268 then (depotref06_gather.l0 kj17 l0 bt125.2 l2 (x8_1 ++ [(⟨(rdOf ByteArray.empty t109 (ji15)), (rd_T29 l0 x1_1).f1, (rd_T29 l0 x1_1).f2, (rd_T29 l0 x1_1).f3, bt125.1⟩ : S63)])) else (none))) else (if x8_1.length < 1954687338268 then (depotref06_gather.l0 kj17 l0 (wrap64 (x1_1 + 1)) l2 (x8_1 ++ [(⟨(rdOf ByteArray.empty t109 (ji15)), (rd_T29 l0 x1_1).f1, (rd_T29 l0 x1_1).f2, (rd_T29 l0 x1_1).f3, ([] : List (S63))⟩ : S63)])) else (none))) else (none)) else (none)) = some (r1, r2) := by first | (rw [hji33] at H; exact H) | (simp only [hji33] at H ⊢; exact H)
                (try rw [hji33] at A31)
                have hji33w : (IntKind.i64.wrap ((wrap64 (x1_1 + 1)) - 1)) = ji33 := (i64_w _).trans hji33
                by_cases c34 : 0 ≤ (ji33)
                ·rw [if_pos c34] at H
                 have c34b0 : decide (0 ≤ (ji33)) = true := decide_eq_true c34
                 clear c34
                 by_cases c35 : (ji33) < (l0.length : Int)
                 ·rw [if_pos c35] at H
                  have c35b0 : decide ((ji33) < (l0.length : Int)) = true := decide_eq_true c35
                  clear c35
                  by_cases c36 : ((rd_T29 l0 (ji33)).f1) = 3
                  ·rw [if_pos c36] at H
                   have c36b0 : (((rd_T29 l0 (ji33)).f1) == 3) = true := beq_iff_eq.mpr c36
                   have c36b1 : (((rd_T29 l0 (ji33)).f1) != 3) = false := bne_eq_false_iff_eq.mpr c36
                   clear c36
                   replace H := Option.bind_eq_some_iff.mp H
                   obtain ⟨⟨t125, t126⟩, A370, H⟩ := H
                   replace H : (if x8_1.length < 1954687338268 then (depotref06_gather.l0 kj17 l0 t126 l2 (x8_1 ++ [(⟨(rdOf ByteArray.empty t109 (ji15)), (rd_T29 l0 x1_1).f1, (rd_T29 l0 x1_1).f2, (rd_T29 l0 x1_1).f3, t125⟩ : S63)])) else (none)) = some (r1, r2) := H
                   have A37 := Aside0.mk A370
                   clear A370
                   by_cases c38 : x8_1.length < 1954687338268
                   ·rw [if_pos c38] at H
                    have LMc38 := Aside0.mk c38
                    clear c38
                    obtain ⟨y129, hy129⟩ : ∃ y_ : List (S63), y_ = (x8_1 ++ [(⟨(rdOf ByteArray.empty t109 (ji15)), (rd_T29 l0 x1_1).f1, (rd_T29 l0 x1_1).f2, (rd_T29 l0 x1_1).f3, t125⟩ : S63)]) := ⟨_, rfl⟩
                    replace H : (depotref06_gather.l0 kj17 l0 t126 l2 y129) = some (r1, r2) := by first | (rw [hy129]; with_reducible exact H) | (have H2_ := (Option.bind_some _ _).symm.trans H; rw [hy129]; with_reducible exact H2_) | (have H2_ := (Option.bind_some _ _).symm.trans H; with_reducible exact H2_) | with_reducible exact H | (rw [hy129]; exact H) | exact H
                    have Ny129 := Aside0.mk hy129
                    clear hy129
                    have H' := Aside0.mk H
                    clear H
                    try go_wp2
                    have n0_ := Aside0.mk (Kd.R_drew HO_8.out)
                    have n1_ := Aside0.mk (Kd.R_drew HO_9.out)
                    have n2_ := Aside0.mk (below_drew1 HB.out)
                    clear HO_8
                    clear HO_9
                    clear HB
                    have HO_8 := n0_
                    have HO_9 := n1_
                    have HB := n2_
                    clear n0_ n1_ n2_
                    have p118 : 0 ≤ (x1_1 : Int) := of_decide_eq_true (by first | (with_reducible assumption) | assumption)
                    have q118 : x1_1 < (l0.length : Int) := of_decide_eq_true (by first | (with_reducible assumption) | assumption)
                    obtain ⟨ad118, e118, hx118_0, hx118_1, hx118_2, hx118_3⟩ := at_T29 HR0.out x1_1 p118 q118
                    have hw118_3 := hx118_3
                    have hw118_2 := hx118_2
                    have hw118_1 := hx118_1
                    have hw118_0 := hx118_0
                    obtain rfl : ad108 = ad118 := (by injection e118)
                    replace hx118_0 := (HB.out.cell (World.block_lt_of_cell? w _ hx118_0)).trans hx118_0
                    replace hx118_1 := (HB.out.cell (World.block_lt_of_cell? w _ hx118_1)).trans hx118_1
                    replace hx118_2 := (HB.out.cell (World.block_lt_of_cell? w _ hx118_2)).trans hx118_2
                    replace hx118_3 := (HB.out.cell (World.block_lt_of_cell? w _ hx118_3)).trans hx118_3
                    replace p118 := eq_true p118
                    replace q118 := eq_true q118
                    have p119 : 0 ≤ (x1_1 : Int) := of_decide_eq_true (by first | (with_reducible assumption) | assumption)
                    have q119 : x1_1 < (l0.length : Int) := of_decide_eq_true (by first | (with_reducible assumption) | assumption)
                    obtain ⟨ad119, e119, hx119_0, hx119_1, hx119_2, hx119_3⟩ := at_T29 HR0.out x1_1 p119 q119
                    have hw119_3 := hx119_3
                    have hw119_2 := hx119_2
                    have hw119_1 := hx119_1
                    have hw119_0 := hx119_0
                    obtain rfl : ad108 = ad119 := (by injection e119)
                    replace hx119_0 := (HB.out.cell (World.block_lt_of_cell? w _ hx119_0)).trans hx119_0
                    replace hx119_1 := (HB.out.cell (World.block_lt_of_cell? w _ hx119_1)).trans hx119_1
                    replace hx119_2 := (HB.out.cell (World.block_lt_of_cell? w _ hx119_2)).trans hx119_2
                    replace hx119_3 := (HB.out.cell (World.block_lt_of_cell? w _ hx119_3)).trans hx119_3
                    replace p119 := eq_true p119
                    replace q119 := eq_true q119
                    have p120 : 0 ≤ (x1_1 : Int) := of_decide_eq_true (by first | (with_reducible assumption) | assumption)
                    have q120 : x1_1 < (l0.length : Int) := of_decide_eq_true (by first | (with_reducible assumption) | assumption)
                    obtain ⟨ad120, e120, hx120_0, hx120_1, hx120_2, hx120_3⟩ := at_T29 HR0.out x1_1 p120 q120
                    have hw120_3 := hx120_3
                    have hw120_2 := hx120_2
                    have hw120_1 := hx120_1
                    have hw120_0 := hx120_0
                    obtain rfl : ad108 = ad120 := (by injection e120)
                    replace hx120_0 := (HB.out.cell (World.block_lt_of_cell? w _ hx120_0)).trans hx120_0
                    replace hx120_1 := (HB.out.cell (World.block_lt_of_cell? w _ hx120_1)).trans hx120_1
                    replace hx120_2 := (HB.out.cell (World.block_lt_of_cell? w _ hx120_2)).trans hx120_2
                    replace hx120_3 := (HB.out.cell (World.block_lt_of_cell? w _ hx120_3)).trans hx120_3
                    replace p120 := eq_true p120
                    replace q120 := eq_true q120
                    refine start_ (n := 18) (S := fun w' => w'.cell? (ad108.add ((x1_1).toNat * 4)) = some (.string ((rd_T29 l0 x1_1).f0)) ∧ w'.cell? ⟨(ad108.add ((x1_1).toNat * 4)).block, (ad108.add ((x1_1).toNat * 4)).off + 1, none⟩ = some (.int .i64 ((rd_T29 l0 x1_1).f1)) ∧ w'.cell? ⟨(ad108.add ((x1_1).toNat * 4)).block, (ad108.add ((x1_1).toNat * 4)).off + 2, none⟩ = some (.bool ((rd_T29 l0 x1_1).f2)) ∧ w'.cell? ⟨(ad108.add ((x1_1).toNat * 4)).block, (ad108.add ((x1_1).toNat * 4)).off + 3, none⟩ = some (.string ((rd_T29 l0 x1_1).f3)) ∧ w'.cell? (ad108.add ((x1_1).toNat * 4)) = some (.string ((rd_T29 l0 x1_1).f0)) ∧ w'.cell? ⟨(ad108.add ((x1_1).toNat * 4)).block, (ad108.add ((x1_1).toNat * 4)).off + 1, none⟩ = some (.int .i64 ((rd_T29 l0 x1_1).f1)) ∧ w'.cell? ⟨(ad108.add ((x1_1).toNat * 4)).block, (ad108.add ((x1_1).toNat * 4)).off + 2, none⟩ = some (.bool ((rd_T29 l0 x1_1).f2)) ∧ w'.cell? ⟨(ad108.add ((x1_1).toNat * 4)).block, (ad108.add ((x1_1).toNat * 4)).off + 3, none⟩ = some (.string ((rd_T29 l0 x1_1).f3)) ∧ w'.cell? (ad108.add ((x1_1).toNat * 4)) = some (.string ((rd_T29 l0 x1_1).f0)) ∧ w'.cell? ⟨(ad108.add ((x1_1).toNat * 4)).block, (ad108.add ((x1_1).toNat * 4)).off + 1, none⟩ = some (.int .i64 ((rd_T29 l0 x1_1).f1)) ∧ w'.cell? ⟨(ad108.add ((x1_1).toNat * 4)).block, (ad108.add ((x1_1).toNat * 4)).off + 2, none⟩ = some (.bool ((rd_T29 l0 x1_1).f2)) ∧ w'.cell? ⟨(ad108.add ((x1_1).toNat * 4)).block, (ad108.add ((x1_1).toNat * 4)).off + 3, none⟩ = some (.string ((rd_T29 l0 x1_1).f3))) (ds := []) #[false, false, false, false, false, false, false, false, false, false, false, false, false, false, false, false, false, false] (by kernel_rfl) rfl rfl ⟨((HB.out.cell (World.block_lt_of_cell? w _ hw118_0)).trans hw118_0), ((HB.out.cell (World.block_lt_of_cell? w _ hw118_1)).trans hw118_1), ((HB.out.cell (World.block_lt_of_cell? w _ hw118_2)).trans hw118_2), ((HB.out.cell (World.block_lt_of_cell? w _ hw118_3)).trans hw118_3), ((HB.out.cell (World.block_lt_of_cell? w _ hw119_0)).trans hw119_0), ((HB.out.cell (World.block_lt_of_cell? w _ hw119_1)).trans hw119_1), ((HB.out.cell (World.block_lt_of_cell? w _ hw119_2)).trans hw119_2), ((HB.out.cell (World.block_lt_of_cell? w _ hw119_3)).trans hw119_3), ((HB.out.cell (World.block_lt_of_cell? w _ hw120_0)).trans hw120_0), ((HB.out.cell (World.block_lt_of_cell? w _ hw120_1)).trans hw120_1), ((HB.out.cell (World.block_lt_of_cell? w _ hw120_2)).trans hw120_2), ((HB.out.cell (World.block_lt_of_cell? w _ hw120_3)).trans hw120_3)⟩ (fun hHeld => ?_); refine with_tabW depotref06_gather.tab9 depotref06_gather.bits9 (fun HT_ HW_ => ?_)
                    generalize wc.drew = w39 at HO_8 HO_9 HB hx118_0 hx118_1 hx118_2 hx118_3 hx119_0 hx119_1 hx119_2 hx119_3 hx120_0 hx120_1 hx120_2 hx120_3 hHeld ⊢
                    refine pure_ (i := 0) (N := some 71) (v := ?_) (a' := ?_) #[true, false, false, false, false, false, false, false, false, false, false, false, false, false, false, false, false, false] rfl rfl (any_of HT_.out (by kernel_rfl)) (fun _ _ _ h => h) (Or.inl ⟨by rfl, ?_⟩) ?_ ?_
                    rotate_left
                    ·intro w'
                     go_simp
                     with_reducible rfl
                    rotate_left
                    ·simp only [Act.put, List.setIfInBounds_toArray, List.set_cons_zero, List.set_cons_succ, i64_w, i32_w]
                     rfl
                    refine pure_ (i := 1) (N := some 72) (v := ?_) (a' := ?_) #[true, true, false, false, false, false, false, false, false, false, false, false, false, false, false, false, false, false] rfl rfl (any_of HT_.out (by kernel_rfl)) (fun _ _ _ h => h) (Or.inl ⟨by rfl, ?_⟩) ?_ ?_
                    rotate_left
                    ·intro w'
                     go_simp
                     with_reducible rfl
                    rotate_left
                    ·simp only [Act.put, List.setIfInBounds_toArray, List.set_cons_zero, List.set_cons_succ, i64_w, i32_w]
                     rfl
                    refine pure_ (i := 2) (N := some 73) (v := ?_) (a' := ?_) #[true, true, true, false, false, false, false, false, false, false, false, false, false, false, false, false, false, false] rfl rfl (any_of HT_.out (by kernel_rfl)) (fun _ _ _ h => h) (Or.inl ⟨by rfl, ?_⟩) ?_ ?_
                    rotate_left
                    ·intro w'
                     go_simp
                     with_reducible rfl
                    rotate_left
                    ·simp only [Act.put, List.setIfInBounds_toArray, List.set_cons_zero, List.set_cons_succ, i64_w, i32_w]
                     rfl
                    refine pure_ (i := 3) (N := some 74) (v := ?_) (a' := ?_) #[true, true, true, true, false, false, false, false, false, false, false, false, false, false, false, false, false, false] rfl rfl (any_of HT_.out (by kernel_rfl)) (fun _ _ _ h => h) (Or.inl ⟨by rfl, ?_⟩) ?_ ?_
                    rotate_left
                    ·intro w'
                     go_simp
                     with_reducible rfl
                    rotate_left
                    ·simp only [Act.put, List.setIfInBounds_toArray, List.set_cons_zero, List.set_cons_succ, i64_w, i32_w]
                     rfl
                    refine pure_ (i := 5) (N := some 76) (v := ?_) (a' := ?_) #[true, true, true, true, false, true, false, false, false, false, false, false, false, false, false, false, false, false] rfl rfl (any_of HT_.out (by kernel_rfl)) (fun _ _ _ h => h) (Or.inl ⟨by rfl, ?_⟩) ?_ ?_
                    rotate_left
                    ·intro w'
                     go_simp
                     with_reducible rfl
                    rotate_left
                    ·simp only [Act.put, List.setIfInBounds_toArray, List.set_cons_zero, List.set_cons_succ, i64_w, i32_w]
                     rfl
                    refine pure_ (i := 6) (N := some 77) (v := ?_) (a' := ?_) #[true, true, true, true, false, true, true, false, false, false, false, false, false, false, false, false, false, false] rfl rfl (any_of HT_.out (by kernel_rfl)) (fun _ _ _ h => h) (Or.inl ⟨by rfl, ?_⟩) ?_ ?_
                    rotate_left
                    ·intro w'
                     go_simp
                     with_reducible rfl
                    rotate_left
                    ·simp only [Act.put, List.setIfInBounds_toArray, List.set_cons_zero, List.set_cons_succ, i64_w, i32_w]
                     rfl
                    refine pure_ (i := 7) (N := some 78) (v := ?_) (a' := ?_) #[true, true, true, true, false, true, true, true, false, false, false, false, false, false, false, false, false, false] rfl rfl (any_of HT_.out (by kernel_rfl)) (fun _ _ _ h => h) (Or.inl ⟨by rfl, ?_⟩) ?_ ?_
                    rotate_left
                    ·intro w'
                     go_simp
                     with_reducible rfl
                    rotate_left
                    ·simp only [Act.put, List.setIfInBounds_toArray, List.set_cons_zero, List.set_cons_succ, i64_w, i32_w]
                     rfl
                    refine pure_ (i := 8) (N := some 79) (v := ?_) (a' := ?_) #[true, true, true, true, false, true, true, true, true, false, false, false, false, false, false, false, false, false] rfl rfl (any_of HT_.out (by kernel_rfl)) (fun _ _ _ h => h) (Or.inl ⟨by rfl, ?_⟩) ?_ ?_
                    rotate_left
                    ·intro w'
                     go_simp
                     with_reducible rfl
                    rotate_left
                    ·simp only [Act.put, List.setIfInBounds_toArray, List.set_cons_zero, List.set_cons_succ, i64_w, i32_w]
                     rfl
                    refine pure_ (i := 10) (N := some 81) (v := ?_) (a' := ?_) #[true, true, true, true, false, true, true, true, true, false, true, false, false, false, false, false, false, false] rfl rfl (any_of HT_.out (by kernel_rfl)) (fun _ _ _ h => h) (Or.inl ⟨by rfl, ?_⟩) ?_ ?_
                    rotate_left
                    ·intro w'
                     go_simp
                     with_reducible rfl
                    rotate_left
                    ·simp only [Act.put, List.setIfInBounds_toArray, List.set_cons_zero, List.set_cons_succ, i64_w, i32_w]
                     rfl
                    refine pure_ (i := 11) (N := some 82) (v := ?_) (a' := ?_) #[true, true, true, true, false, true, true, true, true, false, true, true, false, false, false, false, false, false] rfl rfl (any_of HT_.out (by kernel_rfl)) (fun _ _ _ h => h) (Or.inl ⟨by rfl, ?_⟩) ?_ ?_
                    rotate_left
                    ·intro w'
                     go_simp
                     with_reducible rfl
                    rotate_left
                    ·simp only [Act.put, List.setIfInBounds_toArray, List.set_cons_zero, List.set_cons_succ, i64_w, i32_w]
                     rfl
                    refine pure_ (i := 12) (N := some 83) (v := ?_) (a' := ?_) #[true, true, true, true, false, true, true, true, true, false, true, true, true, false, false, false, false, false] rfl rfl (any_of HT_.out (by kernel_rfl)) (fun _ _ _ h => h) (Or.inl ⟨by rfl, ?_⟩) ?_ ?_
                    rotate_left
                    ·intro w'
                     go_simp
                     with_reducible rfl
                    rotate_left
                    ·simp only [Act.put, List.setIfInBounds_toArray, List.set_cons_zero, List.set_cons_succ, i64_w, i32_w]
                     rfl
                    refine pure_ (i := 13) (N := some 84) (v := ?_) (a' := ?_) #[true, true, true, true, false, true, true, true, true, false, true, true, true, true, false, false, false, false] rfl rfl (any_of HT_.out (by kernel_rfl)) (fun _ _ _ h => h) (Or.inl ⟨by rfl, ?_⟩) ?_ ?_
                    rotate_left
                    ·intro w'
                     go_simp
                     with_reducible rfl
                    rotate_left
                    ·simp only [Act.put, List.setIfInBounds_toArray, List.set_cons_zero, List.set_cons_succ, i64_w, i32_w]
                     rfl
                    refine take_ (i := 4) (N := some 75) (v := ?_) (a' := ?_) #[true, true, true, true, true, true, true, true, true, false, true, true, true, true, false, false, false, false] rfl rfl (take_ofW HT_.out HW_.out (by kernel_rfl)) (fun _ _ _ h => h) (Or.inl ⟨by rfl, ?_⟩) hHeld ?_ ?_
                    rotate_left
                    ·rintro w' ⟨s0, s1, s2, s3, s4, s5, s6, s7, s8, s9, s10, s11⟩
                     go_simp
                     with_reducible rfl
                    rotate_left
                    ·simp only [Act.put, List.setIfInBounds_toArray, List.set_cons_zero, List.set_cons_succ, i64_w, i32_w]
                     rfl
                    refine take_ (i := 9) (N := some 80) (v := ?_) (a' := ?_) #[true, true, true, true, true, true, true, true, true, true, true, true, true, true, false, false, false, false] rfl rfl (take_ofW HT_.out HW_.out (by kernel_rfl)) (fun _ _ _ h => h) (Or.inl ⟨by rfl, ?_⟩) hHeld ?_ ?_
                    rotate_left
                    ·rintro w' ⟨s0, s1, s2, s3, s4, s5, s6, s7, s8, s9, s10, s11⟩
                     go_simp
                     with_reducible rfl
                    rotate_left
                    ·simp only [Act.put, List.setIfInBounds_toArray, List.set_cons_zero, List.set_cons_succ, i64_w, i32_w]
                     rfl
                    refine take_ (i := 14) (N := some 85) (v := ?_) (a' := ?_) #[true, true, true, true, true, true, true, true, true, true, true, true, true, true, true, false, false, false] rfl rfl (take_ofW HT_.out HW_.out (by kernel_rfl)) (fun _ _ _ h => h) (Or.inl ⟨by rfl, ?_⟩) hHeld ?_ ?_
                    rotate_left
                    ·rintro w' ⟨s0, s1, s2, s3, s4, s5, s6, s7, s8, s9, s10, s11⟩
                     go_simp
                     with_reducible rfl
                    rotate_left
                    ·simp only [Act.put, List.setIfInBounds_toArray, List.set_cons_zero, List.set_cons_succ, i64_w, i32_w]
                     rfl
                    refine pure_ (i := 15) (N := some 86) (v := ?_) (a' := ?_) #[true, true, true, true, true, true, true, true, true, true, true, true, true, true, true, true, false, false] rfl rfl (any_of HT_.out (by kernel_rfl)) (fun _ _ _ h => h) (Or.inl ⟨by rfl, ?_⟩) ?_ ?_
                    rotate_left
                    ·intro w'
                     go_simp
                     with_reducible rfl
                    rotate_left
                    ·simp only [Act.put, List.setIfInBounds_toArray, List.set_cons_zero, List.set_cons_succ, i64_w, i32_w]
                     rfl
                    refine one_ (i := 16) (N := some 13) #[true, true, true, true, true, true, true, true, true, true, true, true, true, true, true, true, true, false] rfl rfl (one_of HT_.out (by kernel_rfl)) (by decide) (fun K hK => ?_)
                    refine box_step ?hg (N := 13) ?hd (cs := #[.int .i64 0, .bool false, .string (⟨#[]⟩ : ByteArray), .slice none 0 0]) (t := 32) ?hr ?_; (case hd => rfl); (case hg => rfl); (case hr => first | (go_simp; done) | (go_simp; rfl))
                    intro gb121 hg w40 hbox hb
                    have n0_ := Aside0.mk (Kd.R_below (by (with_reducible repeat (first | apply Kd.R_alloc | apply Kd.R_drewN | apply Kd.R_drew)); exact HO_8.out) hb)
                    have n1_ := Aside0.mk (Kd.R_below (by (with_reducible repeat (first | apply Kd.R_alloc | apply Kd.R_drewN | apply Kd.R_drew)); exact HO_9.out) hb)
                    have n2_ := Aside0.mk (below_step (by repeat (first | (with_reducible first | exact HB.out | apply below_alloc | apply pw_below_drewN | apply below_drew1) | exact HB.out)) hb)
                    have n3_ := Aside0.mk (hbox)
                    have n4_ := Aside0.mk ((by rw [hg]; exact (below_size (by repeat (first | (with_reducible first | exact HB.out | apply below_alloc | apply pw_below_drewN | apply below_drew1) | exact HB.out))) : w.heap.size ≤ gb121))
                    have n5_ := Aside0.mk ((by rw [hg]; exact (below_size (by repeat (first | (with_reducible first | exact HB.out | apply below_alloc | apply pw_below_drewN | apply below_drew1) | exact HB.out))) : w.heap.size ≤ gb121))
                    clear HO_8
                    clear HO_9
                    clear HB
                    have HO_8 := n0_
                    have HO_9 := n1_
                    have HB := n2_
                    have BK121 := n3_
                    have GW121 := n4_
                    have GE121 := n5_
                    clear n0_ n1_ n2_ n3_ n4_ n5_
                    clear hb hbox hg
                    refine hK.out _ _ ⟨((HB.out.cell (World.block_lt_of_cell? w _ hw118_0)).trans hw118_0), ((HB.out.cell (World.block_lt_of_cell? w _ hw118_1)).trans hw118_1), ((HB.out.cell (World.block_lt_of_cell? w _ hw118_2)).trans hw118_2), ((HB.out.cell (World.block_lt_of_cell? w _ hw118_3)).trans hw118_3), ((HB.out.cell (World.block_lt_of_cell? w _ hw119_0)).trans hw119_0), ((HB.out.cell (World.block_lt_of_cell? w _ hw119_1)).trans hw119_1), ((HB.out.cell (World.block_lt_of_cell? w _ hw119_2)).trans hw119_2), ((HB.out.cell (World.block_lt_of_cell? w _ hw119_3)).trans hw119_3), ((HB.out.cell (World.block_lt_of_cell? w _ hw120_0)).trans hw120_0), ((HB.out.cell (World.block_lt_of_cell? w _ hw120_1)).trans hw120_1), ((HB.out.cell (World.block_lt_of_cell? w _ hw120_2)).trans hw120_2), ((HB.out.cell (World.block_lt_of_cell? w _ hw120_3)).trans hw120_3)⟩ (fun hHeld => ?_)
                    clear hK K
                    refine norm_ (a' := ?_) ?_ ?_
                    rotate_left
                    ·show Act.put _ (some 13) _ = _
                     simp only [Act.put, List.setIfInBounds_toArray, List.set_cons_zero, List.set_cons_succ, i64_w, i32_w]
                     rfl
                    refine one_ (i := 17) (N := none) #[true, true, true, true, true, true, true, true, true, true, true, true, true, true, true, true, true, true] rfl rfl (one_of HT_.out (by kernel_rfl)) (by decide) (fun K hK => ?_)
                    have hs41 : w40.cell? ⟨gb121, 0, none⟩ = some (.int .i64 0) := (blk_cell BK121.out 0).trans rfl
                    have hfs41 := blk_frozen BK121.out 0
                    have hs42 : w40.cell? ⟨gb121, 1, none⟩ = some (.bool false) := (blk_cell BK121.out 1).trans rfl
                    have hfs42 := blk_frozen BK121.out 1
                    have hs43 : w40.cell? ⟨gb121, 2, none⟩ = some (.string (⟨#[]⟩ : ByteArray)) := (blk_cell BK121.out 2).trans rfl
                    have hfs43 := blk_frozen BK121.out 2
                    have hs44 : w40.cell? ⟨gb121, 3, none⟩ = some (.slice none 0 0) := (blk_cell BK121.out 3).trans rfl
                    have hfs44 := blk_frozen BK121.out 3
                    refine skip_ (w1 := ?_) (by rfl) rfl ?_ ?_
                    rotate_left
                    ·go_simp
                     rfl
                    refine hK.out _ _ ⟨((cell_far (p := ⟨gb121, _, none⟩) (by exact Nat.ne_of_lt (Nat.lt_of_lt_of_le (by have := World.block_lt_of_cell? _ _ hw118_0; first | rwa [add_block] at this | exact this) GW121.out)) _).trans (((cell_far (p := ⟨gb121, _, none⟩) (by exact Nat.ne_of_lt (Nat.lt_of_lt_of_le (by have := World.block_lt_of_cell? _ _ hw118_0; first | rwa [add_block] at this | exact this) GW121.out)) _).trans (((cell_far (p := ⟨gb121, _, none⟩) (by exact Nat.ne_of_lt (Nat.lt_of_lt_of_le (by have := World.block_lt_of_cell? _ _ hw118_0; first | rwa [add_block] at this | exact this) GW121.out)) _).trans (((cell_far (p := ⟨gb121, _, none⟩) (by exact Nat.ne_of_lt (Nat.lt_of_lt_of_le (by have := World.block_lt_of_cell? _ _ hw118_0; first | rwa [add_block] at this | exact this) GW121.out)) _).trans (hHeld.1)))))))), ((cell_far (p := ⟨gb121, _, none⟩) (by exact Nat.ne_of_lt (Nat.lt_of_lt_of_le (by have := World.block_lt_of_cell? _ _ hw118_1; first | rwa [add_block] at this | exact this) GW121.out)) _).trans (((cell_far (p := ⟨gb121, _, none⟩) (by exact Nat.ne_of_lt (Nat.lt_of_lt_of_le (by have := World.block_lt_of_cell? _ _ hw118_1; first | rwa [add_block] at this | exact this) GW121.out)) _).trans (((cell_far (p := ⟨gb121, _, none⟩) (by exact Nat.ne_of_lt (Nat.lt_of_lt_of_le (by have := World.block_lt_of_cell? _ _ hw118_1; first | rwa [add_block] at this | exact this) GW121.out)) _).trans (((cell_far (p := ⟨gb121, _, none⟩) (by exact Nat.ne_of_lt (Nat.lt_of_lt_of_le (by have := World.block_lt_of_cell? _ _ hw118_1; first | rwa [add_block] at this | exact this) GW121.out)) _).trans (hHeld.2.1)))))))), ((cell_far (p := ⟨gb121, _, none⟩) (by exact Nat.ne_of_lt (Nat.lt_of_lt_of_le (by have := World.block_lt_of_cell? _ _ hw118_2; first | rwa [add_block] at this | exact this) GW121.out)) _).trans (((cell_far (p := ⟨gb121, _, none⟩) (by exact Nat.ne_of_lt (Nat.lt_of_lt_of_le (by have := World.block_lt_of_cell? _ _ hw118_2; first | rwa [add_block] at this | exact this) GW121.out)) _).trans (((cell_far (p := ⟨gb121, _, none⟩) (by exact Nat.ne_of_lt (Nat.lt_of_lt_of_le (by have := World.block_lt_of_cell? _ _ hw118_2; first | rwa [add_block] at this | exact this) GW121.out)) _).trans (((cell_far (p := ⟨gb121, _, none⟩) (by exact Nat.ne_of_lt (Nat.lt_of_lt_of_le (by have := World.block_lt_of_cell? _ _ hw118_2; first | rwa [add_block] at this | exact this) GW121.out)) _).trans (hHeld.2.2.1)))))))), ((cell_far (p := ⟨gb121, _, none⟩) (by exact Nat.ne_of_lt (Nat.lt_of_lt_of_le (by have := World.block_lt_of_cell? _ _ hw118_3; first | rwa [add_block] at this | exact this) GW121.out)) _).trans (((cell_far (p := ⟨gb121, _, none⟩) (by exact Nat.ne_of_lt (Nat.lt_of_lt_of_le (by have := World.block_lt_of_cell? _ _ hw118_3; first | rwa [add_block] at this | exact this) GW121.out)) _).trans (((cell_far (p := ⟨gb121, _, none⟩) (by exact Nat.ne_of_lt (Nat.lt_of_lt_of_le (by have := World.block_lt_of_cell? _ _ hw118_3; first | rwa [add_block] at this | exact this) GW121.out)) _).trans (((cell_far (p := ⟨gb121, _, none⟩) (by exact Nat.ne_of_lt (Nat.lt_of_lt_of_le (by have := World.block_lt_of_cell? _ _ hw118_3; first | rwa [add_block] at this | exact this) GW121.out)) _).trans (hHeld.2.2.2.1)))))))), ((cell_far (p := ⟨gb121, _, none⟩) (by exact Nat.ne_of_lt (Nat.lt_of_lt_of_le (by have := World.block_lt_of_cell? _ _ hw119_0; first | rwa [add_block] at this | exact this) GW121.out)) _).trans (((cell_far (p := ⟨gb121, _, none⟩) (by exact Nat.ne_of_lt (Nat.lt_of_lt_of_le (by have := World.block_lt_of_cell? _ _ hw119_0; first | rwa [add_block] at this | exact this) GW121.out)) _).trans (((cell_far (p := ⟨gb121, _, none⟩) (by exact Nat.ne_of_lt (Nat.lt_of_lt_of_le (by have := World.block_lt_of_cell? _ _ hw119_0; first | rwa [add_block] at this | exact this) GW121.out)) _).trans (((cell_far (p := ⟨gb121, _, none⟩) (by exact Nat.ne_of_lt (Nat.lt_of_lt_of_le (by have := World.block_lt_of_cell? _ _ hw119_0; first | rwa [add_block] at this | exact this) GW121.out)) _).trans (hHeld.2.2.2.2.1)))))))), ((cell_far (p := ⟨gb121, _, none⟩) (by exact Nat.ne_of_lt (Nat.lt_of_lt_of_le (by have := World.block_lt_of_cell? _ _ hw119_1; first | rwa [add_block] at this | exact this) GW121.out)) _).trans (((cell_far (p := ⟨gb121, _, none⟩) (by exact Nat.ne_of_lt (Nat.lt_of_lt_of_le (by have := World.block_lt_of_cell? _ _ hw119_1; first | rwa [add_block] at this | exact this) GW121.out)) _).trans (((cell_far (p := ⟨gb121, _, none⟩) (by exact Nat.ne_of_lt (Nat.lt_of_lt_of_le (by have := World.block_lt_of_cell? _ _ hw119_1; first | rwa [add_block] at this | exact this) GW121.out)) _).trans (((cell_far (p := ⟨gb121, _, none⟩) (by exact Nat.ne_of_lt (Nat.lt_of_lt_of_le (by have := World.block_lt_of_cell? _ _ hw119_1; first | rwa [add_block] at this | exact this) GW121.out)) _).trans (hHeld.2.2.2.2.2.1)))))))), ((cell_far (p := ⟨gb121, _, none⟩) (by exact Nat.ne_of_lt (Nat.lt_of_lt_of_le (by have := World.block_lt_of_cell? _ _ hw119_2; first | rwa [add_block] at this | exact this) GW121.out)) _).trans (((cell_far (p := ⟨gb121, _, none⟩) (by exact Nat.ne_of_lt (Nat.lt_of_lt_of_le (by have := World.block_lt_of_cell? _ _ hw119_2; first | rwa [add_block] at this | exact this) GW121.out)) _).trans (((cell_far (p := ⟨gb121, _, none⟩) (by exact Nat.ne_of_lt (Nat.lt_of_lt_of_le (by have := World.block_lt_of_cell? _ _ hw119_2; first | rwa [add_block] at this | exact this) GW121.out)) _).trans (((cell_far (p := ⟨gb121, _, none⟩) (by exact Nat.ne_of_lt (Nat.lt_of_lt_of_le (by have := World.block_lt_of_cell? _ _ hw119_2; first | rwa [add_block] at this | exact this) GW121.out)) _).trans (hHeld.2.2.2.2.2.2.1)))))))), ((cell_far (p := ⟨gb121, _, none⟩) (by exact Nat.ne_of_lt (Nat.lt_of_lt_of_le (by have := World.block_lt_of_cell? _ _ hw119_3; first | rwa [add_block] at this | exact this) GW121.out)) _).trans (((cell_far (p := ⟨gb121, _, none⟩) (by exact Nat.ne_of_lt (Nat.lt_of_lt_of_le (by have := World.block_lt_of_cell? _ _ hw119_3; first | rwa [add_block] at this | exact this) GW121.out)) _).trans (((cell_far (p := ⟨gb121, _, none⟩) (by exact Nat.ne_of_lt (Nat.lt_of_lt_of_le (by have := World.block_lt_of_cell? _ _ hw119_3; first | rwa [add_block] at this | exact this) GW121.out)) _).trans (((cell_far (p := ⟨gb121, _, none⟩) (by exact Nat.ne_of_lt (Nat.lt_of_lt_of_le (by have := World.block_lt_of_cell? _ _ hw119_3; first | rwa [add_block] at this | exact this) GW121.out)) _).trans (hHeld.2.2.2.2.2.2.2.1)))))))), ((cell_far (p := ⟨gb121, _, none⟩) (by exact Nat.ne_of_lt (Nat.lt_of_lt_of_le (by have := World.block_lt_of_cell? _ _ hw120_0; first | rwa [add_block] at this | exact this) GW121.out)) _).trans (((cell_far (p := ⟨gb121, _, none⟩) (by exact Nat.ne_of_lt (Nat.lt_of_lt_of_le (by have := World.block_lt_of_cell? _ _ hw120_0; first | rwa [add_block] at this | exact this) GW121.out)) _).trans (((cell_far (p := ⟨gb121, _, none⟩) (by exact Nat.ne_of_lt (Nat.lt_of_lt_of_le (by have := World.block_lt_of_cell? _ _ hw120_0; first | rwa [add_block] at this | exact this) GW121.out)) _).trans (((cell_far (p := ⟨gb121, _, none⟩) (by exact Nat.ne_of_lt (Nat.lt_of_lt_of_le (by have := World.block_lt_of_cell? _ _ hw120_0; first | rwa [add_block] at this | exact this) GW121.out)) _).trans (hHeld.2.2.2.2.2.2.2.2.1)))))))), ((cell_far (p := ⟨gb121, _, none⟩) (by exact Nat.ne_of_lt (Nat.lt_of_lt_of_le (by have := World.block_lt_of_cell? _ _ hw120_1; first | rwa [add_block] at this | exact this) GW121.out)) _).trans (((cell_far (p := ⟨gb121, _, none⟩) (by exact Nat.ne_of_lt (Nat.lt_of_lt_of_le (by have := World.block_lt_of_cell? _ _ hw120_1; first | rwa [add_block] at this | exact this) GW121.out)) _).trans (((cell_far (p := ⟨gb121, _, none⟩) (by exact Nat.ne_of_lt (Nat.lt_of_lt_of_le (by have := World.block_lt_of_cell? _ _ hw120_1; first | rwa [add_block] at this | exact this) GW121.out)) _).trans (((cell_far (p := ⟨gb121, _, none⟩) (by exact Nat.ne_of_lt (Nat.lt_of_lt_of_le (by have := World.block_lt_of_cell? _ _ hw120_1; first | rwa [add_block] at this | exact this) GW121.out)) _).trans (hHeld.2.2.2.2.2.2.2.2.2.1)))))))), ((cell_far (p := ⟨gb121, _, none⟩) (by exact Nat.ne_of_lt (Nat.lt_of_lt_of_le (by have := World.block_lt_of_cell? _ _ hw120_2; first | rwa [add_block] at this | exact this) GW121.out)) _).trans (((cell_far (p := ⟨gb121, _, none⟩) (by exact Nat.ne_of_lt (Nat.lt_of_lt_of_le (by have := World.block_lt_of_cell? _ _ hw120_2; first | rwa [add_block] at this | exact this) GW121.out)) _).trans (((cell_far (p := ⟨gb121, _, none⟩) (by exact Nat.ne_of_lt (Nat.lt_of_lt_of_le (by have := World.block_lt_of_cell? _ _ hw120_2; first | rwa [add_block] at this | exact this) GW121.out)) _).trans (((cell_far (p := ⟨gb121, _, none⟩) (by exact Nat.ne_of_lt (Nat.lt_of_lt_of_le (by have := World.block_lt_of_cell? _ _ hw120_2; first | rwa [add_block] at this | exact this) GW121.out)) _).trans (hHeld.2.2.2.2.2.2.2.2.2.2.1)))))))), ((cell_far (p := ⟨gb121, _, none⟩) (by exact Nat.ne_of_lt (Nat.lt_of_lt_of_le (by have := World.block_lt_of_cell? _ _ hw120_3; first | rwa [add_block] at this | exact this) GW121.out)) _).trans (((cell_far (p := ⟨gb121, _, none⟩) (by exact Nat.ne_of_lt (Nat.lt_of_lt_of_le (by have := World.block_lt_of_cell? _ _ hw120_3; first | rwa [add_block] at this | exact this) GW121.out)) _).trans (((cell_far (p := ⟨gb121, _, none⟩) (by exact Nat.ne_of_lt (Nat.lt_of_lt_of_le (by have := World.block_lt_of_cell? _ _ hw120_3; first | rwa [add_block] at this | exact this) GW121.out)) _).trans (((cell_far (p := ⟨gb121, _, none⟩) (by exact Nat.ne_of_lt (Nat.lt_of_lt_of_le (by have := World.block_lt_of_cell? _ _ hw120_3; first | rwa [add_block] at this | exact this) GW121.out)) _).trans (hHeld.2.2.2.2.2.2.2.2.2.2.2))))))))⟩ (fun hHeld => ?_)
                    clear hK K
                    refine done_ (done_of HT_.out (by kernel_rfl)) ?_
                    have hcz45_0 : w40.cell? ⟨gb121, 0, none⟩ = some (.int .i64 0) := (blk_cell BK121.out 0).trans rfl
                    have hcz45_1 : w40.cell? ⟨gb121, 1, none⟩ = some (.bool false) := (blk_cell BK121.out 1).trans rfl
                    have hcz45_2 : w40.cell? ⟨gb121, 2, none⟩ = some (.string (⟨#[]⟩ : ByteArray)) := (blk_cell BK121.out 2).trans rfl
                    have hcz45_3 : w40.cell? ⟨gb121, 3, none⟩ = some (.slice none 0 0) := (blk_cell BK121.out 3).trans rfl
                    have hfz45_0 := blk_frozen BK121.out 0
                    have hfz45_1 := blk_frozen BK121.out 1
                    have hfz45_2 := blk_frozen BK121.out 2
                    have hfz45_3 := blk_frozen BK121.out 3
                    try go_wp2_with (first | ((with_reducible refine gate_callee (f := 32) rfl ?_); refine goesL_ (some 89) rfl rfl Tryd.func32 (by kernel_rfl) rfl #[.agg #[.int .i64 ((rd_T29 l0 x1_1).f1), .bool ((rd_T29 l0 x1_1).f2), .string ((rd_T29 l0 x1_1).f3), .slice none 0 0]] rfl (by (try simp only [List.map_toArray, List.map_cons, List.map_nil]); first | done | rfl | (simp only [List.length_drop, List.length_take]; rfl)) ?_; (refine (depotref06_Own.calls ((rd_T29 l0 x1_1).f1) ((rd_T29 l0 x1_1).f2) ((rd_T29 l0 x1_1).f3) _ _ ([] : List (S63)) t122 t123 _ ?side1 ?side2 A31.out).mono ?_); (case side1 => exact Kd.C_nil _ _); (case side2 => exact Nat.le_refl _); rintro e w46 ⟨rfl, hb⟩; refine ⟨_, rfl, ?_⟩; have n0_ := Aside0.mk (Kd.R_below (by (with_reducible repeat (first | apply Kd.R_alloc | apply Kd.R_drewN | apply Kd.R_drew)); exact (Kd.R_mono (Kd.R_far (p := ⟨gb121, 3, none⟩) (Kd.R_far (p := ⟨gb121, 2, none⟩) (Kd.R_far (p := ⟨gb121, 1, none⟩) (Kd.R_far (p := ⟨gb121, 0, none⟩) (Kd.R_types HO_8.out BK121.out (by decide)) (fun _ hk => hk.2) (.int .i64 ((rd_T29 l0 x1_1).f1))) (fun _ hk => hk.2) (.bool ((rd_T29 l0 x1_1).f2))) (fun _ hk => hk.2) (.string ((rd_T29 l0 x1_1).f3))) (fun _ hk => hk.2) (.slice none 0 0)) (fun _ h_ => h_.1))) hb); have n1_ := Aside0.mk (Kd.R_below (by (with_reducible repeat (first | apply Kd.R_alloc | apply Kd.R_drewN | apply Kd.R_drew)); exact (Kd.R_mono (Kd.R_far (p := ⟨gb121, 3, none⟩) (Kd.R_far (p := ⟨gb121, 2, none⟩) (Kd.R_far (p := ⟨gb121, 1, none⟩) (Kd.R_far (p := ⟨gb121, 0, none⟩) (Kd.R_types HO_9.out BK121.out (by decide)) (fun _ hk => hk.2) (.int .i64 ((rd_T29 l0 x1_1).f1))) (fun _ hk => hk.2) (.bool ((rd_T29 l0 x1_1).f2))) (fun _ hk => hk.2) (.string ((rd_T29 l0 x1_1).f3))) (fun _ hk => hk.2) (.slice none 0 0)) (fun _ h_ => h_.1))) hb); have n2_ := Aside0.mk (blk_below (g := gb121) (o := .cells #[.int .i64 ((rd_T29 l0 x1_1).f1), .bool ((rd_T29 l0 x1_1).f2), .string ((rd_T29 l0 x1_1).f3), .slice none 0 0] 32 (0, 0)) (by (with_reducible repeat (first | refine blk_drewN ?_ _ | refine blk_drew ?_ | refine blk_alloc ?_ _)); refine blk_put (cs := #[.int .i64 ((rd_T29 l0 x1_1).f1), .bool ((rd_T29 l0 x1_1).f2), .string ((rd_T29 l0 x1_1).f3), .slice none 0 0]) ?_ 3 _ rfl; (with_reducible repeat (first | refine blk_drewN ?_ _ | refine blk_drew ?_ | refine blk_alloc ?_ _)); refine blk_put (cs := #[.int .i64 ((rd_T29 l0 x1_1).f1), .bool ((rd_T29 l0 x1_1).f2), .string (⟨#[]⟩ : ByteArray), .slice none 0 0]) ?_ 2 _ rfl; (with_reducible repeat (first | refine blk_drewN ?_ _ | refine blk_drew ?_ | refine blk_alloc ?_ _)); refine blk_put (cs := #[.int .i64 ((rd_T29 l0 x1_1).f1), .bool false, .string (⟨#[]⟩ : ByteArray), .slice none 0 0]) ?_ 1 _ rfl; (with_reducible repeat (first | refine blk_drewN ?_ _ | refine blk_drew ?_ | refine blk_alloc ?_ _)); refine blk_put (cs := #[.int .i64 0, .bool false, .string (⟨#[]⟩ : ByteArray), .slice none 0 0]) ?_ 0 _ rfl; (with_reducible repeat (first | refine blk_drewN ?_ _ | refine blk_drew ?_ | refine blk_alloc ?_ _)); exact BK121.out) hb); have n3_ := Aside0.mk (below_step (by repeat (first | (with_reducible first | exact HB.out | apply below_alloc | apply pw_below_drewN | apply below_drew1 | refine below_set ?_ GE121.out) | exact HB.out)) hb); clear HO_8; clear HO_9; clear BK121; clear HB; have HO_8 := n0_; have HO_9 := n1_; have BK121 := n2_; have HB := n3_; clear n0_ n1_ n2_ n3_; (try clear hb); (try clear hb2); (try clear hk); (try clear hi); have p124 : 0 ≤ ((ji33) : Int) := of_decide_eq_true (by first | (with_reducible assumption) | assumption); have q124 : (ji33) < (l0.length : Int) := of_decide_eq_true (by first | (with_reducible assumption) | assumption); obtain ⟨ad124, e124, hx124_0, hx124_1, hx124_2, hx124_3⟩ := at_T29 HR0.out (ji33) p124 q124; obtain rfl : ad108 = ad124 := (by injection e124); replace hx124_0 := (HB.out.cell (World.block_lt_of_cell? w _ hx124_0)).trans hx124_0; replace hx124_1 := (HB.out.cell (World.block_lt_of_cell? w _ hx124_1)).trans hx124_1; replace hx124_2 := (HB.out.cell (World.block_lt_of_cell? w _ hx124_2)).trans hx124_2; replace hx124_3 := (HB.out.cell (World.block_lt_of_cell? w _ hx124_3)).trans hx124_3; replace p124 := eq_true p124; replace q124 := eq_true q124) | ((with_reducible refine gate_callee (f := 33) rfl ?_); refine goesL_ (some 109) rfl rfl Tryd.func33 (by kernel_rfl) rfl #[.slice (some ad108) l0.length c0, .int .i64 (wrap64 (x1_1 + 1)), .slice (some ad115) t109.length co19] rfl (by (try simp only [List.map_toArray, List.map_cons, List.map_nil]); first | done | rfl | (simp only [List.length_drop, List.length_take]; rfl)) ?_; (with_reducible refine (ih kj17 (by have := HK1.out; have := HJ6.out; have := HJ17.out; omega) _ _ l0 (wrap64 (x1_1 + 1)) _ _ t109 t125 t126 _ ?side1 ?side2 ?side3 ?side4 A37.out).mono ?_); (case side1 => repeat (first | exact (Kd.C_below HR0.out HB.out) | (with_reducible refine Kd.C_alloc ?_ _) | (with_reducible refine Kd.C_drewN ?_ _) | (with_reducible refine Kd.C_drew ?_))); (case side2 => exact HC0.out); (case side3 => repeat (first | exact (Kd.R_reads' HO_9.out).2.2 | (with_reducible refine Kd.C_alloc ?_ _) | (with_reducible refine Kd.C_drewN ?_ _) | (with_reducible refine Kd.C_drew ?_))); (case side4 => exact (Kd.R_reads' HO_9.out).2.1); rintro e w47 ⟨v127, rfl, ho0, hb⟩; refine ⟨_, rfl, ?_⟩; have n0_ := Aside0.mk (Kd.R_elder' (by (with_reducible repeat (first | apply Kd.R_alloc | apply Kd.R_drewN | apply Kd.R_drew)); exact HO_8.out) (Kd.R_base ho0) hb); have n1_ := Aside0.mk (Kd.R_below (by (with_reducible repeat (first | apply Kd.R_alloc | apply Kd.R_drewN | apply Kd.R_drew)); exact HO_9.out) hb); have n2_ := Aside0.mk (Kd.R_lower (Kd.R_new' ho0 (Kd.R_lt (by (with_reducible repeat (first | apply Kd.R_alloc | apply Kd.R_drewN | apply Kd.R_drew)); exact HO_8.out))) (below_size (by repeat (first | (with_reducible first | exact HB.out | apply below_alloc | apply pw_below_drewN | apply below_drew1 | refine below_set ?_ GE121.out) | exact HB.out)))); have n3_ := Aside0.mk (blk_below (g := gb121) (o := .cells #[.int .i64 ((rd_T29 l0 x1_1).f1), .bool ((rd_T29 l0 x1_1).f2), .string ((rd_T29 l0 x1_1).f3), .slice none 0 0] 32 (0, 0)) (by (with_reducible repeat (first | refine blk_drewN ?_ _ | refine blk_drew ?_ | refine blk_alloc ?_ _)); exact BK121.out) hb); have n4_ := Aside0.mk (below_step (by repeat (first | (with_reducible first | exact HB.out | apply below_alloc | apply pw_below_drewN | apply below_drew1 | refine below_set ?_ GE121.out) | exact HB.out)) hb); clear HO_8; clear HO_9; clear BK121; clear HB; have HO_8 := n0_; have HO_9 := n1_; have HO128 := n2_; have BK121 := n3_; have HB := n4_; clear n0_ n1_ n2_ n3_ n4_; (try clear hb); (try clear hb2); (try clear hk); (try clear hi); (try clear ho0); obtain ⟨Ao48, co48, eo48⟩ := Kd.R_slice HO128.out; subst eo48; have hcz49_0 : w47.cell? ⟨gb121, 0, none⟩ = some (.int .i64 ((rd_T29 l0 x1_1).f1)) := (blk_cell BK121.out 0).trans rfl; have hcz49_1 : w47.cell? ⟨gb121, 1, none⟩ = some (.bool ((rd_T29 l0 x1_1).f2)) := (blk_cell BK121.out 1).trans rfl; have hcz49_2 : w47.cell? ⟨gb121, 2, none⟩ = some (.string ((rd_T29 l0 x1_1).f3)) := (blk_cell BK121.out 2).trans rfl; have hcz49_3 : w47.cell? ⟨gb121, 3, none⟩ = some (.slice none 0 0) := (blk_cell BK121.out 3).trans rfl; have hfz49_0 := blk_frozen BK121.out 0; have hfz49_1 := blk_frozen BK121.out 1; have hfz49_2 := blk_frozen BK121.out 2; have hfz49_3 := blk_frozen BK121.out 3) | ((with_reducible refine gate_store (t := 30) (p := 112) rfl ?_); refine store_event (t := 30) (p := 112) (v := ?vo_w50) (w1 := (w47.setCell ⟨gb121, 3, none⟩ (.slice Ao48 t125.length co48))) ?hg ?ho ?hn ?hr ?_; (case ho => rfl); (case hg => rfl); (case hn => rfl); (case hr => first | (go_simp; done) | (go_simp; rfl)); intro w50 hw; have n0_ : Aside0 (Kd.R k63 63 w50 w.heap.size (fun k_ => some k_ ≠ (.slice Ao48 t125.length co48 : Value).ownBlock) u8 x8_1) := ⟨(by rw [hw]; exact (by (with_reducible repeat (first | apply Kd.R_alloc | apply Kd.R_drewN | apply Kd.R_drew)); exact Kd.R_mono (Kd.R_far (p := ⟨gb121, 3, none⟩) (Kd.R_types HO_8.out BK121.out (by decide)) (fun _ hk => hk.2) (.slice Ao48 t125.length co48)) (fun _ hk => hk.1.2)))⟩; have n1_ : Aside0 (Kd.R Kd.string 9 w50 w.heap.size (fun _ => True) (.slice (some ad115) t109.length co19) t109) := ⟨(by rw [hw]; exact (by (with_reducible repeat (first | apply Kd.R_alloc | apply Kd.R_drewN | apply Kd.R_drew)); exact Kd.R_mono (Kd.R_far (p := ⟨gb121, 3, none⟩) (Kd.R_types HO_9.out BK121.out (by decide)) (fun _ hk => hk.2) (.slice Ao48 t125.length co48)) (fun _ hk => trivial)))⟩; have n2_ : Aside0 (Kd.R k63 63 w50 w.heap.size (fun k_ => some k_ ≠ (u8 : Value).ownBlock) (.slice Ao48 t125.length co48) t125) := ⟨(by rw [hw]; exact (by (with_reducible repeat (first | apply Kd.R_alloc | apply Kd.R_drewN | apply Kd.R_drew)); exact Kd.R_mono (Kd.R_far (p := ⟨gb121, 3, none⟩) (Kd.R_types HO128.out BK121.out (by decide)) (fun _ hk => hk.2) (.slice Ao48 t125.length co48)) (fun _ hk => hk.1.2)))⟩; have n3_ : Aside0 (w50.heap[gb121]? = some (.cells #[.int .i64 ((rd_T29 l0 x1_1).f1), .bool ((rd_T29 l0 x1_1).f2), .string ((rd_T29 l0 x1_1).f3), .slice Ao48 t125.length co48] 32 (0, 0))) := ⟨(by rw [hw]; exact (by (with_reducible repeat (first | refine blk_drewN ?_ _ | refine blk_drew ?_ | refine blk_alloc ?_ _)); refine blk_put (cs := #[.int .i64 ((rd_T29 l0 x1_1).f1), .bool ((rd_T29 l0 x1_1).f2), .string ((rd_T29 l0 x1_1).f3), .slice none 0 0]) ?_ 3 _ rfl; (with_reducible repeat (first | refine blk_drewN ?_ _ | refine blk_drew ?_ | refine blk_alloc ?_ _)); exact BK121.out))⟩; have n4_ : Aside0 (Below w.heap.size w w50) := ⟨(by rw [hw]; exact (by repeat (first | (with_reducible first | exact HB.out | apply below_alloc | apply pw_below_drewN | apply below_drew1 | refine below_set ?_ GE121.out) | exact HB.out)))⟩; clear hw; clear HO_8; clear HO_9; clear HO128; clear BK121; clear HB; have HO_8 := n0_; have HO_9 := n1_; have HO128 := n2_; have BK121 := n3_; have HB := n4_; clear n0_ n1_ n2_ n3_ n4_; have hcz51_0 : w50.cell? ⟨gb121, 0, none⟩ = some (.int .i64 ((rd_T29 l0 x1_1).f1)) := (blk_cell BK121.out 0).trans rfl; have hcz51_1 : w50.cell? ⟨gb121, 1, none⟩ = some (.bool ((rd_T29 l0 x1_1).f2)) := (blk_cell BK121.out 1).trans rfl; have hcz51_2 : w50.cell? ⟨gb121, 2, none⟩ = some (.string ((rd_T29 l0 x1_1).f3)) := (blk_cell BK121.out 2).trans rfl; have hcz51_3 : w50.cell? ⟨gb121, 3, none⟩ = some (.slice Ao48 t125.length co48) := (blk_cell BK121.out 3).trans rfl; have hfz51_0 := blk_frozen BK121.out 0; have hfz51_1 := blk_frozen BK121.out 1; have hfz51_2 := blk_frozen BK121.out 2; have hfz51_3 := blk_frozen BK121.out 3) | ((with_reducible refine gate_builtin (b := .append) (xs := #[.tmp 113, .tmp 117]) rfl ?_); (try (refine gate_guard (by rfl) ?_; dsimp only)); at_builtin; refine Kd.R_append k63 (w0 := w) w.heap.size rfl (.tmp 113) (.tmp 117) 30 63 (.agg #[(.string ⟨#[]⟩), (.int .i64 0), (.bool false), (.string ⟨#[]⟩), (.slice none 0 0)]) 72 rfl Tryd.underlying30 info63 rfl (by decide) (by omega) u8 x8_1 (⟨(rdOf ByteArray.empty t109 (ji15)), (rd_T29 l0 x1_1).f1, (rd_T29 l0 x1_1).f2, (rd_T29 l0 x1_1).f3, t125⟩ : S63) [.string (rdOf ByteArray.empty t109 (ji15)), .int .i64 ((rd_T29 l0 x1_1).f1), .bool ((rd_T29 l0 x1_1).f2), .string ((rd_T29 l0 x1_1).f3), .slice Ao48 t125.length co48] (fun _ => True) (fun k_ => ((fun _ => True)) k_ ∧ some k_ ≠ (u8 : Value).ownBlock) rfl rfl ?aP (fun _ hk => hk) ?aF ?aO ?aB ?aS ?aL ?_; (case aP => exact k63_mkM _ _ _ (⟨(rdOf ByteArray.empty t109 (ji15)), (rd_T29 l0 x1_1).f1, (rd_T29 l0 x1_1).f2, (rd_T29 l0 x1_1).f3, t125⟩ : S63) (Kd.R_mono (HO128.out) (fun k_ hk => ⟨trivial, hk⟩))); (case aB => exact (by repeat (first | (with_reducible first | exact HB.out | apply below_alloc | apply pw_below_drewN | apply below_drew1 | refine below_set ?_ GE121.out) | exact HB.out))); (case aF => exact (fun _ _ => trivial)); (case aO => exact (by (with_reducible repeat (first | apply Kd.R_alloc | apply Kd.R_drewN | apply Kd.R_drew)); exact Kd.R_mono HO_8.out (fun _ hk => trivial))); (case aS => exact (below_size (by repeat (first | (with_reducible first | exact HB.out | apply below_alloc | apply pw_below_drewN | apply below_drew1 | refine below_set ?_ GE121.out) | exact HB.out)))); (case aL => have := LMc38.out; omega); intro v130 w52 ho hb hg hat; rw [← Ny129.out] at ho; have n0_ := Aside0.mk (Kd.R_over' (by (with_reducible repeat (first | apply Kd.R_alloc | apply Kd.R_drewN | apply Kd.R_drew)); exact HO_9.out) (Kd.R_typed (by (with_reducible repeat (first | apply Kd.R_alloc | apply Kd.R_drewN | apply Kd.R_drew)); exact HO_8.out)) (by decide) hg); have n1_ := Aside0.mk (blk_grown (g := gb121) (o := .cells #[.int .i64 ((rd_T29 l0 x1_1).f1), .bool ((rd_T29 l0 x1_1).f2), .string ((rd_T29 l0 x1_1).f3), .slice Ao48 t125.length co48] 32 (0, 0)) (by (with_reducible repeat (first | refine blk_drewN ?_ _ | refine blk_drew ?_ | refine blk_alloc ?_ _)); exact BK121.out) hg (Kd.R_ne HO_8.out BK121.out (by decide))); have n2_ := Aside0.mk (hb); have n3_ := Aside0.mk (ho); clear HO_9; clear BK121; clear HB; clear HO_8; clear HO128; have HO_9 := n0_; have BK121 := n1_; have HB := n2_; have HO131 := n3_; clear n0_ n1_ n2_ n3_; clear ho hb hg hat))
                    go_roundg kj17
                    case measure => have := HK1.out; have := HJ6.out; have := HJ17.out; omega
                    case rel => exact ⟨(t126), (y129), (by first | rfl | (simp; done) | (simp [*]; done)), H', ⟨by have := HK1.out; have := HJ6.out; have := HJ17.out; omega⟩, ⟨by (with_reducible repeat (first | apply Kd.R_alloc | apply Kd.R_drewN | apply Kd.R_drew)); exact HO131.out⟩, ⟨by repeat (first | (with_reducible first | exact HB.out | apply below_alloc | apply pw_below_drewN | apply below_drew1 | refine below_set ?_ GE121.out) | exact HB.out)⟩⟩
                   ·rw [if_neg c38] at H
                    exact absurd H (by simp)
                  ·rw [if_neg c36] at H
                   have c36b0 : (((rd_T29 l0 (ji33)).f1) == 3) = false := beq_eq_false_iff_ne.mpr c36
                   have c36b1 : (((rd_T29 l0 (ji33)).f1) != 3) = true := bne_iff_ne.mpr c36
                   by_cases c53 : x8_1.length < 1954687338268
                   ·rw [if_pos c53] at H
                    have LMc53 := Aside0.mk c53
                    clear c53
                    obtain ⟨y132, hy132⟩ : ∃ y_ : List (S63), y_ = (x8_1 ++ [(⟨(rdOf ByteArray.empty t109 (ji15)), (rd_T29 l0 x1_1).f1, (rd_T29 l0 x1_1).f2, (rd_T29 l0 x1_1).f3, ([] : List (S63))⟩ : S63)]) := ⟨_, rfl⟩
                    replace H : (depotref06_gather.l0 kj17 l0 (wrap64 (x1_1 + 1)) l2 y132) = some (r1, r2) := by first | (rw [hy132]; with_reducible exact H) | (have H2_ := (Option.bind_some _ _).symm.trans H; rw [hy132]; with_reducible exact H2_) | (have H2_ := (Option.bind_some _ _).symm.trans H; with_reducible exact H2_) | with_reducible exact H | (rw [hy132]; exact H) | exact H
                    have Ny132 := Aside0.mk hy132
                    clear hy132
                    have H' := Aside0.mk H
                    clear H
                    try go_wp2
                    have n0_ := Aside0.mk (Kd.R_drew HO_8.out)
                    have n1_ := Aside0.mk (Kd.R_drew HO_9.out)
                    have n2_ := Aside0.mk (below_drew1 HB.out)
                    clear HO_8
                    clear HO_9
                    clear HB
                    have HO_8 := n0_
                    have HO_9 := n1_
                    have HB := n2_
                    clear n0_ n1_ n2_
                    have p118 : 0 ≤ (x1_1 : Int) := of_decide_eq_true (by first | (with_reducible assumption) | assumption)
                    have q118 : x1_1 < (l0.length : Int) := of_decide_eq_true (by first | (with_reducible assumption) | assumption)
                    obtain ⟨ad118, e118, hx118_0, hx118_1, hx118_2, hx118_3⟩ := at_T29 HR0.out x1_1 p118 q118
                    have hw118_3 := hx118_3
                    have hw118_2 := hx118_2
                    have hw118_1 := hx118_1
                    have hw118_0 := hx118_0
                    obtain rfl : ad108 = ad118 := (by injection e118)
                    replace hx118_0 := (HB.out.cell (World.block_lt_of_cell? w _ hx118_0)).trans hx118_0
                    replace hx118_1 := (HB.out.cell (World.block_lt_of_cell? w _ hx118_1)).trans hx118_1
                    replace hx118_2 := (HB.out.cell (World.block_lt_of_cell? w _ hx118_2)).trans hx118_2
                    replace hx118_3 := (HB.out.cell (World.block_lt_of_cell? w _ hx118_3)).trans hx118_3
                    replace p118 := eq_true p118
                    replace q118 := eq_true q118
                    have p119 : 0 ≤ (x1_1 : Int) := of_decide_eq_true (by first | (with_reducible assumption) | assumption)
                    have q119 : x1_1 < (l0.length : Int) := of_decide_eq_true (by first | (with_reducible assumption) | assumption)
                    obtain ⟨ad119, e119, hx119_0, hx119_1, hx119_2, hx119_3⟩ := at_T29 HR0.out x1_1 p119 q119
                    have hw119_3 := hx119_3
                    have hw119_2 := hx119_2
                    have hw119_1 := hx119_1
                    have hw119_0 := hx119_0
                    obtain rfl : ad108 = ad119 := (by injection e119)
                    replace hx119_0 := (HB.out.cell (World.block_lt_of_cell? w _ hx119_0)).trans hx119_0
                    replace hx119_1 := (HB.out.cell (World.block_lt_of_cell? w _ hx119_1)).trans hx119_1
                    replace hx119_2 := (HB.out.cell (World.block_lt_of_cell? w _ hx119_2)).trans hx119_2
                    replace hx119_3 := (HB.out.cell (World.block_lt_of_cell? w _ hx119_3)).trans hx119_3
                    replace p119 := eq_true p119
                    replace q119 := eq_true q119
                    have p120 : 0 ≤ (x1_1 : Int) := of_decide_eq_true (by first | (with_reducible assumption) | assumption)
                    have q120 : x1_1 < (l0.length : Int) := of_decide_eq_true (by first | (with_reducible assumption) | assumption)
                    obtain ⟨ad120, e120, hx120_0, hx120_1, hx120_2, hx120_3⟩ := at_T29 HR0.out x1_1 p120 q120
                    have hw120_3 := hx120_3
                    have hw120_2 := hx120_2
                    have hw120_1 := hx120_1
                    have hw120_0 := hx120_0
                    obtain rfl : ad108 = ad120 := (by injection e120)
                    replace hx120_0 := (HB.out.cell (World.block_lt_of_cell? w _ hx120_0)).trans hx120_0
                    replace hx120_1 := (HB.out.cell (World.block_lt_of_cell? w _ hx120_1)).trans hx120_1
                    replace hx120_2 := (HB.out.cell (World.block_lt_of_cell? w _ hx120_2)).trans hx120_2
                    replace hx120_3 := (HB.out.cell (World.block_lt_of_cell? w _ hx120_3)).trans hx120_3
                    replace p120 := eq_true p120
                    replace q120 := eq_true q120
                    refine start_ (n := 18) (S := fun w' => w'.cell? (ad108.add ((x1_1).toNat * 4)) = some (.string ((rd_T29 l0 x1_1).f0)) ∧ w'.cell? ⟨(ad108.add ((x1_1).toNat * 4)).block, (ad108.add ((x1_1).toNat * 4)).off + 1, none⟩ = some (.int .i64 ((rd_T29 l0 x1_1).f1)) ∧ w'.cell? ⟨(ad108.add ((x1_1).toNat * 4)).block, (ad108.add ((x1_1).toNat * 4)).off + 2, none⟩ = some (.bool ((rd_T29 l0 x1_1).f2)) ∧ w'.cell? ⟨(ad108.add ((x1_1).toNat * 4)).block, (ad108.add ((x1_1).toNat * 4)).off + 3, none⟩ = some (.string ((rd_T29 l0 x1_1).f3)) ∧ w'.cell? (ad108.add ((x1_1).toNat * 4)) = some (.string ((rd_T29 l0 x1_1).f0)) ∧ w'.cell? ⟨(ad108.add ((x1_1).toNat * 4)).block, (ad108.add ((x1_1).toNat * 4)).off + 1, none⟩ = some (.int .i64 ((rd_T29 l0 x1_1).f1)) ∧ w'.cell? ⟨(ad108.add ((x1_1).toNat * 4)).block, (ad108.add ((x1_1).toNat * 4)).off + 2, none⟩ = some (.bool ((rd_T29 l0 x1_1).f2)) ∧ w'.cell? ⟨(ad108.add ((x1_1).toNat * 4)).block, (ad108.add ((x1_1).toNat * 4)).off + 3, none⟩ = some (.string ((rd_T29 l0 x1_1).f3)) ∧ w'.cell? (ad108.add ((x1_1).toNat * 4)) = some (.string ((rd_T29 l0 x1_1).f0)) ∧ w'.cell? ⟨(ad108.add ((x1_1).toNat * 4)).block, (ad108.add ((x1_1).toNat * 4)).off + 1, none⟩ = some (.int .i64 ((rd_T29 l0 x1_1).f1)) ∧ w'.cell? ⟨(ad108.add ((x1_1).toNat * 4)).block, (ad108.add ((x1_1).toNat * 4)).off + 2, none⟩ = some (.bool ((rd_T29 l0 x1_1).f2)) ∧ w'.cell? ⟨(ad108.add ((x1_1).toNat * 4)).block, (ad108.add ((x1_1).toNat * 4)).off + 3, none⟩ = some (.string ((rd_T29 l0 x1_1).f3))) (ds := []) #[false, false, false, false, false, false, false, false, false, false, false, false, false, false, false, false, false, false] (by kernel_rfl) rfl rfl ⟨((HB.out.cell (World.block_lt_of_cell? w _ hw118_0)).trans hw118_0), ((HB.out.cell (World.block_lt_of_cell? w _ hw118_1)).trans hw118_1), ((HB.out.cell (World.block_lt_of_cell? w _ hw118_2)).trans hw118_2), ((HB.out.cell (World.block_lt_of_cell? w _ hw118_3)).trans hw118_3), ((HB.out.cell (World.block_lt_of_cell? w _ hw119_0)).trans hw119_0), ((HB.out.cell (World.block_lt_of_cell? w _ hw119_1)).trans hw119_1), ((HB.out.cell (World.block_lt_of_cell? w _ hw119_2)).trans hw119_2), ((HB.out.cell (World.block_lt_of_cell? w _ hw119_3)).trans hw119_3), ((HB.out.cell (World.block_lt_of_cell? w _ hw120_0)).trans hw120_0), ((HB.out.cell (World.block_lt_of_cell? w _ hw120_1)).trans hw120_1), ((HB.out.cell (World.block_lt_of_cell? w _ hw120_2)).trans hw120_2), ((HB.out.cell (World.block_lt_of_cell? w _ hw120_3)).trans hw120_3)⟩ (fun hHeld => ?_); refine with_tabW depotref06_gather.tab9 depotref06_gather.bits9 (fun HT_ HW_ => ?_)
                    generalize wc.drew = w54 at HO_8 HO_9 HB hx118_0 hx118_1 hx118_2 hx118_3 hx119_0 hx119_1 hx119_2 hx119_3 hx120_0 hx120_1 hx120_2 hx120_3 hHeld ⊢
                    refine pure_ (i := 0) (N := some 71) (v := ?_) (a' := ?_) #[true, false, false, false, false, false, false, false, false, false, false, false, false, false, false, false, false, false] rfl rfl (any_of HT_.out (by kernel_rfl)) (fun _ _ _ h => h) (Or.inl ⟨by rfl, ?_⟩) ?_ ?_
                    rotate_left
                    ·intro w'
                     go_simp
                     with_reducible rfl
                    rotate_left
                    ·simp only [Act.put, List.setIfInBounds_toArray, List.set_cons_zero, List.set_cons_succ, i64_w, i32_w]
                     rfl
                    refine pure_ (i := 1) (N := some 72) (v := ?_) (a' := ?_) #[true, true, false, false, false, false, false, false, false, false, false, false, false, false, false, false, false, false] rfl rfl (any_of HT_.out (by kernel_rfl)) (fun _ _ _ h => h) (Or.inl ⟨by rfl, ?_⟩) ?_ ?_
                    rotate_left
                    ·intro w'
                     go_simp
                     with_reducible rfl
                    rotate_left
                    ·simp only [Act.put, List.setIfInBounds_toArray, List.set_cons_zero, List.set_cons_succ, i64_w, i32_w]
                     rfl
                    refine pure_ (i := 2) (N := some 73) (v := ?_) (a' := ?_) #[true, true, true, false, false, false, false, false, false, false, false, false, false, false, false, false, false, false] rfl rfl (any_of HT_.out (by kernel_rfl)) (fun _ _ _ h => h) (Or.inl ⟨by rfl, ?_⟩) ?_ ?_
                    rotate_left
                    ·intro w'
                     go_simp
                     with_reducible rfl
                    rotate_left
                    ·simp only [Act.put, List.setIfInBounds_toArray, List.set_cons_zero, List.set_cons_succ, i64_w, i32_w]
                     rfl
                    refine pure_ (i := 3) (N := some 74) (v := ?_) (a' := ?_) #[true, true, true, true, false, false, false, false, false, false, false, false, false, false, false, false, false, false] rfl rfl (any_of HT_.out (by kernel_rfl)) (fun _ _ _ h => h) (Or.inl ⟨by rfl, ?_⟩) ?_ ?_
                    rotate_left
                    ·intro w'
                     go_simp
                     with_reducible rfl
                    rotate_left
                    ·simp only [Act.put, List.setIfInBounds_toArray, List.set_cons_zero, List.set_cons_succ, i64_w, i32_w]
                     rfl
                    refine pure_ (i := 5) (N := some 76) (v := ?_) (a' := ?_) #[true, true, true, true, false, true, false, false, false, false, false, false, false, false, false, false, false, false] rfl rfl (any_of HT_.out (by kernel_rfl)) (fun _ _ _ h => h) (Or.inl ⟨by rfl, ?_⟩) ?_ ?_
                    rotate_left
                    ·intro w'
                     go_simp
                     with_reducible rfl
                    rotate_left
                    ·simp only [Act.put, List.setIfInBounds_toArray, List.set_cons_zero, List.set_cons_succ, i64_w, i32_w]
                     rfl
                    refine pure_ (i := 6) (N := some 77) (v := ?_) (a' := ?_) #[true, true, true, true, false, true, true, false, false, false, false, false, false, false, false, false, false, false] rfl rfl (any_of HT_.out (by kernel_rfl)) (fun _ _ _ h => h) (Or.inl ⟨by rfl, ?_⟩) ?_ ?_
                    rotate_left
                    ·intro w'
                     go_simp
                     with_reducible rfl
                    rotate_left
                    ·simp only [Act.put, List.setIfInBounds_toArray, List.set_cons_zero, List.set_cons_succ, i64_w, i32_w]
                     rfl
                    refine pure_ (i := 7) (N := some 78) (v := ?_) (a' := ?_) #[true, true, true, true, false, true, true, true, false, false, false, false, false, false, false, false, false, false] rfl rfl (any_of HT_.out (by kernel_rfl)) (fun _ _ _ h => h) (Or.inl ⟨by rfl, ?_⟩) ?_ ?_
                    rotate_left
                    ·intro w'
                     go_simp
                     with_reducible rfl
                    rotate_left
                    ·simp only [Act.put, List.setIfInBounds_toArray, List.set_cons_zero, List.set_cons_succ, i64_w, i32_w]
                     rfl
                    refine pure_ (i := 8) (N := some 79) (v := ?_) (a' := ?_) #[true, true, true, true, false, true, true, true, true, false, false, false, false, false, false, false, false, false] rfl rfl (any_of HT_.out (by kernel_rfl)) (fun _ _ _ h => h) (Or.inl ⟨by rfl, ?_⟩) ?_ ?_
                    rotate_left
                    ·intro w'
                     go_simp
                     with_reducible rfl
                    rotate_left
                    ·simp only [Act.put, List.setIfInBounds_toArray, List.set_cons_zero, List.set_cons_succ, i64_w, i32_w]
                     rfl
                    refine pure_ (i := 10) (N := some 81) (v := ?_) (a' := ?_) #[true, true, true, true, false, true, true, true, true, false, true, false, false, false, false, false, false, false] rfl rfl (any_of HT_.out (by kernel_rfl)) (fun _ _ _ h => h) (Or.inl ⟨by rfl, ?_⟩) ?_ ?_
                    rotate_left
                    ·intro w'
                     go_simp
                     with_reducible rfl
                    rotate_left
                    ·simp only [Act.put, List.setIfInBounds_toArray, List.set_cons_zero, List.set_cons_succ, i64_w, i32_w]
                     rfl
                    refine pure_ (i := 11) (N := some 82) (v := ?_) (a' := ?_) #[true, true, true, true, false, true, true, true, true, false, true, true, false, false, false, false, false, false] rfl rfl (any_of HT_.out (by kernel_rfl)) (fun _ _ _ h => h) (Or.inl ⟨by rfl, ?_⟩) ?_ ?_
                    rotate_left
                    ·intro w'
                     go_simp
                     with_reducible rfl
                    rotate_left
                    ·simp only [Act.put, List.setIfInBounds_toArray, List.set_cons_zero, List.set_cons_succ, i64_w, i32_w]
                     rfl
                    refine pure_ (i := 12) (N := some 83) (v := ?_) (a' := ?_) #[true, true, true, true, false, true, true, true, true, false, true, true, true, false, false, false, false, false] rfl rfl (any_of HT_.out (by kernel_rfl)) (fun _ _ _ h => h) (Or.inl ⟨by rfl, ?_⟩) ?_ ?_
                    rotate_left
                    ·intro w'
                     go_simp
                     with_reducible rfl
                    rotate_left
                    ·simp only [Act.put, List.setIfInBounds_toArray, List.set_cons_zero, List.set_cons_succ, i64_w, i32_w]
                     rfl
                    refine pure_ (i := 13) (N := some 84) (v := ?_) (a' := ?_) #[true, true, true, true, false, true, true, true, true, false, true, true, true, true, false, false, false, false] rfl rfl (any_of HT_.out (by kernel_rfl)) (fun _ _ _ h => h) (Or.inl ⟨by rfl, ?_⟩) ?_ ?_
                    rotate_left
                    ·intro w'
                     go_simp
                     with_reducible rfl
                    rotate_left
                    ·simp only [Act.put, List.setIfInBounds_toArray, List.set_cons_zero, List.set_cons_succ, i64_w, i32_w]
                     rfl
                    refine take_ (i := 4) (N := some 75) (v := ?_) (a' := ?_) #[true, true, true, true, true, true, true, true, true, false, true, true, true, true, false, false, false, false] rfl rfl (take_ofW HT_.out HW_.out (by kernel_rfl)) (fun _ _ _ h => h) (Or.inl ⟨by rfl, ?_⟩) hHeld ?_ ?_
                    rotate_left
                    ·rintro w' ⟨s0, s1, s2, s3, s4, s5, s6, s7, s8, s9, s10, s11⟩
                     go_simp
                     with_reducible rfl
                    rotate_left
                    ·simp only [Act.put, List.setIfInBounds_toArray, List.set_cons_zero, List.set_cons_succ, i64_w, i32_w]
                     rfl
                    refine take_ (i := 9) (N := some 80) (v := ?_) (a' := ?_) #[true, true, true, true, true, true, true, true, true, true, true, true, true, true, false, false, false, false] rfl rfl (take_ofW HT_.out HW_.out (by kernel_rfl)) (fun _ _ _ h => h) (Or.inl ⟨by rfl, ?_⟩) hHeld ?_ ?_
                    rotate_left
                    ·rintro w' ⟨s0, s1, s2, s3, s4, s5, s6, s7, s8, s9, s10, s11⟩
                     go_simp
                     with_reducible rfl
                    rotate_left
                    ·simp only [Act.put, List.setIfInBounds_toArray, List.set_cons_zero, List.set_cons_succ, i64_w, i32_w]
                     rfl
                    refine take_ (i := 14) (N := some 85) (v := ?_) (a' := ?_) #[true, true, true, true, true, true, true, true, true, true, true, true, true, true, true, false, false, false] rfl rfl (take_ofW HT_.out HW_.out (by kernel_rfl)) (fun _ _ _ h => h) (Or.inl ⟨by rfl, ?_⟩) hHeld ?_ ?_
                    rotate_left
                    ·rintro w' ⟨s0, s1, s2, s3, s4, s5, s6, s7, s8, s9, s10, s11⟩
                     go_simp
                     with_reducible rfl
                    rotate_left
                    ·simp only [Act.put, List.setIfInBounds_toArray, List.set_cons_zero, List.set_cons_succ, i64_w, i32_w]
                     rfl
                    refine pure_ (i := 15) (N := some 86) (v := ?_) (a' := ?_) #[true, true, true, true, true, true, true, true, true, true, true, true, true, true, true, true, false, false] rfl rfl (any_of HT_.out (by kernel_rfl)) (fun _ _ _ h => h) (Or.inl ⟨by rfl, ?_⟩) ?_ ?_
                    rotate_left
                    ·intro w'
                     go_simp
                     with_reducible rfl
                    rotate_left
                    ·simp only [Act.put, List.setIfInBounds_toArray, List.set_cons_zero, List.set_cons_succ, i64_w, i32_w]
                     rfl
                    refine one_ (i := 16) (N := some 13) #[true, true, true, true, true, true, true, true, true, true, true, true, true, true, true, true, true, false] rfl rfl (one_of HT_.out (by kernel_rfl)) (by decide) (fun K hK => ?_)
                    refine box_step ?hg (N := 13) ?hd (cs := #[.int .i64 0, .bool false, .string (⟨#[]⟩ : ByteArray), .slice none 0 0]) (t := 32) ?hr ?_; (case hd => rfl); (case hg => rfl); (case hr => first | (go_simp; done) | (go_simp; rfl))
                    intro gb121 hg w55 hbox hb
                    have n0_ := Aside0.mk (Kd.R_below (by (with_reducible repeat (first | apply Kd.R_alloc | apply Kd.R_drewN | apply Kd.R_drew)); exact HO_8.out) hb)
                    have n1_ := Aside0.mk (Kd.R_below (by (with_reducible repeat (first | apply Kd.R_alloc | apply Kd.R_drewN | apply Kd.R_drew)); exact HO_9.out) hb)
                    have n2_ := Aside0.mk (below_step (by repeat (first | (with_reducible first | exact HB.out | apply below_alloc | apply pw_below_drewN | apply below_drew1) | exact HB.out)) hb)
                    have n3_ := Aside0.mk (hbox)
                    have n4_ := Aside0.mk ((by rw [hg]; exact (below_size (by repeat (first | (with_reducible first | exact HB.out | apply below_alloc | apply pw_below_drewN | apply below_drew1) | exact HB.out))) : w.heap.size ≤ gb121))
                    have n5_ := Aside0.mk ((by rw [hg]; exact (below_size (by repeat (first | (with_reducible first | exact HB.out | apply below_alloc | apply pw_below_drewN | apply below_drew1) | exact HB.out))) : w.heap.size ≤ gb121))
                    clear HO_8
                    clear HO_9
                    clear HB
                    have HO_8 := n0_
                    have HO_9 := n1_
                    have HB := n2_
                    have BK121 := n3_
                    have GW121 := n4_
                    have GE121 := n5_
                    clear n0_ n1_ n2_ n3_ n4_ n5_
                    clear hb hbox hg
                    refine hK.out _ _ ⟨((HB.out.cell (World.block_lt_of_cell? w _ hw118_0)).trans hw118_0), ((HB.out.cell (World.block_lt_of_cell? w _ hw118_1)).trans hw118_1), ((HB.out.cell (World.block_lt_of_cell? w _ hw118_2)).trans hw118_2), ((HB.out.cell (World.block_lt_of_cell? w _ hw118_3)).trans hw118_3), ((HB.out.cell (World.block_lt_of_cell? w _ hw119_0)).trans hw119_0), ((HB.out.cell (World.block_lt_of_cell? w _ hw119_1)).trans hw119_1), ((HB.out.cell (World.block_lt_of_cell? w _ hw119_2)).trans hw119_2), ((HB.out.cell (World.block_lt_of_cell? w _ hw119_3)).trans hw119_3), ((HB.out.cell (World.block_lt_of_cell? w _ hw120_0)).trans hw120_0), ((HB.out.cell (World.block_lt_of_cell? w _ hw120_1)).trans hw120_1), ((HB.out.cell (World.block_lt_of_cell? w _ hw120_2)).trans hw120_2), ((HB.out.cell (World.block_lt_of_cell? w _ hw120_3)).trans hw120_3)⟩ (fun hHeld => ?_)
                    clear hK K
                    refine norm_ (a' := ?_) ?_ ?_
                    rotate_left
                    ·show Act.put _ (some 13) _ = _
                     simp only [Act.put, List.setIfInBounds_toArray, List.set_cons_zero, List.set_cons_succ, i64_w, i32_w]
                     rfl
                    refine one_ (i := 17) (N := none) #[true, true, true, true, true, true, true, true, true, true, true, true, true, true, true, true, true, true] rfl rfl (one_of HT_.out (by kernel_rfl)) (by decide) (fun K hK => ?_)
                    have hs56 : w55.cell? ⟨gb121, 0, none⟩ = some (.int .i64 0) := (blk_cell BK121.out 0).trans rfl
                    have hfs56 := blk_frozen BK121.out 0
                    have hs57 : w55.cell? ⟨gb121, 1, none⟩ = some (.bool false) := (blk_cell BK121.out 1).trans rfl
                    have hfs57 := blk_frozen BK121.out 1
                    have hs58 : w55.cell? ⟨gb121, 2, none⟩ = some (.string (⟨#[]⟩ : ByteArray)) := (blk_cell BK121.out 2).trans rfl
                    have hfs58 := blk_frozen BK121.out 2
                    have hs59 : w55.cell? ⟨gb121, 3, none⟩ = some (.slice none 0 0) := (blk_cell BK121.out 3).trans rfl
                    have hfs59 := blk_frozen BK121.out 3
                    refine skip_ (w1 := ?_) (by rfl) rfl ?_ ?_
                    rotate_left
                    ·go_simp
                     rfl
                    refine hK.out _ _ ⟨((cell_far (p := ⟨gb121, _, none⟩) (by exact Nat.ne_of_lt (Nat.lt_of_lt_of_le (by have := World.block_lt_of_cell? _ _ hw118_0; first | rwa [add_block] at this | exact this) GW121.out)) _).trans (((cell_far (p := ⟨gb121, _, none⟩) (by exact Nat.ne_of_lt (Nat.lt_of_lt_of_le (by have := World.block_lt_of_cell? _ _ hw118_0; first | rwa [add_block] at this | exact this) GW121.out)) _).trans (((cell_far (p := ⟨gb121, _, none⟩) (by exact Nat.ne_of_lt (Nat.lt_of_lt_of_le (by have := World.block_lt_of_cell? _ _ hw118_0; first | rwa [add_block] at this | exact this) GW121.out)) _).trans (((cell_far (p := ⟨gb121, _, none⟩) (by exact Nat.ne_of_lt (Nat.lt_of_lt_of_le (by have := World.block_lt_of_cell? _ _ hw118_0; first | rwa [add_block] at this | exact this) GW121.out)) _).trans (hHeld.1)))))))), ((cell_far (p := ⟨gb121, _, none⟩) (by exact Nat.ne_of_lt (Nat.lt_of_lt_of_le (by have := World.block_lt_of_cell? _ _ hw118_1; first | rwa [add_block] at this | exact this) GW121.out)) _).trans (((cell_far (p := ⟨gb121, _, none⟩) (by exact Nat.ne_of_lt (Nat.lt_of_lt_of_le (by have := World.block_lt_of_cell? _ _ hw118_1; first | rwa [add_block] at this | exact this) GW121.out)) _).trans (((cell_far (p := ⟨gb121, _, none⟩) (by exact Nat.ne_of_lt (Nat.lt_of_lt_of_le (by have := World.block_lt_of_cell? _ _ hw118_1; first | rwa [add_block] at this | exact this) GW121.out)) _).trans (((cell_far (p := ⟨gb121, _, none⟩) (by exact Nat.ne_of_lt (Nat.lt_of_lt_of_le (by have := World.block_lt_of_cell? _ _ hw118_1; first | rwa [add_block] at this | exact this) GW121.out)) _).trans (hHeld.2.1)))))))), ((cell_far (p := ⟨gb121, _, none⟩) (by exact Nat.ne_of_lt (Nat.lt_of_lt_of_le (by have := World.block_lt_of_cell? _ _ hw118_2; first | rwa [add_block] at this | exact this) GW121.out)) _).trans (((cell_far (p := ⟨gb121, _, none⟩) (by exact Nat.ne_of_lt (Nat.lt_of_lt_of_le (by have := World.block_lt_of_cell? _ _ hw118_2; first | rwa [add_block] at this | exact this) GW121.out)) _).trans (((cell_far (p := ⟨gb121, _, none⟩) (by exact Nat.ne_of_lt (Nat.lt_of_lt_of_le (by have := World.block_lt_of_cell? _ _ hw118_2; first | rwa [add_block] at this | exact this) GW121.out)) _).trans (((cell_far (p := ⟨gb121, _, none⟩) (by exact Nat.ne_of_lt (Nat.lt_of_lt_of_le (by have := World.block_lt_of_cell? _ _ hw118_2; first | rwa [add_block] at this | exact this) GW121.out)) _).trans (hHeld.2.2.1)))))))), ((cell_far (p := ⟨gb121, _, none⟩) (by exact Nat.ne_of_lt (Nat.lt_of_lt_of_le (by have := World.block_lt_of_cell? _ _ hw118_3; first | rwa [add_block] at this | exact this) GW121.out)) _).trans (((cell_far (p := ⟨gb121, _, none⟩) (by exact Nat.ne_of_lt (Nat.lt_of_lt_of_le (by have := World.block_lt_of_cell? _ _ hw118_3; first | rwa [add_block] at this | exact this) GW121.out)) _).trans (((cell_far (p := ⟨gb121, _, none⟩) (by exact Nat.ne_of_lt (Nat.lt_of_lt_of_le (by have := World.block_lt_of_cell? _ _ hw118_3; first | rwa [add_block] at this | exact this) GW121.out)) _).trans (((cell_far (p := ⟨gb121, _, none⟩) (by exact Nat.ne_of_lt (Nat.lt_of_lt_of_le (by have := World.block_lt_of_cell? _ _ hw118_3; first | rwa [add_block] at this | exact this) GW121.out)) _).trans (hHeld.2.2.2.1)))))))), ((cell_far (p := ⟨gb121, _, none⟩) (by exact Nat.ne_of_lt (Nat.lt_of_lt_of_le (by have := World.block_lt_of_cell? _ _ hw119_0; first | rwa [add_block] at this | exact this) GW121.out)) _).trans (((cell_far (p := ⟨gb121, _, none⟩) (by exact Nat.ne_of_lt (Nat.lt_of_lt_of_le (by have := World.block_lt_of_cell? _ _ hw119_0; first | rwa [add_block] at this | exact this) GW121.out)) _).trans (((cell_far (p := ⟨gb121, _, none⟩) (by exact Nat.ne_of_lt (Nat.lt_of_lt_of_le (by have := World.block_lt_of_cell? _ _ hw119_0; first | rwa [add_block] at this | exact this) GW121.out)) _).trans (((cell_far (p := ⟨gb121, _, none⟩) (by exact Nat.ne_of_lt (Nat.lt_of_lt_of_le (by have := World.block_lt_of_cell? _ _ hw119_0; first | rwa [add_block] at this | exact this) GW121.out)) _).trans (hHeld.2.2.2.2.1)))))))), ((cell_far (p := ⟨gb121, _, none⟩) (by exact Nat.ne_of_lt (Nat.lt_of_lt_of_le (by have := World.block_lt_of_cell? _ _ hw119_1; first | rwa [add_block] at this | exact this) GW121.out)) _).trans (((cell_far (p := ⟨gb121, _, none⟩) (by exact Nat.ne_of_lt (Nat.lt_of_lt_of_le (by have := World.block_lt_of_cell? _ _ hw119_1; first | rwa [add_block] at this | exact this) GW121.out)) _).trans (((cell_far (p := ⟨gb121, _, none⟩) (by exact Nat.ne_of_lt (Nat.lt_of_lt_of_le (by have := World.block_lt_of_cell? _ _ hw119_1; first | rwa [add_block] at this | exact this) GW121.out)) _).trans (((cell_far (p := ⟨gb121, _, none⟩) (by exact Nat.ne_of_lt (Nat.lt_of_lt_of_le (by have := World.block_lt_of_cell? _ _ hw119_1; first | rwa [add_block] at this | exact this) GW121.out)) _).trans (hHeld.2.2.2.2.2.1)))))))), ((cell_far (p := ⟨gb121, _, none⟩) (by exact Nat.ne_of_lt (Nat.lt_of_lt_of_le (by have := World.block_lt_of_cell? _ _ hw119_2; first | rwa [add_block] at this | exact this) GW121.out)) _).trans (((cell_far (p := ⟨gb121, _, none⟩) (by exact Nat.ne_of_lt (Nat.lt_of_lt_of_le (by have := World.block_lt_of_cell? _ _ hw119_2; first | rwa [add_block] at this | exact this) GW121.out)) _).trans (((cell_far (p := ⟨gb121, _, none⟩) (by exact Nat.ne_of_lt (Nat.lt_of_lt_of_le (by have := World.block_lt_of_cell? _ _ hw119_2; first | rwa [add_block] at this | exact this) GW121.out)) _).trans (((cell_far (p := ⟨gb121, _, none⟩) (by exact Nat.ne_of_lt (Nat.lt_of_lt_of_le (by have := World.block_lt_of_cell? _ _ hw119_2; first | rwa [add_block] at this | exact this) GW121.out)) _).trans (hHeld.2.2.2.2.2.2.1)))))))), ((cell_far (p := ⟨gb121, _, none⟩) (by exact Nat.ne_of_lt (Nat.lt_of_lt_of_le (by have := World.block_lt_of_cell? _ _ hw119_3; first | rwa [add_block] at this | exact this) GW121.out)) _).trans (((cell_far (p := ⟨gb121, _, none⟩) (by exact Nat.ne_of_lt (Nat.lt_of_lt_of_le (by have := World.block_lt_of_cell? _ _ hw119_3; first | rwa [add_block] at this | exact this) GW121.out)) _).trans (((cell_far (p := ⟨gb121, _, none⟩) (by exact Nat.ne_of_lt (Nat.lt_of_lt_of_le (by have := World.block_lt_of_cell? _ _ hw119_3; first | rwa [add_block] at this | exact this) GW121.out)) _).trans (((cell_far (p := ⟨gb121, _, none⟩) (by exact Nat.ne_of_lt (Nat.lt_of_lt_of_le (by have := World.block_lt_of_cell? _ _ hw119_3; first | rwa [add_block] at this | exact this) GW121.out)) _).trans (hHeld.2.2.2.2.2.2.2.1)))))))), ((cell_far (p := ⟨gb121, _, none⟩) (by exact Nat.ne_of_lt (Nat.lt_of_lt_of_le (by have := World.block_lt_of_cell? _ _ hw120_0; first | rwa [add_block] at this | exact this) GW121.out)) _).trans (((cell_far (p := ⟨gb121, _, none⟩) (by exact Nat.ne_of_lt (Nat.lt_of_lt_of_le (by have := World.block_lt_of_cell? _ _ hw120_0; first | rwa [add_block] at this | exact this) GW121.out)) _).trans (((cell_far (p := ⟨gb121, _, none⟩) (by exact Nat.ne_of_lt (Nat.lt_of_lt_of_le (by have := World.block_lt_of_cell? _ _ hw120_0; first | rwa [add_block] at this | exact this) GW121.out)) _).trans (((cell_far (p := ⟨gb121, _, none⟩) (by exact Nat.ne_of_lt (Nat.lt_of_lt_of_le (by have := World.block_lt_of_cell? _ _ hw120_0; first | rwa [add_block] at this | exact this) GW121.out)) _).trans (hHeld.2.2.2.2.2.2.2.2.1)))))))), ((cell_far (p := ⟨gb121, _, none⟩) (by exact Nat.ne_of_lt (Nat.lt_of_lt_of_le (by have := World.block_lt_of_cell? _ _ hw120_1; first | rwa [add_block] at this | exact this) GW121.out)) _).trans (((cell_far (p := ⟨gb121, _, none⟩) (by exact Nat.ne_of_lt (Nat.lt_of_lt_of_le (by have := World.block_lt_of_cell? _ _ hw120_1; first | rwa [add_block] at this | exact this) GW121.out)) _).trans (((cell_far (p := ⟨gb121, _, none⟩) (by exact Nat.ne_of_lt (Nat.lt_of_lt_of_le (by have := World.block_lt_of_cell? _ _ hw120_1; first | rwa [add_block] at this | exact this) GW121.out)) _).trans (((cell_far (p := ⟨gb121, _, none⟩) (by exact Nat.ne_of_lt (Nat.lt_of_lt_of_le (by have := World.block_lt_of_cell? _ _ hw120_1; first | rwa [add_block] at this | exact this) GW121.out)) _).trans (hHeld.2.2.2.2.2.2.2.2.2.1)))))))), ((cell_far (p := ⟨gb121, _, none⟩) (by exact Nat.ne_of_lt (Nat.lt_of_lt_of_le (by have := World.block_lt_of_cell? _ _ hw120_2; first | rwa [add_block] at this | exact this) GW121.out)) _).trans (((cell_far (p := ⟨gb121, _, none⟩) (by exact Nat.ne_of_lt (Nat.lt_of_lt_of_le (by have := World.block_lt_of_cell? _ _ hw120_2; first | rwa [add_block] at this | exact this) GW121.out)) _).trans (((cell_far (p := ⟨gb121, _, none⟩) (by exact Nat.ne_of_lt (Nat.lt_of_lt_of_le (by have := World.block_lt_of_cell? _ _ hw120_2; first | rwa [add_block] at this | exact this) GW121.out)) _).trans (((cell_far (p := ⟨gb121, _, none⟩) (by exact Nat.ne_of_lt (Nat.lt_of_lt_of_le (by have := World.block_lt_of_cell? _ _ hw120_2; first | rwa [add_block] at this | exact this) GW121.out)) _).trans (hHeld.2.2.2.2.2.2.2.2.2.2.1)))))))), ((cell_far (p := ⟨gb121, _, none⟩) (by exact Nat.ne_of_lt (Nat.lt_of_lt_of_le (by have := World.block_lt_of_cell? _ _ hw120_3; first | rwa [add_block] at this | exact this) GW121.out)) _).trans (((cell_far (p := ⟨gb121, _, none⟩) (by exact Nat.ne_of_lt (Nat.lt_of_lt_of_le (by have := World.block_lt_of_cell? _ _ hw120_3; first | rwa [add_block] at this | exact this) GW121.out)) _).trans (((cell_far (p := ⟨gb121, _, none⟩) (by exact Nat.ne_of_lt (Nat.lt_of_lt_of_le (by have := World.block_lt_of_cell? _ _ hw120_3; first | rwa [add_block] at this | exact this) GW121.out)) _).trans (((cell_far (p := ⟨gb121, _, none⟩) (by exact Nat.ne_of_lt (Nat.lt_of_lt_of_le (by have := World.block_lt_of_cell? _ _ hw120_3; first | rwa [add_block] at this | exact this) GW121.out)) _).trans (hHeld.2.2.2.2.2.2.2.2.2.2.2))))))))⟩ (fun hHeld => ?_)
                    clear hK K
                    refine done_ (done_of HT_.out (by kernel_rfl)) ?_
                    have hcz60_0 : w55.cell? ⟨gb121, 0, none⟩ = some (.int .i64 0) := (blk_cell BK121.out 0).trans rfl
                    have hcz60_1 : w55.cell? ⟨gb121, 1, none⟩ = some (.bool false) := (blk_cell BK121.out 1).trans rfl
                    have hcz60_2 : w55.cell? ⟨gb121, 2, none⟩ = some (.string (⟨#[]⟩ : ByteArray)) := (blk_cell BK121.out 2).trans rfl
                    have hcz60_3 : w55.cell? ⟨gb121, 3, none⟩ = some (.slice none 0 0) := (blk_cell BK121.out 3).trans rfl
                    have hfz60_0 := blk_frozen BK121.out 0
                    have hfz60_1 := blk_frozen BK121.out 1
                    have hfz60_2 := blk_frozen BK121.out 2
                    have hfz60_3 := blk_frozen BK121.out 3
                    try go_wp2_with (first | ((with_reducible refine gate_callee (f := 32) rfl ?_); refine goesL_ (some 89) rfl rfl Tryd.func32 (by kernel_rfl) rfl #[.agg #[.int .i64 ((rd_T29 l0 x1_1).f1), .bool ((rd_T29 l0 x1_1).f2), .string ((rd_T29 l0 x1_1).f3), .slice none 0 0]] rfl (by (try simp only [List.map_toArray, List.map_cons, List.map_nil]); first | done | rfl | (simp only [List.length_drop, List.length_take]; rfl)) ?_; (refine (depotref06_Own.calls ((rd_T29 l0 x1_1).f1) ((rd_T29 l0 x1_1).f2) ((rd_T29 l0 x1_1).f3) _ _ ([] : List (S63)) t122 t123 _ ?side1 ?side2 A31.out).mono ?_); (case side1 => exact Kd.C_nil _ _); (case side2 => exact Nat.le_refl _); rintro e w61 ⟨rfl, hb⟩; refine ⟨_, rfl, ?_⟩; have n0_ := Aside0.mk (Kd.R_below (by (with_reducible repeat (first | apply Kd.R_alloc | apply Kd.R_drewN | apply Kd.R_drew)); exact (Kd.R_mono (Kd.R_far (p := ⟨gb121, 3, none⟩) (Kd.R_far (p := ⟨gb121, 2, none⟩) (Kd.R_far (p := ⟨gb121, 1, none⟩) (Kd.R_far (p := ⟨gb121, 0, none⟩) (Kd.R_types HO_8.out BK121.out (by decide)) (fun _ hk => hk.2) (.int .i64 ((rd_T29 l0 x1_1).f1))) (fun _ hk => hk.2) (.bool ((rd_T29 l0 x1_1).f2))) (fun _ hk => hk.2) (.string ((rd_T29 l0 x1_1).f3))) (fun _ hk => hk.2) (.slice none 0 0)) (fun _ h_ => h_.1))) hb); have n1_ := Aside0.mk (Kd.R_below (by (with_reducible repeat (first | apply Kd.R_alloc | apply Kd.R_drewN | apply Kd.R_drew)); exact (Kd.R_mono (Kd.R_far (p := ⟨gb121, 3, none⟩) (Kd.R_far (p := ⟨gb121, 2, none⟩) (Kd.R_far (p := ⟨gb121, 1, none⟩) (Kd.R_far (p := ⟨gb121, 0, none⟩) (Kd.R_types HO_9.out BK121.out (by decide)) (fun _ hk => hk.2) (.int .i64 ((rd_T29 l0 x1_1).f1))) (fun _ hk => hk.2) (.bool ((rd_T29 l0 x1_1).f2))) (fun _ hk => hk.2) (.string ((rd_T29 l0 x1_1).f3))) (fun _ hk => hk.2) (.slice none 0 0)) (fun _ h_ => h_.1))) hb); have n2_ := Aside0.mk (blk_below (g := gb121) (o := .cells #[.int .i64 ((rd_T29 l0 x1_1).f1), .bool ((rd_T29 l0 x1_1).f2), .string ((rd_T29 l0 x1_1).f3), .slice none 0 0] 32 (0, 0)) (by (with_reducible repeat (first | refine blk_drewN ?_ _ | refine blk_drew ?_ | refine blk_alloc ?_ _)); refine blk_put (cs := #[.int .i64 ((rd_T29 l0 x1_1).f1), .bool ((rd_T29 l0 x1_1).f2), .string ((rd_T29 l0 x1_1).f3), .slice none 0 0]) ?_ 3 _ rfl; (with_reducible repeat (first | refine blk_drewN ?_ _ | refine blk_drew ?_ | refine blk_alloc ?_ _)); refine blk_put (cs := #[.int .i64 ((rd_T29 l0 x1_1).f1), .bool ((rd_T29 l0 x1_1).f2), .string (⟨#[]⟩ : ByteArray), .slice none 0 0]) ?_ 2 _ rfl; (with_reducible repeat (first | refine blk_drewN ?_ _ | refine blk_drew ?_ | refine blk_alloc ?_ _)); refine blk_put (cs := #[.int .i64 ((rd_T29 l0 x1_1).f1), .bool false, .string (⟨#[]⟩ : ByteArray), .slice none 0 0]) ?_ 1 _ rfl; (with_reducible repeat (first | refine blk_drewN ?_ _ | refine blk_drew ?_ | refine blk_alloc ?_ _)); refine blk_put (cs := #[.int .i64 0, .bool false, .string (⟨#[]⟩ : ByteArray), .slice none 0 0]) ?_ 0 _ rfl; (with_reducible repeat (first | refine blk_drewN ?_ _ | refine blk_drew ?_ | refine blk_alloc ?_ _)); exact BK121.out) hb); have n3_ := Aside0.mk (below_step (by repeat (first | (with_reducible first | exact HB.out | apply below_alloc | apply pw_below_drewN | apply below_drew1 | refine below_set ?_ GE121.out) | exact HB.out)) hb); clear HO_8; clear HO_9; clear BK121; clear HB; have HO_8 := n0_; have HO_9 := n1_; have BK121 := n2_; have HB := n3_; clear n0_ n1_ n2_ n3_; (try clear hb); (try clear hb2); (try clear hk); (try clear hi); have p124 : 0 ≤ ((ji33) : Int) := of_decide_eq_true (by first | (with_reducible assumption) | assumption); have q124 : (ji33) < (l0.length : Int) := of_decide_eq_true (by first | (with_reducible assumption) | assumption); obtain ⟨ad124, e124, hx124_0, hx124_1, hx124_2, hx124_3⟩ := at_T29 HR0.out (ji33) p124 q124; obtain rfl : ad108 = ad124 := (by injection e124); replace hx124_0 := (HB.out.cell (World.block_lt_of_cell? w _ hx124_0)).trans hx124_0; replace hx124_1 := (HB.out.cell (World.block_lt_of_cell? w _ hx124_1)).trans hx124_1; replace hx124_2 := (HB.out.cell (World.block_lt_of_cell? w _ hx124_2)).trans hx124_2; replace hx124_3 := (HB.out.cell (World.block_lt_of_cell? w _ hx124_3)).trans hx124_3; replace p124 := eq_true p124; replace q124 := eq_true q124; have hcz62_0 : w61.cell? ⟨gb121, 0, none⟩ = some (.int .i64 ((rd_T29 l0 x1_1).f1)) := (blk_cell BK121.out 0).trans rfl; have hcz62_1 : w61.cell? ⟨gb121, 1, none⟩ = some (.bool ((rd_T29 l0 x1_1).f2)) := (blk_cell BK121.out 1).trans rfl; have hcz62_2 : w61.cell? ⟨gb121, 2, none⟩ = some (.string ((rd_T29 l0 x1_1).f3)) := (blk_cell BK121.out 2).trans rfl; have hcz62_3 : w61.cell? ⟨gb121, 3, none⟩ = some (.slice none 0 0) := (blk_cell BK121.out 3).trans rfl; have hfz62_0 := blk_frozen BK121.out 0; have hfz62_1 := blk_frozen BK121.out 1; have hfz62_2 := blk_frozen BK121.out 2; have hfz62_3 := blk_frozen BK121.out 3) | ((with_reducible refine gate_builtin (b := .append) (xs := #[.tmp 113, .tmp 117]) rfl ?_); (try (refine gate_guard (by rfl) ?_; dsimp only)); at_builtin; refine Kd.R_append k63 (w0 := w) w.heap.size rfl (.tmp 113) (.tmp 117) 30 63 (.agg #[(.string ⟨#[]⟩), (.int .i64 0), (.bool false), (.string ⟨#[]⟩), (.slice none 0 0)]) 72 rfl Tryd.underlying30 info63 rfl (by decide) (by omega) u8 x8_1 (⟨(rdOf ByteArray.empty t109 (ji15)), (rd_T29 l0 x1_1).f1, (rd_T29 l0 x1_1).f2, (rd_T29 l0 x1_1).f3, ([] : List (S63))⟩ : S63) [.string (rdOf ByteArray.empty t109 (ji15)), .int .i64 ((rd_T29 l0 x1_1).f1), .bool ((rd_T29 l0 x1_1).f2), .string ((rd_T29 l0 x1_1).f3), .slice none 0 0] (fun _ => True) (fun k_ => ((fun _ => True)) k_ ∧ some k_ ≠ (u8 : Value).ownBlock) rfl rfl ?aP (fun _ hk => hk) ?aF ?aO ?aB ?aS ?aL ?_; (case aP => exact k63_mkM _ _ _ (⟨(rdOf ByteArray.empty t109 (ji15)), (rd_T29 l0 x1_1).f1, (rd_T29 l0 x1_1).f2, (rd_T29 l0 x1_1).f3, ([] : List (S63))⟩ : S63) (Kd.R_nil _ _ _ _ _)); (case aB => exact (by repeat (first | (with_reducible first | exact HB.out | apply below_alloc | apply pw_below_drewN | apply below_drew1 | refine below_set ?_ GE121.out) | exact HB.out))); (case aF => exact (fun _ _ => trivial)); (case aO => exact (by (with_reducible repeat (first | apply Kd.R_alloc | apply Kd.R_drewN | apply Kd.R_drew)); exact HO_8.out)); (case aS => exact (below_size (by repeat (first | (with_reducible first | exact HB.out | apply below_alloc | apply pw_below_drewN | apply below_drew1 | refine below_set ?_ GE121.out) | exact HB.out)))); (case aL => have := LMc53.out; omega); intro v133 w63 ho hb hg hat; rw [← Ny132.out] at ho; have n0_ := Aside0.mk (Kd.R_over' (by (with_reducible repeat (first | apply Kd.R_alloc | apply Kd.R_drewN | apply Kd.R_drew)); exact HO_9.out) (Kd.R_typed (by (with_reducible repeat (first | apply Kd.R_alloc | apply Kd.R_drewN | apply Kd.R_drew)); exact HO_8.out)) (by decide) hg); have n1_ := Aside0.mk (blk_grown (g := gb121) (o := .cells #[.int .i64 ((rd_T29 l0 x1_1).f1), .bool ((rd_T29 l0 x1_1).f2), .string ((rd_T29 l0 x1_1).f3), .slice none 0 0] 32 (0, 0)) (by (with_reducible repeat (first | refine blk_drewN ?_ _ | refine blk_drew ?_ | refine blk_alloc ?_ _)); exact BK121.out) hg (Kd.R_ne HO_8.out BK121.out (by decide))); have n2_ := Aside0.mk (hb); have n3_ := Aside0.mk (ho); clear HO_9; clear BK121; clear HB; clear HO_8; have HO_9 := n0_; have BK121 := n1_; have HB := n2_; have HO134 := n3_; clear n0_ n1_ n2_ n3_; clear ho hb hg hat))
                    go_roundg kj17
                    case measure => have := HK1.out; have := HJ6.out; have := HJ17.out; omega
                    case rel => exact ⟨(wrap64 (x1_1 + 1)), (y132), (by first | rfl | (simp; done) | (simp [*]; done)), H', ⟨by have := HK1.out; have := HJ6.out; have := HJ17.out; omega⟩, ⟨by (with_reducible repeat (first | apply Kd.R_alloc | apply Kd.R_drewN | apply Kd.R_drew)); exact HO134.out⟩, ⟨by repeat (first | (with_reducible first | exact HB.out | apply below_alloc | apply pw_below_drewN | apply below_drew1 | refine below_set ?_ GE121.out) | exact HB.out)⟩⟩
                   ·rw [if_neg c53] at H
                    exact absurd H (by simp)
                 ·rw [if_neg c35] at H
                  exact absurd H (by simp)
                ·rw [if_neg c34] at H
                 exact absurd H (by simp)
               ·rw [if_neg c32] at H
                have c32b0 : (t122 == 0) = false := beq_eq_false_iff_ne.mpr c32
                have c32b1 : (t122 != 0) = true := bne_iff_ne.mpr c32
                simp only [Option.some.injEq, Prod.mk.injEq] at H
                obtain ⟨rfl, rfl⟩ := H
                try go_wp2
                have n0_ := Aside0.mk (Kd.R_drew HO_8.out)
                have n1_ := Aside0.mk (Kd.R_drew HO_9.out)
                have n2_ := Aside0.mk (below_drew1 HB.out)
                clear HO_8
                clear HO_9
                clear HB
                have HO_8 := n0_
                have HO_9 := n1_
                have HB := n2_
                clear n0_ n1_ n2_
                have p118 : 0 ≤ (x1_1 : Int) := of_decide_eq_true (by first | (with_reducible assumption) | assumption)
                have q118 : x1_1 < (l0.length : Int) := of_decide_eq_true (by first | (with_reducible assumption) | assumption)
                obtain ⟨ad118, e118, hx118_0, hx118_1, hx118_2, hx118_3⟩ := at_T29 HR0.out x1_1 p118 q118
                have hw118_3 := hx118_3
                have hw118_2 := hx118_2
                have hw118_1 := hx118_1
                have hw118_0 := hx118_0
                obtain rfl : ad108 = ad118 := (by injection e118)
                replace hx118_0 := (HB.out.cell (World.block_lt_of_cell? w _ hx118_0)).trans hx118_0
                replace hx118_1 := (HB.out.cell (World.block_lt_of_cell? w _ hx118_1)).trans hx118_1
                replace hx118_2 := (HB.out.cell (World.block_lt_of_cell? w _ hx118_2)).trans hx118_2
                replace hx118_3 := (HB.out.cell (World.block_lt_of_cell? w _ hx118_3)).trans hx118_3
                replace p118 := eq_true p118
                replace q118 := eq_true q118
                have p119 : 0 ≤ (x1_1 : Int) := of_decide_eq_true (by first | (with_reducible assumption) | assumption)
                have q119 : x1_1 < (l0.length : Int) := of_decide_eq_true (by first | (with_reducible assumption) | assumption)
                obtain ⟨ad119, e119, hx119_0, hx119_1, hx119_2, hx119_3⟩ := at_T29 HR0.out x1_1 p119 q119
                have hw119_3 := hx119_3
                have hw119_2 := hx119_2
                have hw119_1 := hx119_1
                have hw119_0 := hx119_0
                obtain rfl : ad108 = ad119 := (by injection e119)
                replace hx119_0 := (HB.out.cell (World.block_lt_of_cell? w _ hx119_0)).trans hx119_0
                replace hx119_1 := (HB.out.cell (World.block_lt_of_cell? w _ hx119_1)).trans hx119_1
                replace hx119_2 := (HB.out.cell (World.block_lt_of_cell? w _ hx119_2)).trans hx119_2
                replace hx119_3 := (HB.out.cell (World.block_lt_of_cell? w _ hx119_3)).trans hx119_3
                replace p119 := eq_true p119
                replace q119 := eq_true q119
                have p120 : 0 ≤ (x1_1 : Int) := of_decide_eq_true (by first | (with_reducible assumption) | assumption)
                have q120 : x1_1 < (l0.length : Int) := of_decide_eq_true (by first | (with_reducible assumption) | assumption)
                obtain ⟨ad120, e120, hx120_0, hx120_1, hx120_2, hx120_3⟩ := at_T29 HR0.out x1_1 p120 q120
                have hw120_3 := hx120_3
                have hw120_2 := hx120_2
                have hw120_1 := hx120_1
                have hw120_0 := hx120_0
                obtain rfl : ad108 = ad120 := (by injection e120)
                replace hx120_0 := (HB.out.cell (World.block_lt_of_cell? w _ hx120_0)).trans hx120_0
                replace hx120_1 := (HB.out.cell (World.block_lt_of_cell? w _ hx120_1)).trans hx120_1
                replace hx120_2 := (HB.out.cell (World.block_lt_of_cell? w _ hx120_2)).trans hx120_2
                replace hx120_3 := (HB.out.cell (World.block_lt_of_cell? w _ hx120_3)).trans hx120_3
                replace p120 := eq_true p120
                replace q120 := eq_true q120
                refine start_ (n := 18) (S := fun w' => w'.cell? (ad108.add ((x1_1).toNat * 4)) = some (.string ((rd_T29 l0 x1_1).f0)) ∧ w'.cell? ⟨(ad108.add ((x1_1).toNat * 4)).block, (ad108.add ((x1_1).toNat * 4)).off + 1, none⟩ = some (.int .i64 ((rd_T29 l0 x1_1).f1)) ∧ w'.cell? ⟨(ad108.add ((x1_1).toNat * 4)).block, (ad108.add ((x1_1).toNat * 4)).off + 2, none⟩ = some (.bool ((rd_T29 l0 x1_1).f2)) ∧ w'.cell? ⟨(ad108.add ((x1_1).toNat * 4)).block, (ad108.add ((x1_1).toNat * 4)).off + 3, none⟩ = some (.string ((rd_T29 l0 x1_1).f3)) ∧ w'.cell? (ad108.add ((x1_1).toNat * 4)) = some (.string ((rd_T29 l0 x1_1).f0)) ∧ w'.cell? ⟨(ad108.add ((x1_1).toNat * 4)).block, (ad108.add ((x1_1).toNat * 4)).off + 1, none⟩ = some (.int .i64 ((rd_T29 l0 x1_1).f1)) ∧ w'.cell? ⟨(ad108.add ((x1_1).toNat * 4)).block, (ad108.add ((x1_1).toNat * 4)).off + 2, none⟩ = some (.bool ((rd_T29 l0 x1_1).f2)) ∧ w'.cell? ⟨(ad108.add ((x1_1).toNat * 4)).block, (ad108.add ((x1_1).toNat * 4)).off + 3, none⟩ = some (.string ((rd_T29 l0 x1_1).f3)) ∧ w'.cell? (ad108.add ((x1_1).toNat * 4)) = some (.string ((rd_T29 l0 x1_1).f0)) ∧ w'.cell? ⟨(ad108.add ((x1_1).toNat * 4)).block, (ad108.add ((x1_1).toNat * 4)).off + 1, none⟩ = some (.int .i64 ((rd_T29 l0 x1_1).f1)) ∧ w'.cell? ⟨(ad108.add ((x1_1).toNat * 4)).block, (ad108.add ((x1_1).toNat * 4)).off + 2, none⟩ = some (.bool ((rd_T29 l0 x1_1).f2)) ∧ w'.cell? ⟨(ad108.add ((x1_1).toNat * 4)).block, (ad108.add ((x1_1).toNat * 4)).off + 3, none⟩ = some (.string ((rd_T29 l0 x1_1).f3))) (ds := []) #[false, false, false, false, false, false, false, false, false, false, false, false, false, false, false, false, false, false] (by kernel_rfl) rfl rfl ⟨((HB.out.cell (World.block_lt_of_cell? w _ hw118_0)).trans hw118_0), ((HB.out.cell (World.block_lt_of_cell? w _ hw118_1)).trans hw118_1), ((HB.out.cell (World.block_lt_of_cell? w _ hw118_2)).trans hw118_2), ((HB.out.cell (World.block_lt_of_cell? w _ hw118_3)).trans hw118_3), ((HB.out.cell (World.block_lt_of_cell? w _ hw119_0)).trans hw119_0), ((HB.out.cell (World.block_lt_of_cell? w _ hw119_1)).trans hw119_1), ((HB.out.cell (World.block_lt_of_cell? w _ hw119_2)).trans hw119_2), ((HB.out.cell (World.block_lt_of_cell? w _ hw119_3)).trans hw119_3), ((HB.out.cell (World.block_lt_of_cell? w _ hw120_0)).trans hw120_0), ((HB.out.cell (World.block_lt_of_cell? w _ hw120_1)).trans hw120_1), ((HB.out.cell (World.block_lt_of_cell? w _ hw120_2)).trans hw120_2), ((HB.out.cell (World.block_lt_of_cell? w _ hw120_3)).trans hw120_3)⟩ (fun hHeld => ?_); refine with_tabW depotref06_gather.tab9 depotref06_gather.bits9 (fun HT_ HW_ => ?_)
                generalize wc.drew = w64 at HO_8 HO_9 HB hx118_0 hx118_1 hx118_2 hx118_3 hx119_0 hx119_1 hx119_2 hx119_3 hx120_0 hx120_1 hx120_2 hx120_3 hHeld ⊢
                refine pure_ (i := 0) (N := some 71) (v := ?_) (a' := ?_) #[true, false, false, false, false, false, false, false, false, false, false, false, false, false, false, false, false, false] rfl rfl (any_of HT_.out (by kernel_rfl)) (fun _ _ _ h => h) (Or.inl ⟨by rfl, ?_⟩) ?_ ?_
                rotate_left
                ·intro w'
                 go_simp
                 with_reducible rfl
                rotate_left
                ·simp only [Act.put, List.setIfInBounds_toArray, List.set_cons_zero, List.set_cons_succ, i64_w, i32_w]
                 rfl
                refine pure_ (i := 1) (N := some 72) (v := ?_) (a' := ?_) #[true, true, false, false, false, false, false, false, false, false, false, false, false, false, false, false, false, false] rfl rfl (any_of HT_.out (by kernel_rfl)) (fun _ _ _ h => h) (Or.inl ⟨by rfl, ?_⟩) ?_ ?_
                rotate_left
                ·intro w'
                 go_simp
                 with_reducible rfl
                rotate_left
                ·simp only [Act.put, List.setIfInBounds_toArray, List.set_cons_zero, List.set_cons_succ, i64_w, i32_w]
                 rfl
                refine pure_ (i := 2) (N := some 73) (v := ?_) (a' := ?_) #[true, true, true, false, false, false, false, false, false, false, false, false, false, false, false, false, false, false] rfl rfl (any_of HT_.out (by kernel_rfl)) (fun _ _ _ h => h) (Or.inl ⟨by rfl, ?_⟩) ?_ ?_
                rotate_left
                ·intro w'
                 go_simp
                 with_reducible rfl
                rotate_left
                ·simp only [Act.put, List.setIfInBounds_toArray, List.set_cons_zero, List.set_cons_succ, i64_w, i32_w]
                 rfl
                refine pure_ (i := 3) (N := some 74) (v := ?_) (a' := ?_) #[true, true, true, true, false, false, false, false, false, false, false, false, false, false, false, false, false, false] rfl rfl (any_of HT_.out (by kernel_rfl)) (fun _ _ _ h => h) (Or.inl ⟨by rfl, ?_⟩) ?_ ?_
                rotate_left
                ·intro w'
                 go_simp
                 with_reducible rfl
                rotate_left
                ·simp only [Act.put, List.setIfInBounds_toArray, List.set_cons_zero, List.set_cons_succ, i64_w, i32_w]
                 rfl
                refine pure_ (i := 5) (N := some 76) (v := ?_) (a' := ?_) #[true, true, true, true, false, true, false, false, false, false, false, false, false, false, false, false, false, false] rfl rfl (any_of HT_.out (by kernel_rfl)) (fun _ _ _ h => h) (Or.inl ⟨by rfl, ?_⟩) ?_ ?_
                rotate_left
                ·intro w'
                 go_simp
                 with_reducible rfl
                rotate_left
                ·simp only [Act.put, List.setIfInBounds_toArray, List.set_cons_zero, List.set_cons_succ, i64_w, i32_w]
                 rfl
                refine pure_ (i := 6) (N := some 77) (v := ?_) (a' := ?_) #[true, true, true, true, false, true, true, false, false, false, false, false, false, false, false, false, false, false] rfl rfl (any_of HT_.out (by kernel_rfl)) (fun _ _ _ h => h) (Or.inl ⟨by rfl, ?_⟩) ?_ ?_
                rotate_left
                ·intro w'
                 go_simp
                 with_reducible rfl
                rotate_left
                ·simp only [Act.put, List.setIfInBounds_toArray, List.set_cons_zero, List.set_cons_succ, i64_w, i32_w]
                 rfl
                refine pure_ (i := 7) (N := some 78) (v := ?_) (a' := ?_) #[true, true, true, true, false, true, true, true, false, false, false, false, false, false, false, false, false, false] rfl rfl (any_of HT_.out (by kernel_rfl)) (fun _ _ _ h => h) (Or.inl ⟨by rfl, ?_⟩) ?_ ?_
                rotate_left
                ·intro w'
                 go_simp
                 with_reducible rfl
                rotate_left
                ·simp only [Act.put, List.setIfInBounds_toArray, List.set_cons_zero, List.set_cons_succ, i64_w, i32_w]
                 rfl
                refine pure_ (i := 8) (N := some 79) (v := ?_) (a' := ?_) #[true, true, true, true, false, true, true, true, true, false, false, false, false, false, false, false, false, false] rfl rfl (any_of HT_.out (by kernel_rfl)) (fun _ _ _ h => h) (Or.inl ⟨by rfl, ?_⟩) ?_ ?_
                rotate_left
                ·intro w'
                 go_simp
                 with_reducible rfl
                rotate_left
                ·simp only [Act.put, List.setIfInBounds_toArray, List.set_cons_zero, List.set_cons_succ, i64_w, i32_w]
                 rfl
                refine pure_ (i := 10) (N := some 81) (v := ?_) (a' := ?_) #[true, true, true, true, false, true, true, true, true, false, true, false, false, false, false, false, false, false] rfl rfl (any_of HT_.out (by kernel_rfl)) (fun _ _ _ h => h) (Or.inl ⟨by rfl, ?_⟩) ?_ ?_
                rotate_left
                ·intro w'
                 go_simp
                 with_reducible rfl
                rotate_left
                ·simp only [Act.put, List.setIfInBounds_toArray, List.set_cons_zero, List.set_cons_succ, i64_w, i32_w]
                 rfl
                refine pure_ (i := 11) (N := some 82) (v := ?_) (a' := ?_) #[true, true, true, true, false, true, true, true, true, false, true, true, false, false, false, false, false, false] rfl rfl (any_of HT_.out (by kernel_rfl)) (fun _ _ _ h => h) (Or.inl ⟨by rfl, ?_⟩) ?_ ?_
                rotate_left
                ·intro w'
                 go_simp
                 with_reducible rfl
                rotate_left
                ·simp only [Act.put, List.setIfInBounds_toArray, List.set_cons_zero, List.set_cons_succ, i64_w, i32_w]
                 rfl
                refine pure_ (i := 12) (N := some 83) (v := ?_) (a' := ?_) #[true, true, true, true, false, true, true, true, true, false, true, true, true, false, false, false, false, false] rfl rfl (any_of HT_.out (by kernel_rfl)) (fun _ _ _ h => h) (Or.inl ⟨by rfl, ?_⟩) ?_ ?_
                rotate_left
                ·intro w'
                 go_simp
                 with_reducible rfl
                rotate_left
                ·simp only [Act.put, List.setIfInBounds_toArray, List.set_cons_zero, List.set_cons_succ, i64_w, i32_w]
                 rfl
                refine pure_ (i := 13) (N := some 84) (v := ?_) (a' := ?_) #[true, true, true, true, false, true, true, true, true, false, true, true, true, true, false, false, false, false] rfl rfl (any_of HT_.out (by kernel_rfl)) (fun _ _ _ h => h) (Or.inl ⟨by rfl, ?_⟩) ?_ ?_
                rotate_left
                ·intro w'
                 go_simp
                 with_reducible rfl
                rotate_left
                ·simp only [Act.put, List.setIfInBounds_toArray, List.set_cons_zero, List.set_cons_succ, i64_w, i32_w]
                 rfl
                refine take_ (i := 4) (N := some 75) (v := ?_) (a' := ?_) #[true, true, true, true, true, true, true, true, true, false, true, true, true, true, false, false, false, false] rfl rfl (take_ofW HT_.out HW_.out (by kernel_rfl)) (fun _ _ _ h => h) (Or.inl ⟨by rfl, ?_⟩) hHeld ?_ ?_
                rotate_left
                ·rintro w' ⟨s0, s1, s2, s3, s4, s5, s6, s7, s8, s9, s10, s11⟩
                 go_simp
                 with_reducible rfl
                rotate_left
                ·simp only [Act.put, List.setIfInBounds_toArray, List.set_cons_zero, List.set_cons_succ, i64_w, i32_w]
                 rfl
                refine take_ (i := 9) (N := some 80) (v := ?_) (a' := ?_) #[true, true, true, true, true, true, true, true, true, true, true, true, true, true, false, false, false, false] rfl rfl (take_ofW HT_.out HW_.out (by kernel_rfl)) (fun _ _ _ h => h) (Or.inl ⟨by rfl, ?_⟩) hHeld ?_ ?_
                rotate_left
                ·rintro w' ⟨s0, s1, s2, s3, s4, s5, s6, s7, s8, s9, s10, s11⟩
                 go_simp
                 with_reducible rfl
                rotate_left
                ·simp only [Act.put, List.setIfInBounds_toArray, List.set_cons_zero, List.set_cons_succ, i64_w, i32_w]
                 rfl
                refine take_ (i := 14) (N := some 85) (v := ?_) (a' := ?_) #[true, true, true, true, true, true, true, true, true, true, true, true, true, true, true, false, false, false] rfl rfl (take_ofW HT_.out HW_.out (by kernel_rfl)) (fun _ _ _ h => h) (Or.inl ⟨by rfl, ?_⟩) hHeld ?_ ?_
                rotate_left
                ·rintro w' ⟨s0, s1, s2, s3, s4, s5, s6, s7, s8, s9, s10, s11⟩
                 go_simp
                 with_reducible rfl
                rotate_left
                ·simp only [Act.put, List.setIfInBounds_toArray, List.set_cons_zero, List.set_cons_succ, i64_w, i32_w]
                 rfl
                refine pure_ (i := 15) (N := some 86) (v := ?_) (a' := ?_) #[true, true, true, true, true, true, true, true, true, true, true, true, true, true, true, true, false, false] rfl rfl (any_of HT_.out (by kernel_rfl)) (fun _ _ _ h => h) (Or.inl ⟨by rfl, ?_⟩) ?_ ?_
                rotate_left
                ·intro w'
                 go_simp
                 with_reducible rfl
                rotate_left
                ·simp only [Act.put, List.setIfInBounds_toArray, List.set_cons_zero, List.set_cons_succ, i64_w, i32_w]
                 rfl
                refine one_ (i := 16) (N := some 13) #[true, true, true, true, true, true, true, true, true, true, true, true, true, true, true, true, true, false] rfl rfl (one_of HT_.out (by kernel_rfl)) (by decide) (fun K hK => ?_)
                refine box_step ?hg (N := 13) ?hd (cs := #[.int .i64 0, .bool false, .string (⟨#[]⟩ : ByteArray), .slice none 0 0]) (t := 32) ?hr ?_; (case hd => rfl); (case hg => rfl); (case hr => first | (go_simp; done) | (go_simp; rfl))
                intro gb121 hg w65 hbox hb
                have n0_ := Aside0.mk (Kd.R_below (by (with_reducible repeat (first | apply Kd.R_alloc | apply Kd.R_drewN | apply Kd.R_drew)); exact HO_8.out) hb)
                have n1_ := Aside0.mk (Kd.R_below (by (with_reducible repeat (first | apply Kd.R_alloc | apply Kd.R_drewN | apply Kd.R_drew)); exact HO_9.out) hb)
                have n2_ := Aside0.mk (below_step (by repeat (first | (with_reducible first | exact HB.out | apply below_alloc | apply pw_below_drewN | apply below_drew1) | exact HB.out)) hb)
                have n3_ := Aside0.mk (hbox)
                have n4_ := Aside0.mk ((by rw [hg]; exact (below_size (by repeat (first | (with_reducible first | exact HB.out | apply below_alloc | apply pw_below_drewN | apply below_drew1) | exact HB.out))) : w.heap.size ≤ gb121))
                have n5_ := Aside0.mk ((by rw [hg]; exact (below_size (by repeat (first | (with_reducible first | exact HB.out | apply below_alloc | apply pw_below_drewN | apply below_drew1) | exact HB.out))) : w.heap.size ≤ gb121))
                clear HO_8
                clear HO_9
                clear HB
                have HO_8 := n0_
                have HO_9 := n1_
                have HB := n2_
                have BK121 := n3_
                have GW121 := n4_
                have GE121 := n5_
                clear n0_ n1_ n2_ n3_ n4_ n5_
                clear hb hbox hg
                refine hK.out _ _ ⟨((HB.out.cell (World.block_lt_of_cell? w _ hw118_0)).trans hw118_0), ((HB.out.cell (World.block_lt_of_cell? w _ hw118_1)).trans hw118_1), ((HB.out.cell (World.block_lt_of_cell? w _ hw118_2)).trans hw118_2), ((HB.out.cell (World.block_lt_of_cell? w _ hw118_3)).trans hw118_3), ((HB.out.cell (World.block_lt_of_cell? w _ hw119_0)).trans hw119_0), ((HB.out.cell (World.block_lt_of_cell? w _ hw119_1)).trans hw119_1), ((HB.out.cell (World.block_lt_of_cell? w _ hw119_2)).trans hw119_2), ((HB.out.cell (World.block_lt_of_cell? w _ hw119_3)).trans hw119_3), ((HB.out.cell (World.block_lt_of_cell? w _ hw120_0)).trans hw120_0), ((HB.out.cell (World.block_lt_of_cell? w _ hw120_1)).trans hw120_1), ((HB.out.cell (World.block_lt_of_cell? w _ hw120_2)).trans hw120_2), ((HB.out.cell (World.block_lt_of_cell? w _ hw120_3)).trans hw120_3)⟩ (fun hHeld => ?_)
                clear hK K
                refine norm_ (a' := ?_) ?_ ?_
                rotate_left
                ·show Act.put _ (some 13) _ = _
                 simp only [Act.put, List.setIfInBounds_toArray, List.set_cons_zero, List.set_cons_succ, i64_w, i32_w]
                 rfl
                refine one_ (i := 17) (N := none) #[true, true, true, true, true, true, true, true, true, true, true, true, true, true, true, true, true, true] rfl rfl (one_of HT_.out (by kernel_rfl)) (by decide) (fun K hK => ?_)
                have hs66 : w65.cell? ⟨gb121, 0, none⟩ = some (.int .i64 0) := (blk_cell BK121.out 0).trans rfl
                have hfs66 := blk_frozen BK121.out 0
                have hs67 : w65.cell? ⟨gb121, 1, none⟩ = some (.bool false) := (blk_cell BK121.out 1).trans rfl
                have hfs67 := blk_frozen BK121.out 1
                have hs68 : w65.cell? ⟨gb121, 2, none⟩ = some (.string (⟨#[]⟩ : ByteArray)) := (blk_cell BK121.out 2).trans rfl
                have hfs68 := blk_frozen BK121.out 2
                have hs69 : w65.cell? ⟨gb121, 3, none⟩ = some (.slice none 0 0) := (blk_cell BK121.out 3).trans rfl
                have hfs69 := blk_frozen BK121.out 3
                refine skip_ (w1 := ?_) (by rfl) rfl ?_ ?_
                rotate_left
                ·go_simp
                 rfl
                refine hK.out _ _ ⟨((cell_far (p := ⟨gb121, _, none⟩) (by exact Nat.ne_of_lt (Nat.lt_of_lt_of_le (by have := World.block_lt_of_cell? _ _ hw118_0; first | rwa [add_block] at this | exact this) GW121.out)) _).trans (((cell_far (p := ⟨gb121, _, none⟩) (by exact Nat.ne_of_lt (Nat.lt_of_lt_of_le (by have := World.block_lt_of_cell? _ _ hw118_0; first | rwa [add_block] at this | exact this) GW121.out)) _).trans (((cell_far (p := ⟨gb121, _, none⟩) (by exact Nat.ne_of_lt (Nat.lt_of_lt_of_le (by have := World.block_lt_of_cell? _ _ hw118_0; first | rwa [add_block] at this | exact this) GW121.out)) _).trans (((cell_far (p := ⟨gb121, _, none⟩) (by exact Nat.ne_of_lt (Nat.lt_of_lt_of_le (by have := World.block_lt_of_cell? _ _ hw118_0; first | rwa [add_block] at this | exact this) GW121.out)) _).trans (hHeld.1)))))))), ((cell_far (p := ⟨gb121, _, none⟩) (by exact Nat.ne_of_lt (Nat.lt_of_lt_of_le (by have := World.block_lt_of_cell? _ _ hw118_1; first | rwa [add_block] at this | exact this) GW121.out)) _).trans (((cell_far (p := ⟨gb121, _, none⟩) (by exact Nat.ne_of_lt (Nat.lt_of_lt_of_le (by have := World.block_lt_of_cell? _ _ hw118_1; first | rwa [add_block] at this | exact this) GW121.out)) _).trans (((cell_far (p := ⟨gb121, _, none⟩) (by exact Nat.ne_of_lt (Nat.lt_of_lt_of_le (by have := World.block_lt_of_cell? _ _ hw118_1; first | rwa [add_block] at this | exact this) GW121.out)) _).trans (((cell_far (p := ⟨gb121, _, none⟩) (by exact Nat.ne_of_lt (Nat.lt_of_lt_of_le (by have := World.block_lt_of_cell? _ _ hw118_1; first | rwa [add_block] at this | exact this) GW121.out)) _).trans (hHeld.2.1)))))))), ((cell_far (p := ⟨gb121, _, none⟩) (by exact Nat.ne_of_lt (Nat.lt_of_lt_of_le (by have := World.block_lt_of_cell? _ _ hw118_2; first | rwa [add_block] at this | exact this) GW121.out)) _).trans (((cell_far (p := ⟨gb121, _, none⟩) (by exact Nat.ne_of_lt (Nat.lt_of_lt_of_le (by have := World.block_lt_of_cell? _ _ hw118_2; first | rwa [add_block] at this | exact this) GW121.out)) _).trans (((cell_far (p := ⟨gb121, _, none⟩) (by exact Nat.ne_of_lt (Nat.lt_of_lt_of_le (by have := World.block_lt_of_cell? _ _ hw118_2; first | rwa [add_block] at this | exact this) GW121.out)) _).trans (((cell_far (p := ⟨gb121, _, none⟩) (by exact Nat.ne_of_lt (Nat.lt_of_lt_of_le (by have := World.block_lt_of_cell? _ _ hw118_2; first | rwa [add_block] at this | exact this) GW121.out)) _).trans (hHeld.2.2.1)))))))), ((cell_far (p := ⟨gb121, _, none⟩) (by exact Nat.ne_of_lt (Nat.lt_of_lt_of_le (by have := World.block_lt_of_cell? _ _ hw118_3; first | rwa [add_block] at this | exact this) GW121.out)) _).trans (((cell_far (p := ⟨gb121, _, none⟩) (by exact Nat.ne_of_lt (Nat.lt_of_lt_of_le (by have := World.block_lt_of_cell? _ _ hw118_3; first | rwa [add_block] at this | exact this) GW121.out)) _).trans (((cell_far (p := ⟨gb121, _, none⟩) (by exact Nat.ne_of_lt (Nat.lt_of_lt_of_le (by have := World.block_lt_of_cell? _ _ hw118_3; first | rwa [add_block] at this | exact this) GW121.out)) _).trans (((cell_far (p := ⟨gb121, _, none⟩) (by exact Nat.ne_of_lt (Nat.lt_of_lt_of_le (by have := World.block_lt_of_cell? _ _ hw118_3; first | rwa [add_block] at this | exact this) GW121.out)) _).trans (hHeld.2.2.2.1)))))))), ((cell_far (p := ⟨gb121, _, none⟩) (by exact Nat.ne_of_lt (Nat.lt_of_lt_of_le (by have := World.block_lt_of_cell? _ _ hw119_0; first | rwa [add_block] at this | exact this) GW121.out)) _).trans (((cell_far (p := ⟨gb121, _, none⟩) (by exact Nat.ne_of_lt (Nat.lt_of_lt_of_le (by have := World.block_lt_of_cell? _ _ hw119_0; first | rwa [add_block] at this | exact this) GW121.out)) _).trans (((cell_far (p := ⟨gb121, _, none⟩) (by exact Nat.ne_of_lt (Nat.lt_of_lt_of_le (by have := World.block_lt_of_cell? _ _ hw119_0; first | rwa [add_block] at this | exact this) GW121.out)) _).trans (((cell_far (p := ⟨gb121, _, none⟩) (by exact Nat.ne_of_lt (Nat.lt_of_lt_of_le (by have := World.block_lt_of_cell? _ _ hw119_0; first | rwa [add_block] at this | exact this) GW121.out)) _).trans (hHeld.2.2.2.2.1)))))))), ((cell_far (p := ⟨gb121, _, none⟩) (by exact Nat.ne_of_lt (Nat.lt_of_lt_of_le (by have := World.block_lt_of_cell? _ _ hw119_1; first | rwa [add_block] at this | exact this) GW121.out)) _).trans (((cell_far (p := ⟨gb121, _, none⟩) (by exact Nat.ne_of_lt (Nat.lt_of_lt_of_le (by have := World.block_lt_of_cell? _ _ hw119_1; first | rwa [add_block] at this | exact this) GW121.out)) _).trans (((cell_far (p := ⟨gb121, _, none⟩) (by exact Nat.ne_of_lt (Nat.lt_of_lt_of_le (by have := World.block_lt_of_cell? _ _ hw119_1; first | rwa [add_block] at this | exact this) GW121.out)) _).trans (((cell_far (p := ⟨gb121, _, none⟩) (by exact Nat.ne_of_lt (Nat.lt_of_lt_of_le (by have := World.block_lt_of_cell? _ _ hw119_1; first | rwa [add_block] at this | exact this) GW121.out)) _).trans (hHeld.2.2.2.2.2.1)))))))), ((cell_far (p := ⟨gb121, _, none⟩) (by exact Nat.ne_of_lt (Nat.lt_of_lt_of_le (by have := World.block_lt_of_cell? _ _ hw119_2; first | rwa [add_block] at this | exact this) GW121.out)) _).trans (((cell_far (p := ⟨gb121, _, none⟩) (by exact Nat.ne_of_lt (Nat.lt_of_lt_of_le (by have := World.block_lt_of_cell? _ _ hw119_2; first | rwa [add_block] at this | exact this) GW121.out)) _).trans (((cell_far (p := ⟨gb121, _, none⟩) (by exact Nat.ne_of_lt (Nat.lt_of_lt_of_le (by have := World.block_lt_of_cell? _ _ hw119_2; first | rwa [add_block] at this | exact this) GW121.out)) _).trans (((cell_far (p := ⟨gb121, _, none⟩) (by exact Nat.ne_of_lt (Nat.lt_of_lt_of_le (by have := World.block_lt_of_cell? _ _ hw119_2; first | rwa [add_block] at this | exact this) GW121.out)) _).trans (hHeld.2.2.2.2.2.2.1)))))))), ((cell_far (p := ⟨gb121, _, none⟩) (by exact Nat.ne_of_lt (Nat.lt_of_lt_of_le (by have := World.block_lt_of_cell? _ _ hw119_3; first | rwa [add_block] at this | exact this) GW121.out)) _).trans (((cell_far (p := ⟨gb121, _, none⟩) (by exact Nat.ne_of_lt (Nat.lt_of_lt_of_le (by have := World.block_lt_of_cell? _ _ hw119_3; first | rwa [add_block] at this | exact this) GW121.out)) _).trans (((cell_far (p := ⟨gb121, _, none⟩) (by exact Nat.ne_of_lt (Nat.lt_of_lt_of_le (by have := World.block_lt_of_cell? _ _ hw119_3; first | rwa [add_block] at this | exact this) GW121.out)) _).trans (((cell_far (p := ⟨gb121, _, none⟩) (by exact Nat.ne_of_lt (Nat.lt_of_lt_of_le (by have := World.block_lt_of_cell? _ _ hw119_3; first | rwa [add_block] at this | exact this) GW121.out)) _).trans (hHeld.2.2.2.2.2.2.2.1)))))))), ((cell_far (p := ⟨gb121, _, none⟩) (by exact Nat.ne_of_lt (Nat.lt_of_lt_of_le (by have := World.block_lt_of_cell? _ _ hw120_0; first | rwa [add_block] at this | exact this) GW121.out)) _).trans (((cell_far (p := ⟨gb121, _, none⟩) (by exact Nat.ne_of_lt (Nat.lt_of_lt_of_le (by have := World.block_lt_of_cell? _ _ hw120_0; first | rwa [add_block] at this | exact this) GW121.out)) _).trans (((cell_far (p := ⟨gb121, _, none⟩) (by exact Nat.ne_of_lt (Nat.lt_of_lt_of_le (by have := World.block_lt_of_cell? _ _ hw120_0; first | rwa [add_block] at this | exact this) GW121.out)) _).trans (((cell_far (p := ⟨gb121, _, none⟩) (by exact Nat.ne_of_lt (Nat.lt_of_lt_of_le (by have := World.block_lt_of_cell? _ _ hw120_0; first | rwa [add_block] at this | exact this) GW121.out)) _).trans (hHeld.2.2.2.2.2.2.2.2.1)))))))), ((cell_far (p := ⟨gb121, _, none⟩) (by exact Nat.ne_of_lt (Nat.lt_of_lt_of_le (by have := World.block_lt_of_cell? _ _ hw120_1; first | rwa [add_block] at this | exact this) GW121.out)) _).trans (((cell_far (p := ⟨gb121, _, none⟩) (by exact Nat.ne_of_lt (Nat.lt_of_lt_of_le (by have := World.block_lt_of_cell? _ _ hw120_1; first | rwa [add_block] at this | exact this) GW121.out)) _).trans (((cell_far (p := ⟨gb121, _, none⟩) (by exact Nat.ne_of_lt (Nat.lt_of_lt_of_le (by have := World.block_lt_of_cell? _ _ hw120_1; first | rwa [add_block] at this | exact this) GW121.out)) _).trans (((cell_far (p := ⟨gb121, _, none⟩) (by exact Nat.ne_of_lt (Nat.lt_of_lt_of_le (by have := World.block_lt_of_cell? _ _ hw120_1; first | rwa [add_block] at this | exact this) GW121.out)) _).trans (hHeld.2.2.2.2.2.2.2.2.2.1)))))))), ((cell_far (p := ⟨gb121, _, none⟩) (by exact Nat.ne_of_lt (Nat.lt_of_lt_of_le (by have := World.block_lt_of_cell? _ _ hw120_2; first | rwa [add_block] at this | exact this) GW121.out)) _).trans (((cell_far (p := ⟨gb121, _, none⟩) (by exact Nat.ne_of_lt (Nat.lt_of_lt_of_le (by have := World.block_lt_of_cell? _ _ hw120_2; first | rwa [add_block] at this | exact this) GW121.out)) _).trans (((cell_far (p := ⟨gb121, _, none⟩) (by exact Nat.ne_of_lt (Nat.lt_of_lt_of_le (by have := World.block_lt_of_cell? _ _ hw120_2; first | rwa [add_block] at this | exact this) GW121.out)) _).trans (((cell_far (p := ⟨gb121, _, none⟩) (by exact Nat.ne_of_lt (Nat.lt_of_lt_of_le (by have := World.block_lt_of_cell? _ _ hw120_2; first | rwa [add_block] at this | exact this) GW121.out)) _).trans (hHeld.2.2.2.2.2.2.2.2.2.2.1)))))))), ((cell_far (p := ⟨gb121, _, none⟩) (by exact Nat.ne_of_lt (Nat.lt_of_lt_of_le (by have := World.block_lt_of_cell? _ _ hw120_3; first | rwa [add_block] at this | exact this) GW121.out)) _).trans (((cell_far (p := ⟨gb121, _, none⟩) (by exact Nat.ne_of_lt (Nat.lt_of_lt_of_le (by have := World.block_lt_of_cell? _ _ hw120_3; first | rwa [add_block] at this | exact this) GW121.out)) _).trans (((cell_far (p := ⟨gb121, _, none⟩) (by exact Nat.ne_of_lt (Nat.lt_of_lt_of_le (by have := World.block_lt_of_cell? _ _ hw120_3; first | rwa [add_block] at this | exact this) GW121.out)) _).trans (((cell_far (p := ⟨gb121, _, none⟩) (by exact Nat.ne_of_lt (Nat.lt_of_lt_of_le (by have := World.block_lt_of_cell? _ _ hw120_3; first | rwa [add_block] at this | exact this) GW121.out)) _).trans (hHeld.2.2.2.2.2.2.2.2.2.2.2))))))))⟩ (fun hHeld => ?_)
                clear hK K
                refine done_ (done_of HT_.out (by kernel_rfl)) ?_
                have hcz70_0 : w65.cell? ⟨gb121, 0, none⟩ = some (.int .i64 0) := (blk_cell BK121.out 0).trans rfl
                have hcz70_1 : w65.cell? ⟨gb121, 1, none⟩ = some (.bool false) := (blk_cell BK121.out 1).trans rfl
                have hcz70_2 : w65.cell? ⟨gb121, 2, none⟩ = some (.string (⟨#[]⟩ : ByteArray)) := (blk_cell BK121.out 2).trans rfl
                have hcz70_3 : w65.cell? ⟨gb121, 3, none⟩ = some (.slice none 0 0) := (blk_cell BK121.out 3).trans rfl
                have hfz70_0 := blk_frozen BK121.out 0
                have hfz70_1 := blk_frozen BK121.out 1
                have hfz70_2 := blk_frozen BK121.out 2
                have hfz70_3 := blk_frozen BK121.out 3
                try go_wp2_with (first | ((with_reducible refine gate_callee (f := 32) rfl ?_); refine goesL_ (some 89) rfl rfl Tryd.func32 (by kernel_rfl) rfl #[.agg #[.int .i64 ((rd_T29 l0 x1_1).f1), .bool ((rd_T29 l0 x1_1).f2), .string ((rd_T29 l0 x1_1).f3), .slice none 0 0]] rfl (by (try simp only [List.map_toArray, List.map_cons, List.map_nil]); first | done | rfl | (simp only [List.length_drop, List.length_take]; rfl)) ?_; (refine (depotref06_Own.calls ((rd_T29 l0 x1_1).f1) ((rd_T29 l0 x1_1).f2) ((rd_T29 l0 x1_1).f3) _ _ ([] : List (S63)) t122 t123 _ ?side1 ?side2 A31.out).mono ?_); (case side1 => exact Kd.C_nil _ _); (case side2 => exact Nat.le_refl _); rintro e w71 ⟨rfl, hb⟩; refine ⟨_, rfl, ?_⟩; have n0_ := Aside0.mk (Kd.R_below (by (with_reducible repeat (first | apply Kd.R_alloc | apply Kd.R_drewN | apply Kd.R_drew)); exact (Kd.R_mono (Kd.R_far (p := ⟨gb121, 3, none⟩) (Kd.R_far (p := ⟨gb121, 2, none⟩) (Kd.R_far (p := ⟨gb121, 1, none⟩) (Kd.R_far (p := ⟨gb121, 0, none⟩) (Kd.R_types HO_8.out BK121.out (by decide)) (fun _ hk => hk.2) (.int .i64 ((rd_T29 l0 x1_1).f1))) (fun _ hk => hk.2) (.bool ((rd_T29 l0 x1_1).f2))) (fun _ hk => hk.2) (.string ((rd_T29 l0 x1_1).f3))) (fun _ hk => hk.2) (.slice none 0 0)) (fun _ h_ => h_.1))) hb); have n1_ := Aside0.mk (Kd.R_below (by (with_reducible repeat (first | apply Kd.R_alloc | apply Kd.R_drewN | apply Kd.R_drew)); exact (Kd.R_mono (Kd.R_far (p := ⟨gb121, 3, none⟩) (Kd.R_far (p := ⟨gb121, 2, none⟩) (Kd.R_far (p := ⟨gb121, 1, none⟩) (Kd.R_far (p := ⟨gb121, 0, none⟩) (Kd.R_types HO_9.out BK121.out (by decide)) (fun _ hk => hk.2) (.int .i64 ((rd_T29 l0 x1_1).f1))) (fun _ hk => hk.2) (.bool ((rd_T29 l0 x1_1).f2))) (fun _ hk => hk.2) (.string ((rd_T29 l0 x1_1).f3))) (fun _ hk => hk.2) (.slice none 0 0)) (fun _ h_ => h_.1))) hb); have n2_ := Aside0.mk (blk_below (g := gb121) (o := .cells #[.int .i64 ((rd_T29 l0 x1_1).f1), .bool ((rd_T29 l0 x1_1).f2), .string ((rd_T29 l0 x1_1).f3), .slice none 0 0] 32 (0, 0)) (by (with_reducible repeat (first | refine blk_drewN ?_ _ | refine blk_drew ?_ | refine blk_alloc ?_ _)); refine blk_put (cs := #[.int .i64 ((rd_T29 l0 x1_1).f1), .bool ((rd_T29 l0 x1_1).f2), .string ((rd_T29 l0 x1_1).f3), .slice none 0 0]) ?_ 3 _ rfl; (with_reducible repeat (first | refine blk_drewN ?_ _ | refine blk_drew ?_ | refine blk_alloc ?_ _)); refine blk_put (cs := #[.int .i64 ((rd_T29 l0 x1_1).f1), .bool ((rd_T29 l0 x1_1).f2), .string (⟨#[]⟩ : ByteArray), .slice none 0 0]) ?_ 2 _ rfl; (with_reducible repeat (first | refine blk_drewN ?_ _ | refine blk_drew ?_ | refine blk_alloc ?_ _)); refine blk_put (cs := #[.int .i64 ((rd_T29 l0 x1_1).f1), .bool false, .string (⟨#[]⟩ : ByteArray), .slice none 0 0]) ?_ 1 _ rfl; (with_reducible repeat (first | refine blk_drewN ?_ _ | refine blk_drew ?_ | refine blk_alloc ?_ _)); refine blk_put (cs := #[.int .i64 0, .bool false, .string (⟨#[]⟩ : ByteArray), .slice none 0 0]) ?_ 0 _ rfl; (with_reducible repeat (first | refine blk_drewN ?_ _ | refine blk_drew ?_ | refine blk_alloc ?_ _)); exact BK121.out) hb); have n3_ := Aside0.mk (below_step (by repeat (first | (with_reducible first | exact HB.out | apply below_alloc | apply pw_below_drewN | apply below_drew1 | refine below_set ?_ GE121.out) | exact HB.out)) hb); clear HO_8; clear HO_9; clear BK121; clear HB; have HO_8 := n0_; have HO_9 := n1_; have BK121 := n2_; have HB := n3_; clear n0_ n1_ n2_ n3_; (try clear hb); (try clear hb2); (try clear hk); (try clear hi)))
                go_ret2
                exact ⟨_, by first | rfl | (simp [errW_none, errW_some] <;> rfl) | (simp only [← hji15]; first | rfl | (simp [errW_none, errW_some] <;> rfl)) | (simp [*, errW_none, errW_some] <;> rfl), by (with_reducible repeat (first | apply Kd.R_alloc | apply Kd.R_drewN | apply Kd.R_drew)); exact HO_8.out, by repeat (first | (with_reducible first | exact HB.out | apply below_alloc | apply pw_below_drewN | apply below_drew1 | refine below_set ?_ GE121.out) | exact HB.out)⟩
              ·rw [if_neg c30] at H
               exact absurd H (by simp)
             ·rw [if_neg c29] at H
              exact absurd H (by simp)
         ·rw [if_neg c17] at H
          exact absurd H (by simp)
        ·rw [if_neg c16] at H
         exact absurd H (by simp)
    ·rw [if_neg c5] at H
     exact absurd H (by simp)
   ·rw [if_neg c4] at H
    have c4b0 : decide (x1_1 < (l0.length : Int)) = false := decide_eq_false c4
    clear c4
    simp only [Option.some.injEq, Prod.mk.injEq] at H
    obtain ⟨rfl, rfl⟩ := H
    go_wp2
    go_ret2
    exact ⟨_, by first | rfl | (simp [errW_none, errW_some] <;> rfl) | (simp [*, errW_none, errW_some] <;> rfl), by (with_reducible repeat (first | apply Kd.R_alloc | apply Kd.R_drewN | apply Kd.R_drew)); exact HO_8.out, by repeat (first | (with_reducible first | exact HB.out | apply below_alloc | apply pw_below_drewN | apply below_drew1) | exact HB.out)⟩
end
end Go.Proofs.YtnemeeidomceiaaDoor.PGTreeGets
