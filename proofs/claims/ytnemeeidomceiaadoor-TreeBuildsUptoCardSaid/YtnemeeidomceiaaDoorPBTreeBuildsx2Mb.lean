import Derived.Test.YtnemeeidomceiaaDoorMb10
import Derived.Test.YtnemeeidomceiaaDoorMb11
set_option linter.unusedSimpArgs false
set_option linter.unusedVariables false
namespace Go.Proofs.YtnemeeidomceiaaDoor.PBTreeBuilds
open Go.RowKit Go.Proofs.YtnemeeidomceiaaDoorW.PrintWords Go.Proofs.YtnemeeidomceiaaDoorW.PrintLast Go.Proofs.YtnemeeidomceiaaDoorW.PrintMore
attribute [local go_sem] max2_int min2_int max_two min_two max_three min_three max_four min_four   -- for this text's walks alone
set_option linter.unusedVariables false
set_option linter.unusedSimpArgs false
noncomputable section
mutual
def depotref06_gather.l0 : Nat → List (S29) → Int → List ByteArray → List (S63) → Option ((List (S63)) × Int)
 | 0, _, _, _, _ => none
 | k + 1, x0, x1, x2, x8 => if x1 < (x0.length : Int) then (if 0 ≤ x1 then ((depotref05_Split.f k ((rd_T29 x0 x1).f0)).bind fun bt111 => (if bt111.2.1 = 0 then (if (bt111.1.length : Int) = (wrap64 ((x2.length : Int) + 1)) then ((depotref06_begins.f k bt111.1 x2).bind fun t116 => (depotref06_gather.j1 k x0 x1 x2 x8 bt111.1 (!t116))) else (depotref06_gather.j1 k x0 x1 x2 x8 bt111.1 true)) else (depotref06_gather.j1 k x0 x1 x2 x8 bt111.1 true))) else (none)) else (some (x8, x1))
def depotref06_gather.j1 : Nat → List (S29) → Int → List ByteArray → List (S63) → List ByteArray → Bool → Option ((List (S63)) × Int)
 | 0, _, _, _, _, _, _ => none
 | k + 1, x0, x1, x2, x8, x9, x45 => if x45 = true then (some (x8, x1)) else (if 0 ≤ (wrap64 ((x9.length : Int) - 1)) then (if (wrap64 ((x9.length : Int) - 1)) < (x9.length : Int) then (if (x8.length : Int) > 0 then (if 0 ≤ (wrap64 ((x8.length : Int) - 1)) then (if (wrap64 ((x8.length : Int) - 1)) < (x8.length : Int) then ((depotref05_Compare.f k ((rd_T63 x8 (wrap64 ((x8.length : Int) - 1))).f0) (rdOf ByteArray.empty x9 (wrap64 ((x9.length : Int) - 1)))).bind fun t119 => (depotref06_gather.j2 k x0 x1 x2 x8 x9 (rdOf ByteArray.empty x9 (wrap64 ((x9.length : Int) - 1))) (decide (t119 ≥ 0)))) else (none)) else (none)) else (depotref06_gather.j2 k x0 x1 x2 x8 x9 (rdOf ByteArray.empty x9 (wrap64 ((x9.length : Int) - 1))) false)) else (none)) else (none))
def depotref06_gather.j2 : Nat → List (S29) → Int → List ByteArray → List (S63) → List ByteArray → ByteArray → Bool → Option ((List (S63)) × Int)
 | 0, _, _, _, _, _, _, _ => none
 | k + 1, x0, x1, x2, x8, x9, x12, x68 => if x68 = true then (some (x8, x1)) else (if 0 ≤ x1 then (if x1 < (x0.length : Int) then ((depotref06_Own.f ((rd_T29 x0 x1).f1) ((rd_T29 x0 x1).f2) ((rd_T29 x0 x1).f3) ([] : List (S63))).bind fun bt124 => (if bt124.1 = 0 then (if 0 ≤ (wrap64 ((wrap64 (x1 + 1)) - 1)) then (if (wrap64 ((wrap64 (x1 + 1)) - 1)) < (x0.length : Int) then (if ((rd_T29 x0 (wrap64 ((wrap64 (x1 + 1)) - 1))).f1) = 3 then ((depotref06_gather.f k x0 (wrap64 (x1 + 1)) x9).bind fun bt127 => (if x8.length < 1954687338268 then (depotref06_gather.l0 k x0 bt127.2 x2 (x8 ++ [(⟨x12, (rd_T29 x0 x1).f1, (rd_T29 x0 x1).f2, (rd_T29 x0 x1).f3, bt127.1⟩ : S63)])) else (none))) else (if x8.length < 1954687338268 then (depotref06_gather.l0 k x0 (wrap64 (x1 + 1)) x2 (x8 ++ [(⟨x12, (rd_T29 x0 x1).f1, (rd_T29 x0 x1).f2, (rd_T29 x0 x1).f3, ([] : List (S63))⟩ : S63)])) else (none))) else (none)) else (none)) else (some (x8, x1)))) else (none)) else (none))
def depotref06_gather.f : Nat → List (S29) → Int → List ByteArray → Option ((List (S63)) × Int)
 | 0, _, _, _ => none
 | k + 1, l0, a1, l2 => depotref06_gather.l0 k l0 a1 l2 ([] : List (S63))
end
def depotref06_gather.T9 : Bool × List (List Nat × List Nat) := (true, [([], []), ([], []), ([0, 1], [0, 1]), ([2], [2]), ([3], [3]), ([], []), ([], []), ([5, 6], [5, 6]), ([7], [7]), ([8], [8]), ([], []), ([], []), ([10, 11], [10, 11]), ([12], [12]), ([13], [13]), ([4, 9, 14], [4, 9, 14]), ([], []), ([16, 15, 0, 1, 2, 3, 4, 5, 6, 7, 8, 9, 10, 11, 12, 13, 14, 15, 16], [15, 16])])
def depotref06_gather.B9 : List Nat := [0, 0, 3, 7, 15, 0, 0, 96, 224, 480, 0, 0, 3072, 7168, 15360, 32767, 0, 131071]
theorem depotref06_gather.tab9 : rtab .any (opsOf Tryd.f33 9) = depotref06_gather.T9 := by kernel_rfl
theorem depotref06_gather.bits9 : waitsOk depotref06_gather.T9.2 depotref06_gather.B9 = true := by kernel_rfl
set_option maxHeartbeats 8000000 in
set_option maxRecDepth 100000 in
theorem depotref06_gather.calls (k : Nat) : ∀ (A0 : Option Addr) (c0 : Nat) (l0 : List (S29)) (a1 : Int) (A2 : Option Addr) (c2 : Nat) (l2 : List ByteArray) (r1 : List (S63)) (r2 : Int) (w : World) (hr0 : Kd.C k29 w A0 l0.length l0) (hc0 : l0.length ≤ c0) (hr2 : Kd.C Kd.string w A2 l2.length l2) (hc2 : l2.length ≤ c2) (h : depotref06_gather.f k l0 a1 l2 = some (r1, r2)),
  Calls Tryd.prog 33 #[.slice A0 l0.length c0, .int .i64 a1, .slice A2 l2.length c2] w fun e w' => ∃ v0_ : Value, e = .returned (.tuple #[v0_, .int .i64 r2]) ∧ Kd.R k63 63 w' w.heap.size (fun _ => True) v0_ r1 ∧ Below w.heap.size w w' := by
 induction k using Nat.strongRecOn with
 | _ k ih =>
 intro A0 c0 l0 a1 A2 c2 l2 r1 r2 w hr0 hc0 hr2 hc2 h
 cases k with
 | zero => exact absurd h (by simp [depotref06_gather.f])
 | succ k =>
 simp only [depotref06_gather.f] at h
 have hu32 := Tryd.underlying32
 have hu63 := Tryd.underlying63
 have HR0 := Aside0.mk hr0
 have HC0 := Aside0.mk hc0
 clear hr0 hc0
 have HR2 := Aside0.mk hr2
 have HC2 := Aside0.mk hc2
 clear hr2 hc2
 have HB := Aside0.mk (Below.refl w.heap.size w)
 have H : (depotref06_gather.l0 k l0 a1 l2 ([] : List (S63))) = some (r1, r2) := h
 clear h
 have H' := Aside0.mk H
 clear H
 go_enter Tryd.func33, Tryd.ntmps33
 go_wp2
 go_loopg [1, 8] k (fun kq v1 v8 w' => ∃ (x1_1 : Int) (x8_1 : List (S63)), v1 = .int .i64 x1_1 ∧ Aside0 (depotref06_gather.l0 kq l0 x1_1 l2 x8_1 = some (r1, r2)) ∧ Aside0 (kq ≤ k) ∧ Aside0 (Kd.R k63 63 w' w.heap.size (fun _ => True) v8 x8_1) ∧ Aside0 (Below w.heap.size w w'))
 case atStart => exact ⟨(a1), (([] : List (S63))), (by first | rfl | (simp; done) | (simp [*]; done)), H', ⟨Nat.le_refl _⟩, ⟨by first | exact Kd.R_nil _ _ _ _ _ | exact Kd.N_nil _ _ _ _ _ | exact Kd.V_nil _ _ _ _ _ | exact Kd.Q_nil _ _ _ _ _ | exact Kd.S_nil _ _ _ _ _⟩, ⟨by repeat (first | (with_reducible first | exact HB.out | apply below_alloc | apply pw_below_drewN | apply below_drew1) | exact HB.out)⟩⟩
 case round =>
  clear H'
  try clear c2
  try clear p2
  try clear c3
  obtain ⟨x1_1, x8_1, rfl, HA, HK1, HO_8, HB⟩ := hrel
  cases gk with
  | zero => exact absurd HA.out (by simp [depotref06_gather.l0])
  | succ k1 =>
   have H := HA.out
   clear HA
   simp only [depotref06_gather.l0] at H
   by_cases c4 : x1_1 < (l0.length : Int)
   ·rw [if_pos c4] at H
    have c4b0 : decide (x1_1 < (l0.length : Int)) = true := decide_eq_true c4
    clear c4
    by_cases c5 : 0 ≤ x1_1
    ·rw [if_pos c5] at H
     have c5b0 : decide (0 ≤ x1_1) = true := decide_eq_true c5
     clear c5
     replace H := Option.bind_eq_some_iff.mp H
     obtain ⟨⟨t111, t112, t113⟩, A60, H⟩ := H
     replace H : (if t112 = 0 then (if (t111.length : Int) = (wrap64 ((l2.length : Int) + 1)) then ((depotref06_begins.f k1 t111 l2).bind fun t116 => (depotref06_gather.j1 k1 l0 x1_1 l2 x8_1 t111 (!t116))) else (depotref06_gather.j1 k1 l0 x1_1 l2 x8_1 t111 true)) else (depotref06_gather.j1 k1 l0 x1_1 l2 x8_1 t111 true)) = some (r1, r2) := H
     have A6 := Aside0.mk A60
     clear A60
     have HC7 := Aside0.mk H
     clear H
     have p110 : 0 ≤ (x1_1 : Int) := of_decide_eq_true (by first | (with_reducible assumption) | assumption)
     have q110 : x1_1 < (l0.length : Int) := of_decide_eq_true (by first | (with_reducible assumption) | assumption)
     obtain ⟨ad110, e110, hx110_0, hx110_1, hx110_2, hx110_3⟩ := at_T29 HR0.out x1_1 p110 q110
     cases e110
     replace hx110_0 := (HB.out.cell (World.block_lt_of_cell? w _ hx110_0)).trans hx110_0
     replace hx110_1 := (HB.out.cell (World.block_lt_of_cell? w _ hx110_1)).trans hx110_1
     replace hx110_2 := (HB.out.cell (World.block_lt_of_cell? w _ hx110_2)).trans hx110_2
     replace hx110_3 := (HB.out.cell (World.block_lt_of_cell? w _ hx110_3)).trans hx110_3
     replace p110 := eq_true p110
     replace q110 := eq_true q110
     go_upto_region 4 with (first | ((with_reducible refine gate_callee (f := 40) rfl ?_); refine goesL_ (some 26) rfl rfl Tryd.func40 (by kernel_rfl) rfl #[.string ((rd_T29 l0 x1_1).f0)] rfl (by (try simp only [List.map_toArray, List.map_cons, List.map_nil]); first | done | rfl | (simp only [List.length_drop, List.length_take]; rfl)) ?_; (with_reducible refine (depotref05_Split.calls k1 ((rd_T29 l0 x1_1).f0) t111 t112 t113 _ A6.out).mono ?_); rintro e w8 ⟨v114, rfl, ho0, hb⟩; refine ⟨_, rfl, ?_⟩; have n0_ := Aside0.mk (Kd.R_below (by (with_reducible repeat (first | apply Kd.R_alloc | apply Kd.R_drewN | apply Kd.R_drew)); exact HO_8.out) hb); have n1_ := Aside0.mk (Kd.R_lower ho0 (below_size (by repeat (first | (with_reducible first | exact HB.out | apply below_alloc | apply pw_below_drewN | apply below_drew1) | exact HB.out)))); have n2_ := Aside0.mk (below_step (by repeat (first | (with_reducible first | exact HB.out | apply below_alloc | apply pw_below_drewN | apply below_drew1) | exact HB.out)) hb); clear HO_8; clear HB; have HO_8 := n0_; have HO115 := n1_; have HB := n2_; clear n0_ n1_ n2_; (try clear hb); (try clear hb2); (try clear hk); (try clear hi); (try clear ho0)))
     (try simp only [Act.put, List.setIfInBounds_toArray, List.set_cons_zero, List.set_cons_succ])
     go_cut [45] (fun v45 wc => ∃ (kq : Nat) (x45_6 : Bool), v45 = .bool x45_6 ∧ Aside0 (depotref06_gather.j1 kq l0 x1_1 l2 x8_1 t111 x45_6 = some (r1, r2)) ∧ Aside0 (kq ≤ k1) ∧ Aside0 (Kd.R k63 63 wc w.heap.size (fun _ => True) u8 x8_1) ∧ Aside0 (Kd.R Kd.string 9 wc w.heap.size (fun _ => True) v114 t111) ∧ Aside0 (Below w.heap.size w wc))
     case first =>
      have H := HC7.out
      clear HC7
      by_cases c9 : t112 = 0
      ·rw [if_pos c9] at H
       have c9b0 : (t112 == 0) = true := beq_iff_eq.mpr c9
       have c9b1 : (t112 != 0) = false := bne_eq_false_iff_eq.mpr c9
       clear c9
       (first | rw [c9b0] | (simp only [i64_w, i32_w]; rw [c9b0]) | skip)
       by_cases c10 : (t111.length : Int) = (wrap64 ((l2.length : Int) + 1))
       ·rw [if_pos c10] at H
        have c10b0 : ((t111.length : Int) == (wrap64 ((l2.length : Int) + 1))) = true := beq_iff_eq.mpr c10
        have c10b1 : ((t111.length : Int) != (wrap64 ((l2.length : Int) + 1))) = false := bne_eq_false_iff_eq.mpr c10
        clear c10
        replace H := Option.bind_eq_some_iff.mp H
        obtain ⟨t116, A110, H⟩ := H
        replace H : (depotref06_gather.j1 k1 l0 x1_1 l2 x8_1 t111 (!t116)) = some (r1, r2) := H
        have A11 := Aside0.mk A110
        clear A110
        have H' := Aside0.mk H
        clear H
        obtain ⟨Ao12, co12, eo12⟩ := Kd.R_slice HO115.out
        subst eo12
        go_wp2_with (first | (go_at_call 58; (with_reducible refine (depotref06_begins.calls k1 _ _ t111 _ _ l2 t116 _ ?side1 ?side2 ?side3 ?side4 A11.out).mono ?_); (case side1 => repeat (first | exact (Kd.R_reads' HO115.out).2.2 | (with_reducible refine Kd.C_alloc ?_ _) | (with_reducible refine Kd.C_drewN ?_ _) | (with_reducible refine Kd.C_drew ?_))); (case side2 => exact (Kd.R_reads' HO115.out).2.1); (case side3 => repeat (first | exact (Kd.C_below HR2.out HB.out) | (with_reducible refine Kd.C_alloc ?_ _) | (with_reducible refine Kd.C_drewN ?_ _) | (with_reducible refine Kd.C_drew ?_))); (case side4 => exact HC2.out); rintro e w' ⟨rfl, ⟨nd, rfl⟩⟩))
        go_meet
        case rel => exact ⟨_, (!t116), (by first | rfl | (simp; (try clear A11); done) | (simp [*]; done)), H', ⟨by have := HK1.out; first | omega | exact Nat.le_refl _⟩, ⟨by (with_reducible repeat (first | apply Kd.R_alloc | apply Kd.R_drewN | apply Kd.R_drew)); exact HO_8.out⟩, ⟨by (with_reducible repeat (first | apply Kd.R_alloc | apply Kd.R_drewN | apply Kd.R_drew)); exact HO115.out⟩, ⟨by repeat (first | (with_reducible first | exact HB.out | apply below_alloc | apply pw_below_drewN | apply below_drew1) | exact HB.out)⟩⟩
       ·rw [if_neg c10] at H
        have c10b0 : ((t111.length : Int) == (wrap64 ((l2.length : Int) + 1))) = false := beq_eq_false_iff_ne.mpr c10
        have c10b1 : ((t111.length : Int) != (wrap64 ((l2.length : Int) + 1))) = true := bne_iff_ne.mpr c10
        have H' := Aside0.mk H
        clear H
        obtain ⟨Ao13, co13, eo13⟩ := Kd.R_slice HO115.out
        subst eo13
        go_wp2
        go_meet
        case rel => exact ⟨_, (true), (by first | rfl | (simp; done) | (simp [*]; done)), H', ⟨by have := HK1.out; first | omega | exact Nat.le_refl _⟩, ⟨by (with_reducible repeat (first | apply Kd.R_alloc | apply Kd.R_drewN | apply Kd.R_drew)); exact HO_8.out⟩, ⟨by (with_reducible repeat (first | apply Kd.R_alloc | apply Kd.R_drewN | apply Kd.R_drew)); exact HO115.out⟩, ⟨by repeat (first | (with_reducible first | exact HB.out | apply below_alloc | apply pw_below_drewN | apply below_drew1) | exact HB.out)⟩⟩
      ·rw [if_neg c9] at H
       have c9b0 : (t112 == 0) = false := beq_eq_false_iff_ne.mpr c9
       have c9b1 : (t112 != 0) = true := bne_iff_ne.mpr c9
       (first | rw [c9b0] | (simp only [i64_w, i32_w]; rw [c9b0]) | skip)
       have H' := Aside0.mk H
       clear H
       go_wp2
       go_meet
       case rel => exact ⟨_, (true), (by first | rfl | (simp; done) | (simp [*]; done)), H', ⟨by have := HK1.out; first | omega | exact Nat.le_refl _⟩, ⟨by (with_reducible repeat (first | apply Kd.R_alloc | apply Kd.R_drewN | apply Kd.R_drew)); exact HO_8.out⟩, ⟨by (with_reducible repeat (first | apply Kd.R_alloc | apply Kd.R_drewN | apply Kd.R_drew)); exact HO115.out⟩, ⟨by repeat (first | (with_reducible first | exact HB.out | apply below_alloc | apply pw_below_drewN | apply below_drew1) | exact HB.out)⟩⟩
     case rest =>
      clear HC7
      try clear c1
      try clear p1
      try clear q1
      try clear hx1
      try clear c2
      try clear p2
      try clear c3
      try clear c4
      try clear c4b0
      try clear c5
      try clear c5b0
      try clear p6
      try clear c9
      try clear c9b0
      try clear c9b1
      try clear c10
      try clear c10b0
      try clear c10b1
      try clear p11
      try clear q11
      try clear hx11
      try clear hx110_0
      try clear hx110_1
      try clear hx110_2
      try clear hx110_3
      try clear p110
      try clear p2
      try clear q110
      obtain ⟨kq, x45_6, rfl, HA, HJ6, HO_8, HO_9, HB⟩ := hcut
      cases kq with
      | zero => exact absurd HA.out (by simp [depotref06_gather.j1])
      | succ kj6 =>
       have H := HA.out
       clear HA
       simp only [depotref06_gather.j1] at H
       by_cases c14 : x45_6 = true
       ·subst c14
        have H1 : (some (x8_1, x1_1)) = some (r1, r2) := by rw [if_pos rfl] at H; exact H
        clear H
        have H := H1
        clear H1
        simp only [Option.some.injEq, Prod.mk.injEq] at H
        obtain ⟨rfl, rfl⟩ := H
        go_wp2
        go_ret2
        exact ⟨_, by first | rfl | (simp [errW_none, errW_some] <;> rfl) | (simp [*, errW_none, errW_some] <;> rfl), by (with_reducible repeat (first | apply Kd.R_alloc | apply Kd.R_drewN | apply Kd.R_drew)); exact HO_8.out, by repeat (first | (with_reducible first | exact HB.out | apply below_alloc | apply pw_below_drewN | apply below_drew1) | exact HB.out)⟩
       ·replace c14 := Bool.eq_false_iff.mpr c14
        subst c14
        have H1 : (if 0 ≤ (wrap64 ((t111.length : Int) - 1)) then (if (wrap64 ((t111.length : Int) - 1)) < (t111.length : Int) then (if (x8_1.length : Int) > 0 then (if 0 ≤ (wrap64 ((x8_1.length : Int) - 1)) then (if (wrap64 ((x8_1.length : Int) - 1)) < (x8_1.length : Int) then ((depotref05_Compare.f kj6 ((rd_T63 x8_1 (wrap64 ((x8_1.length : Int) - 1))).f0) (rdOf ByteArray.empty t111 (wrap64 ((t111.length : Int) - 1)))).bind fun t119 => (depotref06_gather.j2 kj6 l0 x1_1 l2 x8_1 t111 (rdOf ByteArray.empty t111 (wrap64 ((t111.length : Int) - 1))) (decide (t119 ≥ 0)))) else (none)) else (none)) else (depotref06_gather.j2 kj6 l0 x1_1 l2 x8_1 t111 (rdOf ByteArray.empty t111 (wrap64 ((t111.length : Int) - 1))) false)) else (none)) else (none)) = some (r1, r2) := by rw [if_neg (show ¬ (false = true) by decide)] at H; exact H
        clear H
        have H := H1
        clear H1
        obtain ⟨ji15, hji15⟩ : ∃ j_ : Int, (wrap64 ((t111.length : Int) - 1)) = j_ := ⟨_, rfl⟩
        replace H : (if 0 ≤ (ji15) then (if (ji15) < (t111.length : Int) then (if (x8_1.length : Int) > 0 then (if 0 ≤ (wrap64 ((x8_1.length : Int) - 1)) then (if (wrap64 ((x8_1.length : Int) - 1)) < (x8_1.length : Int) then ((depotref05_Compare.f kj6 ((rd_T63 x8_1 (wrap64 ((x8_1.length : Int) - 1))).f0) (rdOf ByteArray.empty t111 (ji15))).bind fun t119 => (depotref06_gather.j2 kj6 l0 x1_1 l2 x8_1 t111 (rdOf ByteArray.empty t111 (ji15)) (decide (t119 ≥ 0)))) else (none)) else (none)) else (depotref06_gather.j2 kj6 l0 x1_1 l2 x8_1 t111 (rdOf ByteArray.empty t111 (ji15)) false)) else (none)) else (none)) = some (r1, r2) := by first | (rw [hji15] at H; exact H) | (simp only [hji15] at H ⊢; exact H)
        have hji15w : (IntKind.i64.wrap ((t111.length : Int) - 1)) = ji15 := (i64_w _).trans hji15
        by_cases c16 : 0 ≤ (ji15)
        ·rw [if_pos c16] at H
         have c16b0 : decide (0 ≤ (ji15)) = true := decide_eq_true c16
         clear c16
         by_cases c17 : (ji15) < (t111.length : Int)
         ·rw [if_pos c17] at H
          have c17b0 : decide ((ji15) < (t111.length : Int)) = true := decide_eq_true c17
          clear c17
          have HC18 := Aside0.mk H
          clear H
          obtain ⟨Ao19, co19, eo19⟩ := Kd.R_slice HO_9.out
          subst eo19
          have p117 : 0 ≤ ((ji15) : Int) := of_decide_eq_true (by first | (with_reducible assumption) | assumption)
          have q117 : (ji15) < (t111.length : Int) := of_decide_eq_true (by first | (with_reducible assumption) | assumption)
          obtain ⟨ad117, e117, hx117_0⟩ := Kd.at_string (Kd.R_reads' HO_9.out).2.2 (ji15) p117 q117
          cases e117
          replace p117 := eq_true p117
          replace q117 := eq_true q117
          go_upto_region 7 with (fail)
          go_cut [68] (fun v68 wc => ∃ (kq : Nat) (x68_17 : Bool), v68 = .bool x68_17 ∧ Aside0 (depotref06_gather.j2 kq l0 x1_1 l2 x8_1 t111 (rdOf ByteArray.empty t111 (ji15)) x68_17 = some (r1, r2)) ∧ Aside0 (kq ≤ kj6) ∧ Aside0 (Kd.R k63 63 wc w.heap.size (fun _ => True) u8 x8_1) ∧ Aside0 (Kd.R Kd.string 9 wc w.heap.size (fun _ => True) (.slice (some ad117) t111.length co19) t111) ∧ Aside0 (Below w.heap.size w wc))
          case first =>
           have H := HC18.out
           clear HC18
           by_cases c20 : (x8_1.length : Int) > 0
           ·rw [if_pos c20] at H
            have c20b0 : decide (0 < (x8_1.length : Int)) = true := decide_eq_true c20
            have c20b1 : decide (0 < x8_1.length) = true := decide_eq_true (by omega)
            clear c20
            (first | rw [c20b0] | (simp only [i64_w, i32_w]; rw [c20b0]) | skip)
            obtain ⟨ji21, hji21⟩ : ∃ j_ : Int, (wrap64 ((x8_1.length : Int) - 1)) = j_ := ⟨_, rfl⟩
            replace H : (if 0 ≤ (ji21) then (if (ji21) < (x8_1.length : Int) then ((depotref05_Compare.f kj6 ((rd_T63 x8_1 (ji21)).f0) (rdOf ByteArray.empty t111 (ji15))).bind fun t119 => (depotref06_gather.j2 kj6 l0 x1_1 l2 x8_1 t111 (rdOf ByteArray.empty t111 (ji15)) (decide (t119 ≥ 0)))) else (none)) else (none)) = some (r1, r2) := by first | (rw [hji21] at H; exact H) | (simp only [hji21] at H ⊢; exact H)
            have hji21w : (IntKind.i64.wrap ((x8_1.length : Int) - 1)) = ji21 := (i64_w _).trans hji21
            by_cases c22 : 0 ≤ (ji21)
            ·rw [if_pos c22] at H
             have c22b0 : decide (0 ≤ (ji21)) = true := decide_eq_true c22
             clear c22
             by_cases c23 : (ji21) < (x8_1.length : Int)
             ·rw [if_pos c23] at H
              have c23b0 : decide ((ji21) < (x8_1.length : Int)) = true := decide_eq_true c23
              clear c23
              replace H := Option.bind_eq_some_iff.mp H
              obtain ⟨t119, A240, H⟩ := H
              replace H : (depotref06_gather.j2 kj6 l0 x1_1 l2 x8_1 t111 (rdOf ByteArray.empty t111 (ji15)) (decide (t119 ≥ 0))) = some (r1, r2) := H
              have A24 := Aside0.mk A240
              clear A240
              have H' := Aside0.mk H
              clear H
              obtain ⟨Ao25, co25, eo25⟩ := Kd.R_slice HO_8.out
              subst eo25
              have p118 : 0 ≤ ((ji21) : Int) := of_decide_eq_true (by first | (with_reducible assumption) | assumption)
              have q118 : (ji21) < (x8_1.length : Int) := of_decide_eq_true (by first | (with_reducible assumption) | assumption)
              obtain ⟨ad118, A118_4, c118_4, e118, hx118_0, hx118_1, hx118_2, hx118_3, hx118_4, hl118_4, hi118_4⟩ := at_T63 (Kd.R_reads' HO_8.out).2.2 (ji21) p118 q118
              cases e118
              obtain ⟨ce118, hce118, hMe118, hcc118⟩ := Kd.R_get HO_8.out z63 (ji21) p118 (by first | exact q118 | exact of_decide_eq_true (by first | (with_reducible assumption) | assumption) | (have e_ := (Kd.R_reads' HO_8.out).1; omega))
              obtain ⟨ve118_4, rfl, ge118_4⟩ := k63_openM hMe118
              have hv118_4 := hcc118 4 _ rfl
              rw [add_field _ _ 4 (by omega)] at hv118_4
              replace hv118_4 := Option.some.inj (hv118_4.symm.trans hx118_4)
              rw [hv118_4] at ge118_4
              have HL118_4 := Aside0.mk (show Kd.R k63 63 _ _ _ _ ((rd_T63 x8_1 (ji21)).f4) from ge118_4)
              clear hv118_4 ge118_4
              clear hcc118 hce118
              have HR118_4 := Aside0.mk hi118_4
              have HC118_4 := Aside0.mk hl118_4
              clear hi118_4 hl118_4
              replace p118 := eq_true p118
              replace q118 := eq_true q118
              go_wp2_with (first | (go_at_call 59; (with_reducible refine (depotref05_Compare.calls kj6 ((rd_T63 x8_1 (ji21)).f0) (rdOf ByteArray.empty t111 (ji15)) t119 _ A24.out).mono ?_); rintro e w26 ⟨rfl, hb⟩; (try clear A24); have n0_ := Aside0.mk (Kd.R_below (by (with_reducible repeat (first | apply Kd.R_alloc | apply Kd.R_drewN | apply Kd.R_drew)); exact HO_8.out) hb); have n1_ := Aside0.mk (Kd.R_below (by (with_reducible repeat (first | apply Kd.R_alloc | apply Kd.R_drewN | apply Kd.R_drew)); exact HO_9.out) hb); have n2_ := Aside0.mk (Kd.R_below (by (with_reducible repeat (first | apply Kd.R_alloc | apply Kd.R_drewN | apply Kd.R_drew)); exact HL118_4.out) hb); have n3_ := Aside0.mk (Kd.C_below (by repeat (first | (with_reducible exact HR118_4.out) | (with_reducible refine Kd.C_alloc ?_ _) | (with_reducible refine Kd.C_drewN ?_ _) | (with_reducible refine Kd.C_drew ?_) | exact HR118_4.out)) hb); have n4_ := Aside0.mk (below_step (by repeat (first | (with_reducible first | exact HB.out | apply below_alloc | apply pw_below_drewN | apply below_drew1) | exact HB.out)) hb); clear HO_8; clear HO_9; clear HL118_4; clear HR118_4; clear HB; have HO_8 := n0_; have HO_9 := n1_; have HL118_4 := n2_; have HR118_4 := n3_; have HB := n4_; clear n0_ n1_ n2_ n3_ n4_; (try clear hb); (try clear hb2); (try clear hk); (try clear hi)))
              go_meet
              case rel => exact ⟨_, (decide (t119 ≥ 0)), (by first | rfl | (simp; done) | (simp [*]; done)), H', ⟨by have := HK1.out; have := HJ6.out; first | omega | exact Nat.le_refl _⟩, ⟨by (with_reducible repeat (first | apply Kd.R_alloc | apply Kd.R_drewN | apply Kd.R_drew)); exact HO_8.out⟩, ⟨by (with_reducible repeat (first | apply Kd.R_alloc | apply Kd.R_drewN | apply Kd.R_drew)); exact HO_9.out⟩, ⟨by repeat (first | (with_reducible first | exact HB.out | apply below_alloc | apply pw_below_drewN | apply below_drew1) | exact HB.out)⟩⟩
             ·rw [if_neg c23] at H
              exact absurd H (by simp)
            ·rw [if_neg c22] at H
             exact absurd H (by simp)
           ·rw [if_neg c20] at H
            have c20b0 : decide (0 < (x8_1.length : Int)) = false := decide_eq_false c20
            have c20b1 : decide (0 < x8_1.length) = false := decide_eq_false (by omega)
            clear c20
            (first | rw [c20b0] | (simp only [i64_w, i32_w]; rw [c20b0]) | skip)
            have H' := Aside0.mk H
            clear H
            obtain ⟨Ao27, co27, eo27⟩ := Kd.R_slice HO_8.out
            subst eo27
            go_wp2
            go_meet
            case rel => exact ⟨_, (false), (by first | rfl | (simp; done) | (simp [*]; done)), H', ⟨by have := HK1.out; have := HJ6.out; first | omega | exact Nat.le_refl _⟩, ⟨by (with_reducible repeat (first | apply Kd.R_alloc | apply Kd.R_drewN | apply Kd.R_drew)); exact HO_8.out⟩, ⟨by (with_reducible repeat (first | apply Kd.R_alloc | apply Kd.R_drewN | apply Kd.R_drew)); exact HO_9.out⟩, ⟨by repeat (first | (with_reducible first | exact HB.out | apply below_alloc | apply pw_below_drewN | apply below_drew1) | exact HB.out)⟩⟩
          case rest =>
           clear HC18
           try clear c1
           try clear p1
           try clear q1
           try clear hx1
           try clear c2
           try clear p2
           try clear c3
           try clear c4
           try clear c4b0
           try clear c5
           try clear c5b0
           try clear p6
           try clear c9
           try clear c9b0
           try clear c9b1
           try clear c10
           try clear c10b0
           try clear c10b1
           try clear c11
           try clear p11
           try clear q11
           try clear hx11
           try clear c14
           try clear c16
           try clear c16b0
           try clear c17
           try clear c17b0
           try clear c20
           try clear c20b0
           try clear c20b1
           try clear c22
           try clear c22b0
           try clear c23
           try clear c23b0
           try clear hx110_0
           try clear hx110_1
           try clear hx110_2
           try clear hx110_3
           try clear hx117_0
           try clear hx118_0
           try clear hx118_1
           try clear hx118_2
           try clear hx118_3
           try clear hx118_4
           try clear p1
           try clear p11
           try clear p110
           try clear p117
           try clear p118
           try clear p2
           try clear p6
           try clear q1
           try clear q11
           try clear q110
           try clear q117
           try clear q118
           obtain ⟨kq, x68_17, rfl, HA, HJ17, HO_8, HO_9, HB⟩ := hcut
           cases kq with
           | zero => exact absurd HA.out (by simp [depotref06_gather.j2])
           | succ kj17 =>
            have H := HA.out
            clear HA
            simp only [depotref06_gather.j2] at H
            by_cases c28 : x68_17 = true
            ·subst c28
             have H1 : (some (x8_1, x1_1)) = some (r1, r2) := by rw [if_pos rfl] at H; exact H
             clear H
             have H := H1
             clear H1
             simp only [Option.some.injEq, Prod.mk.injEq] at H
             obtain ⟨rfl, rfl⟩ := H
             go_wp2
             go_ret2
             exact ⟨_, by first | rfl | (simp [errW_none, errW_some] <;> rfl) | (simp only [← hji15]; first | rfl | (simp [errW_none, errW_some] <;> rfl)) | (simp [*, errW_none, errW_some] <;> rfl), by (with_reducible repeat (first | apply Kd.R_alloc | apply Kd.R_drewN | apply Kd.R_drew)); exact HO_8.out, by repeat (first | (with_reducible first | exact HB.out | apply below_alloc | apply pw_below_drewN | apply below_drew1) | exact HB.out)⟩
            ·replace c28 := Bool.eq_false_iff.mpr c28
             subst c28
             have H1 : (if 0 ≤ x1_1 then (if x1_1 < (l0.length : Int) then ((depotref06_Own.f ((rd_T29 l0 x1_1).f1) ((rd_T29 l0 x1_1).f2) ((rd_T29 l0 x1_1).f3) ([] : List (S63))).bind fun bt124 => (if bt124.1 = 0 then (if 0 ≤ (wrap64 ((wrap64 (x1_1 + 1)) - 1)) then (if (wrap64 ((wrap64 (x1_1 + 1)) - 1)) < (l0.length : Int) then (if ((rd_T29 l0 (wrap64 ((wrap64 (x1_1 + 1)) - 1))).f1) = 3 then ((depotref06_gather.f kj17 l0 (wrap64 (x1_1 + 1)) t111).bind fun bt127 => (if x8_1.length < 1954687338268 then (depotref06_gather.l0 kj17 l0 bt127.2 l2 (x8_1 ++ [(⟨(rdOf ByteArray.empty t111 (ji15)), (rd_T29 l0 x1_1).f1, (rd_T29 l0 x1_1).f2, (rd_T29 l0 x1_1).f3, bt127.1⟩ : S63)])) else (none))) else (if x8_1.length < 1954687338268 then (depotref06_gather.l0 kj17 l0 (wrap64 (x1_1 + 1)) l2 (x8_1 ++ [(⟨(rdOf ByteArray.empty t111 (ji15)), (rd_T29 l0 x1_1).f1, (rd_T29 l0 x1_1).f2, (rd_T29 l0 x1_1).f3, ([] : List (S63))⟩ : S63)])) else (none))) else (none)) else (none)) else (some (x8_1, x1_1)))) else (none)) else (none)) = some (r1, r2) := by rw [if_neg (show ¬ (false = true) by decide)] at H; exact H
             clear H
             have H := H1
             clear H1
             by_cases c29 : 0 ≤ x1_1
             ·rw [if_pos c29] at H
              have c29b0 : decide (0 ≤ x1_1) = true := decide_eq_true c29
              clear c29
              by_cases c30 : x1_1 < (l0.length : Int)
              ·rw [if_pos c30] at H
               have c30b0 : decide (x1_1 < (l0.length : Int)) = true := decide_eq_true c30
               clear c30
               replace H := Option.bind_eq_some_iff.mp H
               obtain ⟨⟨t124, t125⟩, A310, H⟩ := H
               replace H : (if t124 = 0 then (if 0 ≤ (wrap64 ((wrap64 (x1_1 + 1)) - 1)) then (if (wrap64 ((wrap64 (x1_1 + 1)) - 1)) < (l0.length : Int) then (if ((rd_T29 l0 (wrap64 ((wrap64 (x1_1 + 1)) - 1))).f1) = 3 then ((depotref06_gather.f kj17 l0 (wrap64 (x1_1 + 1)) t111).bind fun bt127 => (if x8_1.length < 1954687338268 then (depotref06_gather.l0 kj17 l0 bt127.2 l2 (x8_1 ++ [(⟨(rdOf ByteArray.empty t111 (ji15)), (rd_T29 l0 x1_1).f1, (rd_T29 l0 x1_1).f2, (rd_T29 l0 x1_1).f3, bt127.1⟩ : S63)])) else (none))) else (if x8_1.length < 1954687338268 then (depotref06_gather.l0 kj17 l0 (wrap64 (x1_1 + 1)) l2 (x8_1 ++ [(⟨(rdOf ByteArray.empty t111 (ji15)), (rd_T29 l0 x1_1).f1, (rd_T29 l0 x1_1).f2, (rd_T29 l0 x1_1).f3, ([] : List (S63))⟩ : S63)])) else (none))) else (none)) else (none)) else (some (x8_1, x1_1))) = some (r1, r2) := H
               have A31 := Aside0.mk A310
               clear A310
               by_cases c32 : t124 = 0
               ·rw [if_pos c32] at H
                have c32b0 : (t124 == 0) = true := beq_iff_eq.mpr c32
                have c32b1 : (t124 != 0) = false := bne_eq_false_iff_eq.mpr c32
                clear c32
                obtain ⟨ji33, hji33⟩ : ∃ j_ : Int, (wrap64 ((wrap64 (x1_1 + 1)) - 1)) = j_ := ⟨_, rfl⟩
                replace H : (if 0 ≤ (ji33) then (if (ji33) < (l0.length : Int) then (if ((rd_T29 l0 (ji33)).f1) = 3 then ((depotref06_gather.f kj17 l0 (wrap64 (x1_1 + 1)) t111).bind fun bt127 => (if x8_1.length < 1954687338268 then (depotref06_gather.l0 kj17 l0 bt127.2 l2 (x8_1 ++ [(⟨(rdOf ByteArray.empty t111 (ji15)), (rd_T29 l0 x1_1).f1, (rd_T29 l0 x1_1).f2, (rd_T29 l0 x1_1).f3, bt127.1⟩ : S63)])) else (none))) else (if x8_1.length < 1954687338268 then (depotref06_gather.l0 kj17 l0 (wrap64 (x1_1 + 1)) l2 (x8_1 ++ [(⟨(rdOf ByteArray.empty t111 (ji15)), (rd_T29 l0 x1_1).f1, (rd_T29 l0 x1_1).f2, (rd_T29 l0 x1_1).f3, ([] : List (S63))⟩ : S63)])) else (none))) else (none)) else (none)) = some (r1, r2) := by first | (rw [hji33] at H; exact H) | (simp only [hji33] at H ⊢; exact H)
                (try rw [hji33] at A31)
                have hji33w : (IntKind.i64.wrap ((wrap64 (x1_1 + 1)) - 1)) = ji33 := (i64_w _).trans hji33
                by_cases c34 : 0 ≤ (ji33)
                ·rw [if_pos c34] at H
                 have c34b0 : decide (0 ≤ (ji33)) = true := decide_eq_true c34
                 clear c34
                 by_cases c35 : (ji33) < (l0.length : Int)
                 ·rw [if_pos c35] at H
                  have c35b0 : decide ((ji33) < (l0.length : Int)) = true := decide_eq_true c35
                  clear c35
                  by_cases c36 : ((rd_T29 l0 (ji33)).f1) = 3
                  ·rw [if_pos c36] at H
                   have c36b0 : (((rd_T29 l0 (ji33)).f1) == 3) = true := beq_iff_eq.mpr c36
                   have c36b1 : (((rd_T29 l0 (ji33)).f1) != 3) = false := bne_eq_false_iff_eq.mpr c36
                   clear c36
                   replace H := Option.bind_eq_some_iff.mp H
                   obtain ⟨⟨t127, t128⟩, A370, H⟩ := H
                   replace H : (if x8_1.length < 1954687338268 then (depotref06_gather.l0 kj17 l0 t128 l2 (x8_1 ++ [(⟨(rdOf ByteArray.empty t111 (ji15)), (rd_T29 l0 x1_1).f1, (rd_T29 l0 x1_1).f2, (rd_T29 l0 x1_1).f3, t127⟩ : S63)])) else (none)) = some (r1, r2) := H
                   have A37 := Aside0.mk A370
                   clear A370
                   by_cases c38 : x8_1.length < 1954687338268
                   ·rw [if_pos c38] at H
                    have LMc38 := Aside0.mk c38
                    clear c38
                    obtain ⟨y131, hy131⟩ : ∃ y_ : List (S63), y_ = (x8_1 ++ [(⟨(rdOf ByteArray.empty t111 (ji15)), (rd_T29 l0 x1_1).f1, (rd_T29 l0 x1_1).f2, (rd_T29 l0 x1_1).f3, t127⟩ : S63)]) := ⟨_, rfl⟩
                    replace H : (depotref06_gather.l0 kj17 l0 t128 l2 y131) = some (r1, r2) := by first | (rw [hy131]; with_reducible exact H) | (have H2_ := (Option.bind_some _ _).symm.trans H; rw [hy131]; with_reducible exact H2_) | (have H2_ := (Option.bind_some _ _).symm.trans H; with_reducible exact H2_) | with_reducible exact H | (rw [hy131]; exact H) | exact H
                    have Ny131 := Aside0.mk hy131
                    clear hy131
                    have H' := Aside0.mk H
                    clear H
                    try go_wp2
                    have n0_ := Aside0.mk (Kd.R_drew HO_8.out)
                    have n1_ := Aside0.mk (Kd.R_drew HO_9.out)
                    have n2_ := Aside0.mk (below_drew1 HB.out)
                    clear HO_8
                    clear HO_9
                    clear HB
                    have HO_8 := n0_
                    have HO_9 := n1_
                    have HB := n2_
                    clear n0_ n1_ n2_
                    have p120 : 0 ≤ (x1_1 : Int) := of_decide_eq_true (by first | (with_reducible assumption) | assumption)
                    have q120 : x1_1 < (l0.length : Int) := of_decide_eq_true (by first | (with_reducible assumption) | assumption)
                    obtain ⟨ad120, e120, hx120_0, hx120_1, hx120_2, hx120_3⟩ := at_T29 HR0.out x1_1 p120 q120
                    have hw120_3 := hx120_3
                    have hw120_2 := hx120_2
                    have hw120_1 := hx120_1
                    have hw120_0 := hx120_0
                    obtain rfl : ad110 = ad120 := (by injection e120)
                    replace hx120_0 := (HB.out.cell (World.block_lt_of_cell? w _ hx120_0)).trans hx120_0
                    replace hx120_1 := (HB.out.cell (World.block_lt_of_cell? w _ hx120_1)).trans hx120_1
                    replace hx120_2 := (HB.out.cell (World.block_lt_of_cell? w _ hx120_2)).trans hx120_2
                    replace hx120_3 := (HB.out.cell (World.block_lt_of_cell? w _ hx120_3)).trans hx120_3
                    replace p120 := eq_true p120
                    replace q120 := eq_true q120
                    have p121 : 0 ≤ (x1_1 : Int) := of_decide_eq_true (by first | (with_reducible assumption) | assumption)
                    have q121 : x1_1 < (l0.length : Int) := of_decide_eq_true (by first | (with_reducible assumption) | assumption)
                    obtain ⟨ad121, e121, hx121_0, hx121_1, hx121_2, hx121_3⟩ := at_T29 HR0.out x1_1 p121 q121
                    have hw121_3 := hx121_3
                    have hw121_2 := hx121_2
                    have hw121_1 := hx121_1
                    have hw121_0 := hx121_0
                    obtain rfl : ad110 = ad121 := (by injection e121)
                    replace hx121_0 := (HB.out.cell (World.block_lt_of_cell? w _ hx121_0)).trans hx121_0
                    replace hx121_1 := (HB.out.cell (World.block_lt_of_cell? w _ hx121_1)).trans hx121_1
                    replace hx121_2 := (HB.out.cell (World.block_lt_of_cell? w _ hx121_2)).trans hx121_2
                    replace hx121_3 := (HB.out.cell (World.block_lt_of_cell? w _ hx121_3)).trans hx121_3
                    replace p121 := eq_true p121
                    replace q121 := eq_true q121
                    have p122 : 0 ≤ (x1_1 : Int) := of_decide_eq_true (by first | (with_reducible assumption) | assumption)
                    have q122 : x1_1 < (l0.length : Int) := of_decide_eq_true (by first | (with_reducible assumption) | assumption)
                    obtain ⟨ad122, e122, hx122_0, hx122_1, hx122_2, hx122_3⟩ := at_T29 HR0.out x1_1 p122 q122
                    have hw122_3 := hx122_3
                    have hw122_2 := hx122_2
                    have hw122_1 := hx122_1
                    have hw122_0 := hx122_0
                    obtain rfl : ad110 = ad122 := (by injection e122)
                    replace hx122_0 := (HB.out.cell (World.block_lt_of_cell? w _ hx122_0)).trans hx122_0
                    replace hx122_1 := (HB.out.cell (World.block_lt_of_cell? w _ hx122_1)).trans hx122_1
                    replace hx122_2 := (HB.out.cell (World.block_lt_of_cell? w _ hx122_2)).trans hx122_2
                    replace hx122_3 := (HB.out.cell (World.block_lt_of_cell? w _ hx122_3)).trans hx122_3
                    replace p122 := eq_true p122
                    replace q122 := eq_true q122
                    refine start_ (n := 18) (S := fun w' => w'.cell? (ad110.add ((x1_1).toNat * 4)) = some (.string ((rd_T29 l0 x1_1).f0)) ∧ w'.cell? ⟨(ad110.add ((x1_1).toNat * 4)).block, (ad110.add ((x1_1).toNat * 4)).off + 1, none⟩ = some (.int .i64 ((rd_T29 l0 x1_1).f1)) ∧ w'.cell? ⟨(ad110.add ((x1_1).toNat * 4)).block, (ad110.add ((x1_1).toNat * 4)).off + 2, none⟩ = some (.bool ((rd_T29 l0 x1_1).f2)) ∧ w'.cell? ⟨(ad110.add ((x1_1).toNat * 4)).block, (ad110.add ((x1_1).toNat * 4)).off + 3, none⟩ = some (.string ((rd_T29 l0 x1_1).f3)) ∧ w'.cell? (ad110.add ((x1_1).toNat * 4)) = some (.string ((rd_T29 l0 x1_1).f0)) ∧ w'.cell? ⟨(ad110.add ((x1_1).toNat * 4)).block, (ad110.add ((x1_1).toNat * 4)).off + 1, none⟩ = some (.int .i64 ((rd_T29 l0 x1_1).f1)) ∧ w'.cell? ⟨(ad110.add ((x1_1).toNat * 4)).block, (ad110.add ((x1_1).toNat * 4)).off + 2, none⟩ = some (.bool ((rd_T29 l0 x1_1).f2)) ∧ w'.cell? ⟨(ad110.add ((x1_1).toNat * 4)).block, (ad110.add ((x1_1).toNat * 4)).off + 3, none⟩ = some (.string ((rd_T29 l0 x1_1).f3)) ∧ w'.cell? (ad110.add ((x1_1).toNat * 4)) = some (.string ((rd_T29 l0 x1_1).f0)) ∧ w'.cell? ⟨(ad110.add ((x1_1).toNat * 4)).block, (ad110.add ((x1_1).toNat * 4)).off + 1, none⟩ = some (.int .i64 ((rd_T29 l0 x1_1).f1)) ∧ w'.cell? ⟨(ad110.add ((x1_1).toNat * 4)).block, (ad110.add ((x1_1).toNat * 4)).off + 2, none⟩ = some (.bool ((rd_T29 l0 x1_1).f2)) ∧ w'.cell? ⟨(ad110.add ((x1_1).toNat * 4)).block, (ad110.add ((x1_1).toNat * 4)).off + 3, none⟩ = some (.string ((rd_T29 l0 x1_1).f3))) (ds := []) #[false, false, false, false, false, false, false, false, false, false, false, false, false, false, false, false, false, false] (by kernel_rfl) rfl rfl ⟨((HB.out.cell (World.block_lt_of_cell? w _ hw120_0)).trans hw120_0), ((HB.out.cell (World.block_lt_of_cell? w _ hw120_1)).trans hw120_1), ((HB.out.cell (World.block_lt_of_cell? w _ hw120_2)).trans hw120_2), ((HB.out.cell (World.block_lt_of_cell? w _ hw120_3)).trans hw120_3), ((HB.out.cell (World.block_lt_of_cell? w _ hw121_0)).trans hw121_0), ((HB.out.cell (World.block_lt_of_cell? w _ hw121_1)).trans hw121_1), ((HB.out.cell (World.block_lt_of_cell? w _ hw121_2)).trans hw121_2), ((HB.out.cell (World.block_lt_of_cell? w _ hw121_3)).trans hw121_3), ((HB.out.cell (World.block_lt_of_cell? w _ hw122_0)).trans hw122_0), ((HB.out.cell (World.block_lt_of_cell? w _ hw122_1)).trans hw122_1), ((HB.out.cell (World.block_lt_of_cell? w _ hw122_2)).trans hw122_2), ((HB.out.cell (World.block_lt_of_cell? w _ hw122_3)).trans hw122_3)⟩ (fun hHeld => ?_); refine with_tabW depotref06_gather.tab9 depotref06_gather.bits9 (fun HT_ HW_ => ?_)
                    generalize wc.drew = w39 at HO_8 HO_9 HB hx120_0 hx120_1 hx120_2 hx120_3 hx121_0 hx121_1 hx121_2 hx121_3 hx122_0 hx122_1 hx122_2 hx122_3 hHeld ⊢
                    refine pure_ (i := 0) (N := some 71) (v := ?_) (a' := ?_) #[true, false, false, false, false, false, false, false, false, false, false, false, false, false, false, false, false, false] rfl rfl (any_of HT_.out (by kernel_rfl)) (fun _ _ _ h => h) (Or.inl ⟨by rfl, ?_⟩) ?_ ?_
                    rotate_left
                    ·intro w'
                     go_simp
                     with_reducible rfl
                    rotate_left
                    ·simp only [Act.put, List.setIfInBounds_toArray, List.set_cons_zero, List.set_cons_succ, i64_w, i32_w]
                     rfl
                    refine pure_ (i := 1) (N := some 72) (v := ?_) (a' := ?_) #[true, true, false, false, false, false, false, false, false, false, false, false, false, false, false, false, false, false] rfl rfl (any_of HT_.out (by kernel_rfl)) (fun _ _ _ h => h) (Or.inl ⟨by rfl, ?_⟩) ?_ ?_
                    rotate_left
                    ·intro w'
                     go_simp
                     with_reducible rfl
                    rotate_left
                    ·simp only [Act.put, List.setIfInBounds_toArray, List.set_cons_zero, List.set_cons_succ, i64_w, i32_w]
                     rfl
                    refine pure_ (i := 2) (N := some 73) (v := ?_) (a' := ?_) #[true, true, true, false, false, false, false, false, false, false, false, false, false, false, false, false, false, false] rfl rfl (any_of HT_.out (by kernel_rfl)) (fun _ _ _ h => h) (Or.inl ⟨by rfl, ?_⟩) ?_ ?_
                    rotate_left
                    ·intro w'
                     go_simp
                     with_reducible rfl
                    rotate_left
                    ·simp only [Act.put, List.setIfInBounds_toArray, List.set_cons_zero, List.set_cons_succ, i64_w, i32_w]
                     rfl
                    refine pure_ (i := 3) (N := some 74) (v := ?_) (a' := ?_) #[true, true, true, true, false, false, false, false, false, false, false, false, false, false, false, false, false, false] rfl rfl (any_of HT_.out (by kernel_rfl)) (fun _ _ _ h => h) (Or.inl ⟨by rfl, ?_⟩) ?_ ?_
                    rotate_left
                    ·intro w'
                     go_simp
                     with_reducible rfl
                    rotate_left
                    ·simp only [Act.put, List.setIfInBounds_toArray, List.set_cons_zero, List.set_cons_succ, i64_w, i32_w]
                     rfl
                    refine pure_ (i := 5) (N := some 76) (v := ?_) (a' := ?_) #[true, true, true, true, false, true, false, false, false, false, false, false, false, false, false, false, false, false] rfl rfl (any_of HT_.out (by kernel_rfl)) (fun _ _ _ h => h) (Or.inl ⟨by rfl, ?_⟩) ?_ ?_
                    rotate_left
                    ·intro w'
                     go_simp
                     with_reducible rfl
                    rotate_left
                    ·simp only [Act.put, List.setIfInBounds_toArray, List.set_cons_zero, List.set_cons_succ, i64_w, i32_w]
                     rfl
                    refine pure_ (i := 6) (N := some 77) (v := ?_) (a' := ?_) #[true, true, true, true, false, true, true, false, false, false, false, false, false, false, false, false, false, false] rfl rfl (any_of HT_.out (by kernel_rfl)) (fun _ _ _ h => h) (Or.inl ⟨by rfl, ?_⟩) ?_ ?_
                    rotate_left
                    ·intro w'
                     go_simp
                     with_reducible rfl
                    rotate_left
                    ·simp only [Act.put, List.setIfInBounds_toArray, List.set_cons_zero, List.set_cons_succ, i64_w, i32_w]
                     rfl
                    refine pure_ (i := 7) (N := some 78) (v := ?_) (a' := ?_) #[true, true, true, true, false, true, true, true, false, false, false, false, false, false, false, false, false, false] rfl rfl (any_of HT_.out (by kernel_rfl)) (fun _ _ _ h => h) (Or.inl ⟨by rfl, ?_⟩) ?_ ?_
                    rotate_left
                    ·intro w'
                     go_simp
                     with_reducible rfl
                    rotate_left
                    ·simp only [Act.put, List.setIfInBounds_toArray, List.set_cons_zero, List.set_cons_succ, i64_w, i32_w]
                     rfl
                    refine pure_ (i := 8) (N := some 79) (v := ?_) (a' := ?_) #[true, true, true, true, false, true, true, true, true, false, false, false, false, false, false, false, false, false] rfl rfl (any_of HT_.out (by kernel_rfl)) (fun _ _ _ h => h) (Or.inl ⟨by rfl, ?_⟩) ?_ ?_
                    rotate_left
                    ·intro w'
                     go_simp
                     with_reducible rfl
                    rotate_left
                    ·simp only [Act.put, List.setIfInBounds_toArray, List.set_cons_zero, List.set_cons_succ, i64_w, i32_w]
                     rfl
                    refine pure_ (i := 10) (N := some 81) (v := ?_) (a' := ?_) #[true, true, true, true, false, true, true, true, true, false, true, false, false, false, false, false, false, false] rfl rfl (any_of HT_.out (by kernel_rfl)) (fun _ _ _ h => h) (Or.inl ⟨by rfl, ?_⟩) ?_ ?_
                    rotate_left
                    ·intro w'
                     go_simp
                     with_reducible rfl
                    rotate_left
                    ·simp only [Act.put, List.setIfInBounds_toArray, List.set_cons_zero, List.set_cons_succ, i64_w, i32_w]
                     rfl
                    refine pure_ (i := 11) (N := some 82) (v := ?_) (a' := ?_) #[true, true, true, true, false, true, true, true, true, false, true, true, false, false, false, false, false, false] rfl rfl (any_of HT_.out (by kernel_rfl)) (fun _ _ _ h => h) (Or.inl ⟨by rfl, ?_⟩) ?_ ?_
                    rotate_left
                    ·intro w'
                     go_simp
                     with_reducible rfl
                    rotate_left
                    ·simp only [Act.put, List.setIfInBounds_toArray, List.set_cons_zero, List.set_cons_succ, i64_w, i32_w]
                     rfl
                    refine pure_ (i := 12) (N := some 83) (v := ?_) (a' := ?_) #[true, true, true, true, false, true, true, true, true, false, true, true, true, false, false, false, false, false] rfl rfl (any_of HT_.out (by kernel_rfl)) (fun _ _ _ h => h) (Or.inl ⟨by rfl, ?_⟩) ?_ ?_
                    rotate_left
                    ·intro w'
                     go_simp
                     with_reducible rfl
                    rotate_left
                    ·simp only [Act.put, List.setIfInBounds_toArray, List.set_cons_zero, List.set_cons_succ, i64_w, i32_w]
                     rfl
                    refine pure_ (i := 13) (N := some 84) (v := ?_) (a' := ?_) #[true, true, true, true, false, true, true, true, true, false, true, true, true, true, false, false, false, false] rfl rfl (any_of HT_.out (by kernel_rfl)) (fun _ _ _ h => h) (Or.inl ⟨by rfl, ?_⟩) ?_ ?_
                    rotate_left
                    ·intro w'
                     go_simp
                     with_reducible rfl
                    rotate_left
                    ·simp only [Act.put, List.setIfInBounds_toArray, List.set_cons_zero, List.set_cons_succ, i64_w, i32_w]
                     rfl
                    refine take_ (i := 4) (N := some 75) (v := ?_) (a' := ?_) #[true, true, true, true, true, true, true, true, true, false, true, true, true, true, false, false, false, false] rfl rfl (take_ofW HT_.out HW_.out (by kernel_rfl)) (fun _ _ _ h => h) (Or.inl ⟨by rfl, ?_⟩) hHeld ?_ ?_
                    rotate_left
                    ·rintro w' ⟨s0, s1, s2, s3, s4, s5, s6, s7, s8, s9, s10, s11⟩
                     go_simp
                     with_reducible rfl
                    rotate_left
                    ·simp only [Act.put, List.setIfInBounds_toArray, List.set_cons_zero, List.set_cons_succ, i64_w, i32_w]
                     rfl
                    refine take_ (i := 9) (N := some 80) (v := ?_) (a' := ?_) #[true, true, true, true, true, true, true, true, true, true, true, true, true, true, false, false, false, false] rfl rfl (take_ofW HT_.out HW_.out (by kernel_rfl)) (fun _ _ _ h => h) (Or.inl ⟨by rfl, ?_⟩) hHeld ?_ ?_
                    rotate_left
                    ·rintro w' ⟨s0, s1, s2, s3, s4, s5, s6, s7, s8, s9, s10, s11⟩
                     go_simp
                     with_reducible rfl
                    rotate_left
                    ·simp only [Act.put, List.setIfInBounds_toArray, List.set_cons_zero, List.set_cons_succ, i64_w, i32_w]
                     rfl
                    refine take_ (i := 14) (N := some 85) (v := ?_) (a' := ?_) #[true, true, true, true, true, true, true, true, true, true, true, true, true, true, true, false, false, false] rfl rfl (take_ofW HT_.out HW_.out (by kernel_rfl)) (fun _ _ _ h => h) (Or.inl ⟨by rfl, ?_⟩) hHeld ?_ ?_
                    rotate_left
                    ·rintro w' ⟨s0, s1, s2, s3, s4, s5, s6, s7, s8, s9, s10, s11⟩
                     go_simp
                     with_reducible rfl
                    rotate_left
                    ·simp only [Act.put, List.setIfInBounds_toArray, List.set_cons_zero, List.set_cons_succ, i64_w, i32_w]
                     rfl
                    refine pure_ (i := 15) (N := some 86) (v := ?_) (a' := ?_) #[true, true, true, true, true, true, true, true, true, true, true, true, true, true, true, true, false, false] rfl rfl (any_of HT_.out (by kernel_rfl)) (fun _ _ _ h => h) (Or.inl ⟨by rfl, ?_⟩) ?_ ?_
                    rotate_left
                    ·intro w'
                     go_simp
                     with_reducible rfl
                    rotate_left
                    ·simp only [Act.put, List.setIfInBounds_toArray, List.set_cons_zero, List.set_cons_succ, i64_w, i32_w]
                     rfl
                    refine one_ (i := 16) (N := some 13) #[true, true, true, true, true, true, true, true, true, true, true, true, true, true, true, true, true, false] rfl rfl (one_of HT_.out (by kernel_rfl)) (by decide) (fun K hK => ?_)
                    refine box_step ?hg (N := 13) ?hd (cs := #[.int .i64 0, .bool false, .string (⟨#[]⟩ : ByteArray), .slice none 0 0]) (t := 32) ?hr ?_; (case hd => rfl); (case hg => rfl); (case hr => first | (go_simp; done) | (go_simp; rfl))
                    intro gb123 hg w40 hbox hb
                    have n0_ := Aside0.mk (Kd.R_below (by (with_reducible repeat (first | apply Kd.R_alloc | apply Kd.R_drewN | apply Kd.R_drew)); exact HO_8.out) hb)
                    have n1_ := Aside0.mk (Kd.R_below (by (with_reducible repeat (first | apply Kd.R_alloc | apply Kd.R_drewN | apply Kd.R_drew)); exact HO_9.out) hb)
                    have n2_ := Aside0.mk (below_step (by repeat (first | (with_reducible first | exact HB.out | apply below_alloc | apply pw_below_drewN | apply below_drew1) | exact HB.out)) hb)
                    have n3_ := Aside0.mk (hbox)
                    have n4_ := Aside0.mk ((by rw [hg]; exact (below_size (by repeat (first | (with_reducible first | exact HB.out | apply below_alloc | apply pw_below_drewN | apply below_drew1) | exact HB.out))) : w.heap.size ≤ gb123))
                    have n5_ := Aside0.mk ((by rw [hg]; exact (below_size (by repeat (first | (with_reducible first | exact HB.out | apply below_alloc | apply pw_below_drewN | apply below_drew1) | exact HB.out))) : w.heap.size ≤ gb123))
                    clear HO_8
                    clear HO_9
                    clear HB
                    have HO_8 := n0_
                    have HO_9 := n1_
                    have HB := n2_
                    have BK123 := n3_
                    have GW123 := n4_
                    have GE123 := n5_
                    clear n0_ n1_ n2_ n3_ n4_ n5_
                    clear hb hbox hg
                    refine hK.out _ _ ⟨((HB.out.cell (World.block_lt_of_cell? w _ hw120_0)).trans hw120_0), ((HB.out.cell (World.block_lt_of_cell? w _ hw120_1)).trans hw120_1), ((HB.out.cell (World.block_lt_of_cell? w _ hw120_2)).trans hw120_2), ((HB.out.cell (World.block_lt_of_cell? w _ hw120_3)).trans hw120_3), ((HB.out.cell (World.block_lt_of_cell? w _ hw121_0)).trans hw121_0), ((HB.out.cell (World.block_lt_of_cell? w _ hw121_1)).trans hw121_1), ((HB.out.cell (World.block_lt_of_cell? w _ hw121_2)).trans hw121_2), ((HB.out.cell (World.block_lt_of_cell? w _ hw121_3)).trans hw121_3), ((HB.out.cell (World.block_lt_of_cell? w _ hw122_0)).trans hw122_0), ((HB.out.cell (World.block_lt_of_cell? w _ hw122_1)).trans hw122_1), ((HB.out.cell (World.block_lt_of_cell? w _ hw122_2)).trans hw122_2), ((HB.out.cell (World.block_lt_of_cell? w _ hw122_3)).trans hw122_3)⟩ (fun hHeld => ?_)
                    clear hK K
                    refine norm_ (a' := ?_) ?_ ?_
                    rotate_left
                    ·show Act.put _ (some 13) _ = _
                     simp only [Act.put, List.setIfInBounds_toArray, List.set_cons_zero, List.set_cons_succ, i64_w, i32_w]
                     rfl
                    refine one_ (i := 17) (N := none) #[true, true, true, true, true, true, true, true, true, true, true, true, true, true, true, true, true, true] rfl rfl (one_of HT_.out (by kernel_rfl)) (by decide) (fun K hK => ?_)
                    have hs41 : w40.cell? ⟨gb123, 0, none⟩ = some (.int .i64 0) := (blk_cell BK123.out 0).trans rfl
                    have hfs41 := blk_frozen BK123.out 0
                    have hs42 : w40.cell? ⟨gb123, 1, none⟩ = some (.bool false) := (blk_cell BK123.out 1).trans rfl
                    have hfs42 := blk_frozen BK123.out 1
                    have hs43 : w40.cell? ⟨gb123, 2, none⟩ = some (.string (⟨#[]⟩ : ByteArray)) := (blk_cell BK123.out 2).trans rfl
                    have hfs43 := blk_frozen BK123.out 2
                    have hs44 : w40.cell? ⟨gb123, 3, none⟩ = some (.slice none 0 0) := (blk_cell BK123.out 3).trans rfl
                    have hfs44 := blk_frozen BK123.out 3
                    refine skip_ (w1 := ?_) (by rfl) rfl ?_ ?_
                    rotate_left
                    ·go_simp
                     rfl
                    refine hK.out _ _ ⟨((cell_far (p := ⟨gb123, _, none⟩) (by exact Nat.ne_of_lt (Nat.lt_of_lt_of_le (by have := World.block_lt_of_cell? _ _ hw120_0; first | rwa [add_block] at this | exact this) GW123.out)) _).trans (((cell_far (p := ⟨gb123, _, none⟩) (by exact Nat.ne_of_lt (Nat.lt_of_lt_of_le (by have := World.block_lt_of_cell? _ _ hw120_0; first | rwa [add_block] at this | exact this) GW123.out)) _).trans (((cell_far (p := ⟨gb123, _, none⟩) (by exact Nat.ne_of_lt (Nat.lt_of_lt_of_le (by have := World.block_lt_of_cell? _ _ hw120_0; first | rwa [add_block] at this | exact this) GW123.out)) _).trans (((cell_far (p := ⟨gb123, _, none⟩) (by exact Nat.ne_of_lt (Nat.lt_of_lt_of_le (by have := World.block_lt_of_cell? _ _ hw120_0; first | rwa [add_block] at this | exact this) GW123.out)) _).trans (hHeld.1)))))))), ((cell_far (p := ⟨gb123, _, none⟩) (by exact Nat.ne_of_lt (Nat.lt_of_lt_of_le (by have := World.block_lt_of_cell? _ _ hw120_1; first | rwa [add_block] at this | exact this) GW123.out)) _).trans (((cell_far (p := ⟨gb123, _, none⟩) (by exact Nat.ne_of_lt (Nat.lt_of_lt_of_le (by have := World.block_lt_of_cell? _ _ hw120_1; first | rwa [add_block] at this | exact this) GW123.out)) _).trans (((cell_far (p := ⟨gb123, _, none⟩) (by exact Nat.ne_of_lt (Nat.lt_of_lt_of_le (by have := World.block_lt_of_cell? _ _ hw120_1; first | rwa [add_block] at this | exact this) GW123.out)) _).trans (((cell_far (p := ⟨gb123, _, none⟩) (by exact Nat.ne_of_lt (Nat.lt_of_lt_of_le (by have := World.block_lt_of_cell? _ _ hw120_1; first | rwa [add_block] at this | exact this) GW123.out)) _).trans (hHeld.2.1)))))))), ((cell_far (p := ⟨gb123, _, none⟩) (by exact Nat.ne_of_lt (Nat.lt_of_lt_of_le (by have := World.block_lt_of_cell? _ _ hw120_2; first | rwa [add_block] at this | exact this) GW123.out)) _).trans (((cell_far (p := ⟨gb123, _, none⟩) (by exact Nat.ne_of_lt (Nat.lt_of_lt_of_le (by have := World.block_lt_of_cell? _ _ hw120_2; first | rwa [add_block] at this | exact this) GW123.out)) _).trans (((cell_far (p := ⟨gb123, _, none⟩) (by exact Nat.ne_of_lt (Nat.lt_of_lt_of_le (by have := World.block_lt_of_cell? _ _ hw120_2; first | rwa [add_block] at this | exact this) GW123.out)) _).trans (((cell_far (p := ⟨gb123, _, none⟩) (by exact Nat.ne_of_lt (Nat.lt_of_lt_of_le (by have := World.block_lt_of_cell? _ _ hw120_2; first | rwa [add_block] at this | exact this) GW123.out)) _).trans (hHeld.2.2.1)))))))), ((cell_far (p := ⟨gb123, _, none⟩) (by exact Nat.ne_of_lt (Nat.lt_of_lt_of_le (by have := World.block_lt_of_cell? _ _ hw120_3; first | rwa [add_block] at this | exact this) GW123.out)) _).trans (((cell_far (p := ⟨gb123, _, none⟩) (by exact Nat.ne_of_lt (Nat.lt_of_lt_of_le (by have := World.block_lt_of_cell? _ _ hw120_3; first | rwa [add_block] at this | exact this) GW123.out)) _).trans (((cell_far (p := ⟨gb123, _, none⟩) (by exact Nat.ne_of_lt (Nat.lt_of_lt_of_le (by have := World.block_lt_of_cell? _ _ hw120_3; first | rwa [add_block] at this | exact this) GW123.out)) _).trans (((cell_far (p := ⟨gb123, _, none⟩) (by exact Nat.ne_of_lt (Nat.lt_of_lt_of_le (by have := World.block_lt_of_cell? _ _ hw120_3; first | rwa [add_block] at this | exact this) GW123.out)) _).trans (hHeld.2.2.2.1)))))))), ((cell_far (p := ⟨gb123, _, none⟩) (by exact Nat.ne_of_lt (Nat.lt_of_lt_of_le (by have := World.block_lt_of_cell? _ _ hw121_0; first | rwa [add_block] at this | exact this) GW123.out)) _).trans (((cell_far (p := ⟨gb123, _, none⟩) (by exact Nat.ne_of_lt (Nat.lt_of_lt_of_le (by have := World.block_lt_of_cell? _ _ hw121_0; first | rwa [add_block] at this | exact this) GW123.out)) _).trans (((cell_far (p := ⟨gb123, _, none⟩) (by exact Nat.ne_of_lt (Nat.lt_of_lt_of_le (by have := World.block_lt_of_cell? _ _ hw121_0; first | rwa [add_block] at this | exact this) GW123.out)) _).trans (((cell_far (p := ⟨gb123, _, none⟩) (by exact Nat.ne_of_lt (Nat.lt_of_lt_of_le (by have := World.block_lt_of_cell? _ _ hw121_0; first | rwa [add_block] at this | exact this) GW123.out)) _).trans (hHeld.2.2.2.2.1)))))))), ((cell_far (p := ⟨gb123, _, none⟩) (by exact Nat.ne_of_lt (Nat.lt_of_lt_of_le (by have := World.block_lt_of_cell? _ _ hw121_1; first | rwa [add_block] at this | exact this) GW123.out)) _).trans (((cell_far (p := ⟨gb123, _, none⟩) (by exact Nat.ne_of_lt (Nat.lt_of_lt_of_le (by have := World.block_lt_of_cell? _ _ hw121_1; first | rwa [add_block] at this | exact this) GW123.out)) _).trans (((cell_far (p := ⟨gb123, _, none⟩) (by exact Nat.ne_of_lt (Nat.lt_of_lt_of_le (by have := World.block_lt_of_cell? _ _ hw121_1; first | rwa [add_block] at this | exact this) GW123.out)) _).trans (((cell_far (p := ⟨gb123, _, none⟩) (by exact Nat.ne_of_lt (Nat.lt_of_lt_of_le (by have := World.block_lt_of_cell? _ _ hw121_1; first | rwa [add_block] at this | exact this) GW123.out)) _).trans (hHeld.2.2.2.2.2.1)))))))), ((cell_far (p := ⟨gb123, _, none⟩) (by exact Nat.ne_of_lt (Nat.lt_of_lt_of_le (by have := World.block_lt_of_cell? _ _ hw121_2; first | rwa [add_block] at this | exact this) GW123.out)) _).trans (((cell_far (p := ⟨gb123, _, none⟩) (by exact Nat.ne_of_lt (Nat.lt_of_lt_of_le (by have := World.block_lt_of_cell? _ _ hw121_2; first | rwa [add_block] at this | exact this) GW123.out)) _).trans (((cell_far (p := ⟨gb123, _, none⟩) (by exact Nat.ne_of_lt (Nat.lt_of_lt_of_le (by have := World.block_lt_of_cell? _ _ hw121_2; first | rwa [add_block] at this | exact this) GW123.out)) _).trans (((cell_far (p := ⟨gb123, _, none⟩) (by exact Nat.ne_of_lt (Nat.lt_of_lt_of_le (by have := World.block_lt_of_cell? _ _ hw121_2; first | rwa [add_block] at this | exact this) GW123.out)) _).trans (hHeld.2.2.2.2.2.2.1)))))))), ((cell_far (p := ⟨gb123, _, none⟩) (by exact Nat.ne_of_lt (Nat.lt_of_lt_of_le (by have := World.block_lt_of_cell? _ _ hw121_3; first | rwa [add_block] at this | exact this) GW123.out)) _).trans (((cell_far (p := ⟨gb123, _, none⟩) (by exact Nat.ne_of_lt (Nat.lt_of_lt_of_le (by have := World.block_lt_of_cell? _ _ hw121_3; first | rwa [add_block] at this | exact this) GW123.out)) _).trans (((cell_far (p := ⟨gb123, _, none⟩) (by exact Nat.ne_of_lt (Nat.lt_of_lt_of_le (by have := World.block_lt_of_cell? _ _ hw121_3; first | rwa [add_block] at this | exact this) GW123.out)) _).trans (((cell_far (p := ⟨gb123, _, none⟩) (by exact Nat.ne_of_lt (Nat.lt_of_lt_of_le (by have := World.block_lt_of_cell? _ _ hw121_3; first | rwa [add_block] at this | exact this) GW123.out)) _).trans (hHeld.2.2.2.2.2.2.2.1)))))))), ((cell_far (p := ⟨gb123, _, none⟩) (by exact Nat.ne_of_lt (Nat.lt_of_lt_of_le (by have := World.block_lt_of_cell? _ _ hw122_0; first | rwa [add_block] at this | exact this) GW123.out)) _).trans (((cell_far (p := ⟨gb123, _, none⟩) (by exact Nat.ne_of_lt (Nat.lt_of_lt_of_le (by have := World.block_lt_of_cell? _ _ hw122_0; first | rwa [add_block] at this | exact this) GW123.out)) _).trans (((cell_far (p := ⟨gb123, _, none⟩) (by exact Nat.ne_of_lt (Nat.lt_of_lt_of_le (by have := World.block_lt_of_cell? _ _ hw122_0; first | rwa [add_block] at this | exact this) GW123.out)) _).trans (((cell_far (p := ⟨gb123, _, none⟩) (by exact Nat.ne_of_lt (Nat.lt_of_lt_of_le (by have := World.block_lt_of_cell? _ _ hw122_0; first | rwa [add_block] at this | exact this) GW123.out)) _).trans (hHeld.2.2.2.2.2.2.2.2.1)))))))), ((cell_far (p := ⟨gb123, _, none⟩) (by exact Nat.ne_of_lt (Nat.lt_of_lt_of_le (by have := World.block_lt_of_cell? _ _ hw122_1; first | rwa [add_block] at this | exact this) GW123.out)) _).trans (((cell_far (p := ⟨gb123, _, none⟩) (by exact Nat.ne_of_lt (Nat.lt_of_lt_of_le (by have := World.block_lt_of_cell? _ _ hw122_1; first | rwa [add_block] at this | exact this) GW123.out)) _).trans (((cell_far (p := ⟨gb123, _, none⟩) (by exact Nat.ne_of_lt (Nat.lt_of_lt_of_le (by have := World.block_lt_of_cell? _ _ hw122_1; first | rwa [add_block] at this | exact this) GW123.out)) _).trans (((cell_far (p := ⟨gb123, _, none⟩) (by exact Nat.ne_of_lt (Nat.lt_of_lt_of_le (by have := World.block_lt_of_cell? _ _ hw122_1; first | rwa [add_block] at this | exact this) GW123.out)) _).trans (hHeld.2.2.2.2.2.2.2.2.2.1)))))))), ((cell_far (p := ⟨gb123, _, none⟩) (by exact Nat.ne_of_lt (Nat.lt_of_lt_of_le (by have := World.block_lt_of_cell? _ _ hw122_2; first | rwa [add_block] at this | exact this) GW123.out)) _).trans (((cell_far (p := ⟨gb123, _, none⟩) (by exact Nat.ne_of_lt (Nat.lt_of_lt_of_le (by have := World.block_lt_of_cell? _ _ hw122_2; first | rwa [add_block] at this | exact this) GW123.out)) _).trans (((cell_far (p := ⟨gb123, _, none⟩) (by exact Nat.ne_of_lt (Nat.lt_of_lt_of_le (by have := World.block_lt_of_cell? _ _ hw122_2; first | rwa [add_block] at this | exact this) GW123.out)) _).trans (((cell_far (p := ⟨gb123, _, none⟩) (by exact Nat.ne_of_lt (Nat.lt_of_lt_of_le (by have := World.block_lt_of_cell? _ _ hw122_2; first | rwa [add_block] at this | exact this) GW123.out)) _).trans (hHeld.2.2.2.2.2.2.2.2.2.2.1)))))))), ((cell_far (p := ⟨gb123, _, none⟩) (by exact Nat.ne_of_lt (Nat.lt_of_lt_of_le (by have := World.block_lt_of_cell? _ _ hw122_3; first | rwa [add_block] at this | exact this) GW123.out)) _).trans (((cell_far (p := ⟨gb123, _, none⟩) (by exact Nat.ne_of_lt (Nat.lt_of_lt_of_le (by have := World.block_lt_of_cell? _ _ hw122_3; first | rwa [add_block] at this | exact this) GW123.out)) _).trans (((cell_far (p := ⟨gb123, _, none⟩) (by exact Nat.ne_of_lt (Nat.lt_of_lt_of_le (by have := World.block_lt_of_cell? _ _ hw122_3; first | rwa [add_block] at this | exact this) GW123.out)) _).trans (((cell_far (p := ⟨gb123, _, none⟩) (by exact Nat.ne_of_lt (Nat.lt_of_lt_of_le (by have := World.block_lt_of_cell? _ _ hw122_3; first | rwa [add_block] at this | exact this) GW123.out)) _).trans (hHeld.2.2.2.2.2.2.2.2.2.2.2))))))))⟩ (fun hHeld => ?_)
                    clear hK K
                    refine done_ (done_of HT_.out (by kernel_rfl)) ?_
                    have hcz45_0 : w40.cell? ⟨gb123, 0, none⟩ = some (.int .i64 0) := (blk_cell BK123.out 0).trans rfl
                    have hcz45_1 : w40.cell? ⟨gb123, 1, none⟩ = some (.bool false) := (blk_cell BK123.out 1).trans rfl
                    have hcz45_2 : w40.cell? ⟨gb123, 2, none⟩ = some (.string (⟨#[]⟩ : ByteArray)) := (blk_cell BK123.out 2).trans rfl
                    have hcz45_3 : w40.cell? ⟨gb123, 3, none⟩ = some (.slice none 0 0) := (blk_cell BK123.out 3).trans rfl
                    have hfz45_0 := blk_frozen BK123.out 0
                    have hfz45_1 := blk_frozen BK123.out 1
                    have hfz45_2 := blk_frozen BK123.out 2
                    have hfz45_3 := blk_frozen BK123.out 3
                    try go_wp2_with (first | ((with_reducible refine gate_callee (f := 32) rfl ?_); refine goesL_ (some 89) rfl rfl Tryd.func32 (by kernel_rfl) rfl #[.agg #[.int .i64 ((rd_T29 l0 x1_1).f1), .bool ((rd_T29 l0 x1_1).f2), .string ((rd_T29 l0 x1_1).f3), .slice none 0 0]] rfl (by (try simp only [List.map_toArray, List.map_cons, List.map_nil]); first | done | rfl | (simp only [List.length_drop, List.length_take]; rfl)) ?_; (refine (depotref06_Own.calls ((rd_T29 l0 x1_1).f1) ((rd_T29 l0 x1_1).f2) ((rd_T29 l0 x1_1).f3) _ _ ([] : List (S63)) t124 t125 _ ?side1 ?side2 A31.out).mono ?_); (case side1 => exact Kd.C_nil _ _); (case side2 => exact Nat.le_refl _); rintro e w46 ⟨rfl, hb⟩; refine ⟨_, rfl, ?_⟩; have n0_ := Aside0.mk (Kd.R_below (by (with_reducible repeat (first | apply Kd.R_alloc | apply Kd.R_drewN | apply Kd.R_drew)); exact (Kd.R_mono (Kd.R_far (p := ⟨gb123, 3, none⟩) (Kd.R_far (p := ⟨gb123, 2, none⟩) (Kd.R_far (p := ⟨gb123, 1, none⟩) (Kd.R_far (p := ⟨gb123, 0, none⟩) (Kd.R_types HO_8.out BK123.out (by decide)) (fun _ hk => hk.2) (.int .i64 ((rd_T29 l0 x1_1).f1))) (fun _ hk => hk.2) (.bool ((rd_T29 l0 x1_1).f2))) (fun _ hk => hk.2) (.string ((rd_T29 l0 x1_1).f3))) (fun _ hk => hk.2) (.slice none 0 0)) (fun _ h_ => h_.1))) hb); have n1_ := Aside0.mk (Kd.R_below (by (with_reducible repeat (first | apply Kd.R_alloc | apply Kd.R_drewN | apply Kd.R_drew)); exact (Kd.R_mono (Kd.R_far (p := ⟨gb123, 3, none⟩) (Kd.R_far (p := ⟨gb123, 2, none⟩) (Kd.R_far (p := ⟨gb123, 1, none⟩) (Kd.R_far (p := ⟨gb123, 0, none⟩) (Kd.R_types HO_9.out BK123.out (by decide)) (fun _ hk => hk.2) (.int .i64 ((rd_T29 l0 x1_1).f1))) (fun _ hk => hk.2) (.bool ((rd_T29 l0 x1_1).f2))) (fun _ hk => hk.2) (.string ((rd_T29 l0 x1_1).f3))) (fun _ hk => hk.2) (.slice none 0 0)) (fun _ h_ => h_.1))) hb); have n2_ := Aside0.mk (blk_below (g := gb123) (o := .cells #[.int .i64 ((rd_T29 l0 x1_1).f1), .bool ((rd_T29 l0 x1_1).f2), .string ((rd_T29 l0 x1_1).f3), .slice none 0 0] 32 (0, 0)) (by (with_reducible repeat (first | refine blk_drewN ?_ _ | refine blk_drew ?_ | refine blk_alloc ?_ _)); refine blk_put (cs := #[.int .i64 ((rd_T29 l0 x1_1).f1), .bool ((rd_T29 l0 x1_1).f2), .string ((rd_T29 l0 x1_1).f3), .slice none 0 0]) ?_ 3 _ rfl; (with_reducible repeat (first | refine blk_drewN ?_ _ | refine blk_drew ?_ | refine blk_alloc ?_ _)); refine blk_put (cs := #[.int .i64 ((rd_T29 l0 x1_1).f1), .bool ((rd_T29 l0 x1_1).f2), .string (⟨#[]⟩ : ByteArray), .slice none 0 0]) ?_ 2 _ rfl; (with_reducible repeat (first | refine blk_drewN ?_ _ | refine blk_drew ?_ | refine blk_alloc ?_ _)); refine blk_put (cs := #[.int .i64 ((rd_T29 l0 x1_1).f1), .bool false, .string (⟨#[]⟩ : ByteArray), .slice none 0 0]) ?_ 1 _ rfl; (with_reducible repeat (first | refine blk_drewN ?_ _ | refine blk_drew ?_ | refine blk_alloc ?_ _)); refine blk_put (cs := #[.int .i64 0, .bool false, .string (⟨#[]⟩ : ByteArray), .slice none 0 0]) ?_ 0 _ rfl; (with_reducible repeat (first | refine blk_drewN ?_ _ | refine blk_drew ?_ | refine blk_alloc ?_ _)); exact BK123.out) hb); have n3_ := Aside0.mk (below_step (by repeat (first | (with_reducible first | exact HB.out | apply below_alloc | apply pw_below_drewN | apply below_drew1 | refine below_set ?_ GE123.out) | exact HB.out)) hb); clear HO_8; clear HO_9; clear BK123; clear HB; have HO_8 := n0_; have HO_9 := n1_; have BK123 := n2_; have HB := n3_; clear n0_ n1_ n2_ n3_; (try clear hb); (try clear hb2); (try clear hk); (try clear hi); have p126 : 0 ≤ ((ji33) : Int) := of_decide_eq_true (by first | (with_reducible assumption) | assumption); have q126 : (ji33) < (l0.length : Int) := of_decide_eq_true (by first | (with_reducible assumption) | assumption); obtain ⟨ad126, e126, hx126_0, hx126_1, hx126_2, hx126_3⟩ := at_T29 HR0.out (ji33) p126 q126; obtain rfl : ad110 = ad126 := (by injection e126); replace hx126_0 := (HB.out.cell (World.block_lt_of_cell? w _ hx126_0)).trans hx126_0; replace hx126_1 := (HB.out.cell (World.block_lt_of_cell? w _ hx126_1)).trans hx126_1; replace hx126_2 := (HB.out.cell (World.block_lt_of_cell? w _ hx126_2)).trans hx126_2; replace hx126_3 := (HB.out.cell (World.block_lt_of_cell? w _ hx126_3)).trans hx126_3; replace p126 := eq_true p126; replace q126 := eq_true q126) | ((with_reducible refine gate_callee (f := 33) rfl ?_); refine goesL_ (some 109) rfl rfl Tryd.func33 (by kernel_rfl) rfl #[.slice (some ad110) l0.length c0, .int .i64 (wrap64 (x1_1 + 1)), .slice (some ad117) t111.length co19] rfl (by (try simp only [List.map_toArray, List.map_cons, List.map_nil]); first | done | rfl | (simp only [List.length_drop, List.length_take]; rfl)) ?_; (with_reducible refine (ih kj17 (by have := HK1.out; have := HJ6.out; have := HJ17.out; omega) _ _ l0 (wrap64 (x1_1 + 1)) _ _ t111 t127 t128 _ ?side1 ?side2 ?side3 ?side4 A37.out).mono ?_); (case side1 => repeat (first | exact (Kd.C_below HR0.out HB.out) | (with_reducible refine Kd.C_alloc ?_ _) | (with_reducible refine Kd.C_drewN ?_ _) | (with_reducible refine Kd.C_drew ?_))); (case side2 => exact HC0.out); (case side3 => repeat (first | exact (Kd.R_reads' HO_9.out).2.2 | (with_reducible refine Kd.C_alloc ?_ _) | (with_reducible refine Kd.C_drewN ?_ _) | (with_reducible refine Kd.C_drew ?_))); (case side4 => exact (Kd.R_reads' HO_9.out).2.1); rintro e w47 ⟨v129, rfl, ho0, hb⟩; refine ⟨_, rfl, ?_⟩; have n0_ := Aside0.mk (Kd.R_elder' (by (with_reducible repeat (first | apply Kd.R_alloc | apply Kd.R_drewN | apply Kd.R_drew)); exact HO_8.out) (Kd.R_base ho0) hb); have n1_ := Aside0.mk (Kd.R_below (by (with_reducible repeat (first | apply Kd.R_alloc | apply Kd.R_drewN | apply Kd.R_drew)); exact HO_9.out) hb); have n2_ := Aside0.mk (Kd.R_lower (Kd.R_new' ho0 (Kd.R_lt (by (with_reducible repeat (first | apply Kd.R_alloc | apply Kd.R_drewN | apply Kd.R_drew)); exact HO_8.out))) (below_size (by repeat (first | (with_reducible first | exact HB.out | apply below_alloc | apply pw_below_drewN | apply below_drew1 | refine below_set ?_ GE123.out) | exact HB.out)))); have n3_ := Aside0.mk (blk_below (g := gb123) (o := .cells #[.int .i64 ((rd_T29 l0 x1_1).f1), .bool ((rd_T29 l0 x1_1).f2), .string ((rd_T29 l0 x1_1).f3), .slice none 0 0] 32 (0, 0)) (by (with_reducible repeat (first | refine blk_drewN ?_ _ | refine blk_drew ?_ | refine blk_alloc ?_ _)); exact BK123.out) hb); have n4_ := Aside0.mk (below_step (by repeat (first | (with_reducible first | exact HB.out | apply below_alloc | apply pw_below_drewN | apply below_drew1 | refine below_set ?_ GE123.out) | exact HB.out)) hb); clear HO_8; clear HO_9; clear BK123; clear HB; have HO_8 := n0_; have HO_9 := n1_; have HO130 := n2_; have BK123 := n3_; have HB := n4_; clear n0_ n1_ n2_ n3_ n4_; (try clear hb); (try clear hb2); (try clear hk); (try clear hi); (try clear ho0); obtain ⟨Ao48, co48, eo48⟩ := Kd.R_slice HO130.out; subst eo48; have hcz49_0 : w47.cell? ⟨gb123, 0, none⟩ = some (.int .i64 ((rd_T29 l0 x1_1).f1)) := (blk_cell BK123.out 0).trans rfl; have hcz49_1 : w47.cell? ⟨gb123, 1, none⟩ = some (.bool ((rd_T29 l0 x1_1).f2)) := (blk_cell BK123.out 1).trans rfl; have hcz49_2 : w47.cell? ⟨gb123, 2, none⟩ = some (.string ((rd_T29 l0 x1_1).f3)) := (blk_cell BK123.out 2).trans rfl; have hcz49_3 : w47.cell? ⟨gb123, 3, none⟩ = some (.slice none 0 0) := (blk_cell BK123.out 3).trans rfl; have hfz49_0 := blk_frozen BK123.out 0; have hfz49_1 := blk_frozen BK123.out 1; have hfz49_2 := blk_frozen BK123.out 2; have hfz49_3 := blk_frozen BK123.out 3) | ((with_reducible refine gate_store (t := 30) (p := 112) rfl ?_); refine store_event (t := 30) (p := 112) (v := ?vo_w50) (w1 := (w47.setCell ⟨gb123, 3, none⟩ (.slice Ao48 t127.length co48))) ?hg ?ho ?hn ?hr ?_; (case ho => rfl); (case hg => rfl); (case hn => rfl); (case hr => first | (go_simp; done) | (go_simp; rfl)); intro w50 hw; have n0_ : Aside0 (Kd.R k63 63 w50 w.heap.size (fun k_ => some k_ ≠ (.slice Ao48 t127.length co48 : Value).ownBlock) u8 x8_1) := ⟨(by rw [hw]; exact (by (with_reducible repeat (first | apply Kd.R_alloc | apply Kd.R_drewN | apply Kd.R_drew)); exact Kd.R_mono (Kd.R_far (p := ⟨gb123, 3, none⟩) (Kd.R_types HO_8.out BK123.out (by decide)) (fun _ hk => hk.2) (.slice Ao48 t127.length co48)) (fun _ hk => hk.1.2)))⟩; have n1_ : Aside0 (Kd.R Kd.string 9 w50 w.heap.size (fun _ => True) (.slice (some ad117) t111.length co19) t111) := ⟨(by rw [hw]; exact (by (with_reducible repeat (first | apply Kd.R_alloc | apply Kd.R_drewN | apply Kd.R_drew)); exact Kd.R_mono (Kd.R_far (p := ⟨gb123, 3, none⟩) (Kd.R_types HO_9.out BK123.out (by decide)) (fun _ hk => hk.2) (.slice Ao48 t127.length co48)) (fun _ hk => trivial)))⟩; have n2_ : Aside0 (Kd.R k63 63 w50 w.heap.size (fun k_ => some k_ ≠ (u8 : Value).ownBlock) (.slice Ao48 t127.length co48) t127) := ⟨(by rw [hw]; exact (by (with_reducible repeat (first | apply Kd.R_alloc | apply Kd.R_drewN | apply Kd.R_drew)); exact Kd.R_mono (Kd.R_far (p := ⟨gb123, 3, none⟩) (Kd.R_types HO130.out BK123.out (by decide)) (fun _ hk => hk.2) (.slice Ao48 t127.length co48)) (fun _ hk => hk.1.2)))⟩; have n3_ : Aside0 (w50.heap[gb123]? = some (.cells #[.int .i64 ((rd_T29 l0 x1_1).f1), .bool ((rd_T29 l0 x1_1).f2), .string ((rd_T29 l0 x1_1).f3), .slice Ao48 t127.length co48] 32 (0, 0))) := ⟨(by rw [hw]; exact (by (with_reducible repeat (first | refine blk_drewN ?_ _ | refine blk_drew ?_ | refine blk_alloc ?_ _)); refine blk_put (cs := #[.int .i64 ((rd_T29 l0 x1_1).f1), .bool ((rd_T29 l0 x1_1).f2), .string ((rd_T29 l0 x1_1).f3), .slice none 0 0]) ?_ 3 _ rfl; (with_reducible repeat (first | refine blk_drewN ?_ _ | refine blk_drew ?_ | refine blk_alloc ?_ _)); exact BK123.out))⟩; have n4_ : Aside0 (Below w.heap.size w w50) := ⟨(by rw [hw]; exact (by repeat (first | (with_reducible first | exact HB.out | apply below_alloc | apply pw_below_drewN | apply below_drew1 | refine below_set ?_ GE123.out) | exact HB.out)))⟩; clear hw; clear HO_8; clear HO_9; clear HO130; clear BK123; clear HB; have HO_8 := n0_; have HO_9 := n1_; have HO130 := n2_; have BK123 := n3_; have HB := n4_; clear n0_ n1_ n2_ n3_ n4_; have hcz51_0 : w50.cell? ⟨gb123, 0, none⟩ = some (.int .i64 ((rd_T29 l0 x1_1).f1)) := (blk_cell BK123.out 0).trans rfl; have hcz51_1 : w50.cell? ⟨gb123, 1, none⟩ = some (.bool ((rd_T29 l0 x1_1).f2)) := (blk_cell BK123.out 1).trans rfl; have hcz51_2 : w50.cell? ⟨gb123, 2, none⟩ = some (.string ((rd_T29 l0 x1_1).f3)) := (blk_cell BK123.out 2).trans rfl; have hcz51_3 : w50.cell? ⟨gb123, 3, none⟩ = some (.slice Ao48 t127.length co48) := (blk_cell BK123.out 3).trans rfl; have hfz51_0 := blk_frozen BK123.out 0; have hfz51_1 := blk_frozen BK123.out 1; have hfz51_2 := blk_frozen BK123.out 2; have hfz51_3 := blk_frozen BK123.out 3) | ((with_reducible refine gate_builtin (b := .append) (xs := #[.tmp 113, .tmp 117]) rfl ?_); (try (refine gate_guard (by rfl) ?_; dsimp only)); at_builtin; refine Kd.R_append k63 (w0 := w) w.heap.size rfl (.tmp 113) (.tmp 117) 30 63 (.agg #[(.string ⟨#[]⟩), (.int .i64 0), (.bool false), (.string ⟨#[]⟩), (.slice none 0 0)]) 72 rfl Tryd.underlying30 info63 rfl (by decide) (by omega) u8 x8_1 (⟨(rdOf ByteArray.empty t111 (ji15)), (rd_T29 l0 x1_1).f1, (rd_T29 l0 x1_1).f2, (rd_T29 l0 x1_1).f3, t127⟩ : S63) [.string (rdOf ByteArray.empty t111 (ji15)), .int .i64 ((rd_T29 l0 x1_1).f1), .bool ((rd_T29 l0 x1_1).f2), .string ((rd_T29 l0 x1_1).f3), .slice Ao48 t127.length co48] (fun _ => True) (fun k_ => ((fun _ => True)) k_ ∧ some k_ ≠ (u8 : Value).ownBlock) rfl rfl ?aP (fun _ hk => hk) ?aF ?aO ?aB ?aS ?aL ?_; (case aP => exact k63_mkM _ _ _ (⟨(rdOf ByteArray.empty t111 (ji15)), (rd_T29 l0 x1_1).f1, (rd_T29 l0 x1_1).f2, (rd_T29 l0 x1_1).f3, t127⟩ : S63) (Kd.R_mono (HO130.out) (fun k_ hk => ⟨trivial, hk⟩))); (case aB => exact (by repeat (first | (with_reducible first | exact HB.out | apply below_alloc | apply pw_below_drewN | apply below_drew1 | refine below_set ?_ GE123.out) | exact HB.out))); (case aF => exact (fun _ _ => trivial)); (case aO => exact (by (with_reducible repeat (first | apply Kd.R_alloc | apply Kd.R_drewN | apply Kd.R_drew)); exact Kd.R_mono HO_8.out (fun _ hk => trivial))); (case aS => exact (below_size (by repeat (first | (with_reducible first | exact HB.out | apply below_alloc | apply pw_below_drewN | apply below_drew1 | refine below_set ?_ GE123.out) | exact HB.out)))); (case aL => have := LMc38.out; omega); intro v132 w52 ho hb hg hat; rw [← Ny131.out] at ho; have n0_ := Aside0.mk (Kd.R_over' (by (with_reducible repeat (first | apply Kd.R_alloc | apply Kd.R_drewN | apply Kd.R_drew)); exact HO_9.out) (Kd.R_typed (by (with_reducible repeat (first | apply Kd.R_alloc | apply Kd.R_drewN | apply Kd.R_drew)); exact HO_8.out)) (by decide) hg); have n1_ := Aside0.mk (blk_grown (g := gb123) (o := .cells #[.int .i64 ((rd_T29 l0 x1_1).f1), .bool ((rd_T29 l0 x1_1).f2), .string ((rd_T29 l0 x1_1).f3), .slice Ao48 t127.length co48] 32 (0, 0)) (by (with_reducible repeat (first | refine blk_drewN ?_ _ | refine blk_drew ?_ | refine blk_alloc ?_ _)); exact BK123.out) hg (Kd.R_ne HO_8.out BK123.out (by decide))); have n2_ := Aside0.mk (hb); have n3_ := Aside0.mk (ho); clear HO_9; clear BK123; clear HB; clear HO_8; clear HO130; have HO_9 := n0_; have BK123 := n1_; have HB := n2_; have HO133 := n3_; clear n0_ n1_ n2_ n3_; clear ho hb hg hat))
                    go_roundg kj17
                    case measure => have := HK1.out; have := HJ6.out; have := HJ17.out; omega
                    case rel => exact ⟨(t128), (y131), (by first | rfl | (simp; done) | (simp [*]; done)), H', ⟨by have := HK1.out; have := HJ6.out; have := HJ17.out; omega⟩, ⟨by (with_reducible repeat (first | apply Kd.R_alloc | apply Kd.R_drewN | apply Kd.R_drew)); exact HO133.out⟩, ⟨by repeat (first | (with_reducible first | exact HB.out | apply below_alloc | apply pw_below_drewN | apply below_drew1 | refine below_set ?_ GE123.out) | exact HB.out)⟩⟩
                   ·rw [if_neg c38] at H
                    exact absurd H (by simp)
                  ·rw [if_neg c36] at H
                   have c36b0 : (((rd_T29 l0 (ji33)).f1) == 3) = false := beq_eq_false_iff_ne.mpr c36
                   have c36b1 : (((rd_T29 l0 (ji33)).f1) != 3) = true := bne_iff_ne.mpr c36
                   by_cases c53 : x8_1.length < 1954687338268
                   ·rw [if_pos c53] at H
                    have LMc53 := Aside0.mk c53
                    clear c53
                    obtain ⟨y134, hy134⟩ : ∃ y_ : List (S63), y_ = (x8_1 ++ [(⟨(rdOf ByteArray.empty t111 (ji15)), (rd_T29 l0 x1_1).f1, (rd_T29 l0 x1_1).f2, (rd_T29 l0 x1_1).f3, ([] : List (S63))⟩ : S63)]) := ⟨_, rfl⟩
                    replace H : (depotref06_gather.l0 kj17 l0 (wrap64 (x1_1 + 1)) l2 y134) = some (r1, r2) := by first | (rw [hy134]; with_reducible exact H) | (have H2_ := (Option.bind_some _ _).symm.trans H; rw [hy134]; with_reducible exact H2_) | (have H2_ := (Option.bind_some _ _).symm.trans H; with_reducible exact H2_) | with_reducible exact H | (rw [hy134]; exact H) | exact H
                    have Ny134 := Aside0.mk hy134
                    clear hy134
                    have H' := Aside0.mk H
                    clear H
                    try go_wp2
                    have n0_ := Aside0.mk (Kd.R_drew HO_8.out)
                    have n1_ := Aside0.mk (Kd.R_drew HO_9.out)
                    have n2_ := Aside0.mk (below_drew1 HB.out)
                    clear HO_8
                    clear HO_9
                    clear HB
                    have HO_8 := n0_
                    have HO_9 := n1_
                    have HB := n2_
                    clear n0_ n1_ n2_
                    have p120 : 0 ≤ (x1_1 : Int) := of_decide_eq_true (by first | (with_reducible assumption) | assumption)
                    have q120 : x1_1 < (l0.length : Int) := of_decide_eq_true (by first | (with_reducible assumption) | assumption)
                    obtain ⟨ad120, e120, hx120_0, hx120_1, hx120_2, hx120_3⟩ := at_T29 HR0.out x1_1 p120 q120
                    have hw120_3 := hx120_3
                    have hw120_2 := hx120_2
                    have hw120_1 := hx120_1
                    have hw120_0 := hx120_0
                    obtain rfl : ad110 = ad120 := (by injection e120)
                    replace hx120_0 := (HB.out.cell (World.block_lt_of_cell? w _ hx120_0)).trans hx120_0
                    replace hx120_1 := (HB.out.cell (World.block_lt_of_cell? w _ hx120_1)).trans hx120_1
                    replace hx120_2 := (HB.out.cell (World.block_lt_of_cell? w _ hx120_2)).trans hx120_2
                    replace hx120_3 := (HB.out.cell (World.block_lt_of_cell? w _ hx120_3)).trans hx120_3
                    replace p120 := eq_true p120
                    replace q120 := eq_true q120
                    have p121 : 0 ≤ (x1_1 : Int) := of_decide_eq_true (by first | (with_reducible assumption) | assumption)
                    have q121 : x1_1 < (l0.length : Int) := of_decide_eq_true (by first | (with_reducible assumption) | assumption)
                    obtain ⟨ad121, e121, hx121_0, hx121_1, hx121_2, hx121_3⟩ := at_T29 HR0.out x1_1 p121 q121
                    have hw121_3 := hx121_3
                    have hw121_2 := hx121_2
                    have hw121_1 := hx121_1
                    have hw121_0 := hx121_0
                    obtain rfl : ad110 = ad121 := (by injection e121)
                    replace hx121_0 := (HB.out.cell (World.block_lt_of_cell? w _ hx121_0)).trans hx121_0
                    replace hx121_1 := (HB.out.cell (World.block_lt_of_cell? w _ hx121_1)).trans hx121_1
                    replace hx121_2 := (HB.out.cell (World.block_lt_of_cell? w _ hx121_2)).trans hx121_2
                    replace hx121_3 := (HB.out.cell (World.block_lt_of_cell? w _ hx121_3)).trans hx121_3
                    replace p121 := eq_true p121
                    replace q121 := eq_true q121
                    have p122 : 0 ≤ (x1_1 : Int) := of_decide_eq_true (by first | (with_reducible assumption) | assumption)
                    have q122 : x1_1 < (l0.length : Int) := of_decide_eq_true (by first | (with_reducible assumption) | assumption)
                    obtain ⟨ad122, e122, hx122_0, hx122_1, hx122_2, hx122_3⟩ := at_T29 HR0.out x1_1 p122 q122
                    have hw122_3 := hx122_3
                    have hw122_2 := hx122_2
                    have hw122_1 := hx122_1
                    have hw122_0 := hx122_0
                    obtain rfl : ad110 = ad122 := (by injection e122)
                    replace hx122_0 := (HB.out.cell (World.block_lt_of_cell? w _ hx122_0)).trans hx122_0
                    replace hx122_1 := (HB.out.cell (World.block_lt_of_cell? w _ hx122_1)).trans hx122_1
                    replace hx122_2 := (HB.out.cell (World.block_lt_of_cell? w _ hx122_2)).trans hx122_2
                    replace hx122_3 := (HB.out.cell (World.block_lt_of_cell? w _ hx122_3)).trans hx122_3
                    replace p122 := eq_true p122
                    replace q122 := eq_true q122
                    refine start_ (n := 18) (S := fun w' => w'.cell? (ad110.add ((x1_1).toNat * 4)) = some (.string ((rd_T29 l0 x1_1).f0)) ∧ w'.cell? ⟨(ad110.add ((x1_1).toNat * 4)).block, (ad110.add ((x1_1).toNat * 4)).off + 1, none⟩ = some (.int .i64 ((rd_T29 l0 x1_1).f1)) ∧ w'.cell? ⟨(ad110.add ((x1_1).toNat * 4)).block, (ad110.add ((x1_1).toNat * 4)).off + 2, none⟩ = some (.bool ((rd_T29 l0 x1_1).f2)) ∧ w'.cell? ⟨(ad110.add ((x1_1).toNat * 4)).block, (ad110.add ((x1_1).toNat * 4)).off + 3, none⟩ = some (.string ((rd_T29 l0 x1_1).f3)) ∧ w'.cell? (ad110.add ((x1_1).toNat * 4)) = some (.string ((rd_T29 l0 x1_1).f0)) ∧ w'.cell? ⟨(ad110.add ((x1_1).toNat * 4)).block, (ad110.add ((x1_1).toNat * 4)).off + 1, none⟩ = some (.int .i64 ((rd_T29 l0 x1_1).f1)) ∧ w'.cell? ⟨(ad110.add ((x1_1).toNat * 4)).block, (ad110.add ((x1_1).toNat * 4)).off + 2, none⟩ = some (.bool ((rd_T29 l0 x1_1).f2)) ∧ w'.cell? ⟨(ad110.add ((x1_1).toNat * 4)).block, (ad110.add ((x1_1).toNat * 4)).off + 3, none⟩ = some (.string ((rd_T29 l0 x1_1).f3)) ∧ w'.cell? (ad110.add ((x1_1).toNat * 4)) = some (.string ((rd_T29 l0 x1_1).f0)) ∧ w'.cell? ⟨(ad110.add ((x1_1).toNat * 4)).block, (ad110.add ((x1_1).toNat * 4)).off + 1, none⟩ = some (.int .i64 ((rd_T29 l0 x1_1).f1)) ∧ w'.cell? ⟨(ad110.add ((x1_1).toNat * 4)).block, (ad110.add ((x1_1).toNat * 4)).off + 2, none⟩ = some (.bool ((rd_T29 l0 x1_1).f2)) ∧ w'.cell? ⟨(ad110.add ((x1_1).toNat * 4)).block, (ad110.add ((x1_1).toNat * 4)).off + 3, none⟩ = some (.string ((rd_T29 l0 x1_1).f3))) (ds := []) #[false, false, false, false, false, false, false, false, false, false, false, false, false, false, false, false, false, false] (by kernel_rfl) rfl rfl ⟨((HB.out.cell (World.block_lt_of_cell? w _ hw120_0)).trans hw120_0), ((HB.out.cell (World.block_lt_of_cell? w _ hw120_1)).trans hw120_1), ((HB.out.cell (World.block_lt_of_cell? w _ hw120_2)).trans hw120_2), ((HB.out.cell (World.block_lt_of_cell? w _ hw120_3)).trans hw120_3), ((HB.out.cell (World.block_lt_of_cell? w _ hw121_0)).trans hw121_0), ((HB.out.cell (World.block_lt_of_cell? w _ hw121_1)).trans hw121_1), ((HB.out.cell (World.block_lt_of_cell? w _ hw121_2)).trans hw121_2), ((HB.out.cell (World.block_lt_of_cell? w _ hw121_3)).trans hw121_3), ((HB.out.cell (World.block_lt_of_cell? w _ hw122_0)).trans hw122_0), ((HB.out.cell (World.block_lt_of_cell? w _ hw122_1)).trans hw122_1), ((HB.out.cell (World.block_lt_of_cell? w _ hw122_2)).trans hw122_2), ((HB.out.cell (World.block_lt_of_cell? w _ hw122_3)).trans hw122_3)⟩ (fun hHeld => ?_); refine with_tabW depotref06_gather.tab9 depotref06_gather.bits9 (fun HT_ HW_ => ?_)
                    generalize wc.drew = w54 at HO_8 HO_9 HB hx120_0 hx120_1 hx120_2 hx120_3 hx121_0 hx121_1 hx121_2 hx121_3 hx122_0 hx122_1 hx122_2 hx122_3 hHeld ⊢
                    refine pure_ (i := 0) (N := some 71) (v := ?_) (a' := ?_) #[true, false, false, false, false, false, false, false, false, false, false, false, false, false, false, false, false, false] rfl rfl (any_of HT_.out (by kernel_rfl)) (fun _ _ _ h => h) (Or.inl ⟨by rfl, ?_⟩) ?_ ?_
                    rotate_left
                    ·intro w'
                     go_simp
                     with_reducible rfl
                    rotate_left
                    ·simp only [Act.put, List.setIfInBounds_toArray, List.set_cons_zero, List.set_cons_succ, i64_w, i32_w]
                     rfl
                    refine pure_ (i := 1) (N := some 72) (v := ?_) (a' := ?_) #[true, true, false, false, false, false, false, false, false, false, false, false, false, false, false, false, false, false] rfl rfl (any_of HT_.out (by kernel_rfl)) (fun _ _ _ h => h) (Or.inl ⟨by rfl, ?_⟩) ?_ ?_
                    rotate_left
                    ·intro w'
                     go_simp
                     with_reducible rfl
                    rotate_left
                    ·simp only [Act.put, List.setIfInBounds_toArray, List.set_cons_zero, List.set_cons_succ, i64_w, i32_w]
                     rfl
                    refine pure_ (i := 2) (N := some 73) (v := ?_) (a' := ?_) #[true, true, true, false, false, false, false, false, false, false, false, false, false, false, false, false, false, false] rfl rfl (any_of HT_.out (by kernel_rfl)) (fun _ _ _ h => h) (Or.inl ⟨by rfl, ?_⟩) ?_ ?_
                    rotate_left
                    ·intro w'
                     go_simp
                     with_reducible rfl
                    rotate_left
                    ·simp only [Act.put, List.setIfInBounds_toArray, List.set_cons_zero, List.set_cons_succ, i64_w, i32_w]
                     rfl
                    refine pure_ (i := 3) (N := some 74) (v := ?_) (a' := ?_) #[true, true, true, true, false, false, false, false, false, false, false, false, false, false, false, false, false, false] rfl rfl (any_of HT_.out (by kernel_rfl)) (fun _ _ _ h => h) (Or.inl ⟨by rfl, ?_⟩) ?_ ?_
                    rotate_left
                    ·intro w'
                     go_simp
                     with_reducible rfl
                    rotate_left
                    ·simp only [Act.put, List.setIfInBounds_toArray, List.set_cons_zero, List.set_cons_succ, i64_w, i32_w]
                     rfl
                    refine pure_ (i := 5) (N := some 76) (v := ?_) (a' := ?_) #[true, true, true, true, false, true, false, false, false, false, false, false, false, false, false, false, false, false] rfl rfl (any_of HT_.out (by kernel_rfl)) (fun _ _ _ h => h) (Or.inl ⟨by rfl, ?_⟩) ?_ ?_
                    rotate_left
                    ·intro w'
                     go_simp
                     with_reducible rfl
                    rotate_left
                    ·simp only [Act.put, List.setIfInBounds_toArray, List.set_cons_zero, List.set_cons_succ, i64_w, i32_w]
                     rfl
                    refine pure_ (i := 6) (N := some 77) (v := ?_) (a' := ?_) #[true, true, true, true, false, true, true, false, false, false, false, false, false, false, false, false, false, false] rfl rfl (any_of HT_.out (by kernel_rfl)) (fun _ _ _ h => h) (Or.inl ⟨by rfl, ?_⟩) ?_ ?_
                    rotate_left
                    ·intro w'
                     go_simp
                     with_reducible rfl
                    rotate_left
                    ·simp only [Act.put, List.setIfInBounds_toArray, List.set_cons_zero, List.set_cons_succ, i64_w, i32_w]
                     rfl
                    refine pure_ (i := 7) (N := some 78) (v := ?_) (a' := ?_) #[true, true, true, true, false, true, true, true, false, false, false, false, false, false, false, false, false, false] rfl rfl (any_of HT_.out (by kernel_rfl)) (fun _ _ _ h => h) (Or.inl ⟨by rfl, ?_⟩) ?_ ?_
                    rotate_left
                    ·intro w'
                     go_simp
                     with_reducible rfl
                    rotate_left
                    ·simp only [Act.put, List.setIfInBounds_toArray, List.set_cons_zero, List.set_cons_succ, i64_w, i32_w]
                     rfl
                    refine pure_ (i := 8) (N := some 79) (v := ?_) (a' := ?_) #[true, true, true, true, false, true, true, true, true, false, false, false, false, false, false, false, false, false] rfl rfl (any_of HT_.out (by kernel_rfl)) (fun _ _ _ h => h) (Or.inl ⟨by rfl, ?_⟩) ?_ ?_
                    rotate_left
                    ·intro w'
                     go_simp
                     with_reducible rfl
                    rotate_left
                    ·simp only [Act.put, List.setIfInBounds_toArray, List.set_cons_zero, List.set_cons_succ, i64_w, i32_w]
                     rfl
                    refine pure_ (i := 10) (N := some 81) (v := ?_) (a' := ?_) #[true, true, true, true, false, true, true, true, true, false, true, false, false, false, false, false, false, false] rfl rfl (any_of HT_.out (by kernel_rfl)) (fun _ _ _ h => h) (Or.inl ⟨by rfl, ?_⟩) ?_ ?_
                    rotate_left
                    ·intro w'
                     go_simp
                     with_reducible rfl
                    rotate_left
                    ·simp only [Act.put, List.setIfInBounds_toArray, List.set_cons_zero, List.set_cons_succ, i64_w, i32_w]
                     rfl
                    refine pure_ (i := 11) (N := some 82) (v := ?_) (a' := ?_) #[true, true, true, true, false, true, true, true, true, false, true, true, false, false, false, false, false, false] rfl rfl (any_of HT_.out (by kernel_rfl)) (fun _ _ _ h => h) (Or.inl ⟨by rfl, ?_⟩) ?_ ?_
                    rotate_left
                    ·intro w'
                     go_simp
                     with_reducible rfl
                    rotate_left
                    ·simp only [Act.put, List.setIfInBounds_toArray, List.set_cons_zero, List.set_cons_succ, i64_w, i32_w]
                     rfl
                    refine pure_ (i := 12) (N := some 83) (v := ?_) (a' := ?_) #[true, true, true, true, false, true, true, true, true, false, true, true, true, false, false, false, false, false] rfl rfl (any_of HT_.out (by kernel_rfl)) (fun _ _ _ h => h) (Or.inl ⟨by rfl, ?_⟩) ?_ ?_
                    rotate_left
                    ·intro w'
                     go_simp
                     with_reducible rfl
                    rotate_left
                    ·simp only [Act.put, List.setIfInBounds_toArray, List.set_cons_zero, List.set_cons_succ, i64_w, i32_w]
                     rfl
                    refine pure_ (i := 13) (N := some 84) (v := ?_) (a' := ?_) #[true, true, true, true, false, true, true, true, true, false, true, true, true, true, false, false, false, false] rfl rfl (any_of HT_.out (by kernel_rfl)) (fun _ _ _ h => h) (Or.inl ⟨by rfl, ?_⟩) ?_ ?_
                    rotate_left
                    ·intro w'
                     go_simp
                     with_reducible rfl
                    rotate_left
                    ·simp only [Act.put, List.setIfInBounds_toArray, List.set_cons_zero, List.set_cons_succ, i64_w, i32_w]
                     rfl
                    refine take_ (i := 4) (N := some 75) (v := ?_) (a' := ?_) #[true, true, true, true, true, true, true, true, true, false, true, true, true, true, false, false, false, false] rfl rfl (take_ofW HT_.out HW_.out (by kernel_rfl)) (fun _ _ _ h => h) (Or.inl ⟨by rfl, ?_⟩) hHeld ?_ ?_
                    rotate_left
                    ·rintro w' ⟨s0, s1, s2, s3, s4, s5, s6, s7, s8, s9, s10, s11⟩
                     go_simp
                     with_reducible rfl
                    rotate_left
                    ·simp only [Act.put, List.setIfInBounds_toArray, List.set_cons_zero, List.set_cons_succ, i64_w, i32_w]
                     rfl
                    refine take_ (i := 9) (N := some 80) (v := ?_) (a' := ?_) #[true, true, true, true, true, true, true, true, true, true, true, true, true, true, false, false, false, false] rfl rfl (take_ofW HT_.out HW_.out (by kernel_rfl)) (fun _ _ _ h => h) (Or.inl ⟨by rfl, ?_⟩) hHeld ?_ ?_
                    rotate_left
                    ·rintro w' ⟨s0, s1, s2, s3, s4, s5, s6, s7, s8, s9, s10, s11⟩
                     go_simp
                     with_reducible rfl
                    rotate_left
                    ·simp only [Act.put, List.setIfInBounds_toArray, List.set_cons_zero, List.set_cons_succ, i64_w, i32_w]
                     rfl
                    refine take_ (i := 14) (N := some 85) (v := ?_) (a' := ?_) #[true, true, true, true, true, true, true, true, true, true, true, true, true, true, true, false, false, false] rfl rfl (take_ofW HT_.out HW_.out (by kernel_rfl)) (fun _ _ _ h => h) (Or.inl ⟨by rfl, ?_⟩) hHeld ?_ ?_
                    rotate_left
                    ·rintro w' ⟨s0, s1, s2, s3, s4, s5, s6, s7, s8, s9, s10, s11⟩
                     go_simp
                     with_reducible rfl
                    rotate_left
                    ·simp only [Act.put, List.setIfInBounds_toArray, List.set_cons_zero, List.set_cons_succ, i64_w, i32_w]
                     rfl
                    refine pure_ (i := 15) (N := some 86) (v := ?_) (a' := ?_) #[true, true, true, true, true, true, true, true, true, true, true, true, true, true, true, true, false, false] rfl rfl (any_of HT_.out (by kernel_rfl)) (fun _ _ _ h => h) (Or.inl ⟨by rfl, ?_⟩) ?_ ?_
                    rotate_left
                    ·intro w'
                     go_simp
                     with_reducible rfl
                    rotate_left
                    ·simp only [Act.put, List.setIfInBounds_toArray, List.set_cons_zero, List.set_cons_succ, i64_w, i32_w]
                     rfl
                    refine one_ (i := 16) (N := some 13) #[true, true, true, true, true, true, true, true, true, true, true, true, true, true, true, true, true, false] rfl rfl (one_of HT_.out (by kernel_rfl)) (by decide) (fun K hK => ?_)
                    refine box_step ?hg (N := 13) ?hd (cs := #[.int .i64 0, .bool false, .string (⟨#[]⟩ : ByteArray), .slice none 0 0]) (t := 32) ?hr ?_; (case hd => rfl); (case hg => rfl); (case hr => first | (go_simp; done) | (go_simp; rfl))
                    intro gb123 hg w55 hbox hb
                    have n0_ := Aside0.mk (Kd.R_below (by (with_reducible repeat (first | apply Kd.R_alloc | apply Kd.R_drewN | apply Kd.R_drew)); exact HO_8.out) hb)
                    have n1_ := Aside0.mk (Kd.R_below (by (with_reducible repeat (first | apply Kd.R_alloc | apply Kd.R_drewN | apply Kd.R_drew)); exact HO_9.out) hb)
                    have n2_ := Aside0.mk (below_step (by repeat (first | (with_reducible first | exact HB.out | apply below_alloc | apply pw_below_drewN | apply below_drew1) | exact HB.out)) hb)
                    have n3_ := Aside0.mk (hbox)
                    have n4_ := Aside0.mk ((by rw [hg]; exact (below_size (by repeat (first | (with_reducible first | exact HB.out | apply below_alloc | apply pw_below_drewN | apply below_drew1) | exact HB.out))) : w.heap.size ≤ gb123))
                    have n5_ := Aside0.mk ((by rw [hg]; exact (below_size (by repeat (first | (with_reducible first | exact HB.out | apply below_alloc | apply pw_below_drewN | apply below_drew1) | exact HB.out))) : w.heap.size ≤ gb123))
                    clear HO_8
                    clear HO_9
                    clear HB
                    have HO_8 := n0_
                    have HO_9 := n1_
                    have HB := n2_
                    have BK123 := n3_
                    have GW123 := n4_
                    have GE123 := n5_
                    clear n0_ n1_ n2_ n3_ n4_ n5_
                    clear hb hbox hg
                    refine hK.out _ _ ⟨((HB.out.cell (World.block_lt_of_cell? w _ hw120_0)).trans hw120_0), ((HB.out.cell (World.block_lt_of_cell? w _ hw120_1)).trans hw120_1), ((HB.out.cell (World.block_lt_of_cell? w _ hw120_2)).trans hw120_2), ((HB.out.cell (World.block_lt_of_cell? w _ hw120_3)).trans hw120_3), ((HB.out.cell (World.block_lt_of_cell? w _ hw121_0)).trans hw121_0), ((HB.out.cell (World.block_lt_of_cell? w _ hw121_1)).trans hw121_1), ((HB.out.cell (World.block_lt_of_cell? w _ hw121_2)).trans hw121_2), ((HB.out.cell (World.block_lt_of_cell? w _ hw121_3)).trans hw121_3), ((HB.out.cell (World.block_lt_of_cell? w _ hw122_0)).trans hw122_0), ((HB.out.cell (World.block_lt_of_cell? w _ hw122_1)).trans hw122_1), ((HB.out.cell (World.block_lt_of_cell? w _ hw122_2)).trans hw122_2), ((HB.out.cell (World.block_lt_of_cell? w _ hw122_3)).trans hw122_3)⟩ (fun hHeld => ?_)
                    clear hK K
                    refine norm_ (a' := ?_) ?_ ?_
                    rotate_left
                    ·show Act.put _ (some 13) _ = _
                     simp only [Act.put, List.setIfInBounds_toArray, List.set_cons_zero, List.set_cons_succ, i64_w, i32_w]
                     rfl
                    refine one_ (i := 17) (N := none) #[true, true, true, true, true, true, true, true, true, true, true, true, true, true, true, true, true, true] rfl rfl (one_of HT_.out (by kernel_rfl)) (by decide) (fun K hK => ?_)
                    have hs56 : w55.cell? ⟨gb123, 0, none⟩ = some (.int .i64 0) := (blk_cell BK123.out 0).trans rfl
                    have hfs56 := blk_frozen BK123.out 0
                    have hs57 : w55.cell? ⟨gb123, 1, none⟩ = some (.bool false) := (blk_cell BK123.out 1).trans rfl
                    have hfs57 := blk_frozen BK123.out 1
                    have hs58 : w55.cell? ⟨gb123, 2, none⟩ = some (.string (⟨#[]⟩ : ByteArray)) := (blk_cell BK123.out 2).trans rfl
                    have hfs58 := blk_frozen BK123.out 2
                    have hs59 : w55.cell? ⟨gb123, 3, none⟩ = some (.slice none 0 0) := (blk_cell BK123.out 3).trans rfl
                    have hfs59 := blk_frozen BK123.out 3
                    refine skip_ (w1 := ?_) (by rfl) rfl ?_ ?_
                    rotate_left
                    ·go_simp
                     rfl
                    refine hK.out _ _ ⟨((cell_far (p := ⟨gb123, _, none⟩) (by exact Nat.ne_of_lt (Nat.lt_of_lt_of_le (by have := World.block_lt_of_cell? _ _ hw120_0; first | rwa [add_block] at this | exact this) GW123.out)) _).trans (((cell_far (p := ⟨gb123, _, none⟩) (by exact Nat.ne_of_lt (Nat.lt_of_lt_of_le (by have := World.block_lt_of_cell? _ _ hw120_0; first | rwa [add_block] at this | exact this) GW123.out)) _).trans (((cell_far (p := ⟨gb123, _, none⟩) (by exact Nat.ne_of_lt (Nat.lt_of_lt_of_le (by have := World.block_lt_of_cell? _ _ hw120_0; first | rwa [add_block] at this | exact this) GW123.out)) _).trans (((cell_far (p := ⟨gb123, _, none⟩) (by exact Nat.ne_of_lt (Nat.lt_of_lt_of_le (by have := World.block_lt_of_cell? _ _ hw120_0; first | rwa [add_block] at this | exact this) GW123.out)) _).trans (hHeld.1)))))))), ((cell_far (p := ⟨gb123, _, none⟩) (by exact Nat.ne_of_lt (Nat.lt_of_lt_of_le (by have := World.block_lt_of_cell? _ _ hw120_1; first | rwa [add_block] at this | exact this) GW123.out)) _).trans (((cell_far (p := ⟨gb123, _, none⟩) (by exact Nat.ne_of_lt (Nat.lt_of_lt_of_le (by have := World.block_lt_of_cell? _ _ hw120_1; first | rwa [add_block] at this | exact this) GW123.out)) _).trans (((cell_far (p := ⟨gb123, _, none⟩) (by exact Nat.ne_of_lt (Nat.lt_of_lt_of_le (by have := World.block_lt_of_cell? _ _ hw120_1; first | rwa [add_block] at this | exact this) GW123.out)) _).trans (((cell_far (p := ⟨gb123, _, none⟩) (by exact Nat.ne_of_lt (Nat.lt_of_lt_of_le (by have := World.block_lt_of_cell? _ _ hw120_1; first | rwa [add_block] at this | exact this) GW123.out)) _).trans (hHeld.2.1)))))))), ((cell_far (p := ⟨gb123, _, none⟩) (by exact Nat.ne_of_lt (Nat.lt_of_lt_of_le (by have := World.block_lt_of_cell? _ _ hw120_2; first | rwa [add_block] at this | exact this) GW123.out)) _).trans (((cell_far (p := ⟨gb123, _, none⟩) (by exact Nat.ne_of_lt (Nat.lt_of_lt_of_le (by have := World.block_lt_of_cell? _ _ hw120_2; first | rwa [add_block] at this | exact this) GW123.out)) _).trans (((cell_far (p := ⟨gb123, _, none⟩) (by exact Nat.ne_of_lt (Nat.lt_of_lt_of_le (by have := World.block_lt_of_cell? _ _ hw120_2; first | rwa [add_block] at this | exact this) GW123.out)) _).trans (((cell_far (p := ⟨gb123, _, none⟩) (by exact Nat.ne_of_lt (Nat.lt_of_lt_of_le (by have := World.block_lt_of_cell? _ _ hw120_2; first | rwa [add_block] at this | exact this) GW123.out)) _).trans (hHeld.2.2.1)))))))), ((cell_far (p := ⟨gb123, _, none⟩) (by exact Nat.ne_of_lt (Nat.lt_of_lt_of_le (by have := World.block_lt_of_cell? _ _ hw120_3; first | rwa [add_block] at this | exact this) GW123.out)) _).trans (((cell_far (p := ⟨gb123, _, none⟩) (by exact Nat.ne_of_lt (Nat.lt_of_lt_of_le (by have := World.block_lt_of_cell? _ _ hw120_3; first | rwa [add_block] at this | exact this) GW123.out)) _).trans (((cell_far (p := ⟨gb123, _, none⟩) (by exact Nat.ne_of_lt (Nat.lt_of_lt_of_le (by have := World.block_lt_of_cell? _ _ hw120_3; first | rwa [add_block] at this | exact this) GW123.out)) _).trans (((cell_far (p := ⟨gb123, _, none⟩) (by exact Nat.ne_of_lt (Nat.lt_of_lt_of_le (by have := World.block_lt_of_cell? _ _ hw120_3; first | rwa [add_block] at this | exact this) GW123.out)) _).trans (hHeld.2.2.2.1)))))))), ((cell_far (p := ⟨gb123, _, none⟩) (by exact Nat.ne_of_lt (Nat.lt_of_lt_of_le (by have := World.block_lt_of_cell? _ _ hw121_0; first | rwa [add_block] at this | exact this) GW123.out)) _).trans (((cell_far (p := ⟨gb123, _, none⟩) (by exact Nat.ne_of_lt (Nat.lt_of_lt_of_le (by have := World.block_lt_of_cell? _ _ hw121_0; first | rwa [add_block] at this | exact this) GW123.out)) _).trans (((cell_far (p := ⟨gb123, _, none⟩) (by exact Nat.ne_of_lt (Nat.lt_of_lt_of_le (by have := World.block_lt_of_cell? _ _ hw121_0; first | rwa [add_block] at this | exact this) GW123.out)) _).trans (((cell_far (p := ⟨gb123, _, none⟩) (by exact Nat.ne_of_lt (Nat.lt_of_lt_of_le (by have := World.block_lt_of_cell? _ _ hw121_0; first | rwa [add_block] at this | exact this) GW123.out)) _).trans (hHeld.2.2.2.2.1)))))))), ((cell_far (p := ⟨gb123, _, none⟩) (by exact Nat.ne_of_lt (Nat.lt_of_lt_of_le (by have := World.block_lt_of_cell? _ _ hw121_1; first | rwa [add_block] at this | exact this) GW123.out)) _).trans (((cell_far (p := ⟨gb123, _, none⟩) (by exact Nat.ne_of_lt (Nat.lt_of_lt_of_le (by have := World.block_lt_of_cell? _ _ hw121_1; first | rwa [add_block] at this | exact this) GW123.out)) _).trans (((cell_far (p := ⟨gb123, _, none⟩) (by exact Nat.ne_of_lt (Nat.lt_of_lt_of_le (by have := World.block_lt_of_cell? _ _ hw121_1; first | rwa [add_block] at this | exact this) GW123.out)) _).trans (((cell_far (p := ⟨gb123, _, none⟩) (by exact Nat.ne_of_lt (Nat.lt_of_lt_of_le (by have := World.block_lt_of_cell? _ _ hw121_1; first | rwa [add_block] at this | exact this) GW123.out)) _).trans (hHeld.2.2.2.2.2.1)))))))), ((cell_far (p := ⟨gb123, _, none⟩) (by exact Nat.ne_of_lt (Nat.lt_of_lt_of_le (by have := World.block_lt_of_cell? _ _ hw121_2; first | rwa [add_block] at this | exact this) GW123.out)) _).trans (((cell_far (p := ⟨gb123, _, none⟩) (by exact Nat.ne_of_lt (Nat.lt_of_lt_of_le (by have := World.block_lt_of_cell? _ _ hw121_2; first | rwa [add_block] at this | exact this) GW123.out)) _).trans (((cell_far (p := ⟨gb123, _, none⟩) (by exact Nat.ne_of_lt (Nat.lt_of_lt_of_le (by have := World.block_lt_of_cell? _ _ hw121_2; first | rwa [add_block] at this | exact this) GW123.out)) _).trans (((cell_far (p := ⟨gb123, _, none⟩) (by exact Nat.ne_of_lt (Nat.lt_of_lt_of_le (by have := World.block_lt_of_cell? _ _ hw121_2; first | rwa [add_block] at this | exact this) GW123.out)) _).trans (hHeld.2.2.2.2.2.2.1)))))))), ((cell_far (p := ⟨gb123, _, none⟩) (by exact Nat.ne_of_lt (Nat.lt_of_lt_of_le (by have := World.block_lt_of_cell? _ _ hw121_3; first | rwa [add_block] at this | exact this) GW123.out)) _).trans (((cell_far (p := ⟨gb123, _, none⟩) (by exact Nat.ne_of_lt (Nat.lt_of_lt_of_le (by have := World.block_lt_of_cell? _ _ hw121_3; first | rwa [add_block] at this | exact this) GW123.out)) _).trans (((cell_far (p := ⟨gb123, _, none⟩) (by exact Nat.ne_of_lt (Nat.lt_of_lt_of_le (by have := World.block_lt_of_cell? _ _ hw121_3; first | rwa [add_block] at this | exact this) GW123.out)) _).trans (((cell_far (p := ⟨gb123, _, none⟩) (by exact Nat.ne_of_lt (Nat.lt_of_lt_of_le (by have := World.block_lt_of_cell? _ _ hw121_3; first | rwa [add_block] at this | exact this) GW123.out)) _).trans (hHeld.2.2.2.2.2.2.2.1)))))))), ((cell_far (p := ⟨gb123, _, none⟩) (by exact Nat.ne_of_lt (Nat.lt_of_lt_of_le (by have := World.block_lt_of_cell? _ _ hw122_0; first | rwa [add_block] at this | exact this) GW123.out)) _).trans (((cell_far (p := ⟨gb123, _, none⟩) (by exact Nat.ne_of_lt (Nat.lt_of_lt_of_le (by have := World.block_lt_of_cell? _ _ hw122_0; first | rwa [add_block] at this | exact this) GW123.out)) _).trans (((cell_far (p := ⟨gb123, _, none⟩) (by exact Nat.ne_of_lt (Nat.lt_of_lt_of_le (by have := World.block_lt_of_cell? _ _ hw122_0; first | rwa [add_block] at this | exact this) GW123.out)) _).trans (((cell_far (p := ⟨gb123, _, none⟩) (by exact Nat.ne_of_lt (Nat.lt_of_lt_of_le (by have := World.block_lt_of_cell? _ _ hw122_0; first | rwa [add_block] at this | exact this) GW123.out)) _).trans (hHeld.2.2.2.2.2.2.2.2.1)))))))), ((cell_far (p := ⟨gb123, _, none⟩) (by exact Nat.ne_of_lt (Nat.lt_of_lt_of_le (by have := World.block_lt_of_cell? _ _ hw122_1; first | rwa [add_block] at this | exact this) GW123.out)) _).trans (((cell_far (p := ⟨gb123, _, none⟩) (by exact Nat.ne_of_lt (Nat.lt_of_lt_of_le (by have := World.block_lt_of_cell? _ _ hw122_1; first | rwa [add_block] at this | exact this) GW123.out)) _).trans (((cell_far (p := ⟨gb123, _, none⟩) (by exact Nat.ne_of_lt (Nat.lt_of_lt_of_le (by have := World.block_lt_of_cell? _ _ hw122_1; first | rwa [add_block] at this | exact this) GW123.out)) _).trans (((cell_far (p := ⟨gb123, _, none⟩) (by exact Nat.ne_of_lt (Nat.lt_of_lt_of_le (by have := World.block_lt_of_cell? _ _ hw122_1; first | rwa [add_block] at this | exact this) GW123.out)) _).trans (hHeld.2.2.2.2.2.2.2.2.2.1)))))))), ((cell_far (p := ⟨gb123, _, none⟩) (by exact Nat.ne_of_lt (Nat.lt_of_lt_of_le (by have := World.block_lt_of_cell? _ _ hw122_2; first | rwa [add_block] at this | exact this) GW123.out)) _).trans (((cell_far (p := ⟨gb123, _, none⟩) (by exact Nat.ne_of_lt (Nat.lt_of_lt_of_le (by have := World.block_lt_of_cell? _ _ hw122_2; first | rwa [add_block] at this | exact this) GW123.out)) _).trans (((cell_far (p := ⟨gb123, _, none⟩) (by exact Nat.ne_of_lt (Nat.lt_of_lt_of_le (by have := World.block_lt_of_cell? _ _ hw122_2; first | rwa [add_block] at this | exact this) GW123.out)) _).trans (((cell_far (p := ⟨gb123, _, none⟩) (by exact Nat.ne_of_lt (Nat.lt_of_lt_of_le (by have := World.block_lt_of_cell? _ _ hw122_2; first | rwa [add_block] at this | exact this) GW123.out)) _).trans (hHeld.2.2.2.2.2.2.2.2.2.2.1)))))))), ((cell_far (p := ⟨gb123, _, none⟩) (by exact Nat.ne_of_lt (Nat.lt_of_lt_of_le (by have := World.block_lt_of_cell? _ _ hw122_3; first | rwa [add_block] at this | exact this) GW123.out)) _).trans (((cell_far (p := ⟨gb123, _, none⟩) (by exact Nat.ne_of_lt (Nat.lt_of_lt_of_le (by have := World.block_lt_of_cell? _ _ hw122_3; first | rwa [add_block] at this | exact this) GW123.out)) _).trans (((cell_far (p := ⟨gb123, _, none⟩) (by exact Nat.ne_of_lt (Nat.lt_of_lt_of_le (by have := World.block_lt_of_cell? _ _ hw122_3; first | rwa [add_block] at this | exact this) GW123.out)) _).trans (((cell_far (p := ⟨gb123, _, none⟩) (by exact Nat.ne_of_lt (Nat.lt_of_lt_of_le (by have := World.block_lt_of_cell? _ _ hw122_3; first | rwa [add_block] at this | exact this) GW123.out)) _).trans (hHeld.2.2.2.2.2.2.2.2.2.2.2))))))))⟩ (fun hHeld => ?_)
                    clear hK K
                    refine done_ (done_of HT_.out (by kernel_rfl)) ?_
                    have hcz60_0 : w55.cell? ⟨gb123, 0, none⟩ = some (.int .i64 0) := (blk_cell BK123.out 0).trans rfl
                    have hcz60_1 : w55.cell? ⟨gb123, 1, none⟩ = some (.bool false) := (blk_cell BK123.out 1).trans rfl
                    have hcz60_2 : w55.cell? ⟨gb123, 2, none⟩ = some (.string (⟨#[]⟩ : ByteArray)) := (blk_cell BK123.out 2).trans rfl
                    have hcz60_3 : w55.cell? ⟨gb123, 3, none⟩ = some (.slice none 0 0) := (blk_cell BK123.out 3).trans rfl
                    have hfz60_0 := blk_frozen BK123.out 0
                    have hfz60_1 := blk_frozen BK123.out 1
                    have hfz60_2 := blk_frozen BK123.out 2
                    have hfz60_3 := blk_frozen BK123.out 3
                    try go_wp2_with (first | ((with_reducible refine gate_callee (f := 32) rfl ?_); refine goesL_ (some 89) rfl rfl Tryd.func32 (by kernel_rfl) rfl #[.agg #[.int .i64 ((rd_T29 l0 x1_1).f1), .bool ((rd_T29 l0 x1_1).f2), .string ((rd_T29 l0 x1_1).f3), .slice none 0 0]] rfl (by (try simp only [List.map_toArray, List.map_cons, List.map_nil]); first | done | rfl | (simp only [List.length_drop, List.length_take]; rfl)) ?_; (refine (depotref06_Own.calls ((rd_T29 l0 x1_1).f1) ((rd_T29 l0 x1_1).f2) ((rd_T29 l0 x1_1).f3) _ _ ([] : List (S63)) t124 t125 _ ?side1 ?side2 A31.out).mono ?_); (case side1 => exact Kd.C_nil _ _); (case side2 => exact Nat.le_refl _); rintro e w61 ⟨rfl, hb⟩; refine ⟨_, rfl, ?_⟩; have n0_ := Aside0.mk (Kd.R_below (by (with_reducible repeat (first | apply Kd.R_alloc | apply Kd.R_drewN | apply Kd.R_drew)); exact (Kd.R_mono (Kd.R_far (p := ⟨gb123, 3, none⟩) (Kd.R_far (p := ⟨gb123, 2, none⟩) (Kd.R_far (p := ⟨gb123, 1, none⟩) (Kd.R_far (p := ⟨gb123, 0, none⟩) (Kd.R_types HO_8.out BK123.out (by decide)) (fun _ hk => hk.2) (.int .i64 ((rd_T29 l0 x1_1).f1))) (fun _ hk => hk.2) (.bool ((rd_T29 l0 x1_1).f2))) (fun _ hk => hk.2) (.string ((rd_T29 l0 x1_1).f3))) (fun _ hk => hk.2) (.slice none 0 0)) (fun _ h_ => h_.1))) hb); have n1_ := Aside0.mk (Kd.R_below (by (with_reducible repeat (first | apply Kd.R_alloc | apply Kd.R_drewN | apply Kd.R_drew)); exact (Kd.R_mono (Kd.R_far (p := ⟨gb123, 3, none⟩) (Kd.R_far (p := ⟨gb123, 2, none⟩) (Kd.R_far (p := ⟨gb123, 1, none⟩) (Kd.R_far (p := ⟨gb123, 0, none⟩) (Kd.R_types HO_9.out BK123.out (by decide)) (fun _ hk => hk.2) (.int .i64 ((rd_T29 l0 x1_1).f1))) (fun _ hk => hk.2) (.bool ((rd_T29 l0 x1_1).f2))) (fun _ hk => hk.2) (.string ((rd_T29 l0 x1_1).f3))) (fun _ hk => hk.2) (.slice none 0 0)) (fun _ h_ => h_.1))) hb); have n2_ := Aside0.mk (blk_below (g := gb123) (o := .cells #[.int .i64 ((rd_T29 l0 x1_1).f1), .bool ((rd_T29 l0 x1_1).f2), .string ((rd_T29 l0 x1_1).f3), .slice none 0 0] 32 (0, 0)) (by (with_reducible repeat (first | refine blk_drewN ?_ _ | refine blk_drew ?_ | refine blk_alloc ?_ _)); refine blk_put (cs := #[.int .i64 ((rd_T29 l0 x1_1).f1), .bool ((rd_T29 l0 x1_1).f2), .string ((rd_T29 l0 x1_1).f3), .slice none 0 0]) ?_ 3 _ rfl; (with_reducible repeat (first | refine blk_drewN ?_ _ | refine blk_drew ?_ | refine blk_alloc ?_ _)); refine blk_put (cs := #[.int .i64 ((rd_T29 l0 x1_1).f1), .bool ((rd_T29 l0 x1_1).f2), .string (⟨#[]⟩ : ByteArray), .slice none 0 0]) ?_ 2 _ rfl; (with_reducible repeat (first | refine blk_drewN ?_ _ | refine blk_drew ?_ | refine blk_alloc ?_ _)); refine blk_put (cs := #[.int .i64 ((rd_T29 l0 x1_1).f1), .bool false, .string (⟨#[]⟩ : ByteArray), .slice none 0 0]) ?_ 1 _ rfl; (with_reducible repeat (first | refine blk_drewN ?_ _ | refine blk_drew ?_ | refine blk_alloc ?_ _)); refine blk_put (cs := #[.int .i64 0, .bool false, .string (⟨#[]⟩ : ByteArray), .slice none 0 0]) ?_ 0 _ rfl; (with_reducible repeat (first | refine blk_drewN ?_ _ | refine blk_drew ?_ | refine blk_alloc ?_ _)); exact BK123.out) hb); have n3_ := Aside0.mk (below_step (by repeat (first | (with_reducible first | exact HB.out | apply below_alloc | apply pw_below_drewN | apply below_drew1 | refine below_set ?_ GE123.out) | exact HB.out)) hb); clear HO_8; clear HO_9; clear BK123; clear HB; have HO_8 := n0_; have HO_9 := n1_; have BK123 := n2_; have HB := n3_; clear n0_ n1_ n2_ n3_; (try clear hb); (try clear hb2); (try clear hk); (try clear hi); have p126 : 0 ≤ ((ji33) : Int) := of_decide_eq_true (by first | (with_reducible assumption) | assumption); have q126 : (ji33) < (l0.length : Int) := of_decide_eq_true (by first | (with_reducible assumption) | assumption); obtain ⟨ad126, e126, hx126_0, hx126_1, hx126_2, hx126_3⟩ := at_T29 HR0.out (ji33) p126 q126; obtain rfl : ad110 = ad126 := (by injection e126); replace hx126_0 := (HB.out.cell (World.block_lt_of_cell? w _ hx126_0)).trans hx126_0; replace hx126_1 := (HB.out.cell (World.block_lt_of_cell? w _ hx126_1)).trans hx126_1; replace hx126_2 := (HB.out.cell (World.block_lt_of_cell? w _ hx126_2)).trans hx126_2; replace hx126_3 := (HB.out.cell (World.block_lt_of_cell? w _ hx126_3)).trans hx126_3; replace p126 := eq_true p126; replace q126 := eq_true q126; have hcz62_0 : w61.cell? ⟨gb123, 0, none⟩ = some (.int .i64 ((rd_T29 l0 x1_1).f1)) := (blk_cell BK123.out 0).trans rfl; have hcz62_1 : w61.cell? ⟨gb123, 1, none⟩ = some (.bool ((rd_T29 l0 x1_1).f2)) := (blk_cell BK123.out 1).trans rfl; have hcz62_2 : w61.cell? ⟨gb123, 2, none⟩ = some (.string ((rd_T29 l0 x1_1).f3)) := (blk_cell BK123.out 2).trans rfl; have hcz62_3 : w61.cell? ⟨gb123, 3, none⟩ = some (.slice none 0 0) := (blk_cell BK123.out 3).trans rfl; have hfz62_0 := blk_frozen BK123.out 0; have hfz62_1 := blk_frozen BK123.out 1; have hfz62_2 := blk_frozen BK123.out 2; have hfz62_3 := blk_frozen BK123.out 3) | ((with_reducible refine gate_builtin (b := .append) (xs := #[.tmp 113, .tmp 117]) rfl ?_); (try (refine gate_guard (by rfl) ?_; dsimp only)); at_builtin; refine Kd.R_append k63 (w0 := w) w.heap.size rfl (.tmp 113) (.tmp 117) 30 63 (.agg #[(.string ⟨#[]⟩), (.int .i64 0), (.bool false), (.string ⟨#[]⟩), (.slice none 0 0)]) 72 rfl Tryd.underlying30 info63 rfl (by decide) (by omega) u8 x8_1 (⟨(rdOf ByteArray.empty t111 (ji15)), (rd_T29 l0 x1_1).f1, (rd_T29 l0 x1_1).f2, (rd_T29 l0 x1_1).f3, ([] : List (S63))⟩ : S63) [.string (rdOf ByteArray.empty t111 (ji15)), .int .i64 ((rd_T29 l0 x1_1).f1), .bool ((rd_T29 l0 x1_1).f2), .string ((rd_T29 l0 x1_1).f3), .slice none 0 0] (fun _ => True) (fun k_ => ((fun _ => True)) k_ ∧ some k_ ≠ (u8 : Value).ownBlock) rfl rfl ?aP (fun _ hk => hk) ?aF ?aO ?aB ?aS ?aL ?_; (case aP => exact k63_mkM _ _ _ (⟨(rdOf ByteArray.empty t111 (ji15)), (rd_T29 l0 x1_1).f1, (rd_T29 l0 x1_1).f2, (rd_T29 l0 x1_1).f3, ([] : List (S63))⟩ : S63) (Kd.R_nil _ _ _ _ _)); (case aB => exact (by repeat (first | (with_reducible first | exact HB.out | apply below_alloc | apply pw_below_drewN | apply below_drew1 | refine below_set ?_ GE123.out) | exact HB.out))); (case aF => exact (fun _ _ => trivial)); (case aO => exact (by (with_reducible repeat (first | apply Kd.R_alloc | apply Kd.R_drewN | apply Kd.R_drew)); exact HO_8.out)); (case aS => exact (below_size (by repeat (first | (with_reducible first | exact HB.out | apply below_alloc | apply pw_below_drewN | apply below_drew1 | refine below_set ?_ GE123.out) | exact HB.out)))); (case aL => have := LMc53.out; omega); intro v135 w63 ho hb hg hat; rw [← Ny134.out] at ho; have n0_ := Aside0.mk (Kd.R_over' (by (with_reducible repeat (first | apply Kd.R_alloc | apply Kd.R_drewN | apply Kd.R_drew)); exact HO_9.out) (Kd.R_typed (by (with_reducible repeat (first | apply Kd.R_alloc | apply Kd.R_drewN | apply Kd.R_drew)); exact HO_8.out)) (by decide) hg); have n1_ := Aside0.mk (blk_grown (g := gb123) (o := .cells #[.int .i64 ((rd_T29 l0 x1_1).f1), .bool ((rd_T29 l0 x1_1).f2), .string ((rd_T29 l0 x1_1).f3), .slice none 0 0] 32 (0, 0)) (by (with_reducible repeat (first | refine blk_drewN ?_ _ | refine blk_drew ?_ | refine blk_alloc ?_ _)); exact BK123.out) hg (Kd.R_ne HO_8.out BK123.out (by decide))); have n2_ := Aside0.mk (hb); have n3_ := Aside0.mk (ho); clear HO_9; clear BK123; clear HB; clear HO_8; have HO_9 := n0_; have BK123 := n1_; have HB := n2_; have HO136 := n3_; clear n0_ n1_ n2_ n3_; clear ho hb hg hat))
                    go_roundg kj17
                    case measure => have := HK1.out; have := HJ6.out; have := HJ17.out; omega
                    case rel => exact ⟨(wrap64 (x1_1 + 1)), (y134), (by first | rfl | (simp; done) | (simp [*]; done)), H', ⟨by have := HK1.out; have := HJ6.out; have := HJ17.out; omega⟩, ⟨by (with_reducible repeat (first | apply Kd.R_alloc | apply Kd.R_drewN | apply Kd.R_drew)); exact HO136.out⟩, ⟨by repeat (first | (with_reducible first | exact HB.out | apply below_alloc | apply pw_below_drewN | apply below_drew1 | refine below_set ?_ GE123.out) | exact HB.out)⟩⟩
                   ·rw [if_neg c53] at H
                    exact absurd H (by simp)
                 ·rw [if_neg c35] at H
                  exact absurd H (by simp)
                ·rw [if_neg c34] at H
                 exact absurd H (by simp)
               ·rw [if_neg c32] at H
                have c32b0 : (t124 == 0) = false := beq_eq_false_iff_ne.mpr c32
                have c32b1 : (t124 != 0) = true := bne_iff_ne.mpr c32
                simp only [Option.some.injEq, Prod.mk.injEq] at H
                obtain ⟨rfl, rfl⟩ := H
                try go_wp2
                have n0_ := Aside0.mk (Kd.R_drew HO_8.out)
                have n1_ := Aside0.mk (Kd.R_drew HO_9.out)
                have n2_ := Aside0.mk (below_drew1 HB.out)
                clear HO_8
                clear HO_9
                clear HB
                have HO_8 := n0_
                have HO_9 := n1_
                have HB := n2_
                clear n0_ n1_ n2_
                have p120 : 0 ≤ (x1_1 : Int) := of_decide_eq_true (by first | (with_reducible assumption) | assumption)
                have q120 : x1_1 < (l0.length : Int) := of_decide_eq_true (by first | (with_reducible assumption) | assumption)
                obtain ⟨ad120, e120, hx120_0, hx120_1, hx120_2, hx120_3⟩ := at_T29 HR0.out x1_1 p120 q120
                have hw120_3 := hx120_3
                have hw120_2 := hx120_2
                have hw120_1 := hx120_1
                have hw120_0 := hx120_0
                obtain rfl : ad110 = ad120 := (by injection e120)
                replace hx120_0 := (HB.out.cell (World.block_lt_of_cell? w _ hx120_0)).trans hx120_0
                replace hx120_1 := (HB.out.cell (World.block_lt_of_cell? w _ hx120_1)).trans hx120_1
                replace hx120_2 := (HB.out.cell (World.block_lt_of_cell? w _ hx120_2)).trans hx120_2
                replace hx120_3 := (HB.out.cell (World.block_lt_of_cell? w _ hx120_3)).trans hx120_3
                replace p120 := eq_true p120
                replace q120 := eq_true q120
                have p121 : 0 ≤ (x1_1 : Int) := of_decide_eq_true (by first | (with_reducible assumption) | assumption)
                have q121 : x1_1 < (l0.length : Int) := of_decide_eq_true (by first | (with_reducible assumption) | assumption)
                obtain ⟨ad121, e121, hx121_0, hx121_1, hx121_2, hx121_3⟩ := at_T29 HR0.out x1_1 p121 q121
                have hw121_3 := hx121_3
                have hw121_2 := hx121_2
                have hw121_1 := hx121_1
                have hw121_0 := hx121_0
                obtain rfl : ad110 = ad121 := (by injection e121)
                replace hx121_0 := (HB.out.cell (World.block_lt_of_cell? w _ hx121_0)).trans hx121_0
                replace hx121_1 := (HB.out.cell (World.block_lt_of_cell? w _ hx121_1)).trans hx121_1
                replace hx121_2 := (HB.out.cell (World.block_lt_of_cell? w _ hx121_2)).trans hx121_2
                replace hx121_3 := (HB.out.cell (World.block_lt_of_cell? w _ hx121_3)).trans hx121_3
                replace p121 := eq_true p121
                replace q121 := eq_true q121
                have p122 : 0 ≤ (x1_1 : Int) := of_decide_eq_true (by first | (with_reducible assumption) | assumption)
                have q122 : x1_1 < (l0.length : Int) := of_decide_eq_true (by first | (with_reducible assumption) | assumption)
                obtain ⟨ad122, e122, hx122_0, hx122_1, hx122_2, hx122_3⟩ := at_T29 HR0.out x1_1 p122 q122
                have hw122_3 := hx122_3
                have hw122_2 := hx122_2
                have hw122_1 := hx122_1
                have hw122_0 := hx122_0
                obtain rfl : ad110 = ad122 := (by injection e122)
                replace hx122_0 := (HB.out.cell (World.block_lt_of_cell? w _ hx122_0)).trans hx122_0
                replace hx122_1 := (HB.out.cell (World.block_lt_of_cell? w _ hx122_1)).trans hx122_1
                replace hx122_2 := (HB.out.cell (World.block_lt_of_cell? w _ hx122_2)).trans hx122_2
                replace hx122_3 := (HB.out.cell (World.block_lt_of_cell? w _ hx122_3)).trans hx122_3
                replace p122 := eq_true p122
                replace q122 := eq_true q122
                refine start_ (n := 18) (S := fun w' => w'.cell? (ad110.add ((x1_1).toNat * 4)) = some (.string ((rd_T29 l0 x1_1).f0)) ∧ w'.cell? ⟨(ad110.add ((x1_1).toNat * 4)).block, (ad110.add ((x1_1).toNat * 4)).off + 1, none⟩ = some (.int .i64 ((rd_T29 l0 x1_1).f1)) ∧ w'.cell? ⟨(ad110.add ((x1_1).toNat * 4)).block, (ad110.add ((x1_1).toNat * 4)).off + 2, none⟩ = some (.bool ((rd_T29 l0 x1_1).f2)) ∧ w'.cell? ⟨(ad110.add ((x1_1).toNat * 4)).block, (ad110.add ((x1_1).toNat * 4)).off + 3, none⟩ = some (.string ((rd_T29 l0 x1_1).f3)) ∧ w'.cell? (ad110.add ((x1_1).toNat * 4)) = some (.string ((rd_T29 l0 x1_1).f0)) ∧ w'.cell? ⟨(ad110.add ((x1_1).toNat * 4)).block, (ad110.add ((x1_1).toNat * 4)).off + 1, none⟩ = some (.int .i64 ((rd_T29 l0 x1_1).f1)) ∧ w'.cell? ⟨(ad110.add ((x1_1).toNat * 4)).block, (ad110.add ((x1_1).toNat * 4)).off + 2, none⟩ = some (.bool ((rd_T29 l0 x1_1).f2)) ∧ w'.cell? ⟨(ad110.add ((x1_1).toNat * 4)).block, (ad110.add ((x1_1).toNat * 4)).off + 3, none⟩ = some (.string ((rd_T29 l0 x1_1).f3)) ∧ w'.cell? (ad110.add ((x1_1).toNat * 4)) = some (.string ((rd_T29 l0 x1_1).f0)) ∧ w'.cell? ⟨(ad110.add ((x1_1).toNat * 4)).block, (ad110.add ((x1_1).toNat * 4)).off + 1, none⟩ = some (.int .i64 ((rd_T29 l0 x1_1).f1)) ∧ w'.cell? ⟨(ad110.add ((x1_1).toNat * 4)).block, (ad110.add ((x1_1).toNat * 4)).off + 2, none⟩ = some (.bool ((rd_T29 l0 x1_1).f2)) ∧ w'.cell? ⟨(ad110.add ((x1_1).toNat * 4)).block, (ad110.add ((x1_1).toNat * 4)).off + 3, none⟩ = some (.string ((rd_T29 l0 x1_1).f3))) (ds := []) #[false, false, false, false, false, false, false, false, false, false, false, false, false, false, false, false, false, false] (by kernel_rfl) rfl rfl ⟨((HB.out.cell (World.block_lt_of_cell? w _ hw120_0)).trans hw120_0), ((HB.out.cell (World.block_lt_of_cell? w _ hw120_1)).trans hw120_1), ((HB.out.cell (World.block_lt_of_cell? w _ hw120_2)).trans hw120_2), ((HB.out.cell (World.block_lt_of_cell? w _ hw120_3)).trans hw120_3), ((HB.out.cell (World.block_lt_of_cell? w _ hw121_0)).trans hw121_0), ((HB.out.cell (World.block_lt_of_cell? w _ hw121_1)).trans hw121_1), ((HB.out.cell (World.block_lt_of_cell? w _ hw121_2)).trans hw121_2), ((HB.out.cell (World.block_lt_of_cell? w _ hw121_3)).trans hw121_3), ((HB.out.cell (World.block_lt_of_cell? w _ hw122_0)).trans hw122_0), ((HB.out.cell (World.block_lt_of_cell? w _ hw122_1)).trans hw122_1), ((HB.out.cell (World.block_lt_of_cell? w _ hw122_2)).trans hw122_2), ((HB.out.cell (World.block_lt_of_cell? w _ hw122_3)).trans hw122_3)⟩ (fun hHeld => ?_); refine with_tabW depotref06_gather.tab9 depotref06_gather.bits9 (fun HT_ HW_ => ?_)
                generalize wc.drew = w64 at HO_8 HO_9 HB hx120_0 hx120_1 hx120_2 hx120_3 hx121_0 hx121_1 hx121_2 hx121_3 hx122_0 hx122_1 hx122_2 hx122_3 hHeld ⊢
                refine pure_ (i := 0) (N := some 71) (v := ?_) (a' := ?_) #[true, false, false, false, false, false, false, false, false, false, false, false, false, false, false, false, false, false] rfl rfl (any_of HT_.out (by kernel_rfl)) (fun _ _ _ h => h) (Or.inl ⟨by rfl, ?_⟩) ?_ ?_
                rotate_left
                ·intro w'
                 go_simp
                 with_reducible rfl
                rotate_left
                ·simp only [Act.put, List.setIfInBounds_toArray, List.set_cons_zero, List.set_cons_succ, i64_w, i32_w]
                 rfl
                refine pure_ (i := 1) (N := some 72) (v := ?_) (a' := ?_) #[true, true, false, false, false, false, false, false, false, false, false, false, false, false, false, false, false, false] rfl rfl (any_of HT_.out (by kernel_rfl)) (fun _ _ _ h => h) (Or.inl ⟨by rfl, ?_⟩) ?_ ?_
                rotate_left
                ·intro w'
                 go_simp
                 with_reducible rfl
                rotate_left
                ·simp only [Act.put, List.setIfInBounds_toArray, List.set_cons_zero, List.set_cons_succ, i64_w, i32_w]
                 rfl
                refine pure_ (i := 2) (N := some 73) (v := ?_) (a' := ?_) #[true, true, true, false, false, false, false, false, false, false, false, false, false, false, false, false, false, false] rfl rfl (any_of HT_.out (by kernel_rfl)) (fun _ _ _ h => h) (Or.inl ⟨by rfl, ?_⟩) ?_ ?_
                rotate_left
                ·intro w'
                 go_simp
                 with_reducible rfl
                rotate_left
                ·simp only [Act.put, List.setIfInBounds_toArray, List.set_cons_zero, List.set_cons_succ, i64_w, i32_w]
                 rfl
                refine pure_ (i := 3) (N := some 74) (v := ?_) (a' := ?_) #[true, true, true, true, false, false, false, false, false, false, false, false, false, false, false, false, false, false] rfl rfl (any_of HT_.out (by kernel_rfl)) (fun _ _ _ h => h) (Or.inl ⟨by rfl, ?_⟩) ?_ ?_
                rotate_left
                ·intro w'
                 go_simp
                 with_reducible rfl
                rotate_left
                ·simp only [Act.put, List.setIfInBounds_toArray, List.set_cons_zero, List.set_cons_succ, i64_w, i32_w]
                 rfl
                refine pure_ (i := 5) (N := some 76) (v := ?_) (a' := ?_) #[true, true, true, true, false, true, false, false, false, false, false, false, false, false, false, false, false, false] rfl rfl (any_of HT_.out (by kernel_rfl)) (fun _ _ _ h => h) (Or.inl ⟨by rfl, ?_⟩) ?_ ?_
                rotate_left
                ·intro w'
                 go_simp
                 with_reducible rfl
                rotate_left
                ·simp only [Act.put, List.setIfInBounds_toArray, List.set_cons_zero, List.set_cons_succ, i64_w, i32_w]
                 rfl
                refine pure_ (i := 6) (N := some 77) (v := ?_) (a' := ?_) #[true, true, true, true, false, true, true, false, false, false, false, false, false, false, false, false, false, false] rfl rfl (any_of HT_.out (by kernel_rfl)) (fun _ _ _ h => h) (Or.inl ⟨by rfl, ?_⟩) ?_ ?_
                rotate_left
                ·intro w'
                 go_simp
                 with_reducible rfl
                rotate_left
                ·simp only [Act.put, List.setIfInBounds_toArray, List.set_cons_zero, List.set_cons_succ, i64_w, i32_w]
                 rfl
                refine pure_ (i := 7) (N := some 78) (v := ?_) (a' := ?_) #[true, true, true, true, false, true, true, true, false, false, false, false, false, false, false, false, false, false] rfl rfl (any_of HT_.out (by kernel_rfl)) (fun _ _ _ h => h) (Or.inl ⟨by rfl, ?_⟩) ?_ ?_
                rotate_left
                ·intro w'
                 go_simp
                 with_reducible rfl
                rotate_left
                ·simp only [Act.put, List.setIfInBounds_toArray, List.set_cons_zero, List.set_cons_succ, i64_w, i32_w]
                 rfl
                refine pure_ (i := 8) (N := some 79) (v := ?_) (a' := ?_) #[true, true, true, true, false, true, true, true, true, false, false, false, false, false, false, false, false, false] rfl rfl (any_of HT_.out (by kernel_rfl)) (fun _ _ _ h => h) (Or.inl ⟨by rfl, ?_⟩) ?_ ?_
                rotate_left
                ·intro w'
                 go_simp
                 with_reducible rfl
                rotate_left
                ·simp only [Act.put, List.setIfInBounds_toArray, List.set_cons_zero, List.set_cons_succ, i64_w, i32_w]
                 rfl
                refine pure_ (i := 10) (N := some 81) (v := ?_) (a' := ?_) #[true, true, true, true, false, true, true, true, true, false, true, false, false, false, false, false, false, false] rfl rfl (any_of HT_.out (by kernel_rfl)) (fun _ _ _ h => h) (Or.inl ⟨by rfl, ?_⟩) ?_ ?_
                rotate_left
                ·intro w'
                 go_simp
                 with_reducible rfl
                rotate_left
                ·simp only [Act.put, List.setIfInBounds_toArray, List.set_cons_zero, List.set_cons_succ, i64_w, i32_w]
                 rfl
                refine pure_ (i := 11) (N := some 82) (v := ?_) (a' := ?_) #[true, true, true, true, false, true, true, true, true, false, true, true, false, false, false, false, false, false] rfl rfl (any_of HT_.out (by kernel_rfl)) (fun _ _ _ h => h) (Or.inl ⟨by rfl, ?_⟩) ?_ ?_
                rotate_left
                ·intro w'
                 go_simp
                 with_reducible rfl
                rotate_left
                ·simp only [Act.put, List.setIfInBounds_toArray, List.set_cons_zero, List.set_cons_succ, i64_w, i32_w]
                 rfl
                refine pure_ (i := 12) (N := some 83) (v := ?_) (a' := ?_) #[true, true, true, true, false, true, true, true, true, false, true, true, true, false, false, false, false, false] rfl rfl (any_of HT_.out (by kernel_rfl)) (fun _ _ _ h => h) (Or.inl ⟨by rfl, ?_⟩) ?_ ?_
                rotate_left
                ·intro w'
                 go_simp
                 with_reducible rfl
                rotate_left
                ·simp only [Act.put, List.setIfInBounds_toArray, List.set_cons_zero, List.set_cons_succ, i64_w, i32_w]
                 rfl
                refine pure_ (i := 13) (N := some 84) (v := ?_) (a' := ?_) #[true, true, true, true, false, true, true, true, true, false, true, true, true, true, false, false, false, false] rfl rfl (any_of HT_.out (by kernel_rfl)) (fun _ _ _ h => h) (Or.inl ⟨by rfl, ?_⟩) ?_ ?_
                rotate_left
                ·intro w'
                 go_simp
                 with_reducible rfl
                rotate_left
                ·simp only [Act.put, List.setIfInBounds_toArray, List.set_cons_zero, List.set_cons_succ, i64_w, i32_w]
                 rfl
                refine take_ (i := 4) (N := some 75) (v := ?_) (a' := ?_) #[true, true, true, true, true, true, true, true, true, false, true, true, true, true, false, false, false, false] rfl rfl (take_ofW HT_.out HW_.out (by kernel_rfl)) (fun _ _ _ h => h) (Or.inl ⟨by rfl, ?_⟩) hHeld ?_ ?_
                rotate_left
                ·rintro w' ⟨s0, s1, s2, s3, s4, s5, s6, s7, s8, s9, s10, s11⟩
                 go_simp
                 with_reducible rfl
                rotate_left
                ·simp only [Act.put, List.setIfInBounds_toArray, List.set_cons_zero, List.set_cons_succ, i64_w, i32_w]
                 rfl
                refine take_ (i := 9) (N := some 80) (v := ?_) (a' := ?_) #[true, true, true, true, true, true, true, true, true, true, true, true, true, true, false, false, false, false] rfl rfl (take_ofW HT_.out HW_.out (by kernel_rfl)) (fun _ _ _ h => h) (Or.inl ⟨by rfl, ?_⟩) hHeld ?_ ?_
                rotate_left
                ·rintro w' ⟨s0, s1, s2, s3, s4, s5, s6, s7, s8, s9, s10, s11⟩
                 go_simp
                 with_reducible rfl
                rotate_left
                ·simp only [Act.put, List.setIfInBounds_toArray, List.set_cons_zero, List.set_cons_succ, i64_w, i32_w]
                 rfl
                refine take_ (i := 14) (N := some 85) (v := ?_) (a' := ?_) #[true, true, true, true, true, true, true, true, true, true, true, true, true, true, true, false, false, false] rfl rfl (take_ofW HT_.out HW_.out (by kernel_rfl)) (fun _ _ _ h => h) (Or.inl ⟨by rfl, ?_⟩) hHeld ?_ ?_
                rotate_left
                ·rintro w' ⟨s0, s1, s2, s3, s4, s5, s6, s7, s8, s9, s10, s11⟩
                 go_simp
                 with_reducible rfl
                rotate_left
                ·simp only [Act.put, List.setIfInBounds_toArray, List.set_cons_zero, List.set_cons_succ, i64_w, i32_w]
                 rfl
                refine pure_ (i := 15) (N := some 86) (v := ?_) (a' := ?_) #[true, true, true, true, true, true, true, true, true, true, true, true, true, true, true, true, false, false] rfl rfl (any_of HT_.out (by kernel_rfl)) (fun _ _ _ h => h) (Or.inl ⟨by rfl, ?_⟩) ?_ ?_
                rotate_left
                ·intro w'
                 go_simp
                 with_reducible rfl
                rotate_left
                ·simp only [Act.put, List.setIfInBounds_toArray, List.set_cons_zero, List.set_cons_succ, i64_w, i32_w]
                 rfl
                refine one_ (i := 16) (N := some 13) #[true, true, true, true, true, true, true, true, true, true, true, true, true, true, true, true, true, false] rfl rfl (one_of HT_.out (by kernel_rfl)) (by decide) (fun K hK => ?_)
                refine box_step ?hg (N := 13) ?hd (cs := #[.int .i64 0, .bool false, .string (⟨#[]⟩ : ByteArray), .slice none 0 0]) (t := 32) ?hr ?_; (case hd => rfl); (case hg => rfl); (case hr => first | (go_simp; done) | (go_simp; rfl))
                intro gb123 hg w65 hbox hb
                have n0_ := Aside0.mk (Kd.R_below (by (with_reducible repeat (first | apply Kd.R_alloc | apply Kd.R_drewN | apply Kd.R_drew)); exact HO_8.out) hb)
                have n1_ := Aside0.mk (Kd.R_below (by (with_reducible repeat (first | apply Kd.R_alloc | apply Kd.R_drewN | apply Kd.R_drew)); exact HO_9.out) hb)
                have n2_ := Aside0.mk (below_step (by repeat (first | (with_reducible first | exact HB.out | apply below_alloc | apply pw_below_drewN | apply below_drew1) | exact HB.out)) hb)
                have n3_ := Aside0.mk (hbox)
                have n4_ := Aside0.mk ((by rw [hg]; exact (below_size (by repeat (first | (with_reducible first | exact HB.out | apply below_alloc | apply pw_below_drewN | apply below_drew1) | exact HB.out))) : w.heap.size ≤ gb123))
                have n5_ := Aside0.mk ((by rw [hg]; exact (below_size (by repeat (first | (with_reducible first | exact HB.out | apply below_alloc | apply pw_below_drewN | apply below_drew1) | exact HB.out))) : w.heap.size ≤ gb123))
                clear HO_8
                clear HO_9
                clear HB
                have HO_8 := n0_
                have HO_9 := n1_
                have HB := n2_
                have BK123 := n3_
                have GW123 := n4_
                have GE123 := n5_
                clear n0_ n1_ n2_ n3_ n4_ n5_
                clear hb hbox hg
                refine hK.out _ _ ⟨((HB.out.cell (World.block_lt_of_cell? w _ hw120_0)).trans hw120_0), ((HB.out.cell (World.block_lt_of_cell? w _ hw120_1)).trans hw120_1), ((HB.out.cell (World.block_lt_of_cell? w _ hw120_2)).trans hw120_2), ((HB.out.cell (World.block_lt_of_cell? w _ hw120_3)).trans hw120_3), ((HB.out.cell (World.block_lt_of_cell? w _ hw121_0)).trans hw121_0), ((HB.out.cell (World.block_lt_of_cell? w _ hw121_1)).trans hw121_1), ((HB.out.cell (World.block_lt_of_cell? w _ hw121_2)).trans hw121_2), ((HB.out.cell (World.block_lt_of_cell? w _ hw121_3)).trans hw121_3), ((HB.out.cell (World.block_lt_of_cell? w _ hw122_0)).trans hw122_0), ((HB.out.cell (World.block_lt_of_cell? w _ hw122_1)).trans hw122_1), ((HB.out.cell (World.block_lt_of_cell? w _ hw122_2)).trans hw122_2), ((HB.out.cell (World.block_lt_of_cell? w _ hw122_3)).trans hw122_3)⟩ (fun hHeld => ?_)
                clear hK K
                refine norm_ (a' := ?_) ?_ ?_
                rotate_left
                ·show Act.put _ (some 13) _ = _
                 simp only [Act.put, List.setIfInBounds_toArray, List.set_cons_zero, List.set_cons_succ, i64_w, i32_w]
                 rfl
                refine one_ (i := 17) (N := none) #[true, true, true, true, true, true, true, true, true, true, true, true, true, true, true, true, true, true] rfl rfl (one_of HT_.out (by kernel_rfl)) (by decide) (fun K hK => ?_)
                have hs66 : w65.cell? ⟨gb123, 0, none⟩ = some (.int .i64 0) := (blk_cell BK123.out 0).trans rfl
                have hfs66 := blk_frozen BK123.out 0
                have hs67 : w65.cell? ⟨gb123, 1, none⟩ = some (.bool false) := (blk_cell BK123.out 1).trans rfl
                have hfs67 := blk_frozen BK123.out 1
                have hs68 : w65.cell? ⟨gb123, 2, none⟩ = some (.string (⟨#[]⟩ : ByteArray)) := (blk_cell BK123.out 2).trans rfl
                have hfs68 := blk_frozen BK123.out 2
                have hs69 : w65.cell? ⟨gb123, 3, none⟩ = some (.slice none 0 0) := (blk_cell BK123.out 3).trans rfl
                have hfs69 := blk_frozen BK123.out 3
                refine skip_ (w1 := ?_) (by rfl) rfl ?_ ?_
                rotate_left
                ·go_simp
                 rfl
                refine hK.out _ _ ⟨((cell_far (p := ⟨gb123, _, none⟩) (by exact Nat.ne_of_lt (Nat.lt_of_lt_of_le (by have := World.block_lt_of_cell? _ _ hw120_0; first | rwa [add_block] at this | exact this) GW123.out)) _).trans (((cell_far (p := ⟨gb123, _, none⟩) (by exact Nat.ne_of_lt (Nat.lt_of_lt_of_le (by have := World.block_lt_of_cell? _ _ hw120_0; first | rwa [add_block] at this | exact this) GW123.out)) _).trans (((cell_far (p := ⟨gb123, _, none⟩) (by exact Nat.ne_of_lt (Nat.lt_of_lt_of_le (by have := World.block_lt_of_cell? _ _ hw120_0; first | rwa [add_block] at this | exact this) GW123.out)) _).trans (((cell_far (p := ⟨gb123, _, none⟩) (by exact Nat.ne_of_lt (Nat.lt_of_lt_of_le (by have := World.block_lt_of_cell? _ _ hw120_0; first | rwa [add_block] at this | exact this) GW123.out)) _).trans (hHeld.1)))))))), ((cell_far (p := ⟨gb123, _, none⟩) (by exact Nat.ne_of_lt (Nat.lt_of_lt_of_le (by have := World.block_lt_of_cell? _ _ hw120_1; first | rwa [add_block] at this | exact this) GW123.out)) _).trans (((cell_far (p := ⟨gb123, _, none⟩) (by exact Nat.ne_of_lt (Nat.lt_of_lt_of_le (by have := World.block_lt_of_cell? _ _ hw120_1; first | rwa [add_block] at this | exact this) GW123.out)) _).trans (((cell_far (p := ⟨gb123, _, none⟩) (by exact Nat.ne_of_lt (Nat.lt_of_lt_of_le (by have := World.block_lt_of_cell? _ _ hw120_1; first | rwa [add_block] at this | exact this) GW123.out)) _).trans (((cell_far (p := ⟨gb123, _, none⟩) (by exact Nat.ne_of_lt (Nat.lt_of_lt_of_le (by have := World.block_lt_of_cell? _ _ hw120_1; first | rwa [add_block] at this | exact this) GW123.out)) _).trans (hHeld.2.1)))))))), ((cell_far (p := ⟨gb123, _, none⟩) (by exact Nat.ne_of_lt (Nat.lt_of_lt_of_le (by have := World.block_lt_of_cell? _ _ hw120_2; first | rwa [add_block] at this | exact this) GW123.out)) _).trans (((cell_far (p := ⟨gb123, _, none⟩) (by exact Nat.ne_of_lt (Nat.lt_of_lt_of_le (by have := World.block_lt_of_cell? _ _ hw120_2; first | rwa [add_block] at this | exact this) GW123.out)) _).trans (((cell_far (p := ⟨gb123, _, none⟩) (by exact Nat.ne_of_lt (Nat.lt_of_lt_of_le (by have := World.block_lt_of_cell? _ _ hw120_2; first | rwa [add_block] at this | exact this) GW123.out)) _).trans (((cell_far (p := ⟨gb123, _, none⟩) (by exact Nat.ne_of_lt (Nat.lt_of_lt_of_le (by have := World.block_lt_of_cell? _ _ hw120_2; first | rwa [add_block] at this | exact this) GW123.out)) _).trans (hHeld.2.2.1)))))))), ((cell_far (p := ⟨gb123, _, none⟩) (by exact Nat.ne_of_lt (Nat.lt_of_lt_of_le (by have := World.block_lt_of_cell? _ _ hw120_3; first | rwa [add_block] at this | exact this) GW123.out)) _).trans (((cell_far (p := ⟨gb123, _, none⟩) (by exact Nat.ne_of_lt (Nat.lt_of_lt_of_le (by have := World.block_lt_of_cell? _ _ hw120_3; first | rwa [add_block] at this | exact this) GW123.out)) _).trans (((cell_far (p := ⟨gb123, _, none⟩) (by exact Nat.ne_of_lt (Nat.lt_of_lt_of_le (by have := World.block_lt_of_cell? _ _ hw120_3; first | rwa [add_block] at this | exact this) GW123.out)) _).trans (((cell_far (p := ⟨gb123, _, none⟩) (by exact Nat.ne_of_lt (Nat.lt_of_lt_of_le (by have := World.block_lt_of_cell? _ _ hw120_3; first | rwa [add_block] at this | exact this) GW123.out)) _).trans (hHeld.2.2.2.1)))))))), ((cell_far (p := ⟨gb123, _, none⟩) (by exact Nat.ne_of_lt (Nat.lt_of_lt_of_le (by have := World.block_lt_of_cell? _ _ hw121_0; first | rwa [add_block] at this | exact this) GW123.out)) _).trans (((cell_far (p := ⟨gb123, _, none⟩) (by exact Nat.ne_of_lt (Nat.lt_of_lt_of_le (by have := World.block_lt_of_cell? _ _ hw121_0; first | rwa [add_block] at this | exact this) GW123.out)) _).trans (((cell_far (p := ⟨gb123, _, none⟩) (by exact Nat.ne_of_lt (Nat.lt_of_lt_of_le (by have := World.block_lt_of_cell? _ _ hw121_0; first | rwa [add_block] at this | exact this) GW123.out)) _).trans (((cell_far (p := ⟨gb123, _, none⟩) (by exact Nat.ne_of_lt (Nat.lt_of_lt_of_le (by have := World.block_lt_of_cell? _ _ hw121_0; first | rwa [add_block] at this | exact this) GW123.out)) _).trans (hHeld.2.2.2.2.1)))))))), ((cell_far (p := ⟨gb123, _, none⟩) (by exact Nat.ne_of_lt (Nat.lt_of_lt_of_le (by have := World.block_lt_of_cell? _ _ hw121_1; first | rwa [add_block] at this | exact this) GW123.out)) _).trans (((cell_far (p := ⟨gb123, _, none⟩) (by exact Nat.ne_of_lt (Nat.lt_of_lt_of_le (by have := World.block_lt_of_cell? _ _ hw121_1; first | rwa [add_block] at this | exact this) GW123.out)) _).trans (((cell_far (p := ⟨gb123, _, none⟩) (by exact Nat.ne_of_lt (Nat.lt_of_lt_of_le (by have := World.block_lt_of_cell? _ _ hw121_1; first | rwa [add_block] at this | exact this) GW123.out)) _).trans (((cell_far (p := ⟨gb123, _, none⟩) (by exact Nat.ne_of_lt (Nat.lt_of_lt_of_le (by have := World.block_lt_of_cell? _ _ hw121_1; first | rwa [add_block] at this | exact this) GW123.out)) _).trans (hHeld.2.2.2.2.2.1)))))))), ((cell_far (p := ⟨gb123, _, none⟩) (by exact Nat.ne_of_lt (Nat.lt_of_lt_of_le (by have := World.block_lt_of_cell? _ _ hw121_2; first | rwa [add_block] at this | exact this) GW123.out)) _).trans (((cell_far (p := ⟨gb123, _, none⟩) (by exact Nat.ne_of_lt (Nat.lt_of_lt_of_le (by have := World.block_lt_of_cell? _ _ hw121_2; first | rwa [add_block] at this | exact this) GW123.out)) _).trans (((cell_far (p := ⟨gb123, _, none⟩) (by exact Nat.ne_of_lt (Nat.lt_of_lt_of_le (by have := World.block_lt_of_cell? _ _ hw121_2; first | rwa [add_block] at this | exact this) GW123.out)) _).trans (((cell_far (p := ⟨gb123, _, none⟩) (by exact Nat.ne_of_lt (Nat.lt_of_lt_of_le (by have := World.block_lt_of_cell? _ _ hw121_2; first | rwa [add_block] at this | exact this) GW123.out)) _).trans (hHeld.2.2.2.2.2.2.1)))))))), ((cell_far (p := ⟨gb123, _, none⟩) (by exact Nat.ne_of_lt (Nat.lt_of_lt_of_le (by have := World.block_lt_of_cell? _ _ hw121_3; first | rwa [add_block] at this | exact this) GW123.out)) _).trans (((cell_far (p := ⟨gb123, _, none⟩) (by exact Nat.ne_of_lt (Nat.lt_of_lt_of_le (by have := World.block_lt_of_cell? _ _ hw121_3; first | rwa [add_block] at this | exact this) GW123.out)) _).trans (((cell_far (p := ⟨gb123, _, none⟩) (by exact Nat.ne_of_lt (Nat.lt_of_lt_of_le (by have := World.block_lt_of_cell? _ _ hw121_3; first | rwa [add_block] at this | exact this) GW123.out)) _).trans (((cell_far (p := ⟨gb123, _, none⟩) (by exact Nat.ne_of_lt (Nat.lt_of_lt_of_le (by have := World.block_lt_of_cell? _ _ hw121_3; first | rwa [add_block] at this | exact this) GW123.out)) _).trans (hHeld.2.2.2.2.2.2.2.1)))))))), ((cell_far (p := ⟨gb123, _, none⟩) (by exact Nat.ne_of_lt (Nat.lt_of_lt_of_le (by have := World.block_lt_of_cell? _ _ hw122_0; first | rwa [add_block] at this | exact this) GW123.out)) _).trans (((cell_far (p := ⟨gb123, _, none⟩) (by exact Nat.ne_of_lt (Nat.lt_of_lt_of_le (by have := World.block_lt_of_cell? _ _ hw122_0; first | rwa [add_block] at this | exact this) GW123.out)) _).trans (((cell_far (p := ⟨gb123, _, none⟩) (by exact Nat.ne_of_lt (Nat.lt_of_lt_of_le (by have := World.block_lt_of_cell? _ _ hw122_0; first | rwa [add_block] at this | exact this) GW123.out)) _).trans (((cell_far (p := ⟨gb123, _, none⟩) (by exact Nat.ne_of_lt (Nat.lt_of_lt_of_le (by have := World.block_lt_of_cell? _ _ hw122_0; first | rwa [add_block] at this | exact this) GW123.out)) _).trans (hHeld.2.2.2.2.2.2.2.2.1)))))))), ((cell_far (p := ⟨gb123, _, none⟩) (by exact Nat.ne_of_lt (Nat.lt_of_lt_of_le (by have := World.block_lt_of_cell? _ _ hw122_1; first | rwa [add_block] at this | exact this) GW123.out)) _).trans (((cell_far (p := ⟨gb123, _, none⟩) (by exact Nat.ne_of_lt (Nat.lt_of_lt_of_le (by have := World.block_lt_of_cell? _ _ hw122_1; first | rwa [add_block] at this | exact this) GW123.out)) _).trans (((cell_far (p := ⟨gb123, _, none⟩) (by exact Nat.ne_of_lt (Nat.lt_of_lt_of_le (by have := World.block_lt_of_cell? _ _ hw122_1; first | rwa [add_block] at this | exact this) GW123.out)) _).trans (((cell_far (p := ⟨gb123, _, none⟩) (by exact Nat.ne_of_lt (Nat.lt_of_lt_of_le (by have := World.block_lt_of_cell? _ _ hw122_1; first | rwa [add_block] at this | exact this) GW123.out)) _).trans (hHeld.2.2.2.2.2.2.2.2.2.1)))))))), ((cell_far (p := ⟨gb123, _, none⟩) (by exact Nat.ne_of_lt (Nat.lt_of_lt_of_le (by have := World.block_lt_of_cell? _ _ hw122_2; first | rwa [add_block] at this | exact this) GW123.out)) _).trans (((cell_far (p := ⟨gb123, _, none⟩) (by exact Nat.ne_of_lt (Nat.lt_of_lt_of_le (by have := World.block_lt_of_cell? _ _ hw122_2; first | rwa [add_block] at this | exact this) GW123.out)) _).trans (((cell_far (p := ⟨gb123, _, none⟩) (by exact Nat.ne_of_lt (Nat.lt_of_lt_of_le (by have := World.block_lt_of_cell? _ _ hw122_2; first | rwa [add_block] at this | exact this) GW123.out)) _).trans (((cell_far (p := ⟨gb123, _, none⟩) (by exact Nat.ne_of_lt (Nat.lt_of_lt_of_le (by have := World.block_lt_of_cell? _ _ hw122_2; first | rwa [add_block] at this | exact this) GW123.out)) _).trans (hHeld.2.2.2.2.2.2.2.2.2.2.1)))))))), ((cell_far (p := ⟨gb123, _, none⟩) (by exact Nat.ne_of_lt (Nat.lt_of_lt_of_le (by have := World.block_lt_of_cell? _ _ hw122_3; first | rwa [add_block] at this | exact this) GW123.out)) _).trans (((cell_far (p := ⟨gb123, _, none⟩) (by exact Nat.ne_of_lt (Nat.lt_of_lt_of_le (by have := World.block_lt_of_cell? _ _ hw122_3; first | rwa [add_block] at this | exact this) GW123.out)) _).trans (((cell_far (p := ⟨gb123, _, none⟩) (by exact Nat.ne_of_lt (Nat.lt_of_lt_of_le (by have := World.block_lt_of_cell? _ _ hw122_3; first | rwa [add_block] at this | exact this) GW123.out)) _).trans (((cell_far (p := ⟨gb123, _, none⟩) (by exact Nat.ne_of_lt (Nat.lt_of_lt_of_le (by have := World.block_lt_of_cell? _ _ hw122_3; first | rwa [add_block] at this | exact this) GW123.out)) _).trans (hHeld.2.2.2.2.2.2.2.2.2.2.2))))))))⟩ (fun hHeld => ?_)
                clear hK K
                refine done_ (done_of HT_.out (by kernel_rfl)) ?_
                have hcz70_0 : w65.cell? ⟨gb123, 0, none⟩ = some (.int .i64 0) := (blk_cell BK123.out 0).trans rfl
                have hcz70_1 : w65.cell? ⟨gb123, 1, none⟩ = some (.bool false) := (blk_cell BK123.out 1).trans rfl
                have hcz70_2 : w65.cell? ⟨gb123, 2, none⟩ = some (.string (⟨#[]⟩ : ByteArray)) := (blk_cell BK123.out 2).trans rfl
                have hcz70_3 : w65.cell? ⟨gb123, 3, none⟩ = some (.slice none 0 0) := (blk_cell BK123.out 3).trans rfl
                have hfz70_0 := blk_frozen BK123.out 0
                have hfz70_1 := blk_frozen BK123.out 1
                have hfz70_2 := blk_frozen BK123.out 2
                have hfz70_3 := blk_frozen BK123.out 3
                try go_wp2_with (first | ((with_reducible refine gate_callee (f := 32) rfl ?_); refine goesL_ (some 89) rfl rfl Tryd.func32 (by kernel_rfl) rfl #[.agg #[.int .i64 ((rd_T29 l0 x1_1).f1), .bool ((rd_T29 l0 x1_1).f2), .string ((rd_T29 l0 x1_1).f3), .slice none 0 0]] rfl (by (try simp only [List.map_toArray, List.map_cons, List.map_nil]); first | done | rfl | (simp only [List.length_drop, List.length_take]; rfl)) ?_; (refine (depotref06_Own.calls ((rd_T29 l0 x1_1).f1) ((rd_T29 l0 x1_1).f2) ((rd_T29 l0 x1_1).f3) _ _ ([] : List (S63)) t124 t125 _ ?side1 ?side2 A31.out).mono ?_); (case side1 => exact Kd.C_nil _ _); (case side2 => exact Nat.le_refl _); rintro e w71 ⟨rfl, hb⟩; refine ⟨_, rfl, ?_⟩; have n0_ := Aside0.mk (Kd.R_below (by (with_reducible repeat (first | apply Kd.R_alloc | apply Kd.R_drewN | apply Kd.R_drew)); exact (Kd.R_mono (Kd.R_far (p := ⟨gb123, 3, none⟩) (Kd.R_far (p := ⟨gb123, 2, none⟩) (Kd.R_far (p := ⟨gb123, 1, none⟩) (Kd.R_far (p := ⟨gb123, 0, none⟩) (Kd.R_types HO_8.out BK123.out (by decide)) (fun _ hk => hk.2) (.int .i64 ((rd_T29 l0 x1_1).f1))) (fun _ hk => hk.2) (.bool ((rd_T29 l0 x1_1).f2))) (fun _ hk => hk.2) (.string ((rd_T29 l0 x1_1).f3))) (fun _ hk => hk.2) (.slice none 0 0)) (fun _ h_ => h_.1))) hb); have n1_ := Aside0.mk (Kd.R_below (by (with_reducible repeat (first | apply Kd.R_alloc | apply Kd.R_drewN | apply Kd.R_drew)); exact (Kd.R_mono (Kd.R_far (p := ⟨gb123, 3, none⟩) (Kd.R_far (p := ⟨gb123, 2, none⟩) (Kd.R_far (p := ⟨gb123, 1, none⟩) (Kd.R_far (p := ⟨gb123, 0, none⟩) (Kd.R_types HO_9.out BK123.out (by decide)) (fun _ hk => hk.2) (.int .i64 ((rd_T29 l0 x1_1).f1))) (fun _ hk => hk.2) (.bool ((rd_T29 l0 x1_1).f2))) (fun _ hk => hk.2) (.string ((rd_T29 l0 x1_1).f3))) (fun _ hk => hk.2) (.slice none 0 0)) (fun _ h_ => h_.1))) hb); have n2_ := Aside0.mk (blk_below (g := gb123) (o := .cells #[.int .i64 ((rd_T29 l0 x1_1).f1), .bool ((rd_T29 l0 x1_1).f2), .string ((rd_T29 l0 x1_1).f3), .slice none 0 0] 32 (0, 0)) (by (with_reducible repeat (first | refine blk_drewN ?_ _ | refine blk_drew ?_ | refine blk_alloc ?_ _)); refine blk_put (cs := #[.int .i64 ((rd_T29 l0 x1_1).f1), .bool ((rd_T29 l0 x1_1).f2), .string ((rd_T29 l0 x1_1).f3), .slice none 0 0]) ?_ 3 _ rfl; (with_reducible repeat (first | refine blk_drewN ?_ _ | refine blk_drew ?_ | refine blk_alloc ?_ _)); refine blk_put (cs := #[.int .i64 ((rd_T29 l0 x1_1).f1), .bool ((rd_T29 l0 x1_1).f2), .string (⟨#[]⟩ : ByteArray), .slice none 0 0]) ?_ 2 _ rfl; (with_reducible repeat (first | refine blk_drewN ?_ _ | refine blk_drew ?_ | refine blk_alloc ?_ _)); refine blk_put (cs := #[.int .i64 ((rd_T29 l0 x1_1).f1), .bool false, .string (⟨#[]⟩ : ByteArray), .slice none 0 0]) ?_ 1 _ rfl; (with_reducible repeat (first | refine blk_drewN ?_ _ | refine blk_drew ?_ | refine blk_alloc ?_ _)); refine blk_put (cs := #[.int .i64 0, .bool false, .string (⟨#[]⟩ : ByteArray), .slice none 0 0]) ?_ 0 _ rfl; (with_reducible repeat (first | refine blk_drewN ?_ _ | refine blk_drew ?_ | refine blk_alloc ?_ _)); exact BK123.out) hb); have n3_ := Aside0.mk (below_step (by repeat (first | (with_reducible first | exact HB.out | apply below_alloc | apply pw_below_drewN | apply below_drew1 | refine below_set ?_ GE123.out) | exact HB.out)) hb); clear HO_8; clear HO_9; clear BK123; clear HB; have HO_8 := n0_; have HO_9 := n1_; have BK123 := n2_; have HB := n3_; clear n0_ n1_ n2_ n3_; (try clear hb); (try clear hb2); (try clear hk); (try clear hi)))
                go_ret2
                exact ⟨_, by first | rfl | (simp [errW_none, errW_some] <;> rfl) | (simp only [← hji15]; first | rfl | (simp [errW_none, errW_some] <;> rfl)) | (simp [*, errW_none, errW_some] <;> rfl), by (with_reducible repeat (first | apply Kd.R_alloc | apply Kd.R_drewN | apply Kd.R_drew)); exact HO_8.out, by repeat (first | (with_reducible first | exact HB.out | apply below_alloc | apply pw_below_drewN | apply below_drew1 | refine below_set ?_ GE123.out) | exact HB.out)⟩
              ·rw [if_neg c30] at H
               exact absurd H (by simp)
             ·rw [if_neg c29] at H
              exact absurd H (by simp)
         ·rw [if_neg c17] at H
          exact absurd H (by simp)
        ·rw [if_neg c16] at H
         exact absurd H (by simp)
    ·rw [if_neg c5] at H
     exact absurd H (by simp)
   ·rw [if_neg c4] at H
    have c4b0 : decide (x1_1 < (l0.length : Int)) = false := decide_eq_false c4
    clear c4
    simp only [Option.some.injEq, Prod.mk.injEq] at H
    obtain ⟨rfl, rfl⟩ := H
    go_wp2
    go_ret2
    exact ⟨_, by first | rfl | (simp [errW_none, errW_some] <;> rfl) | (simp [*, errW_none, errW_some] <;> rfl), by (with_reducible repeat (first | apply Kd.R_alloc | apply Kd.R_drewN | apply Kd.R_drew)); exact HO_8.out, by repeat (first | (with_reducible first | exact HB.out | apply below_alloc | apply pw_below_drewN | apply below_drew1) | exact HB.out)⟩
end
end Go.Proofs.YtnemeeidomceiaaDoor.PBTreeBuilds
