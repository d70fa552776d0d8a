import Derived.Test.YtnemeeidomceiaaDoorPt9
import Derived.Deep.QuietTactic
set_option linter.unusedSimpArgs false
set_option linter.unusedVariables false
section
namespace Go.Proofs.YtnemeeidomceiaaDoor.PGTreeGets
open Go.RowKit Go.Proofs.YtnemeeidomceiaaDoorW.PrintWords Go.Proofs.YtnemeeidomceiaaDoorW.PrintLast Go.Proofs.YtnemeeidomceiaaDoorW.PrintMore
attribute [local go_sem] max2_int min2_int max_two min_two max_three min_three max_four min_four   -- for this text's walks alone
set_option linter.unusedVariables false
set_option linter.unusedSimpArgs false
noncomputable section
mutual
def depotref06_under.l0 : Nat → List (S29) → List ByteArray → Int → Int → Option (Int × Int)
 | 0, _, _, _, _ => none
 | k + 1, x0, x1, x6, x7 => if x7 < (x0.length : Int) then (if 0 ≤ x7 then ((depotref05_Split.f k ((rd_T29 x0 x7).f0)).bind fun bt187 => ((depotref06_begins.f k bt187.1 x1).bind fun t192 => (if t192 = true then (depotref06_under.j1 k x0 x1 x6 x7 t192 (decide (x6 < 0))) else (depotref06_under.j1 k x0 x1 x6 x7 t192 false)))) else (none)) else (some (x6, (x0.length : Int)))
def depotref06_under.j1 : Nat → List (S29) → List ByteArray → Int → Int → Bool → Bool → Option (Int × Int)
 | 0, _, _, _, _, _, _ => none
 | k + 1, x0, x1, x6, x7, x11, x35 => if x35 = true then (if x11 = true then (depotref06_under.l0 k x0 x1 x7 (wrap64 (x7 + 1))) else (if x7 ≥ 0 then (some (x7, x7)) else (depotref06_under.l0 k x0 x1 x7 (wrap64 (x7 + 1))))) else (if x11 = true then (depotref06_under.l0 k x0 x1 x6 (wrap64 (x7 + 1))) else (if x6 ≥ 0 then (some (x6, x7)) else (depotref06_under.l0 k x0 x1 x6 (wrap64 (x7 + 1)))))
end
def depotref06_under.f (k : Nat) (l0 : List (S29)) (l1 : List ByteArray) : Option (Int × Int) := depotref06_under.l0 k l0 l1 (-1) 0
theorem depotref06_under.mono_l : ∀ k, (∀ y0 y1 y2 y3, LeO (depotref06_under.l0 k y0 y1 y2 y3) (depotref06_under.l0 (k + 1) y0 y1 y2 y3)) ∧ (∀ y0 y1 y2 y3 y4 y5, LeO (depotref06_under.j1 k y0 y1 y2 y3 y4 y5) (depotref06_under.j1 (k + 1) y0 y1 y2 y3 y4 y5))
 | 0 => ⟨fun _ _ _ _ r h => by simp [depotref06_under.l0] at h, fun _ _ _ _ _ _ r h => by simp [depotref06_under.j1] at h⟩
 | k + 1 => by
  obtain ⟨ih0, ih1⟩ := depotref06_under.mono_l k
  refine ⟨?_, ?_⟩
  ·intro y0 y1 y2 y3
   unfold depotref06_under.l0
   repeat' first
   | (with_reducible exact ih0 _ _ _ _)
   | (with_reducible exact ih1 _ _ _ _ _ _)
   | (with_reducible exact depotref05_Split.mono _ _)
   | (with_reducible exact depotref06_begins.mono _ _ _)
   | (with_reducible exact LeO.refl _)
   | (with_reducible exact LeO.none _)
   | (with_reducible refine LeO.ite ?_ ?_)
   | (with_reducible refine LeO.bind ?_ (fun _ => ?_))
   | exact ih0 _ _ _ _
   | exact ih1 _ _ _ _ _ _
   | exact depotref05_Split.mono _ _
   | exact depotref06_begins.mono _ _ _
   | exact LeO.none _
   | refine LeO.ite ?_ ?_
   | refine LeO.bind ?_ (fun _ => ?_)
  ·intro y0 y1 y2 y3 y4 y5
   unfold depotref06_under.j1
   repeat' first
   | (with_reducible exact ih0 _ _ _ _)
   | (with_reducible exact ih1 _ _ _ _ _ _)
   | (with_reducible exact depotref05_Split.mono _ _)
   | (with_reducible exact depotref06_begins.mono _ _ _)
   | (with_reducible exact LeO.refl _)
   | (with_reducible exact LeO.none _)
   | (with_reducible refine LeO.ite ?_ ?_)
   | (with_reducible refine LeO.bind ?_ (fun _ => ?_))
   | exact ih0 _ _ _ _
   | exact ih1 _ _ _ _ _ _
   | exact depotref05_Split.mono _ _
   | exact depotref06_begins.mono _ _ _
   | exact LeO.none _
   | refine LeO.ite ?_ ?_
   | refine LeO.bind ?_ (fun _ => ?_)
theorem depotref06_under.mono : ∀ a0 a1 k, LeO (depotref06_under.f k a0 a1) (depotref06_under.f (k + 1) a0 a1) := by
 intro a0 a1 k
 obtain ⟨ih0, ih1⟩ := depotref06_under.mono_l k
 unfold depotref06_under.f
 repeat' first
   | (with_reducible exact ih0 _ _ _ _)
   | (with_reducible exact ih1 _ _ _ _ _ _)
   | (with_reducible exact depotref05_Split.mono _ _)
   | (with_reducible exact depotref06_begins.mono _ _ _)
   | (with_reducible exact LeO.refl _)
   | (with_reducible exact LeO.none _)
   | (with_reducible refine LeO.ite ?_ ?_)
   | (with_reducible refine LeO.bind ?_ (fun _ => ?_))
   | exact ih0 _ _ _ _
   | exact ih1 _ _ _ _ _ _
   | exact depotref05_Split.mono _ _
   | exact depotref06_begins.mono _ _ _
   | exact LeO.none _
   | refine LeO.ite ?_ ?_
   | refine LeO.bind ?_ (fun _ => ?_)
set_option maxHeartbeats 8000000 in
set_option maxRecDepth 100000 in
theorem depotref06_under.calls (k : Nat) (A0 : Option Addr) (c0 : Nat) (l0 : List (S29)) (A1 : Option Addr) (c1 : Nat) (l1 : List ByteArray) (r1 : Int) (r2 : Int) (w : World) (hr0 : Kd.C k29 w A0 l0.length l0) (hc0 : l0.length ≤ c0) (hr1 : Kd.C Kd.string w A1 l1.length l1) (hc1 : l1.length ≤ c1) (h : depotref06_under.f k l0 l1 = some (r1, r2)) :
  Calls Tryd.prog 42 #[.slice A0 l0.length c0, .slice A1 l1.length c1] w fun e w' => e = .returned (.tuple #[.int .i64 r1, .int .i64 r2]) ∧ Below w.heap.size w w' := by
 have HR0 := Aside0.mk hr0
 have HC0 := Aside0.mk hc0
 clear hr0 hc0
 have HR1 := Aside0.mk hr1
 have HC1 := Aside0.mk hc1
 clear hr1 hc1
 have HB := Aside0.mk (Below.refl w.heap.size w)
 have H : (depotref06_under.l0 k l0 l1 (-1) 0) = some (r1, r2) := h
 clear h
 have H' := Aside0.mk H
 clear H
 go_enter Tryd.func42, Tryd.ntmps42
 go_wp2
 go_loopg [6, 7] k (fun kq v6 v7 w' => ∃ (x6_1 : Int) (x7_1 : Int), v6 = .int .i64 x6_1 ∧ v7 = .int .i64 x7_1 ∧ Aside0 (depotref06_under.l0 kq l0 l1 x6_1 x7_1 = some (r1, r2)) ∧ Aside0 (kq ≤ k) ∧ Aside0 (Below w.heap.size w w'))
 case atStart => exact ⟨((-1)), (0), (by first | rfl | (simp; done) | (simp [*]; done)), (by first | rfl | (simp; done) | (simp [*]; done)), H', ⟨Nat.le_refl _⟩, ⟨by repeat (first | (with_reducible first | exact HB.out | apply below_alloc | apply pw_below_drewN | apply below_drew1) | exact HB.out)⟩⟩
 case round =>
  clear H'
  try clear c1
  try clear p2
  obtain ⟨x6_1, x7_1, rfl, rfl, HA, HK1, HB⟩ := hrel
  cases gk with
  | zero => exact absurd HA.out (by simp [depotref06_under.l0])
  | succ k1 =>
   have H := HA.out
   clear HA
   simp only [depotref06_under.l0] at H
   by_cases c3 : x7_1 < (l0.length : Int)
   ·rw [if_pos c3] at H
    have c3b0 : decide (x7_1 < (l0.length : Int)) = true := decide_eq_true c3
    clear c3
    by_cases c4 : 0 ≤ x7_1
    ·rw [if_pos c4] at H
     have c4b0 : decide (0 ≤ x7_1) = true := decide_eq_true c4
     clear c4
     replace H := Option.bind_eq_some_iff.mp H
     obtain ⟨⟨t187, t188, t189⟩, A50, H⟩ := H
     replace H : ((depotref06_begins.f k1 t187 l1).bind fun t192 => (if t192 = true then (depotref06_under.j1 k1 l0 l1 x6_1 x7_1 t192 (decide (x6_1 < 0))) else (depotref06_under.j1 k1 l0 l1 x6_1 x7_1 t192 false))) = some (r1, r2) := H
     have A5 := Aside0.mk A50
     clear A50
     replace H := Option.bind_eq_some_iff.mp H
     obtain ⟨t192, A60, H⟩ := H
     replace H : (if t192 = true then (depotref06_under.j1 k1 l0 l1 x6_1 x7_1 t192 (decide (x6_1 < 0))) else (depotref06_under.j1 k1 l0 l1 x6_1 x7_1 t192 false)) = some (r1, r2) := H
     have A6 := Aside0.mk A60
     clear A60
     have HC7 := Aside0.mk H
     clear H
     have p186 : 0 ≤ (x7_1 : Int) := of_decide_eq_true (by first | (with_reducible assumption) | assumption)
     have q186 : x7_1 < (l0.length : Int) := of_decide_eq_true (by first | (with_reducible assumption) | assumption)
     obtain ⟨ad186, e186, hx186_0, hx186_1, hx186_2, hx186_3⟩ := at_T29 HR0.out x7_1 p186 q186
     cases e186
     replace hx186_0 := (HB.out.cell (World.block_lt_of_cell? w _ hx186_0)).trans hx186_0
     replace hx186_1 := (HB.out.cell (World.block_lt_of_cell? w _ hx186_1)).trans hx186_1
     replace hx186_2 := (HB.out.cell (World.block_lt_of_cell? w _ hx186_2)).trans hx186_2
     replace hx186_3 := (HB.out.cell (World.block_lt_of_cell? w _ hx186_3)).trans hx186_3
     replace p186 := eq_true p186
     replace q186 := eq_true q186
     go_upto_region 7 with (first | ((with_reducible refine gate_callee (f := 40) rfl ?_); refine goesL_ (some 24) rfl rfl Tryd.func40 (by kernel_rfl) rfl #[.string ((rd_T29 l0 x7_1).f0)] rfl (by (try simp only [List.map_toArray, List.map_cons, List.map_nil]); first | done | rfl | (simp only [List.length_drop, List.length_take]; rfl)) ?_; (with_reducible refine (depotref05_Split.calls k1 ((rd_T29 l0 x7_1).f0) t187 t188 t189 _ A5.out).mono ?_); rintro e w8 ⟨v190, rfl, ho0, hb⟩; refine ⟨_, rfl, ?_⟩; have n0_ := Aside0.mk (Kd.R_lower ho0 (below_size (by repeat (first | (with_reducible first | exact HB.out | apply below_alloc | apply pw_below_drewN | apply below_drew1) | exact HB.out)))); have n1_ := Aside0.mk (below_step (by repeat (first | (with_reducible first | exact HB.out | apply below_alloc | apply pw_below_drewN | apply below_drew1) | exact HB.out)) hb); clear HB; have HO191 := n0_; have HB := n1_; clear n0_ n1_; (try clear hb); (try clear hb2); (try clear hk); (try clear hi); (try clear ho0); obtain ⟨Ao9, co9, eo9⟩ := Kd.R_slice HO191.out; subst eo9) | ((with_reducible refine gate_callee (f := 58) rfl ?_); refine goesL_ (some 30) rfl rfl Tryd.func58 (by kernel_rfl) rfl #[.slice Ao9 t187.length co9, .slice A1 l1.length c1] rfl (by (try simp only [List.map_toArray, List.map_cons, List.map_nil]); first | done | rfl | (simp only [List.length_drop, List.length_take]; rfl)) ?_; (with_reducible refine (depotref06_begins.calls k1 _ _ t187 _ _ l1 t192 _ ?side1 ?side2 ?side3 ?side4 A6.out).mono ?_); (case side1 => repeat (first | exact (Kd.R_reads' HO191.out).2.2 | (with_reducible refine Kd.C_alloc ?_ _) | (with_reducible refine Kd.C_drewN ?_ _) | (with_reducible refine Kd.C_drew ?_))); (case side2 => exact (Kd.R_reads' HO191.out).2.1); (case side3 => repeat (first | exact (Kd.C_below HR1.out HB.out) | (with_reducible refine Kd.C_alloc ?_ _) | (with_reducible refine Kd.C_drewN ?_ _) | (with_reducible refine Kd.C_drew ?_))); (case side4 => exact HC1.out); rintro e w' ⟨rfl, ⟨nd, rfl⟩⟩; refine ⟨_, rfl, ?_⟩))
     (try simp only [Act.put, List.setIfInBounds_toArray, List.set_cons_zero, List.set_cons_succ])
     go_cut [35] (fun v35 wc => ∃ (kq : Nat) (x35_6 : Bool), v35 = .bool x35_6 ∧ Aside0 (depotref06_under.j1 kq l0 l1 x6_1 x7_1 t192 x35_6 = some (r1, r2)) ∧ Aside0 (kq ≤ k1) ∧ Aside0 (Below w.heap.size w wc))
     case first =>
      have H := HC7.out
      clear HC7
      by_cases c10 : t192 = true
      ·subst c10
       have H1 : (depotref06_under.j1 k1 l0 l1 x6_1 x7_1 true (decide (x6_1 < 0))) = some (r1, r2) := by rw [if_pos rfl] at H; exact H
       clear H
       have H := H1
       clear H1
       have H' := Aside0.mk H
       clear H
       go_wp2
       go_meet
       case rel => exact ⟨_, (decide (x6_1 < 0)), (by first | rfl | (simp; done) | (simp [*]; done)), H', ⟨by have := HK1.out; first | omega | exact Nat.le_refl _⟩, ⟨by repeat (first | (with_reducible first | exact HB.out | apply below_alloc | apply pw_below_drewN | apply below_drew1) | exact HB.out)⟩⟩
      ·replace c10 := Bool.eq_false_iff.mpr c10
       subst c10
       have H1 : (depotref06_under.j1 k1 l0 l1 x6_1 x7_1 false false) = some (r1, r2) := by rw [if_neg (show ¬ (false = true) by decide)] at H; exact H
       clear H
       have H := H1
       clear H1
       have H' := Aside0.mk H
       clear H
       go_wp2
       go_meet
       case rel => exact ⟨_, (false), (by first | rfl | (simp; done) | (simp [*]; done)), H', ⟨by have := HK1.out; first | omega | exact Nat.le_refl _⟩, ⟨by repeat (first | (with_reducible first | exact HB.out | apply below_alloc | apply pw_below_drewN | apply below_drew1) | exact HB.out)⟩⟩
     case rest =>
      clear HC7
      try clear c1
      try clear p1
      try clear q1
      try clear hx1
      try clear p2
      try clear c3
      try clear c3b0
      try clear c4
      try clear c4b0
      try clear c5
      try clear c10
      try clear hx186_0
      try clear hx186_1
      try clear hx186_2
      try clear hx186_3
      try clear p186
      try clear p2
      try clear q186
      obtain ⟨kq, x35_6, rfl, HA, HJ6, HB⟩ := hcut
      cases kq with
      | zero => exact absurd HA.out (by simp [depotref06_under.j1])
      | succ kj6 =>
       have H := HA.out
       clear HA
       simp only [depotref06_under.j1] at H
       by_cases c11 : x35_6 = true
       ·subst c11
        have H1 : (if t192 = true then (depotref06_under.l0 kj6 l0 l1 x7_1 (wrap64 (x7_1 + 1))) else (if x7_1 ≥ 0 then (some (x7_1, x7_1)) else (depotref06_under.l0 kj6 l0 l1 x7_1 (wrap64 (x7_1 + 1))))) = some (r1, r2) := by rw [if_pos rfl] at H; exact H
        clear H
        have H := H1
        clear H1
        by_cases c12 : t192 = true
        ·subst c12
         have H1 : (depotref06_under.l0 kj6 l0 l1 x7_1 (wrap64 (x7_1 + 1))) = some (r1, r2) := by rw [if_pos rfl] at H; exact H
         clear H
         have H := H1
         clear H1
         have H' := Aside0.mk H
         clear H
         go_wp2
         go_roundg kj6
         case measure => have := HK1.out; have := HJ6.out; omega
         case rel => exact ⟨(x7_1), (wrap64 (x7_1 + 1)), (by first | rfl | (simp; done) | (simp [*]; done)), (by first | rfl | (simp; done) | (simp [*]; done)), H', ⟨by have := HK1.out; have := HJ6.out; omega⟩, ⟨by repeat (first | (with_reducible first | exact HB.out | apply below_alloc | apply pw_below_drewN | apply below_drew1) | exact HB.out)⟩⟩
        ·replace c12 := Bool.eq_false_iff.mpr c12
         subst c12
         have H1 : (if x7_1 ≥ 0 then (some (x7_1, x7_1)) else (depotref06_under.l0 kj6 l0 l1 x7_1 (wrap64 (x7_1 + 1)))) = some (r1, r2) := by rw [if_neg (show ¬ (false = true) by decide)] at H; exact H
         clear H
         have H := H1
         clear H1
         by_cases c13 : x7_1 ≥ 0
         ·rw [if_pos c13] at H
          have c13b0 : decide (0 ≤ x7_1) = true := decide_eq_true c13
          clear c13
          simp only [Option.some.injEq, Prod.mk.injEq] at H
          obtain ⟨rfl, rfl⟩ := H
          go_wp2
          go_ret2
          exact ⟨by first | rfl | (simp [errW_none, errW_some] <;> rfl) | (simp [*, errW_none, errW_some] <;> rfl), by repeat (first | (with_reducible first | exact HB.out | apply below_alloc | apply pw_below_drewN | apply below_drew1) | exact HB.out)⟩
         ·rw [if_neg c13] at H
          have c13b0 : decide (0 ≤ x7_1) = false := decide_eq_false c13
          clear c13
          have H' := Aside0.mk H
          clear H
          go_wp2
          go_roundg kj6
          case measure => have := HK1.out; have := HJ6.out; omega
          case rel => exact ⟨(x7_1), (wrap64 (x7_1 + 1)), (by first | rfl | (simp; done) | (simp [*]; done)), (by first | rfl | (simp; done) | (simp [*]; done)), H', ⟨by have := HK1.out; have := HJ6.out; omega⟩, ⟨by repeat (first | (with_reducible first | exact HB.out | apply below_alloc | apply pw_below_drewN | apply below_drew1) | exact HB.out)⟩⟩
       ·replace c11 := Bool.eq_false_iff.mpr c11
        subst c11
        have H1 : (if t192 = true then (depotref06_under.l0 kj6 l0 l1 x6_1 (wrap64 (x7_1 + 1))) else (if x6_1 ≥ 0 then (some (x6_1, x7_1)) else (depotref06_under.l0 kj6 l0 l1 x6_1 (wrap64 (x7_1 + 1))))) = some (r1, r2) := by rw [if_neg (show ¬ (false = true) by decide)] at H; exact H
        clear H
        have H := H1
        clear H1
        by_cases c14 : t192 = true
        ·subst c14
         have H1 : (depotref06_under.l0 kj6 l0 l1 x6_1 (wrap64 (x7_1 + 1))) = some (r1, r2) := by rw [if_pos rfl] at H; exact H
         clear H
         have H := H1
         clear H1
         have H' := Aside0.mk H
         clear H
         go_wp2
         go_roundg kj6
         case measure => have := HK1.out; have := HJ6.out; omega
         case rel => exact ⟨(x6_1), (wrap64 (x7_1 + 1)), (by first | rfl | (simp; done) | (simp [*]; done)), (by first | rfl | (simp; done) | (simp [*]; done)), H', ⟨by have := HK1.out; have := HJ6.out; omega⟩, ⟨by repeat (first | (with_reducible first | exact HB.out | apply below_alloc | apply pw_below_drewN | apply below_drew1) | exact HB.out)⟩⟩
        ·replace c14 := Bool.eq_false_iff.mpr c14
         subst c14
         have H1 : (if x6_1 ≥ 0 then (some (x6_1, x7_1)) else (depotref06_under.l0 kj6 l0 l1 x6_1 (wrap64 (x7_1 + 1)))) = some (r1, r2) := by rw [if_neg (show ¬ (false = true) by decide)] at H; exact H
         clear H
         have H := H1
         clear H1
         by_cases c15 : x6_1 ≥ 0
         ·rw [if_pos c15] at H
          have c15b0 : decide (0 ≤ x6_1) = true := decide_eq_true c15
          clear c15
          simp only [Option.some.injEq, Prod.mk.injEq] at H
          obtain ⟨rfl, rfl⟩ := H
          go_wp2
          go_ret2
          exact ⟨by first | rfl | (simp [errW_none, errW_some] <;> rfl) | (simp [*, errW_none, errW_some] <;> rfl), by repeat (first | (with_reducible first | exact HB.out | apply below_alloc | apply pw_below_drewN | apply below_drew1) | exact HB.out)⟩
         ·rw [if_neg c15] at H
          have c15b0 : decide (0 ≤ x6_1) = false := decide_eq_false c15
          clear c15
          have H' := Aside0.mk H
          clear H
          go_wp2
          go_roundg kj6
          case measure => have := HK1.out; have := HJ6.out; omega
          case rel => exact ⟨(x6_1), (wrap64 (x7_1 + 1)), (by first | rfl | (simp; done) | (simp [*]; done)), (by first | rfl | (simp; done) | (simp [*]; done)), H', ⟨by have := HK1.out; have := HJ6.out; omega⟩, ⟨by repeat (first | (with_reducible first | exact HB.out | apply below_alloc | apply pw_below_drewN | apply below_drew1) | exact HB.out)⟩⟩
    ·rw [if_neg c4] at H
     exact absurd H (by simp)
   ·rw [if_neg c3] at H
    have c3b0 : decide (x7_1 < (l0.length : Int)) = false := decide_eq_false c3
    clear c3
    simp only [Option.some.injEq, Prod.mk.injEq] at H
    obtain ⟨rfl, rfl⟩ := H
    go_wp2
    go_ret2
    exact ⟨by first | rfl | (simp [errW_none, errW_some] <;> rfl) | (simp [*, errW_none, errW_some] <;> rfl), by repeat (first | (with_reducible first | exact HB.out | apply below_alloc | apply pw_below_drewN | apply below_drew1) | exact HB.out)⟩
def depotref06_Way.l0 : Nat → List (S29) → List ByteArray → Int → Option (Int)
 | 0, _, _, _ => none
 | k + 1, x0, x1, x5 => if x5 < (x1.length : Int) then (if 0 ≤ x5 then (if x5 ≤ (x1.length : Int) then ((depotref06_under.f k x0 (x1.take (x5 : Int).toNat)).bind fun bt194 => (if bt194.1 < 0 then (some 3) else (if 0 ≤ bt194.1 then (if bt194.1 < (x0.length : Int) then (if ((rd_T29 x0 bt194.1).f1) = 3 then (depotref06_Way.l0 k x0 x1 (wrap64 (x5 + 1))) else (some 65)) else (none)) else (none)))) else (none)) else (none)) else (some 0)
def depotref06_Way.f (k : Nat) (l0 : List (S29)) (l1 : List ByteArray) : Option (Int) := depotref06_Way.l0 k l0 l1 0
theorem depotref06_Way.mono_l : ∀ k, (∀ y0 y1 y2, LeO (depotref06_Way.l0 k y0 y1 y2) (depotref06_Way.l0 (k + 1) y0 y1 y2))
 | 0 => fun _ _ _ r h => by simp [depotref06_Way.l0] at h
 | k + 1 => by
  have ih0 := depotref06_Way.mono_l k
  ·intro y0 y1 y2
   unfold depotref06_Way.l0
   repeat' first
   | (with_reducible exact ih0 _ _ _)
   | (with_reducible exact depotref06_under.mono _ _ _)
   | (with_reducible exact LeO.refl _)
   | (with_reducible exact LeO.none _)
   | (with_reducible refine LeO.ite ?_ ?_)
   | (with_reducible refine LeO.bind ?_ (fun _ => ?_))
   | exact ih0 _ _ _
   | exact depotref06_under.mono _ _ _
   | exact LeO.none _
   | refine LeO.ite ?_ ?_
   | refine LeO.bind ?_ (fun _ => ?_)
theorem depotref06_Way.mono : ∀ a0 a1 k, LeO (depotref06_Way.f k a0 a1) (depotref06_Way.f (k + 1) a0 a1) := by
 intro a0 a1 k
 have ih0 := depotref06_Way.mono_l k
 unfold depotref06_Way.f
 repeat' first
   | (with_reducible exact ih0 _ _ _)
   | (with_reducible exact depotref06_under.mono _ _ _)
   | (with_reducible exact LeO.refl _)
   | (with_reducible exact LeO.none _)
   | (with_reducible refine LeO.ite ?_ ?_)
   | (with_reducible refine LeO.bind ?_ (fun _ => ?_))
   | exact ih0 _ _ _
   | exact depotref06_under.mono _ _ _
   | exact LeO.none _
   | refine LeO.ite ?_ ?_
   | refine LeO.bind ?_ (fun _ => ?_)
set_option maxHeartbeats 8000000 in
set_option maxRecDepth 100000 in
theorem depotref06_Way.calls (k : Nat) (A0 : Option Addr) (c0 : Nat) (l0 : List (S29)) (A1 : Option Addr) (c1 : Nat) (l1 : List ByteArray) (r : Int) (w : World) (hr0 : Kd.C k29 w A0 l0.length l0) (hc0 : l0.length ≤ c0) (hr1 : Kd.C Kd.string w A1 l1.length l1) (hc1 : l1.length ≤ c1) (h : depotref06_Way.f k l0 l1 = some r) :
  Calls Tryd.prog 41 #[.slice A0 l0.length c0, .slice A1 l1.length c1] w fun e w' => e = .returned (.int .i64 r) ∧ Below w.heap.size w w' := by
 have HR0 := Aside0.mk hr0
 have HC0 := Aside0.mk hc0
 clear hr0 hc0
 have HR1 := Aside0.mk hr1
 have HC1 := Aside0.mk hc1
 clear hr1 hc1
 have HB := Aside0.mk (Below.refl w.heap.size w)
 have H : (depotref06_Way.l0 k l0 l1 0) = some r := h
 clear h
 have H' := Aside0.mk H
 clear H
 go_enter Tryd.func41, Tryd.ntmps41
 go_wp2
 go_loopg [5] k (fun kq v5 w' => ∃ (x5_1 : Int), v5 = .int .i64 x5_1 ∧ Aside0 (depotref06_Way.l0 kq l0 l1 x5_1 = some r) ∧ Aside0 (kq ≤ k) ∧ Aside0 (Below w.heap.size w w'))
 case atStart => exact ⟨(0), (by first | rfl | (simp; done) | (simp [*]; done)), H', ⟨Nat.le_refl _⟩, ⟨by repeat (first | (with_reducible first | exact HB.out | apply below_alloc | apply pw_below_drewN | apply below_drew1) | exact HB.out)⟩⟩
 case round =>
  clear H'
  try clear c1
  try clear p2
  obtain ⟨x5_1, rfl, HA, HK1, HB⟩ := hrel
  cases gk with
  | zero => exact absurd HA.out (by simp [depotref06_Way.l0])
  | succ k1 =>
   have H := HA.out
   clear HA
   simp only [depotref06_Way.l0] at H
   by_cases c3 : x5_1 < (l1.length : Int)
   ·rw [if_pos c3] at H
    have c3b0 : decide (x5_1 < (l1.length : Int)) = true := decide_eq_true c3
    clear c3
    by_cases c4 : 0 ≤ x5_1
    ·rw [if_pos c4] at H
     have c4b0 := eq_true c4
     have c4b1 : decide (0 ≤ x5_1) = true := decide_eq_true c4
     clear c4
     by_cases c5 : x5_1 ≤ (l1.length : Int)
     ·rw [if_pos c5] at H
      have c5b0 := eq_true c5
      have c5b1 : decide (x5_1 ≤ (l1.length : Int)) = true := decide_eq_true c5
      clear c5
      replace H := Option.bind_eq_some_iff.mp H
      obtain ⟨⟨t194, t195⟩, A60, H⟩ := H
      replace H : (if t194 < 0 then (some 3) else (if 0 ≤ t194 then (if t194 < (l0.length : Int) then (if ((rd_T29 l0 t194).f1) = 3 then (depotref06_Way.l0 k1 l0 l1 (wrap64 (x5_1 + 1))) else (some 65)) else (none)) else (none))) = some r := H
      have A6 := Aside0.mk A60
      clear A60
      by_cases c7 : t194 < 0
      ·rw [if_pos c7] at H
       have c7b0 : decide (t194 < 0) = true := decide_eq_true c7
       clear c7
       obtain rfl := Option.some.inj H
       obtain ⟨i08, hi08, _, hsz8, _⟩ := info_parts info9
       obtain ⟨hcut8, hA8, hC8⟩ := print_take_of (P := Tryd.prog) Value.string (⟨#[]⟩ : ByteArray) 68 9 .i64 Tryd.underlying68 hi08 hsz8 A1 c1 l1 x5_1 (of_decide_eq_true (by first | (with_reducible assumption) | assumption)) (of_decide_eq_true (by first | (with_reducible assumption) | assumption)) HC1.out
       have HR193 := Aside0.mk (Kd.C_of_reads (h1 := fun _ => rfl) (hA8 _ (Kd.reads_of_C HR1.out)))
       have HC193 := Aside0.mk hC8
       clear hA8 hC8 hi08 hsz8
       go_wp2_with (first | ((with_reducible refine gate_callee (f := 42) rfl ?_); refine goesL_ (some 19) rfl rfl Tryd.func42 (by kernel_rfl) rfl #[.slice A0 l0.length c0, .slice A1 (l1.take (x5_1 : Int).toNat).length c1] rfl (by (try simp only [List.map_toArray, List.map_cons, List.map_nil]); first | done | (rw [show (l1.take (x5_1 : Int).toNat).length = x5_1.toNat from (by rw [List.length_take]; have h_ : (x5_1 : Int) ≤ (l1.length : Int) := of_decide_eq_true (by first | (with_reducible assumption) | assumption); omega)] <;> rfl) | rfl | (simp only [List.length_drop, List.length_take]; rfl)) ?_; (with_reducible refine (depotref06_under.calls k1 _ _ l0 _ _ (l1.take (x5_1 : Int).toNat) t194 t195 _ ?side1 ?side2 ?side3 ?side4 A6.out).mono ?_); (case side1 => repeat (first | exact (Kd.C_below HR0.out HB.out) | (with_reducible refine Kd.C_alloc ?_ _) | (with_reducible refine Kd.C_drewN ?_ _) | (with_reducible refine Kd.C_drew ?_))); (case side2 => exact HC0.out); (case side3 => repeat (first | exact (Kd.C_below HR193.out HB.out) | (with_reducible refine Kd.C_alloc ?_ _) | (with_reducible refine Kd.C_drewN ?_ _) | (with_reducible refine Kd.C_drew ?_))); (case side4 => exact HC193.out); rintro e w9 ⟨rfl, hb⟩; refine ⟨_, rfl, ?_⟩; have n0_ := Aside0.mk (below_step (by repeat (first | (with_reducible first | exact HB.out | apply below_alloc | apply pw_below_drewN | apply below_drew1) | exact HB.out)) hb); clear HB; have HB := n0_; clear n0_; (try clear hb); (try clear hb2); (try clear hk); (try clear hi)))
       go_ret
       exact ⟨by first | rfl | (simp [errW_none, errW_some] <;> rfl) | (simp [*, errW_none, errW_some] <;> rfl), by repeat (first | (with_reducible first | exact HB.out | apply below_alloc | apply pw_below_drewN | apply below_drew1) | exact HB.out)⟩
      ·rw [if_neg c7] at H
       have c7b0 : decide (t194 < 0) = false := decide_eq_false c7
       clear c7
       by_cases c10 : 0 ≤ t194
       ·rw [if_pos c10] at H
        have c10b0 : decide (0 ≤ t194) = true := decide_eq_true c10
        clear c10
        by_cases c11 : t194 < (l0.length : Int)
        ·rw [if_pos c11] at H
         have c11b0 : decide (t194 < (l0.length : Int)) = true := decide_eq_true c11
         clear c11
         by_cases c12 : ((rd_T29 l0 t194).f1) = 3
         ·rw [if_pos c12] at H
          have c12b0 : (((rd_T29 l0 t194).f1) == 3) = true := beq_iff_eq.mpr c12
          have c12b1 : (((rd_T29 l0 t194).f1) != 3) = false := bne_eq_false_iff_eq.mpr c12
          clear c12
          have H' := Aside0.mk H
          clear H
          obtain ⟨i013, hi013, _, hsz13, _⟩ := info_parts info9
          obtain ⟨hcut13, hA13, hC13⟩ := print_take_of (P := Tryd.prog) Value.string (⟨#[]⟩ : ByteArray) 68 9 .i64 Tryd.underlying68 hi013 hsz13 A1 c1 l1 x5_1 (of_decide_eq_true (by first | (with_reducible assumption) | assumption)) (of_decide_eq_true (by first | (with_reducible assumption) | assumption)) HC1.out
          have HR193 := Aside0.mk (Kd.C_of_reads (h1 := fun _ => rfl) (hA13 _ (Kd.reads_of_C HR1.out)))
          have HC193 := Aside0.mk hC13
          clear hA13 hC13 hi013 hsz13
          go_wp2_with (first | ((with_reducible refine gate_callee (f := 42) rfl ?_); refine goesL_ (some 19) rfl rfl Tryd.func42 (by kernel_rfl) rfl #[.slice A0 l0.length c0, .slice A1 (l1.take (x5_1 : Int).toNat).length c1] rfl (by (try simp only [List.map_toArray, List.map_cons, List.map_nil]); first | done | (rw [show (l1.take (x5_1 : Int).toNat).length = x5_1.toNat from (by rw [List.length_take]; have h_ : (x5_1 : Int) ≤ (l1.length : Int) := of_decide_eq_true (by first | (with_reducible assumption) | assumption); omega)] <;> rfl) | rfl | (simp only [List.length_drop, List.length_take]; rfl)) ?_; (with_reducible refine (depotref06_under.calls k1 _ _ l0 _ _ (l1.take (x5_1 : Int).toNat) t194 t195 _ ?side1 ?side2 ?side3 ?side4 A6.out).mono ?_); (case side1 => repeat (first | exact (Kd.C_below HR0.out HB.out) | (with_reducible refine Kd.C_alloc ?_ _) | (with_reducible refine Kd.C_drewN ?_ _) | (with_reducible refine Kd.C_drew ?_))); (case side2 => exact HC0.out); (case side3 => repeat (first | exact (Kd.C_below HR193.out HB.out) | (with_reducible refine Kd.C_alloc ?_ _) | (with_reducible refine Kd.C_drewN ?_ _) | (with_reducible refine Kd.C_drew ?_))); (case side4 => exact HC193.out); rintro e w14 ⟨rfl, hb⟩; refine ⟨_, rfl, ?_⟩; have n0_ := Aside0.mk (below_step (by repeat (first | (with_reducible first | exact HB.out | apply below_alloc | apply pw_below_drewN | apply below_drew1) | exact HB.out)) hb); clear HB; have HB := n0_; clear n0_; (try clear hb); (try clear hb2); (try clear hk); (try clear hi); have p196 : 0 ≤ (t194 : Int) := of_decide_eq_true (by first | (with_reducible assumption) | assumption); have q196 : t194 < (l0.length : Int) := of_decide_eq_true (by first | (with_reducible assumption) | assumption); obtain ⟨ad196, e196, hx196_0, hx196_1, hx196_2, hx196_3⟩ := at_T29 HR0.out t194 p196 q196; cases e196; replace hx196_0 := (HB.out.cell (World.block_lt_of_cell? w _ hx196_0)).trans hx196_0; replace hx196_1 := (HB.out.cell (World.block_lt_of_cell? w _ hx196_1)).trans hx196_1; replace hx196_2 := (HB.out.cell (World.block_lt_of_cell? w _ hx196_2)).trans hx196_2; replace hx196_3 := (HB.out.cell (World.block_lt_of_cell? w _ hx196_3)).trans hx196_3; replace p196 := eq_true p196; replace q196 := eq_true q196))
          go_roundg k1
          case measure => have := HK1.out; omega
          case rel => exact ⟨(wrap64 (x5_1 + 1)), (by first | rfl | (simp; done) | (simp [*]; done)), H', ⟨by have := HK1.out; omega⟩, ⟨by repeat (first | (with_reducible first | exact HB.out | apply below_alloc | apply pw_below_drewN | apply below_drew1) | exact HB.out)⟩⟩
         ·rw [if_neg c12] at H
          have c12b0 : (((rd_T29 l0 t194).f1) == 3) = false := beq_eq_false_iff_ne.mpr c12
          have c12b1 : (((rd_T29 l0 t194).f1) != 3) = true := bne_iff_ne.mpr c12
          obtain rfl := Option.some.inj H
          obtain ⟨i015, hi015, _, hsz15, _⟩ := info_parts info9
          obtain ⟨hcut15, hA15, hC15⟩ := print_take_of (P := Tryd.prog) Value.string (⟨#[]⟩ : ByteArray) 68 9 .i64 Tryd.underlying68 hi015 hsz15 A1 c1 l1 x5_1 (of_decide_eq_true (by first | (with_reducible assumption) | assumption)) (of_decide_eq_true (by first | (with_reducible assumption) | assumption)) HC1.out
          have HR193 := Aside0.mk (Kd.C_of_reads (h1 := fun _ => rfl) (hA15 _ (Kd.reads_of_C HR1.out)))
          have HC193 := Aside0.mk hC15
          clear hA15 hC15 hi015 hsz15
          go_wp2_with (first | ((with_reducible refine gate_callee (f := 42) rfl ?_); refine goesL_ (some 19) rfl rfl Tryd.func42 (by kernel_rfl) rfl #[.slice A0 l0.length c0, .slice A1 (l1.take (x5_1 : Int).toNat).length c1] rfl (by (try simp only [List.map_toArray, List.map_cons, List.map_nil]); first | done | (rw [show (l1.take (x5_1 : Int).toNat).length = x5_1.toNat from (by rw [List.length_take]; have h_ : (x5_1 : Int) ≤ (l1.length : Int) := of_decide_eq_true (by first | (with_reducible assumption) | assumption); omega)] <;> rfl) | rfl | (simp only [List.length_drop, List.length_take]; rfl)) ?_; (with_reducible refine (depotref06_under.calls k1 _ _ l0 _ _ (l1.take (x5_1 : Int).toNat) t194 t195 _ ?side1 ?side2 ?side3 ?side4 A6.out).mono ?_); (case side1 => repeat (first | exact (Kd.C_below HR0.out HB.out) | (with_reducible refine Kd.C_alloc ?_ _) | (with_reducible refine Kd.C_drewN ?_ _) | (with_reducible refine Kd.C_drew ?_))); (case side2 => exact HC0.out); (case side3 => repeat (first | exact (Kd.C_below HR193.out HB.out) | (with_reducible refine Kd.C_alloc ?_ _) | (with_reducible refine Kd.C_drewN ?_ _) | (with_reducible refine Kd.C_drew ?_))); (case side4 => exact HC193.out); rintro e w16 ⟨rfl, hb⟩; refine ⟨_, rfl, ?_⟩; have n0_ := Aside0.mk (below_step (by repeat (first | (with_reducible first | exact HB.out | apply below_alloc | apply pw_below_drewN | apply below_drew1) | exact HB.out)) hb); clear HB; have HB := n0_; clear n0_; (try clear hb); (try clear hb2); (try clear hk); (try clear hi); have p196 : 0 ≤ (t194 : Int) := of_decide_eq_true (by first | (with_reducible assumption) | assumption); have q196 : t194 < (l0.length : Int) := of_decide_eq_true (by first | (with_reducible assumption) | assumption); obtain ⟨ad196, e196, hx196_0, hx196_1, hx196_2, hx196_3⟩ := at_T29 HR0.out t194 p196 q196; cases e196; replace hx196_0 := (HB.out.cell (World.block_lt_of_cell? w _ hx196_0)).trans hx196_0; replace hx196_1 := (HB.out.cell (World.block_lt_of_cell? w _ hx196_1)).trans hx196_1; replace hx196_2 := (HB.out.cell (World.block_lt_of_cell? w _ hx196_2)).trans hx196_2; replace hx196_3 := (HB.out.cell (World.block_lt_of_cell? w _ hx196_3)).trans hx196_3; replace p196 := eq_true p196; replace q196 := eq_true q196))
          go_ret
          exact ⟨by first | rfl | (simp [errW_none, errW_some] <;> rfl) | (simp [*, errW_none, errW_some] <;> rfl), by repeat (first | (with_reducible first | exact HB.out | apply below_alloc | apply pw_below_drewN | apply below_drew1) | exact HB.out)⟩
        ·rw [if_neg c11] at H
         exact absurd H (by simp)
       ·rw [if_neg c10] at H
        exact absurd H (by simp)
     ·rw [if_neg c5] at H
      exact absurd H (by simp)
    ·rw [if_neg c4] at H
     exact absurd H (by simp)
   ·rw [if_neg c3] at H
    have c3b0 : decide (x5_1 < (l1.length : Int)) = false := decide_eq_false c3
    clear c3
    obtain rfl := Option.some.inj H
    go_wp2
    go_ret
    exact ⟨by first | rfl | (simp [errW_none, errW_some] <;> rfl) | (simp [*, errW_none, errW_some] <;> rfl), by repeat (first | (with_reducible first | exact HB.out | apply below_alloc | apply pw_below_drewN | apply below_drew1) | exact HB.out)⟩
def depotref06_pathOf.l0 : Nat → List ByteArray → ByteArray → Int → Option (ByteArray)
 | 0, _, _, _ => none
 | k + 1, x0, x3, x4 => if x4 < (x0.length : Int) then (if x4 > 0 then (if x3.size + 1 ≤ 9223372036854775807 then (if 0 ≤ x4 then (if (x3 ++ (⟨#[47]⟩ : ByteArray)).size + (rdOf ByteArray.empty x0 x4).size ≤ 9223372036854775807 then (depotref06_pathOf.l0 k x0 ((x3 ++ (⟨#[47]⟩ : ByteArray)) ++ (rdOf ByteArray.empty x0 x4)) (wrap64 (x4 + 1))) else (none)) else (none)) else (none)) else (if 0 ≤ x4 then (if x3.size + (rdOf ByteArray.empty x0 x4).size ≤ 9223372036854775807 then (depotref06_pathOf.l0 k x0 (x3 ++ (rdOf ByteArray.empty x0 x4)) (wrap64 (x4 + 1))) else (none)) else (none))) else (some x3)
def depotref06_pathOf.f (k : Nat) (l0 : List ByteArray) : Option (ByteArray) := depotref06_pathOf.l0 k l0 (⟨#[]⟩ : ByteArray) 0
theorem depotref06_pathOf.mono_l : ∀ k, (∀ y0 y1 y2, LeO (depotref06_pathOf.l0 k y0 y1 y2) (depotref06_pathOf.l0 (k + 1) y0 y1 y2))
 | 0 => fun _ _ _ r h => by simp [depotref06_pathOf.l0] at h
 | k + 1 => by
  have ih0 := depotref06_pathOf.mono_l k
  ·intro y0 y1 y2
   unfold depotref06_pathOf.l0
   repeat' first
   | (with_reducible exact ih0 _ _ _)
   | (with_reducible exact LeO.refl _)
   | (with_reducible exact LeO.none _)
   | (with_reducible refine LeO.ite ?_ ?_)
   | (with_reducible refine LeO.bind ?_ (fun _ => ?_))
   | exact ih0 _ _ _
   | exact LeO.none _
   | refine LeO.ite ?_ ?_
   | refine LeO.bind ?_ (fun _ => ?_)
theorem depotref06_pathOf.mono : ∀ a0 k, LeO (depotref06_pathOf.f k a0) (depotref06_pathOf.f (k + 1) a0) := by
 intro a0 k
 have ih0 := depotref06_pathOf.mono_l k
 unfold depotref06_pathOf.f
 repeat' first
   | (with_reducible exact ih0 _ _ _)
   | (with_reducible exact LeO.refl _)
   | (with_reducible exact LeO.none _)
   | (with_reducible refine LeO.ite ?_ ?_)
   | (with_reducible refine LeO.bind ?_ (fun _ => ?_))
   | exact ih0 _ _ _
   | exact LeO.none _
   | refine LeO.ite ?_ ?_
   | refine LeO.bind ?_ (fun _ => ?_)
end
end Go.Proofs.YtnemeeidomceiaaDoor.PGTreeGets
end
section
namespace Go.Proofs.YtnemeeidomceiaaDoor.PGTreeGets
open Go.RowKit Go.Proofs.YtnemeeidomceiaaDoorW.PrintWords Go.Proofs.YtnemeeidomceiaaDoorW.PrintLast Go.Proofs.YtnemeeidomceiaaDoorW.PrintMore
attribute [local go_sem] max2_int min2_int max_two min_two max_three min_three max_four min_four   -- for this text's walks alone
set_option linter.unusedVariables false
set_option linter.unusedSimpArgs false
noncomputable section
mutual
def depotref06_Get.j0 : Nat → List ByteArray → Int → List (S29) → Int → Int → ByteArray → Option (Int × Bool × ByteArray × (List (S63)) × Int)
 | 0, _, _, _, _, _, _ => none
 | k + 1, x7, x8, x208000, x208001, x208002, x208003 => if x8 = 0 then ((depotref06_under.f k x208000 x7).bind fun bt214 => (if bt214.1 < 0 then (some (0, false, (⟨#[]⟩ : ByteArray), ([] : List (S63)), 3)) else (depotref06_Get.l0 k x7 bt214.2 ([] : List (S29)) bt214.1 x208000 x208001 x208002 x208003))) else (some (0, false, (⟨#[]⟩ : ByteArray), ([] : List (S63)), x8))
def depotref06_Get.l0 : Nat → List ByteArray → Int → List (S29) → Int → List (S29) → Int → Int → ByteArray → Option (Int × Bool × ByteArray × (List (S63)) × Int)
 | 0, _, _, _, _, _, _, _, _ => none
 | k + 1, x7, x11, x12, x13, x208000, x208001, x208002, x208003 => if x13 < x11 then (if 0 ≤ x13 then (if x13 < (x208000.length : Int) then ((depotref05_Split.f k ((rd_T29 x208000 x13).f0)).bind fun bt217 => (if 0 ≤ (x7.length : Int) then (if (x7.length : Int) ≤ (bt217.1.length : Int) then ((depotref06_pathOf.f k (bt217.1.drop ((x7.length : Int) : Int).toNat)).bind fun t228 => (if x12.length < 2932031007402 then (depotref06_Get.l0 k x7 x11 (x12 ++ [(⟨t228, (rd_T29 x208000 x13).f1, (rd_T29 x208000 x13).f2, (rd_T29 x208000 x13).f3⟩ : S29)]) (wrap64 (x13 + 1)) x208000 x208001 x208002 x208003) else (none))) else (none)) else (none))) else (none)) else (none)) else ((depotref06_Build.f k x12).bind fun bt232 => (some (bt232.1, bt232.2.1, bt232.2.2.1, bt232.2.2.2.1, 0)))
end
def depotref06_Get.f (k : Nat) (a0_0 : Int) (a0_1 : Bool) (a0_2 : ByteArray) (l0_3 : List (S63)) (a1 : ByteArray) : Option (Int × Bool × ByteArray × (List (S63)) × Int) := (depotref06_Look.f a0_0 a0_1 a0_2 l0_3).bind fun bt201 => (if bt201.2.2.1 = 0 then ((depotref05_Split.f k a1).bind fun bt208 => (if bt208.2.1 = 0 then ((depotref06_Way.f k bt201.1 bt208.1).bind fun t213 => (depotref06_Get.j0 k bt208.1 t213 bt201.1 bt201.2.1 bt201.2.2.1 bt201.2.2.2)) else (depotref06_Get.j0 k bt208.1 bt208.2.1 bt201.1 bt201.2.1 bt201.2.2.1 bt201.2.2.2))) else (some (0, false, (⟨#[]⟩ : ByteArray), ([] : List (S63)), bt201.2.2.1)))
theorem depotref06_Get.mono_l : ∀ k, (∀ y0 y1 y2 y3 y4 y5, LeO (depotref06_Get.j0 k y0 y1 y2 y3 y4 y5) (depotref06_Get.j0 (k + 1) y0 y1 y2 y3 y4 y5)) ∧ (∀ y0 y1 y2 y3 y4 y5 y6 y7, LeO (depotref06_Get.l0 k y0 y1 y2 y3 y4 y5 y6 y7) (depotref06_Get.l0 (k + 1) y0 y1 y2 y3 y4 y5 y6 y7))
 | 0 => ⟨fun _ _ _ _ _ _ r h => by simp [depotref06_Get.j0] at h, fun _ _ _ _ _ _ _ _ r h => by simp [depotref06_Get.l0] at h⟩
 | k + 1 => by
  obtain ⟨ih0, ih1⟩ := depotref06_Get.mono_l k
  refine ⟨?_, ?_⟩
  ·intro y0 y1 y2 y3 y4 y5
   unfold depotref06_Get.j0
   repeat' first
   | (with_reducible exact ih0 _ _ _ _ _ _)
   | (with_reducible exact ih1 _ _ _ _ _ _ _ _)
   | (with_reducible exact depotref05_Split.mono _ _)
   | (with_reducible exact depotref06_Build.mono _ _)
   | (with_reducible exact depotref06_Way.mono _ _ _)
   | (with_reducible exact depotref06_pathOf.mono _ _)
   | (with_reducible exact depotref06_under.mono _ _ _)
   | (with_reducible exact LeO.refl _)
   | (with_reducible exact LeO.none _)
   | (with_reducible refine LeO.ite ?_ ?_)
   | (with_reducible refine LeO.bind ?_ (fun _ => ?_))
   | exact ih0 _ _ _ _ _ _
   | exact ih1 _ _ _ _ _ _ _ _
   | exact depotref05_Split.mono _ _
   | exact depotref06_Build.mono _ _
   | exact depotref06_Way.mono _ _ _
   | exact depotref06_pathOf.mono _ _
   | exact depotref06_under.mono _ _ _
   | exact LeO.none _
   | refine LeO.ite ?_ ?_
   | refine LeO.bind ?_ (fun _ => ?_)
  ·intro y0 y1 y2 y3 y4 y5 y6 y7
   unfold depotref06_Get.l0
   repeat' first
   | (with_reducible exact ih0 _ _ _ _ _ _)
   | (with_reducible exact ih1 _ _ _ _ _ _ _ _)
   | (with_reducible exact depotref05_Split.mono _ _)
   | (with_reducible exact depotref06_Build.mono _ _)
   | (with_reducible exact depotref06_Way.mono _ _ _)
   | (with_reducible exact depotref06_pathOf.mono _ _)
   | (with_reducible exact depotref06_under.mono _ _ _)
   | (with_reducible exact LeO.refl _)
   | (with_reducible exact LeO.none _)
   | (with_reducible refine LeO.ite ?_ ?_)
   | (with_reducible refine LeO.bind ?_ (fun _ => ?_))
   | exact ih0 _ _ _ _ _ _
   | exact ih1 _ _ _ _ _ _ _ _
   | exact depotref05_Split.mono _ _
   | exact depotref06_Build.mono _ _
   | exact depotref06_Way.mono _ _ _
   | exact depotref06_pathOf.mono _ _
   | exact depotref06_under.mono _ _ _
   | exact LeO.none _
   | refine LeO.ite ?_ ?_
   | refine LeO.bind ?_ (fun _ => ?_)
theorem depotref06_Get.mono : ∀ a0 a1 a2 a3 a4 k, LeO (depotref06_Get.f k a0 a1 a2 a3 a4) (depotref06_Get.f (k + 1) a0 a1 a2 a3 a4) := by
 intro a0 a1 a2 a3 a4 k
 obtain ⟨ih0, ih1⟩ := depotref06_Get.mono_l k
 unfold depotref06_Get.f
 repeat' first
   | (with_reducible exact ih0 _ _ _ _ _ _)
   | (with_reducible exact ih1 _ _ _ _ _ _ _ _)
   | (with_reducible exact depotref05_Split.mono _ _)
   | (with_reducible exact depotref06_Build.mono _ _)
   | (with_reducible exact depotref06_Way.mono _ _ _)
   | (with_reducible exact depotref06_pathOf.mono _ _)
   | (with_reducible exact depotref06_under.mono _ _ _)
   | (with_reducible exact LeO.refl _)
   | (with_reducible exact LeO.none _)
   | (with_reducible refine LeO.ite ?_ ?_)
   | (with_reducible refine LeO.bind ?_ (fun _ => ?_))
   | exact ih0 _ _ _ _ _ _
   | exact ih1 _ _ _ _ _ _ _ _
   | exact depotref05_Split.mono _ _
   | exact depotref06_Build.mono _ _
   | exact depotref06_Way.mono _ _ _
   | exact depotref06_pathOf.mono _ _
   | exact depotref06_under.mono _ _ _
   | exact LeO.none _
   | refine LeO.ite ?_ ?_
   | refine LeO.bind ?_ (fun _ => ?_)
def depotref06_without.l0 : Nat → List (S29) → List (S29) → Int → Int → Int → Option ((List (S29)))
 | 0, _, _, _, _, _ => none
 | k + 1, x0, x5, x6, x7, x8 => if x8 < (x0.length : Int) then (if x6 < 0 then (if 0 ≤ x8 then (if x5.length < 2932031007402 then (depotref06_without.l0 k x0 (x5 ++ [(⟨(rd_T29 x0 x8).f0, (rd_T29 x0 x8).f1, (rd_T29 x0 x8).f2, (rd_T29 x0 x8).f3⟩ : S29)]) x6 x7 (wrap64 (x8 + 1))) else (none)) else (none)) else (if x8 < x6 then (if 0 ≤ x8 then (if x5.length < 2932031007402 then (depotref06_without.l0 k x0 (x5 ++ [(⟨(rd_T29 x0 x8).f0, (rd_T29 x0 x8).f1, (rd_T29 x0 x8).f2, (rd_T29 x0 x8).f3⟩ : S29)]) x6 x7 (wrap64 (x8 + 1))) else (none)) else (none)) else (if x8 ≥ x7 then (if 0 ≤ x8 then (if x5.length < 2932031007402 then (depotref06_without.l0 k x0 (x5 ++ [(⟨(rd_T29 x0 x8).f0, (rd_T29 x0 x8).f1, (rd_T29 x0 x8).f2, (rd_T29 x0 x8).f3⟩ : S29)]) x6 x7 (wrap64 (x8 + 1))) else (none)) else (none)) else (depotref06_without.l0 k x0 x5 x6 x7 (wrap64 (x8 + 1)))))) else (some x5)
def depotref06_without.f (k : Nat) (l0 : List (S29)) (l1 : List ByteArray) : Option ((List (S29))) := (depotref06_under.f k l0 l1).bind fun bt241 => (depotref06_without.l0 k l0 ([] : List (S29)) bt241.1 bt241.2 0)
theorem depotref06_without.mono_l : ∀ k, (∀ y0 y1 y2 y3 y4, LeO (depotref06_without.l0 k y0 y1 y2 y3 y4) (depotref06_without.l0 (k + 1) y0 y1 y2 y3 y4))
 | 0 => fun _ _ _ _ _ r h => by simp [depotref06_without.l0] at h
 | k + 1 => by
  have ih0 := depotref06_without.mono_l k
  ·intro y0 y1 y2 y3 y4
   unfold depotref06_without.l0
   repeat' first
   | (with_reducible exact ih0 _ _ _ _ _)
   | (with_reducible exact depotref06_under.mono _ _ _)
   | (with_reducible exact LeO.refl _)
   | (with_reducible exact LeO.none _)
   | (with_reducible refine LeO.ite ?_ ?_)
   | (with_reducible refine LeO.bind ?_ (fun _ => ?_))
   | exact ih0 _ _ _ _ _
   | exact depotref06_under.mono _ _ _
   | exact LeO.none _
   | refine LeO.ite ?_ ?_
   | refine LeO.bind ?_ (fun _ => ?_)
theorem depotref06_without.mono : ∀ a0 a1 k, LeO (depotref06_without.f k a0 a1) (depotref06_without.f (k + 1) a0 a1) := by
 intro a0 a1 k
 have ih0 := depotref06_without.mono_l k
 unfold depotref06_without.f
 repeat' first
   | (with_reducible exact ih0 _ _ _ _ _)
   | (with_reducible exact depotref06_under.mono _ _ _)
   | (with_reducible exact LeO.refl _)
   | (with_reducible exact LeO.none _)
   | (with_reducible refine LeO.ite ?_ ?_)
   | (with_reducible refine LeO.bind ?_ (fun _ => ?_))
   | exact ih0 _ _ _ _ _
   | exact depotref06_under.mono _ _ _
   | exact LeO.none _
   | refine LeO.ite ?_ ?_
   | refine LeO.bind ?_ (fun _ => ?_)
end
end Go.Proofs.YtnemeeidomceiaaDoor.PGTreeGets
end
section
namespace Go.Proofs.YtnemeeidomceiaaDoor
open Go.RowKit Go.Proofs.YtnemeeidomceiaaDoorW.PrintWords Go.Proofs.YtnemeeidomceiaaDoorW.PrintLast Go.Proofs.YtnemeeidomceiaaDoorW.PrintMore
set_option linter.unusedVariables false
set_option linter.unusedSimpArgs false
set_option maxHeartbeats 4000000 in
set_option maxRecDepth 100000 in
theorem cloneO_calls (l : List Ent) (hf : Fit l) : ∀ (k : Int) (e : Bool) (t : ByteArray) (A : Option Addr) (c : Nat) (w : World), Kd.C kE w A l.length l → l.length ≤ c →
  Calls Tryd.prog 23 #[.agg #[.int .i64 k, .bool e, .string t, .slice A l.length c]] w
   fun o w' => ∃ v, o = .returned (.agg #[.int .i64 k, .bool e, .string t, v]) ∧ Own w' w.heap.size (fun k => w.heap.size ≤ k) v l ∧ Below w.heap.size w w' := by
 induction hf with
 | @mk l h72 _ ih =>
 intro k e t A c w hx hcx
 have HX := Aside0.mk hx
 have IH := Aside0.mk ih
 obtain ⟨n, hn⟩ : ∃ n, n = l.length := ⟨_, rfl⟩
 have HNL := Aside0.mk hn
 have H72 : Aside0 (n * 72 ≤ 140737488355328) := ⟨by rw [hn]; exact h72⟩
 have hm : n ≤ 140737488355328 := by omega
 rw [← hn]
 clear hx ih hn h72 hcx
 go_enter Tryd.func23, Tryd.ntmps23
 go_wp2
 obtain ⟨W2, hW2⟩ : ∃ W2, W2 = ((w.alloc (.cells #[.int .i64 k, .bool e, .string t, .slice A n c] 32)).alloc (.cells #[.int .i64 0, .bool false, .string ⟨#[]⟩, .slice none 0 0] 32)).alloc (.cells #[.int .i64 k, .bool e, .string t, .slice none 0 0] 32) := ⟨_, rfl⟩
 rw [← hW2]
 obtain ⟨b0, hb0⟩ : ∃ b, b = w.heap.size := ⟨_, rfl⟩
 obtain ⟨b1, hb1⟩ : ∃ b, b = w.heap.size + 1 := ⟨_, rfl⟩
 obtain ⟨b2, hb2⟩ : ∃ b, b = w.heap.size + 1 + 1 := ⟨_, rfl⟩
 rw [← hb2, ← hb1, ← hb0]
 have B0 : Aside0 (Blk W2 b0 32 [.int .i64 k, .bool e, .string t, .slice A n c]) := ⟨by rw [hW2, hb0]; exact ((Blk.new w _ [.int .i64 k, .bool e, .string t, .slice A n c]).alloc _).alloc _⟩
 have B1 : Aside0 (Blk W2 b1 32 [.int .i64 0, .bool false, .string ⟨#[]⟩, .slice none 0 0]) := ⟨by rw [hW2, hb1]; exact (Blk.new' _ _ [.int .i64 0, .bool false, .string ⟨#[]⟩, .slice none 0 0] (by simp)).alloc _⟩
 have B2 : Aside0 (Blk W2 b2 32 [.int .i64 k, .bool e, .string t, .slice none 0 0]) := ⟨by rw [hW2]; exact Blk.new' _ _ [.int .i64 k, .bool e, .string t, .slice none 0 0] (by rw [hb2]; simp)⟩
 have HB : Aside0 (Below w.heap.size w W2) := ⟨by rw [hW2]; exact below_alloc (below_alloc (below_alloc (Below.refl _ _) _) _) _⟩
 have HZ : Aside0 (w.heap.size ≤ b0 ∧ w.heap.size ≤ b1 ∧ w.heap.size ≤ b2 ∧ b0 ≠ b2 ∧ b1 ≠ b2 ∧ W2.heap.size = b2 + 1 ∧ b0 < b2 ∧ b1 < b2) := ⟨by rw [hW2]; simp; omega⟩
 clear hW2 hb0 hb1 hb2
 go_loopw [4, 5] (fun v4 _ wr => ∃ (j : Nat) (A5 : Option Addr) (c5 : Nat), j ≤ n ∧ v4 = .int .i64 j ∧ Aside0 (Blk wr b0 32 [.int .i64 k, .bool e, .string t, .slice A n c]) ∧ Aside0 (Blk wr b1 32 [.int .i64 0, .bool false, .string ⟨#[]⟩, .slice none 0 0]) ∧ Aside0 (Blk wr b2 32 [.int .i64 k, .bool e, .string t, .slice A5 j c5]) ∧ Aside0 (Own wr w.heap.size (fun k => b2 < k) (.slice A5 j c5) (l.take j)) ∧ Aside0 (Below w.heap.size w wr)) (fun v _ _ => n - (intOf v).toNat)
 case atStart => exact ⟨0, none, 0, Nat.zero_le _, rfl, B0, B1, B2, ⟨by rw [List.take_zero]; exact Own.nil _ _ _⟩, HB⟩
 case round =>
  clear B0 B1 B2 HB
  obtain ⟨j, A5, c5, hj, rfl, B0, B1, B2, HO, HB⟩ := hrel
  obtain ⟨u0, u1, u2, u3⟩ := cells4 B0.out
  obtain ⟨v0, v1, v2, v3⟩ := cells4 B2.out
  by_cases hlt : j < n
  ·have p0 : (0 : Int) ≤ (j : Int) := by omega
   have p1 : (j : Int) < (n : Int) := by omega
   have hll : j < l.length := by rw [← HNL.out]; exact hlt
   obtain ⟨ad, A4, c4, hA, e0, e1, e2, e3, e4, hl4, hC4⟩ := at_T63 HX.out (j : Int) (by omega) (by omega)
   subst hA
   simp only [Int.toNat_natCast] at e0 e1 e2 e3 e4
   have HC4 := Aside0.mk (And.intro hC4 hl4)
   have HTS := Aside0.mk (take_snoc2 l j hll)
   have HMEM : Aside0 (rd_T63 l (j : Int) ∈ l) := ⟨by simp [rd_T63, hll]⟩
   clear hC4 hl4 hll
   generalize rd_T63 l (j : Int) = x at *
   have HE0 := Aside0.mk e0
   replace e1 := pw_cell_below HB.out e1
   replace e2 := pw_cell_below HB.out e2
   replace e3 := pw_cell_below HB.out e3
   replace e4 := pw_cell_below HB.out e4
   clear e0
   go_wp2_with fail
   (with_reducible refine (IH.out x HMEM.out x.f1 x.f2 x.f3 A4 c4 wr (Kd.C_below HC4.out.1 HB.out) HC4.out.2).mono ?_)
   rintro o w5 ⟨v4, rfl, hr4, hb⟩
   obtain ⟨A6, c6, hv4, _⟩ := hr4.slice
   subst hv4
   have HS : Aside0 (b2 < wr.heap.size) := ⟨B2.out.lt⟩
   have HN := Aside0.mk hr4
   replace B0 := Aside0.mk (B0.out.below hb)
   replace B1 := Aside0.mk (B1.out.below hb)
   replace B2 := Aside0.mk (B2.out.below hb)
   replace HO := Aside0.mk (HO.out.bound.newer hb)
   replace HB := Aside0.mk (below_step HB.out hb)
   have HWS := Aside0.mk hb.size
   clear hr4 hb e1 e2 e3 e4 u0 u1 u2 u3 v0 v1 v2 v3
   go_wp2_with fail
   obtain ⟨W6, hW6⟩ : ∃ W6, W6 = w5.alloc (.cells #[.int .i64 x.f1, .bool x.f2, .string x.f3, .slice A6 x.f4.length c6] 32) := ⟨_, rfl⟩
   obtain ⟨b5, hb5⟩ : ∃ b, b = w5.heap.size := ⟨_, rfl⟩
   rw [← hW6, ← hb5]
   have B5 : Aside0 (Blk W6 b5 32 [.int .i64 x.f1, .bool x.f2, .string x.f3, .slice A6 x.f4.length c6]) := ⟨by rw [hW6, hb5]; exact Blk.new w5 _ [.int .i64 x.f1, .bool x.f2, .string x.f3, .slice A6 x.f4.length c6]⟩
   have hb : Below w5.heap.size w5 W6 := by rw [hW6]; exact below_alloc (Below.refl _ _) _
   replace B0 := Aside0.mk (B0.out.below hb)
   replace B1 := Aside0.mk (B1.out.below hb)
   replace B2 := Aside0.mk (B2.out.below hb)
   replace HO := Aside0.mk (HO.out.newer hb)
   replace HN := Aside0.mk (HN.out.bound.newer hb)
   replace HB := Aside0.mk (below_step HB.out hb)
   have HW5 := Aside0.mk (And.intro hb.size hb5)
   clear hW6 hb5 hb
   refine start_ (n := 14) (S := fun w' => w'.cell? ⟨b2, 3, none⟩ = some (.slice A5 j c5) ∧ w'.cell? ⟨b0, 3, none⟩ = some (.slice (some ad) n c) ∧ w'.cell? (ad.add (j * 5)) = some (.string x.f0) ∧ w'.cell? ⟨b5, 0, none⟩ = some (.int .i64 x.f1) ∧ w'.cell? ⟨b5, 1, none⟩ = some (.bool x.f2) ∧ w'.cell? ⟨b5, 2, none⟩ = some (.string x.f3) ∧ w'.cell? ⟨b5, 3, none⟩ = some (.slice A6 x.f4.length c6)) (ds := [13]) #[false, false, false, false, false, false, false, false, false, false, false, false, false, false] (by kernel_rfl) rfl rfl (⟨B2.out.cell 3 _ rfl, B0.out.cell 3 _ rfl, pw_cell_below HB.out HE0.out, cells4 B5.out⟩) (fun hHeld => ?_)
   have hb : Below W6.heap.size W6 W6.drew := below_drew (Below.refl _ _)
   generalize W6.drew = W7 at *
   replace B0 := Aside0.mk (B0.out.below hb)
   replace B1 := Aside0.mk (B1.out.below hb)
   replace B2 := Aside0.mk (B2.out.below hb)
   replace B5 := Aside0.mk (B5.out.below hb)
   replace HO := Aside0.mk (HO.out.newer hb)
   replace HN := Aside0.mk (HN.out.newer hb)
   replace HB := Aside0.mk (below_step HB.out hb)
   have HW6 := Aside0.mk hb.size
   clear hb
   refine pure_ (i := 0) (N := some 27) (v := ?_) (a' := ?_) #[true, false, false, false, false, false, false, false, false, false, false, false, false, false] rfl rfl (by kernel_rfl) (fun _ _ _ h => h) (Or.inl ⟨by rfl, ?_⟩) ?_ ?_
   rotate_left
   ·intro w'
    go_simp
    with_reducible rfl
   rotate_left
   ·simp only [Act.put, List.setIfInBounds_toArray, List.set_cons_zero, List.set_cons_succ, i64_w, i32_w]
    rfl
   refine take_ (i := 1) (N := some 28) (v := ?_) (a' := ?_) #[true, true, false, false, false, false, false, false, false, false, false, false, false, false] rfl rfl (by kernel_rfl) (fun _ _ _ h => h) (Or.inl ⟨by rfl, ?_⟩) hHeld ?_ ?_
   rotate_left
   ·rintro w' ⟨s0, s1, s2, s3, s4, s5, s6⟩
    go_simp
    with_reducible rfl
   rotate_left
   ·simp only [Act.put, List.setIfInBounds_toArray, List.set_cons_zero, List.set_cons_succ, i64_w, i32_w]
    rfl
   refine pure_ (i := 2) (N := some 29) (v := ?_) (a' := ?_) #[true, true, true, false, false, false, false, false, false, false, false, false, false, false] rfl rfl (by kernel_rfl) (fun _ _ _ h => h) (Or.inl ⟨by rfl, ?_⟩) ?_ ?_
   rotate_left
   ·intro w'
    go_simp
    with_reducible rfl
   rotate_left
   ·simp only [Act.put, List.setIfInBounds_toArray, List.set_cons_zero, List.set_cons_succ, i64_w, i32_w]
    rfl
   refine take_ (i := 3) (N := some 30) (v := ?_) (a' := ?_) #[true, true, true, true, false, false, false, false, false, false, false, false, false, false] rfl rfl (by kernel_rfl) (fun _ _ _ h => h) (Or.inl ⟨by rfl, ?_⟩) hHeld ?_ ?_
   rotate_left
   ·rintro w' ⟨s0, s1, s2, s3, s4, s5, s6⟩
    go_simp
    with_reducible rfl
   rotate_left
   ·simp only [Act.put, List.setIfInBounds_toArray, List.set_cons_zero, List.set_cons_succ, i64_w, i32_w]
    rfl
   refine pure_ (i := 4) (N := some 31) (v := ?_) (a' := ?_) #[true, true, true, true, true, false, false, false, false, false, false, false, false, false] rfl rfl (by kernel_rfl) (fun _ _ _ h => h) (Or.inl ⟨by rfl, ?_⟩) ?_ ?_
   rotate_left
   ·intro w'
    go_simp
    with_reducible rfl
   rotate_left
   ·simp only [Act.put, List.setIfInBounds_toArray, List.set_cons_zero, List.set_cons_succ, i64_w, i32_w]
    rfl
   refine pure_ (i := 5) (N := some 32) (v := ?_) (a' := ?_) #[true, true, true, true, true, true, false, false, false, false, false, false, false, false] rfl rfl (by kernel_rfl) (fun _ _ _ h => h) (Or.inl ⟨by rfl, ?_⟩) ?_ ?_
   rotate_left
   ·intro w'
    go_simp
    with_reducible rfl
   rotate_left
   ·simp only [Act.put, List.setIfInBounds_toArray, List.set_cons_zero, List.set_cons_succ, i64_w, i32_w]
    rfl
   refine pure_ (i := 6) (N := some 33) (v := ?_) (a' := ?_) #[true, true, true, true, true, true, true, false, false, false, false, false, false, false] rfl rfl (by kernel_rfl) (fun _ _ _ h => h) (Or.inl ⟨by rfl, ?_⟩) ?_ ?_
   rotate_left
   ·intro w'
    go_simp
    with_reducible rfl
   rotate_left
   ·simp only [Act.put, List.setIfInBounds_toArray, List.set_cons_zero, List.set_cons_succ, i64_w, i32_w]
    rfl
   refine take_ (i := 7) (N := some 34) (v := ?_) (a' := ?_) #[true, true, true, true, true, true, true, true, false, false, false, false, false, false] rfl rfl (by kernel_rfl) (fun _ _ _ h => h) (Or.inl ⟨by rfl, ?_⟩) hHeld ?_ ?_
   rotate_left
   ·rintro w' ⟨s0, s1, s2, s3, s4, s5, s6⟩
    go_simp
    with_reducible rfl
   rotate_left
   ·simp only [Act.put, List.setIfInBounds_toArray, List.set_cons_zero, List.set_cons_succ, i64_w, i32_w]
    rfl
   refine take_ (i := 8) (N := some 35) (v := ?_) (a' := ?_) #[true, true, true, true, true, true, true, true, true, false, false, false, false, false] rfl rfl (by kernel_rfl) (fun _ _ _ h => h) (Or.inl ⟨by rfl, ?_⟩) hHeld ?_ ?_
   rotate_left
   ·rintro w' ⟨s0, s1, s2, s3, s4, s5, s6⟩
    go_simp
    with_reducible rfl
   rotate_left
   ·simp only [Act.put, List.setIfInBounds_toArray, List.set_cons_zero, List.set_cons_succ, i64_w, i32_w]
    rfl
   refine pure_ (i := 9) (N := some 36) (v := ?_) (a' := ?_) #[true, true, true, true, true, true, true, true, true, true, false, false, false, false] rfl rfl (by kernel_rfl) (fun _ _ _ h => h) (Or.inl ⟨by rfl, ?_⟩) ?_ ?_
   rotate_left
   ·intro w'
    go_simp
    with_reducible rfl
   rotate_left
   ·simp only [Act.put, List.setIfInBounds_toArray, List.set_cons_zero, List.set_cons_succ, i64_w, i32_w]
    rfl
   refine one_ (i := 10) (N := some 37) #[true, true, true, true, true, true, true, true, true, true, true, false, false, false] rfl rfl (by kernel_rfl) (by decide) (fun K hK => ?_)
   refine value_ (w1 := W7.alloc (.cells #[.string x.f0, .int .i64 x.f1, .bool x.f2, .string x.f3, .slice A6 x.f4.length c6] 63)) (v := .slice (some ⟨W7.heap.size, 0, none⟩) 1 1) (by rfl) rfl ?_ ?_
   ·go_simp
   have hba : Below W7.heap.size W7 (W7.alloc (.cells #[.string x.f0, .int .i64 x.f1, .bool x.f2, .string x.f3, .slice A6 x.f4.length c6] 63)) := below_alloc (Below.refl _ _) _
   refine hK.out _ _ ⟨(B2.out.below hba).cell 3 _ rfl, (B0.out.below hba).cell 3 _ rfl, pw_cell_below (below_step HB.out hba) HE0.out, cells4 (B5.out.below hba)⟩ (fun _ => ?_)
   clear hK K hba
   refine one_ (i := 11) (N := some 38) #[true, true, true, true, true, true, true, true, true, true, true, true, false, false] rfl rfl (by kernel_rfl) (by decide) (fun K hK => ?_)
   obtain ⟨ts, hts, hP⟩ := HO.out.parts
   have hln := congrArg List.length hts
   rw [List.length_map, List.length_take, Nat.min_eq_left (by rw [← HNL.out]; exact hj)] at hln
   refine step_append_cells (w0 := w) w.heap.size (by rfl) (.tmp 28) (.tmp 37) 30 63 (.agg #[.string ⟨#[]⟩, .int .i64 0, .bool false, .string ⟨#[]⟩, .slice none 0 0]) 5 72 rfl Tryd.underlying30 (by kernel_rfl) rfl (by decide) (by decide)
    (.slice A5 j c5) ts.length (fl ts) (ecells x (.slice A6 x.f4.length c6)) (by rfl) (by rfl) rfl (ecells_one rfl) hP.row HB.out HB.out.size (by have := H72.out; omega) ?_
   intro v1 wn hrow hb1 hg hat
   obtain ⟨A8, c8, hv8⟩ : ∃ A8 c8, v1 = .slice A8 (j + 1) c8 := by
    rcases hrow.2 with ⟨h1, _⟩ | ⟨g2, cap2, cur, hv, _⟩
    ·omega
    ·exact ⟨_, _, by rw [hv, ← hln]⟩
   subst hv8
   have hz1 := HS.out
   have hz2 := HWS.out
   have hz3 := HW5.out
   have hz4 := HW6.out
   have hvlt : ∀ k, (Value.slice A5 j c5).ownBlock = some k → b2 < k ∧ k < wr.heap.size := fun k hk => ⟨(hP.own k hk).1.1, (hP.own k hk).1.2.2.1⟩
   have hz5 := HZ.out
   have hkeep : ∀ {b : Nat} {vs : List Value}, Blk W7 b 32 vs → (b ≤ b2 ∨ b = b5) → Blk wn b 32 vs := fun {b vs} h hb => (hg.block b h.lt (fun e => by have := hvlt b e.symm; omega)).trans h
   have HO4 : Aside0 (Own wn w.heap.size (fun k => b2 < k) (.slice A8 (j + 1) c8) (l.take (j + 1))) := ⟨by
    rw [HTS.out, hts]
    refine hP.snoc (fun k hk => by have := hk.1.2.2.1; omega) ⟨x, .slice A6 x.f4.length c6, OwnB w5 wr.heap.size (fun k => wr.heap.size ≤ k)⟩ ((HN.out.lower (by omega)).grown hg (fun k hk e => ?_)) (fun k hk => ⟨fun h => ?_, ?_, fun e => ?_⟩) hrow hg hat (fun k hk => hk.1.1) (fun k hk => by omega)
    ·have := hvlt k e.symm; have := hk.2.1; omega
    ·have := h.1.2.2.1; have := hk.2.1; omega
    ·have := hk.2.1; show b2 < k; omega
    ·rcases hat with h1 | ⟨b, h1, hb⟩
     ·rw [h1] at e; have := hvlt k e.symm; have := hk.2.1; omega
     ·rw [h1] at e; injection e with e; have := hk.2.2.1; omega⟩
   replace B0 := Aside0.mk (hkeep B0.out (.inl (by omega)))
   replace B1 := Aside0.mk (hkeep B1.out (.inl (by omega)))
   replace B2 := Aside0.mk (hkeep B2.out (.inl (Nat.le_refl _)))
   replace B5 := Aside0.mk (hkeep B5.out (.inr rfl))
   replace HB := Aside0.mk hb1
   have y03 := B2.out.frozen 3
   have x03 := B2.out.cell 3 _ rfl
   clear hrow hb1 hg hat hkeep hvlt hts hln hP HO HN hz1 hz2 hz3 hz4 hz5 ts
   refine hK.out _ _ ⟨x03, B0.out.cell 3 _ rfl, pw_cell_below HB.out HE0.out, cells4 B5.out⟩ (fun _ => ?_)
   clear hK K
   refine pure_ (i := 12) (N := some 39) (v := ?_) (a' := ?_) #[true, true, true, true, true, true, true, true, true, true, true, true, true, false] rfl rfl (by kernel_rfl) (fun _ _ _ h => h) (Or.inl ⟨by rfl, ?_⟩) ?_ ?_
   rotate_left
   ·intro w'
    go_simp
    with_reducible rfl
   rotate_left
   ·simp only [Act.put, List.setIfInBounds_toArray, List.set_cons_zero, List.set_cons_succ, i64_w, i32_w]
    rfl
   refine last_ (i := 13) (N := none) #[true, true, true, true, true, true, true, true, true, true, true, true, true, true] rfl rfl (by kernel_rfl) (by decide) (fun K hK => ?_)
   refine skip_ (w1 := wn.setCell ⟨b2, 3, none⟩ (.slice A8 (j + 1) c8)) (by rfl) rfl ?_ ?_
   ·go_simp
   refine hK.out _ _ ?_
   clear hK K
   refine done_ (by kernel_rfl) ?_
   obtain ⟨W9, hW9⟩ : ∃ W9, W9 = wn.setCell ⟨b2, 3, none⟩ (.slice A8 (j + 1) c8) := ⟨_, rfl⟩
   have hz5 := HZ.out
   have B29 : Aside0 (Blk W9 b2 32 [.int .i64 k, .bool e, .string t, .slice A8 (j + 1) c8]) := ⟨by rw [hW9]; exact blk_put (cs := #[.int .i64 k, .bool e, .string t, .slice A5 j c5]) B2.out 3 _ rfl⟩
   have B09 : Aside0 (Blk W9 b0 32 [.int .i64 k, .bool e, .string t, .slice (some ad) n c]) := ⟨by rw [hW9]; exact (Below.heap_setCell _ _ _ _ (by show b0 ≠ b2; omega)).trans B0.out⟩
   have B19 : Aside0 (Blk W9 b1 32 [.int .i64 0, .bool false, .string ⟨#[]⟩, .slice none 0 0]) := ⟨by rw [hW9]; exact (Below.heap_setCell _ _ _ _ (by show b1 ≠ b2; omega)).trans B1.out⟩
   have HO9 : Aside0 (Own W9 w.heap.size (fun k => b2 < k) (.slice A8 (j + 1) c8) (l.take (j + 1))) := ⟨by rw [hW9]; exact HO4.out.set B2.out (by decide) 3 _⟩
   have HB9 : Aside0 (Below w.heap.size w W9) := ⟨by rw [hW9]; exact HB.out.setCell (p := ⟨b2, 3, none⟩) (by show w.heap.size ≤ b2; omega) _⟩
   rw [← hW9]
   clear hW9 hz5 B0 B1 B2 B5 HO4 HB x03 y03 hHeld
   go_wp2_with fail
   go_roundw
   case rel => exact ⟨j + 1, A8, c8, by omega, by go_num, B09, B19, B29, HO9, HB9⟩
   case measure => simp [intOf]; omega
  ·obtain rfl : j = n := by omega
   obtain ⟨y0, y1, y2, y3⟩ := cells4 B1.out
   have z0 := B1.out.frozen 0
   have z1 := B1.out.frozen 1
   have z2 := B1.out.frozen 2
   have z3 := B1.out.frozen 3
   have hl : l.take j = l := by rw [HNL.out, List.take_length]
   have HO4 : Aside0 (Own wr w.heap.size (fun k => b2 < k) (.slice A5 j c5) l) := ⟨by have := HO.out; rw [hl] at this; exact this⟩
   clear HO hl
   go_wp2_with fail
   have HF := below_put4 (b := b1) (c0 := .int .i64 k) (c1 := .bool e) (c2 := .string t) (c3 := .slice A5 j c5) HB.out HZ.out.2.1
   have HG := put4_blk (c0 := .int .i64 k) (c1 := .bool e) (c2 := .string t) (c3 := .slice A5 j c5) B1.out
   have HH := put4_own (c0 := .int .i64 k) (c1 := .bool e) (c2 := .string t) (c3 := .slice A5 j c5) HO4.out B1.out
   obtain ⟨g0, g1, g2, g3⟩ := cells4 HG
   exact bodyPost_ret (v := .agg #[.int .i64 k, .bool e, .string t, .slice A5 j c5]) (by simp [results, Tryd.results23, go_sem, g0, g1, g2, g3]) rfl ⟨_, rfl, HH.mono (fun k hk => by have := HZ.out; show w.heap.size ≤ k; omega), HF⟩
end Go.Proofs.YtnemeeidomceiaaDoor
end
section
namespace Go.Proofs.YtnemeeidomceiaaDoor
open Go.RowKit Go.Proofs.YtnemeeidomceiaaDoorW.PrintWords Go.Proofs.YtnemeeidomceiaaDoorW.PrintLast Go.Proofs.YtnemeeidomceiaaDoorW.PrintMore
set_option linter.unusedVariables false
set_option linter.unusedSimpArgs false
/-- Rows of no more kids than a tree of an archive may have. -/
inductive Small : List Ent → Prop
 | mk {l : List Ent} (n : l.length ≤ 1048576) (k : ∀ x : Ent, x ∈ l → Small x.f4) : Small l
theorem Small.at_ {l : List Ent} (h : Small l) : l.length ≤ 1048576 ∧ ∀ x : Ent, x ∈ l → Small x.f4 := by
 cases h with
 | mk n k => exact ⟨n, k⟩
theorem set5 (P Q : List Value) (s0 s1 s2 s3 s4 z a b c d : Value) : (((((P ++ [s0, s1, s2, s3, s4] ++ Q).set P.length z).set (P.length + 1) a).set (P.length + 2) b).set (P.length + 3) c).set (P.length + 4) d = P ++ [z, a, b, c, d] ++ Q := by
 simp [List.set_append]
theorem fl_store5 (ts : List Kid) (i : Nat) (t : Kid) (ht : ts[i]? = some t) (x : Ent) (u : Value) (f : Nat → Prop) :
  (((((fl ts).set (i * 5) (.string x.f0)).set (i * 5 + 1) (.int .i64 x.f1)).set (i * 5 + 2) (.bool x.f2)).set (i * 5 + 3) (.string x.f3)).set (i * 5 + 4) u = fl (ts.set i ⟨x, u, f⟩) := by
 obtain ⟨hi, hte⟩ := List.getElem?_eq_some_iff.1 ht
 have hP : (fl (ts.take i)).length = i * 5 := by rw [fl_len, List.length_take, Nat.min_eq_left (Nat.le_of_lt hi)]
 have e1 : fl ts = fl (ts.take i) ++ ecells t.x t.u ++ fl (ts.drop (i + 1)) := by
  conv => lhs; rw [← List.take_append_drop i ts, fl_append, List.drop_eq_getElem_cons hi, hte]
  rw [fl, List.append_assoc]
 rw [fl_set ts i _ hi, fl_take ts i (Nat.le_of_lt hi), fl_drop ts (i + 1) hi, e1, ← hP]
 exact set5 _ _ _ _ _ _ _ _ _ _ _ _
/-- Five cells of a row's kid, stored. -/
def put5 (w : World) (g i : Nat) (x : Ent) (u : Value) : World := ((((w.setCell ⟨g, i * 5, none⟩ (.string x.f0)).setCell ⟨g, i * 5 + 1, none⟩ (.int .i64 x.f1)).setCell ⟨g, i * 5 + 2, none⟩ (.bool x.f2)).setCell ⟨g, i * 5 + 3, none⟩ (.string x.f3)).setCell ⟨g, i * 5 + 4, none⟩ u
theorem put5_upd (w : World) (g i : Nat) (x : Ent) (u : Value) : Upd (fun k => k = g) w (put5 w g i x u) :=
 ((((Upd.setCell (S := fun k => k = g) (p := ⟨g, i * 5, none⟩) (.inl rfl) _).trans (Upd.setCell (S := fun k => k = g) (p := ⟨g, i * 5 + 1, none⟩) (.inl rfl) _) (fun k hk => .inl hk)).trans (Upd.setCell (S := fun k => k = g) (p := ⟨g, i * 5 + 2, none⟩) (.inl rfl) _) (fun k hk => .inl hk)).trans (Upd.setCell (S := fun k => k = g) (p := ⟨g, i * 5 + 3, none⟩) (.inl rfl) _) (fun k hk => .inl hk)).trans (Upd.setCell (S := fun k => k = g) (p := ⟨g, i * 5 + 4, none⟩) (.inl rfl) _) (fun k hk => .inl hk)
/-- A kid's subtree has turned, then the kid was written over by one without kids. -/
theorem OwnP.over {w w2 : World} {base : Nat} {ok okn : Nat → Prop} {g n c i : Nat} {ts : List Kid} {td : Kid} (h : OwnP w base ok (.slice (some ⟨g, 0, none⟩) n c) ts) (hlt : ∀ k, ok k → k < w.heap.size) (htd : ts[i]? = some td) (hU : Upd td.f w w2) (x : Ent) (hx : x.f4 = []) (hn : n = ts.length) (hok : ∀ k, ok k → okn k) (hfresh : ∀ k, w.heap.size ≤ k → okn k) :
  Own (put5 w2 g i x (.slice none 0 0)) base okn (.slice (some ⟨g, 0, none⟩) n c) ((ts.map (·.x)).set i x) := by
 have hi := (List.getElem?_eq_some_iff.1 htd).1
 have hgn : ¬ td.f g := fun hf => (h.inn td (List.mem_of_getElem? htd) g hf).2 rfl
 have hrow2 : w2.ownsRow base eE 5 (.slice (some ⟨g, 0, none⟩) n c) ts.length (fl ts) := own_move h.row (fun k hk => by
  have : g = k := by simpa [Value.ownBlock] using hk
  rw [← this]
  exact hU.block g (hlt g (h.own g rfl)) hgn)
 have hrow3 : (put5 w2 g i x (.slice none 0 0)).ownsRow base eE 5 (.slice (some ⟨g, 0, none⟩) n c) ts.length (fl (ts.set i ⟨x, .slice none 0 0, fun _ => False⟩)) := by
  rw [← fl_store5 ts i td htd]
  subst hn
  exact own_setAt (own_setAt (own_setAt (own_setAt (own_setAt hrow2 _ (by omega) _) _ (by omega) _) _ (by omega) _) _ (by omega) _) _ (by omega) _
 have hU23 := put5_upd w2 g i x (.slice none 0 0)
 have h1 := h.put (w2 := w2) (okn := okn) hlt i td ⟨x, .slice none 0 0, fun _ => False⟩ htd hU (by show Own w2 base _ _ x.f4; rw [hx]; exact Own.nil _ _ _) (fun k hk => hk.elim) hrow3 ⟨hU23.os, hU23.tape, hU23.output, hU23.size, fun k hk hn => hU23.block k hk (fun e => hn (by rw [e]; rfl))⟩ hok hfresh
 rw [List.map_set] at h1
 exact h1
/-- Kid i, with the row's block. -/
theorem OwnP.at_ {w : World} {base : Nat} {ok : Nat → Prop} {A : Option Addr} {n c i : Nat} {ts : List Kid} {td : Kid} (h : OwnP w base ok (.slice A n c) ts) (htd : ts[i]? = some td) :
  ∃ g A6 c6 cur, A = some ⟨g, 0, none⟩ ∧ td.u = .slice A6 td.x.f4.length c6 ∧ td.x.f4.length ≤ c6 ∧ w.heap[g]? = some (.cells cur eE (0, 0)) ∧ ok g ∧ ∀ j, j < 5 → cur[i * 5 + j]? = (ecells td.x (.slice A6 td.x.f4.length c6))[j]? := by
 have hi := (List.getElem?_eq_some_iff.1 htd).1
 have hrow := h.row
 rcases hrow.2 with ⟨_, h0⟩ | ⟨g, cap, cur, hv, hbg, hg, _⟩
 ·omega
 injection hv with hv1 hv2 hv3
 subst hv1
 obtain ⟨A6, c6, hu6, hl6⟩ := (h.sub td (List.mem_of_getElem? htd)).slice
 refine ⟨g, A6, c6, cur, rfl, hu6, hl6, hg, h.own g rfl, fun j hj => ?_⟩
 have h1 := fl_at ts i td htd j hj
 obtain ⟨u, hu⟩ : ∃ u, (ecells td.x td.u)[j]? = some u := ⟨_, List.getElem?_eq_getElem (by rw [ecells_len]; exact hj)⟩
 have h2 := hrow.cells (g := g) rfl (i * 5 + j) u (by rw [h1, hu])
 rw [add_plain, cell_of_row w g (i * 5 + j) cur _ _ hg] at h2
 rw [h2, ← hu6, hu]
end Go.Proofs.YtnemeeidomceiaaDoor
end
section
namespace Go.Proofs.YtnemeeidomceiaaDoor
open Go.RowKit Go.Proofs.YtnemeeidomceiaaDoorW.PrintWords Go.Proofs.YtnemeeidomceiaaDoorW.PrintLast Go.Proofs.YtnemeeidomceiaaDoorW.PrintMore
set_option linter.unusedVariables false
set_option linter.unusedSimpArgs false
/-- Where the last kids' nodes lie, level by level. -/
inductive SpP (W : World) : Value → List Ent → List Addr → Prop
 | nil (v : Value) (l : List Ent) : SpP W v l []
 | cons {g c : Nat} {l : List Ent} {x : Ent} {u : Value} {ps : List Addr} (hl : l.getLast? = some x) (hu : W.cell? ⟨g, (l.length - 1) * 5 + 4, none⟩ = some u) (h : SpP W u x.f4 ps) : SpP W (.slice (some ⟨g, 0, none⟩) l.length c) l (⟨g, (l.length - 1) * 5 + 1, none⟩ :: ps)
theorem SpP.of {W W2 : World} (hU : ∀ g c j, W.cell? ⟨g, j, none⟩ = some c → W2.cell? ⟨g, j, none⟩ = some c) : ∀ {v : Value} {l : List Ent} {ps : List Addr}, SpP W v l ps → SpP W2 v l ps := by
 intro v l ps h
 induction h with
 | nil v l => exact .nil v l
 | cons hl hu _ ih => exact .cons hl (hU _ _ _ hu) ih
end Go.Proofs.YtnemeeidomceiaaDoor
end
section
namespace Go.Proofs.YtnemeeidomceiaaDoor
open Go.RowKit Go.Proofs.YtnemeeidomceiaaDoorW.PrintWords
set_option linter.unusedVariables false
/-- The path of names. -/
def joinP : Nat → ByteArray → List ByteArray → ByteArray
 | 0, p, _ => p
 | _ + 1, p, [] => p
 | f + 1, p, s :: ns => joinP f (belowP p s (32 - (f : Int))) ns
theorem joinP_nil (f : Nat) (p : ByteArray) : joinP f p [] = p := by cases f <;> rfl
theorem joinP_snoc : ∀ (k g : Nat) (p : ByteArray) (ns : List ByteArray) (s : ByteArray), ns.length = k → joinP (k + g + 1) p (ns ++ [s]) = belowP (joinP (k + g + 1) p ns) s (32 - (g : Int))
 | 0, g, p, ns, s, h => by
  rw [List.length_eq_zero_iff] at h
  subst h
  rw [Nat.zero_add, List.nil_append, joinP_nil]
  show joinP g _ [] = _
  rw [joinP_nil]
 | k + 1, g, p, [], s, h => by cases h
 | k + 1, g, p, q :: ns, s, h => by
  rw [show k + 1 + g + 1 = (k + g + 1) + 1 from by omega]
  show joinP (k + g + 1) _ (ns ++ [s]) = belowP (joinP (k + g + 1) _ ns) s _
  exact joinP_snoc k g _ ns s (by simpa using h)
def slash1 (s : ByteArray) : List UInt8 := 47 :: s.data.toList
theorem joinP_data : ∀ (f : Nat) (p : ByteArray) (ns : List ByteArray), f ≤ 31 → ns.length ≤ f → (joinP f p ns).data.toList = p.data.toList ++ ns.flatMap slash1
 | 0, p, ns, _, h => by
  have : ns = [] := List.length_eq_zero_iff.1 (by omega)
  subst this
  simp [joinP]
 | f + 1, p, [], _, _ => by simp [joinP]
 | f + 1, p, s :: ns, h1, h2 => by
  show (joinP f (belowP p s (32 - (f : Int))) ns).data.toList = _
  rw [joinP_data f _ ns (by omega) (by simpa using h2)]
  unfold belowP
  rw [if_neg (by omega)]
  simp [slash1, ByteArray.data_append]
theorem slash_flip : ∀ (s : ByteArray) (ns : List ByteArray), s.data.toList ++ ns.flatMap slash1 ++ [47] = (s :: ns).flatMap slashed
 | s, [] => by simp [slashed]
 | s, q :: ns => by
  have := slash_flip q ns
  rw [List.flatMap_cons (x := s), ← this]
  simp [slashed, slash1]
theorem ba_ext {a b : ByteArray} (h : a.data.toList = b.data.toList) : a = b := by
 cases a; cases b
 simp only [ByteArray.mk.injEq]
 exact Array.toList_inj.1 h
theorem joinP_flat {s : ByteArray} {ns : List ByteArray} (h : ns.length ≤ 30) : (joinP 32 ⟨#[]⟩ (s :: ns)).data.toList ++ [47] = (s :: ns).flatMap slashed := by
 have e : joinP 32 ⟨#[]⟩ (s :: ns) = joinP 31 s ns := by
  show joinP 31 (belowP _ s (32 - ((31 : Nat) : Int))) ns = _
  unfold belowP
  rw [if_pos (by decide)]
 rw [e, joinP_data 31 s ns (by omega) (by omega), slash_flip]
/-- Names have no slashes; so they are the pieces of what they are joined to. -/
theorem flat_inj : ∀ (a b : List ByteArray), (∀ x, x ∈ a → (47 : UInt8) ∉ x.data.toList) → (∀ x, x ∈ b → (47 : UInt8) ∉ x.data.toList) → a.flatMap slashed = b.flatMap slashed → a = b
 | [], [], _, _, _ => rfl
 | [], y :: b, _, _, h => by simp [slashed] at h
 | x :: a, [], _, _, h => by simp [slashed] at h
 | x :: a, y :: b, ha, hb, h => by
  rw [List.flatMap_cons, List.flatMap_cons] at h
  unfold slashed at h
  rw [List.append_assoc, List.append_assoc, List.singleton_append, List.singleton_append] at h
  have key : ∀ (u v s t : List UInt8), (47 : UInt8) ∉ u → (47 : UInt8) ∉ v → u ++ 47 :: s = v ++ 47 :: t → u = v ∧ s = t := by
   intro u
   induction u with
   | nil =>
    intro v s t _ hv h
    cases v with
    | nil => simp at h; exact ⟨rfl, h⟩
    | cons c v => simp at h; exact absurd (by rw [← h.1]; simp) hv
   | cons c u ih =>
    intro v s t hu hv h
    cases v with
    | nil => simp at h; exact absurd (by rw [h.1]; simp) hu
    | cons d v =>
     simp at h
     obtain ⟨r1, r2⟩ := ih v s t (fun hm => hu (List.mem_cons_of_mem _ hm)) (fun hm => hv (List.mem_cons_of_mem _ hm)) h.2
     exact ⟨by rw [h.1, r1], r2⟩
  obtain ⟨h1, h2⟩ := key _ _ _ _ (ha x List.mem_cons_self) (hb y List.mem_cons_self) h
  rw [ba_ext h1, flat_inj a b (fun z hz => ha z (List.mem_cons_of_mem _ hz)) (fun z hz => hb z (List.mem_cons_of_mem _ hz)) h2]
theorem indexAny_mem (chars : List UInt8) (x : UInt8) (hx : chars.contains x = true) : ∀ l : List UInt8, x ∈ l → 0 ≤ Lib.indexAny l chars
 | [], h => by cases h
 | b :: l, h => by
  unfold Lib.indexAny
  split
  ·exact Int.le_refl _
  ·rename_i hb
   rcases List.mem_cons.1 h with rfl | h
   ·exact absurd hx hb
   ·have ih := indexAny_mem chars x hx l h
    rw [if_neg (by simp; omega)]
    omega
theorem name_plain {s : ByteArray} (h : nameE s = 0) : (47 : UInt8) ∉ s.data.toList := by
 intro hm
 unfold nameE at h
 split at h
 ·cases h
 ·split at h
  ·cases h
  ·split at h
   ·cases h
   ·rename_i h3
    refine h3 ?_
    unfold Lib.containsAny
    exact decide_eq_true (indexAny_mem _ 47 (by rw [sep_mem]; rfl) _ hm)
theorem pieces_plain (s : ByteArray) : ∀ (m frm i : Nat), i + m = s.size → frm ≤ i → (∀ t : Nat, frm ≤ t → t < i → bt s (t : Int) ≠ 47) → ∀ x, x ∈ pieces s m frm i → (47 : UInt8) ∉ x.data.toList := by
 have hex : ∀ frm i : Nat, i ≤ s.size → frm ≤ i → (∀ t : Nat, frm ≤ t → t < i → bt s (t : Int) ≠ 47) → (47 : UInt8) ∉ (s.extract frm i).data.toList := by
  intro frm i hi hf hno hm
  rw [ex_data] at hm
  obtain ⟨j, hj, he⟩ := List.mem_iff_getElem.1 hm
  rw [List.length_take, List.length_drop, Array.length_toList] at hj
  rw [List.getElem_take, List.getElem_drop] at he
  have h1 := hno (frm + j) (by omega) (by omega)
  have hlt : frm + j < s.size := by omega
  exact h1 ((bt_toList s (frm + j) hlt 47).1 (by rw [List.getElem?_eq_getElem (by rw [Array.length_toList]; exact hlt), he]))
 intro m
 induction m with
 | zero =>
  intro frm i h hf hno x hx
  rw [pieces, List.mem_singleton] at hx
  subst hx
  exact hex frm i (by omega) hf hno
 | succ m ih =>
  intro frm i h hf hno x hx
  rw [pieces] at hx
  by_cases hb : bt s (i : Int) = 47
  ·rw [if_neg (fun e => e hb)] at hx
   rcases List.mem_cons.1 hx with rfl | hx
   ·exact hex frm i (by omega) hf hno
   ·exact ih (i + 1) (i + 1) (by omega) (Nat.le_refl _) (fun t h1 h2 => by omega) x hx
  ·rw [if_pos hb] at hx
   exact ih frm (i + 1) (by omega) (by omega) (fun t h1 h2 => by
    by_cases e : t = i
    ·subst e; exact hb
    ·exact hno t h1 (by omega)) x hx
theorem goP_well : ∀ (l names : List ByteArray) (frm : Nat), (∀ x, x ∈ l → nameE x = 0) → names.length + l.length ≤ 31 → goP l names frm = (names ++ l, 0, 0)
 | [], names, frm, _, _ => by rw [goP, List.append_nil]
 | x :: l, names, frm, h, hl => by
  rw [List.length_cons] at hl
  rw [goP, if_neg (by omega), if_neg (fun e => e (h x List.mem_cons_self)), goP_well l _ _ (fun y hy => h y (List.mem_cons_of_mem _ hy)) (by rw [List.length_append, List.length_singleton]; omega)]
  simp
theorem joined_split {ns : List ByteArray} (h : ∀ x, x ∈ ns → nameE x = 0) (hl : ns.length ≤ 31) : splitP (joinP 32 ⟨#[]⟩ ns) = (ns, 0, 0) := by
 cases ns with
 | nil => rw [joinP_nil]; exact split_nil (by rw [Lib.toList_data])
 | cons s ns =>
  have hj := joinP_flat (s := s) (ns := ns) (by simpa using hl)
  obtain ⟨p, hp⟩ : ∃ p, p = joinP 32 ⟨#[]⟩ (s :: ns) := ⟨_, rfl⟩
  rw [← hp] at hj ⊢
  have h0 : p.toList ≠ [] := by
   intro e
   rw [Lib.toList_data] at e
   rw [e, List.flatMap_cons] at hj
   unfold slashed at hj
   have hsz : s.data.toList = [] := by
    cases hs : s.data.toList with
    | nil => rfl
    | cons c u => rw [hs] at hj; simp at hj
   have hn := h s List.mem_cons_self
   unfold nameE at hn
   rw [if_pos (by show s.data.size = 0; rw [← Array.length_toList, hsz]; rfl)] at hn
   cases hn
  have h1 := pieces_join p p.size 0 0 (by omega) (Nat.le_refl _)
  rw [List.drop_zero, hj] at h1
  have h2 := flat_inj _ _ (pieces_plain p p.size 0 0 (by omega) (Nat.le_refl _) (fun t h1 h2 => by omega)) (fun x hx => name_plain (h x hx)) h1
  rw [splitP_pieces p h0]
  unfold pcs
  rw [h2, goP_well (s :: ns) [] 0 h (by simpa using hl), List.nil_append]
end Go.Proofs.YtnemeeidomceiaaDoor
end
section
namespace Go.Proofs.YtnemeeidomceiaaDoor
open Go.RowKit Go.Proofs.YtnemeeidomceiaaDoorW.PrintWords
set_option linter.unusedVariables false
end Go.Proofs.YtnemeeidomceiaaDoor
end
section
namespace Go.Proofs.YtnemeeidomceiaaDoor
open Go.RowKit Go.Proofs.YtnemeeidomceiaaDoorW.PrintWords
set_option linter.unusedVariables false
end Go.Proofs.YtnemeeidomceiaaDoor
end
section
namespace Go.Proofs.YtnemeeidomceiaaDoor.PGTreeGets
open Go.RowKit Go.Proofs.YtnemeeidomceiaaDoorW.PrintWords Go.Proofs.YtnemeeidomceiaaDoor
set_option linter.unusedSimpArgs false
set_option linter.unusedVariables false
theorem up_le {α : Type} {g : Nat → Option α} (h : ∀ k, LeO (g k) (g (k + 1))) {r : α} {a b : Nat} (ha : g a = some r) (hab : a ≤ b) : g b = some r := by
 induction hab with
 | refl => exact ha
 | step _ ih => exact h _ _ ih
theorem w64n {i : Int} (h0 : -9223372036854775808 ≤ i) (h1 : i < 9223372036854775808) : wrap64 i = i := by unfold wrap64; omega
theorem refSplit_loop (s : ByteArray) (hs : s.size ≤ 4611686018427387904) : ∀ (m i : Nat), i + m = s.size → ∀ (names : List ByteArray) (frm : Nat), frm ≤ i → names.length ≤ 31 →
  depotref05_Split.l0 (2 * m + 4) s names (frm : Int) (i : Int) = some (splitG s m names frm i)
 | 0, i, h, names, frm, hf, hn => by
  have hw : wrap64 ((i : Int) + 1) = (i : Int) + 1 := w64n (by omega) (by omega)
  have hR : splitG s 0 names frm i = (pieceE s names frm i).getD (names ++ [s.extract frm i], 0, 0) := rfl
  generalize splitG s 0 names frm i = R at hR ⊢
  rw [depotref05_Split.l0, if_pos (by omega), if_neg (by omega), depotref05_Split.j1, if_neg (by decide)]
  unfold pieceE at hR
  by_cases h31 : names.length = 31
  ·rw [if_pos h31] at hR
   rw [if_pos (by omega), hR]; rfl
  ·rw [if_neg h31] at hR
   rw [if_neg (by omega), if_pos (by omega), if_pos (by omega), if_pos (by omega)]
   simp only [Int.toNat_natCast, depotref05_Check.f, Option.bind_some]
   by_cases hz : nameE (s.extract frm i) = 0
   ·rw [if_neg (fun e => e hz)] at hR
    rw [if_pos hz, if_pos (by omega), hw, depotref05_Split.l0, if_neg (by omega), hR]; rfl
   ·rw [if_pos hz] at hR
    rw [if_neg hz, hR]; rfl
 | m + 1, i, h, names, frm, hf, hn => by
  have hw : wrap64 ((i : Int) + 1) = ((i + 1 : Nat) : Int) := by rw [w64n (by omega) (by omega)]; omega
  have hR : splitG s (m + 1) names frm i = if bt s (i : Int) ≠ 47 then splitG s m names frm (i + 1) else (pieceE s names frm i).getD (splitG s m (names ++ [s.extract frm i]) (i + 1) (i + 1)) := rfl
  generalize splitG s (m + 1) names frm i = R at hR ⊢
  rw [show 2 * (m + 1) + 4 = (2 * m + 4) + 1 + 1 from by omega, depotref05_Split.l0, if_pos (by omega), if_pos (by omega), if_pos (by omega), depotref05_Split.j1]
  by_cases hb : bt s (i : Int) = 47
  ·rw [if_neg (fun e => e hb)] at hR
   have hb2 : ¬ ((bt s (i : Int) != 47) = true) := by simp [hb]
   rw [if_neg hb2]
   unfold pieceE at hR
   by_cases h31 : names.length = 31
   ·rw [if_pos h31] at hR
    rw [if_pos (by omega), hR]; rfl
   ·rw [if_neg h31] at hR
    rw [if_neg (by omega), if_pos (by omega), if_pos (by omega), if_pos (by omega)]
    simp only [Int.toNat_natCast, depotref05_Check.f, Option.bind_some]
    by_cases hz : nameE (s.extract frm i) = 0
    ·rw [if_neg (fun e => e hz)] at hR
     rw [if_pos hz, if_pos (by omega), hw, hR]
     exact refSplit_loop s hs m (i + 1) (by omega) (names ++ [s.extract frm i]) (i + 1) (Nat.le_refl _) (by rw [List.length_append, List.length_singleton]; omega)
    ·rw [if_pos hz] at hR
     rw [if_neg hz, hR]; rfl
  ·rw [if_pos hb] at hR
   have hb2 : (bt s (i : Int) != 47) = true := by simp [hb]
   rw [if_pos hb2, hw, hR]
   exact refSplit_loop s hs m (i + 1) (by omega) names frm (by omega) hn
theorem refSplit (s : ByteArray) (hs : s.size ≤ 4611686018427387904) : depotref05_Split.f (2 * s.size + 4) s = some (splitP s) := by
 unfold depotref05_Split.f splitP
 by_cases h : s.toList = []
 ·rw [if_pos h, if_pos h]
 ·rw [if_neg h, if_neg h]
  exact refSplit_loop s hs s.size 0 (by omega) [] 0 (Nat.le_refl _) (Nat.zero_le _)
theorem split_k (s : ByteArray) (hs : s.size ≤ 1048576) {k : Nat} (hk : 8000000 ≤ k) : depotref05_Split.f k s = some (splitP s) :=
 up_le (fun k => depotref05_Split.mono s k) (refSplit s (by omega)) (by omega)
theorem text_eqs {a b : ByteArray} (h : a.toList = b.toList) : a = b := by
 rw [Lib.toList_data, Lib.toList_data] at h
 cases a; cases b
 simp only at h
 congr
 exact Array.ext' h
theorem rdOf_at {xs : List ByteArray} {i : Nat} (h : i < xs.length) : rdOf ByteArray.empty xs (i : Int) = xs[i] := by simp [rdOf, h]
theorem begins_loop (a b : List ByteArray) (hl : b.length ≤ a.length) (hb : b.length ≤ 1000) : ∀ (d i k : Nat), b.length - i = d → i ≤ b.length → d < k → a.take i = b.take i → depotref06_begins.l0 k a b (i : Int) = some (decide (a.take b.length = b))
 | 0, i, k, hd, hi, hk, ht => by
  obtain ⟨k, rfl⟩ : ∃ q, k = q + 1 := ⟨k - 1, by omega⟩
  obtain rfl : i = b.length := by omega
  rw [depotref06_begins.l0, if_neg (by omega)]
  rw [List.take_of_length_le (Nat.le_refl b.length)] at ht
  rw [decide_eq_true ht]
 | d + 1, i, k, hd, hi, hk, ht => by
  obtain ⟨k, rfl⟩ : ∃ q, k = q + 1 := ⟨k - 1, by omega⟩
  have hi1 : i < b.length := by omega
  have hi2 : i < a.length := by omega
  rw [depotref06_begins.l0, if_pos (by omega), if_pos (by omega), if_pos (by omega), rdOf_at hi1, rdOf_at hi2]
  by_cases he : a[i].toList = b[i].toList
  ·rw [if_pos he, w64n (by omega) (by omega), show (i : Int) + 1 = ((i + 1 : Nat) : Int) from by omega]
   refine begins_loop a b hl hb d (i + 1) k (by omega) (by omega) (by omega) ?_
   rw [List.take_succ_eq_append_getElem hi1, List.take_succ_eq_append_getElem hi2, ht, text_eqs he]
  ·rw [if_neg he]
   rw [decide_eq_false (fun e => he ?_)]
   have : a[i] = b[i] := by
    have h1 : (a.take b.length)[i]? = b[i]? := by rw [e]
    rw [List.getElem?_take, if_pos hi1, List.getElem?_eq_getElem hi2, List.getElem?_eq_getElem hi1] at h1
    injection h1
   rw [this]
structure RowsIn (us : List RowT) : Prop where
 len : us.length ≤ 1048576
 txt : ∀ r, r ∈ us → r.1.size ≤ 1048576 ∧ r.2.2.2.size ≤ 140737488351232
end Go.Proofs.YtnemeeidomceiaaDoor.PGTreeGets
end
section
namespace Go.Proofs.YtnemeeidomceiaaDoor
open Go.RowKit Go.Proofs.YtnemeeidomceiaaDoorW.PrintWords
set_option linter.unusedVariables false
set_option linter.unusedSimpArgs false
abbrev NRow := List ByteArray × Int × Bool × ByteArray
/-- The rows with their names. -/
def nrows : Nat → List ByteArray → Ent → List NRow
 | 0, _, _ => []
 | g + 1, pre, x => (pre, x.f1, x.f2, x.f3) :: x.f4.flatMap (fun y => nrows g (pre ++ [y.f0]) y)
def toRow (q : NRow) : RowT := (joinP 32 ⟨#[]⟩ q.1, q.2)
theorem trows_n : ∀ (g : Nat) (pre : List ByteArray) (x : Ent), pre.length + g = 32 → trows g (joinP 32 ⟨#[]⟩ pre) x = (nrows g pre x).map toRow
 | 0, pre, x, h => rfl
 | g + 1, pre, x, h => by
  show _ :: x.f4.flatMap (fun y => trows g (belowP (joinP 32 ⟨#[]⟩ pre) y.f0 (32 - (g : Int))) y) = (_ :: x.f4.flatMap (fun y => nrows g (pre ++ [y.f0]) y)).map toRow
  rw [List.map_cons, List.map_flatMap]
  congr 1
  have he : ∀ y : Ent, belowP (joinP 32 ⟨#[]⟩ pre) y.f0 (32 - (g : Int)) = joinP 32 ⟨#[]⟩ (pre ++ [y.f0]) := fun y => by
   have h32 : 32 = pre.length + g + 1 := by omega
   rw [h32]
   exact (joinP_snoc pre.length g _ pre y.f0 rfl).symm
  congr 1
  funext y
  rw [he y]
  exact trows_n g (pre ++ [y.f0]) y (by rw [List.length_append, List.length_singleton]; omega)
theorem nrows_pre : ∀ (g : Nat) (pre : List ByteArray) (x : Ent) (r : NRow), r ∈ nrows g pre x → pre <+: r.1
 | 0, pre, x, r, h => by cases h
 | g + 1, pre, x, r, h => by
  have h' : r ∈ (pre, x.f1, x.f2, x.f3) :: x.f4.flatMap (fun y => nrows g (pre ++ [y.f0]) y) := h
  rcases List.mem_cons.1 h' with rfl | h'
  ·exact List.prefix_refl _
  ·obtain ⟨y, _, hr⟩ := List.mem_flatMap.1 h'
   exact (List.prefix_append pre [y.f0]).trans (nrows_pre g (pre ++ [y.f0]) y r hr)
/-- Names of a row are names, few enough. -/
theorem nrows_names : ∀ (g : Nat) (pre : List ByteArray) (x : Ent) (r : NRow), wf g x → (∀ s, s ∈ pre → nameE s = 0) → r ∈ nrows g pre x → (∀ s, s ∈ r.1 → nameE s = 0) ∧ r.1.length + 1 ≤ pre.length + g
 | 0, pre, x, r, hw, hp, h => by cases h
 | g + 1, pre, x, r, hw, hp, h => by
  have h' : r ∈ (pre, x.f1, x.f2, x.f3) :: x.f4.flatMap (fun y => nrows g (pre ++ [y.f0]) y) := h
  rcases List.mem_cons.1 h' with rfl | h'
  ·exact ⟨hp, by simp⟩
  ·obtain ⟨y, hy, hr⟩ := List.mem_flatMap.1 h'
   obtain ⟨a, b⟩ := nrows_names g (pre ++ [y.f0]) y r (hw.2.2.2 y hy) (fun s hs => by
    rcases List.mem_append.1 hs with hs | hs
    ·exact hp s hs
    ·rw [List.mem_singleton] at hs; rw [hs]; exact hw.2.1 y hy) hr
   rw [List.length_append, List.length_singleton] at b
   exact ⟨a, by omega⟩
/-- The entry at these names. -/
def atN : List ByteArray → Ent → Option Ent
 | [], x => some x
 | s :: q, x => (look x.f4 s).bind (atN q)
theorem atN_snoc : ∀ (p : List ByteArray) (s : ByteArray) (x : Ent), atN (p ++ [s]) x = (atN p x).bind (fun y => look y.f4 s)
 | [], s, x => by
  show (look x.f4 s).bind (atN []) = look x.f4 s
  cases look x.f4 s <;> rfl
 | t :: p, s, x => by
  show (look x.f4 t).bind (atN (p ++ [s])) = ((look x.f4 t).bind (atN p)).bind _
  cases look x.f4 t with
  | none => rfl
  | some y => exact atN_snoc p s y
/-- A kid by its name splits the kids. -/
theorem look_split {l : List Ent} {s : ByteArray} {y : Ent} (h : Rising l) (hl : look l s = some y) : ∃ l1 l2, l = l1 ++ y :: l2 ∧ l1.length = rk l s ∧ y.f0 = s ∧ (∀ z, z ∈ l1 → z.f0 ≠ s) ∧ (∀ z, z ∈ l2 → z.f0 ≠ s) := by
 obtain ⟨hh, hi⟩ := look_at hl
 obtain ⟨hm, hs⟩ := (look_iff' h).1 hl
 obtain ⟨hlt, he⟩ := List.getElem?_eq_some_iff.1 hi
 have hsp : l = l.take (rk l s) ++ y :: l.drop (rk l s + 1) := by
  conv => lhs; rw [← List.take_append_drop (rk l s) l, List.drop_eq_getElem_cons hlt, he]
 refine ⟨l.take (rk l s), l.drop (rk l s + 1), hsp, by rw [List.length_take]; omega, hs, fun z hz e => ?_, fun z hz e => ?_⟩
 ·have h2 := h
  unfold Rising at h2
  rw [hsp] at h2
  have := (List.pairwise_append.1 h2).2.2 z hz y List.mem_cons_self
  rw [e, ← hs, cmpB_self] at this
  omega
 ·have h2 := h
  unfold Rising at h2
  rw [hsp] at h2
  have := (List.pairwise_cons.1 (List.pairwise_append.1 h2).2.1).1 z hz
  rw [e, ← hs, cmpB_self] at this
  omega
theorem pre_other {pre q : List ByteArray} {s t : ByteArray} {r : List ByteArray} (h1 : (pre ++ [t]) <+: r) (hne : t ≠ s) : ¬ (pre ++ s :: q) <+: r := fun h2 => by
 have h3 : (pre ++ [s]) <+: r := List.IsPrefix.trans ⟨q, by rw [List.append_assoc]; rfl⟩ h2
 have h4 : pre ++ [t] = pre ++ [s] := by
  rcases List.prefix_or_prefix_of_prefix h1 h3 with h | h
  ·exact h.eq_of_length (by simp)
  ·exact (h.eq_of_length (by simp)).symm
 have h5 := List.append_cancel_left h4
 injection h5 with h5
 exact hne h5
theorem pre_self {pre q : List ByteArray} {s : ByteArray} : ¬ (pre ++ s :: q) <+: pre := fun h => by
 have := h.length_le
 rw [List.length_append, List.length_cons] at this
 omega
structure BlockAt (g : Nat) (pre q : List ByteArray) (x y : Ent) (A C : List NRow) (g2 : Nat) : Prop where
 deep : g = g2 + q.length
 wfy : wf g2 y
 size : tsz g2 y ≤ tsz g x
 rows : nrows g pre x = A ++ (nrows g2 (pre ++ q) y ++ C)
 left : ∀ r, r ∈ A → ¬ (pre ++ q) <+: r.1
 right : ∀ r, r ∈ C → ¬ (pre ++ q) <+: r.1
theorem block_at : ∀ (q : List ByteArray) (g : Nat) (pre : List ByteArray) (x : Ent), wf g x →
  (∀ y, atN q x = some y → ∃ A C g2, BlockAt g pre q x y A C g2) ∧ (atN q x = none → ∀ r, r ∈ nrows g pre x → ¬ (pre ++ q) <+: r.1)
 | [], g, pre, x, hw => by
  refine ⟨fun y hy => ?_, fun h => by cases h⟩
  injection hy with hy
  subst hy
  exact ⟨[], [], g, rfl, hw, Int.le_refl _, by rw [List.append_nil, List.append_nil]; rfl, (by simp), (by simp)⟩
 | s :: q, 0, pre, x, hw => hw.elim
 | s :: q, g + 1, pre, x, hw => by
  obtain ⟨w1, w2, w3, w4⟩ := hw
  have hrows : nrows (g + 1) pre x = (pre, x.f1, x.f2, x.f3) :: x.f4.flatMap (fun y => nrows g (pre ++ [y.f0]) y) := rfl
  have hoth : ∀ (l : List Ent), (∀ z, z ∈ l → z.f0 ≠ s) → ∀ r, r ∈ l.flatMap (fun y => nrows g (pre ++ [y.f0]) y) → ¬ (pre ++ s :: q) <+: r.1 := fun l hl r hr => by
   obtain ⟨z, hz, hrz⟩ := List.mem_flatMap.1 hr
   exact pre_other (nrows_pre g _ z r hrz) (hl z hz)
  cases hl : look x.f4 s with
  | none =>
   have hn := (look_none w3).1 hl
   refine ⟨fun y hy => ?_, fun _ r hr => ?_⟩
   ·have : (look x.f4 s).bind (atN q) = some y := hy
    rw [hl] at this; cases this
   ·rw [hrows] at hr
    rcases List.mem_cons.1 hr with rfl | hr
    ·exact pre_self
    ·exact hoth _ hn r hr
  | some z =>
   obtain ⟨l1, l2, hsp, _, hzs, ho1, ho2⟩ := look_split w3 hl
   have hzm : z ∈ x.f4 := by rw [hsp]; simp
   have hfm : x.f4.flatMap (fun y => nrows g (pre ++ [y.f0]) y) = l1.flatMap (fun y => nrows g (pre ++ [y.f0]) y) ++ (nrows g (pre ++ [s]) z ++ l2.flatMap (fun y => nrows g (pre ++ [y.f0]) y)) := by
    rw [hsp, List.flatMap_append, List.flatMap_cons, hzs]
   have happ : (pre ++ [s]) ++ q = pre ++ s :: q := by rw [List.append_assoc]; rfl
   obtain ⟨i1, i2⟩ := block_at q g (pre ++ [s]) z (w4 z hzm)
   have hat : atN (s :: q) x = atN q z := by show (look x.f4 s).bind (atN q) = _; rw [hl]; rfl
   rw [happ] at i2
   refine ⟨fun y hy => ?_, fun hn r hr => ?_⟩
   ·rw [hat] at hy
    obtain ⟨A, C, g2, b⟩ := i1 y hy
    have bl := b.left
    have br := b.right
    have bw := b.rows
    rw [happ] at bl br bw
    refine ⟨(pre, x.f1, x.f2, x.f3) :: (l1.flatMap (fun y => nrows g (pre ++ [y.f0]) y) ++ A), C ++ l2.flatMap (fun y => nrows g (pre ++ [y.f0]) y), g2, ?_, b.wfy, ?_, ?_, fun r hr => ?_, fun r hr => ?_⟩
    ·have := b.deep; rw [List.length_cons]; omega
    ·have h1 := b.size
     have h2 := ksz_mem g x.f4 z hzm
     have h3 := own_pos x.f1 x.f2 x.f3
     show _ ≤ ownS x.f1 x.f2 x.f3 + ksz g x.f4
     omega
    ·rw [hrows, hfm, bw]
     simp only [List.cons_append, List.append_assoc]
    ·rcases List.mem_cons.1 hr with rfl | hr
     ·exact pre_self
     ·rcases List.mem_append.1 hr with hr | hr
      ·exact hoth l1 ho1 r hr
      ·exact bl r hr
    ·rcases List.mem_append.1 hr with hr | hr
     ·exact br r hr
     ·exact hoth l2 ho2 r hr
   ·rw [hat] at hn
    rw [hrows, hfm] at hr
    rcases List.mem_cons.1 hr with rfl | hr
    ·exact pre_self
    ·rcases List.mem_append.1 hr with hr | hr
     ·exact hoth l1 ho1 r hr
     ·rcases List.mem_append.1 hr with hr | hr
      ·exact i2 hn r hr
      ·exact hoth l2 ho2 r hr
/-- The error's number of the way. -/
def wayR : List ByteArray → Ent → Int
 | [], _ => 0
 | s :: q, x => if x.f1 ≠ 3 then 65 else match look x.f4 s with
  | none => if q = [] then 0 else 3
  | some y => wayR q y
theorem wayR_cons (s : ByteArray) (q : List ByteArray) (x : Ent) : wayR (s :: q) x = if x.f1 ≠ 3 then 65 else match look x.f4 s with
  | none => if q = [] then 0 else 3
  | some y => wayR q y := rfl
end Go.Proofs.YtnemeeidomceiaaDoor
end
section
namespace Go.Proofs.YtnemeeidomceiaaDoor.PGTreeGets
open Go.RowKit Go.Proofs.YtnemeeidomceiaaDoorW.PrintWords Go.Proofs.YtnemeeidomceiaaDoor
set_option linter.unusedSimpArgs false
set_option linter.unusedVariables false
theorem joinP_size : ∀ (f : Nat) (p : ByteArray) (ns : List ByteArray), (∀ s, s ∈ ns → s.size ≤ 255) → (joinP f p ns).size ≤ p.size + 256 * ns.length
 | 0, p, ns, h => by show p.size ≤ _; omega
 | f + 1, p, [], h => by show p.size ≤ _; omega
 | f + 1, p, s :: ns, h => by
  have h1 := joinP_size f (belowP p s (32 - (f : Int))) ns (fun x hx => h x (List.mem_cons_of_mem _ hx))
  have h2 := h s List.mem_cons_self
  have h3 : (belowP p s (32 - (f : Int))).size ≤ p.size + 1 + s.size := by
   unfold belowP
   split
   ·omega
   ·rw [ByteArray.size_append, ByteArray.size_append]
    have : (⟨#[47]⟩ : ByteArray).size = 1 := rfl
    omega
  show (joinP f (belowP p s (32 - (f : Int))) ns).size ≤ _
  rw [List.length_cons]
  omega
theorem nrows_txt : ∀ (g : Nat) (pre : List ByteArray) (x : Ent), x.f3.size ≤ 140737488351232 → Texts x.f4 → ∀ r, r ∈ nrows g pre x → r.2.2.2.size ≤ 140737488351232
 | 0, pre, x, h3, h4, r, h => by cases h
 | g + 1, pre, x, h3, h4, r, h => by
  have h' : r ∈ (pre, x.f1, x.f2, x.f3) :: x.f4.flatMap (fun y => nrows g (pre ++ [y.f0]) y) := h
  rcases List.mem_cons.1 h' with rfl | h'
  ·exact h3
  ·obtain ⟨y, hy, hr⟩ := List.mem_flatMap.1 h'
   cases h4 with
   | mk h k => exact nrows_txt g (pre ++ [y.f0]) y (h y hy).2 (k y hy) r hr
def Names (q : List ByteArray) : Prop := (∀ s, s ∈ q → nameE s = 0) ∧ q.length ≤ 31
theorem Names.split {q : List ByteArray} (h : Names q) : splitP (joinP 32 ⟨#[]⟩ q) = (q, 0, 0) := joined_split h.1 h.2
theorem Names.size {q : List ByteArray} (h : Names q) : (joinP 32 ⟨#[]⟩ q).size ≤ 8192 := by
 have h1 := joinP_size 32 ⟨#[]⟩ q (fun s hs => nameE_size (h.1 s hs))
 have h2 := h.2
 have h3 : (⟨#[]⟩ : ByteArray).size = 0 := rfl
 omega
theorem Names.drop {q : List ByteArray} (h : Names q) (i : Nat) : Names (q.drop i) := ⟨fun s hs => h.1 s (List.mem_of_mem_drop hs), by rw [List.length_drop]; have := h.2; omega⟩
structure NOk (ns : List NRow) : Prop where
 len : ns.length ≤ 1048576
 nam : ∀ q, q ∈ ns → Names q.1
 txt : ∀ q, q ∈ ns → q.2.2.2.size ≤ 140737488351232
def rowN (q : NRow) : RefRow := rowR (toRow q)
theorem NOk.rows {ns : List NRow} (h : NOk ns) : RowsIn (ns.map toRow) := ⟨by rw [List.length_map]; exact h.len, fun r hr => by
 obtain ⟨q, hq, rfl⟩ := List.mem_map.1 hr
 exact ⟨Nat.le_trans (h.nam q hq).size (by decide), h.txt q hq⟩⟩
theorem rd_n {ns : List NRow} {i : Nat} (h : i < ns.length) : rd_T29 (ns.map rowN) (i : Int) = rowN ns[i] := by simp [rd_T29, h]
theorem split_n {q : NRow} (h : Names q.1) {k : Nat} (hk : 8000000 ≤ k) : depotref05_Split.f k (rowN q).f0 = some (q.1, 0, 0) := by
 have := split_k (joinP 32 ⟨#[]⟩ q.1) (Nat.le_trans h.size (by decide)) hk
 rw [h.split] at this
 exact this
theorem begins_n (a b : List ByteArray) (hb : b.length ≤ 1000) {k : Nat} (hk : 1001 < k) : depotref06_begins.f k a b = some (decide (b <+: a)) := by
 unfold depotref06_begins.f
 by_cases hl : a.length < b.length
 ·rw [if_pos (by omega), decide_eq_false (fun h => by have := h.length_le; omega)]
 ·rw [if_neg (by omega)]
  have h := begins_loop a b (by omega) hb b.length 0 k (by omega) (by omega) (by omega) rfl
  have e : decide (b <+: a) = decide (a.take b.length = b) := by
   by_cases h2 : a.take b.length = b
   ·rw [decide_eq_true h2, decide_eq_true (List.prefix_iff_eq_take.2 h2.symm)]
   ·rw [decide_eq_false h2, decide_eq_false (fun h3 => h2 (List.prefix_iff_eq_take.1 h3).symm)]
  rw [e]
  exact h
def undL : List NRow → List ByteArray → Int → Nat → Int × Int
 | [], _, frm, i => (frm, (i : Int))
 | r :: rs, names, frm, i => if names <+: r.1 then undL rs names (if frm < 0 then (i : Int) else frm) (i + 1) else if 0 ≤ frm then (frm, (i : Int)) else undL rs names frm (i + 1)
theorem under_ok (ns : List NRow) (hok : NOk ns) (names : List ByteArray) (hn : names.length ≤ 1000) : ∀ (d i k : Nat) (frm : Int), ns.length - i = d → i ≤ ns.length → 8000000 + 2 * d + 2 ≤ k →
  depotref06_under.l0 k (ns.map rowN) names frm (i : Int) = some (undL (ns.drop i) names frm i)
 | 0, i, k, frm, hd, hi, hk => by
  obtain ⟨k, rfl⟩ : ∃ q, k = q + 1 := ⟨k - 1, by omega⟩
  obtain rfl : i = ns.length := by omega
  rw [depotref06_under.l0, List.length_map, if_neg (by omega), List.drop_of_length_le (Nat.le_refl _)]
  rfl
 | d + 1, i, k, frm, hd, hi, hk => by
  have hlen := hok.len
  obtain ⟨k, rfl⟩ : ∃ q, k = q + 1 + 1 := ⟨k - 2, by omega⟩
  have hlt : i < ns.length := by omega
  have hdrop : ns.drop i = ns[i] :: ns.drop (i + 1) := List.drop_eq_getElem_cons hlt
  have hrow := rd_n hlt
  have hmem : ns[i] ∈ ns := List.getElem_mem hlt
  obtain ⟨r, hr⟩ : ∃ r, r = ns[i] := ⟨_, rfl⟩
  rw [← hr] at hdrop hrow hmem
  have ih := fun frm => under_ok ns hok names hn d (i + 1) k frm (by omega) (by omega) (by omega)
  rw [hdrop, depotref06_under.l0, List.length_map, if_pos (by omega), if_pos (by omega), hrow, split_n (hok.nam r hmem) (by omega)]
  simp only [Option.bind_some]
  rw [begins_n _ _ hn (by omega)]
  simp only [Option.bind_some]
  have HW : Aside0 (wrap64 ((i : Int) + 1) = ((i + 1 : Nat) : Int)) := ⟨by rw [w64n (by omega) (by omega)]; omega⟩
  unfold undL
  by_cases hp : names <+: r.1
  ·rw [decide_eq_true hp, if_pos rfl, if_pos hp]
   by_cases hf : frm < 0
   ·rw [decide_eq_true hf, if_pos hf, depotref06_under.j1, if_pos rfl, if_pos rfl, HW.out]
    exact ih _
   ·rw [decide_eq_false hf, if_neg hf, depotref06_under.j1, if_neg (by decide), if_pos rfl, HW.out]
    exact ih _
  ·rw [decide_eq_false hp, if_neg (by decide), if_neg hp, depotref06_under.j1, if_neg (by decide), if_neg (by decide), HW.out]
   by_cases hf : frm ≥ 0
   ·rw [if_pos hf, if_pos (show 0 ≤ frm from hf)]
   ·rw [if_neg hf, if_neg (show ¬ 0 ≤ frm from hf)]
    exact ih _
theorem und_left : ∀ (A rest : List NRow) (names : List ByteArray) (i : Nat), (∀ r, r ∈ A → ¬ names <+: r.1) → undL (A ++ rest) names (-1) i = undL rest names (-1) (i + A.length)
 | [], rest, names, i, h => rfl
 | a :: A, rest, names, i, h => by
  show undL (a :: (A ++ rest)) names (-1) i = _
  rw [undL, if_neg (h a List.mem_cons_self), if_neg (by decide), und_left A rest names (i + 1) (fun r hr => h r (List.mem_cons_of_mem _ hr)), List.length_cons]
  congr 1
  omega
theorem und_mid : ∀ (B C : List NRow) (names : List ByteArray) (frm : Int) (i : Nat), 0 ≤ frm → (∀ r, r ∈ B → names <+: r.1) → (∀ r, r ∈ C → ¬ names <+: r.1) → undL (B ++ C) names frm i = (frm, ((i + B.length : Nat) : Int))
 | [], [], names, frm, i, hf, hB, hC => rfl
 | [], c :: C, names, frm, i, hf, hB, hC => by
  show undL (c :: C) names frm i = _
  rw [undL, if_neg (hC c List.mem_cons_self), if_pos hf]
  rfl
 | b :: B, C, names, frm, i, hf, hB, hC => by
  show undL (b :: (B ++ C)) names frm i = _
  rw [undL, if_pos (hB b List.mem_cons_self), if_neg (by omega), und_mid B C names frm (i + 1) hf (fun r hr => hB r (List.mem_cons_of_mem _ hr)) hC, List.length_cons]
  congr 2
  omega
theorem und_block {A B C : List NRow} {names : List ByteArray} (hA : ∀ r, r ∈ A → ¬ names <+: r.1) (hB : ∀ r, r ∈ B → names <+: r.1) (hC : ∀ r, r ∈ C → ¬ names <+: r.1) (hb : B ≠ []) : undL (A ++ (B ++ C)) names (-1) 0 = ((A.length : Int), ((A.length + B.length : Nat) : Int)) := by
 rw [und_left A _ names 0 hA, Nat.zero_add]
 cases B with
 | nil => exact absurd rfl hb
 | cons b B =>
  show undL (b :: (B ++ C)) names (-1) A.length = _
  rw [undL, if_pos (hB b List.mem_cons_self), if_pos (by decide), und_mid B C names _ (A.length + 1) (by omega) (fun r hr => hB r (List.mem_cons_of_mem _ hr)) hC, List.length_cons]
  congr 2
  omega
theorem und_none {ns : List NRow} {names : List ByteArray} (hA : ∀ r, r ∈ ns → ¬ names <+: r.1) : undL ns names (-1) 0 = (-1, (ns.length : Int)) := by
 have := und_left ns [] names 0 hA
 rw [List.append_nil, Nat.zero_add] at this
 rw [this]
 rfl
/-- A well-formed tree with its rows. -/
structure TreeOk (x : Ent) : Prop where
 wfx : wf 32 x
 ok : NOk (nrows 32 [] x)
theorem wf_ne {g : Nat} {x : Ent} (h : wf g x) : ∃ m, g = m + 1 := by
 cases g with
 | zero => exact h.elim
 | succ m => exact ⟨m, rfl⟩
theorem under_at {x : Ent} (h : TreeOk x) (q : List ByteArray) (hq : q.length ≤ 1000) {k : Nat} (hk : 11000000 ≤ k) :
  (∀ y, atN q x = some y → ∃ A C g2, BlockAt 32 [] q x y A C g2 ∧ depotref06_under.f k ((nrows 32 [] x).map rowN) q = some ((A.length : Int), ((A.length + (nrows g2 q y).length : Nat) : Int))) ∧
  (atN q x = none → depotref06_under.f k ((nrows 32 [] x).map rowN) q = some (-1, ((nrows 32 [] x).length : Int))) := by
 obtain ⟨h1, h2⟩ := block_at q 32 [] x h.wfx
 have hlen := h.ok.len
 have hu := under_ok _ h.ok q hq (nrows 32 [] x).length 0 k (-1) (by omega) (Nat.zero_le _) (by omega)
 rw [List.drop_zero] at hu
 refine ⟨fun y hy => ?_, fun hn => ?_⟩
 ·obtain ⟨A, C, g2, b⟩ := h1 y hy
  refine ⟨A, C, g2, b, ?_⟩
  have hb := b.rows
  rw [List.nil_append] at hb
  have hl := b.left
  have hr := b.right
  rw [List.nil_append] at hl hr
  unfold depotref06_under.f
  have hu2 : depotref06_under.l0 k ((nrows 32 [] x).map rowN) q (-1) 0 = some (undL (nrows 32 [] x) q (-1) 0) := hu
  rw [hu2, hb, und_block hl (fun r hr => nrows_pre g2 q y r hr) hr]
  obtain ⟨m, rfl⟩ := wf_ne b.wfy
  intro e
  cases e
 ·unfold depotref06_under.f
  have hu2 : depotref06_under.l0 k ((nrows 32 [] x).map rowN) q (-1) 0 = some (undL (nrows 32 [] x) q (-1) 0) := hu
  have h3 := h2 hn
  rw [List.nil_append] at h3
  rw [hu2, und_none h3]
theorem way_ok {x : Ent} (h : TreeOk x) (q : List ByteArray) (hq : Names q) : ∀ (d i k : Nat), q.length - i = d → i ≤ q.length → 11000000 + d < k →
  depotref06_Way.l0 k ((nrows 32 [] x).map rowN) q (i : Int) = some (match atN (q.take i) x with
   | none => if i = q.length then 0 else 3
   | some y => wayR (q.drop i) y)
 | 0, i, k, hd, hi, hk => by
  obtain ⟨k, rfl⟩ : ∃ q, k = q + 1 := ⟨k - 1, by omega⟩
  obtain rfl : i = q.length := by omega
  rw [depotref06_Way.l0, if_neg (by omega), List.drop_of_length_le (Nat.le_refl _)]
  cases atN (q.take q.length) x with
  | none => simp
  | some y => rfl
 | d + 1, i, k, hd, hi, hk => by
  obtain ⟨k, rfl⟩ : ∃ q, k = q + 1 := ⟨k - 1, by omega⟩
  have hlt : i < q.length := by omega
  have hq31 := hq.2
  have hqt : (q.take i).length ≤ 1000 := by rw [List.length_take]; omega
  have HW : Aside0 (wrap64 ((i : Int) + 1) = ((i + 1 : Nat) : Int)) := ⟨by rw [w64n (by omega) (by omega)]; omega⟩
  rw [depotref06_Way.l0, if_pos (by omega), if_pos (by omega), if_pos (by omega), Int.toNat_natCast, HW.out]
  obtain ⟨u1, u2⟩ := under_at h (q.take i) hqt (k := k) (by omega)
  have hdrop : q.drop i = q[i] :: q.drop (i + 1) := List.drop_eq_getElem_cons hlt
  have htake : q.take (i + 1) = q.take i ++ [q[i]] := List.take_succ_eq_append_getElem hlt
  cases hat : atN (q.take i) x with
  | none =>
   rw [u2 hat]
   simp only [Option.bind_some]
   rw [if_pos (by omega), if_neg (by omega)]
  | some y =>
   obtain ⟨A, C, g2, b, hu⟩ := u1 y hat
   obtain ⟨m, rfl⟩ := wf_ne b.wfy
   have hrw := b.rows
   rw [List.nil_append] at hrw
   have hA : A.length < (nrows 32 [] x).length := by
    rw [hrw, List.length_append, List.length_append]
    show A.length < A.length + ((_ :: _ : List NRow).length + C.length)
    rw [List.length_cons]
    omega
   have hget : (nrows 32 [] x)[A.length] = (q.take i, y.f1, y.f2, y.f3) := by
    have h5 : (nrows 32 [] x)[A.length]? = some (q.take i, y.f1, y.f2, y.f3) := by
     rw [hrw, List.getElem?_append_right (Nat.le_refl _), Nat.sub_self]
     rfl
    rw [List.getElem?_eq_getElem hA] at h5
    injection h5
   rw [hu]
   simp only [Option.bind_some]
   rw [if_neg (by omega), if_pos (by omega), List.length_map, if_pos (by omega), rd_n hA, hget, hdrop, wayR_cons]
   by_cases h3 : y.f1 = 3
   ·rw [if_pos (show (rowN (q.take i, y.f1, y.f2, y.f3)).f1 = 3 from h3), if_neg (show ¬ y.f1 ≠ 3 from fun e => e h3), way_ok h q hq d (i + 1) k (by omega) (by omega) (by omega), htake, atN_snoc, hat]
    show some (match look y.f4 q[i] with | none => if i + 1 = q.length then 0 else 3 | some y => wayR (q.drop (i + 1)) y) = _
    cases look y.f4 q[i] with
    | none =>
     by_cases h6 : i + 1 = q.length
     ·rw [if_pos h6, if_pos (List.drop_of_length_le (by omega))]
     ·rw [if_neg h6, if_neg (fun e => by have := congrArg List.length e; rw [List.length_drop] at this; simp at this; omega)]
    | some z => rfl
   ·rw [if_neg (show ¬ (rowN (q.take i, y.f1, y.f2, y.f3)).f1 = 3 from h3), if_pos (show y.f1 ≠ 3 from h3)]
theorem way_k {x : Ent} (h : TreeOk x) (q : List ByteArray) (hq : Names q) {k : Nat} (hk : 12000000 ≤ k) : depotref06_Way.f k ((nrows 32 [] x).map rowN) q = some (wayR q x) := by
 have := way_ok h q hq q.length 0 k (by omega) (Nat.zero_le _) (by have := hq.2; omega)
 rw [List.take_zero, List.drop_zero] at this
 exact this
theorem NOk.of {ns ms : List NRow} (h : NOk ns) (hl : ms.length ≤ ns.length) (hm : ∀ q, q ∈ ms → ∃ p i, p ∈ ns ∧ q = (p.1.drop i, p.2)) : NOk ms :=
 ⟨Nat.le_trans hl h.len, fun q hq => by obtain ⟨p, i, hp, rfl⟩ := hm q hq; exact (h.nam p hp).drop i, fun q hq => by obtain ⟨p, i, hp, rfl⟩ := hm q hq; exact h.txt p hp⟩
theorem look_tree {a : Int} {e : Bool} {c : ByteArray} {l : List Ent} {bb : Int} {rws : List RowT} (hh : Held c l) (hs : lookL a e c l = .ok bb rws) : TreeOk ⟨⟨#[]⟩, a, e, c, l⟩ ∧ 24 + tsz 32 ⟨⟨#[]⟩, a, e, c, l⟩ ≤ 1048576 ∧ rws = (nrows 32 [] ⟨⟨#[]⟩, a, e, c, l⟩).map toRow := by
 obtain ⟨q1, q2, q3, q4⟩ := (look_iff a e c l bb rws).1 hs
 have hn := trows_n 32 [] ⟨⟨#[]⟩, a, e, c, l⟩ rfl
 rw [joinP_nil] at hn
 have hfair : LookFair magS (lookL a e c l) := nodeL_fair _ _ _ _
 rw [hs] at hfair
 obtain ⟨f1, f2⟩ := hfair
 have f3 := f2 (by rw [magS_eq]; decide)
 rw [magS_eq] at f1
 refine ⟨⟨q1, ⟨?_, fun q hq => ?_, fun q hq => nrows_txt 32 [] ⟨⟨#[]⟩, a, e, c, l⟩ hh.2 hh.1 q hq⟩⟩, by omega, by rw [q4, hn]⟩
 ·rw [q4, hn, List.length_map] at f1
  omega
 ·obtain ⟨z1, z2⟩ := nrows_names 32 [] ⟨⟨#[]⟩, a, e, c, l⟩ q q1 (by simp) hq
  exact ⟨z1, by simp at z2; omega⟩
theorem look_f {a : Int} {e : Bool} {c : ByteArray} {l : List Ent} (hh : Held c l) : depotref06_Look.f a e c l = some ((lookRows (lookL a e c l)).map rowR, lookSize (lookL a e c l), lookCode (lookL a e c l), lookPath (lookL a e c l)) := if_pos hh
theorem split_big (s : ByteArray) (hs : s.size ≤ 140737488351232) {k : Nat} (hk : 2 * s.size + 4 ≤ k) : depotref05_Split.f k s = some (splitP s) :=
 up_le (fun k => depotref05_Split.mono s k) (refSplit s (by omega)) hk
end Go.Proofs.YtnemeeidomceiaaDoor.PGTreeGets
end
section
namespace Go.Proofs.YtnemeeidomceiaaDoor
open Go.RowKit Go.Proofs.YtnemeeidomceiaaDoorW.PrintWords Go.Proofs.YtnemeeidomceiaaDoorW.PrintLast Go.Proofs.YtnemeeidomceiaaDoorW.PrintMore
set_option linter.unusedVariables false
set_option linter.unusedSimpArgs false
section
variable {W W' w' : World} {b : Nat} {A As A' : Option Addr} {c cs c' : Nat} {k k1 sk k' x : Int} {e e1 se e' : Bool} {t t1 st t' p path : ByteArray} {l l1 sl l' : List Ent} {o : Ending}
/-- A node in a variable of its own. -/
structure NB (W : World) (b : Nat) (A : Option Addr) (c : Nat) (k : Int) (e : Bool) (t : ByteArray) (l : List Ent) : Prop where
 blk : Blk W b 32 [.int .i64 k, .bool e, .string t, .slice A l.length c]
 len : l.length ≤ c
 row : Kd.C kE W A l.length l
theorem NB.below (h : NB W b A c k e t l) (hb : Below W.heap.size W W') : NB W' b A c k e t l := ⟨h.blk.below hb, h.len, Kd.C_below h.row hb⟩
theorem NB.new {W : World} (hl : l.length ≤ c) (hC : Kd.C kE W A l.length l) : NB (W.alloc (.cells #[.int .i64 k, .bool e, .string t, .slice A l.length c] 32)) W.heap.size A c k e t l :=
 ⟨Blk.new W _ [.int .i64 k, .bool e, .string t, .slice A l.length c], hl, Kd.C_below hC (below_alloc (Below.refl _ _) _)⟩
/-- A tree handed back, and an error's number. -/
def Made (W : World) (k : Int) (e : Bool) (t : ByteArray) (l : List Ent) (x : Int) (o : Ending) (w' : World) : Prop :=
 ∃ A c, o = .returned (.tuple #[.agg #[.int .i64 k, .bool e, .string t, .slice A l.length c], .int .i64 x]) ∧ (l.length ≤ c ∧ Kd.C kE w' A l.length l) ∧ Below W.heap.size W w'
theorem TreePost.made {r : NodeT × Int} (h : TreePost W r o w') (hr : r = ((k, e, t, l), x)) : Made W k e t l x o w' := by
 subst hr
 obtain ⟨v, hv, hR⟩ := h.read
 have hb := h.below
 obtain ⟨A, c, rfl, hc, hC⟩ := Kd.R_reads hR
 exact ⟨A, c, hv, ⟨hc, hC⟩, hb⟩
theorem eq_to (h : (k, e, t, l) = (k', e', t', l')) (hf : Fit l) (hC : Kd.C kE W A l.length l) (hc : l.length ≤ c) (hC' : Kd.C kE W A' l'.length l') (hc' : l'.length ≤ c') :
  Calls Tryd.prog 13 #[.agg #[.int .i64 k, .bool e, .string t, .slice A l.length c], .agg #[.int .i64 k', .bool e', .string t', .slice A' l'.length c']] W fun o w' => o = .returned (.bool true) ∧ Below W.heap.size W w' :=
 (refEq_calls l hf k e t A c k' e' t' l' A' c' W hC hc hC' hc').mono fun _ _ ⟨b, ho, hb, hw⟩ => ⟨by rw [ho, hb.2 h], hw⟩
end
end Go.Proofs.YtnemeeidomceiaaDoor
end
section
namespace Go.Proofs.YtnemeeidomceiaaDoor
open Go.RowKit Go.Proofs.YtnemeeidomceiaaDoorW.PrintWords Go.Proofs.YtnemeeidomceiaaDoorW.PrintLast Go.Proofs.YtnemeeidomceiaaDoorW.PrintMore
set_option linter.unusedVariables false
set_option linter.unusedSimpArgs false
end Go.Proofs.YtnemeeidomceiaaDoor
end
section
namespace Go.Proofs.YtnemeeidomceiaaDoor
open Go.RowKit Go.Proofs.YtnemeeidomceiaaDoorW.PrintWords Go.Proofs.YtnemeeidomceiaaDoorW.PrintLast Go.Proofs.YtnemeeidomceiaaDoorW.PrintMore
set_option linter.unusedVariables false
set_option linter.unusedSimpArgs false
abbrev seenT : TypeId := 87
theorem made_zero {w W : World} {x : Int} {o : Ending} (ho : o = .returned (.tuple #[.agg #[.int .i64 0, .bool false, .string ⟨#[]⟩, .slice none 0 0], .int .i64 x])) (hb : Below w.heap.size w W) : Made w zeroT.1 zeroT.2.1 zeroT.2.2.1 zeroT.2.2.2 x o W :=
 ⟨none, 0, ho, ⟨Nat.le_refl _, Kd.C_nil _ _⟩, hb⟩
end Go.Proofs.YtnemeeidomceiaaDoor
end
section
namespace Go.Proofs.YtnemeeidomceiaaDoor
open Go.RowKit Go.Proofs.YtnemeeidomceiaaDoorW.PrintWords
set_option linter.unusedVariables false
set_option linter.unusedSimpArgs false
/-- The kids with z in its place, as the loop makes them: d says whether z is laid already. -/
def grafL (z : Ent) : List Ent → Bool → List Ent
 | [], true => []
 | [], false => [z]
 | x :: l, d => (if d = false ∧ ¬ cmpB x.f0 z.f0 < 0 then [z] else []) ++ (if x.f0 ≠ z.f0 then [x] else []) ++ grafL z l (d || decide (¬ cmpB x.f0 z.f0 < 0))
theorem grafL_done : ∀ (z : Ent) (l : List Ent), grafL z l true = l.filter (fun x => decide (x.f0 ≠ z.f0))
 | z, [] => rfl
 | z, x :: l => by
  unfold grafL
  rw [if_neg (by simp), Bool.true_or, grafL_done z l, List.filter_cons]
  by_cases h : x.f0 = z.f0
  ·simp [h]
  ·simp [h]
theorem grafL_mem : ∀ (z : Ent) (l : List Ent) (y : Ent), y ∈ grafL z l false ↔ y = z ∨ (y ∈ l ∧ y.f0 ≠ z.f0)
 | z, [], y => by simp [grafL]
 | z, x :: l, y => by
  unfold grafL
  by_cases hc : cmpB x.f0 z.f0 < 0
  ·have hne : x.f0 ≠ z.f0 := fun e => by rw [e, cmpB_self] at hc; omega
   rw [if_neg (by simp [hc]), if_pos hne, decide_eq_false (by simp [hc]), Bool.or_false]
   rw [List.nil_append, List.singleton_append, List.mem_cons, grafL_mem z l y, List.mem_cons]
   constructor
   ·rintro (rfl | rfl | ⟨h1, h2⟩)
    ·exact Or.inr ⟨Or.inl rfl, hne⟩
    ·exact Or.inl rfl
    ·exact Or.inr ⟨Or.inr h1, h2⟩
   ·rintro (rfl | ⟨rfl | h1, h2⟩)
    ·exact Or.inr (Or.inl rfl)
    ·exact Or.inl rfl
    ·exact Or.inr (Or.inr ⟨h1, h2⟩)
  ·rw [if_pos ⟨rfl, hc⟩, decide_eq_true hc, Bool.or_true, grafL_done]
   by_cases hx : x.f0 = z.f0
   ·rw [if_neg (by simp [hx])]
    simp only [List.append_nil, List.singleton_append, List.mem_cons, List.mem_filter, decide_eq_true_eq]
    constructor
    ·rintro (rfl | ⟨h1, h2⟩)
     ·exact Or.inl rfl
     ·exact Or.inr ⟨Or.inr h1, h2⟩
    ·rintro (rfl | ⟨rfl | h1, h2⟩)
     ·exact Or.inl rfl
     ·exact absurd hx h2
     ·exact Or.inr ⟨h1, h2⟩
   ·rw [if_pos hx]
    simp only [List.singleton_append, List.cons_append, List.nil_append, List.mem_cons, List.mem_filter, decide_eq_true_eq]
    constructor
    ·rintro (rfl | rfl | ⟨h1, h2⟩)
     ·exact Or.inl rfl
     ·exact Or.inr ⟨Or.inl rfl, hx⟩
     ·exact Or.inr ⟨Or.inr h1, h2⟩
    ·rintro (rfl | ⟨rfl | h1, h2⟩)
     ·exact Or.inl rfl
     ·exact Or.inr (Or.inl rfl)
     ·exact Or.inr (Or.inr ⟨h1, h2⟩)
theorem cmp_ge {a b : ByteArray} (h : ¬ cmpB a b < 0) (hne : a ≠ b) : cmpB b a < 0 := by
 have h1 := cmpB_neg a b
 have h2 : cmpB a b ≠ 0 := fun e => hne ((cmpB_zero a b).1 e)
 omega
theorem grafL_rising : ∀ (z : Ent) (l : List Ent), Rising l → Rising (grafL z l false)
 | z, [], h => List.pairwise_singleton _ _
 | z, x :: l, h => by
  have hp := List.pairwise_cons.1 h
  unfold grafL
  by_cases hc : cmpB x.f0 z.f0 < 0
  ·have hne : x.f0 ≠ z.f0 := fun e => by rw [e, cmpB_self] at hc; omega
   rw [if_neg (by simp [hc]), if_pos hne, decide_eq_false (by simp [hc]), Bool.or_false]
   rw [List.nil_append, List.singleton_append]
   refine List.pairwise_cons.2 ⟨fun y hy => ?_, grafL_rising z l hp.2⟩
   rcases (grafL_mem z l y).1 hy with rfl | ⟨h1, _⟩
   ·exact hc
   ·exact hp.1 y h1
  ·rw [if_pos ⟨rfl, hc⟩, decide_eq_true hc, Bool.or_true, grafL_done]
   have hlow : ∀ y, y ∈ l → cmpB z.f0 y.f0 < 0 := fun y hy => by
    by_cases hx : x.f0 = z.f0
    ·rw [← hx]; exact hp.1 y hy
    ·exact cmpB_trans (cmp_ge hc hx) (hp.1 y hy)
   have hfil : Rising (l.filter (fun x => decide (x.f0 ≠ z.f0))) := List.Pairwise.sublist List.filter_sublist hp.2
   by_cases hx : x.f0 = z.f0
   ·rw [if_neg (by simp [hx])]
    simp only [List.append_nil, List.singleton_append]
    exact List.pairwise_cons.2 ⟨fun y hy => hlow y (List.mem_filter.1 hy).1, hfil⟩
   ·rw [if_pos hx]
    simp only [List.singleton_append, List.cons_append, List.nil_append]
    refine List.pairwise_cons.2 ⟨fun y hy => ?_, List.pairwise_cons.2 ⟨fun y hy => hp.1 y (List.mem_filter.1 hy).1, hfil⟩⟩
    rcases List.mem_cons.1 hy with rfl | hy
    ·exact cmp_ge hc hx
    ·exact hlow y (List.mem_filter.1 hy).1
theorem grafL_put {l : List Ent} {z : Ent} (h : Rising l) : grafL z l false = put1 l z :=
 rising_ext (grafL_rising z l h) (put1_rising h) (fun x => (grafL_mem z l x).trans (put1_mem h x).symm)
/-- The document's graft. -/
def grafN : List ByteArray → NodeT → NodeT → NodeT
 | [], n, sub => sub
 | s :: q, n, sub => (3, false, ⟨#[]⟩, grafL (putK (grafN q (match look n.2.2.2 s with | none => zeroT | some x => nodeOf x) sub) s) n.2.2.2 false)
/-- What is made is what tree.Put makes. -/
theorem graf_put : ∀ (q : List ByteArray) (g : Nat) (x : Ent) (sub : NodeT), q ≠ [] → wf g x → AllR x.f4 → wayR q x = 0 → x.f1 = 3 ∧ x.f2 = false ∧ x.f3 = ⟨#[]⟩ ∧ (chN (putAct sub) q x.f1 x.f4).2 = 0 ∧ grafN q (nodeOf x) sub = (3, false, ⟨#[]⟩, (chN (putAct sub) q x.f1 x.f4).1)
 | [], g, x, sub, hq, hw, hA, hy => absurd rfl hq
 | s :: q, 0, x, sub, hq, hw, hA, hy => hw.elim
 | s :: q, g + 1, x, sub, hq, hw, hA, hy => by
  obtain ⟨w1, w2, w3, w4⟩ := hw
  rw [wayR_cons] at hy
  have h3 : x.f1 = 3 := Decidable.of_not_not (fun h => by rw [if_pos h] at hy; exact absurd hy (by decide))
  rw [if_neg (fun h => h h3)] at hy
  have hdir : x.f2 = false ∧ x.f3 = ⟨#[]⟩ := by
   rw [h3] at w1
   unfold fieldsE at w1
   rw [if_neg (by decide), if_neg (by decide), if_pos rfl] at w1
   by_cases he : x.f2 = true
   ·rw [if_pos he] at w1; exact absurd w1 (by decide)
   ·rw [if_neg he] at w1
    by_cases ht : x.f3.size = 0
    ·refine ⟨by simpa using he, ?_⟩
     have h5 : x.f3.data = #[] := Array.eq_empty_of_size_eq_zero ht
     cases hx : x.f3 with
     | mk d => rw [hx] at h5; exact congrArg ByteArray.mk h5
    ·rw [if_neg ht] at w1; exact absurd w1 (by decide)
  refine ⟨h3, hdir.1, hdir.2, ?_⟩
  rw [h3]
  have hn4 : (nodeOf x).2.2.2 = x.f4 := rfl
  by_cases h0 : q = []
  ·subst h0
   have e1 : chN (putAct sub) [s] 3 x.f4 = (put1 x.f4 (putK sub s), 0) := by
    unfold chN
    rw [if_neg (by decide), if_pos rfl, putAct_eq]
    rw [if_neg (fun h => h rfl)]
   rw [e1]
   refine ⟨rfl, ?_⟩
   show ((3 : Int), false, (⟨#[]⟩ : ByteArray), grafL (putK sub s) x.f4 false) = _
   rw [grafL_put w3]
  ·cases hl : look x.f4 s with
   | none =>
    rw [hl] at hy
    simp [h0] at hy
   | some y =>
    rw [hl] at hy
    obtain ⟨hm, hs⟩ := (look_iff' w3).1 hl
    obtain ⟨i1, i2, i3, i4, i5⟩ := graf_put q g y sub h0 (w4 y hm) (hA.look hl) hy
    rw [chN_deep (putAct sub) h0 hl w3, if_neg (fun h => h i4)]
    refine ⟨rfl, ?_⟩
    show ((3 : Int), false, (⟨#[]⟩ : ByteArray), grafL (putK (grafN q (match look x.f4 s with | none => zeroT | some x => nodeOf x) sub) s) x.f4 false) = _
    rw [hl]
    show ((3 : Int), false, (⟨#[]⟩ : ByteArray), grafL (putK (grafN q (nodeOf y) sub) s) x.f4 false) = _
    rw [i5, grafL_put w3]
    have hz : putK (3, false, ⟨#[]⟩, (chN (putAct sub) q y.f1 y.f4).1) s = { y with f4 := (chN (putAct sub) q y.f1 y.f4).1 } := by
     show (⟨s, 3, false, ⟨#[]⟩, _⟩ : Ent) = ⟨y.f0, y.f1, y.f2, y.f3, _⟩
     rw [hs, i1, i2, i3]
    rw [hz]
end Go.Proofs.YtnemeeidomceiaaDoor
end
section
namespace Go.Proofs.YtnemeeidomceiaaDoor
open Go.RowKit Go.Proofs.YtnemeeidomceiaaDoorW.PrintWords Go.Proofs.YtnemeeidomceiaaDoorW.PrintLast Go.Proofs.YtnemeeidomceiaaDoorW.PrintMore
set_option linter.unusedVariables false
set_option linter.unusedSimpArgs false
/-- What the document's Put goes by. -/
inductive PutFlow (kk : Nat) (R0 : List RefRow) (c0 s0 : Int) (ns : List ByteArray) (cd : Int) (g : NodeT) (gc : Int) (r : NodeT × Int) : Prop
 | bad (h : c0 ≠ 0) (hr : r = (zeroT, c0))
 | sub (h : c0 = 0) (h1 : s0 ≠ 0) (hr : r = (zeroT, s0))
 | path (h : c0 = 0) (h1 : s0 = 0) (h2 : cd ≠ 0) (hr : r = (zeroT, cd))
 | way (h : c0 = 0) (h1 : s0 = 0) (h2 : cd = 0) (wy : Int) (hw : PGTreeGets.depotref06_Way.f kk R0 ns = some wy) (h3 : wy ≠ 0) (hr : r = (zeroT, wy))
 | big (h : c0 = 0) (h1 : s0 = 0) (h2 : cd = 0) (hw : PGTreeGets.depotref06_Way.f kk R0 ns = some 0) (h3 : gc ≠ 0) (hr : r = (zeroT, gc))
 | put (h : c0 = 0) (h1 : s0 = 0) (h2 : cd = 0) (hw : PGTreeGets.depotref06_Way.f kk R0 ns = some 0) (h3 : gc = 0) (hr : r = (g, 0))
set_option maxHeartbeats 4000000 in
set_option maxRecDepth 100000 in
theorem refput_walk (k : Int) (e : Bool) (t : ByteArray) (l : List Ent) (path : ByteArray) (sk : Int) (se : Bool) (st : ByteArray) (sl : List Ent) (A As : Option Addr) (c cs : Nat) (w : World) (hC : Kd.C kE w A l.length l) (hc : l.length ≤ c) (hCs : Kd.C kE w As sl.length sl) (hcs : sl.length ≤ cs) (kk : Nat)
  (R0 Q0 : List RefRow) (z0 c0 y0 s0 : Int) (q0 p0 : ByteArray) (hL : depotref06_Look.f k e t l = some (R0, z0, c0, q0)) (hL2 : depotref06_Look.f sk se st sl = some (Q0, y0, s0, p0))
  (ns : List ByteArray) (cd pt : Int) (hS : PGTreeGets.depotref05_Split.f kk path = some (ns, cd, pt)) (g : NodeT) (G0 : List RefRow) (x0 gc : Int) (g0 : ByteArray) (r : NodeT × Int) (hF : PutFlow kk R0 c0 s0 ns cd g gc r)
  (hLg : (c0 = 0 ∧ s0 = 0 ∧ cd = 0 ∧ PGTreeGets.depotref06_Way.f kk R0 ns = some 0) → depotref06_Look.f g.1 g.2.1 g.2.2.1 g.2.2.2 = some (G0, x0, gc, g0))
  (hG : (c0 = 0 ∧ s0 = 0 ∧ cd = 0 ∧ PGTreeGets.depotref06_Way.f kk R0 ns = some 0) → ∀ (W : World) (A1 A2 A3 : Option Addr) (c1 c2 c3 : Nat), Kd.C kE W A1 l.length l → l.length ≤ c1 → Kd.C Kd.string W A2 ns.length ns → ns.length ≤ c2 → Kd.C kE W A3 sl.length sl → sl.length ≤ c3 →
   Calls Tryd.prog 50 #[.agg #[.int .i64 k, .bool e, .string t, .slice A1 l.length c1], .slice A2 ns.length c2, .agg #[.int .i64 sk, .bool se, .string st, .slice A3 sl.length c3]] W fun o w' => ∃ v, o = .returned (.agg #[.int .i64 g.1, .bool g.2.1, .string g.2.2.1, v]) ∧ Kd.R kE eE w' W.heap.size (fun _ => True) v g.2.2.2 ∧ Below W.heap.size W w') :
  Calls Tryd.prog 21 #[.agg #[.int .i64 k, .bool e, .string t, .slice A l.length c], .string path, .agg #[.int .i64 sk, .bool se, .string st, .slice As sl.length cs]] w (Made w r.1.1 r.1.2.1 r.1.2.2.1 r.1.2.2.2 r.2) := by
 have HL := Aside0.mk hL
 have HL2 := Aside0.mk hL2
 have HS := Aside0.mk hS
 have HF := Aside0.mk hF
 have HG := Aside0.mk hG
 have HLG := Aside0.mk hLg
 have HC0 := Aside0.mk (And.intro (And.intro hC hc) (And.intro hCs hcs))
 clear hL hL2 hS hF hC hc hCs hcs hG hLg
 go_enter Tryd.func21, Tryd.ntmps21
 go_wp2_with fail
 obtain ⟨W1, hW1⟩ : ∃ W1, W1 = ((w.alloc (.cells #[.int .i64 k, .bool e, .string t, .slice A l.length c] 32)).alloc (.cells #[.int .i64 sk, .bool se, .string st, .slice As sl.length cs] 32)).alloc (.cells #[.int .i64 0, .bool false, .string ⟨#[]⟩, .slice none 0 0] 32) := ⟨_, rfl⟩
 rw [← hW1]
 have hb3 : Below w.heap.size w W1 := by rw [hW1]; exact below_alloc (below_alloc (below_alloc (Below.refl _ _) _) _) _
 obtain ⟨bn, hbn⟩ : ∃ b, b = w.heap.size := ⟨_, rfl⟩
 obtain ⟨bs, hbs⟩ : ∃ b, b = w.heap.size + 1 := ⟨_, rfl⟩
 obtain ⟨b4, hb4⟩ : ∃ b, b = w.heap.size + 1 + 1 := ⟨_, rfl⟩
 rw [← hb4, ← hbs, ← hbn]
 have RN : Aside0 (Blk W1 bn 32 [.int .i64 k, .bool e, .string t, .slice A l.length c]) := ⟨by rw [hW1, hbn]; exact ((Blk.new w _ [.int .i64 k, .bool e, .string t, .slice A l.length c]).alloc _).alloc _⟩
 have RS : Aside0 (Blk W1 bs 32 [.int .i64 sk, .bool se, .string st, .slice As sl.length cs]) := ⟨by rw [hW1]; exact (Blk.new' _ _ [.int .i64 sk, .bool se, .string st, .slice As sl.length cs] (by rw [hbs]; simp)).alloc _⟩
 have R4 : Aside0 (Blk W1 b4 32 [.int .i64 0, .bool false, .string ⟨#[]⟩, .slice none 0 0]) := ⟨by rw [hW1]; exact Blk.new' _ _ [.int .i64 0, .bool false, .string ⟨#[]⟩, .slice none 0 0] (by rw [hb4]; simp)⟩
 have HB := Aside0.mk hb3
 have HCN : Aside0 (Kd.C kE W1 A l.length l) := ⟨Kd.C_below HC0.out.1.1 hb3⟩
 have HCS : Aside0 (Kd.C kE W1 As sl.length sl) := ⟨Kd.C_below HC0.out.2.1 hb3⟩
 have HBB : Aside0 (w.heap.size ≤ b4) := ⟨by omega⟩
 clear hW1 hb4 hbs hbn hb3
 (with_reducible refine (depotref06_Look.calls k e t A c l R0 z0 c0 q0 W1 HCN.out HC0.out.1.2 HL.out).mono ?_)
 rintro o w1 ⟨v0, rfl, hR, hb⟩
 obtain ⟨A1, k1, hv0, hk1, hC1⟩ := Kd.R_reads hR
 subst hv0
 obtain ⟨b8, hb8⟩ : ∃ b, b = w1.heap.size := ⟨_, rfl⟩
 obtain ⟨W2, hW2⟩ : ∃ W2, W2 = w1.alloc (.cells #[.slice A1 R0.length k1, .int .i64 z0, .int .i64 c0, .string q0] seenT) := ⟨_, rfl⟩
 have R8 : Aside0 (Blk W2 b8 seenT [.slice A1 R0.length k1, .int .i64 z0, .int .i64 c0, .string q0]) := ⟨by rw [hW2, hb8]; exact Blk.new w1 _ [.slice A1 R0.length k1, .int .i64 z0, .int .i64 c0, .string q0]⟩
 have hb12 : Below W1.heap.size W1 W2 := by rw [hW2]; exact below_step hb (below_alloc (Below.refl _ _) _)
 have HNE8 : Aside0 (b8 ≠ b4) := ⟨by have h1 := R4.out.lt; have h2 := hb.size; omega⟩
 have HR : Aside0 (Kd.C k29 W2 A1 R0.length R0) := ⟨by rw [hW2]; exact Kd.C_below hC1 (below_alloc (Below.refl _ _) _)⟩
 replace RN := Aside0.mk (RN.out.below hb12)
 replace RS := Aside0.mk (RS.out.below hb12)
 replace R4 := Aside0.mk (R4.out.below hb12)
 replace HB := Aside0.mk (below_step HB.out hb12)
 replace HCN := Aside0.mk (Kd.C_below HCN.out hb12)
 replace HCS := Aside0.mk (Kd.C_below HCS.out hb12)
 clear hb hR hC1 HL hb12
 by_cases h0 : c0 = 0
 ·subst h0
  have d0 : ((0 : Int) != 0) = false := rfl
  obtain ⟨u0_, u1_, u2_, u3_⟩ := cells4 RS.out
  obtain ⟨u0_, u1_, u2_, u3_⟩ := cells4 RS.out
  rw [hW2] at u0_ u1_ u2_ u3_
  go_wp2_with fail
  rw [← hW2]
  clear u0_ u1_ u2_ u3_ hW2
  (with_reducible refine (depotref06_Look.calls sk se st As cs sl Q0 y0 s0 p0 W2 HCS.out HC0.out.2.2 HL2.out).mono ?_)
  rintro o w3 ⟨v0, rfl, hR, hb⟩
  obtain ⟨A3, k3, hv0, hk3, hC3⟩ := Kd.R_reads hR
  subst hv0
  rw [← hb8]
  clear hb8
  obtain ⟨b9, hb9⟩ : ∃ b, b = w3.heap.size := ⟨_, rfl⟩
  obtain ⟨W4, hW4⟩ : ∃ W4, W4 = w3.alloc (.cells #[.slice A3 Q0.length k3, .int .i64 y0, .int .i64 s0, .string p0] seenT) := ⟨_, rfl⟩
  have R9 : Aside0 (Blk W4 b9 seenT [.slice A3 Q0.length k3, .int .i64 y0, .int .i64 s0, .string p0]) := ⟨by rw [hW4, hb9]; exact Blk.new w3 _ [.slice A3 Q0.length k3, .int .i64 y0, .int .i64 s0, .string p0]⟩
  have hb24 : Below W2.heap.size W2 W4 := by rw [hW4]; exact below_step hb (below_alloc (Below.refl _ _) _)
  have HNE9 : Aside0 (b9 ≠ b4) := ⟨by have h1 := R4.out.lt; have h2 := hb.size; omega⟩
  replace RN := Aside0.mk (RN.out.below hb24)
  replace RS := Aside0.mk (RS.out.below hb24)
  replace R4 := Aside0.mk (R4.out.below hb24)
  replace R8 := Aside0.mk (R8.out.below hb24)
  replace HB := Aside0.mk (below_step HB.out hb24)
  replace HCN := Aside0.mk (Kd.C_below HCN.out hb24)
  replace HCS := Aside0.mk (Kd.C_below HCS.out hb24)
  replace HR := Aside0.mk (Kd.C_below HR.out hb24)
  clear hb hR hC3 HL2 hb24
  by_cases h1 : s0 = 0
  ·subst h1
   go_wp2_with fail
   rw [← hW4]
   clear hW4 hb9
   (with_reducible refine (PGTreeGets.depotref05_Split.calls kk path ns cd pt W4 HS.out).mono ?_)
   rintro o w5 ⟨v0, rfl, hR, hb⟩
   obtain ⟨A5, k5, hv0, hk5, hC5⟩ := Kd.R_reads hR
   subst hv0
   replace RN := Aside0.mk (RN.out.below hb)
   replace RS := Aside0.mk (RS.out.below hb)
   replace R4 := Aside0.mk (R4.out.below hb)
   replace R8 := Aside0.mk (R8.out.below hb)
   replace HB := Aside0.mk (below_step HB.out hb)
   replace HCN := Aside0.mk (Kd.C_below HCN.out hb)
   replace HCS := Aside0.mk (Kd.C_below HCS.out hb)
   replace HR := Aside0.mk (Kd.C_below HR.out hb)
   have HN := Aside0.mk hC5
   clear hb hR hC5 HS R9 HNE9
   by_cases h2 : cd = 0
   ·subst h2
    have d2 : ((0 : Int) == 0) = true := rfl
    obtain ⟨wy, hwy⟩ : ∃ wy, PGTreeGets.depotref06_Way.f kk R0 ns = some wy := by
     cases HF.out with
     | bad h hr => exact absurd rfl h
     | sub h h1 => exact absurd rfl h1
     | path h h1 h2 => exact absurd rfl h2
     | way h h1 h2 wy hw => exact ⟨wy, hw⟩
     | big h h1 h2 hw => exact ⟨0, hw⟩
     | put h h1 h2 hw => exact ⟨0, hw⟩
    obtain ⟨x0, x1, x2, x3⟩ := cells4 R8.out
    go_wp2_with fail
    clear x0 x1 x2 x3
    (with_reducible refine (PGTreeGets.depotref06_Way.calls kk A1 k1 R0 A5 k5 ns wy w5 HR.out hk1 HN.out hk5 hwy).mono ?_)
    rintro o w6 ⟨rfl, hb⟩
    replace RN := Aside0.mk (RN.out.below hb)
    replace RS := Aside0.mk (RS.out.below hb)
    replace R4 := Aside0.mk (R4.out.below hb)
    replace HB := Aside0.mk (below_step HB.out hb)
    replace HCN := Aside0.mk (Kd.C_below HCN.out hb)
    replace HCS := Aside0.mk (Kd.C_below HCS.out hb)
    replace HR := Aside0.mk (Kd.C_below HR.out hb)
    replace HN := Aside0.mk (Kd.C_below HN.out hb)
    have HW := Aside0.mk hwy
    clear hb hwy R8 HNE8
    by_cases h3 : wy = 0
    ·subst h3
     obtain ⟨x0, x1, x2, x3⟩ := cells4 RN.out
     obtain ⟨u0_, u1_, u2_, u3_⟩ := cells4 RS.out
     go_wp2_with fail
     clear x0 x1 x2 x3 u0_ u1_ u2_ u3_
     (with_reducible refine (HG.out ⟨by first | trivial | rfl, by first | trivial | rfl, by first | trivial | rfl, HW.out⟩ w6 A A5 As c k5 cs HCN.out HC0.out.1.2 HN.out hk5 HCS.out HC0.out.2.2).mono ?_)
     rintro o w7 ⟨v0, rfl, hR, hb⟩
     obtain ⟨A7, k7, hv0, hk7, hC7⟩ := Kd.R_reads hR
     subst hv0
     have H4LT : Aside0 (b4 < w6.heap.size) := ⟨R4.out.lt⟩
     have HR7 := Aside0.mk hR
     replace R4 := Aside0.mk (R4.out.below hb)
     replace HB := Aside0.mk (below_step HB.out hb)
     clear hR hb hC7 RN RS HCN HCS HR HN HG
     obtain ⟨gk, ge, gt, gl⟩ := g
     simp only at hk7 HLG HR7 ⊢
     go_wp2_with ((with_reducible refine gate_dst (N := 51) rfl ?_); refine Stand.go ?_)
     unfold Stand
     obtain ⟨W8, hW8⟩ : ∃ W8, W8 = w7.alloc (.cells #[.int .i64 gk, .bool ge, .string gt, .slice A7 gl.length k7] 32) := ⟨_, rfl⟩
     obtain ⟨b13, hb13⟩ : ∃ b, b = w7.heap.size := ⟨_, rfl⟩
     rw [← hW8, ← hb13]
     have hb78 : Below w7.heap.size w7 W8 := by rw [hW8]; exact below_alloc (Below.refl _ _) _
     have R13 : Aside0 (Blk W8 b13 32 [.int .i64 gk, .bool ge, .string gt, .slice A7 gl.length k7]) := ⟨by rw [hW8, hb13]; exact Blk.new w7 _ [.int .i64 gk, .bool ge, .string gt, .slice A7 gl.length k7]⟩
     replace R4 := Aside0.mk (R4.out.below hb78)
     replace HB := Aside0.mk (below_step HB.out hb78)
     replace HR7 : Aside0 (Kd.R kE eE W8 w6.heap.size (fun j => w6.heap.size ≤ j) (.slice A7 gl.length k7) gl) := ⟨Kd.R_below (Kd.R_mono (Kd.R_bound HR7.out) (fun j hj => hj.2.1)) hb78⟩
     have HC8 : Aside0 (Kd.C kE W8 A7 gl.length gl) := ⟨(Kd.R_reads' HR7.out).2.2⟩
     clear hW8 hb13 hb78
     obtain ⟨u0_, u1_, u2_, u3_⟩ := cells4 R13.out
     go_wp2_with fail
     clear u0_ u1_ u2_ u3_
     (with_reducible refine (depotref06_Look.calls gk ge gt A7 k7 gl G0 x0 gc g0 W8 HC8.out hk7 (HLG.out ⟨by first | trivial | rfl, by first | trivial | rfl, by first | trivial | rfl, HW.out⟩)).mono ?_)
     rintro o w9 ⟨v0, rfl, hR, hb⟩
     obtain ⟨A9, k9, hv0, hk9, hC9⟩ := Kd.R_reads hR
     subst hv0
     obtain ⟨b14, hb14⟩ : ∃ b, b = w9.heap.size := ⟨_, rfl⟩
     obtain ⟨W10, hW10⟩ : ∃ W10, W10 = w9.alloc (.cells #[.slice A9 G0.length k9, .int .i64 x0, .int .i64 gc, .string g0] seenT) := ⟨_, rfl⟩
     have R14 : Aside0 (Blk W10 b14 seenT [.slice A9 G0.length k9, .int .i64 x0, .int .i64 gc, .string g0]) := ⟨by rw [hW10, hb14]; exact Blk.new w9 _ [.slice A9 G0.length k9, .int .i64 x0, .int .i64 gc, .string g0]⟩
     have hb810 : Below W8.heap.size W8 W10 := by rw [hW10]; exact below_step hb (below_alloc (Below.refl _ _) _)
     have HNE14 : Aside0 (b14 ≠ b4) := ⟨by have h1 := R4.out.lt; have h2 := hb.size; omega⟩
     replace R4 := Aside0.mk (R4.out.below hb810)
     replace R13 := Aside0.mk (R13.out.below hb810)
     replace HB := Aside0.mk (below_step HB.out hb810)
     replace HR7 := Aside0.mk (Kd.R_below HR7.out hb810)
     clear hb hR hC9 hb810 HC8
     by_cases h4 : gc = 0
     ·subst h4
      have hr : r = ((gk, ge, gt, gl), 0) := by
       cases HF.out with
       | bad h hr => exact absurd rfl h
       | sub h h1 => exact absurd rfl h1
       | path h h1 h2 => exact absurd rfl h2
       | way h h1 h2 wy hw h3 => rw [HW.out] at hw; injection hw with hw; exact absurd hw.symm h3
       | big h h1 h2 hw h3 => exact absurd rfl h3
       | put h h1 h2 hw h3 hr => exact hr
      clear HF
      go_wp2_with ((with_reducible refine gate_dst (N := 59) rfl ?_); refine Stand.go ?_)
      unfold Stand
      rw [← hW10]
      clear hW10 hb14
      obtain ⟨u0_, u1_, u2_, u3_⟩ := cells4 R13.out
      obtain ⟨v0_, v1_, v2_, v3_⟩ := cells4 R4.out
      have f0 := R4.out.frozen 0
      have f1 := R4.out.frozen 1
      have f2 := R4.out.frozen 2
      have f3 := R4.out.frozen 3
      go_wp2_with fail
      obtain ⟨Wf, hWf⟩ : ∃ Wf, Wf = (((W10.setCell ⟨b4, 0, none⟩ (.int .i64 gk)).setCell ⟨b4, 1, none⟩ (.bool ge)).setCell ⟨b4, 2, none⟩ (.string gt)).setCell ⟨b4, 3, none⟩ (.slice A7 gl.length k7) := ⟨_, rfl⟩
      have hRf : Blk Wf b4 32 [.int .i64 gk, .bool ge, .string gt, .slice A7 gl.length k7] := by rw [hWf]; exact put4_blk R4.out
      have hBf : Below w.heap.size w Wf := by rw [hWf]; exact below_put4 HB.out HBB.out
      have hCf : Kd.C kE Wf A7 gl.length gl := by
       have h4 : ∀ j, w6.heap.size ≤ j → j ≠ b4 := fun j hj e => by have := H4LT.out; omega
       rw [hWf]
       exact (Kd.R_reads' (Kd.R_far (Kd.R_far (Kd.R_far (Kd.R_far HR7.out (p := ⟨b4, 0, none⟩) h4 _) (p := ⟨b4, 1, none⟩) h4 _) (p := ⟨b4, 2, none⟩) h4 _) (p := ⟨b4, 3, none⟩) h4 _)).2.2
      rw [← hWf, hr]
      obtain ⟨k0_, k1_, k2_, k3_⟩ := cells4 hRf
      exact bodyPost_ret (v := .tuple #[.agg #[.int .i64 gk, .bool ge, .string gt, .slice A7 gl.length k7], .int .i64 0]) (by simp [results, Tryd.results21, go_sem, k0_, k1_, k2_, k3_]) rfl ⟨A7, k7, rfl, ⟨hk7, hCf⟩, hBf⟩
     ·have d4 : (gc != 0) = true := bne_iff_ne.mpr h4
      have hr : r = (zeroT, gc) := by
       cases HF.out with
       | bad h hr => exact absurd rfl h
       | sub h h1 => exact absurd rfl h1
       | path h h1 h2 => exact absurd rfl h2
       | way h h1 h2 wy hw h3 => rw [HW.out] at hw; injection hw with hw; exact absurd hw.symm h3
       | big h h1 h2 hw h3 hr => exact hr
       | put h h1 h2 hw h3 => exact absurd h3 h4
      clear HF
      go_wp2_with fail
      rw [← hW10, ← hb14]
      clear hW10 hb14
      obtain ⟨x0_, x1_, x2_, x3_⟩ := cells4 R14.out
      have hdr : Below W10.heap.size W10 W10.drew := below_drew (Below.refl _ _)
      refine start_ (n := 5) (S := fun w' => w'.cell? ⟨b14, 2, none⟩ = some (.int .i64 gc)) (ds := []) #[false, false, false, false, false] (by kernel_rfl) rfl rfl (pw_cell_below hdr x2_) (fun hHeld => ?_)
      have R4d := Aside0.mk (R4.out.below hdr)
      have HBd := Aside0.mk (below_step HB.out hdr)
      have y2_ := pw_cell_below hdr x2_
      generalize W10.drew = W9 at *
      clear hdr R4 HB R14 x0_ x1_ x2_ x3_
      refine pure_ (i := 0) (N := some 56) (v := ?_) (a' := ?_) #[true, false, false, false, false] rfl rfl (by kernel_rfl) (fun _ _ _ h => h) (Or.inl ⟨by rfl, ?_⟩) ?_ ?_
      rotate_left
      ·intro w'
       go_simp
       with_reducible rfl
      rotate_left
      ·simp only [Act.put, List.setIfInBounds_toArray, List.set_cons_zero, List.set_cons_succ, i64_w, i32_w]
       rfl
      refine pure_ (i := 1) (N := some 57) (v := ?_) (a' := ?_) #[true, true, false, false, false] rfl rfl (by kernel_rfl) (fun _ _ _ h => h) (Or.inl ⟨by rfl, ?_⟩) ?_ ?_
      rotate_left
      ·intro w'
       go_simp
       with_reducible rfl
      rotate_left
      ·simp only [Act.put, List.setIfInBounds_toArray, List.set_cons_zero, List.set_cons_succ, i64_w, i32_w]
       rfl
      refine take_ (i := 2) (N := some 58) (v := ?_) (a' := ?_) #[true, true, true, false, false] rfl rfl (by kernel_rfl) (fun _ _ _ h => h) (Or.inl ⟨by rfl, ?_⟩) hHeld ?_ ?_
      rotate_left
      ·intro w' s0
       go_simp
       with_reducible rfl
      rotate_left
      ·simp only [Act.put, List.setIfInBounds_toArray, List.set_cons_zero, List.set_cons_succ, i64_w, i32_w]
       rfl
      obtain ⟨Wf, hWf⟩ : ∃ Wf, Wf = (((W9.setCell ⟨b4, 0, none⟩ (.int .i64 0)).setCell ⟨b4, 1, none⟩ (.bool false)).setCell ⟨b4, 2, none⟩ (.string ⟨#[]⟩)).setCell ⟨b4, 3, none⟩ (.slice none 0 0) := ⟨_, rfl⟩
      have hRf : Blk Wf b4 32 [.int .i64 0, .bool false, .string ⟨#[]⟩, .slice none 0 0] := by rw [hWf]; exact put4_blk R4d.out
      have hBf : Below w.heap.size w Wf := by rw [hWf]; exact below_put4 HBd.out HBB.out
      have hne : b14 ≠ b4 := HNE14.out
      have hyf : Wf.cell? ⟨b14, 2, none⟩ = some (.int .i64 gc) := by
       have e : Wf.heap[b14]? = W9.heap[b14]? := by
        rw [hWf, Below.heap_setCell _ _ _ _ (by exact hne), Below.heap_setCell _ _ _ _ (by exact hne), Below.heap_setCell _ _ _ _ (by exact hne), Below.heap_setCell _ _ _ _ (by exact hne)]
       unfold World.cell? at y2_ ⊢
       rw [e]; exact y2_
      obtain ⟨v0_, v1_, v2_, v3_⟩ := cells4 R4d.out
      have f0 := R4d.out.frozen 0
      have f1 := R4d.out.frozen 1
      have f2 := R4d.out.frozen 2
      have f3 := R4d.out.frozen 3
      refine one_ (i := 3) (N := none) #[true, true, true, true, false] rfl rfl (by kernel_rfl) (by decide) (fun K hK => ?_)
      refine skip_ (w1 := Wf) (by rfl) rfl ?_ ?_
      ·rw [hWf]
       show _ = Result.ok _ ((((W9.setCell ⟨b4, 0, none⟩ (.int .i64 0)).setCell ⟨b4, 1, none⟩ (.bool false)).setCell ⟨b4, 2, none⟩ (.string ⟨#[]⟩)).setCell ⟨b4, 3, none⟩ (.slice none 0 0))
       go_simp
      refine hK.out _ _ hyf (fun _ => ?_)
      clear hK K v0_ v1_ v2_ v3_ f0 f1 f2 f3
      refine pure_ (i := 4) (N := some 7) (v := ?_) (a' := ?_) #[true, true, true, true, true] rfl rfl (by kernel_rfl) (fun _ _ _ h => h) (Or.inl ⟨by rfl, ?_⟩) ?_ ?_
      rotate_left
      ·intro w'
       go_simp
       with_reducible rfl
      rotate_left
      ·simp only [Act.put, List.setIfInBounds_toArray, List.set_cons_zero, List.set_cons_succ, i64_w, i32_w]
       rfl
      refine done_ (by kernel_rfl) ?_
      go_wp2_with fail
      rw [hr]
      obtain ⟨k0_, k1_, k2_, k3_⟩ := cells4 hRf
      refine bodyPost_ret (v := .tuple #[.agg #[.int .i64 0, .bool false, .string ⟨#[]⟩, .slice none 0 0], .int .i64 gc]) (by simp [results, Tryd.results21, go_sem, k0_, k1_, k2_, k3_]) rfl (made_zero rfl hBf)
    ·have d3 : (wy != 0) = true := bne_iff_ne.mpr h3
     have hr : r = (zeroT, wy) := by
      cases HF.out with
      | bad h hr => exact absurd rfl h
      | sub h h1 => exact absurd rfl h1
      | path h h1 h2 => exact absurd rfl h2
      | way h h1 h2 wy' hw h4 hr => rw [HW.out] at hw; injection hw with hw; rw [hr, hw]
      | big h h1 h2 hw => rw [HW.out] at hw; injection hw with hw; exact absurd hw h3
      | put h h1 h2 hw => rw [HW.out] at hw; injection hw with hw; exact absurd hw h3
     clear HF
     obtain ⟨v0_, v1_, v2_, v3_⟩ := cells4 R4.out
     have f0 := R4.out.frozen 0
     have f1 := R4.out.frozen 1
     have f2 := R4.out.frozen 2
     have f3 := R4.out.frozen 3
     go_wp2_with fail
     obtain ⟨Wf, hWf⟩ : ∃ Wf, Wf = (((w6.setCell ⟨b4, 0, none⟩ (.int .i64 0)).setCell ⟨b4, 1, none⟩ (.bool false)).setCell ⟨b4, 2, none⟩ (.string ⟨#[]⟩)).setCell ⟨b4, 3, none⟩ (.slice none 0 0) := ⟨_, rfl⟩
     have hRf : Blk Wf b4 32 [.int .i64 0, .bool false, .string ⟨#[]⟩, .slice none 0 0] := by rw [hWf]; exact put4_blk R4.out
     have hBf : Below w.heap.size w Wf := by rw [hWf]; exact below_put4 HB.out HBB.out
     rw [← hWf, hr]
     obtain ⟨k0_, k1_, k2_, k3_⟩ := cells4 hRf
     refine bodyPost_ret (v := .tuple #[.agg #[.int .i64 0, .bool false, .string ⟨#[]⟩, .slice none 0 0], .int .i64 wy]) (by simp [results, Tryd.results21, go_sem, k0_, k1_, k2_, k3_]) rfl (made_zero rfl hBf)
   ·have d2 : (cd == 0) = false := beq_eq_false_iff_ne.mpr h2
    have d3 : (cd != 0) = true := bne_iff_ne.mpr h2
    have hr : r = (zeroT, cd) := by
     cases HF.out with
     | bad h hr => exact absurd rfl h
     | sub h h1 => exact absurd rfl h1
     | path h h1 h2 hr => exact hr
     | way h h1 h3 => exact absurd h3 h2
     | big h h1 h3 => exact absurd h3 h2
     | put h h1 h3 => exact absurd h3 h2
    clear HF
    obtain ⟨v0_, v1_, v2_, v3_⟩ := cells4 R4.out
    have f0 := R4.out.frozen 0
    have f1 := R4.out.frozen 1
    have f2 := R4.out.frozen 2
    have f3 := R4.out.frozen 3
    go_wp2_with fail
    obtain ⟨Wf, hWf⟩ : ∃ Wf, Wf = (((w5.setCell ⟨b4, 0, none⟩ (.int .i64 0)).setCell ⟨b4, 1, none⟩ (.bool false)).setCell ⟨b4, 2, none⟩ (.string ⟨#[]⟩)).setCell ⟨b4, 3, none⟩ (.slice none 0 0) := ⟨_, rfl⟩
    have hRf : Blk Wf b4 32 [.int .i64 0, .bool false, .string ⟨#[]⟩, .slice none 0 0] := by rw [hWf]; exact put4_blk R4.out
    have hBf : Below w.heap.size w Wf := by rw [hWf]; exact below_put4 HB.out HBB.out
    rw [← hWf, hr]
    obtain ⟨k0_, k1_, k2_, k3_⟩ := cells4 hRf
    refine bodyPost_ret (v := .tuple #[.agg #[.int .i64 0, .bool false, .string ⟨#[]⟩, .slice none 0 0], .int .i64 cd]) (by simp [results, Tryd.results21, go_sem, k0_, k1_, k2_, k3_]) rfl (made_zero rfl hBf)
  ·have d1 : (s0 != 0) = true := bne_iff_ne.mpr h1
   have hr : r = (zeroT, s0) := by
    cases HF.out with
    | bad h hr => exact absurd rfl h
    | sub h h1 hr => exact hr
    | path h h2 => exact absurd h2 h1
    | way h h2 => exact absurd h2 h1
    | big h h2 => exact absurd h2 h1
    | put h h2 => exact absurd h2 h1
   clear HF
   go_wp2_with fail
   rw [← hW4, ← hb9]
   clear hW4 hb9
   obtain ⟨x0_, x1_, x2_, x3_⟩ := cells4 R9.out
   have hdr : Below W4.heap.size W4 W4.drew := below_drew (Below.refl _ _)
   refine start_ (n := 5) (S := fun w' => w'.cell? ⟨b9, 2, none⟩ = some (.int .i64 s0)) (ds := []) #[false, false, false, false, false] (by kernel_rfl) rfl rfl (pw_cell_below hdr x2_) (fun hHeld => ?_)
   have R4d := Aside0.mk (R4.out.below hdr)
   have HBd := Aside0.mk (below_step HB.out hdr)
   have y2_ := pw_cell_below hdr x2_
   generalize W4.drew = W9 at *
   clear hdr R4 HB R9 x0_ x1_ x2_ x3_
   refine pure_ (i := 0) (N := some 28) (v := ?_) (a' := ?_) #[true, false, false, false, false] rfl rfl (by kernel_rfl) (fun _ _ _ h => h) (Or.inl ⟨by rfl, ?_⟩) ?_ ?_
   rotate_left
   ·intro w'
    go_simp
    with_reducible rfl
   rotate_left
   ·simp only [Act.put, List.setIfInBounds_toArray, List.set_cons_zero, List.set_cons_succ, i64_w, i32_w]
    rfl
   refine pure_ (i := 1) (N := some 29) (v := ?_) (a' := ?_) #[true, true, false, false, false] rfl rfl (by kernel_rfl) (fun _ _ _ h => h) (Or.inl ⟨by rfl, ?_⟩) ?_ ?_
   rotate_left
   ·intro w'
    go_simp
    with_reducible rfl
   rotate_left
   ·simp only [Act.put, List.setIfInBounds_toArray, List.set_cons_zero, List.set_cons_succ, i64_w, i32_w]
    rfl
   refine take_ (i := 2) (N := some 30) (v := ?_) (a' := ?_) #[true, true, true, false, false] rfl rfl (by kernel_rfl) (fun _ _ _ h => h) (Or.inl ⟨by rfl, ?_⟩) hHeld ?_ ?_
   rotate_left
   ·intro w' s0
    go_simp
    with_reducible rfl
   rotate_left
   ·simp only [Act.put, List.setIfInBounds_toArray, List.set_cons_zero, List.set_cons_succ, i64_w, i32_w]
    rfl
   obtain ⟨Wf, hWf⟩ : ∃ Wf, Wf = (((W9.setCell ⟨b4, 0, none⟩ (.int .i64 0)).setCell ⟨b4, 1, none⟩ (.bool false)).setCell ⟨b4, 2, none⟩ (.string ⟨#[]⟩)).setCell ⟨b4, 3, none⟩ (.slice none 0 0) := ⟨_, rfl⟩
   have hRf : Blk Wf b4 32 [.int .i64 0, .bool false, .string ⟨#[]⟩, .slice none 0 0] := by rw [hWf]; exact put4_blk R4d.out
   have hBf : Below w.heap.size w Wf := by rw [hWf]; exact below_put4 HBd.out HBB.out
   have hne : b9 ≠ b4 := HNE9.out
   have hyf : Wf.cell? ⟨b9, 2, none⟩ = some (.int .i64 s0) := by
    have e : Wf.heap[b9]? = W9.heap[b9]? := by
     rw [hWf, Below.heap_setCell _ _ _ _ (by exact hne), Below.heap_setCell _ _ _ _ (by exact hne), Below.heap_setCell _ _ _ _ (by exact hne), Below.heap_setCell _ _ _ _ (by exact hne)]
    unfold World.cell? at y2_ ⊢
    rw [e]; exact y2_
   obtain ⟨v0_, v1_, v2_, v3_⟩ := cells4 R4d.out
   have f0 := R4d.out.frozen 0
   have f1 := R4d.out.frozen 1
   have f2 := R4d.out.frozen 2
   have f3 := R4d.out.frozen 3
   refine one_ (i := 3) (N := none) #[true, true, true, true, false] rfl rfl (by kernel_rfl) (by decide) (fun K hK => ?_)
   refine skip_ (w1 := Wf) (by rfl) rfl ?_ ?_
   ·rw [hWf]
    show _ = Result.ok _ ((((W9.setCell ⟨b4, 0, none⟩ (.int .i64 0)).setCell ⟨b4, 1, none⟩ (.bool false)).setCell ⟨b4, 2, none⟩ (.string ⟨#[]⟩)).setCell ⟨b4, 3, none⟩ (.slice none 0 0))
    go_simp
   refine hK.out _ _ hyf (fun _ => ?_)
   clear hK K v0_ v1_ v2_ v3_ f0 f1 f2 f3
   refine pure_ (i := 4) (N := some 7) (v := ?_) (a' := ?_) #[true, true, true, true, true] rfl rfl (by kernel_rfl) (fun _ _ _ h => h) (Or.inl ⟨by rfl, ?_⟩) ?_ ?_
   rotate_left
   ·intro w'
    go_simp
    with_reducible rfl
   rotate_left
   ·simp only [Act.put, List.setIfInBounds_toArray, List.set_cons_zero, List.set_cons_succ, i64_w, i32_w]
    rfl
   refine done_ (by kernel_rfl) ?_
   go_wp2_with fail
   rw [hr]
   obtain ⟨k0_, k1_, k2_, k3_⟩ := cells4 hRf
   refine bodyPost_ret (v := .tuple #[.agg #[.int .i64 0, .bool false, .string ⟨#[]⟩, .slice none 0 0], .int .i64 s0]) (by simp [results, Tryd.results21, go_sem, k0_, k1_, k2_, k3_]) rfl (made_zero rfl hBf)
 ·have d0 : (c0 != 0) = true := bne_iff_ne.mpr h0
  have hr : r = (zeroT, c0) := by
   cases HF.out with
   | bad h hr => exact hr
   | sub h => exact absurd h h0
   | path h => exact absurd h h0
   | way h => exact absurd h h0
   | big h => exact absurd h h0
   | put h => exact absurd h h0
  clear HF
  go_wp2_with fail
  rw [← hW2, ← hb8]
  clear hW2 hb8
  obtain ⟨x0_, x1_, x2_, x3_⟩ := cells4 R8.out
  have hdr : Below W2.heap.size W2 W2.drew := below_drew (Below.refl _ _)
  refine start_ (n := 5) (S := fun w' => w'.cell? ⟨b8, 2, none⟩ = some (.int .i64 c0)) (ds := []) #[false, false, false, false, false] (by kernel_rfl) rfl rfl (pw_cell_below hdr x2_) (fun hHeld => ?_)
  have R4d := Aside0.mk (R4.out.below hdr)
  have HBd := Aside0.mk (below_step HB.out hdr)
  have y2_ := pw_cell_below hdr x2_
  generalize W2.drew = W9 at *
  clear hdr R4 HB R8 x0_ x1_ x2_ x3_
  refine pure_ (i := 0) (N := some 20) (v := ?_) (a' := ?_) #[true, false, false, false, false] rfl rfl (by kernel_rfl) (fun _ _ _ h => h) (Or.inl ⟨by rfl, ?_⟩) ?_ ?_
  rotate_left
  ·intro w'
   go_simp
   with_reducible rfl
  rotate_left
  ·simp only [Act.put, List.setIfInBounds_toArray, List.set_cons_zero, List.set_cons_succ, i64_w, i32_w]
   rfl
  refine pure_ (i := 1) (N := some 21) (v := ?_) (a' := ?_) #[true, true, false, false, false] rfl rfl (by kernel_rfl) (fun _ _ _ h => h) (Or.inl ⟨by rfl, ?_⟩) ?_ ?_
  rotate_left
  ·intro w'
   go_simp
   with_reducible rfl
  rotate_left
  ·simp only [Act.put, List.setIfInBounds_toArray, List.set_cons_zero, List.set_cons_succ, i64_w, i32_w]
   rfl
  refine take_ (i := 2) (N := some 22) (v := ?_) (a' := ?_) #[true, true, true, false, false] rfl rfl (by kernel_rfl) (fun _ _ _ h => h) (Or.inl ⟨by rfl, ?_⟩) hHeld ?_ ?_
  rotate_left
  ·intro w' s0
   go_simp
   with_reducible rfl
  rotate_left
  ·simp only [Act.put, List.setIfInBounds_toArray, List.set_cons_zero, List.set_cons_succ, i64_w, i32_w]
   rfl
  obtain ⟨Wf, hWf⟩ : ∃ Wf, Wf = (((W9.setCell ⟨b4, 0, none⟩ (.int .i64 0)).setCell ⟨b4, 1, none⟩ (.bool false)).setCell ⟨b4, 2, none⟩ (.string ⟨#[]⟩)).setCell ⟨b4, 3, none⟩ (.slice none 0 0) := ⟨_, rfl⟩
  have hRf : Blk Wf b4 32 [.int .i64 0, .bool false, .string ⟨#[]⟩, .slice none 0 0] := by rw [hWf]; exact put4_blk R4d.out
  have hBf : Below w.heap.size w Wf := by rw [hWf]; exact below_put4 HBd.out HBB.out
  have hne : b8 ≠ b4 := HNE8.out
  have hyf : Wf.cell? ⟨b8, 2, none⟩ = some (.int .i64 c0) := by
   have e : Wf.heap[b8]? = W9.heap[b8]? := by
    rw [hWf, Below.heap_setCell _ _ _ _ (by exact hne), Below.heap_setCell _ _ _ _ (by exact hne), Below.heap_setCell _ _ _ _ (by exact hne), Below.heap_setCell _ _ _ _ (by exact hne)]
   unfold World.cell? at y2_ ⊢
   rw [e]; exact y2_
  obtain ⟨v0_, v1_, v2_, v3_⟩ := cells4 R4d.out
  have f0 := R4d.out.frozen 0
  have f1 := R4d.out.frozen 1
  have f2 := R4d.out.frozen 2
  have f3 := R4d.out.frozen 3
  refine one_ (i := 3) (N := none) #[true, true, true, true, false] rfl rfl (by kernel_rfl) (by decide) (fun K hK => ?_)
  refine skip_ (w1 := Wf) (by rfl) rfl ?_ ?_
  ·rw [hWf]
   show _ = Result.ok _ ((((W9.setCell ⟨b4, 0, none⟩ (.int .i64 0)).setCell ⟨b4, 1, none⟩ (.bool false)).setCell ⟨b4, 2, none⟩ (.string ⟨#[]⟩)).setCell ⟨b4, 3, none⟩ (.slice none 0 0))
   go_simp
  refine hK.out _ _ hyf (fun _ => ?_)
  clear hK K v0_ v1_ v2_ v3_ f0 f1 f2 f3
  refine pure_ (i := 4) (N := some 7) (v := ?_) (a' := ?_) #[true, true, true, true, true] rfl rfl (by kernel_rfl) (fun _ _ _ h => h) (Or.inl ⟨by rfl, ?_⟩) ?_ ?_
  rotate_left
  ·intro w'
   go_simp
   with_reducible rfl
  rotate_left
  ·simp only [Act.put, List.setIfInBounds_toArray, List.set_cons_zero, List.set_cons_succ, i64_w, i32_w]
   rfl
  refine done_ (by kernel_rfl) ?_
  go_wp2_with fail
  rw [hr]
  obtain ⟨k0_, k1_, k2_, k3_⟩ := cells4 hRf
  refine bodyPost_ret (v := .tuple #[.agg #[.int .i64 0, .bool false, .string ⟨#[]⟩, .slice none 0 0], .int .i64 c0]) (by simp [results, Tryd.results21, go_sem, k0_, k1_, k2_, k3_]) rfl (made_zero rfl hBf)
end Go.Proofs.YtnemeeidomceiaaDoor
end
section
namespace Go.Proofs.YtnemeeidomceiaaDoor
open Go.RowKit Go.Proofs.YtnemeeidomceiaaDoorW.PrintWords Go.Proofs.YtnemeeidomceiaaDoorW.PrintLast Go.Proofs.YtnemeeidomceiaaDoorW.PrintMore
set_option linter.unusedVariables false
set_option linter.unusedSimpArgs false
end Go.Proofs.YtnemeeidomceiaaDoor
end
section
namespace Go.Proofs.YtnemeeidomceiaaDoor
open Go.RowKit Go.Proofs.YtnemeeidomceiaaDoorW.PrintWords Go.Proofs.YtnemeeidomceiaaDoorW.PrintLast Go.Proofs.YtnemeeidomceiaaDoorW.PrintMore Go.Proofs.YtnemeeidomceiaaDoor.PGTreeGets
set_option linter.unusedVariables false
set_option linter.unusedSimpArgs false
theorem rows_ref {a : Int} {e : Bool} {c : ByteArray} {l : List Ent} {bb : Int} {rws : List RowT} (hh : Held c l) (hs : lookL a e c l = .ok bb rws) : (lookRows (lookL a e c l)).map rowR = (nrows 32 [] ⟨⟨#[]⟩, a, e, c, l⟩).map rowN := by
 obtain ⟨_, _, hrws⟩ := look_tree hh hs
 rw [hs]
 show rws.map rowR = _
 rw [hrws, List.map_map]
 rfl
end Go.Proofs.YtnemeeidomceiaaDoor
end
