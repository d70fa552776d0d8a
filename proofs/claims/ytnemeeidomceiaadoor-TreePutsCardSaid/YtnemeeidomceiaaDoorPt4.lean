import Derived.Test.YtnemeeidomceiaaDoorPt2
import Derived.Test.YtnemeeidomceiaaDoorPt3
set_option linter.unusedSimpArgs false
set_option linter.unusedVariables false
section
namespace Go.Proofs.YtnemeeidomceiaaDoor.PTreeChecks
open Go.RowKit Go.Proofs.YtnemeeidomceiaaDoorW.PrintWords Go.Proofs.YtnemeeidomceiaaDoorW.PrintLast Go.Proofs.YtnemeeidomceiaaDoorW.PrintMore
attribute [local go_sem] max2_int min2_int max_two min_two max_three min_three max_four min_four   -- for this text's walks alone
set_option linter.unusedVariables false
set_option linter.unusedSimpArgs false
noncomputable section
mutual
def depotref05_Compare.l0 : Nat → ByteArray → ByteArray → Int → Option (Int)
 | 0, _, _, _ => none
 | k + 1, x0, x1, x5 => if x5 < (x0.size : Int) then (depotref05_Compare.j1 k x0 x1 x5 true) else (depotref05_Compare.j1 k x0 x1 x5 (decide (x5 < (x1.size : Int))))
def depotref05_Compare.j1 : Nat → ByteArray → ByteArray → Int → Bool → Option (Int)
 | 0, _, _, _, _ => none
 | k + 1, x0, x1, x5, x15 => if x15 = true then (if x5 = (x0.size : Int) then (some (-1)) else (if x5 = (x1.size : Int) then (depotref05_Compare.j2 k x0 x1 x5 true) else (if 0 ≤ x5 then (if x5 < (x0.size : Int) then (if x5 < (x1.size : Int) then (depotref05_Compare.j2 k x0 x1 x5 (decide ((bt x0 x5) > (bt x1 x5)))) else (none)) else (none)) else (none)))) else (some 0)
def depotref05_Compare.j2 : Nat → ByteArray → ByteArray → Int → Bool → Option (Int)
 | 0, _, _, _, _ => none
 | k + 1, x0, x1, x5, x34 => if x34 = true then (some 1) else (if 0 ≤ x5 then (if x5 < (x0.size : Int) then (if x5 < (x1.size : Int) then (if (bt x0 x5) < (bt x1 x5) then (some (-1)) else (depotref05_Compare.l0 k x0 x1 (wrap64 (x5 + 1)))) else (none)) else (none)) else (none))
end
def depotref05_Compare.f (k : Nat) (a0 : ByteArray) (a1 : ByteArray) : Option (Int) := depotref05_Compare.l0 k a0 a1 0
theorem depotref05_Compare.mono_l : ∀ k, (∀ y0 y1 y2, LeO (depotref05_Compare.l0 k y0 y1 y2) (depotref05_Compare.l0 (k + 1) y0 y1 y2)) ∧ (∀ y0 y1 y2 y3, LeO (depotref05_Compare.j1 k y0 y1 y2 y3) (depotref05_Compare.j1 (k + 1) y0 y1 y2 y3)) ∧ (∀ y0 y1 y2 y3, LeO (depotref05_Compare.j2 k y0 y1 y2 y3) (depotref05_Compare.j2 (k + 1) y0 y1 y2 y3))
 | 0 => ⟨fun _ _ _ r h => by simp [depotref05_Compare.l0] at h, fun _ _ _ _ r h => by simp [depotref05_Compare.j1] at h, fun _ _ _ _ r h => by simp [depotref05_Compare.j2] at h⟩
 | k + 1 => by
  obtain ⟨ih0, ih1, ih2⟩ := depotref05_Compare.mono_l k
  refine ⟨?_, ?_, ?_⟩
  ·intro y0 y1 y2
   unfold depotref05_Compare.l0
   repeat' first
   | (with_reducible exact ih0 _ _ _)
   | (with_reducible exact ih1 _ _ _ _)
   | (with_reducible exact ih2 _ _ _ _)
   | (with_reducible exact LeO.refl _)
   | (with_reducible exact LeO.none _)
   | (with_reducible refine LeO.ite ?_ ?_)
   | (with_reducible refine LeO.bind ?_ (fun _ => ?_))
   | exact ih0 _ _ _
   | exact ih1 _ _ _ _
   | exact ih2 _ _ _ _
   | exact LeO.none _
   | refine LeO.ite ?_ ?_
   | refine LeO.bind ?_ (fun _ => ?_)
  ·intro y0 y1 y2 y3
   unfold depotref05_Compare.j1
   repeat' first
   | (with_reducible exact ih0 _ _ _)
   | (with_reducible exact ih1 _ _ _ _)
   | (with_reducible exact ih2 _ _ _ _)
   | (with_reducible exact LeO.refl _)
   | (with_reducible exact LeO.none _)
   | (with_reducible refine LeO.ite ?_ ?_)
   | (with_reducible refine LeO.bind ?_ (fun _ => ?_))
   | exact ih0 _ _ _
   | exact ih1 _ _ _ _
   | exact ih2 _ _ _ _
   | exact LeO.none _
   | refine LeO.ite ?_ ?_
   | refine LeO.bind ?_ (fun _ => ?_)
  ·intro y0 y1 y2 y3
   unfold depotref05_Compare.j2
   repeat' first
   | (with_reducible exact ih0 _ _ _)
   | (with_reducible exact ih1 _ _ _ _)
   | (with_reducible exact ih2 _ _ _ _)
   | (with_reducible exact LeO.refl _)
   | (with_reducible exact LeO.none _)
   | (with_reducible refine LeO.ite ?_ ?_)
   | (with_reducible refine LeO.bind ?_ (fun _ => ?_))
   | exact ih0 _ _ _
   | exact ih1 _ _ _ _
   | exact ih2 _ _ _ _
   | exact LeO.none _
   | refine LeO.ite ?_ ?_
   | refine LeO.bind ?_ (fun _ => ?_)
theorem depotref05_Compare.mono : ∀ a0 a1 k, LeO (depotref05_Compare.f k a0 a1) (depotref05_Compare.f (k + 1) a0 a1) := by
 intro a0 a1 k
 obtain ⟨ih0, ih1, ih2⟩ := depotref05_Compare.mono_l k
 unfold depotref05_Compare.f
 repeat' first
   | (with_reducible exact ih0 _ _ _)
   | (with_reducible exact ih1 _ _ _ _)
   | (with_reducible exact ih2 _ _ _ _)
   | (with_reducible exact LeO.refl _)
   | (with_reducible exact LeO.none _)
   | (with_reducible refine LeO.ite ?_ ?_)
   | (with_reducible refine LeO.bind ?_ (fun _ => ?_))
   | exact ih0 _ _ _
   | exact ih1 _ _ _ _
   | exact ih2 _ _ _ _
   | exact LeO.none _
   | refine LeO.ite ?_ ?_
   | refine LeO.bind ?_ (fun _ => ?_)
set_option maxHeartbeats 8000000 in
set_option maxRecDepth 100000 in
theorem depotref05_Compare.calls (k : Nat) (a0 : ByteArray) (a1 : ByteArray) (r : Int) (w : World) (h : depotref05_Compare.f k a0 a1 = some r) :
  Calls Tryd.prog 59 #[.string a0, .string a1] w fun e w' => e = .returned (.int .i64 r) ∧ Drawn0 w w' := by
 have H : (depotref05_Compare.l0 k a0 a1 0) = some r := h
 clear h
 have H' := Aside0.mk H
 clear H
 go_enter Tryd.func59, Tryd.ntmps59
 go_wp2
 repeat (go_quiet (fail); try go_wp2)
 go_loopg [5] k (fun kq v5 w' => ∃ (x5_1 : Int), v5 = .int .i64 x5_1 ∧ Aside0 (depotref05_Compare.l0 kq a0 a1 x5_1 = some r) ∧ Aside0 (kq ≤ k) ∧ Drawn0 w w')
 case atStart => exact ⟨(0), (by first | rfl | (simp; done) | (simp [*]; done)), H', ⟨Nat.le_refl _⟩, by repeat (first | exact Drawn0.refl _ | apply Drawn0.step)⟩
 case round =>
  clear H'
  try clear p2
  obtain ⟨x5_1, rfl, HA, HK1, ⟨m1, rfl⟩⟩ := hrel
  cases gk with
  | zero => exact absurd HA.out (by simp [depotref05_Compare.l0])
  | succ k1 =>
   have H := HA.out
   clear HA
   simp only [depotref05_Compare.l0] at H
   have HC3 := Aside0.mk H
   clear H
   go_upto_region 2 with (fail)
   repeat (go_quiet (fail); go_upto_region 2 with (fail))
   go_cut [15] (fun v15 wc => ∃ (kq : Nat) (x15_2 : Bool), v15 = .bool x15_2 ∧ Aside0 (depotref05_Compare.j1 kq a0 a1 x5_1 x15_2 = some r) ∧ Aside0 (kq ≤ k1) ∧ Drawn0 w wc)
   case first =>
    have H := HC3.out
    clear HC3
    by_cases c4 : x5_1 < (a0.size : Int)
    ·rw [if_pos c4] at H
     have c4b0 : decide (x5_1 < (a0.size : Int)) = true := decide_eq_true c4
     clear c4
     (first | rw [c4b0] | (simp only [i64_w, i32_w]; rw [c4b0]) | skip)
     have H' := Aside0.mk H
     clear H
     go_wp2
     repeat (go_quiet (fail); try go_wp2)
     go_meet
     case rel => exact ⟨_, (true), (by first | rfl | (simp; done) | (simp [*]; done)), H', ⟨by have := HK1.out; first | omega | exact Nat.le_refl _⟩, by repeat (first | exact Drawn0.refl _ | apply Drawn0.step)⟩
    ·rw [if_neg c4] at H
     have c4b0 : decide (x5_1 < (a0.size : Int)) = false := decide_eq_false c4
     clear c4
     (first | rw [c4b0] | (simp only [i64_w, i32_w]; rw [c4b0]) | skip)
     have H' := Aside0.mk H
     clear H
     go_wp2
     repeat (go_quiet (fail); try go_wp2)
     go_meet
     case rel => exact ⟨_, (decide (x5_1 < (a1.size : Int))), (by first | rfl | (simp; done) | (simp [*]; done)), H', ⟨by have := HK1.out; first | omega | exact Nat.le_refl _⟩, by repeat (first | exact Drawn0.refl _ | apply Drawn0.step)⟩
   case rest =>
    clear HC3
    try clear p2
    try clear c4
    try clear c4b0
    try clear p2
    obtain ⟨kq, x15_2, rfl, HA, HJ2, ⟨mc2, rfl⟩⟩ := hcut
    cases kq with
    | zero => exact absurd HA.out (by simp [depotref05_Compare.j1])
    | succ kj2 =>
     have H := HA.out
     clear HA
     simp only [depotref05_Compare.j1] at H
     by_cases c5 : x15_2 = true
     ·subst c5
      have H1 : (if x5_1 = (a0.size : Int) then (some (-1)) else (if x5_1 = (a1.size : Int) then (depotref05_Compare.j2 kj2 a0 a1 x5_1 true) else (if 0 ≤ x5_1 then (if x5_1 < (a0.size : Int) then (if x5_1 < (a1.size : Int) then (depotref05_Compare.j2 kj2 a0 a1 x5_1 (decide ((bt a0 x5_1) > (bt a1 x5_1)))) else (none)) else (none)) else (none)))) = some r := by rw [if_pos rfl] at H; exact H
      clear H
      have H := H1
      clear H1
      by_cases c6 : x5_1 = (a0.size : Int)
      ·rw [if_pos c6] at H
       have c6b0 : (x5_1 == (a0.size : Int)) = true := beq_iff_eq.mpr c6
       have c6b1 : (x5_1 != (a0.size : Int)) = false := bne_eq_false_iff_eq.mpr c6
       clear c6
       obtain rfl := Option.some.inj H
       go_wp2
       repeat (go_quiet (fail); try go_wp2)
       go_ret
       exact ⟨by first | rfl | (simp; done) | (simp [*]; done), by repeat (first | exact Drawn0.refl _ | apply Drawn0.step)⟩
      ·rw [if_neg c6] at H
       have c6b0 : (x5_1 == (a0.size : Int)) = false := beq_eq_false_iff_ne.mpr c6
       have c6b1 : (x5_1 != (a0.size : Int)) = true := bne_iff_ne.mpr c6
       have HC7 := Aside0.mk H
       clear H
       go_upto_region 6 with (fail)
       repeat (go_quiet (fail); go_upto_region 6 with (fail))
       go_cut [34] (fun v34 wc => ∃ (kq : Nat) (x34_6 : Bool), v34 = .bool x34_6 ∧ Aside0 (depotref05_Compare.j2 kq a0 a1 x5_1 x34_6 = some r) ∧ Aside0 (kq ≤ kj2) ∧ Drawn0 w wc)
       case first =>
        have H := HC7.out
        clear HC7
        by_cases c8 : x5_1 = (a1.size : Int)
        ·rw [if_pos c8] at H
         have c8b0 : (x5_1 == (a1.size : Int)) = true := beq_iff_eq.mpr c8
         have c8b1 : (x5_1 != (a1.size : Int)) = false := bne_eq_false_iff_eq.mpr c8
         clear c8
         (first | rw [c8b0] | (simp only [i64_w, i32_w]; rw [c8b0]) | skip)
         have H' := Aside0.mk H
         clear H
         go_wp2
         repeat (go_quiet (fail); try go_wp2)
         go_meet
         case rel => exact ⟨_, (true), (by first | rfl | (simp; done) | (simp [*]; done)), H', ⟨by have := HK1.out; have := HJ2.out; first | omega | exact Nat.le_refl _⟩, by repeat (first | exact Drawn0.refl _ | apply Drawn0.step)⟩
        ·rw [if_neg c8] at H
         have c8b0 : (x5_1 == (a1.size : Int)) = false := beq_eq_false_iff_ne.mpr c8
         have c8b1 : (x5_1 != (a1.size : Int)) = true := bne_iff_ne.mpr c8
         (first | rw [c8b0] | (simp only [i64_w, i32_w]; rw [c8b0]) | skip)
         by_cases c9 : 0 ≤ x5_1
         ·rw [if_pos c9] at H
          have c9b0 : decide (0 ≤ x5_1) = true := decide_eq_true c9
          clear c9
          by_cases c10 : x5_1 < (a0.size : Int)
          ·rw [if_pos c10] at H
           have c10b0 : decide (x5_1 < (a0.size : Int)) = true := decide_eq_true c10
           clear c10
           by_cases c12 : x5_1 < (a1.size : Int)
           ·rw [if_pos c12] at H
            have c12b0 : decide (x5_1 < (a1.size : Int)) = true := decide_eq_true c12
            clear c12
            have H' := Aside0.mk H
            clear H
            have p11 : 0 ≤ (x5_1 : Int) := of_decide_eq_true (by first | (with_reducible assumption) | assumption)
            have q11 : x5_1 < (a0.size : Int) := of_decide_eq_true (by first | (with_reducible assumption) | assumption)
            have hx11 := bt_at a0 x5_1
            replace p11 := eq_true p11
            replace q11 := eq_true q11
            have p13 : 0 ≤ (x5_1 : Int) := of_decide_eq_true (by first | (with_reducible assumption) | assumption)
            have q13 : x5_1 < (a1.size : Int) := of_decide_eq_true (by first | (with_reducible assumption) | assumption)
            have hx13 := bt_at a1 x5_1
            replace p13 := eq_true p13
            replace q13 := eq_true q13
            go_wp2
            repeat (go_quiet (fail); try go_wp2)
            go_meet
            case rel => exact ⟨_, (decide ((bt a0 x5_1) > (bt a1 x5_1))), (by first | rfl | (simp; done) | (simp [*]; done)), H', ⟨by have := HK1.out; have := HJ2.out; first | omega | exact Nat.le_refl _⟩, by repeat (first | exact Drawn0.refl _ | apply Drawn0.step)⟩
           ·rw [if_neg c12] at H
            exact absurd H (by simp)
          ·rw [if_neg c10] at H
           exact absurd H (by simp)
         ·rw [if_neg c9] at H
          exact absurd H (by simp)
       case rest =>
        clear HC7
        try clear c1
        try clear p1
        try clear q1
        try clear hx1
        try clear c2
        try clear p2
        try clear c4
        try clear c4b0
        try clear c5
        try clear c6
        try clear c6b0
        try clear c6b1
        try clear c8
        try clear c8b0
        try clear c8b1
        try clear c9
        try clear c9b0
        try clear c10
        try clear c10b0
        try clear p11
        try clear q11
        try clear hx11
        try clear c12
        try clear c12b0
        try clear p13
        try clear q13
        try clear hx13
        try clear p11
        try clear p13
        try clear p2
        try clear q11
        try clear q13
        obtain ⟨kq, x34_6, rfl, HA, HJ6, ⟨mc6, rfl⟩⟩ := hcut
        cases kq with
        | zero => exact absurd HA.out (by simp [depotref05_Compare.j2])
        | succ kj6 =>
         have H := HA.out
         clear HA
         simp only [depotref05_Compare.j2] at H
         by_cases c14 : x34_6 = true
         ·subst c14
          have H1 : (some 1) = some r := by rw [if_pos rfl] at H; exact H
          clear H
          have H := H1
          clear H1
          obtain rfl := Option.some.inj H
          go_wp2
          repeat (go_quiet (fail); try go_wp2)
          go_ret
          exact ⟨by first | rfl | (simp; done) | (simp [*]; done), by repeat (first | exact Drawn0.refl _ | apply Drawn0.step)⟩
         ·replace c14 := Bool.eq_false_iff.mpr c14
          subst c14
          have H1 : (if 0 ≤ x5_1 then (if x5_1 < (a0.size : Int) then (if x5_1 < (a1.size : Int) then (if (bt a0 x5_1) < (bt a1 x5_1) then (some (-1)) else (depotref05_Compare.l0 kj6 a0 a1 (wrap64 (x5_1 + 1)))) else (none)) else (none)) else (none)) = some r := by rw [if_neg (show ¬ (false = true) by decide)] at H; exact H
          clear H
          have H := H1
          clear H1
          by_cases c15 : 0 ≤ x5_1
          ·rw [if_pos c15] at H
           have c15b0 : decide (0 ≤ x5_1) = true := decide_eq_true c15
           clear c15
           by_cases c16 : x5_1 < (a0.size : Int)
           ·rw [if_pos c16] at H
            have c16b0 : decide (x5_1 < (a0.size : Int)) = true := decide_eq_true c16
            clear c16
            by_cases c18 : x5_1 < (a1.size : Int)
            ·rw [if_pos c18] at H
             have c18b0 : decide (x5_1 < (a1.size : Int)) = true := decide_eq_true c18
             clear c18
             by_cases c20 : (bt a0 x5_1) < (bt a1 x5_1)
             ·rw [if_pos c20] at H
              have c20b0 : decide ((bt a0 x5_1) < (bt a1 x5_1)) = true := decide_eq_true c20
              clear c20
              obtain rfl := Option.some.inj H
              have p17 : 0 ≤ (x5_1 : Int) := of_decide_eq_true (by first | (with_reducible assumption) | assumption)
              have q17 : x5_1 < (a0.size : Int) := of_decide_eq_true (by first | (with_reducible assumption) | assumption)
              have hx17 := bt_at a0 x5_1
              replace p17 := eq_true p17
              replace q17 := eq_true q17
              have p19 : 0 ≤ (x5_1 : Int) := of_decide_eq_true (by first | (with_reducible assumption) | assumption)
              have q19 : x5_1 < (a1.size : Int) := of_decide_eq_true (by first | (with_reducible assumption) | assumption)
              have hx19 := bt_at a1 x5_1
              replace p19 := eq_true p19
              replace q19 := eq_true q19
              go_wp2
              repeat (go_quiet (fail); try go_wp2)
              go_ret
              exact ⟨by first | rfl | (simp; done) | (simp [*]; done), by repeat (first | exact Drawn0.refl _ | apply Drawn0.step)⟩
             ·rw [if_neg c20] at H
              have c20b0 : decide ((bt a0 x5_1) < (bt a1 x5_1)) = false := decide_eq_false c20
              clear c20
              have H' := Aside0.mk H
              clear H
              have p17 : 0 ≤ (x5_1 : Int) := of_decide_eq_true (by first | (with_reducible assumption) | assumption)
              have q17 : x5_1 < (a0.size : Int) := of_decide_eq_true (by first | (with_reducible assumption) | assumption)
              have hx17 := bt_at a0 x5_1
              replace p17 := eq_true p17
              replace q17 := eq_true q17
              have p19 : 0 ≤ (x5_1 : Int) := of_decide_eq_true (by first | (with_reducible assumption) | assumption)
              have q19 : x5_1 < (a1.size : Int) := of_decide_eq_true (by first | (with_reducible assumption) | assumption)
              have hx19 := bt_at a1 x5_1
              replace p19 := eq_true p19
              replace q19 := eq_true q19
              go_wp2
              repeat (go_quiet (fail); try go_wp2)
              go_roundg kj6
              case measure => have := HK1.out; have := HJ2.out; have := HJ6.out; omega
              case rel => exact ⟨(wrap64 (x5_1 + 1)), (by first | rfl | (simp; done) | (simp [*]; done)), H', ⟨by have := HK1.out; have := HJ2.out; have := HJ6.out; omega⟩, by repeat (first | exact Drawn0.refl _ | apply Drawn0.step)⟩
            ·rw [if_neg c18] at H
             exact absurd H (by simp)
           ·rw [if_neg c16] at H
            exact absurd H (by simp)
          ·rw [if_neg c15] at H
           exact absurd H (by simp)
     ·replace c5 := Bool.eq_false_iff.mpr c5
      subst c5
      have H1 : (some 0) = some r := by rw [if_neg (show ¬ (false = true) by decide)] at H; exact H
      clear H
      have H := H1
      clear H1
      obtain rfl := Option.some.inj H
      go_wp2
      repeat (go_quiet (fail); try go_wp2)
      go_ret
      exact ⟨by first | rfl | (simp; done) | (simp [*]; done), by repeat (first | exact Drawn0.refl _ | apply Drawn0.step)⟩
def depotref06_Magic.f (k : Nat)  : Option (Int) := (depotref06_room.f k (([(⟨#[100, 101, 112, 111, 116, 45, 97, 114, 99, 104, 105, 118, 101, 45, 49]⟩ : ByteArray)] : List ByteArray))).bind fun t132 => (some t132)
theorem depotref06_Magic.mono : ∀ k, LeO (depotref06_Magic.f k ) (depotref06_Magic.f (k + 1) ) := by
 intro  k
 unfold depotref06_Magic.f
 repeat' first
   | (with_reducible exact depotref06_room.mono _ _)
   | (with_reducible exact LeO.refl _)
   | (with_reducible exact LeO.none _)
   | (with_reducible refine LeO.ite ?_ ?_)
   | (with_reducible refine LeO.bind ?_ (fun _ => ?_))
   | exact depotref06_room.mono _ _
   | exact LeO.none _
   | refine LeO.ite ?_ ?_
   | refine LeO.bind ?_ (fun _ => ?_)
set_option maxHeartbeats 8000000 in
set_option maxRecDepth 100000 in
theorem depotref06_Magic.calls (k : Nat)  (r : Int) (w : World) (h : depotref06_Magic.f k  = some r) :
  Calls Tryd.prog 60 #[] w fun e w' => e = .returned (.int .i64 r) ∧ Below w.heap.size w w' := by
 have HB := Aside0.mk (Below.refl w.heap.size w)
 have H : ((depotref06_room.f k (([(⟨#[100, 101, 112, 111, 116, 45, 97, 114, 99, 104, 105, 118, 101, 45, 49]⟩ : ByteArray)] : List ByteArray))).bind fun t132 => (some t132)) = some r := h
 clear h
 obtain ⟨y129, hy129⟩ : ∃ y_ : List ByteArray, y_ = (([(⟨#[100, 101, 112, 111, 116, 45, 97, 114, 99, 104, 105, 118, 101, 45, 49]⟩ : ByteArray)] : List ByteArray)) := ⟨_, rfl⟩
 replace H : ((depotref06_room.f k y129).bind fun t132 => (some t132)) = some r := by first | (rw [hy129]; with_reducible exact H) | (have H2_ := (Option.bind_some _ _).symm.trans H; rw [hy129]; with_reducible exact H2_) | (have H2_ := (Option.bind_some _ _).symm.trans H; with_reducible exact H2_) | with_reducible exact H | (rw [hy129]; exact H) | exact H
 have Ny129 := Aside0.mk hy129
 clear hy129
 replace H := Option.bind_eq_some_iff.mp H
 obtain ⟨t132, A10, H⟩ := H
 replace H : (some t132) = some r := H
 have A1 := Aside0.mk A10
 clear A10
 obtain rfl := Option.some.inj H
 go_enter Tryd.func60, Tryd.ntmps60
 go_wp2_with (first | ((with_reducible refine gate_dst (N := 1) rfl ?_); refine Kd.R_lit Kd.string _ 9 ?hg (N := 1) ?hd (xs := ([(⟨#[100, 101, 112, 111, 116, 45, 97, 114, 99, 104, 105, 118, 101, 45, 49]⟩ : ByteArray)] : List ByteArray)) (inner := [.string (⟨#[100, 101, 112, 111, 116, 45, 97, 114, 99, 104, 105, 118, 101, 45, 49]⟩ : ByteArray)]) (ok := fun _ => True) (okp := fun _ => True) ?hr ?hp (fun _ hk => hk) trivial (Below.refl _ _) (Nat.le_refl _) (by simp) ?_; (case hd => rfl); (case hg => rfl); (case hr => first | (go_simp; done) | (go_simp; rfl)); (case hp => exact (Reps.one (show Kd.M Kd.string _ _ _ (⟨#[100, 101, 112, 111, 116, 45, 97, 114, 99, 104, 105, 118, 101, 45, 49]⟩ : ByteArray) [.string (⟨#[100, 101, 112, 111, 116, 45, 97, 114, 99, 104, 105, 118, 101, 45, 49]⟩ : ByteArray)] from rfl) (Reps.none _ _))); intro v130 w2 ho3 hb hg_ hnew_; clear hg_ hnew_; (first | rw [← Ny129.out] at ho3 | (simp only [Int.reduceToNat] at ho3; rw [← Ny129.out] at ho3)); have n0_ := Aside0.mk (Kd.R_lower ho3 (below_size (by repeat (first | (with_reducible first | exact HB.out | apply below_alloc | apply pw_below_drewN | apply below_drew1) | exact HB.out)))); have n1_ := Aside0.mk (below_step (by repeat (first | (with_reducible first | exact HB.out | apply below_alloc | apply pw_below_drewN | apply below_drew1) | exact HB.out)) hb); clear HB; have HO131 := n0_; have HB := n1_; clear n0_ n1_; clear hb ho3; obtain ⟨Ao4, co4, eo4⟩ := Kd.R_slice HO131.out; subst eo4) | ((with_reducible refine gate_callee (f := 57) rfl ?_); refine goesL_ (some 2) rfl rfl Tryd.func57 (by kernel_rfl) rfl #[.slice Ao4 y129.length co4] rfl (by (try simp only [List.map_toArray, List.map_cons, List.map_nil]); first | done | rfl | (simp only [List.length_drop, List.length_take]; rfl)) ?_; (with_reducible refine (depotref06_room.calls k _ _ y129 t132 _ ?side1 ?side2 A1.out).mono ?_); (case side1 => repeat (first | exact (Kd.R_reads' HO131.out).2.2 | (with_reducible refine Kd.C_alloc ?_ _) | (with_reducible refine Kd.C_drewN ?_ _) | (with_reducible refine Kd.C_drew ?_))); (case side2 => exact (Kd.R_reads' HO131.out).2.1); rintro e w' ⟨rfl, ⟨nd, rfl⟩⟩; refine ⟨_, rfl, ?_⟩))
 go_ret
 exact ⟨by first | rfl | (simp [errW_none, errW_some] <;> rfl) | (simp [*, errW_none, errW_some] <;> rfl), by repeat (first | (with_reducible first | exact HB.out | apply below_alloc | apply pw_below_drewN | apply below_drew1) | exact HB.out)⟩
def depotref06_Entry.f (k : Nat) (a0 : ByteArray) : Option (Int) := (depotref06_room.f k (([(⟨#[101, 110, 116, 114, 121]⟩ : ByteArray), (⟨#[40]⟩ : ByteArray), (⟨#[110, 97, 109, 101]⟩ : ByteArray), a0, (⟨#[110, 111, 100, 101]⟩ : ByteArray), (⟨#[41]⟩ : ByteArray)] : List ByteArray))).bind fun t136 => (some t136)
theorem depotref06_Entry.mono : ∀ a0 k, LeO (depotref06_Entry.f k a0) (depotref06_Entry.f (k + 1) a0) := by
 intro a0 k
 unfold depotref06_Entry.f
 repeat' first
   | (with_reducible exact depotref06_room.mono _ _)
   | (with_reducible exact LeO.refl _)
   | (with_reducible exact LeO.none _)
   | (with_reducible refine LeO.ite ?_ ?_)
   | (with_reducible refine LeO.bind ?_ (fun _ => ?_))
   | exact depotref06_room.mono _ _
   | exact LeO.none _
   | refine LeO.ite ?_ ?_
   | refine LeO.bind ?_ (fun _ => ?_)
set_option maxHeartbeats 8000000 in
set_option maxRecDepth 100000 in
theorem depotref06_Entry.calls (k : Nat) (a0 : ByteArray) (r : Int) (w : World) (h : depotref06_Entry.f k a0 = some r) :
  Calls Tryd.prog 61 #[.string a0] w fun e w' => e = .returned (.int .i64 r) ∧ Below w.heap.size w w' := by
 have HB := Aside0.mk (Below.refl w.heap.size w)
 have H : ((depotref06_room.f k (([(⟨#[101, 110, 116, 114, 121]⟩ : ByteArray), (⟨#[40]⟩ : ByteArray), (⟨#[110, 97, 109, 101]⟩ : ByteArray), a0, (⟨#[110, 111, 100, 101]⟩ : ByteArray), (⟨#[41]⟩ : ByteArray)] : List ByteArray))).bind fun t136 => (some t136)) = some r := h
 clear h
 obtain ⟨y133, hy133⟩ : ∃ y_ : List ByteArray, y_ = (([(⟨#[101, 110, 116, 114, 121]⟩ : ByteArray), (⟨#[40]⟩ : ByteArray), (⟨#[110, 97, 109, 101]⟩ : ByteArray), a0, (⟨#[110, 111, 100, 101]⟩ : ByteArray), (⟨#[41]⟩ : ByteArray)] : List ByteArray)) := ⟨_, rfl⟩
 replace H : ((depotref06_room.f k y133).bind fun t136 => (some t136)) = some r := by first | (rw [hy133]; with_reducible exact H) | (have H2_ := (Option.bind_some _ _).symm.trans H; rw [hy133]; with_reducible exact H2_) | (have H2_ := (Option.bind_some _ _).symm.trans H; with_reducible exact H2_) | with_reducible exact H | (rw [hy133]; exact H) | exact H
 have Ny133 := Aside0.mk hy133
 clear hy133
 replace H := Option.bind_eq_some_iff.mp H
 obtain ⟨t136, A20, H⟩ := H
 replace H : (some t136) = some r := H
 have A2 := Aside0.mk A20
 clear A20
 obtain rfl := Option.some.inj H
 go_enter Tryd.func61, Tryd.ntmps61
 go_wp2_with (first | ((with_reducible refine gate_dst (N := 4) rfl ?_); refine Kd.R_lit Kd.string _ 9 ?hg (N := 4) ?hd (xs := ([(⟨#[101, 110, 116, 114, 121]⟩ : ByteArray), (⟨#[40]⟩ : ByteArray), (⟨#[110, 97, 109, 101]⟩ : ByteArray), a0, (⟨#[110, 111, 100, 101]⟩ : ByteArray), (⟨#[41]⟩ : ByteArray)] : List ByteArray)) (inner := [.string (⟨#[101, 110, 116, 114, 121]⟩ : ByteArray), .string (⟨#[40]⟩ : ByteArray), .string (⟨#[110, 97, 109, 101]⟩ : ByteArray), .string a0, .string (⟨#[110, 111, 100, 101]⟩ : ByteArray), .string (⟨#[41]⟩ : ByteArray)]) (ok := fun _ => True) (okp := fun _ => True) ?hr ?hp (fun _ hk => hk) trivial (Below.refl _ _) (Nat.le_refl _) (by simp) ?_; (case hd => rfl); (case hg => rfl); (case hr => first | (go_simp; done) | (go_simp; rfl)); (case hp => exact (Reps.one (show Kd.M Kd.string _ _ _ (⟨#[101, 110, 116, 114, 121]⟩ : ByteArray) [.string (⟨#[101, 110, 116, 114, 121]⟩ : ByteArray)] from rfl) (Reps.one (show Kd.M Kd.string _ _ _ (⟨#[40]⟩ : ByteArray) [.string (⟨#[40]⟩ : ByteArray)] from rfl) (Reps.one (show Kd.M Kd.string _ _ _ (⟨#[110, 97, 109, 101]⟩ : ByteArray) [.string (⟨#[110, 97, 109, 101]⟩ : ByteArray)] from rfl) (Reps.one (show Kd.M Kd.string _ _ _ a0 [.string a0] from rfl) (Reps.one (show Kd.M Kd.string _ _ _ (⟨#[110, 111, 100, 101]⟩ : ByteArray) [.string (⟨#[110, 111, 100, 101]⟩ : ByteArray)] from rfl) (Reps.one (show Kd.M Kd.string _ _ _ (⟨#[41]⟩ : ByteArray) [.string (⟨#[41]⟩ : ByteArray)] from rfl) (Reps.none _ _)))))))); intro v134 w3 ho4 hb hg_ hnew_; clear hg_ hnew_; (first | rw [← Ny133.out] at ho4 | (simp only [Int.reduceToNat] at ho4; rw [← Ny133.out] at ho4)); have n0_ := Aside0.mk (Kd.R_lower ho4 (below_size (by repeat (first | (with_reducible first | exact HB.out | apply below_alloc | apply pw_below_drewN | apply below_drew1) | exact HB.out)))); have n1_ := Aside0.mk (below_step (by repeat (first | (with_reducible first | exact HB.out | apply below_alloc | apply pw_below_drewN | apply below_drew1) | exact HB.out)) hb); clear HB; have HO135 := n0_; have HB := n1_; clear n0_ n1_; clear hb ho4; obtain ⟨Ao5, co5, eo5⟩ := Kd.R_slice HO135.out; subst eo5) | ((with_reducible refine gate_callee (f := 57) rfl ?_); refine goesL_ (some 5) rfl rfl Tryd.func57 (by kernel_rfl) rfl #[.slice Ao5 y133.length co5] rfl (by (try simp only [List.map_toArray, List.map_cons, List.map_nil]); first | done | rfl | (simp only [List.length_drop, List.length_take]; rfl)) ?_; (with_reducible refine (depotref06_room.calls k _ _ y133 t136 _ ?side1 ?side2 A2.out).mono ?_); (case side1 => repeat (first | exact (Kd.R_reads' HO135.out).2.2 | (with_reducible refine Kd.C_alloc ?_ _) | (with_reducible refine Kd.C_drewN ?_ _) | (with_reducible refine Kd.C_drew ?_))); (case side2 => exact (Kd.R_reads' HO135.out).2.1); rintro e w' ⟨rfl, ⟨nd, rfl⟩⟩; refine ⟨_, rfl, ?_⟩))
 go_ret
 exact ⟨by first | rfl | (simp [errW_none, errW_some] <;> rfl) | (simp [*, errW_none, errW_some] <;> rfl), by repeat (first | (with_reducible first | exact HB.out | apply below_alloc | apply pw_below_drewN | apply below_drew1) | exact HB.out)⟩
end
end Go.Proofs.YtnemeeidomceiaaDoor.PTreeChecks
end
section
namespace Go.Proofs.YtnemeeidomceiaaDoor.PTreeChecks
open Go.RowKit Go.Proofs.YtnemeeidomceiaaDoorW.PrintWords Go.Proofs.YtnemeeidomceiaaDoorW.PrintLast Go.Proofs.YtnemeeidomceiaaDoorW.PrintMore
attribute [local go_sem] max2_int min2_int max_two min_two max_three min_three max_four min_four   -- for this text's walks alone
set_option linter.unusedVariables false
set_option linter.unusedSimpArgs false
noncomputable section
end
end Go.Proofs.YtnemeeidomceiaaDoor.PTreeChecks
end
section
namespace Go.Proofs.YtnemeeidomceiaaDoor
open Go.RowKit Go.Proofs.YtnemeeidomceiaaDoorW.PrintWords Go.Proofs.YtnemeeidomceiaaDoorW.PrintMore Go.Proofs.YtnemeeidomceiaaDoor.PTreeChecks
set_option linter.unusedVariables false
theorem w64 {i : Int} (h0 : -9223372036854775808 ≤ i) (h1 : i < 9223372036854775808) : wrap64 i = i := by unfold wrap64; omega
theorem framed_fr (n : Nat) (hn : n ≤ 4611686018427387904) : wire_Framed.f (n : Int) = some (fr n) := by
 unfold wire_Framed.f fr
 rw [if_neg (by omega)]
 by_cases h : n ≤ 1099511627776
 ·rw [if_neg (by omega), if_pos h]
  congr 1
  rw [w64 (i := (n : Int) + 7) (by omega) (by omega)]
  have e : Int.tdiv ((n : Int) + 7) 8 = (((n + 7) / 8 : Nat) : Int) := by
   rw [Int.tdiv_eq_ediv_of_nonneg (by omega)]
   omega
  rw [e, w64 (i := (((n + 7) / 8 : Nat) : Int)) (by omega) (by omega), w64 (i := (((n + 7) / 8 : Nat) : Int) * 8) (by omega) (by omega), w64 (by omega) (by omega)]
  omega
 ·rw [if_pos (by omega), if_neg h]
theorem rdOf_at (l : List ByteArray) (i : Nat) (h : i < l.length) : rdOf ByteArray.empty l (i : Int) = l[i] := by simp [rdOf, h]
theorem frs_take (l : List ByteArray) (i : Nat) (h : i < l.length) : frs (l.take (i + 1)) = frs (l.take i) + fr l[i].size := by
 rw [List.take_succ_eq_append_getElem h, frs_snoc]
theorem framed_loop (l : List ByteArray) (hs : ∀ s ∈ l, s.size ≤ 4611686018427387904) (hl : l.length ≤ 1000) : ∀ (d i k : Nat), i + d = l.length → d < k → tree_framed.l0 k (frs (l.take i)) l (l.length : Int) (i : Int) = some (frs l)
 | 0, i, k, hi, hk => by
  obtain ⟨k, rfl⟩ : ∃ m, k = m + 1 := ⟨k - 1, by omega⟩
  simp only [tree_framed.l0]
  rw [if_neg (by omega), List.take_of_length_le (by omega)]
 | d + 1, i, k, hi, hk => by
  obtain ⟨k, rfl⟩ : ∃ m, k = m + 1 := ⟨k - 1, by omega⟩
  have hlt : i < l.length := by omega
  have h1 := frs_range (l.take i)
  have h2 := fr_range l[i].size
  have h3 : (l.take i).length ≤ 1000 := by rw [List.length_take]; omega
  simp only [tree_framed.l0]
  rw [if_pos (by omega), if_pos (by omega), if_pos (by omega), rdOf_at l i hlt, framed_fr _ (hs _ (List.getElem_mem hlt)), Option.bind_some, w64 (i := frs (l.take i) + fr l[i].size) (by omega) (by omega), w64 (i := (i : Int) + 1) (by omega) (by omega), ← frs_take l i hlt]
  exact framed_loop l hs hl d (i + 1) k (by omega) (by omega)
theorem framed_frs (l : List ByteArray) (hs : ∀ s ∈ l, s.size ≤ 4611686018427387904) (hl : l.length ≤ 1000) (k : Nat) (hk : l.length < k) : tree_framed.f k l = some (frs l) := by
 have h := framed_loop l hs hl l.length 0 k (by omega) hk
 unfold tree_framed.f
 simpa [frs] using h
theorem refFramed_loop : ∀ (d : Nat) (n k : Nat), (8 - n % 8) % 8 = d → n ≤ 1099511627784 → d < k → depotref03_Framed.l0 k (n : Int) = some (((n + 7) / 8 * 8 : Nat) + 8 : Int)
 | 0, n, k, hd, hn, hk => by
  obtain ⟨k, rfl⟩ : ∃ m, k = m + 1 := ⟨k - 1, by omega⟩
  simp only [depotref03_Framed.l0]
  rw [Int.tmod_eq_emod_of_nonneg (by omega), if_pos (by omega), w64 (by omega) (by omega)]
  congr 1
  omega
 | d + 1, n, k, hd, hn, hk => by
  obtain ⟨k, rfl⟩ : ∃ m, k = m + 1 := ⟨k - 1, by omega⟩
  simp only [depotref03_Framed.l0]
  rw [Int.tmod_eq_emod_of_nonneg (by omega), if_neg (by omega), w64 (by omega) (by omega)]
  have := refFramed_loop d (n + 1) k (by omega) (by omega) (by omega)
  rw [show ((n : Int) + 1) = ((n + 1 : Nat) : Int) from by omega, this]
  congr 1
  omega
theorem refFramed_fr (n : Nat) (k : Nat) (hk : 20 ≤ k) : depotref03_Framed.f k (n : Int) = some (fr n) := by
 obtain ⟨k, rfl⟩ : ∃ m, k = m + 1 := ⟨k - 1, by omega⟩
 unfold depotref03_Framed.f fr
 rw [if_neg (by omega)]
 by_cases h : n ≤ 1099511627776
 ·rw [decide_eq_false (by omega), if_pos h]
  simp only [depotref03_Framed.j0]
  rw [if_neg (by decide), refFramed_loop _ n k rfl (by omega) (by omega)]
  congr 1
  omega
 ·rw [decide_eq_true (by omega), if_neg h]
  simp only [depotref03_Framed.j0]
  rw [if_pos trivial]
theorem room_loop (l : List ByteArray) (hl : l.length ≤ 1000) : ∀ (d i k : Nat), i + d = l.length → d + 30 < k → depotref06_room.l0 k l (frs (l.take i)) (i : Int) = some (frs l)
 | 0, i, k, hi, hk => by
  obtain ⟨k, rfl⟩ : ∃ m, k = m + 1 := ⟨k - 1, by omega⟩
  simp only [depotref06_room.l0]
  rw [if_neg (by omega), List.take_of_length_le (by omega)]
 | d + 1, i, k, hi, hk => by
  obtain ⟨k, rfl⟩ : ∃ m, k = m + 1 := ⟨k - 1, by omega⟩
  have hlt : i < l.length := by omega
  have h1 := frs_range (l.take i)
  have h2 := fr_range l[i].size
  have h3 : (l.take i).length ≤ 1000 := by rw [List.length_take]; omega
  simp only [depotref06_room.l0]
  rw [if_pos (by omega), if_pos (by omega), rdOf_at l i hlt, refFramed_fr _ k (by omega), Option.bind_some, w64 (i := frs (l.take i) + fr l[i].size) (by omega) (by omega), w64 (i := (i : Int) + 1) (by omega) (by omega), ← frs_take l i hlt]
  exact room_loop l hl d (i + 1) k (by omega) (by omega)
theorem room_frs (l : List ByteArray) (hl : l.length ≤ 1000) (k : Nat) (hk : l.length + 30 < k) : depotref06_room.f k l = some (frs l) := by
 have h := room_loop l hl l.length 0 k (by omega) hk
 unfold depotref06_room.f
 simpa [frs] using h
theorem toList_size (s : ByteArray) : s.toList = [] ↔ s.size = 0 := by
 rw [Lib.toList_data, ← List.length_eq_zero_iff, ← Lib.size_eq]
theorem indexByte_contains (l : List UInt8) (c : UInt8) : (0 ≤ Lib.indexByte l c) ↔ l.contains c = true := by
 have h := Lib.contains_iff_indexByte l c
 constructor
 ·intro h2
  rw [h]
  exact decide_eq_true h2
 ·intro h2
  rw [h] at h2
  exact of_decide_eq_true h2
theorem target_E (t : ByteArray) : tree_Target.f t = some (targetE t) := by
 unfold tree_Target.f targetE strings_IndexByte.f
 by_cases h : t.size = 0
 ·rw [if_pos ((toList_size t).2 h), if_pos h]
 ·rw [if_neg (fun e => h ((toList_size t).1 e)), if_neg h, Option.bind_some]
  by_cases hc : t.data.toList.contains 0 = true
  ·rw [if_pos hc]
   exact if_pos ((indexByte_contains _ _).2 hc)
  ·rw [if_neg hc]
   exact if_neg (fun e => hc ((indexByte_contains _ _).1 e))
theorem fields_E (k : Int) (e : Bool) (t : ByteArray) (l : List Ent) : tree_fields.f k e t l = some (fieldsE k e t l) := by
 unfold tree_fields.f fieldsE
 rw [target_E]
 by_cases h1 : k = 1
 ·rw [if_pos h1, if_pos h1]
  by_cases h2 : 0 < l.length
  ·rw [if_pos (by omega), if_pos h2]
  ·rw [if_neg (by omega), if_neg h2]
 rw [if_neg h1, if_neg h1]
 by_cases h2 : k = 2
 ·rw [if_pos h2, if_pos h2]
  by_cases h3 : e = true
  ·rw [if_pos h3, if_pos h3]
  rw [if_neg h3, if_neg h3]
  by_cases h4 : 0 < l.length
  ·rw [if_pos (by omega), if_pos h4]
  ·rw [if_neg (by omega), if_neg h4]; rfl
 rw [if_neg h2, if_neg h2]
 by_cases h3 : k = 3
 ·rw [if_pos h3, if_pos h3]
  by_cases h4 : e = true
  ·rw [if_pos h4, if_pos h4]
  rw [if_neg h4, if_neg h4]
  by_cases h5 : t.size = 0
  ·rw [if_pos ((toList_size t).2 h5), if_pos h5]
  ·rw [if_neg (fun e => h5 ((toList_size t).1 e)), if_neg h5]
 ·rw [if_neg h3, if_neg h3]
theorem name_E (s : ByteArray) : name_Check.f s = some (nameE s) := by
 unfold name_Check.f nameE strings_ContainsAny.f
 by_cases h : s.size = 0
 ·rw [if_pos ((toList_size s).2 h), if_pos h]
 rw [if_neg (fun e => h ((toList_size s).1 e)), if_neg h]
 by_cases h2 : 255 < s.size
 ·rw [if_pos (by omega), if_pos h2]
 rw [if_neg (by omega), if_neg h2, if_pos ⟨rfl, by omega⟩, Option.bind_some]
 by_cases h3 : Lib.containsAny s.data.toList sep.data.toList = true
 ·rw [if_pos h3, if_pos h3]
 rw [if_neg h3, if_neg h3]
 by_cases h4 : s.toList = [46]
 ·rw [if_pos h4, if_pos h4]
 rw [if_neg h4, if_neg h4]
 by_cases h5 : s.toList = [46, 46]
 ·rw [if_pos h5, if_pos h5]
 ·rw [if_neg h5, if_neg h5]
theorem below_P (path kid : ByteArray) (d : Int) (h : path.size + kid.size + 1 ≤ 9223372036854775807) : tree_below.f path kid d = some (belowP path kid d) := by
 unfold tree_below.f belowP
 by_cases h1 : d = 1
 ·rw [if_pos h1, if_pos h1]
 ·rw [if_neg h1, if_neg h1, if_pos (by omega), if_pos]
  rw [ByteArray.size_append]
  show path.size + 1 + kid.size ≤ _
  omega
theorem bt_list (s : ByteArray) (i : Nat) (h : i < s.size) : s.data.toList[i]? = some (s[i]'h) ∧ bt s (i : Int) = ((s[i]'h).toNat : Int) := by
 refine ⟨Lib.data_getElem? s i h, ?_⟩
 unfold bt
 rw [dif_pos (by omega)]
 rfl
theorem take_contains (l : List UInt8) (i : Nat) (c x : UInt8) (h : l[i]? = some x) : (l.take (i + 1)).contains c = ((l.take i).contains c || c == x) := by
 rw [List.take_add_one, h]
 simp only [Option.toList_some, List.contains_eq_mem, List.mem_append, List.mem_singleton, Bool.decide_or]
 rfl
def flagF (t : ByteArray) (i : Nat) : Bool := decide (0 < t.size) && !((t.data.toList.take i).contains 0)
theorem own_tail (k : Int) (e : Bool) (t : ByteArray) (l : List Ent) (n : Nat) (hn : 50 < n) : depotref06_Own.l0 n (flagF t t.size) (t.size : Int) k e t l = some (fieldsE k e t l, if fieldsE k e t l = 0 then ownS k e t else 0) := by
 obtain ⟨n, rfl⟩ : ∃ m, n = m + 1 + 1 := ⟨n - 2, by omega⟩
 have hw := ownS_range k e t
 have hf : (fileW t).length = 6 := rfl
 have r1 := room_frs (fileW t) (by rw [hf]; decide) (n + 1) (by rw [hf]; omega)
 have r2 := room_frs execW (by decide) (n + 1) (by show 2 + 30 < _; omega)
 have r3 := room_frs (linkW t) (by show 6 ≤ 1000; decide) n (by show 6 + 30 < _; omega)
 have r4 := room_frs dirW (by decide) (n + 1) (by show 4 + 30 < _; omega)
 have hfl : (flagF t t.size = true) ↔ targetE t = 0 := by
  unfold flagF targetE
  rw [List.take_of_length_le (by rw [← Lib.size_eq]; exact Nat.le_refl _)]
  by_cases h : t.size = 0
  ·simp [h]
  ·by_cases h2 : t.data.toList.contains 0 = true
   ·simp only [h, h2, if_true, if_false]; simp
   ·simp only [h, h2, if_false]
    have h3 : t.data.toList.contains 0 = false := by simpa using h2
    rw [decide_eq_true (by omega : 0 < t.size)]
    simp
 simp only [depotref06_Own.l0]
 rw [if_neg (by omega)]
 unfold fieldsE
 by_cases h1 : k = 1
 ·rw [if_pos h1, if_pos h1]
  by_cases h2 : 0 < l.length
  ·rw [if_neg (by omega), if_pos h2, if_neg (by decide)]
  rw [if_pos (by omega), if_neg h2, if_pos rfl]
  have e1 := r1
  unfold fileW wOpen wType wReg wCont wShut at e1
  have e2 := r2
  unfold execW wExec wNone at e2
  rw [e1, Option.bind_some]
  unfold ownS at hw ⊢
  rw [if_pos h1] at hw ⊢
  by_cases h3 : e = true
  ·rw [if_pos h3] at hw ⊢
   rw [if_pos h3, e2, Option.bind_some]
   have : wrap64 (frs (fileW t) + frs execW) = frs (fileW t) + frs execW := w64 (by omega) (by omega)
   exact congrArg (fun z => some ((0 : Int), z)) this
  ·rw [if_neg h3] at hw ⊢
   rw [if_neg h3]
   rfl
 rw [if_neg h1, if_neg h1]
 by_cases h2 : k = 2
 ·rw [if_pos h2, if_pos h2]
  by_cases h3 : e = true
  ·rw [if_pos h3, if_pos h3]
   simp only [depotref06_Own.j1]
   rw [if_pos trivial, if_neg (by decide)]
  rw [if_neg h3, if_neg h3]
  simp only [depotref06_Own.j1]
  by_cases h4 : 0 < l.length
  ·rw [if_pos (bne_iff_ne.2 (by omega)), if_pos h4, if_neg (by decide)]
  rw [if_neg (by rw [bne_iff_ne]; omega), if_neg h4]
  by_cases h5 : flagF t t.size = true
  ·rw [if_pos h5, hfl.1 h5, if_pos rfl]
   have e3 := r3
   unfold linkW wOpen wType wSym wTarget wShut at e3
   rw [e3, Option.bind_some]
   unfold ownS
   rw [if_neg h1, if_pos h2]
   rfl
  ·rw [if_neg h5]
   have h6 : targetE t = 63 := by
    have h7 := fun h => h5 (hfl.2 h)
    unfold targetE at h7 ⊢
    split
    ·rfl
    ·rename_i h8
     rw [if_neg h8] at h7
     split
     ·rfl
     ·rename_i h9
      rw [if_neg h9] at h7
      exact absurd rfl h7
   rw [h6, if_neg (by decide)]
 rw [if_neg h2, if_neg h2]
 by_cases h3 : k = 3
 ·rw [if_pos h3, if_pos h3]
  by_cases h4 : e = true
  ·rw [if_pos h4, if_pos h4, if_neg (by decide)]
  rw [if_neg h4, if_neg h4]
  by_cases h5 : t.size = 0
  ·rw [if_pos ((toList_size t).2 h5), if_pos h5, if_pos rfl]
   have e4 := r4
   unfold dirW wOpen wType wDir wShut at e4
   rw [e4, Option.bind_some]
   unfold ownS
   rw [if_neg h1, if_neg h2]
   rfl
  ·rw [if_neg (fun e => h5 ((toList_size t).1 e)), if_neg h5, if_neg (by decide)]
 ·rw [if_neg h3, if_neg h3, if_neg (by decide)]
theorem own_loop (k : Int) (e : Bool) (t : ByteArray) (l : List Ent) (ht : t.size ≤ 4611686018427387904) : ∀ (d i n : Nat), i + d = t.size → d + 60 < n → depotref06_Own.l0 n (flagF t i) (i : Int) k e t l = some (fieldsE k e t l, if fieldsE k e t l = 0 then ownS k e t else 0)
 | 0, i, n, hi, hn => by
  obtain rfl : i = t.size := by omega
  exact own_tail k e t l n (by omega)
 | d + 1, i, n, hi, hn => by
  obtain ⟨n, rfl⟩ : ∃ m, n = m + 1 := ⟨n - 1, by omega⟩
  have hlt : i < t.size := by omega
  obtain ⟨hx, hb⟩ := bt_list t i hlt
  have hs : flagF t (i + 1) = (flagF t i && !(0 == t[i])) := by
   unfold flagF
   rw [take_contains _ _ _ _ hx]
   cases (t.data.toList.take i).contains 0 <;> simp
  have ih := own_loop k e t l ht d (i + 1) n (by omega) (by omega)
  rw [show ((i + 1 : Nat) : Int) = wrap64 ((i : Int) + 1) from by rw [w64 (by omega) (by omega)]; omega] at ih
  simp only [depotref06_Own.l0]
  rw [if_pos (by omega), if_pos (by omega), hb]
  by_cases h0 : t[i] = 0
  ·rw [if_pos (by rw [h0]; rfl)]
   rw [hs, h0] at ih
   simpa using ih
  ·rw [if_neg (fun e => h0 (by
    have : t[i].toNat = 0 := by omega
    exact UInt8.toNat_inj.1 (by rw [this]; rfl)))]
   have : (0 == t[i]) = false := beq_eq_false_iff_ne.2 (fun e => h0 e.symm)
   rw [hs, this] at ih
   simpa using ih
theorem own_E (k : Int) (e : Bool) (t : ByteArray) (l : List Ent) (ht : t.size ≤ 4611686018427387904) (n : Nat) (hn : t.size + 60 < n) : depotref06_Own.f n k e t l = some (fieldsE k e t l, if fieldsE k e t l = 0 then ownS k e t else 0) := by
 have h := own_loop k e t l ht t.size 0 n (by omega) hn
 unfold depotref06_Own.f
 have e0 : flagF t 0 = decide ((t.size : Int) > 0) := by
  unfold flagF
  by_cases h : 0 < t.size
  ·rw [decide_eq_true h, decide_eq_true (by omega)]; rfl
  ·rw [decide_eq_false h, decide_eq_false (by omega)]; rfl
 rw [← e0]
 exact h
theorem u8_int {x : UInt8} {n : Nat} (hn : n < 256) : ((x.toNat : Int) = (n : Int)) ↔ x = UInt8.ofNat n := by
 constructor
 ·intro h
  have h2 : x.toNat = n := by omega
  exact UInt8.toNat_inj.1 (by rw [h2]; simp; omega)
 ·intro h
  subst h
  simp
  omega
theorem sep_mem (x : UInt8) : sep.data.toList.contains x = (x == 47 || x == 0) := by
 simp [sep]
 rfl
theorem count_take (l : List UInt8) (i : Nat) (x : UInt8) (h : l[i]? = some x) : (l.take (i + 1)).count 46 = (l.take i).count 46 + (if x = 46 then 1 else 0) := by
 rw [List.take_add_one, h]
 simp only [Option.toList_some, List.count_append, List.count_singleton]
 congr 1
 by_cases hx : x = 46
 ·subst hx; rfl
 ·rw [if_neg hx, if_neg (by simpa using hx)]
theorem dots_eq (l : List UInt8) (h0 : l ≠ []) : (l.count 46 = l.length ∧ l.count 46 ≤ 2) ↔ (l = [46] ∨ l = [46, 46]) := by
 constructor
 ·rintro ⟨h1, h2⟩
  have h3 : ∀ x ∈ l, 46 = x := List.count_eq_length.1 h1
  match l, h0 with
  | [a], _ => left; rw [← h3 a (by simp)]
  | [a, b], _ => right; rw [← h3 a (by simp), ← h3 b (by simp)]
  | a :: b :: c :: l, _ => simp only [List.length_cons] at h1; omega
 ·rintro (rfl | rfl) <;> decide
theorem check_tail (s : ByteArray) (h0 : s.size ≠ 0) (h255 : ¬ 255 < s.size) (hn : Lib.NoAny s.data.toList sep.data.toList s.size) :
  (if ((s.data.toList.take s.size).count 46 : Int) = (s.size : Int) then (if ((s.data.toList.take s.size).count 46 : Int) ≤ 2 then (some 52 : Option Int) else some 0) else some 0) = some (nameE s) := by
 have hl : s.data.toList.length = s.size := (Lib.size_eq s).symm
 rw [List.take_of_length_le (by omega)]
 have hc : ¬ Lib.containsAny s.data.toList sep.data.toList = true := by
  unfold Lib.containsAny
  rw [Lib.indexAny_none (by rw [hl]; exact hn)]
  decide
 have hne : s.data.toList ≠ [] := fun e => by rw [e] at hl; simp at hl; omega
 have hd := dots_eq s.data.toList hne
 unfold nameE
 rw [if_neg h0, if_neg h255, if_neg hc, Lib.toList_data]
 by_cases h1 : s.data.toList.count 46 = s.data.toList.length
 ·rw [if_pos (by omega)]
  by_cases h2 : s.data.toList.count 46 ≤ 2
  ·rw [if_pos (by omega)]
   rcases hd.1 ⟨h1, h2⟩ with h3 | h3
   ·rw [if_pos h3]
   ·by_cases h4 : s.data.toList = [46]
    ·rw [if_pos h4]
    ·rw [if_neg h4, if_pos h3]
  ·rw [if_neg (by omega), if_neg (fun e => h2 (hd.2 (.inl e)).2), if_neg (fun e => h2 (hd.2 (.inr e)).2)]
 ·rw [if_neg (by omega), if_neg (fun e => h1 (hd.2 (.inl e)).1), if_neg (fun e => h1 (hd.2 (.inr e)).1)]
theorem check_loop (s : ByteArray) (h0 : s.size ≠ 0) (h255 : ¬ 255 < s.size) : ∀ (d i k : Nat), i + d = s.size → 2 * d + 2 < k → Lib.NoAny s.data.toList sep.data.toList i → depotref05_Check.l0 k s ((s.data.toList.take i).count 46 : Int) (i : Int) = some (nameE s)
 | 0, i, k, hi, hk, hn => by
  obtain rfl : i = s.size := by omega
  obtain ⟨k, rfl⟩ : ∃ m, k = m + 1 := ⟨k - 1, by omega⟩
  simp only [depotref05_Check.l0]
  rw [if_neg (by omega)]
  exact check_tail s h0 h255 hn
 | d + 1, i, k, hi, hk, hn => by
  obtain ⟨k, rfl⟩ : ∃ m, k = m + 1 + 1 := ⟨k - 2, by omega⟩
  have hlt : i < s.size := by omega
  obtain ⟨hx, hb⟩ := bt_list s i hlt
  have hcnt : (s.data.toList.take i).count 46 ≤ 255 := by
   have := List.count_le_length (a := (46 : UInt8)) (l := s.data.toList.take i)
   rw [List.length_take] at this
   omega
  have hsm := sep_mem s[i]
  have h47 : (((s[i]).toNat : Int) = 47) ↔ s[i] = 47 := u8_int (n := 47) (by omega)
  have h00 : (((s[i]).toNat : Int) = 0) ↔ s[i] = 0 := u8_int (n := 0) (by omega)
  have h46 : (((s[i]).toNat : Int) = 46) ↔ s[i] = 46 := u8_int (n := 46) (by omega)
  have hit : sep.data.toList.contains s[i] = true → nameE s = 51 := fun h => by
   unfold nameE
   rw [if_neg h0, if_neg h255, if_pos]
   unfold Lib.containsAny
   rw [Lib.indexAny_hit hn hx h]
   exact decide_eq_true (by omega)
  simp only [depotref05_Check.l0]
  rw [if_pos (by omega), if_pos (by omega), hb]
  by_cases c1 : s[i] = 47
  ·rw [if_pos (h47.2 c1)]
   simp only [depotref05_Check.j1]
   rw [if_pos trivial, hit (by rw [hsm, c1]; rfl)]
  rw [if_neg (fun e => c1 (h47.1 e))]
  by_cases c2 : s[i] = 0
  ·rw [beq_iff_eq.2 (h00.2 c2)]
   simp only [depotref05_Check.j1]
   rw [if_pos trivial, hit (by rw [hsm, c2]; rfl)]
  rw [beq_eq_false_iff_ne.2 (fun e => c2 (h00.1 e))]
  simp only [depotref05_Check.j1]
  rw [if_neg (by decide), if_pos (by omega), if_pos (by omega), hb]
  have hn2 : Lib.NoAny s.data.toList sep.data.toList (i + 1) := hn.succ hx (by rw [hsm, beq_eq_false_iff_ne.2 c1, beq_eq_false_iff_ne.2 c2]; rfl)
  have ih := check_loop s h0 h255 d (i + 1) k (by omega) (by omega) hn2
  rw [count_take _ _ _ hx, show ((i + 1 : Nat) : Int) = wrap64 ((i : Int) + 1) from by rw [w64 (by omega) (by omega)]; omega] at ih
  by_cases c3 : s[i] = 46
  ·rw [if_pos (h46.2 c3), w64 (i := (((s.data.toList.take i).count 46 : Nat) : Int) + 1) (by omega) (by omega)]
   rw [if_pos c3] at ih
   simpa using ih
  ·rw [if_neg (fun e => c3 (h46.1 e))]
   rw [if_neg c3] at ih
   simpa using ih
theorem check_E (s : ByteArray) (k : Nat) (hk : 600 ≤ k) : depotref05_Check.f k s = some (nameE s) := by
 unfold depotref05_Check.f
 by_cases h0 : s.size = 0
 ·rw [if_pos (by omega)]
  unfold nameE
  rw [if_pos h0]
 rw [if_neg (by omega)]
 by_cases h1 : 255 < s.size
 ·rw [if_pos (by omega)]
  unfold nameE
  rw [if_neg h0, if_pos h1]
 rw [if_neg (by omega)]
 have := check_loop s h0 h1 s.size 0 k (by omega) (by omega) (Lib.NoAny.zero _ _)
 simpa using this
/-- -1, 0 or 1, by bytes. -/
def cmpL : List UInt8 → List UInt8 → Int
 | [], [] => 0
 | [], _ :: _ => -1
 | _ :: _, [] => 1
 | a :: x, b :: y => if b < a then 1 else if a < b then -1 else cmpL x y
theorem cmpL_le : ∀ a b : List UInt8, (0 ≤ cmpL a b) ↔ (Op.bytesLess b a || b == a) = true
 | [], [] => by simp [cmpL, Op.bytesLess]
 | [], b :: y => by simp [cmpL, Op.bytesLess]
 | a :: x, [] => by simp [cmpL, Op.bytesLess]
 | a :: x, b :: y => by
  have ih := cmpL_le x y
  unfold cmpL Op.bytesLess
  by_cases h1 : b < a
  ·simp [h1]
  ·by_cases h2 : a < b
   ·have h3 : ¬ b = a := fun e => by subst e; exact UInt8.lt_irrefl _ h2
    simp [h1, h2, h3]
   ·have h3 : a = b := UInt8.le_antisymm (UInt8.not_lt.1 h1) (UInt8.not_lt.1 h2)
    subst h3
    simp only [h1, if_false, decide_false, Bool.false_or, beq_self_eq_true, Bool.true_and]
    rw [ih]
    simp
theorem compare_loop (a b : ByteArray) (ha : a.size ≤ 4611686018427387904) (hb : b.size ≤ 4611686018427387904) : ∀ (d i k : Nat), a.size + b.size - i ≤ d → 3 * d + 4 < k → i ≤ a.size → i ≤ b.size → depotref05_Compare.l0 k a b (i : Int) = some (cmpL (a.data.toList.drop i) (b.data.toList.drop i)) := by
 intro d
 have la : a.data.toList.length = a.size := (Lib.size_eq a).symm
 have lb : b.data.toList.length = b.size := (Lib.size_eq b).symm
 induction d with
 | zero =>
  intro i k hd hk hia hib
  obtain ⟨k, rfl⟩ : ∃ m, k = m + 1 + 1 + 1 := ⟨k - 3, by omega⟩
  simp only [depotref05_Compare.l0]
  rw [if_neg (by omega), decide_eq_false (by omega)]
  simp only [depotref05_Compare.j1]
  rw [if_neg (by decide), List.drop_of_length_le (by omega), List.drop_of_length_le (by omega)]
  rfl
 | succ d ih =>
  intro i k hd hk hia hib
  obtain ⟨k, rfl⟩ : ∃ m, k = m + 1 + 1 + 1 := ⟨k - 3, by omega⟩
  have drp : ∀ (s : ByteArray) (h : i < s.size), s.data.toList.drop i = (s[i]'h) :: s.data.toList.drop (i + 1) := fun s h => by
   have h2 := Lib.data_getElem? s i h
   obtain ⟨h3, h4⟩ := List.getElem?_eq_some_iff.1 h2
   rw [List.drop_eq_getElem_cons h3, h4]
  simp only [depotref05_Compare.l0]
  by_cases h1 : i < a.size
  ·rw [if_pos (by omega)]
   simp only [depotref05_Compare.j1]
   rw [if_pos trivial, if_neg (by omega)]
   by_cases h2 : i = b.size
   ·rw [if_pos (by omega)]
    simp only [depotref05_Compare.j2]
    rw [if_pos trivial, drp a h1, List.drop_of_length_le (l := b.data.toList) (by omega)]
    rfl
   have h2' : i < b.size := by omega
   obtain ⟨_, ea⟩ := bt_list a i h1
   obtain ⟨_, eb⟩ := bt_list b i h2'
   rw [if_neg (by omega), if_pos (by omega), if_pos (by omega), if_pos (by omega), ea, eb, drp a h1, drp b h2']
   by_cases h3 : b[i] < a[i]
   ·have h4 := UInt8.lt_iff_toNat_lt.1 h3
    rw [decide_eq_true (by omega)]
    simp only [depotref05_Compare.j2]
    rw [if_pos trivial, cmpL, if_pos h3]
   ·have h4 : ¬ b[i].toNat < a[i].toNat := fun e => h3 (UInt8.lt_iff_toNat_lt.2 e)
    rw [decide_eq_false (by omega)]
    simp only [depotref05_Compare.j2]
    rw [if_neg (by decide), if_pos (by omega), if_pos (by omega), if_pos (by omega), ea, eb, cmpL, if_neg h3]
    by_cases h5 : a[i] < b[i]
    ·have h6 := UInt8.lt_iff_toNat_lt.1 h5
     rw [if_pos (by omega), if_pos h5]
    ·have h6 : ¬ a[i].toNat < b[i].toNat := fun e => h5 (UInt8.lt_iff_toNat_lt.2 e)
     rw [if_neg (by omega), if_neg h5, show wrap64 ((i : Int) + 1) = ((i + 1 : Nat) : Int) from by rw [w64 (by omega) (by omega)]; omega]
     exact ih (i + 1) k (by omega) (by omega) (by omega) (by omega)
  ·obtain rfl : i = a.size := by omega
   rw [if_neg (by omega)]
   by_cases h2 : a.size < b.size
   ·rw [decide_eq_true (by omega)]
    simp only [depotref05_Compare.j1]
    rw [if_pos trivial, if_pos trivial, List.drop_of_length_le (l := a.data.toList) (by omega), drp b h2]
    rfl
   ·rw [decide_eq_false (by omega)]
    simp only [depotref05_Compare.j1]
    rw [if_neg (by decide), List.drop_of_length_le (by omega), List.drop_of_length_le (by omega)]
    rfl
theorem compare_E (a b : ByteArray) (ha : a.size ≤ 4611686018427387904) (hb : b.size ≤ 4611686018427387904) (k : Nat) (hk : 3 * (a.size + b.size) + 4 < k) : ∃ c, depotref05_Compare.f k a b = some c ∧ (0 ≤ c ↔ nle b a = true) := by
 refine ⟨cmpL a.data.toList b.data.toList, ?_, ?_⟩
 ·have := compare_loop a b ha hb (a.size + b.size) 0 k (by omega) hk (by omega) (by omega)
  unfold depotref05_Compare.f
  simpa using this
 ·unfold nle
  rw [Lib.toList_data, Lib.toList_data]
  exact cmpL_le _ _
theorem entry_E (n : ByteArray) (k : Nat) (hk : 40 ≤ k) : depotref06_Entry.f k n = some (entS n) := by
 unfold depotref06_Entry.f
 have r := room_frs (entW n) (by show 6 ≤ 1000; decide) k (by show 6 + 30 < _; omega)
 unfold entW wEntry wOpen wName wNode wShut at r
 rw [r, Option.bind_some]
 rfl
theorem magic_E (k : Nat) (hk : 40 ≤ k) : depotref06_Magic.f k = some magS := by
 unfold depotref06_Magic.f
 have r := room_frs magW (by decide) k (by show 1 + 30 < _; omega)
 unfold magW wMagic at r
 rw [r, Option.bind_some]
 rfl
end Go.Proofs.YtnemeeidomceiaaDoor
end
section
namespace Go.Proofs.YtnemeeidomceiaaDoor
open Go.RowKit Go.Proofs.YtnemeeidomceiaaDoorW.PrintWords
set_option linter.unusedVariables false
def cmpB (a b : ByteArray) : Int := Lib.compareBytes a.data.toList b.data.toList
theorem cb_range : ∀ a b : List UInt8, Lib.compareBytes a b = -1 ∨ Lib.compareBytes a b = 0 ∨ Lib.compareBytes a b = 1
 | [], [] => .inr (.inl rfl)
 | [], _ :: _ => .inl rfl
 | _ :: _, [] => .inr (.inr rfl)
 | a :: x, b :: y => by
  unfold Lib.compareBytes
  split
  ·exact .inl rfl
  ·split
   ·exact .inr (.inr rfl)
   ·exact cb_range x y
theorem cb_neg : ∀ a b : List UInt8, Lib.compareBytes b a = - Lib.compareBytes a b
 | [], [] => rfl
 | [], _ :: _ => rfl
 | _ :: _, [] => rfl
 | a :: x, b :: y => by
  unfold Lib.compareBytes
  by_cases h1 : a < b
  ·have h2 : ¬ b < a := fun h => by rw [UInt8.lt_iff_toNat_lt] at *; omega
   simp only [h1, h2, if_true, if_false]; rfl
  ·by_cases h2 : b < a
   ·simp only [h1, h2, if_true, if_false]
   ·simp only [h1, h2, if_false]
    exact cb_neg x y
theorem cb_zero : ∀ a b : List UInt8, Lib.compareBytes a b = 0 ↔ a = b
 | [], [] => by simp [Lib.compareBytes]
 | [], _ :: _ => by simp [Lib.compareBytes]
 | _ :: _, [] => by simp [Lib.compareBytes]
 | a :: x, b :: y => by
  unfold Lib.compareBytes
  by_cases h1 : a < b
  ·rw [if_pos h1]
   refine ⟨fun h => by omega, fun h => ?_⟩
   injection h with h _
   subst h
   rw [UInt8.lt_iff_toNat_lt] at h1; omega
  ·rw [if_neg h1]
   by_cases h2 : b < a
   ·rw [if_pos h2]
    refine ⟨fun h => by omega, fun h => ?_⟩
    injection h with h _
    subst h
    rw [UInt8.lt_iff_toNat_lt] at h2; omega
   ·rw [if_neg h2, cb_zero x y]
    have : a = b := by
     rw [UInt8.lt_iff_toNat_lt] at h1 h2
     exact UInt8.toNat_inj.1 (by omega)
    rw [this]
    exact ⟨fun h => by rw [h], fun h => by injection h⟩
theorem cb_trans : ∀ a b c : List UInt8, Lib.compareBytes a b < 0 → Lib.compareBytes b c < 0 → Lib.compareBytes a c < 0
 | [], [], c, h, _ => by simp [Lib.compareBytes] at h
 | [], _ :: _, [], _, h => by simp [Lib.compareBytes] at h
 | [], _ :: _, _ :: _, _, _ => by simp [Lib.compareBytes]
 | _ :: _, [], _, h, _ => by simp [Lib.compareBytes] at h
 | _ :: _, _ :: _, [], _, h => by simp [Lib.compareBytes] at h
 | a :: x, b :: y, c :: z, h1, h2 => by
  unfold Lib.compareBytes at *
  have key : ∀ x y : UInt8, x < y ↔ x.toNat < y.toNat := fun x y => UInt8.lt_iff_toNat_lt
  by_cases ab : a < b
  ·by_cases bc : b < c
   ·rw [if_pos (by rw [key] at *; omega)]; decide
   ·rw [if_neg bc] at h2
    by_cases cb : c < b
    ·rw [if_pos cb] at h2; omega
    ·have : b = c := UInt8.toNat_inj.1 (by rw [key] at *; omega)
     subst this
     rw [if_pos ab]; decide
  ·rw [if_neg ab] at h1
   by_cases ba : b < a
   ·rw [if_pos ba] at h1; omega
   ·rw [if_neg ba] at h1
    have : a = b := UInt8.toNat_inj.1 (by rw [key] at *; omega)
    subst this
    by_cases bc : a < c
    ·rw [if_pos bc]; decide
    ·rw [if_neg bc] at h2 ⊢
     by_cases cb : c < a
     ·rw [if_pos cb] at h2; omega
     ·rw [if_neg cb] at h2 ⊢
      exact cb_trans x y z h1 h2
theorem cmpB_neg (a b : ByteArray) : cmpB b a = - cmpB a b := cb_neg _ _
theorem cmpB_zero (a b : ByteArray) : cmpB a b = 0 ↔ a = b := by
 unfold cmpB
 rw [cb_zero]
 exact ⟨fun h => by cases a; cases b; congr; exact Array.toList_inj.1 h, fun h => by rw [h]⟩
theorem cmpB_self (a : ByteArray) : cmpB a a = 0 := (cmpB_zero a a).2 rfl
theorem cmpB_trans {a b c : ByteArray} (h1 : cmpB a b < 0) (h2 : cmpB b c < 0) : cmpB a c < 0 := cb_trans _ _ _ h1 h2
/-- Names that rise. -/
def Rising (l : List Ent) : Prop := l.Pairwise (fun x y => cmpB x.f0 y.f0 < 0)
/-- The place of a name. -/
def rk (l : List Ent) (s : ByteArray) : Nat := (l.filter (fun x => decide (cmpB x.f0 s < 0))).length
def hasN (l : List Ent) (s : ByteArray) : Bool := match l[rk l s]? with
 | some x => decide (cmpB x.f0 s = 0)
 | none => false
theorem rk_of {l : List Ent} {s : ByteArray} (m : Nat) (hm : m ≤ l.length) (h1 : ∀ i x, i < m → l[i]? = some x → cmpB x.f0 s < 0) (h2 : ∀ i x, m ≤ i → l[i]? = some x → ¬ cmpB x.f0 s < 0) : rk l s = m := by
 unfold rk
 have e : l = l.take m ++ l.drop m := (List.take_append_drop m l).symm
 have a1 : (l.take m).filter (fun x => decide (cmpB x.f0 s < 0)) = l.take m := List.filter_eq_self.2 (fun x hx => by
  obtain ⟨i, hi, he⟩ := List.getElem_of_mem hx
  rw [List.length_take] at hi
  refine decide_eq_true (h1 i x (by omega) ?_)
  rw [← he, List.getElem_take]
  exact List.getElem?_eq_getElem (by omega))
 have a2 : (l.drop m).filter (fun x => decide (cmpB x.f0 s < 0)) = [] := List.filter_eq_nil_iff.2 (fun x hx => by
  obtain ⟨i, hi, he⟩ := List.getElem_of_mem hx
  rw [List.length_drop] at hi
  rw [decide_eq_true_eq]
  refine h2 (m + i) x (by omega) ?_
  rw [← he, List.getElem_drop]
  exact List.getElem?_eq_getElem (by omega))
 conv => lhs; rw [e]
 rw [List.filter_append, a1, a2, List.append_nil, List.length_take]
 omega
theorem rk_le (l : List Ent) (s : ByteArray) : rk l s ≤ l.length := List.length_filter_le _ _
theorem Rising.at {l : List Ent} (h : Rising l) {i j : Nat} {x y : Ent} (hij : i < j) (hx : l[i]? = some x) (hy : l[j]? = some y) : cmpB x.f0 y.f0 < 0 := by
 obtain ⟨hi, rfl⟩ := List.getElem?_eq_some_iff.1 hx
 obtain ⟨hj, rfl⟩ := List.getElem?_eq_some_iff.1 hy
 exact List.pairwise_iff_getElem.1 h i j hi hj hij
end Go.Proofs.YtnemeeidomceiaaDoor
end
section
namespace Go.Proofs.YtnemeeidomceiaaDoor
open Go.RowKit Go.Proofs.YtnemeeidomceiaaDoorW.PrintWords Go.Proofs.YtnemeeidomceiaaDoorW.PrintLast Go.Proofs.YtnemeeidomceiaaDoorW.PrintMore
set_option linter.unusedVariables false
set_option linter.unusedSimpArgs false
set_option maxHeartbeats 1000000 in
set_option maxRecDepth 100000 in
theorem compare_calls (a b : ByteArray) (w : World) : Calls Tryd.prog 64 #[.string a, .string b] w fun e w' => e = .returned (.int .i64 (cmpB a b)) ∧ w = w' := by
 go_enter Tryd.func64, Tryd.ntmps64
 go_wp2_with fail
 (with_reducible refine (Tryd.strings_Compare a b w).mono ?_)
 rintro e w' ⟨rfl, rfl⟩
 go_wp2
 go_ret
 exact ⟨rfl, rfl⟩
set_option maxHeartbeats 1000000 in
set_option maxRecDepth 100000 in
theorem find1_calls (n t s : ByteArray) (k : Int) (e : Bool) (v : Value) (w : World) : Calls Tryd.prog 63 #[.agg #[.string n, .int .i64 k, .bool e, .string t, v], .string s] w fun e w' => e = .returned (.int .i64 (cmpB n s)) ∧ Below w.heap.size w w' := by
 go_enter Tryd.func63, Tryd.ntmps63
 go_wp2_with fail
 (with_reducible refine (compare_calls n s _).mono ?_)
 rintro e w' ⟨rfl, rfl⟩
 go_wp2
 go_ret
 exact ⟨rfl, below_alloc (Below.refl _ _) _⟩
set_option maxHeartbeats 2000000 in
set_option maxRecDepth 100000 in
theorem bsearch_calls (l : List Ent) (s : ByteArray) (hr : Rising l) (A : Option Addr) (c : Nat) (w : World) (hC : Kd.C k63 w A l.length l) (hc : l.length ≤ c) (hmx : l.length ≤ 4611686018427387903) :
  Calls Tryd.prog 62 #[.slice A l.length c, .string s, .func (.func 63) #[] #[]] w fun e w' => e = .returned (.tuple #[.int .i64 (rk l s), .bool (hasN l s)]) ∧ Below w.heap.size w w' := by
 have HC := Aside0.mk hC
 have HR := Aside0.mk hr
 clear hC hr
 go_enter Tryd.func62, Tryd.ntmps62
 go_wp2
 go_loopw [9, 10] (fun v9 v10 wr => ∃ lo hi : Nat, v9 = .int .i64 lo ∧ v10 = .int .i64 hi ∧ lo ≤ hi ∧ hi ≤ l.length ∧ Aside0 (∀ i x, i < lo → l[i]? = some x → cmpB x.f0 s < 0) ∧ Aside0 (∀ i x, hi ≤ i → l[i]? = some x → 0 ≤ cmpB x.f0 s) ∧ Aside0 (Below w.heap.size w wr)) (fun v9 v10 _ => (intOf v10).toNat - (intOf v9).toNat)
 case atStart => exact ⟨0, l.length, rfl, rfl, Nat.zero_le _, Nat.le_refl _, ⟨fun i x h => by omega⟩, ⟨fun i x h h2 => by have := (List.getElem?_eq_some_iff.1 h2).1; omega⟩, ⟨Below.refl _ _⟩⟩
 case round =>
  obtain ⟨lo, hi, rfl, rfl, h1, h2, HA, HZ, HB⟩ := hrel
  by_cases hlt : lo < hi
  ·obtain ⟨m, hm⟩ : ∃ m : Nat, m = (lo + hi) / 2 := ⟨_, rfl⟩
   have hm1 : lo ≤ m ∧ m < hi := by omega
   have hmi : ((lo : Int) + (hi : Int)) / 2 = (m : Int) := by omega
   have hx : l[m]? = some (rd_T63 l (m : Int)) := by simp [rd_T63, List.getElem?_eq_getElem (show m < l.length by omega), List.getD_eq_getElem?_getD]
   obtain ⟨ad, A4, c4, hA, e0, e1, e2, e3, e4, hl4, hC4⟩ := at_T63 (Kd.C_below HC.out HB.out) (m : Int) (by omega) (by omega)
   clear hm hC4 hl4
   subst hA
   simp only [Int.toNat_natCast] at e0 e1 e2 e3 e4
   have HX := Aside0.mk hx
   clear hx
   generalize rd_T63 l (m : Int) = x at *
   have HAF : Aside0 (cmpB x.f0 s < 0 → ∀ i y, i < m + 1 → l[i]? = some y → cmpB y.f0 s < 0) := ⟨fun h i y hi hy => by
    by_cases e : i = m
    ·subst e
     rw [HX.out] at hy
     injection hy with hy
     rw [← hy]; exact h
    ·exact cmpB_trans (HR.out.at (show i < m by omega) hy HX.out) h⟩
   have HZF : Aside0 (0 ≤ cmpB x.f0 s → ∀ i y, m ≤ i → l[i]? = some y → 0 ≤ cmpB y.f0 s) := ⟨fun h i y hi hy => by
    refine Int.not_lt.1 (fun hlt => ?_)
    by_cases e : i = m
    ·subst e
     rw [HX.out] at hy
     injection hy with hy
     rw [← hy] at hlt; omega
    ·have := cmpB_trans (HR.out.at (show m < i by omega) HX.out hy) hlt; omega⟩
   obtain ⟨cv, hcv⟩ : ∃ cv, cv = cmpB x.f0 s := ⟨_, rfl⟩
   have HCV := Aside0.mk hcv
   rw [← hcv] at HAF HZF
   clear hcv
   have p0 : (0 : Int) ≤ (m : Int) := by omega
   have p1 : (m : Int) < (l.length : Int) := by omega
   go_wp2_with fail
   (with_reducible refine (find1_calls x.f0 x.f3 s x.f1 x.f2 (.slice A4 x.f4.length c4) wr).mono ?_)
   rintro e w1 ⟨rfl, hb⟩
   rw [← HCV.out]
   have HB1 := Aside0.mk (below_step HB.out hb)
   clear hb e0 e1 e2 e3 e4 hmi p0 p1
   by_cases hneg : cv < 0
   ·have HA1 := Aside0.mk (HAF.out hneg)
    clear HAF HZF HA
    go_wp2_with fail
    go_roundw
    case rel => exact ⟨m + 1, hi, by go_num, rfl, by omega, by omega, HA1, HZ, HB1⟩
    case measure => simp [intOf]; omega
   ·have HZ1 := Aside0.mk (HZF.out (by omega))
    clear HAF HZF HZ
    go_wp2_with fail
    go_roundw
    case rel => exact ⟨lo, m, rfl, rfl, by omega, by omega, HA, HZ1, HB1⟩
    case measure => simp [intOf]; omega
  ·obtain rfl : lo = hi := by omega
   have HK : Aside0 (rk l s = lo) := ⟨rk_of lo h2 HA.out (fun i x a b => by have := HZ.out i x a b; omega)⟩
   by_cases hn : lo < l.length
   ·have hx : l[lo]? = some (rd_T63 l (lo : Int)) := by simp [rd_T63, List.getElem?_eq_getElem hn, List.getD_eq_getElem?_getD]
    obtain ⟨ad, A4, c4, hA, e0, e1, e2, e3, e4, hl4, hC4⟩ := at_T63 (Kd.C_below HC.out HB.out) (lo : Int) (by omega) (by omega)
    clear hC4 hl4
    subst hA
    simp only [Int.toNat_natCast] at e0 e1 e2 e3 e4
    have HH : Aside0 (hasN l s = (cmpB (rd_T63 l (lo : Int)).f0 s == 0)) := ⟨by unfold hasN; rw [HK.out, hx]; rfl⟩
    clear hx
    generalize rd_T63 l (lo : Int) = x at *
    have p0 : (0 : Int) ≤ (lo : Int) := by omega
    have p1 : (lo : Int) < (l.length : Int) := by omega
    go_wp2_with fail
    (with_reducible refine (find1_calls x.f0 x.f3 s x.f1 x.f2 (.slice A4 x.f4.length c4) wr).mono ?_)
    rintro e w1 ⟨rfl, hb⟩
    have HB1 := Aside0.mk (below_step HB.out hb)
    clear hb e0 e1 e2 e3 e4
    go_wp2_with fail
    go_ret2
    rw [HK.out, HH.out]
    exact ⟨rfl, HB1.out⟩
   ·have HH : Aside0 (hasN l s = false) := ⟨by unfold hasN; rw [HK.out, List.getElem?_eq_none (by omega)]⟩
    have p1 : ¬ ((lo : Int) < (l.length : Int)) := by omega
    go_wp2_with fail
    go_ret2
    rw [HK.out, HH.out]
    exact ⟨rfl, HB.out⟩
set_option maxHeartbeats 1000000 in
set_option maxRecDepth 100000 in
theorem find_calls (l : List Ent) (s : ByteArray) (hr : Rising l) (A : Option Addr) (c : Nat) (w : World) (hC : Kd.C k63 w A l.length l) (hc : l.length ≤ c) (hmx : l.length ≤ 4611686018427387903) :
  Calls Tryd.prog 38 #[.slice A l.length c, .string s] w fun e w' => e = .returned (.tuple #[.int .i64 (rk l s), .bool (hasN l s)]) ∧ Below w.heap.size w w' := by
 have HX := Aside0.mk (bsearch_calls l s hr A c w hC hc hmx)
 clear hC hr
 go_enter Tryd.func38, Tryd.ntmps38
 go_wp2_with fail
 (with_reducible refine HX.out.mono ?_)
 rintro e w' ⟨rfl, hb⟩
 have HB := Aside0.mk hb
 clear hb HX
 go_wp2
 go_ret2
 exact ⟨rfl, HB.out⟩
open Classical in
noncomputable def tree_find.f (l : List Ent) (s : ByteArray) : Option (Int × Bool) := if Rising l ∧ l.length ≤ 4611686018427387903 then some (rk l s, hasN l s) else none
end Go.Proofs.YtnemeeidomceiaaDoor
end
section
namespace Go.Proofs.YtnemeeidomceiaaDoor
open Go.RowKit Go.Proofs.YtnemeeidomceiaaDoorW.PrintWords
set_option linter.unusedVariables false
set_option linter.unusedSimpArgs false
theorem bl_cb : ∀ x y : List UInt8, Op.bytesLess x y = true ↔ Lib.compareBytes x y < 0
 | [], [] => by simp [Op.bytesLess, Lib.compareBytes]
 | [], _ :: _ => by simp [Op.bytesLess, Lib.compareBytes]
 | _ :: _, [] => by simp [Op.bytesLess, Lib.compareBytes]
 | a :: x, b :: y => by
  unfold Op.bytesLess Lib.compareBytes
  have key : ∀ x y : UInt8, x < y ↔ x.toNat < y.toNat := fun x y => UInt8.lt_iff_toNat_lt
  rw [Bool.or_eq_true, Bool.and_eq_true, decide_eq_true_eq, beq_iff_eq, bl_cb x y]
  by_cases h1 : a < b
  ·simp [h1]
  ·by_cases h2 : b < a
   ·simp only [h1, h2, if_true, if_false, false_or]
    refine ⟨fun h => ?_, fun h => by omega⟩
    rw [h.1] at h2
    rw [key] at h2; omega
   ·have : a = b := UInt8.toNat_inj.1 (by rw [key] at *; omega)
    simp [h1, h2, this]
theorem nle_cmp (a b : ByteArray) : nle a b = true ↔ cmpB a b ≤ 0 := by
 unfold nle
 rw [Bool.or_eq_true, Lib.toList_data, Lib.toList_data, bl_cb, beq_iff_eq, ← cb_zero]
 show cmpB a b < 0 ∨ cmpB a b = 0 ↔ _
 omega
/-- A tree that is well, of at most so many levels. -/
def wf : Nat → Ent → Prop
 | 0, _ => False
 | f + 1, x => fieldsE x.f1 x.f2 x.f3 x.f4 = 0 ∧ (∀ y, y ∈ x.f4 → nameE y.f0 = 0) ∧ Rising x.f4 ∧ ∀ y, y ∈ x.f4 → wf f y
/-- Its bytes in an archive. -/
def tsz : Nat → Ent → Int
 | 0, _ => 0
 | f + 1, x => ownS x.f1 x.f2 x.f3 + (x.f4.map (fun y => entS y.f0 + tsz f y)).sum
/-- Its rows. -/
def trows : Nat → ByteArray → Ent → List RowT
 | 0, _, _ => []
 | f + 1, path, x => (path, x.f1, x.f2, x.f3) :: x.f4.flatMap (fun y => trows f (belowP path y.f0 (32 - (f : Int))) y)
theorem tsz_nonneg : ∀ (f : Nat) (x : Ent), 0 ≤ tsz f x
 | 0, _ => Int.le_refl _
 | f + 1, x => by
  have h1 := ownS_range x.f1 x.f2 x.f3
  have h2 : ∀ l : List Ent, 0 ≤ (l.map (fun y => entS y.f0 + tsz f y)).sum := by
   intro l
   induction l with
   | nil => simp
   | cons y l ih =>
    have := entS_range y.f0
    have := tsz_nonneg f y
    rw [List.map_cons, List.sum_cons]; omega
  have := h2 x.f4
  unfold tsz; omega
/-- The kids' bytes. -/
def ksz (f : Nat) (l : List Ent) : Int := (l.map (fun y => entS y.f0 + tsz f y)).sum
theorem ksz_nonneg (f : Nat) (l : List Ent) : 0 ≤ ksz f l := by
 induction l with
 | nil => simp [ksz]
 | cons y l ih =>
  have := entS_range y.f0
  have := tsz_nonneg f y
  unfold ksz at *
  rw [List.map_cons, List.sum_cons]; omega
theorem ksz_cons (f : Nat) (y : Ent) (l : List Ent) : ksz f (y :: l) = entS y.f0 + tsz f y + ksz f l := by unfold ksz; rw [List.map_cons, List.sum_cons]
/-- What a look at some kids tells. -/
theorem kids_iff {f : Nat} {d : Int} {path : ByteArray} {nd : ByteArray → Ent → Int → Look} (hnd : ∀ (q : ByteArray) (x : Ent) (b : Int), b ≤ 1048576 → ∀ b2 rows, nd q x b = .ok b2 rows ↔ wf f x ∧ b2 = b + tsz f x ∧ b2 ≤ 1048576 ∧ rows = trows f q x) :
  ∀ (l : List Ent) (prev : Option ByteArray) (b : Int), b ≤ 1048576 → ∀ b2 rows, kidsL nd d path prev l b = .ok b2 rows ↔
   (∀ y, y ∈ l → nameE y.f0 = 0) ∧ ((∀ p, prev = some p → ∀ y, y ∈ l → cmpB p y.f0 < 0) ∧ Rising l) ∧ (∀ y, y ∈ l → wf f y) ∧ b2 = b + ksz f l ∧ b2 ≤ 1048576 ∧ rows = l.flatMap (fun y => trows f (belowP path y.f0 d) y)
 | [], prev, b, hb, b2, rows => by
  show Look.ok b [] = Look.ok b2 rows ↔ _
  constructor
  ·intro h
   injection h with h1 h2
   exact ⟨by simp, ⟨by simp, List.Pairwise.nil⟩, by simp, by simp [ksz, h1], by omega, by simp [h2]⟩
  ·rintro ⟨_, _, _, h1, _, h2⟩
   rw [h2]
   simp [ksz] at h1
   rw [h1]
   rfl
 | x :: l, prev, b, hb, b2, rows => by
  have hnn := entS_range x.f0
  have ht := tsz_nonneg f x
  have hk := ksz_nonneg f l
  show (kidAt nd d path prev x b).then (fun b2 => kidsL nd d path (some x.f0) l b2) = Look.ok b2 rows ↔ _
  have hprev : (prev.any (fun p => nle x.f0 p) = true) ↔ ∃ p, prev = some p ∧ ¬ cmpB p x.f0 < 0 := by
   cases prev with
   | none => simp
   | some p =>
    rw [Option.any_some, nle_cmp, cmpB_neg]
    constructor
    ·intro h; exact ⟨p, rfl, by omega⟩
    ·rintro ⟨q, hq, h⟩; injection hq with hq; rw [hq]; omega
  unfold kidAt
  by_cases h1 : nameE x.f0 ≠ 0
  ·rw [if_pos h1]
   exact ⟨fun h => (by cases h), fun h => absurd (h.1 x List.mem_cons_self) h1⟩
  rw [if_neg h1]
  by_cases h2 : prev.any (fun p => nle x.f0 p) = true
  ·rw [if_pos h2]
   obtain ⟨p, hp, hc⟩ := hprev.1 h2
   exact ⟨fun h => (by cases h), fun h => absurd (h.2.1.1 p hp x List.mem_cons_self) hc⟩
  rw [if_neg h2]
  by_cases h3 : 1048576 < b + entS x.f0
  ·rw [if_pos h3]
   refine ⟨fun h => (by cases h), fun h => ?_⟩
   have := h.2.2.2.1
   have := h.2.2.2.2.1
   rw [ksz_cons] at *
   omega
  rw [if_neg h3]
  have hx := hnd (belowP path x.f0 d) x (b + entS x.f0) (by omega)
  cases hs : nd (belowP path x.f0 d) x (b + entS x.f0) with
  | bad q c =>
   refine ⟨fun h => (by cases h), fun h => ?_⟩
   have hkk := (hx (b + entS x.f0 + tsz f x) (trows f (belowP path x.f0 d) x)).2 ⟨h.2.2.1 x List.mem_cons_self, rfl, by have := h.2.2.2.1; have := h.2.2.2.2.1; rw [ksz_cons] at *; omega, rfl⟩
   rw [hs] at hkk; cases hkk
  | ok b3 r3 =>
   obtain ⟨w3, e3, l3, rr3⟩ := (hx b3 r3).1 hs
   have ih := kids_iff (d := d) (path := path) hnd l (some x.f0) b3 l3
   show ((kidsL nd d path (some x.f0) l b3).pre r3) = Look.ok b2 rows ↔ _
   constructor
   ·intro h
    cases hk2 : kidsL nd d path (some x.f0) l b3 with
    | bad q c => rw [hk2] at h; cases h
    | ok b4 r4 =>
     rw [hk2] at h
     injection h with h5 h6
     obtain ⟨a1, ⟨a2, a3⟩, a4, a5, a6, a7⟩ := (ih b4 r4).1 hk2
     refine ⟨fun y hy => ?_, ⟨fun p hp y hy => ?_, List.pairwise_cons.2 ⟨fun y hy => a2 x.f0 rfl y hy, a3⟩⟩, fun y hy => ?_, ?_, by omega, ?_⟩
     ·rcases List.mem_cons.1 hy with rfl | hy
      ·exact Decidable.of_not_not h1
      ·exact a1 y hy
     ·have hpx : cmpB p x.f0 < 0 := Decidable.of_not_not (fun hn => h2 (hprev.2 ⟨p, hp, hn⟩))
      rcases List.mem_cons.1 hy with rfl | hy
      ·exact hpx
      ·exact cmpB_trans hpx (a2 x.f0 rfl y hy)
     ·rcases List.mem_cons.1 hy with rfl | hy
      ·exact w3
      ·exact a4 y hy
     ·rw [ksz_cons]; omega
     ·rw [← h6, rr3, a7, List.flatMap_cons]
   ·rintro ⟨a1, ⟨a2, a3⟩, a4, a5, a6, a7⟩
    have hp := List.pairwise_cons.1 a3
    rw [ksz_cons] at a5
    rw [(ih b2 (l.flatMap (fun y => trows f (belowP path y.f0 d) y))).2 ⟨fun y hy => a1 y (List.mem_cons_of_mem _ hy), ⟨fun p hpe y hy => by injection hpe with hpe; rw [← hpe]; exact hp.1 y hy, hp.2⟩, fun y hy => a4 y (List.mem_cons_of_mem _ hy), by omega, a6, rfl⟩, a7, rr3, List.flatMap_cons]
    rfl
theorem node_iff : ∀ (f : Nat) (path : ByteArray) (x : Ent) (b : Int), b ≤ 1048576 → ∀ b2 rows, nodeL f path x b = .ok b2 rows ↔ wf f x ∧ b2 = b + tsz f x ∧ b2 ≤ 1048576 ∧ rows = trows f path x
 | 0, path, x, b, hb, b2, rows => ⟨fun h => (by cases h), fun h => h.1.elim⟩
 | f + 1, path, x, b, hb, b2, rows => by
  have ho := ownS_range x.f1 x.f2 x.f3
  have hk := ksz_nonneg f x.f4
  have et : tsz (f + 1) x = ownS x.f1 x.f2 x.f3 + ksz f x.f4 := rfl
  unfold nodeL
  by_cases h1 : fieldsE x.f1 x.f2 x.f3 x.f4 ≠ 0
  ·rw [if_pos h1]
   exact ⟨fun h => (by cases h), fun h => absurd h.1.1 h1⟩
  rw [if_neg h1]
  by_cases h2 : 1048576 < b + ownS x.f1 x.f2 x.f3
  ·rw [if_pos h2]
   exact ⟨fun h => (by cases h), fun h => by have := h.2.1; have := h.2.2.1; rw [et] at *; omega⟩
  rw [if_neg h2]
  have ih := kids_iff (f := f) (d := 32 - (f : Int)) (path := path) (nd := nodeL f) (fun q y b hb b2 rows => node_iff f q y b hb b2 rows) x.f4 none (b + ownS x.f1 x.f2 x.f3) (by omega)
  constructor
  ·intro h
   cases hk2 : kidsL (nodeL f) (32 - (f : Int)) path none x.f4 (b + ownS x.f1 x.f2 x.f3) with
   | bad q c => rw [hk2] at h; cases h
   | ok b4 r4 =>
    rw [hk2] at h
    injection h with h5 h6
    obtain ⟨a1, ⟨_, a3⟩, a4, a5, a6, a7⟩ := (ih b4 r4).1 hk2
    exact ⟨⟨Decidable.of_not_not h1, a1, a3, a4⟩, by rw [et]; omega, by omega, by rw [← h6, a7]; rfl⟩
  ·rintro ⟨⟨_, a1, a3, a4⟩, a5, a6, a7⟩
   rw [et] at a5
   rw [(ih b2 (x.f4.flatMap (fun y => trows f (belowP path y.f0 (32 - (f : Int))) y))).2 ⟨a1, ⟨fun p hp => (by cases hp), a3⟩, a4, by omega, a6, rfl⟩, a7]
   rfl
theorem look_iff (k : Int) (e : Bool) (t : ByteArray) (l : List Ent) (b : Int) (rows : List RowT) : lookL k e t l = .ok b rows ↔ wf 32 ⟨⟨#[]⟩, k, e, t, l⟩ ∧ b = 24 + tsz 32 ⟨⟨#[]⟩, k, e, t, l⟩ ∧ b ≤ 1048576 ∧ rows = trows 32 ⟨#[]⟩ ⟨⟨#[]⟩, k, e, t, l⟩ := by
 unfold lookL
 rw [magS_eq]
 exact node_iff 32 _ _ 24 (by decide) b rows
theorem Texts.mem {l : List Ent} (h : Texts l) {x : Ent} (hx : x ∈ l) : x.f0.size ≤ 140737488351232 ∧ x.f3.size ≤ 140737488351232 ∧ Texts x.f4 := by
 cases h with
 | mk h k => exact ⟨(h x hx).1, (h x hx).2, k x hx⟩
theorem Texts.of {l : List Ent} (h : ∀ x, x ∈ l → x.f0.size ≤ 140737488351232 ∧ x.f3.size ≤ 140737488351232 ∧ Texts x.f4) : Texts l := .mk (fun x hx => ⟨(h x hx).1, (h x hx).2.1⟩) (fun x hx => (h x hx).2.2)
end Go.Proofs.YtnemeeidomceiaaDoor
end
