import Derived.Test.YtnemeeidomceiaaDoorMb10
import Derived.Test.YtnemeeidomceiaaDoorMb9
import Derived.Test.YtnemeeidomceiaaDoorPBTreeBuildsx4Mb
set_option linter.unusedSimpArgs false
set_option linter.unusedVariables false
section
namespace Go.Proofs.YtnemeeidomceiaaDoor.PBTreeBuilds
open Go.RowKit Go.Proofs.YtnemeeidomceiaaDoorW.PrintWords Go.Proofs.YtnemeeidomceiaaDoorW.PrintLast Go.Proofs.YtnemeeidomceiaaDoorW.PrintMore
attribute [local go_sem] max2_int min2_int max_two min_two max_three min_three max_four min_four   -- for this text's walks alone
set_option linter.unusedVariables false
set_option linter.unusedSimpArgs false
noncomputable section
def depotlaw06_TreeBuilds.l0 : Nat → List (S27) → List (S29) → List (S27) → Int → Int → Option (Bool)
 | 0, _, _, _, _, _ => none
 | k + 1, x0, x3, x13, x14, x15 => if x15 < x14 then (if 0 ≤ x15 then (if x15 < (x13.length : Int) then (if x3.length < 2932031007402 then (depotlaw06_TreeBuilds.l0 k x0 (x3 ++ [(⟨(rd_T27 x13 x15).f0, (rd_T27 x13 x15).f1, (rd_T27 x13 x15).f2, (rd_T27 x13 x15).f3⟩ : S29)]) x13 x14 (wrap64 (x15 + 1))) else (none)) else (none)) else (none)) else ((tree_Build.f x0).bind fun bt180 => ((depotref06_Build.f k x3).bind fun bt190 => (if bt180.2.2.2.2.1 = bt190.2.2.2.2.1 then (if bt180.2.2.2.2.2 = bt190.2.2.2.2.2 then ((depotref06_Equal.f bt180.1 bt180.2.1 bt180.2.2.1 bt180.2.2.2.1 bt190.1 bt190.2.1 bt190.2.2.1 bt190.2.2.2.1).bind fun t199 => (some t199)) else (some false)) else (some false))))
def depotlaw06_TreeBuilds.f (k : Nat) (l0 : List (S27)) : Option (Bool) := (depotlaw06_awake.f).bind fun t174 => (if t174 = true then (depotlaw06_TreeBuilds.l0 k l0 ([] : List (S29)) l0 (l0.length : Int) 0) else (some false))
set_option maxHeartbeats 8000000 in
set_option maxRecDepth 100000 in
theorem depotlaw06_TreeBuilds.calls (k : Nat) (A0 : Option Addr) (c0 : Nat) (l0 : List (S27)) (r : Bool) (w : World) (hr0 : Kd.C k27 w A0 l0.length l0) (hc0 : l0.length ≤ c0) (h : depotlaw06_TreeBuilds.f k l0 = some r) :
  Calls Tryd.prog 3 #[.slice A0 l0.length c0] w fun e w' => e = .returned (.bool r) ∧ Below w.heap.size w w' := by
 have hu27 := Tryd.underlying27
 have hu29 := Tryd.underlying29
 have hu32 := Tryd.underlying32
 have hu35 := Tryd.underlying35
 have HR0 := Aside0.mk hr0
 have HC0 := Aside0.mk hc0
 clear hr0 hc0
 have HB := Aside0.mk (Below.refl w.heap.size w)
 have H : ((depotlaw06_awake.f).bind fun t174 => (if t174 = true then (depotlaw06_TreeBuilds.l0 k l0 ([] : List (S29)) l0 (l0.length : Int) 0) else (some false))) = some r := h
 clear h
 replace H := Option.bind_eq_some_iff.mp H
 obtain ⟨t174, A20, H⟩ := H
 replace H : (if t174 = true then (depotlaw06_TreeBuilds.l0 k l0 ([] : List (S29)) l0 (l0.length : Int) 0) else (some false)) = some r := H
 have A2 := Aside0.mk A20
 clear A20
 by_cases c3 : t174 = true
 ·subst c3
  have H1 : (depotlaw06_TreeBuilds.l0 k l0 ([] : List (S29)) l0 (l0.length : Int) 0) = some r := by rw [if_pos rfl] at H; exact H
  clear H
  have H := H1
  clear H1
  have H' := Aside0.mk H
  clear H
  go_enter Tryd.func3, Tryd.ntmps3
  go_wp2_with (first | ((with_reducible refine gate_callee (f := 10) rfl ?_); refine goesL_ (some 11) rfl rfl Tryd.func10 (by kernel_rfl) rfl #[] rfl (by (try simp only [List.map_toArray, List.map_cons, List.map_nil]); first | done | rfl | (simp only [List.length_drop, List.length_take]; rfl)) ?_; (with_reducible refine (depotlaw06_awake.calls  true _ A2.out).mono ?_); rintro e w4 ⟨rfl, hb⟩; refine ⟨_, rfl, ?_⟩; have n0_ := Aside0.mk (below_step (by repeat (first | (with_reducible first | exact HB.out | apply below_alloc | apply pw_below_drewN | apply below_drew1) | exact HB.out)) hb); clear HB; have HB := n0_; clear n0_; (try clear hb); (try clear hb2); (try clear hk); (try clear hi)))
  go_loopg [3, 15] k (fun kq v3 v15 w' => ∃ (x3_1 : List (S29)) (x15_1 : Int), v15 = .int .i64 x15_1 ∧ Aside0 (depotlaw06_TreeBuilds.l0 kq l0 x3_1 l0 (l0.length : Int) x15_1 = some r) ∧ Aside0 (kq ≤ k) ∧ Aside0 (Kd.R k29 29 w' w.heap.size (fun _ => True) v3 x3_1) ∧ Aside0 (Below w.heap.size w w'))
  case atStart => exact ⟨(([] : List (S29))), (0), (by first | rfl | (simp; done) | (simp [*]; done)), H', ⟨Nat.le_refl _⟩, ⟨by first | exact Kd.R_nil _ _ _ _ _ | exact Kd.N_nil _ _ _ _ _ | exact Kd.V_nil _ _ _ _ _ | exact Kd.Q_nil _ _ _ _ _ | exact Kd.S_nil _ _ _ _ _⟩, ⟨by repeat (first | (with_reducible first | exact HB.out | apply below_alloc | apply pw_below_drewN | apply below_drew1) | exact HB.out)⟩⟩
  case round =>
   clear H'
   try clear c1
   try clear p2
   try clear c3
   obtain ⟨x3_1, x15_1, rfl, HA, HK1, HO_3, HB⟩ := hrel
   cases gk with
   | zero => exact absurd HA.out (by simp [depotlaw06_TreeBuilds.l0])
   | succ k1 =>
    have H := HA.out
    clear HA
    simp only [depotlaw06_TreeBuilds.l0] at H
    by_cases c5 : x15_1 < (l0.length : Int)
    ·rw [if_pos c5] at H
     have c5b0 : decide (x15_1 < (l0.length : Int)) = true := decide_eq_true c5
     clear c5
     by_cases c6 : 0 ≤ x15_1
     ·rw [if_pos c6] at H
      have c6b0 : decide (0 ≤ x15_1) = true := decide_eq_true c6
      clear c6
      by_cases c7 : x15_1 < (l0.length : Int)
      ·rw [if_pos c7] at H
       have c7b0 : decide (x15_1 < (l0.length : Int)) = true := decide_eq_true c7
       clear c7
       by_cases c8 : x3_1.length < 2932031007402
       ·rw [if_pos c8] at H
        have LMc8 := Aside0.mk c8
        clear c8
        obtain ⟨y177, hy177⟩ : ∃ y_ : List (S29), y_ = (x3_1 ++ [(⟨(rd_T27 l0 x15_1).f0, (rd_T27 l0 x15_1).f1, (rd_T27 l0 x15_1).f2, (rd_T27 l0 x15_1).f3⟩ : S29)]) := ⟨_, rfl⟩
        replace H : (depotlaw06_TreeBuilds.l0 k1 l0 y177 l0 (l0.length : Int) (wrap64 (x15_1 + 1))) = some r := by first | (rw [hy177]; with_reducible exact H) | (have H2_ := (Option.bind_some _ _).symm.trans H; rw [hy177]; with_reducible exact H2_) | (have H2_ := (Option.bind_some _ _).symm.trans H; with_reducible exact H2_) | with_reducible exact H | (rw [hy177]; exact H) | exact H
        have Ny177 := Aside0.mk hy177
        clear hy177
        have H' := Aside0.mk H
        clear H
        have p175 : 0 ≤ (x15_1 : Int) := of_decide_eq_true (by first | (with_reducible assumption) | assumption)
        have q175 : x15_1 < (l0.length : Int) := of_decide_eq_true (by first | (with_reducible assumption) | assumption)
        obtain ⟨ad175, e175, hx175_0, hx175_1, hx175_2, hx175_3⟩ := at_T27 HR0.out x15_1 p175 q175
        cases e175
        replace hx175_0 := (HB.out.cell (World.block_lt_of_cell? w _ hx175_0)).trans hx175_0
        replace hx175_1 := (HB.out.cell (World.block_lt_of_cell? w _ hx175_1)).trans hx175_1
        replace hx175_2 := (HB.out.cell (World.block_lt_of_cell? w _ hx175_2)).trans hx175_2
        replace hx175_3 := (HB.out.cell (World.block_lt_of_cell? w _ hx175_3)).trans hx175_3
        replace p175 := eq_true p175
        replace q175 := eq_true q175
        go_wp2_with (first | ((with_reducible refine gate_dst (N := 5) rfl ?_); refine box_event ?hg (N := 5) ?hd (cs := #[.string (⟨#[]⟩ : ByteArray), .int .i64 0, .bool false, .string (⟨#[]⟩ : ByteArray)]) (t := 27) ?hr ?_; (case hd => rfl); (case hg => rfl); (case hr => first | (go_simp; done) | (go_simp; rfl)); intro gb176 hg w9 hbox hb; have n0_ := Aside0.mk (Kd.R_below (by (with_reducible repeat (first | apply Kd.R_alloc | apply Kd.R_drewN | apply Kd.R_drew)); exact HO_3.out) hb); have n1_ := Aside0.mk (below_step (by repeat (first | (with_reducible first | exact HB.out | apply below_alloc | apply pw_below_drewN | apply below_drew1) | exact HB.out)) hb); have n2_ := Aside0.mk (hbox); have n3_ := Aside0.mk ((by rw [hg]; exact (below_size (by repeat (first | (with_reducible first | exact HB.out | apply below_alloc | apply pw_below_drewN | apply below_drew1) | exact HB.out))) : w.heap.size ≤ gb176)); have n4_ := Aside0.mk ((by rw [hg]; exact (below_size (by repeat (first | (with_reducible first | exact HB.out | apply below_alloc | apply pw_below_drewN | apply below_drew1) | exact HB.out))) : w.heap.size ≤ gb176)); clear HO_3; clear HB; have HO_3 := n0_; have HB := n1_; have BK176 := n2_; have GW176 := n3_; have GE176 := n4_; clear n0_ n1_ n2_ n3_ n4_; clear hb hbox hg; have hcz10_0 : w9.cell? ⟨gb176, 0, none⟩ = some (.string (⟨#[]⟩ : ByteArray)) := (blk_cell BK176.out 0).trans rfl; have hcz10_1 : w9.cell? ⟨gb176, 1, none⟩ = some (.int .i64 0) := (blk_cell BK176.out 1).trans rfl; have hcz10_2 : w9.cell? ⟨gb176, 2, none⟩ = some (.bool false) := (blk_cell BK176.out 2).trans rfl; have hcz10_3 : w9.cell? ⟨gb176, 3, none⟩ = some (.string (⟨#[]⟩ : ByteArray)) := (blk_cell BK176.out 3).trans rfl; have hfz10_0 := blk_frozen BK176.out 0; have hfz10_1 := blk_frozen BK176.out 1; have hfz10_2 := blk_frozen BK176.out 2; have hfz10_3 := blk_frozen BK176.out 3) | ((with_reducible refine gate_builtin (b := .append) (xs := #[.tmp 19, .tmp 29]) rfl ?_); at_builtin; refine Kd.R_append k29 (w0 := w) w.heap.size rfl (.tmp 19) (.tmp 29) 24 29 (.agg #[(.string ⟨#[]⟩), (.int .i64 0), (.bool false), (.string ⟨#[]⟩)]) 48 rfl Tryd.underlying24 info29 rfl (by decide) (by omega) u3 x3_1 (⟨(rd_T27 l0 x15_1).f0, (rd_T27 l0 x15_1).f1, (rd_T27 l0 x15_1).f2, (rd_T27 l0 x15_1).f3⟩ : S29) [.string ((rd_T27 l0 x15_1).f0), .int .i64 ((rd_T27 l0 x15_1).f1), .bool ((rd_T27 l0 x15_1).f2), .string ((rd_T27 l0 x15_1).f3)] (fun _ => True) (fun _ => False) rfl (by first | (go_simp; done) | (go_simp; rfl)) ?aP (fun _ hk => hk.elim) ?aF ?aO ?aB ?aS ?aL ?_; (case aP => exact k29_mkM _ _ _ (⟨(rd_T27 l0 x15_1).f0, (rd_T27 l0 x15_1).f1, (rd_T27 l0 x15_1).f2, (rd_T27 l0 x15_1).f3⟩ : S29)); (case aB => exact (by repeat (first | (with_reducible first | exact HB.out | apply below_alloc | apply pw_below_drewN | apply below_drew1 | refine below_set ?_ GE176.out) | exact HB.out))); (case aF => exact (fun _ _ => trivial)); (case aO => exact (by (with_reducible repeat (first | apply Kd.R_alloc | apply Kd.R_drewN | apply Kd.R_drew)); exact Kd.R_mono (Kd.R_far (p := ⟨gb176, 3, none⟩) (Kd.R_far (p := ⟨gb176, 2, none⟩) (Kd.R_far (p := ⟨gb176, 1, none⟩) (Kd.R_far (p := ⟨gb176, 0, none⟩) (Kd.R_types HO_3.out BK176.out (by decide)) (fun _ hk => hk.2) (.string ((rd_T27 l0 x15_1).f0))) (fun _ hk => hk.2) (.int .i64 ((rd_T27 l0 x15_1).f1))) (fun _ hk => hk.2) (.bool ((rd_T27 l0 x15_1).f2))) (fun _ hk => hk.2) (.string ((rd_T27 l0 x15_1).f3))) (fun _ hk => trivial))); (case aS => exact (below_size (by repeat (first | (with_reducible first | exact HB.out | apply below_alloc | apply pw_below_drewN | apply below_drew1 | refine below_set ?_ GE176.out) | exact HB.out)))); (case aL => have := LMc8.out; omega); intro v178 w11 ho hb hg hat; rw [← Ny177.out] at ho; have n0_ := Aside0.mk (blk_grown (g := gb176) (o := .cells #[.string ((rd_T27 l0 x15_1).f0), .int .i64 ((rd_T27 l0 x15_1).f1), .bool ((rd_T27 l0 x15_1).f2), .string ((rd_T27 l0 x15_1).f3)] 27 (0, 0)) (by (with_reducible repeat (first | refine blk_drewN ?_ _ | refine blk_drew ?_ | refine blk_alloc ?_ _)); refine blk_put (cs := #[.string ((rd_T27 l0 x15_1).f0), .int .i64 ((rd_T27 l0 x15_1).f1), .bool ((rd_T27 l0 x15_1).f2), .string (⟨#[]⟩ : ByteArray)]) ?_ 3 _ rfl; (with_reducible repeat (first | refine blk_drewN ?_ _ | refine blk_drew ?_ | refine blk_alloc ?_ _)); refine blk_put (cs := #[.string ((rd_T27 l0 x15_1).f0), .int .i64 ((rd_T27 l0 x15_1).f1), .bool false, .string (⟨#[]⟩ : ByteArray)]) ?_ 2 _ rfl; (with_reducible repeat (first | refine blk_drewN ?_ _ | refine blk_drew ?_ | refine blk_alloc ?_ _)); refine blk_put (cs := #[.string ((rd_T27 l0 x15_1).f0), .int .i64 0, .bool false, .string (⟨#[]⟩ : ByteArray)]) ?_ 1 _ rfl; (with_reducible repeat (first | refine blk_drewN ?_ _ | refine blk_drew ?_ | refine blk_alloc ?_ _)); refine blk_put (cs := #[.string (⟨#[]⟩ : ByteArray), .int .i64 0, .bool false, .string (⟨#[]⟩ : ByteArray)]) ?_ 0 _ rfl; (with_reducible repeat (first | refine blk_drewN ?_ _ | refine blk_drew ?_ | refine blk_alloc ?_ _)); exact BK176.out) hg (Kd.R_ne HO_3.out BK176.out (by decide))); have n1_ := Aside0.mk (hb); have n2_ := Aside0.mk (ho); clear BK176; clear HB; clear HO_3; have BK176 := n0_; have HB := n1_; have HO179 := n2_; clear n0_ n1_ n2_; clear ho hb hg hat))
        go_roundg k1
        case measure => have := HK1.out; omega
        case rel => exact ⟨(y177), (wrap64 (x15_1 + 1)), (by first | rfl | (simp; done) | (simp [*]; done)), H', ⟨by have := HK1.out; omega⟩, ⟨by (with_reducible repeat (first | apply Kd.R_alloc | apply Kd.R_drewN | apply Kd.R_drew)); exact HO179.out⟩, ⟨by repeat (first | (with_reducible first | exact HB.out | apply below_alloc | apply pw_below_drewN | apply below_drew1 | refine below_set ?_ GE176.out) | exact HB.out)⟩⟩
       ·rw [if_neg c8] at H
        exact absurd H (by simp)
      ·rw [if_neg c7] at H
       exact absurd H (by simp)
     ·rw [if_neg c6] at H
      exact absurd H (by simp)
    ·rw [if_neg c5] at H
     have c5b0 : decide (x15_1 < (l0.length : Int)) = false := decide_eq_false c5
     clear c5
     replace H := Option.bind_eq_some_iff.mp H
     obtain ⟨⟨t180, t181, t182, t183, t186, t187⟩, A120, H⟩ := H
     replace H : ((depotref06_Build.f k1 x3_1).bind fun bt190 => (if t186 = bt190.2.2.2.2.1 then (if t187 = bt190.2.2.2.2.2 then ((depotref06_Equal.f t180 t181 t182 t183 bt190.1 bt190.2.1 bt190.2.2.1 bt190.2.2.2.1).bind fun t199 => (some t199)) else (some false)) else (some false))) = some r := H
     have A12 := Aside0.mk A120
     clear A120
     replace H := Option.bind_eq_some_iff.mp H
     obtain ⟨⟨t190, t191, t192, t193, t196, t197⟩, A130, H⟩ := H
     replace H : (if t186 = t196 then (if t187 = t197 then ((depotref06_Equal.f t180 t181 t182 t183 t190 t191 t192 t193).bind fun t199 => (some t199)) else (some false)) else (some false)) = some r := H
     have A13 := Aside0.mk A130
     clear A130
     by_cases c14 : t186 = t196
     ·rw [if_pos c14] at H
      have c14b0 : (t186 == t196) = true := beq_iff_eq.mpr c14
      have c14b1 : (t186 != t196) = false := bne_eq_false_iff_eq.mpr c14
      clear c14
      by_cases c15 : t187 = t197
      ·rw [if_pos c15] at H
       have c15b0 : (t187 == t197) = true := beq_iff_eq.mpr c15
       have c15b1 : (t187 != t197) = false := bne_eq_false_iff_eq.mpr c15
       clear c15
       replace H := Option.bind_eq_some_iff.mp H
       obtain ⟨t199, A160, H⟩ := H
       replace H : (some t199) = some r := H
       have A16 := Aside0.mk A160
       clear A160
       obtain rfl := Option.some.inj H
       go_wp2_with (first | ((with_reducible refine gate_callee (f := 11) rfl ?_); refine goesL_ (some 34) rfl rfl Tryd.func11 (by kernel_rfl) rfl #[.slice A0 l0.length c0] rfl (by (try simp only [List.map_toArray, List.map_cons, List.map_nil]); first | done | rfl | (simp only [List.length_drop, List.length_take]; rfl)) ?_; (with_reducible refine (tree_Build.calls _ _ l0 t180 t181 t182 t183 t186 t187 _ ?side1 ?side2 A12.out).mono ?_); (case side1 => repeat (first | exact (Kd.C_below HR0.out HB.out) | (with_reducible refine Kd.C_alloc ?_ _) | (with_reducible refine Kd.C_drewN ?_ _) | (with_reducible refine Kd.C_drew ?_))); (case side2 => exact HC0.out); rintro e w17 ⟨v184, rfl, ho0, hb⟩; refine ⟨_, rfl, ?_⟩; have n0_ := Aside0.mk (Kd.R_below (by (with_reducible repeat (first | apply Kd.R_alloc | apply Kd.R_drewN | apply Kd.R_drew)); exact HO_3.out) hb); have n1_ := Aside0.mk (Kd.R_lower ho0 (below_size (by repeat (first | (with_reducible first | exact HB.out | apply below_alloc | apply pw_below_drewN | apply below_drew1) | exact HB.out)))); have n2_ := Aside0.mk (below_step (by repeat (first | (with_reducible first | exact HB.out | apply below_alloc | apply pw_below_drewN | apply below_drew1) | exact HB.out)) hb); clear HO_3; clear HB; have HO_3 := n0_; have HO185 := n1_; have HB := n2_; clear n0_ n1_ n2_; (try clear hb); (try clear hb2); (try clear hk); (try clear hi); (try clear ho0)) | ((with_reducible refine gate_dst (N := 6) rfl ?_); refine box_event ?hg (N := 6) ?hd (cs := #[.int .i64 0, .bool false, .string (⟨#[]⟩ : ByteArray), .slice none 0 0]) (t := 32) ?hr ?_; (case hd => rfl); (case hg => rfl); (case hr => first | (go_simp; done) | (go_simp; rfl)); intro gb188 hg w18 hbox hb; have n0_ := Aside0.mk (Kd.R_below (by (with_reducible repeat (first | apply Kd.R_alloc | apply Kd.R_drewN | apply Kd.R_drew)); exact HO_3.out) hb); have n1_ := Aside0.mk (Kd.R_below (by (with_reducible repeat (first | apply Kd.R_alloc | apply Kd.R_drewN | apply Kd.R_drew)); exact HO185.out) hb); have n2_ := Aside0.mk (below_step (by repeat (first | (with_reducible first | exact HB.out | apply below_alloc | apply pw_below_drewN | apply below_drew1) | exact HB.out)) hb); have n3_ := Aside0.mk (hbox); have n4_ := Aside0.mk ((by rw [hg]; exact (below_size (by repeat (first | (with_reducible first | exact HB.out | apply below_alloc | apply pw_below_drewN | apply below_drew1) | exact HB.out))) : w.heap.size ≤ gb188)); have n5_ := Aside0.mk ((by rw [hg]; exact (below_size (by repeat (first | (with_reducible first | exact HB.out | apply below_alloc | apply pw_below_drewN | apply below_drew1) | exact HB.out))) : w.heap.size ≤ gb188)); clear HO_3; clear HO185; clear HB; have HO_3 := n0_; have HO185 := n1_; have HB := n2_; have BK188 := n3_; have GW188 := n4_; have GE188 := n5_; clear n0_ n1_ n2_ n3_ n4_ n5_; clear hb hbox hg) | ((with_reducible refine gate_dst (N := 7) rfl ?_); refine box_event ?hg (N := 7) ?hd (cs := #[.int .i64 0, .int .i64 0]) (t := 35) ?hr ?_; (case hd => rfl); (case hg => rfl); (case hr => first | (go_simp; done) | (go_simp; rfl)); intro gb189 hg w19 hbox hb; have n0_ := Aside0.mk (Kd.R_below (by (with_reducible repeat (first | apply Kd.R_alloc | apply Kd.R_drewN | apply Kd.R_drew)); exact HO_3.out) hb); have n1_ := Aside0.mk (Kd.R_below (by (with_reducible repeat (first | apply Kd.R_alloc | apply Kd.R_drewN | apply Kd.R_drew)); exact HO185.out) hb); have n2_ := Aside0.mk (blk_below (g := gb188) (o := .cells #[.int .i64 0, .bool false, .string (⟨#[]⟩ : ByteArray), .slice none 0 0] 32 (0, 0)) (by (with_reducible repeat (first | refine blk_drewN ?_ _ | refine blk_drew ?_ | refine blk_alloc ?_ _)); exact BK188.out) hb); have n3_ := Aside0.mk (below_step (by repeat (first | (with_reducible first | exact HB.out | apply below_alloc | apply pw_below_drewN | apply below_drew1 | refine below_set ?_ GE188.out) | exact HB.out)) hb); have n4_ := Aside0.mk (hbox); have n5_ := Aside0.mk ((by rw [hg]; exact (below_size (by repeat (first | (with_reducible first | exact HB.out | apply below_alloc | apply pw_below_drewN | apply below_drew1 | refine below_set ?_ GE188.out) | exact HB.out))) : w.heap.size ≤ gb189)); have n6_ := Aside0.mk ((by rw [hg]; exact (below_size (by repeat (first | (with_reducible first | exact HB.out | apply below_alloc | apply pw_below_drewN | apply below_drew1 | refine below_set ?_ GE188.out) | exact HB.out))) : w.heap.size ≤ gb189)); have n7_ := Aside0.mk ((by rw [hg]; exact Nat.ne_of_lt (blk_lt (g := gb188) (o := .cells #[.int .i64 0, .bool false, .string (⟨#[]⟩ : ByteArray), .slice none 0 0] 32 (0, 0)) (by (with_reducible repeat (first | refine blk_drewN ?_ _ | refine blk_drew ?_ | refine blk_alloc ?_ _)); exact BK188.out)) : gb188 ≠ gb189)); have n8_ := Aside0.mk ((by rw [hg]; exact Nat.ne_of_gt (blk_lt (g := gb188) (o := .cells #[.int .i64 0, .bool false, .string (⟨#[]⟩ : ByteArray), .slice none 0 0] 32 (0, 0)) (by (with_reducible repeat (first | refine blk_drewN ?_ _ | refine blk_drew ?_ | refine blk_alloc ?_ _)); exact BK188.out)) : gb189 ≠ gb188)); clear HO_3; clear HO185; clear BK188; clear HB; have HO_3 := n0_; have HO185 := n1_; have BK188 := n2_; have HB := n3_; have BK189 := n4_; have GW189 := n5_; have GE189 := n6_; have NB188_189 := n7_; have NB189_188 := n8_; clear n0_ n1_ n2_ n3_ n4_ n5_ n6_ n7_ n8_; clear hb hbox hg; have hnb20 := NB188_189.out; have hnc20 := NB189_188.out; have hcz21_0 : w19.cell? ⟨gb188, 0, none⟩ = some (.int .i64 0) := (blk_cell BK188.out 0).trans rfl; have hcz21_1 : w19.cell? ⟨gb188, 1, none⟩ = some (.bool false) := (blk_cell BK188.out 1).trans rfl; have hcz21_2 : w19.cell? ⟨gb188, 2, none⟩ = some (.string (⟨#[]⟩ : ByteArray)) := (blk_cell BK188.out 2).trans rfl; have hcz21_3 : w19.cell? ⟨gb188, 3, none⟩ = some (.slice none 0 0) := (blk_cell BK188.out 3).trans rfl; have hfz21_0 := blk_frozen BK188.out 0; have hfz21_1 := blk_frozen BK188.out 1; have hfz21_2 := blk_frozen BK188.out 2; have hfz21_3 := blk_frozen BK188.out 3; obtain ⟨Ao22, co22, eo22⟩ := Kd.R_slice HO185.out; subst eo22; have hcz23_0 : w19.cell? ⟨gb189, 0, none⟩ = some (.int .i64 0) := (blk_cell BK189.out 0).trans rfl; have hcz23_1 : w19.cell? ⟨gb189, 1, none⟩ = some (.int .i64 0) := (blk_cell BK189.out 1).trans rfl; have hfz23_0 := blk_frozen BK189.out 0; have hfz23_1 := blk_frozen BK189.out 1; obtain ⟨Ao24, co24, eo24⟩ := Kd.R_slice HO_3.out; subst eo24) | ((with_reducible refine gate_callee (f := 12) rfl ?_); refine goesL_ (some 39) rfl rfl Tryd.func12 (by kernel_rfl) rfl #[.slice Ao24 x3_1.length co24] rfl (by (try simp only [List.map_toArray, List.map_cons, List.map_nil]); first | done | rfl | (simp only [List.length_drop, List.length_take]; rfl)) ?_; (with_reducible refine (depotref06_Build.calls k1 _ _ x3_1 t190 t191 t192 t193 t196 t197 _ ?side1 ?side2 A13.out).mono ?_); (case side1 => refine (Kd.R_reads' (e := 29) (base := w.heap.size) (ok := fun k_ => True) (n := x3_1.length) (c := co24) ?_).2.2; exact (by (with_reducible repeat (first | apply Kd.R_alloc | apply Kd.R_drewN | apply Kd.R_drew)); exact (Kd.R_mono (Kd.R_mono (Kd.R_far (p := ⟨gb189, 1, none⟩) (Kd.R_far (p := ⟨gb189, 0, none⟩) (Kd.R_far (p := ⟨gb188, 3, none⟩) (Kd.R_far (p := ⟨gb188, 2, none⟩) (Kd.R_far (p := ⟨gb188, 1, none⟩) (Kd.R_far (p := ⟨gb188, 0, none⟩) (Kd.R_types (Kd.R_types HO_3.out BK188.out (by decide)) BK189.out (by decide)) (fun _ hk => hk.1.2) (.int .i64 t180)) (fun _ hk => hk.1.2) (.bool t181)) (fun _ hk => hk.1.2) (.string t182)) (fun _ hk => hk.1.2) (.slice Ao22 t183.length co22)) (fun _ hk => hk.2) (.int .i64 t186)) (fun _ hk => hk.2) (.int .i64 t187)) (fun _ h_ => h_.1)) (fun _ h_ => h_.1)))); (case side2 => exact (Kd.R_reads' HO_3.out).2.1); rintro e w25 ⟨v194, rfl, ho0, hb⟩; refine ⟨_, rfl, ?_⟩; have n0_ := Aside0.mk (Kd.R_below (by (with_reducible repeat (first | apply Kd.R_alloc | apply Kd.R_drewN | apply Kd.R_drew)); exact (Kd.R_mono (Kd.R_mono (Kd.R_far (p := ⟨gb189, 1, none⟩) (Kd.R_far (p := ⟨gb189, 0, none⟩) (Kd.R_far (p := ⟨gb188, 3, none⟩) (Kd.R_far (p := ⟨gb188, 2, none⟩) (Kd.R_far (p := ⟨gb188, 1, none⟩) (Kd.R_far (p := ⟨gb188, 0, none⟩) (Kd.R_types (Kd.R_types HO_3.out BK188.out (by decide)) BK189.out (by decide)) (fun _ hk => hk.1.2) (.int .i64 t180)) (fun _ hk => hk.1.2) (.bool t181)) (fun _ hk => hk.1.2) (.string t182)) (fun _ hk => hk.1.2) (.slice Ao22 t183.length co22)) (fun _ hk => hk.2) (.int .i64 t186)) (fun _ hk => hk.2) (.int .i64 t187)) (fun _ h_ => h_.1)) (fun _ h_ => h_.1))) hb); have n1_ := Aside0.mk (Kd.R_elder' (by (with_reducible repeat (first | apply Kd.R_alloc | apply Kd.R_drewN | apply Kd.R_drew)); exact (Kd.R_mono (Kd.R_mono (Kd.R_far (p := ⟨gb189, 1, none⟩) (Kd.R_far (p := ⟨gb189, 0, none⟩) (Kd.R_far (p := ⟨gb188, 3, none⟩) (Kd.R_far (p := ⟨gb188, 2, none⟩) (Kd.R_far (p := ⟨gb188, 1, none⟩) (Kd.R_far (p := ⟨gb188, 0, none⟩) (Kd.R_types (Kd.R_types HO185.out BK188.out (by decide)) BK189.out (by decide)) (fun _ hk => hk.1.2) (.int .i64 t180)) (fun _ hk => hk.1.2) (.bool t181)) (fun _ hk => hk.1.2) (.string t182)) (fun _ hk => hk.1.2) (.slice Ao22 t183.length co22)) (fun _ hk => hk.2) (.int .i64 t186)) (fun _ hk => hk.2) (.int .i64 t187)) (fun _ h_ => h_.1)) (fun _ h_ => h_.1))) (Kd.R_base ho0) hb); have n2_ := Aside0.mk (Kd.R_lower (Kd.R_new' ho0 (Kd.R_lt (by (with_reducible repeat (first | apply Kd.R_alloc | apply Kd.R_drewN | apply Kd.R_drew)); exact (Kd.R_mono (Kd.R_mono (Kd.R_far (p := ⟨gb189, 1, none⟩) (Kd.R_far (p := ⟨gb189, 0, none⟩) (Kd.R_far (p := ⟨gb188, 3, none⟩) (Kd.R_far (p := ⟨gb188, 2, none⟩) (Kd.R_far (p := ⟨gb188, 1, none⟩) (Kd.R_far (p := ⟨gb188, 0, none⟩) (Kd.R_types (Kd.R_types HO185.out BK188.out (by decide)) BK189.out (by decide)) (fun _ hk => hk.1.2) (.int .i64 t180)) (fun _ hk => hk.1.2) (.bool t181)) (fun _ hk => hk.1.2) (.string t182)) (fun _ hk => hk.1.2) (.slice Ao22 t183.length co22)) (fun _ hk => hk.2) (.int .i64 t186)) (fun _ hk => hk.2) (.int .i64 t187)) (fun _ h_ => h_.1)) (fun _ h_ => h_.1))))) (below_size (by repeat (first | (with_reducible first | exact HB.out | apply below_alloc | apply pw_below_drewN | apply below_drew1 | refine below_set ?_ GE188.out | refine below_set ?_ GE189.out) | exact HB.out)))); have n3_ := Aside0.mk (blk_below (g := gb188) (o := .cells #[.int .i64 t180, .bool t181, .string t182, .slice Ao22 t183.length co22] 32 (0, 0)) (by (with_reducible repeat (first | refine blk_drewN ?_ _ | refine blk_drew ?_ | refine blk_alloc ?_ _)); refine blk_far ?_ NB188_189.out _; (with_reducible repeat (first | refine blk_drewN ?_ _ | refine blk_drew ?_ | refine blk_alloc ?_ _)); refine blk_far ?_ NB188_189.out _; (with_reducible repeat (first | refine blk_drewN ?_ _ | refine blk_drew ?_ | refine blk_alloc ?_ _)); refine blk_put (cs := #[.int .i64 t180, .bool t181, .string t182, .slice none 0 0]) ?_ 3 _ rfl; (with_reducible repeat (first | refine blk_drewN ?_ _ | refine blk_drew ?_ | refine blk_alloc ?_ _)); refine blk_put (cs := #[.int .i64 t180, .bool t181, .string (⟨#[]⟩ : ByteArray), .slice none 0 0]) ?_ 2 _ rfl; (with_reducible repeat (first | refine blk_drewN ?_ _ | refine blk_drew ?_ | refine blk_alloc ?_ _)); refine blk_put (cs := #[.int .i64 t180, .bool false, .string (⟨#[]⟩ : ByteArray), .slice none 0 0]) ?_ 1 _ rfl; (with_reducible repeat (first | refine blk_drewN ?_ _ | refine blk_drew ?_ | refine blk_alloc ?_ _)); refine blk_put (cs := #[.int .i64 0, .bool false, .string (⟨#[]⟩ : ByteArray), .slice none 0 0]) ?_ 0 _ rfl; (with_reducible repeat (first | refine blk_drewN ?_ _ | refine blk_drew ?_ | refine blk_alloc ?_ _)); exact BK188.out) hb); have n4_ := Aside0.mk (blk_below (g := gb189) (o := .cells #[.int .i64 t186, .int .i64 t187] 35 (0, 0)) (by (with_reducible repeat (first | refine blk_drewN ?_ _ | refine blk_drew ?_ | refine blk_alloc ?_ _)); refine blk_put (cs := #[.int .i64 t186, .int .i64 0]) ?_ 1 _ rfl; (with_reducible repeat (first | refine blk_drewN ?_ _ | refine blk_drew ?_ | refine blk_alloc ?_ _)); refine blk_put (cs := #[.int .i64 0, .int .i64 0]) ?_ 0 _ rfl; (with_reducible repeat (first | refine blk_drewN ?_ _ | refine blk_drew ?_ | refine blk_alloc ?_ _)); refine blk_far ?_ NB189_188.out _; (with_reducible repeat (first | refine blk_drewN ?_ _ | refine blk_drew ?_ | refine blk_alloc ?_ _)); refine blk_far ?_ NB189_188.out _; (with_reducible repeat (first | refine blk_drewN ?_ _ | refine blk_drew ?_ | refine blk_alloc ?_ _)); refine blk_far ?_ NB189_188.out _; (with_reducible repeat (first | refine blk_drewN ?_ _ | refine blk_drew ?_ | refine blk_alloc ?_ _)); refine blk_far ?_ NB189_188.out _; (with_reducible repeat (first | refine blk_drewN ?_ _ | refine blk_drew ?_ | refine blk_alloc ?_ _)); exact BK189.out) hb); have n5_ := Aside0.mk (below_step (by repeat (first | (with_reducible first | exact HB.out | apply below_alloc | apply pw_below_drewN | apply below_drew1 | refine below_set ?_ GE188.out | refine below_set ?_ GE189.out) | exact HB.out)) hb); clear HO_3; clear HO185; clear BK188; clear BK189; clear HB; have HO_3 := n0_; have HO185 := n1_; have HO195 := n2_; have BK188 := n3_; have BK189 := n4_; have HB := n5_; clear n0_ n1_ n2_ n3_ n4_ n5_; (try clear hb); (try clear hb2); (try clear hk); (try clear hi); (try clear ho0)) | ((with_reducible refine gate_dst (N := 8) rfl ?_); refine box_event ?hg (N := 8) ?hd (cs := #[.int .i64 0, .bool false, .string (⟨#[]⟩ : ByteArray), .slice none 0 0]) (t := 32) ?hr ?_; (case hd => rfl); (case hg => rfl); (case hr => first | (go_simp; done) | (go_simp; rfl)); intro gb198 hg w26 hbox hb; have n0_ := Aside0.mk (Kd.R_below (by (with_reducible repeat (first | apply Kd.R_alloc | apply Kd.R_drewN | apply Kd.R_drew)); exact HO_3.out) hb); have n1_ := Aside0.mk (Kd.R_below (by (with_reducible repeat (first | apply Kd.R_alloc | apply Kd.R_drewN | apply Kd.R_drew)); exact HO185.out) hb); have n2_ := Aside0.mk (Kd.R_below (by (with_reducible repeat (first | apply Kd.R_alloc | apply Kd.R_drewN | apply Kd.R_drew)); exact HO195.out) hb); have n3_ := Aside0.mk (blk_below (g := gb188) (o := .cells #[.int .i64 t180, .bool t181, .string t182, .slice Ao22 t183.length co22] 32 (0, 0)) (by (with_reducible repeat (first | refine blk_drewN ?_ _ | refine blk_drew ?_ | refine blk_alloc ?_ _)); exact BK188.out) hb); have n4_ := Aside0.mk (blk_below (g := gb189) (o := .cells #[.int .i64 t186, .int .i64 t187] 35 (0, 0)) (by (with_reducible repeat (first | refine blk_drewN ?_ _ | refine blk_drew ?_ | refine blk_alloc ?_ _)); exact BK189.out) hb); have n5_ := Aside0.mk (below_step (by repeat (first | (with_reducible first | exact HB.out | apply below_alloc | apply pw_below_drewN | apply below_drew1 | refine below_set ?_ GE188.out | refine below_set ?_ GE189.out) | exact HB.out)) hb); have n6_ := Aside0.mk (hbox); have n7_ := Aside0.mk ((by rw [hg]; exact (below_size (by repeat (first | (with_reducible first | exact HB.out | apply below_alloc | apply pw_below_drewN | apply below_drew1 | refine below_set ?_ GE188.out | refine below_set ?_ GE189.out) | exact HB.out))) : w.heap.size ≤ gb198)); have n8_ := Aside0.mk ((by rw [hg]; exact (below_size (by repeat (first | (with_reducible first | exact HB.out | apply below_alloc | apply pw_below_drewN | apply below_drew1 | refine below_set ?_ GE188.out | refine below_set ?_ GE189.out) | exact HB.out))) : w.heap.size ≤ gb198)); have n9_ := Aside0.mk ((by rw [hg]; exact Nat.ne_of_lt (blk_lt (g := gb188) (o := .cells #[.int .i64 t180, .bool t181, .string t182, .slice Ao22 t183.length co22] 32 (0, 0)) (by (with_reducible repeat (first | refine blk_drewN ?_ _ | refine blk_drew ?_ | refine blk_alloc ?_ _)); exact BK188.out)) : gb188 ≠ gb198)); have n10_ := Aside0.mk ((by rw [hg]; exact Nat.ne_of_gt (blk_lt (g := gb188) (o := .cells #[.int .i64 t180, .bool t181, .string t182, .slice Ao22 t183.length co22] 32 (0, 0)) (by (with_reducible repeat (first | refine blk_drewN ?_ _ | refine blk_drew ?_ | refine blk_alloc ?_ _)); exact BK188.out)) : gb198 ≠ gb188)); have n11_ := Aside0.mk ((by rw [hg]; exact Nat.ne_of_lt (blk_lt (g := gb189) (o := .cells #[.int .i64 t186, .int .i64 t187] 35 (0, 0)) (by (with_reducible repeat (first | refine blk_drewN ?_ _ | refine blk_drew ?_ | refine blk_alloc ?_ _)); exact BK189.out)) : gb189 ≠ gb198)); have n12_ := Aside0.mk ((by rw [hg]; exact Nat.ne_of_gt (blk_lt (g := gb189) (o := .cells #[.int .i64 t186, .int .i64 t187] 35 (0, 0)) (by (with_reducible repeat (first | refine blk_drewN ?_ _ | refine blk_drew ?_ | refine blk_alloc ?_ _)); exact BK189.out)) : gb198 ≠ gb189)); clear HO_3; clear HO185; clear HO195; clear BK188; clear BK189; clear HB; have HO_3 := n0_; have HO185 := n1_; have HO195 := n2_; have BK188 := n3_; have BK189 := n4_; have HB := n5_; have BK198 := n6_; have GW198 := n7_; have GE198 := n8_; have NB188_198 := n9_; have NB198_188 := n10_; have NB189_198 := n11_; have NB198_189 := n12_; clear n0_ n1_ n2_ n3_ n4_ n5_ n6_ n7_ n8_ n9_ n10_ n11_ n12_; clear hb hbox hg; have hnb27 := NB198_188.out; have hnc27 := NB188_198.out; have hnb28 := NB198_189.out; have hnc28 := NB189_198.out; have hcz29_0 : w26.cell? ⟨gb198, 0, none⟩ = some (.int .i64 0) := (blk_cell BK198.out 0).trans rfl; have hcz29_1 : w26.cell? ⟨gb198, 1, none⟩ = some (.bool false) := (blk_cell BK198.out 1).trans rfl; have hcz29_2 : w26.cell? ⟨gb198, 2, none⟩ = some (.string (⟨#[]⟩ : ByteArray)) := (blk_cell BK198.out 2).trans rfl; have hcz29_3 : w26.cell? ⟨gb198, 3, none⟩ = some (.slice none 0 0) := (blk_cell BK198.out 3).trans rfl; have hfz29_0 := blk_frozen BK198.out 0; have hfz29_1 := blk_frozen BK198.out 1; have hfz29_2 := blk_frozen BK198.out 2; have hfz29_3 := blk_frozen BK198.out 3; obtain ⟨Ao30, co30, eo30⟩ := Kd.R_slice HO195.out; subst eo30; have hcz31_0 : w26.cell? ⟨gb189, 0, none⟩ = some (.int .i64 t186) := (blk_cell BK189.out 0).trans rfl; have hcz31_1 : w26.cell? ⟨gb189, 1, none⟩ = some (.int .i64 t187) := (blk_cell BK189.out 1).trans rfl; have hfz31_0 := blk_frozen BK189.out 0; have hfz31_1 := blk_frozen BK189.out 1; have hcz32_0 : w26.cell? ⟨gb188, 0, none⟩ = some (.int .i64 t180) := (blk_cell BK188.out 0).trans rfl; have hcz32_1 : w26.cell? ⟨gb188, 1, none⟩ = some (.bool t181) := (blk_cell BK188.out 1).trans rfl; have hcz32_2 : w26.cell? ⟨gb188, 2, none⟩ = some (.string t182) := (blk_cell BK188.out 2).trans rfl; have hcz32_3 : w26.cell? ⟨gb188, 3, none⟩ = some (.slice Ao22 t183.length co22) := (blk_cell BK188.out 3).trans rfl; have hfz32_0 := blk_frozen BK188.out 0; have hfz32_1 := blk_frozen BK188.out 1; have hfz32_2 := blk_frozen BK188.out 2; have hfz32_3 := blk_frozen BK188.out 3) | (go_at_call 13; (with_reducible refine (depotref06_Equal.calls t180 t181 t182 _ _ t183 t190 t191 t192 _ _ t193 t199 _ ?side1 ?side2 ?side3 ?side4 A16.out).mono ?_); (case side1 => refine (Kd.R_reads' (e := 63) (base := w.heap.size) (ok := fun k_ => (True ∧ some k_ ≠ (.slice Ao30 t193.length co30 : Value).ownBlock)) (n := t183.length) (c := co22) ?_).2.2; exact (by (with_reducible repeat (first | apply Kd.R_alloc | apply Kd.R_drewN | apply Kd.R_drew)); exact (Kd.R_mono (Kd.R_far (p := ⟨gb198, 3, none⟩) (Kd.R_far (p := ⟨gb198, 2, none⟩) (Kd.R_far (p := ⟨gb198, 1, none⟩) (Kd.R_far (p := ⟨gb198, 0, none⟩) (Kd.R_types HO185.out BK198.out (by decide)) (fun _ hk => hk.2) (.int .i64 t190)) (fun _ hk => hk.2) (.bool t191)) (fun _ hk => hk.2) (.string t192)) (fun _ hk => hk.2) (.slice Ao30 t193.length co30)) (fun _ h_ => h_.1)))); (case side2 => exact (Kd.R_reads' HO185.out).2.1); (case side3 => refine (Kd.R_reads' (e := 63) (base := w.heap.size) (ok := fun k_ => (True ∧ some k_ ≠ (.slice Ao22 t183.length co22 : Value).ownBlock)) (n := t193.length) (c := co30) ?_).2.2; exact (by (with_reducible repeat (first | apply Kd.R_alloc | apply Kd.R_drewN | apply Kd.R_drew)); exact (Kd.R_mono (Kd.R_far (p := ⟨gb198, 3, none⟩) (Kd.R_far (p := ⟨gb198, 2, none⟩) (Kd.R_far (p := ⟨gb198, 1, none⟩) (Kd.R_far (p := ⟨gb198, 0, none⟩) (Kd.R_types HO195.out BK198.out (by decide)) (fun _ hk => hk.2) (.int .i64 t190)) (fun _ hk => hk.2) (.bool t191)) (fun _ hk => hk.2) (.string t192)) (fun _ hk => hk.2) (.slice Ao30 t193.length co30)) (fun _ h_ => h_.1)))); (case side4 => exact (Kd.R_reads' HO195.out).2.1); rintro e w33 ⟨rfl, hb⟩; have n0_ := Aside0.mk (Kd.R_below (by (with_reducible repeat (first | apply Kd.R_alloc | apply Kd.R_drewN | apply Kd.R_drew)); exact (Kd.R_mono (Kd.R_far (p := ⟨gb198, 3, none⟩) (Kd.R_far (p := ⟨gb198, 2, none⟩) (Kd.R_far (p := ⟨gb198, 1, none⟩) (Kd.R_far (p := ⟨gb198, 0, none⟩) (Kd.R_types HO_3.out BK198.out (by decide)) (fun _ hk => hk.2) (.int .i64 t190)) (fun _ hk => hk.2) (.bool t191)) (fun _ hk => hk.2) (.string t192)) (fun _ hk => hk.2) (.slice Ao30 t193.length co30)) (fun _ h_ => h_.1))) hb); have n1_ := Aside0.mk (Kd.R_below (by (with_reducible repeat (first | apply Kd.R_alloc | apply Kd.R_drewN | apply Kd.R_drew)); exact (Kd.R_mono (Kd.R_far (p := ⟨gb198, 3, none⟩) (Kd.R_far (p := ⟨gb198, 2, none⟩) (Kd.R_far (p := ⟨gb198, 1, none⟩) (Kd.R_far (p := ⟨gb198, 0, none⟩) (Kd.R_types HO185.out BK198.out (by decide)) (fun _ hk => hk.2) (.int .i64 t190)) (fun _ hk => hk.2) (.bool t191)) (fun _ hk => hk.2) (.string t192)) (fun _ hk => hk.2) (.slice Ao30 t193.length co30)) (fun _ h_ => h_.1))) hb); have n2_ := Aside0.mk (Kd.R_below (by (with_reducible repeat (first | apply Kd.R_alloc | apply Kd.R_drewN | apply Kd.R_drew)); exact (Kd.R_mono (Kd.R_far (p := ⟨gb198, 3, none⟩) (Kd.R_far (p := ⟨gb198, 2, none⟩) (Kd.R_far (p := ⟨gb198, 1, none⟩) (Kd.R_far (p := ⟨gb198, 0, none⟩) (Kd.R_types HO195.out BK198.out (by decide)) (fun _ hk => hk.2) (.int .i64 t190)) (fun _ hk => hk.2) (.bool t191)) (fun _ hk => hk.2) (.string t192)) (fun _ hk => hk.2) (.slice Ao30 t193.length co30)) (fun _ h_ => h_.1))) hb); have n3_ := Aside0.mk (blk_below (g := gb188) (o := .cells #[.int .i64 t180, .bool t181, .string t182, .slice Ao22 t183.length co22] 32 (0, 0)) (by (with_reducible repeat (first | refine blk_drewN ?_ _ | refine blk_drew ?_ | refine blk_alloc ?_ _)); refine blk_far ?_ NB188_198.out _; (with_reducible repeat (first | refine blk_drewN ?_ _ | refine blk_drew ?_ | refine blk_alloc ?_ _)); refine blk_far ?_ NB188_198.out _; (with_reducible repeat (first | refine blk_drewN ?_ _ | refine blk_drew ?_ | refine blk_alloc ?_ _)); refine blk_far ?_ NB188_198.out _; (with_reducible repeat (first | refine blk_drewN ?_ _ | refine blk_drew ?_ | refine blk_alloc ?_ _)); refine blk_far ?_ NB188_198.out _; (with_reducible repeat (first | refine blk_drewN ?_ _ | refine blk_drew ?_ | refine blk_alloc ?_ _)); exact BK188.out) hb); have n4_ := Aside0.mk (blk_below (g := gb189) (o := .cells #[.int .i64 t186, .int .i64 t187] 35 (0, 0)) (by (with_reducible repeat (first | refine blk_drewN ?_ _ | refine blk_drew ?_ | refine blk_alloc ?_ _)); refine blk_far ?_ NB189_198.out _; (with_reducible repeat (first | refine blk_drewN ?_ _ | refine blk_drew ?_ | refine blk_alloc ?_ _)); refine blk_far ?_ NB189_198.out _; (with_reducible repeat (first | refine blk_drewN ?_ _ | refine blk_drew ?_ | refine blk_alloc ?_ _)); refine blk_far ?_ NB189_198.out _; (with_reducible repeat (first | refine blk_drewN ?_ _ | refine blk_drew ?_ | refine blk_alloc ?_ _)); refine blk_far ?_ NB189_198.out _; (with_reducible repeat (first | refine blk_drewN ?_ _ | refine blk_drew ?_ | refine blk_alloc ?_ _)); exact BK189.out) hb); have n5_ := Aside0.mk (blk_below (g := gb198) (o := .cells #[.int .i64 t190, .bool t191, .string t192, .slice Ao30 t193.length co30] 32 (0, 0)) (by (with_reducible repeat (first | refine blk_drewN ?_ _ | refine blk_drew ?_ | refine blk_alloc ?_ _)); refine blk_put (cs := #[.int .i64 t190, .bool t191, .string t192, .slice none 0 0]) ?_ 3 _ rfl; (with_reducible repeat (first | refine blk_drewN ?_ _ | refine blk_drew ?_ | refine blk_alloc ?_ _)); refine blk_put (cs := #[.int .i64 t190, .bool t191, .string (⟨#[]⟩ : ByteArray), .slice none 0 0]) ?_ 2 _ rfl; (with_reducible repeat (first | refine blk_drewN ?_ _ | refine blk_drew ?_ | refine blk_alloc ?_ _)); refine blk_put (cs := #[.int .i64 t190, .bool false, .string (⟨#[]⟩ : ByteArray), .slice none 0 0]) ?_ 1 _ rfl; (with_reducible repeat (first | refine blk_drewN ?_ _ | refine blk_drew ?_ | refine blk_alloc ?_ _)); refine blk_put (cs := #[.int .i64 0, .bool false, .string (⟨#[]⟩ : ByteArray), .slice none 0 0]) ?_ 0 _ rfl; (with_reducible repeat (first | refine blk_drewN ?_ _ | refine blk_drew ?_ | refine blk_alloc ?_ _)); exact BK198.out) hb); have n6_ := Aside0.mk (below_step (by repeat (first | (with_reducible first | exact HB.out | apply below_alloc | apply pw_below_drewN | apply below_drew1 | refine below_set ?_ GE188.out | refine below_set ?_ GE189.out | refine below_set ?_ GE198.out) | exact HB.out)) hb); clear HO_3; clear HO185; clear HO195; clear BK188; clear BK189; clear BK198; clear HB; have HO_3 := n0_; have HO185 := n1_; have HO195 := n2_; have BK188 := n3_; have BK189 := n4_; have BK198 := n5_; have HB := n6_; clear n0_ n1_ n2_ n3_ n4_ n5_ n6_; (try clear hb); (try clear hb2); (try clear hk); (try clear hi)))
       go_ret
       exact ⟨by first | rfl | (simp [errW_none, errW_some] <;> rfl) | (simp [*, errW_none, errW_some] <;> rfl), by repeat (first | (with_reducible first | exact HB.out | apply below_alloc | apply pw_below_drewN | apply below_drew1 | refine below_set ?_ GE188.out | refine below_set ?_ GE189.out | refine below_set ?_ GE198.out) | exact HB.out)⟩
      ·rw [if_neg c15] at H
       have c15b0 : (t187 == t197) = false := beq_eq_false_iff_ne.mpr c15
       have c15b1 : (t187 != t197) = true := bne_iff_ne.mpr c15
       obtain rfl := Option.some.inj H
       go_wp2_with (first | ((with_reducible refine gate_callee (f := 11) rfl ?_); refine goesL_ (some 34) rfl rfl Tryd.func11 (by kernel_rfl) rfl #[.slice A0 l0.length c0] rfl (by (try simp only [List.map_toArray, List.map_cons, List.map_nil]); first | done | rfl | (simp only [List.length_drop, List.length_take]; rfl)) ?_; (with_reducible refine (tree_Build.calls _ _ l0 t180 t181 t182 t183 t186 t187 _ ?side1 ?side2 A12.out).mono ?_); (case side1 => repeat (first | exact (Kd.C_below HR0.out HB.out) | (with_reducible refine Kd.C_alloc ?_ _) | (with_reducible refine Kd.C_drewN ?_ _) | (with_reducible refine Kd.C_drew ?_))); (case side2 => exact HC0.out); rintro e w34 ⟨v184, rfl, ho0, hb⟩; refine ⟨_, rfl, ?_⟩; have n0_ := Aside0.mk (Kd.R_below (by (with_reducible repeat (first | apply Kd.R_alloc | apply Kd.R_drewN | apply Kd.R_drew)); exact HO_3.out) hb); have n1_ := Aside0.mk (Kd.R_lower ho0 (below_size (by repeat (first | (with_reducible first | exact HB.out | apply below_alloc | apply pw_below_drewN | apply below_drew1) | exact HB.out)))); have n2_ := Aside0.mk (below_step (by repeat (first | (with_reducible first | exact HB.out | apply below_alloc | apply pw_below_drewN | apply below_drew1) | exact HB.out)) hb); clear HO_3; clear HB; have HO_3 := n0_; have HO185 := n1_; have HB := n2_; clear n0_ n1_ n2_; (try clear hb); (try clear hb2); (try clear hk); (try clear hi); (try clear ho0)) | ((with_reducible refine gate_dst (N := 6) rfl ?_); refine box_event ?hg (N := 6) ?hd (cs := #[.int .i64 0, .bool false, .string (⟨#[]⟩ : ByteArray), .slice none 0 0]) (t := 32) ?hr ?_; (case hd => rfl); (case hg => rfl); (case hr => first | (go_simp; done) | (go_simp; rfl)); intro gb188 hg w35 hbox hb; have n0_ := Aside0.mk (Kd.R_below (by (with_reducible repeat (first | apply Kd.R_alloc | apply Kd.R_drewN | apply Kd.R_drew)); exact HO_3.out) hb); have n1_ := Aside0.mk (Kd.R_below (by (with_reducible repeat (first | apply Kd.R_alloc | apply Kd.R_drewN | apply Kd.R_drew)); exact HO185.out) hb); have n2_ := Aside0.mk (below_step (by repeat (first | (with_reducible first | exact HB.out | apply below_alloc | apply pw_below_drewN | apply below_drew1) | exact HB.out)) hb); have n3_ := Aside0.mk (hbox); have n4_ := Aside0.mk ((by rw [hg]; exact (below_size (by repeat (first | (with_reducible first | exact HB.out | apply below_alloc | apply pw_below_drewN | apply below_drew1) | exact HB.out))) : w.heap.size ≤ gb188)); have n5_ := Aside0.mk ((by rw [hg]; exact (below_size (by repeat (first | (with_reducible first | exact HB.out | apply below_alloc | apply pw_below_drewN | apply below_drew1) | exact HB.out))) : w.heap.size ≤ gb188)); clear HO_3; clear HO185; clear HB; have HO_3 := n0_; have HO185 := n1_; have HB := n2_; have BK188 := n3_; have GW188 := n4_; have GE188 := n5_; clear n0_ n1_ n2_ n3_ n4_ n5_; clear hb hbox hg) | ((with_reducible refine gate_dst (N := 7) rfl ?_); refine box_event ?hg (N := 7) ?hd (cs := #[.int .i64 0, .int .i64 0]) (t := 35) ?hr ?_; (case hd => rfl); (case hg => rfl); (case hr => first | (go_simp; done) | (go_simp; rfl)); intro gb189 hg w36 hbox hb; have n0_ := Aside0.mk (Kd.R_below (by (with_reducible repeat (first | apply Kd.R_alloc | apply Kd.R_drewN | apply Kd.R_drew)); exact HO_3.out) hb); have n1_ := Aside0.mk (Kd.R_below (by (with_reducible repeat (first | apply Kd.R_alloc | apply Kd.R_drewN | apply Kd.R_drew)); exact HO185.out) hb); have n2_ := Aside0.mk (blk_below (g := gb188) (o := .cells #[.int .i64 0, .bool false, .string (⟨#[]⟩ : ByteArray), .slice none 0 0] 32 (0, 0)) (by (with_reducible repeat (first | refine blk_drewN ?_ _ | refine blk_drew ?_ | refine blk_alloc ?_ _)); exact BK188.out) hb); have n3_ := Aside0.mk (below_step (by repeat (first | (with_reducible first | exact HB.out | apply below_alloc | apply pw_below_drewN | apply below_drew1 | refine below_set ?_ GE188.out) | exact HB.out)) hb); have n4_ := Aside0.mk (hbox); have n5_ := Aside0.mk ((by rw [hg]; exact (below_size (by repeat (first | (with_reducible first | exact HB.out | apply below_alloc | apply pw_below_drewN | apply below_drew1 | refine below_set ?_ GE188.out) | exact HB.out))) : w.heap.size ≤ gb189)); have n6_ := Aside0.mk ((by rw [hg]; exact (below_size (by repeat (first | (with_reducible first | exact HB.out | apply below_alloc | apply pw_below_drewN | apply below_drew1 | refine below_set ?_ GE188.out) | exact HB.out))) : w.heap.size ≤ gb189)); have n7_ := Aside0.mk ((by rw [hg]; exact Nat.ne_of_lt (blk_lt (g := gb188) (o := .cells #[.int .i64 0, .bool false, .string (⟨#[]⟩ : ByteArray), .slice none 0 0] 32 (0, 0)) (by (with_reducible repeat (first | refine blk_drewN ?_ _ | refine blk_drew ?_ | refine blk_alloc ?_ _)); exact BK188.out)) : gb188 ≠ gb189)); have n8_ := Aside0.mk ((by rw [hg]; exact Nat.ne_of_gt (blk_lt (g := gb188) (o := .cells #[.int .i64 0, .bool false, .string (⟨#[]⟩ : ByteArray), .slice none 0 0] 32 (0, 0)) (by (with_reducible repeat (first | refine blk_drewN ?_ _ | refine blk_drew ?_ | refine blk_alloc ?_ _)); exact BK188.out)) : gb189 ≠ gb188)); clear HO_3; clear HO185; clear BK188; clear HB; have HO_3 := n0_; have HO185 := n1_; have BK188 := n2_; have HB := n3_; have BK189 := n4_; have GW189 := n5_; have GE189 := n6_; have NB188_189 := n7_; have NB189_188 := n8_; clear n0_ n1_ n2_ n3_ n4_ n5_ n6_ n7_ n8_; clear hb hbox hg; have hnb37 := NB188_189.out; have hnc37 := NB189_188.out; have hcz38_0 : w36.cell? ⟨gb188, 0, none⟩ = some (.int .i64 0) := (blk_cell BK188.out 0).trans rfl; have hcz38_1 : w36.cell? ⟨gb188, 1, none⟩ = some (.bool false) := (blk_cell BK188.out 1).trans rfl; have hcz38_2 : w36.cell? ⟨gb188, 2, none⟩ = some (.string (⟨#[]⟩ : ByteArray)) := (blk_cell BK188.out 2).trans rfl; have hcz38_3 : w36.cell? ⟨gb188, 3, none⟩ = some (.slice none 0 0) := (blk_cell BK188.out 3).trans rfl; have hfz38_0 := blk_frozen BK188.out 0; have hfz38_1 := blk_frozen BK188.out 1; have hfz38_2 := blk_frozen BK188.out 2; have hfz38_3 := blk_frozen BK188.out 3; obtain ⟨Ao39, co39, eo39⟩ := Kd.R_slice HO185.out; subst eo39; have hcz40_0 : w36.cell? ⟨gb189, 0, none⟩ = some (.int .i64 0) := (blk_cell BK189.out 0).trans rfl; have hcz40_1 : w36.cell? ⟨gb189, 1, none⟩ = some (.int .i64 0) := (blk_cell BK189.out 1).trans rfl; have hfz40_0 := blk_frozen BK189.out 0; have hfz40_1 := blk_frozen BK189.out 1; obtain ⟨Ao41, co41, eo41⟩ := Kd.R_slice HO_3.out; subst eo41) | ((with_reducible refine gate_callee (f := 12) rfl ?_); refine goesL_ (some 39) rfl rfl Tryd.func12 (by kernel_rfl) rfl #[.slice Ao41 x3_1.length co41] rfl (by (try simp only [List.map_toArray, List.map_cons, List.map_nil]); first | done | rfl | (simp only [List.length_drop, List.length_take]; rfl)) ?_; (with_reducible refine (depotref06_Build.calls k1 _ _ x3_1 t190 t191 t192 t193 t196 t197 _ ?side1 ?side2 A13.out).mono ?_); (case side1 => refine (Kd.R_reads' (e := 29) (base := w.heap.size) (ok := fun k_ => True) (n := x3_1.length) (c := co41) ?_).2.2; exact (by (with_reducible repeat (first | apply Kd.R_alloc | apply Kd.R_drewN | apply Kd.R_drew)); exact (Kd.R_mono (Kd.R_mono (Kd.R_far (p := ⟨gb189, 1, none⟩) (Kd.R_far (p := ⟨gb189, 0, none⟩) (Kd.R_far (p := ⟨gb188, 3, none⟩) (Kd.R_far (p := ⟨gb188, 2, none⟩) (Kd.R_far (p := ⟨gb188, 1, none⟩) (Kd.R_far (p := ⟨gb188, 0, none⟩) (Kd.R_types (Kd.R_types HO_3.out BK188.out (by decide)) BK189.out (by decide)) (fun _ hk => hk.1.2) (.int .i64 t180)) (fun _ hk => hk.1.2) (.bool t181)) (fun _ hk => hk.1.2) (.string t182)) (fun _ hk => hk.1.2) (.slice Ao39 t183.length co39)) (fun _ hk => hk.2) (.int .i64 t186)) (fun _ hk => hk.2) (.int .i64 t187)) (fun _ h_ => h_.1)) (fun _ h_ => h_.1)))); (case side2 => exact (Kd.R_reads' HO_3.out).2.1); rintro e w42 ⟨v194, rfl, ho0, hb⟩; refine ⟨_, rfl, ?_⟩; have n0_ := Aside0.mk (Kd.R_below (by (with_reducible repeat (first | apply Kd.R_alloc | apply Kd.R_drewN | apply Kd.R_drew)); exact (Kd.R_mono (Kd.R_mono (Kd.R_far (p := ⟨gb189, 1, none⟩) (Kd.R_far (p := ⟨gb189, 0, none⟩) (Kd.R_far (p := ⟨gb188, 3, none⟩) (Kd.R_far (p := ⟨gb188, 2, none⟩) (Kd.R_far (p := ⟨gb188, 1, none⟩) (Kd.R_far (p := ⟨gb188, 0, none⟩) (Kd.R_types (Kd.R_types HO_3.out BK188.out (by decide)) BK189.out (by decide)) (fun _ hk => hk.1.2) (.int .i64 t180)) (fun _ hk => hk.1.2) (.bool t181)) (fun _ hk => hk.1.2) (.string t182)) (fun _ hk => hk.1.2) (.slice Ao39 t183.length co39)) (fun _ hk => hk.2) (.int .i64 t186)) (fun _ hk => hk.2) (.int .i64 t187)) (fun _ h_ => h_.1)) (fun _ h_ => h_.1))) hb); have n1_ := Aside0.mk (Kd.R_elder' (by (with_reducible repeat (first | apply Kd.R_alloc | apply Kd.R_drewN | apply Kd.R_drew)); exact (Kd.R_mono (Kd.R_mono (Kd.R_far (p := ⟨gb189, 1, none⟩) (Kd.R_far (p := ⟨gb189, 0, none⟩) (Kd.R_far (p := ⟨gb188, 3, none⟩) (Kd.R_far (p := ⟨gb188, 2, none⟩) (Kd.R_far (p := ⟨gb188, 1, none⟩) (Kd.R_far (p := ⟨gb188, 0, none⟩) (Kd.R_types (Kd.R_types HO185.out BK188.out (by decide)) BK189.out (by decide)) (fun _ hk => hk.1.2) (.int .i64 t180)) (fun _ hk => hk.1.2) (.bool t181)) (fun _ hk => hk.1.2) (.string t182)) (fun _ hk => hk.1.2) (.slice Ao39 t183.length co39)) (fun _ hk => hk.2) (.int .i64 t186)) (fun _ hk => hk.2) (.int .i64 t187)) (fun _ h_ => h_.1)) (fun _ h_ => h_.1))) (Kd.R_base ho0) hb); have n2_ := Aside0.mk (Kd.R_lower (Kd.R_new' ho0 (Kd.R_lt (by (with_reducible repeat (first | apply Kd.R_alloc | apply Kd.R_drewN | apply Kd.R_drew)); exact (Kd.R_mono (Kd.R_mono (Kd.R_far (p := ⟨gb189, 1, none⟩) (Kd.R_far (p := ⟨gb189, 0, none⟩) (Kd.R_far (p := ⟨gb188, 3, none⟩) (Kd.R_far (p := ⟨gb188, 2, none⟩) (Kd.R_far (p := ⟨gb188, 1, none⟩) (Kd.R_far (p := ⟨gb188, 0, none⟩) (Kd.R_types (Kd.R_types HO185.out BK188.out (by decide)) BK189.out (by decide)) (fun _ hk => hk.1.2) (.int .i64 t180)) (fun _ hk => hk.1.2) (.bool t181)) (fun _ hk => hk.1.2) (.string t182)) (fun _ hk => hk.1.2) (.slice Ao39 t183.length co39)) (fun _ hk => hk.2) (.int .i64 t186)) (fun _ hk => hk.2) (.int .i64 t187)) (fun _ h_ => h_.1)) (fun _ h_ => h_.1))))) (below_size (by repeat (first | (with_reducible first | exact HB.out | apply below_alloc | apply pw_below_drewN | apply below_drew1 | refine below_set ?_ GE188.out | refine below_set ?_ GE189.out) | exact HB.out)))); have n3_ := Aside0.mk (blk_below (g := gb188) (o := .cells #[.int .i64 t180, .bool t181, .string t182, .slice Ao39 t183.length co39] 32 (0, 0)) (by (with_reducible repeat (first | refine blk_drewN ?_ _ | refine blk_drew ?_ | refine blk_alloc ?_ _)); refine blk_far ?_ NB188_189.out _; (with_reducible repeat (first | refine blk_drewN ?_ _ | refine blk_drew ?_ | refine blk_alloc ?_ _)); refine blk_far ?_ NB188_189.out _; (with_reducible repeat (first | refine blk_drewN ?_ _ | refine blk_drew ?_ | refine blk_alloc ?_ _)); refine blk_put (cs := #[.int .i64 t180, .bool t181, .string t182, .slice none 0 0]) ?_ 3 _ rfl; (with_reducible repeat (first | refine blk_drewN ?_ _ | refine blk_drew ?_ | refine blk_alloc ?_ _)); refine blk_put (cs := #[.int .i64 t180, .bool t181, .string (⟨#[]⟩ : ByteArray), .slice none 0 0]) ?_ 2 _ rfl; (with_reducible repeat (first | refine blk_drewN ?_ _ | refine blk_drew ?_ | refine blk_alloc ?_ _)); refine blk_put (cs := #[.int .i64 t180, .bool false, .string (⟨#[]⟩ : ByteArray), .slice none 0 0]) ?_ 1 _ rfl; (with_reducible repeat (first | refine blk_drewN ?_ _ | refine blk_drew ?_ | refine blk_alloc ?_ _)); refine blk_put (cs := #[.int .i64 0, .bool false, .string (⟨#[]⟩ : ByteArray), .slice none 0 0]) ?_ 0 _ rfl; (with_reducible repeat (first | refine blk_drewN ?_ _ | refine blk_drew ?_ | refine blk_alloc ?_ _)); exact BK188.out) hb); have n4_ := Aside0.mk (blk_below (g := gb189) (o := .cells #[.int .i64 t186, .int .i64 t187] 35 (0, 0)) (by (with_reducible repeat (first | refine blk_drewN ?_ _ | refine blk_drew ?_ | refine blk_alloc ?_ _)); refine blk_put (cs := #[.int .i64 t186, .int .i64 0]) ?_ 1 _ rfl; (with_reducible repeat (first | refine blk_drewN ?_ _ | refine blk_drew ?_ | refine blk_alloc ?_ _)); refine blk_put (cs := #[.int .i64 0, .int .i64 0]) ?_ 0 _ rfl; (with_reducible repeat (first | refine blk_drewN ?_ _ | refine blk_drew ?_ | refine blk_alloc ?_ _)); refine blk_far ?_ NB189_188.out _; (with_reducible repeat (first | refine blk_drewN ?_ _ | refine blk_drew ?_ | refine blk_alloc ?_ _)); refine blk_far ?_ NB189_188.out _; (with_reducible repeat (first | refine blk_drewN ?_ _ | refine blk_drew ?_ | refine blk_alloc ?_ _)); refine blk_far ?_ NB189_188.out _; (with_reducible repeat (first | refine blk_drewN ?_ _ | refine blk_drew ?_ | refine blk_alloc ?_ _)); refine blk_far ?_ NB189_188.out _; (with_reducible repeat (first | refine blk_drewN ?_ _ | refine blk_drew ?_ | refine blk_alloc ?_ _)); exact BK189.out) hb); have n5_ := Aside0.mk (below_step (by repeat (first | (with_reducible first | exact HB.out | apply below_alloc | apply pw_below_drewN | apply below_drew1 | refine below_set ?_ GE188.out | refine below_set ?_ GE189.out) | exact HB.out)) hb); clear HO_3; clear HO185; clear BK188; clear BK189; clear HB; have HO_3 := n0_; have HO185 := n1_; have HO195 := n2_; have BK188 := n3_; have BK189 := n4_; have HB := n5_; clear n0_ n1_ n2_ n3_ n4_ n5_; (try clear hb); (try clear hb2); (try clear hk); (try clear hi); (try clear ho0)) | ((with_reducible refine gate_dst (N := 8) rfl ?_); refine box_event ?hg (N := 8) ?hd (cs := #[.int .i64 0, .bool false, .string (⟨#[]⟩ : ByteArray), .slice none 0 0]) (t := 32) ?hr ?_; (case hd => rfl); (case hg => rfl); (case hr => first | (go_simp; done) | (go_simp; rfl)); intro gb198 hg w43 hbox hb; have n0_ := Aside0.mk (Kd.R_below (by (with_reducible repeat (first | apply Kd.R_alloc | apply Kd.R_drewN | apply Kd.R_drew)); exact HO_3.out) hb); have n1_ := Aside0.mk (Kd.R_below (by (with_reducible repeat (first | apply Kd.R_alloc | apply Kd.R_drewN | apply Kd.R_drew)); exact HO185.out) hb); have n2_ := Aside0.mk (Kd.R_below (by (with_reducible repeat (first | apply Kd.R_alloc | apply Kd.R_drewN | apply Kd.R_drew)); exact HO195.out) hb); have n3_ := Aside0.mk (blk_below (g := gb188) (o := .cells #[.int .i64 t180, .bool t181, .string t182, .slice Ao39 t183.length co39] 32 (0, 0)) (by (with_reducible repeat (first | refine blk_drewN ?_ _ | refine blk_drew ?_ | refine blk_alloc ?_ _)); exact BK188.out) hb); have n4_ := Aside0.mk (blk_below (g := gb189) (o := .cells #[.int .i64 t186, .int .i64 t187] 35 (0, 0)) (by (with_reducible repeat (first | refine blk_drewN ?_ _ | refine blk_drew ?_ | refine blk_alloc ?_ _)); exact BK189.out) hb); have n5_ := Aside0.mk (below_step (by repeat (first | (with_reducible first | exact HB.out | apply below_alloc | apply pw_below_drewN | apply below_drew1 | refine below_set ?_ GE188.out | refine below_set ?_ GE189.out) | exact HB.out)) hb); have n6_ := Aside0.mk (hbox); have n7_ := Aside0.mk ((by rw [hg]; exact (below_size (by repeat (first | (with_reducible first | exact HB.out | apply below_alloc | apply pw_below_drewN | apply below_drew1 | refine below_set ?_ GE188.out | refine below_set ?_ GE189.out) | exact HB.out))) : w.heap.size ≤ gb198)); have n8_ := Aside0.mk ((by rw [hg]; exact (below_size (by repeat (first | (with_reducible first | exact HB.out | apply below_alloc | apply pw_below_drewN | apply below_drew1 | refine below_set ?_ GE188.out | refine below_set ?_ GE189.out) | exact HB.out))) : w.heap.size ≤ gb198)); have n9_ := Aside0.mk ((by rw [hg]; exact Nat.ne_of_lt (blk_lt (g := gb188) (o := .cells #[.int .i64 t180, .bool t181, .string t182, .slice Ao39 t183.length co39] 32 (0, 0)) (by (with_reducible repeat (first | refine blk_drewN ?_ _ | refine blk_drew ?_ | refine blk_alloc ?_ _)); exact BK188.out)) : gb188 ≠ gb198)); have n10_ := Aside0.mk ((by rw [hg]; exact Nat.ne_of_gt (blk_lt (g := gb188) (o := .cells #[.int .i64 t180, .bool t181, .string t182, .slice Ao39 t183.length co39] 32 (0, 0)) (by (with_reducible repeat (first | refine blk_drewN ?_ _ | refine blk_drew ?_ | refine blk_alloc ?_ _)); exact BK188.out)) : gb198 ≠ gb188)); have n11_ := Aside0.mk ((by rw [hg]; exact Nat.ne_of_lt (blk_lt (g := gb189) (o := .cells #[.int .i64 t186, .int .i64 t187] 35 (0, 0)) (by (with_reducible repeat (first | refine blk_drewN ?_ _ | refine blk_drew ?_ | refine blk_alloc ?_ _)); exact BK189.out)) : gb189 ≠ gb198)); have n12_ := Aside0.mk ((by rw [hg]; exact Nat.ne_of_gt (blk_lt (g := gb189) (o := .cells #[.int .i64 t186, .int .i64 t187] 35 (0, 0)) (by (with_reducible repeat (first | refine blk_drewN ?_ _ | refine blk_drew ?_ | refine blk_alloc ?_ _)); exact BK189.out)) : gb198 ≠ gb189)); clear HO_3; clear HO185; clear HO195; clear BK188; clear BK189; clear HB; have HO_3 := n0_; have HO185 := n1_; have HO195 := n2_; have BK188 := n3_; have BK189 := n4_; have HB := n5_; have BK198 := n6_; have GW198 := n7_; have GE198 := n8_; have NB188_198 := n9_; have NB198_188 := n10_; have NB189_198 := n11_; have NB198_189 := n12_; clear n0_ n1_ n2_ n3_ n4_ n5_ n6_ n7_ n8_ n9_ n10_ n11_ n12_; clear hb hbox hg; have hnb44 := NB198_188.out; have hnc44 := NB188_198.out; have hnb45 := NB198_189.out; have hnc45 := NB189_198.out; have hcz46_0 : w43.cell? ⟨gb198, 0, none⟩ = some (.int .i64 0) := (blk_cell BK198.out 0).trans rfl; have hcz46_1 : w43.cell? ⟨gb198, 1, none⟩ = some (.bool false) := (blk_cell BK198.out 1).trans rfl; have hcz46_2 : w43.cell? ⟨gb198, 2, none⟩ = some (.string (⟨#[]⟩ : ByteArray)) := (blk_cell BK198.out 2).trans rfl; have hcz46_3 : w43.cell? ⟨gb198, 3, none⟩ = some (.slice none 0 0) := (blk_cell BK198.out 3).trans rfl; have hfz46_0 := blk_frozen BK198.out 0; have hfz46_1 := blk_frozen BK198.out 1; have hfz46_2 := blk_frozen BK198.out 2; have hfz46_3 := blk_frozen BK198.out 3; obtain ⟨Ao47, co47, eo47⟩ := Kd.R_slice HO195.out; subst eo47; have hcz48_0 : w43.cell? ⟨gb189, 0, none⟩ = some (.int .i64 t186) := (blk_cell BK189.out 0).trans rfl; have hcz48_1 : w43.cell? ⟨gb189, 1, none⟩ = some (.int .i64 t187) := (blk_cell BK189.out 1).trans rfl; have hfz48_0 := blk_frozen BK189.out 0; have hfz48_1 := blk_frozen BK189.out 1))
       go_ret
       exact ⟨by first | rfl | (simp [errW_none, errW_some] <;> rfl) | (simp [*, errW_none, errW_some] <;> rfl), by repeat (first | (with_reducible first | exact HB.out | apply below_alloc | apply pw_below_drewN | apply below_drew1 | refine below_set ?_ GE188.out | refine below_set ?_ GE189.out | refine below_set ?_ GE198.out) | exact HB.out)⟩
     ·rw [if_neg c14] at H
      have c14b0 : (t186 == t196) = false := beq_eq_false_iff_ne.mpr c14
      have c14b1 : (t186 != t196) = true := bne_iff_ne.mpr c14
      obtain rfl := Option.some.inj H
      go_wp2_with (first | ((with_reducible refine gate_callee (f := 11) rfl ?_); refine goesL_ (some 34) rfl rfl Tryd.func11 (by kernel_rfl) rfl #[.slice A0 l0.length c0] rfl (by (try simp only [List.map_toArray, List.map_cons, List.map_nil]); first | done | rfl | (simp only [List.length_drop, List.length_take]; rfl)) ?_; (with_reducible refine (tree_Build.calls _ _ l0 t180 t181 t182 t183 t186 t187 _ ?side1 ?side2 A12.out).mono ?_); (case side1 => repeat (first | exact (Kd.C_below HR0.out HB.out) | (with_reducible refine Kd.C_alloc ?_ _) | (with_reducible refine Kd.C_drewN ?_ _) | (with_reducible refine Kd.C_drew ?_))); (case side2 => exact HC0.out); rintro e w49 ⟨v184, rfl, ho0, hb⟩; refine ⟨_, rfl, ?_⟩; have n0_ := Aside0.mk (Kd.R_below (by (with_reducible repeat (first | apply Kd.R_alloc | apply Kd.R_drewN | apply Kd.R_drew)); exact HO_3.out) hb); have n1_ := Aside0.mk (Kd.R_lower ho0 (below_size (by repeat (first | (with_reducible first | exact HB.out | apply below_alloc | apply pw_below_drewN | apply below_drew1) | exact HB.out)))); have n2_ := Aside0.mk (below_step (by repeat (first | (with_reducible first | exact HB.out | apply below_alloc | apply pw_below_drewN | apply below_drew1) | exact HB.out)) hb); clear HO_3; clear HB; have HO_3 := n0_; have HO185 := n1_; have HB := n2_; clear n0_ n1_ n2_; (try clear hb); (try clear hb2); (try clear hk); (try clear hi); (try clear ho0)) | ((with_reducible refine gate_dst (N := 6) rfl ?_); refine box_event ?hg (N := 6) ?hd (cs := #[.int .i64 0, .bool false, .string (⟨#[]⟩ : ByteArray), .slice none 0 0]) (t := 32) ?hr ?_; (case hd => rfl); (case hg => rfl); (case hr => first | (go_simp; done) | (go_simp; rfl)); intro gb188 hg w50 hbox hb; have n0_ := Aside0.mk (Kd.R_below (by (with_reducible repeat (first | apply Kd.R_alloc | apply Kd.R_drewN | apply Kd.R_drew)); exact HO_3.out) hb); have n1_ := Aside0.mk (Kd.R_below (by (with_reducible repeat (first | apply Kd.R_alloc | apply Kd.R_drewN | apply Kd.R_drew)); exact HO185.out) hb); have n2_ := Aside0.mk (below_step (by repeat (first | (with_reducible first | exact HB.out | apply below_alloc | apply pw_below_drewN | apply below_drew1) | exact HB.out)) hb); have n3_ := Aside0.mk (hbox); have n4_ := Aside0.mk ((by rw [hg]; exact (below_size (by repeat (first | (with_reducible first | exact HB.out | apply below_alloc | apply pw_below_drewN | apply below_drew1) | exact HB.out))) : w.heap.size ≤ gb188)); have n5_ := Aside0.mk ((by rw [hg]; exact (below_size (by repeat (first | (with_reducible first | exact HB.out | apply below_alloc | apply pw_below_drewN | apply below_drew1) | exact HB.out))) : w.heap.size ≤ gb188)); clear HO_3; clear HO185; clear HB; have HO_3 := n0_; have HO185 := n1_; have HB := n2_; have BK188 := n3_; have GW188 := n4_; have GE188 := n5_; clear n0_ n1_ n2_ n3_ n4_ n5_; clear hb hbox hg) | ((with_reducible refine gate_dst (N := 7) rfl ?_); refine box_event ?hg (N := 7) ?hd (cs := #[.int .i64 0, .int .i64 0]) (t := 35) ?hr ?_; (case hd => rfl); (case hg => rfl); (case hr => first | (go_simp; done) | (go_simp; rfl)); intro gb189 hg w51 hbox hb; have n0_ := Aside0.mk (Kd.R_below (by (with_reducible repeat (first | apply Kd.R_alloc | apply Kd.R_drewN | apply Kd.R_drew)); exact HO_3.out) hb); have n1_ := Aside0.mk (Kd.R_below (by (with_reducible repeat (first | apply Kd.R_alloc | apply Kd.R_drewN | apply Kd.R_drew)); exact HO185.out) hb); have n2_ := Aside0.mk (blk_below (g := gb188) (o := .cells #[.int .i64 0, .bool false, .string (⟨#[]⟩ : ByteArray), .slice none 0 0] 32 (0, 0)) (by (with_reducible repeat (first | refine blk_drewN ?_ _ | refine blk_drew ?_ | refine blk_alloc ?_ _)); exact BK188.out) hb); have n3_ := Aside0.mk (below_step (by repeat (first | (with_reducible first | exact HB.out | apply below_alloc | apply pw_below_drewN | apply below_drew1 | refine below_set ?_ GE188.out) | exact HB.out)) hb); have n4_ := Aside0.mk (hbox); have n5_ := Aside0.mk ((by rw [hg]; exact (below_size (by repeat (first | (with_reducible first | exact HB.out | apply below_alloc | apply pw_below_drewN | apply below_drew1 | refine below_set ?_ GE188.out) | exact HB.out))) : w.heap.size ≤ gb189)); have n6_ := Aside0.mk ((by rw [hg]; exact (below_size (by repeat (first | (with_reducible first | exact HB.out | apply below_alloc | apply pw_below_drewN | apply below_drew1 | refine below_set ?_ GE188.out) | exact HB.out))) : w.heap.size ≤ gb189)); have n7_ := Aside0.mk ((by rw [hg]; exact Nat.ne_of_lt (blk_lt (g := gb188) (o := .cells #[.int .i64 0, .bool false, .string (⟨#[]⟩ : ByteArray), .slice none 0 0] 32 (0, 0)) (by (with_reducible repeat (first | refine blk_drewN ?_ _ | refine blk_drew ?_ | refine blk_alloc ?_ _)); exact BK188.out)) : gb188 ≠ gb189)); have n8_ := Aside0.mk ((by rw [hg]; exact Nat.ne_of_gt (blk_lt (g := gb188) (o := .cells #[.int .i64 0, .bool false, .string (⟨#[]⟩ : ByteArray), .slice none 0 0] 32 (0, 0)) (by (with_reducible repeat (first | refine blk_drewN ?_ _ | refine blk_drew ?_ | refine blk_alloc ?_ _)); exact BK188.out)) : gb189 ≠ gb188)); clear HO_3; clear HO185; clear BK188; clear HB; have HO_3 := n0_; have HO185 := n1_; have BK188 := n2_; have HB := n3_; have BK189 := n4_; have GW189 := n5_; have GE189 := n6_; have NB188_189 := n7_; have NB189_188 := n8_; clear n0_ n1_ n2_ n3_ n4_ n5_ n6_ n7_ n8_; clear hb hbox hg; have hnb52 := NB188_189.out; have hnc52 := NB189_188.out; have hcz53_0 : w51.cell? ⟨gb188, 0, none⟩ = some (.int .i64 0) := (blk_cell BK188.out 0).trans rfl; have hcz53_1 : w51.cell? ⟨gb188, 1, none⟩ = some (.bool false) := (blk_cell BK188.out 1).trans rfl; have hcz53_2 : w51.cell? ⟨gb188, 2, none⟩ = some (.string (⟨#[]⟩ : ByteArray)) := (blk_cell BK188.out 2).trans rfl; have hcz53_3 : w51.cell? ⟨gb188, 3, none⟩ = some (.slice none 0 0) := (blk_cell BK188.out 3).trans rfl; have hfz53_0 := blk_frozen BK188.out 0; have hfz53_1 := blk_frozen BK188.out 1; have hfz53_2 := blk_frozen BK188.out 2; have hfz53_3 := blk_frozen BK188.out 3; obtain ⟨Ao54, co54, eo54⟩ := Kd.R_slice HO185.out; subst eo54; have hcz55_0 : w51.cell? ⟨gb189, 0, none⟩ = some (.int .i64 0) := (blk_cell BK189.out 0).trans rfl; have hcz55_1 : w51.cell? ⟨gb189, 1, none⟩ = some (.int .i64 0) := (blk_cell BK189.out 1).trans rfl; have hfz55_0 := blk_frozen BK189.out 0; have hfz55_1 := blk_frozen BK189.out 1; obtain ⟨Ao56, co56, eo56⟩ := Kd.R_slice HO_3.out; subst eo56) | ((with_reducible refine gate_callee (f := 12) rfl ?_); refine goesL_ (some 39) rfl rfl Tryd.func12 (by kernel_rfl) rfl #[.slice Ao56 x3_1.length co56] rfl (by (try simp only [List.map_toArray, List.map_cons, List.map_nil]); first | done | rfl | (simp only [List.length_drop, List.length_take]; rfl)) ?_; (with_reducible refine (depotref06_Build.calls k1 _ _ x3_1 t190 t191 t192 t193 t196 t197 _ ?side1 ?side2 A13.out).mono ?_); (case side1 => refine (Kd.R_reads' (e := 29) (base := w.heap.size) (ok := fun k_ => True) (n := x3_1.length) (c := co56) ?_).2.2; exact (by (with_reducible repeat (first | apply Kd.R_alloc | apply Kd.R_drewN | apply Kd.R_drew)); exact (Kd.R_mono (Kd.R_mono (Kd.R_far (p := ⟨gb189, 1, none⟩) (Kd.R_far (p := ⟨gb189, 0, none⟩) (Kd.R_far (p := ⟨gb188, 3, none⟩) (Kd.R_far (p := ⟨gb188, 2, none⟩) (Kd.R_far (p := ⟨gb188, 1, none⟩) (Kd.R_far (p := ⟨gb188, 0, none⟩) (Kd.R_types (Kd.R_types HO_3.out BK188.out (by decide)) BK189.out (by decide)) (fun _ hk => hk.1.2) (.int .i64 t180)) (fun _ hk => hk.1.2) (.bool t181)) (fun _ hk => hk.1.2) (.string t182)) (fun _ hk => hk.1.2) (.slice Ao54 t183.length co54)) (fun _ hk => hk.2) (.int .i64 t186)) (fun _ hk => hk.2) (.int .i64 t187)) (fun _ h_ => h_.1)) (fun _ h_ => h_.1)))); (case side2 => exact (Kd.R_reads' HO_3.out).2.1); rintro e w57 ⟨v194, rfl, ho0, hb⟩; refine ⟨_, rfl, ?_⟩; have n0_ := Aside0.mk (Kd.R_below (by (with_reducible repeat (first | apply Kd.R_alloc | apply Kd.R_drewN | apply Kd.R_drew)); exact (Kd.R_mono (Kd.R_mono (Kd.R_far (p := ⟨gb189, 1, none⟩) (Kd.R_far (p := ⟨gb189, 0, none⟩) (Kd.R_far (p := ⟨gb188, 3, none⟩) (Kd.R_far (p := ⟨gb188, 2, none⟩) (Kd.R_far (p := ⟨gb188, 1, none⟩) (Kd.R_far (p := ⟨gb188, 0, none⟩) (Kd.R_types (Kd.R_types HO_3.out BK188.out (by decide)) BK189.out (by decide)) (fun _ hk => hk.1.2) (.int .i64 t180)) (fun _ hk => hk.1.2) (.bool t181)) (fun _ hk => hk.1.2) (.string t182)) (fun _ hk => hk.1.2) (.slice Ao54 t183.length co54)) (fun _ hk => hk.2) (.int .i64 t186)) (fun _ hk => hk.2) (.int .i64 t187)) (fun _ h_ => h_.1)) (fun _ h_ => h_.1))) hb); have n1_ := Aside0.mk (Kd.R_elder' (by (with_reducible repeat (first | apply Kd.R_alloc | apply Kd.R_drewN | apply Kd.R_drew)); exact (Kd.R_mono (Kd.R_mono (Kd.R_far (p := ⟨gb189, 1, none⟩) (Kd.R_far (p := ⟨gb189, 0, none⟩) (Kd.R_far (p := ⟨gb188, 3, none⟩) (Kd.R_far (p := ⟨gb188, 2, none⟩) (Kd.R_far (p := ⟨gb188, 1, none⟩) (Kd.R_far (p := ⟨gb188, 0, none⟩) (Kd.R_types (Kd.R_types HO185.out BK188.out (by decide)) BK189.out (by decide)) (fun _ hk => hk.1.2) (.int .i64 t180)) (fun _ hk => hk.1.2) (.bool t181)) (fun _ hk => hk.1.2) (.string t182)) (fun _ hk => hk.1.2) (.slice Ao54 t183.length co54)) (fun _ hk => hk.2) (.int .i64 t186)) (fun _ hk => hk.2) (.int .i64 t187)) (fun _ h_ => h_.1)) (fun _ h_ => h_.1))) (Kd.R_base ho0) hb); have n2_ := Aside0.mk (Kd.R_lower (Kd.R_new' ho0 (Kd.R_lt (by (with_reducible repeat (first | apply Kd.R_alloc | apply Kd.R_drewN | apply Kd.R_drew)); exact (Kd.R_mono (Kd.R_mono (Kd.R_far (p := ⟨gb189, 1, none⟩) (Kd.R_far (p := ⟨gb189, 0, none⟩) (Kd.R_far (p := ⟨gb188, 3, none⟩) (Kd.R_far (p := ⟨gb188, 2, none⟩) (Kd.R_far (p := ⟨gb188, 1, none⟩) (Kd.R_far (p := ⟨gb188, 0, none⟩) (Kd.R_types (Kd.R_types HO185.out BK188.out (by decide)) BK189.out (by decide)) (fun _ hk => hk.1.2) (.int .i64 t180)) (fun _ hk => hk.1.2) (.bool t181)) (fun _ hk => hk.1.2) (.string t182)) (fun _ hk => hk.1.2) (.slice Ao54 t183.length co54)) (fun _ hk => hk.2) (.int .i64 t186)) (fun _ hk => hk.2) (.int .i64 t187)) (fun _ h_ => h_.1)) (fun _ h_ => h_.1))))) (below_size (by repeat (first | (with_reducible first | exact HB.out | apply below_alloc | apply pw_below_drewN | apply below_drew1 | refine below_set ?_ GE188.out | refine below_set ?_ GE189.out) | exact HB.out)))); have n3_ := Aside0.mk (blk_below (g := gb188) (o := .cells #[.int .i64 t180, .bool t181, .string t182, .slice Ao54 t183.length co54] 32 (0, 0)) (by (with_reducible repeat (first | refine blk_drewN ?_ _ | refine blk_drew ?_ | refine blk_alloc ?_ _)); refine blk_far ?_ NB188_189.out _; (with_reducible repeat (first | refine blk_drewN ?_ _ | refine blk_drew ?_ | refine blk_alloc ?_ _)); refine blk_far ?_ NB188_189.out _; (with_reducible repeat (first | refine blk_drewN ?_ _ | refine blk_drew ?_ | refine blk_alloc ?_ _)); refine blk_put (cs := #[.int .i64 t180, .bool t181, .string t182, .slice none 0 0]) ?_ 3 _ rfl; (with_reducible repeat (first | refine blk_drewN ?_ _ | refine blk_drew ?_ | refine blk_alloc ?_ _)); refine blk_put (cs := #[.int .i64 t180, .bool t181, .string (⟨#[]⟩ : ByteArray), .slice none 0 0]) ?_ 2 _ rfl; (with_reducible repeat (first | refine blk_drewN ?_ _ | refine blk_drew ?_ | refine blk_alloc ?_ _)); refine blk_put (cs := #[.int .i64 t180, .bool false, .string (⟨#[]⟩ : ByteArray), .slice none 0 0]) ?_ 1 _ rfl; (with_reducible repeat (first | refine blk_drewN ?_ _ | refine blk_drew ?_ | refine blk_alloc ?_ _)); refine blk_put (cs := #[.int .i64 0, .bool false, .string (⟨#[]⟩ : ByteArray), .slice none 0 0]) ?_ 0 _ rfl; (with_reducible repeat (first | refine blk_drewN ?_ _ | refine blk_drew ?_ | refine blk_alloc ?_ _)); exact BK188.out) hb); have n4_ := Aside0.mk (blk_below (g := gb189) (o := .cells #[.int .i64 t186, .int .i64 t187] 35 (0, 0)) (by (with_reducible repeat (first | refine blk_drewN ?_ _ | refine blk_drew ?_ | refine blk_alloc ?_ _)); refine blk_put (cs := #[.int .i64 t186, .int .i64 0]) ?_ 1 _ rfl; (with_reducible repeat (first | refine blk_drewN ?_ _ | refine blk_drew ?_ | refine blk_alloc ?_ _)); refine blk_put (cs := #[.int .i64 0, .int .i64 0]) ?_ 0 _ rfl; (with_reducible repeat (first | refine blk_drewN ?_ _ | refine blk_drew ?_ | refine blk_alloc ?_ _)); refine blk_far ?_ NB189_188.out _; (with_reducible repeat (first | refine blk_drewN ?_ _ | refine blk_drew ?_ | refine blk_alloc ?_ _)); refine blk_far ?_ NB189_188.out _; (with_reducible repeat (first | refine blk_drewN ?_ _ | refine blk_drew ?_ | refine blk_alloc ?_ _)); refine blk_far ?_ NB189_188.out _; (with_reducible repeat (first | refine blk_drewN ?_ _ | refine blk_drew ?_ | refine blk_alloc ?_ _)); refine blk_far ?_ NB189_188.out _; (with_reducible repeat (first | refine blk_drewN ?_ _ | refine blk_drew ?_ | refine blk_alloc ?_ _)); exact BK189.out) hb); have n5_ := Aside0.mk (below_step (by repeat (first | (with_reducible first | exact HB.out | apply below_alloc | apply pw_below_drewN | apply below_drew1 | refine below_set ?_ GE188.out | refine below_set ?_ GE189.out) | exact HB.out)) hb); clear HO_3; clear HO185; clear BK188; clear BK189; clear HB; have HO_3 := n0_; have HO185 := n1_; have HO195 := n2_; have BK188 := n3_; have BK189 := n4_; have HB := n5_; clear n0_ n1_ n2_ n3_ n4_ n5_; (try clear hb); (try clear hb2); (try clear hk); (try clear hi); (try clear ho0)) | ((with_reducible refine gate_dst (N := 8) rfl ?_); refine box_event ?hg (N := 8) ?hd (cs := #[.int .i64 0, .bool false, .string (⟨#[]⟩ : ByteArray), .slice none 0 0]) (t := 32) ?hr ?_; (case hd => rfl); (case hg => rfl); (case hr => first | (go_simp; done) | (go_simp; rfl)); intro gb198 hg w58 hbox hb; have n0_ := Aside0.mk (Kd.R_below (by (with_reducible repeat (first | apply Kd.R_alloc | apply Kd.R_drewN | apply Kd.R_drew)); exact HO_3.out) hb); have n1_ := Aside0.mk (Kd.R_below (by (with_reducible repeat (first | apply Kd.R_alloc | apply Kd.R_drewN | apply Kd.R_drew)); exact HO185.out) hb); have n2_ := Aside0.mk (Kd.R_below (by (with_reducible repeat (first | apply Kd.R_alloc | apply Kd.R_drewN | apply Kd.R_drew)); exact HO195.out) hb); have n3_ := Aside0.mk (blk_below (g := gb188) (o := .cells #[.int .i64 t180, .bool t181, .string t182, .slice Ao54 t183.length co54] 32 (0, 0)) (by (with_reducible repeat (first | refine blk_drewN ?_ _ | refine blk_drew ?_ | refine blk_alloc ?_ _)); exact BK188.out) hb); have n4_ := Aside0.mk (blk_below (g := gb189) (o := .cells #[.int .i64 t186, .int .i64 t187] 35 (0, 0)) (by (with_reducible repeat (first | refine blk_drewN ?_ _ | refine blk_drew ?_ | refine blk_alloc ?_ _)); exact BK189.out) hb); have n5_ := Aside0.mk (below_step (by repeat (first | (with_reducible first | exact HB.out | apply below_alloc | apply pw_below_drewN | apply below_drew1 | refine below_set ?_ GE188.out | refine below_set ?_ GE189.out) | exact HB.out)) hb); have n6_ := Aside0.mk (hbox); have n7_ := Aside0.mk ((by rw [hg]; exact (below_size (by repeat (first | (with_reducible first | exact HB.out | apply below_alloc | apply pw_below_drewN | apply below_drew1 | refine below_set ?_ GE188.out | refine below_set ?_ GE189.out) | exact HB.out))) : w.heap.size ≤ gb198)); have n8_ := Aside0.mk ((by rw [hg]; exact (below_size (by repeat (first | (with_reducible first | exact HB.out | apply below_alloc | apply pw_below_drewN | apply below_drew1 | refine below_set ?_ GE188.out | refine below_set ?_ GE189.out) | exact HB.out))) : w.heap.size ≤ gb198)); have n9_ := Aside0.mk ((by rw [hg]; exact Nat.ne_of_lt (blk_lt (g := gb188) (o := .cells #[.int .i64 t180, .bool t181, .string t182, .slice Ao54 t183.length co54] 32 (0, 0)) (by (with_reducible repeat (first | refine blk_drewN ?_ _ | refine blk_drew ?_ | refine blk_alloc ?_ _)); exact BK188.out)) : gb188 ≠ gb198)); have n10_ := Aside0.mk ((by rw [hg]; exact Nat.ne_of_gt (blk_lt (g := gb188) (o := .cells #[.int .i64 t180, .bool t181, .string t182, .slice Ao54 t183.length co54] 32 (0, 0)) (by (with_reducible repeat (first | refine blk_drewN ?_ _ | refine blk_drew ?_ | refine blk_alloc ?_ _)); exact BK188.out)) : gb198 ≠ gb188)); have n11_ := Aside0.mk ((by rw [hg]; exact Nat.ne_of_lt (blk_lt (g := gb189) (o := .cells #[.int .i64 t186, .int .i64 t187] 35 (0, 0)) (by (with_reducible repeat (first | refine blk_drewN ?_ _ | refine blk_drew ?_ | refine blk_alloc ?_ _)); exact BK189.out)) : gb189 ≠ gb198)); have n12_ := Aside0.mk ((by rw [hg]; exact Nat.ne_of_gt (blk_lt (g := gb189) (o := .cells #[.int .i64 t186, .int .i64 t187] 35 (0, 0)) (by (with_reducible repeat (first | refine blk_drewN ?_ _ | refine blk_drew ?_ | refine blk_alloc ?_ _)); exact BK189.out)) : gb198 ≠ gb189)); clear HO_3; clear HO185; clear HO195; clear BK188; clear BK189; clear HB; have HO_3 := n0_; have HO185 := n1_; have HO195 := n2_; have BK188 := n3_; have BK189 := n4_; have HB := n5_; have BK198 := n6_; have GW198 := n7_; have GE198 := n8_; have NB188_198 := n9_; have NB198_188 := n10_; have NB189_198 := n11_; have NB198_189 := n12_; clear n0_ n1_ n2_ n3_ n4_ n5_ n6_ n7_ n8_ n9_ n10_ n11_ n12_; clear hb hbox hg; have hnb59 := NB198_188.out; have hnc59 := NB188_198.out; have hnb60 := NB198_189.out; have hnc60 := NB189_198.out; have hcz61_0 : w58.cell? ⟨gb198, 0, none⟩ = some (.int .i64 0) := (blk_cell BK198.out 0).trans rfl; have hcz61_1 : w58.cell? ⟨gb198, 1, none⟩ = some (.bool false) := (blk_cell BK198.out 1).trans rfl; have hcz61_2 : w58.cell? ⟨gb198, 2, none⟩ = some (.string (⟨#[]⟩ : ByteArray)) := (blk_cell BK198.out 2).trans rfl; have hcz61_3 : w58.cell? ⟨gb198, 3, none⟩ = some (.slice none 0 0) := (blk_cell BK198.out 3).trans rfl; have hfz61_0 := blk_frozen BK198.out 0; have hfz61_1 := blk_frozen BK198.out 1; have hfz61_2 := blk_frozen BK198.out 2; have hfz61_3 := blk_frozen BK198.out 3; obtain ⟨Ao62, co62, eo62⟩ := Kd.R_slice HO195.out; subst eo62; have hcz63_0 : w58.cell? ⟨gb189, 0, none⟩ = some (.int .i64 t186) := (blk_cell BK189.out 0).trans rfl; have hcz63_1 : w58.cell? ⟨gb189, 1, none⟩ = some (.int .i64 t187) := (blk_cell BK189.out 1).trans rfl; have hfz63_0 := blk_frozen BK189.out 0; have hfz63_1 := blk_frozen BK189.out 1))
      go_ret
      exact ⟨by first | rfl | (simp [errW_none, errW_some] <;> rfl) | (simp [*, errW_none, errW_some] <;> rfl), by repeat (first | (with_reducible first | exact HB.out | apply below_alloc | apply pw_below_drewN | apply below_drew1 | refine below_set ?_ GE188.out | refine below_set ?_ GE189.out | refine below_set ?_ GE198.out) | exact HB.out)⟩
 ·replace c3 := Bool.eq_false_iff.mpr c3
  subst c3
  have H1 : (some false) = some r := by rw [if_neg (show ¬ (false = true) by decide)] at H; exact H
  clear H
  have H := H1
  clear H1
  obtain rfl := Option.some.inj H
  go_enter Tryd.func3, Tryd.ntmps3
  go_wp2_with (first | ((with_reducible refine gate_callee (f := 10) rfl ?_); refine goesL_ (some 11) rfl rfl Tryd.func10 (by kernel_rfl) rfl #[] rfl (by (try simp only [List.map_toArray, List.map_cons, List.map_nil]); first | done | rfl | (simp only [List.length_drop, List.length_take]; rfl)) ?_; (with_reducible refine (depotlaw06_awake.calls  false _ A2.out).mono ?_); rintro e w64 ⟨rfl, hb⟩; refine ⟨_, rfl, ?_⟩; have n0_ := Aside0.mk (below_step (by repeat (first | (with_reducible first | exact HB.out | apply below_alloc | apply pw_below_drewN | apply below_drew1) | exact HB.out)) hb); clear HB; have HB := n0_; clear n0_; (try clear hb); (try clear hb2); (try clear hk); (try clear hi)))
  go_ret
  exact ⟨by first | rfl | (simp [errW_none, errW_some] <;> rfl) | (simp [*, errW_none, errW_some] <;> rfl), by repeat (first | (with_reducible first | exact HB.out | apply below_alloc | apply pw_below_drewN | apply below_drew1) | exact HB.out)⟩
end
end Go.Proofs.YtnemeeidomceiaaDoor.PBTreeBuilds
end
section
namespace Go.Proofs.YtnemeeidomceiaaDoor.PBTreeBuilds
open Go.RowKit Go.Proofs.YtnemeeidomceiaaDoorW.PrintWords Go.Proofs.YtnemeeidomceiaaDoor
set_option linter.unusedSimpArgs false
set_option linter.unusedVariables false
theorem up_le {α : Type} {g : Nat → Option α} (h : ∀ k, LeO (g k) (g (k + 1))) {r : α} {a b : Nat} (ha : g a = some r) (hab : a ≤ b) : g b = some r := by
 induction hab with
 | refl => exact ha
 | step _ ih => exact h _ _ ih
theorem w64n {i : Int} (h0 : -9223372036854775808 ≤ i) (h1 : i < 9223372036854775808) : wrap64 i = i := by unfold wrap64; omega
theorem refSplit_loop (s : ByteArray) (hs : s.size ≤ 4611686018427387904) : ∀ (m i : Nat), i + m = s.size → ∀ (names : List ByteArray) (frm : Nat), frm ≤ i → names.length ≤ 31 →
  depotref05_Split.l0 (2 * m + 4) s names (frm : Int) (i : Int) = some (splitG s m names frm i)
 | 0, i, h, names, frm, hf, hn => by
  have hw : wrap64 ((i : Int) + 1) = (i : Int) + 1 := w64n (by omega) (by omega)
  have hR : splitG s 0 names frm i = (pieceE s names frm i).getD (names ++ [s.extract frm i], 0, 0) := rfl
  generalize splitG s 0 names frm i = R at hR ⊢
  rw [depotref05_Split.l0, if_pos (by omega), if_neg (by omega), depotref05_Split.j1, if_neg (by decide)]
  unfold pieceE at hR
  by_cases h31 : names.length = 31
  ·rw [if_pos h31] at hR
   rw [if_pos (by omega), hR]; rfl
  ·rw [if_neg h31] at hR
   rw [if_neg (by omega), if_pos (by omega), if_pos (by omega), if_pos (by omega)]
   simp only [Int.toNat_natCast, depotref05_Check.f, Option.bind_some]
   by_cases hz : nameE (s.extract frm i) = 0
   ·rw [if_neg (fun e => e hz)] at hR
    rw [if_pos hz, if_pos (by omega), hw, depotref05_Split.l0, if_neg (by omega), hR]; rfl
   ·rw [if_pos hz] at hR
    rw [if_neg hz, hR]; rfl
 | m + 1, i, h, names, frm, hf, hn => by
  have hw : wrap64 ((i : Int) + 1) = ((i + 1 : Nat) : Int) := by rw [w64n (by omega) (by omega)]; omega
  have hR : splitG s (m + 1) names frm i = if bt s (i : Int) ≠ 47 then splitG s m names frm (i + 1) else (pieceE s names frm i).getD (splitG s m (names ++ [s.extract frm i]) (i + 1) (i + 1)) := rfl
  generalize splitG s (m + 1) names frm i = R at hR ⊢
  rw [show 2 * (m + 1) + 4 = (2 * m + 4) + 1 + 1 from by omega, depotref05_Split.l0, if_pos (by omega), if_pos (by omega), if_pos (by omega), depotref05_Split.j1]
  by_cases hb : bt s (i : Int) = 47
  ·rw [if_neg (fun e => e hb)] at hR
   have hb2 : ¬ ((bt s (i : Int) != 47) = true) := by simp [hb]
   rw [if_neg hb2]
   unfold pieceE at hR
   by_cases h31 : names.length = 31
   ·rw [if_pos h31] at hR
    rw [if_pos (by omega), hR]; rfl
   ·rw [if_neg h31] at hR
    rw [if_neg (by omega), if_pos (by omega), if_pos (by omega), if_pos (by omega)]
    simp only [Int.toNat_natCast, depotref05_Check.f, Option.bind_some]
    by_cases hz : nameE (s.extract frm i) = 0
    ·rw [if_neg (fun e => e hz)] at hR
     rw [if_pos hz, if_pos (by omega), hw, hR]
     exact refSplit_loop s hs m (i + 1) (by omega) (names ++ [s.extract frm i]) (i + 1) (Nat.le_refl _) (by rw [List.length_append, List.length_singleton]; omega)
    ·rw [if_pos hz] at hR
     rw [if_neg hz, hR]; rfl
  ·rw [if_pos hb] at hR
   have hb2 : (bt s (i : Int) != 47) = true := by simp [hb]
   rw [if_pos hb2, hw, hR]
   exact refSplit_loop s hs m (i + 1) (by omega) names frm (by omega) hn
theorem refSplit (s : ByteArray) (hs : s.size ≤ 4611686018427387904) : depotref05_Split.f (2 * s.size + 4) s = some (splitP s) := by
 unfold depotref05_Split.f splitP
 by_cases h : s.toList = []
 ·rw [if_pos h, if_pos h]
 ·rw [if_neg h, if_neg h]
  exact refSplit_loop s hs s.size 0 (by omega) [] 0 (Nat.le_refl _) (Nat.zero_le _)
theorem split_k (s : ByteArray) (hs : s.size ≤ 1048576) {k : Nat} (hk : 8000000 ≤ k) : depotref05_Split.f k s = some (splitP s) :=
 up_le (fun k => depotref05_Split.mono s k) (refSplit s (by omega)) (by omega)
theorem text_eqs {a b : ByteArray} (h : a.toList = b.toList) : a = b := by
 rw [Lib.toList_data, Lib.toList_data] at h
 cases a; cases b
 simp only at h
 congr
 exact Array.ext' h
theorem rdOf_at {xs : List ByteArray} {i : Nat} (h : i < xs.length) : rdOf ByteArray.empty xs (i : Int) = xs[i] := by simp [rdOf, h]
theorem begins_loop (a b : List ByteArray) (hl : b.length ≤ a.length) (hb : b.length ≤ 1000) : ∀ (d i k : Nat), b.length - i = d → i ≤ b.length → d < k → a.take i = b.take i → depotref06_begins.l0 k a b (i : Int) = some (decide (a.take b.length = b))
 | 0, i, k, hd, hi, hk, ht => by
  obtain ⟨k, rfl⟩ : ∃ q, k = q + 1 := ⟨k - 1, by omega⟩
  obtain rfl : i = b.length := by omega
  rw [depotref06_begins.l0, if_neg (by omega)]
  rw [List.take_of_length_le (Nat.le_refl b.length)] at ht
  rw [decide_eq_true ht]
 | d + 1, i, k, hd, hi, hk, ht => by
  obtain ⟨k, rfl⟩ : ∃ q, k = q + 1 := ⟨k - 1, by omega⟩
  have hi1 : i < b.length := by omega
  have hi2 : i < a.length := by omega
  rw [depotref06_begins.l0, if_pos (by omega), if_pos (by omega), if_pos (by omega), rdOf_at hi1, rdOf_at hi2]
  by_cases he : a[i].toList = b[i].toList
  ·rw [if_pos he, w64n (by omega) (by omega), show (i : Int) + 1 = ((i + 1 : Nat) : Int) from by omega]
   refine begins_loop a b hl hb d (i + 1) k (by omega) (by omega) (by omega) ?_
   rw [List.take_succ_eq_append_getElem hi1, List.take_succ_eq_append_getElem hi2, ht, text_eqs he]
  ·rw [if_neg he]
   rw [decide_eq_false (fun e => he ?_)]
   have : a[i] = b[i] := by
    have h1 : (a.take b.length)[i]? = b[i]? := by rw [e]
    rw [List.getElem?_take, if_pos hi1, List.getElem?_eq_getElem hi2, List.getElem?_eq_getElem hi1] at h1
    injection h1
   rw [this]
theorem begins_k (a b : List ByteArray) (hl : a.length = b.length + 1) (hb : b.length ≤ 1000) {k : Nat} (hk : 1001 < k) : depotref06_begins.f k a b = some (decide (a.dropLast = b)) := by
 unfold depotref06_begins.f
 rw [if_neg (by omega)]
 have h := begins_loop a b (by omega) hb b.length 0 k (by omega) (by omega) (by omega) rfl
 have e : a.dropLast = a.take b.length := by rw [List.dropLast_eq_take, hl]; rfl
 rw [e]
 exact h
theorem compare_k (a b : ByteArray) (ha : a.size ≤ 255) (hb : b.size ≤ 255) {k : Nat} (hk : 8000000 ≤ k) : ∃ c, depotref05_Compare.f k a b = some c ∧ (0 ≤ c ↔ ¬ cmpB a b < 0) := by
 obtain ⟨c, h1, h2⟩ := compare_E a b (by omega) (by omega) k (by omega)
 refine ⟨c, h1, h2.trans ?_⟩
 rw [nle_cmp]
 have := cmpB_neg a b
 omega
theorem gat_suffix : ∀ (f : Nat) (rest : List RowT) (dir : List ByteArray) (kids : List Ent), ∃ u, rest = u ++ (gat f rest dir kids).2
 | 0, rest, dir, kids => ⟨[], rfl⟩
 | f + 1, [], dir, kids => ⟨[], rfl⟩
 | f + 1, r :: rs, dir, kids => by
  unfold gat
  split
  ·exact ⟨[], rfl⟩
  split
  ·exact ⟨[], rfl⟩
  split
  ·exact ⟨[], rfl⟩
  split
  ·obtain ⟨u1, h1⟩ := gat_suffix f rs (splitP r.1).1 []
   obtain ⟨u2, h2⟩ := gat_suffix f (gat f rs (splitP r.1).1 []).2 dir (kids ++ [⟨lastN r, r.2.1, r.2.2.1, r.2.2.2, (gat f rs (splitP r.1).1 []).1⟩])
   refine ⟨r :: (u1 ++ u2), ?_⟩
   rw [List.cons_append, List.append_assoc, ← h2, ← h1]
  ·obtain ⟨u1, h1⟩ := gat_suffix f rs dir (kids ++ [leafX r (lastN r)])
   refine ⟨r :: u1, ?_⟩
   rw [List.cons_append, ← h1]
theorem lastLt_false {l : List Ent} {x : Ent} {s : ByteArray} (h : l[l.length - 1]? = some x) : lastLt l s = false ↔ ¬ cmpB x.f0 s < 0 := by
 unfold lastLt
 rw [List.getLast?_eq_getElem?, h]
 simp
theorem rd_row {us : List RowT} {i : Nat} (h : i < us.length) : rd_T29 (us.map rowR) (i : Int) = rowR us[i] := by simp [rd_T29, h]
theorem rd_ent {l : List Ent} {i : Nat} (h : i < l.length) : rd_T63 l (i : Int) = l[i] := by simp [rd_T63, h]
theorem own_k (r : RowT) (h : r.2.2.2.size ≤ 140737488351232) : depotref06_Own.f (rowR r).f1 (rowR r).f2 (rowR r).f3 [] = some (ownF r, if ownF r = 0 then rowS r else 0) := by
 unfold depotref06_Own.f
 rw [if_pos (by show r.2.2.2.size ≤ _; omega)]
 rfl
structure RowsIn (us : List RowT) : Prop where
 len : us.length ≤ 1048576
 txt : ∀ r, r ∈ us → r.1.size ≤ 1048576 ∧ r.2.2.2.size ≤ 140737488351232
set_option maxHeartbeats 1000000 in
theorem gather_ok (us : List RowT) (hin : RowsIn us) : ∀ (f i : Nat) (dir : List ByteArray) (kids : List Ent) (k : Nat), us.length - i ≤ f → i ≤ us.length → 8000000 + 4 * f + 4 ≤ k → dir.length ≤ 100 → kids.length ≤ i → (∀ x, x ∈ kids → x.f0.size ≤ 255) →
  depotref06_gather.l0 k (us.map rowR) (i : Int) dir kids = some ((gat f (us.drop i) dir kids).1, ((us.length - (gat f (us.drop i) dir kids).2.length : Nat) : Int)) := by
 intro f
 induction f with
 | zero =>
  intro i dir kids k hf hi hk hd hkl hkn
  obtain ⟨k, rfl⟩ : ∃ q, k = q + 1 := ⟨k - 1, by omega⟩
  obtain rfl : i = us.length := by omega
  rw [depotref06_gather.l0, List.length_map, if_neg (by omega), List.drop_of_length_le (Nat.le_refl _)]
  rfl
 | succ f ih =>
  intro i dir kids k hf hi hk hd hkl hkn
  have hlen := hin.len
  obtain ⟨k, rfl⟩ : ∃ q, k = q + 1 := ⟨k - 1, by omega⟩
  by_cases hlt : i < us.length
  ·have hdrop : us.drop i = us[i] :: us.drop (i + 1) := List.drop_eq_getElem_cons hlt
   have hrow := rd_row hlt
   have hmem : us[i] ∈ us := List.getElem_mem hlt
   obtain ⟨r, hr⟩ : ∃ r, r = us[i] := ⟨_, rfl⟩
   rw [← hr] at hdrop hrow hmem
   have ht := hin.txt r hmem
   have hnm := split_names r.1
   rw [hdrop, depotref06_gather.l0, List.length_map, if_pos (by omega), if_pos (by omega), hrow, show (rowR r).f0 = r.1 from rfl, split_k r.1 ht.1 (by omega)]
   simp only [Option.bind_some]
   have hlh : ((us.length - (r :: us.drop (i + 1)).length : Nat) : Int) = (i : Int) := by rw [← hdrop, List.length_drop]; omega
   obtain ⟨k, rfl⟩ : ∃ q, k = q + 1 := ⟨k - 1, by omega⟩
   have stop : depotref06_gather.j1 (k + 1) (us.map rowR) (i : Int) dir kids (splitP r.1).1 true = some (kids, ((us.length - (r :: us.drop (i + 1)).length : Nat) : Int)) := by rw [depotref06_gather.j1, if_pos rfl, hlh]
   unfold gat
   by_cases h1 : pathE r.1 = 0
   ·rw [if_pos (show (splitP r.1).2.1 = 0 from h1)]
    by_cases h2 : (splitP r.1).1.length = dir.length + 1
    ·rw [if_pos (by rw [w64n (by omega) (by omega), h2]; omega), begins_k _ _ h2 (by omega) (by omega)]
     simp only [Option.bind_some]
     by_cases h3 : (splitP r.1).1.dropLast = dir
     ·rw [decide_eq_true h3, if_neg (by simp only [not_or, Decidable.not_not]; exact ⟨h1, h2, h3⟩)]
      rw [depotref06_gather.j1, if_neg (by decide)]
      have hwl : wrap64 (((splitP r.1).1.length : Int) - 1) = ((dir.length : Nat) : Int) := by rw [h2, w64n (by omega) (by omega)]; omega
      have hne : (splitP r.1).1 ≠ [] := fun e => by rw [e] at h2; simp at h2
      have hlast : rdOf ByteArray.empty (splitP r.1).1 ((dir.length : Nat) : Int) = lastN r := by
       have h4 := last_lastN hne
       rw [List.getLast?_eq_getElem?, h2] at h4
       rw [rdOf_at (by omega)]
       exact (List.getElem?_eq_some_iff.1 h4).2
      have hln : (lastN r).size ≤ 255 := nameE_size (hnm.1 _ (List.mem_of_getLast? (last_lastN hne)))
      rw [hwl]
      clear hwl
      rw [if_pos (by omega), if_pos (by omega), hlast]
      obtain ⟨k, rfl⟩ : ∃ q, k = q + 1 := ⟨k - 1, by omega⟩
      -- what follows once the name is known to be greater
      have later : ∀ R, R = (if ownF r ≠ 0 then (kids, r :: us.drop (i + 1)) else if r.2.1 = 3 then gat f (gat f (us.drop (i + 1)) (splitP r.1).1 []).2 dir (kids ++ [⟨lastN r, r.2.1, r.2.2.1, r.2.2.2, (gat f (us.drop (i + 1)) (splitP r.1).1 []).1⟩]) else gat f (us.drop (i + 1)) dir (kids ++ [leafX r (lastN r)])) → lastLt kids (lastN r) = true → depotref06_gather.j2 (k + 1) (us.map rowR) (i : Int) dir kids (splitP r.1).1 (lastN r) false = some (R.1, ((us.length - R.2.length : Nat) : Int)) := by
       intro R hR hlt2
       rw [depotref06_gather.j2, if_neg (by decide), List.length_map, if_pos (by omega), if_pos (by omega), hrow, own_k r ht.2]
       simp only [Option.bind_some]
       by_cases h4 : ownF r = 0
       ·rw [if_pos h4]
        rw [if_neg (show ¬ ownF r ≠ 0 from fun e => e h4)] at hR
        have hwi : wrap64 ((i : Int) + 1) = ((i + 1 : Nat) : Int) := by rw [w64n (by omega) (by omega)]; omega
        rw [hwi]
        clear hwi
        have hwj : wrap64 (((i + 1 : Nat) : Int) - 1) = (i : Int) := by rw [w64n (by omega) (by omega)]; omega
        rw [hwj]
        clear hwj
        rw [if_pos (by omega), if_pos (by omega), hrow]
        have hkids : ∀ (e : Ent), e.f0 = lastN r → ∀ x, x ∈ kids ++ [e] → x.f0.size ≤ 255 := fun e he x hx => by
         rcases List.mem_append.1 hx with hx | hx
         ·exact hkn x hx
         ·rw [List.mem_singleton] at hx; rw [hx, he]; exact hln
        by_cases h5 : r.2.1 = 3
        ·rw [if_pos (show (rowR r).f1 = 3 from h5)]
         rw [if_pos h5] at hR
         obtain ⟨k, rfl⟩ : ∃ q, k = q + 1 := ⟨k - 1, by omega⟩
         rw [depotref06_gather.f, ih (i + 1) (splitP r.1).1 [] k (by omega) (by omega) (by omega) (by omega) (by simp) (by simp)]
         simp only [Option.bind_some]
         obtain ⟨u, hu⟩ := gat_suffix f (us.drop (i + 1)) (splitP r.1).1 []
         obtain ⟨o1, o2, ho⟩ : ∃ o1 o2, gat f (us.drop (i + 1)) (splitP r.1).1 [] = (o1, o2) := ⟨_, _, rfl⟩
         rw [ho] at hu hR ⊢
         simp only at hu hR ⊢
         have hlu : us.length - (i + 1) = u.length + o2.length := by have := congrArg List.length hu; rw [List.length_drop, List.length_append] at this; exact this
         have hd2 : us.drop (us.length - o2.length) = o2 := by
          rw [show us.length - o2.length = i + 1 + u.length from by omega, ← List.drop_drop, hu, List.drop_left]
         rw [if_pos (by omega)]
         have := ih (us.length - o2.length) dir (kids ++ [⟨lastN r, r.2.1, r.2.2.1, r.2.2.2, o1⟩]) (k + 1) (by omega) (by omega) (by omega) hd (by rw [List.length_append, List.length_singleton]; omega) (hkids _ rfl)
         rw [hd2] at this
         rw [hR]
         exact this
        ·rw [if_neg (show ¬ (rowR r).f1 = 3 from h5), if_pos (by omega)]
         rw [if_neg h5] at hR
         rw [hR]
         exact ih (i + 1) dir (kids ++ [leafX r (lastN r)]) k (by omega) (by omega) (by omega) hd (by rw [List.length_append, List.length_singleton]; omega) (hkids _ rfl)
       ·rw [if_neg h4]
        rw [if_pos (show ownF r ≠ 0 from h4)] at hR
        rw [hR, hlh]
      by_cases hk0 : kids.length = 0
      ·rw [if_neg (by omega)]
       have hlt2 : lastLt kids (lastN r) = true := by rw [List.length_eq_zero_iff.1 hk0]; rfl
       rw [if_neg (show ¬ lastLt kids (lastN r) = false by rw [hlt2]; decide)]
       exact later _ rfl hlt2
      ·have hwk : wrap64 ((kids.length : Int) - 1) = ((kids.length - 1 : Nat) : Int) := by rw [w64n (by omega) (by omega)]; omega
       have hkk : kids.length - 1 < kids.length := by omega
       rw [hwk]
       clear hwk
       rw [if_pos (by omega), if_pos (by omega), if_pos (by omega), rd_ent hkk]
       obtain ⟨c, hc1, hc2⟩ := compare_k (kids[kids.length - 1]).f0 (lastN r) (hkn _ (List.getElem_mem hkk)) hln (k := k + 1) (by omega)
       rw [hc1]
       simp only [Option.bind_some]
       have hll := lastLt_false (s := lastN r) (List.getElem?_eq_getElem hkk)
       by_cases h6 : lastLt kids (lastN r) = false
       ·rw [if_pos h6, decide_eq_true (show c ≥ 0 from hc2.2 (hll.1 h6)), depotref06_gather.j2, if_pos rfl, hlh]
       ·rw [if_neg h6, decide_eq_false (show ¬ c ≥ 0 from fun e => h6 (hll.2 (hc2.1 e)))]
        exact later _ rfl (by simpa using h6)
     ·rw [decide_eq_false h3, if_pos (Or.inr (Or.inr h3))]
      exact stop
    ·rw [if_neg (by rw [w64n (by omega) (by omega)]; omega), if_pos (Or.inr (Or.inl h2))]
     exact stop
   ·rw [if_neg (show ¬ (splitP r.1).2.1 = 0 from h1), if_pos (Or.inl h1)]
    exact stop
  ·obtain rfl : i = us.length := by omega
   rw [depotref06_gather.l0, List.length_map, if_neg (by omega), List.drop_of_length_le (Nat.le_refl _)]
   rfl
theorem fits_ok (us : List RowT) (hin : RowsIn us) (hown : ∀ r, r ∈ us → ownF r = 0) : ∀ (d i k : Nat) (b : Int), us.length - i = d → i ≤ us.length → 8000000 + d < k → 0 ≤ b → b ≤ 1048576 →
  depotref06_fits.l0 k (us.map rowR) b (i : Int) = some ((i + fitsL (us.drop i) b : Nat) : Int) := by
 intro d
 induction d with
 | zero =>
  intro i k b hd hi hk hb0 hb1
  obtain ⟨k, rfl⟩ : ∃ q, k = q + 1 := ⟨k - 1, by omega⟩
  obtain rfl : i = us.length := by omega
  rw [depotref06_fits.l0, List.length_map, if_neg (by omega), List.drop_of_length_le (Nat.le_refl _)]
  rfl
 | succ d ih =>
  intro i k b hd hi hk hb0 hb1
  have hlen := hin.len
  obtain ⟨k, rfl⟩ : ∃ q, k = q + 1 := ⟨k - 1, by omega⟩
  have hlt : i < us.length := by omega
  have hdrop : us.drop i = us[i] :: us.drop (i + 1) := List.drop_eq_getElem_cons hlt
  have hrow := rd_row hlt
  have hmem : us[i] ∈ us := List.getElem_mem hlt
  obtain ⟨r, hr⟩ : ∃ r, r = us[i] := ⟨_, rfl⟩
  rw [← hr] at hdrop hrow hmem
  have ht := hin.txt r hmem
  have hnm := split_names r.1
  have hrs := ownS_range r.2.1 r.2.2.1 r.2.2.2
  have hrs2 : 0 ≤ rowS r ∧ rowS r ≤ 10000000000000 := hrs
  have HWI : Aside0 (wrap64 ((i : Int) + 1) = ((i + 1 : Nat) : Int)) := ⟨by rw [w64n (by omega) (by omega)]; omega⟩
  rw [hdrop, depotref06_fits.l0, List.length_map, if_pos (by omega), if_pos (by omega), hrow, own_k r ht.2]
  simp only [Option.bind_some]
  rw [if_pos (hown r hmem), show (rowR r).f0 = r.1 from rfl, split_k r.1 ht.1 (by omega)]
  simp only [Option.bind_some]
  unfold fitsL
  by_cases h1 : (splitP r.1).1 = []
  ·have hrb : rowB r = rowS r := by
    unfold rowB
    rw [h1]
    show _ + (0 : Int) = _
    omega
   rw [h1, hrb, if_neg (by simp), w64n (i := b + rowS r) (by omega) (by omega)]
   by_cases h2 : b + rowS r > 1048576
   ·rw [if_pos h2, if_pos h2]; rfl
   ·rw [if_neg h2, if_neg h2, HWI.out, ih (i + 1) k (b + rowS r) (by omega) (by omega) (by omega) (by omega) (by omega)]
    congr 2
    omega
  ·have hz := last_lastN h1
   have hpos : 0 < (splitP r.1).1.length := List.length_pos_iff.2 h1
   have hes := entS_range (lastN r)
   have hrb : rowB r = rowS r + entS (lastN r) := by unfold rowB; rw [hz]
   have hwl : wrap64 (((splitP r.1).1.length : Int) - 1) = (((splitP r.1).1.length - 1 : Nat) : Int) := by rw [w64n (by omega) (by omega)]; omega
   have hlast : rdOf ByteArray.empty (splitP r.1).1 (((splitP r.1).1.length - 1 : Nat) : Int) = lastN r := by
    rw [List.getLast?_eq_getElem?] at hz
    rw [rdOf_at (by omega)]
    exact (List.getElem?_eq_some_iff.1 hz).2
   rw [hwl]
   clear hwl
   rw [if_pos (by omega), if_pos (by omega), if_pos (by omega), hlast]
   unfold depotref06_Entry.f
   simp only [Option.bind_some]
   rw [w64n (i := b + rowS r) (by omega) (by omega), w64n (i := b + rowS r + entS (lastN r)) (by omega) (by omega), hrb, ← Int.add_assoc]
   by_cases h2 : b + rowS r + entS (lastN r) > 1048576
   ·rw [if_pos h2, if_pos h2]; rfl
   ·rw [if_neg h2, if_neg h2, HWI.out, ih (i + 1) k (b + rowS r + entS (lastN r)) (by omega) (by omega) (by omega) (by omega) (by omega)]
    congr 2
    omega
theorem st_own : ∀ (used : List RowT) (s s2 : BSt), stS used s = some s2 → ∀ r, r ∈ used → ownF r = 0
 | [], s, s2, h, r, hr => by cases hr
 | q :: used, s, s2, h, r, hr => by
  unfold stS at h
  cases hs : stepS s q with
  | none => rw [hs] at h; cases h
  | some s1 =>
   rw [hs] at h
   rcases List.mem_cons.1 hr with rfl | hr
   ·unfold stepS at hs
    split at hs
    ·cases hs
    ·rename_i hq
     simp only [not_or, Decidable.not_not] at hq
     exact hq.2
   ·exact st_own used s1 s2 h r hr
theorem fits_k (us : List RowT) (hin : RowsIn us) (hown : ∀ r, r ∈ us → ownF r = 0) {k : Nat} (hk : 10000000 ≤ k) : depotref06_fits.f k (us.map rowR) = some ((fitsL us 24 : Nat) : Int) := by
 unfold depotref06_fits.f depotref06_Magic.f
 simp only [Option.bind_some]
 rw [magS_eq]
 have h := fits_ok us hin hown us.length 0 k 24 (by omega) (Nat.zero_le _) (by have := hin.len; omega) (by decide) (by decide)
 rw [List.drop_zero, Nat.zero_add] at h
 exact h
theorem build_k (us : List RowT) (hin : RowsIn us) (k : Nat) (hk : 15000000 ≤ k) : depotref06_Build.f (k + 1) (us.map rowR) = some (flatB (refB us)) := by
 unfold depotref06_Build.f
 cases us with
 | nil => rfl
 | cons r rs =>
  have hlen := hin.len
  simp only [List.length_cons] at hlen
  have ht := hin.txt r List.mem_cons_self
  have hrow : rd_T29 ((r :: rs).map rowR) 0 = rowR r := rfl
  have hl : (((r :: rs).map rowR).length : Int) = ((rs.length + 1 : Nat) : Int) := by rw [List.length_map]; rfl
  rw [hl, if_neg (by omega), if_pos (by omega), hrow, own_k r ht.2]
  simp only [Option.bind_some]
  have bad : ∀ (x : Int) (y : Bool) (z : ByteArray), depotref06_Build.j0 (k + 1) ((r :: rs).map rowR) true x y z = some (flatB (zeroT, 64, 0)) := fun x y z => by rw [depotref06_Build.j0, if_pos rfl]; rfl
  show _ = some (flatB (if r.1.toList ≠ [] ∨ ownF r ≠ 0 then (zeroT, 64, 0) else _))
  by_cases h1 : r.1.toList = []
  ·rw [if_pos (show (rowR r).f0.toList = [] from h1)]
   by_cases h2 : ownF r = 0
   ·rw [if_neg (by simp only [not_or, Decidable.not_not]; exact ⟨h1, h2⟩), h2]
    show depotref06_Build.j0 (k + 1) ((r :: rs).map rowR) false (rowR r).f1 (rowR r).f2 (rowR r).f3 = _
    obtain ⟨used, s2, g1, g2, g3, g4⟩ := refG_said r rs 0
    obtain ⟨out, hout⟩ : ∃ o, o = refG r rs := ⟨_, rfl⟩
    rw [← hout] at g1 ⊢
    have hll : rs.length = used.length + out.2.length := by have := congrArg List.length g1; rw [List.length_append] at this; exact this
    have htake : (r :: rs).take ((rs.length + 1) - out.2.length) = r :: used := by
     rw [show rs.length + 1 - out.2.length = used.length + 1 from by omega, List.take_succ_cons]
     conv => lhs; rw [g1]
     rw [List.take_left]
    have hin2 : RowsIn ((r :: rs).take ((rs.length + 1) - out.2.length)) := ⟨by rw [htake]; simp only [List.length_cons]; omega, fun q hq => hin.txt q (List.mem_of_mem_take hq)⟩
    have hown2 : ∀ q, q ∈ (r :: rs).take ((rs.length + 1) - out.2.length) → ownF q = 0 := by
     rw [htake]
     intro q hq
     rcases List.mem_cons.1 hq with rfl | hq
     ·exact h2
     ·exact st_own used _ s2 g2 q hq
    have hfit := fits_k _ hin2 hown2 (k := k) (by omega)
    rw [List.map_take] at hfit
    rw [depotref06_Build.j0, if_neg (by decide), hl, if_pos (by omega), hrow]
    by_cases h3 : r.2.1 = 3
    ·rw [if_pos (show (rowR r).f1 = 3 from h3)]
     have hg : out = gat rs.length rs [] [] := by rw [hout]; unfold refG; rw [if_pos h3]
     have hga : depotref06_gather.f k ((r :: rs).map rowR) 1 [] = some (out.1, ((rs.length + 1 - out.2.length : Nat) : Int)) := by
      obtain ⟨k, rfl⟩ : ∃ q, k = q + 1 := ⟨k - 1, by omega⟩
      rw [depotref06_gather.f]
      have := gather_ok (r :: rs) hin rs.length 1 [] [] k (by simp) (by simp) (by omega) (by simp) (by simp) (by simp)
      rw [show (r :: rs).drop 1 = rs from rfl, ← hg] at this
      exact this
     rw [hga]
     simp only [Option.bind_some]
     rw [if_pos (by omega), if_pos (by omega), Int.toNat_natCast, hfit]
     simp only [Option.bind_some]
     by_cases h4 : fitsL ((r :: rs).take ((rs.length + 1) - out.2.length)) 24 < rs.length + 1
     ·rw [if_pos (by omega), if_pos h4]; rfl
     ·rw [if_neg (by omega), if_neg h4]; rfl
    ·rw [if_neg (show ¬ (rowR r).f1 = 3 from h3)]
     have hg : out = ([], rs) := by rw [hout]; unfold refG; rw [if_neg h3]
     have h1' : rs.length + 1 - out.2.length = 1 := by rw [hg]; simp
     rw [h1'] at hfit ⊢
     rw [if_pos (by omega), hfit]
     simp only [Option.bind_some]
     by_cases h4 : fitsL ((r :: rs).take 1) 24 < rs.length + 1
     ·rw [if_pos (by omega), if_pos h4]; rfl
     ·rw [if_neg (by omega), if_neg h4, hg]; rfl
   ·rw [if_pos (Or.inr h2)]
    show depotref06_Build.j0 (k + 1) ((r :: rs).map rowR) (ownF r != 0) _ _ _ = _
    rw [bne_iff_ne.mpr h2]
    exact bad _ _ _
  ·rw [if_neg (show ¬ (rowR r).f0.toList = [] from h1), if_pos (Or.inl h1)]
   exact bad _ _ _
theorem built_fit {us : List RowT} : Fit (buildP us).1.2.2.2 := by
 unfold buildP
 by_cases h0 : us = []
 ·rw [if_pos h0]; exact Fit.mk (by simp [zeroT]) (fun x hx => by cases hx)
 ·rw [if_neg h0]
  rcases goB_first us initB 0 with ⟨_, s2, h2⟩ | ⟨j, _, h2, _, _⟩
  ·rw [goB_some us initB s2 0 h2]
   have hi := built_rows h0 h2
   exact (wf_AllR 32 (entN s2.n) hi.wfs (by have := hi.bytes; have := hi.room; omega)).fit
  ·rw [h2]; exact Fit.mk (by simp [zeroT]) (fun x hx => by cases hx)
theorem law_loop (l : List OwnRw) (hl : l.length ≤ 1048576) (hok : RowsOk l) (hin : RowsIn (l.map rowU)) : ∀ (d i k : Nat), l.length - i = d → i ≤ l.length → 20000000 + d ≤ k →
  depotlaw06_TreeBuilds.l0 k l (((l.map rowU).map rowR).take i) l (l.length : Int) (i : Int) = some true := by
 intro d
 induction d with
 | zero =>
  intro i k hd hi hk
  obtain ⟨k, rfl⟩ : ∃ q, k = q + 1 + 1 := ⟨k - 2, by omega⟩
  obtain rfl : i = l.length := by omega
  rw [depotlaw06_TreeBuilds.l0, if_neg (by omega), List.take_of_length_le (by rw [List.length_map, List.length_map]; exact Nat.le_refl _)]
  rw [show tree_Build.f l = some (flatB (buildP (l.map rowU))) from if_pos hok, build_k _ hin k (by omega), ref_build]
  simp only [Option.bind_some, if_true]
  unfold depotref06_Equal.f
  rw [if_pos (show Fit (flatB (buildP (l.map rowU))).2.2.2.1 from built_fit)]
  simp only [Option.bind_some]
  rw [decide_eq_true trivial]
 | succ d ih =>
  intro i k hd hi hk
  obtain ⟨k, rfl⟩ : ∃ q, k = q + 1 := ⟨k - 1, by omega⟩
  have hlt : i < l.length := by omega
  rw [depotlaw06_TreeBuilds.l0, if_pos (by omega), if_pos (by omega), if_pos (by omega), if_pos (by rw [List.length_take, List.length_map, List.length_map]; omega)]
  have hr : rd_T27 l (i : Int) = l[i] := by simp [rd_T27, hlt]
  rw [hr, w64n (by omega) (by omega), show (i : Int) + 1 = ((i + 1 : Nat) : Int) from by omega]
  have := ih (i + 1) k (by omega) (by omega) (by omega)
  rw [List.take_succ_eq_append_getElem (by rw [List.length_map, List.length_map]; exact hlt)] at this
  rw [List.getElem_map, List.getElem_map] at this
  exact this
theorem law_true (l : List OwnRw) (hl : l.length ≤ 1048576) (ht : ∀ r, r ∈ l → r.f0.size ≤ 1048576 ∧ r.f3.size ≤ 1048576) : ∃ k, depotlaw06_TreeBuilds.f k l = some true := by
 have hin : RowsIn (l.map rowU) := ⟨by rw [List.length_map]; exact hl, fun q hq => by
  obtain ⟨r, hr, rfl⟩ := List.mem_map.1 hq
  exact ⟨(ht r hr).1, Nat.le_trans (ht r hr).2 (by decide)⟩⟩
 refine ⟨20000000 + l.length + 1, ?_⟩
 unfold depotlaw06_TreeBuilds.f
 rw [show depotlaw06_awake.f = some true from rfl]
 simp only [Option.bind_some, if_true]
 exact law_loop l hl (fun r hr => ⟨by have := (ht r hr).1; omega, by have := (ht r hr).2; omega⟩) hin l.length 0 _ (by omega) (Nat.zero_le _) (by omega)
end Go.Proofs.YtnemeeidomceiaaDoor.PBTreeBuilds
end
