import Derived.Test.YtnemeeidomceiaaDoorMb10
import Derived.Test.YtnemeeidomceiaaDoorMb11
import Derived.Test.YtnemeeidomceiaaDoorPBTreeBuildsx2Mb
set_option linter.unusedSimpArgs false
set_option linter.unusedVariables false
namespace Go.Proofs.YtnemeeidomceiaaDoor.PBTreeBuilds
open Go.RowKit Go.Proofs.YtnemeeidomceiaaDoorW.PrintWords Go.Proofs.YtnemeeidomceiaaDoorW.PrintLast Go.Proofs.YtnemeeidomceiaaDoorW.PrintMore
attribute [local go_sem] max2_int min2_int max_two min_two max_three min_three max_four min_four   -- for this text's walks alone
set_option linter.unusedVariables false
set_option linter.unusedSimpArgs false
noncomputable section
def depotref06_Build.j0 : Nat → List (S29) → Bool → Int → Bool → ByteArray → Option (Int × Bool × ByteArray × (List (S63)) × Int × Int)
 | 0, _, _, _, _, _ => none
 | k + 1, x0, x40, x156000, x156001, x156002 => if x40 = true then (some (0, false, (⟨#[]⟩ : ByteArray), ([] : List (S63)), 64, 0)) else (if 0 < (x0.length : Int) then (if ((rd_T29 x0 0).f1) = 3 then ((depotref06_gather.f k x0 1 ([] : List ByteArray)).bind fun bt160 => (if 0 ≤ bt160.2 then (if bt160.2 ≤ (x0.length : Int) then ((depotref06_fits.f k (x0.take (bt160.2 : Int).toNat)).bind fun t168 => (if t168 < (x0.length : Int) then (some (0, false, (⟨#[]⟩ : ByteArray), ([] : List (S63)), 64, t168)) else (some (x156000, x156001, x156002, bt160.1, 0, 0)))) else (none)) else (none))) else (if 1 ≤ (x0.length : Int) then ((depotref06_fits.f k (x0.take 1)).bind fun t173 => (if t173 < (x0.length : Int) then (some (0, false, (⟨#[]⟩ : ByteArray), ([] : List (S63)), 64, t173)) else (some (x156000, x156001, x156002, ([] : List (S63)), 0, 0)))) else (none))) else (none))
def depotref06_Build.f (k : Nat) (l0 : List (S29)) : Option (Int × Bool × ByteArray × (List (S63)) × Int × Int) := if (l0.length : Int) = 0 then (some (0, false, (⟨#[]⟩ : ByteArray), ([] : List (S63)), 50, 0)) else (if 0 < (l0.length : Int) then ((depotref06_Own.f ((rd_T29 l0 0).f1) ((rd_T29 l0 0).f2) ((rd_T29 l0 0).f3) ([] : List (S63))).bind fun bt156 => (if ((rd_T29 l0 0).f0).toList = ([] : List UInt8) then (depotref06_Build.j0 k l0 (bt156.1 != 0) ((rd_T29 l0 0).f1) ((rd_T29 l0 0).f2) ((rd_T29 l0 0).f3)) else (depotref06_Build.j0 k l0 true ((rd_T29 l0 0).f1) ((rd_T29 l0 0).f2) ((rd_T29 l0 0).f3)))) else (none))
def depotref06_Build.T3 : Bool × List (List Nat × List Nat) := (true, [([], []), ([0], [0]), ([1], [1]), ([2], [2]), ([], []), ([4], [4]), ([5], [5]), ([6], [6]), ([], []), ([8], [8]), ([9], [9]), ([10], [10]), ([3, 7, 11], [3, 7, 11]), ([], []), ([13, 12, 0, 1, 2, 3, 4, 5, 6, 7, 8, 9, 10, 11, 12, 13], [12, 13])])
def depotref06_Build.B3 : List Nat := [0, 1, 3, 7, 0, 16, 48, 112, 0, 256, 768, 1792, 4095, 0, 16383]
theorem depotref06_Build.tab3 : rtab .any (opsOf Tryd.f12 3) = depotref06_Build.T3 := by kernel_rfl
theorem depotref06_Build.bits3 : waitsOk depotref06_Build.T3.2 depotref06_Build.B3 = true := by kernel_rfl
set_option maxHeartbeats 8000000 in
set_option maxRecDepth 100000 in
theorem depotref06_Build.calls (k : Nat) (A0 : Option Addr) (c0 : Nat) (l0 : List (S29)) (r1 : Int) (r2 : Bool) (r3 : ByteArray) (r4 : List (S63)) (r5 : Int) (r6 : Int) (w : World) (hr0 : Kd.C k29 w A0 l0.length l0) (hc0 : l0.length ≤ c0) (h : depotref06_Build.f k l0 = some (r1, r2, r3, r4, r5, r6)) :
  Calls Tryd.prog 12 #[.slice A0 l0.length c0] w fun e w' => ∃ v3_ : Value, e = .returned (.tuple #[.agg #[.int .i64 r1, .bool r2, .string r3, v3_], .int .i64 r5, .int .i64 r6]) ∧ Kd.R k63 63 w' w.heap.size (fun _ => True) v3_ r4 ∧ Below w.heap.size w w' := by
 have hu32 := Tryd.underlying32
 have HR0 := Aside0.mk hr0
 have HC0 := Aside0.mk hc0
 clear hr0 hc0
 have HB := Aside0.mk (Below.refl w.heap.size w)
 have H : (if (l0.length : Int) = 0 then (some (0, false, (⟨#[]⟩ : ByteArray), ([] : List (S63)), 50, 0)) else (if 0 < (l0.length : Int) then ((depotref06_Own.f ((rd_T29 l0 0).f1) ((rd_T29 l0 0).f2) ((rd_T29 l0 0).f3) ([] : List (S63))).bind fun bt156 => (if ((rd_T29 l0 0).f0).toList = ([] : List UInt8) then (depotref06_Build.j0 k l0 (bt156.1 != 0) ((rd_T29 l0 0).f1) ((rd_T29 l0 0).f2) ((rd_T29 l0 0).f3)) else (depotref06_Build.j0 k l0 true ((rd_T29 l0 0).f1) ((rd_T29 l0 0).f2) ((rd_T29 l0 0).f3)))) else (none))) = some (r1, r2, r3, r4, r5, r6) := h
 clear h
 by_cases c2 : (l0.length : Int) = 0
 ·rw [if_pos c2] at H
  have c2b0 : ((l0.length : Int) == 0) = true := beq_iff_eq.mpr c2
  have c2b1 : ((l0.length : Int) != 0) = false := bne_eq_false_iff_eq.mpr c2
  clear c2
  simp only [Option.some.injEq, Prod.mk.injEq] at H
  obtain ⟨rfl, rfl, rfl, rfl, rfl, rfl⟩ := H
  go_enter Tryd.func12, Tryd.ntmps12
  go_wp2_with (first | ((with_reducible refine gate_dst (N := 2) rfl ?_); refine box_event ?hg (N := 2) ?hd (cs := #[.int .i64 0, .bool false, .string (⟨#[]⟩ : ByteArray), .slice none 0 0]) (t := 32) ?hr ?_; (case hd => rfl); (case hg => rfl); (case hr => first | (go_simp; done) | (go_simp; rfl)); intro gb151 hg w3 hbox hb; have n0_ := Aside0.mk (below_step (by repeat (first | (with_reducible first | exact HB.out | apply below_alloc | apply pw_below_drewN | apply below_drew1) | exact HB.out)) hb); have n1_ := Aside0.mk (hbox); have n2_ := Aside0.mk ((by rw [hg]; exact (below_size (by repeat (first | (with_reducible first | exact HB.out | apply below_alloc | apply pw_below_drewN | apply below_drew1) | exact HB.out))) : w.heap.size ≤ gb151)); have n3_ := Aside0.mk ((by rw [hg]; exact (below_size (by repeat (first | (with_reducible first | exact HB.out | apply below_alloc | apply pw_below_drewN | apply below_drew1) | exact HB.out))) : w.heap.size ≤ gb151)); clear HB; have HB := n0_; have BK151 := n1_; have GW151 := n2_; have GE151 := n3_; clear n0_ n1_ n2_ n3_; clear hb hbox hg; have hcz4_0 : w3.cell? ⟨gb151, 0, none⟩ = some (.int .i64 0) := (blk_cell BK151.out 0).trans rfl; have hcz4_1 : w3.cell? ⟨gb151, 1, none⟩ = some (.bool false) := (blk_cell BK151.out 1).trans rfl; have hcz4_2 : w3.cell? ⟨gb151, 2, none⟩ = some (.string (⟨#[]⟩ : ByteArray)) := (blk_cell BK151.out 2).trans rfl; have hcz4_3 : w3.cell? ⟨gb151, 3, none⟩ = some (.slice none 0 0) := (blk_cell BK151.out 3).trans rfl; have hfz4_0 := blk_frozen BK151.out 0; have hfz4_1 := blk_frozen BK151.out 1; have hfz4_2 := blk_frozen BK151.out 2; have hfz4_3 := blk_frozen BK151.out 3))
  refine bodyPost_ret (results_ctt rfl _ _ gb151 32 #[.int .i64 0, .bool false, .string (⟨#[]⟩ : ByteArray), .slice none 0 0] (0, 0) _ rfl (by (with_reducible repeat (first | refine blk_drewN ?_ _ | refine blk_drew ?_ | refine blk_alloc ?_ _)); refine blk_put (cs := #[.int .i64 0, .bool false, .string (⟨#[]⟩ : ByteArray), .slice none 0 0]) ?_ 3 _ rfl; (with_reducible repeat (first | refine blk_drewN ?_ _ | refine blk_drew ?_ | refine blk_alloc ?_ _)); refine blk_put (cs := #[.int .i64 0, .bool false, .string (⟨#[]⟩ : ByteArray), .slice none 0 0]) ?_ 2 _ rfl; (with_reducible repeat (first | refine blk_drewN ?_ _ | refine blk_drew ?_ | refine blk_alloc ?_ _)); refine blk_put (cs := #[.int .i64 0, .bool false, .string (⟨#[]⟩ : ByteArray), .slice none 0 0]) ?_ 1 _ rfl; (with_reducible repeat (first | refine blk_drewN ?_ _ | refine blk_drew ?_ | refine blk_alloc ?_ _)); refine blk_put (cs := #[.int .i64 0, .bool false, .string (⟨#[]⟩ : ByteArray), .slice none 0 0]) ?_ 0 _ rfl; (with_reducible repeat (first | refine blk_drewN ?_ _ | refine blk_drew ?_ | refine blk_alloc ?_ _)); exact BK151.out) Tryd.underlying32 rfl (by kernel_rfl)) rfl ?_
  exact ⟨_, by first | rfl | (simp [errW_none, errW_some] <;> rfl) | (simp [*, errW_none, errW_some] <;> rfl), by first | exact Kd.R_nil _ _ _ _ _ | exact Kd.N_nil _ _ _ _ _ | exact Kd.V_nil _ _ _ _ _ | exact Kd.Q_nil _ _ _ _ _ | exact Kd.S_nil _ _ _ _ _, by repeat (first | (with_reducible first | exact HB.out | apply below_alloc | apply pw_below_drewN | apply below_drew1 | refine below_set ?_ GE151.out) | exact HB.out)⟩
 ·rw [if_neg c2] at H
  have c2b0 : ((l0.length : Int) == 0) = false := beq_eq_false_iff_ne.mpr c2
  have c2b1 : ((l0.length : Int) != 0) = true := bne_iff_ne.mpr c2
  have c2b2 : ¬ (l0 = []) := fun h_ => c2 (by rw [h_]; rfl)
  by_cases c5 : 0 < (l0.length : Int)
  ·rw [if_pos c5] at H
   have c5b0 : decide (0 < (l0.length : Int)) = true := decide_eq_true c5
   have c5b1 : decide (0 < l0.length) = true := decide_eq_true (by omega)
   clear c5
   replace H := Option.bind_eq_some_iff.mp H
   obtain ⟨⟨t156, t157⟩, A60, H⟩ := H
   replace H : (if ((rd_T29 l0 0).f0).toList = ([] : List UInt8) then (depotref06_Build.j0 k l0 (t156 != 0) ((rd_T29 l0 0).f1) ((rd_T29 l0 0).f2) ((rd_T29 l0 0).f3)) else (depotref06_Build.j0 k l0 true ((rd_T29 l0 0).f1) ((rd_T29 l0 0).f2) ((rd_T29 l0 0).f3))) = some (r1, r2, r3, r4, r5, r6) := H
   have A6 := Aside0.mk A60
   clear A60
   have HC7 := Aside0.mk H
   clear H
   go_enter Tryd.func12, Tryd.ntmps12
   try go_wp2_with (first | ((with_reducible refine gate_dst (N := 2) rfl ?_); refine box_event ?hg (N := 2) ?hd (cs := #[.int .i64 0, .bool false, .string (⟨#[]⟩ : ByteArray), .slice none 0 0]) (t := 32) ?hr ?_; (case hd => rfl); (case hg => rfl); (case hr => first | (go_simp; done) | (go_simp; rfl)); intro gb151 hg w8 hbox hb; have n0_ := Aside0.mk (below_step (by repeat (first | (with_reducible first | exact HB.out | apply below_alloc | apply pw_below_drewN | apply below_drew1) | exact HB.out)) hb); have n1_ := Aside0.mk (hbox); have n2_ := Aside0.mk ((by rw [hg]; exact (below_size (by repeat (first | (with_reducible first | exact HB.out | apply below_alloc | apply pw_below_drewN | apply below_drew1) | exact HB.out))) : w.heap.size ≤ gb151)); have n3_ := Aside0.mk ((by rw [hg]; exact (below_size (by repeat (first | (with_reducible first | exact HB.out | apply below_alloc | apply pw_below_drewN | apply below_drew1) | exact HB.out))) : w.heap.size ≤ gb151)); clear HB; have HB := n0_; have BK151 := n1_; have GW151 := n2_; have GE151 := n3_; clear n0_ n1_ n2_ n3_; clear hb hbox hg))
   have n0_ := Aside0.mk (blk_drew BK151.out)
   have n1_ := Aside0.mk (below_drew1 HB.out)
   clear BK151
   clear HB
   have BK151 := n0_
   have HB := n1_
   clear n0_ n1_
   have p152 : 0 ≤ (0 : Int) := (by omega)
   have q152 : 0 < (l0.length : Int) := of_decide_eq_true (by first | (with_reducible assumption) | assumption)
   obtain ⟨ad152, e152, hx152_0, hx152_1, hx152_2, hx152_3⟩ := at_T29 HR0.out 0 p152 q152
   have hw152_3 := hx152_3
   (try rw [show ((0 : Int)).toNat = 0 from rfl] at hw152_3)
   (try rw [show 0 * 4 = 0 from rfl] at hw152_3)
   (try rw [Addr.add_zero'] at hw152_3)
   have hw152_2 := hx152_2
   (try rw [show ((0 : Int)).toNat = 0 from rfl] at hw152_2)
   (try rw [show 0 * 4 = 0 from rfl] at hw152_2)
   (try rw [Addr.add_zero'] at hw152_2)
   have hw152_1 := hx152_1
   (try rw [show ((0 : Int)).toNat = 0 from rfl] at hw152_1)
   (try rw [show 0 * 4 = 0 from rfl] at hw152_1)
   (try rw [Addr.add_zero'] at hw152_1)
   have hw152_0 := hx152_0
   (try rw [show ((0 : Int)).toNat = 0 from rfl] at hw152_0)
   (try rw [show 0 * 4 = 0 from rfl] at hw152_0)
   (try rw [Addr.add_zero'] at hw152_0)
   cases e152
   have qi152 : (0 < l0.length) = True := eq_true (by omega)
   (try rw [show ((0 : Int)).toNat = 0 from rfl] at hx152_0)
   (try rw [show 0 * 4 = 0 from rfl] at hx152_0)
   (try rw [Addr.add_zero'] at hx152_0)
   (try rw [show ((0 : Int)).toNat = 0 from rfl] at hx152_1)
   (try rw [show 0 * 4 = 0 from rfl] at hx152_1)
   (try rw [Addr.add_zero'] at hx152_1)
   (try rw [show ((0 : Int)).toNat = 0 from rfl] at hx152_2)
   (try rw [show 0 * 4 = 0 from rfl] at hx152_2)
   (try rw [Addr.add_zero'] at hx152_2)
   (try rw [show ((0 : Int)).toNat = 0 from rfl] at hx152_3)
   (try rw [show 0 * 4 = 0 from rfl] at hx152_3)
   (try rw [Addr.add_zero'] at hx152_3)
   replace hx152_0 := (HB.out.cell (World.block_lt_of_cell? w _ hx152_0)).trans hx152_0
   replace hx152_1 := (HB.out.cell (World.block_lt_of_cell? w _ hx152_1)).trans hx152_1
   replace hx152_2 := (HB.out.cell (World.block_lt_of_cell? w _ hx152_2)).trans hx152_2
   replace hx152_3 := (HB.out.cell (World.block_lt_of_cell? w _ hx152_3)).trans hx152_3
   replace p152 := eq_true p152
   replace q152 := eq_true q152
   have p153 : 0 ≤ (0 : Int) := (by omega)
   have q153 : 0 < (l0.length : Int) := of_decide_eq_true (by first | (with_reducible assumption) | assumption)
   obtain ⟨ad153, e153, hx153_0, hx153_1, hx153_2, hx153_3⟩ := at_T29 HR0.out 0 p153 q153
   have hw153_3 := hx153_3
   (try rw [show ((0 : Int)).toNat = 0 from rfl] at hw153_3)
   (try rw [show 0 * 4 = 0 from rfl] at hw153_3)
   (try rw [Addr.add_zero'] at hw153_3)
   have hw153_2 := hx153_2
   (try rw [show ((0 : Int)).toNat = 0 from rfl] at hw153_2)
   (try rw [show 0 * 4 = 0 from rfl] at hw153_2)
   (try rw [Addr.add_zero'] at hw153_2)
   have hw153_1 := hx153_1
   (try rw [show ((0 : Int)).toNat = 0 from rfl] at hw153_1)
   (try rw [show 0 * 4 = 0 from rfl] at hw153_1)
   (try rw [Addr.add_zero'] at hw153_1)
   have hw153_0 := hx153_0
   (try rw [show ((0 : Int)).toNat = 0 from rfl] at hw153_0)
   (try rw [show 0 * 4 = 0 from rfl] at hw153_0)
   (try rw [Addr.add_zero'] at hw153_0)
   obtain rfl : ad152 = ad153 := (by injection e153)
   have qi153 : (0 < l0.length) = True := eq_true (by omega)
   (try rw [show ((0 : Int)).toNat = 0 from rfl] at hx153_0)
   (try rw [show 0 * 4 = 0 from rfl] at hx153_0)
   (try rw [Addr.add_zero'] at hx153_0)
   (try rw [show ((0 : Int)).toNat = 0 from rfl] at hx153_1)
   (try rw [show 0 * 4 = 0 from rfl] at hx153_1)
   (try rw [Addr.add_zero'] at hx153_1)
   (try rw [show ((0 : Int)).toNat = 0 from rfl] at hx153_2)
   (try rw [show 0 * 4 = 0 from rfl] at hx153_2)
   (try rw [Addr.add_zero'] at hx153_2)
   (try rw [show ((0 : Int)).toNat = 0 from rfl] at hx153_3)
   (try rw [show 0 * 4 = 0 from rfl] at hx153_3)
   (try rw [Addr.add_zero'] at hx153_3)
   replace hx153_0 := (HB.out.cell (World.block_lt_of_cell? w _ hx153_0)).trans hx153_0
   replace hx153_1 := (HB.out.cell (World.block_lt_of_cell? w _ hx153_1)).trans hx153_1
   replace hx153_2 := (HB.out.cell (World.block_lt_of_cell? w _ hx153_2)).trans hx153_2
   replace hx153_3 := (HB.out.cell (World.block_lt_of_cell? w _ hx153_3)).trans hx153_3
   replace p153 := eq_true p153
   replace q153 := eq_true q153
   have p154 : 0 ≤ (0 : Int) := (by omega)
   have q154 : 0 < (l0.length : Int) := of_decide_eq_true (by first | (with_reducible assumption) | assumption)
   obtain ⟨ad154, e154, hx154_0, hx154_1, hx154_2, hx154_3⟩ := at_T29 HR0.out 0 p154 q154
   have hw154_3 := hx154_3
   (try rw [show ((0 : Int)).toNat = 0 from rfl] at hw154_3)
   (try rw [show 0 * 4 = 0 from rfl] at hw154_3)
   (try rw [Addr.add_zero'] at hw154_3)
   have hw154_2 := hx154_2
   (try rw [show ((0 : Int)).toNat = 0 from rfl] at hw154_2)
   (try rw [show 0 * 4 = 0 from rfl] at hw154_2)
   (try rw [Addr.add_zero'] at hw154_2)
   have hw154_1 := hx154_1
   (try rw [show ((0 : Int)).toNat = 0 from rfl] at hw154_1)
   (try rw [show 0 * 4 = 0 from rfl] at hw154_1)
   (try rw [Addr.add_zero'] at hw154_1)
   have hw154_0 := hx154_0
   (try rw [show ((0 : Int)).toNat = 0 from rfl] at hw154_0)
   (try rw [show 0 * 4 = 0 from rfl] at hw154_0)
   (try rw [Addr.add_zero'] at hw154_0)
   obtain rfl : ad152 = ad154 := (by injection e154)
   have qi154 : (0 < l0.length) = True := eq_true (by omega)
   (try rw [show ((0 : Int)).toNat = 0 from rfl] at hx154_0)
   (try rw [show 0 * 4 = 0 from rfl] at hx154_0)
   (try rw [Addr.add_zero'] at hx154_0)
   (try rw [show ((0 : Int)).toNat = 0 from rfl] at hx154_1)
   (try rw [show 0 * 4 = 0 from rfl] at hx154_1)
   (try rw [Addr.add_zero'] at hx154_1)
   (try rw [show ((0 : Int)).toNat = 0 from rfl] at hx154_2)
   (try rw [show 0 * 4 = 0 from rfl] at hx154_2)
   (try rw [Addr.add_zero'] at hx154_2)
   (try rw [show ((0 : Int)).toNat = 0 from rfl] at hx154_3)
   (try rw [show 0 * 4 = 0 from rfl] at hx154_3)
   (try rw [Addr.add_zero'] at hx154_3)
   replace hx154_0 := (HB.out.cell (World.block_lt_of_cell? w _ hx154_0)).trans hx154_0
   replace hx154_1 := (HB.out.cell (World.block_lt_of_cell? w _ hx154_1)).trans hx154_1
   replace hx154_2 := (HB.out.cell (World.block_lt_of_cell? w _ hx154_2)).trans hx154_2
   replace hx154_3 := (HB.out.cell (World.block_lt_of_cell? w _ hx154_3)).trans hx154_3
   replace p154 := eq_true p154
   replace q154 := eq_true q154
   refine start_ (n := 15) (S := fun w' => w'.cell? ad152 = some (.string ((rd_T29 l0 0).f0)) ∧ w'.cell? ⟨ad152.block, ad152.off + 1, none⟩ = some (.int .i64 ((rd_T29 l0 0).f1)) ∧ w'.cell? ⟨ad152.block, ad152.off + 2, none⟩ = some (.bool ((rd_T29 l0 0).f2)) ∧ w'.cell? ⟨ad152.block, ad152.off + 3, none⟩ = some (.string ((rd_T29 l0 0).f3)) ∧ w'.cell? ad152 = some (.string ((rd_T29 l0 0).f0)) ∧ w'.cell? ⟨ad152.block, ad152.off + 1, none⟩ = some (.int .i64 ((rd_T29 l0 0).f1)) ∧ w'.cell? ⟨ad152.block, ad152.off + 2, none⟩ = some (.bool ((rd_T29 l0 0).f2)) ∧ w'.cell? ⟨ad152.block, ad152.off + 3, none⟩ = some (.string ((rd_T29 l0 0).f3)) ∧ w'.cell? ad152 = some (.string ((rd_T29 l0 0).f0)) ∧ w'.cell? ⟨ad152.block, ad152.off + 1, none⟩ = some (.int .i64 ((rd_T29 l0 0).f1)) ∧ w'.cell? ⟨ad152.block, ad152.off + 2, none⟩ = some (.bool ((rd_T29 l0 0).f2)) ∧ w'.cell? ⟨ad152.block, ad152.off + 3, none⟩ = some (.string ((rd_T29 l0 0).f3))) (ds := []) #[false, false, false, false, false, false, false, false, false, false, false, false, false, false, false] (by kernel_rfl) rfl rfl ⟨((HB.out.cell (World.block_lt_of_cell? w _ hw152_0)).trans hw152_0), ((HB.out.cell (World.block_lt_of_cell? w _ hw152_1)).trans hw152_1), ((HB.out.cell (World.block_lt_of_cell? w _ hw152_2)).trans hw152_2), ((HB.out.cell (World.block_lt_of_cell? w _ hw152_3)).trans hw152_3), ((HB.out.cell (World.block_lt_of_cell? w _ hw153_0)).trans hw153_0), ((HB.out.cell (World.block_lt_of_cell? w _ hw153_1)).trans hw153_1), ((HB.out.cell (World.block_lt_of_cell? w _ hw153_2)).trans hw153_2), ((HB.out.cell (World.block_lt_of_cell? w _ hw153_3)).trans hw153_3), ((HB.out.cell (World.block_lt_of_cell? w _ hw154_0)).trans hw154_0), ((HB.out.cell (World.block_lt_of_cell? w _ hw154_1)).trans hw154_1), ((HB.out.cell (World.block_lt_of_cell? w _ hw154_2)).trans hw154_2), ((HB.out.cell (World.block_lt_of_cell? w _ hw154_3)).trans hw154_3)⟩ (fun hHeld => ?_); refine with_tabW depotref06_Build.tab3 depotref06_Build.bits3 (fun HT_ HW_ => ?_)
   generalize w8.drew = w9 at BK151 HB hx152_0 hx152_1 hx152_2 hx152_3 hx153_0 hx153_1 hx153_2 hx153_3 hx154_0 hx154_1 hx154_2 hx154_3 hHeld ⊢
   refine pure_ (i := 0) (N := some 14) (v := ?_) (a' := ?_) #[true, false, false, false, false, false, false, false, false, false, false, false, false, false, false] rfl rfl (any_of HT_.out (by kernel_rfl)) (fun _ _ _ h => h) (Or.inl ⟨by rfl, ?_⟩) ?_ ?_
   rotate_left
   ·intro w'
    go_simp
    with_reducible rfl
   rotate_left
   ·simp only [Act.put, List.setIfInBounds_toArray, List.set_cons_zero, List.set_cons_succ, i64_w, i32_w]
    rfl
   refine pure_ (i := 1) (N := some 15) (v := ?_) (a' := ?_) #[true, true, false, false, false, false, false, false, false, false, false, false, false, false, false] rfl rfl (any_of HT_.out (by kernel_rfl)) (fun _ _ _ h => h) (Or.inl ⟨by rfl, ?_⟩) ?_ ?_
   rotate_left
   ·intro w'
    go_simp
    with_reducible rfl
   rotate_left
   ·simp only [Act.put, List.setIfInBounds_toArray, List.set_cons_zero, List.set_cons_succ, i64_w, i32_w]
    rfl
   refine pure_ (i := 2) (N := some 16) (v := ?_) (a' := ?_) #[true, true, true, false, false, false, false, false, false, false, false, false, false, false, false] rfl rfl (any_of HT_.out (by kernel_rfl)) (fun _ _ _ h => h) (Or.inl ⟨by rfl, ?_⟩) ?_ ?_
   rotate_left
   ·intro w'
    go_simp
    with_reducible rfl
   rotate_left
   ·simp only [Act.put, List.setIfInBounds_toArray, List.set_cons_zero, List.set_cons_succ, i64_w, i32_w]
    rfl
   refine pure_ (i := 4) (N := some 18) (v := ?_) (a' := ?_) #[true, true, true, false, true, false, false, false, false, false, false, false, false, false, false] rfl rfl (any_of HT_.out (by kernel_rfl)) (fun _ _ _ h => h) (Or.inl ⟨by rfl, ?_⟩) ?_ ?_
   rotate_left
   ·intro w'
    go_simp
    with_reducible rfl
   rotate_left
   ·simp only [Act.put, List.setIfInBounds_toArray, List.set_cons_zero, List.set_cons_succ, i64_w, i32_w]
    rfl
   refine pure_ (i := 5) (N := some 19) (v := ?_) (a' := ?_) #[true, true, true, false, true, true, false, false, false, false, false, false, false, false, false] rfl rfl (any_of HT_.out (by kernel_rfl)) (fun _ _ _ h => h) (Or.inl ⟨by rfl, ?_⟩) ?_ ?_
   rotate_left
   ·intro w'
    go_simp
    with_reducible rfl
   rotate_left
   ·simp only [Act.put, List.setIfInBounds_toArray, List.set_cons_zero, List.set_cons_succ, i64_w, i32_w]
    rfl
   refine pure_ (i := 6) (N := some 20) (v := ?_) (a' := ?_) #[true, true, true, false, true, true, true, false, false, false, false, false, false, false, false] rfl rfl (any_of HT_.out (by kernel_rfl)) (fun _ _ _ h => h) (Or.inl ⟨by rfl, ?_⟩) ?_ ?_
   rotate_left
   ·intro w'
    go_simp
    with_reducible rfl
   rotate_left
   ·simp only [Act.put, List.setIfInBounds_toArray, List.set_cons_zero, List.set_cons_succ, i64_w, i32_w]
    rfl
   refine pure_ (i := 8) (N := some 22) (v := ?_) (a' := ?_) #[true, true, true, false, true, true, true, false, true, false, false, false, false, false, false] rfl rfl (any_of HT_.out (by kernel_rfl)) (fun _ _ _ h => h) (Or.inl ⟨by rfl, ?_⟩) ?_ ?_
   rotate_left
   ·intro w'
    go_simp
    with_reducible rfl
   rotate_left
   ·simp only [Act.put, List.setIfInBounds_toArray, List.set_cons_zero, List.set_cons_succ, i64_w, i32_w]
    rfl
   refine pure_ (i := 9) (N := some 23) (v := ?_) (a' := ?_) #[true, true, true, false, true, true, true, false, true, true, false, false, false, false, false] rfl rfl (any_of HT_.out (by kernel_rfl)) (fun _ _ _ h => h) (Or.inl ⟨by rfl, ?_⟩) ?_ ?_
   rotate_left
   ·intro w'
    go_simp
    with_reducible rfl
   rotate_left
   ·simp only [Act.put, List.setIfInBounds_toArray, List.set_cons_zero, List.set_cons_succ, i64_w, i32_w]
    rfl
   refine pure_ (i := 10) (N := some 24) (v := ?_) (a' := ?_) #[true, true, true, false, true, true, true, false, true, true, true, false, false, false, false] rfl rfl (any_of HT_.out (by kernel_rfl)) (fun _ _ _ h => h) (Or.inl ⟨by rfl, ?_⟩) ?_ ?_
   rotate_left
   ·intro w'
    go_simp
    with_reducible rfl
   rotate_left
   ·simp only [Act.put, List.setIfInBounds_toArray, List.set_cons_zero, List.set_cons_succ, i64_w, i32_w]
    rfl
   refine take_ (i := 3) (N := some 17) (v := ?_) (a' := ?_) #[true, true, true, true, true, true, true, false, true, true, true, false, false, false, false] rfl rfl (take_ofW HT_.out HW_.out (by kernel_rfl)) (fun _ _ _ h => h) (Or.inl ⟨by rfl, ?_⟩) hHeld ?_ ?_
   rotate_left
   ·rintro w' ⟨s0, s1, s2, s3, s4, s5, s6, s7, s8, s9, s10, s11⟩
    go_simp
    with_reducible rfl
   rotate_left
   ·simp only [Act.put, List.setIfInBounds_toArray, List.set_cons_zero, List.set_cons_succ, i64_w, i32_w]
    rfl
   refine take_ (i := 7) (N := some 21) (v := ?_) (a' := ?_) #[true, true, true, true, true, true, true, true, true, true, true, false, false, false, false] rfl rfl (take_ofW HT_.out HW_.out (by kernel_rfl)) (fun _ _ _ h => h) (Or.inl ⟨by rfl, ?_⟩) hHeld ?_ ?_
   rotate_left
   ·rintro w' ⟨s0, s1, s2, s3, s4, s5, s6, s7, s8, s9, s10, s11⟩
    go_simp
    with_reducible rfl
   rotate_left
   ·simp only [Act.put, List.setIfInBounds_toArray, List.set_cons_zero, List.set_cons_succ, i64_w, i32_w]
    rfl
   refine take_ (i := 11) (N := some 25) (v := ?_) (a' := ?_) #[true, true, true, true, true, true, true, true, true, true, true, true, false, false, false] rfl rfl (take_ofW HT_.out HW_.out (by kernel_rfl)) (fun _ _ _ h => h) (Or.inl ⟨by rfl, ?_⟩) hHeld ?_ ?_
   rotate_left
   ·rintro w' ⟨s0, s1, s2, s3, s4, s5, s6, s7, s8, s9, s10, s11⟩
    go_simp
    with_reducible rfl
   rotate_left
   ·simp only [Act.put, List.setIfInBounds_toArray, List.set_cons_zero, List.set_cons_succ, i64_w, i32_w]
    rfl
   refine pure_ (i := 12) (N := some 26) (v := ?_) (a' := ?_) #[true, true, true, true, true, true, true, true, true, true, true, true, true, false, false] rfl rfl (any_of HT_.out (by kernel_rfl)) (fun _ _ _ h => h) (Or.inl ⟨by rfl, ?_⟩) ?_ ?_
   rotate_left
   ·intro w'
    go_simp
    with_reducible rfl
   rotate_left
   ·simp only [Act.put, List.setIfInBounds_toArray, List.set_cons_zero, List.set_cons_succ, i64_w, i32_w]
    rfl
   refine one_ (i := 13) (N := some 5) #[true, true, true, true, true, true, true, true, true, true, true, true, true, true, false] rfl rfl (one_of HT_.out (by kernel_rfl)) (by decide) (fun K hK => ?_)
   refine box_step ?hg (N := 5) ?hd (cs := #[.int .i64 0, .bool false, .string (⟨#[]⟩ : ByteArray), .slice none 0 0]) (t := 32) ?hr ?_; (case hd => rfl); (case hg => rfl); (case hr => first | (go_simp; done) | (go_simp; rfl))
   intro gb155 hg w10 hbox hb
   have n0_ := Aside0.mk (blk_below (g := gb151) (o := .cells #[.int .i64 0, .bool false, .string (⟨#[]⟩ : ByteArray), .slice none 0 0] 32 (0, 0)) (by (with_reducible repeat (first | refine blk_drewN ?_ _ | refine blk_drew ?_ | refine blk_alloc ?_ _)); exact BK151.out) hb)
   have n1_ := Aside0.mk (below_step (by repeat (first | (with_reducible first | exact HB.out | apply below_alloc | apply pw_below_drewN | apply below_drew1 | refine below_set ?_ GE151.out) | exact HB.out)) hb)
   have n2_ := Aside0.mk (hbox)
   have n3_ := Aside0.mk ((by rw [hg]; exact (below_size (by repeat (first | (with_reducible first | exact HB.out | apply below_alloc | apply pw_below_drewN | apply below_drew1 | refine below_set ?_ GE151.out) | exact HB.out))) : w.heap.size ≤ gb155))
   have n4_ := Aside0.mk ((by rw [hg]; exact (below_size (by repeat (first | (with_reducible first | exact HB.out | apply below_alloc | apply pw_below_drewN | apply below_drew1 | refine below_set ?_ GE151.out) | exact HB.out))) : w.heap.size ≤ gb155))
   have n5_ := Aside0.mk ((by rw [hg]; exact Nat.ne_of_lt (blk_lt (g := gb151) (o := .cells #[.int .i64 0, .bool false, .string (⟨#[]⟩ : ByteArray), .slice none 0 0] 32 (0, 0)) (by (with_reducible repeat (first | refine blk_drewN ?_ _ | refine blk_drew ?_ | refine blk_alloc ?_ _)); exact BK151.out)) : gb151 ≠ gb155))
   have n6_ := Aside0.mk ((by rw [hg]; exact Nat.ne_of_gt (blk_lt (g := gb151) (o := .cells #[.int .i64 0, .bool false, .string (⟨#[]⟩ : ByteArray), .slice none 0 0] 32 (0, 0)) (by (with_reducible repeat (first | refine blk_drewN ?_ _ | refine blk_drew ?_ | refine blk_alloc ?_ _)); exact BK151.out)) : gb155 ≠ gb151))
   clear BK151
   clear HB
   have BK151 := n0_
   have HB := n1_
   have BK155 := n2_
   have GW155 := n3_
   have GE155 := n4_
   have NB151_155 := n5_
   have NB155_151 := n6_
   clear n0_ n1_ n2_ n3_ n4_ n5_ n6_
   clear hb hbox hg
   refine hK.out _ _ ⟨((HB.out.cell (World.block_lt_of_cell? w _ hw152_0)).trans hw152_0), ((HB.out.cell (World.block_lt_of_cell? w _ hw152_1)).trans hw152_1), ((HB.out.cell (World.block_lt_of_cell? w _ hw152_2)).trans hw152_2), ((HB.out.cell (World.block_lt_of_cell? w _ hw152_3)).trans hw152_3), ((HB.out.cell (World.block_lt_of_cell? w _ hw153_0)).trans hw153_0), ((HB.out.cell (World.block_lt_of_cell? w _ hw153_1)).trans hw153_1), ((HB.out.cell (World.block_lt_of_cell? w _ hw153_2)).trans hw153_2), ((HB.out.cell (World.block_lt_of_cell? w _ hw153_3)).trans hw153_3), ((HB.out.cell (World.block_lt_of_cell? w _ hw154_0)).trans hw154_0), ((HB.out.cell (World.block_lt_of_cell? w _ hw154_1)).trans hw154_1), ((HB.out.cell (World.block_lt_of_cell? w _ hw154_2)).trans hw154_2), ((HB.out.cell (World.block_lt_of_cell? w _ hw154_3)).trans hw154_3)⟩ (fun hHeld => ?_)
   clear hK K
   refine norm_ (a' := ?_) ?_ ?_
   rotate_left
   ·show Act.put _ (some 5) _ = _
    simp only [Act.put, List.setIfInBounds_toArray, List.set_cons_zero, List.set_cons_succ, i64_w, i32_w]
    rfl
   refine one_ (i := 14) (N := none) #[true, true, true, true, true, true, true, true, true, true, true, true, true, true, true] rfl rfl (one_of HT_.out (by kernel_rfl)) (by decide) (fun K hK => ?_)
   have hs11 : w10.cell? ⟨gb155, 0, none⟩ = some (.int .i64 0) := (blk_cell BK155.out 0).trans rfl
   have hfs11 := blk_frozen BK155.out 0
   have hns11_0 := NB151_155.out
   have hms11_0 := NB155_151.out
   have hs12 : w10.cell? ⟨gb155, 1, none⟩ = some (.bool false) := (blk_cell BK155.out 1).trans rfl
   have hfs12 := blk_frozen BK155.out 1
   have hns12_0 := NB151_155.out
   have hms12_0 := NB155_151.out
   have hs13 : w10.cell? ⟨gb155, 2, none⟩ = some (.string (⟨#[]⟩ : ByteArray)) := (blk_cell BK155.out 2).trans rfl
   have hfs13 := blk_frozen BK155.out 2
   have hns13_0 := NB151_155.out
   have hms13_0 := NB155_151.out
   have hs14 : w10.cell? ⟨gb155, 3, none⟩ = some (.slice none 0 0) := (blk_cell BK155.out 3).trans rfl
   have hfs14 := blk_frozen BK155.out 3
   have hns14_0 := NB151_155.out
   have hms14_0 := NB155_151.out
   refine skip_ (w1 := ?_) (by rfl) rfl ?_ ?_
   rotate_left
   ·go_simp
    rfl
   refine hK.out _ _ ⟨((cell_far (p := ⟨gb155, _, none⟩) (by exact Nat.ne_of_lt (Nat.lt_of_lt_of_le (by have := World.block_lt_of_cell? _ _ hw152_0; first | rwa [add_block] at this | exact this) GW155.out)) _).trans (((cell_far (p := ⟨gb155, _, none⟩) (by exact Nat.ne_of_lt (Nat.lt_of_lt_of_le (by have := World.block_lt_of_cell? _ _ hw152_0; first | rwa [add_block] at this | exact this) GW155.out)) _).trans (((cell_far (p := ⟨gb155, _, none⟩) (by exact Nat.ne_of_lt (Nat.lt_of_lt_of_le (by have := World.block_lt_of_cell? _ _ hw152_0; first | rwa [add_block] at this | exact this) GW155.out)) _).trans (((cell_far (p := ⟨gb155, _, none⟩) (by exact Nat.ne_of_lt (Nat.lt_of_lt_of_le (by have := World.block_lt_of_cell? _ _ hw152_0; first | rwa [add_block] at this | exact this) GW155.out)) _).trans (hHeld.1)))))))), ((cell_far (p := ⟨gb155, _, none⟩) (by exact Nat.ne_of_lt (Nat.lt_of_lt_of_le (by have := World.block_lt_of_cell? _ _ hw152_1; first | rwa [add_block] at this | exact this) GW155.out)) _).trans (((cell_far (p := ⟨gb155, _, none⟩) (by exact Nat.ne_of_lt (Nat.lt_of_lt_of_le (by have := World.block_lt_of_cell? _ _ hw152_1; first | rwa [add_block] at this | exact this) GW155.out)) _).trans (((cell_far (p := ⟨gb155, _, none⟩) (by exact Nat.ne_of_lt (Nat.lt_of_lt_of_le (by have := World.block_lt_of_cell? _ _ hw152_1; first | rwa [add_block] at this | exact this) GW155.out)) _).trans (((cell_far (p := ⟨gb155, _, none⟩) (by exact Nat.ne_of_lt (Nat.lt_of_lt_of_le (by have := World.block_lt_of_cell? _ _ hw152_1; first | rwa [add_block] at this | exact this) GW155.out)) _).trans (hHeld.2.1)))))))), ((cell_far (p := ⟨gb155, _, none⟩) (by exact Nat.ne_of_lt (Nat.lt_of_lt_of_le (by have := World.block_lt_of_cell? _ _ hw152_2; first | rwa [add_block] at this | exact this) GW155.out)) _).trans (((cell_far (p := ⟨gb155, _, none⟩) (by exact Nat.ne_of_lt (Nat.lt_of_lt_of_le (by have := World.block_lt_of_cell? _ _ hw152_2; first | rwa [add_block] at this | exact this) GW155.out)) _).trans (((cell_far (p := ⟨gb155, _, none⟩) (by exact Nat.ne_of_lt (Nat.lt_of_lt_of_le (by have := World.block_lt_of_cell? _ _ hw152_2; first | rwa [add_block] at this | exact this) GW155.out)) _).trans (((cell_far (p := ⟨gb155, _, none⟩) (by exact Nat.ne_of_lt (Nat.lt_of_lt_of_le (by have := World.block_lt_of_cell? _ _ hw152_2; first | rwa [add_block] at this | exact this) GW155.out)) _).trans (hHeld.2.2.1)))))))), ((cell_far (p := ⟨gb155, _, none⟩) (by exact Nat.ne_of_lt (Nat.lt_of_lt_of_le (by have := World.block_lt_of_cell? _ _ hw152_3; first | rwa [add_block] at this | exact this) GW155.out)) _).trans (((cell_far (p := ⟨gb155, _, none⟩) (by exact Nat.ne_of_lt (Nat.lt_of_lt_of_le (by have := World.block_lt_of_cell? _ _ hw152_3; first | rwa [add_block] at this | exact this) GW155.out)) _).trans (((cell_far (p := ⟨gb155, _, none⟩) (by exact Nat.ne_of_lt (Nat.lt_of_lt_of_le (by have := World.block_lt_of_cell? _ _ hw152_3; first | rwa [add_block] at this | exact this) GW155.out)) _).trans (((cell_far (p := ⟨gb155, _, none⟩) (by exact Nat.ne_of_lt (Nat.lt_of_lt_of_le (by have := World.block_lt_of_cell? _ _ hw152_3; first | rwa [add_block] at this | exact this) GW155.out)) _).trans (hHeld.2.2.2.1)))))))), ((cell_far (p := ⟨gb155, _, none⟩) (by exact Nat.ne_of_lt (Nat.lt_of_lt_of_le (by have := World.block_lt_of_cell? _ _ hw153_0; first | rwa [add_block] at this | exact this) GW155.out)) _).trans (((cell_far (p := ⟨gb155, _, none⟩) (by exact Nat.ne_of_lt (Nat.lt_of_lt_of_le (by have := World.block_lt_of_cell? _ _ hw153_0; first | rwa [add_block] at this | exact this) GW155.out)) _).trans (((cell_far (p := ⟨gb155, _, none⟩) (by exact Nat.ne_of_lt (Nat.lt_of_lt_of_le (by have := World.block_lt_of_cell? _ _ hw153_0; first | rwa [add_block] at this | exact this) GW155.out)) _).trans (((cell_far (p := ⟨gb155, _, none⟩) (by exact Nat.ne_of_lt (Nat.lt_of_lt_of_le (by have := World.block_lt_of_cell? _ _ hw153_0; first | rwa [add_block] at this | exact this) GW155.out)) _).trans (hHeld.2.2.2.2.1)))))))), ((cell_far (p := ⟨gb155, _, none⟩) (by exact Nat.ne_of_lt (Nat.lt_of_lt_of_le (by have := World.block_lt_of_cell? _ _ hw153_1; first | rwa [add_block] at this | exact this) GW155.out)) _).trans (((cell_far (p := ⟨gb155, _, none⟩) (by exact Nat.ne_of_lt (Nat.lt_of_lt_of_le (by have := World.block_lt_of_cell? _ _ hw153_1; first | rwa [add_block] at this | exact this) GW155.out)) _).trans (((cell_far (p := ⟨gb155, _, none⟩) (by exact Nat.ne_of_lt (Nat.lt_of_lt_of_le (by have := World.block_lt_of_cell? _ _ hw153_1; first | rwa [add_block] at this | exact this) GW155.out)) _).trans (((cell_far (p := ⟨gb155, _, none⟩) (by exact Nat.ne_of_lt (Nat.lt_of_lt_of_le (by have := World.block_lt_of_cell? _ _ hw153_1; first | rwa [add_block] at this | exact this) GW155.out)) _).trans (hHeld.2.2.2.2.2.1)))))))), ((cell_far (p := ⟨gb155, _, none⟩) (by exact Nat.ne_of_lt (Nat.lt_of_lt_of_le (by have := World.block_lt_of_cell? _ _ hw153_2; first | rwa [add_block] at this | exact this) GW155.out)) _).trans (((cell_far (p := ⟨gb155, _, none⟩) (by exact Nat.ne_of_lt (Nat.lt_of_lt_of_le (by have := World.block_lt_of_cell? _ _ hw153_2; first | rwa [add_block] at this | exact this) GW155.out)) _).trans (((cell_far (p := ⟨gb155, _, none⟩) (by exact Nat.ne_of_lt (Nat.lt_of_lt_of_le (by have := World.block_lt_of_cell? _ _ hw153_2; first | rwa [add_block] at this | exact this) GW155.out)) _).trans (((cell_far (p := ⟨gb155, _, none⟩) (by exact Nat.ne_of_lt (Nat.lt_of_lt_of_le (by have := World.block_lt_of_cell? _ _ hw153_2; first | rwa [add_block] at this | exact this) GW155.out)) _).trans (hHeld.2.2.2.2.2.2.1)))))))), ((cell_far (p := ⟨gb155, _, none⟩) (by exact Nat.ne_of_lt (Nat.lt_of_lt_of_le (by have := World.block_lt_of_cell? _ _ hw153_3; first | rwa [add_block] at this | exact this) GW155.out)) _).trans (((cell_far (p := ⟨gb155, _, none⟩) (by exact Nat.ne_of_lt (Nat.lt_of_lt_of_le (by have := World.block_lt_of_cell? _ _ hw153_3; first | rwa [add_block] at this | exact this) GW155.out)) _).trans (((cell_far (p := ⟨gb155, _, none⟩) (by exact Nat.ne_of_lt (Nat.lt_of_lt_of_le (by have := World.block_lt_of_cell? _ _ hw153_3; first | rwa [add_block] at this | exact this) GW155.out)) _).trans (((cell_far (p := ⟨gb155, _, none⟩) (by exact Nat.ne_of_lt (Nat.lt_of_lt_of_le (by have := World.block_lt_of_cell? _ _ hw153_3; first | rwa [add_block] at this | exact this) GW155.out)) _).trans (hHeld.2.2.2.2.2.2.2.1)))))))), ((cell_far (p := ⟨gb155, _, none⟩) (by exact Nat.ne_of_lt (Nat.lt_of_lt_of_le (by have := World.block_lt_of_cell? _ _ hw154_0; first | rwa [add_block] at this | exact this) GW155.out)) _).trans (((cell_far (p := ⟨gb155, _, none⟩) (by exact Nat.ne_of_lt (Nat.lt_of_lt_of_le (by have := World.block_lt_of_cell? _ _ hw154_0; first | rwa [add_block] at this | exact this) GW155.out)) _).trans (((cell_far (p := ⟨gb155, _, none⟩) (by exact Nat.ne_of_lt (Nat.lt_of_lt_of_le (by have := World.block_lt_of_cell? _ _ hw154_0; first | rwa [add_block] at this | exact this) GW155.out)) _).trans (((cell_far (p := ⟨gb155, _, none⟩) (by exact Nat.ne_of_lt (Nat.lt_of_lt_of_le (by have := World.block_lt_of_cell? _ _ hw154_0; first | rwa [add_block] at this | exact this) GW155.out)) _).trans (hHeld.2.2.2.2.2.2.2.2.1)))))))), ((cell_far (p := ⟨gb155, _, none⟩) (by exact Nat.ne_of_lt (Nat.lt_of_lt_of_le (by have := World.block_lt_of_cell? _ _ hw154_1; first | rwa [add_block] at this | exact this) GW155.out)) _).trans (((cell_far (p := ⟨gb155, _, none⟩) (by exact Nat.ne_of_lt (Nat.lt_of_lt_of_le (by have := World.block_lt_of_cell? _ _ hw154_1; first | rwa [add_block] at this | exact this) GW155.out)) _).trans (((cell_far (p := ⟨gb155, _, none⟩) (by exact Nat.ne_of_lt (Nat.lt_of_lt_of_le (by have := World.block_lt_of_cell? _ _ hw154_1; first | rwa [add_block] at this | exact this) GW155.out)) _).trans (((cell_far (p := ⟨gb155, _, none⟩) (by exact Nat.ne_of_lt (Nat.lt_of_lt_of_le (by have := World.block_lt_of_cell? _ _ hw154_1; first | rwa [add_block] at this | exact this) GW155.out)) _).trans (hHeld.2.2.2.2.2.2.2.2.2.1)))))))), ((cell_far (p := ⟨gb155, _, none⟩) (by exact Nat.ne_of_lt (Nat.lt_of_lt_of_le (by have := World.block_lt_of_cell? _ _ hw154_2; first | rwa [add_block] at this | exact this) GW155.out)) _).trans (((cell_far (p := ⟨gb155, _, none⟩) (by exact Nat.ne_of_lt (Nat.lt_of_lt_of_le (by have := World.block_lt_of_cell? _ _ hw154_2; first | rwa [add_block] at this | exact this) GW155.out)) _).trans (((cell_far (p := ⟨gb155, _, none⟩) (by exact Nat.ne_of_lt (Nat.lt_of_lt_of_le (by have := World.block_lt_of_cell? _ _ hw154_2; first | rwa [add_block] at this | exact this) GW155.out)) _).trans (((cell_far (p := ⟨gb155, _, none⟩) (by exact Nat.ne_of_lt (Nat.lt_of_lt_of_le (by have := World.block_lt_of_cell? _ _ hw154_2; first | rwa [add_block] at this | exact this) GW155.out)) _).trans (hHeld.2.2.2.2.2.2.2.2.2.2.1)))))))), ((cell_far (p := ⟨gb155, _, none⟩) (by exact Nat.ne_of_lt (Nat.lt_of_lt_of_le (by have := World.block_lt_of_cell? _ _ hw154_3; first | rwa [add_block] at this | exact this) GW155.out)) _).trans (((cell_far (p := ⟨gb155, _, none⟩) (by exact Nat.ne_of_lt (Nat.lt_of_lt_of_le (by have := World.block_lt_of_cell? _ _ hw154_3; first | rwa [add_block] at this | exact this) GW155.out)) _).trans (((cell_far (p := ⟨gb155, _, none⟩) (by exact Nat.ne_of_lt (Nat.lt_of_lt_of_le (by have := World.block_lt_of_cell? _ _ hw154_3; first | rwa [add_block] at this | exact this) GW155.out)) _).trans (((cell_far (p := ⟨gb155, _, none⟩) (by exact Nat.ne_of_lt (Nat.lt_of_lt_of_le (by have := World.block_lt_of_cell? _ _ hw154_3; first | rwa [add_block] at this | exact this) GW155.out)) _).trans (hHeld.2.2.2.2.2.2.2.2.2.2.2))))))))⟩ (fun hHeld => ?_)
   clear hK K
   refine done_ (done_of HT_.out (by kernel_rfl)) ?_
   have hnb15 := NB155_151.out
   have hnc15 := NB151_155.out
   have hcz16_0 : w10.cell? ⟨gb155, 0, none⟩ = some (.int .i64 0) := (blk_cell BK155.out 0).trans rfl
   have hcz16_1 : w10.cell? ⟨gb155, 1, none⟩ = some (.bool false) := (blk_cell BK155.out 1).trans rfl
   have hcz16_2 : w10.cell? ⟨gb155, 2, none⟩ = some (.string (⟨#[]⟩ : ByteArray)) := (blk_cell BK155.out 2).trans rfl
   have hcz16_3 : w10.cell? ⟨gb155, 3, none⟩ = some (.slice none 0 0) := (blk_cell BK155.out 3).trans rfl
   have hfz16_0 := blk_frozen BK155.out 0
   have hfz16_1 := blk_frozen BK155.out 1
   have hfz16_2 := blk_frozen BK155.out 2
   have hfz16_3 := blk_frozen BK155.out 3
   go_upto_region 5 with (first | ((with_reducible refine gate_callee (f := 32) rfl ?_); refine goesL_ (some 29) rfl rfl Tryd.func32 (by kernel_rfl) rfl #[.agg #[.int .i64 ((rd_T29 l0 0).f1), .bool ((rd_T29 l0 0).f2), .string ((rd_T29 l0 0).f3), .slice none 0 0]] rfl (by (try simp only [List.map_toArray, List.map_cons, List.map_nil]); first | done | rfl | (simp only [List.length_drop, List.length_take]; rfl)) ?_; (refine (depotref06_Own.calls ((rd_T29 l0 0).f1) ((rd_T29 l0 0).f2) ((rd_T29 l0 0).f3) _ _ ([] : List (S63)) t156 t157 _ ?side1 ?side2 A6.out).mono ?_); (case side1 => exact Kd.C_nil _ _); (case side2 => exact Nat.le_refl _); rintro e w17 ⟨rfl, hb⟩; refine ⟨_, rfl, ?_⟩; have n0_ := Aside0.mk (blk_below (g := gb151) (o := .cells #[.int .i64 0, .bool false, .string (⟨#[]⟩ : ByteArray), .slice none 0 0] 32 (0, 0)) (by (with_reducible repeat (first | refine blk_drewN ?_ _ | refine blk_drew ?_ | refine blk_alloc ?_ _)); refine blk_far ?_ NB151_155.out _; (with_reducible repeat (first | refine blk_drewN ?_ _ | refine blk_drew ?_ | refine blk_alloc ?_ _)); refine blk_far ?_ NB151_155.out _; (with_reducible repeat (first | refine blk_drewN ?_ _ | refine blk_drew ?_ | refine blk_alloc ?_ _)); refine blk_far ?_ NB151_155.out _; (with_reducible repeat (first | refine blk_drewN ?_ _ | refine blk_drew ?_ | refine blk_alloc ?_ _)); refine blk_far ?_ NB151_155.out _; (with_reducible repeat (first | refine blk_drewN ?_ _ | refine blk_drew ?_ | refine blk_alloc ?_ _)); exact BK151.out) hb); have n1_ := Aside0.mk (blk_below (g := gb155) (o := .cells #[.int .i64 ((rd_T29 l0 0).f1), .bool ((rd_T29 l0 0).f2), .string ((rd_T29 l0 0).f3), .slice none 0 0] 32 (0, 0)) (by (with_reducible repeat (first | refine blk_drewN ?_ _ | refine blk_drew ?_ | refine blk_alloc ?_ _)); refine blk_put (cs := #[.int .i64 ((rd_T29 l0 0).f1), .bool ((rd_T29 l0 0).f2), .string ((rd_T29 l0 0).f3), .slice none 0 0]) ?_ 3 _ rfl; (with_reducible repeat (first | refine blk_drewN ?_ _ | refine blk_drew ?_ | refine blk_alloc ?_ _)); refine blk_put (cs := #[.int .i64 ((rd_T29 l0 0).f1), .bool ((rd_T29 l0 0).f2), .string (⟨#[]⟩ : ByteArray), .slice none 0 0]) ?_ 2 _ rfl; (with_reducible repeat (first | refine blk_drewN ?_ _ | refine blk_drew ?_ | refine blk_alloc ?_ _)); refine blk_put (cs := #[.int .i64 ((rd_T29 l0 0).f1), .bool false, .string (⟨#[]⟩ : ByteArray), .slice none 0 0]) ?_ 1 _ rfl; (with_reducible repeat (first | refine blk_drewN ?_ _ | refine blk_drew ?_ | refine blk_alloc ?_ _)); refine blk_put (cs := #[.int .i64 0, .bool false, .string (⟨#[]⟩ : ByteArray), .slice none 0 0]) ?_ 0 _ rfl; (with_reducible repeat (first | refine blk_drewN ?_ _ | refine blk_drew ?_ | refine blk_alloc ?_ _)); exact BK155.out) hb); have n2_ := Aside0.mk (below_step (by repeat (first | (with_reducible first | exact HB.out | apply below_alloc | apply pw_below_drewN | apply below_drew1 | refine below_set ?_ GE151.out | refine below_set ?_ GE155.out) | exact HB.out)) hb); clear BK151; clear BK155; clear HB; have BK151 := n0_; have BK155 := n1_; have HB := n2_; clear n0_ n1_ n2_; (try clear hb); (try clear hb2); (try clear hk); (try clear hi)))
   (try simp only [Act.put, List.setIfInBounds_toArray, List.set_cons_zero, List.set_cons_succ])
   go_cut [40] (fun v40 wc => ∃ (kq : Nat) (x40_6 : Bool), v40 = .bool x40_6 ∧ Aside0 (depotref06_Build.j0 kq l0 x40_6 ((rd_T29 l0 0).f1) ((rd_T29 l0 0).f2) ((rd_T29 l0 0).f3) = some (r1, r2, r3, r4, r5, r6)) ∧ Aside0 (kq ≤ k) ∧ Aside0 (wc.heap[gb151]? = some (.cells #[.int .i64 0, .bool false, .string (⟨#[]⟩ : ByteArray), (.slice none 0 0)] 32 (0, 0))) ∧ Aside0 (wc.heap[gb155]? = some (.cells #[.int .i64 ((rd_T29 l0 0).f1), .bool ((rd_T29 l0 0).f2), .string ((rd_T29 l0 0).f3), (.slice none 0 0)] 32 (0, 0))) ∧ Aside0 (Below w.heap.size w wc))
   case first =>
    have H := HC7.out
    clear HC7
    by_cases c18 : ((rd_T29 l0 0).f0).toList = ([] : List UInt8)
    ·rw [if_pos c18] at H
     have c18b0 : (((rd_T29 l0 0).f0).toList == ([] : List UInt8)) = true := beq_iff_eq.mpr c18
     have c18b1 : (((rd_T29 l0 0).f0).toList != ([] : List UInt8)) = false := bne_eq_false_iff_eq.mpr c18
     clear c18
     (first | rw [c18b0] | (simp only [i64_w, i32_w]; rw [c18b0]) | skip)
     have H' := Aside0.mk H
     clear H
     have p158 : 0 ≤ (0 : Int) := (by omega)
     have q158 : 0 < (l0.length : Int) := of_decide_eq_true (by first | (with_reducible assumption) | assumption)
     obtain ⟨ad158, e158, hx158_0, hx158_1, hx158_2, hx158_3⟩ := at_T29 HR0.out 0 p158 q158
     obtain rfl : ad152 = ad158 := (by injection e158)
     have qi158 : (0 < l0.length) = True := eq_true (by omega)
     (try rw [show ((0 : Int)).toNat = 0 from rfl] at hx158_0)
     (try rw [show 0 * 4 = 0 from rfl] at hx158_0)
     (try rw [Addr.add_zero'] at hx158_0)
     (try rw [show ((0 : Int)).toNat = 0 from rfl] at hx158_1)
     (try rw [show 0 * 4 = 0 from rfl] at hx158_1)
     (try rw [Addr.add_zero'] at hx158_1)
     (try rw [show ((0 : Int)).toNat = 0 from rfl] at hx158_2)
     (try rw [show 0 * 4 = 0 from rfl] at hx158_2)
     (try rw [Addr.add_zero'] at hx158_2)
     (try rw [show ((0 : Int)).toNat = 0 from rfl] at hx158_3)
     (try rw [show 0 * 4 = 0 from rfl] at hx158_3)
     (try rw [Addr.add_zero'] at hx158_3)
     replace hx158_0 := (HB.out.cell (World.block_lt_of_cell? w _ hx158_0)).trans hx158_0
     replace hx158_1 := (HB.out.cell (World.block_lt_of_cell? w _ hx158_1)).trans hx158_1
     replace hx158_2 := (HB.out.cell (World.block_lt_of_cell? w _ hx158_2)).trans hx158_2
     replace hx158_3 := (HB.out.cell (World.block_lt_of_cell? w _ hx158_3)).trans hx158_3
     replace p158 := eq_true p158
     replace q158 := eq_true q158
     go_wp2
     go_meet
     case rel => exact ⟨_, ((t156 != 0)), (by first | rfl | (simp; done) | (simp [*]; done)), H', ⟨by first | omega | exact Nat.le_refl _⟩, ⟨by (with_reducible repeat (first | refine blk_drewN ?_ _ | refine blk_drew ?_ | refine blk_alloc ?_ _)); exact BK151.out⟩, ⟨by (with_reducible repeat (first | refine blk_drewN ?_ _ | refine blk_drew ?_ | refine blk_alloc ?_ _)); exact BK155.out⟩, ⟨by repeat (first | (with_reducible first | exact HB.out | apply below_alloc | apply pw_below_drewN | apply below_drew1 | refine below_set ?_ GE151.out | refine below_set ?_ GE155.out) | exact HB.out)⟩⟩
    ·rw [if_neg c18] at H
     have c18b0 : (((rd_T29 l0 0).f0).toList == ([] : List UInt8)) = false := beq_eq_false_iff_ne.mpr c18
     have c18b1 : (((rd_T29 l0 0).f0).toList != ([] : List UInt8)) = true := bne_iff_ne.mpr c18
     (first | rw [c18b0] | (simp only [i64_w, i32_w]; rw [c18b0]) | skip)
     have H' := Aside0.mk H
     clear H
     have p158 : 0 ≤ (0 : Int) := (by omega)
     have q158 : 0 < (l0.length : Int) := of_decide_eq_true (by first | (with_reducible assumption) | assumption)
     obtain ⟨ad158, e158, hx158_0, hx158_1, hx158_2, hx158_3⟩ := at_T29 HR0.out 0 p158 q158
     obtain rfl : ad152 = ad158 := (by injection e158)
     have qi158 : (0 < l0.length) = True := eq_true (by omega)
     (try rw [show ((0 : Int)).toNat = 0 from rfl] at hx158_0)
     (try rw [show 0 * 4 = 0 from rfl] at hx158_0)
     (try rw [Addr.add_zero'] at hx158_0)
     (try rw [show ((0 : Int)).toNat = 0 from rfl] at hx158_1)
     (try rw [show 0 * 4 = 0 from rfl] at hx158_1)
     (try rw [Addr.add_zero'] at hx158_1)
     (try rw [show ((0 : Int)).toNat = 0 from rfl] at hx158_2)
     (try rw [show 0 * 4 = 0 from rfl] at hx158_2)
     (try rw [Addr.add_zero'] at hx158_2)
     (try rw [show ((0 : Int)).toNat = 0 from rfl] at hx158_3)
     (try rw [show 0 * 4 = 0 from rfl] at hx158_3)
     (try rw [Addr.add_zero'] at hx158_3)
     replace hx158_0 := (HB.out.cell (World.block_lt_of_cell? w _ hx158_0)).trans hx158_0
     replace hx158_1 := (HB.out.cell (World.block_lt_of_cell? w _ hx158_1)).trans hx158_1
     replace hx158_2 := (HB.out.cell (World.block_lt_of_cell? w _ hx158_2)).trans hx158_2
     replace hx158_3 := (HB.out.cell (World.block_lt_of_cell? w _ hx158_3)).trans hx158_3
     replace p158 := eq_true p158
     replace q158 := eq_true q158
     go_wp2
     go_meet
     case rel => exact ⟨_, (true), (by first | rfl | (simp; done) | (simp [*]; done)), H', ⟨by first | omega | exact Nat.le_refl _⟩, ⟨by (with_reducible repeat (first | refine blk_drewN ?_ _ | refine blk_drew ?_ | refine blk_alloc ?_ _)); exact BK151.out⟩, ⟨by (with_reducible repeat (first | refine blk_drewN ?_ _ | refine blk_drew ?_ | refine blk_alloc ?_ _)); exact BK155.out⟩, ⟨by repeat (first | (with_reducible first | exact HB.out | apply below_alloc | apply pw_below_drewN | apply below_drew1 | refine below_set ?_ GE151.out | refine below_set ?_ GE155.out) | exact HB.out)⟩⟩
   case rest =>
    clear HC7
    try clear c1
    try clear p1
    try clear q1
    try clear hx1
    try clear qi1
    try clear c2
    try clear c2b0
    try clear c2b1
    try clear c2b2
    try clear p2
    try clear c3
    try clear c5
    try clear c5b0
    try clear c5b1
    try clear c12
    try clear c15
    try clear p15
    try clear q15
    try clear hx15
    try clear qi15
    try clear c18
    try clear c18b0
    try clear c18b1
    try clear hcz16_0
    try clear hcz16_1
    try clear hcz16_2
    try clear hcz16_3
    try clear hcz4_0
    try clear hcz4_1
    try clear hcz4_2
    try clear hcz4_3
    try clear hfz16_0
    try clear hfz16_1
    try clear hfz16_2
    try clear hfz16_3
    try clear hfz4_0
    try clear hfz4_1
    try clear hfz4_2
    try clear hfz4_3
    try clear hx152_0
    try clear hx152_1
    try clear hx152_2
    try clear hx152_3
    try clear hx153_0
    try clear hx153_1
    try clear hx153_2
    try clear hx153_3
    try clear hx154_0
    try clear hx154_1
    try clear hx154_2
    try clear hx154_3
    try clear hx158_0
    try clear hx158_1
    try clear hx158_2
    try clear hx158_3
    try clear p152
    try clear p153
    try clear p154
    try clear p158
    try clear q152
    try clear q153
    try clear q154
    try clear q158
    obtain ⟨kq, x40_6, rfl, HA, HJ6, BK151, BK155, HB⟩ := hcut
    cases kq with
    | zero => exact absurd HA.out (by simp [depotref06_Build.j0])
    | succ kj6 =>
     have H := HA.out
     clear HA
     simp only [depotref06_Build.j0] at H
     by_cases c19 : x40_6 = true
     ·subst c19
      have H1 : (some (0, false, (⟨#[]⟩ : ByteArray), ([] : List (S63)), 64, 0)) = some (r1, r2, r3, r4, r5, r6) := by rw [if_pos rfl] at H; exact H
      clear H
      have H := H1
      clear H1
      simp only [Option.some.injEq, Prod.mk.injEq] at H
      obtain ⟨rfl, rfl, rfl, rfl, rfl, rfl⟩ := H
      have hnb20 := NB151_155.out
      have hnc20 := NB155_151.out
      have hcz21_0 : wc.cell? ⟨gb151, 0, none⟩ = some (.int .i64 0) := (blk_cell BK151.out 0).trans rfl
      have hcz21_1 : wc.cell? ⟨gb151, 1, none⟩ = some (.bool false) := (blk_cell BK151.out 1).trans rfl
      have hcz21_2 : wc.cell? ⟨gb151, 2, none⟩ = some (.string (⟨#[]⟩ : ByteArray)) := (blk_cell BK151.out 2).trans rfl
      have hcz21_3 : wc.cell? ⟨gb151, 3, none⟩ = some (.slice none 0 0) := (blk_cell BK151.out 3).trans rfl
      have hfz21_0 := blk_frozen BK151.out 0
      have hfz21_1 := blk_frozen BK151.out 1
      have hfz21_2 := blk_frozen BK151.out 2
      have hfz21_3 := blk_frozen BK151.out 3
      go_wp2
      refine bodyPost_ret (results_ctt rfl _ _ gb151 32 #[.int .i64 0, .bool false, .string (⟨#[]⟩ : ByteArray), .slice none 0 0] (0, 0) _ rfl (by (with_reducible repeat (first | refine blk_drewN ?_ _ | refine blk_drew ?_ | refine blk_alloc ?_ _)); refine blk_put (cs := #[.int .i64 0, .bool false, .string (⟨#[]⟩ : ByteArray), .slice none 0 0]) ?_ 3 _ rfl; (with_reducible repeat (first | refine blk_drewN ?_ _ | refine blk_drew ?_ | refine blk_alloc ?_ _)); refine blk_put (cs := #[.int .i64 0, .bool false, .string (⟨#[]⟩ : ByteArray), .slice none 0 0]) ?_ 2 _ rfl; (with_reducible repeat (first | refine blk_drewN ?_ _ | refine blk_drew ?_ | refine blk_alloc ?_ _)); refine blk_put (cs := #[.int .i64 0, .bool false, .string (⟨#[]⟩ : ByteArray), .slice none 0 0]) ?_ 1 _ rfl; (with_reducible repeat (first | refine blk_drewN ?_ _ | refine blk_drew ?_ | refine blk_alloc ?_ _)); refine blk_put (cs := #[.int .i64 0, .bool false, .string (⟨#[]⟩ : ByteArray), .slice none 0 0]) ?_ 0 _ rfl; (with_reducible repeat (first | refine blk_drewN ?_ _ | refine blk_drew ?_ | refine blk_alloc ?_ _)); exact BK151.out) Tryd.underlying32 rfl (by kernel_rfl)) rfl ?_
      exact ⟨_, by first | rfl | (simp [errW_none, errW_some] <;> rfl) | (simp [*, errW_none, errW_some] <;> rfl), by first | exact Kd.R_nil _ _ _ _ _ | exact Kd.N_nil _ _ _ _ _ | exact Kd.V_nil _ _ _ _ _ | exact Kd.Q_nil _ _ _ _ _ | exact Kd.S_nil _ _ _ _ _, by repeat (first | (with_reducible first | exact HB.out | apply below_alloc | apply pw_below_drewN | apply below_drew1 | refine below_set ?_ GE151.out | refine below_set ?_ GE155.out) | exact HB.out)⟩
     ·replace c19 := Bool.eq_false_iff.mpr c19
      subst c19
      have H1 : (if 0 < (l0.length : Int) then (if ((rd_T29 l0 0).f1) = 3 then ((depotref06_gather.f kj6 l0 1 ([] : List ByteArray)).bind fun bt160 => (if 0 ≤ bt160.2 then (if bt160.2 ≤ (l0.length : Int) then ((depotref06_fits.f kj6 (l0.take (bt160.2 : Int).toNat)).bind fun t168 => (if t168 < (l0.length : Int) then (some (0, false, (⟨#[]⟩ : ByteArray), ([] : List (S63)), 64, t168)) else (some (((rd_T29 l0 0).f1), ((rd_T29 l0 0).f2), ((rd_T29 l0 0).f3), bt160.1, 0, 0)))) else (none)) else (none))) else (if 1 ≤ (l0.length : Int) then ((depotref06_fits.f kj6 (l0.take 1)).bind fun t173 => (if t173 < (l0.length : Int) then (some (0, false, (⟨#[]⟩ : ByteArray), ([] : List (S63)), 64, t173)) else (some (((rd_T29 l0 0).f1), ((rd_T29 l0 0).f2), ((rd_T29 l0 0).f3), ([] : List (S63)), 0, 0)))) else (none))) else (none)) = some (r1, r2, r3, r4, r5, r6) := by rw [if_neg (show ¬ (false = true) by decide)] at H; exact H
      clear H
      have H := H1
      clear H1
      by_cases c22 : 0 < (l0.length : Int)
      ·rw [if_pos c22] at H
       have c22b0 : decide (0 < (l0.length : Int)) = true := decide_eq_true c22
       have c22b1 : decide (0 < l0.length) = true := decide_eq_true (by omega)
       clear c22
       by_cases c23 : ((rd_T29 l0 0).f1) = 3
       ·rw [if_pos c23] at H
        have c23b0 : (((rd_T29 l0 0).f1) == 3) = true := beq_iff_eq.mpr c23
        have c23b1 : (((rd_T29 l0 0).f1) != 3) = false := bne_eq_false_iff_eq.mpr c23
        clear c23
        replace H := Option.bind_eq_some_iff.mp H
        obtain ⟨⟨t160, t161⟩, A240, H⟩ := H
        replace H : (if 0 ≤ t161 then (if t161 ≤ (l0.length : Int) then ((depotref06_fits.f kj6 (l0.take (t161 : Int).toNat)).bind fun t168 => (if t168 < (l0.length : Int) then (some (0, false, (⟨#[]⟩ : ByteArray), ([] : List (S63)), 64, t168)) else (some (((rd_T29 l0 0).f1), ((rd_T29 l0 0).f2), ((rd_T29 l0 0).f3), t160, 0, 0)))) else (none)) else (none)) = some (r1, r2, r3, r4, r5, r6) := H
        have A24 := Aside0.mk A240
        clear A240
        by_cases c25 : 0 ≤ t161
        ·rw [if_pos c25] at H
         have c25b0 := eq_true c25
         have c25b1 : decide (0 ≤ t161) = true := decide_eq_true c25
         clear c25
         by_cases c26 : t161 ≤ (l0.length : Int)
         ·rw [if_pos c26] at H
          have c26b0 := eq_true c26
          have c26b1 : decide (t161 ≤ (l0.length : Int)) = true := decide_eq_true c26
          clear c26
          obtain ⟨y164, hy164⟩ : ∃ y_ : List (S29), y_ = (l0.take (t161 : Int).toNat) := ⟨_, rfl⟩
          replace H : ((depotref06_fits.f kj6 y164).bind fun t168 => (if t168 < (l0.length : Int) then (some (0, false, (⟨#[]⟩ : ByteArray), ([] : List (S63)), 64, t168)) else (some (((rd_T29 l0 0).f1), ((rd_T29 l0 0).f2), ((rd_T29 l0 0).f3), t160, 0, 0)))) = some (r1, r2, r3, r4, r5, r6) := by first | (rw [hy164]; with_reducible exact H) | (have H2_ := (Option.bind_some _ _).symm.trans H; rw [hy164]; with_reducible exact H2_) | (have H2_ := (Option.bind_some _ _).symm.trans H; with_reducible exact H2_) | with_reducible exact H | (rw [hy164]; exact H) | exact H
          have Ny164 := Aside0.mk hy164
          clear hy164
          replace H := Option.bind_eq_some_iff.mp H
          obtain ⟨t168, A270, H⟩ := H
          replace H : (if t168 < (l0.length : Int) then (some (0, false, (⟨#[]⟩ : ByteArray), ([] : List (S63)), 64, t168)) else (some (((rd_T29 l0 0).f1), ((rd_T29 l0 0).f2), ((rd_T29 l0 0).f3), t160, 0, 0))) = some (r1, r2, r3, r4, r5, r6) := H
          have A27 := Aside0.mk A270
          clear A270
          by_cases c28 : t168 < (l0.length : Int)
          ·rw [if_pos c28] at H
           have c28b0 : decide (t168 < (l0.length : Int)) = true := decide_eq_true c28
           clear c28
           simp only [Option.some.injEq, Prod.mk.injEq] at H
           obtain ⟨rfl, rfl, rfl, rfl, rfl, rfl⟩ := H
           have p159 : 0 ≤ (0 : Int) := (by omega)
           have q159 : 0 < (l0.length : Int) := of_decide_eq_true (by first | (with_reducible assumption) | assumption)
           obtain ⟨ad159, e159, hx159_0, hx159_1, hx159_2, hx159_3⟩ := at_T29 HR0.out 0 p159 q159
           obtain rfl : ad152 = ad159 := (by injection e159)
           have qi159 : (0 < l0.length) = True := eq_true (by omega)
           (try rw [show ((0 : Int)).toNat = 0 from rfl] at hx159_0)
           (try rw [show 0 * 4 = 0 from rfl] at hx159_0)
           (try rw [Addr.add_zero'] at hx159_0)
           (try rw [show ((0 : Int)).toNat = 0 from rfl] at hx159_1)
           (try rw [show 0 * 4 = 0 from rfl] at hx159_1)
           (try rw [Addr.add_zero'] at hx159_1)
           (try rw [show ((0 : Int)).toNat = 0 from rfl] at hx159_2)
           (try rw [show 0 * 4 = 0 from rfl] at hx159_2)
           (try rw [Addr.add_zero'] at hx159_2)
           (try rw [show ((0 : Int)).toNat = 0 from rfl] at hx159_3)
           (try rw [show 0 * 4 = 0 from rfl] at hx159_3)
           (try rw [Addr.add_zero'] at hx159_3)
           replace hx159_0 := (HB.out.cell (World.block_lt_of_cell? w _ hx159_0)).trans hx159_0
           replace hx159_1 := (HB.out.cell (World.block_lt_of_cell? w _ hx159_1)).trans hx159_1
           replace hx159_2 := (HB.out.cell (World.block_lt_of_cell? w _ hx159_2)).trans hx159_2
           replace hx159_3 := (HB.out.cell (World.block_lt_of_cell? w _ hx159_3)).trans hx159_3
           replace p159 := eq_true p159
           replace q159 := eq_true q159
           go_wp2_with (first | ((with_reducible refine gate_callee (f := 33) rfl ?_); refine goesL_ (some 49) rfl rfl Tryd.func33 (by kernel_rfl) rfl #[.slice (some ad152) l0.length c0, .int .i64 1, .slice none 0 0] rfl (by (try simp only [List.map_toArray, List.map_cons, List.map_nil]); first | done | rfl | (simp only [List.length_drop, List.length_take]; rfl)) ?_; (refine (depotref06_gather.calls kj6 _ _ l0 1 _ _ ([] : List ByteArray) t160 t161 _ ?side1 ?side2 ?side3 ?side4 A24.out).mono ?_); (case side1 => repeat (first | exact (Kd.C_below HR0.out HB.out) | (with_reducible refine Kd.C_alloc ?_ _) | (with_reducible refine Kd.C_drewN ?_ _) | (with_reducible refine Kd.C_drew ?_))); (case side2 => exact HC0.out); (case side3 => exact Kd.C_nil _ _); (case side4 => exact Nat.le_refl _); rintro e w29 ⟨v162, rfl, ho0, hb⟩; refine ⟨_, rfl, ?_⟩; have n0_ := Aside0.mk (Kd.R_lower ho0 (below_size (by repeat (first | (with_reducible first | exact HB.out | apply below_alloc | apply pw_below_drewN | apply below_drew1 | refine below_set ?_ GE151.out | refine below_set ?_ GE155.out) | exact HB.out)))); have n1_ := Aside0.mk (blk_below (g := gb151) (o := .cells #[.int .i64 0, .bool false, .string (⟨#[]⟩ : ByteArray), .slice none 0 0] 32 (0, 0)) (by (with_reducible repeat (first | refine blk_drewN ?_ _ | refine blk_drew ?_ | refine blk_alloc ?_ _)); exact BK151.out) hb); have n2_ := Aside0.mk (blk_below (g := gb155) (o := .cells #[.int .i64 ((rd_T29 l0 0).f1), .bool ((rd_T29 l0 0).f2), .string ((rd_T29 l0 0).f3), .slice none 0 0] 32 (0, 0)) (by (with_reducible repeat (first | refine blk_drewN ?_ _ | refine blk_drew ?_ | refine blk_alloc ?_ _)); exact BK155.out) hb); have n3_ := Aside0.mk (below_step (by repeat (first | (with_reducible first | exact HB.out | apply below_alloc | apply pw_below_drewN | apply below_drew1 | refine below_set ?_ GE151.out | refine below_set ?_ GE155.out) | exact HB.out)) hb); clear BK151; clear BK155; clear HB; have HO163 := n0_; have BK151 := n1_; have BK155 := n2_; have HB := n3_; clear n0_ n1_ n2_ n3_; (try clear hb); (try clear hb2); (try clear hk); (try clear hi); (try clear ho0); obtain ⟨Ao30, co30, eo30⟩ := Kd.R_slice HO163.out; subst eo30; have hnb31 := NB155_151.out; have hnc31 := NB151_155.out; have hcz32_0 : w29.cell? ⟨gb155, 0, none⟩ = some (.int .i64 ((rd_T29 l0 0).f1)) := (blk_cell BK155.out 0).trans rfl; have hcz32_1 : w29.cell? ⟨gb155, 1, none⟩ = some (.bool ((rd_T29 l0 0).f2)) := (blk_cell BK155.out 1).trans rfl; have hcz32_2 : w29.cell? ⟨gb155, 2, none⟩ = some (.string ((rd_T29 l0 0).f3)) := (blk_cell BK155.out 2).trans rfl; have hcz32_3 : w29.cell? ⟨gb155, 3, none⟩ = some (.slice none 0 0) := (blk_cell BK155.out 3).trans rfl; have hfz32_0 := blk_frozen BK155.out 0; have hfz32_1 := blk_frozen BK155.out 1; have hfz32_2 := blk_frozen BK155.out 2; have hfz32_3 := blk_frozen BK155.out 3) | ((with_reducible refine gate_store (t := 30) (p := 52) rfl ?_); refine store_event (t := 30) (p := 52) (v := ?vo_w33) (w1 := (w29.setCell ⟨gb155, 3, none⟩ (.slice Ao30 t160.length co30))) ?hg ?ho ?hn ?hr ?_; (case ho => rfl); (case hg => rfl); (case hn => rfl); (case hr => first | (go_simp; done) | (go_simp; rfl)); intro w33 hw; have n0_ : Aside0 (Kd.R k63 63 w33 w.heap.size (fun _ => True) (.slice Ao30 t160.length co30) t160) := ⟨(by rw [hw]; exact (by (with_reducible repeat (first | apply Kd.R_alloc | apply Kd.R_drewN | apply Kd.R_drew)); exact Kd.R_mono (Kd.R_far (p := ⟨gb155, 3, none⟩) (Kd.R_types HO163.out BK155.out (by decide)) (fun _ hk => hk.2) (.slice Ao30 t160.length co30)) (fun _ hk => trivial)))⟩; have n1_ : Aside0 (w33.heap[gb151]? = some (.cells #[.int .i64 0, .bool false, .string (⟨#[]⟩ : ByteArray), .slice none 0 0] 32 (0, 0))) := ⟨(by rw [hw]; exact (by (with_reducible repeat (first | refine blk_drewN ?_ _ | refine blk_drew ?_ | refine blk_alloc ?_ _)); refine blk_far ?_ NB151_155.out _; (with_reducible repeat (first | refine blk_drewN ?_ _ | refine blk_drew ?_ | refine blk_alloc ?_ _)); exact BK151.out))⟩; have n2_ : Aside0 (w33.heap[gb155]? = some (.cells #[.int .i64 ((rd_T29 l0 0).f1), .bool ((rd_T29 l0 0).f2), .string ((rd_T29 l0 0).f3), .slice Ao30 t160.length co30] 32 (0, 0))) := ⟨(by rw [hw]; exact (by (with_reducible repeat (first | refine blk_drewN ?_ _ | refine blk_drew ?_ | refine blk_alloc ?_ _)); refine blk_put (cs := #[.int .i64 ((rd_T29 l0 0).f1), .bool ((rd_T29 l0 0).f2), .string ((rd_T29 l0 0).f3), .slice none 0 0]) ?_ 3 _ rfl; (with_reducible repeat (first | refine blk_drewN ?_ _ | refine blk_drew ?_ | refine blk_alloc ?_ _)); exact BK155.out))⟩; have n3_ : Aside0 (Below w.heap.size w w33) := ⟨(by rw [hw]; exact (by repeat (first | (with_reducible first | exact HB.out | apply below_alloc | apply pw_below_drewN | apply below_drew1 | refine below_set ?_ GE151.out | refine below_set ?_ GE155.out) | exact HB.out)))⟩; clear hw; clear HO163; clear BK151; clear BK155; clear HB; have HO163 := n0_; have BK151 := n1_; have BK155 := n2_; have HB := n3_; clear n0_ n1_ n2_ n3_; have q34 : (t161 : Int) ≤ ((l0.length : Int) : Int) := of_decide_eq_true (by first | (with_reducible assumption) | assumption); obtain ⟨i034, hi034, _, hsz34, _⟩ := info_parts info29; have hroom34 : l0.length ≤ c0 := HC0.out; have hC34 : Kd.C k29 _ (some ad152) l0.length l0 := HR0.out; have hcut34 := cut_to (P := Tryd.prog) 24 29 .i64 Tryd.underlying24 hi034 (some ad152) l0.length c0 t161 (of_decide_eq_true (by first | (with_reducible assumption) | assumption)) q34 hroom34; have hr34 := Kd.C_take (m := (t161 : Int).toNat) hC34 (by omega); have hy34 : y164.length = (t161 : Int).toNat := (by rw [Ny164.out, List.length_take]; omega); rw [← Ny164.out] at hr34; rw [← hy34] at hcut34; have HR167 := Aside0.mk hr34; have HC167 := Aside0.mk (show y164.length ≤ c0 from by omega); clear hr34 hC34 hroom34 hi034 hsz34; have KY34 := Aside0.mk hy34; clear hy34; replace q34 := eq_true q34) | ((with_reducible refine gate_callee (f := 34) rfl ?_); refine goesL_ (some 56) rfl rfl Tryd.func34 (by kernel_rfl) rfl #[.slice (some ad152) y164.length c0] rfl (by (try simp only [List.map_toArray, List.map_cons, List.map_nil]); first | done | rfl | (simp only [List.length_drop, List.length_take]; rfl)) ?_; (with_reducible refine (depotref06_fits.calls kj6 _ _ y164 t168 _ ?side1 ?side2 A27.out).mono ?_); (case side1 => repeat (first | exact (Kd.C_below HR167.out HB.out) | (with_reducible refine Kd.C_alloc ?_ _) | (with_reducible refine Kd.C_drewN ?_ _) | (with_reducible refine Kd.C_drew ?_))); (case side2 => exact HC167.out); rintro e w35 ⟨rfl, hb⟩; refine ⟨_, rfl, ?_⟩; have n0_ := Aside0.mk (Kd.R_below (by (with_reducible repeat (first | apply Kd.R_alloc | apply Kd.R_drewN | apply Kd.R_drew)); exact HO163.out) hb); have n1_ := Aside0.mk (blk_below (g := gb151) (o := .cells #[.int .i64 0, .bool false, .string (⟨#[]⟩ : ByteArray), .slice none 0 0] 32 (0, 0)) (by (with_reducible repeat (first | refine blk_drewN ?_ _ | refine blk_drew ?_ | refine blk_alloc ?_ _)); exact BK151.out) hb); have n2_ := Aside0.mk (blk_below (g := gb155) (o := .cells #[.int .i64 ((rd_T29 l0 0).f1), .bool ((rd_T29 l0 0).f2), .string ((rd_T29 l0 0).f3), .slice Ao30 t160.length co30] 32 (0, 0)) (by (with_reducible repeat (first | refine blk_drewN ?_ _ | refine blk_drew ?_ | refine blk_alloc ?_ _)); exact BK155.out) hb); have n3_ := Aside0.mk (below_step (by repeat (first | (with_reducible first | exact HB.out | apply below_alloc | apply pw_below_drewN | apply below_drew1 | refine below_set ?_ GE151.out | refine below_set ?_ GE155.out) | exact HB.out)) hb); clear HO163; clear BK151; clear BK155; clear HB; have HO163 := n0_; have BK151 := n1_; have BK155 := n2_; have HB := n3_; clear n0_ n1_ n2_ n3_; (try clear hb); (try clear hb2); (try clear hk); (try clear hi); have hcz36_0 : w35.cell? ⟨gb151, 0, none⟩ = some (.int .i64 0) := (blk_cell BK151.out 0).trans rfl; have hcz36_1 : w35.cell? ⟨gb151, 1, none⟩ = some (.bool false) := (blk_cell BK151.out 1).trans rfl; have hcz36_2 : w35.cell? ⟨gb151, 2, none⟩ = some (.string (⟨#[]⟩ : ByteArray)) := (blk_cell BK151.out 2).trans rfl; have hcz36_3 : w35.cell? ⟨gb151, 3, none⟩ = some (.slice none 0 0) := (blk_cell BK151.out 3).trans rfl; have hfz36_0 := blk_frozen BK151.out 0; have hfz36_1 := blk_frozen BK151.out 1; have hfz36_2 := blk_frozen BK151.out 2; have hfz36_3 := blk_frozen BK151.out 3))
           refine bodyPost_ret (results_ctt rfl _ _ gb151 32 #[.int .i64 0, .bool false, .string (⟨#[]⟩ : ByteArray), .slice none 0 0] (0, 0) _ rfl (by (with_reducible repeat (first | refine blk_drewN ?_ _ | refine blk_drew ?_ | refine blk_alloc ?_ _)); refine blk_put (cs := #[.int .i64 0, .bool false, .string (⟨#[]⟩ : ByteArray), .slice none 0 0]) ?_ 3 _ rfl; (with_reducible repeat (first | refine blk_drewN ?_ _ | refine blk_drew ?_ | refine blk_alloc ?_ _)); refine blk_put (cs := #[.int .i64 0, .bool false, .string (⟨#[]⟩ : ByteArray), .slice none 0 0]) ?_ 2 _ rfl; (with_reducible repeat (first | refine blk_drewN ?_ _ | refine blk_drew ?_ | refine blk_alloc ?_ _)); refine blk_put (cs := #[.int .i64 0, .bool false, .string (⟨#[]⟩ : ByteArray), .slice none 0 0]) ?_ 1 _ rfl; (with_reducible repeat (first | refine blk_drewN ?_ _ | refine blk_drew ?_ | refine blk_alloc ?_ _)); refine blk_put (cs := #[.int .i64 0, .bool false, .string (⟨#[]⟩ : ByteArray), .slice none 0 0]) ?_ 0 _ rfl; (with_reducible repeat (first | refine blk_drewN ?_ _ | refine blk_drew ?_ | refine blk_alloc ?_ _)); exact BK151.out) Tryd.underlying32 rfl (by kernel_rfl)) rfl ?_
           exact ⟨_, by first | rfl | (simp [errW_none, errW_some] <;> rfl) | (simp [*, errW_none, errW_some] <;> rfl), by first | exact Kd.R_nil _ _ _ _ _ | exact Kd.N_nil _ _ _ _ _ | exact Kd.V_nil _ _ _ _ _ | exact Kd.Q_nil _ _ _ _ _ | exact Kd.S_nil _ _ _ _ _, by repeat (first | (with_reducible first | exact HB.out | apply below_alloc | apply pw_below_drewN | apply below_drew1 | refine below_set ?_ GE151.out | refine below_set ?_ GE155.out) | exact HB.out)⟩
          ·rw [if_neg c28] at H
           have c28b0 : decide (t168 < (l0.length : Int)) = false := decide_eq_false c28
           clear c28
           simp only [Option.some.injEq, Prod.mk.injEq] at H
           obtain ⟨rfl, rfl, rfl, rfl, rfl, rfl⟩ := H
           have p159 : 0 ≤ (0 : Int) := (by omega)
           have q159 : 0 < (l0.length : Int) := of_decide_eq_true (by first | (with_reducible assumption) | assumption)
           obtain ⟨ad159, e159, hx159_0, hx159_1, hx159_2, hx159_3⟩ := at_T29 HR0.out 0 p159 q159
           obtain rfl : ad152 = ad159 := (by injection e159)
           have qi159 : (0 < l0.length) = True := eq_true (by omega)
           (try rw [show ((0 : Int)).toNat = 0 from rfl] at hx159_0)
           (try rw [show 0 * 4 = 0 from rfl] at hx159_0)
           (try rw [Addr.add_zero'] at hx159_0)
           (try rw [show ((0 : Int)).toNat = 0 from rfl] at hx159_1)
           (try rw [show 0 * 4 = 0 from rfl] at hx159_1)
           (try rw [Addr.add_zero'] at hx159_1)
           (try rw [show ((0 : Int)).toNat = 0 from rfl] at hx159_2)
           (try rw [show 0 * 4 = 0 from rfl] at hx159_2)
           (try rw [Addr.add_zero'] at hx159_2)
           (try rw [show ((0 : Int)).toNat = 0 from rfl] at hx159_3)
           (try rw [show 0 * 4 = 0 from rfl] at hx159_3)
           (try rw [Addr.add_zero'] at hx159_3)
           replace hx159_0 := (HB.out.cell (World.block_lt_of_cell? w _ hx159_0)).trans hx159_0
           replace hx159_1 := (HB.out.cell (World.block_lt_of_cell? w _ hx159_1)).trans hx159_1
           replace hx159_2 := (HB.out.cell (World.block_lt_of_cell? w _ hx159_2)).trans hx159_2
           replace hx159_3 := (HB.out.cell (World.block_lt_of_cell? w _ hx159_3)).trans hx159_3
           replace p159 := eq_true p159
           replace q159 := eq_true q159
           go_wp2_with (first | ((with_reducible refine gate_callee (f := 33) rfl ?_); refine goesL_ (some 49) rfl rfl Tryd.func33 (by kernel_rfl) rfl #[.slice (some ad152) l0.length c0, .int .i64 1, .slice none 0 0] rfl (by (try simp only [List.map_toArray, List.map_cons, List.map_nil]); first | done | rfl | (simp only [List.length_drop, List.length_take]; rfl)) ?_; (refine (depotref06_gather.calls kj6 _ _ l0 1 _ _ ([] : List ByteArray) t160 t161 _ ?side1 ?side2 ?side3 ?side4 A24.out).mono ?_); (case side1 => repeat (first | exact (Kd.C_below HR0.out HB.out) | (with_reducible refine Kd.C_alloc ?_ _) | (with_reducible refine Kd.C_drewN ?_ _) | (with_reducible refine Kd.C_drew ?_))); (case side2 => exact HC0.out); (case side3 => exact Kd.C_nil _ _); (case side4 => exact Nat.le_refl _); rintro e w37 ⟨v162, rfl, ho0, hb⟩; refine ⟨_, rfl, ?_⟩; have n0_ := Aside0.mk (Kd.R_lower ho0 (below_size (by repeat (first | (with_reducible first | exact HB.out | apply below_alloc | apply pw_below_drewN | apply below_drew1 | refine below_set ?_ GE151.out | refine below_set ?_ GE155.out) | exact HB.out)))); have n1_ := Aside0.mk (blk_below (g := gb151) (o := .cells #[.int .i64 0, .bool false, .string (⟨#[]⟩ : ByteArray), .slice none 0 0] 32 (0, 0)) (by (with_reducible repeat (first | refine blk_drewN ?_ _ | refine blk_drew ?_ | refine blk_alloc ?_ _)); exact BK151.out) hb); have n2_ := Aside0.mk (blk_below (g := gb155) (o := .cells #[.int .i64 ((rd_T29 l0 0).f1), .bool ((rd_T29 l0 0).f2), .string ((rd_T29 l0 0).f3), .slice none 0 0] 32 (0, 0)) (by (with_reducible repeat (first | refine blk_drewN ?_ _ | refine blk_drew ?_ | refine blk_alloc ?_ _)); exact BK155.out) hb); have n3_ := Aside0.mk (below_step (by repeat (first | (with_reducible first | exact HB.out | apply below_alloc | apply pw_below_drewN | apply below_drew1 | refine below_set ?_ GE151.out | refine below_set ?_ GE155.out) | exact HB.out)) hb); clear BK151; clear BK155; clear HB; have HO163 := n0_; have BK151 := n1_; have BK155 := n2_; have HB := n3_; clear n0_ n1_ n2_ n3_; (try clear hb); (try clear hb2); (try clear hk); (try clear hi); (try clear ho0); obtain ⟨Ao38, co38, eo38⟩ := Kd.R_slice HO163.out; subst eo38; have hnb39 := NB155_151.out; have hnc39 := NB151_155.out; have hcz40_0 : w37.cell? ⟨gb155, 0, none⟩ = some (.int .i64 ((rd_T29 l0 0).f1)) := (blk_cell BK155.out 0).trans rfl; have hcz40_1 : w37.cell? ⟨gb155, 1, none⟩ = some (.bool ((rd_T29 l0 0).f2)) := (blk_cell BK155.out 1).trans rfl; have hcz40_2 : w37.cell? ⟨gb155, 2, none⟩ = some (.string ((rd_T29 l0 0).f3)) := (blk_cell BK155.out 2).trans rfl; have hcz40_3 : w37.cell? ⟨gb155, 3, none⟩ = some (.slice none 0 0) := (blk_cell BK155.out 3).trans rfl; have hfz40_0 := blk_frozen BK155.out 0; have hfz40_1 := blk_frozen BK155.out 1; have hfz40_2 := blk_frozen BK155.out 2; have hfz40_3 := blk_frozen BK155.out 3) | ((with_reducible refine gate_store (t := 30) (p := 52) rfl ?_); refine store_event (t := 30) (p := 52) (v := ?vo_w41) (w1 := (w37.setCell ⟨gb155, 3, none⟩ (.slice Ao38 t160.length co38))) ?hg ?ho ?hn ?hr ?_; (case ho => rfl); (case hg => rfl); (case hn => rfl); (case hr => first | (go_simp; done) | (go_simp; rfl)); intro w41 hw; have n0_ : Aside0 (Kd.R k63 63 w41 w.heap.size (fun _ => True) (.slice Ao38 t160.length co38) t160) := ⟨(by rw [hw]; exact (by (with_reducible repeat (first | apply Kd.R_alloc | apply Kd.R_drewN | apply Kd.R_drew)); exact Kd.R_mono (Kd.R_far (p := ⟨gb155, 3, none⟩) (Kd.R_types HO163.out BK155.out (by decide)) (fun _ hk => hk.2) (.slice Ao38 t160.length co38)) (fun _ hk => trivial)))⟩; have n1_ : Aside0 (w41.heap[gb151]? = some (.cells #[.int .i64 0, .bool false, .string (⟨#[]⟩ : ByteArray), .slice none 0 0] 32 (0, 0))) := ⟨(by rw [hw]; exact (by (with_reducible repeat (first | refine blk_drewN ?_ _ | refine blk_drew ?_ | refine blk_alloc ?_ _)); refine blk_far ?_ NB151_155.out _; (with_reducible repeat (first | refine blk_drewN ?_ _ | refine blk_drew ?_ | refine blk_alloc ?_ _)); exact BK151.out))⟩; have n2_ : Aside0 (w41.heap[gb155]? = some (.cells #[.int .i64 ((rd_T29 l0 0).f1), .bool ((rd_T29 l0 0).f2), .string ((rd_T29 l0 0).f3), .slice Ao38 t160.length co38] 32 (0, 0))) := ⟨(by rw [hw]; exact (by (with_reducible repeat (first | refine blk_drewN ?_ _ | refine blk_drew ?_ | refine blk_alloc ?_ _)); refine blk_put (cs := #[.int .i64 ((rd_T29 l0 0).f1), .bool ((rd_T29 l0 0).f2), .string ((rd_T29 l0 0).f3), .slice none 0 0]) ?_ 3 _ rfl; (with_reducible repeat (first | refine blk_drewN ?_ _ | refine blk_drew ?_ | refine blk_alloc ?_ _)); exact BK155.out))⟩; have n3_ : Aside0 (Below w.heap.size w w41) := ⟨(by rw [hw]; exact (by repeat (first | (with_reducible first | exact HB.out | apply below_alloc | apply pw_below_drewN | apply below_drew1 | refine below_set ?_ GE151.out | refine below_set ?_ GE155.out) | exact HB.out)))⟩; clear hw; clear HO163; clear BK151; clear BK155; clear HB; have HO163 := n0_; have BK151 := n1_; have BK155 := n2_; have HB := n3_; clear n0_ n1_ n2_ n3_; have q42 : (t161 : Int) ≤ ((l0.length : Int) : Int) := of_decide_eq_true (by first | (with_reducible assumption) | assumption); obtain ⟨i042, hi042, _, hsz42, _⟩ := info_parts info29; have hroom42 : l0.length ≤ c0 := HC0.out; have hC42 : Kd.C k29 _ (some ad152) l0.length l0 := HR0.out; have hcut42 := cut_to (P := Tryd.prog) 24 29 .i64 Tryd.underlying24 hi042 (some ad152) l0.length c0 t161 (of_decide_eq_true (by first | (with_reducible assumption) | assumption)) q42 hroom42; have hr42 := Kd.C_take (m := (t161 : Int).toNat) hC42 (by omega); have hy42 : y164.length = (t161 : Int).toNat := (by rw [Ny164.out, List.length_take]; omega); rw [← Ny164.out] at hr42; rw [← hy42] at hcut42; have HR167 := Aside0.mk hr42; have HC167 := Aside0.mk (show y164.length ≤ c0 from by omega); clear hr42 hC42 hroom42 hi042 hsz42; have KY42 := Aside0.mk hy42; clear hy42; replace q42 := eq_true q42) | ((with_reducible refine gate_callee (f := 34) rfl ?_); refine goesL_ (some 56) rfl rfl Tryd.func34 (by kernel_rfl) rfl #[.slice (some ad152) y164.length c0] rfl (by (try simp only [List.map_toArray, List.map_cons, List.map_nil]); first | done | rfl | (simp only [List.length_drop, List.length_take]; rfl)) ?_; (with_reducible refine (depotref06_fits.calls kj6 _ _ y164 t168 _ ?side1 ?side2 A27.out).mono ?_); (case side1 => repeat (first | exact (Kd.C_below HR167.out HB.out) | (with_reducible refine Kd.C_alloc ?_ _) | (with_reducible refine Kd.C_drewN ?_ _) | (with_reducible refine Kd.C_drew ?_))); (case side2 => exact HC167.out); rintro e w43 ⟨rfl, hb⟩; refine ⟨_, rfl, ?_⟩; have n0_ := Aside0.mk (Kd.R_below (by (with_reducible repeat (first | apply Kd.R_alloc | apply Kd.R_drewN | apply Kd.R_drew)); exact HO163.out) hb); have n1_ := Aside0.mk (blk_below (g := gb151) (o := .cells #[.int .i64 0, .bool false, .string (⟨#[]⟩ : ByteArray), .slice none 0 0] 32 (0, 0)) (by (with_reducible repeat (first | refine blk_drewN ?_ _ | refine blk_drew ?_ | refine blk_alloc ?_ _)); exact BK151.out) hb); have n2_ := Aside0.mk (blk_below (g := gb155) (o := .cells #[.int .i64 ((rd_T29 l0 0).f1), .bool ((rd_T29 l0 0).f2), .string ((rd_T29 l0 0).f3), .slice Ao38 t160.length co38] 32 (0, 0)) (by (with_reducible repeat (first | refine blk_drewN ?_ _ | refine blk_drew ?_ | refine blk_alloc ?_ _)); exact BK155.out) hb); have n3_ := Aside0.mk (below_step (by repeat (first | (with_reducible first | exact HB.out | apply below_alloc | apply pw_below_drewN | apply below_drew1 | refine below_set ?_ GE151.out | refine below_set ?_ GE155.out) | exact HB.out)) hb); clear HO163; clear BK151; clear BK155; clear HB; have HO163 := n0_; have BK151 := n1_; have BK155 := n2_; have HB := n3_; clear n0_ n1_ n2_ n3_; (try clear hb); (try clear hb2); (try clear hk); (try clear hi); have hcz44_0 : w43.cell? ⟨gb155, 0, none⟩ = some (.int .i64 ((rd_T29 l0 0).f1)) := (blk_cell BK155.out 0).trans rfl; have hcz44_1 : w43.cell? ⟨gb155, 1, none⟩ = some (.bool ((rd_T29 l0 0).f2)) := (blk_cell BK155.out 1).trans rfl; have hcz44_2 : w43.cell? ⟨gb155, 2, none⟩ = some (.string ((rd_T29 l0 0).f3)) := (blk_cell BK155.out 2).trans rfl; have hcz44_3 : w43.cell? ⟨gb155, 3, none⟩ = some (.slice Ao38 t160.length co38) := (blk_cell BK155.out 3).trans rfl; have hfz44_0 := blk_frozen BK155.out 0; have hfz44_1 := blk_frozen BK155.out 1; have hfz44_2 := blk_frozen BK155.out 2; have hfz44_3 := blk_frozen BK155.out 3; have hcz45_0 : w43.cell? ⟨gb151, 0, none⟩ = some (.int .i64 0) := (blk_cell BK151.out 0).trans rfl; have hcz45_1 : w43.cell? ⟨gb151, 1, none⟩ = some (.bool false) := (blk_cell BK151.out 1).trans rfl; have hcz45_2 : w43.cell? ⟨gb151, 2, none⟩ = some (.string (⟨#[]⟩ : ByteArray)) := (blk_cell BK151.out 2).trans rfl; have hcz45_3 : w43.cell? ⟨gb151, 3, none⟩ = some (.slice none 0 0) := (blk_cell BK151.out 3).trans rfl; have hfz45_0 := blk_frozen BK151.out 0; have hfz45_1 := blk_frozen BK151.out 1; have hfz45_2 := blk_frozen BK151.out 2; have hfz45_3 := blk_frozen BK151.out 3))
           refine bodyPost_ret (results_ctt rfl _ _ gb151 32 #[.int .i64 ((rd_T29 l0 0).f1), .bool ((rd_T29 l0 0).f2), .string ((rd_T29 l0 0).f3), .slice Ao38 t160.length co38] (0, 0) _ rfl (by (with_reducible repeat (first | refine blk_drewN ?_ _ | refine blk_drew ?_ | refine blk_alloc ?_ _)); refine blk_put (cs := #[.int .i64 ((rd_T29 l0 0).f1), .bool ((rd_T29 l0 0).f2), .string ((rd_T29 l0 0).f3), .slice none 0 0]) ?_ 3 _ rfl; (with_reducible repeat (first | refine blk_drewN ?_ _ | refine blk_drew ?_ | refine blk_alloc ?_ _)); refine blk_put (cs := #[.int .i64 ((rd_T29 l0 0).f1), .bool ((rd_T29 l0 0).f2), .string (⟨#[]⟩ : ByteArray), .slice none 0 0]) ?_ 2 _ rfl; (with_reducible repeat (first | refine blk_drewN ?_ _ | refine blk_drew ?_ | refine blk_alloc ?_ _)); refine blk_put (cs := #[.int .i64 ((rd_T29 l0 0).f1), .bool false, .string (⟨#[]⟩ : ByteArray), .slice none 0 0]) ?_ 1 _ rfl; (with_reducible repeat (first | refine blk_drewN ?_ _ | refine blk_drew ?_ | refine blk_alloc ?_ _)); refine blk_put (cs := #[.int .i64 0, .bool false, .string (⟨#[]⟩ : ByteArray), .slice none 0 0]) ?_ 0 _ rfl; (with_reducible repeat (first | refine blk_drewN ?_ _ | refine blk_drew ?_ | refine blk_alloc ?_ _)); exact BK151.out) Tryd.underlying32 rfl (by kernel_rfl)) rfl ?_
           exact ⟨_, by first | rfl | (simp [errW_none, errW_some] <;> rfl) | (simp [*, errW_none, errW_some] <;> rfl), by (with_reducible repeat (first | apply Kd.R_alloc | apply Kd.R_drewN | apply Kd.R_drew)); exact Kd.R_mono (Kd.R_far (p := ⟨gb151, 3, none⟩) (Kd.R_far (p := ⟨gb151, 2, none⟩) (Kd.R_far (p := ⟨gb151, 1, none⟩) (Kd.R_far (p := ⟨gb151, 0, none⟩) (Kd.R_types HO163.out BK151.out (by decide)) (fun _ hk => hk.2) (.int .i64 ((rd_T29 l0 0).f1))) (fun _ hk => hk.2) (.bool ((rd_T29 l0 0).f2))) (fun _ hk => hk.2) (.string ((rd_T29 l0 0).f3))) (fun _ hk => hk.2) (.slice Ao38 t160.length co38)) (fun _ hk => trivial), by repeat (first | (with_reducible first | exact HB.out | apply below_alloc | apply pw_below_drewN | apply below_drew1 | refine below_set ?_ GE151.out | refine below_set ?_ GE155.out) | exact HB.out)⟩
         ·rw [if_neg c26] at H
          exact absurd H (by simp)
        ·rw [if_neg c25] at H
         exact absurd H (by simp)
       ·rw [if_neg c23] at H
        have c23b0 : (((rd_T29 l0 0).f1) == 3) = false := beq_eq_false_iff_ne.mpr c23
        have c23b1 : (((rd_T29 l0 0).f1) != 3) = true := bne_iff_ne.mpr c23
        by_cases c46 : 1 ≤ (l0.length : Int)
        ·rw [if_pos c46] at H
         have c46b0 := eq_true c46
         have c46b1 : decide (1 ≤ (l0.length : Int)) = true := decide_eq_true c46
         clear c46
         obtain ⟨y169, hy169⟩ : ∃ y_ : List (S29), y_ = (l0.take 1) := ⟨_, rfl⟩
         replace H : ((depotref06_fits.f kj6 y169).bind fun t173 => (if t173 < (l0.length : Int) then (some (0, false, (⟨#[]⟩ : ByteArray), ([] : List (S63)), 64, t173)) else (some (((rd_T29 l0 0).f1), ((rd_T29 l0 0).f2), ((rd_T29 l0 0).f3), ([] : List (S63)), 0, 0)))) = some (r1, r2, r3, r4, r5, r6) := by first | (rw [hy169]; with_reducible exact H) | (have H2_ := (Option.bind_some _ _).symm.trans H; rw [hy169]; with_reducible exact H2_) | (have H2_ := (Option.bind_some _ _).symm.trans H; with_reducible exact H2_) | with_reducible exact H | (rw [hy169]; exact H) | exact H
         have Ny169 := Aside0.mk hy169
         clear hy169
         replace H := Option.bind_eq_some_iff.mp H
         obtain ⟨t173, A470, H⟩ := H
         replace H : (if t173 < (l0.length : Int) then (some (0, false, (⟨#[]⟩ : ByteArray), ([] : List (S63)), 64, t173)) else (some (((rd_T29 l0 0).f1), ((rd_T29 l0 0).f2), ((rd_T29 l0 0).f3), ([] : List (S63)), 0, 0))) = some (r1, r2, r3, r4, r5, r6) := H
         have A47 := Aside0.mk A470
         clear A470
         by_cases c48 : t173 < (l0.length : Int)
         ·rw [if_pos c48] at H
          have c48b0 : decide (t173 < (l0.length : Int)) = true := decide_eq_true c48
          clear c48
          simp only [Option.some.injEq, Prod.mk.injEq] at H
          obtain ⟨rfl, rfl, rfl, rfl, rfl, rfl⟩ := H
          have p159 : 0 ≤ (0 : Int) := (by omega)
          have q159 : 0 < (l0.length : Int) := of_decide_eq_true (by first | (with_reducible assumption) | assumption)
          obtain ⟨ad159, e159, hx159_0, hx159_1, hx159_2, hx159_3⟩ := at_T29 HR0.out 0 p159 q159
          obtain rfl : ad152 = ad159 := (by injection e159)
          have qi159 : (0 < l0.length) = True := eq_true (by omega)
          (try rw [show ((0 : Int)).toNat = 0 from rfl] at hx159_0)
          (try rw [show 0 * 4 = 0 from rfl] at hx159_0)
          (try rw [Addr.add_zero'] at hx159_0)
          (try rw [show ((0 : Int)).toNat = 0 from rfl] at hx159_1)
          (try rw [show 0 * 4 = 0 from rfl] at hx159_1)
          (try rw [Addr.add_zero'] at hx159_1)
          (try rw [show ((0 : Int)).toNat = 0 from rfl] at hx159_2)
          (try rw [show 0 * 4 = 0 from rfl] at hx159_2)
          (try rw [Addr.add_zero'] at hx159_2)
          (try rw [show ((0 : Int)).toNat = 0 from rfl] at hx159_3)
          (try rw [show 0 * 4 = 0 from rfl] at hx159_3)
          (try rw [Addr.add_zero'] at hx159_3)
          replace hx159_0 := (HB.out.cell (World.block_lt_of_cell? w _ hx159_0)).trans hx159_0
          replace hx159_1 := (HB.out.cell (World.block_lt_of_cell? w _ hx159_1)).trans hx159_1
          replace hx159_2 := (HB.out.cell (World.block_lt_of_cell? w _ hx159_2)).trans hx159_2
          replace hx159_3 := (HB.out.cell (World.block_lt_of_cell? w _ hx159_3)).trans hx159_3
          replace p159 := eq_true p159
          replace q159 := eq_true q159
          have q49 : (1 : Int) ≤ ((l0.length : Int) : Int) := of_decide_eq_true (by first | (with_reducible assumption) | assumption)
          obtain ⟨i049, hi049, _, hsz49, _⟩ := info_parts info29
          have hroom49 : l0.length ≤ c0 := HC0.out
          have hC49 : Kd.C k29 _ (some ad152) l0.length l0 := HR0.out
          have hcut49 := cut_to (P := Tryd.prog) 24 29 .i64 Tryd.underlying24 hi049 (some ad152) l0.length c0 1 (by omega) q49 hroom49
          have hr49 := Kd.C_take (m := 1) hC49 (by omega)
          have hy49 : y169.length = (1 : Int).toNat := (by rw [Ny169.out, List.length_take]; omega)
          rw [← Ny169.out] at hr49
          rw [← hy49] at hcut49
          have HR172 := Aside0.mk hr49
          have HC172 := Aside0.mk (show y169.length ≤ c0 from by omega)
          clear hr49 hC49 hroom49 hi049 hsz49
          have KY49 := Aside0.mk hy49
          clear hy49
          replace q49 := eq_true q49
          go_wp2_with (first | ((with_reducible refine gate_callee (f := 34) rfl ?_); refine goesL_ (some 56) rfl rfl Tryd.func34 (by kernel_rfl) rfl #[.slice (some ad152) y169.length c0] rfl (by (try simp only [List.map_toArray, List.map_cons, List.map_nil]); first | done | rfl | (simp only [List.length_drop, List.length_take]; rfl)) ?_; (with_reducible refine (depotref06_fits.calls kj6 _ _ y169 t173 _ ?side1 ?side2 A47.out).mono ?_); (case side1 => repeat (first | exact (Kd.C_below HR172.out HB.out) | (with_reducible refine Kd.C_alloc ?_ _) | (with_reducible refine Kd.C_drewN ?_ _) | (with_reducible refine Kd.C_drew ?_))); (case side2 => exact HC172.out); rintro e w50 ⟨rfl, hb⟩; refine ⟨_, rfl, ?_⟩; have n0_ := Aside0.mk (blk_below (g := gb151) (o := .cells #[.int .i64 0, .bool false, .string (⟨#[]⟩ : ByteArray), .slice none 0 0] 32 (0, 0)) (by (with_reducible repeat (first | refine blk_drewN ?_ _ | refine blk_drew ?_ | refine blk_alloc ?_ _)); exact BK151.out) hb); have n1_ := Aside0.mk (blk_below (g := gb155) (o := .cells #[.int .i64 ((rd_T29 l0 0).f1), .bool ((rd_T29 l0 0).f2), .string ((rd_T29 l0 0).f3), .slice none 0 0] 32 (0, 0)) (by (with_reducible repeat (first | refine blk_drewN ?_ _ | refine blk_drew ?_ | refine blk_alloc ?_ _)); exact BK155.out) hb); have n2_ := Aside0.mk (below_step (by repeat (first | (with_reducible first | exact HB.out | apply below_alloc | apply pw_below_drewN | apply below_drew1 | refine below_set ?_ GE151.out | refine below_set ?_ GE155.out) | exact HB.out)) hb); clear BK151; clear BK155; clear HB; have BK151 := n0_; have BK155 := n1_; have HB := n2_; clear n0_ n1_ n2_; (try clear hb); (try clear hb2); (try clear hk); (try clear hi); have hnb51 := NB151_155.out; have hnc51 := NB155_151.out; have hcz52_0 : w50.cell? ⟨gb151, 0, none⟩ = some (.int .i64 0) := (blk_cell BK151.out 0).trans rfl; have hcz52_1 : w50.cell? ⟨gb151, 1, none⟩ = some (.bool false) := (blk_cell BK151.out 1).trans rfl; have hcz52_2 : w50.cell? ⟨gb151, 2, none⟩ = some (.string (⟨#[]⟩ : ByteArray)) := (blk_cell BK151.out 2).trans rfl; have hcz52_3 : w50.cell? ⟨gb151, 3, none⟩ = some (.slice none 0 0) := (blk_cell BK151.out 3).trans rfl; have hfz52_0 := blk_frozen BK151.out 0; have hfz52_1 := blk_frozen BK151.out 1; have hfz52_2 := blk_frozen BK151.out 2; have hfz52_3 := blk_frozen BK151.out 3))
          refine bodyPost_ret (results_ctt rfl _ _ gb151 32 #[.int .i64 0, .bool false, .string (⟨#[]⟩ : ByteArray), .slice none 0 0] (0, 0) _ rfl (by (with_reducible repeat (first | refine blk_drewN ?_ _ | refine blk_drew ?_ | refine blk_alloc ?_ _)); refine blk_put (cs := #[.int .i64 0, .bool false, .string (⟨#[]⟩ : ByteArray), .slice none 0 0]) ?_ 3 _ rfl; (with_reducible repeat (first | refine blk_drewN ?_ _ | refine blk_drew ?_ | refine blk_alloc ?_ _)); refine blk_put (cs := #[.int .i64 0, .bool false, .string (⟨#[]⟩ : ByteArray), .slice none 0 0]) ?_ 2 _ rfl; (with_reducible repeat (first | refine blk_drewN ?_ _ | refine blk_drew ?_ | refine blk_alloc ?_ _)); refine blk_put (cs := #[.int .i64 0, .bool false, .string (⟨#[]⟩ : ByteArray), .slice none 0 0]) ?_ 1 _ rfl; (with_reducible repeat (first | refine blk_drewN ?_ _ | refine blk_drew ?_ | refine blk_alloc ?_ _)); refine blk_put (cs := #[.int .i64 0, .bool false, .string (⟨#[]⟩ : ByteArray), .slice none 0 0]) ?_ 0 _ rfl; (with_reducible repeat (first | refine blk_drewN ?_ _ | refine blk_drew ?_ | refine blk_alloc ?_ _)); exact BK151.out) Tryd.underlying32 rfl (by kernel_rfl)) rfl ?_
          exact ⟨_, by first | rfl | (simp [errW_none, errW_some] <;> rfl) | (simp [*, errW_none, errW_some] <;> rfl), by first | exact Kd.R_nil _ _ _ _ _ | exact Kd.N_nil _ _ _ _ _ | exact Kd.V_nil _ _ _ _ _ | exact Kd.Q_nil _ _ _ _ _ | exact Kd.S_nil _ _ _ _ _, by repeat (first | (with_reducible first | exact HB.out | apply below_alloc | apply pw_below_drewN | apply below_drew1 | refine below_set ?_ GE151.out | refine below_set ?_ GE155.out) | exact HB.out)⟩
         ·rw [if_neg c48] at H
          have c48b0 : decide (t173 < (l0.length : Int)) = false := decide_eq_false c48
          clear c48
          simp only [Option.some.injEq, Prod.mk.injEq] at H
          obtain ⟨rfl, rfl, rfl, rfl, rfl, rfl⟩ := H
          have p159 : 0 ≤ (0 : Int) := (by omega)
          have q159 : 0 < (l0.length : Int) := of_decide_eq_true (by first | (with_reducible assumption) | assumption)
          obtain ⟨ad159, e159, hx159_0, hx159_1, hx159_2, hx159_3⟩ := at_T29 HR0.out 0 p159 q159
          obtain rfl : ad152 = ad159 := (by injection e159)
          have qi159 : (0 < l0.length) = True := eq_true (by omega)
          (try rw [show ((0 : Int)).toNat = 0 from rfl] at hx159_0)
          (try rw [show 0 * 4 = 0 from rfl] at hx159_0)
          (try rw [Addr.add_zero'] at hx159_0)
          (try rw [show ((0 : Int)).toNat = 0 from rfl] at hx159_1)
          (try rw [show 0 * 4 = 0 from rfl] at hx159_1)
          (try rw [Addr.add_zero'] at hx159_1)
          (try rw [show ((0 : Int)).toNat = 0 from rfl] at hx159_2)
          (try rw [show 0 * 4 = 0 from rfl] at hx159_2)
          (try rw [Addr.add_zero'] at hx159_2)
          (try rw [show ((0 : Int)).toNat = 0 from rfl] at hx159_3)
          (try rw [show 0 * 4 = 0 from rfl] at hx159_3)
          (try rw [Addr.add_zero'] at hx159_3)
          replace hx159_0 := (HB.out.cell (World.block_lt_of_cell? w _ hx159_0)).trans hx159_0
          replace hx159_1 := (HB.out.cell (World.block_lt_of_cell? w _ hx159_1)).trans hx159_1
          replace hx159_2 := (HB.out.cell (World.block_lt_of_cell? w _ hx159_2)).trans hx159_2
          replace hx159_3 := (HB.out.cell (World.block_lt_of_cell? w _ hx159_3)).trans hx159_3
          replace p159 := eq_true p159
          replace q159 := eq_true q159
          have q53 : (1 : Int) ≤ ((l0.length : Int) : Int) := of_decide_eq_true (by first | (with_reducible assumption) | assumption)
          obtain ⟨i053, hi053, _, hsz53, _⟩ := info_parts info29
          have hroom53 : l0.length ≤ c0 := HC0.out
          have hC53 : Kd.C k29 _ (some ad152) l0.length l0 := HR0.out
          have hcut53 := cut_to (P := Tryd.prog) 24 29 .i64 Tryd.underlying24 hi053 (some ad152) l0.length c0 1 (by omega) q53 hroom53
          have hr53 := Kd.C_take (m := 1) hC53 (by omega)
          have hy53 : y169.length = (1 : Int).toNat := (by rw [Ny169.out, List.length_take]; omega)
          rw [← Ny169.out] at hr53
          rw [← hy53] at hcut53
          have HR172 := Aside0.mk hr53
          have HC172 := Aside0.mk (show y169.length ≤ c0 from by omega)
          clear hr53 hC53 hroom53 hi053 hsz53
          have KY53 := Aside0.mk hy53
          clear hy53
          replace q53 := eq_true q53
          go_wp2_with (first | ((with_reducible refine gate_callee (f := 34) rfl ?_); refine goesL_ (some 56) rfl rfl Tryd.func34 (by kernel_rfl) rfl #[.slice (some ad152) y169.length c0] rfl (by (try simp only [List.map_toArray, List.map_cons, List.map_nil]); first | done | rfl | (simp only [List.length_drop, List.length_take]; rfl)) ?_; (with_reducible refine (depotref06_fits.calls kj6 _ _ y169 t173 _ ?side1 ?side2 A47.out).mono ?_); (case side1 => repeat (first | exact (Kd.C_below HR172.out HB.out) | (with_reducible refine Kd.C_alloc ?_ _) | (with_reducible refine Kd.C_drewN ?_ _) | (with_reducible refine Kd.C_drew ?_))); (case side2 => exact HC172.out); rintro e w54 ⟨rfl, hb⟩; refine ⟨_, rfl, ?_⟩; have n0_ := Aside0.mk (blk_below (g := gb151) (o := .cells #[.int .i64 0, .bool false, .string (⟨#[]⟩ : ByteArray), .slice none 0 0] 32 (0, 0)) (by (with_reducible repeat (first | refine blk_drewN ?_ _ | refine blk_drew ?_ | refine blk_alloc ?_ _)); exact BK151.out) hb); have n1_ := Aside0.mk (blk_below (g := gb155) (o := .cells #[.int .i64 ((rd_T29 l0 0).f1), .bool ((rd_T29 l0 0).f2), .string ((rd_T29 l0 0).f3), .slice none 0 0] 32 (0, 0)) (by (with_reducible repeat (first | refine blk_drewN ?_ _ | refine blk_drew ?_ | refine blk_alloc ?_ _)); exact BK155.out) hb); have n2_ := Aside0.mk (below_step (by repeat (first | (with_reducible first | exact HB.out | apply below_alloc | apply pw_below_drewN | apply below_drew1 | refine below_set ?_ GE151.out | refine below_set ?_ GE155.out) | exact HB.out)) hb); clear BK151; clear BK155; clear HB; have BK151 := n0_; have BK155 := n1_; have HB := n2_; clear n0_ n1_ n2_; (try clear hb); (try clear hb2); (try clear hk); (try clear hi); have hnb55 := NB155_151.out; have hnc55 := NB151_155.out; have hcz56_0 : w54.cell? ⟨gb155, 0, none⟩ = some (.int .i64 ((rd_T29 l0 0).f1)) := (blk_cell BK155.out 0).trans rfl; have hcz56_1 : w54.cell? ⟨gb155, 1, none⟩ = some (.bool ((rd_T29 l0 0).f2)) := (blk_cell BK155.out 1).trans rfl; have hcz56_2 : w54.cell? ⟨gb155, 2, none⟩ = some (.string ((rd_T29 l0 0).f3)) := (blk_cell BK155.out 2).trans rfl; have hcz56_3 : w54.cell? ⟨gb155, 3, none⟩ = some (.slice none 0 0) := (blk_cell BK155.out 3).trans rfl; have hfz56_0 := blk_frozen BK155.out 0; have hfz56_1 := blk_frozen BK155.out 1; have hfz56_2 := blk_frozen BK155.out 2; have hfz56_3 := blk_frozen BK155.out 3; have hcz57_0 : w54.cell? ⟨gb151, 0, none⟩ = some (.int .i64 0) := (blk_cell BK151.out 0).trans rfl; have hcz57_1 : w54.cell? ⟨gb151, 1, none⟩ = some (.bool false) := (blk_cell BK151.out 1).trans rfl; have hcz57_2 : w54.cell? ⟨gb151, 2, none⟩ = some (.string (⟨#[]⟩ : ByteArray)) := (blk_cell BK151.out 2).trans rfl; have hcz57_3 : w54.cell? ⟨gb151, 3, none⟩ = some (.slice none 0 0) := (blk_cell BK151.out 3).trans rfl; have hfz57_0 := blk_frozen BK151.out 0; have hfz57_1 := blk_frozen BK151.out 1; have hfz57_2 := blk_frozen BK151.out 2; have hfz57_3 := blk_frozen BK151.out 3))
          refine bodyPost_ret (results_ctt rfl _ _ gb151 32 #[.int .i64 ((rd_T29 l0 0).f1), .bool ((rd_T29 l0 0).f2), .string ((rd_T29 l0 0).f3), .slice none 0 0] (0, 0) _ rfl (by (with_reducible repeat (first | refine blk_drewN ?_ _ | refine blk_drew ?_ | refine blk_alloc ?_ _)); refine blk_put (cs := #[.int .i64 ((rd_T29 l0 0).f1), .bool ((rd_T29 l0 0).f2), .string ((rd_T29 l0 0).f3), .slice none 0 0]) ?_ 3 _ rfl; (with_reducible repeat (first | refine blk_drewN ?_ _ | refine blk_drew ?_ | refine blk_alloc ?_ _)); refine blk_put (cs := #[.int .i64 ((rd_T29 l0 0).f1), .bool ((rd_T29 l0 0).f2), .string (⟨#[]⟩ : ByteArray), .slice none 0 0]) ?_ 2 _ rfl; (with_reducible repeat (first | refine blk_drewN ?_ _ | refine blk_drew ?_ | refine blk_alloc ?_ _)); refine blk_put (cs := #[.int .i64 ((rd_T29 l0 0).f1), .bool false, .string (⟨#[]⟩ : ByteArray), .slice none 0 0]) ?_ 1 _ rfl; (with_reducible repeat (first | refine blk_drewN ?_ _ | refine blk_drew ?_ | refine blk_alloc ?_ _)); refine blk_put (cs := #[.int .i64 0, .bool false, .string (⟨#[]⟩ : ByteArray), .slice none 0 0]) ?_ 0 _ rfl; (with_reducible repeat (first | refine blk_drewN ?_ _ | refine blk_drew ?_ | refine blk_alloc ?_ _)); exact BK151.out) Tryd.underlying32 rfl (by kernel_rfl)) rfl ?_
          exact ⟨_, by first | rfl | (simp [errW_none, errW_some] <;> rfl) | (simp [*, errW_none, errW_some] <;> rfl), by first | exact Kd.R_nil _ _ _ _ _ | exact Kd.N_nil _ _ _ _ _ | exact Kd.V_nil _ _ _ _ _ | exact Kd.Q_nil _ _ _ _ _ | exact Kd.S_nil _ _ _ _ _, by repeat (first | (with_reducible first | exact HB.out | apply below_alloc | apply pw_below_drewN | apply below_drew1 | refine below_set ?_ GE151.out | refine below_set ?_ GE155.out) | exact HB.out)⟩
        ·rw [if_neg c46] at H
         exact absurd H (by simp)
      ·rw [if_neg c22] at H
       exact absurd H (by simp)
  ·rw [if_neg c5] at H
   exact absurd H (by simp)
end
end Go.Proofs.YtnemeeidomceiaaDoor.PBTreeBuilds
