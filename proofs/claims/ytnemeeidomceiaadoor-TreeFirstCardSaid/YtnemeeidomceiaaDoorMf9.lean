import Derived.Test.YtnemeeidomceiaaDoorMf0
import Derived.Test.YtnemeeidomceiaaDoorMf1
import Derived.Test.YtnemeeidomceiaaDoorMf2
import Derived.Test.YtnemeeidomceiaaDoorMf5
import Derived.Test.YtnemeeidomceiaaDoorMf6
import Derived.Test.YtnemeeidomceiaaDoorMf8
import Derived.Test.YtnemeeidomceiaaDoorProg
import Derived.Test.YtnemeeidomceiaaDoorWEqStructMf
import Derived.Test.YtnemeeidomceiaaDoorWLast
import Derived.ArgAppend
import Derived.Below
import Derived.BigQuiet
import Derived.Deep.AppendLies
import Derived.Deep.CutBlock
import Derived.Deep.DeepCutAuto
import Derived.Deep.Draws
import Derived.Deep.LoopGhost
import Derived.Deep.OwnRows
import Derived.Deep.QuietTactic
import Derived.Deep.RegionHeld3
import Derived.KernelRfl
import Derived.Laws.BitsLemmas
import Derived.Laws.BytesArg
import Derived.Laws.IdiomCopy
import Derived.Laws.MakeOwn
import Derived.Laws.OwnMore
import Derived.Laws.Rows
import Derived.Laws.Slices
import Derived.Lib.AppendStr
import Derived.Lib.ConvBytes
import Derived.Maps.AppendAt
import Derived.OrdersHeld
import Derived.OwnWalk
import Derived.RowKit
import Derived.RowKit3
import Derived.Tactics
import Derived.WalkKit
import Derived.WideLaws
set_option linter.unusedSimpArgs false
set_option linter.unusedVariables false
section
namespace Go.Proofs.YtnemeeidomceiaaDoor
open Go.RowKit Go.Proofs.YtnemeeidomceiaaDoorW.PrintWords Go.Proofs.YtnemeeidomceiaaDoorW.PrintLast Go.Proofs.YtnemeeidomceiaaDoorW.PrintMore
set_option linter.unusedVariables false
set_option linter.unusedSimpArgs false
theorem meas_ (i n : Nat) (h : i < n) : n - ((i : Int) + 1).toNat < n - ((i : Int)).toNat := by omega
set_option maxHeartbeats 0 in
set_option maxRecDepth 100000 in
theorem build_calls (rows : List OwnRw) (A : Option Addr) (c : Nat) (w : World) (hC : Kd.C k27 w A rows.length rows) (hc : rows.length ≤ c) (hs : RowsOk rows) :
  Calls Tryd.prog 11 #[.slice A rows.length c] w (BuildPost w (buildP (rows.map rowU))) := by
 have HC := Aside0.mk hC
 have HOK := Aside0.mk hs
 obtain ⟨us, hus⟩ : ∃ us, us = rows.map rowU := ⟨_, rfl⟩
 have HUS := Aside0.mk hus
 rw [← hus]
 clear hC hs hus
 by_cases hn : rows.length = 0
 ·have hz : ((rows.length : Int) == 0) = true := by rw [hn]; rfl
  have HN := Aside0.mk hn
  have HRES : Aside0 (buildP us = (zeroT, 50, 0)) := ⟨by rw [HUS.out, List.length_eq_zero_iff.1 hn]; rfl⟩
  clear hn
  go_enter Tryd.func11, Tryd.ntmps11
  go_wp2_with fail
  rw [HRES.out]
  refine bodyPost_ret (v := .tuple #[.agg #[.int .i64 0, .bool false, .string ⟨#[]⟩, .slice none 0 0], .agg #[.int .i64 50, .int .i64 0]]) ?_ rfl ⟨_, rfl, Own.nil _ _ _, below_alloc (below_alloc (Below.refl _ _) _) _⟩
  have HG := (Blk.new w 32 [.int .i64 0, .bool false, .string ⟨#[]⟩, .slice none 0 0]).alloc (.cells #[.int .i64 50, .int .i64 0] 35)
  obtain ⟨z0, z1, z2, z3⟩ := cells4 HG
  have HF := Blk.new' (w.alloc (.cells #[.int .i64 0, .bool false, .string ⟨#[]⟩, .slice none 0 0] 32)) 35 [.int .i64 50, .int .i64 0] (b := w.heap.size + 1) (by simp)
  have z4 := HF.cell 0 _ rfl
  have z5 := HF.cell 1 _ rfl
  simp [results, Tryd.results11, go_sem, z0, z1, z2, z3, z4, z5]
 ·have hz : ((rows.length : Int) == 0) = false := beq_eq_false_iff_ne.mpr (by omega)
  have HN := Aside0.mk hn
  clear hn
  go_enter Tryd.func11, Tryd.ntmps11
  go_wp2_with fail
  obtain ⟨W0, hW0⟩ : ∃ W0, W0 = (w.alloc (.cells #[.int .i64 0, .bool false, .string ⟨#[]⟩, .slice none 0 0] 32)).alloc (.cells #[.int .i64 0, .int .i64 0] 35) := ⟨_, rfl⟩
  have hs0 : W0.heap.size = w.heap.size + 1 + 1 := by rw [hW0]; simp
  obtain ⟨b2, hb2⟩ : ∃ b, b = w.heap.size := ⟨_, rfl⟩
  obtain ⟨b3, hb3⟩ : ∃ b, b = w.heap.size + 1 := ⟨_, rfl⟩
  have R0 : Aside0 (Blk W0 b2 32 [.int .i64 0, .bool false, .string ⟨#[]⟩, .slice none 0 0]) := ⟨by rw [hW0, hb2]; exact (Blk.new w _ [.int .i64 0, .bool false, .string ⟨#[]⟩, .slice none 0 0]).alloc _⟩
  have R1 : Aside0 (Blk W0 b3 35 [.int .i64 0, .int .i64 0]) := ⟨by rw [hW0]; exact Blk.new' _ _ [.int .i64 0, .int .i64 0] (by rw [hb3]; simp)⟩
  have HB0 : Aside0 (Below w.heap.size w W0) := ⟨by rw [hW0]; exact below_alloc (below_alloc (Below.refl _ _) _) _⟩
  have HZ : Aside0 (w.heap.size = b2 ∧ b3 = b2 + 1 ∧ W0.heap.size = b2 + 2) := ⟨by omega⟩
  rw [← hW0, ← hs0, ← hb3, ← hb2]
  clear hW0 hb2 hb3 hs0
  (with_reducible refine (framed_magic W0).mono ?_)
  rintro o W1 ⟨rfl, hb1⟩
  have HB1 := hb1
  clear hb1
  rw [magS_eq]
  go_wp2_with fail
  obtain ⟨W2, hW2⟩ : ∃ W2, W2 = (W1.alloc (.cells #[] 69)).alloc (.cells #[.int .i64 0, .bool false, .string ⟨#[]⟩, .slice none 0 0] 32) := ⟨_, rfl⟩
  obtain ⟨br, hbr⟩ : ∃ b, b = W1.heap.size + 1 := ⟨_, rfl⟩
  rw [← hW2, ← hbr]
  have HM0 : Aside0 (BMem W0 W2 W0.heap.size br initB (.slice (some ⟨W1.heap.size, 0, none⟩) 0 0) (.slice none 0 0) (.slice none 0 0) []) := ⟨by
   have h1 := HB1.out.size
   have h2 : W2.heap.size = W1.heap.size + 1 + 1 := by rw [hW2]; simp
   refine ⟨Nat.le_refl _, by omega, by omega, ?_, Own.nil _ _ _, .nil _ _, rfl, ?_, Kd.R_nil _ _ _ _ _, ?_⟩
   ·rw [hW2]; exact Blk.new' _ _ [.int .i64 0, .bool false, .string ⟨#[]⟩, .slice none 0 0] (by rw [hbr]; simp)
   ·refine ⟨rfl, .inr ⟨W1.heap.size, 0, #[], rfl, h1, ?_, Nat.le_refl _, Nat.zero_le _, rfl, rfl⟩⟩
    rw [hW2]
    exact blk_alloc (heap_alloc_new W1 (.cells #[] 69)) _
   ·rw [hW2]; exact below_alloc (below_alloc HB1.out _) _⟩
  have HS0 : Aside0 (BSaid us 0 initB) := ⟨⟨by
   unfold buildP
   rw [if_neg (fun e => HN.out (by have := congrArg List.length e; rw [HUS.out, List.length_map] at this; exact this)), List.drop_zero]
   rfl, rfl, fun _ => rfl, fun h => by omega⟩⟩
  obtain ⟨ov0, hov0⟩ : ∃ v, v = Value.slice (some ⟨W1.heap.size, 0, none⟩) 0 0 := ⟨_, rfl⟩
  rw [← hov0] at HM0 ⊢
  clear hW2 hbr hov0 HB1
  go_loopw [4, 5, 6, 8, 9, 10, 11, 12, 13, 14, 15, 16, 17, 18, 19, 32] (fun v4 v5 v6 _ _ _ _ _ _ _ _ _ _ _ _ v32 wr => ∃ (i : Nat) (s : BSt) (v : Value) (ps : List Addr), i ≤ rows.length ∧ v32 = .int .i64 i ∧ v4 = .int .i64 s.bytes ∧ Aside0 (BMem W0 wr W0.heap.size br s v5 v6 v ps) ∧ Aside0 (BSaid us i s)) (fun _ _ _ _ _ _ _ _ _ _ _ _ _ _ _ v _ => rows.length - (intOf v).toNat)
  case atStart => exact ⟨0, initB, _, [], Nat.zero_le _, rfl, rfl, HM0, HS0⟩
  case round =>
   obtain ⟨i, s, v, ps, hi, rfl, rfl, HM, HS⟩ := hrel
   by_cases hlt : i < rows.length
   ·obtain ⟨ad, hA, e0, e1, e2, e3⟩ := at_T27 (Kd.C_below HC.out (below_step HB0.out HM.out.below)) (i : Int) (by omega) (by omega)
    subst hA
    simp only [Int.toNat_natCast] at e0 e1 e2 e3
    obtain ⟨r, hr⟩ : ∃ r, r = rd_T27 rows (i : Int) := ⟨_, rfl⟩
    have hrm : rows[i]? = some r := by rw [hr]; simp [rd_T27, hlt]
    have HR : Aside0 (us[i]? = some (rowU r) ∧ r.f0.size ≤ 140737488351232 ∧ r.f3.size ≤ 140737488351232) := ⟨by rw [HUS.out, List.getElem?_map, hrm]; rfl, HOK.out r (List.mem_of_getElem? hrm)⟩
    rw [← hr] at e0 e1 e2 e3
    clear hr hrm
    have hblk := World.block_lt_of_cell? _ _ e0
    have p0 : (0 : Int) ≤ (i : Int) := by omega
    have p1 : (i : Int) < (rows.length : Int) := by omega
    go_wp2_with fail
    obtain ⟨W3, hW3⟩ : ∃ W3, W3 = wr.alloc (.cells #[.string r.f0, .int .i64 r.f1, .bool r.f2, .string r.f3] 27) := ⟨_, rfl⟩
    obtain ⟨b9, hb9⟩ : ∃ b, b = wr.heap.size := ⟨_, rfl⟩
    have B9 : Aside0 (Blk W3 b9 27 [.string r.f0, .int .i64 r.f1, .bool r.f2, .string r.f3]) := ⟨by rw [hW3, hb9]; exact Blk.new wr _ [.string r.f0, .int .i64 r.f1, .bool r.f2, .string r.f3]⟩
    have hbw : Below wr.heap.size wr W3 := by rw [hW3]; exact below_alloc (Below.refl _ _) _
    have HM3 := Aside0.mk (HM.out.step hbw)
    rw [← hW3, ← hb9]
    clear hW3 hb9 hbw e0 e1 e2 e3 hblk HM
    obtain ⟨ns, hns⟩ : ∃ ns, ns = (splitP r.f0).1 := ⟨_, rfl⟩
    obtain ⟨cd, hcd⟩ : ∃ cd, cd = pathE r.f0 := ⟨_, rfl⟩
    obtain ⟨at3, hat3⟩ : ∃ q, q = (splitP r.f0).2.2 := ⟨_, rfl⟩
    have HSP : Aside0 (name_Split.f r.f0 = some (ns, cd, at3)) := ⟨by unfold name_Split.f; rw [if_pos HR.out.2.1, hns, hcd, hat3]; rfl⟩
    have HNS := Aside0.mk (And.intro hns hcd)
    clear hns hcd hat3
    (with_reducible refine (name_Split.calls r.f0 ns cd at3 W3 HSP.out).mono ?_)
    rintro o W4 ⟨v0, rfl, hR4, hb4⟩
    obtain ⟨A10, c10, hv0, hc10, hC10⟩ := Kd.R_reads hR4
    subst hv0
    have HNR := Aside0.mk (And.intro hR4 hC10)
    have HM4 := Aside0.mk (HM3.out.step hb4)
    have B94 := Aside0.mk (B9.out.below hb4)
    obtain ⟨x0, x1, x2, x3⟩ := cells4 B94.out
    have x9 := B94.out.lt
    have HS4 := Aside0.mk hb4.size
    have HBS := Aside0.mk HM3.out.big
    clear hR4 hC10 hb4 B9 HM3
    go_wp2_with fail
    obtain ⟨W5, hW5⟩ : ∃ W5, W5 = (W4.alloc (.cells #[.int .i64 cd, .int .i64 at3] 35)).alloc (.cells #[.int .i64 r.f1, .bool r.f2, .string r.f3, .slice none 0 0] 32) := ⟨_, rfl⟩
    obtain ⟨b11, hb11⟩ : ∃ b, b = W4.heap.size := ⟨_, rfl⟩
    obtain ⟨b12, hb12⟩ : ∃ b, b = W4.heap.size + 1 := ⟨_, rfl⟩
    have B11 : Aside0 (Blk W5 b11 35 [.int .i64 cd, .int .i64 at3]) := ⟨by rw [hW5, hb11]; exact (Blk.new W4 _ [.int .i64 cd, .int .i64 at3]).alloc _⟩
    have B12 : Aside0 (Blk W5 b12 32 [.int .i64 r.f1, .bool r.f2, .string r.f3, .slice none 0 0]) := ⟨by rw [hW5]; exact Blk.new' _ _ [.int .i64 r.f1, .bool r.f2, .string r.f3, .slice none 0 0] (by rw [hb12]; simp)⟩
    have hb45 : Below W4.heap.size W4 W5 := by rw [hW5]; exact below_alloc (below_alloc (Below.refl _ _) _) _
    have HM5 := Aside0.mk (HM4.out.step hb45)
    have HNR5 := Aside0.mk (And.intro (Kd.R_below HNR.out.1 hb45) (Kd.C_below HNR.out.2 hb45))
    have HBB : Aside0 (b12 ≠ br ∧ W0.heap.size ≤ b11 ∧ W0.heap.size ≤ b12) := ⟨by
     have h1 := HM4.out.root.lt
     have h2 := HM4.out.big
     omega⟩
    have HS5 := Aside0.mk (And.intro HS4.out hb45.size)
    rw [← hW5, ← hb12, ← hb11]
    clear hW5 hb11 hb12 hb45 HM4 HNR B94 x0 x1 x2 x3 x9 HS4
    obtain ⟨lk, hlk⟩ : ∃ lk, lk = lookL r.f1 r.f2 r.f3 [] := ⟨_, rfl⟩
    have hwalk : Calls Tryd.prog 30 #[.agg #[.int .i64 r.f1, .bool r.f2, .string r.f3, .slice none 0 0]] W5 (fun o w' => o = .returned (.tuple #[.string (lookPath (lookL r.f1 r.f2 r.f3 [])), .int .i64 (lookCode (lookL r.f1 r.f2 r.f3 [])), .int .i64 (lookSize (lookL r.f1 r.f2 r.f3 []))]) ∧ Below W5.heap.size W5 w') := (walk_calls (l := []) r.f1 r.f2 r.f3 none 0 W5 (Kd.C_nil _ _) (Nat.le_refl _) (.of (by simp)) HR.out.2.2).mono fun _ _ h => walk_post h
    rw [← hlk] at hwalk
    have HLK := Aside0.mk hlk
    clear hlk
    (with_reducible refine hwalk.mono ?_)
    clear hwalk
    rintro o W6 ⟨rfl, hb6⟩
    obtain ⟨lp, hlp⟩ : ∃ q, q = lookPath lk := ⟨_, rfl⟩
    obtain ⟨lc, hlc⟩ : ∃ q, q = lookCode lk := ⟨_, rfl⟩
    obtain ⟨z, hzz⟩ : ∃ q, q = lookSize lk := ⟨_, rfl⟩
    rw [← hlp, ← hlc, ← hzz]
    have HLC : Aside0 (lc = codeN (leafN (rowU r)) ∧ (lc = 0 → z = 24 + rowS (rowU r))) := ⟨by
     rw [hlc, hzz, HLK.out]
     refine ⟨rfl, fun h0 => ?_⟩
     obtain ⟨h1, h2⟩ := (look_zero _ _ _ _).1 h0
     rw [(look_iff _ _ _ _ _ _).2 ⟨h1, rfl, h2, rfl⟩]
     show 24 + (ownS r.f1 r.f2 r.f3 + ([] : List Int).sum) = _
     rw [List.sum_nil, Int.add_zero]
     rfl⟩
    have hz0 : 0 ≤ z ∧ z ≤ 1048576 := by
     rw [hzz, HLK.out]
     cases hs : lookL r.f1 r.f2 r.f3 [] with
     | bad p q => exact ⟨by show (0 : Int) ≤ 0; decide, by show (0 : Int) ≤ 1048576; decide⟩
     | ok b rws =>
      obtain ⟨_, h2, h3, _⟩ := (look_iff _ _ _ _ _ _).1 hs
      have := tsz_nonneg 32 ⟨⟨#[]⟩, r.f1, r.f2, r.f3, []⟩
      exact ⟨by show 0 ≤ b; omega, h3⟩
    obtain ⟨z1, z2⟩ := hz0
    clear hlp hlc hzz HLK
    have HM6 := Aside0.mk (HM5.out.step hb6)
    have HNR6 := Aside0.mk (And.intro (Kd.R_below HNR5.out.1 hb6) (Kd.C_below HNR5.out.2 hb6))
    have B116 := Aside0.mk (B11.out.below hb6)
    have B126 := Aside0.mk (B12.out.below hb6)
    have HS6 := Aside0.mk (And.intro HS5.out hb6.size)
    clear hb6 HM5 HNR5 B11 B12 HS5
    go_wp2_with fail
    (with_reducible refine (framed_magic W6).mono ?_)
    rintro o W7 ⟨rfl, hb7⟩
    rw [magS_eq]
    have HM7 := Aside0.mk (HM6.out.step hb7.out)
    have HNR7 := Aside0.mk (And.intro (Kd.R_below HNR6.out.1 hb7.out) (Kd.C_below HNR6.out.2 hb7.out))
    have B117 := Aside0.mk (B116.out.below hb7.out)
    have B127 := Aside0.mk (B126.out.below hb7.out)
    have HS7 := Aside0.mk (And.intro HS6.out hb7.out.size)
    clear hb7 HM6 HNR6 B116 B126 HS6
    have HNR7 : Aside0 (Kd.R Kd.string sE W7 W0.heap.size (fun _ => True) (.slice A10 ns.length c10) ns ∧ Kd.C Kd.string W7 A10 ns.length ns) := ⟨⟨Kd.R_lower HNR7.out.1 HBS.out, HNR7.out.2⟩⟩
    have x11 := B117.out.cell 0 _ rfl
    obtain ⟨s1, s2⟩ := HS.out.low
    obtain ⟨n, hn⟩ : ∃ n, n = ns.length := ⟨_, rfl⟩
    rw [← hn] at hc10 HNR7 ⊢
    have HNL := Aside0.mk hn
    clear hn
    by_cases hw1 : cd ≠ 0 ∨ lc ≠ 0 ∨ ¬ (i = 0 ↔ n = 0)
    ·have HNONE : Aside0 (stepB s (rowU r) = none) := ⟨by
      unfold stepB
      have e1 : pathE (rowU r).1 = cd := HNS.out.2.symm
      have e2 : codeN (leafN (rowU r)) = lc := HLC.out.1.symm
      have e3 : (splitP (rowU r).1).1 = ns := HNS.out.1.symm
      rw [e1, e2, e3]
      by_cases q1 : cd ≠ 0 ∨ lc ≠ 0
      ·rw [if_pos q1]
      ·rw [if_neg q1]
       have q3 : ¬ (i = 0 ↔ ns = []) := fun hq => by
        simp only [not_or] at q1
        rcases hw1 with h | h | h
        ·exact q1.1 h
        ·exact q1.2 h
        ·refine h (hq.trans ⟨fun e => ?_, fun e => ?_⟩)
         ·rw [HNL.out, e]; rfl
         ·rw [HNL.out] at e; exact List.length_eq_zero_iff.1 e
       rw [HS.out.first]
       by_cases q4 : i = 0
       ·rw [if_pos (decide_eq_true q4), if_pos (.inl (fun e => q3 ⟨fun _ => e, fun _ => q4⟩))]
       ·have q5 : ns = [] := by
         refine Decidable.of_not_not (fun e => q3 ⟨fun h => absurd h q4, fun h => absurd h e⟩)
        rw [if_neg (by rw [decide_eq_false q4]; decide), q5]
        rfl⟩
     by_cases g1 : cd = 0
     ·by_cases g2 : lc = 0
      ·have hw3 : ¬ (i = 0 ↔ n = 0) := by
        rcases hw1 with h | h | h
        ·exact absurd g1 h
        ·exact absurd g2 h
        ·exact h
       subst g1 g2
       by_cases g3 : i = 0
       ·have t1 : ((i : Int) == 0) = true := by rw [g3]; rfl
        have t2 : ((n : Int) == 0) = false := beq_eq_false_iff_ne.mpr (by omega)
        clear hw1 hw3 g3
        as_aux_lemma =>
         have HBAD : Aside0 (buildP us = (zeroT, 64, (i : Int))) := ⟨HS.out.bad HR.out.1 HNONE.out⟩
         have R2F := Aside0.mk (R0.out.below HM7.out.below)
         have R3F := Aside0.mk (R1.out.below HM7.out.below)
         have y10 := R2F.out.frozen 0
         have y11 := R2F.out.frozen 1
         have y12 := R2F.out.frozen 2
         have y13 := R2F.out.frozen 3
         have y14 := R3F.out.frozen 0
         have y15 := R3F.out.frozen 1
         obtain ⟨k0, k1, k2, k3⟩ := cells4 R2F.out
         have k4 := R3F.out.cell 0 _ rfl
         have k5 := R3F.out.cell 1 _ rfl
         have hne : b3 ≠ b2 := by have := HZ.out; omega
         have hne2 : b2 ≠ b3 := by have := HZ.out; omega
         go_wp2_with fail
         obtain ⟨Wf, hWf⟩ : ∃ Wf, Wf = (((((W7.setCell ⟨b2, 0, none⟩ (.int .i64 0)).setCell ⟨b2, 1, none⟩ (.bool false)).setCell ⟨b2, 2, none⟩ (.string ⟨#[]⟩)).setCell ⟨b2, 3, none⟩ (.slice none 0 0)).setCell ⟨b3, 0, none⟩ (.int .i64 64)).setCell ⟨b3, 1, none⟩ (.int .i64 i) := ⟨_, rfl⟩
         obtain ⟨f1, f2, f3, f4⟩ := fin_all HZ.out (below_step HB0.out HM7.out.below) R2F.out R3F.out (Own.nil W7 W0.heap.size (fun _ => True)) hWf
         rw [← hWf, HBAD.out]
         obtain ⟨z0, z1, z2, z3⟩ := cells4 f3
         have z4 := f4.cell 0 _ rfl
         have z5 := f4.cell 1 _ rfl
         refine bodyPost_ret (v := .tuple #[.agg #[.int .i64 0, .bool false, .string ⟨#[]⟩, .slice none 0 0], .agg #[.int .i64 64, .int .i64 i]]) (by simp [results, Tryd.results11, go_sem, z0, z1, z2, z3, z4, z5]) rfl ⟨_, rfl, f1, f2⟩
       ·have t1 : ((i : Int) == 0) = false := beq_eq_false_iff_ne.mpr (by omega)
        have t2 : ((n : Int) == 0) = true := by rw [show n = 0 from by omega]; rfl
        clear hw1 hw3 g3
        as_aux_lemma =>
         have HBAD : Aside0 (buildP us = (zeroT, 64, (i : Int))) := ⟨HS.out.bad HR.out.1 HNONE.out⟩
         have R2F := Aside0.mk (R0.out.below HM7.out.below)
         have R3F := Aside0.mk (R1.out.below HM7.out.below)
         have y10 := R2F.out.frozen 0
         have y11 := R2F.out.frozen 1
         have y12 := R2F.out.frozen 2
         have y13 := R2F.out.frozen 3
         have y14 := R3F.out.frozen 0
         have y15 := R3F.out.frozen 1
         obtain ⟨k0, k1, k2, k3⟩ := cells4 R2F.out
         have k4 := R3F.out.cell 0 _ rfl
         have k5 := R3F.out.cell 1 _ rfl
         have hne : b3 ≠ b2 := by have := HZ.out; omega
         have hne2 : b2 ≠ b3 := by have := HZ.out; omega
         go_wp2_with fail
         obtain ⟨Wf, hWf⟩ : ∃ Wf, Wf = (((((W7.setCell ⟨b2, 0, none⟩ (.int .i64 0)).setCell ⟨b2, 1, none⟩ (.bool false)).setCell ⟨b2, 2, none⟩ (.string ⟨#[]⟩)).setCell ⟨b2, 3, none⟩ (.slice none 0 0)).setCell ⟨b3, 0, none⟩ (.int .i64 64)).setCell ⟨b3, 1, none⟩ (.int .i64 i) := ⟨_, rfl⟩
         obtain ⟨f1, f2, f3, f4⟩ := fin_all HZ.out (below_step HB0.out HM7.out.below) R2F.out R3F.out (Own.nil W7 W0.heap.size (fun _ => True)) hWf
         rw [← hWf, HBAD.out]
         obtain ⟨z0, z1, z2, z3⟩ := cells4 f3
         have z4 := f4.cell 0 _ rfl
         have z5 := f4.cell 1 _ rfl
         refine bodyPost_ret (v := .tuple #[.agg #[.int .i64 0, .bool false, .string ⟨#[]⟩, .slice none 0 0], .agg #[.int .i64 64, .int .i64 i]]) (by simp [results, Tryd.results11, go_sem, z0, z1, z2, z3, z4, z5]) rfl ⟨_, rfl, f1, f2⟩
      ·subst g1
       have t1 : (lc != 0) = true := bne_iff_ne.mpr g2
       clear hw1 g2
       as_aux_lemma =>
        have HBAD : Aside0 (buildP us = (zeroT, 64, (i : Int))) := ⟨HS.out.bad HR.out.1 HNONE.out⟩
        have R2F := Aside0.mk (R0.out.below HM7.out.below)
        have R3F := Aside0.mk (R1.out.below HM7.out.below)
        have y10 := R2F.out.frozen 0
        have y11 := R2F.out.frozen 1
        have y12 := R2F.out.frozen 2
        have y13 := R2F.out.frozen 3
        have y14 := R3F.out.frozen 0
        have y15 := R3F.out.frozen 1
        obtain ⟨k0, k1, k2, k3⟩ := cells4 R2F.out
        have k4 := R3F.out.cell 0 _ rfl
        have k5 := R3F.out.cell 1 _ rfl
        have hne : b3 ≠ b2 := by have := HZ.out; omega
        have hne2 : b2 ≠ b3 := by have := HZ.out; omega
        go_wp2_with fail
        obtain ⟨Wf, hWf⟩ : ∃ Wf, Wf = (((((W7.setCell ⟨b2, 0, none⟩ (.int .i64 0)).setCell ⟨b2, 1, none⟩ (.bool false)).setCell ⟨b2, 2, none⟩ (.string ⟨#[]⟩)).setCell ⟨b2, 3, none⟩ (.slice none 0 0)).setCell ⟨b3, 0, none⟩ (.int .i64 64)).setCell ⟨b3, 1, none⟩ (.int .i64 i) := ⟨_, rfl⟩
        obtain ⟨f1, f2, f3, f4⟩ := fin_all HZ.out (below_step HB0.out HM7.out.below) R2F.out R3F.out (Own.nil W7 W0.heap.size (fun _ => True)) hWf
        rw [← hWf, HBAD.out]
        obtain ⟨z0, z1, z2, z3⟩ := cells4 f3
        have z4 := f4.cell 0 _ rfl
        have z5 := f4.cell 1 _ rfl
        refine bodyPost_ret (v := .tuple #[.agg #[.int .i64 0, .bool false, .string ⟨#[]⟩, .slice none 0 0], .agg #[.int .i64 64, .int .i64 i]]) (by simp [results, Tryd.results11, go_sem, z0, z1, z2, z3, z4, z5]) rfl ⟨_, rfl, f1, f2⟩
     ·have t1 : (cd != 0) = true := bne_iff_ne.mpr g1
      clear hw1 g1
      as_aux_lemma =>
       have HBAD : Aside0 (buildP us = (zeroT, 64, (i : Int))) := ⟨HS.out.bad HR.out.1 HNONE.out⟩
       have R2F := Aside0.mk (R0.out.below HM7.out.below)
       have R3F := Aside0.mk (R1.out.below HM7.out.below)
       have y10 := R2F.out.frozen 0
       have y11 := R2F.out.frozen 1
       have y12 := R2F.out.frozen 2
       have y13 := R2F.out.frozen 3
       have y14 := R3F.out.frozen 0
       have y15 := R3F.out.frozen 1
       obtain ⟨k0, k1, k2, k3⟩ := cells4 R2F.out
       have k4 := R3F.out.cell 0 _ rfl
       have k5 := R3F.out.cell 1 _ rfl
       have hne : b3 ≠ b2 := by have := HZ.out; omega
       have hne2 : b2 ≠ b3 := by have := HZ.out; omega
       go_wp2_with fail
       obtain ⟨Wf, hWf⟩ : ∃ Wf, Wf = (((((W7.setCell ⟨b2, 0, none⟩ (.int .i64 0)).setCell ⟨b2, 1, none⟩ (.bool false)).setCell ⟨b2, 2, none⟩ (.string ⟨#[]⟩)).setCell ⟨b2, 3, none⟩ (.slice none 0 0)).setCell ⟨b3, 0, none⟩ (.int .i64 64)).setCell ⟨b3, 1, none⟩ (.int .i64 i) := ⟨_, rfl⟩
       obtain ⟨f1, f2, f3, f4⟩ := fin_all HZ.out (below_step HB0.out HM7.out.below) R2F.out R3F.out (Own.nil W7 W0.heap.size (fun _ => True)) hWf
       rw [← hWf, HBAD.out]
       obtain ⟨z0, z1, z2, z3⟩ := cells4 f3
       have z4 := f4.cell 0 _ rfl
       have z5 := f4.cell 1 _ rfl
       refine bodyPost_ret (v := .tuple #[.agg #[.int .i64 0, .bool false, .string ⟨#[]⟩, .slice none 0 0], .agg #[.int .i64 64, .int .i64 i]]) (by simp [results, Tryd.results11, go_sem, z0, z1, z2, z3, z4, z5]) rfl ⟨_, rfl, f1, f2⟩
    ·simp only [not_or, Decidable.not_not] at hw1
     obtain ⟨hw1, hw2, hw3⟩ := hw1
     subst hw1 hw2
     by_cases hi0 : i = 0
     ·have _hx := trivial
      have hn0 : n = 0 := hw3.1 hi0
      have t1 : ((i : Int) == 0) = true := by rw [hi0]; rfl
      have t2 : ((n : Int) == 0) = true := by rw [hn0]; rfl
      have t3 : ¬ (0 : Int) < (i : Int) := by omega
      have HNIL : Aside0 (ns = []) := ⟨List.length_eq_zero_iff.1 (by rw [← HNL.out]; exact hn0)⟩
      have HFR : Aside0 (s.first = true) := ⟨by rw [HS.out.first]; exact decide_eq_true hi0⟩
      have HI0 := Aside0.mk hi0
      clear hn0 hi0 hw3
      obtain ⟨s8, hs8⟩ : ∃ s8 : BSt, s8 = ⟨leafN (rowU r), [], s.bytes + (z - 24), false⟩ := ⟨_, rfl⟩
      have HST : Aside0 (stepB s (rowU r) = if 1048576 < s.bytes + (z - 24) then none else some s8) := ⟨by
       have e1 : pathE (rowU r).1 = 0 := HNS.out.2.symm
       have e2 : codeN (leafN (rowU r)) = 0 := HLC.out.1.symm
       have e3 : (splitP (rowU r).1).1 = ns := HNS.out.1.symm
       have e4 : rowS (rowU r) = z - 24 := by have := HLC.out.2 rfl; omega
       unfold stepB
       rw [e1, e2, e3, if_neg (by simp), if_pos HFR.out, HNIL.out, e4, hs8]
       by_cases h : 1048576 < s.bytes + (z - 24)
       ·rw [if_pos (.inr h), if_pos h]
       ·rw [if_neg (by simp only [not_or]; exact ⟨fun e => e rfl, h⟩), if_neg h]⟩
      obtain ⟨x12, x13, x14, x15⟩ := cells4 B127.out
      obtain ⟨r0, r1, r2, r3⟩ := cells4 HM7.out.root
      have y0 := HM7.out.root.frozen 0
      have y1 := HM7.out.root.frozen 1
      have y2 := HM7.out.root.frozen 2
      have y3 := HM7.out.root.frozen 3
      have hb12 : b12 ≠ br := HBB.out.1
      go_wp2_with ((with_reducible refine gate_dst (N := 89) rfl ?_); refine Stand.go ?_)
      unfold Stand
      obtain ⟨W8, hW8⟩ : ∃ W8, W8 = (((W7.setCell ⟨br, 0, none⟩ (.int .i64 r.f1)).setCell ⟨br, 1, none⟩ (.bool r.f2)).setCell ⟨br, 2, none⟩ (.string r.f3)).setCell ⟨br, 3, none⟩ (.slice none 0 0) := ⟨_, rfl⟩
      rw [← hW8]
      have hs87 : W8.heap.size = W7.heap.size := by rw [hW8]; simp [World.setCell]
      rw [← hs87]
      obtain ⟨q1, q2, q3, q4⟩ := HM7.out.rooted HFR.out rfl (nv := .slice A10 n c10) (HNIL.out ▸ HNR7.out.1) r.f1 r.f2 r.f3 hW8
      have HQ := Aside0.mk (And.intro q2 (And.intro q3 q4))
      refine wpList_plain rfl fun K hK => ?_
      refine wp_of_step (ops := #[]) (step_append_cells (w0 := W0) W0.heap.size (by rfl) (.tmp 86) (.tmp 88) 67 69 (.pointer none) 1 8 rfl Tryd.underlying67 (by as_aux_lemma => kernel_rfl) rfl (by decide) (by decide)
       u5 0 [] [.pointer (some ⟨br, 0, none⟩)] (by rfl) (by rfl) rfl (by intro u hu; rw [List.mem_singleton] at hu; rw [hu]; rfl) q1 q2 q3 (by decide) ?_) (by rfl)
      intro v1 wn hrow hbn hg hat
      obtain ⟨A11, c11, hv1⟩ := own_slice hrow
      subst hv1
      have HM8 : Aside0 (BMem W0 wn W0.heap.size br s8 (.slice A11 (0 + 1) c11) (.slice A10 n c10) (.slice none 0 0) []) := ⟨by rw [hs8]; exact HQ.out.2.2 wn _ _ hrow hbn hg⟩
      have HS8 : Aside0 (s8.bytes = s.bytes + (z - 24)) := ⟨by rw [hs8]⟩
      clear hrow hbn hg hat q1 q2 q3 q4 HQ hW8 r0 r1 r2 r3 y0 y1 y2 y3 x11 x12 x13 x14 x15 HM7 B117 B127 hs8
      refine hK _ _ ?_
      clear hK K
      by_cases hbig : 1048576 < s.bytes + (z - 24)
      ·have HNONE : Aside0 (stepB s (rowU r) = none) := ⟨by rw [HST.out, if_pos hbig]⟩
       as_aux_lemma =>
        have HBAD : Aside0 (buildP us = (zeroT, 64, (i : Int))) := ⟨HS.out.bad HR.out.1 HNONE.out⟩
        have R2F := Aside0.mk (R0.out.below HM8.out.below)
        have R3F := Aside0.mk (R1.out.below HM8.out.below)
        have y10 := R2F.out.frozen 0
        have y11 := R2F.out.frozen 1
        have y12 := R2F.out.frozen 2
        have y13 := R2F.out.frozen 3
        have y14 := R3F.out.frozen 0
        have y15 := R3F.out.frozen 1
        obtain ⟨k0, k1, k2, k3⟩ := cells4 R2F.out
        have k4 := R3F.out.cell 0 _ rfl
        have k5 := R3F.out.cell 1 _ rfl
        have hne : b3 ≠ b2 := by have := HZ.out; omega
        have hne2 : b2 ≠ b3 := by have := HZ.out; omega
        go_wp2_with fail
        obtain ⟨Wf, hWf⟩ : ∃ Wf, Wf = (((((wn.setCell ⟨b2, 0, none⟩ (.int .i64 0)).setCell ⟨b2, 1, none⟩ (.bool false)).setCell ⟨b2, 2, none⟩ (.string ⟨#[]⟩)).setCell ⟨b2, 3, none⟩ (.slice none 0 0)).setCell ⟨b3, 0, none⟩ (.int .i64 64)).setCell ⟨b3, 1, none⟩ (.int .i64 i) := ⟨_, rfl⟩
        obtain ⟨f1, f2, f3, f4⟩ := fin_all HZ.out (below_step HB0.out HM8.out.below) R2F.out R3F.out (Own.nil wn W0.heap.size (fun _ => True)) hWf
        rw [← hWf, HBAD.out]
        obtain ⟨z0, z1, z2, z3⟩ := cells4 f3
        have z4 := f4.cell 0 _ rfl
        have z5 := f4.cell 1 _ rfl
        refine bodyPost_ret (v := .tuple #[.agg #[.int .i64 0, .bool false, .string ⟨#[]⟩, .slice none 0 0], .agg #[.int .i64 64, .int .i64 i]]) (by simp [results, Tryd.results11, go_sem, z0, z1, z2, z3, z4, z5]) rfl ⟨_, rfl, f1, f2⟩
      ·have HSS : Aside0 (BSaid us (i + 1) s8) := ⟨HS.out.next HR.out.1 (by rw [HST.out, if_neg hbig])⟩
       clear HST HS
       go_wp2_with fail
       go_roundw
       case rel => exact ⟨i + 1, s8, _, [], by omega, by go_num, by rw [HS8.out], HM8, HSS⟩
       case measure => simp [intOf]; omega
     ·have _hx := trivial
      have hn1 : n ≠ 0 := fun e => hi0 (hw3.2 e)
      obtain ⟨k, hk⟩ : ∃ k, n = k + 1 := ⟨n - 1, by omega⟩
      subst hk
      have t1 : ((i : Int) == 0) = false := beq_eq_false_iff_ne.mpr (by omega)
      have t2 : ((k : Int) + 1 == 0) = false := beq_eq_false_iff_ne.mpr (by omega)
      have t3 : (0 : Int) < (i : Int) := by omega
      have HFR : Aside0 (s.first = false) := ⟨by rw [HS.out.first]; exact decide_eq_false hi0⟩
      have HI0 := Aside0.mk hi0
      have HLTI : Aside0 (i < rows.length ∧ rows.length ≤ 9223372036854775807) := ⟨hlt, Kd.C_max HC.out⟩
      have HW5 : Aside0 (wrap64 ((i : Int) + 1) = (i : Int) + 1) := ⟨w64 (by omega) (by have := HLTI.out; omega)⟩
      clear hn1 hi0 hw3
      obtain ⟨last, hlast⟩ : ∃ last, ns.getLast? = some last := by
       cases hx : ns.getLast? with
       | none => rw [List.getLast?_eq_none_iff] at hx; rw [hx] at HNL; exact absurd HNL.out (by simp)
       | some x => exact ⟨x, rfl⟩
      have HLAST := Aside0.mk hlast
      have HNM : Aside0 ((∀ x, x ∈ ns → nameE x = 0) ∧ k ≤ 30 ∧ ns.dropLast = ns.take k ∧ ns[k]? = some last) := ⟨by
       have h1 := split_names r.f0
       rw [← HNS.out.1] at h1
       refine ⟨h1.1, by have := h1.2; have := HNL.out; omega, ?_, ?_⟩
       ·rw [List.dropLast_eq_take, ← HNL.out]; rfl
       ·rw [List.getLast?_eq_getElem?, ← HNL.out] at hlast; exact hlast⟩
      have hk30 : k ≤ 30 := HNM.out.2.1
      clear hlast
      obtain ⟨A6, c6, hv6, hc6, hC6⟩ := Kd.R_reads HM7.out.pth
      subst hv6
      obtain ⟨m, hm⟩ : ∃ m, m = s.path.length := ⟨_, rfl⟩
      have hopl : (opens s.first br ps).length = m + 1 := by
       rw [HFR.out, hm]
       show (((⟨br, 0, none⟩ : Addr) :: ps).map _).length = _
       rw [List.length_map, List.length_cons, HM7.out.pl]
      obtain ⟨A5, c5, hv5⟩ := own_slice HM7.out.opn
      rw [hopl] at hv5
      subst hv5
      have hc5 : m + 1 ≤ c5 := by have := own_le HM7.out.opn; exact this
      rw [← hm] at hc6 HM7 ⊢
      have HMM := Aside0.mk hm
      clear hm hC6 hopl
      have HSTEP : Aside0 (stepB s (rowU r) = if ns.take k ≠ s.path.take k then none else match spineN k s.n with
        | none => none
        | some d => if d.1 ≠ 3 ∨ lastLt d.2.2.2 last = false ∨ 1048576 < s.bytes + (z - 24) + entS last then none else some ⟨appAt k [leafX (rowU r) last] s.n, ns, s.bytes + (z - 24) + entS last, false⟩) := ⟨by
       have e1 : pathE (rowU r).1 = 0 := HNS.out.2.symm
       have e2 : codeN (leafN (rowU r)) = 0 := HLC.out.1.symm
       have e3 : (splitP (rowU r).1).1 = ns := HNS.out.1.symm
       have e4 : rowS (rowU r) = z - 24 := by have := HLC.out.2 rfl; omega
       have e5 : ns.length - 1 = k := by have := HNL.out; omega
       unfold stepB
       rw [e1, e2, e3, if_neg (by simp), if_neg (by rw [HFR.out]; decide), HLAST.out, e4, e5]
       simp only
       rw [HNM.out.2.2.1]
       by_cases hq : ns.take k ≠ s.path.take k
       ·rw [if_pos hq, if_pos hq]
       ·rw [if_neg hq, if_neg hq]
        cases spineN k s.n with
        | none => rfl
        | some d => rfl⟩
      go_wp2_with fail
      by_cases hkm : m + 1 ≤ k
      ·have q1 : (m : Int) + 1 ≤ (k : Int) := by omega
       have HNONE : Aside0 (stepB s (rowU r) = none) := ⟨by
        rw [HSTEP.out, if_pos (fun e => ?_)]
        have := congrArg List.length e
        rw [List.length_take, List.length_take, ← HNL.out, ← HMM.out] at this
        omega⟩
       refine start_ (n := 18) (S := fun _ => True) (ds := []) #[false, false, false, false, false, false, false, false, false, false, false, false, false, false, false, false, false, false] (by as_aux_lemma => kernel_rfl) rfl rfl (trivial) (fun hHeld => ?_)
       have hdr : Below W7.heap.size W7 W7.drew := below_drew (Below.refl _ _)
       have HM71 := Aside0.mk (HM7.out.step hdr)
       generalize W7.drew = W71 at *
       clear hdr
       refine pure_ (i := 0) (N := some 99) (v := ?_) (a' := ?_) #[true, false, false, false, false, false, false, false, false, false, false, false, false, false, false, false, false, false] rfl rfl (by as_aux_lemma => kernel_rfl) (fun _ _ _ h => h) (Or.inl ⟨by rfl, ?_⟩) ?_ ?_
       rotate_left
       ·intro w'
        go_simp
        with_reducible rfl
       rotate_left
       ·simp only [Act.put, List.setIfInBounds_toArray, List.set_cons_zero, List.set_cons_succ, i64_w, i32_w]
        rfl
       refine pure_ (i := 1) (N := some 100) (v := ?_) (a' := ?_) #[true, true, false, false, false, false, false, false, false, false, false, false, false, false, false, false, false, false] rfl rfl (by as_aux_lemma => kernel_rfl) (fun _ _ _ h => h) (Or.inl ⟨by rfl, ?_⟩) ?_ ?_
       rotate_left
       ·intro w'
        go_simp
        with_reducible rfl
       rotate_left
       ·simp only [Act.put, List.setIfInBounds_toArray, List.set_cons_zero, List.set_cons_succ, i64_w, i32_w]
        rfl
       refine pure_ (i := 2) (N := some 101) (v := ?_) (a' := ?_) #[true, true, true, false, false, false, false, false, false, false, false, false, false, false, false, false, false, false] rfl rfl (by as_aux_lemma => kernel_rfl) (fun _ _ _ h => h) (Or.inl ⟨by rfl, ?_⟩) ?_ ?_
       rotate_left
       ·intro w'
        go_simp
        with_reducible rfl
       rotate_left
       ·simp only [Act.put, List.setIfInBounds_toArray, List.set_cons_zero, List.set_cons_succ, i64_w, i32_w]
        rfl
       refine pure_ (i := 3) (N := some 102) (v := ?_) (a' := ?_) #[true, true, true, true, false, false, false, false, false, false, false, false, false, false, false, false, false, false] rfl rfl (by as_aux_lemma => kernel_rfl) (fun _ _ _ h => h) (Or.inl ⟨by rfl, ?_⟩) ?_ ?_
       rotate_left
       ·intro w'
        go_simp
        with_reducible rfl
       rotate_left
       ·simp only [Act.put, List.setIfInBounds_toArray, List.set_cons_zero, List.set_cons_succ, i64_w, i32_w]
        rfl
       refine pure_ (i := 4) (N := some 103) (v := ?_) (a' := ?_) #[true, true, true, true, true, false, false, false, false, false, false, false, false, false, false, false, false, false] rfl rfl (by as_aux_lemma => kernel_rfl) (fun _ _ _ h => h) (Or.inl ⟨by rfl, ?_⟩) ?_ ?_
       rotate_left
       ·intro w'
        go_simp
        with_reducible rfl
       rotate_left
       ·simp only [Act.put, List.setIfInBounds_toArray, List.set_cons_zero, List.set_cons_succ, i64_w, i32_w]
        rfl
       refine pure_ (i := 5) (N := some 104) (v := undef) (a' := ?_) #[true, true, true, true, true, true, false, false, false, false, false, false, false, false, false, false, false, false] rfl rfl (by as_aux_lemma => kernel_rfl) (fun _ _ _ h => h) (Or.inr ⟨by rfl, rfl⟩) ?_ ?_
       rotate_left
       ·simp only [Act.put, List.setIfInBounds_toArray, List.set_cons_zero, List.set_cons_succ, i64_w, i32_w]
        rfl
       refine pure_ (i := 6) (N := some 105) (v := undef) (a' := ?_) #[true, true, true, true, true, true, true, false, false, false, false, false, false, false, false, false, false, false] rfl rfl (by as_aux_lemma => kernel_rfl) (fun _ _ _ h => h) (Or.inr ⟨by rfl, rfl⟩) ?_ ?_
       rotate_left
       ·simp only [Act.put, List.setIfInBounds_toArray, List.set_cons_zero, List.set_cons_succ, i64_w, i32_w]
        rfl
       refine pure_ (i := 7) (N := some 106) (v := undef) (a' := ?_) #[true, true, true, true, true, true, true, true, false, false, false, false, false, false, false, false, false, false] rfl rfl (by as_aux_lemma => kernel_rfl) (fun _ _ _ h => h) (Or.inr ⟨by rfl, rfl⟩) ?_ ?_
       rotate_left
       ·simp only [Act.put, List.setIfInBounds_toArray, List.set_cons_zero, List.set_cons_succ, i64_w, i32_w]
        rfl
       refine pure_ (i := 8) (N := some 107) (v := undef) (a' := ?_) #[true, true, true, true, true, true, true, true, true, false, false, false, false, false, false, false, false, false] rfl rfl (by as_aux_lemma => kernel_rfl) (fun _ _ _ h => h) (Or.inr ⟨by rfl, rfl⟩) ?_ ?_
       rotate_left
       ·simp only [Act.put, List.setIfInBounds_toArray, List.set_cons_zero, List.set_cons_succ, i64_w, i32_w]
        rfl
       refine pure_ (i := 9) (N := some 108) (v := undef) (a' := ?_) #[true, true, true, true, true, true, true, true, true, true, false, false, false, false, false, false, false, false] rfl rfl (by as_aux_lemma => kernel_rfl) (fun _ _ _ h => h) (Or.inr ⟨by rfl, rfl⟩) ?_ ?_
       rotate_left
       ·simp only [Act.put, List.setIfInBounds_toArray, List.set_cons_zero, List.set_cons_succ, i64_w, i32_w]
        rfl
       refine pure_ (i := 10) (N := some 109) (v := undef) (a' := ?_) #[true, true, true, true, true, true, true, true, true, true, true, false, false, false, false, false, false, false] rfl rfl (by as_aux_lemma => kernel_rfl) (fun _ _ _ h => h) (Or.inr ⟨by rfl, rfl⟩) ?_ ?_
       rotate_left
       ·simp only [Act.put, List.setIfInBounds_toArray, List.set_cons_zero, List.set_cons_succ, i64_w, i32_w]
        rfl
       refine pure_ (i := 11) (N := some 110) (v := undef) (a' := ?_) #[true, true, true, true, true, true, true, true, true, true, true, true, false, false, false, false, false, false] rfl rfl (by as_aux_lemma => kernel_rfl) (fun _ _ _ h => h) (Or.inr ⟨by rfl, rfl⟩) ?_ ?_
       rotate_left
       ·simp only [Act.put, List.setIfInBounds_toArray, List.set_cons_zero, List.set_cons_succ, i64_w, i32_w]
        rfl
       refine pure_ (i := 12) (N := some 111) (v := undef) (a' := ?_) #[true, true, true, true, true, true, true, true, true, true, true, true, true, false, false, false, false, false] rfl rfl (by as_aux_lemma => kernel_rfl) (fun _ _ _ h => h) (Or.inr ⟨by rfl, rfl⟩) ?_ ?_
       rotate_left
       ·simp only [Act.put, List.setIfInBounds_toArray, List.set_cons_zero, List.set_cons_succ, i64_w, i32_w]
        rfl
       refine pure_ (i := 13) (N := some 112) (v := undef) (a' := ?_) #[true, true, true, true, true, true, true, true, true, true, true, true, true, true, false, false, false, false] rfl rfl (by as_aux_lemma => kernel_rfl) (fun _ _ _ h => h) (Or.inr ⟨by rfl, rfl⟩) ?_ ?_
       rotate_left
       ·simp only [Act.put, List.setIfInBounds_toArray, List.set_cons_zero, List.set_cons_succ, i64_w, i32_w]
        rfl
       refine pure_ (i := 14) (N := some 113) (v := undef) (a' := ?_) #[true, true, true, true, true, true, true, true, true, true, true, true, true, true, true, false, false, false] rfl rfl (by as_aux_lemma => kernel_rfl) (fun _ _ _ h => h) (Or.inr ⟨by rfl, rfl⟩) ?_ ?_
       rotate_left
       ·simp only [Act.put, List.setIfInBounds_toArray, List.set_cons_zero, List.set_cons_succ, i64_w, i32_w]
        rfl
       refine pure_ (i := 15) (N := some 114) (v := undef) (a' := ?_) #[true, true, true, true, true, true, true, true, true, true, true, true, true, true, true, true, false, false] rfl rfl (by as_aux_lemma => kernel_rfl) (fun _ _ _ h => h) (Or.inr ⟨by rfl, rfl⟩) ?_ ?_
       rotate_left
       ·simp only [Act.put, List.setIfInBounds_toArray, List.set_cons_zero, List.set_cons_succ, i64_w, i32_w]
        rfl
       refine pure_ (i := 16) (N := some 115) (v := ?_) (a' := ?_) #[true, true, true, true, true, true, true, true, true, true, true, true, true, true, true, true, true, false] rfl rfl (by as_aux_lemma => kernel_rfl) (fun _ _ _ h => h) (Or.inl ⟨by rfl, ?_⟩) ?_ ?_
       rotate_left
       ·intro w'
        go_simp
        with_reducible rfl
       rotate_left
       ·simp only [Act.put, List.setIfInBounds_toArray, List.set_cons_zero, List.set_cons_succ, i64_w, i32_w]
        rfl
       refine pure_ (i := 17) (N := some 16) (v := ?_) (a' := ?_) #[true, true, true, true, true, true, true, true, true, true, true, true, true, true, true, true, true, true] rfl rfl (by as_aux_lemma => kernel_rfl) (fun _ _ _ h => h) (Or.inl ⟨by rfl, ?_⟩) ?_ ?_
       rotate_left
       ·intro w'
        go_simp
        with_reducible rfl
       rotate_left
       ·simp only [Act.put, List.setIfInBounds_toArray, List.set_cons_zero, List.set_cons_succ, i64_w, i32_w]
        rfl
       refine done_ (by as_aux_lemma => kernel_rfl) ?_
       as_aux_lemma =>
        have HBAD : Aside0 (buildP us = (zeroT, 64, (i : Int))) := ⟨HS.out.bad HR.out.1 HNONE.out⟩
        have R2F := Aside0.mk (R0.out.below HM71.out.below)
        have R3F := Aside0.mk (R1.out.below HM71.out.below)
        have y10 := R2F.out.frozen 0
        have y11 := R2F.out.frozen 1
        have y12 := R2F.out.frozen 2
        have y13 := R2F.out.frozen 3
        have y14 := R3F.out.frozen 0
        have y15 := R3F.out.frozen 1
        obtain ⟨k0, k1, k2, k3⟩ := cells4 R2F.out
        have k4 := R3F.out.cell 0 _ rfl
        have k5 := R3F.out.cell 1 _ rfl
        have hne : b3 ≠ b2 := by have := HZ.out; omega
        have hne2 : b2 ≠ b3 := by have := HZ.out; omega
        go_wp2_with fail
        obtain ⟨Wf, hWf⟩ : ∃ Wf, Wf = (((((W71.setCell ⟨b2, 0, none⟩ (.int .i64 0)).setCell ⟨b2, 1, none⟩ (.bool false)).setCell ⟨b2, 2, none⟩ (.string ⟨#[]⟩)).setCell ⟨b2, 3, none⟩ (.slice none 0 0)).setCell ⟨b3, 0, none⟩ (.int .i64 64)).setCell ⟨b3, 1, none⟩ (.int .i64 i) := ⟨_, rfl⟩
        obtain ⟨f1, f2, f3, f4⟩ := fin_all HZ.out (below_step HB0.out HM71.out.below) R2F.out R3F.out (Own.nil W71 W0.heap.size (fun _ => True)) hWf
        rw [← hWf, HBAD.out]
        obtain ⟨z0, z1, z2, z3⟩ := cells4 f3
        have z4 := f4.cell 0 _ rfl
        have z5 := f4.cell 1 _ rfl
        refine bodyPost_ret (v := .tuple #[.agg #[.int .i64 0, .bool false, .string ⟨#[]⟩, .slice none 0 0], .agg #[.int .i64 64, .int .i64 i]]) (by simp [results, Tryd.results11, go_sem, z0, z1, z2, z3, z4, z5]) rfl ⟨_, rfl, f1, f2⟩
      ·have q1 : ¬ (m : Int) + 1 ≤ (k : Int) := by omega
       have q2 : (k : Int) ≤ (m : Int) := by omega
       have hkm2 : k ≤ m := by omega
       have hk10 : k ≤ c10 := by omega
       have hk6 : k ≤ c6 := by omega
       have hmin : min (k : Int) (m : Int) = (k : Int) := Int.min_eq_left q2
       have hk0 : (0 : Int) ≤ (k : Int) := by omega
       have hk6' : (k : Int) ≤ (c6 : Int) := by omega
       refine start_ (n := 18) (S := fun _ => True) (ds := []) #[false, false, false, false, false, false, false, false, false, false, false, false, false, false, false, false, false, false] (by as_aux_lemma => kernel_rfl) rfl rfl (trivial) (fun hHeld => ?_)
       have hdr : Below W7.heap.size W7 W7.drew := below_drew (Below.refl _ _)
       have HM71 := Aside0.mk (HM7.out.step hdr)
       have HNR71 := Aside0.mk (And.intro (Kd.R_below HNR7.out.1 hdr) (Kd.C_below HNR7.out.2 hdr))
       have B1271 := Aside0.mk (B127.out.below hdr)
       have HS71 := Aside0.mk (And.intro HS7.out hdr.size)
       generalize W7.drew = W71 at *
       clear hdr HM7 HNR7 B127 B117 x11 HS7
       refine pure_ (i := 0) (N := some 99) (v := ?_) (a' := ?_) #[true, false, false, false, false, false, false, false, false, false, false, false, false, false, false, false, false, false] rfl rfl (by as_aux_lemma => kernel_rfl) (fun _ _ _ h => h) (Or.inl ⟨by rfl, ?_⟩) ?_ ?_
       rotate_left
       ·intro w'
        go_simp
        with_reducible rfl
       rotate_left
       ·simp only [Act.put, List.setIfInBounds_toArray, List.set_cons_zero, List.set_cons_succ, i64_w, i32_w]
        rfl
       refine pure_ (i := 1) (N := some 100) (v := ?_) (a' := ?_) #[true, true, false, false, false, false, false, false, false, false, false, false, false, false, false, false, false, false] rfl rfl (by as_aux_lemma => kernel_rfl) (fun _ _ _ h => h) (Or.inl ⟨by rfl, ?_⟩) ?_ ?_
       rotate_left
       ·intro w'
        go_simp
        with_reducible rfl
       rotate_left
       ·simp only [Act.put, List.setIfInBounds_toArray, List.set_cons_zero, List.set_cons_succ, i64_w, i32_w]
        rfl
       refine pure_ (i := 2) (N := some 101) (v := ?_) (a' := ?_) #[true, true, true, false, false, false, false, false, false, false, false, false, false, false, false, false, false, false] rfl rfl (by as_aux_lemma => kernel_rfl) (fun _ _ _ h => h) (Or.inl ⟨by rfl, ?_⟩) ?_ ?_
       rotate_left
       ·intro w'
        go_simp
        with_reducible rfl
       rotate_left
       ·simp only [Act.put, List.setIfInBounds_toArray, List.set_cons_zero, List.set_cons_succ, i64_w, i32_w]
        rfl
       refine pure_ (i := 3) (N := some 102) (v := ?_) (a' := ?_) #[true, true, true, true, false, false, false, false, false, false, false, false, false, false, false, false, false, false] rfl rfl (by as_aux_lemma => kernel_rfl) (fun _ _ _ h => h) (Or.inl ⟨by rfl, ?_⟩) ?_ ?_
       rotate_left
       ·intro w'
        go_simp
        with_reducible rfl
       rotate_left
       ·simp only [Act.put, List.setIfInBounds_toArray, List.set_cons_zero, List.set_cons_succ, i64_w, i32_w]
        rfl
       refine pure_ (i := 4) (N := some 103) (v := ?_) (a' := ?_) #[true, true, true, true, true, false, false, false, false, false, false, false, false, false, false, false, false, false] rfl rfl (by as_aux_lemma => kernel_rfl) (fun _ _ _ h => h) (Or.inl ⟨by rfl, ?_⟩) ?_ ?_
       rotate_left
       ·intro w'
        go_simp
        with_reducible rfl
       rotate_left
       ·simp only [Act.put, List.setIfInBounds_toArray, List.set_cons_zero, List.set_cons_succ, i64_w, i32_w]
        rfl
       refine pure_ (i := 5) (N := some 104) (v := ?_) (a' := ?_) #[true, true, true, true, true, true, false, false, false, false, false, false, false, false, false, false, false, false] rfl rfl (by as_aux_lemma => kernel_rfl) (fun _ _ _ h => h) (Or.inl ⟨by rfl, ?_⟩) ?_ ?_
       rotate_left
       ·intro w'
        go_simp
        with_reducible rfl
       rotate_left
       ·simp only [Act.put, List.setIfInBounds_toArray, List.set_cons_zero, List.set_cons_succ, i64_w, i32_w]
        rfl
       refine pure_ (i := 6) (N := some 105) (v := ?_) (a' := ?_) #[true, true, true, true, true, true, true, false, false, false, false, false, false, false, false, false, false, false] rfl rfl (by as_aux_lemma => kernel_rfl) (fun _ _ _ h => h) (Or.inl ⟨by rfl, ?_⟩) ?_ ?_
       rotate_left
       ·intro w'
        go_simp
        with_reducible rfl
       rotate_left
       ·simp only [Act.put, List.setIfInBounds_toArray, List.set_cons_zero, List.set_cons_succ, i64_w, i32_w]
        rfl
       refine pure_ (i := 7) (N := some 106) (v := ?_) (a' := ?_) #[true, true, true, true, true, true, true, true, false, false, false, false, false, false, false, false, false, false] rfl rfl (by as_aux_lemma => kernel_rfl) (fun _ _ _ h => h) (Or.inl ⟨by rfl, ?_⟩) ?_ ?_
       rotate_left
       ·intro w'
        go_simp
        with_reducible rfl
       rotate_left
       ·simp only [Act.put, List.setIfInBounds_toArray, List.set_cons_zero, List.set_cons_succ, i64_w, i32_w]
        rfl
       refine pure_ (i := 8) (N := some 107) (v := ?_) (a' := ?_) #[true, true, true, true, true, true, true, true, true, false, false, false, false, false, false, false, false, false] rfl rfl (by as_aux_lemma => kernel_rfl) (fun _ _ _ h => h) (Or.inl ⟨by rfl, ?_⟩) ?_ ?_
       rotate_left
       ·intro w'
        go_simp
        with_reducible rfl
       rotate_left
       ·simp only [Act.put, List.setIfInBounds_toArray, List.set_cons_zero, List.set_cons_succ, i64_w, i32_w]
        rfl
       refine pure_ (i := 9) (N := some 108) (v := ?_) (a' := ?_) #[true, true, true, true, true, true, true, true, true, true, false, false, false, false, false, false, false, false] rfl rfl (by as_aux_lemma => kernel_rfl) (fun _ _ _ h => h) (Or.inl ⟨by rfl, ?_⟩) ?_ ?_
       rotate_left
       ·intro w'
        go_simp
        with_reducible rfl
       rotate_left
       ·simp only [Act.put, List.setIfInBounds_toArray, List.set_cons_zero, List.set_cons_succ, i64_w, i32_w]
        rfl
       refine pure_ (i := 10) (N := some 109) (v := ?_) (a' := ?_) #[true, true, true, true, true, true, true, true, true, true, true, false, false, false, false, false, false, false] rfl rfl (by as_aux_lemma => kernel_rfl) (fun _ _ _ h => h) (Or.inl ⟨by rfl, ?_⟩) ?_ ?_
       rotate_left
       ·intro w'
        go_simp
        with_reducible rfl
       rotate_left
       ·simp only [Act.put, List.setIfInBounds_toArray, List.set_cons_zero, List.set_cons_succ, i64_w, i32_w]
        rfl
       refine pure_ (i := 11) (N := some 110) (v := ?_) (a' := ?_) #[true, true, true, true, true, true, true, true, true, true, true, true, false, false, false, false, false, false] rfl rfl (by as_aux_lemma => kernel_rfl) (fun _ _ _ h => h) (Or.inl ⟨by rfl, ?_⟩) ?_ ?_
       rotate_left
       ·intro w'
        go_simp
        with_reducible rfl
       rotate_left
       ·simp only [Act.put, List.setIfInBounds_toArray, List.set_cons_zero, List.set_cons_succ, i64_w, i32_w]
        rfl
       refine pure_ (i := 12) (N := some 111) (v := ?_) (a' := ?_) #[true, true, true, true, true, true, true, true, true, true, true, true, true, false, false, false, false, false] rfl rfl (by as_aux_lemma => kernel_rfl) (fun _ _ _ h => h) (Or.inl ⟨by rfl, ?_⟩) ?_ ?_
       rotate_left
       ·intro w'
        go_simp
        with_reducible rfl
       rotate_left
       ·simp only [Act.put, List.setIfInBounds_toArray, List.set_cons_zero, List.set_cons_succ, i64_w, i32_w]
        rfl
       refine pure_ (i := 13) (N := some 112) (v := ?_) (a' := ?_) #[true, true, true, true, true, true, true, true, true, true, true, true, true, true, false, false, false, false] rfl rfl (by as_aux_lemma => kernel_rfl) (fun _ _ _ h => h) (Or.inl ⟨by rfl, ?_⟩) ?_ ?_
       rotate_left
       ·intro w'
        go_simp
        with_reducible rfl
       rotate_left
       ·simp only [Act.put, List.setIfInBounds_toArray, List.set_cons_zero, List.set_cons_succ, i64_w, i32_w]
        rfl
       refine one_ (i := 14) (N := some 113) #[true, true, true, true, true, true, true, true, true, true, true, true, true, true, true, false, false, false] rfl rfl (by as_aux_lemma => kernel_rfl) (by decide) (fun K hK => ?_)
       refine goes_ Tryd.func31 (by as_aux_lemma => kernel_rfl) rfl #[.slice A10 k c10, .slice A6 k c6] (by rfl) rfl rfl (by (try simp only [List.map_toArray, List.map_cons, List.map_nil]); first | done | rfl) ?_
       refine (names_eq (b1 := W0.heap.size) (b2 := W0.heap.size) (ns := ns) (ms := s.path) (d1 := c10) (d2 := c6) (by rw [← HNL.out]; exact HNR71.out.1) (by rw [← HMM.out]; exact HM71.out.pth) k (by rw [← HNL.out]; omega) (by rw [← HMM.out]; exact hkm2) (by omega) c10 c6).mono ?_
       rintro o W8 ⟨rfl, hb8⟩
       have HM8 := Aside0.mk (HM71.out.step hb8)
       have HNR8 := Aside0.mk (And.intro (Kd.R_below HNR71.out.1 hb8) (Kd.C_below HNR71.out.2 hb8))
       have B128 := Aside0.mk (B1271.out.below hb8)
       have HS8 := Aside0.mk (And.intro HS71.out hb8.size)
       clear hb8 HM71 HNR71 B1271 HS71
       refine ⟨_, rfl, ?_⟩
       refine hK.out _ _ trivial (fun _ => ?_)
       clear hK K
       by_cases heq : ¬ ns.take k = s.path.take k
       ·have HNONE : Aside0 (stepB s (rowU r) = none) := ⟨by rw [HSTEP.out, if_pos heq]⟩
        rw [show decide (ns.take k = s.path.take k) = false from decide_eq_false heq]
        clear heq
        refine pure_ (i := 15) (N := some 114) (v := ?_) (a' := ?_) #[true, true, true, true, true, true, true, true, true, true, true, true, true, true, true, true, false, false] rfl rfl (by as_aux_lemma => kernel_rfl) (fun _ _ _ h => h) (Or.inl ⟨by rfl, ?_⟩) ?_ ?_
        rotate_left
        ·intro w'
         go_simp
         with_reducible rfl
        rotate_left
        ·simp only [Act.put, List.setIfInBounds_toArray, List.set_cons_zero, List.set_cons_succ, i64_w, i32_w]
         rfl
        refine pure_ (i := 16) (N := some 115) (v := ?_) (a' := ?_) #[true, true, true, true, true, true, true, true, true, true, true, true, true, true, true, true, true, false] rfl rfl (by as_aux_lemma => kernel_rfl) (fun _ _ _ h => h) (Or.inl ⟨by rfl, ?_⟩) ?_ ?_
        rotate_left
        ·intro w'
         go_simp
         with_reducible rfl
        rotate_left
        ·simp only [Act.put, List.setIfInBounds_toArray, List.set_cons_zero, List.set_cons_succ, i64_w, i32_w]
         rfl
        refine pure_ (i := 17) (N := some 16) (v := ?_) (a' := ?_) #[true, true, true, true, true, true, true, true, true, true, true, true, true, true, true, true, true, true] rfl rfl (by as_aux_lemma => kernel_rfl) (fun _ _ _ h => h) (Or.inl ⟨by rfl, ?_⟩) ?_ ?_
        rotate_left
        ·intro w'
         go_simp
         with_reducible rfl
        rotate_left
        ·simp only [Act.put, List.setIfInBounds_toArray, List.set_cons_zero, List.set_cons_succ, i64_w, i32_w]
         rfl
        refine done_ (by as_aux_lemma => kernel_rfl) ?_
        as_aux_lemma =>
         have HBAD : Aside0 (buildP us = (zeroT, 64, (i : Int))) := ⟨HS.out.bad HR.out.1 HNONE.out⟩
         have R2F := Aside0.mk (R0.out.below HM8.out.below)
         have R3F := Aside0.mk (R1.out.below HM8.out.below)
         have y10 := R2F.out.frozen 0
         have y11 := R2F.out.frozen 1
         have y12 := R2F.out.frozen 2
         have y13 := R2F.out.frozen 3
         have y14 := R3F.out.frozen 0
         have y15 := R3F.out.frozen 1
         obtain ⟨k0, k1, k2, k3⟩ := cells4 R2F.out
         have k4 := R3F.out.cell 0 _ rfl
         have k5 := R3F.out.cell 1 _ rfl
         have hne : b3 ≠ b2 := by have := HZ.out; omega
         have hne2 : b2 ≠ b3 := by have := HZ.out; omega
         go_wp2_with fail
         obtain ⟨Wf, hWf⟩ : ∃ Wf, Wf = (((((W8.setCell ⟨b2, 0, none⟩ (.int .i64 0)).setCell ⟨b2, 1, none⟩ (.bool false)).setCell ⟨b2, 2, none⟩ (.string ⟨#[]⟩)).setCell ⟨b2, 3, none⟩ (.slice none 0 0)).setCell ⟨b3, 0, none⟩ (.int .i64 64)).setCell ⟨b3, 1, none⟩ (.int .i64 i) := ⟨_, rfl⟩
         obtain ⟨f1, f2, f3, f4⟩ := fin_all HZ.out (below_step HB0.out HM8.out.below) R2F.out R3F.out (Own.nil W8 W0.heap.size (fun _ => True)) hWf
         rw [← hWf, HBAD.out]
         obtain ⟨z0, z1, z2, z3⟩ := cells4 f3
         have z4 := f4.cell 0 _ rfl
         have z5 := f4.cell 1 _ rfl
         refine bodyPost_ret (v := .tuple #[.agg #[.int .i64 0, .bool false, .string ⟨#[]⟩, .slice none 0 0], .agg #[.int .i64 64, .int .i64 i]]) (by simp [results, Tryd.results11, go_sem, z0, z1, z2, z3, z4, z5]) rfl ⟨_, rfl, f1, f2⟩
       ·rw [show decide (ns.take k = s.path.take k) = true from decide_eq_true (Decidable.of_not_not heq)]
        have HEQ := Aside0.mk (Decidable.of_not_not heq)
        clear heq
        refine pure_ (i := 15) (N := some 114) (v := ?_) (a' := ?_) #[true, true, true, true, true, true, true, true, true, true, true, true, true, true, true, true, false, false] rfl rfl (by as_aux_lemma => kernel_rfl) (fun _ _ _ h => h) (Or.inl ⟨by rfl, ?_⟩) ?_ ?_
        rotate_left
        ·intro w'
         go_simp
         with_reducible rfl
        rotate_left
        ·simp only [Act.put, List.setIfInBounds_toArray, List.set_cons_zero, List.set_cons_succ, i64_w, i32_w]
         rfl
        refine pure_ (i := 16) (N := some 115) (v := ?_) (a' := ?_) #[true, true, true, true, true, true, true, true, true, true, true, true, true, true, true, true, true, false] rfl rfl (by as_aux_lemma => kernel_rfl) (fun _ _ _ h => h) (Or.inl ⟨by rfl, ?_⟩) ?_ ?_
        rotate_left
        ·intro w'
         go_simp
         with_reducible rfl
        rotate_left
        ·simp only [Act.put, List.setIfInBounds_toArray, List.set_cons_zero, List.set_cons_succ, i64_w, i32_w]
         rfl
        refine pure_ (i := 17) (N := some 16) (v := ?_) (a' := ?_) #[true, true, true, true, true, true, true, true, true, true, true, true, true, true, true, true, true, true] rfl rfl (by as_aux_lemma => kernel_rfl) (fun _ _ _ h => h) (Or.inl ⟨by rfl, ?_⟩) ?_ ?_
        rotate_left
        ·intro w'
         go_simp
         with_reducible rfl
        rotate_left
        ·simp only [Act.put, List.setIfInBounds_toArray, List.set_cons_zero, List.set_cons_succ, i64_w, i32_w]
         rfl
        refine done_ (by as_aux_lemma => kernel_rfl) ?_
        go_wp2_with fail
        obtain ⟨gd, od, d, Ad, cd, fk, cur, tt, j1, j2, j3, j4, j5, j6, j7, j8, j9, j10, j11⟩ := HM8.out.dir k (by rw [← HMM.out]; exact hkm2)
        have hop := HM8.out.opn
        rw [HFR.out] at hop
        obtain ⟨gO, hA5⟩ : ∃ g, A5 = some ⟨g, 0, none⟩ := by
         rcases hop.2 with ⟨h0, _⟩ | ⟨g, cap, cur, hv, _⟩
         ·injection h0 with _ h0 _; omega
         ·injection hv with h1 _ _; exact ⟨g, h1⟩
        subst hA5
        have ec : W8.cell? ⟨gO, k, none⟩ = some (.pointer (some ⟨gd, od, none⟩)) := by
         have := hop.cells (g := gO) rfl k _ j1
         rw [add_plain] at this
         exact this
        obtain ⟨adN, hAN, en⟩ := names_drop (w := W8) (A := A10) (ns := ns) (by rw [← HNL.out]; exact HNR8.out.2) k (by rw [← HNL.out]; omega)
        subst hAN
        have hlk : ns[k]'(by rw [← HNL.out]; omega) = last := (List.getElem?_eq_some_iff.1 HNM.out.2.2.2).2
        rw [hlk] at en
        have HJ := Aside0.mk (And.intro j1 (And.intro j2 (And.intro j5 (And.intro j6 (And.intro j7 (And.intro j8 (And.intro j9 (And.intro j10 j11))))))))
        clear j1 j2 j5 j6 j7 j8 j9 j10 j11 hop hlk
        have q3 : (k : Int) < (m : Int) + 1 := by omega
        have q4 : (k : Int) < (k : Int) + 1 := by omega
        refine start_ (n := 10) (S := fun w' => w'.cell? ⟨gO, k, none⟩ = some (.pointer (some ⟨gd, od, none⟩)) ∧ w'.cell? (adN.add k) = some (.string last)) (ds := []) #[false, false, false, false, false, false, false, false, false, false] (by as_aux_lemma => kernel_rfl) rfl rfl (⟨pw_cell_below (below_drew (Below.refl _ _)) ec, pw_cell_below (below_drew (Below.refl _ _)) en⟩) (fun hHeld => ?_)
        have hdr : Below W8.heap.size W8 W8.drew := below_drew (Below.refl _ _)
        have HM9 := Aside0.mk (HM8.out.step hdr)
        have HNR9 := Aside0.mk (And.intro (Kd.R_below HNR8.out.1 hdr) (Kd.C_below HNR8.out.2 hdr))
        have B129 := Aside0.mk (B128.out.below hdr)
        have HS9 := Aside0.mk (And.intro HS8.out hdr.size)
        replace j3 := pw_cell_below hdr j3
        replace j4 := pw_cell_below hdr j4
        have HOW9 := Aside0.mk (HJ.out.2.2.2.2.2.2.1.newer hdr)
        generalize W8.drew = W9 at *
        clear hdr HM8 HNR8 B128 HS8 ec en
        refine pure_ (i := 0) (N := some 118) (v := ?_) (a' := ?_) #[true, false, false, false, false, false, false, false, false, false] rfl rfl (by as_aux_lemma => kernel_rfl) (fun _ _ _ h => h) (Or.inl ⟨by rfl, ?_⟩) ?_ ?_
        rotate_left
        ·intro w'
         go_simp
         with_reducible rfl
        rotate_left
        ·simp only [Act.put, List.setIfInBounds_toArray, List.set_cons_zero, List.set_cons_succ, i64_w, i32_w]
         rfl
        refine pure_ (i := 1) (N := some 119) (v := ?_) (a' := ?_) #[true, true, false, false, false, false, false, false, false, false] rfl rfl (by as_aux_lemma => kernel_rfl) (fun _ _ _ h => h) (Or.inl ⟨by rfl, ?_⟩) ?_ ?_
        rotate_left
        ·intro w'
         go_simp
         with_reducible rfl
        rotate_left
        ·simp only [Act.put, List.setIfInBounds_toArray, List.set_cons_zero, List.set_cons_succ, i64_w, i32_w]
         rfl
        refine pure_ (i := 2) (N := some 120) (v := ?_) (a' := ?_) #[true, true, true, false, false, false, false, false, false, false] rfl rfl (by as_aux_lemma => kernel_rfl) (fun _ _ _ h => h) (Or.inl ⟨by rfl, ?_⟩) ?_ ?_
        rotate_left
        ·intro w'
         go_simp
         with_reducible rfl
        rotate_left
        ·simp only [Act.put, List.setIfInBounds_toArray, List.set_cons_zero, List.set_cons_succ, i64_w, i32_w]
         rfl
        refine take_ (i := 3) (N := some 121) (v := ?_) (a' := ?_) #[true, true, true, true, false, false, false, false, false, false] rfl rfl (by as_aux_lemma => kernel_rfl) (fun _ _ _ h => h) (Or.inl ⟨by rfl, ?_⟩) hHeld ?_ ?_
        rotate_left
        ·rintro w' ⟨s0, s1⟩
         go_simp
         with_reducible rfl
        rotate_left
        ·simp only [Act.put, List.setIfInBounds_toArray, List.set_cons_zero, List.set_cons_succ, i64_w, i32_w]
         rfl
        refine pure_ (i := 4) (N := some 122) (v := ?_) (a' := ?_) #[true, true, true, true, true, false, false, false, false, false] rfl rfl (by as_aux_lemma => kernel_rfl) (fun _ _ _ h => h) (Or.inl ⟨by rfl, ?_⟩) ?_ ?_
        rotate_left
        ·intro w'
         go_simp
         with_reducible rfl
        rotate_left
        ·simp only [Act.put, List.setIfInBounds_toArray, List.set_cons_zero, List.set_cons_succ, i64_w, i32_w]
         rfl
        refine pure_ (i := 5) (N := some 123) (v := ?_) (a' := ?_) #[true, true, true, true, true, true, false, false, false, false] rfl rfl (by as_aux_lemma => kernel_rfl) (fun _ _ _ h => h) (Or.inl ⟨by rfl, ?_⟩) ?_ ?_
        rotate_left
        ·intro w'
         go_simp
         with_reducible rfl
        rotate_left
        ·simp only [Act.put, List.setIfInBounds_toArray, List.set_cons_zero, List.set_cons_succ, i64_w, i32_w]
         rfl
        refine pure_ (i := 6) (N := some 124) (v := ?_) (a' := ?_) #[true, true, true, true, true, true, true, false, false, false] rfl rfl (by as_aux_lemma => kernel_rfl) (fun _ _ _ h => h) (Or.inl ⟨by rfl, ?_⟩) ?_ ?_
        rotate_left
        ·intro w'
         go_simp
         with_reducible rfl
        rotate_left
        ·simp only [Act.put, List.setIfInBounds_toArray, List.set_cons_zero, List.set_cons_succ, i64_w, i32_w]
         rfl
        refine take_ (i := 7) (N := some 125) (v := ?_) (a' := ?_) #[true, true, true, true, true, true, true, true, false, false] rfl rfl (by as_aux_lemma => kernel_rfl) (fun _ _ _ h => h) (Or.inl ⟨by rfl, ?_⟩) hHeld ?_ ?_
        rotate_left
        ·rintro w' ⟨s0, s1⟩
         go_simp
         with_reducible rfl
        rotate_left
        ·simp only [Act.put, List.setIfInBounds_toArray, List.set_cons_zero, List.set_cons_succ, i64_w, i32_w]
         rfl
        refine pure_ (i := 8) (N := some 18) (v := ?_) (a' := ?_) #[true, true, true, true, true, true, true, true, true, false] rfl rfl (by as_aux_lemma => kernel_rfl) (fun _ _ _ h => h) (Or.inl ⟨by rfl, ?_⟩) ?_ ?_
        rotate_left
        ·intro w'
         go_simp
         with_reducible rfl
        rotate_left
        ·simp only [Act.put, List.setIfInBounds_toArray, List.set_cons_zero, List.set_cons_succ, i64_w, i32_w]
         rfl
        refine pure_ (i := 9) (N := some 19) (v := ?_) (a' := ?_) #[true, true, true, true, true, true, true, true, true, true] rfl rfl (by as_aux_lemma => kernel_rfl) (fun _ _ _ h => h) (Or.inl ⟨by rfl, ?_⟩) ?_ ?_
        rotate_left
        ·intro w'
         go_simp
         with_reducible rfl
        rotate_left
        ·simp only [Act.put, List.setIfInBounds_toArray, List.set_cons_zero, List.set_cons_succ, i64_w, i32_w]
         rfl
        refine done_ (by as_aux_lemma => kernel_rfl) ?_
        clear hHeld
        go_wp2_with fail
        rename_i K3_ a3_ K2_ K1_ h1_ x1_ Q1_ a2_ a1_ K0_ a0_
        have TAIL : ∀ (WA : World) (wr_ : Bool) (e130 e131 e132 e133 e134 e135 e136 e137 e138 e139 e140 e141 e142 e143 e144 e145 e146 e147 e148 e149 e150 e151 e152 e153 e154 e155 : Value), Aside0 (wr_ = (decide (d.1 ≠ 3) || !lastLt d.2.2.2 last)) → Aside0 (Below W9.heap.size W9 WA) →
          Exit.then K0_ (Exit.then K1_ (Exit.inBlock 1 (Exit.then K2_ Q1_))) Exit.normal { tmps := #[Value.slice (some ad) rows.length c, undef, Value.pointer (some { block := b2, off := 0 }), Value.pointer (some { block := b3, off := 0 }), Value.int IntKind.i64 (s.bytes + (z - 24)), Value.slice (some { block := gO, off := 0 }) (m + 1) c5, Value.slice A6 m c6, Value.pointer (some { block := br, off := 0 }), Value.int IntKind.i64 ↑i, Value.pointer (some { block := b9, off := 0 }), Value.slice (some adN) (k + 1) c10, Value.pointer (some { block := b11, off := 0 }), Value.pointer (some { block := b12, off := 0 }), Value.string lp, Value.int IntKind.i64 0, Value.int IntKind.i64 z, Value.bool wr_, Value.int IntKind.i64 ↑k, Value.pointer (some { block := gd, off := od }), Value.string last, Value.slice (some ad) rows.length c, Value.int IntKind.i64 ↑rows.length, Value.bool false, undef, undef, Value.slice (some { block := W0.heap.size, off := 0 }) 1 1, Value.int IntKind.i64 24, ov0, Value.agg #[Value.int IntKind.i64 0, Value.bool false, Value.string { data := #[] }, Value.slice none 0 0], Value.pointer (some { block := br, off := 0 }), Value.slice (some ad) rows.length c, Value.int IntKind.i64 ↑rows.length, Value.int IntKind.i64 ↑i, Value.bool true, Value.int IntKind.i64 ↑i, Value.pointer (some (ad.add (i * 4))), Value.agg #[Value.string r.f0, Value.int IntKind.i64 r.f1, Value.bool r.f2, Value.string r.f3], Value.tuple #[Value.slice (some adN) (k + 1) c10, Value.agg #[Value.int IntKind.i64 0, Value.int IntKind.i64 at3]], Value.pointer (some { block := b9, off := 0 }), Value.string r.f0, Value.tuple #[Value.slice (some adN) (k + 1) c10, Value.agg #[Value.int IntKind.i64 0, Value.int IntKind.i64 at3]], Value.slice (some adN) (k + 1) c10, Value.agg #[Value.int IntKind.i64 0, Value.int IntKind.i64 at3], Value.pointer (some { block := b9, off := 1 }), Value.int IntKind.i64 r.f1, Value.pointer (some { block := b9, off := 2 }), Value.bool r.f2, Value.pointer (some { block := b9, off := 3 }), Value.string r.f3, Value.agg #[Value.int IntKind.i64 r.f1, Value.bool r.f2, Value.string r.f3, Value.slice none 0 0], Value.tuple #[Value.string lp, Value.int IntKind.i64 0, Value.int IntKind.i64 z], Value.agg #[Value.int IntKind.i64 r.f1, Value.bool r.f2, Value.string r.f3, Value.slice none 0 0], Value.tuple #[Value.string lp, Value.int IntKind.i64 0, Value.int IntKind.i64 z], Value.string lp, Value.int IntKind.i64 0, Value.int IntKind.i64 z, Value.int IntKind.i64 s.bytes, Value.int IntKind.i64 z, Value.slice (some { block := W6.heap.size, off := 0 }) 1 1, Value.int IntKind.i64 24, Value.int IntKind.i64 (z - 24), Value.int IntKind.i64 (s.bytes + (z - 24)), Value.pointer (some { block := b11, off := 0 }), Value.int IntKind.i64 0, Value.bool false, Value.bool false, Value.int IntKind.i64 0, Value.bool false, Value.bool false, Value.bool false, Value.int IntKind.i64 ↑i, Value.bool false, Value.slice (some adN) (k + 1) c10, Value.int IntKind.i64 (↑k + 1), Value.bool false, Value.bool false, Value.bool false, Value.bool false, Value.bool true, Value.bool true, Value.int IntKind.i64 ↑i, Value.bool false, Value.bool false, u83, u84, u85, u86, u87, u88, u89, Value.bool false, Value.bool true, Value.bool true, Value.int IntKind.i64 ↑i, Value.bool true, Value.bool true, Value.slice (some adN) (k + 1) c10, Value.int IntKind.i64 (↑k + 1), Value.int IntKind.i64 ↑k, Value.slice (some { block := gO, off := 0 }) (m + 1) c5, Value.int IntKind.i64 (↑m + 1), Value.int IntKind.i64 ↑k, Value.bool false, Value.bool false, Value.slice (some adN) (k + 1) c10, Value.int IntKind.i64 ↑k, Value.slice (some adN) k c10, Value.slice A6 m c6, Value.int IntKind.i64 ↑k, Value.slice A6 m c6, Value.int IntKind.i64 ↑m, Value.int IntKind.i64 ↑k, Value.slice A6 k c6, Value.bool true, Value.bool false, Value.bool false, Value.bool false, Value.bool true, Value.slice (some { block := gO, off := 0 }) (m + 1) c5, Value.int IntKind.i64 ↑k, Value.pointer (some { block := gO, off := k }), Value.pointer (some { block := gd, off := od }), Value.slice (some adN) (k + 1) c10, Value.int IntKind.i64 ↑k, Value.pointer (some (adN.add k)), Value.string last, Value.pointer (some { block := gd, off := od }), Value.pointer (some { block := gd, off := od }), Value.pointer (some { block := gd, off := od }), Value.int IntKind.i64 d.fst, e130, e131, e132, e133, e134, e135, e136, e137, e138, e139, e140, e141, e142, e143, e144, e145, e146, e147, e148, e149, e150, e151, e152, e153, e154, e155, u156, u157, u158, u159, u160, u161, u162, u163, u164, u165, u166, u167, u168, u169, u170, u171, u172, u173, u174, u175, u176, u177, u178, u179, u180, u181, u182, u183, u184, u185, u186, u187, u188, u189, u190, u191, u192, u193, u194, u195, u196, u197, u198, u199, u200, u201, u202, u203, undef, undef, undef, undef], defers := [] } WA := by
         intro WA wr_ e130 e131 e132 e133 e134 e135 e136 e137 e138 e139 e140 e141 e142 e143 e144 e145 e146 e147 e148 e149 e150 e151 e152 e153 e154 e155 HWR HBW
         have HM91 := Aside0.mk (HM9.out.step HBW.out)
         have HNR91 := Aside0.mk (And.intro (Kd.R_below HNR9.out.1 HBW.out) (Kd.C_below HNR9.out.2 HBW.out))
         have B1291 := Aside0.mk (B129.out.below HBW.out)
         have HS91 := Aside0.mk (And.intro HS9.out HBW.out.size)
         replace j3 := pw_cell_below HBW.out j3
         replace j4 := pw_cell_below HBW.out j4
         clear HBW HM9 HNR9 B129 HS9 HOW9
         go_wp2_with fail
         have hlsz : last.size ≤ 4611686018427387904 := by
          have := nameE_size (HNM.out.1 last (List.mem_of_getElem? HNM.out.2.2.2))
          omega
         (with_reducible refine (framed_ent last hlsz WA).mono ?_)
         clear hlsz
         rintro o WB ⟨rfl, hbB⟩
         have HMB := Aside0.mk (HM91.out.step hbB.out)
         have HNRB := Aside0.mk (And.intro (Kd.R_below HNR91.out.1 hbB.out) (Kd.C_below HNR91.out.2 hbB.out))
         have B12B := Aside0.mk (B1291.out.below hbB.out)
         have HSB := Aside0.mk (And.intro HS91.out hbB.out.size)
         replace j3 := pw_cell_below hbB.out j3
         replace j4 := pw_cell_below hbB.out j4
         obtain ⟨eL, heL⟩ : ∃ e, e = entS last := ⟨_, rfl⟩
         have hEL : 0 ≤ eL ∧ eL ≤ 10000000000000 := by rw [heL]; exact entS_range last
         obtain ⟨v1_, v2_⟩ := hEL
         rw [← heL] at HSTEP ⊢
         have HEL := Aside0.mk heL
         clear hbB HM91 HNR91 B1291 HS91 heL
         go_wp2_with fail
         obtain ⟨x12, x13, x14, x15⟩ := cells4 B12B.out
         have hdrB : Below WB.heap.size WB WB.drew := below_drew (Below.refl _ _)
         refine start_ (n := 15) (S := fun w' => w'.cell? ⟨gd, od + 3, none⟩ = some (.slice Ad d.2.2.2.length cd) ∧ w'.cell? ⟨b12, 0, none⟩ = some (.int .i64 r.f1) ∧ w'.cell? ⟨b12, 1, none⟩ = some (.bool r.f2) ∧ w'.cell? ⟨b12, 2, none⟩ = some (.string r.f3) ∧ w'.cell? ⟨b12, 3, none⟩ = some (.slice none 0 0)) (ds := [11,14]) #[false, false, false, false, false, false, false, false, false, false, false, false, false, false, false] (by as_aux_lemma => kernel_rfl) rfl rfl (⟨pw_cell_below hdrB j4, pw_cell_below hdrB x12, pw_cell_below hdrB x13, pw_cell_below hdrB x14, pw_cell_below hdrB x15⟩) (fun hHeld => ?_)
         have HMC := Aside0.mk (HMB.out.step hdrB)
         have HNRC := Aside0.mk (And.intro (Kd.R_below HNRB.out.1 hdrB) (Kd.C_below HNRB.out.2 hdrB))
         have B12C := Aside0.mk (B12B.out.below hdrB)
         have HSC := Aside0.mk (And.intro HSB.out hdrB.size)
         replace j3 := pw_cell_below hdrB j3
         replace j4 := pw_cell_below hdrB j4
         generalize WB.drew = WC at *
         clear hdrB HMB HNRB B12B HSB x12 x13 x14 x15
         obtain ⟨g4, o4, d4, A4, c4, fk4, cur4, tt4, i1, i2, i3, i4, i5, i6, i7, i8, i9, i10, i11⟩ := HMC.out.dir k (by rw [← HMM.out]; exact hkm2)
         have hx1 := i1.symm.trans HJ.out.1
         simp only [Option.some.injEq, Value.pointer.injEq, Addr.mk.injEq] at hx1
         obtain ⟨hx2, hx3, _⟩ := hx1
         subst hx2 hx3
         have hx4 := i2.symm.trans HJ.out.2.1
         injection hx4 with hx4
         subst hx4
         have hx5 := i4.symm.trans j4
         simp only [Option.some.injEq, Value.slice.injEq] at hx5
         obtain ⟨hx6, _, hx7⟩ := hx5
         subst hx6 hx7
         have HLN : Aside0 (d4.2.2.2.length ≤ 1048576) := ⟨spine_len (HS.out.inv (by have := HI0.out; omega)) HJ.out.2.1⟩
         have hlcd : d4.2.2.2.length ≤ c4 := by obtain ⟨_, _, hv, hl⟩ := i9.slice; injection hv with _ _ hv; omega
         have HI := Aside0.mk (And.intro i5 (And.intro i6 (And.intro i7 (And.intro i8 (And.intro i9 (And.intro i10 i11))))))
         clear i1 i2 i3 i4 i5 i6 i7 i8 i9 i10 i11
         refine pure_ (i := 0) (N := some 161) (v := ?_) (a' := ?_) #[true, false, false, false, false, false, false, false, false, false, false, false, false, false, false] rfl rfl (by as_aux_lemma => kernel_rfl) (fun _ _ _ h => h) (Or.inl ⟨by rfl, ?_⟩) ?_ ?_
         rotate_left
         ·intro w'
          go_simp
          with_reducible rfl
         rotate_left
         ·simp only [Act.put, List.setIfInBounds_toArray, List.set_cons_zero, List.set_cons_succ, i64_w, i32_w]
          rfl
         refine pure_ (i := 1) (N := some 162) (v := ?_) (a' := ?_) #[true, true, false, false, false, false, false, false, false, false, false, false, false, false, false] rfl rfl (by as_aux_lemma => kernel_rfl) (fun _ _ _ h => h) (Or.inl ⟨by rfl, ?_⟩) ?_ ?_
         rotate_left
         ·intro w'
          go_simp
          with_reducible rfl
         rotate_left
         ·simp only [Act.put, List.setIfInBounds_toArray, List.set_cons_zero, List.set_cons_succ, i64_w, i32_w]
          rfl
         refine pure_ (i := 2) (N := some 163) (v := ?_) (a' := ?_) #[true, true, true, false, false, false, false, false, false, false, false, false, false, false, false] rfl rfl (by as_aux_lemma => kernel_rfl) (fun _ _ _ h => h) (Or.inl ⟨by rfl, ?_⟩) ?_ ?_
         rotate_left
         ·intro w'
          go_simp
          with_reducible rfl
         rotate_left
         ·simp only [Act.put, List.setIfInBounds_toArray, List.set_cons_zero, List.set_cons_succ, i64_w, i32_w]
          rfl
         refine take_ (i := 3) (N := some 164) (v := ?_) (a' := ?_) #[true, true, true, true, false, false, false, false, false, false, false, false, false, false, false] rfl rfl (by as_aux_lemma => kernel_rfl) (fun _ _ _ h => h) (Or.inl ⟨by rfl, ?_⟩) hHeld ?_ ?_
         rotate_left
         ·rintro w' ⟨s0, s1, s2, s3, s4⟩
          go_simp
          with_reducible rfl
         rotate_left
         ·simp only [Act.put, List.setIfInBounds_toArray, List.set_cons_zero, List.set_cons_succ, i64_w, i32_w]
          rfl
         refine pure_ (i := 4) (N := some 165) (v := ?_) (a' := ?_) #[true, true, true, true, true, false, false, false, false, false, false, false, false, false, false] rfl rfl (by as_aux_lemma => kernel_rfl) (fun _ _ _ h => h) (Or.inl ⟨by rfl, ?_⟩) ?_ ?_
         rotate_left
         ·intro w'
          go_simp
          with_reducible rfl
         rotate_left
         ·simp only [Act.put, List.setIfInBounds_toArray, List.set_cons_zero, List.set_cons_succ, i64_w, i32_w]
          rfl
         refine take_ (i := 5) (N := some 166) (v := ?_) (a' := ?_) #[true, true, true, true, true, true, false, false, false, false, false, false, false, false, false] rfl rfl (by as_aux_lemma => kernel_rfl) (fun _ _ _ h => h) (Or.inl ⟨by rfl, ?_⟩) hHeld ?_ ?_
         rotate_left
         ·rintro w' ⟨s0, s1, s2, s3, s4⟩
          go_simp
          with_reducible rfl
         rotate_left
         ·simp only [Act.put, List.setIfInBounds_toArray, List.set_cons_zero, List.set_cons_succ, i64_w, i32_w]
          rfl
         refine pure_ (i := 6) (N := some 167) (v := ?_) (a' := ?_) #[true, true, true, true, true, true, true, false, false, false, false, false, false, false, false] rfl rfl (by as_aux_lemma => kernel_rfl) (fun _ _ _ h => h) (Or.inl ⟨by rfl, ?_⟩) ?_ ?_
         rotate_left
         ·intro w'
          go_simp
          with_reducible rfl
         rotate_left
         ·simp only [Act.put, List.setIfInBounds_toArray, List.set_cons_zero, List.set_cons_succ, i64_w, i32_w]
          rfl
         refine pure_ (i := 7) (N := some 168) (v := ?_) (a' := ?_) #[true, true, true, true, true, true, true, true, false, false, false, false, false, false, false] rfl rfl (by as_aux_lemma => kernel_rfl) (fun _ _ _ h => h) (Or.inl ⟨by rfl, ?_⟩) ?_ ?_
         rotate_left
         ·intro w'
          go_simp
          with_reducible rfl
         rotate_left
         ·simp only [Act.put, List.setIfInBounds_toArray, List.set_cons_zero, List.set_cons_succ, i64_w, i32_w]
          rfl
         refine one_ (i := 8) (N := some 169) #[true, true, true, true, true, true, true, true, true, false, false, false, false, false, false] rfl rfl (by as_aux_lemma => kernel_rfl) (by decide) (fun K hK => ?_)
         refine value_ (w1 := WC.alloc (.cells #[.string ⟨#[]⟩, .int .i64 0, .bool false, .string ⟨#[]⟩, .slice none 0 0] 63)) (v := .slice (some ⟨WC.heap.size, 0, none⟩) 1 1) (by rfl) rfl ?_ ?_
         ·go_simp
         have hal : Below WC.heap.size WC (WC.alloc (.cells #[.string ⟨#[]⟩, .int .i64 0, .bool false, .string ⟨#[]⟩, .slice none 0 0] 63)) := below_alloc (Below.refl _ _) _
         refine hK.out _ _ ⟨pw_cell_below hal hHeld.1, pw_cell_below hal hHeld.2.1, pw_cell_below hal hHeld.2.2.1, pw_cell_below hal hHeld.2.2.2.1, pw_cell_below hal hHeld.2.2.2.2⟩ (fun _ => ?_)
         clear hK K hal
         refine norm_ (a' := ?_) ?_ ?_
         rotate_left
         ·simp only [Act.put, List.setIfInBounds_toArray, List.set_cons_zero, List.set_cons_succ, i64_w, i32_w]
          rfl
         refine one_ (i := 9) (N := some 170) #[true, true, true, true, true, true, true, true, true, true, false, false, false, false, false] rfl rfl (by as_aux_lemma => kernel_rfl) (by decide) (fun K hK => ?_)
         obtain ⟨ts, hts, hP⟩ := HI.out.2.2.2.2.1.parts
         have hln : ts.length = d4.2.2.2.length := by have := congrArg List.length hts; rw [List.length_map] at this; exact this.symm
         refine step_append_cells (w0 := W0) W0.heap.size (by rfl) (.tmp 164) (.tmp 169) 30 63 (.agg #[.string ⟨#[]⟩, .int .i64 0, .bool false, .string ⟨#[]⟩, .slice none 0 0]) 5 72 rfl Tryd.underlying30 (by as_aux_lemma => kernel_rfl) rfl (by decide) (by decide)
          (.slice A4 d4.2.2.2.length c4) ts.length (fl ts) (ecells zeroE (.slice none 0 0)) (by rfl) (by rfl) rfl (ecells_one rfl) hP.row HMC.out.below HMC.out.big (by have := HLN.out; omega) ?_
         intro v1 wn hrow hb1 hgr hat
         have hOn : Own wn W0.heap.size (fun j => fk4 j ∨ WC.heap.size ≤ j) v1 (d4.2.2.2 ++ [zeroE]) := by
          have h1 := hP.snoc (w1 := wn) (v1 := v1) (okn := fun j => fk4 j ∨ WC.heap.size ≤ j) (fun k hk => hk.2.2.1) ⟨zeroE, .slice none 0 0, fun _ => False⟩ (Own.nil _ _ _) (fun k hk => hk.elim) hrow hgr hat (fun k hk => .inl hk.1) (fun k hk => .inr hk)
          rw [← hts] at h1
          exact h1
         have hUn : Upd fk4 WC wn := Upd.of_grown hgr (fun j hj => .inl (hP.own j hj).1)
         have hbn : (∃ cells, WC.heap[b12]? = some (.cells cells 32 (0, 0))) ∧ Blk wn b12 32 [.int .i64 r.f1, .bool r.f2, .string r.f3, .slice none 0 0] := ⟨⟨_, B12C.out⟩, B12C.out.grown hgr (fun e => by
          obtain ⟨cells, hc⟩ := own_typed hP.row b12 e
          have hB := B12C.out
          unfold Blk at hB
          rw [hB] at hc
          injection hc with hc
          injection hc with _ hc
          exact absurd hc (by decide))⟩
         clear hrow hb1 hgr hat hts hP hln ts
         obtain ⟨A7, c7, hv1, hl7⟩ := hOn.slice
         rw [List.length_append, List.length_singleton] at hv1 hl7
         subst hv1
         obtain ⟨g1, hA7⟩ : ∃ g1, A7 = some ⟨g1, 0, none⟩ := by
          obtain ⟨g1, _, _, hA7, _⟩ := hOn.at_ (i := d4.2.2.2.length) (x := zeroE) (by simp)
          exact ⟨g1, hA7⟩
         subst hA7
         have hcn : wn.cell? ⟨g4, o4 + 3, none⟩ = some (.slice A4 d4.2.2.2.length c4) := by
          have hg := HI.out.2.1
          have h1 := hUn.block g4 (Array.getElem?_eq_some_iff.1 hg).1 HI.out.2.2.2.1
          unfold World.cell? at j4 ⊢
          rw [h1]; exact j4
         obtain ⟨x12, x13, x14, x15⟩ := cells4 hbn.2
         refine hK.out (Act.put _ (some 170) (.slice (some ⟨g1, 0, none⟩) (d4.2.2.2.length + 1) c7)) _ ⟨hcn, x12, x13, x14, x15⟩ (fun _ => ?_)
         clear hK K
         refine norm_ (a' := ?_) ?_ ?_
         rotate_left
         ·simp only [Act.put, List.setIfInBounds_toArray, List.set_cons_zero, List.set_cons_succ, i64_w, i32_w]
          rfl
         have HON := Aside0.mk (And.intro hOn hUn)
         have HBN := Aside0.mk hbn.2
         have q7 : (0 : Int) ≤ (d4.2.2.2.length : Int) := by omega
         have q8 : (d4.2.2.2.length : Int) < (d4.2.2.2.length : Int) + 1 := by omega
         have HL7 := Aside0.mk (And.intro hl7 (And.intro hlcd hcn))
         clear hOn hUn hbn x12 x13 x14 x15 hHeld hl7 hlcd hcn
         refine pure_ (i := 10) (N := some 171) (v := ?_) (a' := ?_) #[true, true, true, true, true, true, true, true, true, true, true, false, false, false, false] rfl rfl (by as_aux_lemma => kernel_rfl) (fun _ _ _ h => h) (Or.inl ⟨by rfl, ?_⟩) ?_ ?_
         rotate_left
         ·intro w'
          go_simp
          with_reducible rfl
         rotate_left
         ·simp only [Act.put, List.setIfInBounds_toArray, List.set_cons_zero, List.set_cons_succ, i64_w, i32_w]
          rfl
         refine pure_ (i := 12) (N := some 172) (v := ?_) (a' := ?_) #[true, true, true, true, true, true, true, true, true, true, true, false, true, false, false] rfl rfl (by as_aux_lemma => kernel_rfl) (fun _ _ _ h => h) (Or.inl ⟨by rfl, ?_⟩) ?_ ?_
         rotate_left
         ·intro w'
          go_simp
          with_reducible rfl
         rotate_left
         ·simp only [Act.put, List.setIfInBounds_toArray, List.set_cons_zero, List.set_cons_succ, i64_w, i32_w]
          rfl
         refine pure_ (i := 13) (N := some 173) (v := ?_) (a' := ?_) #[true, true, true, true, true, true, true, true, true, true, true, false, true, true, false] rfl rfl (by as_aux_lemma => kernel_rfl) (fun _ _ _ h => h) (Or.inl ⟨by rfl, ?_⟩) ?_ ?_
         rotate_left
         ·intro w'
          go_simp
          with_reducible rfl
         rotate_left
         ·simp only [Act.put, List.setIfInBounds_toArray, List.set_cons_zero, List.set_cons_succ, i64_w, i32_w]
          rfl
         have hg4 : g4 ≠ g1 := fun e => by
          obtain ⟨ts, _, hP⟩ := HON.out.1.parts
          rcases (hP.own g1 rfl).1 with h | h
          ·exact HI.out.2.2.2.1 (e ▸ h)
          ·have := (Array.getElem?_eq_some_iff.1 HI.out.2.1).1; omega
         obtain ⟨WE, hWE⟩ : ∃ W, W = (put5 wn g1 d4.2.2.2.length (leafX (rowU r) last) (.slice none 0 0)).setCell ⟨g4, o4 + 3, none⟩ (.slice (some ⟨g1, 0, none⟩) (d4.2.2.2.length + 1) c7) := ⟨_, rfl⟩
         have hWE2 : WE = put5 (wn.setCell ⟨g4, o4 + 3, none⟩ (.slice (some ⟨g1, 0, none⟩) (d4.2.2.2.length + 1) c7)) g1 d4.2.2.2.length (leafX (rowU r) last) (.slice none 0 0) := by rw [hWE, put5_comm hg4]
         have hat := HON.out.1.at_ (i := d4.2.2.2.length) (x := zeroE) (by simp)
         obtain ⟨g9, A9, c9, hA9, hq1, hq2, hq3, hq4, hfz, y20, y21, y22, y23, y24⟩ := hat
         clear hq1 hq2 hq3 hq4
         injection hA9 with hA9
         injection hA9 with hA9 _ _
         subst hA9
         have z20 := hfz (d4.2.2.2.length * 5)
         have z21 := hfz (d4.2.2.2.length * 5 + 1)
         have z22 := hfz (d4.2.2.2.length * 5 + 2)
         have z23 := hfz (d4.2.2.2.length * 5 + 3)
         have z24 := hfz (d4.2.2.2.length * 5 + 4)
         have hgh := HI.out.2.1
         have hgw : wn.heap[g4]? = some (.cells cur4 tt4 (0, 0)) := (HON.out.2.block g4 (Array.getElem?_eq_some_iff.1 hgh).1 HI.out.2.2.2.1).trans hgh
         have z25 : wn.frozen? ⟨g4, o4 + 3, none⟩ = false := blk_frozen hgw _
         have y25 := HL7.out.2.2
         have hg4' : g1 ≠ g4 := fun e => hg4 e.symm
         have HGW := Aside0.mk hgw
         clear hfz hgh hgw
         refine join_ (σ := Unit) 0 #[true, true, true, true, true, true, true, true, true, true, true, true, true, true, true] (fun _ => []) (fun _ w' => w' = WE) ?_ ?_
         rotate_left
         ·intro HJN
          as_aux_lemma =>
           refine twolast_ (i := 11) (j := 14) (Ni := none) (Nj := none) #[true, true, true, true, true, true, true, true, true, true, true, true, true, true, false] #[true, true, true, true, true, true, true, true, true, true, true, false, true, true, true] rfl rfl rfl rfl (by as_aux_lemma => kernel_rfl) (by decide) (by decide) (fun K hK => ?_) (fun K hK => ?_)
           ·refine skip_ (w1 := put5 wn g1 d4.2.2.2.length (leafX (rowU r) last) (.slice none 0 0)) (by rfl) rfl ?_ ?_
            ·show _ = Result.ok _ (((((wn.setCell ⟨g1, d4.2.2.2.length * 5, none⟩ (.string last)).setCell ⟨g1, d4.2.2.2.length * 5 + 1, none⟩ (.int .i64 r.f1)).setCell ⟨g1, d4.2.2.2.length * 5 + 2, none⟩ (.bool r.f2)).setCell ⟨g1, d4.2.2.2.length * 5 + 3, none⟩ (.string r.f3)).setCell ⟨g1, d4.2.2.2.length * 5 + 4, none⟩ (.slice none 0 0))
             go_simp
            refine hK.out _ _ ?_
            clear hK K
            have hgw2 := ((put5_upd wn g1 d4.2.2.2.length (leafX (rowU r) last) (.slice none 0 0)).block g4 (Array.getElem?_eq_some_iff.1 HGW.out).1 hg4).trans HGW.out
            have y26 : (put5 wn g1 d4.2.2.2.length (leafX (rowU r) last) (.slice none 0 0)).cell? ⟨g4, o4 + 3, none⟩ = some (.slice A4 d4.2.2.2.length c4) := by
             rw [cell_of_row _ g4 _ cur4 _ _ hgw2]
             rw [cell_of_row _ g4 _ cur4 _ _ HGW.out] at y25
             exact y25
            have z26 := blk_frozen hgw2 (o4 + 3)
            rw [hWE] at HJN
            generalize put5 wn g1 d4.2.2.2.length (leafX (rowU r) last) (.slice none 0 0) = W2 at *
            clear y20 y21 y22 y23 y24 y25 z20 z21 z22 z23 z24 z25 hgw2 hWE hWE2
            refine last_ (i := 14) (N := none) #[true, true, true, true, true, true, true, true, true, true, true, true, true, true, true] rfl rfl (by as_aux_lemma => kernel_rfl) (by decide) (fun K hK => ?_)
            refine skip_ (w1 := W2.setCell ⟨g4, o4 + 3, none⟩ (.slice (some ⟨g1, 0, none⟩) (d4.2.2.2.length + 1) c7)) (by rfl) rfl ?_ ?_
            ·go_simp
            refine hK.out _ _ ?_
            clear hK K
            exact HJN () _ rfl
           ·refine skip_ (w1 := wn.setCell ⟨g4, o4 + 3, none⟩ (.slice (some ⟨g1, 0, none⟩) (d4.2.2.2.length + 1) c7)) (by rfl) rfl ?_ ?_
            ·go_simp
            refine hK.out _ _ ?_
            clear hK K
            refine last_ (i := 11) (N := none) #[true, true, true, true, true, true, true, true, true, true, true, true, true, true, true] rfl rfl (by as_aux_lemma => kernel_rfl) (by decide) (fun K hK => ?_)
            refine skip_ (w1 := put5 (wn.setCell ⟨g4, o4 + 3, none⟩ (.slice (some ⟨g1, 0, none⟩) (d4.2.2.2.length + 1) c7)) g1 d4.2.2.2.length (leafX (rowU r) last) (.slice none 0 0)) (by rfl) rfl ?_ ?_
            ·show _ = Result.ok _ ((((((wn.setCell ⟨g4, o4 + 3, none⟩ (.slice (some ⟨g1, 0, none⟩) (d4.2.2.2.length + 1) c7)).setCell ⟨g1, d4.2.2.2.length * 5, none⟩ (.string last)).setCell ⟨g1, d4.2.2.2.length * 5 + 1, none⟩ (.int .i64 r.f1)).setCell ⟨g1, d4.2.2.2.length * 5 + 2, none⟩ (.bool r.f2)).setCell ⟨g1, d4.2.2.2.length * 5 + 3, none⟩ (.string r.f3)).setCell ⟨g1, d4.2.2.2.length * 5 + 4, none⟩ (.slice none 0 0))
             go_simp
            refine hK.out _ _ ?_
            clear hK K
            exact HJN () _ hWE2.symm
         ·intro _ w9 hw9
          as_aux_lemma =>
           rw [hw9]
           clear hw9 w9
           clear y20 y21 y22 y23 y24 y25 z20 z21 z22 z23 z24 z25
           have hWE0 := Aside0.mk (And.intro hWE hg4)
           clear hWE hWE2 hg4 hg4'
           simp only [putAll]
           refine done_ (by as_aux_lemma => kernel_rfl) ?_
           go_wp2_with fail
           obtain ⟨W2, hW2⟩ : ∃ W, W = put5 wn g1 d4.2.2.2.length (leafX (rowU r) last) (.slice none 0 0) := ⟨_, rfl⟩
           have hU2 : Upd fk4 WC W2 := by
            rw [hW2]
            refine HON.out.2.trans (put5_upd wn g1 d4.2.2.2.length (leafX (rowU r) last) (.slice none 0 0)) (fun j hj => ?_)
            obtain ⟨ts, _, hP⟩ := HON.out.1.parts
            rw [hj]
            exact (hP.own g1 rfl).1
           have hO2 := grown_kid (X := WC) (fk := fk4) (z := leafX (rowU r) last) HON.out.1 rfl
           rw [← hW2] at hO2
           obtain ⟨v2, c1, c2, c3, c4'⟩ := HI.out.2.2.2.2.2.2 W2 g1 c7 (leafX (rowU r) last) hU2 hO2
           have hWE1 := hWE0.out.1
           rw [← hW2] at hWE1
           rw [← hWE1] at c1 c2 c3 c4'
           obtain ⟨gX, cX, hov, hcX, hgX, htl, hce, hbE, hfin⟩ := HMC.out.snoc HFR.out (by rw [← HMM.out]; exact hkm2) (nv := .slice (some adN) (k + 1) c10) HNL.out.symm HNRC.out.1 c1 c2 c3 c4'
           injection hov with hv1 _ hv3
           injection hv1 with hv1
           injection hv1 with hv1 _ _
           subst hv1 hv3
           have hcE : WE.cell? ⟨g4, o4 + 3, none⟩ = some (.slice (some ⟨g1, 0, none⟩) (d4.2.2.2.length + 1) c7) := by
            have h1 : W2.heap[g4]? = some (.cells cur4 tt4 (0, 0)) := (hU2.block g4 (Array.getElem?_eq_some_iff.1 HI.out.2.1).1 HI.out.2.2.2.1).trans HI.out.2.1
            have h2 := blk_set h1 (o4 + 3) (.slice (some ⟨g1, 0, none⟩) (d4.2.2.2.length + 1) c7)
            rw [← hWE1] at h2
            rw [blk_cell h2 (o4 + 3)]
            simp [Array.getElem?_setIfInBounds_self_of_lt, HI.out.2.2.1]
           have HE := Aside0.mk (And.intro hgX (And.intro htl (And.intro hce (And.intro hbE hfin))))
           clear hW2 hU2 hO2 c1 c2 c3 c4' hWE1 hWE0 hgX htl hce hbE hfin HON HBN HI HMC HNRC B12C HGW j3 j4
           have q10 : k + 1 ≤ c5 := hcX
           have q11 : (k : Int) + 1 ≤ (c5 : Int) := by omega
           have q12 : ((k : Int) + 1).toNat = k + 1 := by omega
           have q13 : (0 : Int) ≤ (k : Int) + 1 := by omega
           have w1_ : wrap64 ((k : Int) + 1) = (k : Int) + 1 := w64 (by omega) (by omega)
           have w2_ : wrap64 (d4.2.2.2.length : Int) = (d4.2.2.2.length : Int) := by have := HLN.out; exact w64 (by omega) (by omega)
           have w3_ : max ((k : Int) + 1) 0 = (k : Int) + 1 := Int.max_eq_left (by omega)
           have hk31 : k + 1 ≤ 1000000 := Nat.le_trans (Nat.succ_le_succ hk30) (by decide)
           clear hcX
           have hdrE : Below WE.heap.size WE WE.drew := below_drew (Below.refl _ _)
           refine start_ (n := 21) (S := fun w' => w'.cell? ⟨g4, o4 + 3, none⟩ = some (.slice (some ⟨g1, 0, none⟩) (d4.2.2.2.length + 1) c7)) (ds := []) #[false, false, false, false, false, false, false, false, false, false, false, false, false, false, false, false, false, false, false, false, false] (by as_aux_lemma => kernel_rfl) rfl rfl (pw_cell_below hdrE hcE) (fun hHeld => ?_)
           have HE2 : Aside0 (gO < WE.drew.heap.size ∧ (∀ j u, ((opens false br ps).take (k + 1))[j]? = some u → WE.drew.cell? ⟨gO, j, none⟩ = some u) ∧ Below WE.heap.size WE WE.drew) := ⟨Nat.lt_of_lt_of_le HE.out.1 hdrE.size, fun j u hj => pw_cell_below hdrE (HE.out.2.2.1 j u hj), hdrE⟩
           generalize WE.drew = WF at *
           clear hdrE hcE
           refine pure_ (i := 0) (N := some 174) (v := ?_) (a' := ?_) #[true, false, false, false, false, false, false, false, false, false, false, false, false, false, false, false, false, false, false, false, false] rfl rfl (by as_aux_lemma => kernel_rfl) (fun _ _ _ h => h) (Or.inl ⟨by rfl, ?_⟩) ?_ ?_
           rotate_left
           ·intro w'
            go_simp
            with_reducible rfl
           rotate_left
           ·simp only [Act.put, List.setIfInBounds_toArray, List.set_cons_zero, List.set_cons_succ, i64_w, i32_w]
            rfl
           refine pure_ (i := 1) (N := some 175) (v := ?_) (a' := ?_) #[true, true, false, false, false, false, false, false, false, false, false, false, false, false, false, false, false, false, false, false, false] rfl rfl (by as_aux_lemma => kernel_rfl) (fun _ _ _ h => h) (Or.inl ⟨by rfl, ?_⟩) ?_ ?_
           rotate_left
           ·intro w'
            go_simp
            with_reducible rfl
           rotate_left
           ·simp only [Act.put, List.setIfInBounds_toArray, List.set_cons_zero, List.set_cons_succ, i64_w, i32_w]
            rfl
           refine pure_ (i := 2) (N := some 176) (v := ?_) (a' := ?_) #[true, true, true, false, false, false, false, false, false, false, false, false, false, false, false, false, false, false, false, false, false] rfl rfl (by as_aux_lemma => kernel_rfl) (fun _ _ _ h => h) (Or.inl ⟨by rfl, ?_⟩) ?_ ?_
           rotate_left
           ·intro w'
            go_simp
            with_reducible rfl
           rotate_left
           ·simp only [Act.put, List.setIfInBounds_toArray, List.set_cons_zero, List.set_cons_succ, i64_w, i32_w]
            rfl
           refine pure_ (i := 3) (N := some 177) (v := ?_) (a' := ?_) #[true, true, true, true, false, false, false, false, false, false, false, false, false, false, false, false, false, false, false, false, false] rfl rfl (by as_aux_lemma => kernel_rfl) (fun _ _ _ h => h) (Or.inl ⟨by rfl, ?_⟩) ?_ ?_
           rotate_left
           ·intro w'
            go_simp
            with_reducible rfl
           rotate_left
           ·simp only [Act.put, List.setIfInBounds_toArray, List.set_cons_zero, List.set_cons_succ, i64_w, i32_w]
            rfl
           refine pure_ (i := 4) (N := some 178) (v := ?_) (a' := ?_) #[true, true, true, true, true, false, false, false, false, false, false, false, false, false, false, false, false, false, false, false, false] rfl rfl (by as_aux_lemma => kernel_rfl) (fun _ _ _ h => h) (Or.inl ⟨by rfl, ?_⟩) ?_ ?_
           rotate_left
           ·intro w'
            go_simp
            with_reducible rfl
           rotate_left
           ·simp only [Act.put, List.setIfInBounds_toArray, List.set_cons_zero, List.set_cons_succ, i64_w, i32_w]
            rfl
           refine pure_ (i := 5) (N := some 179) (v := ?_) (a' := ?_) #[true, true, true, true, true, true, false, false, false, false, false, false, false, false, false, false, false, false, false, false, false] rfl rfl (by as_aux_lemma => kernel_rfl) (fun _ _ _ h => h) (Or.inl ⟨by rfl, ?_⟩) ?_ ?_
           rotate_left
           ·intro w'
            go_simp
            with_reducible rfl
           rotate_left
           ·simp only [Act.put, List.setIfInBounds_toArray, List.set_cons_zero, List.set_cons_succ, i64_w, i32_w]
            rfl
           refine pure_ (i := 6) (N := some 180) (v := ?_) (a' := ?_) #[true, true, true, true, true, true, true, false, false, false, false, false, false, false, false, false, false, false, false, false, false] rfl rfl (by as_aux_lemma => kernel_rfl) (fun _ _ _ h => h) (Or.inl ⟨by rfl, ?_⟩) ?_ ?_
           rotate_left
           ·intro w'
            go_simp
            with_reducible rfl
           rotate_left
           ·simp only [Act.put, List.setIfInBounds_toArray, List.set_cons_zero, List.set_cons_succ, i64_w, i32_w]
            rfl
           refine pure_ (i := 7) (N := some 181) (v := ?_) (a' := ?_) #[true, true, true, true, true, true, true, true, false, false, false, false, false, false, false, false, false, false, false, false, false] rfl rfl (by as_aux_lemma => kernel_rfl) (fun _ _ _ h => h) (Or.inl ⟨by rfl, ?_⟩) ?_ ?_
           rotate_left
           ·intro w'
            go_simp
            with_reducible rfl
           rotate_left
           ·simp only [Act.put, List.setIfInBounds_toArray, List.set_cons_zero, List.set_cons_succ, i64_w, i32_w]
            rfl
           refine pure_ (i := 8) (N := some 182) (v := ?_) (a' := ?_) #[true, true, true, true, true, true, true, true, true, false, false, false, false, false, false, false, false, false, false, false, false] rfl rfl (by as_aux_lemma => kernel_rfl) (fun _ _ _ h => h) (Or.inl ⟨by rfl, ?_⟩) ?_ ?_
           rotate_left
           ·intro w'
            go_simp
            with_reducible rfl
           rotate_left
           ·simp only [Act.put, List.setIfInBounds_toArray, List.set_cons_zero, List.set_cons_succ, i64_w, i32_w]
            rfl
           refine take_ (i := 9) (N := some 183) (v := ?_) (a' := ?_) #[true, true, true, true, true, true, true, true, true, true, false, false, false, false, false, false, false, false, false, false, false] rfl rfl (by as_aux_lemma => kernel_rfl) (fun _ _ _ h => h) (Or.inl ⟨by rfl, ?_⟩) hHeld ?_ ?_
           rotate_left
           ·intro w' s0
            go_simp
            with_reducible rfl
           rotate_left
           ·simp only [Act.put, List.setIfInBounds_toArray, List.set_cons_zero, List.set_cons_succ, i64_w, i32_w]
            rfl
           refine pure_ (i := 10) (N := some 184) (v := ?_) (a' := ?_) #[true, true, true, true, true, true, true, true, true, true, true, false, false, false, false, false, false, false, false, false, false] rfl rfl (by as_aux_lemma => kernel_rfl) (fun _ _ _ h => h) (Or.inl ⟨by rfl, ?_⟩) ?_ ?_
           rotate_left
           ·intro w'
            go_simp
            with_reducible rfl
           rotate_left
           ·simp only [Act.put, List.setIfInBounds_toArray, List.set_cons_zero, List.set_cons_succ, i64_w, i32_w]
            rfl
           refine pure_ (i := 11) (N := some 185) (v := ?_) (a' := ?_) #[true, true, true, true, true, true, true, true, true, true, true, true, false, false, false, false, false, false, false, false, false] rfl rfl (by as_aux_lemma => kernel_rfl) (fun _ _ _ h => h) (Or.inl ⟨by rfl, ?_⟩) ?_ ?_
           rotate_left
           ·intro w'
            go_simp
            with_reducible rfl
           rotate_left
           ·simp only [Act.put, List.setIfInBounds_toArray, List.set_cons_zero, List.set_cons_succ, i64_w, i32_w]
            rfl
           refine pure_ (i := 12) (N := some 186) (v := ?_) (a' := ?_) #[true, true, true, true, true, true, true, true, true, true, true, true, true, false, false, false, false, false, false, false, false] rfl rfl (by as_aux_lemma => kernel_rfl) (fun _ _ _ h => h) (Or.inl ⟨by rfl, ?_⟩) ?_ ?_
           rotate_left
           ·intro w'
            go_simp
            with_reducible rfl
           rotate_left
           ·simp only [Act.put, List.setIfInBounds_toArray, List.set_cons_zero, List.set_cons_succ, i64_w, i32_w]
            rfl
           refine take_ (i := 13) (N := some 187) (v := ?_) (a' := ?_) #[true, true, true, true, true, true, true, true, true, true, true, true, true, true, false, false, false, false, false, false, false] rfl rfl (by as_aux_lemma => kernel_rfl) (fun _ _ _ h => h) (Or.inl ⟨by rfl, ?_⟩) hHeld ?_ ?_
           rotate_left
           ·intro w' s0
            go_simp
            with_reducible rfl
           rotate_left
           ·simp only [Act.put, List.setIfInBounds_toArray, List.set_cons_zero, List.set_cons_succ, i64_w, i32_w]
            rfl
           refine pure_ (i := 14) (N := some 188) (v := ?_) (a' := ?_) #[true, true, true, true, true, true, true, true, true, true, true, true, true, true, true, false, false, false, false, false, false] rfl rfl (by as_aux_lemma => kernel_rfl) (fun _ _ _ h => h) (Or.inl ⟨by rfl, ?_⟩) ?_ ?_
           rotate_left
           ·intro w'
            go_simp
            with_reducible rfl
           rotate_left
           ·simp only [Act.put, List.setIfInBounds_toArray, List.set_cons_zero, List.set_cons_succ, i64_w, i32_w]
            rfl
           refine pure_ (i := 15) (N := some 189) (v := ?_) (a' := ?_) #[true, true, true, true, true, true, true, true, true, true, true, true, true, true, true, true, false, false, false, false, false] rfl rfl (by as_aux_lemma => kernel_rfl) (fun _ _ _ h => h) (Or.inl ⟨by rfl, ?_⟩) ?_ ?_
           rotate_left
           ·intro w'
            go_simp
            with_reducible rfl
           rotate_left
           ·simp only [Act.put, List.setIfInBounds_toArray, List.set_cons_zero, List.set_cons_succ, i64_w, i32_w]
            rfl
           refine pure_ (i := 16) (N := some 190) (v := ?_) (a' := ?_) #[true, true, true, true, true, true, true, true, true, true, true, true, true, true, true, true, true, false, false, false, false] rfl rfl (by as_aux_lemma => kernel_rfl) (fun _ _ _ h => h) (Or.inl ⟨by rfl, ?_⟩) ?_ ?_
           rotate_left
           ·intro w'
            go_simp
            with_reducible rfl
           rotate_left
           ·simp only [Act.put, List.setIfInBounds_toArray, List.set_cons_zero, List.set_cons_succ, i64_w, i32_w]
            rfl
           refine pure_ (i := 17) (N := some 191) (v := ?_) (a' := ?_) #[true, true, true, true, true, true, true, true, true, true, true, true, true, true, true, true, true, true, false, false, false] rfl rfl (by as_aux_lemma => kernel_rfl) (fun _ _ _ h => h) (Or.inl ⟨by rfl, ?_⟩) ?_ ?_
           rotate_left
           ·intro w'
            go_simp
            with_reducible rfl
           rotate_left
           ·simp only [Act.put, List.setIfInBounds_toArray, List.set_cons_zero, List.set_cons_succ, i64_w, i32_w]
            rfl
           refine one_ (i := 18) (N := some 192) #[true, true, true, true, true, true, true, true, true, true, true, true, true, true, true, true, true, true, true, false, false] rfl rfl (by as_aux_lemma => kernel_rfl) (by decide) (fun K hK => ?_)
           refine value_ (w1 := WF.alloc (.cells #[.pointer (some ⟨g1, d4.2.2.2.length * 5 + 1, none⟩)] 69)) (v := .slice (some ⟨WF.heap.size, 0, none⟩) 1 1) (by rfl) rfl ?_ ?_
           ·go_simp
           refine hK.out _ _ (pw_cell_below (below_alloc (Below.refl _ _) _) hHeld) (fun _ => ?_)
           clear hK K
           refine norm_ (a' := ?_) ?_ ?_
           rotate_left
           ·simp only [Act.put, List.setIfInBounds_toArray, List.set_cons_zero, List.set_cons_succ, i64_w, i32_w]
            rfl
           refine one_ (i := 19) (N := some 193) #[true, true, true, true, true, true, true, true, true, true, true, true, true, true, true, true, true, true, true, true, false] rfl rfl (by as_aux_lemma => kernel_rfl) (by decide) (fun K hK => ?_)
           obtain ⟨v9, wn9, hr9, hrow9, hb9⟩ := append_ptr (W := WF) (g := gO) (n := k + 1) (olds := (opens false br ps).take (k + 1)) HE.out.2.1 HE2.out.2.1 HE2.out.1 ⟨g1, d4.2.2.2.length * 5 + 1, none⟩ hk31
           obtain ⟨A9, c9, hv9⟩ := own_slice hrow9
           subst hv9
           refine step_append_eq rfl (.tmp 179) (.tmp 192) 67 67 rfl (.slice (some ⟨gO, 0, none⟩) (k + 1) (k + 1)) (.slice (some ⟨WF.heap.size, 0, none⟩) 1 1) (by rfl) (by rfl) hr9 ?_
           obtain ⟨s9, hs9⟩ : ∃ s9 : BSt, s9 = ⟨appAt k [leafX (rowU r) last] s.n, ns, s.bytes + (z - 24) + eL, false⟩ := ⟨_, rfl⟩
           have HMF : Aside0 (BMem W0 wn9 W0.heap.size br s9 (.slice A9 (k + 1 + 1) c9) (.slice (some adN) (k + 1) c10) v2 (ps.take k ++ [⟨g1, d4.2.2.2.length * 5 + 1, none⟩])) := ⟨by
            rw [hs9]
            exact HE.out.2.2.2.2 wn9 _ _ (own_weaken hrow9 HE2.out.2.2.size) (below_step HE2.out.2.2 hb9)⟩
           have HS9 : Aside0 (s9.bytes = s.bytes + (z - 24) + eL ∧ s9 = ⟨appAt k [leafX (rowU r) last] s.n, ns, s.bytes + (z - 24) + eL, false⟩) := ⟨by rw [hs9]; exact ⟨rfl, rfl⟩⟩
           refine hK.out (Act.put _ (some 193) (.slice A9 (k + 1 + 1) c9)) _ (pw_cell_below hb9 hHeld) (fun _ => ?_)
           clear hK K hr9 hrow9 hb9 hs9 HE HE2 hHeld w1_ w2_ w3_ q10 q11 q12 q13 q7 q8
           refine norm_ (a' := ?_) ?_ ?_
           rotate_left
           ·simp only [Act.put, List.setIfInBounds_toArray, List.set_cons_zero, List.set_cons_succ, i64_w, i32_w]
            rfl
           refine pure_ (i := 20) (N := some 5) (v := ?_) (a' := ?_) #[true, true, true, true, true, true, true, true, true, true, true, true, true, true, true, true, true, true, true, true, true] rfl rfl (by as_aux_lemma => kernel_rfl) (fun _ _ _ h => h) (Or.inl ⟨by rfl, ?_⟩) ?_ ?_
           rotate_left
           ·intro w'
            go_simp
            with_reducible rfl
           rotate_left
           ·simp only [Act.put, List.setIfInBounds_toArray, List.set_cons_zero, List.set_cons_succ, i64_w, i32_w]
            rfl
           refine done_ (by as_aux_lemma => kernel_rfl) ?_
           cases wr_ with
           | true =>
            have HNONE : Aside0 (stepB s (rowU r) = none) := ⟨by
             rw [HSTEP.out, if_neg (fun h => h HEQ.out), HJ.out.2.1]
             refine if_pos ?_
             by_cases h3 : d4.1 = 3
             ·have := HWR.out
              rw [decide_eq_false (fun e => e h3)] at this
              cases hh : lastLt d4.2.2.2 last with
              | true => rw [hh] at this; cases this
              | false => exact Or.inr (Or.inl rfl)
             ·exact Or.inl h3⟩
            as_aux_lemma =>
             have HBAD : Aside0 (buildP us = (zeroT, 64, (i : Int))) := ⟨HS.out.bad HR.out.1 HNONE.out⟩
             have R2F := Aside0.mk (R0.out.below HMF.out.below)
             have R3F := Aside0.mk (R1.out.below HMF.out.below)
             have y10 := R2F.out.frozen 0
             have y11 := R2F.out.frozen 1
             have y12 := R2F.out.frozen 2
             have y13 := R2F.out.frozen 3
             have y14 := R3F.out.frozen 0
             have y15 := R3F.out.frozen 1
             obtain ⟨k0, k1, k2, k3⟩ := cells4 R2F.out
             have k4 := R3F.out.cell 0 _ rfl
             have k5 := R3F.out.cell 1 _ rfl
             have hne : b3 ≠ b2 := by have := HZ.out; omega
             have hne2 : b2 ≠ b3 := by have := HZ.out; omega
             go_wp2_with fail
             obtain ⟨Wf, hWf⟩ : ∃ Wf, Wf = (((((wn9.setCell ⟨b2, 0, none⟩ (.int .i64 0)).setCell ⟨b2, 1, none⟩ (.bool false)).setCell ⟨b2, 2, none⟩ (.string ⟨#[]⟩)).setCell ⟨b2, 3, none⟩ (.slice none 0 0)).setCell ⟨b3, 0, none⟩ (.int .i64 64)).setCell ⟨b3, 1, none⟩ (.int .i64 i) := ⟨_, rfl⟩
             obtain ⟨f1, f2, f3, f4⟩ := fin_all HZ.out (below_step HB0.out HMF.out.below) R2F.out R3F.out (Own.nil wn9 W0.heap.size (fun _ => True)) hWf
             rw [← hWf, HBAD.out]
             obtain ⟨z0, z1, z2, z3⟩ := cells4 f3
             have z4 := f4.cell 0 _ rfl
             have z5 := f4.cell 1 _ rfl
             refine bodyPost_ret (v := .tuple #[.agg #[.int .i64 0, .bool false, .string ⟨#[]⟩, .slice none 0 0], .agg #[.int .i64 64, .int .i64 i]]) (by simp [results, Tryd.results11, go_sem, z0, z1, z2, z3, z4, z5]) rfl ⟨_, rfl, f1, f2⟩
           | false =>
            have HD3 : Aside0 (d4.1 = 3) := ⟨by
             refine Decidable.of_not_not (fun h3 => ?_)
             have := HWR.out
             rw [decide_eq_true h3] at this
             cases this⟩
            have HLT : Aside0 (lastLt d4.2.2.2 last = true) := ⟨by
             have := HWR.out
             cases hh : lastLt d4.2.2.2 last with
             | true => rfl
             | false => rw [hh, Bool.not_false, Bool.or_true] at this; cases this⟩
            by_cases hbig : 1048576 < s.bytes + (z - 24) + eL
            ·have HNONE : Aside0 (stepB s (rowU r) = none) := ⟨by
              rw [HSTEP.out, if_neg (fun h => h HEQ.out), HJ.out.2.1]
              exact if_pos (.inr (.inr hbig))⟩
             as_aux_lemma =>
              have HBAD : Aside0 (buildP us = (zeroT, 64, (i : Int))) := ⟨HS.out.bad HR.out.1 HNONE.out⟩
              have R2F := Aside0.mk (R0.out.below HMF.out.below)
              have R3F := Aside0.mk (R1.out.below HMF.out.below)
              have y10 := R2F.out.frozen 0
              have y11 := R2F.out.frozen 1
              have y12 := R2F.out.frozen 2
              have y13 := R2F.out.frozen 3
              have y14 := R3F.out.frozen 0
              have y15 := R3F.out.frozen 1
              obtain ⟨k0, k1, k2, k3⟩ := cells4 R2F.out
              have k4 := R3F.out.cell 0 _ rfl
              have k5 := R3F.out.cell 1 _ rfl
              have hne : b3 ≠ b2 := by have := HZ.out; omega
              have hne2 : b2 ≠ b3 := by have := HZ.out; omega
              go_wp2_with fail
              obtain ⟨Wf, hWf⟩ : ∃ Wf, Wf = (((((wn9.setCell ⟨b2, 0, none⟩ (.int .i64 0)).setCell ⟨b2, 1, none⟩ (.bool false)).setCell ⟨b2, 2, none⟩ (.string ⟨#[]⟩)).setCell ⟨b2, 3, none⟩ (.slice none 0 0)).setCell ⟨b3, 0, none⟩ (.int .i64 64)).setCell ⟨b3, 1, none⟩ (.int .i64 i) := ⟨_, rfl⟩
              obtain ⟨f1, f2, f3, f4⟩ := fin_all HZ.out (below_step HB0.out HMF.out.below) R2F.out R3F.out (Own.nil wn9 W0.heap.size (fun _ => True)) hWf
              rw [← hWf, HBAD.out]
              obtain ⟨z0, z1, z2, z3⟩ := cells4 f3
              have z4 := f4.cell 0 _ rfl
              have z5 := f4.cell 1 _ rfl
              refine bodyPost_ret (v := .tuple #[.agg #[.int .i64 0, .bool false, .string ⟨#[]⟩, .slice none 0 0], .agg #[.int .i64 64, .int .i64 i]]) (by simp [results, Tryd.results11, go_sem, z0, z1, z2, z3, z4, z5]) rfl ⟨_, rfl, f1, f2⟩
            ·have HSS : Aside0 (BSaid us (i + 1) s9) := ⟨HS.out.next HR.out.1 (by
              rw [HSTEP.out, if_neg (fun h => h HEQ.out), HJ.out.2.1, HS9.out.2]
              exact if_neg (fun h => by
               rcases h with h | h | h
               ·exact h HD3.out
               ·rw [HLT.out] at h; cases h
               ·exact hbig h))⟩
             clear HSTEP HS
             have hI0_ : (0 : Int) ≤ (i : Int) := by omega
             have hI1_ : (i : Int) + 1 ≤ 9223372036854775807 := by have := HLTI.out; omega
             have hI2_ : (i : Int) + 1 < 9223372036854775808 := by omega
             go_wp2_with fail
             go_roundw
             case rel => exact ⟨i + 1, s9, _, _, Nat.succ_le_of_lt HLTI.out.1, congrArg (Value.int IntKind.i64) (Int.natCast_succ i).symm, congrArg (Value.int IntKind.i64) HS9.out.1.symm, HMF, HSS⟩
             case measure =>
              show rows.length - ((i : Int) + 1).toNat < rows.length - ((i : Int)).toNat
              exact meas_ i _ HLTI.out.1
        by_cases hd3 : d.1 = 3
        ·have q5 : (d.1 != 3) = false := by rw [hd3]; rfl
         by_cases hl0 : d.2.2.2.length = 0
         ·have _hx := trivial
          as_aux_lemma =>
           have q6 : ¬ (0 : Int) < (d.2.2.2.length : Int) := by omega
           have q6' : ¬ 0 < d.2.2.2.length := by omega
           have HWR : Aside0 (false = (decide (d.1 ≠ 3) || !lastLt d.2.2.2 last)) := ⟨by rw [decide_eq_false (fun e => e hd3), List.length_eq_zero_iff.1 hl0]; rfl⟩
           clear hl0 hd3
           have hdr : Below W9.heap.size W9 W9.drew := below_drew (Below.refl _ _)
           refine start_ (n := 31) (S := fun w' => w'.cell? ⟨gd, od, none⟩ = some (.int .i64 d.1) ∧ w'.cell? ⟨gd, od + 3, none⟩ = some (.slice Ad d.2.2.2.length cd)) (ds := []) #[false, false, false, false, false, false, false, false, false, false, false, false, false, false, false, false, false, false, false, false, false, false, false, false, false, false, false, false, false, false, false] (by as_aux_lemma => kernel_rfl) rfl rfl (⟨pw_cell_below hdr j3, pw_cell_below hdr j4⟩) (fun hHeld => ?_)
           have HBW := Aside0.mk hdr
           generalize W9.drew = WA at *
           clear hdr HM9 HNR9 B129 HS9 HOW9 j3 j4
           refine pure_ (i := 0) (N := some 126) (v := ?_) (a' := ?_) #[true, false, false, false, false, false, false, false, false, false, false, false, false, false, false, false, false, false, false, false, false, false, false, false, false, false, false, false, false, false, false] rfl rfl (by as_aux_lemma => kernel_rfl) (fun _ _ _ h => h) (Or.inl ⟨by rfl, ?_⟩) ?_ ?_
           rotate_left
           ·intro w'
            go_simp
            with_reducible rfl
           rotate_left
           ·simp only [Act.put, List.setIfInBounds_toArray, List.set_cons_zero, List.set_cons_succ, i64_w, i32_w]
            rfl
           refine pure_ (i := 1) (N := some 127) (v := ?_) (a' := ?_) #[true, true, false, false, false, false, false, false, false, false, false, false, false, false, false, false, false, false, false, false, false, false, false, false, false, false, false, false, false, false, false] rfl rfl (by as_aux_lemma => kernel_rfl) (fun _ _ _ h => h) (Or.inl ⟨by rfl, ?_⟩) ?_ ?_
           rotate_left
           ·intro w'
            go_simp
            with_reducible rfl
           rotate_left
           ·simp only [Act.put, List.setIfInBounds_toArray, List.set_cons_zero, List.set_cons_succ, i64_w, i32_w]
            rfl
           refine pure_ (i := 2) (N := some 128) (v := ?_) (a' := ?_) #[true, true, true, false, false, false, false, false, false, false, false, false, false, false, false, false, false, false, false, false, false, false, false, false, false, false, false, false, false, false, false] rfl rfl (by as_aux_lemma => kernel_rfl) (fun _ _ _ h => h) (Or.inl ⟨by rfl, ?_⟩) ?_ ?_
           rotate_left
           ·intro w'
            go_simp
            with_reducible rfl
           rotate_left
           ·simp only [Act.put, List.setIfInBounds_toArray, List.set_cons_zero, List.set_cons_succ, i64_w, i32_w]
            rfl
           refine take_ (i := 3) (N := some 129) (v := ?_) (a' := ?_) #[true, true, true, true, false, false, false, false, false, false, false, false, false, false, false, false, false, false, false, false, false, false, false, false, false, false, false, false, false, false, false] rfl rfl (by as_aux_lemma => kernel_rfl) (fun _ _ _ h => h) (Or.inl ⟨by rfl, ?_⟩) hHeld ?_ ?_
           rotate_left
           ·rintro w' ⟨s0, s1⟩
            go_simp
            with_reducible rfl
           rotate_left
           ·simp only [Act.put, List.setIfInBounds_toArray, List.set_cons_zero, List.set_cons_succ, i64_w, i32_w]
            rfl
           refine pure_ (i := 4) (N := some 130) (v := ?_) (a' := ?_) #[true, true, true, true, true, false, false, false, false, false, false, false, false, false, false, false, false, false, false, false, false, false, false, false, false, false, false, false, false, false, false] rfl rfl (by as_aux_lemma => kernel_rfl) (fun _ _ _ h => h) (Or.inl ⟨by rfl, ?_⟩) ?_ ?_
           rotate_left
           ·intro w'
            go_simp
            with_reducible rfl
           rotate_left
           ·simp only [Act.put, List.setIfInBounds_toArray, List.set_cons_zero, List.set_cons_succ, i64_w, i32_w]
            rfl
           refine pure_ (i := 5) (N := some 131) (v := ?_) (a' := ?_) #[true, true, true, true, true, true, false, false, false, false, false, false, false, false, false, false, false, false, false, false, false, false, false, false, false, false, false, false, false, false, false] rfl rfl (by as_aux_lemma => kernel_rfl) (fun _ _ _ h => h) (Or.inl ⟨by rfl, ?_⟩) ?_ ?_
           rotate_left
           ·intro w'
            go_simp
            with_reducible rfl
           rotate_left
           ·simp only [Act.put, List.setIfInBounds_toArray, List.set_cons_zero, List.set_cons_succ, i64_w, i32_w]
            rfl
           refine pure_ (i := 6) (N := some 132) (v := ?_) (a' := ?_) #[true, true, true, true, true, true, true, false, false, false, false, false, false, false, false, false, false, false, false, false, false, false, false, false, false, false, false, false, false, false, false] rfl rfl (by as_aux_lemma => kernel_rfl) (fun _ _ _ h => h) (Or.inl ⟨by rfl, ?_⟩) ?_ ?_
           rotate_left
           ·intro w'
            go_simp
            with_reducible rfl
           rotate_left
           ·simp only [Act.put, List.setIfInBounds_toArray, List.set_cons_zero, List.set_cons_succ, i64_w, i32_w]
            rfl
           refine pure_ (i := 7) (N := some 133) (v := ?_) (a' := ?_) #[true, true, true, true, true, true, true, true, false, false, false, false, false, false, false, false, false, false, false, false, false, false, false, false, false, false, false, false, false, false, false] rfl rfl (by as_aux_lemma => kernel_rfl) (fun _ _ _ h => h) (Or.inl ⟨by rfl, ?_⟩) ?_ ?_
           rotate_left
           ·intro w'
            go_simp
            with_reducible rfl
           rotate_left
           ·simp only [Act.put, List.setIfInBounds_toArray, List.set_cons_zero, List.set_cons_succ, i64_w, i32_w]
            rfl
           refine pure_ (i := 8) (N := some 134) (v := ?_) (a' := ?_) #[true, true, true, true, true, true, true, true, true, false, false, false, false, false, false, false, false, false, false, false, false, false, false, false, false, false, false, false, false, false, false] rfl rfl (by as_aux_lemma => kernel_rfl) (fun _ _ _ h => h) (Or.inl ⟨by rfl, ?_⟩) ?_ ?_
           rotate_left
           ·intro w'
            go_simp
            with_reducible rfl
           rotate_left
           ·simp only [Act.put, List.setIfInBounds_toArray, List.set_cons_zero, List.set_cons_succ, i64_w, i32_w]
            rfl
           refine take_ (i := 9) (N := some 135) (v := ?_) (a' := ?_) #[true, true, true, true, true, true, true, true, true, true, false, false, false, false, false, false, false, false, false, false, false, false, false, false, false, false, false, false, false, false, false] rfl rfl (by as_aux_lemma => kernel_rfl) (fun _ _ _ h => h) (Or.inl ⟨by rfl, ?_⟩) hHeld ?_ ?_
           rotate_left
           ·rintro w' ⟨s0, s1⟩
            go_simp
            with_reducible rfl
           rotate_left
           ·simp only [Act.put, List.setIfInBounds_toArray, List.set_cons_zero, List.set_cons_succ, i64_w, i32_w]
            rfl
           refine pure_ (i := 10) (N := some 136) (v := ?_) (a' := ?_) #[true, true, true, true, true, true, true, true, true, true, true, false, false, false, false, false, false, false, false, false, false, false, false, false, false, false, false, false, false, false, false] rfl rfl (by as_aux_lemma => kernel_rfl) (fun _ _ _ h => h) (Or.inl ⟨by rfl, ?_⟩) ?_ ?_
           rotate_left
           ·intro w'
            go_simp
            with_reducible rfl
           rotate_left
           ·simp only [Act.put, List.setIfInBounds_toArray, List.set_cons_zero, List.set_cons_succ, i64_w, i32_w]
            rfl
           refine pure_ (i := 11) (N := some 137) (v := ?_) (a' := ?_) #[true, true, true, true, true, true, true, true, true, true, true, true, false, false, false, false, false, false, false, false, false, false, false, false, false, false, false, false, false, false, false] rfl rfl (by as_aux_lemma => kernel_rfl) (fun _ _ _ h => h) (Or.inl ⟨by rfl, ?_⟩) ?_ ?_
           rotate_left
           ·intro w'
            go_simp
            with_reducible rfl
           rotate_left
           ·simp only [Act.put, List.setIfInBounds_toArray, List.set_cons_zero, List.set_cons_succ, i64_w, i32_w]
            rfl
           refine pure_ (i := 12) (N := some 138) (v := ?_) (a' := ?_) #[true, true, true, true, true, true, true, true, true, true, true, true, true, false, false, false, false, false, false, false, false, false, false, false, false, false, false, false, false, false, false] rfl rfl (by as_aux_lemma => kernel_rfl) (fun _ _ _ h => h) (Or.inl ⟨by rfl, ?_⟩) ?_ ?_
           rotate_left
           ·intro w'
            go_simp
            with_reducible rfl
           rotate_left
           ·simp only [Act.put, List.setIfInBounds_toArray, List.set_cons_zero, List.set_cons_succ, i64_w, i32_w]
            rfl
           refine pure_ (i := 13) (N := some 139) (v := undef) (a' := ?_) #[true, true, true, true, true, true, true, true, true, true, true, true, true, true, false, false, false, false, false, false, false, false, false, false, false, false, false, false, false, false, false] rfl rfl (by as_aux_lemma => kernel_rfl) (fun _ _ _ h => h) (Or.inr ⟨by rfl, rfl⟩) ?_ ?_
           rotate_left
           ·simp only [Act.put, List.setIfInBounds_toArray, List.set_cons_zero, List.set_cons_succ, i64_w, i32_w]
            rfl
           refine pure_ (i := 14) (N := some 140) (v := undef) (a' := ?_) #[true, true, true, true, true, true, true, true, true, true, true, true, true, true, true, false, false, false, false, false, false, false, false, false, false, false, false, false, false, false, false] rfl rfl (by as_aux_lemma => kernel_rfl) (fun _ _ _ h => h) (Or.inr ⟨by rfl, rfl⟩) ?_ ?_
           rotate_left
           ·simp only [Act.put, List.setIfInBounds_toArray, List.set_cons_zero, List.set_cons_succ, i64_w, i32_w]
            rfl
           refine pure_ (i := 15) (N := some 141) (v := undef) (a' := ?_) #[true, true, true, true, true, true, true, true, true, true, true, true, true, true, true, true, false, false, false, false, false, false, false, false, false, false, false, false, false, false, false] rfl rfl (by as_aux_lemma => kernel_rfl) (fun _ _ _ h => h) (Or.inr ⟨by rfl, rfl⟩) ?_ ?_
           rotate_left
           ·simp only [Act.put, List.setIfInBounds_toArray, List.set_cons_zero, List.set_cons_succ, i64_w, i32_w]
            rfl
           refine pure_ (i := 16) (N := some 142) (v := undef) (a' := ?_) #[true, true, true, true, true, true, true, true, true, true, true, true, true, true, true, true, true, false, false, false, false, false, false, false, false, false, false, false, false, false, false] rfl rfl (by as_aux_lemma => kernel_rfl) (fun _ _ _ h => h) (Or.inr ⟨by rfl, rfl⟩) ?_ ?_
           rotate_left
           ·simp only [Act.put, List.setIfInBounds_toArray, List.set_cons_zero, List.set_cons_succ, i64_w, i32_w]
            rfl
           refine pure_ (i := 17) (N := some 143) (v := undef) (a' := ?_) #[true, true, true, true, true, true, true, true, true, true, true, true, true, true, true, true, true, true, false, false, false, false, false, false, false, false, false, false, false, false, false] rfl rfl (by as_aux_lemma => kernel_rfl) (fun _ _ _ h => h) (Or.inr ⟨by rfl, rfl⟩) ?_ ?_
           rotate_left
           ·simp only [Act.put, List.setIfInBounds_toArray, List.set_cons_zero, List.set_cons_succ, i64_w, i32_w]
            rfl
           refine pure_ (i := 18) (N := some 144) (v := undef) (a' := ?_) #[true, true, true, true, true, true, true, true, true, true, true, true, true, true, true, true, true, true, true, false, false, false, false, false, false, false, false, false, false, false, false] rfl rfl (by as_aux_lemma => kernel_rfl) (fun _ _ _ h => h) (Or.inr ⟨by rfl, rfl⟩) ?_ ?_
           rotate_left
           ·simp only [Act.put, List.setIfInBounds_toArray, List.set_cons_zero, List.set_cons_succ, i64_w, i32_w]
            rfl
           refine pure_ (i := 19) (N := some 145) (v := undef) (a' := ?_) #[true, true, true, true, true, true, true, true, true, true, true, true, true, true, true, true, true, true, true, true, false, false, false, false, false, false, false, false, false, false, false] rfl rfl (by as_aux_lemma => kernel_rfl) (fun _ _ _ h => h) (Or.inr ⟨by rfl, rfl⟩) ?_ ?_
           rotate_left
           ·simp only [Act.put, List.setIfInBounds_toArray, List.set_cons_zero, List.set_cons_succ, i64_w, i32_w]
            rfl
           refine pure_ (i := 20) (N := some 146) (v := undef) (a' := ?_) #[true, true, true, true, true, true, true, true, true, true, true, true, true, true, true, true, true, true, true, true, true, false, false, false, false, false, false, false, false, false, false] rfl rfl (by as_aux_lemma => kernel_rfl) (fun _ _ _ h => h) (Or.inr ⟨by rfl, rfl⟩) ?_ ?_
           rotate_left
           ·simp only [Act.put, List.setIfInBounds_toArray, List.set_cons_zero, List.set_cons_succ, i64_w, i32_w]
            rfl
           refine pure_ (i := 21) (N := some 147) (v := undef) (a' := ?_) #[true, true, true, true, true, true, true, true, true, true, true, true, true, true, true, true, true, true, true, true, true, true, false, false, false, false, false, false, false, false, false] rfl rfl (by as_aux_lemma => kernel_rfl) (fun _ _ _ h => h) (Or.inr ⟨by rfl, rfl⟩) ?_ ?_
           rotate_left
           ·simp only [Act.put, List.setIfInBounds_toArray, List.set_cons_zero, List.set_cons_succ, i64_w, i32_w]
            rfl
           refine pure_ (i := 22) (N := some 148) (v := undef) (a' := ?_) #[true, true, true, true, true, true, true, true, true, true, true, true, true, true, true, true, true, true, true, true, true, true, true, false, false, false, false, false, false, false, false] rfl rfl (by as_aux_lemma => kernel_rfl) (fun _ _ _ h => h) (Or.inr ⟨by rfl, rfl⟩) ?_ ?_
           rotate_left
           ·simp only [Act.put, List.setIfInBounds_toArray, List.set_cons_zero, List.set_cons_succ, i64_w, i32_w]
            rfl
           refine pure_ (i := 23) (N := some 149) (v := undef) (a' := ?_) #[true, true, true, true, true, true, true, true, true, true, true, true, true, true, true, true, true, true, true, true, true, true, true, true, false, false, false, false, false, false, false] rfl rfl (by as_aux_lemma => kernel_rfl) (fun _ _ _ h => h) (Or.inr ⟨by rfl, rfl⟩) ?_ ?_
           rotate_left
           ·simp only [Act.put, List.setIfInBounds_toArray, List.set_cons_zero, List.set_cons_succ, i64_w, i32_w]
            rfl
           refine pure_ (i := 24) (N := some 150) (v := undef) (a' := ?_) #[true, true, true, true, true, true, true, true, true, true, true, true, true, true, true, true, true, true, true, true, true, true, true, true, true, false, false, false, false, false, false] rfl rfl (by as_aux_lemma => kernel_rfl) (fun _ _ _ h => h) (Or.inr ⟨by rfl, rfl⟩) ?_ ?_
           rotate_left
           ·simp only [Act.put, List.setIfInBounds_toArray, List.set_cons_zero, List.set_cons_succ, i64_w, i32_w]
            rfl
           refine pure_ (i := 25) (N := some 151) (v := undef) (a' := ?_) #[true, true, true, true, true, true, true, true, true, true, true, true, true, true, true, true, true, true, true, true, true, true, true, true, true, true, false, false, false, false, false] rfl rfl (by as_aux_lemma => kernel_rfl) (fun _ _ _ h => h) (Or.inr ⟨by rfl, rfl⟩) ?_ ?_
           rotate_left
           ·simp only [Act.put, List.setIfInBounds_toArray, List.set_cons_zero, List.set_cons_succ, i64_w, i32_w]
            rfl
           refine pure_ (i := 26) (N := some 152) (v := undef) (a' := ?_) #[true, true, true, true, true, true, true, true, true, true, true, true, true, true, true, true, true, true, true, true, true, true, true, true, true, true, true, false, false, false, false] rfl rfl (by as_aux_lemma => kernel_rfl) (fun _ _ _ h => h) (Or.inr ⟨by rfl, rfl⟩) ?_ ?_
           rotate_left
           ·simp only [Act.put, List.setIfInBounds_toArray, List.set_cons_zero, List.set_cons_succ, i64_w, i32_w]
            rfl
           refine pure_ (i := 27) (N := some 153) (v := undef) (a' := ?_) #[true, true, true, true, true, true, true, true, true, true, true, true, true, true, true, true, true, true, true, true, true, true, true, true, true, true, true, true, false, false, false] rfl rfl (by as_aux_lemma => kernel_rfl) (fun _ _ _ h => h) (Or.inr ⟨by rfl, rfl⟩) ?_ ?_
           rotate_left
           ·simp only [Act.put, List.setIfInBounds_toArray, List.set_cons_zero, List.set_cons_succ, i64_w, i32_w]
            rfl
           refine pure_ (i := 28) (N := some 154) (v := ?_) (a' := ?_) #[true, true, true, true, true, true, true, true, true, true, true, true, true, true, true, true, true, true, true, true, true, true, true, true, true, true, true, true, true, false, false] rfl rfl (by as_aux_lemma => kernel_rfl) (fun _ _ _ h => h) (Or.inl ⟨by rfl, ?_⟩) ?_ ?_
           rotate_left
           ·intro w'
            go_simp
            with_reducible rfl
           rotate_left
           ·simp only [Act.put, List.setIfInBounds_toArray, List.set_cons_zero, List.set_cons_succ, i64_w, i32_w]
            rfl
           refine pure_ (i := 29) (N := some 155) (v := ?_) (a' := ?_) #[true, true, true, true, true, true, true, true, true, true, true, true, true, true, true, true, true, true, true, true, true, true, true, true, true, true, true, true, true, true, false] rfl rfl (by as_aux_lemma => kernel_rfl) (fun _ _ _ h => h) (Or.inl ⟨by rfl, ?_⟩) ?_ ?_
           rotate_left
           ·intro w'
            go_simp
            with_reducible rfl
           rotate_left
           ·simp only [Act.put, List.setIfInBounds_toArray, List.set_cons_zero, List.set_cons_succ, i64_w, i32_w]
            rfl
           refine pure_ (i := 30) (N := some 16) (v := ?_) (a' := ?_) #[true, true, true, true, true, true, true, true, true, true, true, true, true, true, true, true, true, true, true, true, true, true, true, true, true, true, true, true, true, true, true] rfl rfl (by as_aux_lemma => kernel_rfl) (fun _ _ _ h => h) (Or.inl ⟨by rfl, ?_⟩) ?_ ?_
           rotate_left
           ·intro w'
            go_simp
            with_reducible rfl
           rotate_left
           ·simp only [Act.put, List.setIfInBounds_toArray, List.set_cons_zero, List.set_cons_succ, i64_w, i32_w]
            rfl
           refine done_ (by as_aux_lemma => kernel_rfl) ?_
           clear hHeld
           exact TAIL WA false _ _ _ _ _ _ _ _ _ _ _ _ _ _ _ _ _ _ _ _ _ _ _ _ _ _ HWR HBW
         ·have _hx := trivial
          as_aux_lemma =>
           have q6 : (0 : Int) < (d.2.2.2.length : Int) := by omega
           have q6' : 0 < d.2.2.2.length := by omega
           clear hl0
           obtain ⟨j, hj⟩ : ∃ j, j = d.2.2.2.length - 1 := ⟨_, rfl⟩
           obtain ⟨x, hx⟩ : ∃ x, d.2.2.2[j]? = some x := ⟨_, List.getElem?_eq_getElem (by omega)⟩
           obtain ⟨wr_, hwr⟩ : ∃ b, b = (!Op.bytesLess x.f0.toList last.toList) := ⟨_, rfl⟩
           have HWR : Aside0 (wr_ = (decide (d.1 ≠ 3) || !lastLt d.2.2.2 last)) := ⟨by
            have h1 : lastLt d.2.2.2 last = decide (cmpB x.f0 last < 0) := by unfold lastLt; rw [List.getLast?_eq_getElem?, ← hj, hx]
            have h2 := bl_cb x.f0.toList last.toList
            rw [hwr, h1, decide_eq_false (fun e => e hd3), Bool.false_or]
            congr 1
            have h3 : (Lib.compareBytes x.f0.toList last.toList < 0) ↔ (cmpB x.f0 last < 0) := by unfold cmpB; rw [Lib.toList_data, Lib.toList_data]
            cases hw : Op.bytesLess x.f0.toList last.toList with
            | true => exact (decide_eq_true (h3.1 (h2.1 hw))).symm
            | false => exact (decide_eq_false (fun e => by rw [h2.2 (h3.2 e)] at hw; cases hw)).symm⟩
           clear hd3
           have HLN0 : Aside0 (d.2.2.2.length ≤ 1048576) := ⟨spine_len (HS.out.inv (by have := HI0.out; omega)) HJ.out.2.1⟩
           obtain ⟨g6, A16, c16, hA6, hr1, hr2, hr3, hg6, hfz, e0, e1, e2, e3, e4⟩ := HOW9.out.at_ hx
           clear hr1 hr2 hr3 hfz e1 e2 e3 e4
           subst hA6
           have w3_ : wrap64 ((d.2.2.2.length : Int) - 1) = (j : Int) := by have := HLN0.out; rw [show (d.2.2.2.length : Int) - 1 = (j : Int) from by omega]; exact w64 (by omega) (by omega)
           have w4_ : IntKind.i64.wrap ((d.2.2.2.length : Int) - 1) = (j : Int) := by have := HLN0.out; rw [show (d.2.2.2.length : Int) - 1 = (j : Int) from by omega]; exact IntWalk.i64_in _ (by omega)
           have j0 : (0 : Int) ≤ (j : Int) := by omega
           have j1 : (j : Int) < (d.2.2.2.length : Int) := by omega
           clear hj hx
           have hdr : Below W9.heap.size W9 W9.drew := below_drew (Below.refl _ _)
           refine start_ (n := 31) (S := fun w' => w'.cell? ⟨gd, od, none⟩ = some (.int .i64 d.1) ∧ w'.cell? ⟨gd, od + 3, none⟩ = some (.slice (some ⟨g6, 0, none⟩) d.2.2.2.length cd) ∧ w'.cell? ⟨g6, j * 5, none⟩ = some (.string x.f0)) (ds := []) #[false, false, false, false, false, false, false, false, false, false, false, false, false, false, false, false, false, false, false, false, false, false, false, false, false, false, false, false, false, false, false] (by as_aux_lemma => kernel_rfl) rfl rfl (⟨pw_cell_below hdr j3, pw_cell_below hdr j4, pw_cell_below hdr e0⟩) (fun hHeld => ?_)
           have HBW := Aside0.mk hdr
           generalize W9.drew = WA at *
           clear hdr HM9 HNR9 B129 HS9 HOW9 e0 hg6 j3 j4
           refine pure_ (i := 0) (N := some 126) (v := ?_) (a' := ?_) #[true, false, false, false, false, false, false, false, false, false, false, false, false, false, false, false, false, false, false, false, false, false, false, false, false, false, false, false, false, false, false] rfl rfl (by as_aux_lemma => kernel_rfl) (fun _ _ _ h => h) (Or.inl ⟨by rfl, ?_⟩) ?_ ?_
           rotate_left
           ·intro w'
            go_simp
            with_reducible rfl
           rotate_left
           ·simp only [Act.put, List.setIfInBounds_toArray, List.set_cons_zero, List.set_cons_succ, i64_w, i32_w]
            rfl
           refine pure_ (i := 1) (N := some 127) (v := ?_) (a' := ?_) #[true, true, false, false, false, false, false, false, false, false, false, false, false, false, false, false, false, false, false, false, false, false, false, false, false, false, false, false, false, false, false] rfl rfl (by as_aux_lemma => kernel_rfl) (fun _ _ _ h => h) (Or.inl ⟨by rfl, ?_⟩) ?_ ?_
           rotate_left
           ·intro w'
            go_simp
            with_reducible rfl
           rotate_left
           ·simp only [Act.put, List.setIfInBounds_toArray, List.set_cons_zero, List.set_cons_succ, i64_w, i32_w]
            rfl
           refine pure_ (i := 2) (N := some 128) (v := ?_) (a' := ?_) #[true, true, true, false, false, false, false, false, false, false, false, false, false, false, false, false, false, false, false, false, false, false, false, false, false, false, false, false, false, false, false] rfl rfl (by as_aux_lemma => kernel_rfl) (fun _ _ _ h => h) (Or.inl ⟨by rfl, ?_⟩) ?_ ?_
           rotate_left
           ·intro w'
            go_simp
            with_reducible rfl
           rotate_left
           ·simp only [Act.put, List.setIfInBounds_toArray, List.set_cons_zero, List.set_cons_succ, i64_w, i32_w]
            rfl
           refine take_ (i := 3) (N := some 129) (v := ?_) (a' := ?_) #[true, true, true, true, false, false, false, false, false, false, false, false, false, false, false, false, false, false, false, false, false, false, false, false, false, false, false, false, false, false, false] rfl rfl (by as_aux_lemma => kernel_rfl) (fun _ _ _ h => h) (Or.inl ⟨by rfl, ?_⟩) hHeld ?_ ?_
           rotate_left
           ·rintro w' ⟨s0, s1, s2⟩
            go_simp
            with_reducible rfl
           rotate_left
           ·simp only [Act.put, List.setIfInBounds_toArray, List.set_cons_zero, List.set_cons_succ, i64_w, i32_w]
            rfl
           refine pure_ (i := 4) (N := some 130) (v := ?_) (a' := ?_) #[true, true, true, true, true, false, false, false, false, false, false, false, false, false, false, false, false, false, false, false, false, false, false, false, false, false, false, false, false, false, false] rfl rfl (by as_aux_lemma => kernel_rfl) (fun _ _ _ h => h) (Or.inl ⟨by rfl, ?_⟩) ?_ ?_
           rotate_left
           ·intro w'
            go_simp
            with_reducible rfl
           rotate_left
           ·simp only [Act.put, List.setIfInBounds_toArray, List.set_cons_zero, List.set_cons_succ, i64_w, i32_w]
            rfl
           refine pure_ (i := 5) (N := some 131) (v := ?_) (a' := ?_) #[true, true, true, true, true, true, false, false, false, false, false, false, false, false, false, false, false, false, false, false, false, false, false, false, false, false, false, false, false, false, false] rfl rfl (by as_aux_lemma => kernel_rfl) (fun _ _ _ h => h) (Or.inl ⟨by rfl, ?_⟩) ?_ ?_
           rotate_left
           ·intro w'
            go_simp
            with_reducible rfl
           rotate_left
           ·simp only [Act.put, List.setIfInBounds_toArray, List.set_cons_zero, List.set_cons_succ, i64_w, i32_w]
            rfl
           refine pure_ (i := 6) (N := some 132) (v := ?_) (a' := ?_) #[true, true, true, true, true, true, true, false, false, false, false, false, false, false, false, false, false, false, false, false, false, false, false, false, false, false, false, false, false, false, false] rfl rfl (by as_aux_lemma => kernel_rfl) (fun _ _ _ h => h) (Or.inl ⟨by rfl, ?_⟩) ?_ ?_
           rotate_left
           ·intro w'
            go_simp
            with_reducible rfl
           rotate_left
           ·simp only [Act.put, List.setIfInBounds_toArray, List.set_cons_zero, List.set_cons_succ, i64_w, i32_w]
            rfl
           refine pure_ (i := 7) (N := some 133) (v := ?_) (a' := ?_) #[true, true, true, true, true, true, true, true, false, false, false, false, false, false, false, false, false, false, false, false, false, false, false, false, false, false, false, false, false, false, false] rfl rfl (by as_aux_lemma => kernel_rfl) (fun _ _ _ h => h) (Or.inl ⟨by rfl, ?_⟩) ?_ ?_
           rotate_left
           ·intro w'
            go_simp
            with_reducible rfl
           rotate_left
           ·simp only [Act.put, List.setIfInBounds_toArray, List.set_cons_zero, List.set_cons_succ, i64_w, i32_w]
            rfl
           refine pure_ (i := 8) (N := some 134) (v := ?_) (a' := ?_) #[true, true, true, true, true, true, true, true, true, false, false, false, false, false, false, false, false, false, false, false, false, false, false, false, false, false, false, false, false, false, false] rfl rfl (by as_aux_lemma => kernel_rfl) (fun _ _ _ h => h) (Or.inl ⟨by rfl, ?_⟩) ?_ ?_
           rotate_left
           ·intro w'
            go_simp
            with_reducible rfl
           rotate_left
           ·simp only [Act.put, List.setIfInBounds_toArray, List.set_cons_zero, List.set_cons_succ, i64_w, i32_w]
            rfl
           refine take_ (i := 9) (N := some 135) (v := ?_) (a' := ?_) #[true, true, true, true, true, true, true, true, true, true, false, false, false, false, false, false, false, false, false, false, false, false, false, false, false, false, false, false, false, false, false] rfl rfl (by as_aux_lemma => kernel_rfl) (fun _ _ _ h => h) (Or.inl ⟨by rfl, ?_⟩) hHeld ?_ ?_
           rotate_left
           ·rintro w' ⟨s0, s1, s2⟩
            go_simp
            with_reducible rfl
           rotate_left
           ·simp only [Act.put, List.setIfInBounds_toArray, List.set_cons_zero, List.set_cons_succ, i64_w, i32_w]
            rfl
           refine pure_ (i := 10) (N := some 136) (v := ?_) (a' := ?_) #[true, true, true, true, true, true, true, true, true, true, true, false, false, false, false, false, false, false, false, false, false, false, false, false, false, false, false, false, false, false, false] rfl rfl (by as_aux_lemma => kernel_rfl) (fun _ _ _ h => h) (Or.inl ⟨by rfl, ?_⟩) ?_ ?_
           rotate_left
           ·intro w'
            go_simp
            with_reducible rfl
           rotate_left
           ·simp only [Act.put, List.setIfInBounds_toArray, List.set_cons_zero, List.set_cons_succ, i64_w, i32_w]
            rfl
           refine pure_ (i := 11) (N := some 137) (v := ?_) (a' := ?_) #[true, true, true, true, true, true, true, true, true, true, true, true, false, false, false, false, false, false, false, false, false, false, false, false, false, false, false, false, false, false, false] rfl rfl (by as_aux_lemma => kernel_rfl) (fun _ _ _ h => h) (Or.inl ⟨by rfl, ?_⟩) ?_ ?_
           rotate_left
           ·intro w'
            go_simp
            with_reducible rfl
           rotate_left
           ·simp only [Act.put, List.setIfInBounds_toArray, List.set_cons_zero, List.set_cons_succ, i64_w, i32_w]
            rfl
           refine pure_ (i := 12) (N := some 138) (v := ?_) (a' := ?_) #[true, true, true, true, true, true, true, true, true, true, true, true, true, false, false, false, false, false, false, false, false, false, false, false, false, false, false, false, false, false, false] rfl rfl (by as_aux_lemma => kernel_rfl) (fun _ _ _ h => h) (Or.inl ⟨by rfl, ?_⟩) ?_ ?_
           rotate_left
           ·intro w'
            go_simp
            with_reducible rfl
           rotate_left
           ·simp only [Act.put, List.setIfInBounds_toArray, List.set_cons_zero, List.set_cons_succ, i64_w, i32_w]
            rfl
           refine pure_ (i := 13) (N := some 139) (v := ?_) (a' := ?_) #[true, true, true, true, true, true, true, true, true, true, true, true, true, true, false, false, false, false, false, false, false, false, false, false, false, false, false, false, false, false, false] rfl rfl (by as_aux_lemma => kernel_rfl) (fun _ _ _ h => h) (Or.inl ⟨by rfl, ?_⟩) ?_ ?_
           rotate_left
           ·intro w'
            go_simp
            with_reducible rfl
           rotate_left
           ·simp only [Act.put, List.setIfInBounds_toArray, List.set_cons_zero, List.set_cons_succ, i64_w, i32_w]
            rfl
           refine pure_ (i := 14) (N := some 140) (v := ?_) (a' := ?_) #[true, true, true, true, true, true, true, true, true, true, true, true, true, true, true, false, false, false, false, false, false, false, false, false, false, false, false, false, false, false, false] rfl rfl (by as_aux_lemma => kernel_rfl) (fun _ _ _ h => h) (Or.inl ⟨by rfl, ?_⟩) ?_ ?_
           rotate_left
           ·intro w'
            go_simp
            with_reducible rfl
           rotate_left
           ·simp only [Act.put, List.setIfInBounds_toArray, List.set_cons_zero, List.set_cons_succ, i64_w, i32_w]
            rfl
           refine pure_ (i := 15) (N := some 141) (v := ?_) (a' := ?_) #[true, true, true, true, true, true, true, true, true, true, true, true, true, true, true, true, false, false, false, false, false, false, false, false, false, false, false, false, false, false, false] rfl rfl (by as_aux_lemma => kernel_rfl) (fun _ _ _ h => h) (Or.inl ⟨by rfl, ?_⟩) ?_ ?_
           rotate_left
           ·intro w'
            go_simp
            with_reducible rfl
           rotate_left
           ·simp only [Act.put, List.setIfInBounds_toArray, List.set_cons_zero, List.set_cons_succ, i64_w, i32_w]
            rfl
           refine take_ (i := 16) (N := some 142) (v := ?_) (a' := ?_) #[true, true, true, true, true, true, true, true, true, true, true, true, true, true, true, true, true, false, false, false, false, false, false, false, false, false, false, false, false, false, false] rfl rfl (by as_aux_lemma => kernel_rfl) (fun _ _ _ h => h) (Or.inl ⟨by rfl, ?_⟩) hHeld ?_ ?_
           rotate_left
           ·rintro w' ⟨s0, s1, s2⟩
            go_simp
            with_reducible rfl
           rotate_left
           ·simp only [Act.put, List.setIfInBounds_toArray, List.set_cons_zero, List.set_cons_succ, i64_w, i32_w]
            rfl
           refine pure_ (i := 17) (N := some 143) (v := ?_) (a' := ?_) #[true, true, true, true, true, true, true, true, true, true, true, true, true, true, true, true, true, true, false, false, false, false, false, false, false, false, false, false, false, false, false] rfl rfl (by as_aux_lemma => kernel_rfl) (fun _ _ _ h => h) (Or.inl ⟨by rfl, ?_⟩) ?_ ?_
           rotate_left
           ·intro w'
            go_simp
            with_reducible rfl
           rotate_left
           ·simp only [Act.put, List.setIfInBounds_toArray, List.set_cons_zero, List.set_cons_succ, i64_w, i32_w]
            rfl
           refine pure_ (i := 18) (N := some 144) (v := ?_) (a' := ?_) #[true, true, true, true, true, true, true, true, true, true, true, true, true, true, true, true, true, true, true, false, false, false, false, false, false, false, false, false, false, false, false] rfl rfl (by as_aux_lemma => kernel_rfl) (fun _ _ _ h => h) (Or.inl ⟨by rfl, ?_⟩) ?_ ?_
           rotate_left
           ·intro w'
            go_simp
            with_reducible rfl
           rotate_left
           ·simp only [Act.put, List.setIfInBounds_toArray, List.set_cons_zero, List.set_cons_succ, i64_w, i32_w]
            rfl
           refine pure_ (i := 19) (N := some 145) (v := ?_) (a' := ?_) #[true, true, true, true, true, true, true, true, true, true, true, true, true, true, true, true, true, true, true, true, false, false, false, false, false, false, false, false, false, false, false] rfl rfl (by as_aux_lemma => kernel_rfl) (fun _ _ _ h => h) (Or.inl ⟨by rfl, ?_⟩) ?_ ?_
           rotate_left
           ·intro w'
            go_simp
            with_reducible rfl
           rotate_left
           ·simp only [Act.put, List.setIfInBounds_toArray, List.set_cons_zero, List.set_cons_succ, i64_w, i32_w]
            rfl
           refine take_ (i := 20) (N := some 146) (v := ?_) (a' := ?_) #[true, true, true, true, true, true, true, true, true, true, true, true, true, true, true, true, true, true, true, true, true, false, false, false, false, false, false, false, false, false, false] rfl rfl (by as_aux_lemma => kernel_rfl) (fun _ _ _ h => h) (Or.inl ⟨by rfl, ?_⟩) hHeld ?_ ?_
           rotate_left
           ·rintro w' ⟨s0, s1, s2⟩
            go_simp
            with_reducible rfl
           rotate_left
           ·simp only [Act.put, List.setIfInBounds_toArray, List.set_cons_zero, List.set_cons_succ, i64_w, i32_w]
            rfl
           refine pure_ (i := 21) (N := some 147) (v := ?_) (a' := ?_) #[true, true, true, true, true, true, true, true, true, true, true, true, true, true, true, true, true, true, true, true, true, true, false, false, false, false, false, false, false, false, false] rfl rfl (by as_aux_lemma => kernel_rfl) (fun _ _ _ h => h) (Or.inl ⟨by rfl, ?_⟩) ?_ ?_
           rotate_left
           ·intro w'
            go_simp
            with_reducible rfl
           rotate_left
           ·simp only [Act.put, List.setIfInBounds_toArray, List.set_cons_zero, List.set_cons_succ, i64_w, i32_w]
            rfl
           refine pure_ (i := 22) (N := some 148) (v := ?_) (a' := ?_) #[true, true, true, true, true, true, true, true, true, true, true, true, true, true, true, true, true, true, true, true, true, true, true, false, false, false, false, false, false, false, false] rfl rfl (by as_aux_lemma => kernel_rfl) (fun _ _ _ h => h) (Or.inl ⟨by rfl, ?_⟩) ?_ ?_
           rotate_left
           ·intro w'
            go_simp
            with_reducible rfl
           rotate_left
           ·simp only [Act.put, List.setIfInBounds_toArray, List.set_cons_zero, List.set_cons_succ, i64_w, i32_w]
            rfl
           refine pure_ (i := 23) (N := some 149) (v := ?_) (a' := ?_) #[true, true, true, true, true, true, true, true, true, true, true, true, true, true, true, true, true, true, true, true, true, true, true, true, false, false, false, false, false, false, false] rfl rfl (by as_aux_lemma => kernel_rfl) (fun _ _ _ h => h) (Or.inl ⟨by rfl, ?_⟩) ?_ ?_
           rotate_left
           ·intro w'
            go_simp
            with_reducible rfl
           rotate_left
           ·simp only [Act.put, List.setIfInBounds_toArray, List.set_cons_zero, List.set_cons_succ, i64_w, i32_w]
            rfl
           refine pure_ (i := 24) (N := some 150) (v := ?_) (a' := ?_) #[true, true, true, true, true, true, true, true, true, true, true, true, true, true, true, true, true, true, true, true, true, true, true, true, true, false, false, false, false, false, false] rfl rfl (by as_aux_lemma => kernel_rfl) (fun _ _ _ h => h) (Or.inl ⟨by rfl, ?_⟩) ?_ ?_
           rotate_left
           ·intro w'
            go_simp
            with_reducible rfl
           rotate_left
           ·simp only [Act.put, List.setIfInBounds_toArray, List.set_cons_zero, List.set_cons_succ, i64_w, i32_w]
            rfl
           refine take_ (i := 25) (N := some 151) (v := ?_) (a' := ?_) #[true, true, true, true, true, true, true, true, true, true, true, true, true, true, true, true, true, true, true, true, true, true, true, true, true, true, false, false, false, false, false] rfl rfl (by as_aux_lemma => kernel_rfl) (fun _ _ _ h => h) (Or.inl ⟨by rfl, ?_⟩) hHeld ?_ ?_
           rotate_left
           ·rintro w' ⟨s0, s1, s2⟩
            go_simp
            with_reducible rfl
           rotate_left
           ·simp only [Act.put, List.setIfInBounds_toArray, List.set_cons_zero, List.set_cons_succ, i64_w, i32_w]
            rfl
           refine pure_ (i := 26) (N := some 152) (v := ?_) (a' := ?_) #[true, true, true, true, true, true, true, true, true, true, true, true, true, true, true, true, true, true, true, true, true, true, true, true, true, true, true, false, false, false, false] rfl rfl (by as_aux_lemma => kernel_rfl) (fun _ _ _ h => h) (Or.inl ⟨by rfl, ?_⟩) ?_ ?_
           rotate_left
           ·intro w'
            go_simp
            with_reducible rfl
           rotate_left
           ·simp only [Act.put, List.setIfInBounds_toArray, List.set_cons_zero, List.set_cons_succ, i64_w, i32_w]
            rfl
           refine pure_ (i := 27) (N := some 153) (v := ?_) (a' := ?_) #[true, true, true, true, true, true, true, true, true, true, true, true, true, true, true, true, true, true, true, true, true, true, true, true, true, true, true, true, false, false, false] rfl rfl (by as_aux_lemma => kernel_rfl) (fun _ _ _ h => h) (Or.inl ⟨by rfl, ?_⟩) ?_ ?_
           rotate_left
           ·intro w'
            go_simp
            with_reducible rfl
           rotate_left
           ·simp only [Act.put, List.setIfInBounds_toArray, List.set_cons_zero, List.set_cons_succ, i64_w, i32_w]
            rfl
           refine pure_ (i := 28) (N := some 154) (v := ?_) (a' := ?_) #[true, true, true, true, true, true, true, true, true, true, true, true, true, true, true, true, true, true, true, true, true, true, true, true, true, true, true, true, true, false, false] rfl rfl (by as_aux_lemma => kernel_rfl) (fun _ _ _ h => h) (Or.inl ⟨by rfl, ?_⟩) ?_ ?_
           rotate_left
           ·intro w'
            go_simp
            with_reducible rfl
           rotate_left
           ·simp only [Act.put, List.setIfInBounds_toArray, List.set_cons_zero, List.set_cons_succ, i64_w, i32_w]
            rfl
           refine pure_ (i := 29) (N := some 155) (v := ?_) (a' := ?_) #[true, true, true, true, true, true, true, true, true, true, true, true, true, true, true, true, true, true, true, true, true, true, true, true, true, true, true, true, true, true, false] rfl rfl (by as_aux_lemma => kernel_rfl) (fun _ _ _ h => h) (Or.inl ⟨by rfl, ?_⟩) ?_ ?_
           rotate_left
           ·intro w'
            go_simp
            with_reducible rfl
           rotate_left
           ·simp only [Act.put, List.setIfInBounds_toArray, List.set_cons_zero, List.set_cons_succ, i64_w, i32_w]
            rfl
           refine pure_ (i := 30) (N := some 16) (v := ?_) (a' := ?_) #[true, true, true, true, true, true, true, true, true, true, true, true, true, true, true, true, true, true, true, true, true, true, true, true, true, true, true, true, true, true, true] rfl rfl (by as_aux_lemma => kernel_rfl) (fun _ _ _ h => h) (Or.inl ⟨by rfl, ?_⟩) ?_ ?_
           rotate_left
           ·intro w'
            go_simp
            with_reducible rfl
           rotate_left
           ·simp only [Act.put, List.setIfInBounds_toArray, List.set_cons_zero, List.set_cons_succ, i64_w, i32_w]
            rfl
           refine done_ (by as_aux_lemma => kernel_rfl) ?_
           clear hHeld
           rw [← hwr]
           exact TAIL WA wr_ _ _ _ _ _ _ _ _ _ _ _ _ _ _ _ _ _ _ _ _ _ _ _ _ _ _ HWR HBW
        ·have _hx := trivial
         as_aux_lemma =>
          have q5 : (d.1 != 3) = true := bne_iff_ne.mpr hd3
          have HWR : Aside0 (true = (decide (d.1 ≠ 3) || !lastLt d.2.2.2 last)) := ⟨by rw [decide_eq_true hd3]; rfl⟩
          refine start_ (n := 31) (S := fun w' => w'.cell? ⟨gd, od, none⟩ = some (.int .i64 d.1)) (ds := []) #[false, false, false, false, false, false, false, false, false, false, false, false, false, false, false, false, false, false, false, false, false, false, false, false, false, false, false, false, false, false, false] (by as_aux_lemma => kernel_rfl) rfl rfl (pw_cell_below (below_drew (Below.refl _ _)) j3) (fun hHeld => ?_)
          have HBW : Aside0 (Below W9.heap.size W9 W9.drew) := ⟨below_drew (Below.refl _ _)⟩
          generalize W9.drew = WA at *
          clear HM9 HNR9 B129 HS9 HOW9 j3 j4
          refine pure_ (i := 0) (N := some 126) (v := ?_) (a' := ?_) #[true, false, false, false, false, false, false, false, false, false, false, false, false, false, false, false, false, false, false, false, false, false, false, false, false, false, false, false, false, false, false] rfl rfl (by as_aux_lemma => kernel_rfl) (fun _ _ _ h => h) (Or.inl ⟨by rfl, ?_⟩) ?_ ?_
          rotate_left
          ·intro w'
           go_simp
           with_reducible rfl
          rotate_left
          ·simp only [Act.put, List.setIfInBounds_toArray, List.set_cons_zero, List.set_cons_succ, i64_w, i32_w]
           rfl
          refine pure_ (i := 1) (N := some 127) (v := ?_) (a' := ?_) #[true, true, false, false, false, false, false, false, false, false, false, false, false, false, false, false, false, false, false, false, false, false, false, false, false, false, false, false, false, false, false] rfl rfl (by as_aux_lemma => kernel_rfl) (fun _ _ _ h => h) (Or.inl ⟨by rfl, ?_⟩) ?_ ?_
          rotate_left
          ·intro w'
           go_simp
           with_reducible rfl
          rotate_left
          ·simp only [Act.put, List.setIfInBounds_toArray, List.set_cons_zero, List.set_cons_succ, i64_w, i32_w]
           rfl
          refine pure_ (i := 2) (N := some 128) (v := ?_) (a' := ?_) #[true, true, true, false, false, false, false, false, false, false, false, false, false, false, false, false, false, false, false, false, false, false, false, false, false, false, false, false, false, false, false] rfl rfl (by as_aux_lemma => kernel_rfl) (fun _ _ _ h => h) (Or.inl ⟨by rfl, ?_⟩) ?_ ?_
          rotate_left
          ·intro w'
           go_simp
           with_reducible rfl
          rotate_left
          ·simp only [Act.put, List.setIfInBounds_toArray, List.set_cons_zero, List.set_cons_succ, i64_w, i32_w]
           rfl
          refine take_ (i := 3) (N := some 129) (v := ?_) (a' := ?_) #[true, true, true, true, false, false, false, false, false, false, false, false, false, false, false, false, false, false, false, false, false, false, false, false, false, false, false, false, false, false, false] rfl rfl (by as_aux_lemma => kernel_rfl) (fun _ _ _ h => h) (Or.inl ⟨by rfl, ?_⟩) hHeld ?_ ?_
          rotate_left
          ·intro w' s0
           go_simp
           with_reducible rfl
          rotate_left
          ·simp only [Act.put, List.setIfInBounds_toArray, List.set_cons_zero, List.set_cons_succ, i64_w, i32_w]
           rfl
          refine pure_ (i := 4) (N := some 130) (v := ?_) (a' := ?_) #[true, true, true, true, true, false, false, false, false, false, false, false, false, false, false, false, false, false, false, false, false, false, false, false, false, false, false, false, false, false, false] rfl rfl (by as_aux_lemma => kernel_rfl) (fun _ _ _ h => h) (Or.inl ⟨by rfl, ?_⟩) ?_ ?_
          rotate_left
          ·intro w'
           go_simp
           with_reducible rfl
          rotate_left
          ·simp only [Act.put, List.setIfInBounds_toArray, List.set_cons_zero, List.set_cons_succ, i64_w, i32_w]
           rfl
          refine pure_ (i := 5) (N := some 131) (v := ?_) (a' := ?_) #[true, true, true, true, true, true, false, false, false, false, false, false, false, false, false, false, false, false, false, false, false, false, false, false, false, false, false, false, false, false, false] rfl rfl (by as_aux_lemma => kernel_rfl) (fun _ _ _ h => h) (Or.inl ⟨by rfl, ?_⟩) ?_ ?_
          rotate_left
          ·intro w'
           go_simp
           with_reducible rfl
          rotate_left
          ·simp only [Act.put, List.setIfInBounds_toArray, List.set_cons_zero, List.set_cons_succ, i64_w, i32_w]
           rfl
          refine pure_ (i := 6) (N := some 132) (v := undef) (a' := ?_) #[true, true, true, true, true, true, true, false, false, false, false, false, false, false, false, false, false, false, false, false, false, false, false, false, false, false, false, false, false, false, false] rfl rfl (by as_aux_lemma => kernel_rfl) (fun _ _ _ h => h) (Or.inr ⟨by rfl, rfl⟩) ?_ ?_
          rotate_left
          ·simp only [Act.put, List.setIfInBounds_toArray, List.set_cons_zero, List.set_cons_succ, i64_w, i32_w]
           rfl
          refine pure_ (i := 7) (N := some 133) (v := undef) (a' := ?_) #[true, true, true, true, true, true, true, true, false, false, false, false, false, false, false, false, false, false, false, false, false, false, false, false, false, false, false, false, false, false, false] rfl rfl (by as_aux_lemma => kernel_rfl) (fun _ _ _ h => h) (Or.inr ⟨by rfl, rfl⟩) ?_ ?_
          rotate_left
          ·simp only [Act.put, List.setIfInBounds_toArray, List.set_cons_zero, List.set_cons_succ, i64_w, i32_w]
           rfl
          refine pure_ (i := 8) (N := some 134) (v := undef) (a' := ?_) #[true, true, true, true, true, true, true, true, true, false, false, false, false, false, false, false, false, false, false, false, false, false, false, false, false, false, false, false, false, false, false] rfl rfl (by as_aux_lemma => kernel_rfl) (fun _ _ _ h => h) (Or.inr ⟨by rfl, rfl⟩) ?_ ?_
          rotate_left
          ·simp only [Act.put, List.setIfInBounds_toArray, List.set_cons_zero, List.set_cons_succ, i64_w, i32_w]
           rfl
          refine pure_ (i := 9) (N := some 135) (v := undef) (a' := ?_) #[true, true, true, true, true, true, true, true, true, true, false, false, false, false, false, false, false, false, false, false, false, false, false, false, false, false, false, false, false, false, false] rfl rfl (by as_aux_lemma => kernel_rfl) (fun _ _ _ h => h) (Or.inr ⟨by rfl, rfl⟩) ?_ ?_
          rotate_left
          ·simp only [Act.put, List.setIfInBounds_toArray, List.set_cons_zero, List.set_cons_succ, i64_w, i32_w]
           rfl
          refine pure_ (i := 10) (N := some 136) (v := undef) (a' := ?_) #[true, true, true, true, true, true, true, true, true, true, true, false, false, false, false, false, false, false, false, false, false, false, false, false, false, false, false, false, false, false, false] rfl rfl (by as_aux_lemma => kernel_rfl) (fun _ _ _ h => h) (Or.inr ⟨by rfl, rfl⟩) ?_ ?_
          rotate_left
          ·simp only [Act.put, List.setIfInBounds_toArray, List.set_cons_zero, List.set_cons_succ, i64_w, i32_w]
           rfl
          refine pure_ (i := 11) (N := some 137) (v := undef) (a' := ?_) #[true, true, true, true, true, true, true, true, true, true, true, true, false, false, false, false, false, false, false, false, false, false, false, false, false, false, false, false, false, false, false] rfl rfl (by as_aux_lemma => kernel_rfl) (fun _ _ _ h => h) (Or.inr ⟨by rfl, rfl⟩) ?_ ?_
          rotate_left
          ·simp only [Act.put, List.setIfInBounds_toArray, List.set_cons_zero, List.set_cons_succ, i64_w, i32_w]
           rfl
          refine pure_ (i := 12) (N := some 138) (v := undef) (a' := ?_) #[true, true, true, true, true, true, true, true, true, true, true, true, true, false, false, false, false, false, false, false, false, false, false, false, false, false, false, false, false, false, false] rfl rfl (by as_aux_lemma => kernel_rfl) (fun _ _ _ h => h) (Or.inr ⟨by rfl, rfl⟩) ?_ ?_
          rotate_left
          ·simp only [Act.put, List.setIfInBounds_toArray, List.set_cons_zero, List.set_cons_succ, i64_w, i32_w]
           rfl
          refine pure_ (i := 13) (N := some 139) (v := undef) (a' := ?_) #[true, true, true, true, true, true, true, true, true, true, true, true, true, true, false, false, false, false, false, false, false, false, false, false, false, false, false, false, false, false, false] rfl rfl (by as_aux_lemma => kernel_rfl) (fun _ _ _ h => h) (Or.inr ⟨by rfl, rfl⟩) ?_ ?_
          rotate_left
          ·simp only [Act.put, List.setIfInBounds_toArray, List.set_cons_zero, List.set_cons_succ, i64_w, i32_w]
           rfl
          refine pure_ (i := 14) (N := some 140) (v := undef) (a' := ?_) #[true, true, true, true, true, true, true, true, true, true, true, true, true, true, true, false, false, false, false, false, false, false, false, false, false, false, false, false, false, false, false] rfl rfl (by as_aux_lemma => kernel_rfl) (fun _ _ _ h => h) (Or.inr ⟨by rfl, rfl⟩) ?_ ?_
          rotate_left
          ·simp only [Act.put, List.setIfInBounds_toArray, List.set_cons_zero, List.set_cons_succ, i64_w, i32_w]
           rfl
          refine pure_ (i := 15) (N := some 141) (v := undef) (a' := ?_) #[true, true, true, true, true, true, true, true, true, true, true, true, true, true, true, true, false, false, false, false, false, false, false, false, false, false, false, false, false, false, false] rfl rfl (by as_aux_lemma => kernel_rfl) (fun _ _ _ h => h) (Or.inr ⟨by rfl, rfl⟩) ?_ ?_
          rotate_left
          ·simp only [Act.put, List.setIfInBounds_toArray, List.set_cons_zero, List.set_cons_succ, i64_w, i32_w]
           rfl
          refine pure_ (i := 16) (N := some 142) (v := undef) (a' := ?_) #[true, true, true, true, true, true, true, true, true, true, true, true, true, true, true, true, true, false, false, false, false, false, false, false, false, false, false, false, false, false, false] rfl rfl (by as_aux_lemma => kernel_rfl) (fun _ _ _ h => h) (Or.inr ⟨by rfl, rfl⟩) ?_ ?_
          rotate_left
          ·simp only [Act.put, List.setIfInBounds_toArray, List.set_cons_zero, List.set_cons_succ, i64_w, i32_w]
           rfl
          refine pure_ (i := 17) (N := some 143) (v := undef) (a' := ?_) #[true, true, true, true, true, true, true, true, true, true, true, true, true, true, true, true, true, true, false, false, false, false, false, false, false, false, false, false, false, false, false] rfl rfl (by as_aux_lemma => kernel_rfl) (fun _ _ _ h => h) (Or.inr ⟨by rfl, rfl⟩) ?_ ?_
          rotate_left
          ·simp only [Act.put, List.setIfInBounds_toArray, List.set_cons_zero, List.set_cons_succ, i64_w, i32_w]
           rfl
          refine pure_ (i := 18) (N := some 144) (v := undef) (a' := ?_) #[true, true, true, true, true, true, true, true, true, true, true, true, true, true, true, true, true, true, true, false, false, false, false, false, false, false, false, false, false, false, false] rfl rfl (by as_aux_lemma => kernel_rfl) (fun _ _ _ h => h) (Or.inr ⟨by rfl, rfl⟩) ?_ ?_
          rotate_left
          ·simp only [Act.put, List.setIfInBounds_toArray, List.set_cons_zero, List.set_cons_succ, i64_w, i32_w]
           rfl
          refine pure_ (i := 19) (N := some 145) (v := undef) (a' := ?_) #[true, true, true, true, true, true, true, true, true, true, true, true, true, true, true, true, true, true, true, true, false, false, false, false, false, false, false, false, false, false, false] rfl rfl (by as_aux_lemma => kernel_rfl) (fun _ _ _ h => h) (Or.inr ⟨by rfl, rfl⟩) ?_ ?_
          rotate_left
          ·simp only [Act.put, List.setIfInBounds_toArray, List.set_cons_zero, List.set_cons_succ, i64_w, i32_w]
           rfl
          refine pure_ (i := 20) (N := some 146) (v := undef) (a' := ?_) #[true, true, true, true, true, true, true, true, true, true, true, true, true, true, true, true, true, true, true, true, true, false, false, false, false, false, false, false, false, false, false] rfl rfl (by as_aux_lemma => kernel_rfl) (fun _ _ _ h => h) (Or.inr ⟨by rfl, rfl⟩) ?_ ?_
          rotate_left
          ·simp only [Act.put, List.setIfInBounds_toArray, List.set_cons_zero, List.set_cons_succ, i64_w, i32_w]
           rfl
          refine pure_ (i := 21) (N := some 147) (v := undef) (a' := ?_) #[true, true, true, true, true, true, true, true, true, true, true, true, true, true, true, true, true, true, true, true, true, true, false, false, false, false, false, false, false, false, false] rfl rfl (by as_aux_lemma => kernel_rfl) (fun _ _ _ h => h) (Or.inr ⟨by rfl, rfl⟩) ?_ ?_
          rotate_left
          ·simp only [Act.put, List.setIfInBounds_toArray, List.set_cons_zero, List.set_cons_succ, i64_w, i32_w]
           rfl
          refine pure_ (i := 22) (N := some 148) (v := undef) (a' := ?_) #[true, true, true, true, true, true, true, true, true, true, true, true, true, true, true, true, true, true, true, true, true, true, true, false, false, false, false, false, false, false, false] rfl rfl (by as_aux_lemma => kernel_rfl) (fun _ _ _ h => h) (Or.inr ⟨by rfl, rfl⟩) ?_ ?_
          rotate_left
          ·simp only [Act.put, List.setIfInBounds_toArray, List.set_cons_zero, List.set_cons_succ, i64_w, i32_w]
           rfl
          refine pure_ (i := 23) (N := some 149) (v := undef) (a' := ?_) #[true, true, true, true, true, true, true, true, true, true, true, true, true, true, true, true, true, true, true, true, true, true, true, true, false, false, false, false, false, false, false] rfl rfl (by as_aux_lemma => kernel_rfl) (fun _ _ _ h => h) (Or.inr ⟨by rfl, rfl⟩) ?_ ?_
          rotate_left
          ·simp only [Act.put, List.setIfInBounds_toArray, List.set_cons_zero, List.set_cons_succ, i64_w, i32_w]
           rfl
          refine pure_ (i := 24) (N := some 150) (v := undef) (a' := ?_) #[true, true, true, true, true, true, true, true, true, true, true, true, true, true, true, true, true, true, true, true, true, true, true, true, true, false, false, false, false, false, false] rfl rfl (by as_aux_lemma => kernel_rfl) (fun _ _ _ h => h) (Or.inr ⟨by rfl, rfl⟩) ?_ ?_
          rotate_left
          ·simp only [Act.put, List.setIfInBounds_toArray, List.set_cons_zero, List.set_cons_succ, i64_w, i32_w]
           rfl
          refine pure_ (i := 25) (N := some 151) (v := undef) (a' := ?_) #[true, true, true, true, true, true, true, true, true, true, true, true, true, true, true, true, true, true, true, true, true, true, true, true, true, true, false, false, false, false, false] rfl rfl (by as_aux_lemma => kernel_rfl) (fun _ _ _ h => h) (Or.inr ⟨by rfl, rfl⟩) ?_ ?_
          rotate_left
          ·simp only [Act.put, List.setIfInBounds_toArray, List.set_cons_zero, List.set_cons_succ, i64_w, i32_w]
           rfl
          refine pure_ (i := 26) (N := some 152) (v := undef) (a' := ?_) #[true, true, true, true, true, true, true, true, true, true, true, true, true, true, true, true, true, true, true, true, true, true, true, true, true, true, true, false, false, false, false] rfl rfl (by as_aux_lemma => kernel_rfl) (fun _ _ _ h => h) (Or.inr ⟨by rfl, rfl⟩) ?_ ?_
          rotate_left
          ·simp only [Act.put, List.setIfInBounds_toArray, List.set_cons_zero, List.set_cons_succ, i64_w, i32_w]
           rfl
          refine pure_ (i := 27) (N := some 153) (v := undef) (a' := ?_) #[true, true, true, true, true, true, true, true, true, true, true, true, true, true, true, true, true, true, true, true, true, true, true, true, true, true, true, true, false, false, false] rfl rfl (by as_aux_lemma => kernel_rfl) (fun _ _ _ h => h) (Or.inr ⟨by rfl, rfl⟩) ?_ ?_
          rotate_left
          ·simp only [Act.put, List.setIfInBounds_toArray, List.set_cons_zero, List.set_cons_succ, i64_w, i32_w]
           rfl
          refine pure_ (i := 28) (N := some 154) (v := undef) (a' := ?_) #[true, true, true, true, true, true, true, true, true, true, true, true, true, true, true, true, true, true, true, true, true, true, true, true, true, true, true, true, true, false, false] rfl rfl (by as_aux_lemma => kernel_rfl) (fun _ _ _ h => h) (Or.inr ⟨by rfl, rfl⟩) ?_ ?_
          rotate_left
          ·simp only [Act.put, List.setIfInBounds_toArray, List.set_cons_zero, List.set_cons_succ, i64_w, i32_w]
           rfl
          refine pure_ (i := 29) (N := some 155) (v := ?_) (a' := ?_) #[true, true, true, true, true, true, true, true, true, true, true, true, true, true, true, true, true, true, true, true, true, true, true, true, true, true, true, true, true, true, false] rfl rfl (by as_aux_lemma => kernel_rfl) (fun _ _ _ h => h) (Or.inl ⟨by rfl, ?_⟩) ?_ ?_
          rotate_left
          ·intro w'
           go_simp
           with_reducible rfl
          rotate_left
          ·simp only [Act.put, List.setIfInBounds_toArray, List.set_cons_zero, List.set_cons_succ, i64_w, i32_w]
           rfl
          refine pure_ (i := 30) (N := some 16) (v := ?_) (a' := ?_) #[true, true, true, true, true, true, true, true, true, true, true, true, true, true, true, true, true, true, true, true, true, true, true, true, true, true, true, true, true, true, true] rfl rfl (by as_aux_lemma => kernel_rfl) (fun _ _ _ h => h) (Or.inl ⟨by rfl, ?_⟩) ?_ ?_
          rotate_left
          ·intro w'
           go_simp
           with_reducible rfl
          rotate_left
          ·simp only [Act.put, List.setIfInBounds_toArray, List.set_cons_zero, List.set_cons_succ, i64_w, i32_w]
           rfl
          refine done_ (by as_aux_lemma => kernel_rfl) ?_
          clear hHeld
          exact TAIL WA true _ _ _ _ _ _ _ _ _ _ _ _ _ _ _ _ _ _ _ _ _ _ _ _ _ _ HWR HBW
   ·obtain rfl : i = rows.length := by omega
    obtain ⟨A4, c4, hv4, hlc4⟩ := HM.out.own.slice
    subst hv4
    have hroot := HM.out.root
    obtain ⟨x0, x1, x2, x3⟩ := cells4 hroot
    have R20 := Aside0.mk (R0.out.below HM.out.below)
    have R30 := Aside0.mk (R1.out.below HM.out.below)
    have y0 := R20.out.frozen 0
    have y1 := R20.out.frozen 1
    have y2 := R20.out.frozen 2
    have y3 := R20.out.frozen 3
    have y4 := R30.out.frozen 0
    have y5 := R30.out.frozen 1
    obtain ⟨k0, k1, k2, k3⟩ := cells4 R20.out
    have k4 := R30.out.cell 0 _ rfl
    have k5 := R30.out.cell 1 _ rfl
    have hne : b3 ≠ b2 := by have := HZ.out; omega
    have hne2 : b2 ≠ b3 := by have := HZ.out; omega
    clear hroot
    go_wp2_with fail
    have HSD : Aside0 (buildP us = (s.n, 0, 0)) := ⟨by
     rw [HS.out.said, List.drop_of_length_le (by rw [HUS.out, List.length_map]; exact Nat.le_refl _)]; rfl⟩
    obtain ⟨Wf, hWf⟩ : ∃ Wf, Wf = (((((wr.setCell ⟨b2, 0, none⟩ (.int .i64 s.n.1)).setCell ⟨b2, 1, none⟩ (.bool s.n.2.1)).setCell ⟨b2, 2, none⟩ (.string s.n.2.2.1)).setCell ⟨b2, 3, none⟩ (.slice A4 s.n.2.2.2.length c4)).setCell ⟨b3, 0, none⟩ (.int .i64 0)).setCell ⟨b3, 1, none⟩ (.int .i64 0) := ⟨_, rfl⟩
    obtain ⟨f1, f2, f3, f4⟩ := fin_all HZ.out (below_step HB0.out HM.out.below) R20.out R30.out HM.out.own hWf
    rw [← hWf, HSD.out]
    obtain ⟨z0, z1, z2, z3⟩ := cells4 f3
    have z4 := f4.cell 0 _ rfl
    have z5 := f4.cell 1 _ rfl
    refine bodyPost_ret (v := .tuple #[.agg #[.int .i64 s.n.1, .bool s.n.2.1, .string s.n.2.2.1, .slice A4 s.n.2.2.2.length c4], .agg #[.int .i64 0, .int .i64 0]]) (by simp [results, Tryd.results11, go_sem, z0, z1, z2, z3, z4, z5]) rfl ⟨_, rfl, f1, f2⟩
end Go.Proofs.YtnemeeidomceiaaDoor
end
section
namespace Go.Proofs.YtnemeeidomceiaaDoor
open Go.RowKit Go.Proofs.YtnemeeidomceiaaDoorW.PrintWords Go.Proofs.YtnemeeidomceiaaDoorW.PrintLast Go.Proofs.YtnemeeidomceiaaDoorW.PrintMore
set_option linter.unusedVariables false
def flatB (r : NodeT × Int × Int) : Int × Bool × ByteArray × List Ent × Int × Int := (r.1.1, r.1.2.1, r.1.2.2.1, r.1.2.2.2, r.2.1, r.2.2)
open Classical in
noncomputable def tree_Build.f (l : List OwnRw) : Option (Int × Bool × ByteArray × List Ent × Int × Int) := if RowsOk l then some (flatB (buildP (l.map rowU))) else none
theorem tree_Build.calls (A0 : Option Addr) (c0 : Nat) (l0 : List OwnRw) (r1 : Int) (r2 : Bool) (r3 : ByteArray) (r4 : List Ent) (r5 r6 : Int) (w : World) (hr0 : Kd.C k27 w A0 l0.length l0) (hc0 : l0.length ≤ c0) (h : tree_Build.f l0 = some (r1, r2, r3, r4, r5, r6)) :
  Calls Tryd.prog 11 #[.slice A0 l0.length c0] w fun e w' => ∃ v3_ : Value, e = .returned (.tuple #[.agg #[.int .i64 r1, .bool r2, .string r3, v3_], .agg #[.int .i64 r5, .int .i64 r6]]) ∧ Kd.R kE eE w' w.heap.size (fun _ => True) v3_ r4 ∧ Below w.heap.size w w' := by
 unfold tree_Build.f at h
 by_cases hh : RowsOk l0
 ·rw [if_pos hh] at h
  simp only [flatB, Option.some.injEq, Prod.mk.injEq] at h
  obtain ⟨rfl, rfl, rfl, rfl, rfl, rfl⟩ := h
  exact (build_calls l0 A0 c0 w hr0 hc0 hh).mono fun e w' ⟨v, hv, hO, hb⟩ => ⟨v, hv, Kd.R_mono hO.toR (fun _ _ => trivial), hb⟩
 ·rw [if_neg hh] at h; cases h
end Go.Proofs.YtnemeeidomceiaaDoor
end
section
namespace Go.Proofs.YtnemeeidomceiaaDoor.PBTreeFirst
open Go.RowKit Go.Proofs.YtnemeeidomceiaaDoorW.PrintWords Go.Proofs.YtnemeeidomceiaaDoorW.PrintLast Go.Proofs.YtnemeeidomceiaaDoorW.PrintMore
attribute [local go_sem] max2_int min2_int max_two min_two max_three min_three max_four min_four   -- for this text's walks alone
set_option linter.unusedVariables false
set_option linter.unusedSimpArgs false
noncomputable section
def errW : Option Int → Value
 | none => .nilIface
 | some c => .iface 0 (.int .i64 c)
theorem errW_none : errW none = .nilIface := rfl
theorem errW_some (c : Int) : errW (some c) = .iface 0 (.int .i64 c) := rfl
theorem info27 : (Tryd.prog.info? 27).map (fun i => (i.zero, i.size, i.bytes)) = some (some (.agg #[(.string ⟨#[]⟩), (.int .i64 0), (.bool false), (.string ⟨#[]⟩)]), 4, 48) := by kernel_rfl
end
end Go.Proofs.YtnemeeidomceiaaDoor.PBTreeFirst
end
