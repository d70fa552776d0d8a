import Derived.Test.YtnemeeidomceiaaDoorPt3
import Derived.Test.YtnemeeidomceiaaDoorPt6
import Derived.Test.YtnemeeidomceiaaDoorRangeCellsPt
import Derived.LoopIn
import Derived.LoopNIn
import Derived.OwnWalkIn
import Derived.Shelf.Abstract
import Derived.Shelf.RegionOpen
import Derived.TacticsInMore
import Derived.WalkKit
set_option linter.unusedSimpArgs false
set_option linter.unusedVariables false
namespace Go.Proofs.YtnemeeidomceiaaDoor
open Go.RowKit Go.Proofs.YtnemeeidomceiaaDoorW.PrintWords Go.Proofs.YtnemeeidomceiaaDoorW.PrintLast Go.Proofs.YtnemeeidomceiaaDoorW.PrintMore
attribute [local go_sem] Oper.semAt_some
set_option linter.unusedVariables false
set_option linter.unusedSimpArgs false
abbrev slash : ByteArray := ⟨#[47]⟩
def Kp3 (b : Nat) (W W' : World) : Prop := ∀ k, b ≤ k → k ≤ b + 2 → W'.heap[k]? = W.heap[k]?
def Wr3 (b : Nat) (A B : World) : Prop := ∃ u, B = A.setCell ⟨b, 0, none⟩ (.string u)
/-- The bytes that are left. -/
def leftAt (b : Nat) (w : World) : Nat := match w.cell? ⟨b, 0, none⟩ with
 | some (.string u) => u.size
 | _ => 0
theorem bt_extract (s : ByteArray) (frm t : Nat) (h : frm + t < s.size) : bt (s.extract frm s.size) (t : Int) = bt s ((frm + t : Nat) : Int) := by
 have h1 : t < (s.extract frm s.size).size := by rw [extract_len s frm s.size (Nat.le_refl _)]; omega
 unfold bt
 simp only [Int.toNat_natCast]
 rw [dif_pos h1, dif_pos h]
 congr 1
 congr 1
 exact ByteArray.getElem_extract h1
theorem bt_toList (s : ByteArray) (t : Nat) (h : t < s.size) (c : UInt8) : s.data.toList[t]? = some c ↔ bt s (t : Int) = (c.toNat : Int) := by
 unfold bt
 simp only [Int.toNat_natCast]
 rw [dif_pos h]
 have e : s.data.toList[t]? = some s[t] := by
  rw [Array.getElem?_toList]
  exact Array.getElem?_eq_getElem h
 rw [e]
 constructor
 ·intro h; injection h with h; rw [h]
 ·intro h
  have : s[t].toNat = c.toNat := by omega
  rw [UInt8.toNat_inj.1 this]
theorem idx_none (s : ByteArray) (frm : Nat) (hf : frm ≤ s.size) (h : Lib.indexByte (s.extract frm s.size).data.toList 47 = -1) : ∀ t : Nat, frm ≤ t → t < s.size → bt s (t : Int) ≠ 47 := by
 intro t h1 h2 e
 have := Lib.indexByte_none h (t - frm)
 refine this ((bt_toList _ _ (by rw [extract_len s frm s.size (Nat.le_refl _)]; omega) 47).2 ?_)
 rw [bt_extract s frm (t - frm) (by omega), show frm + (t - frm) = t from by omega, e]
 rfl
theorem idx_some (s : ByteArray) (frm o : Nat) (hf : frm ≤ s.size) (h : Lib.indexByte (s.extract frm s.size).data.toList 47 = (o : Int)) : frm + o < s.size ∧ bt s ((frm + o : Nat) : Int) = 47 ∧ ∀ t : Nat, frm ≤ t → t < frm + o → bt s (t : Int) ≠ 47 := by
 obtain ⟨h1, h2⟩ := Lib.indexByte_some h
 have hz := extract_len s frm s.size (Nat.le_refl _)
 have hlt : o < (s.extract frm s.size).size := by
  have := (List.getElem?_eq_some_iff.1 h1).1
  rwa [data_length] at this
 have e1 := (bt_toList _ _ hlt 47).1 h1
 rw [bt_extract s frm o (by omega)] at e1
 refine ⟨by omega, e1, fun t a b e => h2 (t - frm) (by omega) ((bt_toList _ _ (by omega) 47).2 ?_)⟩
 rw [bt_extract s frm (t - frm) (by omega), show frm + (t - frm) = t from by omega, e]
 rfl
theorem extract_extract' (s : ByteArray) (frm a b : Nat) (h : frm + b ≤ s.size) : (s.extract frm s.size).extract a b = s.extract (frm + a) (frm + b) := by
 rw [ByteArray.extract_extract]
 congr 1
 omega
set_option maxRecDepth 1000000 in
set_option maxHeartbeats 2000000 in
theorem split_stops (n b : Nat) (s : ByteArray) (w : World) (h0 : Blk w b 9 [.string s]) (h1 : Blk w (b + 1) 9 [.string slash]) (h2 : Blk w (b + 1 + 1) 3 [.int .i64 0]) (hs : s.size ≤ 140737488351232) :
  SeqCells Fence.wide n Tryd.prog 76 #[.pointer (some ⟨b + 1, 0, none⟩), .pointer (some ⟨b, 0, none⟩), .pointer (some ⟨b + 1 + 1, 0, none⟩)] (fun x : ByteArray => #[.string x]) (Kp3 b) (Wr3 b) (fun xs => xs = pcs s) (fun pre => pre <+: pcs s) (pcs s).length w := by
 intro l J Jx W hW hJ hJx hJw hY hI
 have H0 := Aside0.mk (h0.below hW)
 have H1 := Aside0.mk (h1.below hW)
 have H2 := Aside0.mk (h2.below hW)
 have hJB : ∀ q A B, J q A → Below A.heap.size A B → J q B := fun q A B hq hb => rc_abides hJ hq hb
 have HJ := Aside0.mk hJB
 have HJW := Aside0.mk hJw
 have HI := Aside0.mk hI
 clear h0 h1 h2 hJB hI hJw
 refine callsIn_of_wp Tryd.func76 rfl trivial ?_ rfl
 simp only [Tryd.ntmps76, List.size_toArray, List.length_cons, List.length_nil, Nat.reduceAdd, Nat.reduceSub, Array.replicate_succ, Array.replicate_zero, List.push_toArray, List.append_toArray, List.nil_append, List.cons_append]
 have c1 := H1.out.cell 0 _ rfl
 gi_wp2_with fail
 clear c1
 gi_loopw [7] (fun v7 wr => ∃ (pre : List ByteArray) (frm : Nat), frm ≤ s.size ∧ Aside0 (pcs s = pre ++ pieces s (s.size - frm) frm frm) ∧ Aside0 (J pre wr) ∧ Aside0 (Blk wr b 9 [.string (s.extract frm s.size)]) ∧ Aside0 (Blk wr (b + 1) 9 [.string slash]) ∧ Aside0 (Blk wr (b + 1 + 1) 3 [.int .i64 0])) (fun _ wr => leftAt b wr)
 case atStart => exact ⟨[], 0, Nat.zero_le _, ⟨rfl⟩, HI, ⟨by rw [ByteArray.extract_zero_size]; exact H0.out⟩, H1, H2⟩
 case round =>
  clear HI H0 H1 H2
  obtain ⟨pre, frm, hf, HP, HI, H0, H1, H2⟩ := hrel
  have c0 := H0.out.cell 0 _ rfl
  have c1 := H1.out.cell 0 _ rfl
  have c2 := H2.out.cell 0 _ rfl
  have f0 := H0.out.frozen 0
  have hz : (s.extract frm s.size).size = s.size - frm := extract_len s frm s.size (Nat.le_refl _)
  have hge := Lib.indexByte_ge (s.extract frm s.size).data.toList 47
  have hlf : leftAt b wr = s.size - frm := by unfold leftAt; rw [c0]; exact hz
  have HLF := Aside0.mk hlf
  have HX0 : Aside0 (∀ r, Lib.indexByte (s.extract frm s.size).data.toList 47 = r → Calls Tryd.prog 78 #[.string (s.extract frm s.size), .string slash] wr fun e w' => e = .returned (.int .i64 r) ∧ wr = w') := ⟨fun r hr => (Tryd.strings_Index_one (s.extract frm s.size) 47 wr).mono (fun e w' h => ⟨hr ▸ h.1, h.2.symm⟩)⟩
  clear hlf
  by_cases hr : Lib.indexByte (s.extract frm s.size).data.toList 47 = -1
  ·have HN := Aside0.mk (idx_none s frm hf hr)
   have HC := Aside0.mk (HX0.out (-1) hr)
   clear hr hge HX0
   gi_wp2_with fail
   refine ⟨trivial, fun h => absurd h (by decide), ?_⟩
   (with_reducible refine (callsIn_wide.2 HC.out).mono ?_)
   rintro e w1 ⟨rfl, rfl⟩
   gi_wp2_with fail
   obtain ⟨fn, tmps, assign, body, hy, hR⟩ := rc_yieldAny rfl (n - 1) (hY pre (s.extract frm s.size) wr HI.out (by have := congrArg List.length HP.out; rw [pieces_last s frm hf HN.out, List.length_append, List.length_singleton] at this; omega))
   have HR := Aside0.mk hR
   clear hR
   gi_wp2_with fail
   rw [hy]
   refine ⟨fun h => absurd h (by decide), ?_⟩
   refine HR.out.mono ?_
   rintro e W3 hh
   obtain ⟨y, rfl, hb⟩ := rc_oneWay hh
   have HB := Aside0.mk hb
   clear hh hb hy HR
   gi_wp2_with fail
   go_end0
   refine ⟨⟨_, rfl⟩, ?_⟩
   have hpc : pcs s = pre ++ [s.extract frm s.size] := by have := HP.out; rw [pieces_last s frm hf HN.out] at this; exact this
   rcases HB.out with ⟨_, hj, _⟩ | ⟨_, hj⟩
   ·exact .inl ⟨_, hpc.symm, hj⟩
   ·exact .inr ⟨_, by rw [hpc]; exact List.prefix_refl _, hj⟩
  ·obtain ⟨o, ho⟩ : ∃ o : Nat, Lib.indexByte (s.extract frm s.size).data.toList 47 = (o : Int) := ⟨(Lib.indexByte (s.extract frm s.size).data.toList 47).toNat, by omega⟩
   obtain ⟨hlt, h47, hno⟩ := idx_some s frm o hf ho
   have HC := Aside0.mk (HX0.out (o : Int) ho)
   have HPC : Aside0 (pcs s = pre ++ s.extract frm (frm + o) :: pieces s (s.size - (frm + o + 1)) (frm + o + 1) (frm + o + 1)) := ⟨by
    have h := pieces_cut s frm (frm + o) (s.size - (frm + o + 1)) (by omega) hno h47
    rw [show s.size - (frm + o + 1) + 1 + (frm + o - frm) = s.size - frm from by omega] at h
    rw [HP.out, h]⟩
   have HE1 := Aside0.mk (extract_extract' s frm 0 o (by omega))
   have HE2 := Aside0.mk (extract_extract' s frm (o + 1) (s.size - frm) (by omega))
   clear hr hge HX0 ho h47 hno HP
   have p0 : (0 : Int) ≤ (o : Int) := by omega
   have p1 : ¬ ((o : Int) < 0) := by omega
   have p2 : (o : Int) < ((s.extract frm s.size).size : Int) := by omega
   gi_wp2_with fail
   refine ⟨trivial, fun h => absurd h (by decide), ?_⟩
   (with_reducible refine (callsIn_wide.2 HC.out).mono ?_)
   rintro e w1 ⟨rfl, rfl⟩
   gi_wp2_with fail
   obtain ⟨fn, tmps, assign, body, hy, hR⟩ := rc_yieldAny rfl (n - 1) (hY pre ((s.extract frm s.size).extract 0 o) wr HI.out (by have := congrArg List.length HPC.out; rw [List.length_append, List.length_cons] at this; omega))
   have HR := Aside0.mk hR
   clear hR
   rw [hy]
   refine ⟨fun h => absurd h (by decide), ?_⟩
   refine HR.out.mono ?_
   rintro e W3 hh
   obtain ⟨y, rfl, hb⟩ := rc_oneWay hh
   have HB := Aside0.mk hb
   clear hh hb hy HR HC c0 c1 c2 f0
   cases y
   ·gi_wp2_with fail
    refine bodyPost_ret (results_none rfl _ _ _) rfl ?_
    refine ⟨⟨_, rfl⟩, ?_⟩
    rcases HB.out with ⟨hb, _⟩ | ⟨_, hj⟩
    ·cases hb
    ·exact .inr ⟨_, by rw [HPC.out, HE1.out]; exact ⟨pieces s (s.size - (frm + o + 1)) (frm + o + 1) (frm + o + 1), by simp⟩, hj⟩
   ·have HBJ : Aside0 (J (pre ++ [s.extract frm (frm + o)]) W3 ∧ Kp3 b wr W3) := ⟨by
     rcases HB.out with ⟨_, hj, hk⟩ | ⟨hb, _⟩
     ·rw [HE1.out] at hj; exact ⟨hj, hk⟩
     ·cases hb⟩
    have K0 : Aside0 (Blk W3 b 9 [.string (s.extract frm s.size)]) := ⟨(HBJ.out.2 b (by omega) (by omega)).trans H0.out⟩
    have K1 : Aside0 (Blk W3 (b + 1) 9 [.string slash]) := ⟨(HBJ.out.2 (b + 1) (by omega) (by omega)).trans H1.out⟩
    have K2 : Aside0 (Blk W3 (b + 1 + 1) 3 [.int .i64 0]) := ⟨(HBJ.out.2 (b + 1 + 1) (by omega) (by omega)).trans H2.out⟩
    clear HB H0 H1 H2 HI
    have c0 := K0.out.cell 0 _ rfl
    have c1 := K1.out.cell 0 _ rfl
    have f0 := K0.out.frozen 0
    have q1 : ((o : Int) + 1).toNat = o + 1 := by omega
    have q2 : ((o : Int) + 1) ≤ ((s.extract frm s.size).size : Int) := by omega
    gi_wp2_with fail
    rw [HE2.out, show frm + (s.size - frm) = s.size from by omega, show frm + (o + 1) = frm + o + 1 from by omega]
    have K3 : Blk (W3.setCell ⟨b, 0, none⟩ (.string (s.extract (frm + o + 1) s.size))) b 9 [.string (s.extract (frm + o + 1) s.size)] := blk_put K0.out 0 _ rfl
    refine ⟨⟨pre ++ [s.extract frm (frm + o)], frm + o + 1, by omega, ⟨by rw [HPC.out, List.append_assoc]; rfl⟩, ⟨HJW.out _ _ _ HBJ.out.1 ⟨_, rfl⟩⟩, ⟨K3⟩, ⟨(Below.heap_setCell _ _ _ _ (by show b + 1 ≠ b; omega)).trans K1.out⟩, ⟨(Below.heap_setCell _ _ _ _ (by show b + 1 + 1 ≠ b; omega)).trans K2.out⟩⟩, ?_⟩
    rw [HLF.out]
    have e3 := K3.cell 0 _ rfl
    unfold leftAt
    rw [e3]
    show (s.extract (frm + o + 1) s.size).size < _
    rw [extract_len s _ s.size (Nat.le_refl _)]
    omega
end Go.Proofs.YtnemeeidomceiaaDoor
