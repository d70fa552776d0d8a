import Derived.RangeFuncNested
import Derived.RangeFuncBound
import Derived.RangeFuncCalls
import Derived.RangeFuncLeaves
import Derived.Shelf.Abstract
import Derived.Shelf.RegionOpen
import Derived.WalkKit
import Derived.OwnWalkIn
import Derived.TacticsInMore
import Derived.LoopNIn
import Derived.LoopIn
import Derived.Test.YtkpicjhhkdjejaaOneState
set_option linter.unusedVariables false
set_option linter.unusedSimpArgs false
namespace Go.Proofs.Ytkpicjhhkdjejaa
open Go.RowKit Go.Proofs.YtkpicjhhkdjejaaW.PrintWords Go.Proofs.YtkpicjhhkdjejaaW.PrintLast Go.Proofs.YtkpicjhhkdjejaaW.PrintMore Go.Proofs.Ytkpicjhhkdjejaa.Tb Go.Proofs.Ytkpicjhhkdjejaa.PTablePlays
attribute [local go_sem] Oper.semAt_some
theorem roomOfNone {F : Fence} (hd : F.depth = none) (k : Nat) : F.room k := fun d h => by rw [hd] at h; cases h
theorem roundAnyDepth {F : Fence} (hd : F.depth = none) {m m' : Nat} {P : Program} {l : Nat} {f : FuncId} {tmps : Array Value} {assign body : Code} {w : World} {R : Ending → World → Prop}
    (h : RoundIn F m P l f tmps assign body w R) : RoundIn F m' P l f tmps assign body w R := ⟨h.1, fun c cs _ => h.2 c cs (roomOfNone hd _)⟩
theorem yieldAnyDepth {F : Fence} (hd : F.depth = none) {m : Nat} (m' : Nat) {P : Program} {l : Nat} {args : Array Value} {W : World} {R : Ending → World → Prop} (h : YieldAt F m P l args W R) : YieldAt F m' P l args W R := by
  obtain ⟨fn, tmps, assign, body, hy, hR⟩ := h
  exact ⟨fn, tmps, assign, body, hy, roundAnyDepth hd hR⟩
theorem oneWay {e : Ending} {p q : Prop} (h : (e = .returned (.bool true) ∧ p) ∨ (e = .returned (.bool false) ∧ q)) : ∃ b, e = .returned (.bool b) ∧ ((b = true ∧ p) ∨ (b = false ∧ q)) := by
  rcases h with ⟨h, hp⟩ | ⟨h, hq⟩
  · exact ⟨true, h, .inl ⟨rfl, hp⟩⟩
  · exact ⟨false, h, .inr ⟨rfl, hq⟩⟩
theorem take_snoc {α : Type} {l : List α} {k : Nat} {p : α} (h : l[k]? = some p) : l.take (k + 1) = l.take k ++ [p] := by rw [List.take_add_one, h]; rfl
theorem take_snoc_prefix {α : Type} {l : List α} {k : Nat} {p : α} (h : l[k]? = some p) : l.take k ++ [p] <+: l := by rw [← take_snoc h]; exact List.take_prefix _ _
/-- What the walk of a table reads. -/
theorem TabSI.reads {w : World} {base t : Nat} {ok : Nat → Prop} {m : List (ByteArray × Int)} (h : TabSI w base ok t m) : ∃ A c A2 c2, w.cell? ⟨t, 0, none⟩ = some (.slice A m.length c) ∧ w.cell? ⟨t, 1, none⟩ = some (.slice A2 m.length c2) ∧
    ∀ (i : Nat) (p : ByteArray × Int), m[i]? = some p → ∃ g g2, A = some ⟨g, 0, none⟩ ∧ A2 = some ⟨g2, 0, none⟩ ∧ w.cell? ⟨g, i, none⟩ = some (.string p.1) ∧ w.cell? ⟨g2, i, none⟩ = some (.int .i64 p.2) := by
  obtain ⟨kv, vv, ht, h1, h2, h3, h4, h5, h6, h7, h8⟩ := h
  obtain ⟨A, c, rfl⟩ := own_slice h6
  obtain ⟨A2, c2, rfl⟩ := own_slice h7
  refine ⟨A, c, A2, c2, (blk_cell ht 0).trans rfl, (blk_cell ht 1).trans rfl, fun i p hp => ?_⟩
  have hi := (List.getElem?_eq_some_iff.1 hp).1
  obtain ⟨g, cap, e, hgb, hgl⟩ := h6.form (by omega)
  obtain ⟨g2, cap2, e2, hgb2, hgl2⟩ := h7.form (by omega)
  injection e with e _ ec
  injection e2 with e2 _ ec2
  subst e e2 ec ec2
  exact ⟨g, g2, rfl, rfl, (h6.cellAt _ (by omega)).trans (by rw [List.getElem?_map, hp]; rfl), (h7.cellAt _ (by omega)).trans (by rw [List.getElem?_map, hp]; rfl)⟩
set_option maxRecDepth 1000000 in
set_option maxHeartbeats 2000000 in
theorem iter_in (l f frm B0 : Nat) (ok : Nat → Prop) (m : List (ByteArray × Int)) (Inv : World → Prop) (Kp : World → World → Prop) (hIT : ∀ W, Inv W → TabSI W B0 ok f m) (hIK : ∀ W W', Inv W → Kp W W' → Inv W') (hID : ∀ W, Inv W → Inv W.drew)
    (J Jx : List (ByteArray × Int) → World → Prop) (hJD : ∀ s W, J s W → J s W.drew) (hml : m.length ≤ 4000000000000) (hfrm : frm ≤ m.length)
    (hY : ∀ pre x W, J pre W → pre.length < m.length → YieldAt Fence.wide 0 Try.prog l #[.string x.1, .int .i64 x.2] W fun e W' => (e = .returned (.bool true) ∧ J (pre ++ [x]) W' ∧ Kp W W') ∨ (e = .returned (.bool false) ∧ Jx (pre ++ [x]) W'))
    (W : World) (hI : Inv W) (h0 : J [] W) (n : Nat) :
    CallsIn Fence.wide n Try.prog 40 #[.pointer (some ⟨f, 0, none⟩), .int .i64 (frm : Int), .func (.yield l) #[] #[]] W fun e W' => (∃ v, e = .returned v) ∧
      (J (m.drop frm) W' ∨ (∃ pre, pre <+: m.drop frm ∧ Jx pre W')) := by
  refine callsIn_of_wp Try.func40 rfl trivial ?_ rfl
  simp only [Try.ntmps40, List.size_toArray, List.length_cons, List.length_nil, Nat.reduceAdd, Nat.reduceSub, Array.replicate_succ, Array.replicate_zero, List.push_toArray, List.append_toArray, List.nil_append, List.cons_append]
  gi_wp2
  gi_loopw [6] (fun i wr => ∃ k : Nat, frm + k ≤ m.length ∧ i = .int .i64 ((frm + k : Nat) : Int) ∧ Aside0 (J ((m.drop frm).take k) wr) ∧ Aside0 (Inv wr))
    (fun i _ => m.length - (intOf i).toNat)
  case atStart => exact ⟨0, by omega, rfl, ⟨h0⟩, ⟨hI⟩⟩
  case round =>
    clear hI h0
    obtain ⟨k, hk, rfl, HJ, HI⟩ := hrel
    obtain ⟨A, c, A2, c2, hc0, hc1, hrd⟩ := (hIT _ HI.out).reads
    by_cases hlt : frm + k < m.length
    · obtain ⟨p, hp⟩ : ∃ p, m[frm + k]? = some p := ⟨_, List.getElem?_eq_getElem hlt⟩
      obtain ⟨g, g2, rfl, rfl, e0, e1⟩ := hrd _ p hp
      have HY := Aside0.mk (hY _ p wr.drew (hJD _ _ HJ.out) (by rw [List.length_take, List.length_drop]; omega))
      clear hrd
      generalize hq : frm + k = q at *
      have p0 : (0 : Int) ≤ (q : Int) := by omega
      have p1 : (q : Int) < (m.length : Int) := by omega
      obtain ⟨fn, tmps, assign, body, hy, hR⟩ := yieldAnyDepth rfl (n - 1) HY.out
      have HR := Aside0.mk hR
      clear hR HY
      gi_wp2
      gi_region_with (refine ⟨fun h => absurd h (by decide), ?_⟩; refine HR.out.mono ?_; rintro e W3 hh; obtain ⟨b, rfl, hb⟩ := oneWay hh; have HB := Aside0.mk hb; clear hh hb)
      all_goals
        cases b
        · gi_wp2
          refine bodyPost_ret (results_none rfl _ _ _) rfl ?_
          rcases HB.out with ⟨hb, _⟩ | ⟨_, hj⟩
          · cases hb
          · exact ⟨⟨_, rfl⟩, .inr ⟨_, take_snoc_prefix (by rw [List.getElem?_drop, hq]; exact hp), hj⟩⟩
        · gi_wp2
          go_roundw
          case rel =>
            rcases HB.out with ⟨_, hj, hk⟩ | ⟨hb, _⟩
            · exact ⟨k + 1, by omega, by go_num, ⟨by rw [take_snoc (by rw [List.getElem?_drop, hq]; exact hp)]; exact hj⟩, ⟨hIK _ _ (hID _ HI.out) hk⟩⟩
            · cases hb
          case measure => simp [intOf]; omega
    · obtain rfl : k = m.length - frm := by omega
      gi_wp2
      go_end0
      have h := HJ.out
      rw [List.take_of_length_le (by rw [List.length_drop]; omega)] at h
      exact ⟨⟨_, rfl⟩, .inl h⟩
end Go.Proofs.Ytkpicjhhkdjejaa
