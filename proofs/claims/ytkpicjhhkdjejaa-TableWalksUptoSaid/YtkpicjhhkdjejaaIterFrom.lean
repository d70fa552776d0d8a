import Derived.Test.YtkpicjhhkdjejaaIterState
set_option linter.unusedVariables false
set_option linter.unusedSimpArgs false
namespace Go.Proofs.Ytkpicjhhkdjejaa
open Go.RowKit Go.Proofs.YtkpicjhhkdjejaaW.PrintWords Go.Proofs.YtkpicjhhkdjejaaW.PrintLast Go.Proofs.YtkpicjhhkdjejaaW.PrintMore Go.Proofs.Ytkpicjhhkdjejaa.Tb Go.Proofs.Ytkpicjhhkdjejaa.PTablePlays
attribute [local go_sem] Oper.semAt_some
theorem ForkInv.drewN {t q0 q1 f : Nat} {m : List (ByteArray × Int)} {W : World} (h : ForkInv t q0 q1 f m W) (q : Nat) : ForkInv t q0 q1 f m (W.drewN q) := ⟨h.tab.keep (S := fun _ => False) (Upd.drewN W q) (fun _ _ h => h), h.far⟩
theorem from_value (t : Nat) (k : ByteArray) (w : World) : Calls Try.prog 20 #[.pointer (some ⟨t, 0, none⟩), .string k] w fun e w' => e = .returned (.func (.func 41) #[] #[.pointer (some ⟨w.heap.size, 0, none⟩), .pointer (some ⟨w.heap.size + 1, 0, none⟩)]) ∧ w' = (w.alloc (.cells #[.pointer (some ⟨t, 0, none⟩)] 23)).alloc (.cells #[.string k] 9) := by
  go_enter Try.func20, Try.ntmps20
  go_wp2
  go_ret
  exact ⟨by simp, rfl⟩
set_option maxRecDepth 1000000 in
set_option maxHeartbeats 2000000 in
/-- From's closure. -/
theorem from_stops (n t Bt Bk B : Nat) (k : ByteArray) (ok : Nat → Prop) (m : List (ByteArray × Int)) (w : World) (h : TabSI w B ok t m) (hBt : w.cell? ⟨Bt, 0, none⟩ = some (.pointer (some ⟨t, 0, none⟩))) (hBl : Bt < w.heap.size) (hBk : w.cell? ⟨Bk, 0, none⟩ = some (.string k)) (hBkl : Bk < w.heap.size) (hm : m.length ≤ 4000000000000) :
    SeqStopsK Fence.wide n Try.prog 41 #[.pointer (some ⟨Bt, 0, none⟩), .pointer (some ⟨Bk, 0, none⟩)] (fun x : ByteArray × Int => #[.string x.1, .int .i64 x.2]) (KpT t w.heap.size) (fun xs => xs = m.drop (rank slt m k)) (fun pre => pre <+: m.drop (rank slt m k)) m.length w := by
  intro l J Jx W hW hJ hJx hY h0
  have hc0 : W.cell? ⟨Bt, 0, none⟩ = some (.pointer (some ⟨t, 0, none⟩)) := (hW.cell (p := ⟨Bt, 0, none⟩) hBl).trans hBt
  have hc1 : W.cell? ⟨Bk, 0, none⟩ = some (.string k) := (hW.cell (p := ⟨Bk, 0, none⟩) hBkl).trans hBk
  have hT : TabSI W B ok t m := h.keep (S := fun _ => False) (Upd.of_below hW) (fun _ _ h => h)
  have HT := Aside0.mk hT
  have HB := Aside0.mk hW
  clear hT hW hBt hBk h
  refine callsIn_of_wp Try.func41 rfl trivial ?_ rfl
  simp only [Try.ntmps41, List.size_toArray, List.length_cons, List.length_nil, Nat.reduceAdd, Nat.reduceSub, Array.replicate_succ, Array.replicate_zero, List.push_toArray, List.append_toArray, List.nil_append, List.cons_append]
  have HTD : Aside0 (TabSI W.drew B ok t m) := ⟨HT.out.keep (S := fun _ => False) (Upd.drew W) (fun _ _ h => h)⟩
  have HJ1 : Aside0 (J [] W.drew) := ⟨hJ [] W W.drew none h0 (grown_of_below (below_drew (Below.refl _ _))) (fun r e => by cases e)⟩
  have hrl : rank slt m k ≤ m.length := rank_le m k
  obtain ⟨bq, hbq⟩ : ∃ b : Bool, b = true ↔ has m k := by classical exact ⟨decide (has m k), by simp⟩
  have HBQ := Aside0.mk hbq
  have HBl := Aside0.mk (And.intro hBl hBkl)
  have hBtW : Bt < W.heap.size := Nat.lt_of_lt_of_le hBl HB.out.size
  have hBkW : Bk < W.heap.size := Nat.lt_of_lt_of_le hBkl HB.out.size
  clear hbq h0
  gi_wp2_with fail
  gi_region_with (first
    | ((refine ⟨trivial, fun h => absurd h (by decide), ?_⟩); gi_at_call 13; (refine (callsIn_wide.2 (fork_SI W.drew B t ok m HTD.out (by omega) (by omega))).mono ?_); (rintro e w2 ⟨f, rfl, hT2, hb2⟩); (have HI := Aside0.mk (ForkInv.new HTD.out hT2 hb2)); (have HJ2 := Aside0.mk (hJ [] W.drew w2 none HJ1.out (grown_of_below hb2) (fun r e => by cases e))); (have HT2 := Aside0.mk (HTD.out.keep (S := fun _ => False) (Upd.of_below hb2) (fun _ _ h => h))); (have HB2 := Aside0.mk hb2); (have hd0 := (hb2.cell (p := ⟨Bt, 0, none⟩) hBtW).trans hc0); (have hd1 := (hb2.cell (p := ⟨Bk, 0, none⟩) hBkW).trans hc1); clear hT2 hb2)
    | ((refine ⟨trivial, fun h => absurd h (by decide), ?_⟩); gi_at_call 42; (refine (callsIn_wide.2 (rank_SI w2 B t ok m k HT2.out (by omega) bq HBQ.out)).mono ?_); (rintro e w3 ⟨rfl, hdr⟩); (have HB3 := Aside0.mk hdr.below); (obtain ⟨q, rfl⟩ := hdr.out); (have HJ3 := Aside0.mk (hJ [] w2 _ none HJ2.out (grown_of_below HB3.out) (fun r e => by cases e))); clear hdr)
    | ((refine ⟨trivial, fun h => absurd h (by decide), ?_⟩); gi_at_call 40; (refine (iter_in l f (rank slt m k) W.drew.heap.size _ m (fun X => ForkInv t W.drew.heap.size w2.heap.size f m X ∧ w2.heap.size ≤ X.heap.size) (KpT t w.heap.size) (fun X hX => hX.1.tab) (fun X X' hX hK => ⟨hX.1.kp HB.out.size hX.2 hK, Nat.le_trans hX.2 hK.size⟩) (fun X hX => ⟨hX.1.drew, hX.2⟩)
        J Jx (fun s X hs => hJ s X X.drew none hs (grown_of_below (below_drew (Below.refl _ _))) (fun r e => by cases e)) hm hrl (fun pre x X hj hl => yieldAnyDepth rfl 0 (hY pre x X hj hl)) _ ⟨HI.out.drewN q, Nat.le_refl _⟩ HJ3.out (n - 1)).mono ?_); (rintro e W3 ⟨⟨v, rfl⟩, hr⟩); (have HR := Aside0.mk hr); clear hr))
  all_goals
    gi_wp2_with fail
    go_end0
    exact ⟨⟨_, rfl⟩, HR.out.imp (fun h => ⟨_, rfl, h⟩) (fun h => h)⟩
end Go.Proofs.Ytkpicjhhkdjejaa
