import Derived.Test.YtnemeeidomceiaaLookWalk
import Derived.RegionTactic
import Derived.ChangeAlike
import Derived.BigRegion
namespace Go.Proofs.Ytnemeeidomceiaa
open Go.RowKit Go.Proofs.YtnemeeidomceiaaW.PrintWords Go.Proofs.YtnemeeidomceiaaW.PrintLast Go.Proofs.YtnemeeidomceiaaW.PrintMore Go.Proofs.Ytnemeeidomceiaa.PTreeChecks
set_option linter.unusedVariables false
set_option linter.unusedSimpArgs false
theorem assert_nil (w : World) : (Instr.typeAssert .nilIface 20 72 true).run Try.prog w = .ok (.tuple #[.agg #[.string ⟨#[]⟩, .int .i64 0], .bool false]) w := by kernel_rfl
theorem assert_some (q : ByteArray) (k : Int) (w : World) : (Instr.typeAssert (.iface 72 (.agg #[.string q, .int .i64 k])) 20 72 true).run Try.prog w = .ok (.tuple #[.agg #[.string q, .int .i64 k], .bool true]) w := by kernel_rfl
set_option maxHeartbeats 2000000 in
set_option maxRecDepth 100000 in
theorem catch_idle (a b c : Addr) (w : World) :
    CallsD Try.prog 33 #[.pointer (some a), .pointer (some b), .pointer (some c)] .returning w fun e u' w' => e = .returned (.tuple #[]) ∧ u' = .returning ∧ Aside0 (Below w.heap.size w w') := by
  refine callsD_of_wpS Try.func33 rfl fun c₀ cs hu => ?_
  simp only [Try.ntmps33, List.size_toArray, List.length_cons, List.length_nil, Nat.reduceAdd, Nat.reduceSub, Array.replicate_succ, Array.replicate_zero, List.push_toArray, List.append_toArray, List.nil_append, List.cons_append]
  apply wpS_seq
  apply wpS_region
  simp [wpOpsS, go_sem, recoverD, hu, Exit.thenS, assert_nil, assert_some]
  refine wpS_of_wp ?_
  go_wp2
  cases c₀
  simp_all [bodyPostS, results, Try.results33]
  exact ⟨(Below.refl _ _).alloc (Nat.le_refl _) _⟩
set_option maxHeartbeats 2000000 in
set_option maxRecDepth 100000 in
theorem catch_pan (r1 r2 r3 : Nat) (s0 q : ByteArray) (x0 y0 k : Int) (older : List PanicEntry) (w : World) (h1 : Blk w r1 9 [.string s0]) (h2 : Blk w r2 30 [.int .i64 x0]) (h3 : Blk w r3 3 [.int .i64 y0]) :
    CallsD Try.prog 33 #[.pointer (some ⟨r1, 0, none⟩), .pointer (some ⟨r2, 0, none⟩), .pointer (some ⟨r3, 0, none⟩)] (.panicking ({ v := .iface 72 (.agg #[.string q, .int .i64 k]), recovered := false } :: older)) w fun e u' w' =>
      e = .returned (.tuple #[]) ∧ u' = .panicking ({ v := .iface 72 (.agg #[.string q, .int .i64 k]), recovered := true } :: older) ∧ Aside0 (Upd (fun k => k = r1 ∨ k = r2 ∨ k = r3) w w' ∧ Blk w' r1 9 [.string q] ∧ Blk w' r2 30 [.int .i64 k] ∧ Blk w' r3 3 [.int .i64 0]) := by
  refine callsD_of_wpS Try.func33 rfl fun c₀ cs hu => ?_
  simp only [Try.ntmps33, List.size_toArray, List.length_cons, List.length_nil, Nat.reduceAdd, Nat.reduceSub, Array.replicate_succ, Array.replicate_zero, List.push_toArray, List.append_toArray, List.nil_append, List.cons_append]
  apply wpS_seq
  apply wpS_region
  simp [wpOpsS, go_sem, recoverD, hu, Exit.thenS, assert_nil, assert_some]
  obtain ⟨w1, hw1⟩ : ∃ w1, w1 = w.alloc (.cells #[.string q, .int .i64 k] 72) := ⟨_, rfl⟩
  have HBL : Aside0 (Below w.heap.size w w1) := ⟨by rw [hw1]; exact (Below.refl _ _).alloc (Nat.le_refl _) _⟩
  have HBO : Aside0 (Blk w1 w.heap.size 72 [.string q, .int .i64 k]) := ⟨by rw [hw1]; exact Blk.new _ _ _⟩
  rw [← hw1]
  clear hw1
  have H1 := Aside0.mk (h1.below HBL.out)
  have H2 := Aside0.mk (h2.below HBL.out)
  have H3 := Aside0.mk (h3.below HBL.out)
  have l1 := h1.lt
  have l2 := h2.lt
  have l3 := h3.lt
  have n12 : r1 ≠ r2 := h1.ne h2 (by decide)
  have n13 : r1 ≠ r3 := h1.ne h3 (by decide)
  have n23 : r2 ≠ r3 := h2.ne h3 (by decide)
  obtain ⟨bo, hbo⟩ : ∃ bo, bo = w.heap.size := ⟨_, rfl⟩
  rw [← hbo] at HBO l1 l2 l3 ⊢
  have HBQ := Aside0.mk hbo
  have HU := Aside0.mk hu
  clear hbo h1 h2 h3 hu
  have c1 := H1.out.cell 0 _ rfl
  have c2 := H2.out.cell 0 _ rfl
  have c3 := H3.out.cell 0 _ rfl
  have f1 := H1.out.frozen 0
  have f2 := H2.out.frozen 0
  have f3 := H3.out.frozen 0
  have o0 := HBO.out.cell 0 _ rfl
  have o1 := HBO.out.cell 1 _ rfl
  refine wpS_of_wp ?_
  go_wp2
  go_region
  obtain ⟨w5, hw5⟩ : ∃ w5, w5 = (((w1.setCell ⟨r1, 0, none⟩ (.string q)).setCell ⟨r2, 0, none⟩ (.int .i64 k)).setCell ⟨r3, 0, none⟩ (.int .i64 0)).drew := ⟨_, rfl⟩
  have HFIN : Aside0 (Upd (fun k => k = r1 ∨ k = r2 ∨ k = r3) w w5 ∧ Blk w5 r1 9 [.string q] ∧ Blk w5 r2 30 [.int .i64 k] ∧ Blk w5 r3 3 [.int .i64 0]) := ⟨by
    have u1 : Upd (fun k => k = r1 ∨ k = r2 ∨ k = r3) w (w1.setCell ⟨r1, 0, none⟩ (.string q)) := (Upd.of_below HBL.out).trans (Upd.setCell (S := fun k => k = r1) (p := ⟨r1, 0, none⟩) (.inl rfl) _) (fun _ h => .inl (.inl h))
    have u2 := u1.trans (Upd.setCell (S := fun k => k = r2) (p := ⟨r2, 0, none⟩) (.inl rfl) (.int .i64 k)) (fun _ h => .inl (.inr (.inl h)))
    have u3 := u2.trans (Upd.setCell (S := fun k => k = r3) (p := ⟨r3, 0, none⟩) (.inl rfl) (.int .i64 0)) (fun _ h => .inl (.inr (.inr h)))
    have b1 : Blk (w1.setCell ⟨r1, 0, none⟩ (.string q)) r1 9 [.string q] := blk_put H1.out 0 _ rfl
    have b2 : Blk ((w1.setCell ⟨r1, 0, none⟩ (.string q)).setCell ⟨r2, 0, none⟩ (.int .i64 k)) r2 30 [.int .i64 k] := blk_put ((Below.heap_setCell _ _ _ _ (by exact fun e => n12 e.symm)).trans H2.out) 0 _ rfl
    have b3 : Blk (((w1.setCell ⟨r1, 0, none⟩ (.string q)).setCell ⟨r2, 0, none⟩ (.int .i64 k)).setCell ⟨r3, 0, none⟩ (.int .i64 0)) r3 3 [.int .i64 0] := blk_put ((Below.heap_setCell _ _ _ _ (by exact fun e => n23 e.symm)).trans ((Below.heap_setCell _ _ _ _ (by exact fun e => n13 e.symm)).trans H3.out)) 0 _ rfl
    rw [hw5]
    exact ⟨u3.step (below_drew (Below.refl _ _)), (Below.heap_setCell _ _ _ _ (by exact n13)).trans ((Below.heap_setCell _ _ _ _ (by exact n12)).trans b1), (Below.heap_setCell _ _ _ _ (by exact n23)).trans b2, b3⟩⟩
  rw [← hw5]
  have hu := HU.out
  clear hw5 HU c1 c2 c3 f1 f2 f3 o0 o1
  go_wp2
  cases c₀
  simp_all [bodyPostS, results, Try.results33]
def WalkPost (s : Look) (w : World) (o : Ending) (w' : World) : Prop :=
  Below w.heap.size w w' ∧ o = match s with
  | .bad p c => .returned (.tuple #[.string p, .int .i64 c, .int .i64 0])
  | .ok b _ => .returned (.tuple #[.string ⟨#[]⟩, .int .i64 0, .int .i64 b])
set_option maxHeartbeats 4000000 in
set_option maxRecDepth 100000 in
theorem walk_calls (k : Int) (e : Bool) (t : ByteArray) (A : Option Addr) (c : Nat) (l : List Ent) (w : World) (hC : Kd.C k49 w A l.length l) (hc : l.length ≤ c) (ht : Texts l) (h3 : t.size ≤ 140737488351232) :
    Calls Try.prog 24 #[.agg #[.int .i64 k, .bool e, .string t, .slice A l.length c]] w (WalkPost (lookL k e t l) w) := by
  have HC := Aside0.mk hC
  have HN := Aside0.mk (node_all 32 (Nat.le_refl _))
  have hmf : ∀ (fn : Fn) (first cap : Array Value) (w : World), (Instr.makeFunc fn first cap).run Try.prog w = .ok (.func fn first cap) w := fun _ _ _ _ => rfl
  obtain ⟨s, hs⟩ : ∃ s, s = lookL k e t l := ⟨_, rfl⟩
  have HS := Aside0.mk hs
  rw [← hs]
  clear hs hC
  go_enter_defers Try.func24, Try.ntmps24
  go_wp2_with fail
  obtain ⟨Wa, hWa⟩ : ∃ Wa, Wa = w.alloc (.cells #[.int .i64 k, .bool e, .string t, .slice A l.length c] 25) := ⟨_, rfl⟩
  have za : Wa.heap.size = w.heap.size + 1 := by rw [hWa]; simp
  have HBA : Aside0 (Blk Wa w.heap.size 25 [.int .i64 k, .bool e, .string t, .slice A l.length c]) := ⟨by rw [hWa]; exact Blk.new _ _ _⟩
  have HLA : Aside0 (Below w.heap.size w Wa) := ⟨by rw [hWa]; exact (Below.refl _ _).alloc (Nat.le_refl _) _⟩
  rw [← hWa, ← za]
  clear hWa
  obtain ⟨Wb, hWb⟩ : ∃ Wb, Wb = Wa.alloc (.cells #[.string ⟨#[]⟩] 9) := ⟨_, rfl⟩
  have zb : Wb.heap.size = Wa.heap.size + 1 := by rw [hWb]; simp
  have HBB : Aside0 (Blk Wb Wa.heap.size 9 [.string ⟨#[]⟩]) := ⟨by rw [hWb]; exact Blk.new _ _ _⟩
  have HLB : Aside0 (Below Wa.heap.size Wa Wb) := ⟨by rw [hWb]; exact (Below.refl _ _).alloc (Nat.le_refl _) _⟩
  rw [← hWb, ← zb]
  clear hWb
  obtain ⟨Wc, hWc⟩ : ∃ Wc, Wc = Wb.alloc (.cells #[.int .i64 0] 30) := ⟨_, rfl⟩
  have zc : Wc.heap.size = Wb.heap.size + 1 := by rw [hWc]; simp
  have HBC : Aside0 (Blk Wc Wb.heap.size 30 [.int .i64 0]) := ⟨by rw [hWc]; exact Blk.new _ _ _⟩
  have HLC : Aside0 (Below Wb.heap.size Wb Wc) := ⟨by rw [hWc]; exact (Below.refl _ _).alloc (Nat.le_refl _) _⟩
  rw [← hWc, ← zc]
  clear hWc
  obtain ⟨Wd, hWd⟩ : ∃ Wd, Wd = Wc.alloc (.cells #[.int .i64 0] 3) := ⟨_, rfl⟩
  have zd : Wd.heap.size = Wc.heap.size + 1 := by rw [hWd]; simp
  have HBD : Aside0 (Blk Wd Wc.heap.size 3 [.int .i64 0]) := ⟨by rw [hWd]; exact Blk.new _ _ _⟩
  have HLD : Aside0 (Below Wc.heap.size Wc Wd) := ⟨by rw [hWd]; exact (Below.refl _ _).alloc (Nat.le_refl _) _⟩
  rw [← hWd, ← zd]
  clear hWd
  have hsz : w.heap.size < Wa.heap.size ∧ Wa.heap.size < Wb.heap.size ∧ Wb.heap.size < Wc.heap.size ∧ Wc.heap.size < Wd.heap.size := by omega
  clear za zb zc zd
  have HLcd := Aside0.mk (below_step HLC.out HLD.out)
  have HLbd := Aside0.mk (below_step HLB.out HLcd.out)
  have HLad := Aside0.mk (below_step HLA.out HLbd.out)
  have B0 := Aside0.mk (HBA.out.below HLbd.out)
  have B1 := Aside0.mk (HBB.out.below HLcd.out)
  have B2 := Aside0.mk (HBC.out.below HLD.out)
  have B3 := HBD
  obtain ⟨b0, hb0⟩ : ∃ b, b = w.heap.size := ⟨_, rfl⟩
  obtain ⟨b1, hb1⟩ : ∃ b, b = Wa.heap.size := ⟨_, rfl⟩
  obtain ⟨b2, hb2⟩ : ∃ b, b = Wb.heap.size := ⟨_, rfl⟩
  obtain ⟨b3, hb3⟩ : ∃ b, b = Wc.heap.size := ⟨_, rfl⟩
  rw [← hb0, ← hb1, ← hb2, ← hb3] at hsz ⊢
  rw [← hb0] at B0
  rw [← hb1] at B1
  rw [← hb2] at B2
  rw [← hb3] at B3
  have HB0 := Aside0.mk hb0
  clear hb0 hb1 hb2 hb3 HBA HBB HBC HBD HLA HLB HLC HLD HLcd HLbd
  (with_reducible refine (framed_magic Wd).mono ?_)
  rintro o We ⟨rfl, HLE⟩
  have HLae := Aside0.mk (below_step HLad.out HLE.out)
  have B0e := Aside0.mk (B0.out.below HLE.out)
  have B1e := Aside0.mk (B1.out.below HLE.out)
  have B2e := Aside0.mk (B2.out.below HLE.out)
  have B3e := Aside0.mk (B3.out.below HLE.out)
  have hze : Wd.heap.size ≤ We.heap.size := HLE.out.size
  clear B0 B1 B2 B3 HLE HLad
  obtain ⟨Wf, hWf⟩ : ∃ Wf, Wf = We.alloc (.cells #[.int .i64 magS] 70) := ⟨_, rfl⟩
  have hal : Below We.heap.size We Wf := by rw [hWf]; exact (Below.refl _ _).alloc (Nat.le_refl _) _
  have BP : Aside0 (Blk Wf We.heap.size 70 [.int .i64 magS]) := ⟨by rw [hWf]; exact Blk.new _ _ _⟩
  have B0f := Aside0.mk (B0e.out.below hal)
  have B1f := Aside0.mk (B1e.out.below hal)
  have B2f := Aside0.mk (B2e.out.below hal)
  have B3f := Aside0.mk (B3e.out.below hal)
  have HLaf := Aside0.mk (below_step HLae.out hal)
  have c0 := B0f.out.cell 0 _ rfl
  have c1 := B0f.out.cell 1 _ rfl
  have c2 := B0f.out.cell 2 _ rfl
  have c3 := B0f.out.cell 3 _ rfl
  rw [hWf] at c0 c1 c2 c3
  have HWf := Aside0.mk hWf
  clear hal hWf B0e B1e B2e B3e HLae
  go_wp2_with fail
  clear c0 c1 c2 c3
  rw [← HWf.out]
  obtain ⟨p, hp⟩ : ∃ p, p = We.heap.size := ⟨_, rfl⟩
  rw [← hp] at BP hze ⊢
  clear hp
  have hN := HN.out p ⟨#[]⟩ ⟨⟨#[]⟩, k, e, t, l⟩ A c magS w Wf HLaf.out (by have := HB0.out; omega) BP.out (by rw [magS_eq]; decide) (by rw [magS_eq]; decide) (by decide) ht h3 HC.out hc
  rw [show (33 : Int) - ((32 : Nat) : Int) = 1 from rfl] at hN
  (with_reducible refine hN.mono ?_)
  clear hN
  rintro o Wg ⟨hU, hres⟩
  have HU := Aside0.mk hU
  have hgz : Wf.heap.size ≤ Wg.heap.size := hU.size
  have B1g := Aside0.mk (B1f.out.upd hU (by omega))
  have B2g := Aside0.mk (B2f.out.upd hU (by omega))
  have B3g := Aside0.mk (B3f.out.upd hU (by omega))
  have HLag : Aside0 (Below w.heap.size w Wg) := ⟨HLaf.out.trans (hU.below (fun k hk => by have := HB0.out; omega) HLaf.out.size)⟩
  clear hU BP B0f B1f B2f B3f HLaf HWf
  have hres2 : NodeRes p s o Wg := by rw [HS.out]; exact hres
  clear hres
  cases s with
  | bad q x0 =>
    have hres3 : o = offends q x0 := hres2
    subst hres3
    unfold offends
    go_wp2_with fail
    refine leaves_cons (f := 33) (args := #[.pointer (some ⟨b1, 0, none⟩), .pointer (some ⟨b2, 0, none⟩), .pointer (some ⟨b3, 0, none⟩)]) (by simp) (by simp [go_sem]) ?_
    refine (catch_pan b1 b2 b3 ⟨#[]⟩ q 0 0 x0 [] Wg B1g.out B2g.out B3g.out).mono ?_
    rintro o u Wh ⟨rfl, rfl, HF⟩
    have n1 := HF.out.2.1.cell 0 _ rfl
    have n2 := HF.out.2.2.1.cell 0 _ rfl
    have n3 := HF.out.2.2.2.cell 0 _ rfl
    have HLah : Aside0 (Below w.heap.size w Wh) := ⟨HLag.out.trans (HF.out.1.below (fun k hk => by have := HB0.out; omega) HLag.out.size)⟩
    simp [Leaves, settle, results, Try.results24, go_sem, n1, n2, n3]
    exact ⟨HLah.out, rfl⟩
  | ok b rows =>
    obtain ⟨ho, hbp, hb0, hb1⟩ := hres2
    subst ho
    have HBP := Aside0.mk hbp
    have cp := hbp.cell 0 _ rfl
    have n1 := B1g.out.cell 0 _ rfl
    have n2 := B2g.out.cell 0 _ rfl
    have n3 := B3g.out.cell 0 _ rfl
    have f1 := B1g.out.frozen 0
    have f2 := B2g.out.frozen 0
    have f3 := B3g.out.frozen 0
    clear hbp
    go_wp2_with fail
    go_region
    go_wp2_with fail
    have n12 : b1 ≠ b2 := by omega
    have n13 : b1 ≠ b3 := by omega
    have n23 : b2 ≠ b3 := by omega
    obtain ⟨w5, hw5⟩ : ∃ w5, w5 = (((Wg.setCell ⟨b1, 0, none⟩ (.string ⟨#[]⟩)).setCell ⟨b2, 0, none⟩ (.int .i64 0)).setCell ⟨b3, 0, none⟩ (.int .i64 b)).drew := ⟨_, rfl⟩
    have HFIN : Aside0 (Below w.heap.size w w5 ∧ Blk w5 b1 9 [.string ⟨#[]⟩] ∧ Blk w5 b2 30 [.int .i64 0] ∧ Blk w5 b3 3 [.int .i64 b]) := ⟨by
      have hz := HB0.out
      have u3 := ((HLag.out.setCell (p := ⟨b1, 0, none⟩) (by show w.heap.size ≤ b1; omega) (.string ⟨#[]⟩)).setCell (p := ⟨b2, 0, none⟩) (by show w.heap.size ≤ b2; omega) (.int .i64 0)).setCell (p := ⟨b3, 0, none⟩) (by show w.heap.size ≤ b3; omega) (.int .i64 b)
      have q1 : Blk (Wg.setCell ⟨b1, 0, none⟩ (.string ⟨#[]⟩)) b1 9 [.string ⟨#[]⟩] := blk_put B1g.out 0 _ rfl
      have q2 : Blk ((Wg.setCell ⟨b1, 0, none⟩ (.string ⟨#[]⟩)).setCell ⟨b2, 0, none⟩ (.int .i64 0)) b2 30 [.int .i64 0] := blk_put ((Below.heap_setCell _ _ _ _ (by exact fun e => n12 e.symm)).trans B2g.out) 0 _ rfl
      have q3 : Blk (((Wg.setCell ⟨b1, 0, none⟩ (.string ⟨#[]⟩)).setCell ⟨b2, 0, none⟩ (.int .i64 0)).setCell ⟨b3, 0, none⟩ (.int .i64 b)) b3 3 [.int .i64 b] := blk_put ((Below.heap_setCell _ _ _ _ (by exact fun e => n23 e.symm)).trans ((Below.heap_setCell _ _ _ _ (by exact fun e => n13 e.symm)).trans B3g.out)) 0 _ rfl
      rw [hw5]
      exact ⟨below_drew u3, (Below.heap_setCell _ _ _ _ (by exact n13)).trans ((Below.heap_setCell _ _ _ _ (by exact n12)).trans q1), (Below.heap_setCell _ _ _ _ (by exact n23)).trans q2, q3⟩⟩
    rw [← hw5]
    clear hw5 cp n1 n2 n3 f1 f2 f3
    refine leaves_cons (f := 33) (args := #[.pointer (some ⟨b1, 0, none⟩), .pointer (some ⟨b2, 0, none⟩), .pointer (some ⟨b3, 0, none⟩)]) (by simp) (by simp [go_sem]) ?_
    refine (catch_idle ⟨b1, 0, none⟩ ⟨b2, 0, none⟩ ⟨b3, 0, none⟩ w5).mono ?_
    rintro o u Wh ⟨rfl, rfl, HF⟩
    have n1 := (HFIN.out.2.1.below HF.out).cell 0 _ rfl
    have n2 := (HFIN.out.2.2.1.below HF.out).cell 0 _ rfl
    have n3 := (HFIN.out.2.2.2.below HF.out).cell 0 _ rfl
    have HLah : Aside0 (Below w.heap.size w Wh) := ⟨below_then HFIN.out.1 HFIN.out.1.size HF.out⟩
    simp [Leaves, settle, results, Try.results24, go_sem, n1, n2, n3]
    exact ⟨HLah.out, rfl⟩
/-- Check. -/
def lookPath : Look → ByteArray
  | .bad p _ => p
  | .ok _ _ => ⟨#[]⟩
def lookCode : Look → Int
  | .bad _ c => c
  | .ok _ _ => 0
def lookSize : Look → Int
  | .bad _ _ => 0
  | .ok b _ => b
theorem walk_post {s : Look} {w w' : World} {o : Ending} (h : WalkPost s w o w') : o = .returned (.tuple #[.string (lookPath s), .int .i64 (lookCode s), .int .i64 (lookSize s)]) ∧ Below w.heap.size w w' := by
  obtain ⟨hb, ho⟩ := h
  cases s <;> exact ⟨ho, hb⟩
set_option maxHeartbeats 1000000 in
set_option maxRecDepth 100000 in
theorem check_calls (k : Int) (e : Bool) (t : ByteArray) (A : Option Addr) (c : Nat) (l : List Ent) (w : World) (hC : Kd.C k49 w A l.length l) (hc : l.length ≤ c) (ht : Texts l) (h3 : t.size ≤ 140737488351232) :
    Calls Try.prog 14 #[.agg #[.int .i64 k, .bool e, .string t, .slice A l.length c]] w fun o w' => o = .returned (.tuple #[.string (lookPath (lookL k e t l)), .int .i64 (lookCode (lookL k e t l))]) ∧ Aside0 (Below w.heap.size w w') := by
  have HW := Aside0.mk (fun W hC => (walk_calls k e t A c l W hC hc ht h3).mono fun _ _ h => walk_post h)
  have HC := Aside0.mk hC
  clear hC ht h3
  generalize lookL k e t l = s at *
  generalize lookPath s = q at *
  generalize lookCode s = x at *
  generalize lookSize s = z at *
  go_enter Try.func14, Try.ntmps14
  go_wp2_with fail
  (with_reducible refine (HW.out _ (Kd.C_alloc HC.out _)).mono ?_)
  rintro o w1 ⟨rfl, hb⟩
  have HB := Aside0.mk (below_step ((Below.refl _ _).alloc (Nat.le_refl _) _) hb)
  clear hb
  go_wp2
  go_ret2
  exact ⟨rfl, HB⟩
set_option maxHeartbeats 1000000 in
set_option maxRecDepth 100000 in
theorem size_calls (k : Int) (e : Bool) (t : ByteArray) (A : Option Addr) (c : Nat) (l : List Ent) (w : World) (hC : Kd.C k49 w A l.length l) (hc : l.length ≤ c) (ht : Texts l) (h3 : t.size ≤ 140737488351232) :
    Calls Try.prog 15 #[.agg #[.int .i64 k, .bool e, .string t, .slice A l.length c]] w fun o w' => o = .returned (.tuple #[.int .i64 (lookSize (lookL k e t l)), .int .i64 (lookCode (lookL k e t l))]) ∧ Aside0 (Below w.heap.size w w') := by
  have HW := Aside0.mk (fun W hC => (walk_calls k e t A c l W hC hc ht h3).mono fun _ _ h => walk_post h)
  have HC := Aside0.mk hC
  clear hC ht h3
  generalize lookL k e t l = s at *
  generalize lookPath s = q at *
  generalize lookCode s = x at *
  generalize lookSize s = z at *
  go_enter Try.func15, Try.ntmps15
  go_wp2_with fail
  (with_reducible refine (HW.out _ (Kd.C_alloc HC.out _)).mono ?_)
  rintro o w1 ⟨rfl, hb⟩
  have HB := Aside0.mk (below_step ((Below.refl _ _).alloc (Nat.le_refl _) _) hb)
  clear hb
  go_wp2
  go_ret2
  exact ⟨rfl, HB⟩
end Go.Proofs.Ytnemeeidomceiaa
