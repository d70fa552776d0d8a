import Derived.Test.YtnemeeidomceiaaDoorPt5
import Derived.BigRegion
import Derived.ChangeAlike
import Derived.RegionTactic
set_option linter.unusedSimpArgs false
set_option linter.unusedVariables false
section
namespace Go.Proofs.YtnemeeidomceiaaDoor
open Go.RowKit Go.Proofs.YtnemeeidomceiaaDoorW.PrintWords Go.Proofs.YtnemeeidomceiaaDoorW.PrintLast Go.Proofs.YtnemeeidomceiaaDoorW.PrintMore Go.Proofs.YtnemeeidomceiaaDoor.PTreeChecks
set_option linter.unusedVariables false
set_option linter.unusedSimpArgs false
theorem assert_nil (w : World) : (Instr.typeAssert .nilIface 20 109 true).run Tryd.prog w = .ok (.tuple #[.agg #[.string ⟨#[]⟩, .int .i64 0], .bool false]) w := by kernel_rfl
theorem assert_some (q : ByteArray) (k : Int) (w : World) : (Instr.typeAssert (.iface 109 (.agg #[.string q, .int .i64 k])) 20 109 true).run Tryd.prog w = .ok (.tuple #[.agg #[.string q, .int .i64 k], .bool true]) w := by kernel_rfl
set_option maxHeartbeats 2000000 in
set_option maxRecDepth 100000 in
theorem catch_idle (a b c : Addr) (w : World) :
  CallsD Tryd.prog 55 #[.pointer (some a), .pointer (some b), .pointer (some c)] .returning w fun e u' w' => e = .returned (.tuple #[]) ∧ u' = .returning ∧ Aside0 (Below w.heap.size w w') := by
 refine callsD_of_wpS Tryd.func55 rfl fun c₀ cs hu => ?_
 simp only [Tryd.ntmps55, List.size_toArray, List.length_cons, List.length_nil, Nat.reduceAdd, Nat.reduceSub, Array.replicate_succ, Array.replicate_zero, List.push_toArray, List.append_toArray, List.nil_append, List.cons_append]
 apply wpS_seq
 apply wpS_region
 simp [wpOpsS, go_sem, recoverD, hu, Exit.thenS, assert_nil, assert_some]
 refine wpS_of_wp ?_
 go_wp2
 cases c₀
 simp_all [bodyPostS, results, Tryd.results55]
 exact ⟨(Below.refl _ _).alloc (Nat.le_refl _) _⟩
set_option maxHeartbeats 2000000 in
set_option maxRecDepth 100000 in
theorem catch_pan (r1 r2 r3 : Nat) (s0 q : ByteArray) (x0 y0 k : Int) (older : List PanicEntry) (w : World) (h1 : Blk w r1 9 [.string s0]) (h2 : Blk w r2 33 [.int .i64 x0]) (h3 : Blk w r3 3 [.int .i64 y0]) :
  CallsD Tryd.prog 55 #[.pointer (some ⟨r1, 0, none⟩), .pointer (some ⟨r2, 0, none⟩), .pointer (some ⟨r3, 0, none⟩)] (.panicking ({ v := .iface 109 (.agg #[.string q, .int .i64 k]), recovered := false } :: older)) w fun e u' w' =>
   e = .returned (.tuple #[]) ∧ u' = .panicking ({ v := .iface 109 (.agg #[.string q, .int .i64 k]), recovered := true } :: older) ∧ Aside0 (Upd (fun k => k = r1 ∨ k = r2 ∨ k = r3) w w' ∧ Blk w' r1 9 [.string q] ∧ Blk w' r2 33 [.int .i64 k] ∧ Blk w' r3 3 [.int .i64 0]) := by
 refine callsD_of_wpS Tryd.func55 rfl fun c₀ cs hu => ?_
 simp only [Tryd.ntmps55, List.size_toArray, List.length_cons, List.length_nil, Nat.reduceAdd, Nat.reduceSub, Array.replicate_succ, Array.replicate_zero, List.push_toArray, List.append_toArray, List.nil_append, List.cons_append]
 apply wpS_seq
 apply wpS_region
 simp [wpOpsS, go_sem, recoverD, hu, Exit.thenS, assert_nil, assert_some]
 obtain ⟨w1, hw1⟩ : ∃ w1, w1 = w.alloc (.cells #[.string q, .int .i64 k] 109) := ⟨_, rfl⟩
 have HBL : Aside0 (Below w.heap.size w w1) := ⟨by rw [hw1]; exact (Below.refl _ _).alloc (Nat.le_refl _) _⟩
 have HBO : Aside0 (Blk w1 w.heap.size 109 [.string q, .int .i64 k]) := ⟨by rw [hw1]; exact Blk.new _ _ _⟩
 rw [← hw1]
 clear hw1
 have H1 := Aside0.mk (h1.below HBL.out)
 have H2 := Aside0.mk (h2.below HBL.out)
 have H3 := Aside0.mk (h3.below HBL.out)
 have l1 := h1.lt
 have l2 := h2.lt
 have l3 := h3.lt
 have n12 : r1 ≠ r2 := h1.ne h2 (by decide)
 have n13 : r1 ≠ r3 := h1.ne h3 (by decide)
 have n23 : r2 ≠ r3 := h2.ne h3 (by decide)
 obtain ⟨bo, hbo⟩ : ∃ bo, bo = w.heap.size := ⟨_, rfl⟩
 rw [← hbo] at HBO l1 l2 l3 ⊢
 have HBQ := Aside0.mk hbo
 have HU := Aside0.mk hu
 clear hbo h1 h2 h3 hu
 have c1 := H1.out.cell 0 _ rfl
 have c2 := H2.out.cell 0 _ rfl
 have c3 := H3.out.cell 0 _ rfl
 have f1 := H1.out.frozen 0
 have f2 := H2.out.frozen 0
 have f3 := H3.out.frozen 0
 have o0 := HBO.out.cell 0 _ rfl
 have o1 := HBO.out.cell 1 _ rfl
 refine wpS_of_wp ?_
 go_wp2
 go_region
 obtain ⟨w5, hw5⟩ : ∃ w5, w5 = (((w1.setCell ⟨r1, 0, none⟩ (.string q)).setCell ⟨r2, 0, none⟩ (.int .i64 k)).setCell ⟨r3, 0, none⟩ (.int .i64 0)).drew := ⟨_, rfl⟩
 have HFIN : Aside0 (Upd (fun k => k = r1 ∨ k = r2 ∨ k = r3) w w5 ∧ Blk w5 r1 9 [.string q] ∧ Blk w5 r2 33 [.int .i64 k] ∧ Blk w5 r3 3 [.int .i64 0]) := ⟨by
  have u1 : Upd (fun k => k = r1 ∨ k = r2 ∨ k = r3) w (w1.setCell ⟨r1, 0, none⟩ (.string q)) := (Upd.of_below HBL.out).trans (Upd.setCell (S := fun k => k = r1) (p := ⟨r1, 0, none⟩) (.inl rfl) _) (fun _ h => .inl (.inl h))
  have u2 := u1.trans (Upd.setCell (S := fun k => k = r2) (p := ⟨r2, 0, none⟩) (.inl rfl) (.int .i64 k)) (fun _ h => .inl (.inr (.inl h)))
  have u3 := u2.trans (Upd.setCell (S := fun k => k = r3) (p := ⟨r3, 0, none⟩) (.inl rfl) (.int .i64 0)) (fun _ h => .inl (.inr (.inr h)))
  have b1 : Blk (w1.setCell ⟨r1, 0, none⟩ (.string q)) r1 9 [.string q] := blk_put H1.out 0 _ rfl
  have b2 : Blk ((w1.setCell ⟨r1, 0, none⟩ (.string q)).setCell ⟨r2, 0, none⟩ (.int .i64 k)) r2 33 [.int .i64 k] := blk_put ((Below.heap_setCell _ _ _ _ (by exact fun e => n12 e.symm)).trans H2.out) 0 _ rfl
  have b3 : Blk (((w1.setCell ⟨r1, 0, none⟩ (.string q)).setCell ⟨r2, 0, none⟩ (.int .i64 k)).setCell ⟨r3, 0, none⟩ (.int .i64 0)) r3 3 [.int .i64 0] := blk_put ((Below.heap_setCell _ _ _ _ (by exact fun e => n23 e.symm)).trans ((Below.heap_setCell _ _ _ _ (by exact fun e => n13 e.symm)).trans H3.out)) 0 _ rfl
  rw [hw5]
  exact ⟨u3.step (below_drew (Below.refl _ _)), (Below.heap_setCell _ _ _ _ (by exact n13)).trans ((Below.heap_setCell _ _ _ _ (by exact n12)).trans b1), (Below.heap_setCell _ _ _ _ (by exact n23)).trans b2, b3⟩⟩
 rw [← hw5]
 have hu := HU.out
 clear hw5 HU c1 c2 c3 f1 f2 f3 o0 o1
 go_wp2
 cases c₀
 simp_all [bodyPostS, results, Tryd.results55]
def WalkPost (s : Look) (w : World) (o : Ending) (w' : World) : Prop :=
 Below w.heap.size w w' ∧ o = match s with
 | .bad p c => .returned (.tuple #[.string p, .int .i64 c, .int .i64 0])
 | .ok b _ => .returned (.tuple #[.string ⟨#[]⟩, .int .i64 0, .int .i64 b])
set_option maxHeartbeats 4000000 in
set_option maxRecDepth 100000 in
theorem walk_calls (k : Int) (e : Bool) (t : ByteArray) (A : Option Addr) (c : Nat) (l : List Ent) (w : World) (hC : Kd.C k63 w A l.length l) (hc : l.length ≤ c) (ht : Texts l) (h3 : t.size ≤ 140737488351232) :
  Calls Tryd.prog 30 #[.agg #[.int .i64 k, .bool e, .string t, .slice A l.length c]] w (WalkPost (lookL k e t l) w) := by
 have HC := Aside0.mk hC
 have HN := Aside0.mk (node_all 32 (Nat.le_refl _))
 have hmf : ∀ (fn : Fn) (first cap : Array Value) (w : World), (Instr.makeFunc fn first cap).run Tryd.prog w = .ok (.func fn first cap) w := fun _ _ _ _ => rfl
 obtain ⟨s, hs⟩ : ∃ s, s = lookL k e t l := ⟨_, rfl⟩
 have HS := Aside0.mk hs
 rw [← hs]
 clear hs hC
 go_enter_defers Tryd.func30, Tryd.ntmps30
 go_wp2_with fail
 obtain ⟨Wa, hWa⟩ : ∃ Wa, Wa = w.alloc (.cells #[.int .i64 k, .bool e, .string t, .slice A l.length c] 32) := ⟨_, rfl⟩
 have za : Wa.heap.size = w.heap.size + 1 := by rw [hWa]; simp
 have HBA : Aside0 (Blk Wa w.heap.size 32 [.int .i64 k, .bool e, .string t, .slice A l.length c]) := ⟨by rw [hWa]; exact Blk.new _ _ _⟩
 have HLA : Aside0 (Below w.heap.size w Wa) := ⟨by rw [hWa]; exact (Below.refl _ _).alloc (Nat.le_refl _) _⟩
 rw [← hWa, ← za]
 clear hWa
 obtain ⟨Wb, hWb⟩ : ∃ Wb, Wb = Wa.alloc (.cells #[.string ⟨#[]⟩] 9) := ⟨_, rfl⟩
 have zb : Wb.heap.size = Wa.heap.size + 1 := by rw [hWb]; simp
 have HBB : Aside0 (Blk Wb Wa.heap.size 9 [.string ⟨#[]⟩]) := ⟨by rw [hWb]; exact Blk.new _ _ _⟩
 have HLB : Aside0 (Below Wa.heap.size Wa Wb) := ⟨by rw [hWb]; exact (Below.refl _ _).alloc (Nat.le_refl _) _⟩
 rw [← hWb, ← zb]
 clear hWb
 obtain ⟨Wc, hWc⟩ : ∃ Wc, Wc = Wb.alloc (.cells #[.int .i64 0] 33) := ⟨_, rfl⟩
 have zc : Wc.heap.size = Wb.heap.size + 1 := by rw [hWc]; simp
 have HBC : Aside0 (Blk Wc Wb.heap.size 33 [.int .i64 0]) := ⟨by rw [hWc]; exact Blk.new _ _ _⟩
 have HLC : Aside0 (Below Wb.heap.size Wb Wc) := ⟨by rw [hWc]; exact (Below.refl _ _).alloc (Nat.le_refl _) _⟩
 rw [← hWc, ← zc]
 clear hWc
 obtain ⟨Wd, hWd⟩ : ∃ Wd, Wd = Wc.alloc (.cells #[.int .i64 0] 3) := ⟨_, rfl⟩
 have zd : Wd.heap.size = Wc.heap.size + 1 := by rw [hWd]; simp
 have HBD : Aside0 (Blk Wd Wc.heap.size 3 [.int .i64 0]) := ⟨by rw [hWd]; exact Blk.new _ _ _⟩
 have HLD : Aside0 (Below Wc.heap.size Wc Wd) := ⟨by rw [hWd]; exact (Below.refl _ _).alloc (Nat.le_refl _) _⟩
 rw [← hWd, ← zd]
 clear hWd
 have hsz : w.heap.size < Wa.heap.size ∧ Wa.heap.size < Wb.heap.size ∧ Wb.heap.size < Wc.heap.size ∧ Wc.heap.size < Wd.heap.size := by omega
 clear za zb zc zd
 have HLcd := Aside0.mk (below_step HLC.out HLD.out)
 have HLbd := Aside0.mk (below_step HLB.out HLcd.out)
 have HLad := Aside0.mk (below_step HLA.out HLbd.out)
 have B0 := Aside0.mk (HBA.out.below HLbd.out)
 have B1 := Aside0.mk (HBB.out.below HLcd.out)
 have B2 := Aside0.mk (HBC.out.below HLD.out)
 have B3 := HBD
 obtain ⟨b0, hb0⟩ : ∃ b, b = w.heap.size := ⟨_, rfl⟩
 obtain ⟨b1, hb1⟩ : ∃ b, b = Wa.heap.size := ⟨_, rfl⟩
 obtain ⟨b2, hb2⟩ : ∃ b, b = Wb.heap.size := ⟨_, rfl⟩
 obtain ⟨b3, hb3⟩ : ∃ b, b = Wc.heap.size := ⟨_, rfl⟩
 rw [← hb0, ← hb1, ← hb2, ← hb3] at hsz ⊢
 rw [← hb0] at B0
 rw [← hb1] at B1
 rw [← hb2] at B2
 rw [← hb3] at B3
 have HB0 := Aside0.mk hb0
 clear hb0 hb1 hb2 hb3 HBA HBB HBC HBD HLA HLB HLC HLD HLcd HLbd
 (with_reducible refine (framed_magic Wd).mono ?_)
 rintro o We ⟨rfl, HLE⟩
 have HLae := Aside0.mk (below_step HLad.out HLE.out)
 have B0e := Aside0.mk (B0.out.below HLE.out)
 have B1e := Aside0.mk (B1.out.below HLE.out)
 have B2e := Aside0.mk (B2.out.below HLE.out)
 have B3e := Aside0.mk (B3.out.below HLE.out)
 have hze : Wd.heap.size ≤ We.heap.size := HLE.out.size
 clear B0 B1 B2 B3 HLE HLad
 obtain ⟨Wf, hWf⟩ : ∃ Wf, Wf = We.alloc (.cells #[.int .i64 magS] 107) := ⟨_, rfl⟩
 have hal : Below We.heap.size We Wf := by rw [hWf]; exact (Below.refl _ _).alloc (Nat.le_refl _) _
 have BP : Aside0 (Blk Wf We.heap.size 107 [.int .i64 magS]) := ⟨by rw [hWf]; exact Blk.new _ _ _⟩
 have B0f := Aside0.mk (B0e.out.below hal)
 have B1f := Aside0.mk (B1e.out.below hal)
 have B2f := Aside0.mk (B2e.out.below hal)
 have B3f := Aside0.mk (B3e.out.below hal)
 have HLaf := Aside0.mk (below_step HLae.out hal)
 have c0 := B0f.out.cell 0 _ rfl
 have c1 := B0f.out.cell 1 _ rfl
 have c2 := B0f.out.cell 2 _ rfl
 have c3 := B0f.out.cell 3 _ rfl
 rw [hWf] at c0 c1 c2 c3
 have HWf := Aside0.mk hWf
 clear hal hWf B0e B1e B2e B3e HLae
 go_wp2_with fail
 clear c0 c1 c2 c3
 rw [← HWf.out]
 obtain ⟨p, hp⟩ : ∃ p, p = We.heap.size := ⟨_, rfl⟩
 rw [← hp] at BP hze ⊢
 clear hp
 have hN := HN.out p ⟨#[]⟩ ⟨⟨#[]⟩, k, e, t, l⟩ A c magS w Wf HLaf.out (by have := HB0.out; omega) BP.out (by rw [magS_eq]; decide) (by rw [magS_eq]; decide) (by decide) ht h3 HC.out hc
 rw [show (33 : Int) - ((32 : Nat) : Int) = 1 from rfl] at hN
 (with_reducible refine hN.mono ?_)
 clear hN
 rintro o Wg ⟨hU, hres⟩
 have HU := Aside0.mk hU
 have hgz : Wf.heap.size ≤ Wg.heap.size := hU.size
 have B1g := Aside0.mk (B1f.out.upd hU (by omega))
 have B2g := Aside0.mk (B2f.out.upd hU (by omega))
 have B3g := Aside0.mk (B3f.out.upd hU (by omega))
 have HLag : Aside0 (Below w.heap.size w Wg) := ⟨HLaf.out.trans (hU.below (fun k hk => by have := HB0.out; omega) HLaf.out.size)⟩
 clear hU BP B0f B1f B2f B3f HLaf HWf
 have hres2 : NodeRes p s o Wg := by rw [HS.out]; exact hres
 clear hres
 cases s with
 | bad q x0 =>
  have hres3 : o = offends q x0 := hres2
  subst hres3
  unfold offends
  go_wp2_with fail
  refine leaves_cons (f := 55) (args := #[.pointer (some ⟨b1, 0, none⟩), .pointer (some ⟨b2, 0, none⟩), .pointer (some ⟨b3, 0, none⟩)]) (by simp) (by simp [go_sem]) ?_
  refine (catch_pan b1 b2 b3 ⟨#[]⟩ q 0 0 x0 [] Wg B1g.out B2g.out B3g.out).mono ?_
  rintro o u Wh ⟨rfl, rfl, HF⟩
  have n1 := HF.out.2.1.cell 0 _ rfl
  have n2 := HF.out.2.2.1.cell 0 _ rfl
  have n3 := HF.out.2.2.2.cell 0 _ rfl
  have HLah : Aside0 (Below w.heap.size w Wh) := ⟨HLag.out.trans (HF.out.1.below (fun k hk => by have := HB0.out; omega) HLag.out.size)⟩
  simp [Leaves, settle, results, Tryd.results30, go_sem, n1, n2, n3]
  exact ⟨HLah.out, rfl⟩
 | ok b rows =>
  obtain ⟨ho, hbp, hb0, hb1⟩ := hres2
  subst ho
  have HBP := Aside0.mk hbp
  have cp := hbp.cell 0 _ rfl
  have n1 := B1g.out.cell 0 _ rfl
  have n2 := B2g.out.cell 0 _ rfl
  have n3 := B3g.out.cell 0 _ rfl
  have f1 := B1g.out.frozen 0
  have f2 := B2g.out.frozen 0
  have f3 := B3g.out.frozen 0
  clear hbp
  go_wp2_with fail
  go_region
  go_wp2_with fail
  have n12 : b1 ≠ b2 := by omega
  have n13 : b1 ≠ b3 := by omega
  have n23 : b2 ≠ b3 := by omega
  obtain ⟨w5, hw5⟩ : ∃ w5, w5 = (((Wg.setCell ⟨b1, 0, none⟩ (.string ⟨#[]⟩)).setCell ⟨b2, 0, none⟩ (.int .i64 0)).setCell ⟨b3, 0, none⟩ (.int .i64 b)).drew := ⟨_, rfl⟩
  have HFIN : Aside0 (Below w.heap.size w w5 ∧ Blk w5 b1 9 [.string ⟨#[]⟩] ∧ Blk w5 b2 33 [.int .i64 0] ∧ Blk w5 b3 3 [.int .i64 b]) := ⟨by
   have hz := HB0.out
   have u3 := ((HLag.out.setCell (p := ⟨b1, 0, none⟩) (by show w.heap.size ≤ b1; omega) (.string ⟨#[]⟩)).setCell (p := ⟨b2, 0, none⟩) (by show w.heap.size ≤ b2; omega) (.int .i64 0)).setCell (p := ⟨b3, 0, none⟩) (by show w.heap.size ≤ b3; omega) (.int .i64 b)
   have q1 : Blk (Wg.setCell ⟨b1, 0, none⟩ (.string ⟨#[]⟩)) b1 9 [.string ⟨#[]⟩] := blk_put B1g.out 0 _ rfl
   have q2 : Blk ((Wg.setCell ⟨b1, 0, none⟩ (.string ⟨#[]⟩)).setCell ⟨b2, 0, none⟩ (.int .i64 0)) b2 33 [.int .i64 0] := blk_put ((Below.heap_setCell _ _ _ _ (by exact fun e => n12 e.symm)).trans B2g.out) 0 _ rfl
   have q3 : Blk (((Wg.setCell ⟨b1, 0, none⟩ (.string ⟨#[]⟩)).setCell ⟨b2, 0, none⟩ (.int .i64 0)).setCell ⟨b3, 0, none⟩ (.int .i64 b)) b3 3 [.int .i64 b] := blk_put ((Below.heap_setCell _ _ _ _ (by exact fun e => n23 e.symm)).trans ((Below.heap_setCell _ _ _ _ (by exact fun e => n13 e.symm)).trans B3g.out)) 0 _ rfl
   rw [hw5]
   exact ⟨below_drew u3, (Below.heap_setCell _ _ _ _ (by exact n13)).trans ((Below.heap_setCell _ _ _ _ (by exact n12)).trans q1), (Below.heap_setCell _ _ _ _ (by exact n23)).trans q2, q3⟩⟩
  rw [← hw5]
  clear hw5 cp n1 n2 n3 f1 f2 f3
  refine leaves_cons (f := 55) (args := #[.pointer (some ⟨b1, 0, none⟩), .pointer (some ⟨b2, 0, none⟩), .pointer (some ⟨b3, 0, none⟩)]) (by simp) (by simp [go_sem]) ?_
  refine (catch_idle ⟨b1, 0, none⟩ ⟨b2, 0, none⟩ ⟨b3, 0, none⟩ w5).mono ?_
  rintro o u Wh ⟨rfl, rfl, HF⟩
  have n1 := (HFIN.out.2.1.below HF.out).cell 0 _ rfl
  have n2 := (HFIN.out.2.2.1.below HF.out).cell 0 _ rfl
  have n3 := (HFIN.out.2.2.2.below HF.out).cell 0 _ rfl
  have HLah : Aside0 (Below w.heap.size w Wh) := ⟨below_then HFIN.out.1 HFIN.out.1.size HF.out⟩
  simp [Leaves, settle, results, Tryd.results30, go_sem, n1, n2, n3]
  exact ⟨HLah.out, rfl⟩
/-- Check. -/
def lookPath : Look → ByteArray
 | .bad p _ => p
 | .ok _ _ => ⟨#[]⟩
def lookCode : Look → Int
 | .bad _ c => c
 | .ok _ _ => 0
def lookSize : Look → Int
 | .bad _ _ => 0
 | .ok b _ => b
theorem walk_post {s : Look} {w w' : World} {o : Ending} (h : WalkPost s w o w') : o = .returned (.tuple #[.string (lookPath s), .int .i64 (lookCode s), .int .i64 (lookSize s)]) ∧ Below w.heap.size w w' := by
 obtain ⟨hb, ho⟩ := h
 cases s <;> exact ⟨ho, hb⟩
set_option maxHeartbeats 1000000 in
set_option maxRecDepth 100000 in
theorem check_calls (k : Int) (e : Bool) (t : ByteArray) (A : Option Addr) (c : Nat) (l : List Ent) (w : World) (hC : Kd.C k63 w A l.length l) (hc : l.length ≤ c) (ht : Texts l) (h3 : t.size ≤ 140737488351232) :
  Calls Tryd.prog 14 #[.agg #[.int .i64 k, .bool e, .string t, .slice A l.length c]] w fun o w' => o = .returned (.tuple #[.string (lookPath (lookL k e t l)), .int .i64 (lookCode (lookL k e t l))]) ∧ Aside0 (Below w.heap.size w w') := by
 have HW := Aside0.mk (fun W hC => (walk_calls k e t A c l W hC hc ht h3).mono fun _ _ h => walk_post h)
 have HC := Aside0.mk hC
 clear hC ht h3
 generalize lookL k e t l = s at *
 generalize lookPath s = q at *
 generalize lookCode s = x at *
 generalize lookSize s = z at *
 go_enter Tryd.func14, Tryd.ntmps14
 go_wp2_with fail
 (with_reducible refine (HW.out _ (Kd.C_alloc HC.out _)).mono ?_)
 rintro o w1 ⟨rfl, hb⟩
 have HB := Aside0.mk (below_step ((Below.refl _ _).alloc (Nat.le_refl _) _) hb)
 clear hb
 go_wp2
 go_ret2
 exact ⟨rfl, HB⟩
set_option maxHeartbeats 1000000 in
set_option maxRecDepth 100000 in
theorem size_calls (k : Int) (e : Bool) (t : ByteArray) (A : Option Addr) (c : Nat) (l : List Ent) (w : World) (hC : Kd.C k63 w A l.length l) (hc : l.length ≤ c) (ht : Texts l) (h3 : t.size ≤ 140737488351232) :
  Calls Tryd.prog 27 #[.agg #[.int .i64 k, .bool e, .string t, .slice A l.length c]] w fun o w' => o = .returned (.tuple #[.int .i64 (lookSize (lookL k e t l)), .int .i64 (lookCode (lookL k e t l))]) ∧ Aside0 (Below w.heap.size w w') := by
 have HW := Aside0.mk (fun W hC => (walk_calls k e t A c l W hC hc ht h3).mono fun _ _ h => walk_post h)
 have HC := Aside0.mk hC
 clear hC ht h3
 generalize lookL k e t l = s at *
 generalize lookPath s = q at *
 generalize lookCode s = x at *
 generalize lookSize s = z at *
 go_enter Tryd.func27, Tryd.ntmps27
 go_wp2_with fail
 (with_reducible refine (HW.out _ (Kd.C_alloc HC.out _)).mono ?_)
 rintro o w1 ⟨rfl, hb⟩
 have HB := Aside0.mk (below_step ((Below.refl _ _).alloc (Nat.le_refl _) _) hb)
 clear hb
 go_wp2
 go_ret2
 exact ⟨rfl, HB⟩
end Go.Proofs.YtnemeeidomceiaaDoor
end
section
namespace Go.Proofs.YtnemeeidomceiaaDoor
open Go.RowKit Go.Proofs.YtnemeeidomceiaaDoorW.PrintWords Go.Proofs.YtnemeeidomceiaaDoorW.PrintLast Go.Proofs.YtnemeeidomceiaaDoorW.PrintMore Go.Proofs.YtnemeeidomceiaaDoor.PTreeChecks
set_option linter.unusedVariables false
set_option linter.unusedSimpArgs false
def lookRows : Look → List RowT
 | .bad _ _ => []
 | .ok _ r => r
/-- The whole walk, called from Look. -/
theorem top_visit (k : Int) (e : Bool) (t : ByteArray) (A : Option Addr) (c : Nat) (l : List Ent) (w : World) (hC : Kd.C k63 w A l.length l) (hc : l.length ≤ c) (ht : Texts l) (h3 : t.size ≤ 140737488351232) (W : World) (hb : Below w.heap.size w W) :
  Calls Tryd.prog 65 #[.agg #[.slice none 0 0, .int .i64 magS, .int .i64 0, .string ⟨#[]⟩], .string ⟨#[]⟩, .agg #[.int .i64 k, .bool e, .string t, .slice A l.length c], .int .i64 1] W fun o W' =>
   ∃ v1 rows1 b1 c1 p1, o = .returned (.agg #[v1, .int .i64 b1, .int .i64 c1, .string p1]) ∧ RowsAt W' w.heap.size v1 rows1 ∧ RefRes (lookL k e t l) [] rows1 b1 c1 p1 ∧ Below W.heap.size W W' := by
 have h := ref_all 32 (Nat.le_refl _) ⟨#[]⟩ ⟨⟨#[]⟩, k, e, t, l⟩ A c magS (.slice none 0 0) [] ⟨#[]⟩ w.heap.size w W hb (Nat.le_refl _) hb.size (Kd.R_nil _ _ _ _ _) (by rw [magS_eq]; decide) (by rw [magS_eq]; decide) (by rw [magS_eq]; decide) (by decide) ht h3 hC hc
 refine h.mono ?_
 rintro o W' ⟨v1, rows1, b1, c1, p1, rfl, hR, hU, _, hres⟩
 exact ⟨v1, rows1, b1, c1, p1, rfl, hR, hres, hU.below (fun k hk => by cases hk) (Nat.le_refl _)⟩
/-- What the walk left for Look. -/
def TopRes (s : Look) (w w' : World) (b2 : Nat) (p : Nat × Value) : Prop := ∃ v1 rows1 b1 c1 p1, p.2 = .agg #[v1, .int .i64 b1, .int .i64 c1, .string p1] ∧ RowsAt w' w.heap.size v1 rows1 ∧ RefRes s [] rows1 b1 c1 p1 ∧ Below w.heap.size w w' ∧
 Blk w' p.1 87 [.slice none 0 0, .int .i64 0, .int .i64 0, .string ⟨#[]⟩] ∧ Blk w' b2 87 [.slice none 0 0, .int .i64 0, .int .i64 0, .string ⟨#[]⟩] ∧ b2 < p.1 ∧ w.heap.size ≤ b2
/-- What Look says. -/
def TopPost (s : Look) (w : World) (o : Ending) (w' : World) : Prop := ∃ v, o = .returned (.agg #[v, .int .i64 (lookSize s), .int .i64 (lookCode s), .string (lookPath s)]) ∧ RowsAt w' w.heap.size v ((lookRows s).map rowR) ∧ Below w.heap.size w w'
set_option maxHeartbeats 4000000 in
set_option maxRecDepth 100000 in
theorem look_calls (k : Int) (e : Bool) (t : ByteArray) (A : Option Addr) (c : Nat) (l : List Ent) (w : World) (hC : Kd.C k63 w A l.length l) (hc : l.length ≤ c) (ht : Texts l) (h3 : t.size ≤ 140737488351232) :
  Calls Tryd.prog 39 #[.agg #[.int .i64 k, .bool e, .string t, .slice A l.length c]] w (TopPost (lookL k e t l) w) := by
 have HV := Aside0.mk (top_visit k e t A c l w hC hc ht h3)
 have HFAIR : Aside0 (LookFair magS (lookL k e t l)) := ⟨nodeL_fair _ _ _ _⟩
 clear hC ht h3
 generalize lookL k e t l = s at *
 go_enter Tryd.func39, Tryd.ntmps39
 go_wp2_with fail
 obtain ⟨Wa, hWa⟩ : ∃ Wa, Wa = w.alloc (.cells #[.int .i64 k, .bool e, .string t, .slice A l.length c] 32) := ⟨_, rfl⟩
 have za : Wa.heap.size = w.heap.size + 1 := by rw [hWa]; simp
 have HBA : Aside0 (Blk Wa w.heap.size 32 [.int .i64 k, .bool e, .string t, .slice A l.length c]) := ⟨by rw [hWa]; exact Blk.new _ _ _⟩
 have HLA : Aside0 (Below w.heap.size w Wa) := ⟨by rw [hWa]; exact (Below.refl _ _).alloc (Nat.le_refl _) _⟩
 rw [← hWa]
 try rw [← za]
 clear hWa
 obtain ⟨Wb, hWb⟩ : ∃ Wb, Wb = Wa.alloc (.cells #[.slice none 0 0, .int .i64 0, .int .i64 0, .string ⟨#[]⟩] 87) := ⟨_, rfl⟩
 have HZp : Aside0 (Blk Wb Wa.heap.size 87 [.slice none 0 0, .int .i64 0, .int .i64 0, .string ⟨#[]⟩]) := ⟨by rw [hWb]; exact Blk.new _ _ _⟩
 have hal : Below Wa.heap.size Wa Wb := by rw [hWb]; exact (Below.refl _ _).alloc (Nat.le_refl _) _
 rw [← hWb]
 clear hWb
 have HLp := Aside0.mk (HLA.out.trans (hal.mono HLA.out.size))
 have HNp := Aside0.mk (HBA.out.below hal)
 obtain ⟨bn, hbn⟩ : ∃ q, q = w.heap.size := ⟨_, rfl⟩
 obtain ⟨b2, hb2⟩ : ∃ q, q = Wa.heap.size := ⟨_, rfl⟩
 have hbw : w.heap.size ≤ b2 := by omega
 have hb12 : bn < b2 := by omega
 rw [← hbn, ← hb2] at ⊢
 rw [← hbn] at HNp
 rw [← hb2] at HZp
 clear hal HBA HLA za hbn hb2
 refine start_ (n := 6) (S := fun w' => w'.cell? ⟨bn, 0, none⟩ = some (.int .i64 k) ∧ w'.cell? ⟨bn, 1, none⟩ = some (.bool e) ∧ w'.cell? ⟨bn, 2, none⟩ = some (.string t) ∧ w'.cell? ⟨bn, 3, none⟩ = some (.slice A l.length c)) (ds := [5]) #[false, false, false, false, false, false] (by kernel_rfl) rfl rfl (⟨HNp.out.cell 0 _ rfl, HNp.out.cell 1 _ rfl, HNp.out.cell 2 _ rfl, HNp.out.cell 3 _ rfl⟩) (fun hHeld => ?_)
 replace HLp : Aside0 (Below w.heap.size w Wb.drew) := ⟨below_drew HLp.out⟩
 replace HNp : Aside0 (Blk Wb.drew bn 32 [.int .i64 k, .bool e, .string t, .slice A l.length c]) := ⟨HNp.out⟩
 replace HZp : Aside0 (Blk Wb.drew b2 87 [.slice none 0 0, .int .i64 0, .int .i64 0, .string ⟨#[]⟩]) := ⟨HZp.out⟩
 generalize Wb.drew = Wc at *
 refine take_ (i := 2) (N := some 6) (v := ?_) (a' := ?_) #[false, false, true, false, false, false] rfl rfl (by kernel_rfl) (fun _ _ _ h => h) (Or.inl ⟨by rfl, ?_⟩) hHeld ?_ ?_
 rotate_left
 ·rintro w' ⟨s0, s1, s2, s3⟩
  go_simp
  with_reducible rfl
 rotate_left
 ·simp only [Act.put, List.setIfInBounds_toArray, List.set_cons_zero, List.set_cons_succ, i64_w, i32_w]
  rfl
 refine join_ (σ := Nat × Value) 1 #[true, true, true, true, true, false] (fun p => [(4, .int .i64 magS), (5, .agg #[.slice none 0 0, .int .i64 magS, .int .i64 0, .string ⟨#[]⟩]), (7, p.2), (3, .pointer (some ⟨p.1, 0, none⟩))]) (fun p w' => TopRes s w w' b2 p) ?_ ?_
 rotate_left
 ·intro hCont
  refine two_ (i := 0) (j := 4) (Ni := some 4) (Nj := some 3) #[true, false, true, false, false, false] #[false, false, true, false, true, false] rfl rfl rfl rfl (by kernel_rfl) (by decide) (by decide) (fun K hK => ?_) (fun K hK => ?_)
  ·skip
   refine goes_ Tryd.func60 (by kernel_rfl) rfl #[] (by rfl) rfl rfl (by first | (simp; done) | rfl | kernel_rfl) ?_
   refine (depotref06_Magic.calls 40 magS Wc (magic_E 40 (Nat.le_refl _))).mono ?_
   rintro o W1 ⟨rfl, hbW1⟩
   have HLW1 := Aside0.mk (HLp.out.trans (hbW1.mono HLp.out.size))
   have HNW1 := Aside0.mk (HNp.out.below hbW1)
   have HZW1 := Aside0.mk (HZp.out.below hbW1)
   refine ⟨_, rfl, ?_⟩
   refine hK.out _ _ ⟨HNW1.out.cell 0 _ rfl, HNW1.out.cell 1 _ rfl, HNW1.out.cell 2 _ rfl, HNW1.out.cell 3 _ rfl⟩ (fun hHeld => ?_)
   clear hK K
   refine norm_ (a' := ?_) ?_ ?_
   rotate_left
   ·show Act.put _ (some 4) _ = _
    simp only [Act.put, List.setIfInBounds_toArray, List.set_cons_zero, List.set_cons_succ]
    rfl
   have HLp := HLW1
   have HNp := HNW1
   have HZp := HZW1
   refine pure_ (i := 1) (N := some 5) (v := ?_) (a' := ?_) #[true, true, true, false, false, false] rfl rfl (by kernel_rfl) (fun _ _ _ h => h) (Or.inl ⟨by rfl, ?_⟩) ?_ ?_
   rotate_left
   ·intro w'
    go_simp
    with_reducible rfl
   rotate_left
   ·simp only [Act.put, List.setIfInBounds_toArray, List.set_cons_zero, List.set_cons_succ, i64_w, i32_w]
    rfl
   refine two_ (i := 3) (j := 4) (Ni := some 7) (Nj := some 3) #[true, true, true, true, false, false] #[true, true, true, false, true, false] rfl rfl rfl rfl (by kernel_rfl) (by decide) (by decide) (fun K hK => ?_) (fun K hK => ?_)
   ·skip
    refine goes_ Tryd.func65 (by kernel_rfl) rfl #[.agg #[.slice none 0 0, .int .i64 magS, .int .i64 0, .string ⟨#[]⟩], .string ⟨#[]⟩, .agg #[.int .i64 k, .bool e, .string t, .slice A l.length c], .int .i64 1] (by rfl) rfl rfl (by first | rfl | (simp only [List.map_toArray, List.map_cons, List.map_nil]; rfl)) ?_
    refine (HV.out W1 HLp.out).mono ?_
    rintro o W2 ⟨v1, rows1, b1, c1, p1, rfl, hRv, hres, hbW2⟩
    have HLW2 := Aside0.mk (HLp.out.trans (hbW2.mono HLp.out.size))
    have HNW2 := Aside0.mk (HNp.out.below hbW2)
    have HZW2 := Aside0.mk (HZp.out.below hbW2)
    refine ⟨_, rfl, ?_⟩
    refine hK.out _ _ ⟨HNW2.out.cell 0 _ rfl, HNW2.out.cell 1 _ rfl, HNW2.out.cell 2 _ rfl, HNW2.out.cell 3 _ rfl⟩ (fun hHeld => ?_)
    clear hK K
    refine norm_ (a' := ?_) ?_ ?_
    rotate_left
    ·show Act.put _ (some 7) _ = _
     simp only [Act.put, List.setIfInBounds_toArray, List.set_cons_zero, List.set_cons_succ]
     rfl
    have HLp := HLW2
    have HNp := HNW2
    have HZp := HZW2
    have HRW := Aside0.mk hRv
    refine one_ (i := 4) (N := some 3) #[true, true, true, true, true, false] rfl rfl (by kernel_rfl) (by decide) (fun K hK => ?_)
    refine value_ (v := .pointer (some ⟨W2.heap.size, 0, none⟩)) (w1 := W2.alloc (.cells #[.slice none 0 0, .int .i64 0, .int .i64 0, .string ⟨#[]⟩] 87)) (by rfl) rfl ?_ ?_
    ·first | rfl | (go_simp; done) | kernel_rfl
    have hbW3 : Below W2.heap.size W2 (W2.alloc (.cells #[.slice none 0 0, .int .i64 0, .int .i64 0, .string ⟨#[]⟩] 87)) := (Below.refl _ _).alloc (Nat.le_refl _) _
    have BGW3 : Aside0 (Blk (W2.alloc (.cells #[.slice none 0 0, .int .i64 0, .int .i64 0, .string ⟨#[]⟩] 87)) W2.heap.size 87 [.slice none 0 0, .int .i64 0, .int .i64 0, .string ⟨#[]⟩]) := ⟨Blk.new _ _ _⟩
    generalize W2.alloc (.cells #[.slice none 0 0, .int .i64 0, .int .i64 0, .string ⟨#[]⟩] 87) = W3 at *
    have HLW3 := Aside0.mk (HLp.out.trans (hbW3.mono HLp.out.size))
    have HNW3 := Aside0.mk (HNp.out.below hbW3)
    have HZW3 := Aside0.mk (HZp.out.below hbW3)
    have hgW3 : b2 < W2.heap.size := HZp.out.lt
    have hhW3 : w.heap.size ≤ W2.heap.size := HLp.out.size
    refine hK.out _ _ ⟨HNW3.out.cell 0 _ rfl, HNW3.out.cell 1 _ rfl, HNW3.out.cell 2 _ rfl, HNW3.out.cell 3 _ rfl⟩ (fun hHeld => ?_)
    clear hK K
    refine norm_ (a' := ?_) ?_ ?_
    rotate_left
    ·show Act.put _ (some 3) _ = _
     simp only [Act.put, List.setIfInBounds_toArray, List.set_cons_zero, List.set_cons_succ]
     rfl
    exact norm_ (by first | (simp only [putAll, Act.put, List.setIfInBounds_toArray, List.set_cons_zero, List.set_cons_succ]; done) | (simp only [putAll, Act.put, List.setIfInBounds_toArray, List.set_cons_zero, List.set_cons_succ]; rfl)) (hCont (W2.heap.size, .agg #[v1, .int .i64 b1, .int .i64 c1, .string p1]) _ ⟨v1, rows1, b1, c1, p1, rfl, Kd.R_below HRW.out hbW3, hres, HLW3.out, BGW3.out, HZW3.out, hgW3, hbw⟩)
   ·skip
    refine value_ (v := .pointer (some ⟨W1.heap.size, 0, none⟩)) (w1 := W1.alloc (.cells #[.slice none 0 0, .int .i64 0, .int .i64 0, .string ⟨#[]⟩] 87)) (by rfl) rfl ?_ ?_
    ·first | rfl | (go_simp; done) | kernel_rfl
    have hbW2 : Below W1.heap.size W1 (W1.alloc (.cells #[.slice none 0 0, .int .i64 0, .int .i64 0, .string ⟨#[]⟩] 87)) := (Below.refl _ _).alloc (Nat.le_refl _) _
    have BGW2 : Aside0 (Blk (W1.alloc (.cells #[.slice none 0 0, .int .i64 0, .int .i64 0, .string ⟨#[]⟩] 87)) W1.heap.size 87 [.slice none 0 0, .int .i64 0, .int .i64 0, .string ⟨#[]⟩]) := ⟨Blk.new _ _ _⟩
    generalize W1.alloc (.cells #[.slice none 0 0, .int .i64 0, .int .i64 0, .string ⟨#[]⟩] 87) = W2 at *
    have HLW2 := Aside0.mk (HLp.out.trans (hbW2.mono HLp.out.size))
    have HNW2 := Aside0.mk (HNp.out.below hbW2)
    have HZW2 := Aside0.mk (HZp.out.below hbW2)
    have hgW2 : b2 < W1.heap.size := HZp.out.lt
    have hhW2 : w.heap.size ≤ W1.heap.size := HLp.out.size
    refine hK.out _ _ ⟨HNW2.out.cell 0 _ rfl, HNW2.out.cell 1 _ rfl, HNW2.out.cell 2 _ rfl, HNW2.out.cell 3 _ rfl⟩ (fun hHeld => ?_)
    clear hK K
    refine norm_ (a' := ?_) ?_ ?_
    rotate_left
    ·show Act.put _ (some 3) _ = _
     simp only [Act.put, List.setIfInBounds_toArray, List.set_cons_zero, List.set_cons_succ]
     rfl
    have HLp := HLW2
    have HNp := HNW2
    have HZp := HZW2
    refine one_ (i := 3) (N := some 7) #[true, true, true, true, true, false] rfl rfl (by kernel_rfl) (by decide) (fun K hK => ?_)
    refine goes_ Tryd.func65 (by kernel_rfl) rfl #[.agg #[.slice none 0 0, .int .i64 magS, .int .i64 0, .string ⟨#[]⟩], .string ⟨#[]⟩, .agg #[.int .i64 k, .bool e, .string t, .slice A l.length c], .int .i64 1] (by rfl) rfl rfl (by first | rfl | (simp only [List.map_toArray, List.map_cons, List.map_nil]; rfl)) ?_
    refine (HV.out W2 HLp.out).mono ?_
    rintro o W3 ⟨v1, rows1, b1, c1, p1, rfl, hRv, hres, hbW3⟩
    have HLW3 := Aside0.mk (HLp.out.trans (hbW3.mono HLp.out.size))
    have HNW3 := Aside0.mk (HNp.out.below hbW3)
    have HZW3 := Aside0.mk (HZp.out.below hbW3)
    refine ⟨_, rfl, ?_⟩
    refine hK.out _ _ ⟨HNW3.out.cell 0 _ rfl, HNW3.out.cell 1 _ rfl, HNW3.out.cell 2 _ rfl, HNW3.out.cell 3 _ rfl⟩ (fun hHeld => ?_)
    clear hK K
    refine norm_ (a' := ?_) ?_ ?_
    rotate_left
    ·show Act.put _ (some 7) _ = _
     simp only [Act.put, List.setIfInBounds_toArray, List.set_cons_zero, List.set_cons_succ]
     rfl
    exact norm_ (by first | (simp only [putAll, Act.put, List.setIfInBounds_toArray, List.set_cons_zero, List.set_cons_succ]; done) | (simp only [putAll, Act.put, List.setIfInBounds_toArray, List.set_cons_zero, List.set_cons_succ]; rfl)) (hCont (W1.heap.size, .agg #[v1, .int .i64 b1, .int .i64 c1, .string p1]) _ ⟨v1, rows1, b1, c1, p1, rfl, hRv, hres, HLW3.out, BGW2.out.below hbW3, HZW3.out, hgW2, hbw⟩)
  ·skip
   refine value_ (v := .pointer (some ⟨Wc.heap.size, 0, none⟩)) (w1 := Wc.alloc (.cells #[.slice none 0 0, .int .i64 0, .int .i64 0, .string ⟨#[]⟩] 87)) (by rfl) rfl ?_ ?_
   ·first | rfl | (go_simp; done) | kernel_rfl
   have hbW1 : Below Wc.heap.size Wc (Wc.alloc (.cells #[.slice none 0 0, .int .i64 0, .int .i64 0, .string ⟨#[]⟩] 87)) := (Below.refl _ _).alloc (Nat.le_refl _) _
   have BGW1 : Aside0 (Blk (Wc.alloc (.cells #[.slice none 0 0, .int .i64 0, .int .i64 0, .string ⟨#[]⟩] 87)) Wc.heap.size 87 [.slice none 0 0, .int .i64 0, .int .i64 0, .string ⟨#[]⟩]) := ⟨Blk.new _ _ _⟩
   generalize Wc.alloc (.cells #[.slice none 0 0, .int .i64 0, .int .i64 0, .string ⟨#[]⟩] 87) = W1 at *
   have HLW1 := Aside0.mk (HLp.out.trans (hbW1.mono HLp.out.size))
   have HNW1 := Aside0.mk (HNp.out.below hbW1)
   have HZW1 := Aside0.mk (HZp.out.below hbW1)
   have hgW1 : b2 < Wc.heap.size := HZp.out.lt
   have hhW1 : w.heap.size ≤ Wc.heap.size := HLp.out.size
   refine hK.out _ _ ⟨HNW1.out.cell 0 _ rfl, HNW1.out.cell 1 _ rfl, HNW1.out.cell 2 _ rfl, HNW1.out.cell 3 _ rfl⟩ (fun hHeld => ?_)
   clear hK K
   refine norm_ (a' := ?_) ?_ ?_
   rotate_left
   ·show Act.put _ (some 3) _ = _
    simp only [Act.put, List.setIfInBounds_toArray, List.set_cons_zero, List.set_cons_succ]
    rfl
   have HLp := HLW1
   have HNp := HNW1
   have HZp := HZW1
   refine one_ (i := 0) (N := some 4) #[true, false, true, false, true, false] rfl rfl (by kernel_rfl) (by decide) (fun K hK => ?_)
   refine goes_ Tryd.func60 (by kernel_rfl) rfl #[] (by rfl) rfl rfl (by first | (simp; done) | rfl | kernel_rfl) ?_
   refine (depotref06_Magic.calls 40 magS W1 (magic_E 40 (Nat.le_refl _))).mono ?_
   rintro o W2 ⟨rfl, hbW2⟩
   have HLW2 := Aside0.mk (HLp.out.trans (hbW2.mono HLp.out.size))
   have HNW2 := Aside0.mk (HNp.out.below hbW2)
   have HZW2 := Aside0.mk (HZp.out.below hbW2)
   refine ⟨_, rfl, ?_⟩
   refine hK.out _ _ ⟨HNW2.out.cell 0 _ rfl, HNW2.out.cell 1 _ rfl, HNW2.out.cell 2 _ rfl, HNW2.out.cell 3 _ rfl⟩ (fun hHeld => ?_)
   clear hK K
   refine norm_ (a' := ?_) ?_ ?_
   rotate_left
   ·show Act.put _ (some 4) _ = _
    simp only [Act.put, List.setIfInBounds_toArray, List.set_cons_zero, List.set_cons_succ]
    rfl
   have HLp := HLW2
   have HNp := HNW2
   have HZp := HZW2
   refine pure_ (i := 1) (N := some 5) (v := ?_) (a' := ?_) #[true, true, true, false, true, false] rfl rfl (by kernel_rfl) (fun _ _ _ h => h) (Or.inl ⟨by rfl, ?_⟩) ?_ ?_
   rotate_left
   ·intro w'
    go_simp
    with_reducible rfl
   rotate_left
   ·simp only [Act.put, List.setIfInBounds_toArray, List.set_cons_zero, List.set_cons_succ, i64_w, i32_w]
    rfl
   refine one_ (i := 3) (N := some 7) #[true, true, true, true, true, false] rfl rfl (by kernel_rfl) (by decide) (fun K hK => ?_)
   refine goes_ Tryd.func65 (by kernel_rfl) rfl #[.agg #[.slice none 0 0, .int .i64 magS, .int .i64 0, .string ⟨#[]⟩], .string ⟨#[]⟩, .agg #[.int .i64 k, .bool e, .string t, .slice A l.length c], .int .i64 1] (by rfl) rfl rfl (by first | rfl | (simp only [List.map_toArray, List.map_cons, List.map_nil]; rfl)) ?_
   refine (HV.out W2 HLp.out).mono ?_
   rintro o W3 ⟨v1, rows1, b1, c1, p1, rfl, hRv, hres, hbW3⟩
   have HLW3 := Aside0.mk (HLp.out.trans (hbW3.mono HLp.out.size))
   have HNW3 := Aside0.mk (HNp.out.below hbW3)
   have HZW3 := Aside0.mk (HZp.out.below hbW3)
   refine ⟨_, rfl, ?_⟩
   refine hK.out _ _ ⟨HNW3.out.cell 0 _ rfl, HNW3.out.cell 1 _ rfl, HNW3.out.cell 2 _ rfl, HNW3.out.cell 3 _ rfl⟩ (fun hHeld => ?_)
   clear hK K
   refine norm_ (a' := ?_) ?_ ?_
   rotate_left
   ·show Act.put _ (some 7) _ = _
    simp only [Act.put, List.setIfInBounds_toArray, List.set_cons_zero, List.set_cons_succ]
    rfl
   exact norm_ (by first | (simp only [putAll, Act.put, List.setIfInBounds_toArray, List.set_cons_zero, List.set_cons_succ]; done) | (simp only [putAll, Act.put, List.setIfInBounds_toArray, List.set_cons_zero, List.set_cons_succ]; rfl)) (hCont (Wc.heap.size, .agg #[v1, .int .i64 b1, .int .i64 c1, .string p1]) _ ⟨v1, rows1, b1, c1, p1, rfl, hRv, hres, HLW3.out, (BGW1.out.below hbW2).below hbW3, HZW3.out, hgW1, hbw⟩)
 rintro ⟨g, v7⟩ W5 ⟨v1, rows1, b1, c1, p1, rfl, hR5, hres, hL5, hG5, hZ5, hbg, hbw⟩
 obtain ⟨A5, c5, hv5⟩ := Kd.R_slice hR5
 subst hv5
 refine norm_ (a' := ?_) ?_ ?_
 rotate_left
 ·simp only [putAll, Act.put, List.setIfInBounds_toArray, List.set_cons_zero, List.set_cons_succ]
  rfl
 have g0 := hG5.cell 0 _ rfl
 have g1 := hG5.cell 1 _ rfl
 have g2 := hG5.cell 2 _ rfl
 have g3 := hG5.cell 3 _ rfl
 have y0 := hG5.frozen 0
 have y1 := hG5.frozen 1
 have y2 := hG5.frozen 2
 have y3 := hG5.frozen 3
 have hs1 := store1 hG5 0 (.slice A5 rows1.length c5)
 have hs2 := store1 hs1.1 1 (.int .i64 b1)
 have hs3 := store1 hs2.1 2 (.int .i64 c1)
 have g1' := hs1.1.cell 1 _ rfl
 have y1' := hs1.1.frozen 1
 have g2' := hs2.1.cell 2 _ rfl
 have y2' := hs2.1.frozen 2
 have g3' := hs3.1.cell 3 _ rfl
 have y3' := hs3.1.frozen 3
 refine last_ (i := 5) (N := none) #[true, true, true, true, true, true] rfl rfl (by kernel_rfl) (by decide) (fun K hK => ?_)
 refine skip_ (w1 := (((W5.setCell ⟨g, 0, none⟩ (.slice A5 rows1.length c5)).setCell ⟨g, 1, none⟩ (.int .i64 b1)).setCell ⟨g, 2, none⟩ (.int .i64 c1)).setCell ⟨g, 3, none⟩ (.string p1)) (by rfl) rfl ?_ ?_
 ·first | (go_simp; done) | (simp [go_sem, store, g0, y0, g1', y1', g2', y2', g3', y3']; done) | (go_simp; simp [go_sem, store, g0, y0, g1', y1', g2', y2', g3', y3'])
 refine hK.out _ _ ?_
 clear hK K
 refine done_ (by kernel_rfl) ?_
 have hs := store4 hG5 (.slice A5 rows1.length c5) (.int .i64 b1) (.int .i64 c1) (.string p1)
 have HR6 := Aside0.mk (rows_upd hR5 hs.2 (fun q hq => by rw [hq]; exact ⟨_, _, hG5, by decide⟩))
 have HL6 := Aside0.mk (hL5.trans (hs.2.below (fun q hq => by rw [hq]; omega) hL5.size))
 have HZ6 := Aside0.mk (hZ5.upd hs.2 (by omega))
 have HG6 := Aside0.mk hs.1
 generalize (((W5.setCell ⟨g, 0, none⟩ (.slice A5 rows1.length c5)).setCell ⟨g, 1, none⟩ (.int .i64 b1)).setCell ⟨g, 2, none⟩ (.int .i64 c1)).setCell ⟨g, 3, none⟩ (.string p1) = W6 at *
 clear hs hR5 hL5 hG5 hZ5 g0 g1 g2 g3 y0 y1 y2 y3 g1' g2' g3' y1' y2' y3' hs1 hs2 hs3 HV
 have g2 := HG6.out.cell 2 _ rfl
 have z0 := HZ6.out.cell 0 _ rfl
 have z1 := HZ6.out.cell 1 _ rfl
 have z2 := HZ6.out.cell 2 _ rfl
 have z3 := HZ6.out.cell 3 _ rfl
 have y0 := HZ6.out.frozen 0
 have y1 := HZ6.out.frozen 1
 have y2 := HZ6.out.frozen 2
 have y3 := HZ6.out.frozen 3
 have g3 := HG6.out.cell 3 _ rfl
 cases s with
 | bad q c2 =>
  obtain ⟨rfl, rfl⟩ := hres
  have hcn : (c1 != 0) = true := bne_iff_ne.2 HFAIR.out
  go_wp2
  refine bodyPost_ret (results_cell_row rfl _ _ b2 87 #[.slice none 0 0, .int .i64 0, .int .i64 c1, .string p1] (0, 0) _ rfl (store4 HZ6.out _ _ _ _).1 Tryd.underlying87 rfl (by kernel_rfl)) rfl ?_
  exact ⟨_, rfl, Kd.R_nil _ _ _ _ _, HL6.out.trans ((store4 HZ6.out _ _ _ _).2.below (fun q hq => by rw [hq]; exact hbw) HL6.out.size)⟩
 | ok b3 rows =>
  obtain ⟨rfl, rfl, hrw⟩ := hres
  have HRW := Aside0.mk hrw
  clear hrw
  have g0 := HG6.out.cell 0 _ rfl
  have g1 := HG6.out.cell 1 _ rfl
  have u3 := HG6.out.frozen 3
  go_wp2_with fail
  obtain ⟨W7, hW7⟩ : ∃ q, q = W6.setCell ⟨g, 3, none⟩ (.string ⟨#[]⟩) := ⟨_, rfl⟩
  have hp := store1 HG6.out 3 (.string ⟨#[]⟩)
  rw [← hW7] at hp
  try rw [← hW7]
  clear hW7 g0 g1 g2 g3 u3 z0 z1 z2 z3 y0 y1 y2 y3
  have hz7 := HZ6.out.upd hp.2 (by omega)
  have HR7 := Aside0.mk (rows_upd HR6.out hp.2 (fun q hq => by rw [hq]; exact ⟨_, _, HG6.out, by decide⟩))
  have HL7 := Aside0.mk (HL6.out.trans (hp.2.below (fun q hq => by rw [hq]; omega) HL6.out.size))
  have g0 := hp.1.cell 0 _ rfl
  have g1 := hp.1.cell 1 _ rfl
  have g2 := hp.1.cell 2 _ rfl
  have g3 := hp.1.cell 3 _ rfl
  have z0 := hz7.cell 0 _ rfl
  have z1 := hz7.cell 1 _ rfl
  have z2 := hz7.cell 2 _ rfl
  have z3 := hz7.cell 3 _ rfl
  have y0 := hz7.frozen 0
  have y1 := hz7.frozen 1
  have y2 := hz7.frozen 2
  have y3 := hz7.frozen 3
  go_wp2
  have HS := store4 hz7 (.slice A5 rows1.length c5) (.int .i64 b1) (.int .i64 0) (.string ⟨#[]⟩)
  refine bodyPost_ret (results_cell_row rfl _ _ b2 87 #[.slice A5 rows1.length c5, .int .i64 b1, .int .i64 0, .string ⟨#[]⟩] (0, 0) _ rfl HS.1 Tryd.underlying87 rfl (by kernel_rfl)) rfl ?_
  refine ⟨_, rfl, ?_, HL7.out.trans (HS.2.below (fun q hq => by rw [hq]; exact hbw) HL7.out.size)⟩
  have h := rows_upd HR7.out HS.2 (fun q hq => by rw [hq]; exact ⟨_, _, hz7, by decide⟩)
  have h2 : rows1 = rows.map rowR := HRW.out
  show RowsAt _ w.heap.size _ (rows.map rowR)
  rw [← h2]
  exact h
end Go.Proofs.YtnemeeidomceiaaDoor
end
section
namespace Go.Proofs.YtnemeeidomceiaaDoor
open Go.RowKit Go.Proofs.YtnemeeidomceiaaDoorW.PrintWords Go.Proofs.YtnemeeidomceiaaDoorW.PrintLast Go.Proofs.YtnemeeidomceiaaDoorW.PrintMore Go.Proofs.YtnemeeidomceiaaDoor.PTreeChecks
set_option linter.unusedVariables false
set_option linter.unusedSimpArgs false
abbrev OwnRw := S27
/-- A row of the walk as the program's. -/
def rowW (r : RowT) : OwnRw := ⟨r.1, r.2.1, r.2.2.1, r.2.2.2⟩
abbrev RowsW (w : World) (base : Nat) (v : Value) (rows : List OwnRw) : Prop := Kd.R k27 27 w base (fun _ => True) v rows
theorem rowsW_upd {S : Nat → Prop} {w w1 : World} {base : Nat} {v : Value} {rows : List OwnRw} (h : RowsW w base v rows) (hU : Upd S w w1) (hS : ∀ k, S k → ∃ t cells, w.heap[k]? = some (.cells cells t (0, 0)) ∧ t ≠ 27) : RowsW w1 base v rows :=
 Kd.R_mono (Kd.R_step (Kd.R_bound h) (fun k hk hlt => hU.block k hlt (fun hs => by
  obtain ⟨t, cells, hc, ht⟩ := hS k hs
  obtain ⟨_, _, _, q, hq, cells2, hc2⟩ := hk
  rw [hc] at hc2
  injection hc2 with hc2
  injection hc2 with _ h2
  rcases List.mem_cons.1 hq with h | h
  ·exact ht (h2.trans h)
  ·rw [show k27.E = [] from rfl] at h; cases h))) (fun _ _ => trivial)
theorem rowsW_ne {w : World} {base g : Nat} {v : Value} {rows : List OwnRw} {q : TypeId} {vs : List Value} (h : RowsW w base v rows) (hb : Blk w g q vs) (hq : q ≠ 27) : ¬ (v.ownBlock = some g) := fun e => Kd.R_ne h hb (fun e => hq e.symm) e.symm
theorem rowsW_base {w : World} {base : Nat} {v : Value} {rows : List OwnRw} (h : RowsW w base v rows) (k : Nat) (hk : v.ownBlock = some k) : base ≤ k := by
 obtain ⟨inner, ho⟩ := Kd.R_own h
 exact own_base ho k hk
/-- A call of a closure in a region. -/
theorem goesC_ {P : Program} {ops : Array Oper} {Q : Exit → Act → World → Prop} {oi : Oper} {N : Option Tmp} {a : Act} {w : World} {K : Act → World → Prop} {f : FuncId} {fn : Func} {c : Operand} {as1 : Array Operand} {ts : Array TypeId} {cap : Array Value} (hf : P.funcs[f]? = some fn) (hname : (fn.name == "runtime.NumGoroutine") = false) (hb : fn.body.isSome = true) (args : Array Value)
  (hw : Region.wanted oi (yielded ops a.tmps) = true) (hN : oi.dst = N) (hop : oi.op = .call { callee := .value c, args := as1, argTypes := ts }) (hc : a.eval c = .func (.func f) #[] cap) (hargs : as1.map a.eval = args)
  (h : Calls P f (args ++ cap) w fun e w' => ∃ v, e = .returned v ∧ K (a.put N v) w') : if Region.wanted oi (yielded ops a.tmps) = true then Oper.wp P oi a w K Q else K (a.put N undef) w := by
 refine call_ f (args ++ cap) hw hN ?_ h
 have he := enters_ hf hname hb (args ++ cap) w
 unfold execOp
 simp [hop, resolve, Deferred.ofValue, invoke, hc, hargs, he]
theorem kidAt_ok {nd : ByteArray → Ent → Int → Look} {depth : Int} {path : ByteArray} {prev : Option ByteArray} {x : Ent} {b b2 : Int} {rows : List RowT} (h : kidAt nd depth path prev x b = .ok b2 rows) :
  nameE x.f0 = 0 ∧ b + entS x.f0 ≤ 1048576 ∧ nd (belowP path x.f0 depth) x (b + entS x.f0) = .ok b2 rows := by
 unfold kidAt at h
 split at h
 ·cases h
 ·rename_i h1
  split at h
  ·cases h
  ·split at h
   ·cases h
   ·rename_i h3
    exact ⟨by omega, by omega, h⟩
theorem kids_inv {nd : ByteArray → Ent → Int → Look} {depth : Int} {path : ByteArray} {l : List Ent} {i : Nat} {x : Ent} {b b2 : Int} {rows rs : List RowT} (h : l[i]? = some x)
  (hr : Look.ok b2 rows = (kidsL nd depth path (prevAt l i) (l.drop i) b).pre rs) : ∃ b3 rows3, kidAt nd depth path (prevAt l i) x b = .ok b3 rows3 := by
 cases hk : kidAt nd depth path (prevAt l i) x b with
 | ok b3 rows3 => exact ⟨_, _, rfl⟩
 | bad q c => exact absurd (kids_bad h hr hk) (by simp)
theorem nodeL_ok {f : Nat} {path : ByteArray} {x : Ent} {b b2 : Int} {rows : List RowT} (h : nodeL (f + 1) path x b = .ok b2 rows) :
  b + ownS x.f1 x.f2 x.f3 ≤ 1048576 ∧ Look.ok b2 rows = (kidsL (nodeL f) (32 - (f : Int)) path none x.f4 (b + ownS x.f1 x.f2 x.f3)).pre [(path, x.f1, x.f2, x.f3)] := by
 rw [nodeL] at h
 split at h
 ·cases h
 ·split at h
  ·cases h
  ·exact ⟨by omega, h.symm⟩
/-- What the closure leaves. -/
def ClosPost (rows : List RowT) (base br : Nat) (v0 : Value) (rows0 : List OwnRw) (w : World) (e : Ending) (w' : World) : Prop :=
 e = .returned (.tuple #[]) ∧ ∃ v1, RowsW w' base v1 (rows0 ++ rows.map rowW) ∧ Blk w' br 22 [v1] ∧ Upd (fun k => v0.ownBlock = some k ∨ k = br) w w' ∧ (v1.ownBlock = v0.ownBlock ∨ ∃ b, v1.ownBlock = some b ∧ w.heap.size ≤ b)
abbrev fnCell (br bv : Nat) : Value := .func (.func 35) #[] #[.pointer (some ⟨br, 0, none⟩), .pointer (some ⟨bv, 0, none⟩)]
def ClosSaid (f : Nat) : Prop := ∀ (path : ByteArray) (x : Ent) (A : Option Addr) (c : Nat) (b b2 : Int) (rows : List RowT) (v0 : Value) (rows0 : List OwnRw) (base br bv : Nat) (w0 w : World), nodeL f path x b = .ok b2 rows → Below w0.heap.size w0 w → w0.heap.size ≤ base → base ≤ w.heap.size → w0.heap.size ≤ br → br ≠ bv →
 RowsW w base v0 rows0 → (rows0.length : Int) ≤ b → 0 ≤ b → b ≤ 1048576 → path.size + 256 * f ≤ 16384 → Texts x.f4 → x.f3.size ≤ 140737488351232 → Kd.C k63 w0 A x.f4.length x.f4 → x.f4.length ≤ c →
 Blk w br 22 [v0] → Blk w bv 80 [fnCell br bv] →
 Calls Tryd.prog 35 #[.string path, .agg #[.int .i64 x.f1, .bool x.f2, .string x.f3, .slice A x.f4.length c], .int .i64 (33 - (f : Int)), .pointer (some ⟨br, 0, none⟩), .pointer (some ⟨bv, 0, none⟩)] w (ClosPost rows base br v0 rows0 w)
theorem clos_zero : ClosSaid 0 := fun path x A c b b2 rows v0 rows0 base br bv w0 w h => by cases h
set_option maxHeartbeats 4000000 in
set_option maxRecDepth 100000 in
theorem clos_step (f : Nat) (hf : f < 32) (ih : ClosSaid f) : ClosSaid (f + 1) := by
 intro path x A c b b2 rows v0 rows0 base br bv w0 w hnl hb0 hba hbw hbr hne hR hrl h0 h1 hpl ht h3 hC hc hBR hBV
 obtain ⟨hown, hkid⟩ := nodeL_ok hnl
 have HOWN1 := Aside0.mk (own_pos x.f1 x.f2 x.f3)
 have HOWN := Aside0.mk hown
 have HFAIR : Aside0 (LookFair b (Look.ok b2 rows)) := ⟨by rw [← hnl]; exact nodeL_fair _ _ _ _⟩
 have HR := Aside0.mk hR
 have HW0 := Aside0.mk hb0
 have HC0 := Aside0.mk hC
 have HT := Aside0.mk ht
 unfold ClosSaid at ih
 have IH := Aside0.mk ih
 obtain ⟨d, hdd⟩ : ∃ d : Int, d = 33 - ((f + 1 : Nat) : Int) := ⟨_, rfl⟩
 rw [← hdd]
 rw [show (32 : Int) - (f : Int) = d from by omega] at hkid
 have HD := Aside0.mk hdd
 have HK0 := Aside0.mk hkid
 have HBAS : Aside0 (∀ k, v0.ownBlock = some k → base ≤ k) := ⟨fun k hk => rowsW_base hR k hk⟩
 obtain ⟨A0, c0, hv0⟩ := Kd.R_slice hR
 subst hv0
 have hbrl := hBR.lt
 have hbvl := hBV.lt
 have HBR := Aside0.mk hBR
 have HBV := Aside0.mk hBV
 have r0 := hBR.cell 0 _ rfl
 have rz := hBR.frozen 0
 clear hR hC ht ih hdd hb0 hkid hown hnl hBR hBV
 go_enter Tryd.func35, Tryd.ntmps35
 have HL5 : Aside0 ((rows0.length + 1) * 48 ≤ 140737488355328) := ⟨by omega⟩
 go_wp2_with ((with_reducible refine gate_dst (N := 10) rfl ?_); refine Stand.go ?_)
 obtain ⟨Wa, hWa⟩ : ∃ Wa, Wa = w.alloc (.cells #[.int .i64 x.f1, .bool x.f2, .string x.f3, .slice A x.f4.length c] 32) := ⟨_, rfl⟩
 have HBX : Aside0 (Blk Wa w.heap.size 32 [.int .i64 x.f1, .bool x.f2, .string x.f3, .slice A x.f4.length c]) := ⟨by rw [hWa]; exact Blk.new _ _ _⟩
 have hal : Below w.heap.size w Wa := by rw [hWa]; exact (Below.refl _ _).alloc (Nat.le_refl _) _
 rw [← hWa]
 clear hWa r0 rz
 have HR1 := Aside0.mk (Kd.R_below HR.out hal)
 have HU1 : Aside0 (Upd (fun k => (Value.slice A0 rows0.length c0).ownBlock = some k ∨ k = br) w Wa) := ⟨Upd.of_below hal⟩
 have BR1 := Aside0.mk (HBR.out.below hal)
 have BV1 := Aside0.mk (HBV.out.below hal)
 have HB1 : Aside0 (base ≤ Wa.heap.size) := ⟨Nat.le_trans hbw hal.size⟩
 obtain ⟨bx, hbx⟩ : ∃ q, q = w.heap.size := ⟨_, rfl⟩
 rw [← hbx] at HBX hbrl hbvl ⊢
 have HBXE := Aside0.mk hbx
 clear hbx hal HR HBR HBV
 unfold Stand
 have r0 := BR1.out.cell 0 _ rfl
 have x0 := HBX.out.cell 0 _ rfl
 have x1 := HBX.out.cell 1 _ rfl
 have x2 := HBX.out.cell 2 _ rfl
 go_wp2_with ((with_reducible refine gate_dst (N := 20) rfl ?_); refine Stand.go ?_)
 clear r0 x0 x1 x2
 refine Kd.R_append k27 base rfl (.tmp 10) (.tmp 19) 22 27 (.agg #[.string ⟨#[]⟩, .int .i64 0, .bool false, .string ⟨#[]⟩]) 48 rfl Tryd.underlying22 (by kernel_rfl) rfl (by decide) (by decide) (.slice A0 rows0.length c0) rows0 ⟨path, x.f1, x.f2, x.f3⟩ [.string path, .int .i64 x.f1, .bool x.f2, .string x.f3] (fun _ => True) (fun k => True ∧ some k ≠ (Value.slice A0 rows0.length c0).ownBlock) ?hs ?hx (k27_mkM _ _ _ _) (fun _ h => h) (fun _ _ => trivial) HR1.out (Below.refl _ _) HB1.out HL5.out ?_
 case hs => rfl
 case hx => first | rfl | (go_simp; done) | (simp [Act.eval, World.setCell]; done)
 intro v1 w1 hR2 _ hg2 hat2
 obtain ⟨rows1, hrw⟩ : ∃ q, q = rows0 ++ [(⟨path, x.f1, x.f2, x.f3⟩ : OwnRw)] := ⟨_, rfl⟩
 rw [← hrw] at hR2
 have HRW := Aside0.mk hrw
 have hrl1 : (rows1.length : Int) ≤ b + ownS x.f1 x.f2 x.f3 := by
  have : rows1.length = rows0.length + 1 := by rw [hrw, List.length_append]; rfl
  have := HOWN1.out
  omega
 clear hrw
 obtain ⟨A1, c1, hv1⟩ := Kd.R_slice hR2
 subst hv1
 have HR2 := Aside0.mk hR2
 have BR2 := Aside0.mk (BR1.out.grown hg2 (rowsW_ne HR1.out BR1.out (by decide)))
 have BV2 := Aside0.mk (BV1.out.grown hg2 (rowsW_ne HR1.out BV1.out (by decide)))
 have BX2 := Aside0.mk (HBX.out.grown hg2 (rowsW_ne HR1.out HBX.out (by decide)))
 have HU2 := Aside0.mk (HU1.out.trans (Upd.of_grown (S := fun k => (Value.slice A0 rows0.length c0).ownBlock = some k) hg2 (fun k hk => .inl hk)) (fun _ h => .inl (.inl h)))
 have HAT : Aside0 ((Value.slice A1 rows1.length c1).ownBlock = (Value.slice A0 rows0.length c0).ownBlock ∨ ∃ b, (Value.slice A1 rows1.length c1).ownBlock = some b ∧ w.heap.size ≤ b) := ⟨hat2.imp id (fun h => by obtain ⟨b, h1, h2⟩ := h; exact ⟨b, h1, Nat.le_trans HU1.out.size h2⟩)⟩
 clear hR2 hg2 hat2 HR1 BR1 BV1 HBX HU1 HB1 HL5
 have r0 := BR2.out.cell 0 _ rfl
 have rz := BR2.out.frozen 0
 go_wp2_with ((with_reducible refine gate_dst (N := 21) rfl ?_); refine Stand.go ?_)
 clear r0 rz
 obtain ⟨w2, hw2⟩ : ∃ w2, w2 = w1.setCell ⟨br, 0, none⟩ (.slice A1 rows1.length c1) := ⟨_, rfl⟩
 have hput := store1 BR2.out 0 (.slice A1 rows1.length c1)
 rw [← hw2] at hput
 try rw [← hw2]
 clear hw2
 have HR3 := Aside0.mk (rowsW_upd HR2.out hput.2 (fun q hq => by rw [hq]; exact ⟨_, _, BR2.out, by decide⟩))
 have HU3 := Aside0.mk (HU2.out.trans hput.2 (fun q hq => .inl (.inr hq)))
 have BR3 : Aside0 (Blk w2 br 22 [.slice A1 rows1.length c1]) := ⟨hput.1⟩
 have BV3 := Aside0.mk (BV2.out.upd hput.2 (fun e => hne e.symm))
 have BX3 := Aside0.mk (BX2.out.upd hput.2 (by omega))
 clear hput HR2 HU2 BR2 BV2 BX2
 have hm := Kd.C_max HC0.out
 have hmb : x.f4.length * 1 ≤ 9223372036854775807 := by omega
 have HKS : Aside0 (∃ rs : List RowT, rows1 = rows0 ++ rs.map rowW ∧ Look.ok b2 rows = (kidsL (nodeL f) d path (prevAt x.f4 0) (x.f4.drop 0) (b + ownS x.f1 x.f2 x.f3)).pre rs) := ⟨[(path, x.f1, x.f2, x.f3)], HRW.out, HK0.out⟩
 have x3 := BX3.out.cell 3 _ rfl
 have hoe0 : 0 ≤ b + ownS x.f1 x.f2 x.f3 := by have := HOWN1.out; omega
 have hoe1 := HOWN.out
 generalize b + ownS x.f1 x.f2 x.f3 = bo at *
 clear HOWN1 HOWN HRW HK0
 unfold Stand
 go_wp2_with fail
 clear x3
 go_loopw [24] (fun v24 wr => ∃ (i : Nat) (bi : Int) (Ai : Option Addr) (ci : Nat) (rowsi : List OwnRw), i ≤ x.f4.length ∧ v24 = .int .i64 i ∧ 0 ≤ bi ∧ bi ≤ 1048576 ∧ (rowsi.length : Int) ≤ bi ∧ Aside0 (RowsW wr base (.slice Ai rowsi.length ci) rowsi) ∧ Aside0 (Upd (fun k => (Value.slice A0 rows0.length c0).ownBlock = some k ∨ k = br) w wr) ∧ Aside0 (Blk wr br 22 [.slice Ai rowsi.length ci]) ∧ Aside0 (Blk wr bv 80 [fnCell br bv]) ∧ Aside0 (Blk wr bx 32 [.int .i64 x.f1, .bool x.f2, .string x.f3, .slice A x.f4.length c]) ∧
  Aside0 ((Value.slice Ai rowsi.length ci).ownBlock = (Value.slice A0 rows0.length c0).ownBlock ∨ ∃ b, (Value.slice Ai rowsi.length ci).ownBlock = some b ∧ w.heap.size ≤ b) ∧ Aside0 (∃ rs : List RowT, rowsi = rows0 ++ rs.map rowW ∧ Look.ok b2 rows = (kidsL (nodeL f) d path (prevAt x.f4 i) (x.f4.drop i) bi).pre rs)) (fun v _ => x.f4.length - (intOf v).toNat)
 case atStart => exact ⟨0, bo, A1, c1, rows1, Nat.zero_le _, rfl, hoe0, hoe1, hrl1, HR3, HU3, BR3, BV3, BX3, HAT, HKS⟩
 case round =>
  clear HR3 HU3 BR3 BV3 BX3 HAT HKS hrl1 hoe0 hoe1
  obtain ⟨i, bi, Ai, ci, rowsi, hi, rfl, hb0, hb1, hrl, HRi, HUi, BRi, BVi, BXi, HAT, HK⟩ := hrel
  by_cases hlt : i < x.f4.length
  ·have HBi : Aside0 (Below w0.heap.size w0 wr) := ⟨HW0.out.trans (HUi.out.below (fun k hk => by
    rcases hk with hk | hk
    ·have := HBAS.out k hk; omega
    ·omega) HW0.out.size)⟩
   obtain ⟨ad, A4, c4, hA, e0, e1, e2, e3, e4, hl4, hC4⟩ := at_T63 HC0.out (i : Int) (by omega) (by omega)
   subst hA
   simp only [Int.toNat_natCast] at e0 e1 e2 e3 e4
   have HAI : Aside0 (x.f4[i]? = some (rd_T63 x.f4 (i : Int))) := ⟨by simp [rd_T63, hlt]⟩
   replace e0 := (HBi.out.cell (World.block_lt_of_cell? _ _ e0)).trans e0
   replace e1 := (HBi.out.cell (World.block_lt_of_cell? _ _ e1)).trans e1
   replace e2 := (HBi.out.cell (World.block_lt_of_cell? _ _ e2)).trans e2
   replace e3 := (HBi.out.cell (World.block_lt_of_cell? _ _ e3)).trans e3
   replace e4 := (HBi.out.cell (World.block_lt_of_cell? _ _ e4)).trans e4
   have HC4 := Aside0.mk hC4
   generalize rd_T63 x.f4 (i : Int) = y at *
   clear hC4
   have hi0 : (0 : Int) ≤ (i : Int) := by omega
   have hi1 : (i : Int) < (x.f4.length : Int) := by omega
   have HTY := Aside0.mk (HT.out.at HAI.out)
   have hy0 := HTY.out.1
   have HKI : Aside0 (∃ b3 rows3, kidAt (nodeL f) d path (prevAt x.f4 i) y bi = .ok b3 rows3) := ⟨by
    obtain ⟨rs, _, hr⟩ := HK.out
    exact kids_inv HAI.out hr⟩
   obtain ⟨b3, rows3, hk3⟩ := HKI.out
   have HK3 := Aside0.mk hk3
   obtain ⟨hne1, hbe, hnd⟩ := kidAt_ok hk3
   have HNE := Aside0.mk hne1
   have HND := Aside0.mk hnd
   clear hk3 HKI hne1 hnd
   obtain ⟨q, hq0⟩ : ∃ q, q = belowP path y.f0 d := ⟨_, rfl⟩
   have HBP : Aside0 (tree_below.f path y.f0 d = some q) := ⟨by rw [hq0]; exact below_P path y.f0 d (by omega)⟩
   have HQ := Aside0.mk hq0
   rw [← hq0] at HND
   clear hq0
   go_wp2_with fail
   obtain ⟨Wy, hWy⟩ : ∃ Wy, Wy = wr.alloc (.cells #[.string y.f0, .int .i64 y.f1, .bool y.f2, .string y.f3, .slice A4 y.f4.length c4] 63) := ⟨_, rfl⟩
   have hal : Below wr.heap.size wr Wy := by rw [hWy]; exact (Below.refl _ _).alloc (Nat.le_refl _) _
   have BYy : Aside0 (Blk Wy wr.heap.size 63 [.string y.f0, .int .i64 y.f1, .bool y.f2, .string y.f3, .slice A4 y.f4.length c4]) := ⟨by rw [hWy]; exact Blk.new _ _ _⟩
   have HRy := Aside0.mk (Kd.R_below HRi.out hal)
   have HUy := Aside0.mk (HUi.out.step hal)
   have BRy := Aside0.mk (BRi.out.below hal)
   have BVy := Aside0.mk (BVi.out.below hal)
   have BXy := Aside0.mk (BXi.out.below hal)
   have hbr2 : br < wr.heap.size := BRi.out.lt
   rw [← hWy]
   clear hWy hal e0 e1 e2 e3 e4 HRi HUi BRi BVi BXi HBi
   obtain ⟨bY, hbY⟩ : ∃ b, b = wr.heap.size := ⟨_, rfl⟩
   rw [← hbY] at BYy hbr2 ⊢
   clear hbY
   have hd1 : 1 ≤ d := by have := HD.out; omega
   have hd2 : d ≤ 32 := by have := HD.out; omega
   refine start_ (n := 11) (S := fun w' => w'.cell? ⟨bv, 0, none⟩ = some (fnCell br bv) ∧ w'.cell? ⟨bY, 0, none⟩ = some (.string y.f0) ∧ w'.cell? ⟨bY, 1, none⟩ = some (.int .i64 y.f1) ∧ w'.cell? ⟨bY, 2, none⟩ = some (.bool y.f2) ∧ w'.cell? ⟨bY, 3, none⟩ = some (.string y.f3) ∧ w'.cell? ⟨bY, 4, none⟩ = some (.slice A4 y.f4.length c4)) (ds := []) #[false, false, false, false, false, false, false, false, false, false, false] (by kernel_rfl) rfl rfl (⟨BVy.out.cell 0 _ rfl, BYy.out.cell 0 _ rfl, BYy.out.cell 1 _ rfl, BYy.out.cell 2 _ rfl, BYy.out.cell 3 _ rfl, BYy.out.cell 4 _ rfl⟩) (fun hHeld => ?_)
   have hdr : Below Wy.heap.size Wy Wy.drew := below_drew (Below.refl _ _)
   generalize Wy.drew = Wz at *
   refine take_ (i := 0) (N := some 28) (v := ?_) (a' := ?_) #[true, false, false, false, false, false, false, false, false, false, false] rfl rfl (by kernel_rfl) (fun _ _ _ h => h) (Or.inl ⟨by rfl, ?_⟩) hHeld ?_ ?_
   rotate_left
   ·rintro w' ⟨s0, s1, s2, s3, s4, s5⟩
    go_simp
    with_reducible rfl
   rotate_left
   ·simp only [Act.put, List.setIfInBounds_toArray, List.set_cons_zero, List.set_cons_succ, i64_w, i32_w]
    rfl
   refine pure_ (i := 1) (N := some 29) (v := ?_) (a' := ?_) #[true, true, false, false, false, false, false, false, false, false, false] rfl rfl (by kernel_rfl) (fun _ _ _ h => h) (Or.inl ⟨by rfl, ?_⟩) ?_ ?_
   rotate_left
   ·intro w'
    go_simp
    with_reducible rfl
   rotate_left
   ·simp only [Act.put, List.setIfInBounds_toArray, List.set_cons_zero, List.set_cons_succ, i64_w, i32_w]
    rfl
   refine pure_ (i := 2) (N := some 30) (v := ?_) (a' := ?_) #[true, true, true, false, false, false, false, false, false, false, false] rfl rfl (by kernel_rfl) (fun _ _ _ h => h) (Or.inl ⟨by rfl, ?_⟩) ?_ ?_
   rotate_left
   ·intro w'
    go_simp
    with_reducible rfl
   rotate_left
   ·simp only [Act.put, List.setIfInBounds_toArray, List.set_cons_zero, List.set_cons_succ, i64_w, i32_w]
    rfl
   refine take_ (i := 3) (N := some 31) (v := ?_) (a' := ?_) #[true, true, true, true, false, false, false, false, false, false, false] rfl rfl (by kernel_rfl) (fun _ _ _ h => h) (Or.inl ⟨by rfl, ?_⟩) hHeld ?_ ?_
   rotate_left
   ·rintro w' ⟨s0, s1, s2, s3, s4, s5⟩
    go_simp
    with_reducible rfl
   rotate_left
   ·simp only [Act.put, List.setIfInBounds_toArray, List.set_cons_zero, List.set_cons_succ, i64_w, i32_w]
    rfl
   refine pure_ (i := 4) (N := some 32) (v := ?_) (a' := ?_) #[true, true, true, true, true, false, false, false, false, false, false] rfl rfl (by kernel_rfl) (fun _ _ _ h => h) (Or.inl ⟨by rfl, ?_⟩) ?_ ?_
   rotate_left
   ·intro w'
    go_simp
    with_reducible rfl
   rotate_left
   ·simp only [Act.put, List.setIfInBounds_toArray, List.set_cons_zero, List.set_cons_succ, i64_w, i32_w]
    rfl
   refine pure_ (i := 6) (N := some 34) (v := ?_) (a' := ?_) #[true, true, true, true, true, false, true, false, false, false, false] rfl rfl (by kernel_rfl) (fun _ _ _ h => h) (Or.inl ⟨by rfl, ?_⟩) ?_ ?_
   rotate_left
   ·intro w'
    go_simp
    with_reducible rfl
   rotate_left
   ·simp only [Act.put, List.setIfInBounds_toArray, List.set_cons_zero, List.set_cons_succ, i64_w, i32_w]
    rfl
   refine take_ (i := 7) (N := some 35) (v := ?_) (a' := ?_) #[true, true, true, true, true, false, true, true, false, false, false] rfl rfl (by kernel_rfl) (fun _ _ _ h => h) (Or.inl ⟨by rfl, ?_⟩) hHeld ?_ ?_
   rotate_left
   ·rintro w' ⟨s0, s1, s2, s3, s4, s5⟩
    go_simp
    with_reducible rfl
   rotate_left
   ·simp only [Act.put, List.setIfInBounds_toArray, List.set_cons_zero, List.set_cons_succ, i64_w, i32_w]
    rfl
   refine pure_ (i := 8) (N := some 36) (v := ?_) (a' := ?_) #[true, true, true, true, true, false, true, true, true, false, false] rfl rfl (by kernel_rfl) (fun _ _ _ h => h) (Or.inl ⟨by rfl, ?_⟩) ?_ ?_
   rotate_left
   ·intro w'
    go_simp
    with_reducible rfl
   rotate_left
   ·simp only [Act.put, List.setIfInBounds_toArray, List.set_cons_zero, List.set_cons_succ, i64_w, i32_w]
    rfl
   refine pure_ (i := 9) (N := some 37) (v := ?_) (a' := ?_) #[true, true, true, true, true, false, true, true, true, true, false] rfl rfl (by kernel_rfl) (fun _ _ _ h => h) (Or.inl ⟨by rfl, ?_⟩) ?_ ?_
   rotate_left
   ·intro w'
    go_simp
    with_reducible rfl
   rotate_left
   ·simp only [Act.put, List.setIfInBounds_toArray, List.set_cons_zero, List.set_cons_succ, i64_w, i32_w]
    rfl
   refine one_ (i := 5) (N := some 33) #[true, true, true, true, true, true, true, true, true, true, false] rfl rfl (by kernel_rfl) (by decide) (fun K hK => ?_)
   refine goes_ Tryd.func36 (by kernel_rfl) rfl #[.string path, .string y.f0, .int .i64 d] (by rfl) rfl rfl (by (try simp only [List.map_toArray, List.map_cons, List.map_nil]); first | done | rfl) ?_
   refine (tree_below.calls path y.f0 d q Wz HBP.out).mono ?_
   rintro o W5 ⟨rfl, hd5⟩
   have hb5 : Below Wy.heap.size Wy W5 := below_step hdr hd5.below
   have HR5 := Aside0.mk (Kd.R_below HRy.out hb5)
   have HU5 := Aside0.mk (HUy.out.step hb5)
   have BR5 := Aside0.mk (BRy.out.below hb5)
   have BV5 := Aside0.mk (BVy.out.below hb5)
   have BX5 := Aside0.mk (BXy.out.below hb5)
   have BY5 := Aside0.mk (BYy.out.below hb5)
   refine ⟨_, rfl, ?_⟩
   refine hK.out _ _ ⟨BV5.out.cell 0 _ rfl, BY5.out.cell 0 _ rfl, BY5.out.cell 1 _ rfl, BY5.out.cell 2 _ rfl, BY5.out.cell 3 _ rfl, BY5.out.cell 4 _ rfl⟩ (fun hHeld => ?_)
   clear hK K hd5 hb5 hdr HRy HUy BRy BVy BXy BYy
   refine norm_ (a' := ?_) ?_ ?_
   rotate_left
   ·show Act.put _ (some 33) _ = _
    simp only [Act.put, List.setIfInBounds_toArray, List.set_cons_zero, List.set_cons_succ]
    rfl
   rw [show wrap64 (d + 1) = 33 - (f : Int) from by have := HD.out; rw [show d + 1 = 33 - (f : Int) from by omega]; exact (i64_w _).symm.trans (IntWalk.i64_in _ (by omega))]
   refine one_ (i := 10) (N := some 38) #[true, true, true, true, true, true, true, true, true, true, true] rfl rfl (by kernel_rfl) (by decide) (fun K hK => ?_)
   refine goesC_ Tryd.func35 (by kernel_rfl) rfl #[.string q, .agg #[.int .i64 y.f1, .bool y.f2, .string y.f3, .slice A4 y.f4.length c4], .int .i64 (33 - (f : Int))] (by rfl) rfl rfl (by rfl) (by (try simp only [List.map_toArray, List.map_cons, List.map_nil]); first | done | rfl) ?_
   have HQS : Aside0 (q.size + 256 * f ≤ 16384) := ⟨by have := belowP_size (path := path) (kid := y.f0) d HNE.out; rw [← HQ.out] at this; omega⟩
   have her := entS_range y.f0
   have HB5 : Aside0 (Below w0.heap.size w0 W5) := ⟨HW0.out.trans (HU5.out.below (fun k hk => by
    rcases hk with hk | hk
    ·have := HBAS.out k hk; omega
    ·omega) HW0.out.size)⟩
   have hfair := nodeL_fair f q y (bi + entS y.f0)
   rw [HND.out] at hfair
   obtain ⟨hf1, hf2⟩ := hfair
   have hf3 := hf2 (by omega)
   refine (IH.out q y A4 c4 (bi + entS y.f0) b3 rows3 (.slice Ai rowsi.length ci) rowsi base br bv w0 W5 HND.out HB5.out hba (by have := HU5.out.size; omega) hbr hne HR5.out (by omega) (by omega) (by omega) HQS.out HTY.out.2.2 HTY.out.2.1 HC4.out hl4 BR5.out BV5.out).mono ?_
   rintro o W6 ⟨rfl, v6, hR6, hBR6, hU6, hat6⟩
   obtain ⟨rowsn, hrn⟩ : ∃ q, q = rowsi ++ rows3.map rowW := ⟨_, rfl⟩
   rw [← hrn] at hR6
   obtain ⟨A6, c6, hv6⟩ := Kd.R_slice hR6
   subst hv6
   have HR6 := Aside0.mk hR6
   have BR6 := Aside0.mk hBR6
   have ny : ¬ ((Value.slice Ai rowsi.length ci).ownBlock = some bY ∨ bY = br) := fun h => h.elim (rowsW_ne HR5.out BY5.out (by decide)) (fun h => by omega)
   have nv : ¬ ((Value.slice Ai rowsi.length ci).ownBlock = some bv ∨ bv = br) := fun h => h.elim (rowsW_ne HR5.out BV5.out (by decide)) (fun h => hne h.symm)
   have nx : ¬ ((Value.slice Ai rowsi.length ci).ownBlock = some bx ∨ bx = br) := fun h => h.elim (rowsW_ne HR5.out BX5.out (by decide)) (fun h => by omega)
   have BY6 := Aside0.mk (BY5.out.upd hU6 ny)
   have BV6 := Aside0.mk (BV5.out.upd hU6 nv)
   have BX6 := Aside0.mk (BX5.out.upd hU6 nx)
   have HU6 : Aside0 (Upd (fun k => (Value.slice A0 rows0.length c0).ownBlock = some k ∨ k = br) w W6) := ⟨HU5.out.trans hU6 (fun k hk => by
    rcases hk with hk | hk
    ·rcases HAT.out with h | ⟨b, h, hb⟩
     ·exact .inl (.inl (h.symm.trans hk))
     ·rw [h] at hk
      injection hk with hk
      exact .inr (hk ▸ hb)
    ·exact .inl (.inr hk))⟩
   have HAT6 : Aside0 ((Value.slice A6 rowsn.length c6).ownBlock = (Value.slice A0 rows0.length c0).ownBlock ∨ ∃ b, (Value.slice A6 rowsn.length c6).ownBlock = some b ∧ w.heap.size ≤ b) := ⟨by
    rcases hat6 with h | ⟨b, h, hb⟩
    ·rw [h]; exact HAT.out
    ·exact .inr ⟨b, h, Nat.le_trans HU5.out.size hb⟩⟩
   have HKN : Aside0 (∃ rs : List RowT, rowsn = rows0 ++ rs.map rowW ∧ Look.ok b2 rows = (kidsL (nodeL f) d path (prevAt x.f4 (i + 1)) (x.f4.drop (i + 1)) b3).pre rs) := ⟨by
    obtain ⟨rs, h1, h2⟩ := HK.out
    refine ⟨rs ++ rows3, ?_, kids_ok HAI.out h2 HK3.out⟩
    rw [hrn, h1, List.map_append, List.append_assoc]⟩
   have hrl2 : (rowsn.length : Int) ≤ b3 := by
    rw [hrn, List.length_append, List.length_map]
    omega
   have hb30 : 0 ≤ b3 := by omega
   refine ⟨_, rfl, ?_⟩
   refine hK.out _ _ ⟨BV6.out.cell 0 _ rfl, BY6.out.cell 0 _ rfl, BY6.out.cell 1 _ rfl, BY6.out.cell 2 _ rfl, BY6.out.cell 3 _ rfl, BY6.out.cell 4 _ rfl⟩ (fun hHeld => ?_)
   clear hK K hHeld hR6 hBR6 hU6 hat6 HR5 HU5 BR5 BV5 BX5 BY5 HAT HK HK3 hf1 hf2 her ny nv nx hrn HND HNE HBP HB5 BY6
   refine norm_ (a' := ?_) ?_ ?_
   rotate_left
   ·show Act.put _ (some 38) _ = _
    simp only [Act.put, List.setIfInBounds_toArray, List.set_cons_zero, List.set_cons_succ]
    rfl
   refine done_ (by kernel_rfl) ?_
   go_wp2_with fail
   go_roundw
   case rel => exact ⟨i + 1, b3, A6, c6, rowsn, by omega, by go_num, hb30, hf3, hrl2, HR6, HU6, BR6, BV6, BX6, HAT6, HKN⟩
   case measure => simp [intOf]; omega
  ·obtain rfl : i = x.f4.length := by omega
   have HK2 : Aside0 (rowsi = rows0 ++ rows.map rowW) := ⟨by
    obtain ⟨rs, h1, h2⟩ := HK.out
    rw [List.drop_length] at h2
    simp [kidsL, Look.pre] at h2
    rw [h1, h2.2]⟩
   clear HK
   go_wp2_with fail
   go_end0
   have hr := HRi.out
   refine ⟨rfl, _, ?_, BRi.out, HUi.out, HAT.out⟩
   rw [← HK2.out]
   exact hr
theorem clos_all : ∀ f, f ≤ 32 → ClosSaid f
 | 0, _ => clos_zero
 | f + 1, h => clos_step f (by omega) (clos_all f (by omega))
/-- What Walk says. -/
def RowsPost (s : Look) (w : World) (o : Ending) (w' : World) : Prop := ∃ v, o = .returned (.tuple #[v, .int .i64 (lookCode s)]) ∧ RowsW w' w.heap.size v ((lookRows s).map rowW) ∧ Below w.heap.size w w'
set_option maxHeartbeats 4000000 in
set_option maxRecDepth 100000 in
theorem rows_calls (k : Int) (e : Bool) (t : ByteArray) (A : Option Addr) (c : Nat) (l : List Ent) (w : World) (hC : Kd.C k63 w A l.length l) (hc : l.length ≤ c) (ht : Texts l) (h3 : t.size ≤ 140737488351232) :
  Calls Tryd.prog 15 #[.agg #[.int .i64 k, .bool e, .string t, .slice A l.length c]] w (RowsPost (lookL k e t l) w) := by
 have HCH := Aside0.mk (fun W hC => check_calls k e t A c l W hC hc ht h3)
 have HCL := Aside0.mk (fun (b2 : Int) (rows : List RowT) (base br bv : Nat) (w' : World) h hb hba hbb hbr hne hBR hBV => clos_all 32 (Nat.le_refl _) ⟨#[]⟩ ⟨⟨#[]⟩, k, e, t, l⟩ A c magS b2 rows (.slice none 0 0) [] base br bv w w' h hb hba hbb hbr hne (Kd.R_nil _ _ _ _ _) (by rw [magS_eq]; decide) (by rw [magS_eq]; decide) (by rw [magS_eq]; decide) (by decide) ht h3 hC hc hBR hBV)
 have HC := Aside0.mk hC
 have hsf : ∀ (a : Addr) (fn : Fn) (cap : Array Value) (w : World), (store a (.func fn #[] cap)).run Tryd.prog w = stored Tryd.prog w a (.func fn #[] cap) .plain := fun a fn cap w => run_store _ w a _ .plain rfl
 have hmf : ∀ (fn : Fn) (first cap : Array Value) (w : World), (Instr.makeFunc fn first cap).run Tryd.prog w = .ok (.func fn first cap) w := fun _ _ _ _ => rfl
 have HFAIR : Aside0 (LookFair magS (lookL k e t l)) := ⟨nodeL_fair _ _ _ _⟩
 obtain ⟨s, hs⟩ : ∃ s, s = lookL k e t l := ⟨_, rfl⟩
 have HS : Aside0 (s = nodeL 32 ⟨#[]⟩ ⟨⟨#[]⟩, k, e, t, l⟩ magS) := ⟨hs⟩
 rw [← hs] at HCH HFAIR ⊢
 clear hs hC ht h3
 go_enter Tryd.func15, Tryd.ntmps15
 go_wp2_with fail
 obtain ⟨Wa, hWa⟩ : ∃ Wa, Wa = w.alloc (.cells #[.int .i64 k, .bool e, .string t, .slice A l.length c] 32) := ⟨_, rfl⟩
 have HBX : Aside0 (Blk Wa w.heap.size 32 [.int .i64 k, .bool e, .string t, .slice A l.length c]) := ⟨by rw [hWa]; exact Blk.new _ _ _⟩
 have hal : Below w.heap.size w Wa := by rw [hWa]; exact (Below.refl _ _).alloc (Nat.le_refl _) _
 rw [← hWa]
 clear hWa
 (with_reducible refine (HCH.out Wa (Kd.C_below HC.out hal)).mono ?_)
 rintro o W1 ⟨rfl, hb1⟩
 have hL1 : Below w.heap.size w W1 := below_step hal hb1.out
 have BX1 := Aside0.mk (HBX.out.below hb1.out)
 have HL1 := Aside0.mk hL1
 have hsz : w.heap.size ≤ W1.heap.size := hL1.size
 have hxs : w.heap.size < W1.heap.size := BX1.out.lt
 obtain ⟨bx, hbx⟩ : ∃ q, q = w.heap.size := ⟨_, rfl⟩
 rw [← hbx] at BX1 hxs ⊢
 have HBQ := Aside0.mk hbx
 clear hbx hal hb1 hL1 HBX HCH HC
 cases s with
 | bad q c2 =>
  have hcn : (c2 != 0) = true := bne_iff_ne.2 HFAIR.out
  simp only [lookPath, lookCode]
  go_wp2
  go_ret2
  exact ⟨_, rfl, Kd.R_nil _ _ _ _ _, HL1.out⟩
 | ok b2 rows =>
  simp only [lookPath, lookCode]
  go_wp2_with ((with_reducible refine gate_dst (N := 16) rfl ?_); refine Stand.go ?_)
  obtain ⟨Wb, hWb⟩ : ∃ Wb, Wb = W1.alloc (.cells #[.slice none 0 0] 22) := ⟨_, rfl⟩
  have HBR : Aside0 (Blk Wb W1.heap.size 22 [.slice none 0 0]) := ⟨by rw [hWb]; exact Blk.new _ _ _⟩
  have halb : Below W1.heap.size W1 Wb := by rw [hWb]; exact (Below.refl _ _).alloc (Nat.le_refl _) _
  have zb : Wb.heap.size = W1.heap.size + 1 := by rw [hWb]; simp
  rw [← hWb]
  try rw [← zb]
  clear hWb
  obtain ⟨Wc, hWc⟩ : ∃ Wc, Wc = Wb.alloc (.cells #[.nilFunc] 80) := ⟨_, rfl⟩
  have BV2 : Aside0 (Blk Wc Wb.heap.size 80 [.nilFunc]) := ⟨by rw [hWc]; exact Blk.new _ _ _⟩
  have halc : Below Wb.heap.size Wb Wc := by rw [hWc]; exact (Below.refl _ _).alloc (Nat.le_refl _) _
  rw [← hWc]
  clear hWc
  have HL2 := Aside0.mk (below_step HL1.out (below_step halb halc))
  have BX2 := Aside0.mk ((BX1.out.below halb).below halc)
  have BR2 := Aside0.mk (HBR.out.below halc)
  obtain ⟨br, hbr⟩ : ∃ q, q = W1.heap.size := ⟨_, rfl⟩
  obtain ⟨bv, hbv⟩ : ∃ q, q = Wb.heap.size := ⟨_, rfl⟩
  have hne : br ≠ bv := by omega
  have hbrw : w.heap.size ≤ br := by omega
  have hxr : bx < br := by omega
  rw [← hbr, ← hbv]
  rw [← hbr] at BR2
  rw [← hbv] at BV2
  have HZ : Aside0 (w.heap.size ≤ Wc.heap.size) := ⟨HL2.out.size⟩
  have hxv : bx ≠ bv := by omega
  have hwv : w.heap.size ≤ bv := by omega
  clear hbr hbv zb halb halc HBR HL1 BX1 hxs hsz
  unfold Stand
  have v0 := BV2.out.cell 0 _ rfl
  have vz := BV2.out.frozen 0
  go_wp2_with ((with_reducible refine gate_dst (N := 17) rfl ?_); refine Stand.go ?_)
  clear v0 vz
  obtain ⟨Wd, hWd⟩ : ∃ q, q = Wc.setCell ⟨bv, 0, none⟩ (fnCell br bv) := ⟨_, rfl⟩
  have hput := store1 BV2.out 0 (fnCell br bv)
  rw [← hWd] at hput
  try rw [← hWd]
  clear hWd
  have BV3 : Aside0 (Blk Wd bv 80 [fnCell br bv]) := ⟨hput.1⟩
  have BR3 := Aside0.mk (BR2.out.upd hput.2 hne)
  have BX3 := Aside0.mk (BX2.out.upd hput.2 hxv)
  have HL3 := Aside0.mk (HL2.out.trans (hput.2.below (fun q hq => by rw [hq]; exact hwv) HL2.out.size))
  clear hput BV2 BR2 BX2 HL2
  unfold Stand
  have v0 := BV3.out.cell 0 _ rfl
  have x0 := BX3.out.cell 0 _ rfl
  have x1 := BX3.out.cell 1 _ rfl
  have x2 := BX3.out.cell 2 _ rfl
  have x3 := BX3.out.cell 3 _ rfl
  go_wp2_with fail
  clear v0 x0 x1 x2 x3
  have hcl := HCL.out b2 rows w.heap.size br bv Wd HS.out.symm HL3.out (Nat.le_refl _) HL3.out.size hbrw hne BR3.out BV3.out
  rw [show (33 : Int) - ((32 : Nat) : Int) = 1 from rfl] at hcl
  (with_reducible refine hcl.mono ?_)
  rintro o W4 ⟨rfl, v4, hR4, hBR4, hU4, hat4⟩
  obtain ⟨rl, hrl⟩ : ∃ q, q = rows.map rowW := ⟨_, rfl⟩
  have hRq : RowsW W4 w.heap.size v4 rl := by rw [hrl]; exact hR4
  have HRL : Aside0 ((lookRows (Look.ok b2 rows)).map rowW = rl) := ⟨hrl.symm⟩
  have HR4 := Aside0.mk hRq
  have BR4 := Aside0.mk hBR4
  have HL4 := Aside0.mk (HL3.out.trans (hU4.below (fun k hk => by
   rcases hk with hk | hk
   ·cases hk
   ·rw [hk]; exact hbrw) HL3.out.size))
  obtain ⟨A4, c4, hv4⟩ := Kd.R_slice hRq
  subst hv4
  clear hcl hrl hR4 hRq hBR4 hU4 hat4
  have r0 := BR4.out.cell 0 _ rfl
  go_wp2
  go_ret2
  refine ⟨.slice A4 rl.length c4, rfl, ?_, HL4.out⟩
  rw [HRL.out]
  exact HR4.out
end Go.Proofs.YtnemeeidomceiaaDoor
end
section
namespace Go.Proofs.YtnemeeidomceiaaDoor
open Go.RowKit Go.Proofs.YtnemeeidomceiaaDoorW.PrintWords Go.Proofs.YtnemeeidomceiaaDoorW.PrintLast Go.Proofs.YtnemeeidomceiaaDoorW.PrintMore
set_option linter.unusedVariables false
/-- Own: are a node's own fields well, and how many bytes. -/
def depotref06_Own.f (k : Int) (e : Bool) (t : ByteArray) (l : List S63) : Option (Int × Int) := if t.size ≤ 4611686018427387904 then some (fieldsE k e t l, if fieldsE k e t l = 0 then ownS k e t else 0) else none
theorem depotref06_Own.calls (a0_0 : Int) (a0_1 : Bool) (a0_2 : ByteArray) (A0_3 : Option Addr) (c0_3 : Nat) (l0_3 : List S63) (r1 : Int) (r2 : Int) (w : World) (hr0_3 : Kd.C k63 w A0_3 l0_3.length l0_3) (hc0_3 : l0_3.length ≤ c0_3) (h : depotref06_Own.f a0_0 a0_1 a0_2 l0_3 = some (r1, r2)) :
  Calls Tryd.prog 32 #[.agg #[.int .i64 a0_0, .bool a0_1, .string a0_2, .slice A0_3 l0_3.length c0_3]] w fun e w' => e = .returned (.tuple #[.int .i64 r1, .int .i64 r2]) ∧ Below w.heap.size w w' := by
 unfold depotref06_Own.f at h
 by_cases hh : a0_2.size ≤ 4611686018427387904
 ·rw [if_pos hh] at h
  have h2 := own_E a0_0 a0_1 a0_2 l0_3 hh (a0_2.size + 61) (by omega)
  exact PTreeChecks.depotref06_Own.calls (a0_2.size + 61) a0_0 a0_1 a0_2 A0_3 c0_3 l0_3 r1 r2 w hr0_3 hc0_3 (h2.trans h)
 ·rw [if_neg hh] at h; cases h
def tree_Target.f (a0 : ByteArray) : Option Int := some (targetE a0)
theorem tree_Target.calls (a0 : ByteArray) (r : Int) (w : World) (h : tree_Target.f a0 = some r) :
  Calls Tryd.prog 80 #[.string a0] w fun e w' => e = .returned (.int .i64 r) ∧ Below w.heap.size w w' :=
 (PTreeChecks.tree_Target.calls a0 r w ((target_E a0).trans h)).mono fun _ _ h => ⟨h.1, h.2.below⟩
abbrev depotlaw06_leaf.f := @PTreeChecks.depotlaw06_leaf.f
/-- A tree whose texts a memory holds. -/
def Held (t : ByteArray) (l : List Ent) : Prop := Texts l ∧ t.size ≤ 140737488351232
open Classical in
noncomputable def tree_Check.f (k : Int) (e : Bool) (t : ByteArray) (l : List Ent) : Option (ByteArray × Int) := if Held t l then some (lookPath (lookL k e t l), lookCode (lookL k e t l)) else none
open Classical in
noncomputable def tree_Size.f (k : Int) (e : Bool) (t : ByteArray) (l : List Ent) : Option (Int × Int) := if Held t l then some (lookSize (lookL k e t l), lookCode (lookL k e t l)) else none
open Classical in
noncomputable def tree_Walk.f (k : Int) (e : Bool) (t : ByteArray) (l : List Ent) : Option (List OwnRw × Int) := if Held t l then some ((lookRows (lookL k e t l)).map rowW, lookCode (lookL k e t l)) else none
open Classical in
noncomputable def depotref06_Look.f (k : Int) (e : Bool) (t : ByteArray) (l : List Ent) : Option (List RefRow × Int × Int × ByteArray) := if Held t l then some ((lookRows (lookL k e t l)).map rowR, lookSize (lookL k e t l), lookCode (lookL k e t l), lookPath (lookL k e t l)) else none
theorem tree_Check.calls (a0_0 : Int) (a0_1 : Bool) (a0_2 : ByteArray) (A0_3 : Option Addr) (c0_3 : Nat) (l0_3 : List Ent) (r1 : ByteArray) (r2 : Int) (w : World) (hr0_3 : Kd.C k63 w A0_3 l0_3.length l0_3) (hc0_3 : l0_3.length ≤ c0_3) (h : tree_Check.f a0_0 a0_1 a0_2 l0_3 = some (r1, r2)) :
  Calls Tryd.prog 14 #[.agg #[.int .i64 a0_0, .bool a0_1, .string a0_2, .slice A0_3 l0_3.length c0_3]] w fun e w' => e = .returned (.tuple #[.string r1, .int .i64 r2]) ∧ Below w.heap.size w w' := by
 unfold tree_Check.f at h
 by_cases hh : Held a0_2 l0_3
 ·rw [if_pos hh] at h
  simp only [Option.some.injEq, Prod.mk.injEq] at h
  obtain ⟨rfl, rfl⟩ := h
  exact (check_calls a0_0 a0_1 a0_2 A0_3 c0_3 l0_3 w hr0_3 hc0_3 hh.1 hh.2).mono fun _ _ h => ⟨h.1, h.2.out⟩
 ·rw [if_neg hh] at h; cases h
theorem tree_Size.calls (a0_0 : Int) (a0_1 : Bool) (a0_2 : ByteArray) (A0_3 : Option Addr) (c0_3 : Nat) (l0_3 : List Ent) (r1 : Int) (r2 : Int) (w : World) (hr0_3 : Kd.C k63 w A0_3 l0_3.length l0_3) (hc0_3 : l0_3.length ≤ c0_3) (h : tree_Size.f a0_0 a0_1 a0_2 l0_3 = some (r1, r2)) :
  Calls Tryd.prog 27 #[.agg #[.int .i64 a0_0, .bool a0_1, .string a0_2, .slice A0_3 l0_3.length c0_3]] w fun e w' => e = .returned (.tuple #[.int .i64 r1, .int .i64 r2]) ∧ Below w.heap.size w w' := by
 unfold tree_Size.f at h
 by_cases hh : Held a0_2 l0_3
 ·rw [if_pos hh] at h
  simp only [Option.some.injEq, Prod.mk.injEq] at h
  obtain ⟨rfl, rfl⟩ := h
  exact (size_calls a0_0 a0_1 a0_2 A0_3 c0_3 l0_3 w hr0_3 hc0_3 hh.1 hh.2).mono fun _ _ h => ⟨h.1, h.2.out⟩
 ·rw [if_neg hh] at h; cases h
theorem tree_Walk.calls (a0_0 : Int) (a0_1 : Bool) (a0_2 : ByteArray) (A0_3 : Option Addr) (c0_3 : Nat) (l0_3 : List Ent) (r1 : List OwnRw) (r2 : Int) (w : World) (hr0_3 : Kd.C k63 w A0_3 l0_3.length l0_3) (hc0_3 : l0_3.length ≤ c0_3) (h : tree_Walk.f a0_0 a0_1 a0_2 l0_3 = some (r1, r2)) :
  Calls Tryd.prog 15 #[.agg #[.int .i64 a0_0, .bool a0_1, .string a0_2, .slice A0_3 l0_3.length c0_3]] w fun e w' => ∃ v0_ : Value, e = .returned (.tuple #[v0_, .int .i64 r2]) ∧ Kd.R k27 27 w' w.heap.size (fun _ => True) v0_ r1 ∧ Below w.heap.size w w' := by
 unfold tree_Walk.f at h
 by_cases hh : Held a0_2 l0_3
 ·rw [if_pos hh] at h
  simp only [Option.some.injEq, Prod.mk.injEq] at h
  obtain ⟨rfl, rfl⟩ := h
  exact rows_calls a0_0 a0_1 a0_2 A0_3 c0_3 l0_3 w hr0_3 hc0_3 hh.1 hh.2
 ·rw [if_neg hh] at h; cases h
theorem depotref06_Look.calls (a0_0 : Int) (a0_1 : Bool) (a0_2 : ByteArray) (A0_3 : Option Addr) (c0_3 : Nat) (l0_3 : List Ent) (r1 : List RefRow) (r2 : Int) (r3 : Int) (r4 : ByteArray) (w : World) (hr0_3 : Kd.C k63 w A0_3 l0_3.length l0_3) (hc0_3 : l0_3.length ≤ c0_3) (h : depotref06_Look.f a0_0 a0_1 a0_2 l0_3 = some (r1, r2, r3, r4)) :
  Calls Tryd.prog 39 #[.agg #[.int .i64 a0_0, .bool a0_1, .string a0_2, .slice A0_3 l0_3.length c0_3]] w fun e w' => ∃ v0_ : Value, e = .returned (.agg #[v0_, .int .i64 r2, .int .i64 r3, .string r4]) ∧ Kd.R k29 29 w' w.heap.size (fun _ => True) v0_ r1 ∧ Below w.heap.size w w' := by
 unfold depotref06_Look.f at h
 by_cases hh : Held a0_2 l0_3
 ·rw [if_pos hh] at h
  simp only [Option.some.injEq, Prod.mk.injEq] at h
  obtain ⟨rfl, rfl, rfl, rfl⟩ := h
  exact look_calls a0_0 a0_1 a0_2 A0_3 c0_3 l0_3 w hr0_3 hc0_3 hh.1 hh.2
 ·rw [if_neg hh] at h; cases h
/-- The two trees' one that every run looks at first. -/
theorem awake_look : lookL 3 false ⟨#[]⟩ [⟨⟨#[97]⟩, 1, false, ⟨#[120]⟩, []⟩] = .ok 288 [(⟨#[]⟩, 3, false, ⟨#[]⟩), (⟨#[97]⟩, 1, false, ⟨#[120]⟩)] := by kernel_rfl
end Go.Proofs.YtnemeeidomceiaaDoor
end
section
namespace Go.Proofs.YtnemeeidomceiaaDoor
open Go.RowKit Go.Proofs.YtnemeeidomceiaaDoorW.PrintWords Go.Proofs.YtnemeeidomceiaaDoorW.PrintLast Go.Proofs.YtnemeeidomceiaaDoorW.PrintMore
set_option linter.unusedVariables false
def depotref05_Check.f (a0 : ByteArray) : Option Int := some (nameE a0)
theorem depotref05_Check.calls (a0 : ByteArray) (r : Int) (w : World) (h : depotref05_Check.f a0 = some r) :
  Calls Tryd.prog 66 #[.string a0] w fun e w' => e = .returned (.int .i64 r) ∧ Below w.heap.size w w' :=
 (PTreeChecks.depotref05_Check.calls 600 a0 r w ((check_E a0 600 (Nat.le_refl _)).trans h)).mono fun _ _ h => ⟨h.1, h.2.below⟩
def depotref06_Entry.f (a0 : ByteArray) : Option Int := some (entS a0)
theorem depotref06_Entry.calls (a0 : ByteArray) (r : Int) (w : World) (h : depotref06_Entry.f a0 = some r) :
  Calls Tryd.prog 61 #[.string a0] w fun e w' => e = .returned (.int .i64 r) ∧ Below w.heap.size w w' :=
 PTreeChecks.depotref06_Entry.calls 40 a0 r w ((entry_E a0 40 (Nat.le_refl _)).trans h)
def depotref06_Magic.f : Option Int := some magS
theorem depotref06_Magic.calls (r : Int) (w : World) (h : depotref06_Magic.f = some r) :
  Calls Tryd.prog 60 #[] w fun e w' => e = .returned (.int .i64 r) ∧ Below w.heap.size w w' :=
 PTreeChecks.depotref06_Magic.calls 40 r w ((magic_E 40 (Nat.le_refl _)).trans h)
abbrev depotref05_Compare.f := @PTreeChecks.depotref05_Compare.f
theorem depotref05_Compare.mono : ∀ a0 a1 k, LeO (depotref05_Compare.f k a0 a1) (depotref05_Compare.f (k + 1) a0 a1) := PTreeChecks.depotref05_Compare.mono
theorem depotref05_Compare.calls (k : Nat) (a0 : ByteArray) (a1 : ByteArray) (r : Int) (w : World) (h : depotref05_Compare.f k a0 a1 = some r) :
  Calls Tryd.prog 59 #[.string a0, .string a1] w fun e w' => e = .returned (.int .i64 r) ∧ Below w.heap.size w w' :=
 (PTreeChecks.depotref05_Compare.calls k a0 a1 r w h).mono fun _ _ h => ⟨h.1, h.2.below⟩
end Go.Proofs.YtnemeeidomceiaaDoor
end
section
namespace Go.Proofs.YtnemeeidomceiaaDoor
open Go.RowKit Go.Proofs.YtnemeeidomceiaaDoorW.PrintWords Go.Proofs.YtnemeeidomceiaaDoorW.PrintLast Go.Proofs.YtnemeeidomceiaaDoorW.PrintMore
set_option linter.unusedVariables false
set_option linter.unusedSimpArgs false
abbrev seqFn (b : Nat) : Value := .func (.func 76) #[] #[.pointer (some ⟨b + 1, 0, none⟩), .pointer (some ⟨b, 0, none⟩), .pointer (some ⟨b + 1 + 1, 0, none⟩)]
set_option maxHeartbeats 1000000 in
set_option maxRecDepth 100000 in
theorem splitSeq0_calls (s t : ByteArray) (k : Int) (w : World) :
  Calls Tryd.prog 69 #[.string s, .string t, .int .i64 k] w fun e w' => e = .returned (seqFn w.heap.size) ∧ Aside0 (Below w.heap.size w w' ∧ Blk w' w.heap.size 9 [.string s] ∧ Blk w' (w.heap.size + 1) 9 [.string t] ∧ Blk w' (w.heap.size + 1 + 1) 3 [.int .i64 k]) := by
 have hmf : ∀ (fn : Fn) (first cap : Array Value) (w : World), (Instr.makeFunc fn first cap).run Tryd.prog w = .ok (.func fn first cap) w := fun _ _ _ _ => rfl
 have HF : Aside0 (Below w.heap.size w (((w.alloc (.cells #[.string s] 9)).alloc (.cells #[.string t] 9)).alloc (.cells #[.int .i64 k] 3)) ∧ Blk (((w.alloc (.cells #[.string s] 9)).alloc (.cells #[.string t] 9)).alloc (.cells #[.int .i64 k] 3)) w.heap.size 9 [.string s] ∧ Blk (((w.alloc (.cells #[.string s] 9)).alloc (.cells #[.string t] 9)).alloc (.cells #[.int .i64 k] 3)) (w.heap.size + 1) 9 [.string t] ∧
   Blk (((w.alloc (.cells #[.string s] 9)).alloc (.cells #[.string t] 9)).alloc (.cells #[.int .i64 k] 3)) (w.heap.size + 1 + 1) 3 [.int .i64 k]) := ⟨by
  have z1 : (w.alloc (.cells #[.string s] 9)).heap.size = w.heap.size + 1 := by simp
  have z2 : ((w.alloc (.cells #[.string s] 9)).alloc (.cells #[.string t] 9)).heap.size = w.heap.size + 1 + 1 := by simp
  have a1 : Below w.heap.size w (w.alloc (.cells #[.string s] 9)) := (Below.refl _ _).alloc (Nat.le_refl _) _
  have a2 : Below (w.alloc (.cells #[.string s] 9)).heap.size (w.alloc (.cells #[.string s] 9)) ((w.alloc (.cells #[.string s] 9)).alloc (.cells #[.string t] 9)) := (Below.refl _ _).alloc (Nat.le_refl _) _
  have a3 : Below ((w.alloc (.cells #[.string s] 9)).alloc (.cells #[.string t] 9)).heap.size ((w.alloc (.cells #[.string s] 9)).alloc (.cells #[.string t] 9)) (((w.alloc (.cells #[.string s] 9)).alloc (.cells #[.string t] 9)).alloc (.cells #[.int .i64 k] 3)) := (Below.refl _ _).alloc (Nat.le_refl _) _
  have b1 := Blk.new w 9 [.string s]
  have b2 := Blk.new (w.alloc (.cells #[.string s] 9)) 9 [.string t]
  have b3 := Blk.new ((w.alloc (.cells #[.string s] 9)).alloc (.cells #[.string t] 9)) 3 [.int .i64 k]
  rw [z1] at b2
  rw [z2] at b3
  exact ⟨below_step a1 (below_step a2 a3), (Blk.below b1 a2).below a3, Blk.below b2 a3, b3⟩⟩
 go_enter Tryd.func69, Tryd.ntmps69
 go_wp2
 go_ret
 exact ⟨rfl, HF⟩
set_option maxHeartbeats 1000000 in
set_option maxRecDepth 100000 in
theorem splitSeq_calls (s t : ByteArray) (w : World) :
  Calls Tryd.prog 53 #[.string s, .string t] w fun e w' => e = .returned (seqFn w.heap.size) ∧ Aside0 (Below w.heap.size w w' ∧ Blk w' w.heap.size 9 [.string s] ∧ Blk w' (w.heap.size + 1) 9 [.string t] ∧ Blk w' (w.heap.size + 1 + 1) 3 [.int .i64 0]) := by
 go_enter Tryd.func53, Tryd.ntmps53
 go_wp2_with fail
 (with_reducible refine (splitSeq0_calls s t 0 w).mono ?_)
 rintro o W1 ⟨rfl, HF⟩
 go_wp2
 go_ret
 exact ⟨rfl, HF⟩
end Go.Proofs.YtnemeeidomceiaaDoor
end
