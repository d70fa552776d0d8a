import Derived.Test.YtnemeeidomceiaaDoorPt10
import Derived.Test.YtnemeeidomceiaaDoorPt9
import Derived.Test.YtnemeeidomceiaaDoorWalkGraftPt
set_option linter.unusedSimpArgs false
set_option linter.unusedVariables false
section
namespace Go.Proofs.YtnemeeidomceiaaDoor
open Go.RowKit Go.Proofs.YtnemeeidomceiaaDoorW.PrintWords Go.Proofs.YtnemeeidomceiaaDoorW.PrintLast Go.Proofs.YtnemeeidomceiaaDoorW.PrintMore Go.Proofs.YtnemeeidomceiaaDoor.PGTreeGets
set_option linter.unusedVariables false
set_option linter.unusedSimpArgs false
/-- Where the way isn't there, tree.Put says so too. -/
theorem put_way (sub : NodeT) : ∀ (q : List ByteArray) (nm : ByteArray) (k : Int) (e : Bool) (t : ByteArray) (l : List Ent), Rising l → AllR l → wayR q ⟨nm, k, e, t, l⟩ ≠ 0 → (chN (putAct sub) q k l).2 = wayR q ⟨nm, k, e, t, l⟩
 | [], nm, k, e, t, l, hR, hA, hw => absurd rfl hw
 | s :: q, nm, k, e, t, l, hR, hA, hw => by
  by_cases h3 : k = 3
  ·subst h3
   rw [wayR_cons] at hw ⊢
   rw [if_neg (show ¬ (⟨nm, 3, e, t, l⟩ : Ent).f1 ≠ 3 from fun h => h rfl)] at hw ⊢
   cases hl : look l s with
   | none =>
    have hl' : look (⟨nm, 3, e, t, l⟩ : Ent).f4 s = none := hl
    rw [hl'] at hw
    by_cases h0 : q = []
    ·exact absurd (if_pos h0) hw
    ·rw [chN_lost (putAct sub) h0 hl]
     show (3 : Int) = if q = [] then 0 else 3
     rw [if_neg h0]
   | some y =>
    have hl' : look (⟨nm, 3, e, t, l⟩ : Ent).f4 s = some y := hl
    rw [hl'] at hw
    have h0 : q ≠ [] := fun h => hw (by rw [h]; rfl)
    have hAy := hA.look hl
    have hy : (⟨y.f0, y.f1, y.f2, y.f3, y.f4⟩ : Ent) = y := by cases y; rfl
    have ih := put_way sub q y.f0 y.f1 y.f2 y.f3 y.f4 hAy.rises.1 hAy (by rw [hy]; exact hw)
    rw [hy] at ih
    rw [chN_deep (putAct sub) h0 hl hR, if_pos (by rw [ih]; exact hw)]
    exact ih
  ·have e1 : chN (putAct sub) (s :: q) k l = ([], 65) := by unfold chN; rw [if_pos h3]
   have e2 : wayR (s :: q) ⟨nm, k, e, t, l⟩ = 65 := by unfold wayR; rw [if_pos h3]
   rw [e1, e2]
theorem wf_gk : ∀ (g : Nat) (x : Ent), wf g x → AllR x.f4 → GK x.f4
 | 0, x, hw, hA => hw.elim
 | g + 1, x, hw, hA => by
  obtain ⟨w1, w2, w3, w4⟩ := hw
  refine .mk w3 hA.rises.2 (fun y hy => nameE_size (w2 y hy)) (fun y hy => wf_gk g y (w4 y hy) ?_)
  cases hA with
  | mk h n k => exact k y hy
theorem put_flow (a : Int) (e : Bool) (c : ByteArray) (l : List Ent) (path : ByteArray) (hh : Held c l) (sub : NodeT) (kk : Nat) (hk : 40000000 ≤ kk) :
  PutFlow kk ((lookRows (lookL a e c l)).map rowR) (lookCode (lookL a e c l)) (codeN sub) (splitP path).1 (pathE path) (grafN (splitP path).1 (a, e, c, l) sub) (codeN (grafN (splitP path).1 (a, e, c, l) sub)) (putP (a, e, c, l) path sub) := by
 have hfair : LookFair magS (lookL a e c l) := nodeL_fair _ _ _ _
 cases hs : lookL a e c l with
 | bad p cd =>
  rw [hs] at hfair
  have hne : cd ≠ 0 := hfair
  refine .bad hne ?_
  unfold putP
  have h1 : lookCode (lookL a e c l) = cd := by rw [hs]; rfl
  show (if lookCode (lookL a e c l) ≠ 0 then (zeroT, lookCode (lookL a e c l)) else _) = _
  rw [h1, if_pos hne]
  rfl
 | ok bb rws =>
  obtain ⟨hT, hsz, hrws⟩ := look_tree hh hs
  have hc0 : codeN (a, e, c, l) = 0 := by unfold codeN; rw [hs]; rfl
  have hrr := rows_ref hh hs
  rw [hs] at hrr
  rw [hrr]
  by_cases hsub : codeN sub = 0
  ·by_cases hpe : pathE path = 0
   ·have hnm : Names (splitP path).1 := split_names path
    have hway := way_k hT (splitP path).1 hnm (k := kk) (by omega)
    have hAll : AllR l := look_AllR (k := a) (e := e) (t := c) (by rw [hs]; rfl)
    by_cases hne : (splitP path).1 = []
    ·rw [hne] at hway ⊢
     refine .put rfl hsub hpe hway hsub ?_
     unfold putP
     rw [ready_ok hsub, if_neg (fun h => h hc0), if_neg (fun h => h hpe), if_pos hne]
     rfl
    ·have hpp := putP_eq hc0 hsub hpe hne
     by_cases hw : wayR (splitP path).1 ⟨⟨#[]⟩, a, e, c, l⟩ = 0
     ·rw [hw] at hway
      obtain ⟨p1, p2, p3, p4, p5⟩ := graf_put (splitP path).1 32 ⟨⟨#[]⟩, a, e, c, l⟩ sub hne hT.wfx hAll hw
      have p5' : grafN (splitP path).1 (a, e, c, l) sub = (3, false, ⟨#[]⟩, (chN (putAct sub) (splitP path).1 a l).1) := p5
      have p4' : (chN (putAct sub) (splitP path).1 a l).2 = 0 := p4
      have p1' : a = 3 := p1
      have p2' : e = false := p2
      have p3' : c = ⟨#[]⟩ := p3
      subst p1' p2' p3'
      have hpp' : putP (3, false, ⟨#[]⟩, l) path sub = if (chN (putAct sub) (splitP path).1 3 l).2 ≠ 0 then (zeroT, (chN (putAct sub) (splitP path).1 3 l).2) else if codeN (3, false, ⟨#[]⟩, (chN (putAct sub) (splitP path).1 3 l).1) ≠ 0 then (zeroT, codeN (3, false, ⟨#[]⟩, (chN (putAct sub) (splitP path).1 3 l).1)) else ((3, false, ⟨#[]⟩, (chN (putAct sub) (splitP path).1 3 l).1), 0) := hpp
      rw [if_neg (fun h => h p4'), ← p5'] at hpp'
      rw [hpp']
      by_cases hgc : codeN (grafN (splitP path).1 (3, false, ⟨#[]⟩, l) sub) = 0
      ·rw [if_neg (fun h => h hgc)]
       exact .put rfl hsub hpe hway hgc rfl
      ·rw [if_pos hgc]
       exact .big rfl hsub hpe hway hgc rfl
     ·have h1 := put_way sub (splitP path).1 ⟨#[]⟩ a e c l hAll.rises.1 hAll hw
      have hpp' : putP (a, e, c, l) path sub = if (chN (putAct sub) (splitP path).1 a l).2 ≠ 0 then (zeroT, (chN (putAct sub) (splitP path).1 a l).2) else _ := hpp
      rw [h1, if_pos hw] at hpp'
      exact .way rfl hsub hpe _ hway hw hpp'
   ·refine .path rfl hsub hpe ?_
    unfold putP
    rw [ready_ok hsub, if_neg (fun h => h hc0), if_pos hpe]
  ·refine .sub rfl hsub ?_
   unfold putP
   have h2 : readyP sub.1 sub.2.1 sub.2.2.1 sub.2.2.2 path = ([], codeN sub) := by rw [ready_eq, if_pos hsub]
   rw [if_neg (fun h => h hc0), h2, if_pos hsub]
theorem graf_bears (a : Int) (e : Bool) (c : ByteArray) (l : List Ent) (path : ByteArray) (hh : Held c l) (sub : NodeT) (hsub : Held sub.2.2.1 sub.2.2.2) (kk : Nat) (hk : 40000000 ≤ kk)
  (hw : lookCode (lookL a e c l) = 0 ∧ codeN sub = 0 ∧ pathE path = 0 ∧ PGTreeGets.depotref06_Way.f kk ((lookRows (lookL a e c l)).map rowR) (splitP path).1 = some 0) :
  Held (grafN (splitP path).1 (a, e, c, l) sub).2.2.1 (grafN (splitP path).1 (a, e, c, l) sub).2.2.2 ∧ GK l ∧ ∀ s, s ∈ (splitP path).1 → s.size ≤ 255 := by
 obtain ⟨h0, h1, h2, h3⟩ := hw
 have hAll : AllR l := look_AllR (k := a) (e := e) (t := c) h0
 have hnm : Names (splitP path).1 := split_names path
 have hnz : ∀ s, s ∈ (splitP path).1 → s.size ≤ 255 := fun s hs => nameE_size (hnm.1 s hs)
 have hfair : LookFair magS (lookL a e c l) := nodeL_fair _ _ _ _
 cases hs : lookL a e c l with
 | bad p cd =>
  rw [hs] at hfair h0
  exact absurd h0 hfair
 | ok bb rws =>
  obtain ⟨hT, hsz, hrws⟩ := look_tree hh hs
  have hrr := rows_ref hh hs
  rw [hrr, way_k hT (splitP path).1 hnm (k := kk) (by omega)] at h3
  injection h3 with h3
  refine ⟨?_, wf_gk 32 ⟨⟨#[]⟩, a, e, c, l⟩ hT.wfx hAll, hnz⟩
  by_cases hne : (splitP path).1 = []
  ·rw [hne]; exact hsub
  ·obtain ⟨p1, p2, p3, p4, p5⟩ := graf_put (splitP path).1 32 ⟨⟨#[]⟩, a, e, c, l⟩ sub hne hT.wfx hAll h3
   have p5' : grafN (splitP path).1 (a, e, c, l) sub = (3, false, ⟨#[]⟩, (chN (putAct sub) (splitP path).1 a l).1) := p5
   rw [p5']
   exact ⟨put_texts sub hsub _ a l hnm.1 hh.1, (by decide : (⟨#[]⟩ : ByteArray).size ≤ 140737488351232)⟩
end Go.Proofs.YtnemeeidomceiaaDoor
end
section
namespace Go.Proofs.YtnemeeidomceiaaDoor
open Go.RowKit Go.Proofs.YtnemeeidomceiaaDoorW.PrintWords Go.Proofs.YtnemeeidomceiaaDoorW.PrintLast Go.Proofs.YtnemeeidomceiaaDoorW.PrintMore
set_option linter.unusedVariables false
set_option linter.unusedSimpArgs false
theorem putP_fits {n sub : NodeT} {p : ByteArray} (hs : Fit sub.2.2.2) : Fit (putP n p sub).1.2.2.2 := by
 unfold putP
 split
 ·exact good_zero.2
 ·split
  ·exact good_zero.2
  ·split
   ·exact hs
   ·split
    ·exact good_zero.2
    ·split
     ·exact good_zero.2
     ·rename_i c5
      exact (look_AllR (Decidable.of_not_not c5)).fit
theorem put_to {W : World} {A As : Option Addr} {c cs : Nat} {k sk : Int} {e se : Bool} {t st : ByteArray} {l sl : List Ent} {k1 x : Int} {e1 : Bool} {t1 path : ByteArray} {l1 : List Ent} (h : putP (k, e, t, l) path (sk, se, st, sl) = ((k1, e1, t1, l1), x)) (hg : Good (k, e, t, l)) (hgs : Good (sk, se, st, sl)) (hp : path.size ≤ 140737488351232) (hC : Kd.C kE W A l.length l) (hc : l.length ≤ c) (hCs : Kd.C kE W As sl.length sl) (hcs : sl.length ≤ cs) :
  Calls Tryd.prog 20 #[.agg #[.int .i64 k, .bool e, .string t, .slice A l.length c], .string path, .agg #[.int .i64 sk, .bool se, .string st, .slice As sl.length cs]] W (Made W k1 e1 t1 l1 x) :=
 (put_calls (k, e, t, l) path (sk, se, st, sl) A As c cs W hC hc hg.1 hg.2 hp hCs hcs hgs.1 hgs.2).mono fun _ _ hh => hh.made h
theorem rput_to {W : World} {A As : Option Addr} {c cs : Nat} {k sk : Int} {e se : Bool} {t st : ByteArray} {l sl : List Ent} {k1 x : Int} {e1 : Bool} {t1 path : ByteArray} {l1 : List Ent} (h : putP (k, e, t, l) path (sk, se, st, sl) = ((k1, e1, t1, l1), x)) (hg : Good (k, e, t, l)) (hgs : Good (sk, se, st, sl)) (hp : path.size ≤ 140737488351232) (hC : Kd.C kE W A l.length l) (hc : l.length ≤ c) (hCs : Kd.C kE W As sl.length sl) (hcs : sl.length ≤ cs) :
  Calls Tryd.prog 21 #[.agg #[.int .i64 k, .bool e, .string t, .slice A l.length c], .string path, .agg #[.int .i64 sk, .bool se, .string st, .slice As sl.length cs]] W (Made W k1 e1 t1 l1 x) := by
 have hf := put_flow k e t l path hg.1 (sk, se, st, sl) (2 * path.size + 40000000) (by omega)
 have hb := graf_bears k e t l path hg.1 (sk, se, st, sl) hgs.1 (2 * path.size + 40000000) (by omega)
 rw [h] at hf
 refine refput_walk k e t l path sk se st sl A As c cs W hC hc hCs hcs (2 * path.size + 40000000) _ _ _ _ _ _ _ _ (PGTreeGets.look_f hg.1) (PGTreeGets.look_f hgs.1) _ _ (splitP path).2.2 (PGTreeGets.split_big path hp (by omega)) _ _ _ _ _ _ hf (fun hw => PGTreeGets.look_f (hb hw).1) ?_
 intro hw W2 A1 A2 A3 c1 c2 c3 q1 q2 q3 q4 q5 q6
 refine (graft_calls sk se st sl hgs.2 _ k e t l A1 A2 A3 c1 c2 c3 W2 (hb hw).2.1 (hb hw).2.2 q1 q2 q3 q4 q5 q6).mono ?_
 rintro o w' ⟨v, ho, hO, hB⟩
 exact ⟨v, ho, Kd.R_mono hO.toR (fun _ _ => trivial), hB⟩
set_option maxHeartbeats 4000000 in
set_option maxRecDepth 100000 in
theorem puts_calls (k : Int) (e : Bool) (t : ByteArray) (l : List Ent) (path : ByteArray) (sk : Int) (se : Bool) (st : ByteArray) (sl : List Ent) (A As : Option Addr) (c cs : Nat) (w : World) (hC : Kd.C kE w A l.length l) (hc : l.length ≤ c) (hn : Good (k, e, t, l)) (hp : path.size ≤ 140737488351232)
  (hCs : Kd.C kE w As sl.length sl) (hcs : sl.length ≤ cs) (hs : Good (sk, se, st, sl)) :
  Calls Tryd.prog 7 #[.agg #[.int .i64 k, .bool e, .string t, .slice A l.length c], .string path, .agg #[.int .i64 sk, .bool se, .string st, .slice As sl.length cs]] w fun o w' => o = .returned (.bool true) ∧ Below w.heap.size w w' := by
 obtain ⟨⟨⟨kg, eg, tg, lg⟩, xg⟩, hg⟩ : ∃ r, putP (k, e, t, l) path (sk, se, st, sl) = r := ⟨_, rfl⟩
 have HG := Aside0.mk hg
 have HN := Aside0.mk hn
 have HS := Aside0.mk hs
 have HP := Aside0.mk hp
 have HFG : Aside0 (Fit lg) := ⟨by have := putP_fits (n := (k, e, t, l)) (p := path) (sub := (sk, se, st, sl)) hs.2; rw [hg] at this; exact this⟩
 have HC0 := Aside0.mk (And.intro (And.intro hC hc) (And.intro hCs hcs))
 have d1 : (xg == xg) = true := beq_iff_eq.mpr rfl
 clear hg hn hs hp hC hc hCs hcs
 go_enter Tryd.func7, Tryd.ntmps7
 go_wp2_with fail
 obtain ⟨W1, hW1⟩ : ∃ W1, W1 = (w.alloc (.cells #[.int .i64 k, .bool e, .string t, .slice A l.length c] 32)).alloc (.cells #[.int .i64 sk, .bool se, .string st, .slice As sl.length cs] 32) := ⟨_, rfl⟩
 rw [← hW1]
 obtain ⟨bn, hbn⟩ : ∃ b, b = w.heap.size := ⟨_, rfl⟩
 obtain ⟨bs, hbs⟩ : ∃ b, b = w.heap.size + 1 := ⟨_, rfl⟩
 rw [← hbs, ← hbn]
 have hba : Below w.heap.size w (w.alloc (.cells #[.int .i64 k, .bool e, .string t, .slice A l.length c] 32)) := below_alloc (Below.refl _ _) _
 have NN : Aside0 (NB W1 bn A c k e t l) := ⟨by rw [hW1, hbn]; exact (NB.new HC0.out.1.2 HC0.out.1.1).below (below_alloc (Below.refl _ _) _)⟩
 have NS : Aside0 (NB W1 bs As cs sk se st sl) := ⟨by
  have h1 := NB.new (k := sk) (e := se) (t := st) HC0.out.2.2 (Kd.C_below HC0.out.2.1 hba)
  rw [World.size_alloc] at h1
  rw [hW1, hbs]; exact h1⟩
 have HB : Aside0 (Below w.heap.size w W1) := ⟨by rw [hW1]; exact below_step hba (below_alloc (Below.refl _ _) _)⟩
 clear hW1 hbn hbs HC0 hba
 (with_reducible refine (awake_calls W1).mono ?_)
 rintro o w1 ⟨rfl, hb⟩
 replace NN := Aside0.mk (NN.out.below hb)
 replace NS := Aside0.mk (NS.out.below hb)
 replace HB := Aside0.mk (below_step HB.out hb)
 clear hb
 obtain ⟨u0, u1, u2, u3⟩ := cells4 NN.out.blk
 obtain ⟨v0, v1, v2, v3⟩ := cells4 NS.out.blk
 go_wp2_with fail
 (with_reducible refine (put_to HG.out HN.out HS.out HP.out NN.out.row NN.out.len NS.out.row NS.out.len).mono ?_)
 rintro o wg ⟨Ag, cg, rfl, hrow, hb1⟩
 clear u0 u1 u2 u3 v0 v1 v2 v3
 have Ng := Aside0.mk (NB.new (k := kg) (e := eg) (t := tg) hrow.1 hrow.2)
 have hb := below_step hb1 (below_alloc (Below.refl _ (wg)) (.cells #[.int .i64 kg, .bool eg, .string tg, .slice Ag lg.length cg] 32))
 clear hrow hb1
 replace NN := Aside0.mk (NN.out.below hb)
 replace NS := Aside0.mk (NS.out.below hb)
 replace HB := Aside0.mk (below_step HB.out hb)
 clear hb
 obtain ⟨u0, u1, u2, u3⟩ := cells4 NN.out.blk
 obtain ⟨v0, v1, v2, v3⟩ := cells4 NS.out.blk
 go_wp2_with fail
 obtain ⟨Wg, hW⟩ : ∃ W, W = wg.alloc (.cells #[.int .i64 kg, .bool eg, .string tg, .slice Ag lg.length cg] 32) := ⟨_, rfl⟩
 obtain ⟨bg, hbb⟩ : ∃ b, b = wg.heap.size := ⟨_, rfl⟩
 rw [← hW] at NN NS Ng HB ⊢
 rw [← hbb] at Ng ⊢
 clear hW hbb
 (with_reducible refine (rput_to HG.out HN.out HS.out HP.out NN.out.row NN.out.len NS.out.row NS.out.len).mono ?_)
 rintro o ww ⟨Aw, cw, rfl, hrow, hb1⟩
 clear u0 u1 u2 u3 v0 v1 v2 v3
 have Nw := Aside0.mk (NB.new (k := kg) (e := eg) (t := tg) hrow.1 hrow.2)
 have hb := below_step hb1 (below_alloc (Below.refl _ (ww)) (.cells #[.int .i64 kg, .bool eg, .string tg, .slice Aw lg.length cw] 32))
 clear hrow hb1
 replace NN := Aside0.mk (NN.out.below hb)
 replace NS := Aside0.mk (NS.out.below hb)
 replace Ng := Aside0.mk (Ng.out.below hb)
 replace HB := Aside0.mk (below_step HB.out hb)
 clear hb
 obtain ⟨u0, u1, u2, u3⟩ := cells4 Ng.out.blk
 obtain ⟨v0, v1, v2, v3⟩ := cells4 Nw.out.blk
 go_wp2_with fail
 obtain ⟨Ww, hW⟩ : ∃ W, W = ww.alloc (.cells #[.int .i64 kg, .bool eg, .string tg, .slice Aw lg.length cw] 32) := ⟨_, rfl⟩
 obtain ⟨bw, hbb⟩ : ∃ b, b = ww.heap.size := ⟨_, rfl⟩
 rw [← hW] at NN NS Ng Nw HB ⊢
 rw [← hbb] at Nw ⊢
 clear hW hbb
 (with_reducible refine (eq_to rfl HFG.out Ng.out.row Ng.out.len Nw.out.row Nw.out.len).mono ?_)
 rintro o wq ⟨rfl, hb⟩
 clear u0 u1 u2 u3 v0 v1 v2 v3
 replace NN := Aside0.mk (NN.out.below hb)
 replace HB := Aside0.mk (below_step HB.out hb)
 clear hb
 go_wp2_with fail
 go_ret
 exact ⟨rfl, HB.out⟩
end Go.Proofs.YtnemeeidomceiaaDoor
end
