import Derived.Test.YtnemeeidomceiaaDoorMt11
set_option linter.unusedSimpArgs false
set_option linter.unusedVariables false
section
namespace Go.Proofs.YtnemeeidomceiaaDoor
open Go.RowKit Go.Proofs.YtnemeeidomceiaaDoorW.PrintWords Go.Proofs.YtnemeeidomceiaaDoorW.PrintLast Go.Proofs.YtnemeeidomceiaaDoorW.PrintMore Go.Proofs.YtnemeeidomceiaaDoor.PGTreeGets
set_option linter.unusedVariables false
set_option linter.unusedSimpArgs false
theorem rows_ref {a : Int} {e : Bool} {c : ByteArray} {l : List Ent} {bb : Int} {rws : List RowT} (hh : Held c l) (hs : lookL a e c l = .ok bb rws) : (lookRows (lookL a e c l)).map rowR = (nrows 32 [] ⟨⟨#[]⟩, a, e, c, l⟩).map rowN := by
 obtain ⟨_, _, hrws⟩ := look_tree hh hs
 rw [hs]
 show rws.map rowR = _
 rw [hrws, List.map_map]
 rfl
theorem get_flow (a : Int) (e : Bool) (c : ByteArray) (l : List Ent) (path : ByteArray) (hh : Held c l) (kk : Nat) (hk : 40000000 ≤ kk) :
  GetFlow kk ((lookRows (lookL a e c l)).map rowR) (lookCode (lookL a e c l)) (splitP path).1 (pathE path) (getP (a, e, c, l) path) := by
 have hfair : LookFair magS (lookL a e c l) := nodeL_fair _ _ _ _
 cases hs : lookL a e c l with
 | bad p cd =>
  rw [hs] at hfair
  have hne : cd ≠ 0 := hfair
  refine .bad hne ?_
  have hr : readyP a e c l path = ([], cd) := by unfold readyP; rw [hs]; exact if_pos hne
  show (if (readyP a e c l path).2 ≠ 0 then _ else _) = _
  rw [hr, if_pos hne]
  rfl
 | ok bb rws =>
  obtain ⟨hT, hsz, hrws⟩ := look_tree hh hs
  have hc0 : codeN (a, e, c, l) = 0 := by unfold codeN; rw [hs]; rfl
  have hrr := rows_ref hh hs
  rw [hs] at hrr
  rw [hrr, getP_eq hc0]
  by_cases hpe : pathE path = 0
  ·rw [if_neg (fun h => h hpe)]
   have hnm : Names (splitP path).1 := split_names path
   obtain ⟨q, hq⟩ : ∃ q, q = (splitP path).1 := ⟨_, rfl⟩
   rw [← hq] at hnm ⊢
   have hgw := get_way q ⟨⟨#[]⟩, a, e, c, l⟩
   have hgw' : getN q (a, e, c, l) = _ := hgw
   have hway := way_k hT q hnm (k := kk) (by omega)
   rw [hgw']
   by_cases hw : wayR q ⟨⟨#[]⟩, a, e, c, l⟩ = 0
   ·rw [if_neg (fun h => h hw)]
    rw [hw] at hway
    obtain ⟨u1, u2⟩ := under_at hT q (by have := hnm.2; omega) (k := kk) (by omega)
    cases hat : atN q ⟨⟨#[]⟩, a, e, c, l⟩ with
    | none => exact .lost rfl hpe hway _ _ (u2 hat) (by decide) rfl
    | some y =>
     obtain ⟨A, C, g2, b, hu⟩ := u1 y hat
     have hrw := b.rows
     rw [List.nil_append] at hrw
     have hlen := hT.ok.len
     obtain ⟨B, hB⟩ : ∃ B, B = nrows g2 q y := ⟨_, rfl⟩
     have hpre : ∀ r, r ∈ B → q <+: r.1 := fun r hr => by rw [hB] at hr; exact nrows_pre g2 q y r hr
     have hbt := get_okay hT hsz b kk (by omega)
     rw [← hB] at hrw hu hbt
     have hl2 : (nrows 32 [] ⟨⟨#[]⟩, a, e, c, l⟩).length = A.length + (B.length + C.length) := by rw [hrw, List.length_append, List.length_append]
     have hmem : ∀ r, r ∈ B → r ∈ nrows 32 [] ⟨⟨#[]⟩, a, e, c, l⟩ := fun r hr => by rw [hrw]; exact List.mem_append_right _ (List.mem_append_left _ hr)
     have hsp : ∀ r, r ∈ B → splitP (rowN r).f0 = (r.1, 0, 0) := fun r hr => (hT.ok.nam r (hmem r hr)).split
     refine .got rfl hpe hway A.length B.length hu (by rw [List.length_map]; omega) (by rw [List.length_map]; exact hlen) (fun r => joinP 32 ⟨#[]⟩ ((splitP r.f0).1.drop q.length)) (fun i hi => ?_) (nodeOf y) ?_ rfl
     ·have hlt2 : A.length + i < (nrows 32 [] ⟨⟨#[]⟩, a, e, c, l⟩).length := by omega
      have hget : (nrows 32 [] ⟨⟨#[]⟩, a, e, c, l⟩)[A.length + i] = B[i] := by
       have h5 : (nrows 32 [] ⟨⟨#[]⟩, a, e, c, l⟩)[A.length + i]? = some B[i] := by
        rw [hrw, List.getElem?_append_right (by omega), List.getElem?_append_left (by omega), show A.length + i - A.length = i from by omega, List.getElem?_eq_getElem hi]
       rw [List.getElem?_eq_getElem hlt2] at h5
       injection h5
      have hm := List.getElem_mem hi
      rw [rd_n hlt2, hget]
      refine ⟨B[i].1, 0, 0, split_n (hT.ok.nam _ (hmem _ hm)) (show 8000000 ≤ kk by omega), (hpre _ hm).length_le, ?_⟩
      rw [path_k _ ((hT.ok.nam _ (hmem _ hm)).drop q.length) (show 100 < kk by omega), hsp _ hm]
     ·have e1 : (((nrows 32 [] ⟨⟨#[]⟩, a, e, c, l⟩).map rowN).drop A.length).take B.length = B.map rowN := by
       have hA : A.length = (A.map rowN).length := (List.length_map _).symm
       have hB2 : B.length = (B.map rowN).length := (List.length_map _).symm
       rw [hrw, List.map_append, List.map_append, hA, List.drop_left, hB2, List.take_left]
      have e2 : (B.map rowN).map (newRow (fun r => joinP 32 ⟨#[]⟩ ((splitP r.f0).1.drop q.length))) = (B.map (fun r => ((r.1.drop q.length, r.2) : NRow))).map rowN := by
       rw [List.map_map, List.map_map]
       refine List.map_congr_left (fun r hr => ?_)
       show (⟨joinP 32 ⟨#[]⟩ ((splitP (rowN r).f0).1.drop q.length), (rowN r).f1, (rowN r).f2, (rowN r).f3⟩ : RefRow) = rowN (r.1.drop q.length, r.2)
       rw [hsp r hr]
       rfl
      rw [e1, e2]
      exact hbt
   ·rw [if_pos hw]
    exact .way rfl hpe _ hway hw rfl
  ·rw [if_pos hpe]
   exact .path rfl hpe rfl
theorem cut_flow (a : Int) (e : Bool) (c : ByteArray) (l : List Ent) (path : ByteArray) (hh : Held c l) (kk : Nat) (hk : 40000000 ≤ kk) :
  CutFlow kk ((lookRows (lookL a e c l)).map rowR) (lookCode (lookL a e c l)) (splitP path).1 (pathE path) (cutP a e c l path) := by
 have hfair : LookFair magS (lookL a e c l) := nodeL_fair _ _ _ _
 cases hs : lookL a e c l with
 | bad p cd =>
  rw [hs] at hfair
  have hne : cd ≠ 0 := hfair
  refine .bad hne ?_
  have hr : readyP a e c l path = ([], cd) := by unfold readyP; rw [hs]; exact if_pos hne
  unfold cutP
  rw [hr, if_pos hne]
  rfl
 | ok bb rws =>
  obtain ⟨hT, hsz, hrws⟩ := look_tree hh hs
  have hc0 : codeN (a, e, c, l) = 0 := by unfold codeN; rw [hs]; rfl
  have hrd : readyP a e c l path = ((splitP path).1, pathE path) := ready_ok hc0 path
  have hrr := rows_ref hh hs
  rw [hs] at hrr
  rw [hrr]
  by_cases hpe : pathE path = 0
  ·have hnm : Names (splitP path).1 := split_names path
   by_cases hne : (splitP path).1 = []
   ·refine .root rfl hpe hne ?_
    unfold cutP
    rw [hrd, if_neg (fun h => h hpe), if_pos hne]
   ·have hcp := cutP_eq hc0 hpe hne
    obtain ⟨q, hq⟩ : ∃ q, q = (splitP path).1 := ⟨_, rfl⟩
    rw [← hq] at hnm hcp hne ⊢
    have hAll : AllR l := look_AllR (k := a) (e := e) (t := c) (by rw [hs]; rfl)
    have hcw := cut_way q ⟨#[]⟩ a e c l hne hAll.rises.1 hAll
    have hcp' : cutP a e c l path = if (chN cutAct q a l).2 ≠ 0 then (zeroT, (chN cutAct q a l).2) else ((a, e, c, (chN cutAct q a l).1), 0) := hcp
    rw [hcp']
    clear hcp hcp'
    have hway := way_k hT q hnm (k := kk) (by omega)
    by_cases hw : wayR q ⟨⟨#[]⟩, a, e, c, l⟩ = 0
    ·rw [if_neg (fun h => h hw)] at hcw
     rw [hw] at hway
     obtain ⟨u1, u2⟩ := under_at hT q (by have := hnm.2; omega) (k := kk) (by omega)
     cases hat : atN q ⟨⟨#[]⟩, a, e, c, l⟩ with
     | none =>
      rw [hat] at hcw
      have hcw' : (chN cutAct q a l).2 = 3 := hcw
      rw [hcw', if_pos (show (3 : Int) ≠ 0 by decide)]
      exact .lost rfl hpe hne hway _ _ (u2 hat) (by decide) rfl
     | some y =>
      rw [hat] at hcw
      have hcw' : (chN cutAct q a l).2 = 0 := hcw
      obtain ⟨A, C, g2, b, hu⟩ := u1 y hat
      have hrw := b.rows
      have hbl := b.left
      have hbr := b.right
      rw [List.nil_append] at hrw hbl hbr
      obtain ⟨l3, hl3⟩ : ∃ l3, l3 = (chN cutAct q a l).1 := ⟨_, rfl⟩
      have hch : chN cutAct q a l = (l3, 0) := by rw [hl3, ← hcw']
      rw [hch, if_neg (show ¬ ((l3, (0 : Int)) : List Ent × Int).2 ≠ 0 from fun h => h rfl)]
      have hlen := hT.ok.len
      have hl2 : (nrows 32 [] ⟨⟨#[]⟩, a, e, c, l⟩).length = A.length + ((nrows g2 q y).length + C.length) := by
       conv => lhs; rw [hrw]
       rw [List.length_append, List.length_append]
      have hwo := without_loop (nrows 32 [] ⟨⟨#[]⟩, a, e, c, l⟩) hlen A.length (A.length + (nrows g2 q y).length) (by omega) _ 0 kk rfl (Nat.zero_le _) (by omega)
      have hwf : depotref06_without.f kk ((nrows 32 [] ⟨⟨#[]⟩, a, e, c, l⟩).map rowN) q = some ((A ++ C).map rowN) := by
       unfold depotref06_without.f
       rw [hu]
       simp only [Option.bind_some]
       have e1 : (nrows 32 [] ⟨⟨#[]⟩, a, e, c, l⟩).take A.length ++ (nrows 32 [] ⟨⟨#[]⟩, a, e, c, l⟩).drop (A.length + (nrows g2 q y).length) = A ++ C := by
        rw [hrw, List.take_left, ← List.drop_drop, List.drop_left, List.drop_left]
       rw [e1] at hwo
       have e2 : ((nrows 32 [] ⟨⟨#[]⟩, a, e, c, l⟩).take (min 0 A.length) ++ ((nrows 32 [] ⟨⟨#[]⟩, a, e, c, l⟩).take 0).drop (A.length + (nrows g2 q y).length)) = [] := by simp
       rw [e2] at hwo
       exact hwo
      obtain ⟨wf3, ts3⟩ := cut_wf q 32 ⟨#[]⟩ a e c l l3 hT.wfx hch
      have hrows := cut_rows q 32 [] ⟨#[]⟩ a e c l l3 hne hT.wfx hch
      have hfil : nrows 32 [] ⟨⟨#[]⟩, a, e, c, l3⟩ = A ++ C := by
       rw [hrows, hrw, List.nil_append, List.filter_append, List.filter_append, List.filter_eq_self.2 (fun r hr => decide_eq_true (hbl r hr)), List.filter_eq_self.2 (fun r hr => decide_eq_true (hbr r hr)), List.filter_eq_nil_iff.2 (fun r hr => by simp [nrows_pre g2 q y r hr]), List.nil_append]
      have hok : NOk (A ++ C) := hT.ok.of (by rw [hl2, List.length_append]; omega) (fun r hr => ⟨r, 0, by
       rw [hrw]
       rcases List.mem_append.1 hr with h | h
       ·exact List.mem_append_left _ h
       ·exact List.mem_append_right _ (List.mem_append_right _ h), rfl⟩)
      have hbd := build_ok _ hok (a, e, c, l3) (by rw [← hfil, build_tree wf3 (by omega)]; rfl) kk (by omega)
      exact .cut rfl hpe hne hway _ _ hu (by omega) _ hwf (a, e, c, l3) hbd rfl
    ·rw [if_pos hw] at hcw
     rw [hcw, if_pos hw]
     exact .way rfl hpe hne _ hway hw rfl
  ·refine .path rfl hpe ?_
   unfold cutP
   rw [hrd, if_pos hpe]
end Go.Proofs.YtnemeeidomceiaaDoor
end
section
namespace Go.Proofs.YtnemeeidomceiaaDoor
open Go.RowKit Go.Proofs.YtnemeeidomceiaaDoorW.PrintWords Go.Proofs.YtnemeeidomceiaaDoorW.PrintLast Go.Proofs.YtnemeeidomceiaaDoorW.PrintMore
set_option linter.unusedVariables false
set_option linter.unusedSimpArgs false
theorem rget_to {W : World} {A : Option Addr} {c : Nat} {k : Int} {e : Bool} {t : ByteArray} {l : List Ent} {k1 x : Int} {e1 : Bool} {t1 path : ByteArray} {l1 : List Ent} (h : getP (k, e, t, l) path = ((k1, e1, t1, l1), x)) (hg : Good (k, e, t, l)) (hp : path.size ≤ 140737488351232) (hC : Kd.C kE W A l.length l) (hc : l.length ≤ c) :
  Calls Tryd.prog 17 #[.agg #[.int .i64 k, .bool e, .string t, .slice A l.length c], .string path] W (Made W k1 e1 t1 l1 x) := by
 have hf := get_flow k e t l path hg.1 (2 * path.size + 40000000) (by omega)
 rw [h] at hf
 exact refget_walk k e t l path A c W hC hc _ _ _ _ _ (PGTreeGets.look_f hg.1) _ _ (splitP path).2.2 (PGTreeGets.split_big path hp (by omega)) _ hf
theorem rcut_to {W : World} {A : Option Addr} {c : Nat} {k : Int} {e : Bool} {t : ByteArray} {l : List Ent} {k1 x : Int} {e1 : Bool} {t1 path : ByteArray} {l1 : List Ent} (h : cutP k e t l path = ((k1, e1, t1, l1), x)) (hg : Good (k, e, t, l)) (hp : path.size ≤ 140737488351232) (hC : Kd.C kE W A l.length l) (hc : l.length ≤ c) :
  Calls Tryd.prog 19 #[.agg #[.int .i64 k, .bool e, .string t, .slice A l.length c], .string path] W (Made W k1 e1 t1 l1 x) := by
 have hf := cut_flow k e t l path hg.1 (2 * path.size + 40000000) (by omega)
 rw [h] at hf
 exact refcut_walk k e t l path A c W hC hc _ _ _ _ _ (PGTreeGets.look_f hg.1) _ _ (splitP path).2.2 (PGTreeGets.split_big path hp (by omega)) _ hf
set_option maxHeartbeats 4000000 in
set_option maxRecDepth 100000 in
theorem gets_calls (k : Int) (e : Bool) (t : ByteArray) (l : List Ent) (path : ByteArray) (A : Option Addr) (c : Nat) (w : World) (hC : Kd.C kE w A l.length l) (hc : l.length ≤ c) (hn : Good (k, e, t, l)) (hp : path.size ≤ 140737488351232) :
  Calls Tryd.prog 6 #[.agg #[.int .i64 k, .bool e, .string t, .slice A l.length c], .string path] w fun o w' => o = .returned (.bool true) ∧ Below w.heap.size w w' := by
 obtain ⟨⟨⟨kg, eg, tg, lg⟩, xg⟩, hg⟩ : ∃ r, getP (k, e, t, l) path = r := ⟨_, rfl⟩
 obtain ⟨⟨⟨kl, el, tl, ll⟩, xl⟩, hl⟩ : ∃ r, cutP k e t l path = r := ⟨_, rfl⟩
 have HG := Aside0.mk hg
 have HL := Aside0.mk hl
 have HN := Aside0.mk hn
 have HP := Aside0.mk hp
 have HFG : Aside0 (Fit lg) := ⟨by have := (getP_good hn path).2; rw [hg] at this; exact this⟩
 have HFL : Aside0 (Fit ll) := ⟨by have := PGTreeGets.cutP_fits (k := k) (e := e) (t := t) (l := l) (p := path); rw [hl] at this; exact this⟩
 have HC0 := Aside0.mk (And.intro hC hc)
 have d1 : (xg != xg) = false := bne_eq_false_iff_eq.mpr rfl
 have d2 : (xl == xl) = true := beq_iff_eq.mpr rfl
 clear hg hl hn hp hC hc
 go_enter Tryd.func6, Tryd.ntmps6
 go_wp2_with fail
 obtain ⟨W1, hW1⟩ : ∃ W1, W1 = w.alloc (.cells #[.int .i64 k, .bool e, .string t, .slice A l.length c] 32) := ⟨_, rfl⟩
 rw [← hW1]
 obtain ⟨bn, hbn⟩ : ∃ b, b = w.heap.size := ⟨_, rfl⟩
 rw [← hbn]
 have NN : Aside0 (NB W1 bn A c k e t l) := ⟨by rw [hW1, hbn]; exact NB.new HC0.out.2 HC0.out.1⟩
 have HB : Aside0 (Below w.heap.size w W1) := ⟨by rw [hW1]; exact below_alloc (Below.refl _ _) _⟩
 clear hW1 hbn HC0
 (with_reducible refine (awake_calls W1).mono ?_)
 rintro o w1 ⟨rfl, hb⟩
 replace NN := Aside0.mk (NN.out.below hb)
 replace HB := Aside0.mk (below_step HB.out hb)
 clear hb
 obtain ⟨u0, u1, u2, u3⟩ := cells4 NN.out.blk
 go_wp2_with fail
 (with_reducible refine (get_to HG.out HN.out HP.out NN.out.row NN.out.len).mono ?_)
 rintro o wg ⟨Ag, cg, rfl, hrow, hb1⟩
 clear u0 u1 u2 u3
 have Ng := Aside0.mk (NB.new (k := kg) (e := eg) (t := tg) hrow.1 hrow.2)
 have hb := below_step hb1 (below_alloc (Below.refl _ (wg)) (.cells #[.int .i64 kg, .bool eg, .string tg, .slice Ag lg.length cg] 32))
 clear hrow hb1
 replace NN := Aside0.mk (NN.out.below hb)
 replace HB := Aside0.mk (below_step HB.out hb)
 clear hb
 obtain ⟨u0, u1, u2, u3⟩ := cells4 NN.out.blk
 go_wp2_with fail
 obtain ⟨Wg, hW⟩ : ∃ W, W = wg.alloc (.cells #[.int .i64 kg, .bool eg, .string tg, .slice Ag lg.length cg] 32) := ⟨_, rfl⟩
 obtain ⟨bg, hbb⟩ : ∃ b, b = wg.heap.size := ⟨_, rfl⟩
 rw [← hW] at NN Ng HB ⊢
 rw [← hbb] at Ng ⊢
 clear hW hbb
 (with_reducible refine (rget_to HG.out HN.out HP.out NN.out.row NN.out.len).mono ?_)
 rintro o ww ⟨Aw, cw, rfl, hrow, hb1⟩
 clear u0 u1 u2 u3
 have Nw := Aside0.mk (NB.new (k := kg) (e := eg) (t := tg) hrow.1 hrow.2)
 have hb := below_step hb1 (below_alloc (Below.refl _ (ww)) (.cells #[.int .i64 kg, .bool eg, .string tg, .slice Aw lg.length cw] 32))
 clear hrow hb1
 replace NN := Aside0.mk (NN.out.below hb)
 replace Ng := Aside0.mk (Ng.out.below hb)
 replace HB := Aside0.mk (below_step HB.out hb)
 clear hb
 obtain ⟨u0, u1, u2, u3⟩ := cells4 Ng.out.blk
 obtain ⟨v0, v1, v2, v3⟩ := cells4 Nw.out.blk
 go_wp2_with fail
 obtain ⟨Ww, hW⟩ : ∃ W, W = ww.alloc (.cells #[.int .i64 kg, .bool eg, .string tg, .slice Aw lg.length cw] 32) := ⟨_, rfl⟩
 obtain ⟨bw, hbb⟩ : ∃ b, b = ww.heap.size := ⟨_, rfl⟩
 rw [← hW] at NN Ng Nw HB ⊢
 rw [← hbb] at Nw ⊢
 clear hW hbb
 (with_reducible refine (eq_to rfl HFG.out Ng.out.row Ng.out.len Nw.out.row Nw.out.len).mono ?_)
 rintro o wq ⟨rfl, hb⟩
 clear u0 u1 u2 u3 v0 v1 v2 v3
 replace NN := Aside0.mk (NN.out.below hb)
 replace HB := Aside0.mk (below_step HB.out hb)
 clear hb
 clear Ng Nw
 obtain ⟨u0, u1, u2, u3⟩ := cells4 NN.out.blk
 go_wp2_with fail
 (with_reducible refine (cut_to HL.out HN.out HP.out NN.out.row NN.out.len).mono ?_)
 rintro o wl ⟨Al, cl, rfl, hrow, hb1⟩
 clear u0 u1 u2 u3
 have Nl := Aside0.mk (NB.new (k := kl) (e := el) (t := tl) hrow.1 hrow.2)
 have hb := below_step hb1 (below_alloc (Below.refl _ (wl)) (.cells #[.int .i64 kl, .bool el, .string tl, .slice Al ll.length cl] 32))
 clear hrow hb1
 replace NN := Aside0.mk (NN.out.below hb)
 replace HB := Aside0.mk (below_step HB.out hb)
 clear hb
 obtain ⟨u0, u1, u2, u3⟩ := cells4 NN.out.blk
 go_wp2_with fail
 obtain ⟨Wl, hW⟩ : ∃ W, W = wl.alloc (.cells #[.int .i64 kl, .bool el, .string tl, .slice Al ll.length cl] 32) := ⟨_, rfl⟩
 obtain ⟨bl, hbb⟩ : ∃ b, b = wl.heap.size := ⟨_, rfl⟩
 rw [← hW] at NN Nl HB ⊢
 rw [← hbb] at Nl ⊢
 clear hW hbb
 (with_reducible refine (rcut_to HL.out HN.out HP.out NN.out.row NN.out.len).mono ?_)
 rintro o wr ⟨Ar, cr, rfl, hrow, hb1⟩
 clear u0 u1 u2 u3
 have Nr := Aside0.mk (NB.new (k := kl) (e := el) (t := tl) hrow.1 hrow.2)
 have hb := below_step hb1 (below_alloc (Below.refl _ (wr)) (.cells #[.int .i64 kl, .bool el, .string tl, .slice Ar ll.length cr] 32))
 clear hrow hb1
 replace Nl := Aside0.mk (Nl.out.below hb)
 replace HB := Aside0.mk (below_step HB.out hb)
 clear hb
 obtain ⟨u0, u1, u2, u3⟩ := cells4 Nl.out.blk
 obtain ⟨v0, v1, v2, v3⟩ := cells4 Nr.out.blk
 go_wp2_with fail
 obtain ⟨Wr, hW⟩ : ∃ W, W = wr.alloc (.cells #[.int .i64 kl, .bool el, .string tl, .slice Ar ll.length cr] 32) := ⟨_, rfl⟩
 obtain ⟨br, hbb⟩ : ∃ b, b = wr.heap.size := ⟨_, rfl⟩
 rw [← hW] at Nl Nr HB ⊢
 rw [← hbb] at Nr ⊢
 clear hW hbb
 (with_reducible refine (eq_to rfl HFL.out Nl.out.row Nl.out.len Nr.out.row Nr.out.len).mono ?_)
 rintro o wq ⟨rfl, hb⟩
 clear u0 u1 u2 u3 v0 v1 v2 v3
 replace Nl := Aside0.mk (Nl.out.below hb)
 replace HB := Aside0.mk (below_step HB.out hb)
 clear hb
 go_wp2_with fail
 go_ret
 exact ⟨rfl, HB.out⟩
end Go.Proofs.YtnemeeidomceiaaDoor
end
