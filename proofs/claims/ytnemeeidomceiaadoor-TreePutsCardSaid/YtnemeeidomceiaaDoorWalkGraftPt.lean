import Derived.Test.YtnemeeidomceiaaDoorPt10
set_option linter.unusedSimpArgs false
set_option linter.unusedVariables false
namespace Go.Proofs.YtnemeeidomceiaaDoor
open Go.RowKit Go.Proofs.YtnemeeidomceiaaDoorW.PrintWords Go.Proofs.YtnemeeidomceiaaDoorW.PrintLast Go.Proofs.YtnemeeidomceiaaDoorW.PrintMore
set_option linter.unusedVariables false
set_option linter.unusedSimpArgs false
/-- Trees that graft bears. -/
inductive GK : List Ent → Prop
 | mk {l : List Ent} (h : Rising l) (n : l.length ≤ 1048576) (nm : ∀ y : Ent, y ∈ l → y.f0.size ≤ 255) (k : ∀ y : Ent, y ∈ l → GK y.f4) : GK l
theorem GK.fit {l : List Ent} (h : GK l) : Fit l := by
 induction h with
 | mk h n nm k ih => exact .mk (by omega) ih
theorem GK.nil : GK [] := .mk List.Pairwise.nil (by simp) (fun y hy => by simp at hy) (fun y hy => by simp at hy)
theorem GK.out {l : List Ent} (h : GK l) : Rising l ∧ l.length ≤ 1048576 ∧ (∀ y : Ent, y ∈ l → y.f0.size ≤ 255) ∧ ∀ y : Ent, y ∈ l → GK y.f4 := by
 cases h with
 | mk h n nm k => exact ⟨h, n, nm, k⟩
/-- The node that was there. -/
def oldN (l : List Ent) (s : ByteArray) : NodeT := match look l s with | none => zeroT | some x => nodeOf x
theorem oldN_some {l : List Ent} {s : ByteArray} {x : Ent} (hR : Rising l) (hm : x ∈ l) (hs : x.f0 = s) : oldN l s = nodeOf x := by
 unfold oldN; rw [(look_iff' hR).2 ⟨hm, hs⟩]
theorem oldN_none {l : List Ent} {s : ByteArray} (hR : Rising l) (hn : ∀ x : Ent, x ∈ l → x.f0 ≠ s) : oldN l s = zeroT := by
 unfold oldN
 cases h : look l s with
 | none => rfl
 | some x => exact absurd ((look_iff' hR).1 h).2 (hn x ((look_iff' hR).1 h).1)
/-- The first that isn't less is not the name: none is. -/
theorem oldN_past {l : List Ent} {s : ByteArray} (hR : Rising l) (j : Nat) (hlow : ∀ i (x : Ent), i < j → l[i]? = some x → cmpB x.f0 s < 0) (hj : ∀ x : Ent, l[j]? = some x → ¬ cmpB x.f0 s < 0 ∧ x.f0 ≠ s) : oldN l s = zeroT := by
 refine oldN_none hR (fun x hx e => ?_)
 obtain ⟨i, hi, hxe⟩ := List.getElem_of_mem hx
 have hix : l[i]? = some x := by rw [List.getElem?_eq_getElem hi, hxe]
 rcases Nat.lt_trichotomy i j with h | h | h
 ·have := hlow i x h hix
  rw [e, cmpB_self] at this; omega
 ·subst h; exact (hj x hix).2 e
 ·have hjl : j < l.length := by omega
  have hy : l[j]? = some l[j] := List.getElem?_eq_getElem hjl
  have h1 := hj _ hy
  have h2 : cmpB (l[j]).f0 x.f0 < 0 := hR.at h hy hix
  rw [e] at h2
  exact h1.1 h2
/-- What is left to be made. -/
def restG (z : Ent) (l : List Ent) (j : Nat) (d : Bool) : List Ent := if j ≤ l.length then grafL z (l.drop j) d else []
theorem restG_end {z : Ent} {l : List Ent} {j : Nat} (h : l.length < j) (d : Bool) : restG z l j d = [] := by
 unfold restG; rw [if_neg (by omega)]
theorem restG_last {z : Ent} {l : List Ent} {j : Nat} (h : j = l.length) (d : Bool) : restG z l j d = (if d = true then [] else [z]) ++ restG z l (j + 1) true := by
 rw [restG_end (j := j + 1) (by omega), List.append_nil]
 unfold restG
 rw [if_pos (by omega), h, List.drop_length]
 cases d <;> rfl
theorem restG_step {z : Ent} {l : List Ent} {j : Nat} {x : Ent} (h : l[j]? = some x) (d : Bool) : restG z l j d = (if d = false ∧ ¬ cmpB x.f0 z.f0 < 0 then [z] else []) ++ (if x.f0 ≠ z.f0 then [x] else []) ++ restG z l (j + 1) (d || decide (¬ cmpB x.f0 z.f0 < 0)) := by
 obtain ⟨hj, hx⟩ := List.getElem?_eq_some_iff.1 h
 unfold restG
 rw [if_pos (Nat.le_of_lt hj), if_pos (show j + 1 ≤ l.length from hj), List.drop_eq_getElem_cons hj, hx, grafL]
/-- A kid with memory of its own is appended. -/
theorem own_app {b3 base : Nat} {W7 wa wn : World} {v v1 u : Value} {P : List Ent} {ts : List Kid} {x : Ent} (hts : P = ts.map (·.x)) (hP : OwnP wa base (OwnB wa base (OwnB W7 base (fun k => b3 < k))) v ts) (hN : Own wa W7.heap.size (fun k => W7.heap.size ≤ k) u x.f4) (h0 : base ≤ W7.heap.size) (h3 : b3 < W7.heap.size) (hs : W7.heap.size ≤ wa.heap.size)
  (hrow : wn.ownsRow base eE 5 v1 (ts.length + 1) (fl ts ++ ecells x u)) (hg : wa.grownBy wn v.ownBlock) (hat : v1.ownBlock = v.ownBlock ∨ ∃ b, v1.ownBlock = some b ∧ wa.heap.size ≤ b) : Own wn base (fun k => b3 < k) v1 (P ++ [x]) := by
 have hvlt : ∀ k, v.ownBlock = some k → b3 < k ∧ k < W7.heap.size := fun k hk => ⟨(hP.own k hk).1.1, (hP.own k hk).1.2.2.1⟩
 rw [hts]
 refine hP.snoc (fun k hk => hk.2.2.1) ⟨x, u, OwnB wa W7.heap.size (fun k => W7.heap.size ≤ k)⟩ ((hN.bound.lower h0).grown hg (fun k hk e => ?_)) (fun k hk => ⟨fun h => ?_, ?_, fun e => ?_⟩) hrow hg hat (fun k hk => hk.1.1) (fun k hk => by omega)
 ·have := hvlt k e.symm; have := hk.2.1; omega
 ·have := h.1.2.2.1; have := hk.2.1; omega
 ·have := hk.2.1; show b3 < k; omega
 ·rcases hat with h1 | ⟨b, h1, hb⟩
  ·rw [h1] at e; have := hvlt k e.symm; have := hk.2.1; omega
  ·rw [h1] at e; injection e with e; have := hk.2.2.1; omega
theorem keep_app {wa wn : World} {base : Nat} {ok : Nat → Prop} {v : Value} {ts : List Kid} (hP : OwnP wa base (OwnB wa base ok) v ts) (hg : wa.grownBy wn v.ownBlock) {b q : Nat} {vs : List Value} (h : Blk wa b q vs) (hq : q ≠ eE) : Blk wn b q vs := (hg.block b h.lt (fun e => by
 obtain ⟨cells, hc⟩ := (hP.own b e.symm).2.2.2
 unfold Blk at h
 rw [h] at hc
 injection hc with hc
 injection hc with _ hc
 exact hq hc)).trans h
theorem ten {p q a b c d a' b' c' d' : Prop} (hp : p) (hq : q) (h : a ∧ b ∧ c ∧ d) (h' : a' ∧ b' ∧ c' ∧ d') : p ∧ q ∧ a ∧ b ∧ c ∧ d ∧ a' ∧ b' ∧ c' ∧ d' := ⟨hp, hq, h.1, h.2.1, h.2.2.1, h.2.2.2, h'⟩
set_option maxHeartbeats 16000000 in
set_option maxRecDepth 100000 in
theorem graft_calls (sk : Int) (se : Bool) (st : ByteArray) (sl : List Ent) (hfs : Fit sl) : ∀ (ns : List ByteArray) (k : Int) (e : Bool) (t : ByteArray) (l : List Ent) (A1 A2 A3 : Option Addr) (c1 c2 c3 : Nat) (w : World), GK l → (∀ s, s ∈ ns → s.size ≤ 255) → Kd.C kE w A1 l.length l → l.length ≤ c1 → Kd.C Kd.string w A2 ns.length ns → ns.length ≤ c2 → Kd.C kE w A3 sl.length sl → sl.length ≤ c3 →
  Calls Tryd.prog 50 #[.agg #[.int .i64 k, .bool e, .string t, .slice A1 l.length c1], .slice A2 ns.length c2, .agg #[.int .i64 sk, .bool se, .string st, .slice A3 sl.length c3]] w
   fun o w' => ∃ v, o = .returned (.agg #[.int .i64 (grafN ns (k, e, t, l) (sk, se, st, sl)).1, .bool (grafN ns (k, e, t, l) (sk, se, st, sl)).2.1, .string (grafN ns (k, e, t, l) (sk, se, st, sl)).2.2.1, v]) ∧ Own w' w.heap.size (fun k => w.heap.size ≤ k) v (grafN ns (k, e, t, l) (sk, se, st, sl)).2.2.2 ∧ Below w.heap.size w w' := by
 intro ns
 induction ns with
 | nil =>
  intro k e t l A1 A2 A3 c1 c2 c3 w hG hNm hC1 hc1 hC2 hc2 hC3 hc3
  have HC := Aside0.mk (And.intro hC3 hc3)
  clear hG hNm hC1 hc1 hC2 hc2 hC3 hc3
  have t1 : ((([] : List ByteArray).length : Int) == 0) = true := rfl
  show Calls _ _ _ _ (fun o w' => ∃ v, o = .returned (.agg #[.int .i64 sk, .bool se, .string st, v]) ∧ Own w' w.heap.size (fun k => w.heap.size ≤ k) v sl ∧ Below w.heap.size w w')
  go_enter Tryd.func50, Tryd.ntmps50
  go_wp2_with fail
  obtain ⟨W2, hW2⟩ : ∃ W2, W2 = ((w.alloc (.cells #[.int .i64 k, .bool e, .string t, .slice A1 l.length c1] 32)).alloc (.cells #[.int .i64 sk, .bool se, .string st, .slice A3 sl.length c3] 32)).alloc (.cells #[.int .i64 0, .bool false, .string ⟨#[]⟩, .slice none 0 0] 32) := ⟨_, rfl⟩
  obtain ⟨b2, hb2⟩ : ∃ b, b = w.heap.size + 1 + 1 := ⟨_, rfl⟩
  rw [← hW2, ← hb2]
  have B2 : Aside0 (Blk W2 b2 32 [.int .i64 0, .bool false, .string ⟨#[]⟩, .slice none 0 0]) := ⟨by rw [hW2]; exact Blk.new' _ _ [.int .i64 0, .bool false, .string ⟨#[]⟩, .slice none 0 0] (by rw [hb2]; simp)⟩
  have HB : Aside0 (Below w.heap.size w W2) := ⟨by rw [hW2]; exact below_alloc (below_alloc (below_alloc (Below.refl _ _) _) _) _⟩
  have HZ : Aside0 (w.heap.size ≤ b2) := ⟨by omega⟩
  clear hW2 hb2
  (with_reducible refine (cloneO_calls sl hfs sk se st A3 c3 W2 (Kd.C_below HC.out.1 HB.out) HC.out.2).mono ?_)
  rintro o w5 ⟨v4, rfl, hr4, hb⟩
  obtain ⟨A6, c6, hv4, _⟩ := hr4.slice
  subst hv4
  have HN := Aside0.mk hr4
  have HS := Aside0.mk HB.out.size
  replace B2 := Aside0.mk (B2.out.below hb)
  replace HB := Aside0.mk (below_step HB.out hb)
  clear hr4 hb
  obtain ⟨y0, y1, y2, y3⟩ := cells4 B2.out
  have z0 := B2.out.frozen 0
  have z1 := B2.out.frozen 1
  have z2 := B2.out.frozen 2
  have z3 := B2.out.frozen 3
  go_wp2_with fail
  have HF := below_put4 (b := b2) (c0 := .int .i64 sk) (c1 := .bool se) (c2 := .string st) (c3 := .slice A6 sl.length c6) HB.out HZ.out
  have HG := put4_blk (c0 := .int .i64 sk) (c1 := .bool se) (c2 := .string st) (c3 := .slice A6 sl.length c6) B2.out
  have HH := put4_own (c0 := .int .i64 sk) (c1 := .bool se) (c2 := .string st) (c3 := .slice A6 sl.length c6) HN.out B2.out
  obtain ⟨g0, g1, g2, g3⟩ := cells4 HG
  exact bodyPost_ret (v := .agg #[.int .i64 sk, .bool se, .string st, .slice A6 sl.length c6]) (by simp [results, Tryd.results50, go_sem, g0, g1, g2, g3]) rfl ⟨_, rfl, (HH.lower HS.out).mono (fun k hk => Nat.le_trans HS.out hk), HF⟩
 | cons s q ih =>
  intro k e t l A1 A2 A3 c1 c2 c3 w hG hNm hC1 hc1 hC2 hc2 hC3 hc3
  obtain ⟨z, hz⟩ : ∃ z, z = putK (grafN q (oldN l s) (sk, se, st, sl)) s := ⟨_, rfl⟩
  have hzs : z.f0 = s := by rw [hz]; rfl
  have hgr : grafN (s :: q) (k, e, t, l) (sk, se, st, sl) = (3, false, ⟨#[]⟩, grafL z l false) := by rw [hz]; rfl
  rw [hgr]
  show Calls _ _ _ _ (fun o w' => ∃ v, o = .returned (.agg #[.int .i64 3, .bool false, .string ⟨#[]⟩, v]) ∧ Own w' w.heap.size (fun k => w.heap.size ≤ k) v (grafL z l false) ∧ Below w.heap.size w w')
  subst hzs
  have hzs : z.f0 = z.f0 := rfl
  have HGK := Aside0.mk hG.out
  have HZE := Aside0.mk (And.intro hz hzs)
  have HNM := Aside0.mk hNm
  have HC := Aside0.mk hC1
  have HCS := Aside0.mk (And.intro hC3 hc3)
  have IH := Aside0.mk ih
  obtain ⟨ad, hA, hse⟩ := names_drop hC2 0 (by simp)
  subst hA
  rw [Addr.add_zero'] at hse
  have HSE : Aside0 (w.cell? ad = some (.string z.f0)) := ⟨hse⟩
  have HNS := Aside0.mk hC2
  have HAD : Aside0 (ad.add 1 = ⟨ad.block, ad.off + 1, none⟩) := ⟨by have h := add_field ad 0 1 (by omega); rw [Nat.zero_add, Addr.add_zero'] at h; exact h⟩
  obtain ⟨n, hn⟩ : ∃ n, n = l.length := ⟨_, rfl⟩
  obtain ⟨m2, hm2⟩ : ∃ m, m = (z.f0 :: q).length := ⟨_, rfl⟩
  have HNL := Aside0.mk hn
  have HM2 : Aside0 (m2 = q.length + 1) := ⟨hm2⟩
  have hn20 : n ≤ 1048576 := by rw [hn]; exact hG.out.2.1
  have hcm : m2 ≤ c2 := by rw [hm2]; exact hc2
  have hn1 : 1 ≤ m2 := by rw [hm2]; simp
  have hcn : n ≤ c1 := by rw [hn]; exact hc1
  have t1 : ((m2 : Int) == 0) = false := beq_eq_false_iff_ne.mpr (by omega)
  have g1 : (0 : Int) < (m2 : Int) := by omega
  have g0 : 0 < m2 := by omega
  have g2 : (1 : Int) ≤ (m2 : Int) := by omega
  rw [← hm2, ← hn]
  clear hG hz hzs hgr hNm hC1 hC3 hc3 ih hC2 hse hn hm2 hc1 hc2
  go_enter Tryd.func50, Tryd.ntmps50
  go_wp2_with fail
  obtain ⟨W2, hW2⟩ : ∃ W2, W2 = (((w.alloc (.cells #[.int .i64 k, .bool e, .string t, .slice A1 n c1] 32)).alloc (.cells #[.int .i64 sk, .bool se, .string st, .slice A3 sl.length c3] 32)).alloc (.cells #[.int .i64 0, .bool false, .string ⟨#[]⟩, .slice none 0 0] 32)).alloc (.cells #[.int .i64 3, .bool false, .string ⟨#[]⟩, .slice none 0 0] 32) := ⟨_, rfl⟩
  rw [← hW2]
  obtain ⟨b0, hb0⟩ : ∃ b, b = w.heap.size := ⟨_, rfl⟩
  obtain ⟨b1, hb1⟩ : ∃ b, b = w.heap.size + 1 := ⟨_, rfl⟩
  obtain ⟨b2, hb2⟩ : ∃ b, b = w.heap.size + 1 + 1 := ⟨_, rfl⟩
  obtain ⟨b3, hb3⟩ : ∃ b, b = w.heap.size + 1 + 1 + 1 := ⟨_, rfl⟩
  rw [← hb3, ← hb2, ← hb1, ← hb0]
  have B0 : Aside0 (Blk W2 b0 32 [.int .i64 k, .bool e, .string t, .slice A1 n c1]) := ⟨by rw [hW2, hb0]; exact (((Blk.new w _ [.int .i64 k, .bool e, .string t, .slice A1 n c1]).alloc _).alloc _).alloc _⟩
  have B1 : Aside0 (Blk W2 b1 32 [.int .i64 sk, .bool se, .string st, .slice A3 sl.length c3]) := ⟨by rw [hW2, hb1]; exact ((Blk.new' _ _ [.int .i64 sk, .bool se, .string st, .slice A3 sl.length c3] (by simp)).alloc _).alloc _⟩
  have B2 : Aside0 (Blk W2 b2 32 [.int .i64 0, .bool false, .string ⟨#[]⟩, .slice none 0 0]) := ⟨by rw [hW2]; exact (Blk.new' _ _ [.int .i64 0, .bool false, .string ⟨#[]⟩, .slice none 0 0] (by rw [hb2]; simp)).alloc _⟩
  have B3 : Aside0 (Blk W2 b3 32 [.int .i64 3, .bool false, .string ⟨#[]⟩, .slice none 0 0]) := ⟨by rw [hW2]; exact Blk.new' _ _ [.int .i64 3, .bool false, .string ⟨#[]⟩, .slice none 0 0] (by rw [hb3]; simp)⟩
  have HB : Aside0 (Below w.heap.size w W2) := ⟨by rw [hW2]; exact below_alloc (below_alloc (below_alloc (below_alloc (Below.refl _ _) _) _) _) _⟩
  have HZ : Aside0 (w.heap.size ≤ b0 ∧ w.heap.size ≤ b1 ∧ w.heap.size ≤ b2 ∧ w.heap.size ≤ b3 ∧ b0 < b3 ∧ b1 < b3 ∧ b2 < b3) := ⟨by omega⟩
  clear hW2 hb0 hb1 hb2 hb3
  go_loopw [8, 9, 10] (fun v8 v9 _ wr => ∃ (j : Nat) (d : Bool) (P : List Ent) (m : Nat) (A7 : Option Addr) (c7 : Nat), j ≤ n + 1 ∧ v8 = .bool d ∧ v9 = .int .i64 j ∧ m ≤ 2 * j ∧ Aside0 (P.length = m ∧ P ++ restG z l j d = grafL z l false ∧ (d = false → ∀ i (x : Ent), i < j → l[i]? = some x → cmpB x.f0 z.f0 < 0)) ∧ Aside0 (Blk wr b0 32 [.int .i64 k, .bool e, .string t, .slice A1 n c1]) ∧ Aside0 (Blk wr b1 32 [.int .i64 sk, .bool se, .string st, .slice A3 sl.length c3]) ∧ Aside0 (Blk wr b2 32 [.int .i64 0, .bool false, .string ⟨#[]⟩, .slice none 0 0]) ∧ Aside0 (Blk wr b3 32 [.int .i64 3, .bool false, .string ⟨#[]⟩, .slice A7 m c7]) ∧ Aside0 (Own wr w.heap.size (fun k => b3 < k) (.slice A7 m c7) P) ∧ Aside0 (Below w.heap.size w wr)) (fun _ v9 _ _ => n + 1 - (intOf v9).toNat)
  case atStart => exact ⟨0, false, [], 0, none, 0, by omega, rfl, rfl, Nat.le_refl _, ⟨rfl, by simp [restG], fun _ i x h => by omega⟩, B0, B1, B2, B3, ⟨Own.nil _ _ _⟩, HB⟩
  case round =>
   clear B0 B1 B2 B3 HB
   obtain ⟨j, d, P, m, A7, c7, hj, rfl, rfl, hmj, HP, B0, B1, B2, B3, HO, HB⟩ := hrel
   obtain ⟨u0, u1, u2, u3⟩ := cells4 B0.out
   by_cases hin : j ≤ n
   ·have p0 : (0 : Int) ≤ (j : Int) := by omega
    have p1 : (j : Int) ≤ (n : Int) := by omega
    go_wp2_with fail
    clear u0 u1 u2 u3
    by_cases hjn : j = n
    ·have q1 : ¬ (j : Int) < (n : Int) := by omega
     have q2 : ((j : Int) == (n : Int)) = true := beq_iff_eq.mpr (by omega)
     cases d with
     | true =>
      have HPL : Aside0 (P.length = m) := ⟨HP.out.1⟩

      refine start_ (n := 22) (S := fun _ => True) (ds := []) #[false, false, false, false, false, false, false, false, false, false, false, false, false, false, false, false, false, false, false, false, false, false] (by as_aux_lemma => kernel_rfl) rfl rfl (trivial) (fun hHeld => ?_)
      have hb : Below wr.heap.size wr wr.drew := below_drew (Below.refl _ _)
      replace B0 := Aside0.mk (B0.out.below hb)
      replace B1 := Aside0.mk (B1.out.below hb)
      replace B2 := Aside0.mk (B2.out.below hb)
      replace B3 := Aside0.mk (B3.out.below hb)
      replace HO := Aside0.mk (HO.out.newer hb)
      replace HB := Aside0.mk (below_step HB.out hb)
      generalize wr.drew = w1 at *
      clear hb

      refine pure_ (i := 0) (N := some 24) (v := ?_) (a' := ?_) #[true, false, false, false, false, false, false, false, false, false, false, false, false, false, false, false, false, false, false, false, false, false] rfl rfl (by as_aux_lemma => kernel_rfl) (fun _ _ _ h => h) (Or.inl ⟨by rfl, ?_⟩) ?_ ?_
      rotate_left
      ·intro w'
       go_simp
       with_reducible rfl
      rotate_left
      ·simp only [Act.put, List.setIfInBounds_toArray, List.set_cons_zero, List.set_cons_succ, i64_w, i32_w]
       rfl
      refine pure_ (i := 1) (N := some 25) (v := ?_) (a' := ?_) #[true, true, false, false, false, false, false, false, false, false, false, false, false, false, false, false, false, false, false, false, false, false] rfl rfl (by as_aux_lemma => kernel_rfl) (fun _ _ _ h => h) (Or.inl ⟨by rfl, ?_⟩) ?_ ?_
      rotate_left
      ·intro w'
       go_simp
       with_reducible rfl
      rotate_left
      ·simp only [Act.put, List.setIfInBounds_toArray, List.set_cons_zero, List.set_cons_succ, i64_w, i32_w]
       rfl
      refine pure_ (i := 2) (N := some 26) (v := ?_) (a' := ?_) #[true, true, true, false, false, false, false, false, false, false, false, false, false, false, false, false, false, false, false, false, false, false] rfl rfl (by as_aux_lemma => kernel_rfl) (fun _ _ _ h => h) (Or.inl ⟨by rfl, ?_⟩) ?_ ?_
      rotate_left
      ·intro w'
       go_simp
       with_reducible rfl
      rotate_left
      ·simp only [Act.put, List.setIfInBounds_toArray, List.set_cons_zero, List.set_cons_succ, i64_w, i32_w]
       rfl
      refine pure_ (i := 3) (N := some 27) (v := undef) (a' := ?_) #[true, true, true, true, false, false, false, false, false, false, false, false, false, false, false, false, false, false, false, false, false, false] rfl rfl (by as_aux_lemma => kernel_rfl) (fun _ _ _ h => h) (Or.inr ⟨by rfl, rfl⟩) ?_ ?_
      rotate_left
      ·simp only [Act.put, List.setIfInBounds_toArray, List.set_cons_zero, List.set_cons_succ, i64_w, i32_w]
       rfl
      refine pure_ (i := 4) (N := some 28) (v := undef) (a' := ?_) #[true, true, true, true, true, false, false, false, false, false, false, false, false, false, false, false, false, false, false, false, false, false] rfl rfl (by as_aux_lemma => kernel_rfl) (fun _ _ _ h => h) (Or.inr ⟨by rfl, rfl⟩) ?_ ?_
      rotate_left
      ·simp only [Act.put, List.setIfInBounds_toArray, List.set_cons_zero, List.set_cons_succ, i64_w, i32_w]
       rfl
      refine pure_ (i := 5) (N := some 29) (v := undef) (a' := ?_) #[true, true, true, true, true, true, false, false, false, false, false, false, false, false, false, false, false, false, false, false, false, false] rfl rfl (by as_aux_lemma => kernel_rfl) (fun _ _ _ h => h) (Or.inr ⟨by rfl, rfl⟩) ?_ ?_
      rotate_left
      ·simp only [Act.put, List.setIfInBounds_toArray, List.set_cons_zero, List.set_cons_succ, i64_w, i32_w]
       rfl
      refine pure_ (i := 6) (N := some 30) (v := undef) (a' := ?_) #[true, true, true, true, true, true, true, false, false, false, false, false, false, false, false, false, false, false, false, false, false, false] rfl rfl (by as_aux_lemma => kernel_rfl) (fun _ _ _ h => h) (Or.inr ⟨by rfl, rfl⟩) ?_ ?_
      rotate_left
      ·simp only [Act.put, List.setIfInBounds_toArray, List.set_cons_zero, List.set_cons_succ, i64_w, i32_w]
       rfl
      refine pure_ (i := 7) (N := some 31) (v := undef) (a' := ?_) #[true, true, true, true, true, true, true, true, false, false, false, false, false, false, false, false, false, false, false, false, false, false] rfl rfl (by as_aux_lemma => kernel_rfl) (fun _ _ _ h => h) (Or.inr ⟨by rfl, rfl⟩) ?_ ?_
      rotate_left
      ·simp only [Act.put, List.setIfInBounds_toArray, List.set_cons_zero, List.set_cons_succ, i64_w, i32_w]
       rfl
      refine pure_ (i := 8) (N := some 32) (v := undef) (a' := ?_) #[true, true, true, true, true, true, true, true, true, false, false, false, false, false, false, false, false, false, false, false, false, false] rfl rfl (by as_aux_lemma => kernel_rfl) (fun _ _ _ h => h) (Or.inr ⟨by rfl, rfl⟩) ?_ ?_
      rotate_left
      ·simp only [Act.put, List.setIfInBounds_toArray, List.set_cons_zero, List.set_cons_succ, i64_w, i32_w]
       rfl
      refine pure_ (i := 9) (N := some 33) (v := undef) (a' := ?_) #[true, true, true, true, true, true, true, true, true, true, false, false, false, false, false, false, false, false, false, false, false, false] rfl rfl (by as_aux_lemma => kernel_rfl) (fun _ _ _ h => h) (Or.inr ⟨by rfl, rfl⟩) ?_ ?_
      rotate_left
      ·simp only [Act.put, List.setIfInBounds_toArray, List.set_cons_zero, List.set_cons_succ, i64_w, i32_w]
       rfl
      refine pure_ (i := 10) (N := some 34) (v := undef) (a' := ?_) #[true, true, true, true, true, true, true, true, true, true, true, false, false, false, false, false, false, false, false, false, false, false] rfl rfl (by as_aux_lemma => kernel_rfl) (fun _ _ _ h => h) (Or.inr ⟨by rfl, rfl⟩) ?_ ?_
      rotate_left
      ·simp only [Act.put, List.setIfInBounds_toArray, List.set_cons_zero, List.set_cons_succ, i64_w, i32_w]
       rfl
      refine pure_ (i := 11) (N := some 35) (v := undef) (a' := ?_) #[true, true, true, true, true, true, true, true, true, true, true, true, false, false, false, false, false, false, false, false, false, false] rfl rfl (by as_aux_lemma => kernel_rfl) (fun _ _ _ h => h) (Or.inr ⟨by rfl, rfl⟩) ?_ ?_
      rotate_left
      ·simp only [Act.put, List.setIfInBounds_toArray, List.set_cons_zero, List.set_cons_succ, i64_w, i32_w]
       rfl
      refine pure_ (i := 12) (N := some 36) (v := undef) (a' := ?_) #[true, true, true, true, true, true, true, true, true, true, true, true, true, false, false, false, false, false, false, false, false, false] rfl rfl (by as_aux_lemma => kernel_rfl) (fun _ _ _ h => h) (Or.inr ⟨by rfl, rfl⟩) ?_ ?_
      rotate_left
      ·simp only [Act.put, List.setIfInBounds_toArray, List.set_cons_zero, List.set_cons_succ, i64_w, i32_w]
       rfl
      refine pure_ (i := 13) (N := some 37) (v := undef) (a' := ?_) #[true, true, true, true, true, true, true, true, true, true, true, true, true, true, false, false, false, false, false, false, false, false] rfl rfl (by as_aux_lemma => kernel_rfl) (fun _ _ _ h => h) (Or.inr ⟨by rfl, rfl⟩) ?_ ?_
      rotate_left
      ·simp only [Act.put, List.setIfInBounds_toArray, List.set_cons_zero, List.set_cons_succ, i64_w, i32_w]
       rfl
      refine pure_ (i := 14) (N := some 38) (v := undef) (a' := ?_) #[true, true, true, true, true, true, true, true, true, true, true, true, true, true, true, false, false, false, false, false, false, false] rfl rfl (by as_aux_lemma => kernel_rfl) (fun _ _ _ h => h) (Or.inr ⟨by rfl, rfl⟩) ?_ ?_
      rotate_left
      ·simp only [Act.put, List.setIfInBounds_toArray, List.set_cons_zero, List.set_cons_succ, i64_w, i32_w]
       rfl
      refine pure_ (i := 15) (N := some 39) (v := undef) (a' := ?_) #[true, true, true, true, true, true, true, true, true, true, true, true, true, true, true, true, false, false, false, false, false, false] rfl rfl (by as_aux_lemma => kernel_rfl) (fun _ _ _ h => h) (Or.inr ⟨by rfl, rfl⟩) ?_ ?_
      rotate_left
      ·simp only [Act.put, List.setIfInBounds_toArray, List.set_cons_zero, List.set_cons_succ, i64_w, i32_w]
       rfl
      refine pure_ (i := 16) (N := some 40) (v := undef) (a' := ?_) #[true, true, true, true, true, true, true, true, true, true, true, true, true, true, true, true, true, false, false, false, false, false] rfl rfl (by as_aux_lemma => kernel_rfl) (fun _ _ _ h => h) (Or.inr ⟨by rfl, rfl⟩) ?_ ?_
      rotate_left
      ·simp only [Act.put, List.setIfInBounds_toArray, List.set_cons_zero, List.set_cons_succ, i64_w, i32_w]
       rfl
      refine pure_ (i := 17) (N := some 41) (v := undef) (a' := ?_) #[true, true, true, true, true, true, true, true, true, true, true, true, true, true, true, true, true, true, false, false, false, false] rfl rfl (by as_aux_lemma => kernel_rfl) (fun _ _ _ h => h) (Or.inr ⟨by rfl, rfl⟩) ?_ ?_
      rotate_left
      ·simp only [Act.put, List.setIfInBounds_toArray, List.set_cons_zero, List.set_cons_succ, i64_w, i32_w]
       rfl
      refine pure_ (i := 18) (N := some 42) (v := undef) (a' := ?_) #[true, true, true, true, true, true, true, true, true, true, true, true, true, true, true, true, true, true, true, false, false, false] rfl rfl (by as_aux_lemma => kernel_rfl) (fun _ _ _ h => h) (Or.inr ⟨by rfl, rfl⟩) ?_ ?_
      rotate_left
      ·simp only [Act.put, List.setIfInBounds_toArray, List.set_cons_zero, List.set_cons_succ, i64_w, i32_w]
       rfl
      refine pure_ (i := 19) (N := some 43) (v := undef) (a' := ?_) #[true, true, true, true, true, true, true, true, true, true, true, true, true, true, true, true, true, true, true, true, false, false] rfl rfl (by as_aux_lemma => kernel_rfl) (fun _ _ _ h => h) (Or.inr ⟨by rfl, rfl⟩) ?_ ?_
      rotate_left
      ·simp only [Act.put, List.setIfInBounds_toArray, List.set_cons_zero, List.set_cons_succ, i64_w, i32_w]
       rfl
      refine pure_ (i := 20) (N := some 44) (v := undef) (a' := ?_) #[true, true, true, true, true, true, true, true, true, true, true, true, true, true, true, true, true, true, true, true, true, false] rfl rfl (by as_aux_lemma => kernel_rfl) (fun _ _ _ h => h) (Or.inr ⟨by rfl, rfl⟩) ?_ ?_
      rotate_left
      ·simp only [Act.put, List.setIfInBounds_toArray, List.set_cons_zero, List.set_cons_succ, i64_w, i32_w]
       rfl
      refine pure_ (i := 21) (N := some 45) (v := ?_) (a' := ?_) #[true, true, true, true, true, true, true, true, true, true, true, true, true, true, true, true, true, true, true, true, true, true] rfl rfl (by as_aux_lemma => kernel_rfl) (fun _ _ _ h => h) (Or.inl ⟨by rfl, ?_⟩) ?_ ?_
      rotate_left
      ·intro w'
       go_simp
       with_reducible rfl
      rotate_left
      ·simp only [Act.put, List.setIfInBounds_toArray, List.set_cons_zero, List.set_cons_succ, i64_w, i32_w]
       rfl
      refine done_ (by as_aux_lemma => kernel_rfl) ?_
      go_wp2_with fail

      refine start_ (n := 17) (S := fun w' => w'.cell? ⟨b0, 3, none⟩ = some (.slice A1 n c1)) (ds := []) #[false, false, false, false, false, false, false, false, false, false, false, false, false, false, false, false, false] (by as_aux_lemma => kernel_rfl) rfl rfl ((B0.out.below (below_drew (Below.refl _ _))).cell 3 _ rfl) (fun hHeld => ?_)
      have hb : Below w1.heap.size w1 w1.drew := below_drew (Below.refl _ _)
      replace B0 := Aside0.mk (B0.out.below hb)
      replace B1 := Aside0.mk (B1.out.below hb)
      replace B2 := Aside0.mk (B2.out.below hb)
      replace B3 := Aside0.mk (B3.out.below hb)
      replace HO := Aside0.mk (HO.out.newer hb)
      replace HB := Aside0.mk (below_step HB.out hb)
      generalize w1.drew = w6 at *
      clear hb

      refine pure_ (i := 0) (N := some 83) (v := ?_) (a' := ?_) #[true, false, false, false, false, false, false, false, false, false, false, false, false, false, false, false, false] rfl rfl (by as_aux_lemma => kernel_rfl) (fun _ _ _ h => h) (Or.inl ⟨by rfl, ?_⟩) ?_ ?_
      rotate_left
      ·intro w'
       go_simp
       with_reducible rfl
      rotate_left
      ·simp only [Act.put, List.setIfInBounds_toArray, List.set_cons_zero, List.set_cons_succ, i64_w, i32_w]
       rfl
      refine pure_ (i := 1) (N := some 84) (v := ?_) (a' := ?_) #[true, true, false, false, false, false, false, false, false, false, false, false, false, false, false, false, false] rfl rfl (by as_aux_lemma => kernel_rfl) (fun _ _ _ h => h) (Or.inl ⟨by rfl, ?_⟩) ?_ ?_
      rotate_left
      ·intro w'
       go_simp
       with_reducible rfl
      rotate_left
      ·simp only [Act.put, List.setIfInBounds_toArray, List.set_cons_zero, List.set_cons_succ, i64_w, i32_w]
       rfl
      refine take_ (i := 2) (N := some 85) (v := ?_) (a' := ?_) #[true, true, true, false, false, false, false, false, false, false, false, false, false, false, false, false, false] rfl rfl (by as_aux_lemma => kernel_rfl) (fun _ _ _ h => h) (Or.inl ⟨by rfl, ?_⟩) hHeld ?_ ?_
      rotate_left
      ·intro w' s0
       go_simp
       with_reducible rfl
      rotate_left
      ·simp only [Act.put, List.setIfInBounds_toArray, List.set_cons_zero, List.set_cons_succ, i64_w, i32_w]
       rfl
      refine pure_ (i := 3) (N := some 86) (v := ?_) (a' := ?_) #[true, true, true, true, false, false, false, false, false, false, false, false, false, false, false, false, false] rfl rfl (by as_aux_lemma => kernel_rfl) (fun _ _ _ h => h) (Or.inl ⟨by rfl, ?_⟩) ?_ ?_
      rotate_left
      ·intro w'
       go_simp
       with_reducible rfl
      rotate_left
      ·simp only [Act.put, List.setIfInBounds_toArray, List.set_cons_zero, List.set_cons_succ, i64_w, i32_w]
       rfl
      refine pure_ (i := 4) (N := some 87) (v := ?_) (a' := ?_) #[true, true, true, true, true, false, false, false, false, false, false, false, false, false, false, false, false] rfl rfl (by as_aux_lemma => kernel_rfl) (fun _ _ _ h => h) (Or.inl ⟨by rfl, ?_⟩) ?_ ?_
      rotate_left
      ·intro w'
       go_simp
       with_reducible rfl
      rotate_left
      ·simp only [Act.put, List.setIfInBounds_toArray, List.set_cons_zero, List.set_cons_succ, i64_w, i32_w]
       rfl
      refine pure_ (i := 5) (N := some 88) (v := ?_) (a' := ?_) #[true, true, true, true, true, true, false, false, false, false, false, false, false, false, false, false, false] rfl rfl (by as_aux_lemma => kernel_rfl) (fun _ _ _ h => h) (Or.inl ⟨by rfl, ?_⟩) ?_ ?_
      rotate_left
      ·intro w'
       go_simp
       with_reducible rfl
      rotate_left
      ·simp only [Act.put, List.setIfInBounds_toArray, List.set_cons_zero, List.set_cons_succ, i64_w, i32_w]
       rfl
      refine pure_ (i := 6) (N := some 89) (v := undef) (a' := ?_) #[true, true, true, true, true, true, true, false, false, false, false, false, false, false, false, false, false] rfl rfl (by as_aux_lemma => kernel_rfl) (fun _ _ _ h => h) (Or.inr ⟨by rfl, rfl⟩) ?_ ?_
      rotate_left
      ·simp only [Act.put, List.setIfInBounds_toArray, List.set_cons_zero, List.set_cons_succ, i64_w, i32_w]
       rfl
      refine pure_ (i := 7) (N := some 90) (v := undef) (a' := ?_) #[true, true, true, true, true, true, true, true, false, false, false, false, false, false, false, false, false] rfl rfl (by as_aux_lemma => kernel_rfl) (fun _ _ _ h => h) (Or.inr ⟨by rfl, rfl⟩) ?_ ?_
      rotate_left
      ·simp only [Act.put, List.setIfInBounds_toArray, List.set_cons_zero, List.set_cons_succ, i64_w, i32_w]
       rfl
      refine pure_ (i := 8) (N := some 91) (v := undef) (a' := ?_) #[true, true, true, true, true, true, true, true, true, false, false, false, false, false, false, false, false] rfl rfl (by as_aux_lemma => kernel_rfl) (fun _ _ _ h => h) (Or.inr ⟨by rfl, rfl⟩) ?_ ?_
      rotate_left
      ·simp only [Act.put, List.setIfInBounds_toArray, List.set_cons_zero, List.set_cons_succ, i64_w, i32_w]
       rfl
      refine pure_ (i := 9) (N := some 92) (v := undef) (a' := ?_) #[true, true, true, true, true, true, true, true, true, true, false, false, false, false, false, false, false] rfl rfl (by as_aux_lemma => kernel_rfl) (fun _ _ _ h => h) (Or.inr ⟨by rfl, rfl⟩) ?_ ?_
      rotate_left
      ·simp only [Act.put, List.setIfInBounds_toArray, List.set_cons_zero, List.set_cons_succ, i64_w, i32_w]
       rfl
      refine pure_ (i := 10) (N := some 93) (v := undef) (a' := ?_) #[true, true, true, true, true, true, true, true, true, true, true, false, false, false, false, false, false] rfl rfl (by as_aux_lemma => kernel_rfl) (fun _ _ _ h => h) (Or.inr ⟨by rfl, rfl⟩) ?_ ?_
      rotate_left
      ·simp only [Act.put, List.setIfInBounds_toArray, List.set_cons_zero, List.set_cons_succ, i64_w, i32_w]
       rfl
      refine pure_ (i := 11) (N := some 94) (v := undef) (a' := ?_) #[true, true, true, true, true, true, true, true, true, true, true, true, false, false, false, false, false] rfl rfl (by as_aux_lemma => kernel_rfl) (fun _ _ _ h => h) (Or.inr ⟨by rfl, rfl⟩) ?_ ?_
      rotate_left
      ·simp only [Act.put, List.setIfInBounds_toArray, List.set_cons_zero, List.set_cons_succ, i64_w, i32_w]
       rfl
      refine pure_ (i := 12) (N := some 95) (v := undef) (a' := ?_) #[true, true, true, true, true, true, true, true, true, true, true, true, true, false, false, false, false] rfl rfl (by as_aux_lemma => kernel_rfl) (fun _ _ _ h => h) (Or.inr ⟨by rfl, rfl⟩) ?_ ?_
      rotate_left
      ·simp only [Act.put, List.setIfInBounds_toArray, List.set_cons_zero, List.set_cons_succ, i64_w, i32_w]
       rfl
      refine pure_ (i := 13) (N := some 96) (v := undef) (a' := ?_) #[true, true, true, true, true, true, true, true, true, true, true, true, true, true, false, false, false] rfl rfl (by as_aux_lemma => kernel_rfl) (fun _ _ _ h => h) (Or.inr ⟨by rfl, rfl⟩) ?_ ?_
      rotate_left
      ·simp only [Act.put, List.setIfInBounds_toArray, List.set_cons_zero, List.set_cons_succ, i64_w, i32_w]
       rfl
      refine pure_ (i := 14) (N := some 97) (v := undef) (a' := ?_) #[true, true, true, true, true, true, true, true, true, true, true, true, true, true, true, false, false] rfl rfl (by as_aux_lemma => kernel_rfl) (fun _ _ _ h => h) (Or.inr ⟨by rfl, rfl⟩) ?_ ?_
      rotate_left
      ·simp only [Act.put, List.setIfInBounds_toArray, List.set_cons_zero, List.set_cons_succ, i64_w, i32_w]
       rfl
      refine pure_ (i := 15) (N := some 98) (v := undef) (a' := ?_) #[true, true, true, true, true, true, true, true, true, true, true, true, true, true, true, true, false] rfl rfl (by as_aux_lemma => kernel_rfl) (fun _ _ _ h => h) (Or.inr ⟨by rfl, rfl⟩) ?_ ?_
      rotate_left
      ·simp only [Act.put, List.setIfInBounds_toArray, List.set_cons_zero, List.set_cons_succ, i64_w, i32_w]
       rfl
      refine pure_ (i := 16) (N := some 99) (v := ?_) (a' := ?_) #[true, true, true, true, true, true, true, true, true, true, true, true, true, true, true, true, true] rfl rfl (by as_aux_lemma => kernel_rfl) (fun _ _ _ h => h) (Or.inl ⟨by rfl, ?_⟩) ?_ ?_
      rotate_left
      ·intro w'
       go_simp
       with_reducible rfl
      rotate_left
      ·simp only [Act.put, List.setIfInBounds_toArray, List.set_cons_zero, List.set_cons_succ, i64_w, i32_w]
       rfl
      refine done_ (by as_aux_lemma => kernel_rfl) ?_
      go_wp2_with fail

      go_roundw
      case rel => exact ⟨j + 1, true, P, m, A7, c7, by omega, rfl, by go_num, by omega, ⟨HPL.out, by have h1 := HP.out.2.1; rw [restG_last (by have := HNL.out; omega)] at h1; simpa using h1, fun h => by cases h⟩, B0, B1, B2, B3, HO, HB⟩
      case measure => simp [intOf]; omega
     | false =>
      have HPL : Aside0 (P.length = m) := ⟨HP.out.1⟩

      refine start_ (n := 22) (S := fun w' => w'.cell? ⟨b0, 3, none⟩ = some (.slice A1 n c1)) (ds := []) #[false, false, false, false, false, false, false, false, false, false, false, false, false, false, false, false, false, false, false, false, false, false] (by as_aux_lemma => kernel_rfl) rfl rfl ((B0.out.below (below_drew (Below.refl _ _))).cell 3 _ rfl) (fun hHeld => ?_)
      have hb : Below wr.heap.size wr wr.drew := below_drew (Below.refl _ _)
      replace B0 := Aside0.mk (B0.out.below hb)
      replace B1 := Aside0.mk (B1.out.below hb)
      replace B2 := Aside0.mk (B2.out.below hb)
      replace B3 := Aside0.mk (B3.out.below hb)
      replace HO := Aside0.mk (HO.out.newer hb)
      replace HB := Aside0.mk (below_step HB.out hb)
      generalize wr.drew = w1 at *
      clear hb

      refine pure_ (i := 0) (N := some 24) (v := ?_) (a' := ?_) #[true, false, false, false, false, false, false, false, false, false, false, false, false, false, false, false, false, false, false, false, false, false] rfl rfl (by as_aux_lemma => kernel_rfl) (fun _ _ _ h => h) (Or.inl ⟨by rfl, ?_⟩) ?_ ?_
      rotate_left
      ·intro w'
       go_simp
       with_reducible rfl
      rotate_left
      ·simp only [Act.put, List.setIfInBounds_toArray, List.set_cons_zero, List.set_cons_succ, i64_w, i32_w]
       rfl
      refine pure_ (i := 1) (N := some 25) (v := ?_) (a' := ?_) #[true, true, false, false, false, false, false, false, false, false, false, false, false, false, false, false, false, false, false, false, false, false] rfl rfl (by as_aux_lemma => kernel_rfl) (fun _ _ _ h => h) (Or.inl ⟨by rfl, ?_⟩) ?_ ?_
      rotate_left
      ·intro w'
       go_simp
       with_reducible rfl
      rotate_left
      ·simp only [Act.put, List.setIfInBounds_toArray, List.set_cons_zero, List.set_cons_succ, i64_w, i32_w]
       rfl
      refine pure_ (i := 2) (N := some 26) (v := ?_) (a' := ?_) #[true, true, true, false, false, false, false, false, false, false, false, false, false, false, false, false, false, false, false, false, false, false] rfl rfl (by as_aux_lemma => kernel_rfl) (fun _ _ _ h => h) (Or.inl ⟨by rfl, ?_⟩) ?_ ?_
      rotate_left
      ·intro w'
       go_simp
       with_reducible rfl
      rotate_left
      ·simp only [Act.put, List.setIfInBounds_toArray, List.set_cons_zero, List.set_cons_succ, i64_w, i32_w]
       rfl
      refine pure_ (i := 3) (N := some 27) (v := ?_) (a' := ?_) #[true, true, true, true, false, false, false, false, false, false, false, false, false, false, false, false, false, false, false, false, false, false] rfl rfl (by as_aux_lemma => kernel_rfl) (fun _ _ _ h => h) (Or.inl ⟨by rfl, ?_⟩) ?_ ?_
      rotate_left
      ·intro w'
       go_simp
       with_reducible rfl
      rotate_left
      ·simp only [Act.put, List.setIfInBounds_toArray, List.set_cons_zero, List.set_cons_succ, i64_w, i32_w]
       rfl
      refine pure_ (i := 4) (N := some 28) (v := ?_) (a' := ?_) #[true, true, true, true, true, false, false, false, false, false, false, false, false, false, false, false, false, false, false, false, false, false] rfl rfl (by as_aux_lemma => kernel_rfl) (fun _ _ _ h => h) (Or.inl ⟨by rfl, ?_⟩) ?_ ?_
      rotate_left
      ·intro w'
       go_simp
       with_reducible rfl
      rotate_left
      ·simp only [Act.put, List.setIfInBounds_toArray, List.set_cons_zero, List.set_cons_succ, i64_w, i32_w]
       rfl
      refine take_ (i := 5) (N := some 29) (v := ?_) (a' := ?_) #[true, true, true, true, true, true, false, false, false, false, false, false, false, false, false, false, false, false, false, false, false, false] rfl rfl (by as_aux_lemma => kernel_rfl) (fun _ _ _ h => h) (Or.inl ⟨by rfl, ?_⟩) hHeld ?_ ?_
      rotate_left
      ·intro w' s0
       go_simp
       with_reducible rfl
      rotate_left
      ·simp only [Act.put, List.setIfInBounds_toArray, List.set_cons_zero, List.set_cons_succ, i64_w, i32_w]
       rfl
      refine pure_ (i := 6) (N := some 30) (v := ?_) (a' := ?_) #[true, true, true, true, true, true, true, false, false, false, false, false, false, false, false, false, false, false, false, false, false, false] rfl rfl (by as_aux_lemma => kernel_rfl) (fun _ _ _ h => h) (Or.inl ⟨by rfl, ?_⟩) ?_ ?_
      rotate_left
      ·intro w'
       go_simp
       with_reducible rfl
      rotate_left
      ·simp only [Act.put, List.setIfInBounds_toArray, List.set_cons_zero, List.set_cons_succ, i64_w, i32_w]
       rfl
      refine pure_ (i := 7) (N := some 31) (v := ?_) (a' := ?_) #[true, true, true, true, true, true, true, true, false, false, false, false, false, false, false, false, false, false, false, false, false, false] rfl rfl (by as_aux_lemma => kernel_rfl) (fun _ _ _ h => h) (Or.inl ⟨by rfl, ?_⟩) ?_ ?_
      rotate_left
      ·intro w'
       go_simp
       with_reducible rfl
      rotate_left
      ·simp only [Act.put, List.setIfInBounds_toArray, List.set_cons_zero, List.set_cons_succ, i64_w, i32_w]
       rfl
      refine pure_ (i := 8) (N := some 32) (v := ?_) (a' := ?_) #[true, true, true, true, true, true, true, true, true, false, false, false, false, false, false, false, false, false, false, false, false, false] rfl rfl (by as_aux_lemma => kernel_rfl) (fun _ _ _ h => h) (Or.inl ⟨by rfl, ?_⟩) ?_ ?_
      rotate_left
      ·intro w'
       go_simp
       with_reducible rfl
      rotate_left
      ·simp only [Act.put, List.setIfInBounds_toArray, List.set_cons_zero, List.set_cons_succ, i64_w, i32_w]
       rfl
      refine pure_ (i := 9) (N := some 33) (v := undef) (a' := ?_) #[true, true, true, true, true, true, true, true, true, true, false, false, false, false, false, false, false, false, false, false, false, false] rfl rfl (by as_aux_lemma => kernel_rfl) (fun _ _ _ h => h) (Or.inr ⟨by rfl, rfl⟩) ?_ ?_
      rotate_left
      ·simp only [Act.put, List.setIfInBounds_toArray, List.set_cons_zero, List.set_cons_succ, i64_w, i32_w]
       rfl
      refine pure_ (i := 10) (N := some 34) (v := undef) (a' := ?_) #[true, true, true, true, true, true, true, true, true, true, true, false, false, false, false, false, false, false, false, false, false, false] rfl rfl (by as_aux_lemma => kernel_rfl) (fun _ _ _ h => h) (Or.inr ⟨by rfl, rfl⟩) ?_ ?_
      rotate_left
      ·simp only [Act.put, List.setIfInBounds_toArray, List.set_cons_zero, List.set_cons_succ, i64_w, i32_w]
       rfl
      refine pure_ (i := 11) (N := some 35) (v := undef) (a' := ?_) #[true, true, true, true, true, true, true, true, true, true, true, true, false, false, false, false, false, false, false, false, false, false] rfl rfl (by as_aux_lemma => kernel_rfl) (fun _ _ _ h => h) (Or.inr ⟨by rfl, rfl⟩) ?_ ?_
      rotate_left
      ·simp only [Act.put, List.setIfInBounds_toArray, List.set_cons_zero, List.set_cons_succ, i64_w, i32_w]
       rfl
      refine pure_ (i := 12) (N := some 36) (v := undef) (a' := ?_) #[true, true, true, true, true, true, true, true, true, true, true, true, true, false, false, false, false, false, false, false, false, false] rfl rfl (by as_aux_lemma => kernel_rfl) (fun _ _ _ h => h) (Or.inr ⟨by rfl, rfl⟩) ?_ ?_
      rotate_left
      ·simp only [Act.put, List.setIfInBounds_toArray, List.set_cons_zero, List.set_cons_succ, i64_w, i32_w]
       rfl
      refine pure_ (i := 13) (N := some 37) (v := undef) (a' := ?_) #[true, true, true, true, true, true, true, true, true, true, true, true, true, true, false, false, false, false, false, false, false, false] rfl rfl (by as_aux_lemma => kernel_rfl) (fun _ _ _ h => h) (Or.inr ⟨by rfl, rfl⟩) ?_ ?_
      rotate_left
      ·simp only [Act.put, List.setIfInBounds_toArray, List.set_cons_zero, List.set_cons_succ, i64_w, i32_w]
       rfl
      refine pure_ (i := 14) (N := some 38) (v := undef) (a' := ?_) #[true, true, true, true, true, true, true, true, true, true, true, true, true, true, true, false, false, false, false, false, false, false] rfl rfl (by as_aux_lemma => kernel_rfl) (fun _ _ _ h => h) (Or.inr ⟨by rfl, rfl⟩) ?_ ?_
      rotate_left
      ·simp only [Act.put, List.setIfInBounds_toArray, List.set_cons_zero, List.set_cons_succ, i64_w, i32_w]
       rfl
      refine pure_ (i := 15) (N := some 39) (v := undef) (a' := ?_) #[true, true, true, true, true, true, true, true, true, true, true, true, true, true, true, true, false, false, false, false, false, false] rfl rfl (by as_aux_lemma => kernel_rfl) (fun _ _ _ h => h) (Or.inr ⟨by rfl, rfl⟩) ?_ ?_
      rotate_left
      ·simp only [Act.put, List.setIfInBounds_toArray, List.set_cons_zero, List.set_cons_succ, i64_w, i32_w]
       rfl
      refine pure_ (i := 16) (N := some 40) (v := undef) (a' := ?_) #[true, true, true, true, true, true, true, true, true, true, true, true, true, true, true, true, true, false, false, false, false, false] rfl rfl (by as_aux_lemma => kernel_rfl) (fun _ _ _ h => h) (Or.inr ⟨by rfl, rfl⟩) ?_ ?_
      rotate_left
      ·simp only [Act.put, List.setIfInBounds_toArray, List.set_cons_zero, List.set_cons_succ, i64_w, i32_w]
       rfl
      refine pure_ (i := 17) (N := some 41) (v := undef) (a' := ?_) #[true, true, true, true, true, true, true, true, true, true, true, true, true, true, true, true, true, true, false, false, false, false] rfl rfl (by as_aux_lemma => kernel_rfl) (fun _ _ _ h => h) (Or.inr ⟨by rfl, rfl⟩) ?_ ?_
      rotate_left
      ·simp only [Act.put, List.setIfInBounds_toArray, List.set_cons_zero, List.set_cons_succ, i64_w, i32_w]
       rfl
      refine pure_ (i := 18) (N := some 42) (v := undef) (a' := ?_) #[true, true, true, true, true, true, true, true, true, true, true, true, true, true, true, true, true, true, true, false, false, false] rfl rfl (by as_aux_lemma => kernel_rfl) (fun _ _ _ h => h) (Or.inr ⟨by rfl, rfl⟩) ?_ ?_
      rotate_left
      ·simp only [Act.put, List.setIfInBounds_toArray, List.set_cons_zero, List.set_cons_succ, i64_w, i32_w]
       rfl
      refine pure_ (i := 19) (N := some 43) (v := undef) (a' := ?_) #[true, true, true, true, true, true, true, true, true, true, true, true, true, true, true, true, true, true, true, true, false, false] rfl rfl (by as_aux_lemma => kernel_rfl) (fun _ _ _ h => h) (Or.inr ⟨by rfl, rfl⟩) ?_ ?_
      rotate_left
      ·simp only [Act.put, List.setIfInBounds_toArray, List.set_cons_zero, List.set_cons_succ, i64_w, i32_w]
       rfl
      refine pure_ (i := 20) (N := some 44) (v := ?_) (a' := ?_) #[true, true, true, true, true, true, true, true, true, true, true, true, true, true, true, true, true, true, true, true, true, false] rfl rfl (by as_aux_lemma => kernel_rfl) (fun _ _ _ h => h) (Or.inl ⟨by rfl, ?_⟩) ?_ ?_
      rotate_left
      ·intro w'
       go_simp
       with_reducible rfl
      rotate_left
      ·simp only [Act.put, List.setIfInBounds_toArray, List.set_cons_zero, List.set_cons_succ, i64_w, i32_w]
       rfl
      refine pure_ (i := 21) (N := some 45) (v := ?_) (a' := ?_) #[true, true, true, true, true, true, true, true, true, true, true, true, true, true, true, true, true, true, true, true, true, true] rfl rfl (by as_aux_lemma => kernel_rfl) (fun _ _ _ h => h) (Or.inl ⟨by rfl, ?_⟩) ?_ ?_
      rotate_left
      ·intro w'
       go_simp
       with_reducible rfl
      rotate_left
      ·simp only [Act.put, List.setIfInBounds_toArray, List.set_cons_zero, List.set_cons_succ, i64_w, i32_w]
       rfl
      refine done_ (by as_aux_lemma => kernel_rfl) ?_
      go_wp2_with fail

      have hlt3_ := B3.out.lt
      obtain ⟨w3, hw3⟩ : ∃ w3, w3 = w1.alloc (.cells #[.int .i64 0, .bool false, .string ⟨#[]⟩, .slice none 0 0] 32) := ⟨_, rfl⟩
      obtain ⟨b10, hb10⟩ : ∃ b, b = w1.heap.size := ⟨_, rfl⟩
      rw [← hw3, ← hb10]
      have B10 : Aside0 (Blk w3 b10 32 [.int .i64 0, .bool false, .string ⟨#[]⟩, .slice none 0 0]) := ⟨by rw [hw3, hb10]; exact Blk.new w1 _ [.int .i64 0, .bool false, .string ⟨#[]⟩, .slice none 0 0]⟩
      have hb : Below w1.heap.size w1 w3 := by rw [hw3]; exact below_alloc (Below.refl _ _) _
      replace B0 := Aside0.mk (B0.out.below hb)
      replace B1 := Aside0.mk (B1.out.below hb)
      replace B2 := Aside0.mk (B2.out.below hb)
      replace B3 := Aside0.mk (B3.out.below hb)
      replace HO := Aside0.mk (HO.out.newer hb)
      replace HB := Aside0.mk (below_step HB.out hb)

      have HZ10 : Aside0 (b3 < b10) := ⟨by rw [hb10]; exact hlt3_⟩
      clear hw3 hb10 hb hlt3_

      refine start_ (n := 17) (S := fun w' => w'.cell? ⟨b0, 3, none⟩ = some (.slice A1 n c1)) (ds := []) #[false, false, false, false, false, false, false, false, false, false, false, false, false, false, false, false, false] (by as_aux_lemma => kernel_rfl) rfl rfl ((B0.out.below (below_drew (Below.refl _ _))).cell 3 _ rfl) (fun hHeld => ?_)
      have hb : Below w3.heap.size w3 w3.drew := below_drew (Below.refl _ _)
      replace B0 := Aside0.mk (B0.out.below hb)
      replace B1 := Aside0.mk (B1.out.below hb)
      replace B2 := Aside0.mk (B2.out.below hb)
      replace B3 := Aside0.mk (B3.out.below hb)
      replace B10 := Aside0.mk (B10.out.below hb)
      replace HO := Aside0.mk (HO.out.newer hb)
      replace HB := Aside0.mk (below_step HB.out hb)
      generalize w3.drew = w4a at *
      clear hb

      refine pure_ (i := 0) (N := some 46) (v := ?_) (a' := ?_) #[true, false, false, false, false, false, false, false, false, false, false, false, false, false, false, false, false] rfl rfl (by as_aux_lemma => kernel_rfl) (fun _ _ _ h => h) (Or.inl ⟨by rfl, ?_⟩) ?_ ?_
      rotate_left
      ·intro w'
       go_simp
       with_reducible rfl
      rotate_left
      ·simp only [Act.put, List.setIfInBounds_toArray, List.set_cons_zero, List.set_cons_succ, i64_w, i32_w]
       rfl
      refine pure_ (i := 1) (N := some 47) (v := ?_) (a' := ?_) #[true, true, false, false, false, false, false, false, false, false, false, false, false, false, false, false, false] rfl rfl (by as_aux_lemma => kernel_rfl) (fun _ _ _ h => h) (Or.inl ⟨by rfl, ?_⟩) ?_ ?_
      rotate_left
      ·intro w'
       go_simp
       with_reducible rfl
      rotate_left
      ·simp only [Act.put, List.setIfInBounds_toArray, List.set_cons_zero, List.set_cons_succ, i64_w, i32_w]
       rfl
      refine take_ (i := 2) (N := some 48) (v := ?_) (a' := ?_) #[true, true, true, false, false, false, false, false, false, false, false, false, false, false, false, false, false] rfl rfl (by as_aux_lemma => kernel_rfl) (fun _ _ _ h => h) (Or.inl ⟨by rfl, ?_⟩) hHeld ?_ ?_
      rotate_left
      ·intro w' s0
       go_simp
       with_reducible rfl
      rotate_left
      ·simp only [Act.put, List.setIfInBounds_toArray, List.set_cons_zero, List.set_cons_succ, i64_w, i32_w]
       rfl
      refine pure_ (i := 3) (N := some 49) (v := ?_) (a' := ?_) #[true, true, true, true, false, false, false, false, false, false, false, false, false, false, false, false, false] rfl rfl (by as_aux_lemma => kernel_rfl) (fun _ _ _ h => h) (Or.inl ⟨by rfl, ?_⟩) ?_ ?_
      rotate_left
      ·intro w'
       go_simp
       with_reducible rfl
      rotate_left
      ·simp only [Act.put, List.setIfInBounds_toArray, List.set_cons_zero, List.set_cons_succ, i64_w, i32_w]
       rfl
      refine pure_ (i := 4) (N := some 50) (v := ?_) (a' := ?_) #[true, true, true, true, true, false, false, false, false, false, false, false, false, false, false, false, false] rfl rfl (by as_aux_lemma => kernel_rfl) (fun _ _ _ h => h) (Or.inl ⟨by rfl, ?_⟩) ?_ ?_
      rotate_left
      ·intro w'
       go_simp
       with_reducible rfl
      rotate_left
      ·simp only [Act.put, List.setIfInBounds_toArray, List.set_cons_zero, List.set_cons_succ, i64_w, i32_w]
       rfl
      refine pure_ (i := 5) (N := some 51) (v := ?_) (a' := ?_) #[true, true, true, true, true, true, false, false, false, false, false, false, false, false, false, false, false] rfl rfl (by as_aux_lemma => kernel_rfl) (fun _ _ _ h => h) (Or.inl ⟨by rfl, ?_⟩) ?_ ?_
      rotate_left
      ·intro w'
       go_simp
       with_reducible rfl
      rotate_left
      ·simp only [Act.put, List.setIfInBounds_toArray, List.set_cons_zero, List.set_cons_succ, i64_w, i32_w]
       rfl
      refine pure_ (i := 6) (N := some 52) (v := undef) (a' := ?_) #[true, true, true, true, true, true, true, false, false, false, false, false, false, false, false, false, false] rfl rfl (by as_aux_lemma => kernel_rfl) (fun _ _ _ h => h) (Or.inr ⟨by rfl, rfl⟩) ?_ ?_
      rotate_left
      ·simp only [Act.put, List.setIfInBounds_toArray, List.set_cons_zero, List.set_cons_succ, i64_w, i32_w]
       rfl
      refine pure_ (i := 7) (N := some 53) (v := undef) (a' := ?_) #[true, true, true, true, true, true, true, true, false, false, false, false, false, false, false, false, false] rfl rfl (by as_aux_lemma => kernel_rfl) (fun _ _ _ h => h) (Or.inr ⟨by rfl, rfl⟩) ?_ ?_
      rotate_left
      ·simp only [Act.put, List.setIfInBounds_toArray, List.set_cons_zero, List.set_cons_succ, i64_w, i32_w]
       rfl
      refine pure_ (i := 8) (N := some 54) (v := undef) (a' := ?_) #[true, true, true, true, true, true, true, true, true, false, false, false, false, false, false, false, false] rfl rfl (by as_aux_lemma => kernel_rfl) (fun _ _ _ h => h) (Or.inr ⟨by rfl, rfl⟩) ?_ ?_
      rotate_left
      ·simp only [Act.put, List.setIfInBounds_toArray, List.set_cons_zero, List.set_cons_succ, i64_w, i32_w]
       rfl
      refine pure_ (i := 9) (N := some 55) (v := undef) (a' := ?_) #[true, true, true, true, true, true, true, true, true, true, false, false, false, false, false, false, false] rfl rfl (by as_aux_lemma => kernel_rfl) (fun _ _ _ h => h) (Or.inr ⟨by rfl, rfl⟩) ?_ ?_
      rotate_left
      ·simp only [Act.put, List.setIfInBounds_toArray, List.set_cons_zero, List.set_cons_succ, i64_w, i32_w]
       rfl
      refine pure_ (i := 10) (N := some 56) (v := undef) (a' := ?_) #[true, true, true, true, true, true, true, true, true, true, true, false, false, false, false, false, false] rfl rfl (by as_aux_lemma => kernel_rfl) (fun _ _ _ h => h) (Or.inr ⟨by rfl, rfl⟩) ?_ ?_
      rotate_left
      ·simp only [Act.put, List.setIfInBounds_toArray, List.set_cons_zero, List.set_cons_succ, i64_w, i32_w]
       rfl
      refine pure_ (i := 11) (N := some 57) (v := undef) (a' := ?_) #[true, true, true, true, true, true, true, true, true, true, true, true, false, false, false, false, false] rfl rfl (by as_aux_lemma => kernel_rfl) (fun _ _ _ h => h) (Or.inr ⟨by rfl, rfl⟩) ?_ ?_
      rotate_left
      ·simp only [Act.put, List.setIfInBounds_toArray, List.set_cons_zero, List.set_cons_succ, i64_w, i32_w]
       rfl
      refine pure_ (i := 12) (N := some 58) (v := undef) (a' := ?_) #[true, true, true, true, true, true, true, true, true, true, true, true, true, false, false, false, false] rfl rfl (by as_aux_lemma => kernel_rfl) (fun _ _ _ h => h) (Or.inr ⟨by rfl, rfl⟩) ?_ ?_
      rotate_left
      ·simp only [Act.put, List.setIfInBounds_toArray, List.set_cons_zero, List.set_cons_succ, i64_w, i32_w]
       rfl
      refine pure_ (i := 13) (N := some 59) (v := undef) (a' := ?_) #[true, true, true, true, true, true, true, true, true, true, true, true, true, true, false, false, false] rfl rfl (by as_aux_lemma => kernel_rfl) (fun _ _ _ h => h) (Or.inr ⟨by rfl, rfl⟩) ?_ ?_
      rotate_left
      ·simp only [Act.put, List.setIfInBounds_toArray, List.set_cons_zero, List.set_cons_succ, i64_w, i32_w]
       rfl
      refine pure_ (i := 14) (N := some 60) (v := undef) (a' := ?_) #[true, true, true, true, true, true, true, true, true, true, true, true, true, true, true, false, false] rfl rfl (by as_aux_lemma => kernel_rfl) (fun _ _ _ h => h) (Or.inr ⟨by rfl, rfl⟩) ?_ ?_
      rotate_left
      ·simp only [Act.put, List.setIfInBounds_toArray, List.set_cons_zero, List.set_cons_succ, i64_w, i32_w]
       rfl
      refine pure_ (i := 15) (N := some 61) (v := undef) (a' := ?_) #[true, true, true, true, true, true, true, true, true, true, true, true, true, true, true, true, false] rfl rfl (by as_aux_lemma => kernel_rfl) (fun _ _ _ h => h) (Or.inr ⟨by rfl, rfl⟩) ?_ ?_
      rotate_left
      ·simp only [Act.put, List.setIfInBounds_toArray, List.set_cons_zero, List.set_cons_succ, i64_w, i32_w]
       rfl
      refine pure_ (i := 16) (N := some 62) (v := ?_) (a' := ?_) #[true, true, true, true, true, true, true, true, true, true, true, true, true, true, true, true, true] rfl rfl (by as_aux_lemma => kernel_rfl) (fun _ _ _ h => h) (Or.inl ⟨by rfl, ?_⟩) ?_ ?_
      rotate_left
      ·intro w'
       go_simp
       with_reducible rfl
      rotate_left
      ·simp only [Act.put, List.setIfInBounds_toArray, List.set_cons_zero, List.set_cons_succ, i64_w, i32_w]
       rfl
      refine done_ (by as_aux_lemma => kernel_rfl) ?_
      go_wp2_with fail

      obtain ⟨ok, oe, ot, ol, AO, cO, hok, hB10, HOC⟩ : ∃ (ok : Int) (oe : Bool) (ot : ByteArray) (ol : List Ent) (AO : Option Addr) (cO : Nat), True ∧ Aside0 (Blk w4a b10 32 [.int .i64 ok, .bool oe, .string ot, .slice AO ol.length cO]) ∧ Aside0 (Kd.C kE w AO ol.length ol ∧ ol.length ≤ cO ∧ GK ol ∧ oldN l z.f0 = (ok, oe, ot, ol)) := ⟨0, false, ⟨#[]⟩, [], none, 0, trivial, B10, ⟨Kd.C_nil _ _, Nat.le_refl _, GK.nil, oldN_past HGK.out.1 j (HP.out.2.2 (by first | trivial | rfl)) (fun x hx => by have := (List.getElem?_eq_some_iff.1 hx).1; have := HNL.out; omega)⟩⟩
      replace B10 := hB10
      clear hB10 hok

      have hse_ := pw_cell_below HB.out HSE.out
      refine start_ (n := 15) (S := fun w' => w'.cell? ⟨b3, 3, none⟩ = some (.slice A7 m c7) ∧ w'.cell? ad = some (.string z.f0) ∧ w'.cell? ⟨b10, 0, none⟩ = some (.int .i64 ok) ∧ w'.cell? ⟨b10, 1, none⟩ = some (.bool oe) ∧ w'.cell? ⟨b10, 2, none⟩ = some (.string ot) ∧ w'.cell? ⟨b10, 3, none⟩ = some (.slice AO ol.length cO) ∧ w'.cell? ⟨b1, 0, none⟩ = some (.int .i64 sk) ∧ w'.cell? ⟨b1, 1, none⟩ = some (.bool se) ∧ w'.cell? ⟨b1, 2, none⟩ = some (.string st) ∧ w'.cell? ⟨b1, 3, none⟩ = some (.slice A3 sl.length c3)) (ds := [14]) #[false, false, false, false, false, false, false, false, false, false, false, false, false, false, false] (by as_aux_lemma => kernel_rfl) rfl rfl (ten ((B3.out.below (below_drew (Below.refl _ _))).cell 3 _ rfl) (pw_cell_below (below_drew (Below.refl _ _)) hse_) (cells4 (B10.out.below (below_drew (Below.refl _ _)))) (cells4 (B1.out.below (below_drew (Below.refl _ _))))) (fun hHeld => ?_)
      have hb : Below w4a.heap.size w4a w4a.drew := below_drew (Below.refl _ _)
      replace B0 := Aside0.mk (B0.out.below hb)
      replace B1 := Aside0.mk (B1.out.below hb)
      replace B2 := Aside0.mk (B2.out.below hb)
      replace B3 := Aside0.mk (B3.out.below hb)
      replace B10 := Aside0.mk (B10.out.below hb)
      replace HO := Aside0.mk (HO.out.newer hb)
      replace HB := Aside0.mk (below_step HB.out hb)
      generalize w4a.drew = w4 at *
      clear hb

      clear hse_
      refine pure_ (i := 0) (N := some 69) (v := ?_) (a' := ?_) #[true, false, false, false, false, false, false, false, false, false, false, false, false, false, false] rfl rfl (by as_aux_lemma => kernel_rfl) (fun _ _ _ h => h) (Or.inl ⟨by rfl, ?_⟩) ?_ ?_
      rotate_left
      ·intro w'
       go_simp
       with_reducible rfl
      rotate_left
      ·simp only [Act.put, List.setIfInBounds_toArray, List.set_cons_zero, List.set_cons_succ, i64_w, i32_w]
       rfl
      refine take_ (i := 1) (N := some 70) (v := ?_) (a' := ?_) #[true, true, false, false, false, false, false, false, false, false, false, false, false, false, false] rfl rfl (by as_aux_lemma => kernel_rfl) (fun _ _ _ h => h) (Or.inl ⟨by rfl, ?_⟩) hHeld ?_ ?_
      rotate_left
      ·rintro w' ⟨s0, s1, s2, s3, s4, s5, s6, s7, s8, s9⟩
       go_simp
       with_reducible rfl
      rotate_left
      ·simp only [Act.put, List.setIfInBounds_toArray, List.set_cons_zero, List.set_cons_succ, i64_w, i32_w]
       rfl
      refine pure_ (i := 2) (N := some 71) (v := ?_) (a' := ?_) #[true, true, true, false, false, false, false, false, false, false, false, false, false, false, false] rfl rfl (by as_aux_lemma => kernel_rfl) (fun _ _ _ h => h) (Or.inl ⟨by rfl, ?_⟩) ?_ ?_
      rotate_left
      ·intro w'
       go_simp
       with_reducible rfl
      rotate_left
      ·simp only [Act.put, List.setIfInBounds_toArray, List.set_cons_zero, List.set_cons_succ, i64_w, i32_w]
       rfl
      refine pure_ (i := 3) (N := some 72) (v := ?_) (a' := ?_) #[true, true, true, true, false, false, false, false, false, false, false, false, false, false, false] rfl rfl (by as_aux_lemma => kernel_rfl) (fun _ _ _ h => h) (Or.inl ⟨by rfl, ?_⟩) ?_ ?_
      rotate_left
      ·intro w'
       go_simp
       with_reducible rfl
      rotate_left
      ·simp only [Act.put, List.setIfInBounds_toArray, List.set_cons_zero, List.set_cons_succ, i64_w, i32_w]
       rfl
      refine take_ (i := 4) (N := some 73) (v := ?_) (a' := ?_) #[true, true, true, true, true, false, false, false, false, false, false, false, false, false, false] rfl rfl (by as_aux_lemma => kernel_rfl) (fun _ _ _ h => h) (Or.inl ⟨by rfl, ?_⟩) hHeld ?_ ?_
      rotate_left
      ·rintro w' ⟨s0, s1, s2, s3, s4, s5, s6, s7, s8, s9⟩
       go_simp
       with_reducible rfl
      rotate_left
      ·simp only [Act.put, List.setIfInBounds_toArray, List.set_cons_zero, List.set_cons_succ, i64_w, i32_w]
       rfl
      refine take_ (i := 5) (N := some 74) (v := ?_) (a' := ?_) #[true, true, true, true, true, true, false, false, false, false, false, false, false, false, false] rfl rfl (by as_aux_lemma => kernel_rfl) (fun _ _ _ h => h) (Or.inl ⟨by rfl, ?_⟩) hHeld ?_ ?_
      rotate_left
      ·rintro w' ⟨s0, s1, s2, s3, s4, s5, s6, s7, s8, s9⟩
       go_simp
       with_reducible rfl
      rotate_left
      ·simp only [Act.put, List.setIfInBounds_toArray, List.set_cons_zero, List.set_cons_succ, i64_w, i32_w]
       rfl
      refine pure_ (i := 6) (N := some 75) (v := ?_) (a' := ?_) #[true, true, true, true, true, true, true, false, false, false, false, false, false, false, false] rfl rfl (by as_aux_lemma => kernel_rfl) (fun _ _ _ h => h) (Or.inl ⟨by rfl, ?_⟩) ?_ ?_
      rotate_left
      ·intro w'
       go_simp
       with_reducible rfl
      rotate_left
      ·simp only [Act.put, List.setIfInBounds_toArray, List.set_cons_zero, List.set_cons_succ, i64_w, i32_w]
       rfl
      refine pure_ (i := 7) (N := some 76) (v := ?_) (a' := ?_) #[true, true, true, true, true, true, true, true, false, false, false, false, false, false, false] rfl rfl (by as_aux_lemma => kernel_rfl) (fun _ _ _ h => h) (Or.inl ⟨by rfl, ?_⟩) ?_ ?_
      rotate_left
      ·intro w'
       go_simp
       with_reducible rfl
      rotate_left
      ·simp only [Act.put, List.setIfInBounds_toArray, List.set_cons_zero, List.set_cons_succ, i64_w, i32_w]
       rfl
      refine take_ (i := 8) (N := some 77) (v := ?_) (a' := ?_) #[true, true, true, true, true, true, true, true, true, false, false, false, false, false, false] rfl rfl (by as_aux_lemma => kernel_rfl) (fun _ _ _ h => h) (Or.inl ⟨by rfl, ?_⟩) hHeld ?_ ?_
      rotate_left
      ·rintro w' ⟨s0, s1, s2, s3, s4, s5, s6, s7, s8, s9⟩
       go_simp
       with_reducible rfl
      rotate_left
      ·simp only [Act.put, List.setIfInBounds_toArray, List.set_cons_zero, List.set_cons_succ, i64_w, i32_w]
       rfl
      refine one_ (i := 9) (N := some 78) #[true, true, true, true, true, true, true, true, true, true, false, false, false, false, false] rfl rfl (by as_aux_lemma => kernel_rfl) (by decide) (fun K hK => ?_)
      refine goes_ Tryd.func50 (by as_aux_lemma => kernel_rfl) rfl #[.agg #[.int .i64 ok, .bool oe, .string ot, .slice AO ol.length cO], .slice (if c2 = 1 then some ad else some ⟨ad.block, ad.off + 1, none⟩) (m2 - 1) (c2 - 1), .agg #[.int .i64 sk, .bool se, .string st, .slice A3 sl.length c3]] (by rfl) rfl rfl (by (try simp only [List.map_toArray, List.map_cons, List.map_nil]); first | done | rfl) ?_
      have hNQ : Kd.C Kd.string w4 (if c2 = 1 then some ad else some ⟨ad.block, ad.off + 1, none⟩) q.length q := by
       rw [← HAD.out]
       have h1 := Kd.C_drop (c := c2) (m := 1) (Kd.C_below HNS.out HB.out) (by simp) (by have := HM2.out; simp; omega)
       exact h1
      have hIH := IH.out ok oe ot ol AO (if c2 = 1 then some ad else some ⟨ad.block, ad.off + 1, none⟩) A3 cO (c2 - 1) c3 w4 HOC.out.2.2.1 (fun s hs => HNM.out s (List.mem_cons_of_mem _ hs)) (Kd.C_below HOC.out.1 HB.out) HOC.out.2.1 hNQ (by have := HM2.out; omega) (Kd.C_below HCS.out.1 HB.out) HCS.out.2
      rw [show q.length = m2 - 1 from by have := HM2.out; omega, show grafN q (ok, oe, ot, ol) (sk, se, st, sl) = (z.f1, z.f2, z.f3, z.f4) from by
       have h1 := HZE.out.1
       rw [HOC.out.2.2.2] at h1
       generalize grafN q (ok, oe, ot, ol) (sk, se, st, sl) = G at h1
       rw [h1]; rfl] at hIH
      refine hIH.mono ?_
      clear hIH hNQ
      generalize (if c2 = 1 then some ad else some (⟨ad.block, ad.off + 1, none⟩ : Addr)) = NA

      rintro o w5 ⟨v4, rfl, hr4, hb⟩
      obtain ⟨A6, c6, hv4, _⟩ := hr4.slice
      subst hv4
      have HN := Aside0.mk hr4
      have HZ7 := Aside0.mk (And.intro HB.out.size (And.intro B3.out.lt hb.size))
      replace B0 := Aside0.mk (B0.out.below hb)
      replace B1 := Aside0.mk (B1.out.below hb)
      replace B2 := Aside0.mk (B2.out.below hb)
      replace B3 := Aside0.mk (B3.out.below hb)
      replace B10 := Aside0.mk (B10.out.below hb)
      replace HO := Aside0.mk (HO.out.bound.newer hb)
      replace HB := Aside0.mk (below_step HB.out hb)
      clear hr4 hb
      refine ⟨_, rfl, ?_⟩
      refine hK.out _ _ (ten (B3.out.cell 3 _ rfl) (pw_cell_below HB.out HSE.out) (cells4 B10.out) (cells4 B1.out)) (fun _ => ?_)
      clear hK K
      refine pure_ (i := 10) (N := some 79) (v := ?_) (a' := ?_) #[true, true, true, true, true, true, true, true, true, true, true, false, false, false, false] rfl rfl (by as_aux_lemma => kernel_rfl) (fun _ _ _ h => h) (Or.inl ⟨by rfl, ?_⟩) ?_ ?_
      rotate_left
      ·intro w'
       go_simp
       with_reducible rfl
      rotate_left
      ·simp only [Act.put, List.setIfInBounds_toArray, List.set_cons_zero, List.set_cons_succ, i64_w, i32_w]
       rfl
      refine one_ (i := 11) (N := some 80) #[true, true, true, true, true, true, true, true, true, true, true, true, false, false, false] rfl rfl (by as_aux_lemma => kernel_rfl) (by decide) (fun K hK => ?_)
      refine value_ (w1 := w5.alloc (.cells #[.string z.f0, .int .i64 z.f1, .bool z.f2, .string z.f3, .slice A6 z.f4.length c6] 63)) (v := .slice (some ⟨w5.heap.size, 0, none⟩) 1 1) (by rfl) rfl ?_ ?_
      ·go_simp
      have hba : Below w5.heap.size w5 (w5.alloc (.cells #[.string z.f0, .int .i64 z.f1, .bool z.f2, .string z.f3, .slice A6 z.f4.length c6] 63)) := below_alloc (Below.refl _ _) _
      refine hK.out _ _ (ten ((B3.out.below hba).cell 3 _ rfl) (pw_cell_below (below_step HB.out hba) HSE.out) (cells4 (B10.out.below hba)) (cells4 (B1.out.below hba))) (fun _ => ?_)
      clear hK K hba
      refine one_ (i := 12) (N := some 81) #[true, true, true, true, true, true, true, true, true, true, true, true, true, false, false] rfl rfl (by as_aux_lemma => kernel_rfl) (by decide) (fun K hK => ?_)

      obtain ⟨ts, hts, hP⟩ := HO.out.parts
      have hln := congrArg List.length hts
      rw [List.length_map] at hln
      refine step_append_cells (w0 := w) w.heap.size (by rfl) (.tmp 70) (.tmp 80) 30 63 (.agg #[.string ⟨#[]⟩, .int .i64 0, .bool false, .string ⟨#[]⟩, .slice none 0 0]) 5 72 rfl Tryd.underlying30 (by as_aux_lemma => kernel_rfl) rfl (by decide) (by decide)
       (.slice A7 m c7) ts.length (fl ts) (ecells z (.slice A6 z.f4.length c6)) (by rfl) (by rfl) rfl (ecells_one rfl) hP.row HB.out HB.out.size (by have := HPL.out; omega) ?_
      intro v1 wn hrow hb1 hg hat
      have hO8 := own_app (b3 := b3) (x := z) hts hP HN.out HZ7.out.1 HZ7.out.2.1 HZ7.out.2.2 hrow hg hat
      obtain ⟨A8, c8, hv8⟩ : ∃ A8 c8, v1 = .slice A8 (m + 1) c8 := by
       obtain ⟨A8, c8, h, _⟩ := hO8.slice
       exact ⟨A8, c8, by rw [h, List.length_append, HPL.out]; rfl⟩
      subst hv8
      replace B0 := Aside0.mk (keep_app hP hg B0.out (by decide))
      replace B1 := Aside0.mk (keep_app hP hg B1.out (by decide))
      replace B2 := Aside0.mk (keep_app hP hg B2.out (by decide))
      replace B3 := Aside0.mk (keep_app hP hg B3.out (by decide))
      replace B10 := Aside0.mk (keep_app hP hg B10.out (by decide))
      replace HO := Aside0.mk hO8
      replace HPL : Aside0 ((P ++ [z]).length = m + 1) := ⟨by rw [List.length_append, HPL.out]; rfl⟩
      replace HB := Aside0.mk hb1
      have y03 := B3.out.frozen 3
      have x03 := B3.out.cell 3 _ rfl
      clear hrow hb1 hg hat hln hts hP ts hO8 HN HZ7
      refine hK.out _ _ (ten (B3.out.cell 3 _ rfl) (pw_cell_below HB.out HSE.out) (cells4 B10.out) (cells4 B1.out)) (fun _ => ?_)
      clear hK K
      refine pure_ (i := 13) (N := some 82) (v := ?_) (a' := ?_) #[true, true, true, true, true, true, true, true, true, true, true, true, true, true, false] rfl rfl (by as_aux_lemma => kernel_rfl) (fun _ _ _ h => h) (Or.inl ⟨by rfl, ?_⟩) ?_ ?_
      rotate_left
      ·intro w'
       go_simp
       with_reducible rfl
      rotate_left
      ·simp only [Act.put, List.setIfInBounds_toArray, List.set_cons_zero, List.set_cons_succ, i64_w, i32_w]
       rfl
      refine last_ (i := 14) (N := none) #[true, true, true, true, true, true, true, true, true, true, true, true, true, true, true] rfl rfl (by as_aux_lemma => kernel_rfl) (by decide) (fun K hK => ?_)
      refine skip_ (w1 := wn.setCell ⟨b3, 3, none⟩ (.slice A8 (m + 1) c8)) (by rfl) rfl ?_ ?_
      ·go_simp
      refine hK.out _ _ ?_
      clear hK K
      refine done_ (by as_aux_lemma => kernel_rfl) ?_
      obtain ⟨w6, hW9⟩ : ∃ W9, W9 = wn.setCell ⟨b3, 3, none⟩ (.slice A8 (m + 1) c8) := ⟨_, rfl⟩
      have hz5 := HZ.out
      replace B0 : Aside0 (Blk w6 b0 32 [.int .i64 k, .bool e, .string t, .slice A1 n c1]) := ⟨by rw [hW9]; exact (Below.heap_setCell _ _ _ _ (by show b0 ≠ b3; omega)).trans B0.out⟩
      replace B1 : Aside0 (Blk w6 b1 32 [.int .i64 sk, .bool se, .string st, .slice A3 sl.length c3]) := ⟨by rw [hW9]; exact (Below.heap_setCell _ _ _ _ (by show b1 ≠ b3; omega)).trans B1.out⟩
      replace B2 : Aside0 (Blk w6 b2 32 [.int .i64 0, .bool false, .string ⟨#[]⟩, .slice none 0 0]) := ⟨by rw [hW9]; exact (Below.heap_setCell _ _ _ _ (by show b2 ≠ b3; omega)).trans B2.out⟩
      replace HO : Aside0 (Own w6 w.heap.size (fun k => b3 < k) (.slice A8 (m + 1) c8) (P ++ [z])) := ⟨by rw [hW9]; exact HO.out.set B3.out (by decide) 3 _⟩
      replace HB : Aside0 (Below w.heap.size w w6) := ⟨by rw [hW9]; exact HB.out.setCell (p := ⟨b3, 3, none⟩) (by show w.heap.size ≤ b3; omega) _⟩
      replace B3 : Aside0 (Blk w6 b3 32 [.int .i64 3, .bool false, .string ⟨#[]⟩, .slice A8 (m + 1) c8]) := ⟨by rw [hW9]; exact blk_put (cs := #[.int .i64 3, .bool false, .string ⟨#[]⟩, .slice A7 m c7]) B3.out 3 _ rfl⟩
      rw [← hW9]
      clear hW9 hz5 x03 y03 B10 HOC hHeld
      go_wp2_with fail

      refine start_ (n := 17) (S := fun w' => w'.cell? ⟨b0, 3, none⟩ = some (.slice A1 n c1)) (ds := []) #[false, false, false, false, false, false, false, false, false, false, false, false, false, false, false, false, false] (by as_aux_lemma => kernel_rfl) rfl rfl ((B0.out.below (below_drew (Below.refl _ _))).cell 3 _ rfl) (fun hHeld => ?_)
      have hb : Below w6.heap.size w6 w6.drew := below_drew (Below.refl _ _)
      replace B0 := Aside0.mk (B0.out.below hb)
      replace B1 := Aside0.mk (B1.out.below hb)
      replace B2 := Aside0.mk (B2.out.below hb)
      replace B3 := Aside0.mk (B3.out.below hb)
      replace HO := Aside0.mk (HO.out.newer hb)
      replace HB := Aside0.mk (below_step HB.out hb)
      generalize w6.drew = w8 at *
      clear hb

      refine pure_ (i := 0) (N := some 83) (v := ?_) (a' := ?_) #[true, false, false, false, false, false, false, false, false, false, false, false, false, false, false, false, false] rfl rfl (by as_aux_lemma => kernel_rfl) (fun _ _ _ h => h) (Or.inl ⟨by rfl, ?_⟩) ?_ ?_
      rotate_left
      ·intro w'
       go_simp
       with_reducible rfl
      rotate_left
      ·simp only [Act.put, List.setIfInBounds_toArray, List.set_cons_zero, List.set_cons_succ, i64_w, i32_w]
       rfl
      refine pure_ (i := 1) (N := some 84) (v := ?_) (a' := ?_) #[true, true, false, false, false, false, false, false, false, false, false, false, false, false, false, false, false] rfl rfl (by as_aux_lemma => kernel_rfl) (fun _ _ _ h => h) (Or.inl ⟨by rfl, ?_⟩) ?_ ?_
      rotate_left
      ·intro w'
       go_simp
       with_reducible rfl
      rotate_left
      ·simp only [Act.put, List.setIfInBounds_toArray, List.set_cons_zero, List.set_cons_succ, i64_w, i32_w]
       rfl
      refine take_ (i := 2) (N := some 85) (v := ?_) (a' := ?_) #[true, true, true, false, false, false, false, false, false, false, false, false, false, false, false, false, false] rfl rfl (by as_aux_lemma => kernel_rfl) (fun _ _ _ h => h) (Or.inl ⟨by rfl, ?_⟩) hHeld ?_ ?_
      rotate_left
      ·intro w' s0
       go_simp
       with_reducible rfl
      rotate_left
      ·simp only [Act.put, List.setIfInBounds_toArray, List.set_cons_zero, List.set_cons_succ, i64_w, i32_w]
       rfl
      refine pure_ (i := 3) (N := some 86) (v := ?_) (a' := ?_) #[true, true, true, true, false, false, false, false, false, false, false, false, false, false, false, false, false] rfl rfl (by as_aux_lemma => kernel_rfl) (fun _ _ _ h => h) (Or.inl ⟨by rfl, ?_⟩) ?_ ?_
      rotate_left
      ·intro w'
       go_simp
       with_reducible rfl
      rotate_left
      ·simp only [Act.put, List.setIfInBounds_toArray, List.set_cons_zero, List.set_cons_succ, i64_w, i32_w]
       rfl
      refine pure_ (i := 4) (N := some 87) (v := ?_) (a' := ?_) #[true, true, true, true, true, false, false, false, false, false, false, false, false, false, false, false, false] rfl rfl (by as_aux_lemma => kernel_rfl) (fun _ _ _ h => h) (Or.inl ⟨by rfl, ?_⟩) ?_ ?_
      rotate_left
      ·intro w'
       go_simp
       with_reducible rfl
      rotate_left
      ·simp only [Act.put, List.setIfInBounds_toArray, List.set_cons_zero, List.set_cons_succ, i64_w, i32_w]
       rfl
      refine pure_ (i := 5) (N := some 88) (v := ?_) (a' := ?_) #[true, true, true, true, true, true, false, false, false, false, false, false, false, false, false, false, false] rfl rfl (by as_aux_lemma => kernel_rfl) (fun _ _ _ h => h) (Or.inl ⟨by rfl, ?_⟩) ?_ ?_
      rotate_left
      ·intro w'
       go_simp
       with_reducible rfl
      rotate_left
      ·simp only [Act.put, List.setIfInBounds_toArray, List.set_cons_zero, List.set_cons_succ, i64_w, i32_w]
       rfl
      refine pure_ (i := 6) (N := some 89) (v := undef) (a' := ?_) #[true, true, true, true, true, true, true, false, false, false, false, false, false, false, false, false, false] rfl rfl (by as_aux_lemma => kernel_rfl) (fun _ _ _ h => h) (Or.inr ⟨by rfl, rfl⟩) ?_ ?_
      rotate_left
      ·simp only [Act.put, List.setIfInBounds_toArray, List.set_cons_zero, List.set_cons_succ, i64_w, i32_w]
       rfl
      refine pure_ (i := 7) (N := some 90) (v := undef) (a' := ?_) #[true, true, true, true, true, true, true, true, false, false, false, false, false, false, false, false, false] rfl rfl (by as_aux_lemma => kernel_rfl) (fun _ _ _ h => h) (Or.inr ⟨by rfl, rfl⟩) ?_ ?_
      rotate_left
      ·simp only [Act.put, List.setIfInBounds_toArray, List.set_cons_zero, List.set_cons_succ, i64_w, i32_w]
       rfl
      refine pure_ (i := 8) (N := some 91) (v := undef) (a' := ?_) #[true, true, true, true, true, true, true, true, true, false, false, false, false, false, false, false, false] rfl rfl (by as_aux_lemma => kernel_rfl) (fun _ _ _ h => h) (Or.inr ⟨by rfl, rfl⟩) ?_ ?_
      rotate_left
      ·simp only [Act.put, List.setIfInBounds_toArray, List.set_cons_zero, List.set_cons_succ, i64_w, i32_w]
       rfl
      refine pure_ (i := 9) (N := some 92) (v := undef) (a' := ?_) #[true, true, true, true, true, true, true, true, true, true, false, false, false, false, false, false, false] rfl rfl (by as_aux_lemma => kernel_rfl) (fun _ _ _ h => h) (Or.inr ⟨by rfl, rfl⟩) ?_ ?_
      rotate_left
      ·simp only [Act.put, List.setIfInBounds_toArray, List.set_cons_zero, List.set_cons_succ, i64_w, i32_w]
       rfl
      refine pure_ (i := 10) (N := some 93) (v := undef) (a' := ?_) #[true, true, true, true, true, true, true, true, true, true, true, false, false, false, false, false, false] rfl rfl (by as_aux_lemma => kernel_rfl) (fun _ _ _ h => h) (Or.inr ⟨by rfl, rfl⟩) ?_ ?_
      rotate_left
      ·simp only [Act.put, List.setIfInBounds_toArray, List.set_cons_zero, List.set_cons_succ, i64_w, i32_w]
       rfl
      refine pure_ (i := 11) (N := some 94) (v := undef) (a' := ?_) #[true, true, true, true, true, true, true, true, true, true, true, true, false, false, false, false, false] rfl rfl (by as_aux_lemma => kernel_rfl) (fun _ _ _ h => h) (Or.inr ⟨by rfl, rfl⟩) ?_ ?_
      rotate_left
      ·simp only [Act.put, List.setIfInBounds_toArray, List.set_cons_zero, List.set_cons_succ, i64_w, i32_w]
       rfl
      refine pure_ (i := 12) (N := some 95) (v := undef) (a' := ?_) #[true, true, true, true, true, true, true, true, true, true, true, true, true, false, false, false, false] rfl rfl (by as_aux_lemma => kernel_rfl) (fun _ _ _ h => h) (Or.inr ⟨by rfl, rfl⟩) ?_ ?_
      rotate_left
      ·simp only [Act.put, List.setIfInBounds_toArray, List.set_cons_zero, List.set_cons_succ, i64_w, i32_w]
       rfl
      refine pure_ (i := 13) (N := some 96) (v := undef) (a' := ?_) #[true, true, true, true, true, true, true, true, true, true, true, true, true, true, false, false, false] rfl rfl (by as_aux_lemma => kernel_rfl) (fun _ _ _ h => h) (Or.inr ⟨by rfl, rfl⟩) ?_ ?_
      rotate_left
      ·simp only [Act.put, List.setIfInBounds_toArray, List.set_cons_zero, List.set_cons_succ, i64_w, i32_w]
       rfl
      refine pure_ (i := 14) (N := some 97) (v := undef) (a' := ?_) #[true, true, true, true, true, true, true, true, true, true, true, true, true, true, true, false, false] rfl rfl (by as_aux_lemma => kernel_rfl) (fun _ _ _ h => h) (Or.inr ⟨by rfl, rfl⟩) ?_ ?_
      rotate_left
      ·simp only [Act.put, List.setIfInBounds_toArray, List.set_cons_zero, List.set_cons_succ, i64_w, i32_w]
       rfl
      refine pure_ (i := 15) (N := some 98) (v := undef) (a' := ?_) #[true, true, true, true, true, true, true, true, true, true, true, true, true, true, true, true, false] rfl rfl (by as_aux_lemma => kernel_rfl) (fun _ _ _ h => h) (Or.inr ⟨by rfl, rfl⟩) ?_ ?_
      rotate_left
      ·simp only [Act.put, List.setIfInBounds_toArray, List.set_cons_zero, List.set_cons_succ, i64_w, i32_w]
       rfl
      refine pure_ (i := 16) (N := some 99) (v := ?_) (a' := ?_) #[true, true, true, true, true, true, true, true, true, true, true, true, true, true, true, true, true] rfl rfl (by as_aux_lemma => kernel_rfl) (fun _ _ _ h => h) (Or.inl ⟨by rfl, ?_⟩) ?_ ?_
      rotate_left
      ·intro w'
       go_simp
       with_reducible rfl
      rotate_left
      ·simp only [Act.put, List.setIfInBounds_toArray, List.set_cons_zero, List.set_cons_succ, i64_w, i32_w]
       rfl
      refine done_ (by as_aux_lemma => kernel_rfl) ?_
      go_wp2_with fail

      go_roundw
      case rel => exact ⟨j + 1, true, (P ++ [z]), (m + 1), A8, c8, by omega, rfl, by go_num, by omega, ⟨HPL.out, by have h1 := HP.out.2.1; rw [restG_last (by have := HNL.out; omega)] at h1; simpa using h1, fun h => by cases h⟩, B0, B1, B2, B3, HO, HB⟩
      case measure => simp [intOf]; omega
    ·have hlt : j < n := by omega
     have p2 : (j : Int) < (n : Int) := by omega
     have q2 : ((j : Int) == (n : Int)) = false := beq_eq_false_iff_ne.mpr (by omega)
     have hll : j < l.length := by rw [← HNL.out]; exact hlt
     obtain ⟨ax, A4, c4, hA, e0, e1, e2, e3, e4, hl4, hC4⟩ := at_T63 HC.out (j : Int) (by omega) (by omega)
     subst hA
     simp only [Int.toNat_natCast] at e0 e1 e2 e3 e4
     have HX : Aside0 (l[j]? = some (rd_T63 l (j : Int))) := ⟨by simp [rd_T63, List.getElem?_eq_getElem hll, List.getD_eq_getElem?_getD]⟩
     have HC4 := Aside0.mk (And.intro hC4 hl4)
     clear hC4 hl4 hll
     generalize rd_T63 l (j : Int) = x at *
     have HXM : Aside0 (x ∈ l) := ⟨List.mem_of_getElem? HX.out⟩
     have HEX := Aside0.mk (And.intro e0 (And.intro e1 (And.intro e2 (And.intro e3 e4))))
     clear e0 e1 e2 e3 e4
     cases d with
     | true =>
      have HPL : Aside0 (P.length = m) := ⟨HP.out.1⟩

      refine start_ (n := 22) (S := fun _ => True) (ds := []) #[false, false, false, false, false, false, false, false, false, false, false, false, false, false, false, false, false, false, false, false, false, false] (by as_aux_lemma => kernel_rfl) rfl rfl (trivial) (fun hHeld => ?_)
      have hb : Below wr.heap.size wr wr.drew := below_drew (Below.refl _ _)
      replace B0 := Aside0.mk (B0.out.below hb)
      replace B1 := Aside0.mk (B1.out.below hb)
      replace B2 := Aside0.mk (B2.out.below hb)
      replace B3 := Aside0.mk (B3.out.below hb)
      replace HO := Aside0.mk (HO.out.newer hb)
      replace HB := Aside0.mk (below_step HB.out hb)
      generalize wr.drew = w1 at *
      clear hb

      refine pure_ (i := 0) (N := some 24) (v := ?_) (a' := ?_) #[true, false, false, false, false, false, false, false, false, false, false, false, false, false, false, false, false, false, false, false, false, false] rfl rfl (by as_aux_lemma => kernel_rfl) (fun _ _ _ h => h) (Or.inl ⟨by rfl, ?_⟩) ?_ ?_
      rotate_left
      ·intro w'
       go_simp
       with_reducible rfl
      rotate_left
      ·simp only [Act.put, List.setIfInBounds_toArray, List.set_cons_zero, List.set_cons_succ, i64_w, i32_w]
       rfl
      refine pure_ (i := 1) (N := some 25) (v := ?_) (a' := ?_) #[true, true, false, false, false, false, false, false, false, false, false, false, false, false, false, false, false, false, false, false, false, false] rfl rfl (by as_aux_lemma => kernel_rfl) (fun _ _ _ h => h) (Or.inl ⟨by rfl, ?_⟩) ?_ ?_
      rotate_left
      ·intro w'
       go_simp
       with_reducible rfl
      rotate_left
      ·simp only [Act.put, List.setIfInBounds_toArray, List.set_cons_zero, List.set_cons_succ, i64_w, i32_w]
       rfl
      refine pure_ (i := 2) (N := some 26) (v := ?_) (a' := ?_) #[true, true, true, false, false, false, false, false, false, false, false, false, false, false, false, false, false, false, false, false, false, false] rfl rfl (by as_aux_lemma => kernel_rfl) (fun _ _ _ h => h) (Or.inl ⟨by rfl, ?_⟩) ?_ ?_
      rotate_left
      ·intro w'
       go_simp
       with_reducible rfl
      rotate_left
      ·simp only [Act.put, List.setIfInBounds_toArray, List.set_cons_zero, List.set_cons_succ, i64_w, i32_w]
       rfl
      refine pure_ (i := 3) (N := some 27) (v := undef) (a' := ?_) #[true, true, true, true, false, false, false, false, false, false, false, false, false, false, false, false, false, false, false, false, false, false] rfl rfl (by as_aux_lemma => kernel_rfl) (fun _ _ _ h => h) (Or.inr ⟨by rfl, rfl⟩) ?_ ?_
      rotate_left
      ·simp only [Act.put, List.setIfInBounds_toArray, List.set_cons_zero, List.set_cons_succ, i64_w, i32_w]
       rfl
      refine pure_ (i := 4) (N := some 28) (v := undef) (a' := ?_) #[true, true, true, true, true, false, false, false, false, false, false, false, false, false, false, false, false, false, false, false, false, false] rfl rfl (by as_aux_lemma => kernel_rfl) (fun _ _ _ h => h) (Or.inr ⟨by rfl, rfl⟩) ?_ ?_
      rotate_left
      ·simp only [Act.put, List.setIfInBounds_toArray, List.set_cons_zero, List.set_cons_succ, i64_w, i32_w]
       rfl
      refine pure_ (i := 5) (N := some 29) (v := undef) (a' := ?_) #[true, true, true, true, true, true, false, false, false, false, false, false, false, false, false, false, false, false, false, false, false, false] rfl rfl (by as_aux_lemma => kernel_rfl) (fun _ _ _ h => h) (Or.inr ⟨by rfl, rfl⟩) ?_ ?_
      rotate_left
      ·simp only [Act.put, List.setIfInBounds_toArray, List.set_cons_zero, List.set_cons_succ, i64_w, i32_w]
       rfl
      refine pure_ (i := 6) (N := some 30) (v := undef) (a' := ?_) #[true, true, true, true, true, true, true, false, false, false, false, false, false, false, false, false, false, false, false, false, false, false] rfl rfl (by as_aux_lemma => kernel_rfl) (fun _ _ _ h => h) (Or.inr ⟨by rfl, rfl⟩) ?_ ?_
      rotate_left
      ·simp only [Act.put, List.setIfInBounds_toArray, List.set_cons_zero, List.set_cons_succ, i64_w, i32_w]
       rfl
      refine pure_ (i := 7) (N := some 31) (v := undef) (a' := ?_) #[true, true, true, true, true, true, true, true, false, false, false, false, false, false, false, false, false, false, false, false, false, false] rfl rfl (by as_aux_lemma => kernel_rfl) (fun _ _ _ h => h) (Or.inr ⟨by rfl, rfl⟩) ?_ ?_
      rotate_left
      ·simp only [Act.put, List.setIfInBounds_toArray, List.set_cons_zero, List.set_cons_succ, i64_w, i32_w]
       rfl
      refine pure_ (i := 8) (N := some 32) (v := undef) (a' := ?_) #[true, true, true, true, true, true, true, true, true, false, false, false, false, false, false, false, false, false, false, false, false, false] rfl rfl (by as_aux_lemma => kernel_rfl) (fun _ _ _ h => h) (Or.inr ⟨by rfl, rfl⟩) ?_ ?_
      rotate_left
      ·simp only [Act.put, List.setIfInBounds_toArray, List.set_cons_zero, List.set_cons_succ, i64_w, i32_w]
       rfl
      refine pure_ (i := 9) (N := some 33) (v := undef) (a' := ?_) #[true, true, true, true, true, true, true, true, true, true, false, false, false, false, false, false, false, false, false, false, false, false] rfl rfl (by as_aux_lemma => kernel_rfl) (fun _ _ _ h => h) (Or.inr ⟨by rfl, rfl⟩) ?_ ?_
      rotate_left
      ·simp only [Act.put, List.setIfInBounds_toArray, List.set_cons_zero, List.set_cons_succ, i64_w, i32_w]
       rfl
      refine pure_ (i := 10) (N := some 34) (v := undef) (a' := ?_) #[true, true, true, true, true, true, true, true, true, true, true, false, false, false, false, false, false, false, false, false, false, false] rfl rfl (by as_aux_lemma => kernel_rfl) (fun _ _ _ h => h) (Or.inr ⟨by rfl, rfl⟩) ?_ ?_
      rotate_left
      ·simp only [Act.put, List.setIfInBounds_toArray, List.set_cons_zero, List.set_cons_succ, i64_w, i32_w]
       rfl
      refine pure_ (i := 11) (N := some 35) (v := undef) (a' := ?_) #[true, true, true, true, true, true, true, true, true, true, true, true, false, false, false, false, false, false, false, false, false, false] rfl rfl (by as_aux_lemma => kernel_rfl) (fun _ _ _ h => h) (Or.inr ⟨by rfl, rfl⟩) ?_ ?_
      rotate_left
      ·simp only [Act.put, List.setIfInBounds_toArray, List.set_cons_zero, List.set_cons_succ, i64_w, i32_w]
       rfl
      refine pure_ (i := 12) (N := some 36) (v := undef) (a' := ?_) #[true, true, true, true, true, true, true, true, true, true, true, true, true, false, false, false, false, false, false, false, false, false] rfl rfl (by as_aux_lemma => kernel_rfl) (fun _ _ _ h => h) (Or.inr ⟨by rfl, rfl⟩) ?_ ?_
      rotate_left
      ·simp only [Act.put, List.setIfInBounds_toArray, List.set_cons_zero, List.set_cons_succ, i64_w, i32_w]
       rfl
      refine pure_ (i := 13) (N := some 37) (v := undef) (a' := ?_) #[true, true, true, true, true, true, true, true, true, true, true, true, true, true, false, false, false, false, false, false, false, false] rfl rfl (by as_aux_lemma => kernel_rfl) (fun _ _ _ h => h) (Or.inr ⟨by rfl, rfl⟩) ?_ ?_
      rotate_left
      ·simp only [Act.put, List.setIfInBounds_toArray, List.set_cons_zero, List.set_cons_succ, i64_w, i32_w]
       rfl
      refine pure_ (i := 14) (N := some 38) (v := undef) (a' := ?_) #[true, true, true, true, true, true, true, true, true, true, true, true, true, true, true, false, false, false, false, false, false, false] rfl rfl (by as_aux_lemma => kernel_rfl) (fun _ _ _ h => h) (Or.inr ⟨by rfl, rfl⟩) ?_ ?_
      rotate_left
      ·simp only [Act.put, List.setIfInBounds_toArray, List.set_cons_zero, List.set_cons_succ, i64_w, i32_w]
       rfl
      refine pure_ (i := 15) (N := some 39) (v := undef) (a' := ?_) #[true, true, true, true, true, true, true, true, true, true, true, true, true, true, true, true, false, false, false, false, false, false] rfl rfl (by as_aux_lemma => kernel_rfl) (fun _ _ _ h => h) (Or.inr ⟨by rfl, rfl⟩) ?_ ?_
      rotate_left
      ·simp only [Act.put, List.setIfInBounds_toArray, List.set_cons_zero, List.set_cons_succ, i64_w, i32_w]
       rfl
      refine pure_ (i := 16) (N := some 40) (v := undef) (a' := ?_) #[true, true, true, true, true, true, true, true, true, true, true, true, true, true, true, true, true, false, false, false, false, false] rfl rfl (by as_aux_lemma => kernel_rfl) (fun _ _ _ h => h) (Or.inr ⟨by rfl, rfl⟩) ?_ ?_
      rotate_left
      ·simp only [Act.put, List.setIfInBounds_toArray, List.set_cons_zero, List.set_cons_succ, i64_w, i32_w]
       rfl
      refine pure_ (i := 17) (N := some 41) (v := undef) (a' := ?_) #[true, true, true, true, true, true, true, true, true, true, true, true, true, true, true, true, true, true, false, false, false, false] rfl rfl (by as_aux_lemma => kernel_rfl) (fun _ _ _ h => h) (Or.inr ⟨by rfl, rfl⟩) ?_ ?_
      rotate_left
      ·simp only [Act.put, List.setIfInBounds_toArray, List.set_cons_zero, List.set_cons_succ, i64_w, i32_w]
       rfl
      refine pure_ (i := 18) (N := some 42) (v := undef) (a' := ?_) #[true, true, true, true, true, true, true, true, true, true, true, true, true, true, true, true, true, true, true, false, false, false] rfl rfl (by as_aux_lemma => kernel_rfl) (fun _ _ _ h => h) (Or.inr ⟨by rfl, rfl⟩) ?_ ?_
      rotate_left
      ·simp only [Act.put, List.setIfInBounds_toArray, List.set_cons_zero, List.set_cons_succ, i64_w, i32_w]
       rfl
      refine pure_ (i := 19) (N := some 43) (v := undef) (a' := ?_) #[true, true, true, true, true, true, true, true, true, true, true, true, true, true, true, true, true, true, true, true, false, false] rfl rfl (by as_aux_lemma => kernel_rfl) (fun _ _ _ h => h) (Or.inr ⟨by rfl, rfl⟩) ?_ ?_
      rotate_left
      ·simp only [Act.put, List.setIfInBounds_toArray, List.set_cons_zero, List.set_cons_succ, i64_w, i32_w]
       rfl
      refine pure_ (i := 20) (N := some 44) (v := undef) (a' := ?_) #[true, true, true, true, true, true, true, true, true, true, true, true, true, true, true, true, true, true, true, true, true, false] rfl rfl (by as_aux_lemma => kernel_rfl) (fun _ _ _ h => h) (Or.inr ⟨by rfl, rfl⟩) ?_ ?_
      rotate_left
      ·simp only [Act.put, List.setIfInBounds_toArray, List.set_cons_zero, List.set_cons_succ, i64_w, i32_w]
       rfl
      refine pure_ (i := 21) (N := some 45) (v := ?_) (a' := ?_) #[true, true, true, true, true, true, true, true, true, true, true, true, true, true, true, true, true, true, true, true, true, true] rfl rfl (by as_aux_lemma => kernel_rfl) (fun _ _ _ h => h) (Or.inl ⟨by rfl, ?_⟩) ?_ ?_
      rotate_left
      ·intro w'
       go_simp
       with_reducible rfl
      rotate_left
      ·simp only [Act.put, List.setIfInBounds_toArray, List.set_cons_zero, List.set_cons_succ, i64_w, i32_w]
       rfl
      refine done_ (by as_aux_lemma => kernel_rfl) ?_
      go_wp2_with fail

      by_cases hx : x.f0 = z.f0
      ·have r1 : (x.f0.toList != z.f0.toList) = false := bne_eq_false_iff_eq.mpr (by rw [hx])
       have r2 : (x.f0.toList == z.f0.toList) = true := beq_iff_eq.mpr (by rw [hx])
       have hse_ := pw_cell_below HB.out HSE.out
       have he0_ := pw_cell_below HB.out HEX.out.1
       refine start_ (n := 17) (S := fun w' => w'.cell? ⟨b0, 3, none⟩ = some (.slice (some ax) n c1) ∧ w'.cell? (ax.add (j * 5)) = some (.string x.f0) ∧ w'.cell? ad = some (.string z.f0)) (ds := []) #[false, false, false, false, false, false, false, false, false, false, false, false, false, false, false, false, false] (by as_aux_lemma => kernel_rfl) rfl rfl (⟨(B0.out.below (below_drew (Below.refl _ _))).cell 3 _ rfl, pw_cell_below (below_drew (Below.refl _ _)) he0_, pw_cell_below (below_drew (Below.refl _ _)) hse_⟩) (fun hHeld => ?_)
       have hb : Below w1.heap.size w1 w1.drew := below_drew (Below.refl _ _)
       replace B0 := Aside0.mk (B0.out.below hb)
       replace B1 := Aside0.mk (B1.out.below hb)
       replace B2 := Aside0.mk (B2.out.below hb)
       replace B3 := Aside0.mk (B3.out.below hb)
       replace HO := Aside0.mk (HO.out.newer hb)
       replace HB := Aside0.mk (below_step HB.out hb)
       generalize w1.drew = w6 at *
       clear hb

       clear hse_ he0_
       refine pure_ (i := 0) (N := some 83) (v := ?_) (a' := ?_) #[true, false, false, false, false, false, false, false, false, false, false, false, false, false, false, false, false] rfl rfl (by as_aux_lemma => kernel_rfl) (fun _ _ _ h => h) (Or.inl ⟨by rfl, ?_⟩) ?_ ?_
       rotate_left
       ·intro w'
        go_simp
        with_reducible rfl
       rotate_left
       ·simp only [Act.put, List.setIfInBounds_toArray, List.set_cons_zero, List.set_cons_succ, i64_w, i32_w]
        rfl
       refine pure_ (i := 1) (N := some 84) (v := ?_) (a' := ?_) #[true, true, false, false, false, false, false, false, false, false, false, false, false, false, false, false, false] rfl rfl (by as_aux_lemma => kernel_rfl) (fun _ _ _ h => h) (Or.inl ⟨by rfl, ?_⟩) ?_ ?_
       rotate_left
       ·intro w'
        go_simp
        with_reducible rfl
       rotate_left
       ·simp only [Act.put, List.setIfInBounds_toArray, List.set_cons_zero, List.set_cons_succ, i64_w, i32_w]
        rfl
       refine take_ (i := 2) (N := some 85) (v := ?_) (a' := ?_) #[true, true, true, false, false, false, false, false, false, false, false, false, false, false, false, false, false] rfl rfl (by as_aux_lemma => kernel_rfl) (fun _ _ _ h => h) (Or.inl ⟨by rfl, ?_⟩) hHeld ?_ ?_
       rotate_left
       ·rintro w' ⟨s0, s1, s2⟩
        go_simp
        with_reducible rfl
       rotate_left
       ·simp only [Act.put, List.setIfInBounds_toArray, List.set_cons_zero, List.set_cons_succ, i64_w, i32_w]
        rfl
       refine pure_ (i := 3) (N := some 86) (v := ?_) (a' := ?_) #[true, true, true, true, false, false, false, false, false, false, false, false, false, false, false, false, false] rfl rfl (by as_aux_lemma => kernel_rfl) (fun _ _ _ h => h) (Or.inl ⟨by rfl, ?_⟩) ?_ ?_
       rotate_left
       ·intro w'
        go_simp
        with_reducible rfl
       rotate_left
       ·simp only [Act.put, List.setIfInBounds_toArray, List.set_cons_zero, List.set_cons_succ, i64_w, i32_w]
        rfl
       refine pure_ (i := 4) (N := some 87) (v := ?_) (a' := ?_) #[true, true, true, true, true, false, false, false, false, false, false, false, false, false, false, false, false] rfl rfl (by as_aux_lemma => kernel_rfl) (fun _ _ _ h => h) (Or.inl ⟨by rfl, ?_⟩) ?_ ?_
       rotate_left
       ·intro w'
        go_simp
        with_reducible rfl
       rotate_left
       ·simp only [Act.put, List.setIfInBounds_toArray, List.set_cons_zero, List.set_cons_succ, i64_w, i32_w]
        rfl
       refine pure_ (i := 5) (N := some 88) (v := ?_) (a' := ?_) #[true, true, true, true, true, true, false, false, false, false, false, false, false, false, false, false, false] rfl rfl (by as_aux_lemma => kernel_rfl) (fun _ _ _ h => h) (Or.inl ⟨by rfl, ?_⟩) ?_ ?_
       rotate_left
       ·intro w'
        go_simp
        with_reducible rfl
       rotate_left
       ·simp only [Act.put, List.setIfInBounds_toArray, List.set_cons_zero, List.set_cons_succ, i64_w, i32_w]
        rfl
       refine pure_ (i := 6) (N := some 89) (v := ?_) (a' := ?_) #[true, true, true, true, true, true, true, false, false, false, false, false, false, false, false, false, false] rfl rfl (by as_aux_lemma => kernel_rfl) (fun _ _ _ h => h) (Or.inl ⟨by rfl, ?_⟩) ?_ ?_
       rotate_left
       ·intro w'
        go_simp
        with_reducible rfl
       rotate_left
       ·simp only [Act.put, List.setIfInBounds_toArray, List.set_cons_zero, List.set_cons_succ, i64_w, i32_w]
        rfl
       refine take_ (i := 7) (N := some 90) (v := ?_) (a' := ?_) #[true, true, true, true, true, true, true, true, false, false, false, false, false, false, false, false, false] rfl rfl (by as_aux_lemma => kernel_rfl) (fun _ _ _ h => h) (Or.inl ⟨by rfl, ?_⟩) hHeld ?_ ?_
       rotate_left
       ·rintro w' ⟨s0, s1, s2⟩
        go_simp
        with_reducible rfl
       rotate_left
       ·simp only [Act.put, List.setIfInBounds_toArray, List.set_cons_zero, List.set_cons_succ, i64_w, i32_w]
        rfl
       refine pure_ (i := 8) (N := some 91) (v := ?_) (a' := ?_) #[true, true, true, true, true, true, true, true, true, false, false, false, false, false, false, false, false] rfl rfl (by as_aux_lemma => kernel_rfl) (fun _ _ _ h => h) (Or.inl ⟨by rfl, ?_⟩) ?_ ?_
       rotate_left
       ·intro w'
        go_simp
        with_reducible rfl
       rotate_left
       ·simp only [Act.put, List.setIfInBounds_toArray, List.set_cons_zero, List.set_cons_succ, i64_w, i32_w]
        rfl
       refine pure_ (i := 9) (N := some 92) (v := ?_) (a' := ?_) #[true, true, true, true, true, true, true, true, true, true, false, false, false, false, false, false, false] rfl rfl (by as_aux_lemma => kernel_rfl) (fun _ _ _ h => h) (Or.inl ⟨by rfl, ?_⟩) ?_ ?_
       rotate_left
       ·intro w'
        go_simp
        with_reducible rfl
       rotate_left
       ·simp only [Act.put, List.setIfInBounds_toArray, List.set_cons_zero, List.set_cons_succ, i64_w, i32_w]
        rfl
       refine pure_ (i := 10) (N := some 93) (v := ?_) (a' := ?_) #[true, true, true, true, true, true, true, true, true, true, true, false, false, false, false, false, false] rfl rfl (by as_aux_lemma => kernel_rfl) (fun _ _ _ h => h) (Or.inl ⟨by rfl, ?_⟩) ?_ ?_
       rotate_left
       ·intro w'
        go_simp
        with_reducible rfl
       rotate_left
       ·simp only [Act.put, List.setIfInBounds_toArray, List.set_cons_zero, List.set_cons_succ, i64_w, i32_w]
        rfl
       refine take_ (i := 11) (N := some 94) (v := ?_) (a' := ?_) #[true, true, true, true, true, true, true, true, true, true, true, true, false, false, false, false, false] rfl rfl (by as_aux_lemma => kernel_rfl) (fun _ _ _ h => h) (Or.inl ⟨by rfl, ?_⟩) hHeld ?_ ?_
       rotate_left
       ·rintro w' ⟨s0, s1, s2⟩
        go_simp
        with_reducible rfl
       rotate_left
       ·simp only [Act.put, List.setIfInBounds_toArray, List.set_cons_zero, List.set_cons_succ, i64_w, i32_w]
        rfl
       refine pure_ (i := 12) (N := some 95) (v := ?_) (a' := ?_) #[true, true, true, true, true, true, true, true, true, true, true, true, true, false, false, false, false] rfl rfl (by as_aux_lemma => kernel_rfl) (fun _ _ _ h => h) (Or.inl ⟨by rfl, ?_⟩) ?_ ?_
       rotate_left
       ·intro w'
        go_simp
        with_reducible rfl
       rotate_left
       ·simp only [Act.put, List.setIfInBounds_toArray, List.set_cons_zero, List.set_cons_succ, i64_w, i32_w]
        rfl
       refine pure_ (i := 13) (N := some 96) (v := ?_) (a' := ?_) #[true, true, true, true, true, true, true, true, true, true, true, true, true, true, false, false, false] rfl rfl (by as_aux_lemma => kernel_rfl) (fun _ _ _ h => h) (Or.inl ⟨by rfl, ?_⟩) ?_ ?_
       rotate_left
       ·intro w'
        go_simp
        with_reducible rfl
       rotate_left
       ·simp only [Act.put, List.setIfInBounds_toArray, List.set_cons_zero, List.set_cons_succ, i64_w, i32_w]
        rfl
       refine take_ (i := 14) (N := some 97) (v := ?_) (a' := ?_) #[true, true, true, true, true, true, true, true, true, true, true, true, true, true, true, false, false] rfl rfl (by as_aux_lemma => kernel_rfl) (fun _ _ _ h => h) (Or.inl ⟨by rfl, ?_⟩) hHeld ?_ ?_
       rotate_left
       ·rintro w' ⟨s0, s1, s2⟩
        go_simp
        with_reducible rfl
       rotate_left
       ·simp only [Act.put, List.setIfInBounds_toArray, List.set_cons_zero, List.set_cons_succ, i64_w, i32_w]
        rfl
       refine pure_ (i := 15) (N := some 98) (v := ?_) (a' := ?_) #[true, true, true, true, true, true, true, true, true, true, true, true, true, true, true, true, false] rfl rfl (by as_aux_lemma => kernel_rfl) (fun _ _ _ h => h) (Or.inl ⟨by rfl, ?_⟩) ?_ ?_
       rotate_left
       ·intro w'
        go_simp
        with_reducible rfl
       rotate_left
       ·simp only [Act.put, List.setIfInBounds_toArray, List.set_cons_zero, List.set_cons_succ, i64_w, i32_w]
        rfl
       refine pure_ (i := 16) (N := some 99) (v := ?_) (a' := ?_) #[true, true, true, true, true, true, true, true, true, true, true, true, true, true, true, true, true] rfl rfl (by as_aux_lemma => kernel_rfl) (fun _ _ _ h => h) (Or.inl ⟨by rfl, ?_⟩) ?_ ?_
       rotate_left
       ·intro w'
        go_simp
        with_reducible rfl
       rotate_left
       ·simp only [Act.put, List.setIfInBounds_toArray, List.set_cons_zero, List.set_cons_succ, i64_w, i32_w]
        rfl
       refine done_ (by as_aux_lemma => kernel_rfl) ?_
       go_wp2_with fail

       go_roundw
       case rel => exact ⟨j + 1, true, P, m, A7, c7, by omega, rfl, by go_num, by omega, ⟨HPL.out, by have h1 := HP.out.2.1; rw [restG_step HX.out] at h1; simpa [hx] using h1, fun h => by cases h⟩, B0, B1, B2, B3, HO, HB⟩
       case measure => simp [intOf]; omega
      ·have hxl : x.f0.toList ≠ z.f0.toList := fun e => hx (toList_eq.1 e)
       have r1 : (x.f0.toList != z.f0.toList) = true := bne_iff_ne.mpr hxl
       have r2 : (x.f0.toList == z.f0.toList) = false := beq_eq_false_iff_ne.mpr hxl
       clear hxl
       have hse_ := pw_cell_below HB.out HSE.out
       have he0_ := pw_cell_below HB.out HEX.out.1
       refine start_ (n := 17) (S := fun w' => w'.cell? ⟨b0, 3, none⟩ = some (.slice (some ax) n c1) ∧ w'.cell? (ax.add (j * 5)) = some (.string x.f0) ∧ w'.cell? ad = some (.string z.f0)) (ds := []) #[false, false, false, false, false, false, false, false, false, false, false, false, false, false, false, false, false] (by as_aux_lemma => kernel_rfl) rfl rfl (⟨(B0.out.below (below_drew (Below.refl _ _))).cell 3 _ rfl, pw_cell_below (below_drew (Below.refl _ _)) he0_, pw_cell_below (below_drew (Below.refl _ _)) hse_⟩) (fun hHeld => ?_)
       have hb : Below w1.heap.size w1 w1.drew := below_drew (Below.refl _ _)
       replace B0 := Aside0.mk (B0.out.below hb)
       replace B1 := Aside0.mk (B1.out.below hb)
       replace B2 := Aside0.mk (B2.out.below hb)
       replace B3 := Aside0.mk (B3.out.below hb)
       replace HO := Aside0.mk (HO.out.newer hb)
       replace HB := Aside0.mk (below_step HB.out hb)
       generalize w1.drew = w6 at *
       clear hb

       clear hse_ he0_
       refine pure_ (i := 0) (N := some 83) (v := ?_) (a' := ?_) #[true, false, false, false, false, false, false, false, false, false, false, false, false, false, false, false, false] rfl rfl (by as_aux_lemma => kernel_rfl) (fun _ _ _ h => h) (Or.inl ⟨by rfl, ?_⟩) ?_ ?_
       rotate_left
       ·intro w'
        go_simp
        with_reducible rfl
       rotate_left
       ·simp only [Act.put, List.setIfInBounds_toArray, List.set_cons_zero, List.set_cons_succ, i64_w, i32_w]
        rfl
       refine pure_ (i := 1) (N := some 84) (v := ?_) (a' := ?_) #[true, true, false, false, false, false, false, false, false, false, false, false, false, false, false, false, false] rfl rfl (by as_aux_lemma => kernel_rfl) (fun _ _ _ h => h) (Or.inl ⟨by rfl, ?_⟩) ?_ ?_
       rotate_left
       ·intro w'
        go_simp
        with_reducible rfl
       rotate_left
       ·simp only [Act.put, List.setIfInBounds_toArray, List.set_cons_zero, List.set_cons_succ, i64_w, i32_w]
        rfl
       refine take_ (i := 2) (N := some 85) (v := ?_) (a' := ?_) #[true, true, true, false, false, false, false, false, false, false, false, false, false, false, false, false, false] rfl rfl (by as_aux_lemma => kernel_rfl) (fun _ _ _ h => h) (Or.inl ⟨by rfl, ?_⟩) hHeld ?_ ?_
       rotate_left
       ·rintro w' ⟨s0, s1, s2⟩
        go_simp
        with_reducible rfl
       rotate_left
       ·simp only [Act.put, List.setIfInBounds_toArray, List.set_cons_zero, List.set_cons_succ, i64_w, i32_w]
        rfl
       refine pure_ (i := 3) (N := some 86) (v := ?_) (a' := ?_) #[true, true, true, true, false, false, false, false, false, false, false, false, false, false, false, false, false] rfl rfl (by as_aux_lemma => kernel_rfl) (fun _ _ _ h => h) (Or.inl ⟨by rfl, ?_⟩) ?_ ?_
       rotate_left
       ·intro w'
        go_simp
        with_reducible rfl
       rotate_left
       ·simp only [Act.put, List.setIfInBounds_toArray, List.set_cons_zero, List.set_cons_succ, i64_w, i32_w]
        rfl
       refine pure_ (i := 4) (N := some 87) (v := ?_) (a' := ?_) #[true, true, true, true, true, false, false, false, false, false, false, false, false, false, false, false, false] rfl rfl (by as_aux_lemma => kernel_rfl) (fun _ _ _ h => h) (Or.inl ⟨by rfl, ?_⟩) ?_ ?_
       rotate_left
       ·intro w'
        go_simp
        with_reducible rfl
       rotate_left
       ·simp only [Act.put, List.setIfInBounds_toArray, List.set_cons_zero, List.set_cons_succ, i64_w, i32_w]
        rfl
       refine pure_ (i := 5) (N := some 88) (v := ?_) (a' := ?_) #[true, true, true, true, true, true, false, false, false, false, false, false, false, false, false, false, false] rfl rfl (by as_aux_lemma => kernel_rfl) (fun _ _ _ h => h) (Or.inl ⟨by rfl, ?_⟩) ?_ ?_
       rotate_left
       ·intro w'
        go_simp
        with_reducible rfl
       rotate_left
       ·simp only [Act.put, List.setIfInBounds_toArray, List.set_cons_zero, List.set_cons_succ, i64_w, i32_w]
        rfl
       refine pure_ (i := 6) (N := some 89) (v := ?_) (a' := ?_) #[true, true, true, true, true, true, true, false, false, false, false, false, false, false, false, false, false] rfl rfl (by as_aux_lemma => kernel_rfl) (fun _ _ _ h => h) (Or.inl ⟨by rfl, ?_⟩) ?_ ?_
       rotate_left
       ·intro w'
        go_simp
        with_reducible rfl
       rotate_left
       ·simp only [Act.put, List.setIfInBounds_toArray, List.set_cons_zero, List.set_cons_succ, i64_w, i32_w]
        rfl
       refine take_ (i := 7) (N := some 90) (v := ?_) (a' := ?_) #[true, true, true, true, true, true, true, true, false, false, false, false, false, false, false, false, false] rfl rfl (by as_aux_lemma => kernel_rfl) (fun _ _ _ h => h) (Or.inl ⟨by rfl, ?_⟩) hHeld ?_ ?_
       rotate_left
       ·rintro w' ⟨s0, s1, s2⟩
        go_simp
        with_reducible rfl
       rotate_left
       ·simp only [Act.put, List.setIfInBounds_toArray, List.set_cons_zero, List.set_cons_succ, i64_w, i32_w]
        rfl
       refine pure_ (i := 8) (N := some 91) (v := ?_) (a' := ?_) #[true, true, true, true, true, true, true, true, true, false, false, false, false, false, false, false, false] rfl rfl (by as_aux_lemma => kernel_rfl) (fun _ _ _ h => h) (Or.inl ⟨by rfl, ?_⟩) ?_ ?_
       rotate_left
       ·intro w'
        go_simp
        with_reducible rfl
       rotate_left
       ·simp only [Act.put, List.setIfInBounds_toArray, List.set_cons_zero, List.set_cons_succ, i64_w, i32_w]
        rfl
       refine pure_ (i := 9) (N := some 92) (v := ?_) (a' := ?_) #[true, true, true, true, true, true, true, true, true, true, false, false, false, false, false, false, false] rfl rfl (by as_aux_lemma => kernel_rfl) (fun _ _ _ h => h) (Or.inl ⟨by rfl, ?_⟩) ?_ ?_
       rotate_left
       ·intro w'
        go_simp
        with_reducible rfl
       rotate_left
       ·simp only [Act.put, List.setIfInBounds_toArray, List.set_cons_zero, List.set_cons_succ, i64_w, i32_w]
        rfl
       refine pure_ (i := 10) (N := some 93) (v := ?_) (a' := ?_) #[true, true, true, true, true, true, true, true, true, true, true, false, false, false, false, false, false] rfl rfl (by as_aux_lemma => kernel_rfl) (fun _ _ _ h => h) (Or.inl ⟨by rfl, ?_⟩) ?_ ?_
       rotate_left
       ·intro w'
        go_simp
        with_reducible rfl
       rotate_left
       ·simp only [Act.put, List.setIfInBounds_toArray, List.set_cons_zero, List.set_cons_succ, i64_w, i32_w]
        rfl
       refine take_ (i := 11) (N := some 94) (v := ?_) (a' := ?_) #[true, true, true, true, true, true, true, true, true, true, true, true, false, false, false, false, false] rfl rfl (by as_aux_lemma => kernel_rfl) (fun _ _ _ h => h) (Or.inl ⟨by rfl, ?_⟩) hHeld ?_ ?_
       rotate_left
       ·rintro w' ⟨s0, s1, s2⟩
        go_simp
        with_reducible rfl
       rotate_left
       ·simp only [Act.put, List.setIfInBounds_toArray, List.set_cons_zero, List.set_cons_succ, i64_w, i32_w]
        rfl
       refine pure_ (i := 12) (N := some 95) (v := ?_) (a' := ?_) #[true, true, true, true, true, true, true, true, true, true, true, true, true, false, false, false, false] rfl rfl (by as_aux_lemma => kernel_rfl) (fun _ _ _ h => h) (Or.inl ⟨by rfl, ?_⟩) ?_ ?_
       rotate_left
       ·intro w'
        go_simp
        with_reducible rfl
       rotate_left
       ·simp only [Act.put, List.setIfInBounds_toArray, List.set_cons_zero, List.set_cons_succ, i64_w, i32_w]
        rfl
       refine pure_ (i := 13) (N := some 96) (v := ?_) (a' := ?_) #[true, true, true, true, true, true, true, true, true, true, true, true, true, true, false, false, false] rfl rfl (by as_aux_lemma => kernel_rfl) (fun _ _ _ h => h) (Or.inl ⟨by rfl, ?_⟩) ?_ ?_
       rotate_left
       ·intro w'
        go_simp
        with_reducible rfl
       rotate_left
       ·simp only [Act.put, List.setIfInBounds_toArray, List.set_cons_zero, List.set_cons_succ, i64_w, i32_w]
        rfl
       refine take_ (i := 14) (N := some 97) (v := ?_) (a' := ?_) #[true, true, true, true, true, true, true, true, true, true, true, true, true, true, true, false, false] rfl rfl (by as_aux_lemma => kernel_rfl) (fun _ _ _ h => h) (Or.inl ⟨by rfl, ?_⟩) hHeld ?_ ?_
       rotate_left
       ·rintro w' ⟨s0, s1, s2⟩
        go_simp
        with_reducible rfl
       rotate_left
       ·simp only [Act.put, List.setIfInBounds_toArray, List.set_cons_zero, List.set_cons_succ, i64_w, i32_w]
        rfl
       refine pure_ (i := 15) (N := some 98) (v := ?_) (a' := ?_) #[true, true, true, true, true, true, true, true, true, true, true, true, true, true, true, true, false] rfl rfl (by as_aux_lemma => kernel_rfl) (fun _ _ _ h => h) (Or.inl ⟨by rfl, ?_⟩) ?_ ?_
       rotate_left
       ·intro w'
        go_simp
        with_reducible rfl
       rotate_left
       ·simp only [Act.put, List.setIfInBounds_toArray, List.set_cons_zero, List.set_cons_succ, i64_w, i32_w]
        rfl
       refine pure_ (i := 16) (N := some 99) (v := ?_) (a' := ?_) #[true, true, true, true, true, true, true, true, true, true, true, true, true, true, true, true, true] rfl rfl (by as_aux_lemma => kernel_rfl) (fun _ _ _ h => h) (Or.inl ⟨by rfl, ?_⟩) ?_ ?_
       rotate_left
       ·intro w'
        go_simp
        with_reducible rfl
       rotate_left
       ·simp only [Act.put, List.setIfInBounds_toArray, List.set_cons_zero, List.set_cons_succ, i64_w, i32_w]
        rfl
       refine done_ (by as_aux_lemma => kernel_rfl) ?_
       go_wp2_with fail

       have hd_ := below_step HB.out (below_drew (Below.refl w6.heap.size w6))
       refine start_ (n := 20) (S := fun w' => w'.cell? ⟨b3, 3, none⟩ = some (.slice A7 m c7) ∧ w'.cell? ⟨b0, 3, none⟩ = some (.slice (some ax) n c1) ∧ w'.cell? (ax.add (j * 5)) = some (.string x.f0) ∧ w'.cell? ⟨(ax.add (j * 5)).block, (ax.add (j * 5)).off + 1, none⟩ = some (.int .i64 x.f1) ∧ w'.cell? ⟨(ax.add (j * 5)).block, (ax.add (j * 5)).off + 1 + 1, none⟩ = some (.bool x.f2) ∧ w'.cell? ⟨(ax.add (j * 5)).block, (ax.add (j * 5)).off + 1 + 2, none⟩ = some (.string x.f3) ∧ w'.cell? ⟨(ax.add (j * 5)).block, (ax.add (j * 5)).off + 1 + 3, none⟩ = some (.slice A4 x.f4.length c4)) (ds := [19]) #[false, false, false, false, false, false, false, false, false, false, false, false, false, false, false, false, false, false, false, false] (by as_aux_lemma => kernel_rfl) rfl rfl (⟨(B3.out.below (below_drew (Below.refl _ _))).cell 3 _ rfl, (B0.out.below (below_drew (Below.refl _ _))).cell 3 _ rfl, pw_cell_below hd_ HEX.out.1, pw_cell_below hd_ HEX.out.2.1, pw_cell_below hd_ HEX.out.2.2.1, pw_cell_below hd_ HEX.out.2.2.2.1, pw_cell_below hd_ HEX.out.2.2.2.2⟩) (fun hHeld => ?_)
       have hb : Below w6.heap.size w6 w6.drew := below_drew (Below.refl _ _)
       replace B0 := Aside0.mk (B0.out.below hb)
       replace B1 := Aside0.mk (B1.out.below hb)
       replace B2 := Aside0.mk (B2.out.below hb)
       replace B3 := Aside0.mk (B3.out.below hb)
       replace HO := Aside0.mk (HO.out.newer hb)
       replace HB := Aside0.mk (below_step HB.out hb)
       generalize w6.drew = w7 at *
       clear hb

       clear hd_
       refine pure_ (i := 0) (N := some 100) (v := ?_) (a' := ?_) #[true, false, false, false, false, false, false, false, false, false, false, false, false, false, false, false, false, false, false, false] rfl rfl (by as_aux_lemma => kernel_rfl) (fun _ _ _ h => h) (Or.inl ⟨by rfl, ?_⟩) ?_ ?_
       rotate_left
       ·intro w'
        go_simp
        with_reducible rfl
       rotate_left
       ·simp only [Act.put, List.setIfInBounds_toArray, List.set_cons_zero, List.set_cons_succ, i64_w, i32_w]
        rfl
       refine take_ (i := 1) (N := some 101) (v := ?_) (a' := ?_) #[true, true, false, false, false, false, false, false, false, false, false, false, false, false, false, false, false, false, false, false] rfl rfl (by as_aux_lemma => kernel_rfl) (fun _ _ _ h => h) (Or.inl ⟨by rfl, ?_⟩) hHeld ?_ ?_
       rotate_left
       ·rintro w' ⟨s0, s1, s2, s3, s4, s5, s6⟩
        go_simp
        with_reducible rfl
       rotate_left
       ·simp only [Act.put, List.setIfInBounds_toArray, List.set_cons_zero, List.set_cons_succ, i64_w, i32_w]
        rfl
       refine pure_ (i := 2) (N := some 102) (v := ?_) (a' := ?_) #[true, true, true, false, false, false, false, false, false, false, false, false, false, false, false, false, false, false, false, false] rfl rfl (by as_aux_lemma => kernel_rfl) (fun _ _ _ h => h) (Or.inl ⟨by rfl, ?_⟩) ?_ ?_
       rotate_left
       ·intro w'
        go_simp
        with_reducible rfl
       rotate_left
       ·simp only [Act.put, List.setIfInBounds_toArray, List.set_cons_zero, List.set_cons_succ, i64_w, i32_w]
        rfl
       refine take_ (i := 3) (N := some 103) (v := ?_) (a' := ?_) #[true, true, true, true, false, false, false, false, false, false, false, false, false, false, false, false, false, false, false, false] rfl rfl (by as_aux_lemma => kernel_rfl) (fun _ _ _ h => h) (Or.inl ⟨by rfl, ?_⟩) hHeld ?_ ?_
       rotate_left
       ·rintro w' ⟨s0, s1, s2, s3, s4, s5, s6⟩
        go_simp
        with_reducible rfl
       rotate_left
       ·simp only [Act.put, List.setIfInBounds_toArray, List.set_cons_zero, List.set_cons_succ, i64_w, i32_w]
        rfl
       refine pure_ (i := 4) (N := some 104) (v := ?_) (a' := ?_) #[true, true, true, true, true, false, false, false, false, false, false, false, false, false, false, false, false, false, false, false] rfl rfl (by as_aux_lemma => kernel_rfl) (fun _ _ _ h => h) (Or.inl ⟨by rfl, ?_⟩) ?_ ?_
       rotate_left
       ·intro w'
        go_simp
        with_reducible rfl
       rotate_left
       ·simp only [Act.put, List.setIfInBounds_toArray, List.set_cons_zero, List.set_cons_succ, i64_w, i32_w]
        rfl
       refine pure_ (i := 5) (N := some 105) (v := ?_) (a' := ?_) #[true, true, true, true, true, true, false, false, false, false, false, false, false, false, false, false, false, false, false, false] rfl rfl (by as_aux_lemma => kernel_rfl) (fun _ _ _ h => h) (Or.inl ⟨by rfl, ?_⟩) ?_ ?_
       rotate_left
       ·intro w'
        go_simp
        with_reducible rfl
       rotate_left
       ·simp only [Act.put, List.setIfInBounds_toArray, List.set_cons_zero, List.set_cons_succ, i64_w, i32_w]
        rfl
       refine pure_ (i := 6) (N := some 106) (v := ?_) (a' := ?_) #[true, true, true, true, true, true, true, false, false, false, false, false, false, false, false, false, false, false, false, false] rfl rfl (by as_aux_lemma => kernel_rfl) (fun _ _ _ h => h) (Or.inl ⟨by rfl, ?_⟩) ?_ ?_
       rotate_left
       ·intro w'
        go_simp
        with_reducible rfl
       rotate_left
       ·simp only [Act.put, List.setIfInBounds_toArray, List.set_cons_zero, List.set_cons_succ, i64_w, i32_w]
        rfl
       refine take_ (i := 7) (N := some 107) (v := ?_) (a' := ?_) #[true, true, true, true, true, true, true, true, false, false, false, false, false, false, false, false, false, false, false, false] rfl rfl (by as_aux_lemma => kernel_rfl) (fun _ _ _ h => h) (Or.inl ⟨by rfl, ?_⟩) hHeld ?_ ?_
       rotate_left
       ·rintro w' ⟨s0, s1, s2, s3, s4, s5, s6⟩
        go_simp
        with_reducible rfl
       rotate_left
       ·simp only [Act.put, List.setIfInBounds_toArray, List.set_cons_zero, List.set_cons_succ, i64_w, i32_w]
        rfl
       refine pure_ (i := 8) (N := some 108) (v := ?_) (a' := ?_) #[true, true, true, true, true, true, true, true, true, false, false, false, false, false, false, false, false, false, false, false] rfl rfl (by as_aux_lemma => kernel_rfl) (fun _ _ _ h => h) (Or.inl ⟨by rfl, ?_⟩) ?_ ?_
       rotate_left
       ·intro w'
        go_simp
        with_reducible rfl
       rotate_left
       ·simp only [Act.put, List.setIfInBounds_toArray, List.set_cons_zero, List.set_cons_succ, i64_w, i32_w]
        rfl
       refine take_ (i := 9) (N := some 109) (v := ?_) (a' := ?_) #[true, true, true, true, true, true, true, true, true, true, false, false, false, false, false, false, false, false, false, false] rfl rfl (by as_aux_lemma => kernel_rfl) (fun _ _ _ h => h) (Or.inl ⟨by rfl, ?_⟩) hHeld ?_ ?_
       rotate_left
       ·rintro w' ⟨s0, s1, s2, s3, s4, s5, s6⟩
        go_simp
        with_reducible rfl
       rotate_left
       ·simp only [Act.put, List.setIfInBounds_toArray, List.set_cons_zero, List.set_cons_succ, i64_w, i32_w]
        rfl
       refine pure_ (i := 10) (N := some 110) (v := ?_) (a' := ?_) #[true, true, true, true, true, true, true, true, true, true, true, false, false, false, false, false, false, false, false, false] rfl rfl (by as_aux_lemma => kernel_rfl) (fun _ _ _ h => h) (Or.inl ⟨by rfl, ?_⟩) ?_ ?_
       rotate_left
       ·intro w'
        go_simp
        with_reducible rfl
       rotate_left
       ·simp only [Act.put, List.setIfInBounds_toArray, List.set_cons_zero, List.set_cons_succ, i64_w, i32_w]
        rfl
       refine pure_ (i := 11) (N := some 111) (v := ?_) (a' := ?_) #[true, true, true, true, true, true, true, true, true, true, true, true, false, false, false, false, false, false, false, false] rfl rfl (by as_aux_lemma => kernel_rfl) (fun _ _ _ h => h) (Or.inl ⟨by rfl, ?_⟩) ?_ ?_
       rotate_left
       ·intro w'
        go_simp
        with_reducible rfl
       rotate_left
       ·simp only [Act.put, List.setIfInBounds_toArray, List.set_cons_zero, List.set_cons_succ, i64_w, i32_w]
        rfl
       refine pure_ (i := 12) (N := some 112) (v := ?_) (a' := ?_) #[true, true, true, true, true, true, true, true, true, true, true, true, true, false, false, false, false, false, false, false] rfl rfl (by as_aux_lemma => kernel_rfl) (fun _ _ _ h => h) (Or.inl ⟨by rfl, ?_⟩) ?_ ?_
       rotate_left
       ·intro w'
        go_simp
        with_reducible rfl
       rotate_left
       ·simp only [Act.put, List.setIfInBounds_toArray, List.set_cons_zero, List.set_cons_succ, i64_w, i32_w]
        rfl
       refine take_ (i := 13) (N := some 113) (v := ?_) (a' := ?_) #[true, true, true, true, true, true, true, true, true, true, true, true, true, true, false, false, false, false, false, false] rfl rfl (by as_aux_lemma => kernel_rfl) (fun _ _ _ h => h) (Or.inl ⟨by rfl, ?_⟩) hHeld ?_ ?_
       rotate_left
       ·rintro w' ⟨s0, s1, s2, s3, s4, s5, s6⟩
        go_simp
        with_reducible rfl
       rotate_left
       ·simp only [Act.put, List.setIfInBounds_toArray, List.set_cons_zero, List.set_cons_succ, i64_w, i32_w]
        rfl
       refine one_ (i := 14) (N := some 114) #[true, true, true, true, true, true, true, true, true, true, true, true, true, true, true, false, false, false, false, false] rfl rfl (by as_aux_lemma => kernel_rfl) (by decide) (fun K hK => ?_)
       refine goes_ Tryd.func23 (by as_aux_lemma => kernel_rfl) rfl #[.agg #[.int .i64 x.f1, .bool x.f2, .string x.f3, .slice A4 x.f4.length c4]] (by rfl) rfl rfl (by (try simp only [List.map_toArray, List.map_cons, List.map_nil]); first | done | rfl) ?_
       refine (cloneO_calls x.f4 (HGK.out.2.2.2 x HXM.out).fit x.f1 x.f2 x.f3 A4 c4 w7 (Kd.C_below HC4.out.1 HB.out) HC4.out.2).mono ?_

       rintro o w5 ⟨v4, rfl, hr4, hb⟩
       obtain ⟨A6, c6, hv4, _⟩ := hr4.slice
       subst hv4
       have HN := Aside0.mk hr4
       have HZ7 := Aside0.mk (And.intro HB.out.size (And.intro B3.out.lt hb.size))
       replace B0 := Aside0.mk (B0.out.below hb)
       replace B1 := Aside0.mk (B1.out.below hb)
       replace B2 := Aside0.mk (B2.out.below hb)
       replace B3 := Aside0.mk (B3.out.below hb)
       replace HO := Aside0.mk (HO.out.bound.newer hb)
       replace HB := Aside0.mk (below_step HB.out hb)
       clear hr4 hb
       refine ⟨_, rfl, ?_⟩
       refine hK.out _ _ ⟨B3.out.cell 3 _ rfl, B0.out.cell 3 _ rfl, pw_cell_below HB.out HEX.out.1, pw_cell_below HB.out HEX.out.2.1, pw_cell_below HB.out HEX.out.2.2.1, pw_cell_below HB.out HEX.out.2.2.2.1, pw_cell_below HB.out HEX.out.2.2.2.2⟩ (fun _ => ?_)
       clear hK K
       refine pure_ (i := 15) (N := some 115) (v := ?_) (a' := ?_) #[true, true, true, true, true, true, true, true, true, true, true, true, true, true, true, true, false, false, false, false] rfl rfl (by as_aux_lemma => kernel_rfl) (fun _ _ _ h => h) (Or.inl ⟨by rfl, ?_⟩) ?_ ?_
       rotate_left
       ·intro w'
        go_simp
        with_reducible rfl
       rotate_left
       ·simp only [Act.put, List.setIfInBounds_toArray, List.set_cons_zero, List.set_cons_succ, i64_w, i32_w]
        rfl
       refine one_ (i := 16) (N := some 116) #[true, true, true, true, true, true, true, true, true, true, true, true, true, true, true, true, true, false, false, false] rfl rfl (by as_aux_lemma => kernel_rfl) (by decide) (fun K hK => ?_)
       refine value_ (w1 := w5.alloc (.cells #[.string x.f0, .int .i64 x.f1, .bool x.f2, .string x.f3, .slice A6 x.f4.length c6] 63)) (v := .slice (some ⟨w5.heap.size, 0, none⟩) 1 1) (by rfl) rfl ?_ ?_
       ·go_simp
       have hba : Below w5.heap.size w5 (w5.alloc (.cells #[.string x.f0, .int .i64 x.f1, .bool x.f2, .string x.f3, .slice A6 x.f4.length c6] 63)) := below_alloc (Below.refl _ _) _
       refine hK.out _ _ ⟨(B3.out.below hba).cell 3 _ rfl, (B0.out.below hba).cell 3 _ rfl, pw_cell_below (below_step HB.out hba) HEX.out.1, pw_cell_below (below_step HB.out hba) HEX.out.2.1, pw_cell_below (below_step HB.out hba) HEX.out.2.2.1, pw_cell_below (below_step HB.out hba) HEX.out.2.2.2.1, pw_cell_below (below_step HB.out hba) HEX.out.2.2.2.2⟩ (fun _ => ?_)
       clear hK K hba
       refine one_ (i := 17) (N := some 117) #[true, true, true, true, true, true, true, true, true, true, true, true, true, true, true, true, true, true, false, false] rfl rfl (by as_aux_lemma => kernel_rfl) (by decide) (fun K hK => ?_)

       obtain ⟨ts, hts, hP⟩ := HO.out.parts
       have hln := congrArg List.length hts
       rw [List.length_map] at hln
       refine step_append_cells (w0 := w) w.heap.size (by rfl) (.tmp 101) (.tmp 116) 30 63 (.agg #[.string ⟨#[]⟩, .int .i64 0, .bool false, .string ⟨#[]⟩, .slice none 0 0]) 5 72 rfl Tryd.underlying30 (by as_aux_lemma => kernel_rfl) rfl (by decide) (by decide)
        (.slice A7 m c7) ts.length (fl ts) (ecells x (.slice A6 x.f4.length c6)) (by rfl) (by rfl) rfl (ecells_one rfl) hP.row HB.out HB.out.size (by have := HPL.out; omega) ?_
       intro v1 wn hrow hb1 hg hat
       have hO8 := own_app (b3 := b3) (x := x) hts hP HN.out HZ7.out.1 HZ7.out.2.1 HZ7.out.2.2 hrow hg hat
       obtain ⟨A9, c9, hv8⟩ : ∃ A8 c8, v1 = .slice A8 (m + 1) c8 := by
        obtain ⟨A8, c8, h, _⟩ := hO8.slice
        exact ⟨A8, c8, by rw [h, List.length_append, HPL.out]; rfl⟩
       subst hv8
       replace B0 := Aside0.mk (keep_app hP hg B0.out (by decide))
       replace B1 := Aside0.mk (keep_app hP hg B1.out (by decide))
       replace B2 := Aside0.mk (keep_app hP hg B2.out (by decide))
       replace B3 := Aside0.mk (keep_app hP hg B3.out (by decide))
       replace HO := Aside0.mk hO8
       replace HPL : Aside0 ((P ++ [x]).length = m + 1) := ⟨by rw [List.length_append, HPL.out]; rfl⟩
       replace HB := Aside0.mk hb1
       have y03 := B3.out.frozen 3
       have x03 := B3.out.cell 3 _ rfl
       clear hrow hb1 hg hat hln hts hP ts hO8 HN HZ7
       refine hK.out _ _ ⟨B3.out.cell 3 _ rfl, B0.out.cell 3 _ rfl, pw_cell_below HB.out HEX.out.1, pw_cell_below HB.out HEX.out.2.1, pw_cell_below HB.out HEX.out.2.2.1, pw_cell_below HB.out HEX.out.2.2.2.1, pw_cell_below HB.out HEX.out.2.2.2.2⟩ (fun _ => ?_)
       clear hK K
       refine pure_ (i := 18) (N := some 118) (v := ?_) (a' := ?_) #[true, true, true, true, true, true, true, true, true, true, true, true, true, true, true, true, true, true, true, false] rfl rfl (by as_aux_lemma => kernel_rfl) (fun _ _ _ h => h) (Or.inl ⟨by rfl, ?_⟩) ?_ ?_
       rotate_left
       ·intro w'
        go_simp
        with_reducible rfl
       rotate_left
       ·simp only [Act.put, List.setIfInBounds_toArray, List.set_cons_zero, List.set_cons_succ, i64_w, i32_w]
        rfl
       refine last_ (i := 19) (N := none) #[true, true, true, true, true, true, true, true, true, true, true, true, true, true, true, true, true, true, true, true] rfl rfl (by as_aux_lemma => kernel_rfl) (by decide) (fun K hK => ?_)
       refine skip_ (w1 := wn.setCell ⟨b3, 3, none⟩ (.slice A9 (m + 1) c9)) (by rfl) rfl ?_ ?_
       ·go_simp
       refine hK.out _ _ ?_
       clear hK K
       refine done_ (by as_aux_lemma => kernel_rfl) ?_
       obtain ⟨w9, hW9⟩ : ∃ W9, W9 = wn.setCell ⟨b3, 3, none⟩ (.slice A9 (m + 1) c9) := ⟨_, rfl⟩
       have hz5 := HZ.out
       replace B0 : Aside0 (Blk w9 b0 32 [.int .i64 k, .bool e, .string t, .slice (some ax) n c1]) := ⟨by rw [hW9]; exact (Below.heap_setCell _ _ _ _ (by show b0 ≠ b3; omega)).trans B0.out⟩
       replace B1 : Aside0 (Blk w9 b1 32 [.int .i64 sk, .bool se, .string st, .slice A3 sl.length c3]) := ⟨by rw [hW9]; exact (Below.heap_setCell _ _ _ _ (by show b1 ≠ b3; omega)).trans B1.out⟩
       replace B2 : Aside0 (Blk w9 b2 32 [.int .i64 0, .bool false, .string ⟨#[]⟩, .slice none 0 0]) := ⟨by rw [hW9]; exact (Below.heap_setCell _ _ _ _ (by show b2 ≠ b3; omega)).trans B2.out⟩
       replace HO : Aside0 (Own w9 w.heap.size (fun k => b3 < k) (.slice A9 (m + 1) c9) (P ++ [x])) := ⟨by rw [hW9]; exact HO.out.set B3.out (by decide) 3 _⟩
       replace HB : Aside0 (Below w.heap.size w w9) := ⟨by rw [hW9]; exact HB.out.setCell (p := ⟨b3, 3, none⟩) (by show w.heap.size ≤ b3; omega) _⟩
       replace B3 : Aside0 (Blk w9 b3 32 [.int .i64 3, .bool false, .string ⟨#[]⟩, .slice A9 (m + 1) c9]) := ⟨by rw [hW9]; exact blk_put (cs := #[.int .i64 3, .bool false, .string ⟨#[]⟩, .slice A7 m c7]) B3.out 3 _ rfl⟩
       rw [← hW9]
       clear hW9 hz5 x03 y03 hHeld
       go_wp2_with fail

       go_roundw
       case rel => exact ⟨j + 1, true, (P ++ [x]), (m + 1), A9, c9, by omega, rfl, by go_num, by omega, ⟨HPL.out, by have h1 := HP.out.2.1; rw [restG_step HX.out] at h1; simpa [hx] using h1, fun h => by cases h⟩, B0, B1, B2, B3, HO, HB⟩
       case measure => simp [intOf]; omega
     | false =>
      have HPL : Aside0 (P.length = m) := ⟨HP.out.1⟩

      obtain ⟨cv, hcv, hci0⟩ := compare_E x.f0 z.f0 (Nat.le_trans (HGK.out.2.2.1 x HXM.out) (by decide)) (Nat.le_trans (HNM.out _ List.mem_cons_self) (by decide)) 8000000 (by have h1 := HGK.out.2.2.1 x HXM.out; have h2 := HNM.out _ List.mem_cons_self; omega)
      have hci : 0 ≤ cv ↔ ¬ cmpB x.f0 z.f0 < 0 := by
       rw [hci0, nle_cmp]
       have h2 := cmpB_neg x.f0 z.f0
       omega
      clear hci0
      have HCV := Aside0.mk hcv
      have HCI := Aside0.mk hci
      clear hcv hci
      have hse_ := pw_cell_below HB.out HSE.out
      have he0_ := pw_cell_below HB.out HEX.out.1
      refine start_ (n := 22) (S := fun w' => w'.cell? ⟨b0, 3, none⟩ = some (.slice (some ax) n c1) ∧ w'.cell? (ax.add (j * 5)) = some (.string x.f0) ∧ w'.cell? ad = some (.string z.f0)) (ds := []) #[false, false, false, false, false, false, false, false, false, false, false, false, false, false, false, false, false, false, false, false, false, false] (by as_aux_lemma => kernel_rfl) rfl rfl (⟨(B0.out.below (below_drew (Below.refl _ _))).cell 3 _ rfl, pw_cell_below (below_drew (Below.refl _ _)) he0_, pw_cell_below (below_drew (Below.refl _ _)) hse_⟩) (fun hHeld => ?_)
      have hb : Below wr.heap.size wr wr.drew := below_drew (Below.refl _ _)
      replace B0 := Aside0.mk (B0.out.below hb)
      replace B1 := Aside0.mk (B1.out.below hb)
      replace B2 := Aside0.mk (B2.out.below hb)
      replace B3 := Aside0.mk (B3.out.below hb)
      replace HO := Aside0.mk (HO.out.newer hb)
      replace HB := Aside0.mk (below_step HB.out hb)
      generalize wr.drew = w0 at *
      clear hb

      clear hse_ he0_
      refine pure_ (i := 0) (N := some 24) (v := ?_) (a' := ?_) #[true, false, false, false, false, false, false, false, false, false, false, false, false, false, false, false, false, false, false, false, false, false] rfl rfl (by as_aux_lemma => kernel_rfl) (fun _ _ _ h => h) (Or.inl ⟨by rfl, ?_⟩) ?_ ?_
      rotate_left
      ·intro w'
       go_simp
       with_reducible rfl
      rotate_left
      ·simp only [Act.put, List.setIfInBounds_toArray, List.set_cons_zero, List.set_cons_succ, i64_w, i32_w]
       rfl
      refine pure_ (i := 1) (N := some 25) (v := ?_) (a' := ?_) #[true, true, false, false, false, false, false, false, false, false, false, false, false, false, false, false, false, false, false, false, false, false] rfl rfl (by as_aux_lemma => kernel_rfl) (fun _ _ _ h => h) (Or.inl ⟨by rfl, ?_⟩) ?_ ?_
      rotate_left
      ·intro w'
       go_simp
       with_reducible rfl
      rotate_left
      ·simp only [Act.put, List.setIfInBounds_toArray, List.set_cons_zero, List.set_cons_succ, i64_w, i32_w]
       rfl
      refine pure_ (i := 2) (N := some 26) (v := ?_) (a' := ?_) #[true, true, true, false, false, false, false, false, false, false, false, false, false, false, false, false, false, false, false, false, false, false] rfl rfl (by as_aux_lemma => kernel_rfl) (fun _ _ _ h => h) (Or.inl ⟨by rfl, ?_⟩) ?_ ?_
      rotate_left
      ·intro w'
       go_simp
       with_reducible rfl
      rotate_left
      ·simp only [Act.put, List.setIfInBounds_toArray, List.set_cons_zero, List.set_cons_succ, i64_w, i32_w]
       rfl
      refine pure_ (i := 3) (N := some 27) (v := ?_) (a' := ?_) #[true, true, true, true, false, false, false, false, false, false, false, false, false, false, false, false, false, false, false, false, false, false] rfl rfl (by as_aux_lemma => kernel_rfl) (fun _ _ _ h => h) (Or.inl ⟨by rfl, ?_⟩) ?_ ?_
      rotate_left
      ·intro w'
       go_simp
       with_reducible rfl
      rotate_left
      ·simp only [Act.put, List.setIfInBounds_toArray, List.set_cons_zero, List.set_cons_succ, i64_w, i32_w]
       rfl
      refine pure_ (i := 4) (N := some 28) (v := ?_) (a' := ?_) #[true, true, true, true, true, false, false, false, false, false, false, false, false, false, false, false, false, false, false, false, false, false] rfl rfl (by as_aux_lemma => kernel_rfl) (fun _ _ _ h => h) (Or.inl ⟨by rfl, ?_⟩) ?_ ?_
      rotate_left
      ·intro w'
       go_simp
       with_reducible rfl
      rotate_left
      ·simp only [Act.put, List.setIfInBounds_toArray, List.set_cons_zero, List.set_cons_succ, i64_w, i32_w]
       rfl
      refine take_ (i := 5) (N := some 29) (v := ?_) (a' := ?_) #[true, true, true, true, true, true, false, false, false, false, false, false, false, false, false, false, false, false, false, false, false, false] rfl rfl (by as_aux_lemma => kernel_rfl) (fun _ _ _ h => h) (Or.inl ⟨by rfl, ?_⟩) hHeld ?_ ?_
      rotate_left
      ·rintro w' ⟨s0, s1, s2⟩
       go_simp
       with_reducible rfl
      rotate_left
      ·simp only [Act.put, List.setIfInBounds_toArray, List.set_cons_zero, List.set_cons_succ, i64_w, i32_w]
       rfl
      refine pure_ (i := 6) (N := some 30) (v := ?_) (a' := ?_) #[true, true, true, true, true, true, true, false, false, false, false, false, false, false, false, false, false, false, false, false, false, false] rfl rfl (by as_aux_lemma => kernel_rfl) (fun _ _ _ h => h) (Or.inl ⟨by rfl, ?_⟩) ?_ ?_
      rotate_left
      ·intro w'
       go_simp
       with_reducible rfl
      rotate_left
      ·simp only [Act.put, List.setIfInBounds_toArray, List.set_cons_zero, List.set_cons_succ, i64_w, i32_w]
       rfl
      refine pure_ (i := 7) (N := some 31) (v := ?_) (a' := ?_) #[true, true, true, true, true, true, true, true, false, false, false, false, false, false, false, false, false, false, false, false, false, false] rfl rfl (by as_aux_lemma => kernel_rfl) (fun _ _ _ h => h) (Or.inl ⟨by rfl, ?_⟩) ?_ ?_
      rotate_left
      ·intro w'
       go_simp
       with_reducible rfl
      rotate_left
      ·simp only [Act.put, List.setIfInBounds_toArray, List.set_cons_zero, List.set_cons_succ, i64_w, i32_w]
       rfl
      refine pure_ (i := 8) (N := some 32) (v := ?_) (a' := ?_) #[true, true, true, true, true, true, true, true, true, false, false, false, false, false, false, false, false, false, false, false, false, false] rfl rfl (by as_aux_lemma => kernel_rfl) (fun _ _ _ h => h) (Or.inl ⟨by rfl, ?_⟩) ?_ ?_
      rotate_left
      ·intro w'
       go_simp
       with_reducible rfl
      rotate_left
      ·simp only [Act.put, List.setIfInBounds_toArray, List.set_cons_zero, List.set_cons_succ, i64_w, i32_w]
       rfl
      refine pure_ (i := 9) (N := some 33) (v := ?_) (a' := ?_) #[true, true, true, true, true, true, true, true, true, true, false, false, false, false, false, false, false, false, false, false, false, false] rfl rfl (by as_aux_lemma => kernel_rfl) (fun _ _ _ h => h) (Or.inl ⟨by rfl, ?_⟩) ?_ ?_
      rotate_left
      ·intro w'
       go_simp
       with_reducible rfl
      rotate_left
      ·simp only [Act.put, List.setIfInBounds_toArray, List.set_cons_zero, List.set_cons_succ, i64_w, i32_w]
       rfl
      refine take_ (i := 10) (N := some 34) (v := ?_) (a' := ?_) #[true, true, true, true, true, true, true, true, true, true, true, false, false, false, false, false, false, false, false, false, false, false] rfl rfl (by as_aux_lemma => kernel_rfl) (fun _ _ _ h => h) (Or.inl ⟨by rfl, ?_⟩) hHeld ?_ ?_
      rotate_left
      ·rintro w' ⟨s0, s1, s2⟩
       go_simp
       with_reducible rfl
      rotate_left
      ·simp only [Act.put, List.setIfInBounds_toArray, List.set_cons_zero, List.set_cons_succ, i64_w, i32_w]
       rfl
      refine pure_ (i := 11) (N := some 35) (v := ?_) (a' := ?_) #[true, true, true, true, true, true, true, true, true, true, true, true, false, false, false, false, false, false, false, false, false, false] rfl rfl (by as_aux_lemma => kernel_rfl) (fun _ _ _ h => h) (Or.inl ⟨by rfl, ?_⟩) ?_ ?_
      rotate_left
      ·intro w'
       go_simp
       with_reducible rfl
      rotate_left
      ·simp only [Act.put, List.setIfInBounds_toArray, List.set_cons_zero, List.set_cons_succ, i64_w, i32_w]
       rfl
      refine pure_ (i := 12) (N := some 36) (v := ?_) (a' := ?_) #[true, true, true, true, true, true, true, true, true, true, true, true, true, false, false, false, false, false, false, false, false, false] rfl rfl (by as_aux_lemma => kernel_rfl) (fun _ _ _ h => h) (Or.inl ⟨by rfl, ?_⟩) ?_ ?_
      rotate_left
      ·intro w'
       go_simp
       with_reducible rfl
      rotate_left
      ·simp only [Act.put, List.setIfInBounds_toArray, List.set_cons_zero, List.set_cons_succ, i64_w, i32_w]
       rfl
      refine pure_ (i := 13) (N := some 37) (v := ?_) (a' := ?_) #[true, true, true, true, true, true, true, true, true, true, true, true, true, true, false, false, false, false, false, false, false, false] rfl rfl (by as_aux_lemma => kernel_rfl) (fun _ _ _ h => h) (Or.inl ⟨by rfl, ?_⟩) ?_ ?_
      rotate_left
      ·intro w'
       go_simp
       with_reducible rfl
      rotate_left
      ·simp only [Act.put, List.setIfInBounds_toArray, List.set_cons_zero, List.set_cons_succ, i64_w, i32_w]
       rfl
      refine take_ (i := 14) (N := some 38) (v := ?_) (a' := ?_) #[true, true, true, true, true, true, true, true, true, true, true, true, true, true, true, false, false, false, false, false, false, false] rfl rfl (by as_aux_lemma => kernel_rfl) (fun _ _ _ h => h) (Or.inl ⟨by rfl, ?_⟩) hHeld ?_ ?_
      rotate_left
      ·rintro w' ⟨s0, s1, s2⟩
       go_simp
       with_reducible rfl
      rotate_left
      ·simp only [Act.put, List.setIfInBounds_toArray, List.set_cons_zero, List.set_cons_succ, i64_w, i32_w]
       rfl
      refine pure_ (i := 15) (N := some 39) (v := ?_) (a' := ?_) #[true, true, true, true, true, true, true, true, true, true, true, true, true, true, true, true, false, false, false, false, false, false] rfl rfl (by as_aux_lemma => kernel_rfl) (fun _ _ _ h => h) (Or.inl ⟨by rfl, ?_⟩) ?_ ?_
      rotate_left
      ·intro w'
       go_simp
       with_reducible rfl
      rotate_left
      ·simp only [Act.put, List.setIfInBounds_toArray, List.set_cons_zero, List.set_cons_succ, i64_w, i32_w]
       rfl
      refine pure_ (i := 16) (N := some 40) (v := ?_) (a' := ?_) #[true, true, true, true, true, true, true, true, true, true, true, true, true, true, true, true, true, false, false, false, false, false] rfl rfl (by as_aux_lemma => kernel_rfl) (fun _ _ _ h => h) (Or.inl ⟨by rfl, ?_⟩) ?_ ?_
      rotate_left
      ·intro w'
       go_simp
       with_reducible rfl
      rotate_left
      ·simp only [Act.put, List.setIfInBounds_toArray, List.set_cons_zero, List.set_cons_succ, i64_w, i32_w]
       rfl
      refine take_ (i := 17) (N := some 41) (v := ?_) (a' := ?_) #[true, true, true, true, true, true, true, true, true, true, true, true, true, true, true, true, true, true, false, false, false, false] rfl rfl (by as_aux_lemma => kernel_rfl) (fun _ _ _ h => h) (Or.inl ⟨by rfl, ?_⟩) hHeld ?_ ?_
      rotate_left
      ·rintro w' ⟨s0, s1, s2⟩
       go_simp
       with_reducible rfl
      rotate_left
      ·simp only [Act.put, List.setIfInBounds_toArray, List.set_cons_zero, List.set_cons_succ, i64_w, i32_w]
       rfl
      refine one_ (i := 18) (N := some 42) #[true, true, true, true, true, true, true, true, true, true, true, true, true, true, true, true, true, true, true, false, false, false] rfl rfl (by as_aux_lemma => kernel_rfl) (by decide) (fun K hK => ?_)
      refine goes_ Tryd.func59 (by as_aux_lemma => kernel_rfl) rfl #[.string x.f0, .string z.f0] (by rfl) rfl rfl (by (try simp only [List.map_toArray, List.map_cons, List.map_nil]); first | done | rfl) ?_
      refine (depotref05_Compare.calls 8000000 x.f0 z.f0 cv w0 HCV.out).mono ?_
      rintro o w1 ⟨rfl, hbc⟩
      have hb : Below w0.heap.size w0 w1 := hbc
      replace B0 := Aside0.mk (B0.out.below hb)
      replace B1 := Aside0.mk (B1.out.below hb)
      replace B2 := Aside0.mk (B2.out.below hb)
      replace B3 := Aside0.mk (B3.out.below hb)
      replace HO := Aside0.mk (HO.out.newer hb)
      replace HB := Aside0.mk (below_step HB.out hb)

      clear hb hbc
      refine ⟨_, rfl, ?_⟩
      refine hK.out _ _ ⟨B0.out.cell 3 _ rfl, pw_cell_below HB.out HEX.out.1, pw_cell_below HB.out HSE.out⟩ (fun _ => ?_)
      clear hK K
      by_cases hneg : cmpB x.f0 z.f0 < 0
      ·have q3 : ¬ (0 : Int) ≤ cv := fun h => (HCI.out.1 h) hneg
       have hx : ¬ x.f0 = z.f0 := fun e => by rw [e, cmpB_self] at hneg; omega
       refine pure_ (i := 19) (N := some 43) (v := ?_) (a' := ?_) #[true, true, true, true, true, true, true, true, true, true, true, true, true, true, true, true, true, true, true, true, false, false] rfl rfl (by as_aux_lemma => kernel_rfl) (fun _ _ _ h => h) (Or.inl ⟨by rfl, ?_⟩) ?_ ?_
       rotate_left
       ·intro w'
        go_simp
        with_reducible rfl
       rotate_left
       ·simp only [Act.put, List.setIfInBounds_toArray, List.set_cons_zero, List.set_cons_succ, i64_w, i32_w]
        rfl
       refine pure_ (i := 20) (N := some 44) (v := ?_) (a' := ?_) #[true, true, true, true, true, true, true, true, true, true, true, true, true, true, true, true, true, true, true, true, true, false] rfl rfl (by as_aux_lemma => kernel_rfl) (fun _ _ _ h => h) (Or.inl ⟨by rfl, ?_⟩) ?_ ?_
       rotate_left
       ·intro w'
        go_simp
        with_reducible rfl
       rotate_left
       ·simp only [Act.put, List.setIfInBounds_toArray, List.set_cons_zero, List.set_cons_succ, i64_w, i32_w]
        rfl
       refine pure_ (i := 21) (N := some 45) (v := ?_) (a' := ?_) #[true, true, true, true, true, true, true, true, true, true, true, true, true, true, true, true, true, true, true, true, true, true] rfl rfl (by as_aux_lemma => kernel_rfl) (fun _ _ _ h => h) (Or.inl ⟨by rfl, ?_⟩) ?_ ?_
       rotate_left
       ·intro w'
        go_simp
        with_reducible rfl
       rotate_left
       ·simp only [Act.put, List.setIfInBounds_toArray, List.set_cons_zero, List.set_cons_succ, i64_w, i32_w]
        rfl
       refine done_ (by as_aux_lemma => kernel_rfl) ?_
       go_wp2_with fail
       have hxl : x.f0.toList ≠ z.f0.toList := fun e => hx (toList_eq.1 e)
       have r1 : (x.f0.toList != z.f0.toList) = true := bne_iff_ne.mpr hxl
       have r2 : (x.f0.toList == z.f0.toList) = false := beq_eq_false_iff_ne.mpr hxl
       clear hxl

       have hse_ := pw_cell_below HB.out HSE.out
       have he0_ := pw_cell_below HB.out HEX.out.1
       refine start_ (n := 17) (S := fun w' => w'.cell? ⟨b0, 3, none⟩ = some (.slice (some ax) n c1) ∧ w'.cell? (ax.add (j * 5)) = some (.string x.f0) ∧ w'.cell? ad = some (.string z.f0)) (ds := []) #[false, false, false, false, false, false, false, false, false, false, false, false, false, false, false, false, false] (by as_aux_lemma => kernel_rfl) rfl rfl (⟨(B0.out.below (below_drew (Below.refl _ _))).cell 3 _ rfl, pw_cell_below (below_drew (Below.refl _ _)) he0_, pw_cell_below (below_drew (Below.refl _ _)) hse_⟩) (fun hHeld => ?_)
       have hb : Below w1.heap.size w1 w1.drew := below_drew (Below.refl _ _)
       replace B0 := Aside0.mk (B0.out.below hb)
       replace B1 := Aside0.mk (B1.out.below hb)
       replace B2 := Aside0.mk (B2.out.below hb)
       replace B3 := Aside0.mk (B3.out.below hb)
       replace HO := Aside0.mk (HO.out.newer hb)
       replace HB := Aside0.mk (below_step HB.out hb)
       generalize w1.drew = w6 at *
       clear hb

       clear hse_ he0_
       refine pure_ (i := 0) (N := some 83) (v := ?_) (a' := ?_) #[true, false, false, false, false, false, false, false, false, false, false, false, false, false, false, false, false] rfl rfl (by as_aux_lemma => kernel_rfl) (fun _ _ _ h => h) (Or.inl ⟨by rfl, ?_⟩) ?_ ?_
       rotate_left
       ·intro w'
        go_simp
        with_reducible rfl
       rotate_left
       ·simp only [Act.put, List.setIfInBounds_toArray, List.set_cons_zero, List.set_cons_succ, i64_w, i32_w]
        rfl
       refine pure_ (i := 1) (N := some 84) (v := ?_) (a' := ?_) #[true, true, false, false, false, false, false, false, false, false, false, false, false, false, false, false, false] rfl rfl (by as_aux_lemma => kernel_rfl) (fun _ _ _ h => h) (Or.inl ⟨by rfl, ?_⟩) ?_ ?_
       rotate_left
       ·intro w'
        go_simp
        with_reducible rfl
       rotate_left
       ·simp only [Act.put, List.setIfInBounds_toArray, List.set_cons_zero, List.set_cons_succ, i64_w, i32_w]
        rfl
       refine take_ (i := 2) (N := some 85) (v := ?_) (a' := ?_) #[true, true, true, false, false, false, false, false, false, false, false, false, false, false, false, false, false] rfl rfl (by as_aux_lemma => kernel_rfl) (fun _ _ _ h => h) (Or.inl ⟨by rfl, ?_⟩) hHeld ?_ ?_
       rotate_left
       ·rintro w' ⟨s0, s1, s2⟩
        go_simp
        with_reducible rfl
       rotate_left
       ·simp only [Act.put, List.setIfInBounds_toArray, List.set_cons_zero, List.set_cons_succ, i64_w, i32_w]
        rfl
       refine pure_ (i := 3) (N := some 86) (v := ?_) (a' := ?_) #[true, true, true, true, false, false, false, false, false, false, false, false, false, false, false, false, false] rfl rfl (by as_aux_lemma => kernel_rfl) (fun _ _ _ h => h) (Or.inl ⟨by rfl, ?_⟩) ?_ ?_
       rotate_left
       ·intro w'
        go_simp
        with_reducible rfl
       rotate_left
       ·simp only [Act.put, List.setIfInBounds_toArray, List.set_cons_zero, List.set_cons_succ, i64_w, i32_w]
        rfl
       refine pure_ (i := 4) (N := some 87) (v := ?_) (a' := ?_) #[true, true, true, true, true, false, false, false, false, false, false, false, false, false, false, false, false] rfl rfl (by as_aux_lemma => kernel_rfl) (fun _ _ _ h => h) (Or.inl ⟨by rfl, ?_⟩) ?_ ?_
       rotate_left
       ·intro w'
        go_simp
        with_reducible rfl
       rotate_left
       ·simp only [Act.put, List.setIfInBounds_toArray, List.set_cons_zero, List.set_cons_succ, i64_w, i32_w]
        rfl
       refine pure_ (i := 5) (N := some 88) (v := ?_) (a' := ?_) #[true, true, true, true, true, true, false, false, false, false, false, false, false, false, false, false, false] rfl rfl (by as_aux_lemma => kernel_rfl) (fun _ _ _ h => h) (Or.inl ⟨by rfl, ?_⟩) ?_ ?_
       rotate_left
       ·intro w'
        go_simp
        with_reducible rfl
       rotate_left
       ·simp only [Act.put, List.setIfInBounds_toArray, List.set_cons_zero, List.set_cons_succ, i64_w, i32_w]
        rfl
       refine pure_ (i := 6) (N := some 89) (v := ?_) (a' := ?_) #[true, true, true, true, true, true, true, false, false, false, false, false, false, false, false, false, false] rfl rfl (by as_aux_lemma => kernel_rfl) (fun _ _ _ h => h) (Or.inl ⟨by rfl, ?_⟩) ?_ ?_
       rotate_left
       ·intro w'
        go_simp
        with_reducible rfl
       rotate_left
       ·simp only [Act.put, List.setIfInBounds_toArray, List.set_cons_zero, List.set_cons_succ, i64_w, i32_w]
        rfl
       refine take_ (i := 7) (N := some 90) (v := ?_) (a' := ?_) #[true, true, true, true, true, true, true, true, false, false, false, false, false, false, false, false, false] rfl rfl (by as_aux_lemma => kernel_rfl) (fun _ _ _ h => h) (Or.inl ⟨by rfl, ?_⟩) hHeld ?_ ?_
       rotate_left
       ·rintro w' ⟨s0, s1, s2⟩
        go_simp
        with_reducible rfl
       rotate_left
       ·simp only [Act.put, List.setIfInBounds_toArray, List.set_cons_zero, List.set_cons_succ, i64_w, i32_w]
        rfl
       refine pure_ (i := 8) (N := some 91) (v := ?_) (a' := ?_) #[true, true, true, true, true, true, true, true, true, false, false, false, false, false, false, false, false] rfl rfl (by as_aux_lemma => kernel_rfl) (fun _ _ _ h => h) (Or.inl ⟨by rfl, ?_⟩) ?_ ?_
       rotate_left
       ·intro w'
        go_simp
        with_reducible rfl
       rotate_left
       ·simp only [Act.put, List.setIfInBounds_toArray, List.set_cons_zero, List.set_cons_succ, i64_w, i32_w]
        rfl
       refine pure_ (i := 9) (N := some 92) (v := ?_) (a' := ?_) #[true, true, true, true, true, true, true, true, true, true, false, false, false, false, false, false, false] rfl rfl (by as_aux_lemma => kernel_rfl) (fun _ _ _ h => h) (Or.inl ⟨by rfl, ?_⟩) ?_ ?_
       rotate_left
       ·intro w'
        go_simp
        with_reducible rfl
       rotate_left
       ·simp only [Act.put, List.setIfInBounds_toArray, List.set_cons_zero, List.set_cons_succ, i64_w, i32_w]
        rfl
       refine pure_ (i := 10) (N := some 93) (v := ?_) (a' := ?_) #[true, true, true, true, true, true, true, true, true, true, true, false, false, false, false, false, false] rfl rfl (by as_aux_lemma => kernel_rfl) (fun _ _ _ h => h) (Or.inl ⟨by rfl, ?_⟩) ?_ ?_
       rotate_left
       ·intro w'
        go_simp
        with_reducible rfl
       rotate_left
       ·simp only [Act.put, List.setIfInBounds_toArray, List.set_cons_zero, List.set_cons_succ, i64_w, i32_w]
        rfl
       refine take_ (i := 11) (N := some 94) (v := ?_) (a' := ?_) #[true, true, true, true, true, true, true, true, true, true, true, true, false, false, false, false, false] rfl rfl (by as_aux_lemma => kernel_rfl) (fun _ _ _ h => h) (Or.inl ⟨by rfl, ?_⟩) hHeld ?_ ?_
       rotate_left
       ·rintro w' ⟨s0, s1, s2⟩
        go_simp
        with_reducible rfl
       rotate_left
       ·simp only [Act.put, List.setIfInBounds_toArray, List.set_cons_zero, List.set_cons_succ, i64_w, i32_w]
        rfl
       refine pure_ (i := 12) (N := some 95) (v := ?_) (a' := ?_) #[true, true, true, true, true, true, true, true, true, true, true, true, true, false, false, false, false] rfl rfl (by as_aux_lemma => kernel_rfl) (fun _ _ _ h => h) (Or.inl ⟨by rfl, ?_⟩) ?_ ?_
       rotate_left
       ·intro w'
        go_simp
        with_reducible rfl
       rotate_left
       ·simp only [Act.put, List.setIfInBounds_toArray, List.set_cons_zero, List.set_cons_succ, i64_w, i32_w]
        rfl
       refine pure_ (i := 13) (N := some 96) (v := ?_) (a' := ?_) #[true, true, true, true, true, true, true, true, true, true, true, true, true, true, false, false, false] rfl rfl (by as_aux_lemma => kernel_rfl) (fun _ _ _ h => h) (Or.inl ⟨by rfl, ?_⟩) ?_ ?_
       rotate_left
       ·intro w'
        go_simp
        with_reducible rfl
       rotate_left
       ·simp only [Act.put, List.setIfInBounds_toArray, List.set_cons_zero, List.set_cons_succ, i64_w, i32_w]
        rfl
       refine take_ (i := 14) (N := some 97) (v := ?_) (a' := ?_) #[true, true, true, true, true, true, true, true, true, true, true, true, true, true, true, false, false] rfl rfl (by as_aux_lemma => kernel_rfl) (fun _ _ _ h => h) (Or.inl ⟨by rfl, ?_⟩) hHeld ?_ ?_
       rotate_left
       ·rintro w' ⟨s0, s1, s2⟩
        go_simp
        with_reducible rfl
       rotate_left
       ·simp only [Act.put, List.setIfInBounds_toArray, List.set_cons_zero, List.set_cons_succ, i64_w, i32_w]
        rfl
       refine pure_ (i := 15) (N := some 98) (v := ?_) (a' := ?_) #[true, true, true, true, true, true, true, true, true, true, true, true, true, true, true, true, false] rfl rfl (by as_aux_lemma => kernel_rfl) (fun _ _ _ h => h) (Or.inl ⟨by rfl, ?_⟩) ?_ ?_
       rotate_left
       ·intro w'
        go_simp
        with_reducible rfl
       rotate_left
       ·simp only [Act.put, List.setIfInBounds_toArray, List.set_cons_zero, List.set_cons_succ, i64_w, i32_w]
        rfl
       refine pure_ (i := 16) (N := some 99) (v := ?_) (a' := ?_) #[true, true, true, true, true, true, true, true, true, true, true, true, true, true, true, true, true] rfl rfl (by as_aux_lemma => kernel_rfl) (fun _ _ _ h => h) (Or.inl ⟨by rfl, ?_⟩) ?_ ?_
       rotate_left
       ·intro w'
        go_simp
        with_reducible rfl
       rotate_left
       ·simp only [Act.put, List.setIfInBounds_toArray, List.set_cons_zero, List.set_cons_succ, i64_w, i32_w]
        rfl
       refine done_ (by as_aux_lemma => kernel_rfl) ?_
       go_wp2_with fail

       have hd_ := below_step HB.out (below_drew (Below.refl w6.heap.size w6))
       refine start_ (n := 20) (S := fun w' => w'.cell? ⟨b3, 3, none⟩ = some (.slice A7 m c7) ∧ w'.cell? ⟨b0, 3, none⟩ = some (.slice (some ax) n c1) ∧ w'.cell? (ax.add (j * 5)) = some (.string x.f0) ∧ w'.cell? ⟨(ax.add (j * 5)).block, (ax.add (j * 5)).off + 1, none⟩ = some (.int .i64 x.f1) ∧ w'.cell? ⟨(ax.add (j * 5)).block, (ax.add (j * 5)).off + 1 + 1, none⟩ = some (.bool x.f2) ∧ w'.cell? ⟨(ax.add (j * 5)).block, (ax.add (j * 5)).off + 1 + 2, none⟩ = some (.string x.f3) ∧ w'.cell? ⟨(ax.add (j * 5)).block, (ax.add (j * 5)).off + 1 + 3, none⟩ = some (.slice A4 x.f4.length c4)) (ds := [19]) #[false, false, false, false, false, false, false, false, false, false, false, false, false, false, false, false, false, false, false, false] (by as_aux_lemma => kernel_rfl) rfl rfl (⟨(B3.out.below (below_drew (Below.refl _ _))).cell 3 _ rfl, (B0.out.below (below_drew (Below.refl _ _))).cell 3 _ rfl, pw_cell_below hd_ HEX.out.1, pw_cell_below hd_ HEX.out.2.1, pw_cell_below hd_ HEX.out.2.2.1, pw_cell_below hd_ HEX.out.2.2.2.1, pw_cell_below hd_ HEX.out.2.2.2.2⟩) (fun hHeld => ?_)
       have hb : Below w6.heap.size w6 w6.drew := below_drew (Below.refl _ _)
       replace B0 := Aside0.mk (B0.out.below hb)
       replace B1 := Aside0.mk (B1.out.below hb)
       replace B2 := Aside0.mk (B2.out.below hb)
       replace B3 := Aside0.mk (B3.out.below hb)
       replace HO := Aside0.mk (HO.out.newer hb)
       replace HB := Aside0.mk (below_step HB.out hb)
       generalize w6.drew = w7 at *
       clear hb

       clear hd_
       refine pure_ (i := 0) (N := some 100) (v := ?_) (a' := ?_) #[true, false, false, false, false, false, false, false, false, false, false, false, false, false, false, false, false, false, false, false] rfl rfl (by as_aux_lemma => kernel_rfl) (fun _ _ _ h => h) (Or.inl ⟨by rfl, ?_⟩) ?_ ?_
       rotate_left
       ·intro w'
        go_simp
        with_reducible rfl
       rotate_left
       ·simp only [Act.put, List.setIfInBounds_toArray, List.set_cons_zero, List.set_cons_succ, i64_w, i32_w]
        rfl
       refine take_ (i := 1) (N := some 101) (v := ?_) (a' := ?_) #[true, true, false, false, false, false, false, false, false, false, false, false, false, false, false, false, false, false, false, false] rfl rfl (by as_aux_lemma => kernel_rfl) (fun _ _ _ h => h) (Or.inl ⟨by rfl, ?_⟩) hHeld ?_ ?_
       rotate_left
       ·rintro w' ⟨s0, s1, s2, s3, s4, s5, s6⟩
        go_simp
        with_reducible rfl
       rotate_left
       ·simp only [Act.put, List.setIfInBounds_toArray, List.set_cons_zero, List.set_cons_succ, i64_w, i32_w]
        rfl
       refine pure_ (i := 2) (N := some 102) (v := ?_) (a' := ?_) #[true, true, true, false, false, false, false, false, false, false, false, false, false, false, false, false, false, false, false, false] rfl rfl (by as_aux_lemma => kernel_rfl) (fun _ _ _ h => h) (Or.inl ⟨by rfl, ?_⟩) ?_ ?_
       rotate_left
       ·intro w'
        go_simp
        with_reducible rfl
       rotate_left
       ·simp only [Act.put, List.setIfInBounds_toArray, List.set_cons_zero, List.set_cons_succ, i64_w, i32_w]
        rfl
       refine take_ (i := 3) (N := some 103) (v := ?_) (a' := ?_) #[true, true, true, true, false, false, false, false, false, false, false, false, false, false, false, false, false, false, false, false] rfl rfl (by as_aux_lemma => kernel_rfl) (fun _ _ _ h => h) (Or.inl ⟨by rfl, ?_⟩) hHeld ?_ ?_
       rotate_left
       ·rintro w' ⟨s0, s1, s2, s3, s4, s5, s6⟩
        go_simp
        with_reducible rfl
       rotate_left
       ·simp only [Act.put, List.setIfInBounds_toArray, List.set_cons_zero, List.set_cons_succ, i64_w, i32_w]
        rfl
       refine pure_ (i := 4) (N := some 104) (v := ?_) (a' := ?_) #[true, true, true, true, true, false, false, false, false, false, false, false, false, false, false, false, false, false, false, false] rfl rfl (by as_aux_lemma => kernel_rfl) (fun _ _ _ h => h) (Or.inl ⟨by rfl, ?_⟩) ?_ ?_
       rotate_left
       ·intro w'
        go_simp
        with_reducible rfl
       rotate_left
       ·simp only [Act.put, List.setIfInBounds_toArray, List.set_cons_zero, List.set_cons_succ, i64_w, i32_w]
        rfl
       refine pure_ (i := 5) (N := some 105) (v := ?_) (a' := ?_) #[true, true, true, true, true, true, false, false, false, false, false, false, false, false, false, false, false, false, false, false] rfl rfl (by as_aux_lemma => kernel_rfl) (fun _ _ _ h => h) (Or.inl ⟨by rfl, ?_⟩) ?_ ?_
       rotate_left
       ·intro w'
        go_simp
        with_reducible rfl
       rotate_left
       ·simp only [Act.put, List.setIfInBounds_toArray, List.set_cons_zero, List.set_cons_succ, i64_w, i32_w]
        rfl
       refine pure_ (i := 6) (N := some 106) (v := ?_) (a' := ?_) #[true, true, true, true, true, true, true, false, false, false, false, false, false, false, false, false, false, false, false, false] rfl rfl (by as_aux_lemma => kernel_rfl) (fun _ _ _ h => h) (Or.inl ⟨by rfl, ?_⟩) ?_ ?_
       rotate_left
       ·intro w'
        go_simp
        with_reducible rfl
       rotate_left
       ·simp only [Act.put, List.setIfInBounds_toArray, List.set_cons_zero, List.set_cons_succ, i64_w, i32_w]
        rfl
       refine take_ (i := 7) (N := some 107) (v := ?_) (a' := ?_) #[true, true, true, true, true, true, true, true, false, false, false, false, false, false, false, false, false, false, false, false] rfl rfl (by as_aux_lemma => kernel_rfl) (fun _ _ _ h => h) (Or.inl ⟨by rfl, ?_⟩) hHeld ?_ ?_
       rotate_left
       ·rintro w' ⟨s0, s1, s2, s3, s4, s5, s6⟩
        go_simp
        with_reducible rfl
       rotate_left
       ·simp only [Act.put, List.setIfInBounds_toArray, List.set_cons_zero, List.set_cons_succ, i64_w, i32_w]
        rfl
       refine pure_ (i := 8) (N := some 108) (v := ?_) (a' := ?_) #[true, true, true, true, true, true, true, true, true, false, false, false, false, false, false, false, false, false, false, false] rfl rfl (by as_aux_lemma => kernel_rfl) (fun _ _ _ h => h) (Or.inl ⟨by rfl, ?_⟩) ?_ ?_
       rotate_left
       ·intro w'
        go_simp
        with_reducible rfl
       rotate_left
       ·simp only [Act.put, List.setIfInBounds_toArray, List.set_cons_zero, List.set_cons_succ, i64_w, i32_w]
        rfl
       refine take_ (i := 9) (N := some 109) (v := ?_) (a' := ?_) #[true, true, true, true, true, true, true, true, true, true, false, false, false, false, false, false, false, false, false, false] rfl rfl (by as_aux_lemma => kernel_rfl) (fun _ _ _ h => h) (Or.inl ⟨by rfl, ?_⟩) hHeld ?_ ?_
       rotate_left
       ·rintro w' ⟨s0, s1, s2, s3, s4, s5, s6⟩
        go_simp
        with_reducible rfl
       rotate_left
       ·simp only [Act.put, List.setIfInBounds_toArray, List.set_cons_zero, List.set_cons_succ, i64_w, i32_w]
        rfl
       refine pure_ (i := 10) (N := some 110) (v := ?_) (a' := ?_) #[true, true, true, true, true, true, true, true, true, true, true, false, false, false, false, false, false, false, false, false] rfl rfl (by as_aux_lemma => kernel_rfl) (fun _ _ _ h => h) (Or.inl ⟨by rfl, ?_⟩) ?_ ?_
       rotate_left
       ·intro w'
        go_simp
        with_reducible rfl
       rotate_left
       ·simp only [Act.put, List.setIfInBounds_toArray, List.set_cons_zero, List.set_cons_succ, i64_w, i32_w]
        rfl
       refine pure_ (i := 11) (N := some 111) (v := ?_) (a' := ?_) #[true, true, true, true, true, true, true, true, true, true, true, true, false, false, false, false, false, false, false, false] rfl rfl (by as_aux_lemma => kernel_rfl) (fun _ _ _ h => h) (Or.inl ⟨by rfl, ?_⟩) ?_ ?_
       rotate_left
       ·intro w'
        go_simp
        with_reducible rfl
       rotate_left
       ·simp only [Act.put, List.setIfInBounds_toArray, List.set_cons_zero, List.set_cons_succ, i64_w, i32_w]
        rfl
       refine pure_ (i := 12) (N := some 112) (v := ?_) (a' := ?_) #[true, true, true, true, true, true, true, true, true, true, true, true, true, false, false, false, false, false, false, false] rfl rfl (by as_aux_lemma => kernel_rfl) (fun _ _ _ h => h) (Or.inl ⟨by rfl, ?_⟩) ?_ ?_
       rotate_left
       ·intro w'
        go_simp
        with_reducible rfl
       rotate_left
       ·simp only [Act.put, List.setIfInBounds_toArray, List.set_cons_zero, List.set_cons_succ, i64_w, i32_w]
        rfl
       refine take_ (i := 13) (N := some 113) (v := ?_) (a' := ?_) #[true, true, true, true, true, true, true, true, true, true, true, true, true, true, false, false, false, false, false, false] rfl rfl (by as_aux_lemma => kernel_rfl) (fun _ _ _ h => h) (Or.inl ⟨by rfl, ?_⟩) hHeld ?_ ?_
       rotate_left
       ·rintro w' ⟨s0, s1, s2, s3, s4, s5, s6⟩
        go_simp
        with_reducible rfl
       rotate_left
       ·simp only [Act.put, List.setIfInBounds_toArray, List.set_cons_zero, List.set_cons_succ, i64_w, i32_w]
        rfl
       refine one_ (i := 14) (N := some 114) #[true, true, true, true, true, true, true, true, true, true, true, true, true, true, true, false, false, false, false, false] rfl rfl (by as_aux_lemma => kernel_rfl) (by decide) (fun K hK => ?_)
       refine goes_ Tryd.func23 (by as_aux_lemma => kernel_rfl) rfl #[.agg #[.int .i64 x.f1, .bool x.f2, .string x.f3, .slice A4 x.f4.length c4]] (by rfl) rfl rfl (by (try simp only [List.map_toArray, List.map_cons, List.map_nil]); first | done | rfl) ?_
       refine (cloneO_calls x.f4 (HGK.out.2.2.2 x HXM.out).fit x.f1 x.f2 x.f3 A4 c4 w7 (Kd.C_below HC4.out.1 HB.out) HC4.out.2).mono ?_

       rintro o w5 ⟨v4, rfl, hr4, hb⟩
       obtain ⟨A6, c6, hv4, _⟩ := hr4.slice
       subst hv4
       have HN := Aside0.mk hr4
       have HZ7 := Aside0.mk (And.intro HB.out.size (And.intro B3.out.lt hb.size))
       replace B0 := Aside0.mk (B0.out.below hb)
       replace B1 := Aside0.mk (B1.out.below hb)
       replace B2 := Aside0.mk (B2.out.below hb)
       replace B3 := Aside0.mk (B3.out.below hb)
       replace HO := Aside0.mk (HO.out.bound.newer hb)
       replace HB := Aside0.mk (below_step HB.out hb)
       clear hr4 hb
       refine ⟨_, rfl, ?_⟩
       refine hK.out _ _ ⟨B3.out.cell 3 _ rfl, B0.out.cell 3 _ rfl, pw_cell_below HB.out HEX.out.1, pw_cell_below HB.out HEX.out.2.1, pw_cell_below HB.out HEX.out.2.2.1, pw_cell_below HB.out HEX.out.2.2.2.1, pw_cell_below HB.out HEX.out.2.2.2.2⟩ (fun _ => ?_)
       clear hK K
       refine pure_ (i := 15) (N := some 115) (v := ?_) (a' := ?_) #[true, true, true, true, true, true, true, true, true, true, true, true, true, true, true, true, false, false, false, false] rfl rfl (by as_aux_lemma => kernel_rfl) (fun _ _ _ h => h) (Or.inl ⟨by rfl, ?_⟩) ?_ ?_
       rotate_left
       ·intro w'
        go_simp
        with_reducible rfl
       rotate_left
       ·simp only [Act.put, List.setIfInBounds_toArray, List.set_cons_zero, List.set_cons_succ, i64_w, i32_w]
        rfl
       refine one_ (i := 16) (N := some 116) #[true, true, true, true, true, true, true, true, true, true, true, true, true, true, true, true, true, false, false, false] rfl rfl (by as_aux_lemma => kernel_rfl) (by decide) (fun K hK => ?_)
       refine value_ (w1 := w5.alloc (.cells #[.string x.f0, .int .i64 x.f1, .bool x.f2, .string x.f3, .slice A6 x.f4.length c6] 63)) (v := .slice (some ⟨w5.heap.size, 0, none⟩) 1 1) (by rfl) rfl ?_ ?_
       ·go_simp
       have hba : Below w5.heap.size w5 (w5.alloc (.cells #[.string x.f0, .int .i64 x.f1, .bool x.f2, .string x.f3, .slice A6 x.f4.length c6] 63)) := below_alloc (Below.refl _ _) _
       refine hK.out _ _ ⟨(B3.out.below hba).cell 3 _ rfl, (B0.out.below hba).cell 3 _ rfl, pw_cell_below (below_step HB.out hba) HEX.out.1, pw_cell_below (below_step HB.out hba) HEX.out.2.1, pw_cell_below (below_step HB.out hba) HEX.out.2.2.1, pw_cell_below (below_step HB.out hba) HEX.out.2.2.2.1, pw_cell_below (below_step HB.out hba) HEX.out.2.2.2.2⟩ (fun _ => ?_)
       clear hK K hba
       refine one_ (i := 17) (N := some 117) #[true, true, true, true, true, true, true, true, true, true, true, true, true, true, true, true, true, true, false, false] rfl rfl (by as_aux_lemma => kernel_rfl) (by decide) (fun K hK => ?_)

       obtain ⟨ts, hts, hP⟩ := HO.out.parts
       have hln := congrArg List.length hts
       rw [List.length_map] at hln
       refine step_append_cells (w0 := w) w.heap.size (by rfl) (.tmp 101) (.tmp 116) 30 63 (.agg #[.string ⟨#[]⟩, .int .i64 0, .bool false, .string ⟨#[]⟩, .slice none 0 0]) 5 72 rfl Tryd.underlying30 (by as_aux_lemma => kernel_rfl) rfl (by decide) (by decide)
        (.slice A7 m c7) ts.length (fl ts) (ecells x (.slice A6 x.f4.length c6)) (by rfl) (by rfl) rfl (ecells_one rfl) hP.row HB.out HB.out.size (by have := HPL.out; omega) ?_
       intro v1 wn hrow hb1 hg hat
       have hO8 := own_app (b3 := b3) (x := x) hts hP HN.out HZ7.out.1 HZ7.out.2.1 HZ7.out.2.2 hrow hg hat
       obtain ⟨A9, c9, hv8⟩ : ∃ A8 c8, v1 = .slice A8 (m + 1) c8 := by
        obtain ⟨A8, c8, h, _⟩ := hO8.slice
        exact ⟨A8, c8, by rw [h, List.length_append, HPL.out]; rfl⟩
       subst hv8
       replace B0 := Aside0.mk (keep_app hP hg B0.out (by decide))
       replace B1 := Aside0.mk (keep_app hP hg B1.out (by decide))
       replace B2 := Aside0.mk (keep_app hP hg B2.out (by decide))
       replace B3 := Aside0.mk (keep_app hP hg B3.out (by decide))
       replace HO := Aside0.mk hO8
       replace HPL : Aside0 ((P ++ [x]).length = m + 1) := ⟨by rw [List.length_append, HPL.out]; rfl⟩
       replace HB := Aside0.mk hb1
       have y03 := B3.out.frozen 3
       have x03 := B3.out.cell 3 _ rfl
       clear hrow hb1 hg hat hln hts hP ts hO8 HN HZ7
       refine hK.out _ _ ⟨B3.out.cell 3 _ rfl, B0.out.cell 3 _ rfl, pw_cell_below HB.out HEX.out.1, pw_cell_below HB.out HEX.out.2.1, pw_cell_below HB.out HEX.out.2.2.1, pw_cell_below HB.out HEX.out.2.2.2.1, pw_cell_below HB.out HEX.out.2.2.2.2⟩ (fun _ => ?_)
       clear hK K
       refine pure_ (i := 18) (N := some 118) (v := ?_) (a' := ?_) #[true, true, true, true, true, true, true, true, true, true, true, true, true, true, true, true, true, true, true, false] rfl rfl (by as_aux_lemma => kernel_rfl) (fun _ _ _ h => h) (Or.inl ⟨by rfl, ?_⟩) ?_ ?_
       rotate_left
       ·intro w'
        go_simp
        with_reducible rfl
       rotate_left
       ·simp only [Act.put, List.setIfInBounds_toArray, List.set_cons_zero, List.set_cons_succ, i64_w, i32_w]
        rfl
       refine last_ (i := 19) (N := none) #[true, true, true, true, true, true, true, true, true, true, true, true, true, true, true, true, true, true, true, true] rfl rfl (by as_aux_lemma => kernel_rfl) (by decide) (fun K hK => ?_)
       refine skip_ (w1 := wn.setCell ⟨b3, 3, none⟩ (.slice A9 (m + 1) c9)) (by rfl) rfl ?_ ?_
       ·go_simp
       refine hK.out _ _ ?_
       clear hK K
       refine done_ (by as_aux_lemma => kernel_rfl) ?_
       obtain ⟨w9, hW9⟩ : ∃ W9, W9 = wn.setCell ⟨b3, 3, none⟩ (.slice A9 (m + 1) c9) := ⟨_, rfl⟩
       have hz5 := HZ.out
       replace B0 : Aside0 (Blk w9 b0 32 [.int .i64 k, .bool e, .string t, .slice (some ax) n c1]) := ⟨by rw [hW9]; exact (Below.heap_setCell _ _ _ _ (by show b0 ≠ b3; omega)).trans B0.out⟩
       replace B1 : Aside0 (Blk w9 b1 32 [.int .i64 sk, .bool se, .string st, .slice A3 sl.length c3]) := ⟨by rw [hW9]; exact (Below.heap_setCell _ _ _ _ (by show b1 ≠ b3; omega)).trans B1.out⟩
       replace B2 : Aside0 (Blk w9 b2 32 [.int .i64 0, .bool false, .string ⟨#[]⟩, .slice none 0 0]) := ⟨by rw [hW9]; exact (Below.heap_setCell _ _ _ _ (by show b2 ≠ b3; omega)).trans B2.out⟩
       replace HO : Aside0 (Own w9 w.heap.size (fun k => b3 < k) (.slice A9 (m + 1) c9) (P ++ [x])) := ⟨by rw [hW9]; exact HO.out.set B3.out (by decide) 3 _⟩
       replace HB : Aside0 (Below w.heap.size w w9) := ⟨by rw [hW9]; exact HB.out.setCell (p := ⟨b3, 3, none⟩) (by show w.heap.size ≤ b3; omega) _⟩
       replace B3 : Aside0 (Blk w9 b3 32 [.int .i64 3, .bool false, .string ⟨#[]⟩, .slice A9 (m + 1) c9]) := ⟨by rw [hW9]; exact blk_put (cs := #[.int .i64 3, .bool false, .string ⟨#[]⟩, .slice A7 m c7]) B3.out 3 _ rfl⟩
       rw [← hW9]
       clear hW9 hz5 x03 y03 hHeld
       go_wp2_with fail

       go_roundw
       case rel => exact ⟨j + 1, false, (P ++ [x]), (m + 1), A9, c9, by omega, rfl, by go_num, by omega, ⟨HPL.out, by have h1 := HP.out.2.1; rw [restG_step HX.out] at h1; simpa [hx, hneg] using h1, fun _ i y hi hy => by
        by_cases e : i = j
        ·subst e
         rw [HX.out] at hy; injection hy with hy; rw [← hy]; exact hneg
        ·exact HP.out.2.2 (by first | trivial | rfl) i y (by omega) hy⟩, B0, B1, B2, B3, HO, HB⟩
       case measure => simp [intOf]; omega
      ·have q3 : (0 : Int) ≤ cv := HCI.out.2 hneg
       refine pure_ (i := 19) (N := some 43) (v := ?_) (a' := ?_) #[true, true, true, true, true, true, true, true, true, true, true, true, true, true, true, true, true, true, true, true, false, false] rfl rfl (by as_aux_lemma => kernel_rfl) (fun _ _ _ h => h) (Or.inl ⟨by rfl, ?_⟩) ?_ ?_
       rotate_left
       ·intro w'
        go_simp
        with_reducible rfl
       rotate_left
       ·simp only [Act.put, List.setIfInBounds_toArray, List.set_cons_zero, List.set_cons_succ, i64_w, i32_w]
        rfl
       refine pure_ (i := 20) (N := some 44) (v := ?_) (a' := ?_) #[true, true, true, true, true, true, true, true, true, true, true, true, true, true, true, true, true, true, true, true, true, false] rfl rfl (by as_aux_lemma => kernel_rfl) (fun _ _ _ h => h) (Or.inl ⟨by rfl, ?_⟩) ?_ ?_
       rotate_left
       ·intro w'
        go_simp
        with_reducible rfl
       rotate_left
       ·simp only [Act.put, List.setIfInBounds_toArray, List.set_cons_zero, List.set_cons_succ, i64_w, i32_w]
        rfl
       refine pure_ (i := 21) (N := some 45) (v := ?_) (a' := ?_) #[true, true, true, true, true, true, true, true, true, true, true, true, true, true, true, true, true, true, true, true, true, true] rfl rfl (by as_aux_lemma => kernel_rfl) (fun _ _ _ h => h) (Or.inl ⟨by rfl, ?_⟩) ?_ ?_
       rotate_left
       ·intro w'
        go_simp
        with_reducible rfl
       rotate_left
       ·simp only [Act.put, List.setIfInBounds_toArray, List.set_cons_zero, List.set_cons_succ, i64_w, i32_w]
        rfl
       refine done_ (by as_aux_lemma => kernel_rfl) ?_
       go_wp2_with fail
       have hlt3_ := B3.out.lt
       obtain ⟨w3, hw3⟩ : ∃ w3, w3 = w1.alloc (.cells #[.int .i64 0, .bool false, .string ⟨#[]⟩, .slice none 0 0] 32) := ⟨_, rfl⟩
       obtain ⟨b10, hb10⟩ : ∃ b, b = w1.heap.size := ⟨_, rfl⟩
       rw [← hw3, ← hb10]
       have B10 : Aside0 (Blk w3 b10 32 [.int .i64 0, .bool false, .string ⟨#[]⟩, .slice none 0 0]) := ⟨by rw [hw3, hb10]; exact Blk.new w1 _ [.int .i64 0, .bool false, .string ⟨#[]⟩, .slice none 0 0]⟩
       have hb : Below w1.heap.size w1 w3 := by rw [hw3]; exact below_alloc (Below.refl _ _) _
       replace B0 := Aside0.mk (B0.out.below hb)
       replace B1 := Aside0.mk (B1.out.below hb)
       replace B2 := Aside0.mk (B2.out.below hb)
       replace B3 := Aside0.mk (B3.out.below hb)
       replace HO := Aside0.mk (HO.out.newer hb)
       replace HB := Aside0.mk (below_step HB.out hb)

       have HZ10 : Aside0 (b3 < b10) := ⟨by rw [hb10]; exact hlt3_⟩
       clear hw3 hb10 hb hlt3_

       by_cases hx : x.f0 = z.f0
       ·have r1 : (x.f0.toList != z.f0.toList) = false := bne_eq_false_iff_eq.mpr (by rw [hx])
        have r2 : (x.f0.toList == z.f0.toList) = true := beq_iff_eq.mpr (by rw [hx])
        have hse_ := pw_cell_below HB.out HSE.out
        have he0_ := pw_cell_below HB.out HEX.out.1
        refine start_ (n := 17) (S := fun w' => w'.cell? ⟨b0, 3, none⟩ = some (.slice (some ax) n c1) ∧ w'.cell? (ax.add (j * 5)) = some (.string x.f0) ∧ w'.cell? ad = some (.string z.f0)) (ds := []) #[false, false, false, false, false, false, false, false, false, false, false, false, false, false, false, false, false] (by as_aux_lemma => kernel_rfl) rfl rfl (⟨(B0.out.below (below_drew (Below.refl _ _))).cell 3 _ rfl, pw_cell_below (below_drew (Below.refl _ _)) he0_, pw_cell_below (below_drew (Below.refl _ _)) hse_⟩) (fun hHeld => ?_)
        have hb : Below w3.heap.size w3 w3.drew := below_drew (Below.refl _ _)
        replace B0 := Aside0.mk (B0.out.below hb)
        replace B1 := Aside0.mk (B1.out.below hb)
        replace B2 := Aside0.mk (B2.out.below hb)
        replace B3 := Aside0.mk (B3.out.below hb)
        replace B10 := Aside0.mk (B10.out.below hb)
        replace HO := Aside0.mk (HO.out.newer hb)
        replace HB := Aside0.mk (below_step HB.out hb)
        generalize w3.drew = w4b at *
        clear hb

        clear hse_ he0_
        refine pure_ (i := 0) (N := some 46) (v := ?_) (a' := ?_) #[true, false, false, false, false, false, false, false, false, false, false, false, false, false, false, false, false] rfl rfl (by as_aux_lemma => kernel_rfl) (fun _ _ _ h => h) (Or.inl ⟨by rfl, ?_⟩) ?_ ?_
        rotate_left
        ·intro w'
         go_simp
         with_reducible rfl
        rotate_left
        ·simp only [Act.put, List.setIfInBounds_toArray, List.set_cons_zero, List.set_cons_succ, i64_w, i32_w]
         rfl
        refine pure_ (i := 1) (N := some 47) (v := ?_) (a' := ?_) #[true, true, false, false, false, false, false, false, false, false, false, false, false, false, false, false, false] rfl rfl (by as_aux_lemma => kernel_rfl) (fun _ _ _ h => h) (Or.inl ⟨by rfl, ?_⟩) ?_ ?_
        rotate_left
        ·intro w'
         go_simp
         with_reducible rfl
        rotate_left
        ·simp only [Act.put, List.setIfInBounds_toArray, List.set_cons_zero, List.set_cons_succ, i64_w, i32_w]
         rfl
        refine take_ (i := 2) (N := some 48) (v := ?_) (a' := ?_) #[true, true, true, false, false, false, false, false, false, false, false, false, false, false, false, false, false] rfl rfl (by as_aux_lemma => kernel_rfl) (fun _ _ _ h => h) (Or.inl ⟨by rfl, ?_⟩) hHeld ?_ ?_
        rotate_left
        ·rintro w' ⟨s0, s1, s2⟩
         go_simp
         with_reducible rfl
        rotate_left
        ·simp only [Act.put, List.setIfInBounds_toArray, List.set_cons_zero, List.set_cons_succ, i64_w, i32_w]
         rfl
        refine pure_ (i := 3) (N := some 49) (v := ?_) (a' := ?_) #[true, true, true, true, false, false, false, false, false, false, false, false, false, false, false, false, false] rfl rfl (by as_aux_lemma => kernel_rfl) (fun _ _ _ h => h) (Or.inl ⟨by rfl, ?_⟩) ?_ ?_
        rotate_left
        ·intro w'
         go_simp
         with_reducible rfl
        rotate_left
        ·simp only [Act.put, List.setIfInBounds_toArray, List.set_cons_zero, List.set_cons_succ, i64_w, i32_w]
         rfl
        refine pure_ (i := 4) (N := some 50) (v := ?_) (a' := ?_) #[true, true, true, true, true, false, false, false, false, false, false, false, false, false, false, false, false] rfl rfl (by as_aux_lemma => kernel_rfl) (fun _ _ _ h => h) (Or.inl ⟨by rfl, ?_⟩) ?_ ?_
        rotate_left
        ·intro w'
         go_simp
         with_reducible rfl
        rotate_left
        ·simp only [Act.put, List.setIfInBounds_toArray, List.set_cons_zero, List.set_cons_succ, i64_w, i32_w]
         rfl
        refine pure_ (i := 5) (N := some 51) (v := ?_) (a' := ?_) #[true, true, true, true, true, true, false, false, false, false, false, false, false, false, false, false, false] rfl rfl (by as_aux_lemma => kernel_rfl) (fun _ _ _ h => h) (Or.inl ⟨by rfl, ?_⟩) ?_ ?_
        rotate_left
        ·intro w'
         go_simp
         with_reducible rfl
        rotate_left
        ·simp only [Act.put, List.setIfInBounds_toArray, List.set_cons_zero, List.set_cons_succ, i64_w, i32_w]
         rfl
        refine pure_ (i := 6) (N := some 52) (v := ?_) (a' := ?_) #[true, true, true, true, true, true, true, false, false, false, false, false, false, false, false, false, false] rfl rfl (by as_aux_lemma => kernel_rfl) (fun _ _ _ h => h) (Or.inl ⟨by rfl, ?_⟩) ?_ ?_
        rotate_left
        ·intro w'
         go_simp
         with_reducible rfl
        rotate_left
        ·simp only [Act.put, List.setIfInBounds_toArray, List.set_cons_zero, List.set_cons_succ, i64_w, i32_w]
         rfl
        refine take_ (i := 7) (N := some 53) (v := ?_) (a' := ?_) #[true, true, true, true, true, true, true, true, false, false, false, false, false, false, false, false, false] rfl rfl (by as_aux_lemma => kernel_rfl) (fun _ _ _ h => h) (Or.inl ⟨by rfl, ?_⟩) hHeld ?_ ?_
        rotate_left
        ·rintro w' ⟨s0, s1, s2⟩
         go_simp
         with_reducible rfl
        rotate_left
        ·simp only [Act.put, List.setIfInBounds_toArray, List.set_cons_zero, List.set_cons_succ, i64_w, i32_w]
         rfl
        refine pure_ (i := 8) (N := some 54) (v := ?_) (a' := ?_) #[true, true, true, true, true, true, true, true, true, false, false, false, false, false, false, false, false] rfl rfl (by as_aux_lemma => kernel_rfl) (fun _ _ _ h => h) (Or.inl ⟨by rfl, ?_⟩) ?_ ?_
        rotate_left
        ·intro w'
         go_simp
         with_reducible rfl
        rotate_left
        ·simp only [Act.put, List.setIfInBounds_toArray, List.set_cons_zero, List.set_cons_succ, i64_w, i32_w]
         rfl
        refine pure_ (i := 9) (N := some 55) (v := ?_) (a' := ?_) #[true, true, true, true, true, true, true, true, true, true, false, false, false, false, false, false, false] rfl rfl (by as_aux_lemma => kernel_rfl) (fun _ _ _ h => h) (Or.inl ⟨by rfl, ?_⟩) ?_ ?_
        rotate_left
        ·intro w'
         go_simp
         with_reducible rfl
        rotate_left
        ·simp only [Act.put, List.setIfInBounds_toArray, List.set_cons_zero, List.set_cons_succ, i64_w, i32_w]
         rfl
        refine pure_ (i := 10) (N := some 56) (v := ?_) (a' := ?_) #[true, true, true, true, true, true, true, true, true, true, true, false, false, false, false, false, false] rfl rfl (by as_aux_lemma => kernel_rfl) (fun _ _ _ h => h) (Or.inl ⟨by rfl, ?_⟩) ?_ ?_
        rotate_left
        ·intro w'
         go_simp
         with_reducible rfl
        rotate_left
        ·simp only [Act.put, List.setIfInBounds_toArray, List.set_cons_zero, List.set_cons_succ, i64_w, i32_w]
         rfl
        refine take_ (i := 11) (N := some 57) (v := ?_) (a' := ?_) #[true, true, true, true, true, true, true, true, true, true, true, true, false, false, false, false, false] rfl rfl (by as_aux_lemma => kernel_rfl) (fun _ _ _ h => h) (Or.inl ⟨by rfl, ?_⟩) hHeld ?_ ?_
        rotate_left
        ·rintro w' ⟨s0, s1, s2⟩
         go_simp
         with_reducible rfl
        rotate_left
        ·simp only [Act.put, List.setIfInBounds_toArray, List.set_cons_zero, List.set_cons_succ, i64_w, i32_w]
         rfl
        refine pure_ (i := 12) (N := some 58) (v := ?_) (a' := ?_) #[true, true, true, true, true, true, true, true, true, true, true, true, true, false, false, false, false] rfl rfl (by as_aux_lemma => kernel_rfl) (fun _ _ _ h => h) (Or.inl ⟨by rfl, ?_⟩) ?_ ?_
        rotate_left
        ·intro w'
         go_simp
         with_reducible rfl
        rotate_left
        ·simp only [Act.put, List.setIfInBounds_toArray, List.set_cons_zero, List.set_cons_succ, i64_w, i32_w]
         rfl
        refine pure_ (i := 13) (N := some 59) (v := ?_) (a' := ?_) #[true, true, true, true, true, true, true, true, true, true, true, true, true, true, false, false, false] rfl rfl (by as_aux_lemma => kernel_rfl) (fun _ _ _ h => h) (Or.inl ⟨by rfl, ?_⟩) ?_ ?_
        rotate_left
        ·intro w'
         go_simp
         with_reducible rfl
        rotate_left
        ·simp only [Act.put, List.setIfInBounds_toArray, List.set_cons_zero, List.set_cons_succ, i64_w, i32_w]
         rfl
        refine take_ (i := 14) (N := some 60) (v := ?_) (a' := ?_) #[true, true, true, true, true, true, true, true, true, true, true, true, true, true, true, false, false] rfl rfl (by as_aux_lemma => kernel_rfl) (fun _ _ _ h => h) (Or.inl ⟨by rfl, ?_⟩) hHeld ?_ ?_
        rotate_left
        ·rintro w' ⟨s0, s1, s2⟩
         go_simp
         with_reducible rfl
        rotate_left
        ·simp only [Act.put, List.setIfInBounds_toArray, List.set_cons_zero, List.set_cons_succ, i64_w, i32_w]
         rfl
        refine pure_ (i := 15) (N := some 61) (v := ?_) (a' := ?_) #[true, true, true, true, true, true, true, true, true, true, true, true, true, true, true, true, false] rfl rfl (by as_aux_lemma => kernel_rfl) (fun _ _ _ h => h) (Or.inl ⟨by rfl, ?_⟩) ?_ ?_
        rotate_left
        ·intro w'
         go_simp
         with_reducible rfl
        rotate_left
        ·simp only [Act.put, List.setIfInBounds_toArray, List.set_cons_zero, List.set_cons_succ, i64_w, i32_w]
         rfl
        refine pure_ (i := 16) (N := some 62) (v := ?_) (a' := ?_) #[true, true, true, true, true, true, true, true, true, true, true, true, true, true, true, true, true] rfl rfl (by as_aux_lemma => kernel_rfl) (fun _ _ _ h => h) (Or.inl ⟨by rfl, ?_⟩) ?_ ?_
        rotate_left
        ·intro w'
         go_simp
         with_reducible rfl
        rotate_left
        ·simp only [Act.put, List.setIfInBounds_toArray, List.set_cons_zero, List.set_cons_succ, i64_w, i32_w]
         rfl
        refine done_ (by as_aux_lemma => kernel_rfl) ?_
        have e1 := pw_cell_below HB.out HEX.out.2.1
        have e2 := pw_cell_below HB.out HEX.out.2.2.1
        have e3 := pw_cell_below HB.out HEX.out.2.2.2.1
        have e4 := pw_cell_below HB.out HEX.out.2.2.2.2
        obtain ⟨u0, u1, u2, u3⟩ := cells4 B0.out
        obtain ⟨y0, y1, y2, y3⟩ := cells4 B10.out
        have z0 := B10.out.frozen 0
        have z1 := B10.out.frozen 1
        have z2 := B10.out.frozen 2
        have z3 := B10.out.frozen 3
        go_wp2_with fail

        obtain ⟨w4a, hw4a⟩ : ∃ w4a, w4a = (((w4b.setCell ⟨b10, 0, none⟩ (.int .i64 x.f1)).setCell ⟨b10, 1, none⟩ (.bool x.f2)).setCell ⟨b10, 2, none⟩ (.string x.f3)).setCell ⟨b10, 3, none⟩ (.slice A4 x.f4.length c4) := ⟨_, rfl⟩
        rw [← hw4a]
        have far : ∀ (b q : Nat) (vs : List Value), Blk w4b b q vs → b ≠ b10 → Blk w4a b q vs := fun b q vs h hne => by
         rw [hw4a]
         exact (Below.heap_setCell _ _ _ _ (by exact hne)).trans ((Below.heap_setCell _ _ _ _ (by exact hne)).trans ((Below.heap_setCell _ _ _ _ (by exact hne)).trans ((Below.heap_setCell _ _ _ _ (by exact hne)).trans h)))
        replace B0 := Aside0.mk (far _ _ _ B0.out (by have := HZ.out; have := HZ10.out; omega))
        replace B1 := Aside0.mk (far _ _ _ B1.out (by have := HZ.out; have := HZ10.out; omega))
        replace B2 := Aside0.mk (far _ _ _ B2.out (by have := HZ.out; have := HZ10.out; omega))
        replace B3 := Aside0.mk (far _ _ _ B3.out (by have := HZ10.out; omega))
        replace HO : Aside0 (Own w4a w.heap.size (fun k => b3 < k) (.slice A7 m c7) P) := ⟨by rw [hw4a]; exact put4_own HO.out B10.out⟩
        replace HB : Aside0 (Below w.heap.size w w4a) := ⟨by rw [hw4a]; exact below_put4 HB.out (by have := HZ.out; have := HZ10.out; omega)⟩
        replace B10 : Aside0 (Blk w4a b10 32 [.int .i64 x.f1, .bool x.f2, .string x.f3, .slice A4 x.f4.length c4]) := ⟨by rw [hw4a]; exact put4_blk B10.out⟩
        clear hw4a far e1 e2 e3 e4 u0 u1 u2 u3 y0 y1 y2 y3 z0 z1 z2 z3
        have hold : oldN l z.f0 = (x.f1, x.f2, x.f3, x.f4) := oldN_some HGK.out.1 HXM.out hx
        obtain ⟨ok, oe, ot, ol, AO, cO, hok, hB10, HOC⟩ : ∃ (ok : Int) (oe : Bool) (ot : ByteArray) (ol : List Ent) (AO : Option Addr) (cO : Nat), True ∧ Aside0 (Blk w4a b10 32 [.int .i64 ok, .bool oe, .string ot, .slice AO ol.length cO]) ∧ Aside0 (Kd.C kE w AO ol.length ol ∧ ol.length ≤ cO ∧ GK ol ∧ oldN l z.f0 = (ok, oe, ot, ol)) := ⟨x.f1, x.f2, x.f3, x.f4, A4, c4, trivial, B10, ⟨HC4.out.1, HC4.out.2, HGK.out.2.2.2 x HXM.out, hold⟩⟩
        replace B10 := hB10
        clear hB10 hok hold

        have hse_ := pw_cell_below HB.out HSE.out
        refine start_ (n := 15) (S := fun w' => w'.cell? ⟨b3, 3, none⟩ = some (.slice A7 m c7) ∧ w'.cell? ad = some (.string z.f0) ∧ w'.cell? ⟨b10, 0, none⟩ = some (.int .i64 ok) ∧ w'.cell? ⟨b10, 1, none⟩ = some (.bool oe) ∧ w'.cell? ⟨b10, 2, none⟩ = some (.string ot) ∧ w'.cell? ⟨b10, 3, none⟩ = some (.slice AO ol.length cO) ∧ w'.cell? ⟨b1, 0, none⟩ = some (.int .i64 sk) ∧ w'.cell? ⟨b1, 1, none⟩ = some (.bool se) ∧ w'.cell? ⟨b1, 2, none⟩ = some (.string st) ∧ w'.cell? ⟨b1, 3, none⟩ = some (.slice A3 sl.length c3)) (ds := [14]) #[false, false, false, false, false, false, false, false, false, false, false, false, false, false, false] (by as_aux_lemma => kernel_rfl) rfl rfl (ten ((B3.out.below (below_drew (Below.refl _ _))).cell 3 _ rfl) (pw_cell_below (below_drew (Below.refl _ _)) hse_) (cells4 (B10.out.below (below_drew (Below.refl _ _)))) (cells4 (B1.out.below (below_drew (Below.refl _ _))))) (fun hHeld => ?_)
        have hb : Below w4a.heap.size w4a w4a.drew := below_drew (Below.refl _ _)
        replace B0 := Aside0.mk (B0.out.below hb)
        replace B1 := Aside0.mk (B1.out.below hb)
        replace B2 := Aside0.mk (B2.out.below hb)
        replace B3 := Aside0.mk (B3.out.below hb)
        replace B10 := Aside0.mk (B10.out.below hb)
        replace HO := Aside0.mk (HO.out.newer hb)
        replace HB := Aside0.mk (below_step HB.out hb)
        generalize w4a.drew = w4 at *
        clear hb

        clear hse_
        refine pure_ (i := 0) (N := some 69) (v := ?_) (a' := ?_) #[true, false, false, false, false, false, false, false, false, false, false, false, false, false, false] rfl rfl (by as_aux_lemma => kernel_rfl) (fun _ _ _ h => h) (Or.inl ⟨by rfl, ?_⟩) ?_ ?_
        rotate_left
        ·intro w'
         go_simp
         with_reducible rfl
        rotate_left
        ·simp only [Act.put, List.setIfInBounds_toArray, List.set_cons_zero, List.set_cons_succ, i64_w, i32_w]
         rfl
        refine take_ (i := 1) (N := some 70) (v := ?_) (a' := ?_) #[true, true, false, false, false, false, false, false, false, false, false, false, false, false, false] rfl rfl (by as_aux_lemma => kernel_rfl) (fun _ _ _ h => h) (Or.inl ⟨by rfl, ?_⟩) hHeld ?_ ?_
        rotate_left
        ·rintro w' ⟨s0, s1, s2, s3, s4, s5, s6, s7, s8, s9⟩
         go_simp
         with_reducible rfl
        rotate_left
        ·simp only [Act.put, List.setIfInBounds_toArray, List.set_cons_zero, List.set_cons_succ, i64_w, i32_w]
         rfl
        refine pure_ (i := 2) (N := some 71) (v := ?_) (a' := ?_) #[true, true, true, false, false, false, false, false, false, false, false, false, false, false, false] rfl rfl (by as_aux_lemma => kernel_rfl) (fun _ _ _ h => h) (Or.inl ⟨by rfl, ?_⟩) ?_ ?_
        rotate_left
        ·intro w'
         go_simp
         with_reducible rfl
        rotate_left
        ·simp only [Act.put, List.setIfInBounds_toArray, List.set_cons_zero, List.set_cons_succ, i64_w, i32_w]
         rfl
        refine pure_ (i := 3) (N := some 72) (v := ?_) (a' := ?_) #[true, true, true, true, false, false, false, false, false, false, false, false, false, false, false] rfl rfl (by as_aux_lemma => kernel_rfl) (fun _ _ _ h => h) (Or.inl ⟨by rfl, ?_⟩) ?_ ?_
        rotate_left
        ·intro w'
         go_simp
         with_reducible rfl
        rotate_left
        ·simp only [Act.put, List.setIfInBounds_toArray, List.set_cons_zero, List.set_cons_succ, i64_w, i32_w]
         rfl
        refine take_ (i := 4) (N := some 73) (v := ?_) (a' := ?_) #[true, true, true, true, true, false, false, false, false, false, false, false, false, false, false] rfl rfl (by as_aux_lemma => kernel_rfl) (fun _ _ _ h => h) (Or.inl ⟨by rfl, ?_⟩) hHeld ?_ ?_
        rotate_left
        ·rintro w' ⟨s0, s1, s2, s3, s4, s5, s6, s7, s8, s9⟩
         go_simp
         with_reducible rfl
        rotate_left
        ·simp only [Act.put, List.setIfInBounds_toArray, List.set_cons_zero, List.set_cons_succ, i64_w, i32_w]
         rfl
        refine take_ (i := 5) (N := some 74) (v := ?_) (a' := ?_) #[true, true, true, true, true, true, false, false, false, false, false, false, false, false, false] rfl rfl (by as_aux_lemma => kernel_rfl) (fun _ _ _ h => h) (Or.inl ⟨by rfl, ?_⟩) hHeld ?_ ?_
        rotate_left
        ·rintro w' ⟨s0, s1, s2, s3, s4, s5, s6, s7, s8, s9⟩
         go_simp
         with_reducible rfl
        rotate_left
        ·simp only [Act.put, List.setIfInBounds_toArray, List.set_cons_zero, List.set_cons_succ, i64_w, i32_w]
         rfl
        refine pure_ (i := 6) (N := some 75) (v := ?_) (a' := ?_) #[true, true, true, true, true, true, true, false, false, false, false, false, false, false, false] rfl rfl (by as_aux_lemma => kernel_rfl) (fun _ _ _ h => h) (Or.inl ⟨by rfl, ?_⟩) ?_ ?_
        rotate_left
        ·intro w'
         go_simp
         with_reducible rfl
        rotate_left
        ·simp only [Act.put, List.setIfInBounds_toArray, List.set_cons_zero, List.set_cons_succ, i64_w, i32_w]
         rfl
        refine pure_ (i := 7) (N := some 76) (v := ?_) (a' := ?_) #[true, true, true, true, true, true, true, true, false, false, false, false, false, false, false] rfl rfl (by as_aux_lemma => kernel_rfl) (fun _ _ _ h => h) (Or.inl ⟨by rfl, ?_⟩) ?_ ?_
        rotate_left
        ·intro w'
         go_simp
         with_reducible rfl
        rotate_left
        ·simp only [Act.put, List.setIfInBounds_toArray, List.set_cons_zero, List.set_cons_succ, i64_w, i32_w]
         rfl
        refine take_ (i := 8) (N := some 77) (v := ?_) (a' := ?_) #[true, true, true, true, true, true, true, true, true, false, false, false, false, false, false] rfl rfl (by as_aux_lemma => kernel_rfl) (fun _ _ _ h => h) (Or.inl ⟨by rfl, ?_⟩) hHeld ?_ ?_
        rotate_left
        ·rintro w' ⟨s0, s1, s2, s3, s4, s5, s6, s7, s8, s9⟩
         go_simp
         with_reducible rfl
        rotate_left
        ·simp only [Act.put, List.setIfInBounds_toArray, List.set_cons_zero, List.set_cons_succ, i64_w, i32_w]
         rfl
        refine one_ (i := 9) (N := some 78) #[true, true, true, true, true, true, true, true, true, true, false, false, false, false, false] rfl rfl (by as_aux_lemma => kernel_rfl) (by decide) (fun K hK => ?_)
        refine goes_ Tryd.func50 (by as_aux_lemma => kernel_rfl) rfl #[.agg #[.int .i64 ok, .bool oe, .string ot, .slice AO ol.length cO], .slice (if c2 = 1 then some ad else some ⟨ad.block, ad.off + 1, none⟩) (m2 - 1) (c2 - 1), .agg #[.int .i64 sk, .bool se, .string st, .slice A3 sl.length c3]] (by rfl) rfl rfl (by (try simp only [List.map_toArray, List.map_cons, List.map_nil]); first | done | rfl) ?_
        have hNQ : Kd.C Kd.string w4 (if c2 = 1 then some ad else some ⟨ad.block, ad.off + 1, none⟩) q.length q := by
         rw [← HAD.out]
         have h1 := Kd.C_drop (c := c2) (m := 1) (Kd.C_below HNS.out HB.out) (by simp) (by have := HM2.out; simp; omega)
         exact h1
        have hIH := IH.out ok oe ot ol AO (if c2 = 1 then some ad else some ⟨ad.block, ad.off + 1, none⟩) A3 cO (c2 - 1) c3 w4 HOC.out.2.2.1 (fun s hs => HNM.out s (List.mem_cons_of_mem _ hs)) (Kd.C_below HOC.out.1 HB.out) HOC.out.2.1 hNQ (by have := HM2.out; omega) (Kd.C_below HCS.out.1 HB.out) HCS.out.2
        rw [show q.length = m2 - 1 from by have := HM2.out; omega, show grafN q (ok, oe, ot, ol) (sk, se, st, sl) = (z.f1, z.f2, z.f3, z.f4) from by
         have h1 := HZE.out.1
         rw [HOC.out.2.2.2] at h1
         generalize grafN q (ok, oe, ot, ol) (sk, se, st, sl) = G at h1
         rw [h1]; rfl] at hIH
        refine hIH.mono ?_
        clear hIH hNQ
        generalize (if c2 = 1 then some ad else some (⟨ad.block, ad.off + 1, none⟩ : Addr)) = NA

        rintro o w5 ⟨v4, rfl, hr4, hb⟩
        obtain ⟨A6, c6, hv4, _⟩ := hr4.slice
        subst hv4
        have HN := Aside0.mk hr4
        have HZ7 := Aside0.mk (And.intro HB.out.size (And.intro B3.out.lt hb.size))
        replace B0 := Aside0.mk (B0.out.below hb)
        replace B1 := Aside0.mk (B1.out.below hb)
        replace B2 := Aside0.mk (B2.out.below hb)
        replace B3 := Aside0.mk (B3.out.below hb)
        replace B10 := Aside0.mk (B10.out.below hb)
        replace HO := Aside0.mk (HO.out.bound.newer hb)
        replace HB := Aside0.mk (below_step HB.out hb)
        clear hr4 hb
        refine ⟨_, rfl, ?_⟩
        refine hK.out _ _ (ten (B3.out.cell 3 _ rfl) (pw_cell_below HB.out HSE.out) (cells4 B10.out) (cells4 B1.out)) (fun _ => ?_)
        clear hK K
        refine pure_ (i := 10) (N := some 79) (v := ?_) (a' := ?_) #[true, true, true, true, true, true, true, true, true, true, true, false, false, false, false] rfl rfl (by as_aux_lemma => kernel_rfl) (fun _ _ _ h => h) (Or.inl ⟨by rfl, ?_⟩) ?_ ?_
        rotate_left
        ·intro w'
         go_simp
         with_reducible rfl
        rotate_left
        ·simp only [Act.put, List.setIfInBounds_toArray, List.set_cons_zero, List.set_cons_succ, i64_w, i32_w]
         rfl
        refine one_ (i := 11) (N := some 80) #[true, true, true, true, true, true, true, true, true, true, true, true, false, false, false] rfl rfl (by as_aux_lemma => kernel_rfl) (by decide) (fun K hK => ?_)
        refine value_ (w1 := w5.alloc (.cells #[.string z.f0, .int .i64 z.f1, .bool z.f2, .string z.f3, .slice A6 z.f4.length c6] 63)) (v := .slice (some ⟨w5.heap.size, 0, none⟩) 1 1) (by rfl) rfl ?_ ?_
        ·go_simp
        have hba : Below w5.heap.size w5 (w5.alloc (.cells #[.string z.f0, .int .i64 z.f1, .bool z.f2, .string z.f3, .slice A6 z.f4.length c6] 63)) := below_alloc (Below.refl _ _) _
        refine hK.out _ _ (ten ((B3.out.below hba).cell 3 _ rfl) (pw_cell_below (below_step HB.out hba) HSE.out) (cells4 (B10.out.below hba)) (cells4 (B1.out.below hba))) (fun _ => ?_)
        clear hK K hba
        refine one_ (i := 12) (N := some 81) #[true, true, true, true, true, true, true, true, true, true, true, true, true, false, false] rfl rfl (by as_aux_lemma => kernel_rfl) (by decide) (fun K hK => ?_)

        obtain ⟨ts, hts, hP⟩ := HO.out.parts
        have hln := congrArg List.length hts
        rw [List.length_map] at hln
        refine step_append_cells (w0 := w) w.heap.size (by rfl) (.tmp 70) (.tmp 80) 30 63 (.agg #[.string ⟨#[]⟩, .int .i64 0, .bool false, .string ⟨#[]⟩, .slice none 0 0]) 5 72 rfl Tryd.underlying30 (by as_aux_lemma => kernel_rfl) rfl (by decide) (by decide)
         (.slice A7 m c7) ts.length (fl ts) (ecells z (.slice A6 z.f4.length c6)) (by rfl) (by rfl) rfl (ecells_one rfl) hP.row HB.out HB.out.size (by have := HPL.out; omega) ?_
        intro v1 wn hrow hb1 hg hat
        have hO8 := own_app (b3 := b3) (x := z) hts hP HN.out HZ7.out.1 HZ7.out.2.1 HZ7.out.2.2 hrow hg hat
        obtain ⟨A8, c8, hv8⟩ : ∃ A8 c8, v1 = .slice A8 (m + 1) c8 := by
         obtain ⟨A8, c8, h, _⟩ := hO8.slice
         exact ⟨A8, c8, by rw [h, List.length_append, HPL.out]; rfl⟩
        subst hv8
        replace B0 := Aside0.mk (keep_app hP hg B0.out (by decide))
        replace B1 := Aside0.mk (keep_app hP hg B1.out (by decide))
        replace B2 := Aside0.mk (keep_app hP hg B2.out (by decide))
        replace B3 := Aside0.mk (keep_app hP hg B3.out (by decide))
        replace B10 := Aside0.mk (keep_app hP hg B10.out (by decide))
        replace HO := Aside0.mk hO8
        replace HPL : Aside0 ((P ++ [z]).length = m + 1) := ⟨by rw [List.length_append, HPL.out]; rfl⟩
        replace HB := Aside0.mk hb1
        have y03 := B3.out.frozen 3
        have x03 := B3.out.cell 3 _ rfl
        clear hrow hb1 hg hat hln hts hP ts hO8 HN HZ7
        refine hK.out _ _ (ten (B3.out.cell 3 _ rfl) (pw_cell_below HB.out HSE.out) (cells4 B10.out) (cells4 B1.out)) (fun _ => ?_)
        clear hK K
        refine pure_ (i := 13) (N := some 82) (v := ?_) (a' := ?_) #[true, true, true, true, true, true, true, true, true, true, true, true, true, true, false] rfl rfl (by as_aux_lemma => kernel_rfl) (fun _ _ _ h => h) (Or.inl ⟨by rfl, ?_⟩) ?_ ?_
        rotate_left
        ·intro w'
         go_simp
         with_reducible rfl
        rotate_left
        ·simp only [Act.put, List.setIfInBounds_toArray, List.set_cons_zero, List.set_cons_succ, i64_w, i32_w]
         rfl
        refine last_ (i := 14) (N := none) #[true, true, true, true, true, true, true, true, true, true, true, true, true, true, true] rfl rfl (by as_aux_lemma => kernel_rfl) (by decide) (fun K hK => ?_)
        refine skip_ (w1 := wn.setCell ⟨b3, 3, none⟩ (.slice A8 (m + 1) c8)) (by rfl) rfl ?_ ?_
        ·go_simp
        refine hK.out _ _ ?_
        clear hK K
        refine done_ (by as_aux_lemma => kernel_rfl) ?_
        obtain ⟨w6, hW9⟩ : ∃ W9, W9 = wn.setCell ⟨b3, 3, none⟩ (.slice A8 (m + 1) c8) := ⟨_, rfl⟩
        have hz5 := HZ.out
        replace B0 : Aside0 (Blk w6 b0 32 [.int .i64 k, .bool e, .string t, .slice (some ax) n c1]) := ⟨by rw [hW9]; exact (Below.heap_setCell _ _ _ _ (by show b0 ≠ b3; omega)).trans B0.out⟩
        replace B1 : Aside0 (Blk w6 b1 32 [.int .i64 sk, .bool se, .string st, .slice A3 sl.length c3]) := ⟨by rw [hW9]; exact (Below.heap_setCell _ _ _ _ (by show b1 ≠ b3; omega)).trans B1.out⟩
        replace B2 : Aside0 (Blk w6 b2 32 [.int .i64 0, .bool false, .string ⟨#[]⟩, .slice none 0 0]) := ⟨by rw [hW9]; exact (Below.heap_setCell _ _ _ _ (by show b2 ≠ b3; omega)).trans B2.out⟩
        replace HO : Aside0 (Own w6 w.heap.size (fun k => b3 < k) (.slice A8 (m + 1) c8) (P ++ [z])) := ⟨by rw [hW9]; exact HO.out.set B3.out (by decide) 3 _⟩
        replace HB : Aside0 (Below w.heap.size w w6) := ⟨by rw [hW9]; exact HB.out.setCell (p := ⟨b3, 3, none⟩) (by show w.heap.size ≤ b3; omega) _⟩
        replace B3 : Aside0 (Blk w6 b3 32 [.int .i64 3, .bool false, .string ⟨#[]⟩, .slice A8 (m + 1) c8]) := ⟨by rw [hW9]; exact blk_put (cs := #[.int .i64 3, .bool false, .string ⟨#[]⟩, .slice A7 m c7]) B3.out 3 _ rfl⟩
        rw [← hW9]
        clear hW9 hz5 x03 y03 B10 HOC hHeld
        go_wp2_with fail

        have hse_ := pw_cell_below HB.out HSE.out
        have he0_ := pw_cell_below HB.out HEX.out.1
        refine start_ (n := 17) (S := fun w' => w'.cell? ⟨b0, 3, none⟩ = some (.slice (some ax) n c1) ∧ w'.cell? (ax.add (j * 5)) = some (.string x.f0) ∧ w'.cell? ad = some (.string z.f0)) (ds := []) #[false, false, false, false, false, false, false, false, false, false, false, false, false, false, false, false, false] (by as_aux_lemma => kernel_rfl) rfl rfl (⟨(B0.out.below (below_drew (Below.refl _ _))).cell 3 _ rfl, pw_cell_below (below_drew (Below.refl _ _)) he0_, pw_cell_below (below_drew (Below.refl _ _)) hse_⟩) (fun hHeld => ?_)
        have hb : Below w6.heap.size w6 w6.drew := below_drew (Below.refl _ _)
        replace B0 := Aside0.mk (B0.out.below hb)
        replace B1 := Aside0.mk (B1.out.below hb)
        replace B2 := Aside0.mk (B2.out.below hb)
        replace B3 := Aside0.mk (B3.out.below hb)
        replace HO := Aside0.mk (HO.out.newer hb)
        replace HB := Aside0.mk (below_step HB.out hb)
        generalize w6.drew = w8 at *
        clear hb

        clear hse_ he0_
        refine pure_ (i := 0) (N := some 83) (v := ?_) (a' := ?_) #[true, false, false, false, false, false, false, false, false, false, false, false, false, false, false, false, false] rfl rfl (by as_aux_lemma => kernel_rfl) (fun _ _ _ h => h) (Or.inl ⟨by rfl, ?_⟩) ?_ ?_
        rotate_left
        ·intro w'
         go_simp
         with_reducible rfl
        rotate_left
        ·simp only [Act.put, List.setIfInBounds_toArray, List.set_cons_zero, List.set_cons_succ, i64_w, i32_w]
         rfl
        refine pure_ (i := 1) (N := some 84) (v := ?_) (a' := ?_) #[true, true, false, false, false, false, false, false, false, false, false, false, false, false, false, false, false] rfl rfl (by as_aux_lemma => kernel_rfl) (fun _ _ _ h => h) (Or.inl ⟨by rfl, ?_⟩) ?_ ?_
        rotate_left
        ·intro w'
         go_simp
         with_reducible rfl
        rotate_left
        ·simp only [Act.put, List.setIfInBounds_toArray, List.set_cons_zero, List.set_cons_succ, i64_w, i32_w]
         rfl
        refine take_ (i := 2) (N := some 85) (v := ?_) (a' := ?_) #[true, true, true, false, false, false, false, false, false, false, false, false, false, false, false, false, false] rfl rfl (by as_aux_lemma => kernel_rfl) (fun _ _ _ h => h) (Or.inl ⟨by rfl, ?_⟩) hHeld ?_ ?_
        rotate_left
        ·rintro w' ⟨s0, s1, s2⟩
         go_simp
         with_reducible rfl
        rotate_left
        ·simp only [Act.put, List.setIfInBounds_toArray, List.set_cons_zero, List.set_cons_succ, i64_w, i32_w]
         rfl
        refine pure_ (i := 3) (N := some 86) (v := ?_) (a' := ?_) #[true, true, true, true, false, false, false, false, false, false, false, false, false, false, false, false, false] rfl rfl (by as_aux_lemma => kernel_rfl) (fun _ _ _ h => h) (Or.inl ⟨by rfl, ?_⟩) ?_ ?_
        rotate_left
        ·intro w'
         go_simp
         with_reducible rfl
        rotate_left
        ·simp only [Act.put, List.setIfInBounds_toArray, List.set_cons_zero, List.set_cons_succ, i64_w, i32_w]
         rfl
        refine pure_ (i := 4) (N := some 87) (v := ?_) (a' := ?_) #[true, true, true, true, true, false, false, false, false, false, false, false, false, false, false, false, false] rfl rfl (by as_aux_lemma => kernel_rfl) (fun _ _ _ h => h) (Or.inl ⟨by rfl, ?_⟩) ?_ ?_
        rotate_left
        ·intro w'
         go_simp
         with_reducible rfl
        rotate_left
        ·simp only [Act.put, List.setIfInBounds_toArray, List.set_cons_zero, List.set_cons_succ, i64_w, i32_w]
         rfl
        refine pure_ (i := 5) (N := some 88) (v := ?_) (a' := ?_) #[true, true, true, true, true, true, false, false, false, false, false, false, false, false, false, false, false] rfl rfl (by as_aux_lemma => kernel_rfl) (fun _ _ _ h => h) (Or.inl ⟨by rfl, ?_⟩) ?_ ?_
        rotate_left
        ·intro w'
         go_simp
         with_reducible rfl
        rotate_left
        ·simp only [Act.put, List.setIfInBounds_toArray, List.set_cons_zero, List.set_cons_succ, i64_w, i32_w]
         rfl
        refine pure_ (i := 6) (N := some 89) (v := ?_) (a' := ?_) #[true, true, true, true, true, true, true, false, false, false, false, false, false, false, false, false, false] rfl rfl (by as_aux_lemma => kernel_rfl) (fun _ _ _ h => h) (Or.inl ⟨by rfl, ?_⟩) ?_ ?_
        rotate_left
        ·intro w'
         go_simp
         with_reducible rfl
        rotate_left
        ·simp only [Act.put, List.setIfInBounds_toArray, List.set_cons_zero, List.set_cons_succ, i64_w, i32_w]
         rfl
        refine take_ (i := 7) (N := some 90) (v := ?_) (a' := ?_) #[true, true, true, true, true, true, true, true, false, false, false, false, false, false, false, false, false] rfl rfl (by as_aux_lemma => kernel_rfl) (fun _ _ _ h => h) (Or.inl ⟨by rfl, ?_⟩) hHeld ?_ ?_
        rotate_left
        ·rintro w' ⟨s0, s1, s2⟩
         go_simp
         with_reducible rfl
        rotate_left
        ·simp only [Act.put, List.setIfInBounds_toArray, List.set_cons_zero, List.set_cons_succ, i64_w, i32_w]
         rfl
        refine pure_ (i := 8) (N := some 91) (v := ?_) (a' := ?_) #[true, true, true, true, true, true, true, true, true, false, false, false, false, false, false, false, false] rfl rfl (by as_aux_lemma => kernel_rfl) (fun _ _ _ h => h) (Or.inl ⟨by rfl, ?_⟩) ?_ ?_
        rotate_left
        ·intro w'
         go_simp
         with_reducible rfl
        rotate_left
        ·simp only [Act.put, List.setIfInBounds_toArray, List.set_cons_zero, List.set_cons_succ, i64_w, i32_w]
         rfl
        refine pure_ (i := 9) (N := some 92) (v := ?_) (a' := ?_) #[true, true, true, true, true, true, true, true, true, true, false, false, false, false, false, false, false] rfl rfl (by as_aux_lemma => kernel_rfl) (fun _ _ _ h => h) (Or.inl ⟨by rfl, ?_⟩) ?_ ?_
        rotate_left
        ·intro w'
         go_simp
         with_reducible rfl
        rotate_left
        ·simp only [Act.put, List.setIfInBounds_toArray, List.set_cons_zero, List.set_cons_succ, i64_w, i32_w]
         rfl
        refine pure_ (i := 10) (N := some 93) (v := ?_) (a' := ?_) #[true, true, true, true, true, true, true, true, true, true, true, false, false, false, false, false, false] rfl rfl (by as_aux_lemma => kernel_rfl) (fun _ _ _ h => h) (Or.inl ⟨by rfl, ?_⟩) ?_ ?_
        rotate_left
        ·intro w'
         go_simp
         with_reducible rfl
        rotate_left
        ·simp only [Act.put, List.setIfInBounds_toArray, List.set_cons_zero, List.set_cons_succ, i64_w, i32_w]
         rfl
        refine take_ (i := 11) (N := some 94) (v := ?_) (a' := ?_) #[true, true, true, true, true, true, true, true, true, true, true, true, false, false, false, false, false] rfl rfl (by as_aux_lemma => kernel_rfl) (fun _ _ _ h => h) (Or.inl ⟨by rfl, ?_⟩) hHeld ?_ ?_
        rotate_left
        ·rintro w' ⟨s0, s1, s2⟩
         go_simp
         with_reducible rfl
        rotate_left
        ·simp only [Act.put, List.setIfInBounds_toArray, List.set_cons_zero, List.set_cons_succ, i64_w, i32_w]
         rfl
        refine pure_ (i := 12) (N := some 95) (v := ?_) (a' := ?_) #[true, true, true, true, true, true, true, true, true, true, true, true, true, false, false, false, false] rfl rfl (by as_aux_lemma => kernel_rfl) (fun _ _ _ h => h) (Or.inl ⟨by rfl, ?_⟩) ?_ ?_
        rotate_left
        ·intro w'
         go_simp
         with_reducible rfl
        rotate_left
        ·simp only [Act.put, List.setIfInBounds_toArray, List.set_cons_zero, List.set_cons_succ, i64_w, i32_w]
         rfl
        refine pure_ (i := 13) (N := some 96) (v := ?_) (a' := ?_) #[true, true, true, true, true, true, true, true, true, true, true, true, true, true, false, false, false] rfl rfl (by as_aux_lemma => kernel_rfl) (fun _ _ _ h => h) (Or.inl ⟨by rfl, ?_⟩) ?_ ?_
        rotate_left
        ·intro w'
         go_simp
         with_reducible rfl
        rotate_left
        ·simp only [Act.put, List.setIfInBounds_toArray, List.set_cons_zero, List.set_cons_succ, i64_w, i32_w]
         rfl
        refine take_ (i := 14) (N := some 97) (v := ?_) (a' := ?_) #[true, true, true, true, true, true, true, true, true, true, true, true, true, true, true, false, false] rfl rfl (by as_aux_lemma => kernel_rfl) (fun _ _ _ h => h) (Or.inl ⟨by rfl, ?_⟩) hHeld ?_ ?_
        rotate_left
        ·rintro w' ⟨s0, s1, s2⟩
         go_simp
         with_reducible rfl
        rotate_left
        ·simp only [Act.put, List.setIfInBounds_toArray, List.set_cons_zero, List.set_cons_succ, i64_w, i32_w]
         rfl
        refine pure_ (i := 15) (N := some 98) (v := ?_) (a' := ?_) #[true, true, true, true, true, true, true, true, true, true, true, true, true, true, true, true, false] rfl rfl (by as_aux_lemma => kernel_rfl) (fun _ _ _ h => h) (Or.inl ⟨by rfl, ?_⟩) ?_ ?_
        rotate_left
        ·intro w'
         go_simp
         with_reducible rfl
        rotate_left
        ·simp only [Act.put, List.setIfInBounds_toArray, List.set_cons_zero, List.set_cons_succ, i64_w, i32_w]
         rfl
        refine pure_ (i := 16) (N := some 99) (v := ?_) (a' := ?_) #[true, true, true, true, true, true, true, true, true, true, true, true, true, true, true, true, true] rfl rfl (by as_aux_lemma => kernel_rfl) (fun _ _ _ h => h) (Or.inl ⟨by rfl, ?_⟩) ?_ ?_
        rotate_left
        ·intro w'
         go_simp
         with_reducible rfl
        rotate_left
        ·simp only [Act.put, List.setIfInBounds_toArray, List.set_cons_zero, List.set_cons_succ, i64_w, i32_w]
         rfl
        refine done_ (by as_aux_lemma => kernel_rfl) ?_
        go_wp2_with fail

        go_roundw
        case rel => exact ⟨j + 1, true, (P ++ [z]), (m + 1), A8, c8, by omega, rfl, by go_num, by omega, ⟨HPL.out, by have h1 := HP.out.2.1; rw [restG_step HX.out] at h1; simpa [hx, hneg, cmpB_self] using h1, fun h => by cases h⟩, B0, B1, B2, B3, HO, HB⟩
        case measure => simp [intOf]; omega
       ·have hxl : x.f0.toList ≠ z.f0.toList := fun e => hx (toList_eq.1 e)
        have r1 : (x.f0.toList != z.f0.toList) = true := bne_iff_ne.mpr hxl
        have r2 : (x.f0.toList == z.f0.toList) = false := beq_eq_false_iff_ne.mpr hxl
        clear hxl
        have hse_ := pw_cell_below HB.out HSE.out
        have he0_ := pw_cell_below HB.out HEX.out.1
        refine start_ (n := 17) (S := fun w' => w'.cell? ⟨b0, 3, none⟩ = some (.slice (some ax) n c1) ∧ w'.cell? (ax.add (j * 5)) = some (.string x.f0) ∧ w'.cell? ad = some (.string z.f0)) (ds := []) #[false, false, false, false, false, false, false, false, false, false, false, false, false, false, false, false, false] (by as_aux_lemma => kernel_rfl) rfl rfl (⟨(B0.out.below (below_drew (Below.refl _ _))).cell 3 _ rfl, pw_cell_below (below_drew (Below.refl _ _)) he0_, pw_cell_below (below_drew (Below.refl _ _)) hse_⟩) (fun hHeld => ?_)
        have hb : Below w3.heap.size w3 w3.drew := below_drew (Below.refl _ _)
        replace B0 := Aside0.mk (B0.out.below hb)
        replace B1 := Aside0.mk (B1.out.below hb)
        replace B2 := Aside0.mk (B2.out.below hb)
        replace B3 := Aside0.mk (B3.out.below hb)
        replace B10 := Aside0.mk (B10.out.below hb)
        replace HO := Aside0.mk (HO.out.newer hb)
        replace HB := Aside0.mk (below_step HB.out hb)
        generalize w3.drew = w4a at *
        clear hb

        clear hse_ he0_
        refine pure_ (i := 0) (N := some 46) (v := ?_) (a' := ?_) #[true, false, false, false, false, false, false, false, false, false, false, false, false, false, false, false, false] rfl rfl (by as_aux_lemma => kernel_rfl) (fun _ _ _ h => h) (Or.inl ⟨by rfl, ?_⟩) ?_ ?_
        rotate_left
        ·intro w'
         go_simp
         with_reducible rfl
        rotate_left
        ·simp only [Act.put, List.setIfInBounds_toArray, List.set_cons_zero, List.set_cons_succ, i64_w, i32_w]
         rfl
        refine pure_ (i := 1) (N := some 47) (v := ?_) (a' := ?_) #[true, true, false, false, false, false, false, false, false, false, false, false, false, false, false, false, false] rfl rfl (by as_aux_lemma => kernel_rfl) (fun _ _ _ h => h) (Or.inl ⟨by rfl, ?_⟩) ?_ ?_
        rotate_left
        ·intro w'
         go_simp
         with_reducible rfl
        rotate_left
        ·simp only [Act.put, List.setIfInBounds_toArray, List.set_cons_zero, List.set_cons_succ, i64_w, i32_w]
         rfl
        refine take_ (i := 2) (N := some 48) (v := ?_) (a' := ?_) #[true, true, true, false, false, false, false, false, false, false, false, false, false, false, false, false, false] rfl rfl (by as_aux_lemma => kernel_rfl) (fun _ _ _ h => h) (Or.inl ⟨by rfl, ?_⟩) hHeld ?_ ?_
        rotate_left
        ·rintro w' ⟨s0, s1, s2⟩
         go_simp
         with_reducible rfl
        rotate_left
        ·simp only [Act.put, List.setIfInBounds_toArray, List.set_cons_zero, List.set_cons_succ, i64_w, i32_w]
         rfl
        refine pure_ (i := 3) (N := some 49) (v := ?_) (a' := ?_) #[true, true, true, true, false, false, false, false, false, false, false, false, false, false, false, false, false] rfl rfl (by as_aux_lemma => kernel_rfl) (fun _ _ _ h => h) (Or.inl ⟨by rfl, ?_⟩) ?_ ?_
        rotate_left
        ·intro w'
         go_simp
         with_reducible rfl
        rotate_left
        ·simp only [Act.put, List.setIfInBounds_toArray, List.set_cons_zero, List.set_cons_succ, i64_w, i32_w]
         rfl
        refine pure_ (i := 4) (N := some 50) (v := ?_) (a' := ?_) #[true, true, true, true, true, false, false, false, false, false, false, false, false, false, false, false, false] rfl rfl (by as_aux_lemma => kernel_rfl) (fun _ _ _ h => h) (Or.inl ⟨by rfl, ?_⟩) ?_ ?_
        rotate_left
        ·intro w'
         go_simp
         with_reducible rfl
        rotate_left
        ·simp only [Act.put, List.setIfInBounds_toArray, List.set_cons_zero, List.set_cons_succ, i64_w, i32_w]
         rfl
        refine pure_ (i := 5) (N := some 51) (v := ?_) (a' := ?_) #[true, true, true, true, true, true, false, false, false, false, false, false, false, false, false, false, false] rfl rfl (by as_aux_lemma => kernel_rfl) (fun _ _ _ h => h) (Or.inl ⟨by rfl, ?_⟩) ?_ ?_
        rotate_left
        ·intro w'
         go_simp
         with_reducible rfl
        rotate_left
        ·simp only [Act.put, List.setIfInBounds_toArray, List.set_cons_zero, List.set_cons_succ, i64_w, i32_w]
         rfl
        refine pure_ (i := 6) (N := some 52) (v := ?_) (a' := ?_) #[true, true, true, true, true, true, true, false, false, false, false, false, false, false, false, false, false] rfl rfl (by as_aux_lemma => kernel_rfl) (fun _ _ _ h => h) (Or.inl ⟨by rfl, ?_⟩) ?_ ?_
        rotate_left
        ·intro w'
         go_simp
         with_reducible rfl
        rotate_left
        ·simp only [Act.put, List.setIfInBounds_toArray, List.set_cons_zero, List.set_cons_succ, i64_w, i32_w]
         rfl
        refine take_ (i := 7) (N := some 53) (v := ?_) (a' := ?_) #[true, true, true, true, true, true, true, true, false, false, false, false, false, false, false, false, false] rfl rfl (by as_aux_lemma => kernel_rfl) (fun _ _ _ h => h) (Or.inl ⟨by rfl, ?_⟩) hHeld ?_ ?_
        rotate_left
        ·rintro w' ⟨s0, s1, s2⟩
         go_simp
         with_reducible rfl
        rotate_left
        ·simp only [Act.put, List.setIfInBounds_toArray, List.set_cons_zero, List.set_cons_succ, i64_w, i32_w]
         rfl
        refine pure_ (i := 8) (N := some 54) (v := ?_) (a' := ?_) #[true, true, true, true, true, true, true, true, true, false, false, false, false, false, false, false, false] rfl rfl (by as_aux_lemma => kernel_rfl) (fun _ _ _ h => h) (Or.inl ⟨by rfl, ?_⟩) ?_ ?_
        rotate_left
        ·intro w'
         go_simp
         with_reducible rfl
        rotate_left
        ·simp only [Act.put, List.setIfInBounds_toArray, List.set_cons_zero, List.set_cons_succ, i64_w, i32_w]
         rfl
        refine pure_ (i := 9) (N := some 55) (v := ?_) (a' := ?_) #[true, true, true, true, true, true, true, true, true, true, false, false, false, false, false, false, false] rfl rfl (by as_aux_lemma => kernel_rfl) (fun _ _ _ h => h) (Or.inl ⟨by rfl, ?_⟩) ?_ ?_
        rotate_left
        ·intro w'
         go_simp
         with_reducible rfl
        rotate_left
        ·simp only [Act.put, List.setIfInBounds_toArray, List.set_cons_zero, List.set_cons_succ, i64_w, i32_w]
         rfl
        refine pure_ (i := 10) (N := some 56) (v := ?_) (a' := ?_) #[true, true, true, true, true, true, true, true, true, true, true, false, false, false, false, false, false] rfl rfl (by as_aux_lemma => kernel_rfl) (fun _ _ _ h => h) (Or.inl ⟨by rfl, ?_⟩) ?_ ?_
        rotate_left
        ·intro w'
         go_simp
         with_reducible rfl
        rotate_left
        ·simp only [Act.put, List.setIfInBounds_toArray, List.set_cons_zero, List.set_cons_succ, i64_w, i32_w]
         rfl
        refine take_ (i := 11) (N := some 57) (v := ?_) (a' := ?_) #[true, true, true, true, true, true, true, true, true, true, true, true, false, false, false, false, false] rfl rfl (by as_aux_lemma => kernel_rfl) (fun _ _ _ h => h) (Or.inl ⟨by rfl, ?_⟩) hHeld ?_ ?_
        rotate_left
        ·rintro w' ⟨s0, s1, s2⟩
         go_simp
         with_reducible rfl
        rotate_left
        ·simp only [Act.put, List.setIfInBounds_toArray, List.set_cons_zero, List.set_cons_succ, i64_w, i32_w]
         rfl
        refine pure_ (i := 12) (N := some 58) (v := ?_) (a' := ?_) #[true, true, true, true, true, true, true, true, true, true, true, true, true, false, false, false, false] rfl rfl (by as_aux_lemma => kernel_rfl) (fun _ _ _ h => h) (Or.inl ⟨by rfl, ?_⟩) ?_ ?_
        rotate_left
        ·intro w'
         go_simp
         with_reducible rfl
        rotate_left
        ·simp only [Act.put, List.setIfInBounds_toArray, List.set_cons_zero, List.set_cons_succ, i64_w, i32_w]
         rfl
        refine pure_ (i := 13) (N := some 59) (v := ?_) (a' := ?_) #[true, true, true, true, true, true, true, true, true, true, true, true, true, true, false, false, false] rfl rfl (by as_aux_lemma => kernel_rfl) (fun _ _ _ h => h) (Or.inl ⟨by rfl, ?_⟩) ?_ ?_
        rotate_left
        ·intro w'
         go_simp
         with_reducible rfl
        rotate_left
        ·simp only [Act.put, List.setIfInBounds_toArray, List.set_cons_zero, List.set_cons_succ, i64_w, i32_w]
         rfl
        refine take_ (i := 14) (N := some 60) (v := ?_) (a' := ?_) #[true, true, true, true, true, true, true, true, true, true, true, true, true, true, true, false, false] rfl rfl (by as_aux_lemma => kernel_rfl) (fun _ _ _ h => h) (Or.inl ⟨by rfl, ?_⟩) hHeld ?_ ?_
        rotate_left
        ·rintro w' ⟨s0, s1, s2⟩
         go_simp
         with_reducible rfl
        rotate_left
        ·simp only [Act.put, List.setIfInBounds_toArray, List.set_cons_zero, List.set_cons_succ, i64_w, i32_w]
         rfl
        refine pure_ (i := 15) (N := some 61) (v := ?_) (a' := ?_) #[true, true, true, true, true, true, true, true, true, true, true, true, true, true, true, true, false] rfl rfl (by as_aux_lemma => kernel_rfl) (fun _ _ _ h => h) (Or.inl ⟨by rfl, ?_⟩) ?_ ?_
        rotate_left
        ·intro w'
         go_simp
         with_reducible rfl
        rotate_left
        ·simp only [Act.put, List.setIfInBounds_toArray, List.set_cons_zero, List.set_cons_succ, i64_w, i32_w]
         rfl
        refine pure_ (i := 16) (N := some 62) (v := ?_) (a' := ?_) #[true, true, true, true, true, true, true, true, true, true, true, true, true, true, true, true, true] rfl rfl (by as_aux_lemma => kernel_rfl) (fun _ _ _ h => h) (Or.inl ⟨by rfl, ?_⟩) ?_ ?_
        rotate_left
        ·intro w'
         go_simp
         with_reducible rfl
        rotate_left
        ·simp only [Act.put, List.setIfInBounds_toArray, List.set_cons_zero, List.set_cons_succ, i64_w, i32_w]
         rfl
        refine done_ (by as_aux_lemma => kernel_rfl) ?_
        go_wp2_with fail

        obtain ⟨ok, oe, ot, ol, AO, cO, hok, hB10, HOC⟩ : ∃ (ok : Int) (oe : Bool) (ot : ByteArray) (ol : List Ent) (AO : Option Addr) (cO : Nat), True ∧ Aside0 (Blk w4a b10 32 [.int .i64 ok, .bool oe, .string ot, .slice AO ol.length cO]) ∧ Aside0 (Kd.C kE w AO ol.length ol ∧ ol.length ≤ cO ∧ GK ol ∧ oldN l z.f0 = (ok, oe, ot, ol)) := ⟨0, false, ⟨#[]⟩, [], none, 0, trivial, B10, ⟨Kd.C_nil _ _, Nat.le_refl _, GK.nil, oldN_past HGK.out.1 j (HP.out.2.2 (by first | trivial | rfl)) (fun y hy => by rw [HX.out] at hy; injection hy with hy; rw [← hy]; exact ⟨by omega, hx⟩)⟩⟩
        replace B10 := hB10
        clear hB10 hok

        have hse_ := pw_cell_below HB.out HSE.out
        refine start_ (n := 15) (S := fun w' => w'.cell? ⟨b3, 3, none⟩ = some (.slice A7 m c7) ∧ w'.cell? ad = some (.string z.f0) ∧ w'.cell? ⟨b10, 0, none⟩ = some (.int .i64 ok) ∧ w'.cell? ⟨b10, 1, none⟩ = some (.bool oe) ∧ w'.cell? ⟨b10, 2, none⟩ = some (.string ot) ∧ w'.cell? ⟨b10, 3, none⟩ = some (.slice AO ol.length cO) ∧ w'.cell? ⟨b1, 0, none⟩ = some (.int .i64 sk) ∧ w'.cell? ⟨b1, 1, none⟩ = some (.bool se) ∧ w'.cell? ⟨b1, 2, none⟩ = some (.string st) ∧ w'.cell? ⟨b1, 3, none⟩ = some (.slice A3 sl.length c3)) (ds := [14]) #[false, false, false, false, false, false, false, false, false, false, false, false, false, false, false] (by as_aux_lemma => kernel_rfl) rfl rfl (ten ((B3.out.below (below_drew (Below.refl _ _))).cell 3 _ rfl) (pw_cell_below (below_drew (Below.refl _ _)) hse_) (cells4 (B10.out.below (below_drew (Below.refl _ _)))) (cells4 (B1.out.below (below_drew (Below.refl _ _))))) (fun hHeld => ?_)
        have hb : Below w4a.heap.size w4a w4a.drew := below_drew (Below.refl _ _)
        replace B0 := Aside0.mk (B0.out.below hb)
        replace B1 := Aside0.mk (B1.out.below hb)
        replace B2 := Aside0.mk (B2.out.below hb)
        replace B3 := Aside0.mk (B3.out.below hb)
        replace B10 := Aside0.mk (B10.out.below hb)
        replace HO := Aside0.mk (HO.out.newer hb)
        replace HB := Aside0.mk (below_step HB.out hb)
        generalize w4a.drew = w4 at *
        clear hb

        clear hse_
        refine pure_ (i := 0) (N := some 69) (v := ?_) (a' := ?_) #[true, false, false, false, false, false, false, false, false, false, false, false, false, false, false] rfl rfl (by as_aux_lemma => kernel_rfl) (fun _ _ _ h => h) (Or.inl ⟨by rfl, ?_⟩) ?_ ?_
        rotate_left
        ·intro w'
         go_simp
         with_reducible rfl
        rotate_left
        ·simp only [Act.put, List.setIfInBounds_toArray, List.set_cons_zero, List.set_cons_succ, i64_w, i32_w]
         rfl
        refine take_ (i := 1) (N := some 70) (v := ?_) (a' := ?_) #[true, true, false, false, false, false, false, false, false, false, false, false, false, false, false] rfl rfl (by as_aux_lemma => kernel_rfl) (fun _ _ _ h => h) (Or.inl ⟨by rfl, ?_⟩) hHeld ?_ ?_
        rotate_left
        ·rintro w' ⟨s0, s1, s2, s3, s4, s5, s6, s7, s8, s9⟩
         go_simp
         with_reducible rfl
        rotate_left
        ·simp only [Act.put, List.setIfInBounds_toArray, List.set_cons_zero, List.set_cons_succ, i64_w, i32_w]
         rfl
        refine pure_ (i := 2) (N := some 71) (v := ?_) (a' := ?_) #[true, true, true, false, false, false, false, false, false, false, false, false, false, false, false] rfl rfl (by as_aux_lemma => kernel_rfl) (fun _ _ _ h => h) (Or.inl ⟨by rfl, ?_⟩) ?_ ?_
        rotate_left
        ·intro w'
         go_simp
         with_reducible rfl
        rotate_left
        ·simp only [Act.put, List.setIfInBounds_toArray, List.set_cons_zero, List.set_cons_succ, i64_w, i32_w]
         rfl
        refine pure_ (i := 3) (N := some 72) (v := ?_) (a' := ?_) #[true, true, true, true, false, false, false, false, false, false, false, false, false, false, false] rfl rfl (by as_aux_lemma => kernel_rfl) (fun _ _ _ h => h) (Or.inl ⟨by rfl, ?_⟩) ?_ ?_
        rotate_left
        ·intro w'
         go_simp
         with_reducible rfl
        rotate_left
        ·simp only [Act.put, List.setIfInBounds_toArray, List.set_cons_zero, List.set_cons_succ, i64_w, i32_w]
         rfl
        refine take_ (i := 4) (N := some 73) (v := ?_) (a' := ?_) #[true, true, true, true, true, false, false, false, false, false, false, false, false, false, false] rfl rfl (by as_aux_lemma => kernel_rfl) (fun _ _ _ h => h) (Or.inl ⟨by rfl, ?_⟩) hHeld ?_ ?_
        rotate_left
        ·rintro w' ⟨s0, s1, s2, s3, s4, s5, s6, s7, s8, s9⟩
         go_simp
         with_reducible rfl
        rotate_left
        ·simp only [Act.put, List.setIfInBounds_toArray, List.set_cons_zero, List.set_cons_succ, i64_w, i32_w]
         rfl
        refine take_ (i := 5) (N := some 74) (v := ?_) (a' := ?_) #[true, true, true, true, true, true, false, false, false, false, false, false, false, false, false] rfl rfl (by as_aux_lemma => kernel_rfl) (fun _ _ _ h => h) (Or.inl ⟨by rfl, ?_⟩) hHeld ?_ ?_
        rotate_left
        ·rintro w' ⟨s0, s1, s2, s3, s4, s5, s6, s7, s8, s9⟩
         go_simp
         with_reducible rfl
        rotate_left
        ·simp only [Act.put, List.setIfInBounds_toArray, List.set_cons_zero, List.set_cons_succ, i64_w, i32_w]
         rfl
        refine pure_ (i := 6) (N := some 75) (v := ?_) (a' := ?_) #[true, true, true, true, true, true, true, false, false, false, false, false, false, false, false] rfl rfl (by as_aux_lemma => kernel_rfl) (fun _ _ _ h => h) (Or.inl ⟨by rfl, ?_⟩) ?_ ?_
        rotate_left
        ·intro w'
         go_simp
         with_reducible rfl
        rotate_left
        ·simp only [Act.put, List.setIfInBounds_toArray, List.set_cons_zero, List.set_cons_succ, i64_w, i32_w]
         rfl
        refine pure_ (i := 7) (N := some 76) (v := ?_) (a' := ?_) #[true, true, true, true, true, true, true, true, false, false, false, false, false, false, false] rfl rfl (by as_aux_lemma => kernel_rfl) (fun _ _ _ h => h) (Or.inl ⟨by rfl, ?_⟩) ?_ ?_
        rotate_left
        ·intro w'
         go_simp
         with_reducible rfl
        rotate_left
        ·simp only [Act.put, List.setIfInBounds_toArray, List.set_cons_zero, List.set_cons_succ, i64_w, i32_w]
         rfl
        refine take_ (i := 8) (N := some 77) (v := ?_) (a' := ?_) #[true, true, true, true, true, true, true, true, true, false, false, false, false, false, false] rfl rfl (by as_aux_lemma => kernel_rfl) (fun _ _ _ h => h) (Or.inl ⟨by rfl, ?_⟩) hHeld ?_ ?_
        rotate_left
        ·rintro w' ⟨s0, s1, s2, s3, s4, s5, s6, s7, s8, s9⟩
         go_simp
         with_reducible rfl
        rotate_left
        ·simp only [Act.put, List.setIfInBounds_toArray, List.set_cons_zero, List.set_cons_succ, i64_w, i32_w]
         rfl
        refine one_ (i := 9) (N := some 78) #[true, true, true, true, true, true, true, true, true, true, false, false, false, false, false] rfl rfl (by as_aux_lemma => kernel_rfl) (by decide) (fun K hK => ?_)
        refine goes_ Tryd.func50 (by as_aux_lemma => kernel_rfl) rfl #[.agg #[.int .i64 ok, .bool oe, .string ot, .slice AO ol.length cO], .slice (if c2 = 1 then some ad else some ⟨ad.block, ad.off + 1, none⟩) (m2 - 1) (c2 - 1), .agg #[.int .i64 sk, .bool se, .string st, .slice A3 sl.length c3]] (by rfl) rfl rfl (by (try simp only [List.map_toArray, List.map_cons, List.map_nil]); first | done | rfl) ?_
        have hNQ : Kd.C Kd.string w4 (if c2 = 1 then some ad else some ⟨ad.block, ad.off + 1, none⟩) q.length q := by
         rw [← HAD.out]
         have h1 := Kd.C_drop (c := c2) (m := 1) (Kd.C_below HNS.out HB.out) (by simp) (by have := HM2.out; simp; omega)
         exact h1
        have hIH := IH.out ok oe ot ol AO (if c2 = 1 then some ad else some ⟨ad.block, ad.off + 1, none⟩) A3 cO (c2 - 1) c3 w4 HOC.out.2.2.1 (fun s hs => HNM.out s (List.mem_cons_of_mem _ hs)) (Kd.C_below HOC.out.1 HB.out) HOC.out.2.1 hNQ (by have := HM2.out; omega) (Kd.C_below HCS.out.1 HB.out) HCS.out.2
        rw [show q.length = m2 - 1 from by have := HM2.out; omega, show grafN q (ok, oe, ot, ol) (sk, se, st, sl) = (z.f1, z.f2, z.f3, z.f4) from by
         have h1 := HZE.out.1
         rw [HOC.out.2.2.2] at h1
         generalize grafN q (ok, oe, ot, ol) (sk, se, st, sl) = G at h1
         rw [h1]; rfl] at hIH
        refine hIH.mono ?_
        clear hIH hNQ
        generalize (if c2 = 1 then some ad else some (⟨ad.block, ad.off + 1, none⟩ : Addr)) = NA

        rintro o w5 ⟨v4, rfl, hr4, hb⟩
        obtain ⟨A6, c6, hv4, _⟩ := hr4.slice
        subst hv4
        have HN := Aside0.mk hr4
        have HZ7 := Aside0.mk (And.intro HB.out.size (And.intro B3.out.lt hb.size))
        replace B0 := Aside0.mk (B0.out.below hb)
        replace B1 := Aside0.mk (B1.out.below hb)
        replace B2 := Aside0.mk (B2.out.below hb)
        replace B3 := Aside0.mk (B3.out.below hb)
        replace B10 := Aside0.mk (B10.out.below hb)
        replace HO := Aside0.mk (HO.out.bound.newer hb)
        replace HB := Aside0.mk (below_step HB.out hb)
        clear hr4 hb
        refine ⟨_, rfl, ?_⟩
        refine hK.out _ _ (ten (B3.out.cell 3 _ rfl) (pw_cell_below HB.out HSE.out) (cells4 B10.out) (cells4 B1.out)) (fun _ => ?_)
        clear hK K
        refine pure_ (i := 10) (N := some 79) (v := ?_) (a' := ?_) #[true, true, true, true, true, true, true, true, true, true, true, false, false, false, false] rfl rfl (by as_aux_lemma => kernel_rfl) (fun _ _ _ h => h) (Or.inl ⟨by rfl, ?_⟩) ?_ ?_
        rotate_left
        ·intro w'
         go_simp
         with_reducible rfl
        rotate_left
        ·simp only [Act.put, List.setIfInBounds_toArray, List.set_cons_zero, List.set_cons_succ, i64_w, i32_w]
         rfl
        refine one_ (i := 11) (N := some 80) #[true, true, true, true, true, true, true, true, true, true, true, true, false, false, false] rfl rfl (by as_aux_lemma => kernel_rfl) (by decide) (fun K hK => ?_)
        refine value_ (w1 := w5.alloc (.cells #[.string z.f0, .int .i64 z.f1, .bool z.f2, .string z.f3, .slice A6 z.f4.length c6] 63)) (v := .slice (some ⟨w5.heap.size, 0, none⟩) 1 1) (by rfl) rfl ?_ ?_
        ·go_simp
        have hba : Below w5.heap.size w5 (w5.alloc (.cells #[.string z.f0, .int .i64 z.f1, .bool z.f2, .string z.f3, .slice A6 z.f4.length c6] 63)) := below_alloc (Below.refl _ _) _
        refine hK.out _ _ (ten ((B3.out.below hba).cell 3 _ rfl) (pw_cell_below (below_step HB.out hba) HSE.out) (cells4 (B10.out.below hba)) (cells4 (B1.out.below hba))) (fun _ => ?_)
        clear hK K hba
        refine one_ (i := 12) (N := some 81) #[true, true, true, true, true, true, true, true, true, true, true, true, true, false, false] rfl rfl (by as_aux_lemma => kernel_rfl) (by decide) (fun K hK => ?_)

        obtain ⟨ts, hts, hP⟩ := HO.out.parts
        have hln := congrArg List.length hts
        rw [List.length_map] at hln
        refine step_append_cells (w0 := w) w.heap.size (by rfl) (.tmp 70) (.tmp 80) 30 63 (.agg #[.string ⟨#[]⟩, .int .i64 0, .bool false, .string ⟨#[]⟩, .slice none 0 0]) 5 72 rfl Tryd.underlying30 (by as_aux_lemma => kernel_rfl) rfl (by decide) (by decide)
         (.slice A7 m c7) ts.length (fl ts) (ecells z (.slice A6 z.f4.length c6)) (by rfl) (by rfl) rfl (ecells_one rfl) hP.row HB.out HB.out.size (by have := HPL.out; omega) ?_
        intro v1 wn hrow hb1 hg hat
        have hO8 := own_app (b3 := b3) (x := z) hts hP HN.out HZ7.out.1 HZ7.out.2.1 HZ7.out.2.2 hrow hg hat
        obtain ⟨A8, c8, hv8⟩ : ∃ A8 c8, v1 = .slice A8 (m + 1) c8 := by
         obtain ⟨A8, c8, h, _⟩ := hO8.slice
         exact ⟨A8, c8, by rw [h, List.length_append, HPL.out]; rfl⟩
        subst hv8
        replace B0 := Aside0.mk (keep_app hP hg B0.out (by decide))
        replace B1 := Aside0.mk (keep_app hP hg B1.out (by decide))
        replace B2 := Aside0.mk (keep_app hP hg B2.out (by decide))
        replace B3 := Aside0.mk (keep_app hP hg B3.out (by decide))
        replace B10 := Aside0.mk (keep_app hP hg B10.out (by decide))
        replace HO := Aside0.mk hO8
        replace HPL : Aside0 ((P ++ [z]).length = m + 1) := ⟨by rw [List.length_append, HPL.out]; rfl⟩
        replace HB := Aside0.mk hb1
        have y03 := B3.out.frozen 3
        have x03 := B3.out.cell 3 _ rfl
        clear hrow hb1 hg hat hln hts hP ts hO8 HN HZ7
        refine hK.out _ _ (ten (B3.out.cell 3 _ rfl) (pw_cell_below HB.out HSE.out) (cells4 B10.out) (cells4 B1.out)) (fun _ => ?_)
        clear hK K
        refine pure_ (i := 13) (N := some 82) (v := ?_) (a' := ?_) #[true, true, true, true, true, true, true, true, true, true, true, true, true, true, false] rfl rfl (by as_aux_lemma => kernel_rfl) (fun _ _ _ h => h) (Or.inl ⟨by rfl, ?_⟩) ?_ ?_
        rotate_left
        ·intro w'
         go_simp
         with_reducible rfl
        rotate_left
        ·simp only [Act.put, List.setIfInBounds_toArray, List.set_cons_zero, List.set_cons_succ, i64_w, i32_w]
         rfl
        refine last_ (i := 14) (N := none) #[true, true, true, true, true, true, true, true, true, true, true, true, true, true, true] rfl rfl (by as_aux_lemma => kernel_rfl) (by decide) (fun K hK => ?_)
        refine skip_ (w1 := wn.setCell ⟨b3, 3, none⟩ (.slice A8 (m + 1) c8)) (by rfl) rfl ?_ ?_
        ·go_simp
        refine hK.out _ _ ?_
        clear hK K
        refine done_ (by as_aux_lemma => kernel_rfl) ?_
        obtain ⟨w6, hW9⟩ : ∃ W9, W9 = wn.setCell ⟨b3, 3, none⟩ (.slice A8 (m + 1) c8) := ⟨_, rfl⟩
        have hz5 := HZ.out
        replace B0 : Aside0 (Blk w6 b0 32 [.int .i64 k, .bool e, .string t, .slice (some ax) n c1]) := ⟨by rw [hW9]; exact (Below.heap_setCell _ _ _ _ (by show b0 ≠ b3; omega)).trans B0.out⟩
        replace B1 : Aside0 (Blk w6 b1 32 [.int .i64 sk, .bool se, .string st, .slice A3 sl.length c3]) := ⟨by rw [hW9]; exact (Below.heap_setCell _ _ _ _ (by show b1 ≠ b3; omega)).trans B1.out⟩
        replace B2 : Aside0 (Blk w6 b2 32 [.int .i64 0, .bool false, .string ⟨#[]⟩, .slice none 0 0]) := ⟨by rw [hW9]; exact (Below.heap_setCell _ _ _ _ (by show b2 ≠ b3; omega)).trans B2.out⟩
        replace HO : Aside0 (Own w6 w.heap.size (fun k => b3 < k) (.slice A8 (m + 1) c8) (P ++ [z])) := ⟨by rw [hW9]; exact HO.out.set B3.out (by decide) 3 _⟩
        replace HB : Aside0 (Below w.heap.size w w6) := ⟨by rw [hW9]; exact HB.out.setCell (p := ⟨b3, 3, none⟩) (by show w.heap.size ≤ b3; omega) _⟩
        replace B3 : Aside0 (Blk w6 b3 32 [.int .i64 3, .bool false, .string ⟨#[]⟩, .slice A8 (m + 1) c8]) := ⟨by rw [hW9]; exact blk_put (cs := #[.int .i64 3, .bool false, .string ⟨#[]⟩, .slice A7 m c7]) B3.out 3 _ rfl⟩
        rw [← hW9]
        clear hW9 hz5 x03 y03 B10 HOC hHeld
        go_wp2_with fail

        have hse_ := pw_cell_below HB.out HSE.out
        have he0_ := pw_cell_below HB.out HEX.out.1
        refine start_ (n := 17) (S := fun w' => w'.cell? ⟨b0, 3, none⟩ = some (.slice (some ax) n c1) ∧ w'.cell? (ax.add (j * 5)) = some (.string x.f0) ∧ w'.cell? ad = some (.string z.f0)) (ds := []) #[false, false, false, false, false, false, false, false, false, false, false, false, false, false, false, false, false] (by as_aux_lemma => kernel_rfl) rfl rfl (⟨(B0.out.below (below_drew (Below.refl _ _))).cell 3 _ rfl, pw_cell_below (below_drew (Below.refl _ _)) he0_, pw_cell_below (below_drew (Below.refl _ _)) hse_⟩) (fun hHeld => ?_)
        have hb : Below w6.heap.size w6 w6.drew := below_drew (Below.refl _ _)
        replace B0 := Aside0.mk (B0.out.below hb)
        replace B1 := Aside0.mk (B1.out.below hb)
        replace B2 := Aside0.mk (B2.out.below hb)
        replace B3 := Aside0.mk (B3.out.below hb)
        replace HO := Aside0.mk (HO.out.newer hb)
        replace HB := Aside0.mk (below_step HB.out hb)
        generalize w6.drew = w8 at *
        clear hb

        clear hse_ he0_
        refine pure_ (i := 0) (N := some 83) (v := ?_) (a' := ?_) #[true, false, false, false, false, false, false, false, false, false, false, false, false, false, false, false, false] rfl rfl (by as_aux_lemma => kernel_rfl) (fun _ _ _ h => h) (Or.inl ⟨by rfl, ?_⟩) ?_ ?_
        rotate_left
        ·intro w'
         go_simp
         with_reducible rfl
        rotate_left
        ·simp only [Act.put, List.setIfInBounds_toArray, List.set_cons_zero, List.set_cons_succ, i64_w, i32_w]
         rfl
        refine pure_ (i := 1) (N := some 84) (v := ?_) (a' := ?_) #[true, true, false, false, false, false, false, false, false, false, false, false, false, false, false, false, false] rfl rfl (by as_aux_lemma => kernel_rfl) (fun _ _ _ h => h) (Or.inl ⟨by rfl, ?_⟩) ?_ ?_
        rotate_left
        ·intro w'
         go_simp
         with_reducible rfl
        rotate_left
        ·simp only [Act.put, List.setIfInBounds_toArray, List.set_cons_zero, List.set_cons_succ, i64_w, i32_w]
         rfl
        refine take_ (i := 2) (N := some 85) (v := ?_) (a' := ?_) #[true, true, true, false, false, false, false, false, false, false, false, false, false, false, false, false, false] rfl rfl (by as_aux_lemma => kernel_rfl) (fun _ _ _ h => h) (Or.inl ⟨by rfl, ?_⟩) hHeld ?_ ?_
        rotate_left
        ·rintro w' ⟨s0, s1, s2⟩
         go_simp
         with_reducible rfl
        rotate_left
        ·simp only [Act.put, List.setIfInBounds_toArray, List.set_cons_zero, List.set_cons_succ, i64_w, i32_w]
         rfl
        refine pure_ (i := 3) (N := some 86) (v := ?_) (a' := ?_) #[true, true, true, true, false, false, false, false, false, false, false, false, false, false, false, false, false] rfl rfl (by as_aux_lemma => kernel_rfl) (fun _ _ _ h => h) (Or.inl ⟨by rfl, ?_⟩) ?_ ?_
        rotate_left
        ·intro w'
         go_simp
         with_reducible rfl
        rotate_left
        ·simp only [Act.put, List.setIfInBounds_toArray, List.set_cons_zero, List.set_cons_succ, i64_w, i32_w]
         rfl
        refine pure_ (i := 4) (N := some 87) (v := ?_) (a' := ?_) #[true, true, true, true, true, false, false, false, false, false, false, false, false, false, false, false, false] rfl rfl (by as_aux_lemma => kernel_rfl) (fun _ _ _ h => h) (Or.inl ⟨by rfl, ?_⟩) ?_ ?_
        rotate_left
        ·intro w'
         go_simp
         with_reducible rfl
        rotate_left
        ·simp only [Act.put, List.setIfInBounds_toArray, List.set_cons_zero, List.set_cons_succ, i64_w, i32_w]
         rfl
        refine pure_ (i := 5) (N := some 88) (v := ?_) (a' := ?_) #[true, true, true, true, true, true, false, false, false, false, false, false, false, false, false, false, false] rfl rfl (by as_aux_lemma => kernel_rfl) (fun _ _ _ h => h) (Or.inl ⟨by rfl, ?_⟩) ?_ ?_
        rotate_left
        ·intro w'
         go_simp
         with_reducible rfl
        rotate_left
        ·simp only [Act.put, List.setIfInBounds_toArray, List.set_cons_zero, List.set_cons_succ, i64_w, i32_w]
         rfl
        refine pure_ (i := 6) (N := some 89) (v := ?_) (a' := ?_) #[true, true, true, true, true, true, true, false, false, false, false, false, false, false, false, false, false] rfl rfl (by as_aux_lemma => kernel_rfl) (fun _ _ _ h => h) (Or.inl ⟨by rfl, ?_⟩) ?_ ?_
        rotate_left
        ·intro w'
         go_simp
         with_reducible rfl
        rotate_left
        ·simp only [Act.put, List.setIfInBounds_toArray, List.set_cons_zero, List.set_cons_succ, i64_w, i32_w]
         rfl
        refine take_ (i := 7) (N := some 90) (v := ?_) (a' := ?_) #[true, true, true, true, true, true, true, true, false, false, false, false, false, false, false, false, false] rfl rfl (by as_aux_lemma => kernel_rfl) (fun _ _ _ h => h) (Or.inl ⟨by rfl, ?_⟩) hHeld ?_ ?_
        rotate_left
        ·rintro w' ⟨s0, s1, s2⟩
         go_simp
         with_reducible rfl
        rotate_left
        ·simp only [Act.put, List.setIfInBounds_toArray, List.set_cons_zero, List.set_cons_succ, i64_w, i32_w]
         rfl
        refine pure_ (i := 8) (N := some 91) (v := ?_) (a' := ?_) #[true, true, true, true, true, true, true, true, true, false, false, false, false, false, false, false, false] rfl rfl (by as_aux_lemma => kernel_rfl) (fun _ _ _ h => h) (Or.inl ⟨by rfl, ?_⟩) ?_ ?_
        rotate_left
        ·intro w'
         go_simp
         with_reducible rfl
        rotate_left
        ·simp only [Act.put, List.setIfInBounds_toArray, List.set_cons_zero, List.set_cons_succ, i64_w, i32_w]
         rfl
        refine pure_ (i := 9) (N := some 92) (v := ?_) (a' := ?_) #[true, true, true, true, true, true, true, true, true, true, false, false, false, false, false, false, false] rfl rfl (by as_aux_lemma => kernel_rfl) (fun _ _ _ h => h) (Or.inl ⟨by rfl, ?_⟩) ?_ ?_
        rotate_left
        ·intro w'
         go_simp
         with_reducible rfl
        rotate_left
        ·simp only [Act.put, List.setIfInBounds_toArray, List.set_cons_zero, List.set_cons_succ, i64_w, i32_w]
         rfl
        refine pure_ (i := 10) (N := some 93) (v := ?_) (a' := ?_) #[true, true, true, true, true, true, true, true, true, true, true, false, false, false, false, false, false] rfl rfl (by as_aux_lemma => kernel_rfl) (fun _ _ _ h => h) (Or.inl ⟨by rfl, ?_⟩) ?_ ?_
        rotate_left
        ·intro w'
         go_simp
         with_reducible rfl
        rotate_left
        ·simp only [Act.put, List.setIfInBounds_toArray, List.set_cons_zero, List.set_cons_succ, i64_w, i32_w]
         rfl
        refine take_ (i := 11) (N := some 94) (v := ?_) (a' := ?_) #[true, true, true, true, true, true, true, true, true, true, true, true, false, false, false, false, false] rfl rfl (by as_aux_lemma => kernel_rfl) (fun _ _ _ h => h) (Or.inl ⟨by rfl, ?_⟩) hHeld ?_ ?_
        rotate_left
        ·rintro w' ⟨s0, s1, s2⟩
         go_simp
         with_reducible rfl
        rotate_left
        ·simp only [Act.put, List.setIfInBounds_toArray, List.set_cons_zero, List.set_cons_succ, i64_w, i32_w]
         rfl
        refine pure_ (i := 12) (N := some 95) (v := ?_) (a' := ?_) #[true, true, true, true, true, true, true, true, true, true, true, true, true, false, false, false, false] rfl rfl (by as_aux_lemma => kernel_rfl) (fun _ _ _ h => h) (Or.inl ⟨by rfl, ?_⟩) ?_ ?_
        rotate_left
        ·intro w'
         go_simp
         with_reducible rfl
        rotate_left
        ·simp only [Act.put, List.setIfInBounds_toArray, List.set_cons_zero, List.set_cons_succ, i64_w, i32_w]
         rfl
        refine pure_ (i := 13) (N := some 96) (v := ?_) (a' := ?_) #[true, true, true, true, true, true, true, true, true, true, true, true, true, true, false, false, false] rfl rfl (by as_aux_lemma => kernel_rfl) (fun _ _ _ h => h) (Or.inl ⟨by rfl, ?_⟩) ?_ ?_
        rotate_left
        ·intro w'
         go_simp
         with_reducible rfl
        rotate_left
        ·simp only [Act.put, List.setIfInBounds_toArray, List.set_cons_zero, List.set_cons_succ, i64_w, i32_w]
         rfl
        refine take_ (i := 14) (N := some 97) (v := ?_) (a' := ?_) #[true, true, true, true, true, true, true, true, true, true, true, true, true, true, true, false, false] rfl rfl (by as_aux_lemma => kernel_rfl) (fun _ _ _ h => h) (Or.inl ⟨by rfl, ?_⟩) hHeld ?_ ?_
        rotate_left
        ·rintro w' ⟨s0, s1, s2⟩
         go_simp
         with_reducible rfl
        rotate_left
        ·simp only [Act.put, List.setIfInBounds_toArray, List.set_cons_zero, List.set_cons_succ, i64_w, i32_w]
         rfl
        refine pure_ (i := 15) (N := some 98) (v := ?_) (a' := ?_) #[true, true, true, true, true, true, true, true, true, true, true, true, true, true, true, true, false] rfl rfl (by as_aux_lemma => kernel_rfl) (fun _ _ _ h => h) (Or.inl ⟨by rfl, ?_⟩) ?_ ?_
        rotate_left
        ·intro w'
         go_simp
         with_reducible rfl
        rotate_left
        ·simp only [Act.put, List.setIfInBounds_toArray, List.set_cons_zero, List.set_cons_succ, i64_w, i32_w]
         rfl
        refine pure_ (i := 16) (N := some 99) (v := ?_) (a' := ?_) #[true, true, true, true, true, true, true, true, true, true, true, true, true, true, true, true, true] rfl rfl (by as_aux_lemma => kernel_rfl) (fun _ _ _ h => h) (Or.inl ⟨by rfl, ?_⟩) ?_ ?_
        rotate_left
        ·intro w'
         go_simp
         with_reducible rfl
        rotate_left
        ·simp only [Act.put, List.setIfInBounds_toArray, List.set_cons_zero, List.set_cons_succ, i64_w, i32_w]
         rfl
        refine done_ (by as_aux_lemma => kernel_rfl) ?_
        go_wp2_with fail

        have hd_ := below_step HB.out (below_drew (Below.refl w8.heap.size w8))
        refine start_ (n := 20) (S := fun w' => w'.cell? ⟨b3, 3, none⟩ = some (.slice A8 (m + 1) c8) ∧ w'.cell? ⟨b0, 3, none⟩ = some (.slice (some ax) n c1) ∧ w'.cell? (ax.add (j * 5)) = some (.string x.f0) ∧ w'.cell? ⟨(ax.add (j * 5)).block, (ax.add (j * 5)).off + 1, none⟩ = some (.int .i64 x.f1) ∧ w'.cell? ⟨(ax.add (j * 5)).block, (ax.add (j * 5)).off + 1 + 1, none⟩ = some (.bool x.f2) ∧ w'.cell? ⟨(ax.add (j * 5)).block, (ax.add (j * 5)).off + 1 + 2, none⟩ = some (.string x.f3) ∧ w'.cell? ⟨(ax.add (j * 5)).block, (ax.add (j * 5)).off + 1 + 3, none⟩ = some (.slice A4 x.f4.length c4)) (ds := [19]) #[false, false, false, false, false, false, false, false, false, false, false, false, false, false, false, false, false, false, false, false] (by as_aux_lemma => kernel_rfl) rfl rfl (⟨(B3.out.below (below_drew (Below.refl _ _))).cell 3 _ rfl, (B0.out.below (below_drew (Below.refl _ _))).cell 3 _ rfl, pw_cell_below hd_ HEX.out.1, pw_cell_below hd_ HEX.out.2.1, pw_cell_below hd_ HEX.out.2.2.1, pw_cell_below hd_ HEX.out.2.2.2.1, pw_cell_below hd_ HEX.out.2.2.2.2⟩) (fun hHeld => ?_)
        have hb : Below w8.heap.size w8 w8.drew := below_drew (Below.refl _ _)
        replace B0 := Aside0.mk (B0.out.below hb)
        replace B1 := Aside0.mk (B1.out.below hb)
        replace B2 := Aside0.mk (B2.out.below hb)
        replace B3 := Aside0.mk (B3.out.below hb)
        replace HO := Aside0.mk (HO.out.newer hb)
        replace HB := Aside0.mk (below_step HB.out hb)
        generalize w8.drew = w7 at *
        clear hb

        clear hd_
        refine pure_ (i := 0) (N := some 100) (v := ?_) (a' := ?_) #[true, false, false, false, false, false, false, false, false, false, false, false, false, false, false, false, false, false, false, false] rfl rfl (by as_aux_lemma => kernel_rfl) (fun _ _ _ h => h) (Or.inl ⟨by rfl, ?_⟩) ?_ ?_
        rotate_left
        ·intro w'
         go_simp
         with_reducible rfl
        rotate_left
        ·simp only [Act.put, List.setIfInBounds_toArray, List.set_cons_zero, List.set_cons_succ, i64_w, i32_w]
         rfl
        refine take_ (i := 1) (N := some 101) (v := ?_) (a' := ?_) #[true, true, false, false, false, false, false, false, false, false, false, false, false, false, false, false, false, false, false, false] rfl rfl (by as_aux_lemma => kernel_rfl) (fun _ _ _ h => h) (Or.inl ⟨by rfl, ?_⟩) hHeld ?_ ?_
        rotate_left
        ·rintro w' ⟨s0, s1, s2, s3, s4, s5, s6⟩
         go_simp
         with_reducible rfl
        rotate_left
        ·simp only [Act.put, List.setIfInBounds_toArray, List.set_cons_zero, List.set_cons_succ, i64_w, i32_w]
         rfl
        refine pure_ (i := 2) (N := some 102) (v := ?_) (a' := ?_) #[true, true, true, false, false, false, false, false, false, false, false, false, false, false, false, false, false, false, false, false] rfl rfl (by as_aux_lemma => kernel_rfl) (fun _ _ _ h => h) (Or.inl ⟨by rfl, ?_⟩) ?_ ?_
        rotate_left
        ·intro w'
         go_simp
         with_reducible rfl
        rotate_left
        ·simp only [Act.put, List.setIfInBounds_toArray, List.set_cons_zero, List.set_cons_succ, i64_w, i32_w]
         rfl
        refine take_ (i := 3) (N := some 103) (v := ?_) (a' := ?_) #[true, true, true, true, false, false, false, false, false, false, false, false, false, false, false, false, false, false, false, false] rfl rfl (by as_aux_lemma => kernel_rfl) (fun _ _ _ h => h) (Or.inl ⟨by rfl, ?_⟩) hHeld ?_ ?_
        rotate_left
        ·rintro w' ⟨s0, s1, s2, s3, s4, s5, s6⟩
         go_simp
         with_reducible rfl
        rotate_left
        ·simp only [Act.put, List.setIfInBounds_toArray, List.set_cons_zero, List.set_cons_succ, i64_w, i32_w]
         rfl
        refine pure_ (i := 4) (N := some 104) (v := ?_) (a' := ?_) #[true, true, true, true, true, false, false, false, false, false, false, false, false, false, false, false, false, false, false, false] rfl rfl (by as_aux_lemma => kernel_rfl) (fun _ _ _ h => h) (Or.inl ⟨by rfl, ?_⟩) ?_ ?_
        rotate_left
        ·intro w'
         go_simp
         with_reducible rfl
        rotate_left
        ·simp only [Act.put, List.setIfInBounds_toArray, List.set_cons_zero, List.set_cons_succ, i64_w, i32_w]
         rfl
        refine pure_ (i := 5) (N := some 105) (v := ?_) (a' := ?_) #[true, true, true, true, true, true, false, false, false, false, false, false, false, false, false, false, false, false, false, false] rfl rfl (by as_aux_lemma => kernel_rfl) (fun _ _ _ h => h) (Or.inl ⟨by rfl, ?_⟩) ?_ ?_
        rotate_left
        ·intro w'
         go_simp
         with_reducible rfl
        rotate_left
        ·simp only [Act.put, List.setIfInBounds_toArray, List.set_cons_zero, List.set_cons_succ, i64_w, i32_w]
         rfl
        refine pure_ (i := 6) (N := some 106) (v := ?_) (a' := ?_) #[true, true, true, true, true, true, true, false, false, false, false, false, false, false, false, false, false, false, false, false] rfl rfl (by as_aux_lemma => kernel_rfl) (fun _ _ _ h => h) (Or.inl ⟨by rfl, ?_⟩) ?_ ?_
        rotate_left
        ·intro w'
         go_simp
         with_reducible rfl
        rotate_left
        ·simp only [Act.put, List.setIfInBounds_toArray, List.set_cons_zero, List.set_cons_succ, i64_w, i32_w]
         rfl
        refine take_ (i := 7) (N := some 107) (v := ?_) (a' := ?_) #[true, true, true, true, true, true, true, true, false, false, false, false, false, false, false, false, false, false, false, false] rfl rfl (by as_aux_lemma => kernel_rfl) (fun _ _ _ h => h) (Or.inl ⟨by rfl, ?_⟩) hHeld ?_ ?_
        rotate_left
        ·rintro w' ⟨s0, s1, s2, s3, s4, s5, s6⟩
         go_simp
         with_reducible rfl
        rotate_left
        ·simp only [Act.put, List.setIfInBounds_toArray, List.set_cons_zero, List.set_cons_succ, i64_w, i32_w]
         rfl
        refine pure_ (i := 8) (N := some 108) (v := ?_) (a' := ?_) #[true, true, true, true, true, true, true, true, true, false, false, false, false, false, false, false, false, false, false, false] rfl rfl (by as_aux_lemma => kernel_rfl) (fun _ _ _ h => h) (Or.inl ⟨by rfl, ?_⟩) ?_ ?_
        rotate_left
        ·intro w'
         go_simp
         with_reducible rfl
        rotate_left
        ·simp only [Act.put, List.setIfInBounds_toArray, List.set_cons_zero, List.set_cons_succ, i64_w, i32_w]
         rfl
        refine take_ (i := 9) (N := some 109) (v := ?_) (a' := ?_) #[true, true, true, true, true, true, true, true, true, true, false, false, false, false, false, false, false, false, false, false] rfl rfl (by as_aux_lemma => kernel_rfl) (fun _ _ _ h => h) (Or.inl ⟨by rfl, ?_⟩) hHeld ?_ ?_
        rotate_left
        ·rintro w' ⟨s0, s1, s2, s3, s4, s5, s6⟩
         go_simp
         with_reducible rfl
        rotate_left
        ·simp only [Act.put, List.setIfInBounds_toArray, List.set_cons_zero, List.set_cons_succ, i64_w, i32_w]
         rfl
        refine pure_ (i := 10) (N := some 110) (v := ?_) (a' := ?_) #[true, true, true, true, true, true, true, true, true, true, true, false, false, false, false, false, false, false, false, false] rfl rfl (by as_aux_lemma => kernel_rfl) (fun _ _ _ h => h) (Or.inl ⟨by rfl, ?_⟩) ?_ ?_
        rotate_left
        ·intro w'
         go_simp
         with_reducible rfl
        rotate_left
        ·simp only [Act.put, List.setIfInBounds_toArray, List.set_cons_zero, List.set_cons_succ, i64_w, i32_w]
         rfl
        refine pure_ (i := 11) (N := some 111) (v := ?_) (a' := ?_) #[true, true, true, true, true, true, true, true, true, true, true, true, false, false, false, false, false, false, false, false] rfl rfl (by as_aux_lemma => kernel_rfl) (fun _ _ _ h => h) (Or.inl ⟨by rfl, ?_⟩) ?_ ?_
        rotate_left
        ·intro w'
         go_simp
         with_reducible rfl
        rotate_left
        ·simp only [Act.put, List.setIfInBounds_toArray, List.set_cons_zero, List.set_cons_succ, i64_w, i32_w]
         rfl
        refine pure_ (i := 12) (N := some 112) (v := ?_) (a' := ?_) #[true, true, true, true, true, true, true, true, true, true, true, true, true, false, false, false, false, false, false, false] rfl rfl (by as_aux_lemma => kernel_rfl) (fun _ _ _ h => h) (Or.inl ⟨by rfl, ?_⟩) ?_ ?_
        rotate_left
        ·intro w'
         go_simp
         with_reducible rfl
        rotate_left
        ·simp only [Act.put, List.setIfInBounds_toArray, List.set_cons_zero, List.set_cons_succ, i64_w, i32_w]
         rfl
        refine take_ (i := 13) (N := some 113) (v := ?_) (a' := ?_) #[true, true, true, true, true, true, true, true, true, true, true, true, true, true, false, false, false, false, false, false] rfl rfl (by as_aux_lemma => kernel_rfl) (fun _ _ _ h => h) (Or.inl ⟨by rfl, ?_⟩) hHeld ?_ ?_
        rotate_left
        ·rintro w' ⟨s0, s1, s2, s3, s4, s5, s6⟩
         go_simp
         with_reducible rfl
        rotate_left
        ·simp only [Act.put, List.setIfInBounds_toArray, List.set_cons_zero, List.set_cons_succ, i64_w, i32_w]
         rfl
        refine one_ (i := 14) (N := some 114) #[true, true, true, true, true, true, true, true, true, true, true, true, true, true, true, false, false, false, false, false] rfl rfl (by as_aux_lemma => kernel_rfl) (by decide) (fun K hK => ?_)
        refine goes_ Tryd.func23 (by as_aux_lemma => kernel_rfl) rfl #[.agg #[.int .i64 x.f1, .bool x.f2, .string x.f3, .slice A4 x.f4.length c4]] (by rfl) rfl rfl (by (try simp only [List.map_toArray, List.map_cons, List.map_nil]); first | done | rfl) ?_
        refine (cloneO_calls x.f4 (HGK.out.2.2.2 x HXM.out).fit x.f1 x.f2 x.f3 A4 c4 w7 (Kd.C_below HC4.out.1 HB.out) HC4.out.2).mono ?_

        rintro o w5 ⟨v4, rfl, hr4, hb⟩
        obtain ⟨A6, c6, hv4, _⟩ := hr4.slice
        subst hv4
        have HN := Aside0.mk hr4
        have HZ7 := Aside0.mk (And.intro HB.out.size (And.intro B3.out.lt hb.size))
        replace B0 := Aside0.mk (B0.out.below hb)
        replace B1 := Aside0.mk (B1.out.below hb)
        replace B2 := Aside0.mk (B2.out.below hb)
        replace B3 := Aside0.mk (B3.out.below hb)
        replace HO := Aside0.mk (HO.out.bound.newer hb)
        replace HB := Aside0.mk (below_step HB.out hb)
        clear hr4 hb
        refine ⟨_, rfl, ?_⟩
        refine hK.out _ _ ⟨B3.out.cell 3 _ rfl, B0.out.cell 3 _ rfl, pw_cell_below HB.out HEX.out.1, pw_cell_below HB.out HEX.out.2.1, pw_cell_below HB.out HEX.out.2.2.1, pw_cell_below HB.out HEX.out.2.2.2.1, pw_cell_below HB.out HEX.out.2.2.2.2⟩ (fun _ => ?_)
        clear hK K
        refine pure_ (i := 15) (N := some 115) (v := ?_) (a' := ?_) #[true, true, true, true, true, true, true, true, true, true, true, true, true, true, true, true, false, false, false, false] rfl rfl (by as_aux_lemma => kernel_rfl) (fun _ _ _ h => h) (Or.inl ⟨by rfl, ?_⟩) ?_ ?_
        rotate_left
        ·intro w'
         go_simp
         with_reducible rfl
        rotate_left
        ·simp only [Act.put, List.setIfInBounds_toArray, List.set_cons_zero, List.set_cons_succ, i64_w, i32_w]
         rfl
        refine one_ (i := 16) (N := some 116) #[true, true, true, true, true, true, true, true, true, true, true, true, true, true, true, true, true, false, false, false] rfl rfl (by as_aux_lemma => kernel_rfl) (by decide) (fun K hK => ?_)
        refine value_ (w1 := w5.alloc (.cells #[.string x.f0, .int .i64 x.f1, .bool x.f2, .string x.f3, .slice A6 x.f4.length c6] 63)) (v := .slice (some ⟨w5.heap.size, 0, none⟩) 1 1) (by rfl) rfl ?_ ?_
        ·go_simp
        have hba : Below w5.heap.size w5 (w5.alloc (.cells #[.string x.f0, .int .i64 x.f1, .bool x.f2, .string x.f3, .slice A6 x.f4.length c6] 63)) := below_alloc (Below.refl _ _) _
        refine hK.out _ _ ⟨(B3.out.below hba).cell 3 _ rfl, (B0.out.below hba).cell 3 _ rfl, pw_cell_below (below_step HB.out hba) HEX.out.1, pw_cell_below (below_step HB.out hba) HEX.out.2.1, pw_cell_below (below_step HB.out hba) HEX.out.2.2.1, pw_cell_below (below_step HB.out hba) HEX.out.2.2.2.1, pw_cell_below (below_step HB.out hba) HEX.out.2.2.2.2⟩ (fun _ => ?_)
        clear hK K hba
        refine one_ (i := 17) (N := some 117) #[true, true, true, true, true, true, true, true, true, true, true, true, true, true, true, true, true, true, false, false] rfl rfl (by as_aux_lemma => kernel_rfl) (by decide) (fun K hK => ?_)

        obtain ⟨ts, hts, hP⟩ := HO.out.parts
        have hln := congrArg List.length hts
        rw [List.length_map] at hln
        refine step_append_cells (w0 := w) w.heap.size (by rfl) (.tmp 101) (.tmp 116) 30 63 (.agg #[.string ⟨#[]⟩, .int .i64 0, .bool false, .string ⟨#[]⟩, .slice none 0 0]) 5 72 rfl Tryd.underlying30 (by as_aux_lemma => kernel_rfl) rfl (by decide) (by decide)
         (.slice A8 (m + 1) c8) ts.length (fl ts) (ecells x (.slice A6 x.f4.length c6)) (by rfl) (by rfl) rfl (ecells_one rfl) hP.row HB.out HB.out.size (by have := HPL.out; omega) ?_
        intro v1 wn hrow hb1 hg hat
        have hO8 := own_app (b3 := b3) (x := x) hts hP HN.out HZ7.out.1 HZ7.out.2.1 HZ7.out.2.2 hrow hg hat
        obtain ⟨A9, c9, hv8⟩ : ∃ A8 c8, v1 = .slice A8 ((m + 1) + 1) c8 := by
         obtain ⟨A8, c8, h, _⟩ := hO8.slice
         exact ⟨A8, c8, by rw [h, List.length_append, HPL.out]; rfl⟩
        subst hv8
        replace B0 := Aside0.mk (keep_app hP hg B0.out (by decide))
        replace B1 := Aside0.mk (keep_app hP hg B1.out (by decide))
        replace B2 := Aside0.mk (keep_app hP hg B2.out (by decide))
        replace B3 := Aside0.mk (keep_app hP hg B3.out (by decide))
        replace HO := Aside0.mk hO8
        replace HPL : Aside0 (((P ++ [z]) ++ [x]).length = (m + 1) + 1) := ⟨by rw [List.length_append, HPL.out]; rfl⟩
        replace HB := Aside0.mk hb1
        have y03 := B3.out.frozen 3
        have x03 := B3.out.cell 3 _ rfl
        clear hrow hb1 hg hat hln hts hP ts hO8 HN HZ7
        refine hK.out _ _ ⟨B3.out.cell 3 _ rfl, B0.out.cell 3 _ rfl, pw_cell_below HB.out HEX.out.1, pw_cell_below HB.out HEX.out.2.1, pw_cell_below HB.out HEX.out.2.2.1, pw_cell_below HB.out HEX.out.2.2.2.1, pw_cell_below HB.out HEX.out.2.2.2.2⟩ (fun _ => ?_)
        clear hK K
        refine pure_ (i := 18) (N := some 118) (v := ?_) (a' := ?_) #[true, true, true, true, true, true, true, true, true, true, true, true, true, true, true, true, true, true, true, false] rfl rfl (by as_aux_lemma => kernel_rfl) (fun _ _ _ h => h) (Or.inl ⟨by rfl, ?_⟩) ?_ ?_
        rotate_left
        ·intro w'
         go_simp
         with_reducible rfl
        rotate_left
        ·simp only [Act.put, List.setIfInBounds_toArray, List.set_cons_zero, List.set_cons_succ, i64_w, i32_w]
         rfl
        refine last_ (i := 19) (N := none) #[true, true, true, true, true, true, true, true, true, true, true, true, true, true, true, true, true, true, true, true] rfl rfl (by as_aux_lemma => kernel_rfl) (by decide) (fun K hK => ?_)
        refine skip_ (w1 := wn.setCell ⟨b3, 3, none⟩ (.slice A9 ((m + 1) + 1) c9)) (by rfl) rfl ?_ ?_
        ·go_simp
        refine hK.out _ _ ?_
        clear hK K
        refine done_ (by as_aux_lemma => kernel_rfl) ?_
        obtain ⟨w9, hW9⟩ : ∃ W9, W9 = wn.setCell ⟨b3, 3, none⟩ (.slice A9 ((m + 1) + 1) c9) := ⟨_, rfl⟩
        have hz5 := HZ.out
        replace B0 : Aside0 (Blk w9 b0 32 [.int .i64 k, .bool e, .string t, .slice (some ax) n c1]) := ⟨by rw [hW9]; exact (Below.heap_setCell _ _ _ _ (by show b0 ≠ b3; omega)).trans B0.out⟩
        replace B1 : Aside0 (Blk w9 b1 32 [.int .i64 sk, .bool se, .string st, .slice A3 sl.length c3]) := ⟨by rw [hW9]; exact (Below.heap_setCell _ _ _ _ (by show b1 ≠ b3; omega)).trans B1.out⟩
        replace B2 : Aside0 (Blk w9 b2 32 [.int .i64 0, .bool false, .string ⟨#[]⟩, .slice none 0 0]) := ⟨by rw [hW9]; exact (Below.heap_setCell _ _ _ _ (by show b2 ≠ b3; omega)).trans B2.out⟩
        replace HO : Aside0 (Own w9 w.heap.size (fun k => b3 < k) (.slice A9 ((m + 1) + 1) c9) ((P ++ [z]) ++ [x])) := ⟨by rw [hW9]; exact HO.out.set B3.out (by decide) 3 _⟩
        replace HB : Aside0 (Below w.heap.size w w9) := ⟨by rw [hW9]; exact HB.out.setCell (p := ⟨b3, 3, none⟩) (by show w.heap.size ≤ b3; omega) _⟩
        replace B3 : Aside0 (Blk w9 b3 32 [.int .i64 3, .bool false, .string ⟨#[]⟩, .slice A9 ((m + 1) + 1) c9]) := ⟨by rw [hW9]; exact blk_put (cs := #[.int .i64 3, .bool false, .string ⟨#[]⟩, .slice A8 (m + 1) c8]) B3.out 3 _ rfl⟩
        rw [← hW9]
        clear hW9 hz5 x03 y03 hHeld
        go_wp2_with fail

        go_roundw
        case rel => exact ⟨j + 1, true, (P ++ [z] ++ [x]), (m + 1 + 1), A9, c9, by omega, rfl, by go_num, by omega, ⟨HPL.out, by have h1 := HP.out.2.1; rw [restG_step HX.out] at h1; simpa [hx, hneg] using h1, fun h => by cases h⟩, B0, B1, B2, B3, HO, HB⟩
        case measure => simp [intOf]; omega
   ·obtain rfl : j = n + 1 := by omega
    obtain ⟨y0, y1, y2, y3⟩ := cells4 B2.out
    have z0 := B2.out.frozen 0
    have z1 := B2.out.frozen 1
    have z2 := B2.out.frozen 2
    have z3 := B2.out.frozen 3
    obtain ⟨x0, x1, x2, x3⟩ := cells4 B3.out
    have HO4 : Aside0 (Own wr w.heap.size (fun k => b3 < k) (.slice A7 m c7) (grafL z l false)) := ⟨by
     have h1 := HP.out.2.1
     rw [restG_end (by have := HNL.out; omega), List.append_nil] at h1
     rw [← h1]; exact HO.out⟩
    have q0 : ¬ ((n : Int) + 1 ≤ (n : Int)) := by omega
    clear HO
    go_wp2_with fail
    have HF := below_put4 (b := b2) (c0 := .int .i64 3) (c1 := .bool false) (c2 := .string ⟨#[]⟩) (c3 := .slice A7 m c7) HB.out HZ.out.2.2.1
    have HG := put4_blk (c0 := .int .i64 3) (c1 := .bool false) (c2 := .string ⟨#[]⟩) (c3 := .slice A7 m c7) B2.out
    have HH := put4_own (c0 := .int .i64 3) (c1 := .bool false) (c2 := .string ⟨#[]⟩) (c3 := .slice A7 m c7) HO4.out B2.out
    obtain ⟨g0, g1, g2, g3⟩ := cells4 HG
    exact bodyPost_ret (v := .agg #[.int .i64 3, .bool false, .string ⟨#[]⟩, .slice A7 m c7]) (by simp [results, Tryd.results50, go_sem, g0, g1, g2, g3]) rfl ⟨_, rfl, HH.mono (fun k hk => by have := HZ.out; show w.heap.size ≤ k; omega), HF⟩
end Go.Proofs.YtnemeeidomceiaaDoor
