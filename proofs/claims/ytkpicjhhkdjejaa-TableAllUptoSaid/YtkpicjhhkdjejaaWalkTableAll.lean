import Derived.Test.YtkpicjhhkdjejaaIterState
set_option linter.unusedVariables false
set_option linter.unusedSimpArgs false
namespace Go.Proofs.Ytkpicjhhkdjejaa
open Go.RowKit Go.Proofs.YtkpicjhhkdjejaaW.PrintWords Go.Proofs.YtkpicjhhkdjejaaW.PrintLast Go.Proofs.YtkpicjhhkdjejaaW.PrintMore Go.Proofs.Ytkpicjhhkdjejaa.Tb Go.Proofs.Ytkpicjhhkdjejaa.PTablePlays
attribute [local go_sem] Oper.semAt_some
theorem exB3 (p : Prop) : ∃ b : Bool, b = true ↔ p := by classical exact ⟨decide p, by simp⟩
theorem all_value (t : Nat) (w : World) : Calls Try.prog 18 #[.pointer (some ⟨t, 0, none⟩)] w fun e w' => e = .returned (.func (.func 39) #[] #[.pointer (some ⟨w.heap.size, 0, none⟩)]) ∧ w' = w.alloc (.cells #[.pointer (some ⟨t, 0, none⟩)] 23) := by
  go_enter Try.func18, Try.ntmps18
  go_wp2
  go_ret
  exact ⟨rfl, rfl⟩
set_option maxHeartbeats 4000000 in
set_option maxRecDepth 1000000 in
theorem tableAll_walk (a0 : List ByteArray) (a1 : ByteArray) (W : World) {v0 : Value}
    (w0 : (∃ A c, v0 = .slice A a0.length c ∧ a0.length ≤ c ∧ Kd.C Kd.string W A a0.length a0) ∧ a0.length ≤ 1048576) (_w1 : a1.size ≤ 1048576) :
    Calls Try.prog 4 #[v0, .string a1] W fun e W' => e = .returned (.bool true) ∧ Below W.heap.size W W' := by
  obtain ⟨⟨A0, c0, rfl, hc0, hC0⟩, hl0⟩ := w0
  have HC0 := Aside0.mk hC0
  clear hC0 _w1
  have h99 : 1 ≤ 9 := by decide
  refine (callsIn_wide (n := 9)).1 ?_
  refine callsIn_of_wp_marks Try.func4 rfl trivial ?_ rfl
  simp only [Try.ntmps4, List.size_toArray, List.length_cons, List.length_nil, Nat.reduceAdd, Nat.reduceSub, Array.replicate_succ, Array.replicate_zero, List.push_toArray, List.append_toArray, List.nil_append, List.cons_append]
  gi_wp2_with fail
  obtain ⟨W1, hW1⟩ : ∃ W1, W1 = W.alloc (.cells #[.bool false] 4) := ⟨_, rfl⟩
  rw [← hW1]
  have HG : Aside0 (Boxed W1 W.heap.size 4 (.bool false)) := ⟨by rw [hW1]; exact Boxed.new _ _ _⟩
  have HBW : Aside0 (Below W.heap.size W W1) := ⟨by rw [hW1]; exact below_alloc0 _ _⟩
  clear hW1
  obtain ⟨g, hg⟩ : ∃ g, g = W.heap.size := ⟨_, rfl⟩
  rw [← hg] at HG ⊢
  have HGW := Aside0.mk hg
  clear hg
  refine ⟨trivial, ?_⟩
  (with_reducible refine (callsIn_wide.2 (new_SI W1)).mono ?_)
  rintro e w1 ⟨rfl, hT, hB⟩
  have HO : Aside0 (OSt W1 w1 0 W1.heap.size [] [] (.slice none 0 0)) := ⟨⟨hB, hT, Kd.R_nil _ _ _ _ _, List.Perm.refl _, Nat.le_refl _⟩⟩
  obtain ⟨t, ht⟩ : ∃ t, t = W1.heap.size := ⟨_, rfl⟩
  rw [← ht] at HO ⊢
  clear ht hT hB
  gi_wp2_with fail
  refine ⟨trivial, ?_⟩
  (with_reducible refine (callsIn_wide.2 (one_put HO.out ⟨#[112, 114, 111, 98, 101]⟩ 7 (by omega) true (by simp [has]))).mono ?_)
  rintro e w2 ⟨rfl, HT, HR, HB⟩
  rw [put_p] at HT
  have hcutp : ∀ w2, Below W1.heap.size W1 w2 → TabSI w2 W1.heap.size (fun k => W1.heap.size ≤ k) t [(⟨#[112, 114, 111, 98, 101]⟩, 7)] → Calls Try.prog 10 #[.pointer (some ⟨t, 0, none⟩), .string ⟨#[112, 114, 111, 98, 101]⟩] w2 fun e w' => e = .returned (.bool true) ∧ Aside0 (OSt W1 w' 0 t [] [] (.slice none 0 0)) := by
    intro w2 hb hT
    refine (cut_SI w2 W1.heap.size t _ _ ⟨#[112, 114, 111, 98, 101]⟩ hT.typed (by simp) true (by simp [has])).mono ?_
    rintro e w' ⟨he, hT', hU⟩
    rw [cut_p] at hT'
    exact ⟨he, ⟨⟨hb.trans (hU.below (fun k hk => hk.1.1) hb.size), hT'.mono (fun k hk => hk.elim (fun h2 => h2.1.1) (fun h2 => Nat.le_trans hb.size h2)), Kd.R_nil _ _ _ _ _, List.Perm.refl _, Nat.le_refl _⟩⟩⟩
  have HCP := Aside0.mk (hcutp w2 HB.out HT.out)
  clear hcutp HT HR HB HO
  gi_wp2_with fail
  refine ⟨trivial, ?_⟩
  (with_reducible refine (callsIn_wide.2 HCP.out).mono ?_)
  clear HCP
  rintro e w3 ⟨rfl, HO⟩
  gi_wp2_with fail
  gi_loopw [6, 30] (fun v6 v33 wr => ∃ (j : Nat) (m : List (ByteArray × Int)) (l : List Pr), j ≤ a0.length ∧ v33 = .int .i64 j ∧ Aside0 (OSt W1 wr j t m l v6)) (fun _ v _ => a0.length - (intOf v).toNat)
  case atStart => exact ⟨0, [], [], Nat.zero_le _, rfl, HO⟩
  case round =>
    clear HO
    obtain ⟨j, m, l, hj, rfl, HO⟩ := hrel
    by_cases hlt : j < a0.length
    · obtain ⟨ad, hA, hx⟩ := Kd.at_string (Kd.C_below HC0.out (HBW.out.trans (HO.out.below.mono HBW.out.size))) (j : Int) (by omega) (by omega)
      cases hA
      simp only [Int.toNat_natCast] at hx
      have p0 : (0 : Int) ≤ (j : Int) := by omega
      have p1 : (j : Int) < (a0.length : Int) := by omega
      generalize rdOf ByteArray.empty a0 (j : Int) = x at hx
      gi_wp2_with fail
      obtain ⟨b, hb⟩ := exB3 (¬ has m x)
      have HBB := Aside0.mk hb
      clear hb hx
      refine ⟨trivial, ?_⟩
      (with_reducible refine (callsIn_wide.2 (one_put HO.out x j (by omega) b HBB.out)).mono ?_)
      rintro e w6 ⟨rfl, HT6, HR6, HB6⟩
      clear HBB
      have HO' := HO
      clear HO
      obtain ⟨A6, c6, hv6⟩ := Kd.R_slice HR6.out
      subst hv6
      gi_wp2_with fail
      refine ⟨trivial, ?_⟩
      (with_reducible refine (callsIn_wide.2 (one_refput HR6.out x j (by have := HO'.out.len; omega) rfl)).mono ?_)
      rintro e w7 ⟨A7, c7, rfl, HR7, HB7⟩
      have HO7 := Aside0.mk (HO'.out.put_ HT6.out HB6.out HB7.out HR7.out)
      clear HT6 HR6 HB6 HR7 HB7 HO'
      gi_wp2_with fail
      go_roundw
      case rel => exact ⟨j + 1, _, _, by omega, by go_num, HO7⟩
      case measure => simp [intOf]; omega
    · obtain rfl : j = a0.length := by omega
      clear hlt hj
      gi_wp2_with fail
      refine ⟨trivial, ?_⟩
      (with_reducible refine (callsIn_wide.2 (all_value t wr)).mono ?_)
      rintro e w4 ⟨rfl, hw4⟩
      have HO4 : Aside0 (OSt W1 w4 a0.length t m l u6) := ⟨by rw [hw4]; exact HO.out.step_ (below_alloc0 _ _)⟩
      have HBt : Aside0 (Boxed w4 wr.heap.size 23 (.pointer (some ⟨t, 0, none⟩))) := ⟨by rw [hw4]; exact Boxed.new _ _ _⟩
      clear hw4 HO
      obtain ⟨bt, hbt⟩ : ∃ bt, bt = wr.heap.size := ⟨_, rfl⟩
      rw [← hbt] at HBt ⊢
      clear hbt
      have HM4 : Aside0 (MarkAt none w4) := ⟨fun d hd => by cases hd⟩
      obtain ⟨A9, c9, hv9⟩ := Kd.R_slice HO4.out.row
      subst hv9
      gi_wp2_with fail
      refine wpIn_loop_rounds 3 ?_
      rw [roundsIn_succ]
      gi_wp2_with fail
      obtain ⟨w5, hw5⟩ : ∃ w5, w5 = w4.alloc (.cells #[.int .i64 0] 3) := ⟨_, rfl⟩
      rw [← hw5]
      have HO5 : Aside0 (OSt W1 w5 (a0.length + 0) t m l (.slice A9 l.length c9)) := ⟨by rw [hw5]; exact HO4.out.step_ (below_alloc0 _ _)⟩
      have HB5 : Aside0 (Below w4.heap.size w4 w5) := ⟨by rw [hw5]; exact below_alloc0 _ _⟩
      have HS5 : Aside0 (Boxed w5 w4.heap.size 3 (.int .i64 0)) := ⟨by rw [hw5]; exact Boxed.new _ _ _⟩
      have HTB5 : Aside0 (TabSI w5 W1.heap.size (fun k => W1.heap.size ≤ k ∧ k < w4.heap.size) t m) := ⟨(HO4.out.tab.bound.keep (S := fun _ => False) (Upd.of_below HB5.out) (fun _ _ h => h)).mono (fun k hk => ⟨hk.1, hk.2.2⟩)⟩
      have HbW : Aside0 (W1.heap.size ≤ w4.heap.size) := ⟨HO4.out.below.size⟩
      clear hw5
      obtain ⟨bs, hbs⟩ : ∃ bs, bs = w4.heap.size := ⟨_, rfl⟩
      rw [← hbs] at HS5 HTB5 HbW ⊢
      clear hbs
      refine ⟨trivial, ?_⟩
      have hr := Kd.R_reads' HO5.out.row
      (with_reducible refine (callsIn_wide.2 (sortedR_ hr.2.2 hr.2.1 (HO5.out.same (by omega)))).mono ?_)
      clear hr
      rintro e w6 ⟨A6, c6, rfl, HR6, HB6⟩
      gi_wp2_with fail
      obtain ⟨L, hL⟩ : ∃ L, L = w6.alloc (.cells #[.slice A6 m.length c6] 27) := ⟨_, rfl⟩
      rw [← hL]
      have HB7 : Aside0 (Below w5.heap.size w5 L) := ⟨below_two HB6.out (by rw [hL]; exact below_alloc0 _ _)⟩
      have HRL : Aside0 (Kd.R k40 40 L w5.heap.size (fun _ => True) (.slice A6 m.length c6) (m.map ofP)) := ⟨by rw [hL]; exact Kd.R_below HR6.out (below_alloc0 _ _)⟩
      have HOL := Aside0.mk (HO5.out.step_ HB7.out)
      have HSL : Aside0 (Boxed L bs 3 (.int .i64 0)) := ⟨(HB7.out.block _ HS5.out.lt).trans HS5.out⟩
      have HDL : Aside0 (Boxed L w6.heap.size 27 (.slice A6 m.length c6)) := ⟨by rw [hL]; exact Boxed.new _ _ _⟩
      have HTL : Aside0 (Boxed L bt 23 (.pointer (some ⟨t, 0, none⟩))) := ⟨((below_two HB5.out HB7.out).block _ HBt.out.lt).trans HBt.out⟩
      have HTB : Aside0 (TabSI L W1.heap.size (fun k => W1.heap.size ≤ k ∧ k < bs) t m) := ⟨HTB5.out.keep (S := fun _ => False) (Upd.of_below HB7.out) (fun _ _ h => h)⟩
      have HML : Aside0 (MarkAt none L) := ⟨(HM4.out.below HB5.out).below HB7.out⟩
      obtain ⟨bo, hbo⟩ : ∃ bo, bo = w6.heap.size := ⟨_, rfl⟩
      rw [← hbo] at HDL ⊢
      clear hL hbo HR6 HB6 HB5 HS5 HO5 HO4 HTB5 HM4 HBt
      have HTT : Aside0 (∃ kv vv, L.heap[t]? = some (.cells #[kv, vv] 64 (0, 0))) := ⟨by obtain ⟨kv, vv, ht, _⟩ := HOL.out.tab; exact ⟨kv, vv, ht⟩⟩
      have htl : t < L.heap.size := by obtain ⟨kv, vv, ht⟩ := HTT.out; exact blk_lt ht
      have hts : bs ≠ t := fun e => by
        obtain ⟨kv, vv, ht⟩ := HTT.out
        have := HSL.out
        subst e
        unfold Boxed at this
        rw [ht] at this
        injection this with this
        injection this with _ h2
        exact absurd h2 (by decide)
      have hso : bs ≠ bo := fun e => by
        have h1 := HSL.out
        have h2 := HDL.out
        subst e
        unfold Boxed at h1 h2
        rw [h1] at h2
        injection h2 with h2
        injection h2 with _ h2
        exact absurd h2 (by decide)
      have HGL : Aside0 (Boxed L g 4 (.bool false)) := ⟨(HOL.out.below.block _ HG.out.lt).trans HG.out⟩
      have hsg : bs ≠ g := fun e => by
        have h1 := HSL.out
        have h2 := HGL.out
        subst e
        unfold Boxed at h1 h2
        rw [h1] at h2
        injection h2 with h2
        injection h2 with _ h2
        exact absurd h2 (by decide)
      have hml : m.length ≤ 1048577 := by have := HOL.out.mlen; omega
      refine' wpIn_rangeFunc_ownG rfl h99 (gf := 39) (lb := #[.pointer (some ⟨bt, 0, none⟩)]) rfl trivial (enters_of Try.func39 (by kernel_rfl) rfl)
        (all_stops 8 t bt W1.heap.size _ m L HOL.out.tab HTL.out.cell HTL.out.lt (by omega)) (fun h k => h.trans k) (fun X l o o' hl h ho _ => KpT.putObj htl X l o o' hl h ho) (Below.refl _ _) (fun _ => rfl)
        (fun pre X => pre <+: m ∧ Boxed X bs 3 (.int .i64 (pre.length : Nat)) ∧ Upd (fun k => k = bs) L X)
        (fun _ pre _ => ¬ (pre <+: m))
        (OwnFrom.and (ownFrom_pure _ _) (OwnFrom.and (Own.from (boxed_own bs 3 (fun pre : List (ByteArray × Int) => .int .i64 (pre.length : Nat))) _) (upd_own _ _)))
        (fun c => ownFrom_pure _ _) ⟨List.nil_prefix, HSL.out, Upd.refl _ _⟩ _ ?assign0 ?body0 ?done0 ?stop0
      case assign0 =>
        intro l x X K hK
        gi_wp2
        exact hK
      case body0 =>
        rintro l0 pre x X ⟨hpre, hbs, hU⟩ hlen
        obtain ⟨p, hp⟩ : ∃ p, m[pre.length]? = some p := ⟨_, List.getElem?_eq_getElem hlen⟩
        have hbo : Boxed X bo 27 (.slice A6 m.length c6) := (hU.block bo HDL.out.lt (fun e => hso e.symm)).trans HDL.out
        have hR := row_far HRL.out hU (fun k hk cells e => by
          subst hk
          have h1 := HSL.out
          unfold Boxed at h1
          rw [h1] at e
          injection e with e
          injection e with _ e
          exact absurd e (by decide))
        have hC := (Kd.R_reads' hR).2.2
        obtain ⟨ad, hA, hx0, hx1⟩ := at_T40 hC (pre.length : Int) (by omega) (by rw [List.length_map]; omega)
        have hrp : rd_T40 (m.map ofP) (pre.length : Int) = ofP p := by
          rw [rdP (by rw [List.length_map]; exact hlen)]
          rw [List.getElem_map]
          rw [List.getElem?_eq_getElem hlen] at hp
          rw [Option.some.inj hp]
        rw [hrp] at hx0 hx1
        simp only [Int.toNat_natCast] at hx0 hx1
        replace hx0 : X.cell? (ad.add (pre.length * 2)) = some (.string p.1) := hx0
        replace hx1 : X.cell? ⟨(ad.add (pre.length * 2)).block, (ad.add (pre.length * 2)).off + 1, none⟩ = some (.int .i64 p.2) := hx1
        have c1 := hbs.cell
        have f1 := hbs.frozen
        have c2 := hbo.cell
        have hbg : Boxed X g 4 (.bool false) := (hU.block g HGL.out.lt (fun e => hsg e.symm)).trans HGL.out
        have c3 := hbg.cell
        have f3 := hbg.frozen
        have p0 : (0 : Int) ≤ (pre.length : Int) := by omega
        have p1 : (pre.length : Int) < (m.length : Int) := by omega
        have hsn : pre ++ [x] <+: m ↔ x = p := by
          obtain ⟨rest, rfl⟩ := hpre
          rw [List.prefix_append_right_inj]
          rw [List.getElem?_append_right (Nat.le_refl _), Nat.sub_self] at hp
          match rest, hp with
          | q :: rest, hp =>
            have : q = p := by simpa using hp
            subst this
            constructor
            · intro h
              obtain ⟨z, hz⟩ := h
              injection hz with hz
            · intro h
              subst h
              exact ⟨rest, rfl⟩
        have HX := Aside0.mk (And.intro hsn (And.intro hbs hU))
        have HSZ : Aside0 (bs < L.heap.size) := ⟨HSL.out.lt⟩
        clear hsn hbs hU hbo hR hC hrp hp hbg
        subst hA
        by_cases hk : p.1.toList = x.1.toList
        · have k1 : (p.1.toList == x.1.toList) = true := beq_iff_eq.mpr hk
          have k2 : (p.1.toList != x.1.toList) = false := bne_eq_false_iff_eq.mpr hk
          by_cases hv : p.2 = x.2
          · have v1 : (p.2 == x.2) = true := beq_iff_eq.mpr hv
            have v2 : (p.2 != x.2) = false := bne_eq_false_iff_eq.mpr hv
            gi_wp2
            exact ⟨(KeepsOthers.setCell _ _ _).from _, KpT.of_setCell HSZ.out hts, HX.out.1.2 (Prod.ext (toList_inj hk).symm hv.symm), by rw [List.length_append]; simpa using HX.out.2.1.set _, HX.out.2.2.trans (Upd.setCell (S := fun k => k = bs) (.inl rfl) _) (fun _ h => .inl h)⟩
          · have v1 : (p.2 == x.2) = false := beq_eq_false_iff_ne.mpr hv
            have v2 : (p.2 != x.2) = true := bne_iff_ne.mpr hv
            gi_wp2
            exact ⟨(KeepsOthers.setCell _ _ _).from _, (fun h => hv (by rw [HX.out.1.1 h]) : ¬ (pre ++ [x] <+: m))⟩
        · have k1 : (p.1.toList == x.1.toList) = false := beq_eq_false_iff_ne.mpr hk
          have k2 : (p.1.toList != x.1.toList) = true := bne_iff_ne.mpr hk
          gi_wp2
          exact ⟨(KeepsOthers.setCell _ _ _).from _, (fun h => hk (by rw [HX.out.1.1 h]) : ¬ (pre ++ [x] <+: m))⟩
      case done0 =>
        rintro D xs X hD hxs ⟨_, hbs, hU⟩ hK
        rw [hxs] at hbs
        clear hxs
        have hsS : ∀ k, k = bs → ∀ cells, L.heap[k]? ≠ some (.cells cells 40 (0, 0)) := fun k hk cells e => by
          subst hk
          have h1 := HSL.out
          unfold Boxed at h1
          rw [h1] at e
          injection e with e
          injection e with _ e
          exact absurd e (by decide)
        have HOX : Aside0 (OSt W1 X (a0.length + 0) t m l (.slice A9 l.length c9)) := ⟨⟨HOL.out.below.trans (hU.below (fun k hk => by subst hk; exact HbW.out) HOL.out.below.size), (HTB.out.keep hU (fun k hk e => by subst e; exact Nat.lt_irrefl _ hk.2)).mono (fun k hk => hk.1), row_far HOL.out.row hU hsS, HOL.out.perm, HOL.out.len⟩⟩
        have HBX := Aside0.mk (boxed_upd HTL.out hU (fun e => boxed_ne HSL.out HTL.out (by decide) e.symm))
        have HMX := Aside0.mk (HML.out.upd hU (fun k hk => by subst hk; exact boxed_cells HSL.out))
        have HMD : Aside0 (MarkAt (some D) X) := ⟨fun d hd => by injection hd with hd; rw [← hd]; exact hK⟩
        have HNE : Aside0 (∀ d, none = some d → d ≠ D) := ⟨fun d hd e => by
          have h1 := (Array.getElem?_eq_some_iff.1 (HML.out d hd)).1
          omega⟩
        have HDD : Aside0 (W.heap.size ≤ D) := ⟨Nat.le_trans (Nat.le_trans HBW.out.size HOL.out.below.size) hD⟩
        have c1 := hbs.cell
        have c2 := (boxed_upd HDL.out hU (fun e => hso e.symm)).cell
        clear hbs hU hsS hK hD HOL HTB HML HTL HDL HRL HSL HGL HTT
        gi_wp2_with fail
        obtain ⟨b, hb⟩ := exB3 (¬ has m a1)
        refine ⟨trivial, ?_⟩
        (with_reducible refine (callsIn_wide.2 (one_putU HOX.out a1 0 (by omega) b hb)).mono ?_)
        clear hb c1 c2
        rintro e w8 ⟨rfl, HT8, HR8, HU8, HB8⟩
        have HBY := Aside0.mk (boxed_upd HBX.out HU8.out (fun hs => boxed_notTT HBX.out (by decide) (by decide) (by decide) hs.1))
        have HMY := Aside0.mk (HMX.out.upd HU8.out (fun k hk => hk.1.cells))
        have HMZ := Aside0.mk (HMD.out.upd HU8.out (fun k hk => hk.1.cells))
        clear HBX HMX HMD HU8
        gi_wp2_with fail
        refine ⟨trivial, ?_⟩
        (with_reducible refine (callsIn_wide.2 (one_refput HR8.out a1 0 (by have := HOX.out.len; omega) rfl)).mono ?_)
        rintro e w9 ⟨A10, c10, rfl, HR9, HB9⟩
        have HO9 : Aside0 (OSt W1 w9 (a0.length + 1) t (put slt m a1 0) (dput l a1 0) (.slice A10 (dput l a1 0).length c10)) := ⟨HOX.out.put_ HT8.out HB8.out HB9.out HR9.out⟩
        have HB10 := Aside0.mk (boxed_below HBY.out HB9.out)
        have HM10 := Aside0.mk (HMY.out.below HB9.out)
        have HM11 := Aside0.mk (HMZ.out.below HB9.out)
        clear HT8 HR8 HB8 HR9 HB9 HOX HBY HMY HMZ
        gi_wp2_with fail
        obtain ⟨m, hm⟩ : ∃ m2, m2 = put slt m a1 0 := ⟨_, rfl⟩
        obtain ⟨l, hl⟩ : ∃ l2, l2 = dput l a1 0 := ⟨_, rfl⟩
        rw [← hm, ← hl] at HO9
        rw [← hl]
        obtain ⟨D1, hD1⟩ : ∃ d, d = D := ⟨_, rfl⟩
        rw [← hD1] at HM11 HDD ⊢
        have HDD1 := HDD
        obtain ⟨w4, hw4⟩ : ∃ w4, w4 = w9 := ⟨_, rfl⟩
        rw [← hw4] at HO9 HB10 HM11 ⊢
        obtain ⟨A9, hA9⟩ : ∃ A9, A9 = A10 := ⟨_, rfl⟩
        obtain ⟨c9, hc9⟩ : ∃ c9, c9 = c10 := ⟨_, rfl⟩
        rw [← hA9, ← hc9] at HO9 ⊢
        clear hm hl hD1 hw4 hA9 hc9 HDD HNE HM10 hml htl hts hso hsg HbW
        have HO4 := HO9
        have HBt := HB10
        have HM4 := HM11
        clear HO9 HB10 HM11
        rw [roundsIn_succ]
        gi_wp2_with fail
        obtain ⟨w5, hw5⟩ : ∃ w5, w5 = w4.alloc (.cells #[.int .i64 0] 3) := ⟨_, rfl⟩
        rw [← hw5]
        have HO5 : Aside0 (OSt W1 w5 (a0.length + 1) t m l (.slice A9 l.length c9)) := ⟨by rw [hw5]; exact HO4.out.step_ (below_alloc0 _ _)⟩
        have HB5 : Aside0 (Below w4.heap.size w4 w5) := ⟨by rw [hw5]; exact below_alloc0 _ _⟩
        have HS5 : Aside0 (Boxed w5 w4.heap.size 3 (.int .i64 0)) := ⟨by rw [hw5]; exact Boxed.new _ _ _⟩
        have HTB5 : Aside0 (TabSI w5 W1.heap.size (fun k => W1.heap.size ≤ k ∧ k < w4.heap.size) t m) := ⟨(HO4.out.tab.bound.keep (S := fun _ => False) (Upd.of_below HB5.out) (fun _ _ h => h)).mono (fun k hk => ⟨hk.1, hk.2.2⟩)⟩
        have HbW : Aside0 (W1.heap.size ≤ w4.heap.size) := ⟨HO4.out.below.size⟩
        clear hw5
        obtain ⟨bs, hbs⟩ : ∃ bs, bs = w4.heap.size := ⟨_, rfl⟩
        rw [← hbs] at HS5 HTB5 HbW ⊢
        clear hbs
        refine ⟨trivial, ?_⟩
        have hr := Kd.R_reads' HO5.out.row
        (with_reducible refine (callsIn_wide.2 (sortedR_ hr.2.2 hr.2.1 (HO5.out.same (by omega)))).mono ?_)
        clear hr
        rintro e w6 ⟨A6, c6, rfl, HR6, HB6⟩
        gi_wp2_with fail
        obtain ⟨L, hL⟩ : ∃ L, L = w6.alloc (.cells #[.slice A6 m.length c6] 27) := ⟨_, rfl⟩
        rw [← hL]
        have HB7 : Aside0 (Below w5.heap.size w5 L) := ⟨below_two HB6.out (by rw [hL]; exact below_alloc0 _ _)⟩
        have HRL : Aside0 (Kd.R k40 40 L w5.heap.size (fun _ => True) (.slice A6 m.length c6) (m.map ofP)) := ⟨by rw [hL]; exact Kd.R_below HR6.out (below_alloc0 _ _)⟩
        have HOL := Aside0.mk (HO5.out.step_ HB7.out)
        have HSL : Aside0 (Boxed L bs 3 (.int .i64 0)) := ⟨(HB7.out.block _ HS5.out.lt).trans HS5.out⟩
        have HDL : Aside0 (Boxed L w6.heap.size 27 (.slice A6 m.length c6)) := ⟨by rw [hL]; exact Boxed.new _ _ _⟩
        have HTL : Aside0 (Boxed L bt 23 (.pointer (some ⟨t, 0, none⟩))) := ⟨((below_two HB5.out HB7.out).block _ HBt.out.lt).trans HBt.out⟩
        have HTB : Aside0 (TabSI L W1.heap.size (fun k => W1.heap.size ≤ k ∧ k < bs) t m) := ⟨HTB5.out.keep (S := fun _ => False) (Upd.of_below HB7.out) (fun _ _ h => h)⟩
        have HML : Aside0 (MarkAt (some D1) L) := ⟨(HM4.out.below HB5.out).below HB7.out⟩
        obtain ⟨bo, hbo⟩ : ∃ bo, bo = w6.heap.size := ⟨_, rfl⟩
        rw [← hbo] at HDL ⊢
        clear hL hbo HR6 HB6 HB5 HS5 HO5 HO4 HTB5 HM4 HBt
        have HTT : Aside0 (∃ kv vv, L.heap[t]? = some (.cells #[kv, vv] 64 (0, 0))) := ⟨by obtain ⟨kv, vv, ht, _⟩ := HOL.out.tab; exact ⟨kv, vv, ht⟩⟩
        have htl : t < L.heap.size := by obtain ⟨kv, vv, ht⟩ := HTT.out; exact blk_lt ht
        have hts : bs ≠ t := fun e => by
          obtain ⟨kv, vv, ht⟩ := HTT.out
          have := HSL.out
          subst e
          unfold Boxed at this
          rw [ht] at this
          injection this with this
          injection this with _ h2
          exact absurd h2 (by decide)
        have hso : bs ≠ bo := fun e => by
          have h1 := HSL.out
          have h2 := HDL.out
          subst e
          unfold Boxed at h1 h2
          rw [h1] at h2
          injection h2 with h2
          injection h2 with _ h2
          exact absurd h2 (by decide)
        have HGL : Aside0 (Boxed L g 4 (.bool false)) := ⟨(HOL.out.below.block _ HG.out.lt).trans HG.out⟩
        have hsg : bs ≠ g := fun e => by
          have h1 := HSL.out
          have h2 := HGL.out
          subst e
          unfold Boxed at h1 h2
          rw [h1] at h2
          injection h2 with h2
          injection h2 with _ h2
          exact absurd h2 (by decide)
        have hml : m.length ≤ 1048577 := by have := HOL.out.mlen; omega
        refine' wpIn_rangeFunc_ownG rfl h99 (gf := 39) (lb := #[.pointer (some ⟨bt, 0, none⟩)]) rfl trivial (enters_of Try.func39 (by kernel_rfl) rfl)
          (all_stops 8 t bt W1.heap.size _ m L HOL.out.tab HTL.out.cell HTL.out.lt (by omega)) (fun h k => h.trans k) (fun X l o o' hl h ho _ => KpT.putObj htl X l o o' hl h ho) (Below.refl _ _) (fun _ => rfl)
          (fun pre X => pre <+: m ∧ Boxed X bs 3 (.int .i64 (pre.length : Nat)) ∧ Upd (fun k => k = bs) L X)
          (fun _ pre _ => ¬ (pre <+: m))
          (OwnFrom.and (ownFrom_pure _ _) (OwnFrom.and (Own.from (boxed_own bs 3 (fun pre : List (ByteArray × Int) => .int .i64 (pre.length : Nat))) _) (upd_own _ _)))
          (fun c => ownFrom_pure _ _) ⟨List.nil_prefix, HSL.out, Upd.refl _ _⟩ _ ?assign1 ?body1 ?done1 ?stop1
        case assign1 =>
          intro l x X K hK
          gi_wp2
          exact hK
        case body1 =>
          rintro l0 pre x X ⟨hpre, hbs, hU⟩ hlen
          obtain ⟨p, hp⟩ : ∃ p, m[pre.length]? = some p := ⟨_, List.getElem?_eq_getElem hlen⟩
          have hbo : Boxed X bo 27 (.slice A6 m.length c6) := (hU.block bo HDL.out.lt (fun e => hso e.symm)).trans HDL.out
          have hR := row_far HRL.out hU (fun k hk cells e => by
            subst hk
            have h1 := HSL.out
            unfold Boxed at h1
            rw [h1] at e
            injection e with e
            injection e with _ e
            exact absurd e (by decide))
          have hC := (Kd.R_reads' hR).2.2
          obtain ⟨ad, hA, hx0, hx1⟩ := at_T40 hC (pre.length : Int) (by omega) (by rw [List.length_map]; omega)
          have hrp : rd_T40 (m.map ofP) (pre.length : Int) = ofP p := by
            rw [rdP (by rw [List.length_map]; exact hlen)]
            rw [List.getElem_map]
            rw [List.getElem?_eq_getElem hlen] at hp
            rw [Option.some.inj hp]
          rw [hrp] at hx0 hx1
          simp only [Int.toNat_natCast] at hx0 hx1
          replace hx0 : X.cell? (ad.add (pre.length * 2)) = some (.string p.1) := hx0
          replace hx1 : X.cell? ⟨(ad.add (pre.length * 2)).block, (ad.add (pre.length * 2)).off + 1, none⟩ = some (.int .i64 p.2) := hx1
          have c1 := hbs.cell
          have f1 := hbs.frozen
          have c2 := hbo.cell
          have hbg : Boxed X g 4 (.bool false) := (hU.block g HGL.out.lt (fun e => hsg e.symm)).trans HGL.out
          have c3 := hbg.cell
          have f3 := hbg.frozen
          have p0 : (0 : Int) ≤ (pre.length : Int) := by omega
          have p1 : (pre.length : Int) < (m.length : Int) := by omega
          have hsn : pre ++ [x] <+: m ↔ x = p := by
            obtain ⟨rest, rfl⟩ := hpre
            rw [List.prefix_append_right_inj]
            rw [List.getElem?_append_right (Nat.le_refl _), Nat.sub_self] at hp
            match rest, hp with
            | q :: rest, hp =>
              have : q = p := by simpa using hp
              subst this
              constructor
              · intro h
                obtain ⟨z, hz⟩ := h
                injection hz with hz
              · intro h
                subst h
                exact ⟨rest, rfl⟩
          have HX := Aside0.mk (And.intro hsn (And.intro hbs hU))
          have HSZ : Aside0 (bs < L.heap.size) := ⟨HSL.out.lt⟩
          clear hsn hbs hU hbo hR hC hrp hp hbg
          subst hA
          by_cases hk : p.1.toList = x.1.toList
          · have k1 : (p.1.toList == x.1.toList) = true := beq_iff_eq.mpr hk
            have k2 : (p.1.toList != x.1.toList) = false := bne_eq_false_iff_eq.mpr hk
            by_cases hv : p.2 = x.2
            · have v1 : (p.2 == x.2) = true := beq_iff_eq.mpr hv
              have v2 : (p.2 != x.2) = false := bne_eq_false_iff_eq.mpr hv
              gi_wp2
              exact ⟨(KeepsOthers.setCell _ _ _).from _, KpT.of_setCell HSZ.out hts, HX.out.1.2 (Prod.ext (toList_inj hk).symm hv.symm), by rw [List.length_append]; simpa using HX.out.2.1.set _, HX.out.2.2.trans (Upd.setCell (S := fun k => k = bs) (.inl rfl) _) (fun _ h => .inl h)⟩
            · have v1 : (p.2 == x.2) = false := beq_eq_false_iff_ne.mpr hv
              have v2 : (p.2 != x.2) = true := bne_iff_ne.mpr hv
              gi_wp2
              exact ⟨(KeepsOthers.setCell _ _ _).from _, (fun h => hv (by rw [HX.out.1.1 h]) : ¬ (pre ++ [x] <+: m))⟩
          · have k1 : (p.1.toList == x.1.toList) = false := beq_eq_false_iff_ne.mpr hk
            have k2 : (p.1.toList != x.1.toList) = true := bne_iff_ne.mpr hk
            gi_wp2
            exact ⟨(KeepsOthers.setCell _ _ _).from _, (fun h => hk (by rw [HX.out.1.1 h]) : ¬ (pre ++ [x] <+: m))⟩
        case done1 =>
          rintro D xs X hD hxs ⟨_, hbs, hU⟩ hK
          rw [hxs] at hbs
          clear hxs
          have hsS : ∀ k, k = bs → ∀ cells, L.heap[k]? ≠ some (.cells cells 40 (0, 0)) := fun k hk cells e => by
            subst hk
            have h1 := HSL.out
            unfold Boxed at h1
            rw [h1] at e
            injection e with e
            injection e with _ e
            exact absurd e (by decide)
          have HOX : Aside0 (OSt W1 X (a0.length + 1) t m l (.slice A9 l.length c9)) := ⟨⟨HOL.out.below.trans (hU.below (fun k hk => by subst hk; exact HbW.out) HOL.out.below.size), (HTB.out.keep hU (fun k hk e => by subst e; exact Nat.lt_irrefl _ hk.2)).mono (fun k hk => hk.1), row_far HOL.out.row hU hsS, HOL.out.perm, HOL.out.len⟩⟩
          have HBX := Aside0.mk (boxed_upd HTL.out hU (fun e => boxed_ne HSL.out HTL.out (by decide) e.symm))
          have HMX := Aside0.mk (HML.out.upd hU (fun k hk => by subst hk; exact boxed_cells HSL.out))
          have HMD : Aside0 (MarkAt (some D) X) := ⟨fun d hd => by injection hd with hd; rw [← hd]; exact hK⟩
          have HNE : Aside0 (∀ d, (some D1) = some d → d ≠ D) := ⟨fun d hd e => by
            have h1 := (Array.getElem?_eq_some_iff.1 (HML.out d hd)).1
            omega⟩
          have HDD : Aside0 (W.heap.size ≤ D) := ⟨Nat.le_trans (Nat.le_trans HBW.out.size HOL.out.below.size) hD⟩
          have c1 := hbs.cell
          have c2 := (boxed_upd HDL.out hU (fun e => hso e.symm)).cell
          clear hbs hU hsS hK hD HOL HTB HML HTL HDL HRL HSL HGL HTT
          gi_wp2_with fail
          obtain ⟨b, hb⟩ := exB3 (¬ has m a1)
          refine ⟨trivial, ?_⟩
          (with_reducible refine (callsIn_wide.2 (one_putU HOX.out a1 (-1) (by omega) b hb)).mono ?_)
          clear hb c1 c2
          rintro e w8 ⟨rfl, HT8, HR8, HU8, HB8⟩
          have HBY := Aside0.mk (boxed_upd HBX.out HU8.out (fun hs => boxed_notTT HBX.out (by decide) (by decide) (by decide) hs.1))
          have HMY := Aside0.mk (HMX.out.upd HU8.out (fun k hk => hk.1.cells))
          have HMZ := Aside0.mk (HMD.out.upd HU8.out (fun k hk => hk.1.cells))
          clear HBX HMX HMD HU8
          gi_wp2_with fail
          refine ⟨trivial, ?_⟩
          (with_reducible refine (callsIn_wide.2 (one_refput HR8.out a1 (-1) (by have := HOX.out.len; omega) rfl)).mono ?_)
          rintro e w9 ⟨A10, c10, rfl, HR9, HB9⟩
          have HO9 : Aside0 (OSt W1 w9 (a0.length + 2) t (put slt m a1 (-1)) (dput l a1 (-1)) (.slice A10 (dput l a1 (-1)).length c10)) := ⟨HOX.out.put_ HT8.out HB8.out HB9.out HR9.out⟩
          have HB10 := Aside0.mk (boxed_below HBY.out HB9.out)
          have HM10 := Aside0.mk (HMY.out.below HB9.out)
          have HM11 := Aside0.mk (HMZ.out.below HB9.out)
          clear HT8 HR8 HB8 HR9 HB9 HOX HBY HMY HMZ
          gi_wp2_with fail
          rw [roundsIn_succ]
          have HG9 : Aside0 (Boxed w9 g 4 (.bool false)) := ⟨(HO9.out.below.block _ HG.out.lt).trans HG.out⟩
          have c3 := HG9.out.cell
          have f3 := HG9.out.frozen
          gi_wp2
          have hK2 := (HM11.out.upd (Upd.setCell (S := fun k => k = g) (p := ⟨g, 0, none⟩) (.inl rfl) (.bool true)) (fun k hk => by subst hk; exact boxed_cells HG9.out)) D rfl
          have hK1 := (HM10.out.upd (Upd.setCell (S := fun k => k = g) (p := ⟨g, 0, none⟩) (.inl rfl) (.bool true)) (fun k hk => by subst hk; exact boxed_cells HG9.out)) D1 rfl
          have hg1 := HG9.out.set (.bool true)
          have hgD : g ≠ D := fun e => by
            subst e
            unfold Boxed at hg1
            rw [hg1] at hK2
            injection hK2 with h
            cases h
          have hgD1 : g ≠ D1 := fun e => by
            subst e
            unfold Boxed at hg1
            rw [hg1] at hK1
            injection hK1 with h
            cases h
          have hK1' := ((grownBy_putObj' (w9.setCell ⟨g, 0, none⟩ (.bool true)) D (.deferred none)).block D1 (Array.getElem?_eq_some_iff.1 hK1).1 (fun e => by injection e with e; exact HNE.out D1 rfl e)).trans hK1
          have hg2 := hg1.kept (grownBy_putObj' _ D (.deferred none)) (fun e => by injection e with e; exact hgD e)
          have hg3 := hg2.kept (grownBy_putObj' _ D1 (.deferred none)) (fun e => by injection e with e; exact hgD1 e)
          have hb1 : Below W.heap.size W (w9.setCell ⟨g, 0, none⟩ (.bool true)) := (HBW.out.trans (HO9.out.below.mono HBW.out.size)).setCell (p := ⟨g, 0, none⟩) (Nat.le_of_eq HGW.out.symm) _
          have hb2 := hb1.grown (grownBy_putObj' _ D (.deferred none)) hb1.size (fun k hk => by injection hk with hk; rw [← hk]; exact HDD.out)
          have hb3 := hb2.grown (grownBy_putObj' _ D1 (.deferred none)) hb2.size (fun k hk => by injection hk with hk; rw [← hk]; exact HDD1.out)
          refine ⟨by simp, .inl ⟨_, _, rfl, run_takeDeferred hK2, ?_⟩⟩
          refine ⟨by simp, .inl ⟨_, _, rfl, run_takeDeferred hK1', ?_⟩⟩
          have hc := hg3.cell
          refine ⟨.bool true, ?_, rfl, hb3⟩
          simp [results, Try.f4, go_sem, hc]
        case stop1 =>
          rintro D c pre X _ hp hn _
          exact absurd hp hn
      case stop0 =>
        rintro D c pre X _ hp hn _
        exact absurd hp hn
end Go.Proofs.Ytkpicjhhkdjejaa
