import Derived.Test.YtkpicjhhkdjejaaWalksState
set_option linter.unusedVariables false
set_option linter.unusedSimpArgs false
namespace Go.Proofs.Ytkpicjhhkdjejaa
open Go.RowKit Go.Proofs.YtkpicjhhkdjejaaW.PrintWords Go.Proofs.YtkpicjhhkdjejaaW.PrintLast Go.Proofs.YtkpicjhhkdjejaaW.PrintMore Go.Proofs.Ytkpicjhhkdjejaa.Tb Go.Proofs.Ytkpicjhhkdjejaa.PTablePlays
attribute [local go_sem] Oper.semAt_some
def WI (L : World) (bs B q t rr D : Nat) (m : List (ByteArray × Int)) (pre : List (ByteArray × Int)) (X : World) : Prop := (pre <+: m.drop rr ∧ Boxed X bs 3 (.int .i64 (pre.length : Nat))) ∧ (Upd (turned L bs B q) L X ∧ ∃ m', TabSI X B (okI B q D) t m' ∧ m'.length ≤ m.length + pre.length)
def WX (L : World) (bs B q rr : Nat) (a2 : Int) (m : List (ByteArray × Int)) (c : Code) (pre : List (ByteArray × Int)) (X : World) : Prop := (c = .ret ∧ ¬ (pre <+: m.drop rr)) ∨ (c = .exit 2 ∧ (pre.length : Int) = a2 ∧ Boxed X bs 3 (.int .i64 (pre.length : Nat)) ∧ Upd (turned L bs B q) L X)
theorem exB4 (p : Prop) : ∃ b : Bool, b = true ↔ p := by classical exact ⟨decide p, by simp⟩
set_option maxHeartbeats 4000000 in
set_option maxRecDepth 1000000 in
theorem tableWalks_walk (a0 : List ByteArray) (a1 : ByteArray) (a2 : Int) (W : World) {v0 : Value}
    (w0 : ((∃ A c, v0 = .slice A a0.length c ∧ a0.length ≤ c ∧ Kd.C Kd.string W A a0.length a0) ∧ ∀ s ∈ a0, s.size ≤ 140737488351232) ∧ a0.length ≤ 1048576) (_w1 : a1.size ≤ 1048576) (_w2 : (Lit.int .i64 a2).wf = true) :
    Calls Try.prog 5 #[v0, .string a1, .int .i64 a2] W fun e W' => e = .returned (.bool true) ∧ Below W.heap.size W W' := by
  obtain ⟨⟨⟨A0, c0, rfl, hc0, hC0⟩, hs0⟩, hl0⟩ := w0
  have HC0 := Aside0.mk hC0
  have HS0 := Aside0.mk hs0
  clear hC0 hs0 _w1 _w2
  have h99 : 1 ≤ 9 := by decide
  refine (callsIn_wide (n := 9)).1 ?_
  refine callsIn_of_wp_marks Try.func5 rfl trivial ?_ rfl
  simp only [Try.ntmps5, List.size_toArray, List.length_cons, List.length_nil, Nat.reduceAdd, Nat.reduceSub, Array.replicate_succ, Array.replicate_zero, List.push_toArray, List.append_toArray, List.nil_append, List.cons_append]
  gi_wp2_with fail
  obtain ⟨Wa, hWa⟩ : ∃ Wa, Wa = W.alloc (.cells #[.int .i64 a2] 3) := ⟨_, rfl⟩
  obtain ⟨W1, hW1⟩ : ∃ W1, W1 = Wa.alloc (.cells #[.bool false] 4) := ⟨_, rfl⟩
  have hWas : Wa.heap.size = W.heap.size + 1 := by rw [hWa]; simp
  rw [← hWa, ← hW1]
  have HG : Aside0 (Boxed W1 (W.heap.size + 1) 4 (.bool false)) := ⟨by rw [hW1, ← hWas]; exact Boxed.new _ _ _⟩
  have HSP : Aside0 (Boxed W1 W.heap.size 3 (.int .i64 a2)) := ⟨by rw [hW1]; exact boxed_below (by rw [hWa]; exact Boxed.new _ _ _) (below_alloc0 _ _)⟩
  have HBW : Aside0 (Below W.heap.size W W1) := ⟨below_two (b := Wa) (by rw [hWa]; exact below_alloc0 _ _) (by rw [hW1]; exact below_alloc0 _ _)⟩
  clear hW1 hWa hWas
  obtain ⟨g, hg⟩ : ∃ g, g = W.heap.size + 1 := ⟨_, rfl⟩
  rw [← hg] at HG
  try rw [← hg]
  have HGW : Aside0 (W.heap.size ≤ g) := ⟨by omega⟩
  clear hg
  obtain ⟨sp, hsp⟩ : ∃ sp, sp = W.heap.size := ⟨_, rfl⟩
  rw [← hsp] at HSP ⊢
  clear hsp
  refine ⟨trivial, ?_⟩
  (with_reducible refine (callsIn_wide.2 (new_SI W1)).mono ?_)
  rintro e w1 ⟨rfl, hT, hB⟩
  have HO : Aside0 (OSt W1 w1 0 W1.heap.size [] [] (.slice none 0 0)) := ⟨⟨hB, hT, Kd.R_nil _ _ _ _ _, List.Perm.refl _, Nat.le_refl _⟩⟩
  obtain ⟨t, ht⟩ : ∃ t, t = W1.heap.size := ⟨_, rfl⟩
  rw [← ht] at HO ⊢
  clear ht hT hB
  gi_wp2_with fail
  obtain ⟨w2, hw2⟩ : ∃ w2, w2 = w1.alloc (.cells #[.pointer (some ⟨t, 0, none⟩)] 23) := ⟨_, rfl⟩
  rw [← hw2]
  have HO2 : Aside0 (OSt W1 w2 0 t [] [] (.slice none 0 0)) := ⟨by rw [hw2]; exact HO.out.step_ (below_alloc0 _ _)⟩
  have HT7 : Aside0 (Boxed w2 w1.heap.size 23 (.pointer (some ⟨t, 0, none⟩))) := ⟨by rw [hw2]; exact Boxed.new _ _ _⟩
  have Hb7 : Aside0 (W1.heap.size ≤ w1.heap.size) := ⟨HO.out.below.size⟩
  clear hw2 HO
  obtain ⟨b7, hb7⟩ : ∃ b7, b7 = w1.heap.size := ⟨_, rfl⟩
  rw [← hb7] at HT7 Hb7 ⊢
  clear hb7
  refine ⟨trivial, ?_⟩
  (with_reducible refine (callsIn_wide.2 (one_putU HO2.out ⟨#[112, 114, 111, 98, 101]⟩ 7 (by omega) true (by simp [has]))).mono ?_)
  rintro e w3 ⟨rfl, HT, HR, HU, HB⟩
  rw [put_p] at HT
  have HT8 := Aside0.mk (boxed_upd HT7.out HU.out (fun hs => boxed_notTT HT7.out (by decide) (by decide) (by decide) hs.1))
  have c7 := HT8.out.cell
  have hcutp : ∀ w2, Below W1.heap.size W1 w2 → TabSI w2 W1.heap.size (fun k => W1.heap.size ≤ k) t [(⟨#[112, 114, 111, 98, 101]⟩, 7)] → Boxed w2 b7 23 (.pointer (some ⟨t, 0, none⟩)) → Calls Try.prog 10 #[.pointer (some ⟨t, 0, none⟩), .string ⟨#[112, 114, 111, 98, 101]⟩] w2 fun e w' => e = .returned (.bool true) ∧ Aside0 (OSt W1 w' 0 t [] [] (.slice none 0 0)) ∧ Aside0 (Boxed w' b7 23 (.pointer (some ⟨t, 0, none⟩))) := by
    intro w2 hb hT h7
    refine (cut_SI w2 W1.heap.size t _ _ ⟨#[112, 114, 111, 98, 101]⟩ hT.typed (by simp) true (by simp [has])).mono ?_
    rintro e w' ⟨he, hT', hU⟩
    rw [cut_p] at hT'
    exact ⟨he, ⟨⟨hb.trans (hU.below (fun k hk => hk.1.1) hb.size), hT'.mono (fun k hk => hk.elim (fun h2 => h2.1.1) (fun h2 => Nat.le_trans hb.size h2)), Kd.R_nil _ _ _ _ _, List.Perm.refl _, Nat.le_refl _⟩⟩, ⟨boxed_upd h7 hU (fun hs => boxed_notTT h7 (by decide) (by decide) (by decide) hs.2)⟩⟩
  have HCP := Aside0.mk (hcutp w3 HB.out HT.out HT8.out)
  clear hcutp HT HR HB HU HO2 HT7 HT8
  gi_wp2_with fail
  refine ⟨trivial, ?_⟩
  (with_reducible refine (callsIn_wide.2 HCP.out).mono ?_)
  clear HCP c7
  rintro e w4 ⟨rfl, HO, HT7⟩
  gi_wp2_with fail
  gi_loopw [8, 31] (fun v8 v31 wr => ∃ (j : Nat) (m : List (ByteArray × Int)) (l : List Pr), j ≤ a0.length ∧ v31 = .int .i64 j ∧ Aside0 (OSt W1 wr j t m l v8) ∧ Aside0 (∀ p ∈ m, p.1.size ≤ 140737488351232) ∧ Aside0 (Boxed wr b7 23 (.pointer (some ⟨t, 0, none⟩)))) (fun _ v _ => a0.length - (intOf v).toNat)
  case atStart => exact ⟨0, [], [], Nat.zero_le _, rfl, HO, ⟨fun p hp => by cases hp⟩, HT7⟩
  case round =>
    clear HO HT7
    obtain ⟨j, m, l, hj, rfl, HO, HKS, HT7⟩ := hrel
    by_cases hlt : j < a0.length
    · obtain ⟨ad, hA, hx⟩ := Kd.at_string (Kd.C_below HC0.out (HBW.out.trans (HO.out.below.mono HBW.out.size))) (j : Int) (by omega) (by omega)
      cases hA
      simp only [Int.toNat_natCast] at hx
      have p0 : (0 : Int) ≤ (j : Int) := by omega
      have p1 : (j : Int) < (a0.length : Int) := by omega
      have c7 := HT7.out.cell
      have hxm : rdOf ByteArray.empty a0 (j : Int) ∈ a0 := by simp [rdOf, hlt]
      have HXS := Aside0.mk (HS0.out _ hxm)
      clear hxm
      generalize rdOf ByteArray.empty a0 (j : Int) = x at hx HXS
      gi_wp2_with fail
      obtain ⟨b, hb⟩ := exB4 (¬ has m x)
      have HBB := Aside0.mk hb
      clear hb hx
      refine ⟨trivial, ?_⟩
      (with_reducible refine (callsIn_wide.2 (one_putU HO.out x j (by omega) b HBB.out)).mono ?_)
      clear c7
      rintro e w6 ⟨rfl, HT6, HR6, HU6, HB6⟩
      have HT8 := Aside0.mk (boxed_upd HT7.out HU6.out (fun hs => boxed_notTT HT7.out (by decide) (by decide) (by decide) hs.1))
      clear HBB HU6 HT7
      have HO' := HO
      clear HO
      obtain ⟨A6, c6, hv6⟩ := Kd.R_slice HR6.out
      subst hv6
      gi_wp2_with fail
      refine ⟨trivial, ?_⟩
      (with_reducible refine (callsIn_wide.2 (one_refput HR6.out x j (by have := HO'.out.len; omega) rfl)).mono ?_)
      rintro e w7 ⟨A7, c7, rfl, HR7, HB7⟩
      have HO7 := Aside0.mk (HO'.out.put_ HT6.out HB6.out HB7.out HR7.out)
      have HT9 := Aside0.mk (boxed_below HT8.out HB7.out)
      have HKS' : Aside0 (∀ p ∈ put slt m x (j : Int), p.1.size ≤ 140737488351232) := ⟨fun p hp => ((mem_put slt_ord m x (j : Int) p.1 p.2).1 hp).elim (fun h => by rw [h.1]; exact HXS.out) (fun h => HKS.out p h.2)⟩
      clear HT6 HR6 HB6 HR7 HB7 HO' HT8 HKS HXS
      gi_wp2_with fail
      go_roundw
      case rel => exact ⟨j + 1, _, _, by omega, by go_num, HO7, HKS', HT9⟩
      case measure => simp [intOf]; omega
    · obtain rfl : j = a0.length := by omega
      clear hlt hj
      obtain ⟨A9, c9, hv9⟩ := Kd.R_slice HO.out.row
      subst hv9
      have c7 := HT7.out.cell
      gi_wp2_with fail
      have hml : m.length ≤ 1048576 := Nat.le_trans HO.out.mlen hl0
      have hll : l.length ≤ 1048576 := Nat.le_trans HO.out.len hl0
      have HS := Aside0.mk (HO.out.same (by omega))
      refine ⟨trivial, ?_⟩
      have hr := Kd.R_reads' HO.out.row
      (with_reducible refine (callsIn_wide.2 (sortedR_ hr.2.2 hr.2.1 HS.out)).mono ?_)
      clear hr c7
      rintro e w5 ⟨A5, c5, rfl, HR5, HB5⟩
      gi_wp2_with fail
      have HTQ : Aside0 (TabSI wr W1.heap.size (fun k => W1.heap.size ≤ k ∧ k < wr.heap.size) t m) := ⟨HO.out.tab.bound.mono (fun k hk => ⟨hk.1, hk.2.2⟩)⟩
      obtain ⟨w6, hw6⟩ : ∃ w6, w6 = w5.alloc (.cells #[.slice A5 m.length c5] 27) := ⟨_, rfl⟩
      rw [← hw6]
      have HB6 : Aside0 (Below wr.heap.size wr w6) := ⟨below_two HB5.out (by rw [hw6]; exact below_alloc0 _ _)⟩
      have HR6 : Aside0 (Kd.R k40 40 w6 wr.heap.size (fun _ => True) (.slice A5 m.length c5) (m.map ofP)) := ⟨by rw [hw6]; exact Kd.R_below HR5.out (below_alloc0 _ _)⟩
      have HD6 : Aside0 (Boxed w6 w5.heap.size 27 (.slice A5 m.length c5)) := ⟨by rw [hw6]; exact Boxed.new _ _ _⟩
      have H11 : Aside0 (wr.heap.size ≤ w5.heap.size) := ⟨HB5.out.size⟩
      clear hw6
      obtain ⟨b11, hb11⟩ : ∃ b11, b11 = w5.heap.size := ⟨_, rfl⟩
      rw [← hb11] at HD6 H11 ⊢
      clear hb11 HB5 HR5
      have hr := Kd.R_reads' (Kd.R_below HO.out.row HB6.out)
      have hrk := ref_rank l a1 (by omega) (l.length + 1) (by omega)
      rw [rank_ref HS.out.perm a1] at hrk
      refine ⟨trivial, ?_⟩
      (with_reducible refine (callsIn_wide.2 (depotref11_Rank.calls (l.length + 1) A9 c9 l a1 _ w6 hr.2.2 hr.2.1 hrk)).mono ?_)
      clear hr hrk
      rintro e w7 ⟨rfl, hd⟩
      have HB7 := Aside0.mk hd.below
      clear hd
      obtain ⟨rr, hrr⟩ : ∃ rr, rr = rank slt m a1 := ⟨_, rfl⟩
      rw [← hrr]
      have HRR := Aside0.mk hrr
      have hrl : rr ≤ m.length := by rw [hrr]; exact rank_le m a1
      clear hrr
      have HT8 := Aside0.mk (boxed_below (boxed_below HT7.out HB6.out) HB7.out)
      have c7 : ∀ o o2, ((w7.alloc o).alloc o2).cell? ⟨b7, 0, none⟩ = some (.pointer (some ⟨t, 0, none⟩)) := fun o o2 => (boxed_below (boxed_below HT8.out (below_alloc0 _ o)) (below_alloc0 _ o2)).cell
      gi_wp2_with fail
      clear c7
      obtain ⟨w8, hw8⟩ : ∃ w8, w8 = w7.alloc (.cells #[.int .i64 (rr : Int)] 3) := ⟨_, rfl⟩
      obtain ⟨w9, hw9⟩ : ∃ w9, w9 = w8.alloc (.cells #[.int .i64 0] 3) := ⟨_, rfl⟩
      have hs8 : w8.heap.size = w7.heap.size + 1 := by rw [hw8]; simp
      rw [← hw8, ← hw9, ← hs8]
      have HB8 : Aside0 (Below w7.heap.size w7 w8) := ⟨by rw [hw8]; exact below_alloc0 _ _⟩
      have HB9 : Aside0 (Below w8.heap.size w8 w9) := ⟨by rw [hw9]; exact below_alloc0 _ _⟩
      have H12 : Aside0 (Boxed w9 w7.heap.size 3 (.int .i64 (rr : Int))) := ⟨boxed_below (by rw [hw8]; exact Boxed.new _ _ _) HB9.out⟩
      have H13 : Aside0 (Boxed w9 w8.heap.size 3 (.int .i64 0)) := ⟨by rw [hw9]; exact Boxed.new _ _ _⟩
      have hz : wr.heap.size ≤ w7.heap.size ∧ w7.heap.size < w8.heap.size := ⟨Nat.le_trans HB6.out.size HB7.out.size, by omega⟩
      clear hw8 hw9 hs8
      obtain ⟨b12, hb12⟩ : ∃ b12, b12 = w7.heap.size := ⟨_, rfl⟩
      obtain ⟨bs, hbs⟩ : ∃ bs, bs = w8.heap.size := ⟨_, rfl⟩
      rw [← hb12] at H12 hz ⊢
      rw [← hbs] at H13 hz ⊢
      clear hb12 hbs
      refine ⟨trivial, ?_⟩
      (with_reducible refine (callsIn_wide.2 (from_value t a1 w9)).mono ?_)
      rintro e L ⟨rfl, hL⟩
      obtain ⟨wb, hwb⟩ : ∃ wb, wb = w9.alloc (.cells #[.pointer (some ⟨t, 0, none⟩)] 23) := ⟨_, rfl⟩
      rw [← hwb] at hL
      have hsb : wb.heap.size = w9.heap.size + 1 := by rw [hwb]; simp
      have HBa : Aside0 (Below w9.heap.size w9 wb) := ⟨by rw [hwb]; exact below_alloc0 _ _⟩
      have HBb : Aside0 (Below wb.heap.size wb L) := ⟨by rw [hL]; exact below_alloc0 _ _⟩
      have HBt : Aside0 (Boxed L w9.heap.size 23 (.pointer (some ⟨t, 0, none⟩))) := ⟨boxed_below (by rw [hwb]; exact Boxed.new _ _ _) HBb.out⟩
      have HBk : Aside0 (Boxed L wb.heap.size 9 (.string a1)) := ⟨by rw [hL]; exact Boxed.new _ _ _⟩
      rw [← hsb]
      have HL9 : Aside0 (Below w9.heap.size w9 L) := ⟨below_two HBa.out HBb.out⟩
      have HL7 : Aside0 (Below w7.heap.size w7 L) := ⟨below_two (below_two HB8.out HB9.out) HL9.out⟩
      have HL6 : Aside0 (Below w6.heap.size w6 L) := ⟨below_two HB7.out HL7.out⟩
      have HLr : Aside0 (Below wr.heap.size wr L) := ⟨below_two HB6.out HL6.out⟩
      clear hL hwb hsb
      obtain ⟨bt, hbt⟩ : ∃ bt, bt = w9.heap.size := ⟨_, rfl⟩
      obtain ⟨bk, hbk⟩ : ∃ bk, bk = wb.heap.size := ⟨_, rfl⟩
      rw [← hbt] at HBt ⊢
      rw [← hbk] at HBk ⊢
      clear hbt hbk
      have H12L := Aside0.mk (boxed_below H12.out HL9.out)
      have H13L := Aside0.mk (boxed_below H13.out HL9.out)
      have HDL := Aside0.mk (boxed_below HD6.out HL6.out)
      have H7L := Aside0.mk (boxed_below HT8.out HL7.out)
      have HRL := Aside0.mk (Kd.R_below HR6.out HL6.out)
      have HGL : Aside0 (Boxed L g 4 (.bool false)) := ⟨boxed_below ((HO.out.below.block _ HG.out.lt).trans HG.out) HLr.out⟩
      have HSPL : Aside0 (Boxed L sp 3 (.int .i64 a2)) := ⟨boxed_below ((HO.out.below.block _ HSP.out.lt).trans HSP.out) HLr.out⟩
      have HTL : Aside0 (TabSI L W1.heap.size (okI W1.heap.size wr.heap.size L.heap.size) t m) := ⟨(HTQ.out.keep (S := fun _ => False) (Upd.of_below HLr.out) (fun _ _ h => h)).mono (fun k hk => ⟨hk.1, .inl hk.2⟩)⟩
      have HBL : Aside0 (Below W1.heap.size W1 L) := ⟨below_then HO.out.below HO.out.below.size HLr.out⟩
      have hz1 : W1.heap.size ≤ wr.heap.size := HO.out.below.size
      have hz2 : bs < L.heap.size := H13L.out.lt
      have htq : t < wr.heap.size := by obtain ⟨kv, vv, ht, _⟩ := HO.out.tab; exact blk_lt ht
      have hsp1 : sp < W1.heap.size := HSP.out.lt
      have hg1 : g < W1.heap.size := HG.out.lt
      have h11 := H11.out
      clear HO HB6 HB7 HB8 HB9 H12 H13 HBa HBb HL9 HL7 HL6 HLr HD6 HT8 HR6 HTQ HT7 H11
      obtain ⟨q1, hq1⟩ : ∃ q1, q1 = wr.heap.size := ⟨_, rfl⟩
      rw [← hq1] at HTL HRL hz hz1 htq h11
      clear hq1
      have hne11 : bs ≠ b11 := boxed_ne H13L.out HDL.out (by decide)
      have hne7 : bs ≠ b7 := boxed_ne H13L.out H7L.out (by decide)
      have HNT : Aside0 (∀ b, (b < W1.heap.size ∨ q1 ≤ b ∨ ¬ TT L b) → b ≠ bs → ¬ turned L bs W1.heap.size q1 b) := ⟨fun b hb hn h => by
        rcases h with h | ⟨h1, h2, h3⟩
        · exact hn h
        · rcases hb with hb | hb | hb
          · omega
          · omega
          · exact hb h3⟩
      have h7TT := boxed_notTT H7L.out (by decide) (by decide) (by decide)
      gi_wp2_with fail
      refine' wpIn_rangeFunc_ownG rfl h99 (gf := 41) (lb := #[.pointer (some ⟨bt, 0, none⟩), .pointer (some ⟨bk, 0, none⟩)]) rfl trivial (enters_of Try.func41 (by kernel_rfl) rfl)
        (from_stops 8 t bt bk W1.heap.size a1 _ m L HTL.out HBt.out.cell HBt.out.lt HBk.out.cell HBk.out.lt (by omega)) (fun h k => h.trans k) (fun X l o o' hl h ho _ => KpT.putObj (by omega) X l o o' hl h ho) (Below.refl _ _) (fun _ => rfl)
        (WI L bs W1.heap.size q1 t rr L.heap.size m) (WX L bs W1.heap.size q1 rr a2 m)
        (OwnFrom.and (OwnFrom.and (ownFrom_pure _ _) (Own.from (boxed_own bs 3 (fun pre : List (ByteArray × Int) => .int .i64 (pre.length : Nat))) _)) (OwnFrom.and (upd_own _ _) (tab_own W1.heap.size t L.heap.size _ (fun (pre : List (ByteArray × Int)) m' => m'.length ≤ m.length + pre.length))))
        (fun c s X Y row hs hg hr => hs.imp id (fun h => ⟨h.1, h.2.1, (Own.from (boxed_own bs 3 (fun pre : List (ByteArray × Int) => .int .i64 (pre.length : Nat))) _) s X Y row h.2.2.1 hg hr, upd_own _ L s X Y row h.2.2.2 hg hr⟩))
        ⟨⟨List.nil_prefix, H13L.out⟩, Upd.refl _ _, m, HTL.out, Nat.le_refl _⟩ _ ?assign ?body ?done ?stop
      case assign =>
        intro l x X K hK
        gi_wp2
        exact hK
      case body =>
        rintro l0 pre x X ⟨⟨hpre, hbs⟩, hU, m', hT', hm'⟩ hlen
        have hx11 := boxed_upd HDL.out hU (HNT.out _ (.inr (.inl h11)) (fun e => hne11 e.symm))
        have hx12 := boxed_upd H12L.out hU (HNT.out _ (.inr (.inl hz.1)) (by omega))
        have hx7 := boxed_upd H7L.out hU (HNT.out _ (.inr (.inr h7TT)) (fun e => hne7 e.symm))
        have hxg := boxed_upd HGL.out hU (HNT.out _ (.inl hg1) (by omega))
        have hxs := boxed_upd HSPL.out hU (HNT.out _ (.inl hsp1) (by omega))
        have c1 := hbs.cell
        have f1 := hbs.frozen
        have c2 := hx11.cell
        have c12 := hx12.cell
        have c7 := hx7.cell
        have cs := hxs.cell
        have cg := hxg.cell
        have fg := hxg.frozen
        have HX := Aside0.mk (And.intro hbs hU)
        have HT' := Aside0.mk (And.intro hT' hm')
        have H7X := Aside0.mk hx7
        have HSX := Aside0.mk hxs
        by_cases hend : m.length ≤ rr + pre.length
        · have e1 : (m.length : Int) ≤ (rr : Int) + (pre.length : Int) := by omega
          clear hbs hU hT' hm' hx11 hx12 hx7 hxg hxs HNT h7TT hne7 hne11
          have HPRE := Aside0.mk hpre
          clear hpre
          gi_wp2_with fail
          exact ⟨(KeepsOthers.setCell _ _ _).from _, .inl ⟨rfl, fun h => by have := h.length_le; simp at this; omega⟩⟩
        · obtain ⟨p, hp⟩ : ∃ p, m[rr + pre.length]? = some p := ⟨_, List.getElem?_eq_getElem (by omega)⟩
          have hR := row_far HRL.out hU (fun k hk cells e => by
            rcases hk with hk | ⟨_, _, hk⟩
            · subst hk
              have h1 := H13L.out
              unfold Boxed at h1
              rw [h1] at e
              injection e with e
              injection e with _ e
              exact absurd e (by decide)
            · exact TT.ne e (by decide) (by decide) (by decide) hk)
          have hC := (Kd.R_reads' hR).2.2
          obtain ⟨ad, hA, hx0, hx1⟩ := at_T40 hC ((rr + pre.length : Nat) : Int) (by omega) (by rw [List.length_map]; omega)
          have hrp : rd_T40 (m.map ofP) ((rr + pre.length : Nat) : Int) = ofP p := by
            rw [rdP (by rw [List.length_map]; omega)]
            rw [List.getElem_map]
            rw [List.getElem?_eq_getElem (by omega)] at hp
            rw [Option.some.inj hp]
          rw [hrp] at hx0 hx1
          simp only [Int.toNat_natCast] at hx0 hx1
          replace hx0 : X.cell? (ad.add ((rr + pre.length) * 2)) = some (.string p.1) := hx0
          replace hx1 : X.cell? ⟨(ad.add ((rr + pre.length) * 2)).block, (ad.add ((rr + pre.length) * 2)).off + 1, none⟩ = some (.int .i64 p.2) := hx1
          have p0 : (0 : Int) ≤ (rr : Int) + (pre.length : Int) := by omega
          have p1 : (rr : Int) + (pre.length : Int) < (m.length : Int) := by omega
          have p3 : ((rr : Int) + (pre.length : Int)).toNat = rr + pre.length := by omega
          have hsn : pre ++ [x] <+: m.drop rr ↔ x = p := by
            have hp' : (m.drop rr)[pre.length]? = some p := by rw [List.getElem?_drop]; exact hp
            obtain ⟨rest, hr⟩ := hpre
            rw [← hr, List.prefix_append_right_inj]
            rw [← hr, List.getElem?_append_right (Nat.le_refl _), Nat.sub_self] at hp'
            match rest, hp' with
            | q :: rest, hp' =>
              have : q = p := by simpa using hp'
              subst this
              constructor
              · intro h
                obtain ⟨z, hz⟩ := h
                injection hz with hz
              · intro h
                subst h
                exact ⟨rest, rfl⟩
          have HSN := Aside0.mk hsn
          have HPRE := Aside0.mk hpre
          have HNE7 := Aside0.mk hne7
          have HPM := Aside0.mk hp
          clear hbs hU hT' hm' hx11 hx12 hx7 hxg hxs hR hC hrp hp hsn hpre HNT h7TT hne7 hne11
          subst hA
          by_cases hk : p.1.toList = x.1.toList
          · have k1 : (p.1.toList == x.1.toList) = true := beq_iff_eq.mpr hk
            have k2 : (p.1.toList != x.1.toList) = false := bne_eq_false_iff_eq.mpr hk
            by_cases hv : p.2 = x.2
            · have v1 : (p.2 == x.2) = true := beq_iff_eq.mpr hv
              have v2 : (p.2 != x.2) = false := bne_eq_false_iff_eq.mpr hv
              have hpx : pre ++ [x] <+: m.drop rr := HSN.out.2 (Prod.ext (toList_inj hk).symm hv.symm)
              have hxs1 : x.1.size + 1 ≤ 9223372036854775807 := by
                have hpm := HKS.out p (List.mem_of_getElem? HPM.out)
                rw [← HSN.out.1 hpx]  at hpm
                omega
              have HPX := Aside0.mk hpx
              have c7s : (X.setCell ⟨bs, 0, none⟩ (.int .i64 ((pre.length : Int) + 1))).cell? ⟨b7, 0, none⟩ = some (.pointer (some ⟨t, 0, none⟩)) := (World.cell?_setCell_other _ _ _ _ (fun e => HNE7.out (by injection e))).trans c7
              clear c7 hpx hk hv
              gi_wp2_with fail
              clear hx0 hx1 k1 k2 v1 v2 p0 p1 p3
              have hzX : L.heap.size ≤ X.heap.size := HX.out.2.size
              obtain ⟨X1, hX1⟩ : ∃ X1, X1 = X.setCell ⟨bs, 0, none⟩ (.int .i64 ((pre.length : Int) + 1)) := ⟨_, rfl⟩
              have hU1 : Upd (fun k => k = bs) X X1 := by rw [hX1]; exact Upd.setCell (S := fun k => k = bs) (p := ⟨bs, 0, none⟩) (.inl rfl) _
              have HB1 : Aside0 (Boxed X1 bs 3 (.int .i64 ((pre.length : Int) + 1))) := ⟨by rw [hX1]; exact HX.out.1.set _⟩
              have HKF1 : Aside0 (KeepsFrom L.heap.size X X1) := ⟨by rw [hX1]; exact (KeepsOthers.setCell _ _ _).from _⟩
              have HKP1 : Aside0 (KpT t L.heap.size X X1) := ⟨by rw [hX1]; exact KpT.of_setCell hz2 (by show bs ≠ t; omega)⟩
              have HT1 : Aside0 (TabSI X1 W1.heap.size (okI W1.heap.size q1 L.heap.size) t m') := ⟨HT'.out.1.keep hU1 (fun k hk e => by subst e; rcases hk with ⟨_, h | h⟩ <;> omega)⟩
              have HU1 : Aside0 (Upd (turned L bs W1.heap.size q1) L X1) := ⟨HX.out.2.trans hU1 (fun k hk => .inl (.inl hk))⟩
              have H71 := Aside0.mk (boxed_upd H7X.out hU1 (fun e => HNE7.out e.symm))
              have HS1 := Aside0.mk (boxed_upd HSX.out hU1 (fun e => by subst e; omega))
              have hz1X : L.heap.size ≤ X1.heap.size := Nat.le_trans hzX hU1.size
              rw [← hX1]
              clear hX1 hU1 c1 f1 c2 c12 cs cg fg c7s
              have hm2 : m'.length ≤ 4000000000000 := by have := HT'.out.2; omega
              obtain ⟨b, hb⟩ := exB4 (¬ has m' (x.1 ++ ⟨#[33]⟩))
              refine ⟨trivial, ?_⟩
              (with_reducible refine ((CallsIn.inRound l0 (callsIn_wide.2 (ts_put HT1.out hz1X (by omega) (x.1 ++ ⟨#[33]⟩) (-1) hm2 b hb))).mono ?_))
              rintro e X2 ⟨rfl, HT2, HKP2, HU2⟩
              have H72 := Aside0.mk (boxed_upd H71.out HU2.out (fun hs => boxed_notTT H71.out (by decide) (by decide) (by decide) hs.1))
              have HS2 := Aside0.mk (boxed_upd HS1.out HU2.out (fun hs => by have := hs.2.1; omega))
              have HB2 := Aside0.mk (boxed_upd HB1.out HU2.out (fun hs => by rcases hs.2.2 with h | h <;> omega))
              have HKF2 := Aside0.mk (HKF1.out.trans (keepsFrom_upd HU2.out (fun k hk => hk.1.cells)))
              have HU3 := Aside0.mk (turned_step HU1.out (by omega) HU2.out (fun k hk => .inr hk))
              have HKP3 := Aside0.mk (HKP1.out.trans HKP2.out)
              have hz2X : L.heap.size ≤ X2.heap.size := Nat.le_trans hz1X HU2.out.size
              have HML := Aside0.mk (len_put slt_ord m' (x.1 ++ ⟨#[33]⟩) (-1))
              clear hb
              generalize put slt m' (x.1 ++ ⟨#[33]⟩) (-1) = m2 at HT2 HML
              have c7 := H72.out.cell
              gi_wp2_with fail
              obtain ⟨b2, hb2⟩ := exB4 (has m2 x.1)
              have hm3 : m2.length ≤ 4000000000000 := by have := HML.out; have := HT'.out.2; omega
              refine ⟨trivial, ?_⟩
              (with_reducible refine ((CallsIn.inRound l0 (callsIn_wide.2 (ts_cut HT2.out hz2X (by omega) x.1 hm3 b2 hb2))).mono ?_))
              clear c7 hb2
              rintro e X3 ⟨rfl, HT3, HKP4, HU4⟩
              have HS3 := Aside0.mk (boxed_upd HS2.out HU4.out (fun hs => by have := hs.2.1; omega))
              have HB3 := Aside0.mk (boxed_upd HB2.out HU4.out (fun hs => by rcases hs.2.2 with h | h <;> omega))
              have HKF3 := Aside0.mk (HKF2.out.trans (keepsFrom_upd HU4.out (fun k hk => hk.1.cells)))
              have HU5 := Aside0.mk (turned_step HU3.out (by omega) HU4.out (fun k hk => .inr hk))
              have HKP5 := Aside0.mk (HKP3.out.trans HKP4.out)
              have HML2 := Aside0.mk (len_cut slt_ord m2 x.1)
              have c1 := HB3.out.cell
              have cs := HS3.out.cell
              by_cases hst : (pre.length : Int) + 1 = a2
              · have s1 : (((pre.length : Int) + 1) == a2) = true := beq_iff_eq.mpr hst
                gi_wp2_with fail
                exact ⟨HKF3.out, .inr ⟨rfl, by rw [List.length_append]; simpa using hst, by rw [List.length_append]; simpa using HB3.out, HU5.out⟩⟩
              · have s1 : (((pre.length : Int) + 1) == a2) = false := beq_eq_false_iff_ne.mpr hst
                gi_wp2_with fail
                exact ⟨HKF3.out, HKP5.out, ⟨HPX.out, by rw [List.length_append]; simpa using HB3.out⟩, HU5.out, _, HT3.out, by have := HML.out; have := HML2.out; have := HT'.out.2; rw [List.length_append]; simp only [List.length_singleton]; omega⟩
            · have v1 : (p.2 == x.2) = false := beq_eq_false_iff_ne.mpr hv
              have v2 : (p.2 != x.2) = true := bne_iff_ne.mpr hv
              gi_wp2_with fail
              exact ⟨(KeepsOthers.setCell _ _ _).from _, .inl ⟨rfl, (fun h => hv (by rw [HSN.out.1 h]) : ¬ (pre ++ [x] <+: m.drop rr))⟩⟩
          · have k1 : (p.1.toList == x.1.toList) = false := beq_eq_false_iff_ne.mpr hk
            have k2 : (p.1.toList != x.1.toList) = true := bne_iff_ne.mpr hk
            gi_wp2_with fail
            exact ⟨(KeepsOthers.setCell _ _ _).from _, .inl ⟨rfl, (fun h => hk (by rw [HSN.out.1 h]) : ¬ (pre ++ [x] <+: m.drop rr))⟩⟩
      case done =>
        rintro D xs X hD hxs ⟨⟨_, hbs⟩, hU, _⟩ hK
        rw [hxs, ← HRR.out, List.length_drop] at hbs
        have hx11 := boxed_upd HDL.out hU (HNT.out _ (.inr (.inl h11)) (fun e => hne11 e.symm))
        have hx12 := boxed_upd H12L.out hU (HNT.out _ (.inr (.inl hz.1)) (by omega))
        have hxg := boxed_upd HGL.out hU (HNT.out _ (.inl hg1) (by omega))
        have c1 := hbs.cell
        have c2 := hx11.cell
        have c12 := hx12.cell
        have cg := hxg.cell
        have fg := hxg.frozen
        have hsub : ((m.length - rr : Nat) : Int) = (m.length : Int) - (rr : Int) := by omega
        rw [hsub] at c1
        have HU := Aside0.mk hU
        have HK := Aside0.mk hK
        have HXG := Aside0.mk hxg
        have HDD := Aside0.mk hD
        clear hbs hU hx11 hx12 hxg hsub hxs hK HNT h7TT hne7 hne11 hD
        simp only [Exit.inBlock, Exit.then]
        gi_wp2
        have hgD : g ≠ D := by have := HDD.out; omega
        have hK2 : (X.setCell ⟨g, 0, none⟩ (.bool true)).heap[D]? = some (.deferred (some [])) := (Below.heap_setCell _ _ _ _ (fun e => hgD e.symm)).trans HK.out
        have hg2 := (HXG.out.set (.bool true)).kept (grownBy_putObj' _ D (.deferred none)) (fun e => by injection e with e; exact hgD e)
        have hbX : Below W1.heap.size W1 X := HBL.out.trans (HU.out.below (fun k hk => by rcases hk with h | h <;> omega) HBL.out.size)
        have hb1 : Below W.heap.size W (X.setCell ⟨g, 0, none⟩ (.bool true)) := (HBW.out.trans (hbX.mono HBW.out.size)).setCell (p := ⟨g, 0, none⟩) HGW.out _
        have hb2 := hb1.grown (grownBy_putObj' _ D (.deferred none)) hb1.size (fun k hk => by injection hk with hk; rw [← hk]; have := HDD.out; have := HBW.out.size; have := HBL.out.size; omega)
        refine ⟨by simp, .inl ⟨_, _, rfl, run_takeDeferred hK2, ?_⟩⟩
        have hc := hg2.cell
        refine ⟨.bool true, ?_, rfl, hb2⟩
        simp [results, Try.f5, go_sem, hc]
      case stop =>
        rintro D c pre X hD hp hx hK
        rw [← HRR.out] at hp
        rcases hx with ⟨_, hn⟩ | ⟨rfl, hst, hbs, hU⟩
        · exact absurd hp hn
        have hx11 := boxed_upd HDL.out hU (HNT.out _ (.inr (.inl h11)) (fun e => hne11 e.symm))
        have hx12 := boxed_upd H12L.out hU (HNT.out _ (.inr (.inl hz.1)) (by omega))
        have hxg := boxed_upd HGL.out hU (HNT.out _ (.inl hg1) (by omega))
        have hxs := boxed_upd HSPL.out hU (HNT.out _ (.inl hsp1) (by omega))
        have c1 := hbs.cell
        have c2 := hx11.cell
        have c12 := hx12.cell
        have cg := hxg.cell
        have fg := hxg.frozen
        have cs := hxs.cell
        have HU := Aside0.mk hU
        have HK := Aside0.mk hK
        have HXG := Aside0.mk hxg
        have HDD := Aside0.mk hD
        have s2 : ((pre.length : Int) == a2) = true := beq_iff_eq.mpr hst
        clear hbs hU hx11 hx12 hxg hxs hK HNT h7TT hne7 hne11 hD hst hp
        by_cases hs : (pre.length : Int) = (m.length : Int) - (rr : Int)
        · have s1 : ((pre.length : Int) == (m.length : Int) - (rr : Int)) = true := beq_iff_eq.mpr hs
          clear hs
          gi_wp2_with fail
          have hgD : g ≠ D := by have := HDD.out; omega
          have hK2 : (X.setCell ⟨g, 0, none⟩ (.bool true)).heap[D]? = some (.deferred (some [])) := (Below.heap_setCell _ _ _ _ (fun e => hgD e.symm)).trans HK.out
          have hg2 := (HXG.out.set (.bool true)).kept (grownBy_putObj' _ D (.deferred none)) (fun e => by injection e with e; exact hgD e)
          have hbX : Below W1.heap.size W1 X := HBL.out.trans (HU.out.below (fun k hk => by rcases hk with h | h <;> omega) HBL.out.size)
          have hb1 : Below W.heap.size W (X.setCell ⟨g, 0, none⟩ (.bool true)) := (HBW.out.trans (hbX.mono HBW.out.size)).setCell (p := ⟨g, 0, none⟩) HGW.out _
          have hb2 := hb1.grown (grownBy_putObj' _ D (.deferred none)) hb1.size (fun k hk => by injection hk with hk; rw [← hk]; have := HDD.out; have := HBW.out.size; have := HBL.out.size; omega)
          refine ⟨by simp, .inl ⟨_, _, rfl, run_takeDeferred hK2, ?_⟩⟩
          have hc := hg2.cell
          refine ⟨.bool true, ?_, rfl, hb2⟩
          simp [results, Try.f5, go_sem, hc]
        · have s1 : ((pre.length : Int) == (m.length : Int) - (rr : Int)) = false := beq_eq_false_iff_ne.mpr hs
          clear hs
          gi_wp2_with fail
          have hgD : g ≠ D := by have := HDD.out; omega
          have hK2 : (X.setCell ⟨g, 0, none⟩ (.bool true)).heap[D]? = some (.deferred (some [])) := (Below.heap_setCell _ _ _ _ (fun e => hgD e.symm)).trans HK.out
          have hg2 := (HXG.out.set (.bool true)).kept (grownBy_putObj' _ D (.deferred none)) (fun e => by injection e with e; exact hgD e)
          have hbX : Below W1.heap.size W1 X := HBL.out.trans (HU.out.below (fun k hk => by rcases hk with h | h <;> omega) HBL.out.size)
          have hb1 : Below W.heap.size W (X.setCell ⟨g, 0, none⟩ (.bool true)) := (HBW.out.trans (hbX.mono HBW.out.size)).setCell (p := ⟨g, 0, none⟩) HGW.out _
          have hb2 := hb1.grown (grownBy_putObj' _ D (.deferred none)) hb1.size (fun k hk => by injection hk with hk; rw [← hk]; have := HDD.out; have := HBW.out.size; have := HBL.out.size; omega)
          refine ⟨by simp, .inl ⟨_, _, rfl, run_takeDeferred hK2, ?_⟩⟩
          have hc := hg2.cell
          refine ⟨.bool true, ?_, rfl, hb2⟩
          simp [results, Try.f5, go_sem, hc]
end Go.Proofs.Ytkpicjhhkdjejaa
