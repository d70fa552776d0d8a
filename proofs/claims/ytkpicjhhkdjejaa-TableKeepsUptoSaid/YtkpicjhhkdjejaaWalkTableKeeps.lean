import Derived.Test.YtkpicjhhkdjejaaKeepsState
set_option linter.unusedVariables false
set_option linter.unusedSimpArgs false
namespace Go.Proofs.Ytkpicjhhkdjejaa
open Go.RowKit Go.Proofs.YtkpicjhhkdjejaaW.PrintWords Go.Proofs.YtkpicjhhkdjejaaW.PrintLast Go.Proofs.YtkpicjhhkdjejaaW.PrintMore Go.Proofs.Ytkpicjhhkdjejaa.Tb Go.Proofs.Ytkpicjhhkdjejaa.PTablePlays
theorem exB2 (p : Prop) : ∃ b : Bool, b = true ↔ p := by classical exact ⟨decide p, by simp⟩
set_option maxHeartbeats 4000000 in
set_option maxRecDepth 1000000 in
theorem tableKeeps_walk (a0 : List ByteArray) (a1 : ByteArray) (W : World) {v0 : Value}
    (w0 : (∃ A c, v0 = .slice A a0.length c ∧ a0.length ≤ c ∧ Kd.C Kd.string W A a0.length a0) ∧ a0.length ≤ 1048576) (_w1 : a1.size ≤ 1048576) :
    Calls Try.prog 3 #[v0, .string a1] W fun e W' => e = .returned (.bool true) ∧ Below W.heap.size W W' := by
  obtain ⟨⟨A0, c0, rfl, hc0, hC0⟩, hl0⟩ := w0
  have HC0 := Aside0.mk hC0
  clear hC0 _w1
  go_enter Try.func3, Try.ntmps3
  go_wp2_with fail
  (with_reducible refine (new_SI W).mono ?_)
  rintro e w1 ⟨rfl, hT, hB⟩
  have HO : Aside0 (OSt W w1 0 W.heap.size [] [] (.slice none 0 0)) := ⟨⟨hB, hT, Kd.R_nil _ _ _ _ _, List.Perm.refl _, Nat.le_refl _⟩⟩
  obtain ⟨t, ht⟩ : ∃ t, t = W.heap.size := ⟨_, rfl⟩
  rw [← ht] at HO ⊢
  clear ht hT hB
  go_wp2_with fail
  (with_reducible refine (one_put HO.out ⟨#[112, 114, 111, 98, 101]⟩ 7 (by omega) true (by simp [has])).mono ?_)
  rintro e w2 ⟨rfl, HT, HR, HB⟩
  rw [put_p] at HT
  have hcutp : ∀ w2, Below W.heap.size W w2 → TabSI w2 W.heap.size (fun k => W.heap.size ≤ k) t [(⟨#[112, 114, 111, 98, 101]⟩, 7)] → Calls Try.prog 10 #[.pointer (some ⟨t, 0, none⟩), .string ⟨#[112, 114, 111, 98, 101]⟩] w2 fun e w' => e = .returned (.bool true) ∧ Aside0 (OSt W w' 0 t [] [] (.slice none 0 0)) := by
    intro w2 hb hT
    refine (cut_SI w2 W.heap.size t _ _ ⟨#[112, 114, 111, 98, 101]⟩ hT.typed (by simp) true (by simp [has])).mono ?_
    rintro e w' ⟨he, hT', hU⟩
    rw [cut_p] at hT'
    exact ⟨he, ⟨⟨hb.trans (hU.below (fun k hk => hk.1.1) hb.size), hT'.mono (fun k hk => hk.elim (fun h2 => h2.1.1) (fun h2 => Nat.le_trans hb.size h2)), Kd.R_nil _ _ _ _ _, List.Perm.refl _, Nat.le_refl _⟩⟩⟩
  have HCP := Aside0.mk (hcutp w2 HB.out HT.out)
  clear hcutp HT HR HB HO
  go_wp2_with fail
  (with_reducible refine HCP.out.mono ?_)
  clear HCP
  rintro e w3 ⟨rfl, HO⟩
  go_wp2_with fail
  go_loopw [6, 33] (fun v6 v33 wr => ∃ (j : Nat) (m : List (ByteArray × Int)) (l : List Pr), j ≤ a0.length ∧ v33 = .int .i64 j ∧ Aside0 (OSt W wr j t m l v6)) (fun _ v _ => a0.length - (intOf v).toNat)
  case atStart => exact ⟨0, [], [], Nat.zero_le _, rfl, HO⟩
  case round =>
    clear HO
    obtain ⟨j, m, l, hj, rfl, HO⟩ := hrel
    by_cases hlt : j < a0.length
    · obtain ⟨ad, hA, hx⟩ := Kd.at_string (Kd.C_below HC0.out HO.out.below) (j : Int) (by omega) (by omega)
      cases hA
      simp only [Int.toNat_natCast] at hx
      have p0 : (0 : Int) ≤ (j : Int) := by omega
      have p1 : (j : Int) < (a0.length : Int) := by omega
      generalize rdOf ByteArray.empty a0 (j : Int) = x at hx
      go_wp2_with fail
      obtain ⟨b, hb⟩ := exB2 (¬ has m x)
      have HBB := Aside0.mk hb
      clear hb hx
      (with_reducible refine (one_put HO.out x j (by omega) b HBB.out).mono ?_)
      rintro e w6 ⟨rfl, HT6, HR6, HB6⟩
      clear HBB
      have HPL := Aside0.mk (And.intro HO.out.perm HO.out.len)
      clear HO
      obtain ⟨A6, c6, hv6⟩ := Kd.R_slice HR6.out
      subst hv6
      go_wp2_with fail
      (with_reducible refine (one_refput HR6.out x j (by have := HPL.out.2; omega) rfl).mono ?_)
      rintro e w7 ⟨A7, c7, rfl, HR7, HB7⟩
      have HO7 : Aside0 (OSt W w7 (j + 1) t (put slt m x j) (dput l x j) (.slice A7 (dput l x j).length c7)) := ⟨⟨below_then HB6.out HB6.out.size HB7.out, HT6.out.keep (S := fun _ => False) (Upd.of_below HB7.out) (fun _ _ h => h), Kd.R_lower HR7.out HB6.out.size, perm_put HPL.out.1 x j, by have := dput_len l x j; have := HPL.out.2; omega⟩⟩
      clear HT6 HR6 HB6 HR7 HB7 HPL
      go_wp2_with fail
      go_roundw
      case rel => exact ⟨j + 1, _, _, by omega, by go_num, HO7⟩
      case measure => simp [intOf]; omega
    · obtain rfl : j = a0.length := by omega
      clear hlt hj
      go_wp2_with fail
      have HML := Aside0.mk (HO.out.mlen)
      have hmb : m.length ≤ 1048576 := Nat.le_trans HML.out hl0
      (with_reducible refine (keys_ HO.out.tab (by have := HML.out; omega)).mono ?_)
      rintro e w2 ⟨A2, c2, rfl, HC2, HR2, HB2⟩
      clear HC2
      have HT2 := Aside0.mk (HO.out.step_ HB2.out)
      go_wp2_with fail
      (with_reducible refine (keys_ HT2.out.tab (by have := HML.out; omega)).mono ?_)
      rintro e w3 ⟨A3, c3, rfl, HC3, HR3, HB3⟩
      clear HC3
      have HT3 := Aside0.mk (HT2.out.step_ HB3.out)
      clear HT2
      go_wp2_with fail
      (with_reducible refine (fork_SI w3 W.heap.size t _ m HT3.out.tab (by have := HML.out; omega) (by have := HML.out; omega)).mono ?_)
      rintro e w4 ⟨f, rfl, hT4, hb4⟩
      have HF := Aside0.mk (KF.mk_ HO.out HB2.out HB3.out hb4 HR3.out hT4)
      have HA := Aside0.mk (KA.mk_ HO.out HB2.out HB3.out hb4 HR2.out)
      have HS := Aside0.mk (HO.out.same (by omega))
      have HLL := Aside0.mk (HO.out.len)
      obtain ⟨A9, c9, hv9⟩ := Kd.R_slice HO.out.row
      subst hv9
      clear HO HT3 HR2 HR3 HB2 HB3 hT4 hb4
      generalize wr.heap.size = lo at HF HA
      generalize w2.heap.size = hi at HF HA
      go_wp2_with fail
      go_loopw [57] (fun v wr => ∃ i : Nat, i ≤ m.length ∧ v = .int .i64 i ∧ Aside0 (KA W w4 lo hi m.length (.slice A2 m.length c2) wr)) (fun v _ => m.length - (intOf v).toNat)
      case atStart => exact ⟨0, Nat.zero_le _, rfl, HA⟩
      case round =>
        clear HA
        obtain ⟨i, hi', rfl, HA⟩ := hrel
        by_cases hlt : i < m.length
        · obtain ⟨g, y, rfl, hcell, hfr, hn⟩ := HA.out.store HF.out.l1 i hlt ⟨#[115, 112, 111, 105, 108, 116]⟩
          have HN := Aside0.mk hn
          have p0 : (0 : Int) ≤ (i : Int) := by omega
          have p1 : (i : Int) < (m.length : Int) := by omega
          clear hn HA
          go_wp2_with fail
          go_roundw
          case rel => exact ⟨i + 1, by omega, by go_num, HN⟩
          case measure => simp [intOf]; omega
        · obtain rfl : i = m.length := by omega
          clear hlt hi'
          go_wp2_with fail
          go_loopw [9, 13] (fun v9 v wr => ∃ i : Nat, i ≤ 20 ∧ v = .int .i64 i ∧ Aside0 (KA W w4 lo hi (m.length + i) v9 wr)) (fun _ v _ => 20 - (intOf v).toNat)
          case atStart => exact ⟨0, Nat.zero_le _, rfl, HA⟩
          case round =>
            clear HA
            obtain ⟨i, hi', rfl, HA⟩ := hrel
            by_cases hlt : i < 20
            · have p1 : (i : Int) < 20 := by omega
              obtain ⟨Aq, cq, hvq⟩ := HA.out.slice
              subst hvq
              obtain ⟨ys, hys, hR⟩ := HA.out.row
              have HY := Aside0.mk hR
              have HYL := Aside0.mk hys
              have HBW := Aside0.mk (HF.out.upd HA.out.upd).below
              clear hR hys
              go_wp2_with (first | ((with_reducible refine gate_builtin (b := .append) (xs := #[.tmp 68, .tmp 69]) rfl ?_); at_builtin; refine Kd.R_append Kd.string (w0 := W) W.heap.size rfl (.tmp 68) (.tmp 69) 22 9 (.string ⟨#[]⟩) 16 rfl Try.underlying22 infoDStr rfl (by decide) (by omega) (.slice Aq (m.length + i) cq) ys (⟨#[109, 111, 114, 101]⟩ : ByteArray) [.string ⟨#[109, 111, 114, 101]⟩] (fun k => (lo ≤ k ∧ k < hi) ∨ w4.heap.size ≤ k) (fun _ => False) rfl rfl ?aP (fun _ hk => hk.elim) ?aF ?aO ?aB ?aS ?aL ?_; (case aP => exact rfl); (case aF => exact (fun k hk => .inr (Nat.le_trans HA.out.upd.size hk))); (case aO => exact HY.out); (case aB => exact HBW.out); (case aS => exact HBW.out.size); (case aL => have := HYL.out; have := HS.out.len; have := HML.out; omega); intro v1 w1 ho hb hg hat; have HA1 := Aside0.mk (HA.out.grown (okA := fun _ => True) ho hg (by rw [List.length_append, HYL.out]; rfl)); clear HY HYL HBW HA ho hb hg hat))
              go_roundw
              case rel => exact ⟨i + 1, by omega, by go_num, HA1⟩
              case measure => simp [intOf]; omega
            · obtain rfl : i = 20 := by omega
              have HKF := Aside0.mk (HF.out.upd HA.out.upd)
              clear hlt hi' HA HF
              have HB5 : Aside0 (m.length ≤ c3 ∧ Kd.C Kd.string wr A3 m.length (m.map (·.1))) := ⟨by have h := Kd.R_reads' HKF.out.b; have h2 := h.2.2; rw [List.length_map] at h2; exact ⟨h.2.1, h2⟩⟩
              have HP := Aside0.mk HKF.out.kp
              have hllb : l.length ≤ 1048576 := Nat.le_trans HLL.out hl0
              clear HKF HC0
              go_wp2_with fail
              have hr := Kd.R_reads' HP.out.row
              (with_reducible refine (sorted_ hr.2.2 hr.2.1 HS.out).mono ?_)
              clear hr
              rintro e w5 ⟨A10, c10, rfl, HC10, hb⟩
              have HP5 := Aside0.mk (HP.out.step_ hb.out)
              have HB6 := Aside0.mk (And.intro HB5.out.1 (Kd.C_below HB5.out.2 hb.out))
              clear hb HP HB5
              go_wp2_with fail
              (with_reducible refine (texts_ HB6.out HC10.out (by omega)).mono ?_)
              rintro e w6 ⟨rfl, hd⟩
              have HP := Aside0.mk (HP5.out.step_ hd.below)
              clear hd HP5 HB6 HC10
              go_wp2_with fail
              obtain ⟨ok, hT⟩ := HP.out.tab0
              (with_reducible refine (keys_ hT (by omega)).mono ?_)
              clear hT
              rintro e w7 ⟨A11, c11, rfl, HC11, HR11, hb⟩
              have HP5 := Aside0.mk (HP.out.step_ hb.out)
              clear hb HP HR11
              go_wp2_with fail
              have hr := Kd.R_reads' HP5.out.row
              (with_reducible refine (sorted_ hr.2.2 hr.2.1 HS.out).mono ?_)
              clear hr
              rintro e w8 ⟨A12, c12, rfl, HC12, hb⟩
              have HP := Aside0.mk (HP5.out.step_ hb.out)
              have HC11' := Aside0.mk (And.intro HC11.out.1 (Kd.C_below HC11.out.2 hb.out))
              clear hb HP5 HC11
              go_wp2_with fail
              (with_reducible refine (texts_ HC11'.out HC12.out (by omega)).mono ?_)
              rintro e w9 ⟨rfl, hd⟩
              have HP5 := Aside0.mk (HP.out.step_ hd.below)
              clear hd HP HC11' HC12
              go_wp2_with fail
              obtain ⟨b1, hb1⟩ := exB2 (¬ has m a1)
              (with_reducible refine (kp_put HP5.out a1 (-5) (by omega) b1 hb1).mono ?_)
              clear hb1
              rintro e w10 ⟨rfl, HP⟩
              clear HP5
              go_wp2_with fail
              obtain ⟨b2, hb2⟩ := exB2 (has m a1)
              (with_reducible refine (kp_cut HP.out a1 (by omega) b2 hb2).mono ?_)
              clear hb2
              rintro e w11 ⟨rfl, HP5⟩
              clear HP
              have hml1 : (put slt m a1 (-5)).length ≤ 1048577 := by have := len_put slt_ord m a1 (-5); omega
              have hml2 : (cut slt m a1).length ≤ 1048576 := by have := len_cut slt_ord m a1; omega
              go_wp2_with fail
              obtain ⟨ok1, hT⟩ := HP5.out.tab0
              (with_reducible refine (getold_SI w11 W.heap.size t ok1 _ a1 (-5) hT ((mem_put slt_ord m a1 (-5) a1 (-5)).2 (.inl ⟨rfl, rfl⟩)) (by omega)).mono ?_)
              clear hT
              rintro e w12 ⟨rfl, hd⟩
              have HP := Aside0.mk (HP5.out.step_ hd.below)
              clear hd HP5
              go_wp2_with fail
              obtain ⟨ok2, hT⟩ := HP.out.tab1
              (with_reducible refine (getnone_SI w12 W.heap.size f ok2 _ a1 hT (by rw [has_cut slt_ord]; simp) (by omega)).mono ?_)
              clear hT
              rintro e w13 ⟨rfl, hd⟩
              have HP5 := Aside0.mk (HP.out.step_ hd.below)
              clear hd HP
              go_wp2_with fail
              obtain ⟨ok3, hT⟩ := HP5.out.tab1
              (with_reducible refine (keys_ hT (by omega)).mono ?_)
              clear hT
              rintro e w14 ⟨A13, c13, rfl, HC13, HR13, hb⟩
              have HP := Aside0.mk (HP5.out.step_ hb.out)
              clear hb HP5 HR13
              go_wp2_with fail
              have hr := Kd.R_reads' HP.out.row
              (with_reducible refine (refcut_ a1 hr.2.2 hr.2.1 (by omega)).mono ?_)
              clear hr
              rintro e w15 ⟨A14, c14, rfl, HC14, hb⟩
              have HP5 := Aside0.mk (HP.out.step_ hb.out)
              have HC13' := Aside0.mk (And.intro HC13.out.1 (Kd.C_below HC13.out.2 hb.out))
              clear hb HP HC13
              go_wp2_with fail
              (with_reducible refine (sorted_ HC14.out.2 HC14.out.1 (HS.out.cut a1)).mono ?_)
              rintro e w16 ⟨A15, c15, rfl, HC15, hb⟩
              have HP := Aside0.mk (HP5.out.step_ hb.out)
              have HC13 := Aside0.mk (And.intro HC13'.out.1 (Kd.C_below HC13'.out.2 hb.out))
              clear hb HP5 HC13' HC14
              go_wp2_with fail
              (with_reducible refine (texts_ HC13.out HC15.out (by omega)).mono ?_)
              rintro e w17 ⟨rfl, hd⟩
              have HP5 := Aside0.mk (HP.out.step_ hd.below)
              clear hd HP HC13 HC15
              go_wp2_with fail
              obtain ⟨ok4, hT⟩ := HP5.out.tab0
              (with_reducible refine (keys_ hT (by omega)).mono ?_)
              clear hT
              rintro e w18 ⟨A16, c16, rfl, HC16, HR16, hb⟩
              have HP := Aside0.mk (HP5.out.step_ hb.out)
              clear hb HP5 HR16
              go_wp2_with fail
              (with_reducible refine (one_refput HP.out.row a1 (-5) (by omega) rfl).mono ?_)
              rintro e w19 ⟨A17, c17, rfl, HR17, hb⟩
              have HP5 := Aside0.mk (HP.out.step_ hb.out)
              have HC16' := Aside0.mk (And.intro HC16.out.1 (Kd.C_below HC16.out.2 hb.out))
              clear hb HP HC16
              go_wp2_with fail
              have hr := Kd.R_reads' HR17.out
              (with_reducible refine (sorted_ hr.2.2 hr.2.1 (HS.out.put (by omega) a1 (-5))).mono ?_)
              clear hr
              rintro e w20 ⟨A18, c18, rfl, HC18, hb⟩
              have HP := Aside0.mk (HP5.out.step_ hb.out)
              have HC16 := Aside0.mk (And.intro HC16'.out.1 (Kd.C_below HC16'.out.2 hb.out))
              clear hb HP5 HC16' HR17
              go_wp2_with fail
              (with_reducible refine (texts_ HC16.out HC18.out (by omega)).mono ?_)
              rintro e w21 ⟨rfl, hd⟩
              have HP5 := Aside0.mk (HP.out.step_ hd.below)
              clear hd HP HC16 HC18
              go_wp2_with fail
              go_ret
              exact ⟨rfl, HP5.out.below⟩
end Go.Proofs.Ytkpicjhhkdjejaa
