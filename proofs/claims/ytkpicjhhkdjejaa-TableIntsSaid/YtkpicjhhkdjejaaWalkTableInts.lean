import Derived.Test.YtkpicjhhkdjejaaTabII2
import Derived.Test.YtkpicjhhkdjejaaTbInts
import Derived.Test.YtkpicjhhkdjejaaPTableIntsx0
set_option linter.unusedVariables false
set_option linter.unusedSimpArgs false
namespace Go.Proofs.Ytkpicjhhkdjejaa
open Go.RowKit Go.Proofs.YtkpicjhhkdjejaaW.PrintWords Go.Proofs.Ytkpicjhhkdjejaa.Tb
/-- The table as the law carries it: all of it made since the call. -/
def TI (W : World) (wr : World) (t : Nat) (m : List (Int × Int)) : Prop := TabII wr W.heap.size (fun k => W.heap.size ≤ k) t m ∧ Below W.heap.size W wr
theorem TI.put {W w w' : World} {t : Nat} {m m' : List (Int × Int)} {b : Bool} {e : Ending} (h : TI W w t m) (hp : PutPostII w W.heap.size (fun k => W.heap.size ≤ k) t m' b e w') : e = .returned (.bool b) ∧ TI W w' t m' :=
  ⟨hp.1, hp.2.1.mono (fun k hk => hk.elim id (fun h2 => Nat.le_trans h.2.size h2)), h.2.trans (hp.2.2.below (fun _ h => h) h.2.size)⟩
theorem TI.drawn {W w w' : World} {t : Nat} {m : List (Int × Int)} (h : TI W w t m) (hd : Drawn0 w w') : TI W w' t m := by
  obtain ⟨n, rfl⟩ := hd.out
  exact ⟨h.1.keep (Upd.drewN (S := fun _ => False) w n) (fun _ _ h => h), pw_below_drewN h.2 n⟩
theorem TI.below {W w w' : World} {t : Nat} {m : List (Int × Int)} (h : TI W w t m) (hd : Below w.heap.size w w') : TI W w' t m :=
  ⟨h.1.keep (S := fun _ => False) (Upd.of_below hd) (fun _ _ h => h), below_then h.2 h.2.size hd⟩
theorem ti_put {W w : World} {t : Nat} {m : List (Int × Int)} (h : TI W w t m) (k v : Int) (hl : m.length ≤ 17592186043904) (b : Bool) (hb : b = true ↔ ¬ has m k) :
    Calls Try.prog 22 #[.pointer (some ⟨t, 0, none⟩), .int .i64 k, .int .i64 v] w fun e w' => e = .returned (.bool b) ∧ Aside0 (TI W w' t (put ilt m k v)) :=
  (put_II w W.heap.size t _ m k v h.1 (by omega) (by omega) h.2.size b hb).mono fun e w' hp => ⟨(h.put hp).1, ⟨(h.put hp).2⟩⟩
theorem ti_cut {W w : World} {t : Nat} {m : List (Int × Int)} (h : TI W w t m) (k : Int) (hl : m.length ≤ 17592186043904) (b : Bool) (hb : b = true ↔ has m k) :
    Calls Try.prog 23 #[.pointer (some ⟨t, 0, none⟩), .int .i64 k] w fun e w' => e = .returned (.bool b) ∧ Aside0 (TI W w' t (cut ilt m k)) :=
  (cut_II w W.heap.size t _ m k h.1 (by omega) b hb).mono fun e w' hp => ⟨(h.put hp).1, ⟨(h.put hp).2⟩⟩
theorem ti_none {W w : World} {t : Nat} {m : List (Int × Int)} (h : TI W w t m) (k : Int) (hl : m.length ≤ 17592186043904) (hk : ¬ has m k) :
    Calls Try.prog 24 #[.pointer (some ⟨t, 0, none⟩), .int .i64 k] w fun e w' => e = .returned (.tuple #[.int .i64 0, .bool false]) ∧ Drawn0 w w' :=
  (getnone_II w W.heap.size t _ m k h.1 hk (by omega)).mono fun e w' hp => ⟨hp.1, hp.2⟩
theorem ti_get {W w : World} {t : Nat} {m : List (Int × Int)} (h : TI W w t m) (k v : Int) (hl : m.length ≤ 17592186043904) (hk : (k, v) ∈ m) :
    Calls Try.prog 24 #[.pointer (some ⟨t, 0, none⟩), .int .i64 k] w fun e w' => e = .returned (.tuple #[.int .i64 v, .bool true]) ∧ Drawn0 w w' :=
  (getold_II w W.heap.size t _ m k v h.1 hk (by omega)).mono fun e w' hp => ⟨hp.1, hp.2⟩
theorem ti_rank {W w : World} {t : Nat} {m : List (Int × Int)} (h : TI W w t m) (i : Nat) (p : Int × Int) (hl : m.length ≤ 17592186043904) (hp : m[i]? = some p) :
    Calls Try.prog 28 #[.pointer (some ⟨t, 0, none⟩), .int .i64 p.1] w fun e w' => e = .returned (.int .i64 (i : Int)) ∧ Drawn0 w w' :=
  (rank_II w W.heap.size t _ m p.1 h.1 (by omega) true (by simp; exact ⟨p, List.mem_iff_getElem?.2 ⟨i, hp⟩, rfl⟩)).mono fun e w' hq => ⟨by rw [hq.1, rank_at ilt_ord h.1.srt i p hp], hq.2⟩
theorem ti_at {W w : World} {t : Nat} {m : List (Int × Int)} (h : TI W w t m) (i : Nat) (p : Int × Int) (hp : m[i]? = some p) :
    Calls Try.prog 27 #[.pointer (some ⟨t, 0, none⟩), .int .i64 (i : Int)] w fun e w' => e = .returned (.tuple #[.int .i64 p.1, .int .i64 p.2, .bool true]) ∧ Drawn0 w w' :=
  (atin_II w W.heap.size t _ m i p h.1 hp).mono fun e w' hq => ⟨hq.1, hq.2⟩
theorem exB (p : Prop) : ∃ b : Bool, b = true ↔ p := by classical exact ⟨decide p, by simp⟩
theorem put1 : put ilt ([] : List (Int × Int)) 5 1 = [(5, 1)] := by simp [put]
theorem put2 : put ilt [((5 : Int), (1 : Int))] 5 2 = [(5, 2)] := by simp [put, ilt]
theorem cut1 : cut ilt [((5 : Int), (2 : Int))] 5 = [] := by simp [cut, ilt]
theorem cut2 : cut ilt ([] : List (Int × Int)) 5 = [] := by simp [cut]
set_option maxHeartbeats 4000000 in
set_option maxRecDepth 1000000 in
theorem tableInts_walk (a0 a1 : List Int) (W : World) {v0 v1 : Value}
    (w0 : (∃ A c, v0 = .slice A a0.length c ∧ a0.length ≤ c ∧ Kd.C (Kd.int .i64) W A a0.length a0) ∧ (a0.length * 8 ≤ 140737488351232 ∧ ∀ x ∈ a0, (Lit.int .i64 x).wf = true))
    (w1 : (∃ A c, v1 = .slice A a1.length c ∧ a1.length ≤ c ∧ Kd.C (Kd.int .i64) W A a1.length a1) ∧ (a1.length * 8 ≤ 140737488351232 ∧ ∀ x ∈ a1, (Lit.int .i64 x).wf = true)) :
    Calls Try.prog 6 #[v0, v1] W fun e W' => e = .returned (.bool true) ∧ Below W.heap.size W W' := by
  obtain ⟨⟨A0, c0, rfl, hc0, hC0⟩, hl0, _⟩ := w0
  obtain ⟨⟨A1, c1, rfl, hc1, hC1⟩, hl1, _⟩ := w1
  have h63 : a0.length ≤ 17592186043904 := by omega
  have h63' : a1.length ≤ 17592186043904 := by omega
  have HC0 := Aside0.mk hC0
  have HC1 := Aside0.mk hC1
  clear hC0 hC1 hl0 hl1
  go_enter Try.func6, Try.ntmps6
  go_wp2_with (go_at_call 21; refine (new_II W).mono ?_; rintro e w1 ⟨rfl, hT, hB⟩)
  have HT : TI W w1 W.heap.size [] := ⟨hT, hB⟩
  obtain ⟨t, ht⟩ : ∃ t, t = W.heap.size := ⟨_, rfl⟩
  rw [← ht] at HT ⊢
  clear ht
  have HT1 := Aside0.mk HT
  clear hT hB HT
  go_wp2_with fail
  (with_reducible refine (ti_put HT1.out 5 1 (by simp) true (by simp [has])).mono ?_)
  rintro e w2 ⟨rfl, HT2⟩
  rw [put1] at HT2
  clear HT1
  go_wp2_with fail
  (with_reducible refine (ti_put HT2.out 5 2 (by simp) false (by simp [has])).mono ?_)
  rintro e w3 ⟨rfl, HT3⟩
  rw [put2] at HT3
  clear HT2
  go_wp2_with fail
  (with_reducible refine (ti_cut HT3.out 5 (by simp) true (by simp [has])).mono ?_)
  rintro e w4 ⟨rfl, HT4⟩
  rw [cut1] at HT4
  clear HT3
  go_wp2_with fail
  (with_reducible refine (ti_cut HT4.out 5 (by simp) false (by simp [has])).mono ?_)
  rintro e w5 ⟨rfl, HT5⟩
  rw [cut2] at HT5
  clear HT4
  go_wp2_with fail
  go_loopw [53] (fun v wr => ∃ (j : Nat) (m : List (Int × Int)), j ≤ a0.length ∧ v = .int .i64 j ∧ Aside0 (TI W wr t m) ∧ Aside0 (L1 a0 j m)) (fun v _ => a0.length - (intOf v).toNat)
  case atStart => exact ⟨0, [], Nat.zero_le _, rfl, HT5, ⟨L1_zero a0⟩⟩
  case round =>
    obtain ⟨j, m, hj, rfl, HT, HL⟩ := hrel
    by_cases hlt : j < a0.length
    · obtain ⟨ad, hA, hx⟩ := Kd.at_int (Kd.C_below HC0.out HT.out.2) (j : Int) (by omega) (by omega)
      cases hA
      simp only [Int.toNat_natCast] at hx
      have p0 : (0 : Int) ≤ (j : Int) := by omega
      have p1 : (j : Int) < (a0.length : Int) := by omega
      have HS := Aside0.mk (L1_step HL.out (k := rd a0 (j : Int)) (by simp [rd, hlt]))
      have hml := Nat.le_trans HL.out.1 hj
      generalize rd a0 (j : Int) = x at hx HS
      go_wp2_with fail
      obtain ⟨b, hb⟩ := exB (¬ has m x)
      have HB := Aside0.mk hb
      clear hb hx
      (with_reducible refine (ti_put HT.out x j (by omega) b HB.out).mono ?_)
      rintro e w6 ⟨rfl, HT6⟩
      clear HT HB
      go_wp2_with fail
      go_roundw
      case rel => exact ⟨j + 1, _, by omega, by go_num, HT6, HS⟩
      case measure => simp [intOf]; omega
    · obtain rfl : j = a0.length := by omega
      have H2 := Aside0.mk (L2_zero (cuts := a1) HL.out)
      clear HL
      go_wp2_with fail
      obtain ⟨wo, rfl⟩ : ∃ wo : World, wo = wr := ⟨_, rfl⟩
      go_loopw [65] (fun v wr => ∃ (c : Nat) (m : List (Int × Int)), c ≤ a1.length ∧ v = .int .i64 c ∧ Aside0 (TI W wr t m) ∧ Aside0 (L2 a0 a1 c m)) (fun v _ => a1.length - (intOf v).toNat)
      case atStart => exact ⟨0, m, Nat.zero_le _, rfl, HT, H2⟩
      case round =>
        clear HT H2
        obtain ⟨c, m2, hc, rfl, HT, HL⟩ := hrel
        by_cases hlt : c < a1.length
        · obtain ⟨ad, hA, hx⟩ := Kd.at_int (Kd.C_below HC1.out HT.out.2) (c : Int) (by omega) (by omega)
          cases hA
          simp only [Int.toNat_natCast] at hx
          have p0 : (0 : Int) ≤ (c : Int) := by omega
          have p1 : (c : Int) < (a1.length : Int) := by omega
          have HS := Aside0.mk (L2_step HL.out (k := rd a1 (c : Int)) (by simp [rd, hlt]))
          have hml := HL.out.1
          have hml2 := HS.out.1.1
          generalize rd a1 (c : Int) = x at hx HS hml2
          go_wp2_with fail
          obtain ⟨b, hb⟩ := exB (has m2 x)
          have HB := Aside0.mk hb
          clear hb hx
          (with_reducible refine (ti_cut HT.out x (by omega) b HB.out).mono ?_)
          rintro e w6 ⟨rfl, HT6⟩
          clear HT HB
          go_wp2_with fail
          (with_reducible refine (ti_none HT6.out x (by omega) HS.out.2).mono ?_)
          rintro e w7 ⟨rfl, hd⟩
          have HT7 := Aside0.mk (HT6.out.drawn hd)
          clear HT6 hd
          go_wp2_with fail
          go_roundw
          case rel => exact ⟨c + 1, _, by omega, by go_num, HT7, ⟨HS.out.1⟩⟩
          case measure => simp [intOf]; omega
        · obtain rfl : c = a1.length := by omega
          have hml := HL.out.1
          go_wp2_with fail
          have hT := Aside0.mk HT.out.1
          (with_reducible refine (keys_II wr W.heap.size t _ m2 hT.out (by omega)).mono ?_)
          rintro e wK ⟨v12, rfl, hown, hb⟩
          have HTK := Aside0.mk (HT.out.below hb)
          have hR : Kd.R (Kd.int .i64) 3 wK wr.heap.size (fun _ => True) v12 (m2.map (·.1)) := Kd.R_of_own (h1 := fun _ => rfl) (by
            have hx : encs (Value.int .i64) (m2.map (·.1)) = m2.map (fun p => Value.int .i64 p.1) := by simp [encs, Function.comp_def]
            rw [List.length_map, hx]; exact hown) (fun _ _ => trivial)
          obtain ⟨A12, c12, rfl, hc12, hC12⟩ := Kd.R_reads hR
          have HC12 := Aside0.mk (And.intro hc12 hC12)
          rw [List.length_map] at HC12 ⊢
          clear hT hR hown hb HT hc12 hC12
          go_wp2_with fail
          have hT := Aside0.mk HTK.out.1
          (with_reducible refine (len_II wK W.heap.size t _ m2 hT.out).mono ?_)
          clear hT
          rintro e w8 ⟨rfl, rfl⟩
          go_wp2_with fail
          have hn2 : m2.length ≤ 17592186043904 := by omega
          clear hml hlt
          go_loopw [89] (fun v wr => ∃ i : Nat, i ≤ m2.length ∧ v = .int .i64 i ∧ Drawn0 wK wr) (fun v _ => m2.length - (intOf v).toNat)
          case atStart => exact ⟨0, Nat.zero_le _, rfl, Drawn0.refl _⟩
          case round =>
            obtain ⟨i, hi, rfl, hdr⟩ := hrel
            obtain ⟨q, rfl⟩ := hdr.out
            have HTq := Aside0.mk (HTK.out.drawn hdr)
            clear hdr
            by_cases hlt : i < m2.length
            · obtain ⟨⟨x, y⟩, hp⟩ : ∃ p, m2[i]? = some p := ⟨_, List.getElem?_eq_getElem hlt⟩
              obtain ⟨ad, hA, hx⟩ := Kd.at_int (Kd.C_drewN HC12.out.2 q) (i : Int) (by omega) (by omega)
              have hrd : rd (m2.map (·.1)) (i : Int) = x := by simp [rd, hp]
              rw [hrd] at hx
              simp only [Int.toNat_natCast] at hx
              have hprev : 0 < i → ∃ z, z < x ∧ ∀ q', (wK.drewN q').cell? (ad.add (i - 1)) = some (.int .i64 z) := by
                intro h0
                obtain ⟨ad', hA', hx'⟩ := Kd.at_int (Kd.C_drewN HC12.out.2 q) ((i - 1 : Nat) : Int) (by omega) (by omega)
                rw [hA] at hA'
                cases hA'
                simp only [Int.toNat_natCast] at hx'
                refine ⟨_, ?_, fun _ => hx'⟩
                have hq : m2[i - 1]? = some m2[i - 1] := List.getElem?_eq_getElem (by omega)
                have hrd' : rd (m2.map (·.1)) ((i - 1 : Nat) : Int) = (m2[i - 1]'(by omega)).1 := by
                  unfold rd
                  rw [Int.toNat_natCast, List.getD_eq_getElem?_getD, List.getElem?_map, hq]
                  rfl
                rw [hrd']
                have hs := List.pairwise_iff_getElem.1 HTK.out.1.srt (i - 1) i (by omega) hlt (by omega)
                have hpe := (List.getElem?_eq_some_iff.1 hp).2
                rw [hpe] at hs
                simpa [ilt] using hs
              have p0 : (0 : Int) ≤ (i : Int) := by omega
              have p1 : (i : Int) < (m2.length : Int) := by omega
              have HP := Aside0.mk (And.intro hp (And.intro HTq.out (List.mem_iff_getElem?.2 ⟨i, hp⟩ : (x, y) ∈ m2)))
              clear hp HTq hrd
              subst hA
              rcases Nat.eq_zero_or_pos i with h0 | h0
              all_goals first
                | (obtain ⟨z, hz, hcz⟩ := hprev h0
                   have h1i : (1 : Int) ≤ (i : Int) := by omega
                   have hzx : decide (x ≤ z) = false := by simp; omega
                   clear hprev h0)
                | (have hi0 : (i : Int) ≤ 0 := by omega
                   clear hprev h0)
              all_goals
                go_wp2_with fail
                (with_reducible refine (ti_at HP.out.2.1 _ (x, y) HP.out.1).mono ?_)
                rintro e w9 ⟨rfl, hd⟩
                obtain ⟨q2, rfl⟩ := hd.out
                clear hd
                have HP2 := Aside0.mk (HP.out.2.1.drawn ⟨⟨q2, rfl⟩⟩)
                simp only [World.drewN_drewN] at HP2
                go_wp2_with fail
                (with_reducible refine (ti_get HP2.out x y hn2 HP.out.2.2).mono ?_)
                rintro e w10 ⟨rfl, hd⟩
                obtain ⟨q3, rfl⟩ := hd.out
                clear hd
                have HP3 := Aside0.mk (HP2.out.drawn ⟨⟨q3, rfl⟩⟩)
                clear HP2
                simp only [World.drewN_drewN] at HP3
                go_wp2_with fail
                (with_reducible refine (ti_rank HP3.out i (x, y) hn2 HP.out.1).mono ?_)
                rintro e w11 ⟨rfl, hd⟩
                obtain ⟨q4, rfl⟩ := hd.out
                clear hd
                go_wp2_with fail
                go_roundw
                case rel => exact ⟨i + 1, by omega, by go_num, ⟨⟨_, rfl⟩⟩⟩
                case measure => simp [intOf]; omega
            · obtain rfl : i = m2.length := by omega
              clear HTq hlt hi HC12
              go_wp2_with fail
              go_loopw [146] (fun v wr => ∃ i : Nat, i ≤ a0.length ∧ v = .int .i64 i ∧ Drawn0 wK wr) (fun v _ => a0.length - (intOf v).toNat)
              case atStart => exact ⟨0, Nat.zero_le _, rfl, ⟨⟨q, rfl⟩⟩⟩
              case round =>
                clear q
                obtain ⟨i, hi, rfl, hdr⟩ := hrel
                obtain ⟨q, rfl⟩ := hdr.out
                have HTq := Aside0.mk (HTK.out.drawn hdr)
                clear hdr
                by_cases hlt : i < a0.length
                · have HC0q := Aside0.mk (Kd.C_below HC0.out HTq.out.2)
                  have HC1q := Aside0.mk (Kd.C_below HC1.out HTq.out.2)
                  obtain ⟨ad, hA, hx⟩ := Kd.at_int HC0q.out (i : Int) (by omega) (by omega)
                  have hk : a0[i]? = some (rd a0 (i : Int)) := by simp [rd, hlt]
                  generalize rd a0 (i : Int) = x at hx hk
                  have HE := Aside0.mk (L2_end HL.out hk)
                  simp only [Int.toNat_natCast] at hx
                  have p0 : (0 : Int) ≤ (i : Int) := by omega
                  have p1 : (i : Int) < (a0.length : Int) := by omega
                  clear hk
                  subst hA
                  go_wp2_with fail
                  go_loop [22, 153] (fun g v => ∃ c : Nat, c ≤ a1.length ∧ v = .int .i64 c ∧ g = .bool ((a1.take c).any (· == x))) (fun _ v => a1.length - (intOf v).toNat)
                  case atStart => exact ⟨0, Nat.zero_le _, rfl, rfl⟩
                  case round =>
                    obtain ⟨c, hc, rfl, rfl⟩ := hrel
                    by_cases hlc : c < a1.length
                    · obtain ⟨ad1, hA1, hx1⟩ := Kd.at_int HC1q.out (c : Int) (by omega) (by omega)
                      have hs1 : (a1.take (c + 1)).any (· == x) = ((a1.take c).any (· == x) || (rd a1 (c : Int) == x)) := by
                        rw [List.take_add_one, List.any_append]
                        simp [rd, hlc]
                      have HS1 := Aside0.mk hs1
                      simp only [Int.toNat_natCast] at hx1
                      have p0 : (0 : Int) ≤ (c : Int) := by omega
                      have p1 : (c : Int) < (a1.length : Int) := by omega
                      clear hs1
                      subst hA1
                      generalize rd a1 (c : Int) = z at hx1 HS1
                      generalize (a1.take c).any (· == x) = g at HS1 ⊢
                      cases g
                      all_goals
                        go_wp2_with fail
                        go_round
                        case rel => exact ⟨c + 1, by omega, by go_num, by rw [HS1.out]; rfl⟩
                        case measure => simp [intOf]; omega
                    · obtain rfl : c = a1.length := by omega
                      rw [List.take_length]
                      go_wp2_with fail
                      all_goals
                        go_loop [23, 169] (fun g v => ∃ d : Nat, d ≤ a0.length - (i + 1) ∧ v = .int .i64 d ∧ g = .bool (((a0.drop (i + 1)).take d).all (· != x))) (fun _ v => a0.length - (i + 1) - (intOf v).toNat)
                        case atStart => exact ⟨0, Nat.zero_le _, rfl, rfl⟩
                        case round =>
                          obtain ⟨d, hd, rfl, rfl⟩ := hrel
                          by_cases hld : d < a0.length - (i + 1)
                          · first
                            | (exfalso; omega)
                            | (obtain ⟨ad2, hA2, hx2⟩ := Kd.at_int HC0q.out ((i + 1 + d : Nat) : Int) (by omega) (by omega)
                               cases hA2
                               have hs2 : ((a0.drop (i + 1)).take (d + 1)).all (· != x) = (((a0.drop (i + 1)).take d).all (· != x) && (rd a0 ((i + 1 + d : Nat) : Int) != x)) := by
                                 have hr : rd a0 ((i + 1 + d : Nat) : Int) = a0[i + 1 + d]'(by omega) := by
                                   unfold rd
                                   rw [Int.toNat_natCast, List.getD_eq_getElem?_getD, List.getElem?_eq_getElem (by omega)]
                                   rfl
                                 rw [List.take_add_one, List.all_append, hr, List.getElem?_drop, List.getElem?_eq_getElem (show i + 1 + d < a0.length by omega)]
                                 simp
                               have HS2 := Aside0.mk hs2
                               simp only [Int.toNat_natCast] at hx2
                               have hx3 : (wK.drewN q).cell? ((ad.add (i + 1)).add d) = some (.int .i64 (rd a0 ((i + 1 + d : Nat) : Int))) := by rw [Go.Addr.add_add]; exact hx2
                               have hx4 : wK.cell? { block := ad.block, off := ad.off + (i + 1) + d } = some (.int .i64 (rd a0 ((i + 1 + d : Nat) : Int))) := by
                                 have h4 : (ad.add (i + 1)).add d = { block := ad.block, off := ad.off + (i + 1) + d } := by
                                   unfold Addr.add
                                   by_cases hd0 : d = 0 <;> simp [hd0]
                                 rw [← h4]
                                 exact hx3
                               have p2 : (0 : Int) ≤ (d : Int) := by omega
                               have p3 : (d : Int) < ((a0.length - (i + 1) : Nat) : Int) := by omega
                               clear hs2
                               generalize rd a0 ((i + 1 + d : Nat) : Int) = z at hx2 hx3 hx4 HS2
                               generalize ((a0.drop (i + 1)).take d).all (· != x) = g at HS2 ⊢
                               cases g
                               all_goals
                                 go_wp2_with fail
                                 go_round
                                 case rel => exact ⟨d + 1, by omega, by go_num, by rw [HS2.out]; rfl⟩
                                 case measure => simp [intOf]; omega)
                          · obtain rfl : d = a0.length - (i + 1) := by omega
                            rw [List.take_of_length_le (by rw [List.length_drop]; omega)]
                            have HV : Aside0 ((has m2 x ↔ x ∉ a1) ∧ ∀ v, (x, v) ∈ m2 → (a0.drop (i + 1)).all (· != x) = true → v = (i : Int)) := ⟨HE.out.1, fun v hv ha => HE.out.2 v hv (fun i' h1 h2 => by
                              have h3 := List.all_eq_true.1 ha x (List.mem_iff_getElem?.2 ⟨i' - (i + 1), by rw [List.getElem?_drop, show i + 1 + (i' - (i + 1)) = i' by omega]; exact h2⟩)
                              simp at h3)⟩
                            clear HE
                            obtain ⟨l, hl⟩ : ∃ l, l = (a0.drop (i + 1)).all (· != x) := ⟨_, rfl⟩
                            rw [← hl] at HV ⊢
                            obtain ⟨g, hg⟩ : ∃ g, g = a1.any (· == x) := ⟨_, rfl⟩
                            rw [← hg]
                            have HG : Aside0 (g = true ↔ x ∈ a1) := ⟨by rw [hg, List.any_eq_true]; simp⟩
                            clear hl hg
                            by_cases hh : has m2 x
                            · obtain ⟨y, hy⟩ := has_mem.1 hh
                              have hgf : g = false := by
                                cases g with
                                | false => rfl
                                | true => exact absurd (HG.out.1 rfl) (HV.out.1.1 hh)
                              subst hgf
                              have HY := Aside0.mk hy
                              have HL2 := Aside0.mk (HV.out.2 y hy)
                              clear hh hy HV HG
                              go_wp2_with fail
                              (with_reducible refine (ti_get HTq.out x y hn2 HY.out).mono ?_)
                              rintro e w12 ⟨rfl, hd⟩
                              obtain ⟨q2, rfl⟩ := hd.out
                              clear hd
                              cases l with
                              | false =>
                                go_wp2_with fail
                                go_roundw
                                case rel => first | exact ⟨i + 1, by omega, by go_num, ⟨⟨_, rfl⟩⟩⟩ | ((repeat apply Exists.intro); exact ⟨⟨i + 1, by omega, by go_num, ⟨⟨_, rfl⟩⟩⟩, rfl⟩) | ((have hcc : c0 = i + 1 := by assumption); (repeat apply Exists.intro); refine ⟨⟨i + 1, by omega, by go_num, ⟨⟨_, rfl⟩⟩⟩, ?_⟩; rw [hcc]; with_unfolding_all rfl)
                                case measure => simp [intOf]; omega
                              | true =>
                                obtain rfl := HL2.out rfl
                                go_wp2_with fail
                                go_roundw
                                case rel => first | exact ⟨i + 1, by omega, by go_num, ⟨⟨_, rfl⟩⟩⟩ | ((repeat apply Exists.intro); exact ⟨⟨i + 1, by omega, by go_num, ⟨⟨_, rfl⟩⟩⟩, rfl⟩) | ((have hcc : c0 = i + 1 := by assumption); (repeat apply Exists.intro); refine ⟨⟨i + 1, by omega, by go_num, ⟨⟨_, rfl⟩⟩⟩, ?_⟩; rw [hcc]; with_unfolding_all rfl)
                                case measure => simp [intOf]; omega
                            · have hgt : g = true := HG.out.2 (Decidable.byContradiction fun hn => hh (HV.out.1.2 hn))
                              subst hgt
                              have HH := Aside0.mk hh
                              clear hh HV HG
                              go_wp2_with fail
                              (with_reducible refine (ti_none HTq.out x hn2 HH.out).mono ?_)
                              rintro e w12 ⟨rfl, hd⟩
                              obtain ⟨q2, rfl⟩ := hd.out
                              clear hd
                              cases l
                              all_goals
                                go_wp2_with fail
                                go_roundw
                                case rel => first | exact ⟨i + 1, by omega, by go_num, ⟨⟨_, rfl⟩⟩⟩ | ((repeat apply Exists.intro); exact ⟨⟨i + 1, by omega, by go_num, ⟨⟨_, rfl⟩⟩⟩, rfl⟩) | ((have hcc : c0 = i + 1 := by assumption); (repeat apply Exists.intro); refine ⟨⟨i + 1, by omega, by go_num, ⟨⟨_, rfl⟩⟩⟩, ?_⟩; rw [hcc]; with_unfolding_all rfl)
                                case measure => simp [intOf]; omega
                · obtain rfl : i = a0.length := by omega
                  go_wp2_with fail
                  go_ret
                  exact ⟨rfl, HTq.out.2⟩
end Go.Proofs.Ytkpicjhhkdjejaa
