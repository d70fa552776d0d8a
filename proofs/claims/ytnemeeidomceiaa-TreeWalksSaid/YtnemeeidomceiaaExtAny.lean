import Derived.Test.YtnemeeidomceiaaShelf
import Derived.Test.YtnemeeidomceiaaTreeKinds
import Derived.Laws.Runes
import Derived.Laws.RangeAny
import Derived.Lib.Hide
import Derived.Lib.OthersKept
import Derived.WalkMore
import Derived.ScopeJumps
namespace Go.Proofs.Ytnemeeidomceiaa
open Go.RowKit Go.Proofs.YtnemeeidomceiaaW.PrintWords Go.Proofs.YtnemeeidomceiaaW.PrintLast Go.Proofs.YtnemeeidomceiaaW.PrintMore
set_option linter.unusedSimpArgs false
set_option linter.unusedVariables false

/-- The bytes that no name bears. -/
def sep : ByteArray := ⟨#[47, 0]⟩
theorem get_lt (s : ByteArray) (k : Nat) (h : k < s.size) : s.get! k = s[k]'h := by
  simp [ByteArray.get!, getElem!_pos, h]
  rfl
theorem decode_high_all (s : ByteArray) (pos : Nat) (h : pos < s.size) (ha : 128 ≤ (s[pos]'h).toNat) : ∀ j, j < (Utf8.decode s pos).2 → ∃ hj : pos + j < s.size, 128 ≤ (s[pos + j]'hj).toNat := by
  have hn : ¬ (s[pos]'h).toNat < 128 := by omega
  have h0 : ∃ hj : pos + 0 < s.size, 128 ≤ (s[pos + 0]'hj).toNat := ⟨h, ha⟩
  have hk : ∀ k, pos + k < s.size → (s.get! (pos + k)).toNat / 64 = 2 → ∃ hj : pos + k < s.size, 128 ≤ (s[pos + k]'hj).toNat := fun k h1 h2 => ⟨h1, by rw [get_lt s (pos + k) h1] at h2; omega⟩
  have e : Utf8.decode s pos = Utf8.decode s pos := rfl
  intro j hj
  simp only [Utf8.decode, get_at s pos h, hn, if_false] at hj
  have one : j = 0 → ∃ hj : pos + j < s.size, 128 ≤ (s[pos + j]'hj).toNat := fun e => by subst e; exact h0
  repeat' split at hj
  all_goals simp only [Bool.and_eq_true, decide_eq_true_eq, beq_iff_eq] at *
  all_goals try (exact one (by omega))
  · rename_i _ h2
    by_cases hj0 : j = 0
    · exact one hj0
    · obtain rfl : j = 1 := by omega
      exact hk 1 h2.2.1 h2.2.2
  · rename_i h2 _
    by_cases hj0 : j = 0
    · exact one hj0
    by_cases hj1 : j = 1
    · subst hj1
      exact hk 1 h2.1.2.1 h2.1.2.2
    · obtain rfl : j = 2 := by omega
      exact hk 2 h2.2.1 h2.2.2
  · rename_i h2 _
    by_cases hj0 : j = 0
    · exact one hj0
    by_cases hj1 : j = 1
    · subst hj1
      exact hk 1 h2.1.1.2.1 h2.1.1.2.2
    by_cases hj2 : j = 2
    · subst hj2
      exact hk 2 h2.1.2.1 h2.1.2.2
    · obtain rfl : j = 3 := by omega
      exact hk 3 h2.2.1 h2.2.2
theorem sep_high {x : UInt8} (h : 128 ≤ x.toNat) : sep.data.toList.contains x = false := by
  have h1 : ¬ x = 47 := fun e => by subst e; revert h; decide
  have h2 : ¬ x = 0 := fun e => by subst e; revert h; decide
  simp [sep, h1, h2]
theorem noAny_wide (s : ByteArray) : ∀ (n i : Nat), Lib.NoAny s.data.toList sep.data.toList i → (∀ j, j < n → ∃ hj : i + j < s.size, 128 ≤ (s[i + j]'hj).toNat) → Lib.NoAny s.data.toList sep.data.toList (i + n)
  | 0, _, h, _ => h
  | n + 1, i, h, hj => by
    obtain ⟨h1, h2⟩ := hj n (Nat.lt_succ_self n)
    exact (noAny_wide s n i h (fun j hlt => hj j (by omega))).succ (Lib.data_getElem? s (i + n) h1) (sep_high h2)
theorem quiet_add_same {P : Program} {f : FuncId} {args : Array Value} {w : World} {a n : Nat} {v : Value}
    (h : Calls P f args (w.drewN (a + n)) fun e w' => e = .returned v ∧ w' = w.drewN (a + n)) :
    Calls P f args (w.drewN (a + n)) fun e w'' => e = .returned v ∧ ∃ m, w'' = w.drewN (a + m) :=
  h.mono fun _ _ ⟨he, hm⟩ => ⟨he, n, hm⟩
set_option maxHeartbeats 2000000 in
set_option maxRecDepth 100000 in
/-- A rune beyond the ASCII ones is not among those two. -/
theorem indexRune_high (r : Int) (h0 : 128 ≤ r) (w : World) :
    Calls Try.prog 42 #[.string sep, .int .i32 r] w fun e w' => e = .returned (.int .i64 (-1)) ∧ Below w.heap.size w w' := by
  have hss : sep.size = 2 := rfl
  have hr1 : decide ((0 : Int) ≤ r) = true := decide_eq_true (by omega)
  have hr2 : decide (r < 128) = false := decide_eq_false (by omega)
  have hv : Calls Try.prog 46 #[.int .i32 r] w fun e w' => e = .returned (.bool (Lib.validRune r)) ∧ w' = w := Try.utf8_ValidRune r w
  by_cases he : r = 65533
  · subst he
    obtain ⟨s, hs⟩ : ∃ s, s = sep := ⟨_, rfl⟩
    have n0 := fun ty => run_next_ascii (P := Try.prog) w s 0 ty (by rw [hs]; decide) (by subst hs; decide)
    have n1 := fun ty => run_next_ascii (P := Try.prog) w s 1 ty (by rw [hs]; decide) (by subst hs; decide)
    have n2 := fun ty => run_next_end (P := Try.prog) w s 2 ty (by rw [hs]; decide)
    have e0 : ((s[0]'(by rw [hs]; decide)).toNat : Int) = 47 := by subst hs; rfl
    have e1 : ((s[1]'(by rw [hs]; decide)).toNat : Int) = 0 := by subst hs; rfl
    simp only [e0, e1] at n0 n1
    rw [← hs]
    clear hs e0 e1 hss hv
    go_enter Try.func42, Try.ntmps42
    go_wp2_with fail
    refine wp_loop_rounds 3 ?_
    rw [rounds_succ]
    go_wp2_with fail
    rw [rounds_succ]
    go_wp2_with fail
    rw [rounds_succ]
    go_wp2_with fail
    go_ret
    exact ⟨rfl, by rw [World.iter]; exact (Below.refl _ _).alloc (Nat.le_refl _) _⟩
  · have hr3 : (r == 65533) = false := beq_eq_false_iff_ne.2 he
    cases hval : Lib.validRune r with
    | false =>
      rw [hval] at hv
      have HV := Aside0.mk hv
      clear hv hval
      go_enter Try.func42, Try.ntmps42
      go_wp2_with fail
      ((with_reducible refine HV.out.mono ?_); rintro e w1 ⟨rfl, rfl⟩)
      go_wp2_with fail
      go_ret
      exact ⟨rfl, Below.refl _ _⟩
    | true =>
      rw [hval] at hv
      have HV := Aside0.mk hv
      clear hv
      have hu : Utf8.valid r = true := by
        rw [Lib.validRune] at hval
        have := of_decide_eq_true hval
        simp only [Utf8.valid]
        rcases this with h | h <;> simp <;> omega
      obtain ⟨f1, f2, f3⟩ := encode_facts r hu h0
      clear hval hu
      obtain ⟨t, ht⟩ : ∃ t, t = Utf8.encode r := ⟨_, rfl⟩
      have hconv : ∀ w, (convert 21 9 (.int .i32 r)).run Try.prog w = .ok (.string t) w := fun w => by rw [ht]; exact run_convert_int_string w _ _ _ _ (by rw [Try.underlying21]; rfl) Try.underlying9
      rw [← ht] at f1 f2 f3
      clear ht
      obtain ⟨s, hs⟩ : ∃ s, s = sep := ⟨_, rfl⟩
      have hz : s.size = 2 := by rw [hs]; rfl
      rw [← hs]
      by_cases h2 : t.size = 2
      · obtain ⟨x, hx⟩ : ∃ x : UInt8, t[1]'(by omega) = x := ⟨_, rfl⟩
        have hx8 : 128 ≤ x.toNat := by
          have := f3 (by omega)
          simp only [h2] at this
          rw [← hx]; exact this
        have hsz : (t.size : Int) = 2 := by omega
        have hszs : (s.size : Int) = 2 := by omega
        have hi1 : ∀ w, (Instr.index 9 (.string s) (.int .i64 1)).run Try.prog w = .ok (.int .u8 0) w := fun w => by subst hs; kernel_rfl
        have ht1 : ∀ w, (Instr.index 9 (.string t) (.int .i64 1)).run Try.prog w = .ok (.int .u8 x.toNat) w := fun w => by
          rw [run_index_string w 9 t .i64 _ Try.underlying9, dif_pos ⟨by omega, by omega⟩]
          rw [← hx]
          rfl
        have hne : ((0 : Int) != (x.toNat : Int)) = true := by rw [bne_iff_ne]; omega
        have hsl : ∀ w, (Instr.slice 9 (.string s) (some (.int .i64 2)) none none).run Try.prog w = .ok (.string ⟨#[]⟩) w := fun w => by subst hs; kernel_rfl
        have HIB := Aside0.mk (fun w => Try.strings_IndexByte ⟨#[]⟩ (x.toNat : Int) w)
        have HS := Aside0.mk hs
        clear hx f1 f2 f3 h2 hz hs
        go_enter Try.func42, Try.ntmps42
        go_wp2_with fail
        ((with_reducible refine HV.out.mono ?_); rintro e w1 ⟨rfl, rfl⟩)
        go_wp2_with fail
        go_step3
        go_wp2_with fail
        refine wp_loop_rounds 1 ?_
        rw [rounds_succ]
        go_wp2_with fail
        go_step3
        go_wp2_with fail
        go_quiet (fail)
        go_wp2_with fail
        have w2 : IntKind.i64.wrap (1 + 1) = 2 := by decide
        go_quiet ((go_at_call 20; exact quiet_add_same (HIB.out _)))
        have hm1 : Lib.indexByte [] x = -1 := rfl
        go_wp2_with fail
        simp only [Exit.inBlock, Exit.then, Exit.noGoto]
        go_ret
        exact ⟨rfl, pw_below_drewN (Below.refl _ _) _⟩
      · have hsz : ¬ ((t.size : Int) - 1 < 2) := by omega
        have hszs : (s.size : Int) = 2 := by omega
        have hb1 : (t.size : Int) ≤ 4 := by omega
        have hb2 : 2 ≤ (t.size : Int) := by omega
        have HS := Aside0.mk hs
        clear f1 f2 f3 h2 hz hs
        go_enter Try.func42, Try.ntmps42
        go_wp2_with fail
        ((with_reducible refine HV.out.mono ?_); rintro e w1 ⟨rfl, rfl⟩)
        go_wp2_with fail
        go_step3
        go_wp2_with fail
        refine wp_loop_rounds 1 ?_
        rw [rounds_succ]
        go_wp2_with fail
        simp only [Exit.inBlock, Exit.then, Exit.noGoto]
        go_ret
        exact ⟨rfl, Below.refl _ _⟩
theorem noAny_lib (s : ByteArray) (i : Nat) (hi : i < s.size) (h : 128 ≤ (s[i]'hi).toNat) (hn : Lib.NoAny s.data.toList sep.data.toList i) : Lib.NoAny s.data.toList sep.data.toList (i + (Utf8.decode s i).2) :=
  noAny_wide s _ i hn (decode_high_all s i hi h)
set_option maxHeartbeats 8000000 in
set_option maxRecDepth 1000000 in
theorem indexAny_short (s : ByteArray) (w : World) (h8 : s.size ≤ 8) :
    Calls Try.prog 41 #[.string s, .string sep] w fun e w' => e = .returned (.int .i64 (Lib.indexAny s.data.toList sep.data.toList)) ∧ Below w.heap.size w w' := by
  have hemp : sep.toList.isEmpty = false := by rw [Lib.toList_data]; rfl
  have hss : ((sep.size : Nat) : Int) = 2 := rfl
  have h8z : decide ((8 : Int) < (s.size : Int)) = false := decide_eq_false (by omega)
  have HC : Aside0 (∀ x : UInt8, sep.data.toList.contains x = decide (0 ≤ Lib.indexByte sep.data.toList x)) := ⟨fun x => Lib.contains_iff_indexByte _ x⟩
  have HLOW : Aside0 (∀ (x : UInt8) (w : World), x.toNat < 128 → Calls Try.prog 42 #[.string sep, .int .i32 x.toNat] w fun e w' => e = .returned (.int .i64 (Lib.indexByte sep.data.toList x)) ∧ w' = w) := ⟨fun x w hx => by
    have h := Try.strings_IndexRune_ascii sep (x.toNat : Int) w (by omega) (by omega)
    have e : ((x.toNat : Int)).toNat.toUInt8 = x := by simp
    rw [e] at h
    exact h⟩
  have HHIGH := Aside0.mk (fun (r : Int) (h : 128 ≤ r) (w : World) => indexRune_high r h w)
  have HSTEP := Aside0.mk (fun (i : Nat) (hi : i < s.size) (h : 128 ≤ (s[i]'hi).toNat) => noAny_lib s i hi h)
  have HHIT := Aside0.mk (fun (i : Nat) (x : UInt8) => @Lib.indexAny_hit s.data.toList sep.data.toList i x)
  have HNONE := Aside0.mk (@Lib.indexAny_none s.data.toList sep.data.toList)
  have hnb : ((sep.size : Int) == 1) = false := by decide
  clear hss
  generalize sep = t at *
  obtain ⟨b, hb⟩ : ∃ b, b = w.heap.size := ⟨_, rfl⟩
  have HI0 : Aside0 ((w.iter s 0).heap[b]? = some (.stringIter s 0)) := ⟨by rw [hb]; exact World.iter_heap _ _ _⟩
  have HB0 : Aside0 (Below w.heap.size w (w.iter s 0)) := ⟨by rw [World.iter]; exact (Below.refl _ _).alloc (Nat.le_refl _) _⟩
  have HBB := Aside0.mk hb
  go_enter Try.func41, Try.ntmps41
  go_wp2_with fail
  ((with_reducible refine (Try.strings_shouldUseASCIISet _ _).mono ?_); rintro e w1 ⟨rfl, hw⟩; rw [hw, h8z])
  clear hw
  go_wp2_with fail
  rw [← hb]
  clear hb
  generalize w.iter s 0 = w0 at *
  go_loopg [9, 10] s.size (fun g _ _ wx => ∃ i : Nat, s.size - i ≤ g ∧ i ≤ s.size ∧ Aside0 (wx.heap[b]? = some (.stringIter s i)) ∧ Aside0 (Below w.heap.size w wx) ∧ Aside0 (Lib.NoAny s.data.toList t.data.toList i))
  case atStart => exact ⟨0, by omega, by omega, HI0, HB0, ⟨Lib.NoAny.zero _ _⟩⟩
  case round =>
    clear HI0 HB0
    obtain ⟨i, hig, hi, HI, HB, HN⟩ := hrel
    by_cases hlt : i < s.size
    · obtain ⟨x, hx⟩ : ∃ x : UInt8, s[i]'hlt = x := ⟨_, rfl⟩
      have HXL := Aside0.mk (Lib.data_getElem? s i hlt)
      rw [hx] at HXL
      by_cases hlow : x.toNat < 128
      · have hnx := fun ty => Lib.run_next_ascii_at (P := Try.prog) wr b s i ty HI.out hlt (by rw [hx]; exact hlow)
        have HI2 := Aside0.mk (Lib.iterAt_heap wr b s i (i + 1) HI.out)
        have HB2 := Aside0.mk (Lib.below_iterAt HB.out (Nat.le_of_eq HBB.out.symm) s (i + 1))
        rw [hx] at hnx
        generalize wr.iterAt b s (i + 1) = w2 at *
        clear hx HI HB
        cases hin : t.data.toList.contains x
        · have hlt0 : ¬ ((0 : Int) ≤ Lib.indexByte t.data.toList x) := of_decide_eq_false (by rw [← HC.out, hin])
          have HIN := Aside0.mk hin
          clear hin
          go_wp2_with fail
          ((with_reducible refine (HLOW.out x _ hlow).mono ?_); rintro e w3 ⟨rfl, rfl⟩)
          go_wp2_with fail
          go_roundg (s.size - (i + 1))
          case measure => omega
          case rel => exact ⟨i + 1, by omega, by omega, HI2, HB2, ⟨HN.out.succ HXL.out HIN.out⟩⟩
        · have hlt0 : (0 : Int) ≤ Lib.indexByte t.data.toList x := of_decide_eq_true (by rw [← HC.out, hin])
          have HIN := Aside0.mk hin
          clear hin
          go_wp2_with fail
          ((with_reducible refine (HLOW.out x _ hlow).mono ?_); rintro e w3 ⟨rfl, rfl⟩)
          go_wp2_with fail
          go_ret
          exact ⟨by rw [HHIT.out i x HN.out HXL.out HIN.out]; rfl, HB2.out⟩
      · have hh := decode_high s i hlt (by rw [hx]; omega)
        have hnx := fun ty => Lib.run_next_any_at (P := Try.prog) wr b s i ty HI.out hlt
        have HI2 := Aside0.mk (Lib.iterAt_heap wr b s i (i + (Utf8.decode s i).2) HI.out)
        have HB2 := Aside0.mk (Lib.below_iterAt HB.out (Nat.le_of_eq HBB.out.symm) s (i + (Utf8.decode s i).2))
        have HN2 := Aside0.mk (HSTEP.out i hlt (by rw [hx]; omega) HN.out)
        have hle : i + (Utf8.decode s i).2 ≤ s.size := by
          obtain ⟨hj, _⟩ := decode_high_all s i hlt (by rw [hx]; omega) ((Utf8.decode s i).2 - 1) (by omega)
          omega
        generalize (Utf8.decode s i).1 = c at *
        generalize (Utf8.decode s i).2 = n at *
        have HLT : Aside0 (b < (wr.iterAt b s (i + n)).heap.size) := ⟨(Array.getElem?_eq_some_iff.1 HI2.out).1⟩
        generalize wr.iterAt b s (i + n) = w2 at *
        have hc : 128 ≤ (c : Int) := by omega
        clear hx HI HB HN hlow HXL
        go_wp2_with fail
        ((with_reducible refine (HHIGH.out (c : Int) hc _).mono ?_); rintro e w3 ⟨rfl, hb3⟩)
        have HI3 := Aside0.mk ((hb3.block b HLT.out).trans HI2.out)
        have HB3 := Aside0.mk (HB2.out.trans (hb3.mono HB2.out.size))
        clear hb3
        go_wp2_with fail
        go_roundg (s.size - (i + n))
        case measure => omega
        case rel => exact ⟨i + n, by omega, by omega, HI3, HB3, HN2⟩
    · obtain rfl : i = s.size := by omega
      have hnx := fun ty => Lib.run_next_end_at (P := Try.prog) wr b s s.size ty HI.out (Nat.lt_irrefl _)
      go_wp2_with fail
      go_ret
      exact ⟨by rw [HNONE.out (by rw [← Lib.size_eq]; exact HN.out)]; rfl, HB.out⟩
theorem sep_low : ∀ (j : Nat) (b : UInt8), sep.data.toList[j]? = some b → b.toNat < 128 := by
  intro j b h
  have hm := List.mem_of_getElem? h
  simp [sep] at hm
  rcases hm with rfl | rfl <;> decide
theorem indexAny_sep (s : ByteArray) (w : World) (hs : s.size < 4294967281) :
    Calls Try.prog 41 #[.string s, .string sep] w fun e w' => e = .returned (.int .i64 (Lib.indexAny s.data.toList sep.data.toList)) ∧ Below w.heap.size w w' := by
  by_cases h8 : s.size ≤ 8
  · exact indexAny_short s w h8
  · have hz : ∀ w, (zeroValue 80).run Try.prog w = .ok (.agg (Array.replicate 256 (.bool false))) w := (zero_of_info (P := Try.prog) (t := 80) (n := 256) (by kernel_rfl)).1
    refine (Try.strings_IndexAny_long hz s sep w (by decide) (by omega) hs (by decide) sep_low).mono ?_
    rintro e w' ⟨he, hw⟩
    exact ⟨he, by rw [hw]; exact ((Below.refl _ _).alloc (Nat.le_refl _) _).alloc (by simp) _⟩
theorem containsAny_sep (s : ByteArray) (w : World) (hs : s.size < 4294967281) :
    Calls Try.prog 40 #[.string s, .string sep] w fun e w' => e = .returned (.bool (Lib.containsAny s.data.toList sep.data.toList)) ∧ Below w.heap.size w w' := by
  have h := Aside0.mk (fun w => indexAny_sep s w hs)
  have he : Lib.containsAny s.data.toList sep.data.toList = decide (0 ≤ Lib.indexAny s.data.toList sep.data.toList) := rfl
  rw [he]
  clear he hs
  generalize Lib.indexAny s.data.toList sep.data.toList = r at *
  generalize sep = t at *
  go_enter Try.func40, Try.ntmps40
  go_wp2_with fail
  ((with_reducible refine (h.out _).mono ?_); rintro e w1 ⟨rfl, hb⟩)
  have HB := Aside0.mk hb
  clear hb
  go_wp2_with fail
  go_ret
  exact ⟨rfl, HB.out⟩
end Go.Proofs.Ytnemeeidomceiaa
