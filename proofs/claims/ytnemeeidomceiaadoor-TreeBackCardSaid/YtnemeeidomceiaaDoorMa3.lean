import Derived.Test.YtnemeeidomceiaaDoorMa0
import Derived.Test.YtnemeeidomceiaaDoorMa1
import Derived.Test.YtnemeeidomceiaaDoorMa2
import Derived.Test.YtnemeeidomceiaaDoorProg
import Derived.Test.YtnemeeidomceiaaDoorShelf
import Derived.Test.YtnemeeidomceiaaDoorWEqStructMa
import Derived.Test.YtnemeeidomceiaaDoorWLast
import Derived.ArgAppend
import Derived.Below
import Derived.BigQuiet
import Derived.Deep.AppendLies
import Derived.Deep.CutBlock
import Derived.Deep.DeepCutAuto
import Derived.Deep.Draws
import Derived.Deep.LoopGhost
import Derived.Deep.OwnRows
import Derived.Deep.QuietTactic
import Derived.Deep.RegionHeld3
import Derived.KernelRfl
import Derived.Laws.BitsLemmas
import Derived.Laws.BytesArg
import Derived.Laws.IdiomCopy
import Derived.Laws.MakeOwn
import Derived.Laws.OwnMore
import Derived.Laws.RangeAny
import Derived.Laws.Rows
import Derived.Laws.Runes
import Derived.Laws.Slices
import Derived.Lib.AppendStr
import Derived.Lib.ConvBytes
import Derived.Lib.Hide
import Derived.Lib.OthersKept
import Derived.Maps.AppendAt
import Derived.OrdersHeld
import Derived.OwnWalk
import Derived.RowKit
import Derived.RowKit3
import Derived.ScopeJumps
import Derived.Tactics
import Derived.WalkKit
import Derived.WalkMore
import Derived.WideLaws
set_option linter.unusedSimpArgs false
set_option linter.unusedVariables false
section
namespace Go.Proofs.YtnemeeidomceiaaDoor
open Go.RowKit Go.Proofs.YtnemeeidomceiaaDoorW.PrintWords Go.Proofs.YtnemeeidomceiaaDoorW.PrintLast Go.Proofs.YtnemeeidomceiaaDoorW.PrintMore
set_option linter.unusedSimpArgs false
set_option linter.unusedVariables false
/-- The bytes that no name bears. -/
def sep : ByteArray := ⟨#[47, 0]⟩
theorem get_lt (s : ByteArray) (k : Nat) (h : k < s.size) : s.get! k = s[k]'h := by
 simp [ByteArray.get!, getElem!_pos, h]
 rfl
theorem decode_high_all (s : ByteArray) (pos : Nat) (h : pos < s.size) (ha : 128 ≤ (s[pos]'h).toNat) : ∀ j, j < (Utf8.decode s pos).2 → ∃ hj : pos + j < s.size, 128 ≤ (s[pos + j]'hj).toNat := by
 have hn : ¬ (s[pos]'h).toNat < 128 := by omega
 have h0 : ∃ hj : pos + 0 < s.size, 128 ≤ (s[pos + 0]'hj).toNat := ⟨h, ha⟩
 have hk : ∀ k, pos + k < s.size → (s.get! (pos + k)).toNat / 64 = 2 → ∃ hj : pos + k < s.size, 128 ≤ (s[pos + k]'hj).toNat := fun k h1 h2 => ⟨h1, by rw [get_lt s (pos + k) h1] at h2; omega⟩
 have e : Utf8.decode s pos = Utf8.decode s pos := rfl
 intro j hj
 simp only [Utf8.decode, get_at s pos h, hn, if_false] at hj
 have one : j = 0 → ∃ hj : pos + j < s.size, 128 ≤ (s[pos + j]'hj).toNat := fun e => by subst e; exact h0
 repeat' split at hj
 all_goals simp only [Bool.and_eq_true, decide_eq_true_eq, beq_iff_eq] at *
 all_goals try (exact one (by omega))
 ·rename_i _ h2
  by_cases hj0 : j = 0
  ·exact one hj0
  ·obtain rfl : j = 1 := by omega
   exact hk 1 h2.2.1 h2.2.2
 ·rename_i h2 _
  by_cases hj0 : j = 0
  ·exact one hj0
  by_cases hj1 : j = 1
  ·subst hj1
   exact hk 1 h2.1.2.1 h2.1.2.2
  ·obtain rfl : j = 2 := by omega
   exact hk 2 h2.2.1 h2.2.2
 ·rename_i h2 _
  by_cases hj0 : j = 0
  ·exact one hj0
  by_cases hj1 : j = 1
  ·subst hj1
   exact hk 1 h2.1.1.2.1 h2.1.1.2.2
  by_cases hj2 : j = 2
  ·subst hj2
   exact hk 2 h2.1.2.1 h2.1.2.2
  ·obtain rfl : j = 3 := by omega
   exact hk 3 h2.2.1 h2.2.2
theorem sep_high {x : UInt8} (h : 128 ≤ x.toNat) : sep.data.toList.contains x = false := by
 have h1 : ¬ x = 47 := fun e => by subst e; revert h; decide
 have h2 : ¬ x = 0 := fun e => by subst e; revert h; decide
 simp [sep, h1, h2]
theorem noAny_wide (s : ByteArray) : ∀ (n i : Nat), Lib.NoAny s.data.toList sep.data.toList i → (∀ j, j < n → ∃ hj : i + j < s.size, 128 ≤ (s[i + j]'hj).toNat) → Lib.NoAny s.data.toList sep.data.toList (i + n)
 | 0, _, h, _ => h
 | n + 1, i, h, hj => by
  obtain ⟨h1, h2⟩ := hj n (Nat.lt_succ_self n)
  exact (noAny_wide s n i h (fun j hlt => hj j (by omega))).succ (Lib.data_getElem? s (i + n) h1) (sep_high h2)
theorem quiet_add_same {P : Program} {f : FuncId} {args : Array Value} {w : World} {a n : Nat} {v : Value}
  (h : Calls P f args (w.drewN (a + n)) fun e w' => e = .returned v ∧ w' = w.drewN (a + n)) :
  Calls P f args (w.drewN (a + n)) fun e w'' => e = .returned v ∧ ∃ m, w'' = w.drewN (a + m) :=
 h.mono fun _ _ ⟨he, hm⟩ => ⟨he, n, hm⟩
set_option maxHeartbeats 2000000 in
set_option maxRecDepth 100000 in
/-- A rune beyond the ASCII ones is not among those two. -/
theorem indexRune_high (r : Int) (h0 : 128 ≤ r) (w : World) :
  Calls Tryd.prog 85 #[.string sep, .int .i32 r] w fun e w' => e = .returned (.int .i64 (-1)) ∧ Below w.heap.size w w' := by
 have hss : sep.size = 2 := rfl
 have hr1 : decide ((0 : Int) ≤ r) = true := decide_eq_true (by omega)
 have hr2 : decide (r < 128) = false := decide_eq_false (by omega)
 have hv : Calls Tryd.prog 95 #[.int .i32 r] w fun e w' => e = .returned (.bool (Lib.validRune r)) ∧ w' = w := Tryd.utf8_ValidRune r w
 by_cases he : r = 65533
 ·subst he
  obtain ⟨s, hs⟩ : ∃ s, s = sep := ⟨_, rfl⟩
  have n0 := fun ty => run_next_ascii (P := Tryd.prog) w s 0 ty (by rw [hs]; decide) (by subst hs; decide)
  have n1 := fun ty => run_next_ascii (P := Tryd.prog) w s 1 ty (by rw [hs]; decide) (by subst hs; decide)
  have n2 := fun ty => run_next_end (P := Tryd.prog) w s 2 ty (by rw [hs]; decide)
  have e0 : ((s[0]'(by rw [hs]; decide)).toNat : Int) = 47 := by subst hs; rfl
  have e1 : ((s[1]'(by rw [hs]; decide)).toNat : Int) = 0 := by subst hs; rfl
  simp only [e0, e1] at n0 n1
  rw [← hs]
  clear hs e0 e1 hss hv
  go_enter Tryd.func85, Tryd.ntmps85
  go_wp2_with fail
  refine wp_loop_rounds 3 ?_
  rw [rounds_succ]
  go_wp2_with fail
  rw [rounds_succ]
  go_wp2_with fail
  rw [rounds_succ]
  go_wp2_with fail
  go_ret
  exact ⟨rfl, by rw [World.iter]; exact (Below.refl _ _).alloc (Nat.le_refl _) _⟩
 ·have hr3 : (r == 65533) = false := beq_eq_false_iff_ne.2 he
  cases hval : Lib.validRune r with
  | false =>
   rw [hval] at hv
   have HV := Aside0.mk hv
   clear hv hval
   go_enter Tryd.func85, Tryd.ntmps85
   go_wp2_with fail
   ((with_reducible refine HV.out.mono ?_); rintro e w1 ⟨rfl, rfl⟩)
   go_wp2_with fail
   go_ret
   exact ⟨rfl, Below.refl _ _⟩
  | true =>
   rw [hval] at hv
   have HV := Aside0.mk hv
   clear hv
   have hu : Utf8.valid r = true := by
    rw [Lib.validRune] at hval
    have := of_decide_eq_true hval
    simp only [Utf8.valid]
    rcases this with h | h <;> simp <;> omega
   obtain ⟨f1, f2, f3⟩ := encode_facts r hu h0
   clear hval hu
   obtain ⟨t, ht⟩ : ∃ t, t = Utf8.encode r := ⟨_, rfl⟩
   have hconv : ∀ w, (convert 21 9 (.int .i32 r)).run Tryd.prog w = .ok (.string t) w := fun w => by rw [ht]; exact run_convert_int_string w _ _ _ _ (by rw [Tryd.underlying21]; rfl) Tryd.underlying9
   rw [← ht] at f1 f2 f3
   clear ht
   obtain ⟨s, hs⟩ : ∃ s, s = sep := ⟨_, rfl⟩
   have hz : s.size = 2 := by rw [hs]; rfl
   rw [← hs]
   by_cases h2 : t.size = 2
   ·obtain ⟨x, hx⟩ : ∃ x : UInt8, t[1]'(by omega) = x := ⟨_, rfl⟩
    have hx8 : 128 ≤ x.toNat := by
     have := f3 (by omega)
     simp only [h2] at this
     rw [← hx]; exact this
    have hsz : (t.size : Int) = 2 := by omega
    have hszs : (s.size : Int) = 2 := by omega
    have hi1 : ∀ w, (Instr.index 9 (.string s) (.int .i64 1)).run Tryd.prog w = .ok (.int .u8 0) w := fun w => by subst hs; kernel_rfl
    have ht1 : ∀ w, (Instr.index 9 (.string t) (.int .i64 1)).run Tryd.prog w = .ok (.int .u8 x.toNat) w := fun w => by
     rw [run_index_string w 9 t .i64 _ Tryd.underlying9, dif_pos ⟨by omega, by omega⟩]
     rw [← hx]
     rfl
    have hne : ((0 : Int) != (x.toNat : Int)) = true := by rw [bne_iff_ne]; omega
    have hsl : ∀ w, (Instr.slice 9 (.string s) (some (.int .i64 2)) none none).run Tryd.prog w = .ok (.string ⟨#[]⟩) w := fun w => by subst hs; kernel_rfl
    have HIB := Aside0.mk (fun w => Tryd.strings_IndexByte ⟨#[]⟩ (x.toNat : Int) w)
    have HS := Aside0.mk hs
    clear hx f1 f2 f3 h2 hz hs
    go_enter Tryd.func85, Tryd.ntmps85
    go_wp2_with fail
    ((with_reducible refine HV.out.mono ?_); rintro e w1 ⟨rfl, rfl⟩)
    go_wp2_with fail
    go_step3
    go_wp2_with fail
    refine wp_loop_rounds 1 ?_
    rw [rounds_succ]
    go_wp2_with fail
    go_step3
    go_wp2_with fail
    go_quiet (fail)
    go_wp2_with fail
    have w2 : IntKind.i64.wrap (1 + 1) = 2 := by decide
    go_quiet ((go_at_call 89; exact quiet_add_same (HIB.out _)))
    have hm1 : Lib.indexByte [] x = -1 := rfl
    go_wp2_with fail
    simp only [Exit.inBlock, Exit.then, Exit.noGoto]
    go_ret
    exact ⟨rfl, pw_below_drewN (Below.refl _ _) _⟩
   ·have hsz : ¬ ((t.size : Int) - 1 < 2) := by omega
    have hszs : (s.size : Int) = 2 := by omega
    have hb1 : (t.size : Int) ≤ 4 := by omega
    have hb2 : 2 ≤ (t.size : Int) := by omega
    have HS := Aside0.mk hs
    clear f1 f2 f3 h2 hz hs
    go_enter Tryd.func85, Tryd.ntmps85
    go_wp2_with fail
    ((with_reducible refine HV.out.mono ?_); rintro e w1 ⟨rfl, rfl⟩)
    go_wp2_with fail
    go_step3
    go_wp2_with fail
    refine wp_loop_rounds 1 ?_
    rw [rounds_succ]
    go_wp2_with fail
    simp only [Exit.inBlock, Exit.then, Exit.noGoto]
    go_ret
    exact ⟨rfl, Below.refl _ _⟩
theorem noAny_lib (s : ByteArray) (i : Nat) (hi : i < s.size) (h : 128 ≤ (s[i]'hi).toNat) (hn : Lib.NoAny s.data.toList sep.data.toList i) : Lib.NoAny s.data.toList sep.data.toList (i + (Utf8.decode s i).2) :=
 noAny_wide s _ i hn (decode_high_all s i hi h)
set_option maxHeartbeats 8000000 in
set_option maxRecDepth 1000000 in
theorem indexAny_short (s : ByteArray) (w : World) (h8 : s.size ≤ 8) :
  Calls Tryd.prog 79 #[.string s, .string sep] w fun e w' => e = .returned (.int .i64 (Lib.indexAny s.data.toList sep.data.toList)) ∧ Below w.heap.size w w' := by
 have hemp : sep.toList.isEmpty = false := by rw [Lib.toList_data]; rfl
 have hss : ((sep.size : Nat) : Int) = 2 := rfl
 have h8z : decide ((8 : Int) < (s.size : Int)) = false := decide_eq_false (by omega)
 have HC : Aside0 (∀ x : UInt8, sep.data.toList.contains x = decide (0 ≤ Lib.indexByte sep.data.toList x)) := ⟨fun x => Lib.contains_iff_indexByte _ x⟩
 have HLOW : Aside0 (∀ (x : UInt8) (w : World), x.toNat < 128 → Calls Tryd.prog 85 #[.string sep, .int .i32 x.toNat] w fun e w' => e = .returned (.int .i64 (Lib.indexByte sep.data.toList x)) ∧ w' = w) := ⟨fun x w hx => by
  have h := Tryd.strings_IndexRune_ascii sep (x.toNat : Int) w (by omega) (by omega)
  have e : ((x.toNat : Int)).toNat.toUInt8 = x := by simp
  rw [e] at h
  exact h⟩
 have HHIGH := Aside0.mk (fun (r : Int) (h : 128 ≤ r) (w : World) => indexRune_high r h w)
 have HSTEP := Aside0.mk (fun (i : Nat) (hi : i < s.size) (h : 128 ≤ (s[i]'hi).toNat) => noAny_lib s i hi h)
 have HHIT := Aside0.mk (fun (i : Nat) (x : UInt8) => @Lib.indexAny_hit s.data.toList sep.data.toList i x)
 have HNONE := Aside0.mk (@Lib.indexAny_none s.data.toList sep.data.toList)
 have hnb : ((sep.size : Int) == 1) = false := by decide
 clear hss
 generalize sep = t at *
 obtain ⟨b, hb⟩ : ∃ b, b = w.heap.size := ⟨_, rfl⟩
 have HI0 : Aside0 ((w.iter s 0).heap[b]? = some (.stringIter s 0)) := ⟨by rw [hb]; exact World.iter_heap _ _ _⟩
 have HB0 : Aside0 (Below w.heap.size w (w.iter s 0)) := ⟨by rw [World.iter]; exact (Below.refl _ _).alloc (Nat.le_refl _) _⟩
 have HBB := Aside0.mk hb
 go_enter Tryd.func79, Tryd.ntmps79
 go_wp2_with fail
 ((with_reducible refine (Tryd.strings_shouldUseASCIISet _ _).mono ?_); rintro e w1 ⟨rfl, hw⟩; rw [hw, h8z])
 clear hw
 go_wp2_with fail
 rw [← hb]
 clear hb
 generalize w.iter s 0 = w0 at *
 go_loopg [9, 10] s.size (fun g _ _ wx => ∃ i : Nat, s.size - i ≤ g ∧ i ≤ s.size ∧ Aside0 (wx.heap[b]? = some (.stringIter s i)) ∧ Aside0 (Below w.heap.size w wx) ∧ Aside0 (Lib.NoAny s.data.toList t.data.toList i))
 case atStart => exact ⟨0, by omega, by omega, HI0, HB0, ⟨Lib.NoAny.zero _ _⟩⟩
 case round =>
  clear HI0 HB0
  obtain ⟨i, hig, hi, HI, HB, HN⟩ := hrel
  by_cases hlt : i < s.size
  ·obtain ⟨x, hx⟩ : ∃ x : UInt8, s[i]'hlt = x := ⟨_, rfl⟩
   have HXL := Aside0.mk (Lib.data_getElem? s i hlt)
   rw [hx] at HXL
   by_cases hlow : x.toNat < 128
   ·have hnx := fun ty => Lib.run_next_ascii_at (P := Tryd.prog) wr b s i ty HI.out hlt (by rw [hx]; exact hlow)
    have HI2 := Aside0.mk (Lib.iterAt_heap wr b s i (i + 1) HI.out)
    have HB2 := Aside0.mk (Lib.below_iterAt HB.out (Nat.le_of_eq HBB.out.symm) s (i + 1))
    rw [hx] at hnx
    generalize wr.iterAt b s (i + 1) = w2 at *
    clear hx HI HB
    cases hin : t.data.toList.contains x
    ·have hlt0 : ¬ ((0 : Int) ≤ Lib.indexByte t.data.toList x) := of_decide_eq_false (by rw [← HC.out, hin])
     have HIN := Aside0.mk hin
     clear hin
     go_wp2_with fail
     ((with_reducible refine (HLOW.out x _ hlow).mono ?_); rintro e w3 ⟨rfl, rfl⟩)
     go_wp2_with fail
     go_roundg (s.size - (i + 1))
     case measure => omega
     case rel => exact ⟨i + 1, by omega, by omega, HI2, HB2, ⟨HN.out.succ HXL.out HIN.out⟩⟩
    ·have hlt0 : (0 : Int) ≤ Lib.indexByte t.data.toList x := of_decide_eq_true (by rw [← HC.out, hin])
     have HIN := Aside0.mk hin
     clear hin
     go_wp2_with fail
     ((with_reducible refine (HLOW.out x _ hlow).mono ?_); rintro e w3 ⟨rfl, rfl⟩)
     go_wp2_with fail
     go_ret
     exact ⟨by rw [HHIT.out i x HN.out HXL.out HIN.out]; rfl, HB2.out⟩
   ·have hh := decode_high s i hlt (by rw [hx]; omega)
    have hnx := fun ty => Lib.run_next_any_at (P := Tryd.prog) wr b s i ty HI.out hlt
    have HI2 := Aside0.mk (Lib.iterAt_heap wr b s i (i + (Utf8.decode s i).2) HI.out)
    have HB2 := Aside0.mk (Lib.below_iterAt HB.out (Nat.le_of_eq HBB.out.symm) s (i + (Utf8.decode s i).2))
    have HN2 := Aside0.mk (HSTEP.out i hlt (by rw [hx]; omega) HN.out)
    have hle : i + (Utf8.decode s i).2 ≤ s.size := by
     obtain ⟨hj, _⟩ := decode_high_all s i hlt (by rw [hx]; omega) ((Utf8.decode s i).2 - 1) (by omega)
     omega
    generalize (Utf8.decode s i).1 = c at *
    generalize (Utf8.decode s i).2 = n at *
    have HLT : Aside0 (b < (wr.iterAt b s (i + n)).heap.size) := ⟨(Array.getElem?_eq_some_iff.1 HI2.out).1⟩
    generalize wr.iterAt b s (i + n) = w2 at *
    have hc : 128 ≤ (c : Int) := by omega
    clear hx HI HB HN hlow HXL
    go_wp2_with fail
    ((with_reducible refine (HHIGH.out (c : Int) hc _).mono ?_); rintro e w3 ⟨rfl, hb3⟩)
    have HI3 := Aside0.mk ((hb3.block b HLT.out).trans HI2.out)
    have HB3 := Aside0.mk (HB2.out.trans (hb3.mono HB2.out.size))
    clear hb3
    go_wp2_with fail
    go_roundg (s.size - (i + n))
    case measure => omega
    case rel => exact ⟨i + n, by omega, by omega, HI3, HB3, HN2⟩
  ·obtain rfl : i = s.size := by omega
   have hnx := fun ty => Lib.run_next_end_at (P := Tryd.prog) wr b s s.size ty HI.out (Nat.lt_irrefl _)
   go_wp2_with fail
   go_ret
   exact ⟨by rw [HNONE.out (by rw [← Lib.size_eq]; exact HN.out)]; rfl, HB.out⟩
theorem sep_low : ∀ (j : Nat) (b : UInt8), sep.data.toList[j]? = some b → b.toNat < 128 := by
 intro j b h
 have hm := List.mem_of_getElem? h
 simp [sep] at hm
 rcases hm with rfl | rfl <;> decide
theorem indexAny_sep (s : ByteArray) (w : World) (hs : s.size < 4294967281) :
  Calls Tryd.prog 79 #[.string s, .string sep] w fun e w' => e = .returned (.int .i64 (Lib.indexAny s.data.toList sep.data.toList)) ∧ Below w.heap.size w w' := by
 by_cases h8 : s.size ≤ 8
 ·exact indexAny_short s w h8
 ·have hz : ∀ w, (zeroValue 132).run Tryd.prog w = .ok (.agg (Array.replicate 256 (.bool false))) w := (zero_of_info (P := Tryd.prog) (t := 132) (n := 256) (by kernel_rfl)).1
  refine (Tryd.strings_IndexAny_long hz s sep w (by decide) (by omega) hs (by decide) sep_low).mono ?_
  rintro e w' ⟨he, hw⟩
  exact ⟨he, by rw [hw]; exact ((Below.refl _ _).alloc (Nat.le_refl _) _).alloc (by simp) _⟩
theorem containsAny_sep (s : ByteArray) (w : World) (hs : s.size < 4294967281) :
  Calls Tryd.prog 70 #[.string s, .string sep] w fun e w' => e = .returned (.bool (Lib.containsAny s.data.toList sep.data.toList)) ∧ Below w.heap.size w w' := by
 have h := Aside0.mk (fun w => indexAny_sep s w hs)
 have he : Lib.containsAny s.data.toList sep.data.toList = decide (0 ≤ Lib.indexAny s.data.toList sep.data.toList) := rfl
 rw [he]
 clear he hs
 generalize Lib.indexAny s.data.toList sep.data.toList = r at *
 generalize sep = t at *
 go_enter Tryd.func70, Tryd.ntmps70
 go_wp2_with fail
 ((with_reducible refine (h.out _).mono ?_); rintro e w1 ⟨rfl, hb⟩)
 have HB := Aside0.mk hb
 clear hb
 go_wp2_with fail
 go_ret
 exact ⟨rfl, HB.out⟩
end Go.Proofs.YtnemeeidomceiaaDoor
end
section
namespace Go.Proofs.YtnemeeidomceiaaDoor
open Go.RowKit Go.Proofs.YtnemeeidomceiaaDoorW.PrintWords
set_option linter.unusedVariables false
abbrev Ent := S63
/-- The bytes that a text of n bytes takes. -/
def fr (n : Nat) : Int := if n ≤ 1099511627776 then 8 + ((n + 7) / 8 * 8 : Nat) else 0
theorem fr_range (n : Nat) : 0 ≤ fr n ∧ fr n ≤ 1099511627792 := by unfold fr; split <;> omega
def frs : List ByteArray → Int
 | [] => 0
 | s :: l => fr s.size + frs l
theorem frs_range : ∀ l : List ByteArray, 0 ≤ frs l ∧ frs l ≤ 1099511627792 * (l.length : Int)
 | [] => by simp [frs]
 | s :: l => by
  have h1 := frs_range l
  have h2 := fr_range s.size
  simp only [frs, List.length_cons]
  omega
theorem frs_snoc : ∀ (l : List ByteArray) (s : ByteArray), frs (l ++ [s]) = frs l + fr s.size
 | [], s => by simp [frs]
 | x :: l, s => by simp only [List.cons_append, frs, frs_snoc l s]; omega
def wOpen : ByteArray := ⟨#[40]⟩
def wShut : ByteArray := ⟨#[41]⟩
def wType : ByteArray := ⟨#[116, 121, 112, 101]⟩
def wReg : ByteArray := ⟨#[114, 101, 103, 117, 108, 97, 114]⟩
def wCont : ByteArray := ⟨#[99, 111, 110, 116, 101, 110, 116, 115]⟩
def wExec : ByteArray := ⟨#[101, 120, 101, 99, 117, 116, 97, 98, 108, 101]⟩
def wNone : ByteArray := ⟨#[]⟩
def wSym : ByteArray := ⟨#[115, 121, 109, 108, 105, 110, 107]⟩
def wTarget : ByteArray := ⟨#[116, 97, 114, 103, 101, 116]⟩
def wDir : ByteArray := ⟨#[100, 105, 114, 101, 99, 116, 111, 114, 121]⟩
def wEntry : ByteArray := ⟨#[101, 110, 116, 114, 121]⟩
def wName : ByteArray := ⟨#[110, 97, 109, 101]⟩
def wNode : ByteArray := ⟨#[110, 111, 100, 101]⟩
def wMagic : ByteArray := ⟨#[100, 101, 112, 111, 116, 45, 97, 114, 99, 104, 105, 118, 101, 45, 49]⟩
def fileW (t : ByteArray) : List ByteArray := [wOpen, wType, wReg, wCont, t, wShut]
def execW : List ByteArray := [wExec, wNone]
def linkW (t : ByteArray) : List ByteArray := [wOpen, wType, wSym, wTarget, t, wShut]
def dirW : List ByteArray := [wOpen, wType, wDir, wShut]
def entW (n : ByteArray) : List ByteArray := [wEntry, wOpen, wName, n, wNode, wShut]
def magW : List ByteArray := [wMagic]
/-- The bytes of a node in an archive, but for its kids. -/
def ownS (k : Int) (e : Bool) (t : ByteArray) : Int :=
 if k = 1 then (if e = true then frs (fileW t) + frs execW else frs (fileW t)) else if k = 2 then frs (linkW t) else frs dirW
theorem ownS_range (k : Int) (e : Bool) (t : ByteArray) : 0 ≤ ownS k e t ∧ ownS k e t ≤ 10000000000000 := by
 have h1 := frs_range (fileW t)
 have h2 := frs_range execW
 have h3 := frs_range (linkW t)
 have h4 := frs_range dirW
 simp only [fileW, execW, linkW, dirW, List.length_cons, List.length_nil] at h1 h2 h3 h4
 unfold ownS
 split
 ·split <;> simp only [fileW, execW] <;> omega
 ·split <;> simp only [linkW, dirW] <;> omega
def entS (n : ByteArray) : Int := frs (entW n)
theorem entS_range (n : ByteArray) : 0 ≤ entS n ∧ entS n ≤ 10000000000000 := by
 have h1 := frs_range (entW n)
 simp only [entW, List.length_cons, List.length_nil] at h1
 unfold entS
 simp only [entW]
 omega
def magS : Int := frs magW
theorem magS_eq : magS = 24 := by decide
/-- May a link have this target? -/
def targetE (t : ByteArray) : Int := if t.size = 0 then 63 else if t.data.toList.contains 0 = true then 63 else 0
/-- Are a node's own fields as its kind wants them? -/
def fieldsE (k : Int) (e : Bool) (t : ByteArray) (l : List Ent) : Int :=
 if k = 1 then (if 0 < l.length then 62 else 0)
 else if k = 2 then (if e = true then 62 else if 0 < l.length then 62 else targetE t)
 else if k = 3 then (if e = true then 62 else if t.size = 0 then 0 else 62)
 else 60
/-- May a text be the name of an entry? -/
def nameE (s : ByteArray) : Int :=
 if s.size = 0 then 50 else if 255 < s.size then 6 else if Lib.containsAny s.data.toList sep.data.toList = true then 51
 else if s.toList = [46] then 52 else if s.toList = [46, 46] then 52 else 0
/-- The path of a kid. -/
def belowP (path kid : ByteArray) (depth : Int) : ByteArray := if depth = 1 then kid else path ++ ⟨#[47]⟩ ++ kid
/-- Does a stand at b, or ahead of it? -/
def nle (a b : ByteArray) : Bool := Op.bytesLess a.toList b.toList || a.toList == b.toList
abbrev RowT := ByteArray × Int × Bool × ByteArray
inductive Look
 | bad (path : ByteArray) (code : Int)
 | ok (bytes : Int) (rows : List RowT)
def Look.pre (rs : List RowT) : Look → Look
 | .bad p c => .bad p c
 | .ok b r => .ok b (rs ++ r)
theorem Look.pre_pre (s : Look) (a b : List RowT) : (s.pre a).pre b = s.pre (b ++ a) := by cases s <;> simp [Look.pre]
/-- What follows where a part was well. -/
def Look.then (s : Look) (k : Int → Look) : Look := match s with
 | .bad p c => .bad p c
 | .ok b r => (k b).pre r
def kidAt (nd : ByteArray → Ent → Int → Look) (depth : Int) (path : ByteArray) (prev : Option ByteArray) (x : Ent) (b : Int) : Look :=
 if nameE x.f0 ≠ 0 then .bad (belowP path x.f0 depth) (nameE x.f0)
 else if prev.any (fun p => nle x.f0 p) = true then .bad (belowP path x.f0 depth) 64
 else if 1048576 < b + entS x.f0 then .bad (belowP path x.f0 depth) 2
 else nd (belowP path x.f0 depth) x (b + entS x.f0)
def kidsL (nd : ByteArray → Ent → Int → Look) (depth : Int) (path : ByteArray) : Option ByteArray → List Ent → Int → Look
 | _, [], b => .ok b []
 | prev, x :: xs, b => (kidAt nd depth path prev x b).then (fun b2 => kidsL nd depth path (some x.f0) xs b2)
/-- A node that stands f nodes ahead of the deepest. -/
def nodeL : Nat → ByteArray → Ent → Int → Look
 | 0, path, _, _ => .bad path 61
 | f + 1, path, x, b =>
  if fieldsE x.f1 x.f2 x.f3 x.f4 ≠ 0 then .bad path (fieldsE x.f1 x.f2 x.f3 x.f4)
  else if 1048576 < b + ownS x.f1 x.f2 x.f3 then .bad path 2
  else (kidsL (nodeL f) (32 - (f : Int)) path none x.f4 (b + ownS x.f1 x.f2 x.f3)).pre [(path, x.f1, x.f2, x.f3)]
/-- The whole tree. -/
def lookL (k : Int) (e : Bool) (t : ByteArray) (l : List Ent) : Look := nodeL 32 ⟨#[]⟩ ⟨⟨#[]⟩, k, e, t, l⟩ magS
/-- The kid ahead of place i. -/
def prevAt (l : List Ent) (i : Nat) : Option ByteArray := if i = 0 then none else (l[i - 1]?).map (·.f0)
theorem prevAt_succ {l : List Ent} {i : Nat} {x : Ent} (h : l[i]? = some x) : prevAt l (i + 1) = some x.f0 := by
 unfold prevAt
 rw [if_neg (by omega), Nat.add_sub_cancel, h]
 rfl
theorem kids_step (nd : ByteArray → Ent → Int → Look) (depth : Int) (path : ByteArray) (l : List Ent) (i : Nat) (x : Ent) (h : l[i]? = some x) (b : Int) :
  kidsL nd depth path (prevAt l i) (l.drop i) b = (kidAt nd depth path (prevAt l i) x b).then (fun b2 => kidsL nd depth path (prevAt l (i + 1)) (l.drop (i + 1)) b2) := by
 obtain ⟨hi, hx⟩ := List.getElem?_eq_some_iff.1 h
 rw [List.drop_eq_getElem_cons hi, hx, prevAt_succ h]
 rfl
theorem Look.then_ok {s : Look} {b : Int} {r : List RowT} (h : s = .ok b r) (k : Int → Look) : s.then k = (k b).pre r := by rw [h]; rfl
theorem Look.then_bad {s : Look} {p : ByteArray} {c : Int} (h : s = .bad p c) (k : Int → Look) : s.then k = .bad p c := by rw [h]; rfl
theorem kids_bad {nd : ByteArray → Ent → Int → Look} {depth : Int} {path : ByteArray} {l : List Ent} {i : Nat} {x : Ent} {b : Int} {r : Look} {rs : List RowT} {q : ByteArray} {c : Int} (h : l[i]? = some x)
  (hr : r = (kidsL nd depth path (prevAt l i) (l.drop i) b).pre rs) (hk : kidAt nd depth path (prevAt l i) x b = .bad q c) : r = .bad q c := by
 rw [hr, kids_step nd depth path l i x h b, Look.then_bad hk]
 rfl
theorem kids_ok {nd : ByteArray → Ent → Int → Look} {depth : Int} {path : ByteArray} {l : List Ent} {i : Nat} {x : Ent} {b b2 : Int} {r : Look} {rs rows : List RowT} (h : l[i]? = some x)
  (hr : r = (kidsL nd depth path (prevAt l i) (l.drop i) b).pre rs) (hk : kidAt nd depth path (prevAt l i) x b = .ok b2 rows) : r = (kidsL nd depth path (prevAt l (i + 1)) (l.drop (i + 1)) b2).pre (rs ++ rows) := by
 rw [hr, kids_step nd depth path l i x h b, Look.then_ok hk, Look.pre_pre]
theorem belowP_size {path kid : ByteArray} (depth : Int) (h : nameE kid = 0) : (belowP path kid depth).size ≤ path.size + 256 := by
 have h2 : kid.size ≤ 255 := by
  unfold nameE at h
  split at h
  ·omega
  ·split at h
   ·omega
   ·omega
 unfold belowP
 split
 ·omega
 ·rw [ByteArray.size_append, ByteArray.size_append]
  show path.size + 1 + kid.size ≤ _
  omega
/-- Every text of the tree is one that a memory holds. -/
inductive Texts : List Ent → Prop
 | mk {l : List Ent} (h : ∀ x, x ∈ l → x.f0.size ≤ 140737488351232 ∧ x.f3.size ≤ 140737488351232) (k : ∀ x, x ∈ l → Texts x.f4) : Texts l
theorem Texts.at {l : List Ent} (h : Texts l) {i : Nat} {x : Ent} (hx : l[i]? = some x) : x.f0.size ≤ 140737488351232 ∧ x.f3.size ≤ 140737488351232 ∧ Texts x.f4 := by
 cases h with
 | mk h k => exact ⟨(h x (List.mem_of_getElem? hx)).1, (h x (List.mem_of_getElem? hx)).2, k x (List.mem_of_getElem? hx)⟩
/-- A link or a file has no kids where its fields are as they should be. -/
theorem fields_kids {k : Int} {e : Bool} {t : ByteArray} {l : List Ent} (h : fieldsE k e t l = 0) (hk : k ≠ 3) : l = [] := by
 unfold fieldsE at h
 split at h
 ·split at h
  ·omega
  ·exact List.length_eq_zero_iff.1 (by omega)
 ·split at h
  ·split at h
   ·omega
   ·split at h
    ·omega
    ·exact List.length_eq_zero_iff.1 (by omega)
  ·first | omega | (rw [if_neg hk] at h; omega)
theorem fields_kind {k : Int} {e : Bool} {t : ByteArray} {l : List Ent} (h : fieldsE k e t l = 0) : k = 1 ∨ k = 2 ∨ k = 3 := by
 unfold fieldsE at h
 by_cases h1 : k = 1
 ·exact .inl h1
 by_cases h2 : k = 2
 ·exact .inr (.inl h2)
 by_cases h3 : k = 3
 ·exact .inr (.inr h3)
 rw [if_neg h1, if_neg h2, if_neg h3] at h
 omega
theorem kidsL_all {nd : ByteArray → Ent → Int → Look} {depth : Int} {path : ByteArray} (P : Int → Look → Prop) (hb : ∀ p c b, c ≠ 0 → P b (.bad p c)) (hnd : ∀ q x b, P b (nd q x b))
  (hok : ∀ b, P b (.ok b [])) (hmono : ∀ b b' s, b ≤ b' → b' ≤ 1048576 → P b' s → P b s) (hpre : ∀ b b2 rows s, P b (.ok b2 rows) → P b2 s → P b (s.pre rows)) (hbad0 : ∀ b p c, P b (.bad p c) → c ≠ 0) : ∀ (l : List Ent) (prev : Option ByteArray) (b : Int), P b (kidsL nd depth path prev l b)
 | [], prev, b => hok b
 | x :: l, prev, b => by
  have hk : P b (kidAt nd depth path prev x b) := by
   unfold kidAt
   have he := entS_range x.f0
   split
   ·rename_i h; exact hb _ _ _ h
   ·split
    ·exact hb _ _ _ (by decide)
    ·split
     ·exact hb _ _ _ (by decide)
     ·exact hmono _ _ _ (by omega) (by omega) (hnd _ _ _)
  show P b ((kidAt nd depth path prev x b).then (fun b2 => kidsL nd depth path (some x.f0) l b2))
  cases hs : kidAt nd depth path prev x b with
  | bad q c => rw [hs] at hk; exact hk
  | ok b2 rows => rw [hs] at hk; exact hpre _ _ _ _ hk (kidsL_all P hb hnd hok hmono hpre hbad0 l (some x.f0) b2)
/-- No offence has the number 0; and each row takes a byte at least. -/
def LookFair (b : Int) : Look → Prop
 | .bad _ c => c ≠ 0
 | .ok b2 rows => b + (rows.length : Int) ≤ b2 ∧ (b ≤ 1048576 → b2 ≤ 1048576)
theorem own_pos (k : Int) (e : Bool) (t : ByteArray) : 1 ≤ ownS k e t := by
 have h1 : 16 ≤ frs (fileW t) := by
  have := frs_range [wType, wReg, wCont, t, wShut]
  have e : frs (fileW t) = fr wOpen.size + frs [wType, wReg, wCont, t, wShut] := rfl
  have e2 : fr wOpen.size = 16 := rfl
  omega
 have h2 : 16 ≤ frs (linkW t) := by
  have := frs_range [wType, wSym, wTarget, t, wShut]
  have e : frs (linkW t) = fr wOpen.size + frs [wType, wSym, wTarget, t, wShut] := rfl
  have e2 : fr wOpen.size = 16 := rfl
  omega
 have h3 : 16 ≤ frs dirW := by decide
 have h4 := frs_range execW
 unfold ownS
 split
 ·split <;> omega
 ·split <;> omega
theorem nodeL_fair : ∀ (f : Nat) (path : ByteArray) (x : Ent) (b : Int), LookFair b (nodeL f path x b)
 | 0, _, _, _ => by show (61 : Int) ≠ 0; decide
 | f + 1, path, x, b => by
  unfold nodeL
  split
  ·rename_i h; exact h
  ·split
   ·show (2 : Int) ≠ 0; decide
   ·have ho := own_pos x.f1 x.f2 x.f3
    have hk := kidsL_all (nd := nodeL f) (depth := 32 - (f : Int)) (path := path) LookFair (fun p c b h => h) (fun q y b => nodeL_fair f q y b) (fun b => by show b + 0 ≤ b ∧ (b ≤ 1048576 → b ≤ 1048576); omega)
     (fun b b' s hb hm h => by cases s with
      | bad => exact h
      | ok b2 rows => simp only [LookFair] at h ⊢; omega)
     (fun b b2 rows s h1 h2 => by cases s with
      | bad => exact h2
      | ok b3 rows2 => simp only [LookFair, Look.pre, List.length_append] at h1 h2 ⊢; omega) (fun b p c h => h) x.f4 none (b + ownS x.f1 x.f2 x.f3)
    generalize kidsL (nodeL f) (32 - (f : Int)) path none x.f4 (b + ownS x.f1 x.f2 x.f3) = s at hk
    cases s with
    | bad => exact hk
    | ok b2 rows =>
     simp only [LookFair, Look.pre, List.length_append, List.length_singleton] at hk ⊢
     omega
end Go.Proofs.YtnemeeidomceiaaDoor
end
section
namespace Go.Proofs.YtnemeeidomceiaaDoor
open Go.RowKit Go.Proofs.YtnemeeidomceiaaDoorW.PrintWords Go.Proofs.YtnemeeidomceiaaDoorW.PrintLast Go.Proofs.YtnemeeidomceiaaDoorW.PrintMore
/-- The first place of a byte in a text, or -1. -/
def strings_IndexByte.f (s : ByteArray) (c : Int) : Option Int := some (Lib.indexByte s.data.toList c.toNat.toUInt8)
theorem strings_IndexByte.calls (s : ByteArray) (c : Int) (r : Int) (w : World) (h : strings_IndexByte.f s c = some r) :
  Calls Tryd.prog 89 #[.string s, .int .u8 c] w fun e w' => e = .returned (.int .i64 r) ∧ Drawn0 w w' := by
 obtain rfl := Option.some.inj h
 refine (Tryd.strings_IndexByte s c w).mono ?_
 rintro e w' ⟨he, hw⟩
 exact ⟨he, by rw [hw]; exact Drawn0.refl _⟩
open Classical in
/-- Does a text bear one of the two bytes that no name bears? -/
noncomputable def strings_ContainsAny.f (s t : ByteArray) : Option Bool := if t = sep ∧ s.size < 4294967281 then some (Lib.containsAny s.data.toList sep.data.toList) else none
theorem strings_ContainsAny.calls (s t : ByteArray) (r : Bool) (w : World) (h : strings_ContainsAny.f s t = some r) :
  Calls Tryd.prog 70 #[.string s, .string t] w fun e w' => e = .returned (.bool r) ∧ Below w.heap.size w w' := by
 unfold strings_ContainsAny.f at h
 by_cases hc : t = sep ∧ s.size < 4294967281
 ·rw [if_pos hc] at h
  obtain rfl := Option.some.inj h
  rw [hc.1]
  exact containsAny_sep s w hc.2
 ·rw [if_neg hc] at h
  cases h
end Go.Proofs.YtnemeeidomceiaaDoor
end
section
namespace Go.Proofs.YtnemeeidomceiaaDoor.PTreeChecks
open Go.RowKit Go.Proofs.YtnemeeidomceiaaDoorW.PrintWords Go.Proofs.YtnemeeidomceiaaDoorW.PrintLast Go.Proofs.YtnemeeidomceiaaDoorW.PrintMore
attribute [local go_sem] max2_int min2_int max_two min_two max_three min_three max_four min_four   -- for this text's walks alone
set_option linter.unusedVariables false
set_option linter.unusedSimpArgs false
noncomputable section
def errW : Option Int → Value
 | none => .nilIface
 | some c => .iface 0 (.int .i64 c)
theorem errW_none : errW none = .nilIface := rfl
theorem errW_some (c : Int) : errW (some c) = .iface 0 (.int .i64 c) := rfl
end
end Go.Proofs.YtnemeeidomceiaaDoor.PTreeChecks
end
section
namespace Go.Proofs.YtnemeeidomceiaaDoor.PTreeChecks
open Go.RowKit Go.Proofs.YtnemeeidomceiaaDoorW.PrintWords Go.Proofs.YtnemeeidomceiaaDoorW.PrintLast Go.Proofs.YtnemeeidomceiaaDoorW.PrintMore
attribute [local go_sem] max2_int min2_int max_two min_two max_three min_three max_four min_four   -- for this text's walks alone
set_option linter.unusedVariables false
set_option linter.unusedSimpArgs false
noncomputable section
def wire_Framed.f (a0 : Int) : Option (Int) := if a0 < 0 then (some 0) else (if a0 > 1099511627776 then (some 0) else (some (wrap64 (8 + (wrap64 ((wrap64 (Int.tdiv (wrap64 (a0 + 7)) 8)) * 8))))))
set_option maxHeartbeats 8000000 in
set_option maxRecDepth 100000 in
theorem wire_Framed.calls (a0 : Int) (r : Int) (w : World) (h : wire_Framed.f a0 = some r) :
  Calls Tryd.prog 52 #[.int .i64 a0] w fun e w' => e = .returned (.int .i64 r) ∧ Drawn0 w w' := by
 have H : (if a0 < 0 then (some 0) else (if a0 > 1099511627776 then (some 0) else (some (wrap64 (8 + (wrap64 ((wrap64 (Int.tdiv (wrap64 (a0 + 7)) 8)) * 8))))))) = some r := h
 clear h
 by_cases c2 : a0 < 0
 ·rw [if_pos c2] at H
  have c2b0 : decide (a0 < 0) = true := decide_eq_true c2
  clear c2
  obtain rfl := Option.some.inj H
  go_enter Tryd.func52, Tryd.ntmps52
  go_wp2
  go_ret
  exact ⟨by first | rfl | (simp; done) | (simp [*]; done), by repeat (first | exact Drawn0.refl _ | apply Drawn0.step)⟩
 ·rw [if_neg c2] at H
  have c2b0 : decide (a0 < 0) = false := decide_eq_false c2
  clear c2
  by_cases c3 : a0 > 1099511627776
  ·rw [if_pos c3] at H
   have c3b0 : decide (1099511627776 < a0) = true := decide_eq_true c3
   clear c3
   obtain rfl := Option.some.inj H
   go_enter Tryd.func52, Tryd.ntmps52
   go_wp2
   go_ret
   exact ⟨by first | rfl | (simp; done) | (simp [*]; done), by repeat (first | exact Drawn0.refl _ | apply Drawn0.step)⟩
  ·rw [if_neg c3] at H
   have c3b0 : decide (1099511627776 < a0) = false := decide_eq_false c3
   clear c3
   obtain rfl := Option.some.inj H
   go_enter Tryd.func52, Tryd.ntmps52
   go_wp2
   go_ret
   exact ⟨by first | rfl | (simp; done) | (simp [*]; done), by repeat (first | exact Drawn0.refl _ | apply Drawn0.step)⟩
def tree_framed.l0 : Nat → Int → List ByteArray → Int → Int → Option (Int)
 | 0, _, _, _, _ => none
 | k + 1, x3, x6, x7, x8 => if x8 < x7 then (if 0 ≤ x8 then (if x8 < (x6.length : Int) then ((wire_Framed.f ((rdOf ByteArray.empty x6 x8).size : Int)).bind fun t102 => (tree_framed.l0 k (wrap64 (x3 + t102)) x6 x7 (wrap64 (x8 + 1)))) else (none)) else (none)) else (some x3)
def tree_framed.f (k : Nat) (l0 : List ByteArray) : Option (Int) := tree_framed.l0 k 0 l0 (l0.length : Int) 0
set_option maxHeartbeats 8000000 in
set_option maxRecDepth 100000 in
theorem tree_framed.calls (k : Nat) (A0 : Option Addr) (c0 : Nat) (l0 : List ByteArray) (r : Int) (w : World) (hr0 : Kd.C Kd.string w A0 l0.length l0) (hc0 : l0.length ≤ c0) (h : tree_framed.f k l0 = some r) :
  Calls Tryd.prog 28 #[.slice A0 l0.length c0] w fun e w' => e = .returned (.int .i64 r) ∧ Drawn0 w w' := by
 have HR0 := Aside0.mk hr0
 have HC0 := Aside0.mk hc0
 clear hr0 hc0
 have H : (tree_framed.l0 k 0 l0 (l0.length : Int) 0) = some r := h
 clear h
 have H' := Aside0.mk H
 clear H
 go_enter Tryd.func28, Tryd.ntmps28
 go_wp2
 go_loopg [3, 8] k (fun kq v3 v8 w' => ∃ (x3_1 : Int) (x8_1 : Int), v3 = .int .i64 x3_1 ∧ v8 = .int .i64 x8_1 ∧ Aside0 (tree_framed.l0 kq x3_1 l0 (l0.length : Int) x8_1 = some r) ∧ Aside0 (kq ≤ k) ∧ Drawn0 w w')
 case atStart => exact ⟨(0), (0), (by first | rfl | (simp; done) | (simp [*]; done)), (by first | rfl | (simp; done) | (simp [*]; done)), H', ⟨Nat.le_refl _⟩, by repeat (first | exact Drawn0.refl _ | apply Drawn0.step)⟩
 case round =>
  clear H'
  obtain ⟨x3_1, x8_1, rfl, rfl, HA, HK1, ⟨m1, rfl⟩⟩ := hrel
  cases gk with
  | zero => exact absurd HA.out (by simp [tree_framed.l0])
  | succ k1 =>
   have H := HA.out
   clear HA
   simp only [tree_framed.l0] at H
   by_cases c2 : x8_1 < (l0.length : Int)
   ·rw [if_pos c2] at H
    have c2b0 : decide (x8_1 < (l0.length : Int)) = true := decide_eq_true c2
    clear c2
    by_cases c3 : 0 ≤ x8_1
    ·rw [if_pos c3] at H
     have c3b0 : decide (0 ≤ x8_1) = true := decide_eq_true c3
     clear c3
     by_cases c4 : x8_1 < (l0.length : Int)
     ·rw [if_pos c4] at H
      have c4b0 : decide (x8_1 < (l0.length : Int)) = true := decide_eq_true c4
      clear c4
      replace H := Option.bind_eq_some_iff.mp H
      obtain ⟨t102, A50, H⟩ := H
      replace H : (tree_framed.l0 k1 (wrap64 (x3_1 + t102)) l0 (l0.length : Int) (wrap64 (x8_1 + 1))) = some r := H
      have A5 := Aside0.mk A50
      clear A50
      have H' := Aside0.mk H
      clear H
      have p101 : 0 ≤ (x8_1 : Int) := of_decide_eq_true (by first | (with_reducible assumption) | assumption)
      have q101 : x8_1 < (l0.length : Int) := of_decide_eq_true (by first | (with_reducible assumption) | assumption)
      obtain ⟨ad101, e101, hx101_0⟩ := Kd.at_string HR0.out x8_1 p101 q101
      cases e101
      replace p101 := eq_true p101
      replace q101 := eq_true q101
      go_wp2_with (first | ((with_reducible refine gate_callee (f := 52) rfl ?_); refine goesL_ (some 15) rfl rfl Tryd.func52 (by kernel_rfl) rfl #[.int .i64 ((rdOf ByteArray.empty l0 x8_1).size : Int)] rfl (by (try simp only [List.map_toArray, List.map_cons, List.map_nil]); first | done | rfl | (simp only [List.length_drop, List.length_take]; rfl)) ?_; (with_reducible refine (wire_Framed.calls ((rdOf ByteArray.empty l0 x8_1).size : Int) t102 _ A5.out).mono ?_); rintro e w' ⟨rfl, ⟨nd, rfl⟩⟩; refine ⟨_, rfl, ?_⟩))
      go_roundg k1
      case measure => have := HK1.out; omega
      case rel => exact ⟨(wrap64 (x3_1 + t102)), (wrap64 (x8_1 + 1)), (by first | rfl | (simp; done) | (simp [*]; done)), (by first | rfl | (simp; done) | (simp [*]; done)), H', ⟨by have := HK1.out; omega⟩, by repeat (first | exact Drawn0.refl _ | apply Drawn0.step)⟩
     ·rw [if_neg c4] at H
      exact absurd H (by simp)
    ·rw [if_neg c3] at H
     exact absurd H (by simp)
   ·rw [if_neg c2] at H
    have c2b0 : decide (x8_1 < (l0.length : Int)) = false := decide_eq_false c2
    clear c2
    obtain rfl := Option.some.inj H
    go_wp2
    go_ret
    exact ⟨by first | rfl | (simp; done) | (simp [*]; done), by repeat (first | exact Drawn0.refl _ | apply Drawn0.step)⟩
def tree_below.f (a0 : ByteArray) (a1 : ByteArray) (a2 : Int) : Option (ByteArray) := if a2 = 1 then (some a1) else (if a0.size + 1 ≤ 9223372036854775807 then (if (a0 ++ (⟨#[47]⟩ : ByteArray)).size + a1.size ≤ 9223372036854775807 then (some ((a0 ++ (⟨#[47]⟩ : ByteArray)) ++ a1)) else (none)) else (none))
set_option maxHeartbeats 8000000 in
set_option maxRecDepth 100000 in
theorem tree_below.calls (a0 : ByteArray) (a1 : ByteArray) (a2 : Int) (r : ByteArray) (w : World) (h : tree_below.f a0 a1 a2 = some r) :
  Calls Tryd.prog 36 #[.string a0, .string a1, .int .i64 a2] w fun e w' => e = .returned (.string r) ∧ Drawn0 w w' := by
 have H : (if a2 = 1 then (some a1) else (if a0.size + 1 ≤ 9223372036854775807 then (if (a0 ++ (⟨#[47]⟩ : ByteArray)).size + a1.size ≤ 9223372036854775807 then (some ((a0 ++ (⟨#[47]⟩ : ByteArray)) ++ a1)) else (none)) else (none))) = some r := h
 clear h
 by_cases c4 : a2 = 1
 ·rw [if_pos c4] at H
  have c4b0 : (a2 == 1) = true := beq_iff_eq.mpr c4
  have c4b1 : (a2 != 1) = false := bne_eq_false_iff_eq.mpr c4
  clear c4
  obtain rfl := Option.some.inj H
  go_enter Tryd.func36, Tryd.ntmps36
  go_wp2
  go_ret
  exact ⟨by first | rfl | (simp; done) | (simp [*]; done), by repeat (first | exact Drawn0.refl _ | apply Drawn0.step)⟩
 ·rw [if_neg c4] at H
  have c4b0 : (a2 == 1) = false := beq_eq_false_iff_ne.mpr c4
  have c4b1 : (a2 != 1) = true := bne_iff_ne.mpr c4
  by_cases c5 : a0.size + 1 ≤ 9223372036854775807
  ·rw [if_pos c5] at H
   have c5b0 := eq_true c5
   have c5b1 : decide (a0.size + 1 ≤ 9223372036854775807) = true := decide_eq_true c5
   try have c5b2 : (9223372036854775807 < a0.size + 1) = False := eq_false (Nat.not_lt.2 c5)
   by_cases c6 : (a0 ++ (⟨#[47]⟩ : ByteArray)).size + a1.size ≤ 9223372036854775807
   ·rw [if_pos c6] at H
    have c6b0 := eq_true c6
    have c6b1 : decide ((a0 ++ (⟨#[47]⟩ : ByteArray)).size + a1.size ≤ 9223372036854775807) = true := decide_eq_true c6
    try have c6b2 : (9223372036854775807 < (a0 ++ (⟨#[47]⟩ : ByteArray)).size + a1.size) = False := eq_false (Nat.not_lt.2 c6)
    obtain rfl := Option.some.inj H
    go_enter Tryd.func36, Tryd.ntmps36
    go_wp2
    go_ret
    exact ⟨by first | rfl | (simp; done) | (simp [*]; done), by repeat (first | exact Drawn0.refl _ | apply Drawn0.step)⟩
   ·rw [if_neg c6] at H
    exact absurd H (by simp)
  ·rw [if_neg c5] at H
   exact absurd H (by simp)
def bytealg_Cutover.f (a0 : Int) : Option (Int) := some (wrap64 (Int.tdiv (wrap64 (a0 + 16)) 8))
def utf8_ValidRune.j0 : Nat → Int → Bool → Option (Bool)
 | 0, _, _ => none
 | k + 1, x0, x3 => if x3 = true then (some true) else (if 57343 < x0 then (if x0 ≤ 1114111 then (some true) else (some false)) else (some false))
def utf8_ValidRune.f (k : Nat) (a0 : Int) : Option (Bool) := if 0 ≤ a0 then (utf8_ValidRune.j0 k a0 (decide (a0 < 55296))) else (utf8_ValidRune.j0 k a0 false)
def strings_shouldUseASCIISet.f (a0 : Int) : Option (Bool) := some (decide (a0 > 8))
def name_Check.f (a0 : ByteArray) : Option (Int) := if a0.toList = ([] : List UInt8) then (some 50) else (if (a0.size : Int) > 255 then (some 6) else ((strings_ContainsAny.f a0 (⟨#[47, 0]⟩ : ByteArray)).bind fun t104 => (if t104 = true then (some 51) else (if a0.toList = ([46] : List UInt8) then (some 52) else (if a0.toList = ([46, 46] : List UInt8) then (some 52) else (some 0))))))
set_option maxHeartbeats 8000000 in
set_option maxRecDepth 100000 in
theorem name_Check.calls (a0 : ByteArray) (r : Int) (w : World) (h : name_Check.f a0 = some r) :
  Calls Tryd.prog 54 #[.string a0] w fun e w' => e = .returned (.int .i64 r) ∧ Below w.heap.size w w' := by
 have HB := Aside0.mk (Below.refl w.heap.size w)
 have H : (if a0.toList = ([] : List UInt8) then (some 50) else (if (a0.size : Int) > 255 then (some 6) else ((strings_ContainsAny.f a0 (⟨#[47, 0]⟩ : ByteArray)).bind fun t104 => (if t104 = true then (some 51) else (if a0.toList = ([46] : List UInt8) then (some 52) else (if a0.toList = ([46, 46] : List UInt8) then (some 52) else (some 0))))))) = some r := h
 clear h
 by_cases c2 : a0.toList = ([] : List UInt8)
 ·rw [if_pos c2] at H
  have c2b0 : (a0.toList == ([] : List UInt8)) = true := beq_iff_eq.mpr c2
  have c2b1 : (a0.toList != ([] : List UInt8)) = false := bne_eq_false_iff_eq.mpr c2
  clear c2
  obtain rfl := Option.some.inj H
  go_enter Tryd.func54, Tryd.ntmps54
  go_wp2
  go_ret
  exact ⟨by first | rfl | (simp [errW_none, errW_some] <;> rfl) | (simp [*, errW_none, errW_some] <;> rfl), by repeat (first | (with_reducible first | exact HB.out | apply below_alloc | apply pw_below_drewN | apply below_drew1) | exact HB.out)⟩
 ·rw [if_neg c2] at H
  have c2b0 : (a0.toList == ([] : List UInt8)) = false := beq_eq_false_iff_ne.mpr c2
  have c2b1 : (a0.toList != ([] : List UInt8)) = true := bne_iff_ne.mpr c2
  by_cases c3 : (a0.size : Int) > 255
  ·rw [if_pos c3] at H
   have c3b0 : decide (255 < (a0.size : Int)) = true := decide_eq_true c3
   have c3b1 : decide (255 < a0.size) = true := decide_eq_true (by omega)
   clear c3
   obtain rfl := Option.some.inj H
   go_enter Tryd.func54, Tryd.ntmps54
   go_wp2
   go_ret
   exact ⟨by first | rfl | (simp [errW_none, errW_some] <;> rfl) | (simp [*, errW_none, errW_some] <;> rfl), by repeat (first | (with_reducible first | exact HB.out | apply below_alloc | apply pw_below_drewN | apply below_drew1) | exact HB.out)⟩
  ·rw [if_neg c3] at H
   have c3b0 : decide (255 < (a0.size : Int)) = false := decide_eq_false c3
   have c3b1 : decide (255 < a0.size) = false := decide_eq_false (by omega)
   clear c3
   replace H := Option.bind_eq_some_iff.mp H
   obtain ⟨t104, A40, H⟩ := H
   replace H : (if t104 = true then (some 51) else (if a0.toList = ([46] : List UInt8) then (some 52) else (if a0.toList = ([46, 46] : List UInt8) then (some 52) else (some 0)))) = some r := H
   have A4 := Aside0.mk A40
   clear A40
   by_cases c5 : t104 = true
   ·subst c5
    have H1 : (some 51) = some r := by rw [if_pos rfl] at H; exact H
    clear H
    have H := H1
    clear H1
    obtain rfl := Option.some.inj H
    go_enter Tryd.func54, Tryd.ntmps54
    go_wp2_with (first | ((with_reducible refine gate_callee (f := 70) rfl ?_); refine goesL_ (some 12) rfl rfl Tryd.func70 (by kernel_rfl) rfl #[.string a0, .string (⟨#[47, 0]⟩ : ByteArray)] rfl (by (try simp only [List.map_toArray, List.map_cons, List.map_nil]); first | done | rfl | (simp only [List.length_drop, List.length_take]; rfl)) ?_; (with_reducible refine (strings_ContainsAny.calls a0 (⟨#[47, 0]⟩ : ByteArray) true _ A4.out).mono ?_); rintro e w6 ⟨rfl, hb⟩; refine ⟨_, rfl, ?_⟩; have n0_ := Aside0.mk (below_step (by repeat (first | (with_reducible first | exact HB.out | apply below_alloc | apply pw_below_drewN | apply below_drew1) | exact HB.out)) hb); clear HB; have HB := n0_; clear n0_; (try clear hb); (try clear hb2); (try clear hk); (try clear hi)))
    go_ret
    exact ⟨by first | rfl | (simp [errW_none, errW_some] <;> rfl) | (simp [*, errW_none, errW_some] <;> rfl), by repeat (first | (with_reducible first | exact HB.out | apply below_alloc | apply pw_below_drewN | apply below_drew1) | exact HB.out)⟩
   ·replace c5 := Bool.eq_false_iff.mpr c5
    subst c5
    have H1 : (if a0.toList = ([46] : List UInt8) then (some 52) else (if a0.toList = ([46, 46] : List UInt8) then (some 52) else (some 0))) = some r := by rw [if_neg (show ¬ (false = true) by decide)] at H; exact H
    clear H
    have H := H1
    clear H1
    by_cases c7 : a0.toList = ([46] : List UInt8)
    ·rw [if_pos c7] at H
     have c7b0 : (a0.toList == ([46] : List UInt8)) = true := beq_iff_eq.mpr c7
     have c7b1 : (a0.toList != ([46] : List UInt8)) = false := bne_eq_false_iff_eq.mpr c7
     clear c7
     obtain rfl := Option.some.inj H
     go_enter Tryd.func54, Tryd.ntmps54
     go_wp2_with (first | ((with_reducible refine gate_callee (f := 70) rfl ?_); refine goesL_ (some 12) rfl rfl Tryd.func70 (by kernel_rfl) rfl #[.string a0, .string (⟨#[47, 0]⟩ : ByteArray)] rfl (by (try simp only [List.map_toArray, List.map_cons, List.map_nil]); first | done | rfl | (simp only [List.length_drop, List.length_take]; rfl)) ?_; (with_reducible refine (strings_ContainsAny.calls a0 (⟨#[47, 0]⟩ : ByteArray) false _ A4.out).mono ?_); rintro e w8 ⟨rfl, hb⟩; refine ⟨_, rfl, ?_⟩; have n0_ := Aside0.mk (below_step (by repeat (first | (with_reducible first | exact HB.out | apply below_alloc | apply pw_below_drewN | apply below_drew1) | exact HB.out)) hb); clear HB; have HB := n0_; clear n0_; (try clear hb); (try clear hb2); (try clear hk); (try clear hi)))
     go_ret
     exact ⟨by first | rfl | (simp [errW_none, errW_some] <;> rfl) | (simp [*, errW_none, errW_some] <;> rfl), by repeat (first | (with_reducible first | exact HB.out | apply below_alloc | apply pw_below_drewN | apply below_drew1) | exact HB.out)⟩
    ·rw [if_neg c7] at H
     have c7b0 : (a0.toList == ([46] : List UInt8)) = false := beq_eq_false_iff_ne.mpr c7
     have c7b1 : (a0.toList != ([46] : List UInt8)) = true := bne_iff_ne.mpr c7
     by_cases c9 : a0.toList = ([46, 46] : List UInt8)
     ·rw [if_pos c9] at H
      have c9b0 : (a0.toList == ([46, 46] : List UInt8)) = true := beq_iff_eq.mpr c9
      have c9b1 : (a0.toList != ([46, 46] : List UInt8)) = false := bne_eq_false_iff_eq.mpr c9
      clear c9
      obtain rfl := Option.some.inj H
      go_enter Tryd.func54, Tryd.ntmps54
      go_wp2_with (first | ((with_reducible refine gate_callee (f := 70) rfl ?_); refine goesL_ (some 12) rfl rfl Tryd.func70 (by kernel_rfl) rfl #[.string a0, .string (⟨#[47, 0]⟩ : ByteArray)] rfl (by (try simp only [List.map_toArray, List.map_cons, List.map_nil]); first | done | rfl | (simp only [List.length_drop, List.length_take]; rfl)) ?_; (with_reducible refine (strings_ContainsAny.calls a0 (⟨#[47, 0]⟩ : ByteArray) false _ A4.out).mono ?_); rintro e w10 ⟨rfl, hb⟩; refine ⟨_, rfl, ?_⟩; have n0_ := Aside0.mk (below_step (by repeat (first | (with_reducible first | exact HB.out | apply below_alloc | apply pw_below_drewN | apply below_drew1) | exact HB.out)) hb); clear HB; have HB := n0_; clear n0_; (try clear hb); (try clear hb2); (try clear hk); (try clear hi)))
      go_ret
      exact ⟨by first | rfl | (simp [errW_none, errW_some] <;> rfl) | (simp [*, errW_none, errW_some] <;> rfl), by repeat (first | (with_reducible first | exact HB.out | apply below_alloc | apply pw_below_drewN | apply below_drew1) | exact HB.out)⟩
     ·rw [if_neg c9] at H
      have c9b0 : (a0.toList == ([46, 46] : List UInt8)) = false := beq_eq_false_iff_ne.mpr c9
      have c9b1 : (a0.toList != ([46, 46] : List UInt8)) = true := bne_iff_ne.mpr c9
      obtain rfl := Option.some.inj H
      go_enter Tryd.func54, Tryd.ntmps54
      go_wp2_with (first | ((with_reducible refine gate_callee (f := 70) rfl ?_); refine goesL_ (some 12) rfl rfl Tryd.func70 (by kernel_rfl) rfl #[.string a0, .string (⟨#[47, 0]⟩ : ByteArray)] rfl (by (try simp only [List.map_toArray, List.map_cons, List.map_nil]); first | done | rfl | (simp only [List.length_drop, List.length_take]; rfl)) ?_; (with_reducible refine (strings_ContainsAny.calls a0 (⟨#[47, 0]⟩ : ByteArray) false _ A4.out).mono ?_); rintro e w11 ⟨rfl, hb⟩; refine ⟨_, rfl, ?_⟩; have n0_ := Aside0.mk (below_step (by repeat (first | (with_reducible first | exact HB.out | apply below_alloc | apply pw_below_drewN | apply below_drew1) | exact HB.out)) hb); clear HB; have HB := n0_; clear n0_; (try clear hb); (try clear hb2); (try clear hk); (try clear hi)))
      go_ret
      exact ⟨by first | rfl | (simp [errW_none, errW_some] <;> rfl) | (simp [*, errW_none, errW_some] <;> rfl), by repeat (first | (with_reducible first | exact HB.out | apply below_alloc | apply pw_below_drewN | apply below_drew1) | exact HB.out)⟩
def tree_Target.f (a0 : ByteArray) : Option (Int) := if a0.toList = ([] : List UInt8) then (some 63) else ((strings_IndexByte.f a0 0).bind fun t105 => (if t105 ≥ 0 then (some 63) else (some 0)))
set_option maxHeartbeats 8000000 in
set_option maxRecDepth 100000 in
theorem tree_Target.calls (a0 : ByteArray) (r : Int) (w : World) (h : tree_Target.f a0 = some r) :
  Calls Tryd.prog 80 #[.string a0] w fun e w' => e = .returned (.int .i64 r) ∧ Drawn0 w w' := by
 have H : (if a0.toList = ([] : List UInt8) then (some 63) else ((strings_IndexByte.f a0 0).bind fun t105 => (if t105 ≥ 0 then (some 63) else (some 0)))) = some r := h
 clear h
 by_cases c2 : a0.toList = ([] : List UInt8)
 ·rw [if_pos c2] at H
  have c2b0 : (a0.toList == ([] : List UInt8)) = true := beq_iff_eq.mpr c2
  have c2b1 : (a0.toList != ([] : List UInt8)) = false := bne_eq_false_iff_eq.mpr c2
  clear c2
  obtain rfl := Option.some.inj H
  go_enter Tryd.func80, Tryd.ntmps80
  go_wp2
  go_ret
  exact ⟨by first | rfl | (simp; done) | (simp [*]; done), by repeat (first | exact Drawn0.refl _ | apply Drawn0.step)⟩
 ·rw [if_neg c2] at H
  have c2b0 : (a0.toList == ([] : List UInt8)) = false := beq_eq_false_iff_ne.mpr c2
  have c2b1 : (a0.toList != ([] : List UInt8)) = true := bne_iff_ne.mpr c2
  replace H := Option.bind_eq_some_iff.mp H
  obtain ⟨t105, A30, H⟩ := H
  replace H : (if t105 ≥ 0 then (some 63) else (some 0)) = some r := H
  have A3 := Aside0.mk A30
  clear A30
  by_cases c4 : t105 ≥ 0
  ·rw [if_pos c4] at H
   have c4b0 : decide (0 ≤ t105) = true := decide_eq_true c4
   clear c4
   obtain rfl := Option.some.inj H
   go_enter Tryd.func80, Tryd.ntmps80
   go_wp2_with (first | (go_at_call 89; (with_reducible refine (strings_IndexByte.calls a0 0 t105 _ A3.out).mono ?_); rintro e w' ⟨rfl, ⟨nd, rfl⟩⟩))
   go_ret
   exact ⟨by first | rfl | (simp; (try clear A3); done) | (simp [*]; done), by repeat (first | exact Drawn0.refl _ | apply Drawn0.step)⟩
  ·rw [if_neg c4] at H
   have c4b0 : decide (0 ≤ t105) = false := decide_eq_false c4
   clear c4
   obtain rfl := Option.some.inj H
   go_enter Tryd.func80, Tryd.ntmps80
   go_wp2_with (first | (go_at_call 89; (with_reducible refine (strings_IndexByte.calls a0 0 t105 _ A3.out).mono ?_); rintro e w' ⟨rfl, ⟨nd, rfl⟩⟩))
   go_ret
   exact ⟨by first | rfl | (simp; (try clear A3); done) | (simp [*]; done), by repeat (first | exact Drawn0.refl _ | apply Drawn0.step)⟩
def tree_fields.f (a0_0 : Int) (a0_1 : Bool) (a0_2 : ByteArray) (l0_3 : List (S63)) : Option (Int) := if a0_0 = 1 then (if (l0_3.length : Int) > 0 then (some 62) else (some 0)) else (if a0_0 = 2 then (if a0_1 = true then (some 62) else (if (l0_3.length : Int) > 0 then (some 62) else ((tree_Target.f a0_2).bind fun t107 => (some t107)))) else (if a0_0 = 3 then (if a0_1 = true then (some 62) else (if a0_2.toList = ([] : List UInt8) then (some 0) else (some 62))) else (some 60)))
set_option maxHeartbeats 8000000 in
set_option maxRecDepth 100000 in
theorem tree_fields.calls (a0_0 : Int) (a0_1 : Bool) (a0_2 : ByteArray) (A0_3 : Option Addr) (c0_3 : Nat) (l0_3 : List (S63)) (r : Int) (w : World) (hr0_3 : Kd.C k63 w A0_3 l0_3.length l0_3) (hc0_3 : l0_3.length ≤ c0_3) (h : tree_fields.f a0_0 a0_1 a0_2 l0_3 = some r) :
  Calls Tryd.prog 71 #[.agg #[.int .i64 a0_0, .bool a0_1, .string a0_2, .slice A0_3 l0_3.length c0_3]] w fun e w' => e = .returned (.int .i64 r) ∧ Below w.heap.size w w' := by
 have hu32 := Tryd.underlying32
 have HR0_3 := Aside0.mk hr0_3
 have HC0_3 := Aside0.mk hc0_3
 clear hr0_3 hc0_3
 have HB := Aside0.mk (Below.refl w.heap.size w)
 have H : (if a0_0 = 1 then (if (l0_3.length : Int) > 0 then (some 62) else (some 0)) else (if a0_0 = 2 then (if a0_1 = true then (some 62) else (if (l0_3.length : Int) > 0 then (some 62) else ((tree_Target.f a0_2).bind fun t107 => (some t107)))) else (if a0_0 = 3 then (if a0_1 = true then (some 62) else (if a0_2.toList = ([] : List UInt8) then (some 0) else (some 62))) else (some 60)))) = some r := h
 clear h
 by_cases c2 : a0_0 = 1
 ·rw [if_pos c2] at H
  have c2b0 : (a0_0 == 1) = true := beq_iff_eq.mpr c2
  have c2b1 : (a0_0 != 1) = false := bne_eq_false_iff_eq.mpr c2
  clear c2
  by_cases c3 : (l0_3.length : Int) > 0
  ·rw [if_pos c3] at H
   have c3b0 : decide (0 < (l0_3.length : Int)) = true := decide_eq_true c3
   have c3b1 : decide (0 < l0_3.length) = true := decide_eq_true (by omega)
   clear c3
   obtain rfl := Option.some.inj H
   go_enter Tryd.func71, Tryd.ntmps71
   go_wp2_with (first | ((with_reducible refine gate_dst (N := 1) rfl ?_); (try (refine gate_guard (by rfl) ?_; dsimp only)); refine box_event ?hg (N := 1) ?hd (cs := #[.int .i64 a0_0, .bool a0_1, .string a0_2, .slice A0_3 l0_3.length c0_3]) (t := 32) ?hr ?_; (case hd => rfl); (case hg => rfl); (case hr => first | (go_simp; done) | (go_simp; rfl)); intro gb106 hg w4 hbox hb; have n0_ := Aside0.mk (below_step (by repeat (first | (with_reducible first | exact HB.out | apply below_alloc | apply pw_below_drewN | apply below_drew1) | exact HB.out)) hb); have n1_ := Aside0.mk (hbox); have n2_ := Aside0.mk ((by rw [hg]; exact (below_size (by repeat (first | (with_reducible first | exact HB.out | apply below_alloc | apply pw_below_drewN | apply below_drew1) | exact HB.out))) : w.heap.size ≤ gb106)); have n3_ := Aside0.mk ((by rw [hg]; exact (below_size (by repeat (first | (with_reducible first | exact HB.out | apply below_alloc | apply pw_below_drewN | apply below_drew1) | exact HB.out))) : w.heap.size ≤ gb106)); clear HB; have HB := n0_; have BK106 := n1_; have GW106 := n2_; have GE106 := n3_; clear n0_ n1_ n2_ n3_; clear hb hbox hg; have hcz5_0 : w4.cell? ⟨gb106, 0, none⟩ = some (.int .i64 a0_0) := (blk_cell BK106.out 0).trans rfl; have hcz5_1 : w4.cell? ⟨gb106, 1, none⟩ = some (.bool a0_1) := (blk_cell BK106.out 1).trans rfl; have hcz5_2 : w4.cell? ⟨gb106, 2, none⟩ = some (.string a0_2) := (blk_cell BK106.out 2).trans rfl; have hcz5_3 : w4.cell? ⟨gb106, 3, none⟩ = some (.slice A0_3 l0_3.length c0_3) := (blk_cell BK106.out 3).trans rfl; have hfz5_0 := blk_frozen BK106.out 0; have hfz5_1 := blk_frozen BK106.out 1; have hfz5_2 := blk_frozen BK106.out 2; have hfz5_3 := blk_frozen BK106.out 3))
   go_ret
   exact ⟨by first | rfl | (simp [errW_none, errW_some] <;> rfl) | (simp [*, errW_none, errW_some] <;> rfl), by repeat (first | (with_reducible first | exact HB.out | apply below_alloc | apply pw_below_drewN | apply below_drew1 | refine below_set ?_ GE106.out) | exact HB.out)⟩
  ·rw [if_neg c3] at H
   have c3b0 : decide (0 < (l0_3.length : Int)) = false := decide_eq_false c3
   have c3b1 : decide (0 < l0_3.length) = false := decide_eq_false (by omega)
   clear c3
   obtain rfl := Option.some.inj H
   go_enter Tryd.func71, Tryd.ntmps71
   go_wp2_with (first | ((with_reducible refine gate_dst (N := 1) rfl ?_); (try (refine gate_guard (by rfl) ?_; dsimp only)); refine box_event ?hg (N := 1) ?hd (cs := #[.int .i64 a0_0, .bool a0_1, .string a0_2, .slice A0_3 l0_3.length c0_3]) (t := 32) ?hr ?_; (case hd => rfl); (case hg => rfl); (case hr => first | (go_simp; done) | (go_simp; rfl)); intro gb106 hg w6 hbox hb; have n0_ := Aside0.mk (below_step (by repeat (first | (with_reducible first | exact HB.out | apply below_alloc | apply pw_below_drewN | apply below_drew1) | exact HB.out)) hb); have n1_ := Aside0.mk (hbox); have n2_ := Aside0.mk ((by rw [hg]; exact (below_size (by repeat (first | (with_reducible first | exact HB.out | apply below_alloc | apply pw_below_drewN | apply below_drew1) | exact HB.out))) : w.heap.size ≤ gb106)); have n3_ := Aside0.mk ((by rw [hg]; exact (below_size (by repeat (first | (with_reducible first | exact HB.out | apply below_alloc | apply pw_below_drewN | apply below_drew1) | exact HB.out))) : w.heap.size ≤ gb106)); clear HB; have HB := n0_; have BK106 := n1_; have GW106 := n2_; have GE106 := n3_; clear n0_ n1_ n2_ n3_; clear hb hbox hg; have hcz7_0 : w6.cell? ⟨gb106, 0, none⟩ = some (.int .i64 a0_0) := (blk_cell BK106.out 0).trans rfl; have hcz7_1 : w6.cell? ⟨gb106, 1, none⟩ = some (.bool a0_1) := (blk_cell BK106.out 1).trans rfl; have hcz7_2 : w6.cell? ⟨gb106, 2, none⟩ = some (.string a0_2) := (blk_cell BK106.out 2).trans rfl; have hcz7_3 : w6.cell? ⟨gb106, 3, none⟩ = some (.slice A0_3 l0_3.length c0_3) := (blk_cell BK106.out 3).trans rfl; have hfz7_0 := blk_frozen BK106.out 0; have hfz7_1 := blk_frozen BK106.out 1; have hfz7_2 := blk_frozen BK106.out 2; have hfz7_3 := blk_frozen BK106.out 3))
   go_ret
   exact ⟨by first | rfl | (simp [errW_none, errW_some] <;> rfl) | (simp [*, errW_none, errW_some] <;> rfl), by repeat (first | (with_reducible first | exact HB.out | apply below_alloc | apply pw_below_drewN | apply below_drew1 | refine below_set ?_ GE106.out) | exact HB.out)⟩
 ·rw [if_neg c2] at H
  have c2b0 : (a0_0 == 1) = false := beq_eq_false_iff_ne.mpr c2
  have c2b1 : (a0_0 != 1) = true := bne_iff_ne.mpr c2
  by_cases c8 : a0_0 = 2
  ·rw [if_pos c8] at H
   have c8b0 : (a0_0 == 2) = true := beq_iff_eq.mpr c8
   have c8b1 : (a0_0 != 2) = false := bne_eq_false_iff_eq.mpr c8
   clear c8
   by_cases c9 : a0_1 = true
   ·subst c9
    have H1 : (some 62) = some r := by rw [if_pos rfl] at H; exact H
    clear H
    have H := H1
    clear H1
    obtain rfl := Option.some.inj H
    go_enter Tryd.func71, Tryd.ntmps71
    go_wp2_with (first | ((with_reducible refine gate_dst (N := 1) rfl ?_); (try (refine gate_guard (by rfl) ?_; dsimp only)); refine box_event ?hg (N := 1) ?hd (cs := #[.int .i64 a0_0, .bool true, .string a0_2, .slice A0_3 l0_3.length c0_3]) (t := 32) ?hr ?_; (case hd => rfl); (case hg => rfl); (case hr => first | (go_simp; done) | (go_simp; rfl)); intro gb106 hg w10 hbox hb; have n0_ := Aside0.mk (below_step (by repeat (first | (with_reducible first | exact HB.out | apply below_alloc | apply pw_below_drewN | apply below_drew1) | exact HB.out)) hb); have n1_ := Aside0.mk (hbox); have n2_ := Aside0.mk ((by rw [hg]; exact (below_size (by repeat (first | (with_reducible first | exact HB.out | apply below_alloc | apply pw_below_drewN | apply below_drew1) | exact HB.out))) : w.heap.size ≤ gb106)); have n3_ := Aside0.mk ((by rw [hg]; exact (below_size (by repeat (first | (with_reducible first | exact HB.out | apply below_alloc | apply pw_below_drewN | apply below_drew1) | exact HB.out))) : w.heap.size ≤ gb106)); clear HB; have HB := n0_; have BK106 := n1_; have GW106 := n2_; have GE106 := n3_; clear n0_ n1_ n2_ n3_; clear hb hbox hg; have hcz11_0 : w10.cell? ⟨gb106, 0, none⟩ = some (.int .i64 a0_0) := (blk_cell BK106.out 0).trans rfl; have hcz11_1 : w10.cell? ⟨gb106, 1, none⟩ = some (.bool true) := (blk_cell BK106.out 1).trans rfl; have hcz11_2 : w10.cell? ⟨gb106, 2, none⟩ = some (.string a0_2) := (blk_cell BK106.out 2).trans rfl; have hcz11_3 : w10.cell? ⟨gb106, 3, none⟩ = some (.slice A0_3 l0_3.length c0_3) := (blk_cell BK106.out 3).trans rfl; have hfz11_0 := blk_frozen BK106.out 0; have hfz11_1 := blk_frozen BK106.out 1; have hfz11_2 := blk_frozen BK106.out 2; have hfz11_3 := blk_frozen BK106.out 3))
    go_ret
    exact ⟨by first | rfl | (simp [errW_none, errW_some] <;> rfl) | (simp [*, errW_none, errW_some] <;> rfl), by repeat (first | (with_reducible first | exact HB.out | apply below_alloc | apply pw_below_drewN | apply below_drew1 | refine below_set ?_ GE106.out) | exact HB.out)⟩
   ·replace c9 := Bool.eq_false_iff.mpr c9
    subst c9
    have H1 : (if (l0_3.length : Int) > 0 then (some 62) else ((tree_Target.f a0_2).bind fun t107 => (some t107))) = some r := by rw [if_neg (show ¬ (false = true) by decide)] at H; exact H
    clear H
    have H := H1
    clear H1
    by_cases c12 : (l0_3.length : Int) > 0
    ·rw [if_pos c12] at H
     have c12b0 : decide (0 < (l0_3.length : Int)) = true := decide_eq_true c12
     have c12b1 : decide (0 < l0_3.length) = true := decide_eq_true (by omega)
     clear c12
     obtain rfl := Option.some.inj H
     go_enter Tryd.func71, Tryd.ntmps71
     go_wp2_with (first | ((with_reducible refine gate_dst (N := 1) rfl ?_); (try (refine gate_guard (by rfl) ?_; dsimp only)); refine box_event ?hg (N := 1) ?hd (cs := #[.int .i64 a0_0, .bool false, .string a0_2, .slice A0_3 l0_3.length c0_3]) (t := 32) ?hr ?_; (case hd => rfl); (case hg => rfl); (case hr => first | (go_simp; done) | (go_simp; rfl)); intro gb106 hg w13 hbox hb; have n0_ := Aside0.mk (below_step (by repeat (first | (with_reducible first | exact HB.out | apply below_alloc | apply pw_below_drewN | apply below_drew1) | exact HB.out)) hb); have n1_ := Aside0.mk (hbox); have n2_ := Aside0.mk ((by rw [hg]; exact (below_size (by repeat (first | (with_reducible first | exact HB.out | apply below_alloc | apply pw_below_drewN | apply below_drew1) | exact HB.out))) : w.heap.size ≤ gb106)); have n3_ := Aside0.mk ((by rw [hg]; exact (below_size (by repeat (first | (with_reducible first | exact HB.out | apply below_alloc | apply pw_below_drewN | apply below_drew1) | exact HB.out))) : w.heap.size ≤ gb106)); clear HB; have HB := n0_; have BK106 := n1_; have GW106 := n2_; have GE106 := n3_; clear n0_ n1_ n2_ n3_; clear hb hbox hg; have hcz14_0 : w13.cell? ⟨gb106, 0, none⟩ = some (.int .i64 a0_0) := (blk_cell BK106.out 0).trans rfl; have hcz14_1 : w13.cell? ⟨gb106, 1, none⟩ = some (.bool false) := (blk_cell BK106.out 1).trans rfl; have hcz14_2 : w13.cell? ⟨gb106, 2, none⟩ = some (.string a0_2) := (blk_cell BK106.out 2).trans rfl; have hcz14_3 : w13.cell? ⟨gb106, 3, none⟩ = some (.slice A0_3 l0_3.length c0_3) := (blk_cell BK106.out 3).trans rfl; have hfz14_0 := blk_frozen BK106.out 0; have hfz14_1 := blk_frozen BK106.out 1; have hfz14_2 := blk_frozen BK106.out 2; have hfz14_3 := blk_frozen BK106.out 3))
     go_ret
     exact ⟨by first | rfl | (simp [errW_none, errW_some] <;> rfl) | (simp [*, errW_none, errW_some] <;> rfl), by repeat (first | (with_reducible first | exact HB.out | apply below_alloc | apply pw_below_drewN | apply below_drew1 | refine below_set ?_ GE106.out) | exact HB.out)⟩
    ·rw [if_neg c12] at H
     have c12b0 : decide (0 < (l0_3.length : Int)) = false := decide_eq_false c12
     have c12b1 : decide (0 < l0_3.length) = false := decide_eq_false (by omega)
     clear c12
     replace H := Option.bind_eq_some_iff.mp H
     obtain ⟨t107, A150, H⟩ := H
     replace H : (some t107) = some r := H
     have A15 := Aside0.mk A150
     clear A150
     obtain rfl := Option.some.inj H
     go_enter Tryd.func71, Tryd.ntmps71
     go_wp2_with (first | ((with_reducible refine gate_dst (N := 1) rfl ?_); (try (refine gate_guard (by rfl) ?_; dsimp only)); refine box_event ?hg (N := 1) ?hd (cs := #[.int .i64 a0_0, .bool false, .string a0_2, .slice A0_3 l0_3.length c0_3]) (t := 32) ?hr ?_; (case hd => rfl); (case hg => rfl); (case hr => first | (go_simp; done) | (go_simp; rfl)); intro gb106 hg w16 hbox hb; have n0_ := Aside0.mk (below_step (by repeat (first | (with_reducible first | exact HB.out | apply below_alloc | apply pw_below_drewN | apply below_drew1) | exact HB.out)) hb); have n1_ := Aside0.mk (hbox); have n2_ := Aside0.mk ((by rw [hg]; exact (below_size (by repeat (first | (with_reducible first | exact HB.out | apply below_alloc | apply pw_below_drewN | apply below_drew1) | exact HB.out))) : w.heap.size ≤ gb106)); have n3_ := Aside0.mk ((by rw [hg]; exact (below_size (by repeat (first | (with_reducible first | exact HB.out | apply below_alloc | apply pw_below_drewN | apply below_drew1) | exact HB.out))) : w.heap.size ≤ gb106)); clear HB; have HB := n0_; have BK106 := n1_; have GW106 := n2_; have GE106 := n3_; clear n0_ n1_ n2_ n3_; clear hb hbox hg; have hcz17_0 : w16.cell? ⟨gb106, 0, none⟩ = some (.int .i64 a0_0) := (blk_cell BK106.out 0).trans rfl; have hcz17_1 : w16.cell? ⟨gb106, 1, none⟩ = some (.bool false) := (blk_cell BK106.out 1).trans rfl; have hcz17_2 : w16.cell? ⟨gb106, 2, none⟩ = some (.string a0_2) := (blk_cell BK106.out 2).trans rfl; have hcz17_3 : w16.cell? ⟨gb106, 3, none⟩ = some (.slice A0_3 l0_3.length c0_3) := (blk_cell BK106.out 3).trans rfl; have hfz17_0 := blk_frozen BK106.out 0; have hfz17_1 := blk_frozen BK106.out 1; have hfz17_2 := blk_frozen BK106.out 2; have hfz17_3 := blk_frozen BK106.out 3) | ((with_reducible refine gate_callee (f := 80) rfl ?_); refine goesL_ (some 23) rfl rfl Tryd.func80 (by kernel_rfl) rfl #[.string a0_2] rfl (by (try simp only [List.map_toArray, List.map_cons, List.map_nil]); first | done | rfl | (simp only [List.length_drop, List.length_take]; rfl)) ?_; (with_reducible refine (tree_Target.calls a0_2 t107 _ A15.out).mono ?_); rintro e w' ⟨rfl, ⟨nd, rfl⟩⟩; refine ⟨_, rfl, ?_⟩))
     go_ret
     exact ⟨by first | rfl | (simp [errW_none, errW_some] <;> rfl) | (simp [*, errW_none, errW_some] <;> rfl), by repeat (first | (with_reducible first | exact HB.out | apply below_alloc | apply pw_below_drewN | apply below_drew1 | refine below_set ?_ GE106.out) | exact HB.out)⟩
  ·rw [if_neg c8] at H
   have c8b0 : (a0_0 == 2) = false := beq_eq_false_iff_ne.mpr c8
   have c8b1 : (a0_0 != 2) = true := bne_iff_ne.mpr c8
   by_cases c18 : a0_0 = 3
   ·rw [if_pos c18] at H
    have c18b0 : (a0_0 == 3) = true := beq_iff_eq.mpr c18
    have c18b1 : (a0_0 != 3) = false := bne_eq_false_iff_eq.mpr c18
    clear c18
    by_cases c19 : a0_1 = true
    ·subst c19
     have H1 : (some 62) = some r := by rw [if_pos rfl] at H; exact H
     clear H
     have H := H1
     clear H1
     obtain rfl := Option.some.inj H
     go_enter Tryd.func71, Tryd.ntmps71
     go_wp2_with (first | ((with_reducible refine gate_dst (N := 1) rfl ?_); (try (refine gate_guard (by rfl) ?_; dsimp only)); refine box_event ?hg (N := 1) ?hd (cs := #[.int .i64 a0_0, .bool true, .string a0_2, .slice A0_3 l0_3.length c0_3]) (t := 32) ?hr ?_; (case hd => rfl); (case hg => rfl); (case hr => first | (go_simp; done) | (go_simp; rfl)); intro gb106 hg w20 hbox hb; have n0_ := Aside0.mk (below_step (by repeat (first | (with_reducible first | exact HB.out | apply below_alloc | apply pw_below_drewN | apply below_drew1) | exact HB.out)) hb); have n1_ := Aside0.mk (hbox); have n2_ := Aside0.mk ((by rw [hg]; exact (below_size (by repeat (first | (with_reducible first | exact HB.out | apply below_alloc | apply pw_below_drewN | apply below_drew1) | exact HB.out))) : w.heap.size ≤ gb106)); have n3_ := Aside0.mk ((by rw [hg]; exact (below_size (by repeat (first | (with_reducible first | exact HB.out | apply below_alloc | apply pw_below_drewN | apply below_drew1) | exact HB.out))) : w.heap.size ≤ gb106)); clear HB; have HB := n0_; have BK106 := n1_; have GW106 := n2_; have GE106 := n3_; clear n0_ n1_ n2_ n3_; clear hb hbox hg; have hcz21_0 : w20.cell? ⟨gb106, 0, none⟩ = some (.int .i64 a0_0) := (blk_cell BK106.out 0).trans rfl; have hcz21_1 : w20.cell? ⟨gb106, 1, none⟩ = some (.bool true) := (blk_cell BK106.out 1).trans rfl; have hcz21_2 : w20.cell? ⟨gb106, 2, none⟩ = some (.string a0_2) := (blk_cell BK106.out 2).trans rfl; have hcz21_3 : w20.cell? ⟨gb106, 3, none⟩ = some (.slice A0_3 l0_3.length c0_3) := (blk_cell BK106.out 3).trans rfl; have hfz21_0 := blk_frozen BK106.out 0; have hfz21_1 := blk_frozen BK106.out 1; have hfz21_2 := blk_frozen BK106.out 2; have hfz21_3 := blk_frozen BK106.out 3))
     go_ret
     exact ⟨by first | rfl | (simp [errW_none, errW_some] <;> rfl) | (simp [*, errW_none, errW_some] <;> rfl), by repeat (first | (with_reducible first | exact HB.out | apply below_alloc | apply pw_below_drewN | apply below_drew1 | refine below_set ?_ GE106.out) | exact HB.out)⟩
    ·replace c19 := Bool.eq_false_iff.mpr c19
     subst c19
     have H1 : (if a0_2.toList = ([] : List UInt8) then (some 0) else (some 62)) = some r := by rw [if_neg (show ¬ (false = true) by decide)] at H; exact H
     clear H
     have H := H1
     clear H1
     by_cases c22 : a0_2.toList = ([] : List UInt8)
     ·rw [if_pos c22] at H
      have c22b0 : (a0_2.toList == ([] : List UInt8)) = true := beq_iff_eq.mpr c22
      have c22b1 : (a0_2.toList != ([] : List UInt8)) = false := bne_eq_false_iff_eq.mpr c22
      clear c22
      obtain rfl := Option.some.inj H
      go_enter Tryd.func71, Tryd.ntmps71
      go_wp2_with (first | ((with_reducible refine gate_dst (N := 1) rfl ?_); (try (refine gate_guard (by rfl) ?_; dsimp only)); refine box_event ?hg (N := 1) ?hd (cs := #[.int .i64 a0_0, .bool false, .string a0_2, .slice A0_3 l0_3.length c0_3]) (t := 32) ?hr ?_; (case hd => rfl); (case hg => rfl); (case hr => first | (go_simp; done) | (go_simp; rfl)); intro gb106 hg w23 hbox hb; have n0_ := Aside0.mk (below_step (by repeat (first | (with_reducible first | exact HB.out | apply below_alloc | apply pw_below_drewN | apply below_drew1) | exact HB.out)) hb); have n1_ := Aside0.mk (hbox); have n2_ := Aside0.mk ((by rw [hg]; exact (below_size (by repeat (first | (with_reducible first | exact HB.out | apply below_alloc | apply pw_below_drewN | apply below_drew1) | exact HB.out))) : w.heap.size ≤ gb106)); have n3_ := Aside0.mk ((by rw [hg]; exact (below_size (by repeat (first | (with_reducible first | exact HB.out | apply below_alloc | apply pw_below_drewN | apply below_drew1) | exact HB.out))) : w.heap.size ≤ gb106)); clear HB; have HB := n0_; have BK106 := n1_; have GW106 := n2_; have GE106 := n3_; clear n0_ n1_ n2_ n3_; clear hb hbox hg; have hcz24_0 : w23.cell? ⟨gb106, 0, none⟩ = some (.int .i64 a0_0) := (blk_cell BK106.out 0).trans rfl; have hcz24_1 : w23.cell? ⟨gb106, 1, none⟩ = some (.bool false) := (blk_cell BK106.out 1).trans rfl; have hcz24_2 : w23.cell? ⟨gb106, 2, none⟩ = some (.string a0_2) := (blk_cell BK106.out 2).trans rfl; have hcz24_3 : w23.cell? ⟨gb106, 3, none⟩ = some (.slice A0_3 l0_3.length c0_3) := (blk_cell BK106.out 3).trans rfl; have hfz24_0 := blk_frozen BK106.out 0; have hfz24_1 := blk_frozen BK106.out 1; have hfz24_2 := blk_frozen BK106.out 2; have hfz24_3 := blk_frozen BK106.out 3))
      go_ret
      exact ⟨by first | rfl | (simp [errW_none, errW_some] <;> rfl) | (simp [*, errW_none, errW_some] <;> rfl), by repeat (first | (with_reducible first | exact HB.out | apply below_alloc | apply pw_below_drewN | apply below_drew1 | refine below_set ?_ GE106.out) | exact HB.out)⟩
     ·rw [if_neg c22] at H
      have c22b0 : (a0_2.toList == ([] : List UInt8)) = false := beq_eq_false_iff_ne.mpr c22
      have c22b1 : (a0_2.toList != ([] : List UInt8)) = true := bne_iff_ne.mpr c22
      obtain rfl := Option.some.inj H
      go_enter Tryd.func71, Tryd.ntmps71
      go_wp2_with (first | ((with_reducible refine gate_dst (N := 1) rfl ?_); (try (refine gate_guard (by rfl) ?_; dsimp only)); refine box_event ?hg (N := 1) ?hd (cs := #[.int .i64 a0_0, .bool false, .string a0_2, .slice A0_3 l0_3.length c0_3]) (t := 32) ?hr ?_; (case hd => rfl); (case hg => rfl); (case hr => first | (go_simp; done) | (go_simp; rfl)); intro gb106 hg w25 hbox hb; have n0_ := Aside0.mk (below_step (by repeat (first | (with_reducible first | exact HB.out | apply below_alloc | apply pw_below_drewN | apply below_drew1) | exact HB.out)) hb); have n1_ := Aside0.mk (hbox); have n2_ := Aside0.mk ((by rw [hg]; exact (below_size (by repeat (first | (with_reducible first | exact HB.out | apply below_alloc | apply pw_below_drewN | apply below_drew1) | exact HB.out))) : w.heap.size ≤ gb106)); have n3_ := Aside0.mk ((by rw [hg]; exact (below_size (by repeat (first | (with_reducible first | exact HB.out | apply below_alloc | apply pw_below_drewN | apply below_drew1) | exact HB.out))) : w.heap.size ≤ gb106)); clear HB; have HB := n0_; have BK106 := n1_; have GW106 := n2_; have GE106 := n3_; clear n0_ n1_ n2_ n3_; clear hb hbox hg; have hcz26_0 : w25.cell? ⟨gb106, 0, none⟩ = some (.int .i64 a0_0) := (blk_cell BK106.out 0).trans rfl; have hcz26_1 : w25.cell? ⟨gb106, 1, none⟩ = some (.bool false) := (blk_cell BK106.out 1).trans rfl; have hcz26_2 : w25.cell? ⟨gb106, 2, none⟩ = some (.string a0_2) := (blk_cell BK106.out 2).trans rfl; have hcz26_3 : w25.cell? ⟨gb106, 3, none⟩ = some (.slice A0_3 l0_3.length c0_3) := (blk_cell BK106.out 3).trans rfl; have hfz26_0 := blk_frozen BK106.out 0; have hfz26_1 := blk_frozen BK106.out 1; have hfz26_2 := blk_frozen BK106.out 2; have hfz26_3 := blk_frozen BK106.out 3))
      go_ret
      exact ⟨by first | rfl | (simp [errW_none, errW_some] <;> rfl) | (simp [*, errW_none, errW_some] <;> rfl), by repeat (first | (with_reducible first | exact HB.out | apply below_alloc | apply pw_below_drewN | apply below_drew1 | refine below_set ?_ GE106.out) | exact HB.out)⟩
   ·rw [if_neg c18] at H
    have c18b0 : (a0_0 == 3) = false := beq_eq_false_iff_ne.mpr c18
    have c18b1 : (a0_0 != 3) = true := bne_iff_ne.mpr c18
    obtain rfl := Option.some.inj H
    go_enter Tryd.func71, Tryd.ntmps71
    go_wp2_with (first | ((with_reducible refine gate_dst (N := 1) rfl ?_); (try (refine gate_guard (by rfl) ?_; dsimp only)); refine box_event ?hg (N := 1) ?hd (cs := #[.int .i64 a0_0, .bool a0_1, .string a0_2, .slice A0_3 l0_3.length c0_3]) (t := 32) ?hr ?_; (case hd => rfl); (case hg => rfl); (case hr => first | (go_simp; done) | (go_simp; rfl)); intro gb106 hg w27 hbox hb; have n0_ := Aside0.mk (below_step (by repeat (first | (with_reducible first | exact HB.out | apply below_alloc | apply pw_below_drewN | apply below_drew1) | exact HB.out)) hb); have n1_ := Aside0.mk (hbox); have n2_ := Aside0.mk ((by rw [hg]; exact (below_size (by repeat (first | (with_reducible first | exact HB.out | apply below_alloc | apply pw_below_drewN | apply below_drew1) | exact HB.out))) : w.heap.size ≤ gb106)); have n3_ := Aside0.mk ((by rw [hg]; exact (below_size (by repeat (first | (with_reducible first | exact HB.out | apply below_alloc | apply pw_below_drewN | apply below_drew1) | exact HB.out))) : w.heap.size ≤ gb106)); clear HB; have HB := n0_; have BK106 := n1_; have GW106 := n2_; have GE106 := n3_; clear n0_ n1_ n2_ n3_; clear hb hbox hg; have hcz28_0 : w27.cell? ⟨gb106, 0, none⟩ = some (.int .i64 a0_0) := (blk_cell BK106.out 0).trans rfl; have hcz28_1 : w27.cell? ⟨gb106, 1, none⟩ = some (.bool a0_1) := (blk_cell BK106.out 1).trans rfl; have hcz28_2 : w27.cell? ⟨gb106, 2, none⟩ = some (.string a0_2) := (blk_cell BK106.out 2).trans rfl; have hcz28_3 : w27.cell? ⟨gb106, 3, none⟩ = some (.slice A0_3 l0_3.length c0_3) := (blk_cell BK106.out 3).trans rfl; have hfz28_0 := blk_frozen BK106.out 0; have hfz28_1 := blk_frozen BK106.out 1; have hfz28_2 := blk_frozen BK106.out 2; have hfz28_3 := blk_frozen BK106.out 3))
    go_ret
    exact ⟨by first | rfl | (simp [errW_none, errW_some] <;> rfl) | (simp [*, errW_none, errW_some] <;> rfl), by repeat (first | (with_reducible first | exact HB.out | apply below_alloc | apply pw_below_drewN | apply below_drew1 | refine below_set ?_ GE106.out) | exact HB.out)⟩
def depotlaw06_leaf.f (a0 : ByteArray) : Option (Int × Bool × ByteArray × (List (S63))) := some (1, false, a0, ([] : List (S63)))
mutual
def depotref03_Framed.j0 : Nat → Int → Bool → Option (Int)
 | 0, _, _ => none
 | k + 1, x0, x8 => if x8 = true then (some 0) else (depotref03_Framed.l0 k x0)
def depotref03_Framed.l0 : Nat → Int → Option (Int)
 | 0, _ => none
 | k + 1, x0 => if (Int.tmod x0 8) = 0 then (some (wrap64 (x0 + 8))) else (depotref03_Framed.l0 k (wrap64 (x0 + 1)))
end
def depotref03_Framed.f (k : Nat) (a0 : Int) : Option (Int) := if a0 < 0 then (depotref03_Framed.j0 k a0 true) else (depotref03_Framed.j0 k a0 (decide (a0 > 1099511627776)))
def depotref06_room.l0 : Nat → List ByteArray → Int → Int → Option (Int)
 | 0, _, _, _ => none
 | k + 1, x0, x3, x4 => if x4 < (x0.length : Int) then (if 0 ≤ x4 then ((depotref03_Framed.f k ((rdOf ByteArray.empty x0 x4).size : Int)).bind fun t111 => (depotref06_room.l0 k x0 (wrap64 (x3 + t111)) (wrap64 (x4 + 1)))) else (none)) else (some x3)
def depotref06_room.f (k : Nat) (l0 : List ByteArray) : Option (Int) := depotref06_room.l0 k l0 0 0
end
end Go.Proofs.YtnemeeidomceiaaDoor.PTreeChecks
end
section
namespace Go.Proofs.YtnemeeidomceiaaDoor.PTreeChecks
open Go.RowKit Go.Proofs.YtnemeeidomceiaaDoorW.PrintWords Go.Proofs.YtnemeeidomceiaaDoorW.PrintLast Go.Proofs.YtnemeeidomceiaaDoorW.PrintMore
attribute [local go_sem] max2_int min2_int max_two min_two max_three min_three max_four min_four   -- for this text's walks alone
set_option linter.unusedVariables false
set_option linter.unusedSimpArgs false
noncomputable section
mutual
def depotref06_Own.l0 : Nat → Bool → Int → Int → Bool → ByteArray → List (S63) → Option (Int × Int)
 | 0, _, _, _, _, _, _ => none
 | k + 1, x4, x5, x113000, x113001, x113002, x113003 => if x5 < (x113002.size : Int) then (if 0 ≤ x5 then (if (bt x113002 x5) = 0 then (depotref06_Own.l0 k false (wrap64 (x5 + 1)) x113000 x113001 x113002 x113003) else (depotref06_Own.l0 k x4 (wrap64 (x5 + 1)) x113000 x113001 x113002 x113003)) else (none)) else (if x113000 = 1 then (if (x113003.length : Int) = 0 then ((depotref06_room.f k (([(⟨#[40]⟩ : ByteArray), (⟨#[116, 121, 112, 101]⟩ : ByteArray), (⟨#[114, 101, 103, 117, 108, 97, 114]⟩ : ByteArray), (⟨#[99, 111, 110, 116, 101, 110, 116, 115]⟩ : ByteArray), x113002, (⟨#[41]⟩ : ByteArray)] : List ByteArray))).bind fun t116 => (if x113001 = true then ((depotref06_room.f k (([(⟨#[101, 120, 101, 99, 117, 116, 97, 98, 108, 101]⟩ : ByteArray), (⟨#[]⟩ : ByteArray)] : List ByteArray))).bind fun t120 => (some (0, wrap64 (t116 + t120)))) else (some (0, t116)))) else (some (62, 0))) else (if x113000 = 2 then (if x113001 = true then (depotref06_Own.j1 k x4 true x113000 x113001 x113002 x113003) else (depotref06_Own.j1 k x4 ((x113003.length : Int) != 0) x113000 x113001 x113002 x113003)) else (if x113000 = 3 then (if x113001 = true then (some (62, 0)) else (if x113002.toList = ([] : List UInt8) then ((depotref06_room.f k (([(⟨#[40]⟩ : ByteArray), (⟨#[116, 121, 112, 101]⟩ : ByteArray), (⟨#[100, 105, 114, 101, 99, 116, 111, 114, 121]⟩ : ByteArray), (⟨#[41]⟩ : ByteArray)] : List ByteArray))).bind fun t128 => (some (0, t128))) else (some (62, 0)))) else (some (60, 0)))))
def depotref06_Own.j1 : Nat → Bool → Bool → Int → Bool → ByteArray → List (S63) → Option (Int × Int)
 | 0, _, _, _, _, _, _ => none
 | k + 1, x4, x51, x113000, x113001, x113002, x113003 => if x51 = true then (some (62, 0)) else (if x4 = true then ((depotref06_room.f k (([(⟨#[40]⟩ : ByteArray), (⟨#[116, 121, 112, 101]⟩ : ByteArray), (⟨#[115, 121, 109, 108, 105, 110, 107]⟩ : ByteArray), (⟨#[116, 97, 114, 103, 101, 116]⟩ : ByteArray), x113002, (⟨#[41]⟩ : ByteArray)] : List ByteArray))).bind fun t124 => (some (0, t124))) else (some (63, 0)))
end
def depotref06_Own.f (k : Nat) (a0_0 : Int) (a0_1 : Bool) (a0_2 : ByteArray) (l0_3 : List (S63)) : Option (Int × Int) := depotref06_Own.l0 k (decide ((a0_2.size : Int) > 0)) 0 a0_0 a0_1 a0_2 l0_3
mutual
def depotref05_Check.l0 : Nat → ByteArray → Int → Int → Option (Int)
 | 0, _, _, _ => none
 | k + 1, x0, x3, x4 => if x4 < (x0.size : Int) then (if 0 ≤ x4 then (if (bt x0 x4) = 47 then (depotref05_Check.j1 k x0 x3 x4 true) else (depotref05_Check.j1 k x0 x3 x4 ((bt x0 x4) == 0))) else (none)) else (if x3 = (x0.size : Int) then (if x3 ≤ 2 then (some 52) else (some 0)) else (some 0))
def depotref05_Check.j1 : Nat → ByteArray → Int → Int → Bool → Option (Int)
 | 0, _, _, _, _ => none
 | k + 1, x0, x3, x4, x26 => if x26 = true then (some 51) else (if 0 ≤ x4 then (if x4 < (x0.size : Int) then (if (bt x0 x4) = 46 then (depotref05_Check.l0 k x0 (wrap64 (x3 + 1)) (wrap64 (x4 + 1))) else (depotref05_Check.l0 k x0 x3 (wrap64 (x4 + 1)))) else (none)) else (none))
end
def depotref05_Check.f (k : Nat) (a0 : ByteArray) : Option (Int) := if (a0.size : Int) = 0 then (some 50) else (if (a0.size : Int) > 255 then (some 6) else (depotref05_Check.l0 k a0 0 0))
end
end Go.Proofs.YtnemeeidomceiaaDoor.PTreeChecks
end
section
namespace Go.Proofs.YtnemeeidomceiaaDoor.PTreeChecks
open Go.RowKit Go.Proofs.YtnemeeidomceiaaDoorW.PrintWords Go.Proofs.YtnemeeidomceiaaDoorW.PrintLast Go.Proofs.YtnemeeidomceiaaDoorW.PrintMore
attribute [local go_sem] max2_int min2_int max_two min_two max_three min_three max_four min_four   -- for this text's walks alone
set_option linter.unusedVariables false
set_option linter.unusedSimpArgs false
noncomputable section
mutual
def depotref05_Compare.l0 : Nat → ByteArray → ByteArray → Int → Option (Int)
 | 0, _, _, _ => none
 | k + 1, x0, x1, x5 => if x5 < (x0.size : Int) then (depotref05_Compare.j1 k x0 x1 x5 true) else (depotref05_Compare.j1 k x0 x1 x5 (decide (x5 < (x1.size : Int))))
def depotref05_Compare.j1 : Nat → ByteArray → ByteArray → Int → Bool → Option (Int)
 | 0, _, _, _, _ => none
 | k + 1, x0, x1, x5, x15 => if x15 = true then (if x5 = (x0.size : Int) then (some (-1)) else (if x5 = (x1.size : Int) then (depotref05_Compare.j2 k x0 x1 x5 true) else (if 0 ≤ x5 then (if x5 < (x0.size : Int) then (if x5 < (x1.size : Int) then (depotref05_Compare.j2 k x0 x1 x5 (decide ((bt x0 x5) > (bt x1 x5)))) else (none)) else (none)) else (none)))) else (some 0)
def depotref05_Compare.j2 : Nat → ByteArray → ByteArray → Int → Bool → Option (Int)
 | 0, _, _, _, _ => none
 | k + 1, x0, x1, x5, x34 => if x34 = true then (some 1) else (if 0 ≤ x5 then (if x5 < (x0.size : Int) then (if x5 < (x1.size : Int) then (if (bt x0 x5) < (bt x1 x5) then (some (-1)) else (depotref05_Compare.l0 k x0 x1 (wrap64 (x5 + 1)))) else (none)) else (none)) else (none))
end
def depotref05_Compare.f (k : Nat) (a0 : ByteArray) (a1 : ByteArray) : Option (Int) := depotref05_Compare.l0 k a0 a1 0
def depotref06_Magic.f (k : Nat)  : Option (Int) := (depotref06_room.f k (([(⟨#[100, 101, 112, 111, 116, 45, 97, 114, 99, 104, 105, 118, 101, 45, 49]⟩ : ByteArray)] : List ByteArray))).bind fun t132 => (some t132)
def depotref06_Entry.f (k : Nat) (a0 : ByteArray) : Option (Int) := (depotref06_room.f k (([(⟨#[101, 110, 116, 114, 121]⟩ : ByteArray), (⟨#[40]⟩ : ByteArray), (⟨#[110, 97, 109, 101]⟩ : ByteArray), a0, (⟨#[110, 111, 100, 101]⟩ : ByteArray), (⟨#[41]⟩ : ByteArray)] : List ByteArray))).bind fun t136 => (some t136)
end
end Go.Proofs.YtnemeeidomceiaaDoor.PTreeChecks
end
section
namespace Go.Proofs.YtnemeeidomceiaaDoor.PTreeChecks
open Go.RowKit Go.Proofs.YtnemeeidomceiaaDoorW.PrintWords Go.Proofs.YtnemeeidomceiaaDoorW.PrintLast Go.Proofs.YtnemeeidomceiaaDoorW.PrintMore
attribute [local go_sem] max2_int min2_int max_two min_two max_three min_three max_four min_four   -- for this text's walks alone
set_option linter.unusedVariables false
set_option linter.unusedSimpArgs false
noncomputable section
end
end Go.Proofs.YtnemeeidomceiaaDoor.PTreeChecks
end
section
namespace Go.Proofs.YtnemeeidomceiaaDoor
open Go.RowKit Go.Proofs.YtnemeeidomceiaaDoorW.PrintWords Go.Proofs.YtnemeeidomceiaaDoorW.PrintMore Go.Proofs.YtnemeeidomceiaaDoor.PTreeChecks
set_option linter.unusedVariables false
theorem w64 {i : Int} (h0 : -9223372036854775808 ≤ i) (h1 : i < 9223372036854775808) : wrap64 i = i := by unfold wrap64; omega
theorem framed_fr (n : Nat) (hn : n ≤ 4611686018427387904) : wire_Framed.f (n : Int) = some (fr n) := by
 unfold wire_Framed.f fr
 rw [if_neg (by omega)]
 by_cases h : n ≤ 1099511627776
 ·rw [if_neg (by omega), if_pos h]
  congr 1
  rw [w64 (i := (n : Int) + 7) (by omega) (by omega)]
  have e : Int.tdiv ((n : Int) + 7) 8 = (((n + 7) / 8 : Nat) : Int) := by
   rw [Int.tdiv_eq_ediv_of_nonneg (by omega)]
   omega
  rw [e, w64 (i := (((n + 7) / 8 : Nat) : Int)) (by omega) (by omega), w64 (i := (((n + 7) / 8 : Nat) : Int) * 8) (by omega) (by omega), w64 (by omega) (by omega)]
  omega
 ·rw [if_pos (by omega), if_neg h]
theorem rdOf_at (l : List ByteArray) (i : Nat) (h : i < l.length) : rdOf ByteArray.empty l (i : Int) = l[i] := by simp [rdOf, h]
theorem frs_take (l : List ByteArray) (i : Nat) (h : i < l.length) : frs (l.take (i + 1)) = frs (l.take i) + fr l[i].size := by
 rw [List.take_succ_eq_append_getElem h, frs_snoc]
theorem framed_loop (l : List ByteArray) (hs : ∀ s ∈ l, s.size ≤ 4611686018427387904) (hl : l.length ≤ 1000) : ∀ (d i k : Nat), i + d = l.length → d < k → tree_framed.l0 k (frs (l.take i)) l (l.length : Int) (i : Int) = some (frs l)
 | 0, i, k, hi, hk => by
  obtain ⟨k, rfl⟩ : ∃ m, k = m + 1 := ⟨k - 1, by omega⟩
  simp only [tree_framed.l0]
  rw [if_neg (by omega), List.take_of_length_le (by omega)]
 | d + 1, i, k, hi, hk => by
  obtain ⟨k, rfl⟩ : ∃ m, k = m + 1 := ⟨k - 1, by omega⟩
  have hlt : i < l.length := by omega
  have h1 := frs_range (l.take i)
  have h2 := fr_range l[i].size
  have h3 : (l.take i).length ≤ 1000 := by rw [List.length_take]; omega
  simp only [tree_framed.l0]
  rw [if_pos (by omega), if_pos (by omega), if_pos (by omega), rdOf_at l i hlt, framed_fr _ (hs _ (List.getElem_mem hlt)), Option.bind_some, w64 (i := frs (l.take i) + fr l[i].size) (by omega) (by omega), w64 (i := (i : Int) + 1) (by omega) (by omega), ← frs_take l i hlt]
  exact framed_loop l hs hl d (i + 1) k (by omega) (by omega)
theorem framed_frs (l : List ByteArray) (hs : ∀ s ∈ l, s.size ≤ 4611686018427387904) (hl : l.length ≤ 1000) (k : Nat) (hk : l.length < k) : tree_framed.f k l = some (frs l) := by
 have h := framed_loop l hs hl l.length 0 k (by omega) hk
 unfold tree_framed.f
 simpa [frs] using h
theorem toList_size (s : ByteArray) : s.toList = [] ↔ s.size = 0 := by
 rw [Lib.toList_data, ← List.length_eq_zero_iff, ← Lib.size_eq]
theorem indexByte_contains (l : List UInt8) (c : UInt8) : (0 ≤ Lib.indexByte l c) ↔ l.contains c = true := by
 have h := Lib.contains_iff_indexByte l c
 constructor
 ·intro h2
  rw [h]
  exact decide_eq_true h2
 ·intro h2
  rw [h] at h2
  exact of_decide_eq_true h2
theorem target_E (t : ByteArray) : tree_Target.f t = some (targetE t) := by
 unfold tree_Target.f targetE strings_IndexByte.f
 by_cases h : t.size = 0
 ·rw [if_pos ((toList_size t).2 h), if_pos h]
 ·rw [if_neg (fun e => h ((toList_size t).1 e)), if_neg h, Option.bind_some]
  by_cases hc : t.data.toList.contains 0 = true
  ·rw [if_pos hc]
   exact if_pos ((indexByte_contains _ _).2 hc)
  ·rw [if_neg hc]
   exact if_neg (fun e => hc ((indexByte_contains _ _).1 e))
theorem fields_E (k : Int) (e : Bool) (t : ByteArray) (l : List Ent) : tree_fields.f k e t l = some (fieldsE k e t l) := by
 unfold tree_fields.f fieldsE
 rw [target_E]
 by_cases h1 : k = 1
 ·rw [if_pos h1, if_pos h1]
  by_cases h2 : 0 < l.length
  ·rw [if_pos (by omega), if_pos h2]
  ·rw [if_neg (by omega), if_neg h2]
 rw [if_neg h1, if_neg h1]
 by_cases h2 : k = 2
 ·rw [if_pos h2, if_pos h2]
  by_cases h3 : e = true
  ·rw [if_pos h3, if_pos h3]
  rw [if_neg h3, if_neg h3]
  by_cases h4 : 0 < l.length
  ·rw [if_pos (by omega), if_pos h4]
  ·rw [if_neg (by omega), if_neg h4]; rfl
 rw [if_neg h2, if_neg h2]
 by_cases h3 : k = 3
 ·rw [if_pos h3, if_pos h3]
  by_cases h4 : e = true
  ·rw [if_pos h4, if_pos h4]
  rw [if_neg h4, if_neg h4]
  by_cases h5 : t.size = 0
  ·rw [if_pos ((toList_size t).2 h5), if_pos h5]
  ·rw [if_neg (fun e => h5 ((toList_size t).1 e)), if_neg h5]
 ·rw [if_neg h3, if_neg h3]
theorem name_E (s : ByteArray) : name_Check.f s = some (nameE s) := by
 unfold name_Check.f nameE strings_ContainsAny.f
 by_cases h : s.size = 0
 ·rw [if_pos ((toList_size s).2 h), if_pos h]
 rw [if_neg (fun e => h ((toList_size s).1 e)), if_neg h]
 by_cases h2 : 255 < s.size
 ·rw [if_pos (by omega), if_pos h2]
 rw [if_neg (by omega), if_neg h2, if_pos ⟨rfl, by omega⟩, Option.bind_some]
 by_cases h3 : Lib.containsAny s.data.toList sep.data.toList = true
 ·rw [if_pos h3, if_pos h3]
 rw [if_neg h3, if_neg h3]
 by_cases h4 : s.toList = [46]
 ·rw [if_pos h4, if_pos h4]
 rw [if_neg h4, if_neg h4]
 by_cases h5 : s.toList = [46, 46]
 ·rw [if_pos h5, if_pos h5]
 ·rw [if_neg h5, if_neg h5]
theorem below_P (path kid : ByteArray) (d : Int) (h : path.size + kid.size + 1 ≤ 9223372036854775807) : tree_below.f path kid d = some (belowP path kid d) := by
 unfold tree_below.f belowP
 by_cases h1 : d = 1
 ·rw [if_pos h1, if_pos h1]
 ·rw [if_neg h1, if_neg h1, if_pos (by omega), if_pos]
  rw [ByteArray.size_append]
  show path.size + 1 + kid.size ≤ _
  omega
theorem sep_mem (x : UInt8) : sep.data.toList.contains x = (x == 47 || x == 0) := by
 simp [sep]
 rfl
end Go.Proofs.YtnemeeidomceiaaDoor
end
section
namespace Go.Proofs.YtnemeeidomceiaaDoor
open Go.RowKit Go.Proofs.YtnemeeidomceiaaDoorW.PrintWords
/-- What the last piece gives, or a piece ahead of a slash: none where the names go on. -/
def pieceE (s : ByteArray) (names : List ByteArray) (frm i : Nat) : Option (List ByteArray × Int × Int) :=
 if names.length = 31 then some ([], 61, (frm : Int)) else if nameE (s.extract frm i) ≠ 0 then some ([], nameE (s.extract frm i), (frm : Int)) else none
/-- The names from place i on, m bytes ahead of the end, the piece begun at frm. -/
def splitG (s : ByteArray) : Nat → List ByteArray → Nat → Nat → List ByteArray × Int × Int
 | 0, names, frm, i => (pieceE s names frm i).getD (names ++ [s.extract frm i], 0, 0)
 | m + 1, names, frm, i => if bt s (i : Int) ≠ 47 then splitG s m names frm (i + 1) else (pieceE s names frm i).getD (splitG s m (names ++ [s.extract frm i]) (i + 1) (i + 1))
def splitP (s : ByteArray) : List ByteArray × Int × Int := if s.toList = [] then ([], 0, 0) else splitG s s.size [] 0 0
theorem splitG_skip (s : ByteArray) (names : List ByteArray) (frm : Nat) : ∀ (d m i : Nat), (∀ t : Nat, i ≤ t → t < i + d → bt s (t : Int) ≠ 47) → splitG s (m + d) names frm i = splitG s m names frm (i + d)
 | 0, m, i, _ => rfl
 | d + 1, m, i, h => by
  rw [show m + (d + 1) = (m + d) + 1 from rfl, splitG, if_pos (h i (Nat.le_refl _) (by omega)), splitG_skip s names frm d m (i + 1) (fun t h1 h2 => h t (by omega) (by omega)), show i + 1 + d = i + (d + 1) from by omega]
/-- A piece that ends at a slash. -/
theorem splitG_cut (s : ByteArray) (names : List ByteArray) (frm j m : Nat) (hf : frm ≤ j) (hno : ∀ t : Nat, frm ≤ t → t < j → bt s (t : Int) ≠ 47) (hb : bt s (j : Int) = 47) :
  splitG s (m + 1 + (j - frm)) names frm frm = (pieceE s names frm j).getD (splitG s m (names ++ [s.extract frm j]) (j + 1) (j + 1)) := by
 rw [splitG_skip s names frm (j - frm) (m + 1) frm (fun t h1 h2 => hno t h1 (by omega)), show frm + (j - frm) = j from by omega, splitG, if_neg (fun e => e hb)]
/-- The last piece. -/
theorem splitG_last (s : ByteArray) (names : List ByteArray) (frm : Nat) (hf : frm ≤ s.size) (hno : ∀ t : Nat, frm ≤ t → t < s.size → bt s (t : Int) ≠ 47) :
  splitG s (s.size - frm) names frm frm = (pieceE s names frm s.size).getD (names ++ [s.extract frm s.size], 0, 0) := by
 have h := splitG_skip s names frm (s.size - frm) 0 frm (fun t h1 h2 => hno t h1 (by omega))
 rw [Nat.zero_add] at h
 rw [h, show frm + (s.size - frm) = s.size from by omega]
 rfl
/-- The pieces of a path between the slashes, from place i on, the piece begun at frm. -/
def pieces (s : ByteArray) : Nat → Nat → Nat → List ByteArray
 | 0, frm, i => [s.extract frm i]
 | m + 1, frm, i => if bt s (i : Int) ≠ 47 then pieces s m frm (i + 1) else s.extract frm i :: pieces s m (i + 1) (i + 1)
def pcs (s : ByteArray) : List ByteArray := pieces s s.size 0 0
/-- What is told of the pieces one by one. -/
def goP : List ByteArray → List ByteArray → Nat → List ByteArray × Int × Int
 | [], names, _ => (names, 0, 0)
 | x :: l, names, frm => if names.length = 31 then ([], 61, (frm : Int)) else if nameE x ≠ 0 then ([], nameE x, (frm : Int)) else goP l (names ++ [x]) (frm + x.size + 1)
theorem pieces_skip (s : ByteArray) (frm : Nat) : ∀ (d m i : Nat), (∀ t : Nat, i ≤ t → t < i + d → bt s (t : Int) ≠ 47) → pieces s (m + d) frm i = pieces s m frm (i + d)
 | 0, m, i, _ => rfl
 | d + 1, m, i, h => by
  rw [show m + (d + 1) = (m + d) + 1 from rfl, pieces, if_pos (h i (Nat.le_refl _) (by omega)), pieces_skip s frm d m (i + 1) (fun t h1 h2 => h t (by omega) (by omega)), show i + 1 + d = i + (d + 1) from by omega]
theorem pieces_cut (s : ByteArray) (frm j m : Nat) (hf : frm ≤ j) (hno : ∀ t : Nat, frm ≤ t → t < j → bt s (t : Int) ≠ 47) (hb : bt s (j : Int) = 47) :
  pieces s (m + 1 + (j - frm)) frm frm = s.extract frm j :: pieces s m (j + 1) (j + 1) := by
 rw [pieces_skip s frm (j - frm) (m + 1) frm (fun t h1 h2 => hno t h1 (by omega)), show frm + (j - frm) = j from by omega, pieces, if_neg (fun e => e hb)]
theorem pieces_last (s : ByteArray) (frm : Nat) (hf : frm ≤ s.size) (hno : ∀ t : Nat, frm ≤ t → t < s.size → bt s (t : Int) ≠ 47) :
  pieces s (s.size - frm) frm frm = [s.extract frm s.size] := by
 have h := pieces_skip s frm (s.size - frm) 0 frm (fun t h1 h2 => hno t h1 (by omega))
 rw [Nat.zero_add] at h
 rw [h, show frm + (s.size - frm) = s.size from by omega]
 rfl
theorem extract_len (s : ByteArray) (a b : Nat) (hb : b ≤ s.size) : (s.extract a b).size = b - a := by
 rw [ByteArray.size_extract]; omega
theorem splitG_pieces (s : ByteArray) : ∀ (m : Nat) (names : List ByteArray) (frm i : Nat), i + m = s.size → frm ≤ i → splitG s m names frm i = goP (pieces s m frm i) names frm
 | 0, names, frm, i, h, hf => by
  show (pieceE s names frm i).getD _ = goP [s.extract frm i] names frm
  unfold pieceE goP
  split
  ·rfl
  ·split
   ·rfl
   ·rfl
 | m + 1, names, frm, i, h, hf => by
  rw [splitG, pieces]
  by_cases hb : bt s (i : Int) = 47
  ·rw [if_neg (fun e => e hb), if_neg (fun e => e hb), splitG_pieces s m _ (i + 1) (i + 1) (by omega) (Nat.le_refl _)]
   unfold pieceE
   rw [goP]
   split
   ·rfl
   ·split
    ·rfl
    ·rw [extract_len s frm i (by omega), show frm + (i - frm) + 1 = i + 1 from by omega]; rfl
  ·rw [if_pos hb, if_pos hb, splitG_pieces s m _ frm (i + 1) (by omega) (by omega)]
theorem splitP_pieces (s : ByteArray) (h : s.toList ≠ []) : splitP s = goP (pcs s) [] 0 := by
 unfold splitP pcs
 rw [if_neg h, splitG_pieces s s.size [] 0 0 (by omega) (Nat.le_refl _)]
end Go.Proofs.YtnemeeidomceiaaDoor
end
section
namespace Go.Proofs.YtnemeeidomceiaaDoor
open Go.RowKit Go.Proofs.YtnemeeidomceiaaDoorW.PrintWords
set_option linter.unusedVariables false
def cmpB (a b : ByteArray) : Int := Lib.compareBytes a.data.toList b.data.toList
theorem cb_range : ∀ a b : List UInt8, Lib.compareBytes a b = -1 ∨ Lib.compareBytes a b = 0 ∨ Lib.compareBytes a b = 1
 | [], [] => .inr (.inl rfl)
 | [], _ :: _ => .inl rfl
 | _ :: _, [] => .inr (.inr rfl)
 | a :: x, b :: y => by
  unfold Lib.compareBytes
  split
  ·exact .inl rfl
  ·split
   ·exact .inr (.inr rfl)
   ·exact cb_range x y
theorem cb_neg : ∀ a b : List UInt8, Lib.compareBytes b a = - Lib.compareBytes a b
 | [], [] => rfl
 | [], _ :: _ => rfl
 | _ :: _, [] => rfl
 | a :: x, b :: y => by
  unfold Lib.compareBytes
  by_cases h1 : a < b
  ·have h2 : ¬ b < a := fun h => by rw [UInt8.lt_iff_toNat_lt] at *; omega
   simp only [h1, h2, if_true, if_false]; rfl
  ·by_cases h2 : b < a
   ·simp only [h1, h2, if_true, if_false]
   ·simp only [h1, h2, if_false]
    exact cb_neg x y
theorem cb_zero : ∀ a b : List UInt8, Lib.compareBytes a b = 0 ↔ a = b
 | [], [] => by simp [Lib.compareBytes]
 | [], _ :: _ => by simp [Lib.compareBytes]
 | _ :: _, [] => by simp [Lib.compareBytes]
 | a :: x, b :: y => by
  unfold Lib.compareBytes
  by_cases h1 : a < b
  ·rw [if_pos h1]
   refine ⟨fun h => by omega, fun h => ?_⟩
   injection h with h _
   subst h
   rw [UInt8.lt_iff_toNat_lt] at h1; omega
  ·rw [if_neg h1]
   by_cases h2 : b < a
   ·rw [if_pos h2]
    refine ⟨fun h => by omega, fun h => ?_⟩
    injection h with h _
    subst h
    rw [UInt8.lt_iff_toNat_lt] at h2; omega
   ·rw [if_neg h2, cb_zero x y]
    have : a = b := by
     rw [UInt8.lt_iff_toNat_lt] at h1 h2
     exact UInt8.toNat_inj.1 (by omega)
    rw [this]
    exact ⟨fun h => by rw [h], fun h => by injection h⟩
theorem cb_trans : ∀ a b c : List UInt8, Lib.compareBytes a b < 0 → Lib.compareBytes b c < 0 → Lib.compareBytes a c < 0
 | [], [], c, h, _ => by simp [Lib.compareBytes] at h
 | [], _ :: _, [], _, h => by simp [Lib.compareBytes] at h
 | [], _ :: _, _ :: _, _, _ => by simp [Lib.compareBytes]
 | _ :: _, [], _, h, _ => by simp [Lib.compareBytes] at h
 | _ :: _, _ :: _, [], _, h => by simp [Lib.compareBytes] at h
 | a :: x, b :: y, c :: z, h1, h2 => by
  unfold Lib.compareBytes at *
  have key : ∀ x y : UInt8, x < y ↔ x.toNat < y.toNat := fun x y => UInt8.lt_iff_toNat_lt
  by_cases ab : a < b
  ·by_cases bc : b < c
   ·rw [if_pos (by rw [key] at *; omega)]; decide
   ·rw [if_neg bc] at h2
    by_cases cb : c < b
    ·rw [if_pos cb] at h2; omega
    ·have : b = c := UInt8.toNat_inj.1 (by rw [key] at *; omega)
     subst this
     rw [if_pos ab]; decide
  ·rw [if_neg ab] at h1
   by_cases ba : b < a
   ·rw [if_pos ba] at h1; omega
   ·rw [if_neg ba] at h1
    have : a = b := UInt8.toNat_inj.1 (by rw [key] at *; omega)
    subst this
    by_cases bc : a < c
    ·rw [if_pos bc]; decide
    ·rw [if_neg bc] at h2 ⊢
     by_cases cb : c < a
     ·rw [if_pos cb] at h2; omega
     ·rw [if_neg cb] at h2 ⊢
      exact cb_trans x y z h1 h2
theorem cmpB_neg (a b : ByteArray) : cmpB b a = - cmpB a b := cb_neg _ _
theorem cmpB_zero (a b : ByteArray) : cmpB a b = 0 ↔ a = b := by
 unfold cmpB
 rw [cb_zero]
 exact ⟨fun h => by cases a; cases b; congr; exact Array.toList_inj.1 h, fun h => by rw [h]⟩
theorem cmpB_self (a : ByteArray) : cmpB a a = 0 := (cmpB_zero a a).2 rfl
theorem cmpB_trans {a b c : ByteArray} (h1 : cmpB a b < 0) (h2 : cmpB b c < 0) : cmpB a c < 0 := cb_trans _ _ _ h1 h2
/-- Names that rise. -/
def Rising (l : List Ent) : Prop := l.Pairwise (fun x y => cmpB x.f0 y.f0 < 0)
/-- The place of a name. -/
def rk (l : List Ent) (s : ByteArray) : Nat := (l.filter (fun x => decide (cmpB x.f0 s < 0))).length
def hasN (l : List Ent) (s : ByteArray) : Bool := match l[rk l s]? with
 | some x => decide (cmpB x.f0 s = 0)
 | none => false
theorem rk_of {l : List Ent} {s : ByteArray} (m : Nat) (hm : m ≤ l.length) (h1 : ∀ i x, i < m → l[i]? = some x → cmpB x.f0 s < 0) (h2 : ∀ i x, m ≤ i → l[i]? = some x → ¬ cmpB x.f0 s < 0) : rk l s = m := by
 unfold rk
 have e : l = l.take m ++ l.drop m := (List.take_append_drop m l).symm
 have a1 : (l.take m).filter (fun x => decide (cmpB x.f0 s < 0)) = l.take m := List.filter_eq_self.2 (fun x hx => by
  obtain ⟨i, hi, he⟩ := List.getElem_of_mem hx
  rw [List.length_take] at hi
  refine decide_eq_true (h1 i x (by omega) ?_)
  rw [← he, List.getElem_take]
  exact List.getElem?_eq_getElem (by omega))
 have a2 : (l.drop m).filter (fun x => decide (cmpB x.f0 s < 0)) = [] := List.filter_eq_nil_iff.2 (fun x hx => by
  obtain ⟨i, hi, he⟩ := List.getElem_of_mem hx
  rw [List.length_drop] at hi
  rw [decide_eq_true_eq]
  refine h2 (m + i) x (by omega) ?_
  rw [← he, List.getElem_drop]
  exact List.getElem?_eq_getElem (by omega))
 conv => lhs; rw [e]
 rw [List.filter_append, a1, a2, List.append_nil, List.length_take]
 omega
theorem Rising.at {l : List Ent} (h : Rising l) {i j : Nat} {x y : Ent} (hij : i < j) (hx : l[i]? = some x) (hy : l[j]? = some y) : cmpB x.f0 y.f0 < 0 := by
 obtain ⟨hi, rfl⟩ := List.getElem?_eq_some_iff.1 hx
 obtain ⟨hj, rfl⟩ := List.getElem?_eq_some_iff.1 hy
 exact List.pairwise_iff_getElem.1 h i j hi hj hij
end Go.Proofs.YtnemeeidomceiaaDoor
end
section
namespace Go.Proofs.YtnemeeidomceiaaDoor
open Go.RowKit Go.Proofs.YtnemeeidomceiaaDoorW.PrintWords Go.Proofs.YtnemeeidomceiaaDoorW.PrintLast Go.Proofs.YtnemeeidomceiaaDoorW.PrintMore
set_option linter.unusedVariables false
set_option linter.unusedSimpArgs false
open Classical in
noncomputable def tree_find.f (l : List Ent) (s : ByteArray) : Option (Int × Bool) := if Rising l ∧ l.length ≤ 4611686018427387903 then some (rk l s, hasN l s) else none
end Go.Proofs.YtnemeeidomceiaaDoor
end
section
namespace Go.Proofs.YtnemeeidomceiaaDoor
open Go.RowKit Go.Proofs.YtnemeeidomceiaaDoorW.PrintWords
set_option linter.unusedVariables false
set_option linter.unusedSimpArgs false
theorem bl_cb : ∀ x y : List UInt8, Op.bytesLess x y = true ↔ Lib.compareBytes x y < 0
 | [], [] => by simp [Op.bytesLess, Lib.compareBytes]
 | [], _ :: _ => by simp [Op.bytesLess, Lib.compareBytes]
 | _ :: _, [] => by simp [Op.bytesLess, Lib.compareBytes]
 | a :: x, b :: y => by
  unfold Op.bytesLess Lib.compareBytes
  have key : ∀ x y : UInt8, x < y ↔ x.toNat < y.toNat := fun x y => UInt8.lt_iff_toNat_lt
  rw [Bool.or_eq_true, Bool.and_eq_true, decide_eq_true_eq, beq_iff_eq, bl_cb x y]
  by_cases h1 : a < b
  ·simp [h1]
  ·by_cases h2 : b < a
   ·simp only [h1, h2, if_true, if_false, false_or]
    refine ⟨fun h => ?_, fun h => by omega⟩
    rw [h.1] at h2
    rw [key] at h2; omega
   ·have : a = b := UInt8.toNat_inj.1 (by rw [key] at *; omega)
    simp [h1, h2, this]
theorem nle_cmp (a b : ByteArray) : nle a b = true ↔ cmpB a b ≤ 0 := by
 unfold nle
 rw [Bool.or_eq_true, Lib.toList_data, Lib.toList_data, bl_cb, beq_iff_eq, ← cb_zero]
 show cmpB a b < 0 ∨ cmpB a b = 0 ↔ _
 omega
/-- A tree that is well, of at most so many levels. -/
def wf : Nat → Ent → Prop
 | 0, _ => False
 | f + 1, x => fieldsE x.f1 x.f2 x.f3 x.f4 = 0 ∧ (∀ y, y ∈ x.f4 → nameE y.f0 = 0) ∧ Rising x.f4 ∧ ∀ y, y ∈ x.f4 → wf f y
/-- Its bytes in an archive. -/
def tsz : Nat → Ent → Int
 | 0, _ => 0
 | f + 1, x => ownS x.f1 x.f2 x.f3 + (x.f4.map (fun y => entS y.f0 + tsz f y)).sum
/-- Its rows. -/
def trows : Nat → ByteArray → Ent → List RowT
 | 0, _, _ => []
 | f + 1, path, x => (path, x.f1, x.f2, x.f3) :: x.f4.flatMap (fun y => trows f (belowP path y.f0 (32 - (f : Int))) y)
theorem tsz_nonneg : ∀ (f : Nat) (x : Ent), 0 ≤ tsz f x
 | 0, _ => Int.le_refl _
 | f + 1, x => by
  have h1 := ownS_range x.f1 x.f2 x.f3
  have h2 : ∀ l : List Ent, 0 ≤ (l.map (fun y => entS y.f0 + tsz f y)).sum := by
   intro l
   induction l with
   | nil => simp
   | cons y l ih =>
    have := entS_range y.f0
    have := tsz_nonneg f y
    rw [List.map_cons, List.sum_cons]; omega
  have := h2 x.f4
  unfold tsz; omega
/-- The kids' bytes. -/
def ksz (f : Nat) (l : List Ent) : Int := (l.map (fun y => entS y.f0 + tsz f y)).sum
theorem ksz_nonneg (f : Nat) (l : List Ent) : 0 ≤ ksz f l := by
 induction l with
 | nil => simp [ksz]
 | cons y l ih =>
  have := entS_range y.f0
  have := tsz_nonneg f y
  unfold ksz at *
  rw [List.map_cons, List.sum_cons]; omega
theorem ksz_cons (f : Nat) (y : Ent) (l : List Ent) : ksz f (y :: l) = entS y.f0 + tsz f y + ksz f l := by unfold ksz; rw [List.map_cons, List.sum_cons]
/-- What a look at some kids tells. -/
theorem kids_iff {f : Nat} {d : Int} {path : ByteArray} {nd : ByteArray → Ent → Int → Look} (hnd : ∀ (q : ByteArray) (x : Ent) (b : Int), b ≤ 1048576 → ∀ b2 rows, nd q x b = .ok b2 rows ↔ wf f x ∧ b2 = b + tsz f x ∧ b2 ≤ 1048576 ∧ rows = trows f q x) :
  ∀ (l : List Ent) (prev : Option ByteArray) (b : Int), b ≤ 1048576 → ∀ b2 rows, kidsL nd d path prev l b = .ok b2 rows ↔
   (∀ y, y ∈ l → nameE y.f0 = 0) ∧ ((∀ p, prev = some p → ∀ y, y ∈ l → cmpB p y.f0 < 0) ∧ Rising l) ∧ (∀ y, y ∈ l → wf f y) ∧ b2 = b + ksz f l ∧ b2 ≤ 1048576 ∧ rows = l.flatMap (fun y => trows f (belowP path y.f0 d) y)
 | [], prev, b, hb, b2, rows => by
  show Look.ok b [] = Look.ok b2 rows ↔ _
  constructor
  ·intro h
   injection h with h1 h2
   exact ⟨by simp, ⟨by simp, List.Pairwise.nil⟩, by simp, by simp [ksz, h1], by omega, by simp [h2]⟩
  ·rintro ⟨_, _, _, h1, _, h2⟩
   rw [h2]
   simp [ksz] at h1
   rw [h1]
   rfl
 | x :: l, prev, b, hb, b2, rows => by
  have hnn := entS_range x.f0
  have ht := tsz_nonneg f x
  have hk := ksz_nonneg f l
  show (kidAt nd d path prev x b).then (fun b2 => kidsL nd d path (some x.f0) l b2) = Look.ok b2 rows ↔ _
  have hprev : (prev.any (fun p => nle x.f0 p) = true) ↔ ∃ p, prev = some p ∧ ¬ cmpB p x.f0 < 0 := by
   cases prev with
   | none => simp
   | some p =>
    rw [Option.any_some, nle_cmp, cmpB_neg]
    constructor
    ·intro h; exact ⟨p, rfl, by omega⟩
    ·rintro ⟨q, hq, h⟩; injection hq with hq; rw [hq]; omega
  unfold kidAt
  by_cases h1 : nameE x.f0 ≠ 0
  ·rw [if_pos h1]
   exact ⟨fun h => (by cases h), fun h => absurd (h.1 x List.mem_cons_self) h1⟩
  rw [if_neg h1]
  by_cases h2 : prev.any (fun p => nle x.f0 p) = true
  ·rw [if_pos h2]
   obtain ⟨p, hp, hc⟩ := hprev.1 h2
   exact ⟨fun h => (by cases h), fun h => absurd (h.2.1.1 p hp x List.mem_cons_self) hc⟩
  rw [if_neg h2]
  by_cases h3 : 1048576 < b + entS x.f0
  ·rw [if_pos h3]
   refine ⟨fun h => (by cases h), fun h => ?_⟩
   have := h.2.2.2.1
   have := h.2.2.2.2.1
   rw [ksz_cons] at *
   omega
  rw [if_neg h3]
  have hx := hnd (belowP path x.f0 d) x (b + entS x.f0) (by omega)
  cases hs : nd (belowP path x.f0 d) x (b + entS x.f0) with
  | bad q c =>
   refine ⟨fun h => (by cases h), fun h => ?_⟩
   have hkk := (hx (b + entS x.f0 + tsz f x) (trows f (belowP path x.f0 d) x)).2 ⟨h.2.2.1 x List.mem_cons_self, rfl, by have := h.2.2.2.1; have := h.2.2.2.2.1; rw [ksz_cons] at *; omega, rfl⟩
   rw [hs] at hkk; cases hkk
  | ok b3 r3 =>
   obtain ⟨w3, e3, l3, rr3⟩ := (hx b3 r3).1 hs
   have ih := kids_iff (d := d) (path := path) hnd l (some x.f0) b3 l3
   show ((kidsL nd d path (some x.f0) l b3).pre r3) = Look.ok b2 rows ↔ _
   constructor
   ·intro h
    cases hk2 : kidsL nd d path (some x.f0) l b3 with
    | bad q c => rw [hk2] at h; cases h
    | ok b4 r4 =>
     rw [hk2] at h
     injection h with h5 h6
     obtain ⟨a1, ⟨a2, a3⟩, a4, a5, a6, a7⟩ := (ih b4 r4).1 hk2
     refine ⟨fun y hy => ?_, ⟨fun p hp y hy => ?_, List.pairwise_cons.2 ⟨fun y hy => a2 x.f0 rfl y hy, a3⟩⟩, fun y hy => ?_, ?_, by omega, ?_⟩
     ·rcases List.mem_cons.1 hy with rfl | hy
      ·exact Decidable.of_not_not h1
      ·exact a1 y hy
     ·have hpx : cmpB p x.f0 < 0 := Decidable.of_not_not (fun hn => h2 (hprev.2 ⟨p, hp, hn⟩))
      rcases List.mem_cons.1 hy with rfl | hy
      ·exact hpx
      ·exact cmpB_trans hpx (a2 x.f0 rfl y hy)
     ·rcases List.mem_cons.1 hy with rfl | hy
      ·exact w3
      ·exact a4 y hy
     ·rw [ksz_cons]; omega
     ·rw [← h6, rr3, a7, List.flatMap_cons]
   ·rintro ⟨a1, ⟨a2, a3⟩, a4, a5, a6, a7⟩
    have hp := List.pairwise_cons.1 a3
    rw [ksz_cons] at a5
    rw [(ih b2 (l.flatMap (fun y => trows f (belowP path y.f0 d) y))).2 ⟨fun y hy => a1 y (List.mem_cons_of_mem _ hy), ⟨fun p hpe y hy => by injection hpe with hpe; rw [← hpe]; exact hp.1 y hy, hp.2⟩, fun y hy => a4 y (List.mem_cons_of_mem _ hy), by omega, a6, rfl⟩, a7, rr3, List.flatMap_cons]
    rfl
theorem node_iff : ∀ (f : Nat) (path : ByteArray) (x : Ent) (b : Int), b ≤ 1048576 → ∀ b2 rows, nodeL f path x b = .ok b2 rows ↔ wf f x ∧ b2 = b + tsz f x ∧ b2 ≤ 1048576 ∧ rows = trows f path x
 | 0, path, x, b, hb, b2, rows => ⟨fun h => (by cases h), fun h => h.1.elim⟩
 | f + 1, path, x, b, hb, b2, rows => by
  have ho := ownS_range x.f1 x.f2 x.f3
  have hk := ksz_nonneg f x.f4
  have et : tsz (f + 1) x = ownS x.f1 x.f2 x.f3 + ksz f x.f4 := rfl
  unfold nodeL
  by_cases h1 : fieldsE x.f1 x.f2 x.f3 x.f4 ≠ 0
  ·rw [if_pos h1]
   exact ⟨fun h => (by cases h), fun h => absurd h.1.1 h1⟩
  rw [if_neg h1]
  by_cases h2 : 1048576 < b + ownS x.f1 x.f2 x.f3
  ·rw [if_pos h2]
   exact ⟨fun h => (by cases h), fun h => by have := h.2.1; have := h.2.2.1; rw [et] at *; omega⟩
  rw [if_neg h2]
  have ih := kids_iff (f := f) (d := 32 - (f : Int)) (path := path) (nd := nodeL f) (fun q y b hb b2 rows => node_iff f q y b hb b2 rows) x.f4 none (b + ownS x.f1 x.f2 x.f3) (by omega)
  constructor
  ·intro h
   cases hk2 : kidsL (nodeL f) (32 - (f : Int)) path none x.f4 (b + ownS x.f1 x.f2 x.f3) with
   | bad q c => rw [hk2] at h; cases h
   | ok b4 r4 =>
    rw [hk2] at h
    injection h with h5 h6
    obtain ⟨a1, ⟨_, a3⟩, a4, a5, a6, a7⟩ := (ih b4 r4).1 hk2
    exact ⟨⟨Decidable.of_not_not h1, a1, a3, a4⟩, by rw [et]; omega, by omega, by rw [← h6, a7]; rfl⟩
  ·rintro ⟨⟨_, a1, a3, a4⟩, a5, a6, a7⟩
   rw [et] at a5
   rw [(ih b2 (x.f4.flatMap (fun y => trows f (belowP path y.f0 (32 - (f : Int))) y))).2 ⟨a1, ⟨fun p hp => (by cases hp), a3⟩, a4, by omega, a6, rfl⟩, a7]
   rfl
theorem look_iff (k : Int) (e : Bool) (t : ByteArray) (l : List Ent) (b : Int) (rows : List RowT) : lookL k e t l = .ok b rows ↔ wf 32 ⟨⟨#[]⟩, k, e, t, l⟩ ∧ b = 24 + tsz 32 ⟨⟨#[]⟩, k, e, t, l⟩ ∧ b ≤ 1048576 ∧ rows = trows 32 ⟨#[]⟩ ⟨⟨#[]⟩, k, e, t, l⟩ := by
 unfold lookL
 rw [magS_eq]
 exact node_iff 32 _ _ 24 (by decide) b rows
theorem Texts.of {l : List Ent} (h : ∀ x, x ∈ l → x.f0.size ≤ 140737488351232 ∧ x.f3.size ≤ 140737488351232 ∧ Texts x.f4) : Texts l := .mk (fun x hx => ⟨(h x hx).1, (h x hx).2.1⟩) (fun x hx => (h x hx).2.2)
end Go.Proofs.YtnemeeidomceiaaDoor
end
