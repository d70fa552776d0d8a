import Derived.Test.YtnemeeidomceiaaDoorProg
import Derived.Test.YtnemeeidomceiaaDoorPt0
import Derived.Test.YtnemeeidomceiaaDoorPt1
import Derived.Test.YtnemeeidomceiaaDoorPt2
import Derived.Test.YtnemeeidomceiaaDoorShelf
import Derived.Test.YtnemeeidomceiaaDoorWEqStructPt
import Derived.Test.YtnemeeidomceiaaDoorWLast
import Derived.ArgAppend
import Derived.Below
import Derived.BigQuiet
import Derived.Deep.AppendLies
import Derived.Deep.CutBlock
import Derived.Deep.DeepCutAuto
import Derived.Deep.Draws
import Derived.Deep.LoopGhost
import Derived.Deep.OwnRows
import Derived.Deep.QuietTactic
import Derived.Deep.RegionHeld3
import Derived.KernelRfl
import Derived.Laws.BitsLemmas
import Derived.Laws.BytesArg
import Derived.Laws.IdiomCopy
import Derived.Laws.MakeOwn
import Derived.Laws.OwnMore
import Derived.Laws.RangeAny
import Derived.Laws.Rows
import Derived.Laws.Runes
import Derived.Laws.Slices
import Derived.Lib.AppendStr
import Derived.Lib.ConvBytes
import Derived.Lib.Hide
import Derived.Lib.OthersKept
import Derived.Maps.AppendAt
import Derived.OrdersHeld
import Derived.OwnWalk
import Derived.RowKit
import Derived.RowKit3
import Derived.ScopeJumps
import Derived.Tactics
import Derived.WalkKit
import Derived.WalkMore
import Derived.WideLaws
set_option linter.unusedSimpArgs false
set_option linter.unusedVariables false
section
namespace Go.Proofs.YtnemeeidomceiaaDoor
open Go.RowKit Go.Proofs.YtnemeeidomceiaaDoorW.PrintWords Go.Proofs.YtnemeeidomceiaaDoorW.PrintLast Go.Proofs.YtnemeeidomceiaaDoorW.PrintMore
set_option linter.unusedSimpArgs false
set_option linter.unusedVariables false
/-- The bytes that no name bears. -/
def sep : ByteArray := ⟨#[47, 0]⟩
theorem get_lt (s : ByteArray) (k : Nat) (h : k < s.size) : s.get! k = s[k]'h := by
 simp [ByteArray.get!, getElem!_pos, h]
 rfl
theorem decode_high_all (s : ByteArray) (pos : Nat) (h : pos < s.size) (ha : 128 ≤ (s[pos]'h).toNat) : ∀ j, j < (Utf8.decode s pos).2 → ∃ hj : pos + j < s.size, 128 ≤ (s[pos + j]'hj).toNat := by
 have hn : ¬ (s[pos]'h).toNat < 128 := by omega
 have h0 : ∃ hj : pos + 0 < s.size, 128 ≤ (s[pos + 0]'hj).toNat := ⟨h, ha⟩
 have hk : ∀ k, pos + k < s.size → (s.get! (pos + k)).toNat / 64 = 2 → ∃ hj : pos + k < s.size, 128 ≤ (s[pos + k]'hj).toNat := fun k h1 h2 => ⟨h1, by rw [get_lt s (pos + k) h1] at h2; omega⟩
 have e : Utf8.decode s pos = Utf8.decode s pos := rfl
 intro j hj
 simp only [Utf8.decode, get_at s pos h, hn, if_false] at hj
 have one : j = 0 → ∃ hj : pos + j < s.size, 128 ≤ (s[pos + j]'hj).toNat := fun e => by subst e; exact h0
 repeat' split at hj
 all_goals simp only [Bool.and_eq_true, decide_eq_true_eq, beq_iff_eq] at *
 all_goals try (exact one (by omega))
 ·rename_i _ h2
  by_cases hj0 : j = 0
  ·exact one hj0
  ·obtain rfl : j = 1 := by omega
   exact hk 1 h2.2.1 h2.2.2
 ·rename_i h2 _
  by_cases hj0 : j = 0
  ·exact one hj0
  by_cases hj1 : j = 1
  ·subst hj1
   exact hk 1 h2.1.2.1 h2.1.2.2
  ·obtain rfl : j = 2 := by omega
   exact hk 2 h2.2.1 h2.2.2
 ·rename_i h2 _
  by_cases hj0 : j = 0
  ·exact one hj0
  by_cases hj1 : j = 1
  ·subst hj1
   exact hk 1 h2.1.1.2.1 h2.1.1.2.2
  by_cases hj2 : j = 2
  ·subst hj2
   exact hk 2 h2.1.2.1 h2.1.2.2
  ·obtain rfl : j = 3 := by omega
   exact hk 3 h2.2.1 h2.2.2
theorem sep_high {x : UInt8} (h : 128 ≤ x.toNat) : sep.data.toList.contains x = false := by
 have h1 : ¬ x = 47 := fun e => by subst e; revert h; decide
 have h2 : ¬ x = 0 := fun e => by subst e; revert h; decide
 simp [sep, h1, h2]
theorem noAny_wide (s : ByteArray) : ∀ (n i : Nat), Lib.NoAny s.data.toList sep.data.toList i → (∀ j, j < n → ∃ hj : i + j < s.size, 128 ≤ (s[i + j]'hj).toNat) → Lib.NoAny s.data.toList sep.data.toList (i + n)
 | 0, _, h, _ => h
 | n + 1, i, h, hj => by
  obtain ⟨h1, h2⟩ := hj n (Nat.lt_succ_self n)
  exact (noAny_wide s n i h (fun j hlt => hj j (by omega))).succ (Lib.data_getElem? s (i + n) h1) (sep_high h2)
theorem quiet_add_same {P : Program} {f : FuncId} {args : Array Value} {w : World} {a n : Nat} {v : Value}
  (h : Calls P f args (w.drewN (a + n)) fun e w' => e = .returned v ∧ w' = w.drewN (a + n)) :
  Calls P f args (w.drewN (a + n)) fun e w'' => e = .returned v ∧ ∃ m, w'' = w.drewN (a + m) :=
 h.mono fun _ _ ⟨he, hm⟩ => ⟨he, n, hm⟩
set_option maxHeartbeats 2000000 in
set_option maxRecDepth 100000 in
/-- A rune beyond the ASCII ones is not among those two. -/
theorem indexRune_high (r : Int) (h0 : 128 ≤ r) (w : World) :
  Calls Tryd.prog 85 #[.string sep, .int .i32 r] w fun e w' => e = .returned (.int .i64 (-1)) ∧ Below w.heap.size w w' := by
 have hss : sep.size = 2 := rfl
 have hr1 : decide ((0 : Int) ≤ r) = true := decide_eq_true (by omega)
 have hr2 : decide (r < 128) = false := decide_eq_false (by omega)
 have hv : Calls Tryd.prog 95 #[.int .i32 r] w fun e w' => e = .returned (.bool (Lib.validRune r)) ∧ w' = w := Tryd.utf8_ValidRune r w
 by_cases he : r = 65533
 ·subst he
  obtain ⟨s, hs⟩ : ∃ s, s = sep := ⟨_, rfl⟩
  have n0 := fun ty => run_next_ascii (P := Tryd.prog) w s 0 ty (by rw [hs]; decide) (by subst hs; decide)
  have n1 := fun ty => run_next_ascii (P := Tryd.prog) w s 1 ty (by rw [hs]; decide) (by subst hs; decide)
  have n2 := fun ty => run_next_end (P := Tryd.prog) w s 2 ty (by rw [hs]; decide)
  have e0 : ((s[0]'(by rw [hs]; decide)).toNat : Int) = 47 := by subst hs; rfl
  have e1 : ((s[1]'(by rw [hs]; decide)).toNat : Int) = 0 := by subst hs; rfl
  simp only [e0, e1] at n0 n1
  rw [← hs]
  clear hs e0 e1 hss hv
  go_enter Tryd.func85, Tryd.ntmps85
  go_wp2_with fail
  refine wp_loop_rounds 3 ?_
  rw [rounds_succ]
  go_wp2_with fail
  rw [rounds_succ]
  go_wp2_with fail
  rw [rounds_succ]
  go_wp2_with fail
  go_ret
  exact ⟨rfl, by rw [World.iter]; exact (Below.refl _ _).alloc (Nat.le_refl _) _⟩
 ·have hr3 : (r == 65533) = false := beq_eq_false_iff_ne.2 he
  cases hval : Lib.validRune r with
  | false =>
   rw [hval] at hv
   have HV := Aside0.mk hv
   clear hv hval
   go_enter Tryd.func85, Tryd.ntmps85
   go_wp2_with fail
   ((with_reducible refine HV.out.mono ?_); rintro e w1 ⟨rfl, rfl⟩)
   go_wp2_with fail
   go_ret
   exact ⟨rfl, Below.refl _ _⟩
  | true =>
   rw [hval] at hv
   have HV := Aside0.mk hv
   clear hv
   have hu : Utf8.valid r = true := by
    rw [Lib.validRune] at hval
    have := of_decide_eq_true hval
    simp only [Utf8.valid]
    rcases this with h | h <;> simp <;> omega
   obtain ⟨f1, f2, f3⟩ := encode_facts r hu h0
   clear hval hu
   obtain ⟨t, ht⟩ : ∃ t, t = Utf8.encode r := ⟨_, rfl⟩
   have hconv : ∀ w, (convert 21 9 (.int .i32 r)).run Tryd.prog w = .ok (.string t) w := fun w => by rw [ht]; exact run_convert_int_string w _ _ _ _ (by rw [Tryd.underlying21]; rfl) Tryd.underlying9
   rw [← ht] at f1 f2 f3
   clear ht
   obtain ⟨s, hs⟩ : ∃ s, s = sep := ⟨_, rfl⟩
   have hz : s.size = 2 := by rw [hs]; rfl
   rw [← hs]
   by_cases h2 : t.size = 2
   ·obtain ⟨x, hx⟩ : ∃ x : UInt8, t[1]'(by omega) = x := ⟨_, rfl⟩
    have hx8 : 128 ≤ x.toNat := by
     have := f3 (by omega)
     simp only [h2] at this
     rw [← hx]; exact this
    have hsz : (t.size : Int) = 2 := by omega
    have hszs : (s.size : Int) = 2 := by omega
    have hi1 : ∀ w, (Instr.index 9 (.string s) (.int .i64 1)).run Tryd.prog w = .ok (.int .u8 0) w := fun w => by subst hs; kernel_rfl
    have ht1 : ∀ w, (Instr.index 9 (.string t) (.int .i64 1)).run Tryd.prog w = .ok (.int .u8 x.toNat) w := fun w => by
     rw [run_index_string w 9 t .i64 _ Tryd.underlying9, dif_pos ⟨by omega, by omega⟩]
     rw [← hx]
     rfl
    have hne : ((0 : Int) != (x.toNat : Int)) = true := by rw [bne_iff_ne]; omega
    have hsl : ∀ w, (Instr.slice 9 (.string s) (some (.int .i64 2)) none none).run Tryd.prog w = .ok (.string ⟨#[]⟩) w := fun w => by subst hs; kernel_rfl
    have HIB := Aside0.mk (fun w => Tryd.strings_IndexByte ⟨#[]⟩ (x.toNat : Int) w)
    have HS := Aside0.mk hs
    clear hx f1 f2 f3 h2 hz hs
    go_enter Tryd.func85, Tryd.ntmps85
    go_wp2_with fail
    ((with_reducible refine HV.out.mono ?_); rintro e w1 ⟨rfl, rfl⟩)
    go_wp2_with fail
    go_step3
    go_wp2_with fail
    refine wp_loop_rounds 1 ?_
    rw [rounds_succ]
    go_wp2_with fail
    go_step3
    go_wp2_with fail
    go_quiet (fail)
    go_wp2_with fail
    have w2 : IntKind.i64.wrap (1 + 1) = 2 := by decide
    go_quiet ((go_at_call 89; exact quiet_add_same (HIB.out _)))
    have hm1 : Lib.indexByte [] x = -1 := rfl
    go_wp2_with fail
    simp only [Exit.inBlock, Exit.then, Exit.noGoto]
    go_ret
    exact ⟨rfl, pw_below_drewN (Below.refl _ _) _⟩
   ·have hsz : ¬ ((t.size : Int) - 1 < 2) := by omega
    have hszs : (s.size : Int) = 2 := by omega
    have hb1 : (t.size : Int) ≤ 4 := by omega
    have hb2 : 2 ≤ (t.size : Int) := by omega
    have HS := Aside0.mk hs
    clear f1 f2 f3 h2 hz hs
    go_enter Tryd.func85, Tryd.ntmps85
    go_wp2_with fail
    ((with_reducible refine HV.out.mono ?_); rintro e w1 ⟨rfl, rfl⟩)
    go_wp2_with fail
    go_step3
    go_wp2_with fail
    refine wp_loop_rounds 1 ?_
    rw [rounds_succ]
    go_wp2_with fail
    simp only [Exit.inBlock, Exit.then, Exit.noGoto]
    go_ret
    exact ⟨rfl, Below.refl _ _⟩
theorem noAny_lib (s : ByteArray) (i : Nat) (hi : i < s.size) (h : 128 ≤ (s[i]'hi).toNat) (hn : Lib.NoAny s.data.toList sep.data.toList i) : Lib.NoAny s.data.toList sep.data.toList (i + (Utf8.decode s i).2) :=
 noAny_wide s _ i hn (decode_high_all s i hi h)
set_option maxHeartbeats 8000000 in
set_option maxRecDepth 1000000 in
theorem indexAny_short (s : ByteArray) (w : World) (h8 : s.size ≤ 8) :
  Calls Tryd.prog 79 #[.string s, .string sep] w fun e w' => e = .returned (.int .i64 (Lib.indexAny s.data.toList sep.data.toList)) ∧ Below w.heap.size w w' := by
 have hemp : sep.toList.isEmpty = false := by rw [Lib.toList_data]; rfl
 have hss : ((sep.size : Nat) : Int) = 2 := rfl
 have h8z : decide ((8 : Int) < (s.size : Int)) = false := decide_eq_false (by omega)
 have HC : Aside0 (∀ x : UInt8, sep.data.toList.contains x = decide (0 ≤ Lib.indexByte sep.data.toList x)) := ⟨fun x => Lib.contains_iff_indexByte _ x⟩
 have HLOW : Aside0 (∀ (x : UInt8) (w : World), x.toNat < 128 → Calls Tryd.prog 85 #[.string sep, .int .i32 x.toNat] w fun e w' => e = .returned (.int .i64 (Lib.indexByte sep.data.toList x)) ∧ w' = w) := ⟨fun x w hx => by
  have h := Tryd.strings_IndexRune_ascii sep (x.toNat : Int) w (by omega) (by omega)
  have e : ((x.toNat : Int)).toNat.toUInt8 = x := by simp
  rw [e] at h
  exact h⟩
 have HHIGH := Aside0.mk (fun (r : Int) (h : 128 ≤ r) (w : World) => indexRune_high r h w)
 have HSTEP := Aside0.mk (fun (i : Nat) (hi : i < s.size) (h : 128 ≤ (s[i]'hi).toNat) => noAny_lib s i hi h)
 have HHIT := Aside0.mk (fun (i : Nat) (x : UInt8) => @Lib.indexAny_hit s.data.toList sep.data.toList i x)
 have HNONE := Aside0.mk (@Lib.indexAny_none s.data.toList sep.data.toList)
 have hnb : ((sep.size : Int) == 1) = false := by decide
 clear hss
 generalize sep = t at *
 obtain ⟨b, hb⟩ : ∃ b, b = w.heap.size := ⟨_, rfl⟩
 have HI0 : Aside0 ((w.iter s 0).heap[b]? = some (.stringIter s 0)) := ⟨by rw [hb]; exact World.iter_heap _ _ _⟩
 have HB0 : Aside0 (Below w.heap.size w (w.iter s 0)) := ⟨by rw [World.iter]; exact (Below.refl _ _).alloc (Nat.le_refl _) _⟩
 have HBB := Aside0.mk hb
 go_enter Tryd.func79, Tryd.ntmps79
 go_wp2_with fail
 ((with_reducible refine (Tryd.strings_shouldUseASCIISet _ _).mono ?_); rintro e w1 ⟨rfl, hw⟩; rw [hw, h8z])
 clear hw
 go_wp2_with fail
 rw [← hb]
 clear hb
 generalize w.iter s 0 = w0 at *
 go_loopg [9, 10] s.size (fun g _ _ wx => ∃ i : Nat, s.size - i ≤ g ∧ i ≤ s.size ∧ Aside0 (wx.heap[b]? = some (.stringIter s i)) ∧ Aside0 (Below w.heap.size w wx) ∧ Aside0 (Lib.NoAny s.data.toList t.data.toList i))
 case atStart => exact ⟨0, by omega, by omega, HI0, HB0, ⟨Lib.NoAny.zero _ _⟩⟩
 case round =>
  clear HI0 HB0
  obtain ⟨i, hig, hi, HI, HB, HN⟩ := hrel
  by_cases hlt : i < s.size
  ·obtain ⟨x, hx⟩ : ∃ x : UInt8, s[i]'hlt = x := ⟨_, rfl⟩
   have HXL := Aside0.mk (Lib.data_getElem? s i hlt)
   rw [hx] at HXL
   by_cases hlow : x.toNat < 128
   ·have hnx := fun ty => Lib.run_next_ascii_at (P := Tryd.prog) wr b s i ty HI.out hlt (by rw [hx]; exact hlow)
    have HI2 := Aside0.mk (Lib.iterAt_heap wr b s i (i + 1) HI.out)
    have HB2 := Aside0.mk (Lib.below_iterAt HB.out (Nat.le_of_eq HBB.out.symm) s (i + 1))
    rw [hx] at hnx
    generalize wr.iterAt b s (i + 1) = w2 at *
    clear hx HI HB
    cases hin : t.data.toList.contains x
    ·have hlt0 : ¬ ((0 : Int) ≤ Lib.indexByte t.data.toList x) := of_decide_eq_false (by rw [← HC.out, hin])
     have HIN := Aside0.mk hin
     clear hin
     go_wp2_with fail
     ((with_reducible refine (HLOW.out x _ hlow).mono ?_); rintro e w3 ⟨rfl, rfl⟩)
     go_wp2_with fail
     go_roundg (s.size - (i + 1))
     case measure => omega
     case rel => exact ⟨i + 1, by omega, by omega, HI2, HB2, ⟨HN.out.succ HXL.out HIN.out⟩⟩
    ·have hlt0 : (0 : Int) ≤ Lib.indexByte t.data.toList x := of_decide_eq_true (by rw [← HC.out, hin])
     have HIN := Aside0.mk hin
     clear hin
     go_wp2_with fail
     ((with_reducible refine (HLOW.out x _ hlow).mono ?_); rintro e w3 ⟨rfl, rfl⟩)
     go_wp2_with fail
     go_ret
     exact ⟨by rw [HHIT.out i x HN.out HXL.out HIN.out]; rfl, HB2.out⟩
   ·have hh := decode_high s i hlt (by rw [hx]; omega)
    have hnx := fun ty => Lib.run_next_any_at (P := Tryd.prog) wr b s i ty HI.out hlt
    have HI2 := Aside0.mk (Lib.iterAt_heap wr b s i (i + (Utf8.decode s i).2) HI.out)
    have HB2 := Aside0.mk (Lib.below_iterAt HB.out (Nat.le_of_eq HBB.out.symm) s (i + (Utf8.decode s i).2))
    have HN2 := Aside0.mk (HSTEP.out i hlt (by rw [hx]; omega) HN.out)
    have hle : i + (Utf8.decode s i).2 ≤ s.size := by
     obtain ⟨hj, _⟩ := decode_high_all s i hlt (by rw [hx]; omega) ((Utf8.decode s i).2 - 1) (by omega)
     omega
    generalize (Utf8.decode s i).1 = c at *
    generalize (Utf8.decode s i).2 = n at *
    have HLT : Aside0 (b < (wr.iterAt b s (i + n)).heap.size) := ⟨(Array.getElem?_eq_some_iff.1 HI2.out).1⟩
    generalize wr.iterAt b s (i + n) = w2 at *
    have hc : 128 ≤ (c : Int) := by omega
    clear hx HI HB HN hlow HXL
    go_wp2_with fail
    ((with_reducible refine (HHIGH.out (c : Int) hc _).mono ?_); rintro e w3 ⟨rfl, hb3⟩)
    have HI3 := Aside0.mk ((hb3.block b HLT.out).trans HI2.out)
    have HB3 := Aside0.mk (HB2.out.trans (hb3.mono HB2.out.size))
    clear hb3
    go_wp2_with fail
    go_roundg (s.size - (i + n))
    case measure => omega
    case rel => exact ⟨i + n, by omega, by omega, HI3, HB3, HN2⟩
  ·obtain rfl : i = s.size := by omega
   have hnx := fun ty => Lib.run_next_end_at (P := Tryd.prog) wr b s s.size ty HI.out (Nat.lt_irrefl _)
   go_wp2_with fail
   go_ret
   exact ⟨by rw [HNONE.out (by rw [← Lib.size_eq]; exact HN.out)]; rfl, HB.out⟩
theorem sep_low : ∀ (j : Nat) (b : UInt8), sep.data.toList[j]? = some b → b.toNat < 128 := by
 intro j b h
 have hm := List.mem_of_getElem? h
 simp [sep] at hm
 rcases hm with rfl | rfl <;> decide
theorem indexAny_sep (s : ByteArray) (w : World) (hs : s.size < 4294967281) :
  Calls Tryd.prog 79 #[.string s, .string sep] w fun e w' => e = .returned (.int .i64 (Lib.indexAny s.data.toList sep.data.toList)) ∧ Below w.heap.size w w' := by
 by_cases h8 : s.size ≤ 8
 ·exact indexAny_short s w h8
 ·have hz : ∀ w, (zeroValue 132).run Tryd.prog w = .ok (.agg (Array.replicate 256 (.bool false))) w := (zero_of_info (P := Tryd.prog) (t := 132) (n := 256) (by kernel_rfl)).1
  refine (Tryd.strings_IndexAny_long hz s sep w (by decide) (by omega) hs (by decide) sep_low).mono ?_
  rintro e w' ⟨he, hw⟩
  exact ⟨he, by rw [hw]; exact ((Below.refl _ _).alloc (Nat.le_refl _) _).alloc (by simp) _⟩
theorem containsAny_sep (s : ByteArray) (w : World) (hs : s.size < 4294967281) :
  Calls Tryd.prog 70 #[.string s, .string sep] w fun e w' => e = .returned (.bool (Lib.containsAny s.data.toList sep.data.toList)) ∧ Below w.heap.size w w' := by
 have h := Aside0.mk (fun w => indexAny_sep s w hs)
 have he : Lib.containsAny s.data.toList sep.data.toList = decide (0 ≤ Lib.indexAny s.data.toList sep.data.toList) := rfl
 rw [he]
 clear he hs
 generalize Lib.indexAny s.data.toList sep.data.toList = r at *
 generalize sep = t at *
 go_enter Tryd.func70, Tryd.ntmps70
 go_wp2_with fail
 ((with_reducible refine (h.out _).mono ?_); rintro e w1 ⟨rfl, hb⟩)
 have HB := Aside0.mk hb
 clear hb
 go_wp2_with fail
 go_ret
 exact ⟨rfl, HB.out⟩
end Go.Proofs.YtnemeeidomceiaaDoor
end
section
namespace Go.Proofs.YtnemeeidomceiaaDoor
open Go.RowKit Go.Proofs.YtnemeeidomceiaaDoorW.PrintWords
set_option linter.unusedVariables false
abbrev Ent := S63
/-- The bytes that a text of n bytes takes. -/
def fr (n : Nat) : Int := if n ≤ 1099511627776 then 8 + ((n + 7) / 8 * 8 : Nat) else 0
theorem fr_range (n : Nat) : 0 ≤ fr n ∧ fr n ≤ 1099511627792 := by unfold fr; split <;> omega
def frs : List ByteArray → Int
 | [] => 0
 | s :: l => fr s.size + frs l
theorem frs_range : ∀ l : List ByteArray, 0 ≤ frs l ∧ frs l ≤ 1099511627792 * (l.length : Int)
 | [] => by simp [frs]
 | s :: l => by
  have h1 := frs_range l
  have h2 := fr_range s.size
  simp only [frs, List.length_cons]
  omega
theorem frs_snoc : ∀ (l : List ByteArray) (s : ByteArray), frs (l ++ [s]) = frs l + fr s.size
 | [], s => by simp [frs]
 | x :: l, s => by simp only [List.cons_append, frs, frs_snoc l s]; omega
def wOpen : ByteArray := ⟨#[40]⟩
def wShut : ByteArray := ⟨#[41]⟩
def wType : ByteArray := ⟨#[116, 121, 112, 101]⟩
def wReg : ByteArray := ⟨#[114, 101, 103, 117, 108, 97, 114]⟩
def wCont : ByteArray := ⟨#[99, 111, 110, 116, 101, 110, 116, 115]⟩
def wExec : ByteArray := ⟨#[101, 120, 101, 99, 117, 116, 97, 98, 108, 101]⟩
def wNone : ByteArray := ⟨#[]⟩
def wSym : ByteArray := ⟨#[115, 121, 109, 108, 105, 110, 107]⟩
def wTarget : ByteArray := ⟨#[116, 97, 114, 103, 101, 116]⟩
def wDir : ByteArray := ⟨#[100, 105, 114, 101, 99, 116, 111, 114, 121]⟩
def wEntry : ByteArray := ⟨#[101, 110, 116, 114, 121]⟩
def wName : ByteArray := ⟨#[110, 97, 109, 101]⟩
def wNode : ByteArray := ⟨#[110, 111, 100, 101]⟩
def wMagic : ByteArray := ⟨#[100, 101, 112, 111, 116, 45, 97, 114, 99, 104, 105, 118, 101, 45, 49]⟩
def fileW (t : ByteArray) : List ByteArray := [wOpen, wType, wReg, wCont, t, wShut]
def execW : List ByteArray := [wExec, wNone]
def linkW (t : ByteArray) : List ByteArray := [wOpen, wType, wSym, wTarget, t, wShut]
def dirW : List ByteArray := [wOpen, wType, wDir, wShut]
def entW (n : ByteArray) : List ByteArray := [wEntry, wOpen, wName, n, wNode, wShut]
def magW : List ByteArray := [wMagic]
/-- The bytes of a node in an archive, but for its kids. -/
def ownS (k : Int) (e : Bool) (t : ByteArray) : Int :=
 if k = 1 then (if e = true then frs (fileW t) + frs execW else frs (fileW t)) else if k = 2 then frs (linkW t) else frs dirW
theorem ownS_range (k : Int) (e : Bool) (t : ByteArray) : 0 ≤ ownS k e t ∧ ownS k e t ≤ 10000000000000 := by
 have h1 := frs_range (fileW t)
 have h2 := frs_range execW
 have h3 := frs_range (linkW t)
 have h4 := frs_range dirW
 simp only [fileW, execW, linkW, dirW, List.length_cons, List.length_nil] at h1 h2 h3 h4
 unfold ownS
 split
 ·split <;> simp only [fileW, execW] <;> omega
 ·split <;> simp only [linkW, dirW] <;> omega
def entS (n : ByteArray) : Int := frs (entW n)
theorem entS_range (n : ByteArray) : 0 ≤ entS n ∧ entS n ≤ 10000000000000 := by
 have h1 := frs_range (entW n)
 simp only [entW, List.length_cons, List.length_nil] at h1
 unfold entS
 simp only [entW]
 omega
def magS : Int := frs magW
theorem magS_eq : magS = 24 := by decide
/-- May a link have this target? -/
def targetE (t : ByteArray) : Int := if t.size = 0 then 63 else if t.data.toList.contains 0 = true then 63 else 0
/-- Are a node's own fields as its kind wants them? -/
def fieldsE (k : Int) (e : Bool) (t : ByteArray) (l : List Ent) : Int :=
 if k = 1 then (if 0 < l.length then 62 else 0)
 else if k = 2 then (if e = true then 62 else if 0 < l.length then 62 else targetE t)
 else if k = 3 then (if e = true then 62 else if t.size = 0 then 0 else 62)
 else 60
/-- May a text be the name of an entry? -/
def nameE (s : ByteArray) : Int :=
 if s.size = 0 then 50 else if 255 < s.size then 6 else if Lib.containsAny s.data.toList sep.data.toList = true then 51
 else if s.toList = [46] then 52 else if s.toList = [46, 46] then 52 else 0
/-- The path of a kid. -/
def belowP (path kid : ByteArray) (depth : Int) : ByteArray := if depth = 1 then kid else path ++ ⟨#[47]⟩ ++ kid
/-- Does a stand at b, or ahead of it? -/
def nle (a b : ByteArray) : Bool := Op.bytesLess a.toList b.toList || a.toList == b.toList
abbrev RowT := ByteArray × Int × Bool × ByteArray
inductive Look
 | bad (path : ByteArray) (code : Int)
 | ok (bytes : Int) (rows : List RowT)
def Look.pre (rs : List RowT) : Look → Look
 | .bad p c => .bad p c
 | .ok b r => .ok b (rs ++ r)
theorem Look.pre_pre (s : Look) (a b : List RowT) : (s.pre a).pre b = s.pre (b ++ a) := by cases s <;> simp [Look.pre]
/-- What follows where a part was well. -/
def Look.then (s : Look) (k : Int → Look) : Look := match s with
 | .bad p c => .bad p c
 | .ok b r => (k b).pre r
def kidAt (nd : ByteArray → Ent → Int → Look) (depth : Int) (path : ByteArray) (prev : Option ByteArray) (x : Ent) (b : Int) : Look :=
 if nameE x.f0 ≠ 0 then .bad (belowP path x.f0 depth) (nameE x.f0)
 else if prev.any (fun p => nle x.f0 p) = true then .bad (belowP path x.f0 depth) 64
 else if 1048576 < b + entS x.f0 then .bad (belowP path x.f0 depth) 2
 else nd (belowP path x.f0 depth) x (b + entS x.f0)
def kidsL (nd : ByteArray → Ent → Int → Look) (depth : Int) (path : ByteArray) : Option ByteArray → List Ent → Int → Look
 | _, [], b => .ok b []
 | prev, x :: xs, b => (kidAt nd depth path prev x b).then (fun b2 => kidsL nd depth path (some x.f0) xs b2)
/-- A node that stands f nodes ahead of the deepest. -/
def nodeL : Nat → ByteArray → Ent → Int → Look
 | 0, path, _, _ => .bad path 61
 | f + 1, path, x, b =>
  if fieldsE x.f1 x.f2 x.f3 x.f4 ≠ 0 then .bad path (fieldsE x.f1 x.f2 x.f3 x.f4)
  else if 1048576 < b + ownS x.f1 x.f2 x.f3 then .bad path 2
  else (kidsL (nodeL f) (32 - (f : Int)) path none x.f4 (b + ownS x.f1 x.f2 x.f3)).pre [(path, x.f1, x.f2, x.f3)]
/-- The whole tree. -/
def lookL (k : Int) (e : Bool) (t : ByteArray) (l : List Ent) : Look := nodeL 32 ⟨#[]⟩ ⟨⟨#[]⟩, k, e, t, l⟩ magS
/-- The kid ahead of place i. -/
def prevAt (l : List Ent) (i : Nat) : Option ByteArray := if i = 0 then none else (l[i - 1]?).map (·.f0)
theorem prevAt_succ {l : List Ent} {i : Nat} {x : Ent} (h : l[i]? = some x) : prevAt l (i + 1) = some x.f0 := by
 unfold prevAt
 rw [if_neg (by omega), Nat.add_sub_cancel, h]
 rfl
theorem kids_step (nd : ByteArray → Ent → Int → Look) (depth : Int) (path : ByteArray) (l : List Ent) (i : Nat) (x : Ent) (h : l[i]? = some x) (b : Int) :
  kidsL nd depth path (prevAt l i) (l.drop i) b = (kidAt nd depth path (prevAt l i) x b).then (fun b2 => kidsL nd depth path (prevAt l (i + 1)) (l.drop (i + 1)) b2) := by
 obtain ⟨hi, hx⟩ := List.getElem?_eq_some_iff.1 h
 rw [List.drop_eq_getElem_cons hi, hx, prevAt_succ h]
 rfl
theorem Look.then_ok {s : Look} {b : Int} {r : List RowT} (h : s = .ok b r) (k : Int → Look) : s.then k = (k b).pre r := by rw [h]; rfl
theorem Look.then_bad {s : Look} {p : ByteArray} {c : Int} (h : s = .bad p c) (k : Int → Look) : s.then k = .bad p c := by rw [h]; rfl
theorem kids_bad {nd : ByteArray → Ent → Int → Look} {depth : Int} {path : ByteArray} {l : List Ent} {i : Nat} {x : Ent} {b : Int} {r : Look} {rs : List RowT} {q : ByteArray} {c : Int} (h : l[i]? = some x)
  (hr : r = (kidsL nd depth path (prevAt l i) (l.drop i) b).pre rs) (hk : kidAt nd depth path (prevAt l i) x b = .bad q c) : r = .bad q c := by
 rw [hr, kids_step nd depth path l i x h b, Look.then_bad hk]
 rfl
theorem kids_ok {nd : ByteArray → Ent → Int → Look} {depth : Int} {path : ByteArray} {l : List Ent} {i : Nat} {x : Ent} {b b2 : Int} {r : Look} {rs rows : List RowT} (h : l[i]? = some x)
  (hr : r = (kidsL nd depth path (prevAt l i) (l.drop i) b).pre rs) (hk : kidAt nd depth path (prevAt l i) x b = .ok b2 rows) : r = (kidsL nd depth path (prevAt l (i + 1)) (l.drop (i + 1)) b2).pre (rs ++ rows) := by
 rw [hr, kids_step nd depth path l i x h b, Look.then_ok hk, Look.pre_pre]
theorem belowP_size {path kid : ByteArray} (depth : Int) (h : nameE kid = 0) : (belowP path kid depth).size ≤ path.size + 256 := by
 have h2 : kid.size ≤ 255 := by
  unfold nameE at h
  split at h
  ·omega
  ·split at h
   ·omega
   ·omega
 unfold belowP
 split
 ·omega
 ·rw [ByteArray.size_append, ByteArray.size_append]
  show path.size + 1 + kid.size ≤ _
  omega
/-- Every text of the tree is one that a memory holds. -/
inductive Texts : List Ent → Prop
 | mk {l : List Ent} (h : ∀ x, x ∈ l → x.f0.size ≤ 140737488351232 ∧ x.f3.size ≤ 140737488351232) (k : ∀ x, x ∈ l → Texts x.f4) : Texts l
theorem Texts.at {l : List Ent} (h : Texts l) {i : Nat} {x : Ent} (hx : l[i]? = some x) : x.f0.size ≤ 140737488351232 ∧ x.f3.size ≤ 140737488351232 ∧ Texts x.f4 := by
 cases h with
 | mk h k => exact ⟨(h x (List.mem_of_getElem? hx)).1, (h x (List.mem_of_getElem? hx)).2, k x (List.mem_of_getElem? hx)⟩
/-- A link or a file has no kids where its fields are as they should be. -/
theorem fields_kids {k : Int} {e : Bool} {t : ByteArray} {l : List Ent} (h : fieldsE k e t l = 0) (hk : k ≠ 3) : l = [] := by
 unfold fieldsE at h
 split at h
 ·split at h
  ·omega
  ·exact List.length_eq_zero_iff.1 (by omega)
 ·split at h
  ·split at h
   ·omega
   ·split at h
    ·omega
    ·exact List.length_eq_zero_iff.1 (by omega)
  ·first | omega | (rw [if_neg hk] at h; omega)
theorem fields_kind {k : Int} {e : Bool} {t : ByteArray} {l : List Ent} (h : fieldsE k e t l = 0) : k = 1 ∨ k = 2 ∨ k = 3 := by
 unfold fieldsE at h
 by_cases h1 : k = 1
 ·exact .inl h1
 by_cases h2 : k = 2
 ·exact .inr (.inl h2)
 by_cases h3 : k = 3
 ·exact .inr (.inr h3)
 rw [if_neg h1, if_neg h2, if_neg h3] at h
 omega
theorem kidsL_all {nd : ByteArray → Ent → Int → Look} {depth : Int} {path : ByteArray} (P : Int → Look → Prop) (hb : ∀ p c b, c ≠ 0 → P b (.bad p c)) (hnd : ∀ q x b, P b (nd q x b))
  (hok : ∀ b, P b (.ok b [])) (hmono : ∀ b b' s, b ≤ b' → b' ≤ 1048576 → P b' s → P b s) (hpre : ∀ b b2 rows s, P b (.ok b2 rows) → P b2 s → P b (s.pre rows)) (hbad0 : ∀ b p c, P b (.bad p c) → c ≠ 0) : ∀ (l : List Ent) (prev : Option ByteArray) (b : Int), P b (kidsL nd depth path prev l b)
 | [], prev, b => hok b
 | x :: l, prev, b => by
  have hk : P b (kidAt nd depth path prev x b) := by
   unfold kidAt
   have he := entS_range x.f0
   split
   ·rename_i h; exact hb _ _ _ h
   ·split
    ·exact hb _ _ _ (by decide)
    ·split
     ·exact hb _ _ _ (by decide)
     ·exact hmono _ _ _ (by omega) (by omega) (hnd _ _ _)
  show P b ((kidAt nd depth path prev x b).then (fun b2 => kidsL nd depth path (some x.f0) l b2))
  cases hs : kidAt nd depth path prev x b with
  | bad q c => rw [hs] at hk; exact hk
  | ok b2 rows => rw [hs] at hk; exact hpre _ _ _ _ hk (kidsL_all P hb hnd hok hmono hpre hbad0 l (some x.f0) b2)
/-- No offence has the number 0; and each row takes a byte at least. -/
def LookFair (b : Int) : Look → Prop
 | .bad _ c => c ≠ 0
 | .ok b2 rows => b + (rows.length : Int) ≤ b2 ∧ (b ≤ 1048576 → b2 ≤ 1048576)
theorem own_pos (k : Int) (e : Bool) (t : ByteArray) : 1 ≤ ownS k e t := by
 have h1 : 16 ≤ frs (fileW t) := by
  have := frs_range [wType, wReg, wCont, t, wShut]
  have e : frs (fileW t) = fr wOpen.size + frs [wType, wReg, wCont, t, wShut] := rfl
  have e2 : fr wOpen.size = 16 := rfl
  omega
 have h2 : 16 ≤ frs (linkW t) := by
  have := frs_range [wType, wSym, wTarget, t, wShut]
  have e : frs (linkW t) = fr wOpen.size + frs [wType, wSym, wTarget, t, wShut] := rfl
  have e2 : fr wOpen.size = 16 := rfl
  omega
 have h3 : 16 ≤ frs dirW := by decide
 have h4 := frs_range execW
 unfold ownS
 split
 ·split <;> omega
 ·split <;> omega
theorem nodeL_fair : ∀ (f : Nat) (path : ByteArray) (x : Ent) (b : Int), LookFair b (nodeL f path x b)
 | 0, _, _, _ => by show (61 : Int) ≠ 0; decide
 | f + 1, path, x, b => by
  unfold nodeL
  split
  ·rename_i h; exact h
  ·split
   ·show (2 : Int) ≠ 0; decide
   ·have ho := own_pos x.f1 x.f2 x.f3
    have hk := kidsL_all (nd := nodeL f) (depth := 32 - (f : Int)) (path := path) LookFair (fun p c b h => h) (fun q y b => nodeL_fair f q y b) (fun b => by show b + 0 ≤ b ∧ (b ≤ 1048576 → b ≤ 1048576); omega)
     (fun b b' s hb hm h => by cases s with
      | bad => exact h
      | ok b2 rows => simp only [LookFair] at h ⊢; omega)
     (fun b b2 rows s h1 h2 => by cases s with
      | bad => exact h2
      | ok b3 rows2 => simp only [LookFair, Look.pre, List.length_append] at h1 h2 ⊢; omega) (fun b p c h => h) x.f4 none (b + ownS x.f1 x.f2 x.f3)
    generalize kidsL (nodeL f) (32 - (f : Int)) path none x.f4 (b + ownS x.f1 x.f2 x.f3) = s at hk
    cases s with
    | bad => exact hk
    | ok b2 rows =>
     simp only [LookFair, Look.pre, List.length_append, List.length_singleton] at hk ⊢
     omega
end Go.Proofs.YtnemeeidomceiaaDoor
end
section
namespace Go.Proofs.YtnemeeidomceiaaDoor
open Go.RowKit Go.Proofs.YtnemeeidomceiaaDoorW.PrintWords Go.Proofs.YtnemeeidomceiaaDoorW.PrintLast Go.Proofs.YtnemeeidomceiaaDoorW.PrintMore
/-- The first place of a byte in a text, or -1. -/
def strings_IndexByte.f (s : ByteArray) (c : Int) : Option Int := some (Lib.indexByte s.data.toList c.toNat.toUInt8)
theorem strings_IndexByte.calls (s : ByteArray) (c : Int) (r : Int) (w : World) (h : strings_IndexByte.f s c = some r) :
  Calls Tryd.prog 89 #[.string s, .int .u8 c] w fun e w' => e = .returned (.int .i64 r) ∧ Drawn0 w w' := by
 obtain rfl := Option.some.inj h
 refine (Tryd.strings_IndexByte s c w).mono ?_
 rintro e w' ⟨he, hw⟩
 exact ⟨he, by rw [hw]; exact Drawn0.refl _⟩
open Classical in
/-- Does a text bear one of the two bytes that no name bears? -/
noncomputable def strings_ContainsAny.f (s t : ByteArray) : Option Bool := if t = sep ∧ s.size < 4294967281 then some (Lib.containsAny s.data.toList sep.data.toList) else none
theorem strings_ContainsAny.calls (s t : ByteArray) (r : Bool) (w : World) (h : strings_ContainsAny.f s t = some r) :
  Calls Tryd.prog 70 #[.string s, .string t] w fun e w' => e = .returned (.bool r) ∧ Below w.heap.size w w' := by
 unfold strings_ContainsAny.f at h
 by_cases hc : t = sep ∧ s.size < 4294967281
 ·rw [if_pos hc] at h
  obtain rfl := Option.some.inj h
  rw [hc.1]
  exact containsAny_sep s w hc.2
 ·rw [if_neg hc] at h
  cases h
end Go.Proofs.YtnemeeidomceiaaDoor
end
section
namespace Go.Proofs.YtnemeeidomceiaaDoor.PTreeChecks
open Go.RowKit Go.Proofs.YtnemeeidomceiaaDoorW.PrintWords Go.Proofs.YtnemeeidomceiaaDoorW.PrintLast Go.Proofs.YtnemeeidomceiaaDoorW.PrintMore
attribute [local go_sem] max2_int min2_int max_two min_two max_three min_three max_four min_four   -- for this text's walks alone
set_option linter.unusedVariables false
set_option linter.unusedSimpArgs false
noncomputable section
def errW : Option Int → Value
 | none => .nilIface
 | some c => .iface 0 (.int .i64 c)
theorem errW_none : errW none = .nilIface := rfl
theorem errW_some (c : Int) : errW (some c) = .iface 0 (.int .i64 c) := rfl
theorem info9 : (Tryd.prog.info? 9).map (fun i => (i.zero, i.size, i.bytes)) = some (some (.string ⟨#[]⟩), 1, 16) := by kernel_rfl
end
end Go.Proofs.YtnemeeidomceiaaDoor.PTreeChecks
end
section
namespace Go.Proofs.YtnemeeidomceiaaDoor.PTreeChecks
open Go.RowKit Go.Proofs.YtnemeeidomceiaaDoorW.PrintWords Go.Proofs.YtnemeeidomceiaaDoorW.PrintLast Go.Proofs.YtnemeeidomceiaaDoorW.PrintMore
attribute [local go_sem] max2_int min2_int max_two min_two max_three min_three max_four min_four   -- for this text's walks alone
set_option linter.unusedVariables false
set_option linter.unusedSimpArgs false
noncomputable section
def wire_Framed.f (a0 : Int) : Option (Int) := if a0 < 0 then (some 0) else (if a0 > 1099511627776 then (some 0) else (some (wrap64 (8 + (wrap64 ((wrap64 (Int.tdiv (wrap64 (a0 + 7)) 8)) * 8))))))
set_option maxHeartbeats 8000000 in
set_option maxRecDepth 100000 in
theorem wire_Framed.calls (a0 : Int) (r : Int) (w : World) (h : wire_Framed.f a0 = some r) :
  Calls Tryd.prog 52 #[.int .i64 a0] w fun e w' => e = .returned (.int .i64 r) ∧ Drawn0 w w' := by
 have H : (if a0 < 0 then (some 0) else (if a0 > 1099511627776 then (some 0) else (some (wrap64 (8 + (wrap64 ((wrap64 (Int.tdiv (wrap64 (a0 + 7)) 8)) * 8))))))) = some r := h
 clear h
 by_cases c2 : a0 < 0
 ·rw [if_pos c2] at H
  have c2b0 : decide (a0 < 0) = true := decide_eq_true c2
  clear c2
  obtain rfl := Option.some.inj H
  go_enter Tryd.func52, Tryd.ntmps52
  go_wp2
  go_ret
  exact ⟨by first | rfl | (simp; done) | (simp [*]; done), by repeat (first | exact Drawn0.refl _ | apply Drawn0.step)⟩
 ·rw [if_neg c2] at H
  have c2b0 : decide (a0 < 0) = false := decide_eq_false c2
  clear c2
  by_cases c3 : a0 > 1099511627776
  ·rw [if_pos c3] at H
   have c3b0 : decide (1099511627776 < a0) = true := decide_eq_true c3
   clear c3
   obtain rfl := Option.some.inj H
   go_enter Tryd.func52, Tryd.ntmps52
   go_wp2
   go_ret
   exact ⟨by first | rfl | (simp; done) | (simp [*]; done), by repeat (first | exact Drawn0.refl _ | apply Drawn0.step)⟩
  ·rw [if_neg c3] at H
   have c3b0 : decide (1099511627776 < a0) = false := decide_eq_false c3
   clear c3
   obtain rfl := Option.some.inj H
   go_enter Tryd.func52, Tryd.ntmps52
   go_wp2
   go_ret
   exact ⟨by first | rfl | (simp; done) | (simp [*]; done), by repeat (first | exact Drawn0.refl _ | apply Drawn0.step)⟩
def tree_framed.l0 : Nat → Int → List ByteArray → Int → Int → Option (Int)
 | 0, _, _, _, _ => none
 | k + 1, x3, x6, x7, x8 => if x8 < x7 then (if 0 ≤ x8 then (if x8 < (x6.length : Int) then ((wire_Framed.f ((rdOf ByteArray.empty x6 x8).size : Int)).bind fun t102 => (tree_framed.l0 k (wrap64 (x3 + t102)) x6 x7 (wrap64 (x8 + 1)))) else (none)) else (none)) else (some x3)
def tree_framed.f (k : Nat) (l0 : List ByteArray) : Option (Int) := tree_framed.l0 k 0 l0 (l0.length : Int) 0
theorem tree_framed.mono_l : ∀ k, (∀ y0 y1 y2 y3, LeO (tree_framed.l0 k y0 y1 y2 y3) (tree_framed.l0 (k + 1) y0 y1 y2 y3))
 | 0 => fun _ _ _ _ r h => by simp [tree_framed.l0] at h
 | k + 1 => by
  have ih0 := tree_framed.mono_l k
  ·intro y0 y1 y2 y3
   unfold tree_framed.l0
   repeat' first
   | (with_reducible exact ih0 _ _ _ _)
   | (with_reducible exact LeO.refl _)
   | (with_reducible exact LeO.none _)
   | (with_reducible refine LeO.ite ?_ ?_)
   | (with_reducible refine LeO.bind ?_ (fun _ => ?_))
   | exact ih0 _ _ _ _
   | exact LeO.none _
   | refine LeO.ite ?_ ?_
   | refine LeO.bind ?_ (fun _ => ?_)
theorem tree_framed.mono : ∀ a0 k, LeO (tree_framed.f k a0) (tree_framed.f (k + 1) a0) := by
 intro a0 k
 have ih0 := tree_framed.mono_l k
 unfold tree_framed.f
 repeat' first
   | (with_reducible exact ih0 _ _ _ _)
   | (with_reducible exact LeO.refl _)
   | (with_reducible exact LeO.none _)
   | (with_reducible refine LeO.ite ?_ ?_)
   | (with_reducible refine LeO.bind ?_ (fun _ => ?_))
   | exact ih0 _ _ _ _
   | exact LeO.none _
   | refine LeO.ite ?_ ?_
   | refine LeO.bind ?_ (fun _ => ?_)
set_option maxHeartbeats 8000000 in
set_option maxRecDepth 100000 in
theorem tree_framed.calls (k : Nat) (A0 : Option Addr) (c0 : Nat) (l0 : List ByteArray) (r : Int) (w : World) (hr0 : Kd.C Kd.string w A0 l0.length l0) (hc0 : l0.length ≤ c0) (h : tree_framed.f k l0 = some r) :
  Calls Tryd.prog 28 #[.slice A0 l0.length c0] w fun e w' => e = .returned (.int .i64 r) ∧ Drawn0 w w' := by
 have HR0 := Aside0.mk hr0
 have HC0 := Aside0.mk hc0
 clear hr0 hc0
 have H : (tree_framed.l0 k 0 l0 (l0.length : Int) 0) = some r := h
 clear h
 have H' := Aside0.mk H
 clear H
 go_enter Tryd.func28, Tryd.ntmps28
 go_wp2
 go_loopg [3, 8] k (fun kq v3 v8 w' => ∃ (x3_1 : Int) (x8_1 : Int), v3 = .int .i64 x3_1 ∧ v8 = .int .i64 x8_1 ∧ Aside0 (tree_framed.l0 kq x3_1 l0 (l0.length : Int) x8_1 = some r) ∧ Aside0 (kq ≤ k) ∧ Drawn0 w w')
 case atStart => exact ⟨(0), (0), (by first | rfl | (simp; done) | (simp [*]; done)), (by first | rfl | (simp; done) | (simp [*]; done)), H', ⟨Nat.le_refl _⟩, by repeat (first | exact Drawn0.refl _ | apply Drawn0.step)⟩
 case round =>
  clear H'
  obtain ⟨x3_1, x8_1, rfl, rfl, HA, HK1, ⟨m1, rfl⟩⟩ := hrel
  cases gk with
  | zero => exact absurd HA.out (by simp [tree_framed.l0])
  | succ k1 =>
   have H := HA.out
   clear HA
   simp only [tree_framed.l0] at H
   by_cases c2 : x8_1 < (l0.length : Int)
   ·rw [if_pos c2] at H
    have c2b0 : decide (x8_1 < (l0.length : Int)) = true := decide_eq_true c2
    clear c2
    by_cases c3 : 0 ≤ x8_1
    ·rw [if_pos c3] at H
     have c3b0 : decide (0 ≤ x8_1) = true := decide_eq_true c3
     clear c3
     by_cases c4 : x8_1 < (l0.length : Int)
     ·rw [if_pos c4] at H
      have c4b0 : decide (x8_1 < (l0.length : Int)) = true := decide_eq_true c4
      clear c4
      replace H := Option.bind_eq_some_iff.mp H
      obtain ⟨t102, A50, H⟩ := H
      replace H : (tree_framed.l0 k1 (wrap64 (x3_1 + t102)) l0 (l0.length : Int) (wrap64 (x8_1 + 1))) = some r := H
      have A5 := Aside0.mk A50
      clear A50
      have H' := Aside0.mk H
      clear H
      have p101 : 0 ≤ (x8_1 : Int) := of_decide_eq_true (by first | (with_reducible assumption) | assumption)
      have q101 : x8_1 < (l0.length : Int) := of_decide_eq_true (by first | (with_reducible assumption) | assumption)
      obtain ⟨ad101, e101, hx101_0⟩ := Kd.at_string HR0.out x8_1 p101 q101
      cases e101
      replace p101 := eq_true p101
      replace q101 := eq_true q101
      go_wp2_with (first | ((with_reducible refine gate_callee (f := 52) rfl ?_); refine goesL_ (some 15) rfl rfl Tryd.func52 (by kernel_rfl) rfl #[.int .i64 ((rdOf ByteArray.empty l0 x8_1).size : Int)] rfl (by (try simp only [List.map_toArray, List.map_cons, List.map_nil]); first | done | rfl | (simp only [List.length_drop, List.length_take]; rfl)) ?_; (with_reducible refine (wire_Framed.calls ((rdOf ByteArray.empty l0 x8_1).size : Int) t102 _ A5.out).mono ?_); rintro e w' ⟨rfl, ⟨nd, rfl⟩⟩; refine ⟨_, rfl, ?_⟩))
      go_roundg k1
      case measure => have := HK1.out; omega
      case rel => exact ⟨(wrap64 (x3_1 + t102)), (wrap64 (x8_1 + 1)), (by first | rfl | (simp; done) | (simp [*]; done)), (by first | rfl | (simp; done) | (simp [*]; done)), H', ⟨by have := HK1.out; omega⟩, by repeat (first | exact Drawn0.refl _ | apply Drawn0.step)⟩
     ·rw [if_neg c4] at H
      exact absurd H (by simp)
    ·rw [if_neg c3] at H
     exact absurd H (by simp)
   ·rw [if_neg c2] at H
    have c2b0 : decide (x8_1 < (l0.length : Int)) = false := decide_eq_false c2
    clear c2
    obtain rfl := Option.some.inj H
    go_wp2
    go_ret
    exact ⟨by first | rfl | (simp; done) | (simp [*]; done), by repeat (first | exact Drawn0.refl _ | apply Drawn0.step)⟩
def tree_below.f (a0 : ByteArray) (a1 : ByteArray) (a2 : Int) : Option (ByteArray) := if a2 = 1 then (some a1) else (if a0.size + 1 ≤ 9223372036854775807 then (if (a0 ++ (⟨#[47]⟩ : ByteArray)).size + a1.size ≤ 9223372036854775807 then (some ((a0 ++ (⟨#[47]⟩ : ByteArray)) ++ a1)) else (none)) else (none))
set_option maxHeartbeats 8000000 in
set_option maxRecDepth 100000 in
theorem tree_below.calls (a0 : ByteArray) (a1 : ByteArray) (a2 : Int) (r : ByteArray) (w : World) (h : tree_below.f a0 a1 a2 = some r) :
  Calls Tryd.prog 36 #[.string a0, .string a1, .int .i64 a2] w fun e w' => e = .returned (.string r) ∧ Drawn0 w w' := by
 have H : (if a2 = 1 then (some a1) else (if a0.size + 1 ≤ 9223372036854775807 then (if (a0 ++ (⟨#[47]⟩ : ByteArray)).size + a1.size ≤ 9223372036854775807 then (some ((a0 ++ (⟨#[47]⟩ : ByteArray)) ++ a1)) else (none)) else (none))) = some r := h
 clear h
 by_cases c4 : a2 = 1
 ·rw [if_pos c4] at H
  have c4b0 : (a2 == 1) = true := beq_iff_eq.mpr c4
  have c4b1 : (a2 != 1) = false := bne_eq_false_iff_eq.mpr c4
  clear c4
  obtain rfl := Option.some.inj H
  go_enter Tryd.func36, Tryd.ntmps36
  go_wp2
  go_ret
  exact ⟨by first | rfl | (simp; done) | (simp [*]; done), by repeat (first | exact Drawn0.refl _ | apply Drawn0.step)⟩
 ·rw [if_neg c4] at H
  have c4b0 : (a2 == 1) = false := beq_eq_false_iff_ne.mpr c4
  have c4b1 : (a2 != 1) = true := bne_iff_ne.mpr c4
  by_cases c5 : a0.size + 1 ≤ 9223372036854775807
  ·rw [if_pos c5] at H
   have c5b0 := eq_true c5
   have c5b1 : decide (a0.size + 1 ≤ 9223372036854775807) = true := decide_eq_true c5
   try have c5b2 : (9223372036854775807 < a0.size + 1) = False := eq_false (Nat.not_lt.2 c5)
   by_cases c6 : (a0 ++ (⟨#[47]⟩ : ByteArray)).size + a1.size ≤ 9223372036854775807
   ·rw [if_pos c6] at H
    have c6b0 := eq_true c6
    have c6b1 : decide ((a0 ++ (⟨#[47]⟩ : ByteArray)).size + a1.size ≤ 9223372036854775807) = true := decide_eq_true c6
    try have c6b2 : (9223372036854775807 < (a0 ++ (⟨#[47]⟩ : ByteArray)).size + a1.size) = False := eq_false (Nat.not_lt.2 c6)
    obtain rfl := Option.some.inj H
    go_enter Tryd.func36, Tryd.ntmps36
    go_wp2
    go_ret
    exact ⟨by first | rfl | (simp; done) | (simp [*]; done), by repeat (first | exact Drawn0.refl _ | apply Drawn0.step)⟩
   ·rw [if_neg c6] at H
    exact absurd H (by simp)
  ·rw [if_neg c5] at H
   exact absurd H (by simp)
def bytealg_Cutover.f (a0 : Int) : Option (Int) := some (wrap64 (Int.tdiv (wrap64 (a0 + 16)) 8))
def utf8_ValidRune.j0 : Nat → Int → Bool → Option (Bool)
 | 0, _, _ => none
 | k + 1, x0, x3 => if x3 = true then (some true) else (if 57343 < x0 then (if x0 ≤ 1114111 then (some true) else (some false)) else (some false))
def utf8_ValidRune.f (k : Nat) (a0 : Int) : Option (Bool) := if 0 ≤ a0 then (utf8_ValidRune.j0 k a0 (decide (a0 < 55296))) else (utf8_ValidRune.j0 k a0 false)
theorem utf8_ValidRune.mono_l : ∀ k, (∀ y0 y1, LeO (utf8_ValidRune.j0 k y0 y1) (utf8_ValidRune.j0 (k + 1) y0 y1))
 | 0 => fun _ _ r h => by simp [utf8_ValidRune.j0] at h
 | k + 1 => by
  have ih0 := utf8_ValidRune.mono_l k
  ·intro y0 y1
   unfold utf8_ValidRune.j0
   repeat' first
   | (with_reducible exact ih0 _ _)
   | (with_reducible exact LeO.refl _)
   | (with_reducible exact LeO.none _)
   | (with_reducible refine LeO.ite ?_ ?_)
   | (with_reducible refine LeO.bind ?_ (fun _ => ?_))
   | exact ih0 _ _
   | exact LeO.none _
   | refine LeO.ite ?_ ?_
   | refine LeO.bind ?_ (fun _ => ?_)
theorem utf8_ValidRune.mono : ∀ a0 k, LeO (utf8_ValidRune.f k a0) (utf8_ValidRune.f (k + 1) a0) := by
 intro a0 k
 have ih0 := utf8_ValidRune.mono_l k
 unfold utf8_ValidRune.f
 repeat' first
   | (with_reducible exact ih0 _ _)
   | (with_reducible exact LeO.refl _)
   | (with_reducible exact LeO.none _)
   | (with_reducible refine LeO.ite ?_ ?_)
   | (with_reducible refine LeO.bind ?_ (fun _ => ?_))
   | exact ih0 _ _
   | exact LeO.none _
   | refine LeO.ite ?_ ?_
   | refine LeO.bind ?_ (fun _ => ?_)
set_option maxHeartbeats 8000000 in
set_option maxRecDepth 100000 in
theorem utf8_ValidRune.calls (k : Nat) (a0 : Int) (r : Bool) (w : World) (h : utf8_ValidRune.f k a0 = some r) :
  Calls Tryd.prog 95 #[.int .i32 a0] w fun e w' => e = .returned (.bool r) ∧ Drawn0 w w' := by
 have H : (if 0 ≤ a0 then (utf8_ValidRune.j0 k a0 (decide (a0 < 55296))) else (utf8_ValidRune.j0 k a0 false)) = some r := h
 clear h
 have HC2 := Aside0.mk H
 clear H
 go_enter Tryd.func95, Tryd.ntmps95
 go_upto_region 1 with (fail)
 go_cut [3] (fun v3 wc => ∃ (kq : Nat) (x3_1 : Bool), v3 = .bool x3_1 ∧ Aside0 (utf8_ValidRune.j0 kq a0 x3_1 = some r) ∧ Aside0 (kq ≤ k) ∧ Drawn0 w wc)
 case first =>
  have H := HC2.out
  clear HC2
  by_cases c3 : 0 ≤ a0
  ·rw [if_pos c3] at H
   have c3b0 : decide (0 ≤ a0) = true := decide_eq_true c3
   clear c3
   (first | rw [c3b0] | (simp only [i64_w, i32_w]; rw [c3b0]) | skip)
   have H' := Aside0.mk H
   clear H
   go_wp2
   go_meet
   case rel => exact ⟨_, (decide (a0 < 55296)), (by first | rfl | (simp; done) | (simp [*]; done)), H', ⟨by first | omega | exact Nat.le_refl _⟩, by repeat (first | exact Drawn0.refl _ | apply Drawn0.step)⟩
  ·rw [if_neg c3] at H
   have c3b0 : decide (0 ≤ a0) = false := decide_eq_false c3
   clear c3
   (first | rw [c3b0] | (simp only [i64_w, i32_w]; rw [c3b0]) | skip)
   have H' := Aside0.mk H
   clear H
   go_wp2
   go_meet
   case rel => exact ⟨_, (false), (by first | rfl | (simp; done) | (simp [*]; done)), H', ⟨by first | omega | exact Nat.le_refl _⟩, by repeat (first | exact Drawn0.refl _ | apply Drawn0.step)⟩
 case rest =>
  clear HC2
  try clear p2
  try clear c3
  try clear c3b0
  obtain ⟨kq, x3_1, rfl, HA, HJ1, ⟨mc1, rfl⟩⟩ := hcut
  cases kq with
  | zero => exact absurd HA.out (by simp [utf8_ValidRune.j0])
  | succ kj1 =>
   have H := HA.out
   clear HA
   simp only [utf8_ValidRune.j0] at H
   by_cases c4 : x3_1 = true
   ·subst c4
    have H1 : (some true) = some r := by rw [if_pos rfl] at H; exact H
    clear H
    have H := H1
    clear H1
    obtain rfl := Option.some.inj H
    go_wp2
    go_ret
    exact ⟨by first | rfl | (simp; done) | (simp [*]; done), by repeat (first | exact Drawn0.refl _ | apply Drawn0.step)⟩
   ·replace c4 := Bool.eq_false_iff.mpr c4
    subst c4
    have H1 : (if 57343 < a0 then (if a0 ≤ 1114111 then (some true) else (some false)) else (some false)) = some r := by rw [if_neg (show ¬ (false = true) by decide)] at H; exact H
    clear H
    have H := H1
    clear H1
    by_cases c5 : 57343 < a0
    ·rw [if_pos c5] at H
     have c5b0 : decide (57343 < a0) = true := decide_eq_true c5
     clear c5
     by_cases c6 : a0 ≤ 1114111
     ·rw [if_pos c6] at H
      have c6b0 : decide (a0 ≤ 1114111) = true := decide_eq_true c6
      clear c6
      obtain rfl := Option.some.inj H
      go_wp2
      go_ret
      exact ⟨by first | rfl | (simp; done) | (simp [*]; done), by repeat (first | exact Drawn0.refl _ | apply Drawn0.step)⟩
     ·rw [if_neg c6] at H
      have c6b0 : decide (a0 ≤ 1114111) = false := decide_eq_false c6
      clear c6
      obtain rfl := Option.some.inj H
      go_wp2
      go_ret
      exact ⟨by first | rfl | (simp; done) | (simp [*]; done), by repeat (first | exact Drawn0.refl _ | apply Drawn0.step)⟩
    ·rw [if_neg c5] at H
     have c5b0 : decide (57343 < a0) = false := decide_eq_false c5
     clear c5
     obtain rfl := Option.some.inj H
     go_wp2
     go_ret
     exact ⟨by first | rfl | (simp; done) | (simp [*]; done), by repeat (first | exact Drawn0.refl _ | apply Drawn0.step)⟩
def strings_shouldUseASCIISet.f (a0 : Int) : Option (Bool) := some (decide (a0 > 8))
def name_Check.f (a0 : ByteArray) : Option (Int) := if a0.toList = ([] : List UInt8) then (some 50) else (if (a0.size : Int) > 255 then (some 6) else ((strings_ContainsAny.f a0 (⟨#[47, 0]⟩ : ByteArray)).bind fun t104 => (if t104 = true then (some 51) else (if a0.toList = ([46] : List UInt8) then (some 52) else (if a0.toList = ([46, 46] : List UInt8) then (some 52) else (some 0))))))
set_option maxHeartbeats 8000000 in
set_option maxRecDepth 100000 in
theorem name_Check.calls (a0 : ByteArray) (r : Int) (w : World) (h : name_Check.f a0 = some r) :
  Calls Tryd.prog 54 #[.string a0] w fun e w' => e = .returned (.int .i64 r) ∧ Below w.heap.size w w' := by
 have HB := Aside0.mk (Below.refl w.heap.size w)
 have H : (if a0.toList = ([] : List UInt8) then (some 50) else (if (a0.size : Int) > 255 then (some 6) else ((strings_ContainsAny.f a0 (⟨#[47, 0]⟩ : ByteArray)).bind fun t104 => (if t104 = true then (some 51) else (if a0.toList = ([46] : List UInt8) then (some 52) else (if a0.toList = ([46, 46] : List UInt8) then (some 52) else (some 0))))))) = some r := h
 clear h
 by_cases c2 : a0.toList = ([] : List UInt8)
 ·rw [if_pos c2] at H
  have c2b0 : (a0.toList == ([] : List UInt8)) = true := beq_iff_eq.mpr c2
  have c2b1 : (a0.toList != ([] : List UInt8)) = false := bne_eq_false_iff_eq.mpr c2
  clear c2
  obtain rfl := Option.some.inj H
  go_enter Tryd.func54, Tryd.ntmps54
  go_wp2
  go_ret
  exact ⟨by first | rfl | (simp [errW_none, errW_some] <;> rfl) | (simp [*, errW_none, errW_some] <;> rfl), by repeat (first | (with_reducible first | exact HB.out | apply below_alloc | apply pw_below_drewN | apply below_drew1) | exact HB.out)⟩
 ·rw [if_neg c2] at H
  have c2b0 : (a0.toList == ([] : List UInt8)) = false := beq_eq_false_iff_ne.mpr c2
  have c2b1 : (a0.toList != ([] : List UInt8)) = true := bne_iff_ne.mpr c2
  by_cases c3 : (a0.size : Int) > 255
  ·rw [if_pos c3] at H
   have c3b0 : decide (255 < (a0.size : Int)) = true := decide_eq_true c3
   have c3b1 : decide (255 < a0.size) = true := decide_eq_true (by omega)
   clear c3
   obtain rfl := Option.some.inj H
   go_enter Tryd.func54, Tryd.ntmps54
   go_wp2
   go_ret
   exact ⟨by first | rfl | (simp [errW_none, errW_some] <;> rfl) | (simp [*, errW_none, errW_some] <;> rfl), by repeat (first | (with_reducible first | exact HB.out | apply below_alloc | apply pw_below_drewN | apply below_drew1) | exact HB.out)⟩
  ·rw [if_neg c3] at H
   have c3b0 : decide (255 < (a0.size : Int)) = false := decide_eq_false c3
   have c3b1 : decide (255 < a0.size) = false := decide_eq_false (by omega)
   clear c3
   replace H := Option.bind_eq_some_iff.mp H
   obtain ⟨t104, A40, H⟩ := H
   replace H : (if t104 = true then (some 51) else (if a0.toList = ([46] : List UInt8) then (some 52) else (if a0.toList = ([46, 46] : List UInt8) then (some 52) else (some 0)))) = some r := H
   have A4 := Aside0.mk A40
   clear A40
   by_cases c5 : t104 = true
   ·subst c5
    have H1 : (some 51) = some r := by rw [if_pos rfl] at H; exact H
    clear H
    have H := H1
    clear H1
    obtain rfl := Option.some.inj H
    go_enter Tryd.func54, Tryd.ntmps54
    go_wp2_with (first | ((with_reducible refine gate_callee (f := 70) rfl ?_); refine goesL_ (some 12) rfl rfl Tryd.func70 (by kernel_rfl) rfl #[.string a0, .string (⟨#[47, 0]⟩ : ByteArray)] rfl (by (try simp only [List.map_toArray, List.map_cons, List.map_nil]); first | done | rfl | (simp only [List.length_drop, List.length_take]; rfl)) ?_; (with_reducible refine (strings_ContainsAny.calls a0 (⟨#[47, 0]⟩ : ByteArray) true _ A4.out).mono ?_); rintro e w6 ⟨rfl, hb⟩; refine ⟨_, rfl, ?_⟩; have n0_ := Aside0.mk (below_step (by repeat (first | (with_reducible first | exact HB.out | apply below_alloc | apply pw_below_drewN | apply below_drew1) | exact HB.out)) hb); clear HB; have HB := n0_; clear n0_; (try clear hb); (try clear hb2); (try clear hk); (try clear hi)))
    go_ret
    exact ⟨by first | rfl | (simp [errW_none, errW_some] <;> rfl) | (simp [*, errW_none, errW_some] <;> rfl), by repeat (first | (with_reducible first | exact HB.out | apply below_alloc | apply pw_below_drewN | apply below_drew1) | exact HB.out)⟩
   ·replace c5 := Bool.eq_false_iff.mpr c5
    subst c5
    have H1 : (if a0.toList = ([46] : List UInt8) then (some 52) else (if a0.toList = ([46, 46] : List UInt8) then (some 52) else (some 0))) = some r := by rw [if_neg (show ¬ (false = true) by decide)] at H; exact H
    clear H
    have H := H1
    clear H1
    by_cases c7 : a0.toList = ([46] : List UInt8)
    ·rw [if_pos c7] at H
     have c7b0 : (a0.toList == ([46] : List UInt8)) = true := beq_iff_eq.mpr c7
     have c7b1 : (a0.toList != ([46] : List UInt8)) = false := bne_eq_false_iff_eq.mpr c7
     clear c7
     obtain rfl := Option.some.inj H
     go_enter Tryd.func54, Tryd.ntmps54
     go_wp2_with (first | ((with_reducible refine gate_callee (f := 70) rfl ?_); refine goesL_ (some 12) rfl rfl Tryd.func70 (by kernel_rfl) rfl #[.string a0, .string (⟨#[47, 0]⟩ : ByteArray)] rfl (by (try simp only [List.map_toArray, List.map_cons, List.map_nil]); first | done | rfl | (simp only [List.length_drop, List.length_take]; rfl)) ?_; (with_reducible refine (strings_ContainsAny.calls a0 (⟨#[47, 0]⟩ : ByteArray) false _ A4.out).mono ?_); rintro e w8 ⟨rfl, hb⟩; refine ⟨_, rfl, ?_⟩; have n0_ := Aside0.mk (below_step (by repeat (first | (with_reducible first | exact HB.out | apply below_alloc | apply pw_below_drewN | apply below_drew1) | exact HB.out)) hb); clear HB; have HB := n0_; clear n0_; (try clear hb); (try clear hb2); (try clear hk); (try clear hi)))
     go_ret
     exact ⟨by first | rfl | (simp [errW_none, errW_some] <;> rfl) | (simp [*, errW_none, errW_some] <;> rfl), by repeat (first | (with_reducible first | exact HB.out | apply below_alloc | apply pw_below_drewN | apply below_drew1) | exact HB.out)⟩
    ·rw [if_neg c7] at H
     have c7b0 : (a0.toList == ([46] : List UInt8)) = false := beq_eq_false_iff_ne.mpr c7
     have c7b1 : (a0.toList != ([46] : List UInt8)) = true := bne_iff_ne.mpr c7
     by_cases c9 : a0.toList = ([46, 46] : List UInt8)
     ·rw [if_pos c9] at H
      have c9b0 : (a0.toList == ([46, 46] : List UInt8)) = true := beq_iff_eq.mpr c9
      have c9b1 : (a0.toList != ([46, 46] : List UInt8)) = false := bne_eq_false_iff_eq.mpr c9
      clear c9
      obtain rfl := Option.some.inj H
      go_enter Tryd.func54, Tryd.ntmps54
      go_wp2_with (first | ((with_reducible refine gate_callee (f := 70) rfl ?_); refine goesL_ (some 12) rfl rfl Tryd.func70 (by kernel_rfl) rfl #[.string a0, .string (⟨#[47, 0]⟩ : ByteArray)] rfl (by (try simp only [List.map_toArray, List.map_cons, List.map_nil]); first | done | rfl | (simp only [List.length_drop, List.length_take]; rfl)) ?_; (with_reducible refine (strings_ContainsAny.calls a0 (⟨#[47, 0]⟩ : ByteArray) false _ A4.out).mono ?_); rintro e w10 ⟨rfl, hb⟩; refine ⟨_, rfl, ?_⟩; have n0_ := Aside0.mk (below_step (by repeat (first | (with_reducible first | exact HB.out | apply below_alloc | apply pw_below_drewN | apply below_drew1) | exact HB.out)) hb); clear HB; have HB := n0_; clear n0_; (try clear hb); (try clear hb2); (try clear hk); (try clear hi)))
      go_ret
      exact ⟨by first | rfl | (simp [errW_none, errW_some] <;> rfl) | (simp [*, errW_none, errW_some] <;> rfl), by repeat (first | (with_reducible first | exact HB.out | apply below_alloc | apply pw_below_drewN | apply below_drew1) | exact HB.out)⟩
     ·rw [if_neg c9] at H
      have c9b0 : (a0.toList == ([46, 46] : List UInt8)) = false := beq_eq_false_iff_ne.mpr c9
      have c9b1 : (a0.toList != ([46, 46] : List UInt8)) = true := bne_iff_ne.mpr c9
      obtain rfl := Option.some.inj H
      go_enter Tryd.func54, Tryd.ntmps54
      go_wp2_with (first | ((with_reducible refine gate_callee (f := 70) rfl ?_); refine goesL_ (some 12) rfl rfl Tryd.func70 (by kernel_rfl) rfl #[.string a0, .string (⟨#[47, 0]⟩ : ByteArray)] rfl (by (try simp only [List.map_toArray, List.map_cons, List.map_nil]); first | done | rfl | (simp only [List.length_drop, List.length_take]; rfl)) ?_; (with_reducible refine (strings_ContainsAny.calls a0 (⟨#[47, 0]⟩ : ByteArray) false _ A4.out).mono ?_); rintro e w11 ⟨rfl, hb⟩; refine ⟨_, rfl, ?_⟩; have n0_ := Aside0.mk (below_step (by repeat (first | (with_reducible first | exact HB.out | apply below_alloc | apply pw_below_drewN | apply below_drew1) | exact HB.out)) hb); clear HB; have HB := n0_; clear n0_; (try clear hb); (try clear hb2); (try clear hk); (try clear hi)))
      go_ret
      exact ⟨by first | rfl | (simp [errW_none, errW_some] <;> rfl) | (simp [*, errW_none, errW_some] <;> rfl), by repeat (first | (with_reducible first | exact HB.out | apply below_alloc | apply pw_below_drewN | apply below_drew1) | exact HB.out)⟩
def tree_Target.f (a0 : ByteArray) : Option (Int) := if a0.toList = ([] : List UInt8) then (some 63) else ((strings_IndexByte.f a0 0).bind fun t105 => (if t105 ≥ 0 then (some 63) else (some 0)))
set_option maxHeartbeats 8000000 in
set_option maxRecDepth 100000 in
theorem tree_Target.calls (a0 : ByteArray) (r : Int) (w : World) (h : tree_Target.f a0 = some r) :
  Calls Tryd.prog 80 #[.string a0] w fun e w' => e = .returned (.int .i64 r) ∧ Drawn0 w w' := by
 have H : (if a0.toList = ([] : List UInt8) then (some 63) else ((strings_IndexByte.f a0 0).bind fun t105 => (if t105 ≥ 0 then (some 63) else (some 0)))) = some r := h
 clear h
 by_cases c2 : a0.toList = ([] : List UInt8)
 ·rw [if_pos c2] at H
  have c2b0 : (a0.toList == ([] : List UInt8)) = true := beq_iff_eq.mpr c2
  have c2b1 : (a0.toList != ([] : List UInt8)) = false := bne_eq_false_iff_eq.mpr c2
  clear c2
  obtain rfl := Option.some.inj H
  go_enter Tryd.func80, Tryd.ntmps80
  go_wp2
  go_ret
  exact ⟨by first | rfl | (simp; done) | (simp [*]; done), by repeat (first | exact Drawn0.refl _ | apply Drawn0.step)⟩
 ·rw [if_neg c2] at H
  have c2b0 : (a0.toList == ([] : List UInt8)) = false := beq_eq_false_iff_ne.mpr c2
  have c2b1 : (a0.toList != ([] : List UInt8)) = true := bne_iff_ne.mpr c2
  replace H := Option.bind_eq_some_iff.mp H
  obtain ⟨t105, A30, H⟩ := H
  replace H : (if t105 ≥ 0 then (some 63) else (some 0)) = some r := H
  have A3 := Aside0.mk A30
  clear A30
  by_cases c4 : t105 ≥ 0
  ·rw [if_pos c4] at H
   have c4b0 : decide (0 ≤ t105) = true := decide_eq_true c4
   clear c4
   obtain rfl := Option.some.inj H
   go_enter Tryd.func80, Tryd.ntmps80
   go_wp2_with (first | (go_at_call 89; (with_reducible refine (strings_IndexByte.calls a0 0 t105 _ A3.out).mono ?_); rintro e w' ⟨rfl, ⟨nd, rfl⟩⟩))
   go_ret
   exact ⟨by first | rfl | (simp; (try clear A3); done) | (simp [*]; done), by repeat (first | exact Drawn0.refl _ | apply Drawn0.step)⟩
  ·rw [if_neg c4] at H
   have c4b0 : decide (0 ≤ t105) = false := decide_eq_false c4
   clear c4
   obtain rfl := Option.some.inj H
   go_enter Tryd.func80, Tryd.ntmps80
   go_wp2_with (first | (go_at_call 89; (with_reducible refine (strings_IndexByte.calls a0 0 t105 _ A3.out).mono ?_); rintro e w' ⟨rfl, ⟨nd, rfl⟩⟩))
   go_ret
   exact ⟨by first | rfl | (simp; (try clear A3); done) | (simp [*]; done), by repeat (first | exact Drawn0.refl _ | apply Drawn0.step)⟩
def tree_fields.f (a0_0 : Int) (a0_1 : Bool) (a0_2 : ByteArray) (l0_3 : List (S63)) : Option (Int) := if a0_0 = 1 then (if (l0_3.length : Int) > 0 then (some 62) else (some 0)) else (if a0_0 = 2 then (if a0_1 = true then (some 62) else (if (l0_3.length : Int) > 0 then (some 62) else ((tree_Target.f a0_2).bind fun t107 => (some t107)))) else (if a0_0 = 3 then (if a0_1 = true then (some 62) else (if a0_2.toList = ([] : List UInt8) then (some 0) else (some 62))) else (some 60)))
set_option maxHeartbeats 8000000 in
set_option maxRecDepth 100000 in
theorem tree_fields.calls (a0_0 : Int) (a0_1 : Bool) (a0_2 : ByteArray) (A0_3 : Option Addr) (c0_3 : Nat) (l0_3 : List (S63)) (r : Int) (w : World) (hr0_3 : Kd.C k63 w A0_3 l0_3.length l0_3) (hc0_3 : l0_3.length ≤ c0_3) (h : tree_fields.f a0_0 a0_1 a0_2 l0_3 = some r) :
  Calls Tryd.prog 71 #[.agg #[.int .i64 a0_0, .bool a0_1, .string a0_2, .slice A0_3 l0_3.length c0_3]] w fun e w' => e = .returned (.int .i64 r) ∧ Below w.heap.size w w' := by
 have hu32 := Tryd.underlying32
 have HR0_3 := Aside0.mk hr0_3
 have HC0_3 := Aside0.mk hc0_3
 clear hr0_3 hc0_3
 have HB := Aside0.mk (Below.refl w.heap.size w)
 have H : (if a0_0 = 1 then (if (l0_3.length : Int) > 0 then (some 62) else (some 0)) else (if a0_0 = 2 then (if a0_1 = true then (some 62) else (if (l0_3.length : Int) > 0 then (some 62) else ((tree_Target.f a0_2).bind fun t107 => (some t107)))) else (if a0_0 = 3 then (if a0_1 = true then (some 62) else (if a0_2.toList = ([] : List UInt8) then (some 0) else (some 62))) else (some 60)))) = some r := h
 clear h
 by_cases c2 : a0_0 = 1
 ·rw [if_pos c2] at H
  have c2b0 : (a0_0 == 1) = true := beq_iff_eq.mpr c2
  have c2b1 : (a0_0 != 1) = false := bne_eq_false_iff_eq.mpr c2
  clear c2
  by_cases c3 : (l0_3.length : Int) > 0
  ·rw [if_pos c3] at H
   have c3b0 : decide (0 < (l0_3.length : Int)) = true := decide_eq_true c3
   have c3b1 : decide (0 < l0_3.length) = true := decide_eq_true (by omega)
   clear c3
   obtain rfl := Option.some.inj H
   go_enter Tryd.func71, Tryd.ntmps71
   go_wp2_with (first | ((with_reducible refine gate_dst (N := 1) rfl ?_); (try (refine gate_guard (by rfl) ?_; dsimp only)); refine box_event ?hg (N := 1) ?hd (cs := #[.int .i64 a0_0, .bool a0_1, .string a0_2, .slice A0_3 l0_3.length c0_3]) (t := 32) ?hr ?_; (case hd => rfl); (case hg => rfl); (case hr => first | (go_simp; done) | (go_simp; rfl)); intro gb106 hg w4 hbox hb; have n0_ := Aside0.mk (below_step (by repeat (first | (with_reducible first | exact HB.out | apply below_alloc | apply pw_below_drewN | apply below_drew1) | exact HB.out)) hb); have n1_ := Aside0.mk (hbox); have n2_ := Aside0.mk ((by rw [hg]; exact (below_size (by repeat (first | (with_reducible first | exact HB.out | apply below_alloc | apply pw_below_drewN | apply below_drew1) | exact HB.out))) : w.heap.size ≤ gb106)); have n3_ := Aside0.mk ((by rw [hg]; exact (below_size (by repeat (first | (with_reducible first | exact HB.out | apply below_alloc | apply pw_below_drewN | apply below_drew1) | exact HB.out))) : w.heap.size ≤ gb106)); clear HB; have HB := n0_; have BK106 := n1_; have GW106 := n2_; have GE106 := n3_; clear n0_ n1_ n2_ n3_; clear hb hbox hg; have hcz5_0 : w4.cell? ⟨gb106, 0, none⟩ = some (.int .i64 a0_0) := (blk_cell BK106.out 0).trans rfl; have hcz5_1 : w4.cell? ⟨gb106, 1, none⟩ = some (.bool a0_1) := (blk_cell BK106.out 1).trans rfl; have hcz5_2 : w4.cell? ⟨gb106, 2, none⟩ = some (.string a0_2) := (blk_cell BK106.out 2).trans rfl; have hcz5_3 : w4.cell? ⟨gb106, 3, none⟩ = some (.slice A0_3 l0_3.length c0_3) := (blk_cell BK106.out 3).trans rfl; have hfz5_0 := blk_frozen BK106.out 0; have hfz5_1 := blk_frozen BK106.out 1; have hfz5_2 := blk_frozen BK106.out 2; have hfz5_3 := blk_frozen BK106.out 3))
   go_ret
   exact ⟨by first | rfl | (simp [errW_none, errW_some] <;> rfl) | (simp [*, errW_none, errW_some] <;> rfl), by repeat (first | (with_reducible first | exact HB.out | apply below_alloc | apply pw_below_drewN | apply below_drew1 | refine below_set ?_ GE106.out) | exact HB.out)⟩
  ·rw [if_neg c3] at H
   have c3b0 : decide (0 < (l0_3.length : Int)) = false := decide_eq_false c3
   have c3b1 : decide (0 < l0_3.length) = false := decide_eq_false (by omega)
   clear c3
   obtain rfl := Option.some.inj H
   go_enter Tryd.func71, Tryd.ntmps71
   go_wp2_with (first | ((with_reducible refine gate_dst (N := 1) rfl ?_); (try (refine gate_guard (by rfl) ?_; dsimp only)); refine box_event ?hg (N := 1) ?hd (cs := #[.int .i64 a0_0, .bool a0_1, .string a0_2, .slice A0_3 l0_3.length c0_3]) (t := 32) ?hr ?_; (case hd => rfl); (case hg => rfl); (case hr => first | (go_simp; done) | (go_simp; rfl)); intro gb106 hg w6 hbox hb; have n0_ := Aside0.mk (below_step (by repeat (first | (with_reducible first | exact HB.out | apply below_alloc | apply pw_below_drewN | apply below_drew1) | exact HB.out)) hb); have n1_ := Aside0.mk (hbox); have n2_ := Aside0.mk ((by rw [hg]; exact (below_size (by repeat (first | (with_reducible first | exact HB.out | apply below_alloc | apply pw_below_drewN | apply below_drew1) | exact HB.out))) : w.heap.size ≤ gb106)); have n3_ := Aside0.mk ((by rw [hg]; exact (below_size (by repeat (first | (with_reducible first | exact HB.out | apply below_alloc | apply pw_below_drewN | apply below_drew1) | exact HB.out))) : w.heap.size ≤ gb106)); clear HB; have HB := n0_; have BK106 := n1_; have GW106 := n2_; have GE106 := n3_; clear n0_ n1_ n2_ n3_; clear hb hbox hg; have hcz7_0 : w6.cell? ⟨gb106, 0, none⟩ = some (.int .i64 a0_0) := (blk_cell BK106.out 0).trans rfl; have hcz7_1 : w6.cell? ⟨gb106, 1, none⟩ = some (.bool a0_1) := (blk_cell BK106.out 1).trans rfl; have hcz7_2 : w6.cell? ⟨gb106, 2, none⟩ = some (.string a0_2) := (blk_cell BK106.out 2).trans rfl; have hcz7_3 : w6.cell? ⟨gb106, 3, none⟩ = some (.slice A0_3 l0_3.length c0_3) := (blk_cell BK106.out 3).trans rfl; have hfz7_0 := blk_frozen BK106.out 0; have hfz7_1 := blk_frozen BK106.out 1; have hfz7_2 := blk_frozen BK106.out 2; have hfz7_3 := blk_frozen BK106.out 3))
   go_ret
   exact ⟨by first | rfl | (simp [errW_none, errW_some] <;> rfl) | (simp [*, errW_none, errW_some] <;> rfl), by repeat (first | (with_reducible first | exact HB.out | apply below_alloc | apply pw_below_drewN | apply below_drew1 | refine below_set ?_ GE106.out) | exact HB.out)⟩
 ·rw [if_neg c2] at H
  have c2b0 : (a0_0 == 1) = false := beq_eq_false_iff_ne.mpr c2
  have c2b1 : (a0_0 != 1) = true := bne_iff_ne.mpr c2
  by_cases c8 : a0_0 = 2
  ·rw [if_pos c8] at H
   have c8b0 : (a0_0 == 2) = true := beq_iff_eq.mpr c8
   have c8b1 : (a0_0 != 2) = false := bne_eq_false_iff_eq.mpr c8
   clear c8
   by_cases c9 : a0_1 = true
   ·subst c9
    have H1 : (some 62) = some r := by rw [if_pos rfl] at H; exact H
    clear H
    have H := H1
    clear H1
    obtain rfl := Option.some.inj H
    go_enter Tryd.func71, Tryd.ntmps71
    go_wp2_with (first | ((with_reducible refine gate_dst (N := 1) rfl ?_); (try (refine gate_guard (by rfl) ?_; dsimp only)); refine box_event ?hg (N := 1) ?hd (cs := #[.int .i64 a0_0, .bool true, .string a0_2, .slice A0_3 l0_3.length c0_3]) (t := 32) ?hr ?_; (case hd => rfl); (case hg => rfl); (case hr => first | (go_simp; done) | (go_simp; rfl)); intro gb106 hg w10 hbox hb; have n0_ := Aside0.mk (below_step (by repeat (first | (with_reducible first | exact HB.out | apply below_alloc | apply pw_below_drewN | apply below_drew1) | exact HB.out)) hb); have n1_ := Aside0.mk (hbox); have n2_ := Aside0.mk ((by rw [hg]; exact (below_size (by repeat (first | (with_reducible first | exact HB.out | apply below_alloc | apply pw_below_drewN | apply below_drew1) | exact HB.out))) : w.heap.size ≤ gb106)); have n3_ := Aside0.mk ((by rw [hg]; exact (below_size (by repeat (first | (with_reducible first | exact HB.out | apply below_alloc | apply pw_below_drewN | apply below_drew1) | exact HB.out))) : w.heap.size ≤ gb106)); clear HB; have HB := n0_; have BK106 := n1_; have GW106 := n2_; have GE106 := n3_; clear n0_ n1_ n2_ n3_; clear hb hbox hg; have hcz11_0 : w10.cell? ⟨gb106, 0, none⟩ = some (.int .i64 a0_0) := (blk_cell BK106.out 0).trans rfl; have hcz11_1 : w10.cell? ⟨gb106, 1, none⟩ = some (.bool true) := (blk_cell BK106.out 1).trans rfl; have hcz11_2 : w10.cell? ⟨gb106, 2, none⟩ = some (.string a0_2) := (blk_cell BK106.out 2).trans rfl; have hcz11_3 : w10.cell? ⟨gb106, 3, none⟩ = some (.slice A0_3 l0_3.length c0_3) := (blk_cell BK106.out 3).trans rfl; have hfz11_0 := blk_frozen BK106.out 0; have hfz11_1 := blk_frozen BK106.out 1; have hfz11_2 := blk_frozen BK106.out 2; have hfz11_3 := blk_frozen BK106.out 3))
    go_ret
    exact ⟨by first | rfl | (simp [errW_none, errW_some] <;> rfl) | (simp [*, errW_none, errW_some] <;> rfl), by repeat (first | (with_reducible first | exact HB.out | apply below_alloc | apply pw_below_drewN | apply below_drew1 | refine below_set ?_ GE106.out) | exact HB.out)⟩
   ·replace c9 := Bool.eq_false_iff.mpr c9
    subst c9
    have H1 : (if (l0_3.length : Int) > 0 then (some 62) else ((tree_Target.f a0_2).bind fun t107 => (some t107))) = some r := by rw [if_neg (show ¬ (false = true) by decide)] at H; exact H
    clear H
    have H := H1
    clear H1
    by_cases c12 : (l0_3.length : Int) > 0
    ·rw [if_pos c12] at H
     have c12b0 : decide (0 < (l0_3.length : Int)) = true := decide_eq_true c12
     have c12b1 : decide (0 < l0_3.length) = true := decide_eq_true (by omega)
     clear c12
     obtain rfl := Option.some.inj H
     go_enter Tryd.func71, Tryd.ntmps71
     go_wp2_with (first | ((with_reducible refine gate_dst (N := 1) rfl ?_); (try (refine gate_guard (by rfl) ?_; dsimp only)); refine box_event ?hg (N := 1) ?hd (cs := #[.int .i64 a0_0, .bool false, .string a0_2, .slice A0_3 l0_3.length c0_3]) (t := 32) ?hr ?_; (case hd => rfl); (case hg => rfl); (case hr => first | (go_simp; done) | (go_simp; rfl)); intro gb106 hg w13 hbox hb; have n0_ := Aside0.mk (below_step (by repeat (first | (with_reducible first | exact HB.out | apply below_alloc | apply pw_below_drewN | apply below_drew1) | exact HB.out)) hb); have n1_ := Aside0.mk (hbox); have n2_ := Aside0.mk ((by rw [hg]; exact (below_size (by repeat (first | (with_reducible first | exact HB.out | apply below_alloc | apply pw_below_drewN | apply below_drew1) | exact HB.out))) : w.heap.size ≤ gb106)); have n3_ := Aside0.mk ((by rw [hg]; exact (below_size (by repeat (first | (with_reducible first | exact HB.out | apply below_alloc | apply pw_below_drewN | apply below_drew1) | exact HB.out))) : w.heap.size ≤ gb106)); clear HB; have HB := n0_; have BK106 := n1_; have GW106 := n2_; have GE106 := n3_; clear n0_ n1_ n2_ n3_; clear hb hbox hg; have hcz14_0 : w13.cell? ⟨gb106, 0, none⟩ = some (.int .i64 a0_0) := (blk_cell BK106.out 0).trans rfl; have hcz14_1 : w13.cell? ⟨gb106, 1, none⟩ = some (.bool false) := (blk_cell BK106.out 1).trans rfl; have hcz14_2 : w13.cell? ⟨gb106, 2, none⟩ = some (.string a0_2) := (blk_cell BK106.out 2).trans rfl; have hcz14_3 : w13.cell? ⟨gb106, 3, none⟩ = some (.slice A0_3 l0_3.length c0_3) := (blk_cell BK106.out 3).trans rfl; have hfz14_0 := blk_frozen BK106.out 0; have hfz14_1 := blk_frozen BK106.out 1; have hfz14_2 := blk_frozen BK106.out 2; have hfz14_3 := blk_frozen BK106.out 3))
     go_ret
     exact ⟨by first | rfl | (simp [errW_none, errW_some] <;> rfl) | (simp [*, errW_none, errW_some] <;> rfl), by repeat (first | (with_reducible first | exact HB.out | apply below_alloc | apply pw_below_drewN | apply below_drew1 | refine below_set ?_ GE106.out) | exact HB.out)⟩
    ·rw [if_neg c12] at H
     have c12b0 : decide (0 < (l0_3.length : Int)) = false := decide_eq_false c12
     have c12b1 : decide (0 < l0_3.length) = false := decide_eq_false (by omega)
     clear c12
     replace H := Option.bind_eq_some_iff.mp H
     obtain ⟨t107, A150, H⟩ := H
     replace H : (some t107) = some r := H
     have A15 := Aside0.mk A150
     clear A150
     obtain rfl := Option.some.inj H
     go_enter Tryd.func71, Tryd.ntmps71
     go_wp2_with (first | ((with_reducible refine gate_dst (N := 1) rfl ?_); (try (refine gate_guard (by rfl) ?_; dsimp only)); refine box_event ?hg (N := 1) ?hd (cs := #[.int .i64 a0_0, .bool false, .string a0_2, .slice A0_3 l0_3.length c0_3]) (t := 32) ?hr ?_; (case hd => rfl); (case hg => rfl); (case hr => first | (go_simp; done) | (go_simp; rfl)); intro gb106 hg w16 hbox hb; have n0_ := Aside0.mk (below_step (by repeat (first | (with_reducible first | exact HB.out | apply below_alloc | apply pw_below_drewN | apply below_drew1) | exact HB.out)) hb); have n1_ := Aside0.mk (hbox); have n2_ := Aside0.mk ((by rw [hg]; exact (below_size (by repeat (first | (with_reducible first | exact HB.out | apply below_alloc | apply pw_below_drewN | apply below_drew1) | exact HB.out))) : w.heap.size ≤ gb106)); have n3_ := Aside0.mk ((by rw [hg]; exact (below_size (by repeat (first | (with_reducible first | exact HB.out | apply below_alloc | apply pw_below_drewN | apply below_drew1) | exact HB.out))) : w.heap.size ≤ gb106)); clear HB; have HB := n0_; have BK106 := n1_; have GW106 := n2_; have GE106 := n3_; clear n0_ n1_ n2_ n3_; clear hb hbox hg; have hcz17_0 : w16.cell? ⟨gb106, 0, none⟩ = some (.int .i64 a0_0) := (blk_cell BK106.out 0).trans rfl; have hcz17_1 : w16.cell? ⟨gb106, 1, none⟩ = some (.bool false) := (blk_cell BK106.out 1).trans rfl; have hcz17_2 : w16.cell? ⟨gb106, 2, none⟩ = some (.string a0_2) := (blk_cell BK106.out 2).trans rfl; have hcz17_3 : w16.cell? ⟨gb106, 3, none⟩ = some (.slice A0_3 l0_3.length c0_3) := (blk_cell BK106.out 3).trans rfl; have hfz17_0 := blk_frozen BK106.out 0; have hfz17_1 := blk_frozen BK106.out 1; have hfz17_2 := blk_frozen BK106.out 2; have hfz17_3 := blk_frozen BK106.out 3) | ((with_reducible refine gate_callee (f := 80) rfl ?_); refine goesL_ (some 23) rfl rfl Tryd.func80 (by kernel_rfl) rfl #[.string a0_2] rfl (by (try simp only [List.map_toArray, List.map_cons, List.map_nil]); first | done | rfl | (simp only [List.length_drop, List.length_take]; rfl)) ?_; (with_reducible refine (tree_Target.calls a0_2 t107 _ A15.out).mono ?_); rintro e w' ⟨rfl, ⟨nd, rfl⟩⟩; refine ⟨_, rfl, ?_⟩))
     go_ret
     exact ⟨by first | rfl | (simp [errW_none, errW_some] <;> rfl) | (simp [*, errW_none, errW_some] <;> rfl), by repeat (first | (with_reducible first | exact HB.out | apply below_alloc | apply pw_below_drewN | apply below_drew1 | refine below_set ?_ GE106.out) | exact HB.out)⟩
  ·rw [if_neg c8] at H
   have c8b0 : (a0_0 == 2) = false := beq_eq_false_iff_ne.mpr c8
   have c8b1 : (a0_0 != 2) = true := bne_iff_ne.mpr c8
   by_cases c18 : a0_0 = 3
   ·rw [if_pos c18] at H
    have c18b0 : (a0_0 == 3) = true := beq_iff_eq.mpr c18
    have c18b1 : (a0_0 != 3) = false := bne_eq_false_iff_eq.mpr c18
    clear c18
    by_cases c19 : a0_1 = true
    ·subst c19
     have H1 : (some 62) = some r := by rw [if_pos rfl] at H; exact H
     clear H
     have H := H1
     clear H1
     obtain rfl := Option.some.inj H
     go_enter Tryd.func71, Tryd.ntmps71
     go_wp2_with (first | ((with_reducible refine gate_dst (N := 1) rfl ?_); (try (refine gate_guard (by rfl) ?_; dsimp only)); refine box_event ?hg (N := 1) ?hd (cs := #[.int .i64 a0_0, .bool true, .string a0_2, .slice A0_3 l0_3.length c0_3]) (t := 32) ?hr ?_; (case hd => rfl); (case hg => rfl); (case hr => first | (go_simp; done) | (go_simp; rfl)); intro gb106 hg w20 hbox hb; have n0_ := Aside0.mk (below_step (by repeat (first | (with_reducible first | exact HB.out | apply below_alloc | apply pw_below_drewN | apply below_drew1) | exact HB.out)) hb); have n1_ := Aside0.mk (hbox); have n2_ := Aside0.mk ((by rw [hg]; exact (below_size (by repeat (first | (with_reducible first | exact HB.out | apply below_alloc | apply pw_below_drewN | apply below_drew1) | exact HB.out))) : w.heap.size ≤ gb106)); have n3_ := Aside0.mk ((by rw [hg]; exact (below_size (by repeat (first | (with_reducible first | exact HB.out | apply below_alloc | apply pw_below_drewN | apply below_drew1) | exact HB.out))) : w.heap.size ≤ gb106)); clear HB; have HB := n0_; have BK106 := n1_; have GW106 := n2_; have GE106 := n3_; clear n0_ n1_ n2_ n3_; clear hb hbox hg; have hcz21_0 : w20.cell? ⟨gb106, 0, none⟩ = some (.int .i64 a0_0) := (blk_cell BK106.out 0).trans rfl; have hcz21_1 : w20.cell? ⟨gb106, 1, none⟩ = some (.bool true) := (blk_cell BK106.out 1).trans rfl; have hcz21_2 : w20.cell? ⟨gb106, 2, none⟩ = some (.string a0_2) := (blk_cell BK106.out 2).trans rfl; have hcz21_3 : w20.cell? ⟨gb106, 3, none⟩ = some (.slice A0_3 l0_3.length c0_3) := (blk_cell BK106.out 3).trans rfl; have hfz21_0 := blk_frozen BK106.out 0; have hfz21_1 := blk_frozen BK106.out 1; have hfz21_2 := blk_frozen BK106.out 2; have hfz21_3 := blk_frozen BK106.out 3))
     go_ret
     exact ⟨by first | rfl | (simp [errW_none, errW_some] <;> rfl) | (simp [*, errW_none, errW_some] <;> rfl), by repeat (first | (with_reducible first | exact HB.out | apply below_alloc | apply pw_below_drewN | apply below_drew1 | refine below_set ?_ GE106.out) | exact HB.out)⟩
    ·replace c19 := Bool.eq_false_iff.mpr c19
     subst c19
     have H1 : (if a0_2.toList = ([] : List UInt8) then (some 0) else (some 62)) = some r := by rw [if_neg (show ¬ (false = true) by decide)] at H; exact H
     clear H
     have H := H1
     clear H1
     by_cases c22 : a0_2.toList = ([] : List UInt8)
     ·rw [if_pos c22] at H
      have c22b0 : (a0_2.toList == ([] : List UInt8)) = true := beq_iff_eq.mpr c22
      have c22b1 : (a0_2.toList != ([] : List UInt8)) = false := bne_eq_false_iff_eq.mpr c22
      clear c22
      obtain rfl := Option.some.inj H
      go_enter Tryd.func71, Tryd.ntmps71
      go_wp2_with (first | ((with_reducible refine gate_dst (N := 1) rfl ?_); (try (refine gate_guard (by rfl) ?_; dsimp only)); refine box_event ?hg (N := 1) ?hd (cs := #[.int .i64 a0_0, .bool false, .string a0_2, .slice A0_3 l0_3.length c0_3]) (t := 32) ?hr ?_; (case hd => rfl); (case hg => rfl); (case hr => first | (go_simp; done) | (go_simp; rfl)); intro gb106 hg w23 hbox hb; have n0_ := Aside0.mk (below_step (by repeat (first | (with_reducible first | exact HB.out | apply below_alloc | apply pw_below_drewN | apply below_drew1) | exact HB.out)) hb); have n1_ := Aside0.mk (hbox); have n2_ := Aside0.mk ((by rw [hg]; exact (below_size (by repeat (first | (with_reducible first | exact HB.out | apply below_alloc | apply pw_below_drewN | apply below_drew1) | exact HB.out))) : w.heap.size ≤ gb106)); have n3_ := Aside0.mk ((by rw [hg]; exact (below_size (by repeat (first | (with_reducible first | exact HB.out | apply below_alloc | apply pw_below_drewN | apply below_drew1) | exact HB.out))) : w.heap.size ≤ gb106)); clear HB; have HB := n0_; have BK106 := n1_; have GW106 := n2_; have GE106 := n3_; clear n0_ n1_ n2_ n3_; clear hb hbox hg; have hcz24_0 : w23.cell? ⟨gb106, 0, none⟩ = some (.int .i64 a0_0) := (blk_cell BK106.out 0).trans rfl; have hcz24_1 : w23.cell? ⟨gb106, 1, none⟩ = some (.bool false) := (blk_cell BK106.out 1).trans rfl; have hcz24_2 : w23.cell? ⟨gb106, 2, none⟩ = some (.string a0_2) := (blk_cell BK106.out 2).trans rfl; have hcz24_3 : w23.cell? ⟨gb106, 3, none⟩ = some (.slice A0_3 l0_3.length c0_3) := (blk_cell BK106.out 3).trans rfl; have hfz24_0 := blk_frozen BK106.out 0; have hfz24_1 := blk_frozen BK106.out 1; have hfz24_2 := blk_frozen BK106.out 2; have hfz24_3 := blk_frozen BK106.out 3))
      go_ret
      exact ⟨by first | rfl | (simp [errW_none, errW_some] <;> rfl) | (simp [*, errW_none, errW_some] <;> rfl), by repeat (first | (with_reducible first | exact HB.out | apply below_alloc | apply pw_below_drewN | apply below_drew1 | refine below_set ?_ GE106.out) | exact HB.out)⟩
     ·rw [if_neg c22] at H
      have c22b0 : (a0_2.toList == ([] : List UInt8)) = false := beq_eq_false_iff_ne.mpr c22
      have c22b1 : (a0_2.toList != ([] : List UInt8)) = true := bne_iff_ne.mpr c22
      obtain rfl := Option.some.inj H
      go_enter Tryd.func71, Tryd.ntmps71
      go_wp2_with (first | ((with_reducible refine gate_dst (N := 1) rfl ?_); (try (refine gate_guard (by rfl) ?_; dsimp only)); refine box_event ?hg (N := 1) ?hd (cs := #[.int .i64 a0_0, .bool false, .string a0_2, .slice A0_3 l0_3.length c0_3]) (t := 32) ?hr ?_; (case hd => rfl); (case hg => rfl); (case hr => first | (go_simp; done) | (go_simp; rfl)); intro gb106 hg w25 hbox hb; have n0_ := Aside0.mk (below_step (by repeat (first | (with_reducible first | exact HB.out | apply below_alloc | apply pw_below_drewN | apply below_drew1) | exact HB.out)) hb); have n1_ := Aside0.mk (hbox); have n2_ := Aside0.mk ((by rw [hg]; exact (below_size (by repeat (first | (with_reducible first | exact HB.out | apply below_alloc | apply pw_below_drewN | apply below_drew1) | exact HB.out))) : w.heap.size ≤ gb106)); have n3_ := Aside0.mk ((by rw [hg]; exact (below_size (by repeat (first | (with_reducible first | exact HB.out | apply below_alloc | apply pw_below_drewN | apply below_drew1) | exact HB.out))) : w.heap.size ≤ gb106)); clear HB; have HB := n0_; have BK106 := n1_; have GW106 := n2_; have GE106 := n3_; clear n0_ n1_ n2_ n3_; clear hb hbox hg; have hcz26_0 : w25.cell? ⟨gb106, 0, none⟩ = some (.int .i64 a0_0) := (blk_cell BK106.out 0).trans rfl; have hcz26_1 : w25.cell? ⟨gb106, 1, none⟩ = some (.bool false) := (blk_cell BK106.out 1).trans rfl; have hcz26_2 : w25.cell? ⟨gb106, 2, none⟩ = some (.string a0_2) := (blk_cell BK106.out 2).trans rfl; have hcz26_3 : w25.cell? ⟨gb106, 3, none⟩ = some (.slice A0_3 l0_3.length c0_3) := (blk_cell BK106.out 3).trans rfl; have hfz26_0 := blk_frozen BK106.out 0; have hfz26_1 := blk_frozen BK106.out 1; have hfz26_2 := blk_frozen BK106.out 2; have hfz26_3 := blk_frozen BK106.out 3))
      go_ret
      exact ⟨by first | rfl | (simp [errW_none, errW_some] <;> rfl) | (simp [*, errW_none, errW_some] <;> rfl), by repeat (first | (with_reducible first | exact HB.out | apply below_alloc | apply pw_below_drewN | apply below_drew1 | refine below_set ?_ GE106.out) | exact HB.out)⟩
   ·rw [if_neg c18] at H
    have c18b0 : (a0_0 == 3) = false := beq_eq_false_iff_ne.mpr c18
    have c18b1 : (a0_0 != 3) = true := bne_iff_ne.mpr c18
    obtain rfl := Option.some.inj H
    go_enter Tryd.func71, Tryd.ntmps71
    go_wp2_with (first | ((with_reducible refine gate_dst (N := 1) rfl ?_); (try (refine gate_guard (by rfl) ?_; dsimp only)); refine box_event ?hg (N := 1) ?hd (cs := #[.int .i64 a0_0, .bool a0_1, .string a0_2, .slice A0_3 l0_3.length c0_3]) (t := 32) ?hr ?_; (case hd => rfl); (case hg => rfl); (case hr => first | (go_simp; done) | (go_simp; rfl)); intro gb106 hg w27 hbox hb; have n0_ := Aside0.mk (below_step (by repeat (first | (with_reducible first | exact HB.out | apply below_alloc | apply pw_below_drewN | apply below_drew1) | exact HB.out)) hb); have n1_ := Aside0.mk (hbox); have n2_ := Aside0.mk ((by rw [hg]; exact (below_size (by repeat (first | (with_reducible first | exact HB.out | apply below_alloc | apply pw_below_drewN | apply below_drew1) | exact HB.out))) : w.heap.size ≤ gb106)); have n3_ := Aside0.mk ((by rw [hg]; exact (below_size (by repeat (first | (with_reducible first | exact HB.out | apply below_alloc | apply pw_below_drewN | apply below_drew1) | exact HB.out))) : w.heap.size ≤ gb106)); clear HB; have HB := n0_; have BK106 := n1_; have GW106 := n2_; have GE106 := n3_; clear n0_ n1_ n2_ n3_; clear hb hbox hg; have hcz28_0 : w27.cell? ⟨gb106, 0, none⟩ = some (.int .i64 a0_0) := (blk_cell BK106.out 0).trans rfl; have hcz28_1 : w27.cell? ⟨gb106, 1, none⟩ = some (.bool a0_1) := (blk_cell BK106.out 1).trans rfl; have hcz28_2 : w27.cell? ⟨gb106, 2, none⟩ = some (.string a0_2) := (blk_cell BK106.out 2).trans rfl; have hcz28_3 : w27.cell? ⟨gb106, 3, none⟩ = some (.slice A0_3 l0_3.length c0_3) := (blk_cell BK106.out 3).trans rfl; have hfz28_0 := blk_frozen BK106.out 0; have hfz28_1 := blk_frozen BK106.out 1; have hfz28_2 := blk_frozen BK106.out 2; have hfz28_3 := blk_frozen BK106.out 3))
    go_ret
    exact ⟨by first | rfl | (simp [errW_none, errW_some] <;> rfl) | (simp [*, errW_none, errW_some] <;> rfl), by repeat (first | (with_reducible first | exact HB.out | apply below_alloc | apply pw_below_drewN | apply below_drew1 | refine below_set ?_ GE106.out) | exact HB.out)⟩
def depotlaw06_leaf.f (a0 : ByteArray) : Option (Int × Bool × ByteArray × (List (S63))) := some (1, false, a0, ([] : List (S63)))
mutual
def depotref03_Framed.j0 : Nat → Int → Bool → Option (Int)
 | 0, _, _ => none
 | k + 1, x0, x8 => if x8 = true then (some 0) else (depotref03_Framed.l0 k x0)
def depotref03_Framed.l0 : Nat → Int → Option (Int)
 | 0, _ => none
 | k + 1, x0 => if (Int.tmod x0 8) = 0 then (some (wrap64 (x0 + 8))) else (depotref03_Framed.l0 k (wrap64 (x0 + 1)))
end
def depotref03_Framed.f (k : Nat) (a0 : Int) : Option (Int) := if a0 < 0 then (depotref03_Framed.j0 k a0 true) else (depotref03_Framed.j0 k a0 (decide (a0 > 1099511627776)))
theorem depotref03_Framed.mono_l : ∀ k, (∀ y0 y1, LeO (depotref03_Framed.j0 k y0 y1) (depotref03_Framed.j0 (k + 1) y0 y1)) ∧ (∀ y0, LeO (depotref03_Framed.l0 k y0) (depotref03_Framed.l0 (k + 1) y0))
 | 0 => ⟨fun _ _ r h => by simp [depotref03_Framed.j0] at h, fun _ r h => by simp [depotref03_Framed.l0] at h⟩
 | k + 1 => by
  obtain ⟨ih0, ih1⟩ := depotref03_Framed.mono_l k
  refine ⟨?_, ?_⟩
  ·intro y0 y1
   unfold depotref03_Framed.j0
   repeat' first
   | (with_reducible exact ih0 _ _)
   | (with_reducible exact ih1 _)
   | (with_reducible exact LeO.refl _)
   | (with_reducible exact LeO.none _)
   | (with_reducible refine LeO.ite ?_ ?_)
   | (with_reducible refine LeO.bind ?_ (fun _ => ?_))
   | exact ih0 _ _
   | exact ih1 _
   | exact LeO.none _
   | refine LeO.ite ?_ ?_
   | refine LeO.bind ?_ (fun _ => ?_)
  ·intro y0
   unfold depotref03_Framed.l0
   repeat' first
   | (with_reducible exact ih0 _ _)
   | (with_reducible exact ih1 _)
   | (with_reducible exact LeO.refl _)
   | (with_reducible exact LeO.none _)
   | (with_reducible refine LeO.ite ?_ ?_)
   | (with_reducible refine LeO.bind ?_ (fun _ => ?_))
   | exact ih0 _ _
   | exact ih1 _
   | exact LeO.none _
   | refine LeO.ite ?_ ?_
   | refine LeO.bind ?_ (fun _ => ?_)
theorem depotref03_Framed.mono : ∀ a0 k, LeO (depotref03_Framed.f k a0) (depotref03_Framed.f (k + 1) a0) := by
 intro a0 k
 obtain ⟨ih0, ih1⟩ := depotref03_Framed.mono_l k
 unfold depotref03_Framed.f
 repeat' first
   | (with_reducible exact ih0 _ _)
   | (with_reducible exact ih1 _)
   | (with_reducible exact LeO.refl _)
   | (with_reducible exact LeO.none _)
   | (with_reducible refine LeO.ite ?_ ?_)
   | (with_reducible refine LeO.bind ?_ (fun _ => ?_))
   | exact ih0 _ _
   | exact ih1 _
   | exact LeO.none _
   | refine LeO.ite ?_ ?_
   | refine LeO.bind ?_ (fun _ => ?_)
set_option maxHeartbeats 8000000 in
set_option maxRecDepth 100000 in
theorem depotref03_Framed.calls (k : Nat) (a0 : Int) (r : Int) (w : World) (h : depotref03_Framed.f k a0 = some r) :
  Calls Tryd.prog 73 #[.int .i64 a0] w fun e w' => e = .returned (.int .i64 r) ∧ Drawn0 w w' := by
 have H : (if a0 < 0 then (depotref03_Framed.j0 k a0 true) else (depotref03_Framed.j0 k a0 (decide (a0 > 1099511627776)))) = some r := h
 clear h
 have HC2 := Aside0.mk H
 clear H
 go_enter Tryd.func73, Tryd.ntmps73
 go_upto_region 1 with (fail)
 go_cut [8] (fun v8 wc => ∃ (kq : Nat) (x8_1 : Bool), v8 = .bool x8_1 ∧ Aside0 (depotref03_Framed.j0 kq a0 x8_1 = some r) ∧ Aside0 (kq ≤ k) ∧ Drawn0 w wc)
 case first =>
  have H := HC2.out
  clear HC2
  by_cases c3 : a0 < 0
  ·rw [if_pos c3] at H
   have c3b0 : decide (a0 < 0) = true := decide_eq_true c3
   clear c3
   (first | rw [c3b0] | (simp only [i64_w, i32_w]; rw [c3b0]) | skip)
   have H' := Aside0.mk H
   clear H
   go_wp2
   go_meet
   case rel => exact ⟨_, (true), (by first | rfl | (simp; done) | (simp [*]; done)), H', ⟨by first | omega | exact Nat.le_refl _⟩, by repeat (first | exact Drawn0.refl _ | apply Drawn0.step)⟩
  ·rw [if_neg c3] at H
   have c3b0 : decide (a0 < 0) = false := decide_eq_false c3
   clear c3
   (first | rw [c3b0] | (simp only [i64_w, i32_w]; rw [c3b0]) | skip)
   have H' := Aside0.mk H
   clear H
   go_wp2
   go_meet
   case rel => exact ⟨_, (decide (a0 > 1099511627776)), (by first | rfl | (simp; done) | (simp [*]; done)), H', ⟨by first | omega | exact Nat.le_refl _⟩, by repeat (first | exact Drawn0.refl _ | apply Drawn0.step)⟩
 case rest =>
  clear HC2
  try clear p2
  try clear c3
  try clear c3b0
  obtain ⟨kq, x8_1, rfl, HA, HJ1, ⟨mc1, rfl⟩⟩ := hcut
  cases kq with
  | zero => exact absurd HA.out (by simp [depotref03_Framed.j0])
  | succ kj1 =>
   have H := HA.out
   clear HA
   simp only [depotref03_Framed.j0] at H
   by_cases c4 : x8_1 = true
   ·subst c4
    have H1 : (some 0) = some r := by rw [if_pos rfl] at H; exact H
    clear H
    have H := H1
    clear H1
    obtain rfl := Option.some.inj H
    go_wp2
    go_ret
    exact ⟨by first | rfl | (simp; done) | (simp [*]; done), by repeat (first | exact Drawn0.refl _ | apply Drawn0.step)⟩
   ·replace c4 := Bool.eq_false_iff.mpr c4
    subst c4
    have H1 : (depotref03_Framed.l0 kj1 a0) = some r := by rw [if_neg (show ¬ (false = true) by decide)] at H; exact H
    clear H
    have H := H1
    clear H1
    have H' := Aside0.mk H
    clear H
    go_wp2
    go_loopg [0] kj1 (fun kq v0 w' => ∃ (x0_2 : Int), v0 = .int .i64 x0_2 ∧ Aside0 (depotref03_Framed.l0 kq x0_2 = some r) ∧ Aside0 (kq ≤ kj1) ∧ Drawn0 w w')
    case atStart => exact ⟨(a0), (by first | rfl | (simp; done) | (simp [*]; done)), H', ⟨Nat.le_refl _⟩, by repeat (first | exact Drawn0.refl _ | apply Drawn0.step)⟩
    case round =>
     clear H'
     try clear c1
     try clear p2
     try clear c3
     try clear c3b0
     try clear c4
     try clear p2
     obtain ⟨x0_2, rfl, HA, HK2, ⟨m2, rfl⟩⟩ := hrel
     cases gk with
     | zero => exact absurd HA.out (by simp [depotref03_Framed.l0])
     | succ k2 =>
      have H := HA.out
      clear HA
      simp only [depotref03_Framed.l0] at H
      by_cases c5 : (Int.tmod x0_2 8) = 0
      ·rw [if_pos c5] at H
       have c5b0 : ((Int.tmod x0_2 8) == 0) = true := beq_iff_eq.mpr c5
       have c5b1 : ((Int.tmod x0_2 8) != 0) = false := bne_eq_false_iff_eq.mpr c5
       clear c5
       obtain rfl := Option.some.inj H
       go_wp2
       go_ret
       exact ⟨by first | rfl | (simp; done) | (simp [*]; done), by repeat (first | exact Drawn0.refl _ | apply Drawn0.step)⟩
      ·rw [if_neg c5] at H
       have c5b0 : ((Int.tmod x0_2 8) == 0) = false := beq_eq_false_iff_ne.mpr c5
       have c5b1 : ((Int.tmod x0_2 8) != 0) = true := bne_iff_ne.mpr c5
       have H' := Aside0.mk H
       clear H
       go_wp2
       go_roundg k2
       case measure => have := HJ1.out; have := HK2.out; omega
       case rel => exact ⟨(wrap64 (x0_2 + 1)), (by first | rfl | (simp; done) | (simp [*]; done)), H', ⟨by have := HJ1.out; have := HK2.out; omega⟩, by repeat (first | exact Drawn0.refl _ | apply Drawn0.step)⟩
def depotref06_room.l0 : Nat → List ByteArray → Int → Int → Option (Int)
 | 0, _, _, _ => none
 | k + 1, x0, x3, x4 => if x4 < (x0.length : Int) then (if 0 ≤ x4 then ((depotref03_Framed.f k ((rdOf ByteArray.empty x0 x4).size : Int)).bind fun t111 => (depotref06_room.l0 k x0 (wrap64 (x3 + t111)) (wrap64 (x4 + 1)))) else (none)) else (some x3)
def depotref06_room.f (k : Nat) (l0 : List ByteArray) : Option (Int) := depotref06_room.l0 k l0 0 0
theorem depotref06_room.mono_l : ∀ k, (∀ y0 y1 y2, LeO (depotref06_room.l0 k y0 y1 y2) (depotref06_room.l0 (k + 1) y0 y1 y2))
 | 0 => fun _ _ _ r h => by simp [depotref06_room.l0] at h
 | k + 1 => by
  have ih0 := depotref06_room.mono_l k
  ·intro y0 y1 y2
   unfold depotref06_room.l0
   repeat' first
   | (with_reducible exact ih0 _ _ _)
   | (with_reducible exact depotref03_Framed.mono _ _)
   | (with_reducible exact LeO.refl _)
   | (with_reducible exact LeO.none _)
   | (with_reducible refine LeO.ite ?_ ?_)
   | (with_reducible refine LeO.bind ?_ (fun _ => ?_))
   | exact ih0 _ _ _
   | exact depotref03_Framed.mono _ _
   | exact LeO.none _
   | refine LeO.ite ?_ ?_
   | refine LeO.bind ?_ (fun _ => ?_)
theorem depotref06_room.mono : ∀ a0 k, LeO (depotref06_room.f k a0) (depotref06_room.f (k + 1) a0) := by
 intro a0 k
 have ih0 := depotref06_room.mono_l k
 unfold depotref06_room.f
 repeat' first
   | (with_reducible exact ih0 _ _ _)
   | (with_reducible exact depotref03_Framed.mono _ _)
   | (with_reducible exact LeO.refl _)
   | (with_reducible exact LeO.none _)
   | (with_reducible refine LeO.ite ?_ ?_)
   | (with_reducible refine LeO.bind ?_ (fun _ => ?_))
   | exact ih0 _ _ _
   | exact depotref03_Framed.mono _ _
   | exact LeO.none _
   | refine LeO.ite ?_ ?_
   | refine LeO.bind ?_ (fun _ => ?_)
set_option maxHeartbeats 8000000 in
set_option maxRecDepth 100000 in
theorem depotref06_room.calls (k : Nat) (A0 : Option Addr) (c0 : Nat) (l0 : List ByteArray) (r : Int) (w : World) (hr0 : Kd.C Kd.string w A0 l0.length l0) (hc0 : l0.length ≤ c0) (h : depotref06_room.f k l0 = some r) :
  Calls Tryd.prog 57 #[.slice A0 l0.length c0] w fun e w' => e = .returned (.int .i64 r) ∧ Drawn0 w w' := by
 have HR0 := Aside0.mk hr0
 have HC0 := Aside0.mk hc0
 clear hr0 hc0
 have H : (depotref06_room.l0 k l0 0 0) = some r := h
 clear h
 have H' := Aside0.mk H
 clear H
 go_enter Tryd.func57, Tryd.ntmps57
 go_wp2
 go_loopg [3, 4] k (fun kq v3 v4 w' => ∃ (x3_1 : Int) (x4_1 : Int), v3 = .int .i64 x3_1 ∧ v4 = .int .i64 x4_1 ∧ Aside0 (depotref06_room.l0 kq l0 x3_1 x4_1 = some r) ∧ Aside0 (kq ≤ k) ∧ Drawn0 w w')
 case atStart => exact ⟨(0), (0), (by first | rfl | (simp; done) | (simp [*]; done)), (by first | rfl | (simp; done) | (simp [*]; done)), H', ⟨Nat.le_refl _⟩, by repeat (first | exact Drawn0.refl _ | apply Drawn0.step)⟩
 case round =>
  clear H'
  obtain ⟨x3_1, x4_1, rfl, rfl, HA, HK1, ⟨m1, rfl⟩⟩ := hrel
  cases gk with
  | zero => exact absurd HA.out (by simp [depotref06_room.l0])
  | succ k1 =>
   have H := HA.out
   clear HA
   simp only [depotref06_room.l0] at H
   by_cases c2 : x4_1 < (l0.length : Int)
   ·rw [if_pos c2] at H
    have c2b0 : decide (x4_1 < (l0.length : Int)) = true := decide_eq_true c2
    clear c2
    by_cases c3 : 0 ≤ x4_1
    ·rw [if_pos c3] at H
     have c3b0 : decide (0 ≤ x4_1) = true := decide_eq_true c3
     clear c3
     replace H := Option.bind_eq_some_iff.mp H
     obtain ⟨t111, A40, H⟩ := H
     replace H : (depotref06_room.l0 k1 l0 (wrap64 (x3_1 + t111)) (wrap64 (x4_1 + 1))) = some r := H
     have A4 := Aside0.mk A40
     clear A40
     have H' := Aside0.mk H
     clear H
     have p110 : 0 ≤ (x4_1 : Int) := of_decide_eq_true (by first | (with_reducible assumption) | assumption)
     have q110 : x4_1 < (l0.length : Int) := of_decide_eq_true (by first | (with_reducible assumption) | assumption)
     obtain ⟨ad110, e110, hx110_0⟩ := Kd.at_string HR0.out x4_1 p110 q110
     cases e110
     replace p110 := eq_true p110
     replace q110 := eq_true q110
     go_wp2_with (first | ((with_reducible refine gate_callee (f := 73) rfl ?_); refine goesL_ (some 17) rfl rfl Tryd.func73 (by kernel_rfl) rfl #[.int .i64 ((rdOf ByteArray.empty l0 x4_1).size : Int)] rfl (by (try simp only [List.map_toArray, List.map_cons, List.map_nil]); first | done | rfl | (simp only [List.length_drop, List.length_take]; rfl)) ?_; (with_reducible refine (depotref03_Framed.calls k1 ((rdOf ByteArray.empty l0 x4_1).size : Int) t111 _ A4.out).mono ?_); rintro e w' ⟨rfl, ⟨nd, rfl⟩⟩; refine ⟨_, rfl, ?_⟩))
     go_roundg k1
     case measure => have := HK1.out; omega
     case rel => exact ⟨(wrap64 (x3_1 + t111)), (wrap64 (x4_1 + 1)), (by first | rfl | (simp; done) | (simp [*]; done)), (by first | rfl | (simp; done) | (simp [*]; done)), H', ⟨by have := HK1.out; omega⟩, by repeat (first | exact Drawn0.refl _ | apply Drawn0.step)⟩
    ·rw [if_neg c3] at H
     exact absurd H (by simp)
   ·rw [if_neg c2] at H
    have c2b0 : decide (x4_1 < (l0.length : Int)) = false := decide_eq_false c2
    clear c2
    obtain rfl := Option.some.inj H
    go_wp2
    go_ret
    exact ⟨by first | rfl | (simp; done) | (simp [*]; done), by repeat (first | exact Drawn0.refl _ | apply Drawn0.step)⟩
end
end Go.Proofs.YtnemeeidomceiaaDoor.PTreeChecks
end
section
namespace Go.Proofs.YtnemeeidomceiaaDoor.PTreeChecks
open Go.RowKit Go.Proofs.YtnemeeidomceiaaDoorW.PrintWords Go.Proofs.YtnemeeidomceiaaDoorW.PrintLast Go.Proofs.YtnemeeidomceiaaDoorW.PrintMore
attribute [local go_sem] max2_int min2_int max_two min_two max_three min_three max_four min_four   -- for this text's walks alone
set_option linter.unusedVariables false
set_option linter.unusedSimpArgs false
noncomputable section
mutual
def depotref06_Own.l0 : Nat → Bool → Int → Int → Bool → ByteArray → List (S63) → Option (Int × Int)
 | 0, _, _, _, _, _, _ => none
 | k + 1, x4, x5, x113000, x113001, x113002, x113003 => if x5 < (x113002.size : Int) then (if 0 ≤ x5 then (if (bt x113002 x5) = 0 then (depotref06_Own.l0 k false (wrap64 (x5 + 1)) x113000 x113001 x113002 x113003) else (depotref06_Own.l0 k x4 (wrap64 (x5 + 1)) x113000 x113001 x113002 x113003)) else (none)) else (if x113000 = 1 then (if (x113003.length : Int) = 0 then ((depotref06_room.f k (([(⟨#[40]⟩ : ByteArray), (⟨#[116, 121, 112, 101]⟩ : ByteArray), (⟨#[114, 101, 103, 117, 108, 97, 114]⟩ : ByteArray), (⟨#[99, 111, 110, 116, 101, 110, 116, 115]⟩ : ByteArray), x113002, (⟨#[41]⟩ : ByteArray)] : List ByteArray))).bind fun t116 => (if x113001 = true then ((depotref06_room.f k (([(⟨#[101, 120, 101, 99, 117, 116, 97, 98, 108, 101]⟩ : ByteArray), (⟨#[]⟩ : ByteArray)] : List ByteArray))).bind fun t120 => (some (0, wrap64 (t116 + t120)))) else (some (0, t116)))) else (some (62, 0))) else (if x113000 = 2 then (if x113001 = true then (depotref06_Own.j1 k x4 true x113000 x113001 x113002 x113003) else (depotref06_Own.j1 k x4 ((x113003.length : Int) != 0) x113000 x113001 x113002 x113003)) else (if x113000 = 3 then (if x113001 = true then (some (62, 0)) else (if x113002.toList = ([] : List UInt8) then ((depotref06_room.f k (([(⟨#[40]⟩ : ByteArray), (⟨#[116, 121, 112, 101]⟩ : ByteArray), (⟨#[100, 105, 114, 101, 99, 116, 111, 114, 121]⟩ : ByteArray), (⟨#[41]⟩ : ByteArray)] : List ByteArray))).bind fun t128 => (some (0, t128))) else (some (62, 0)))) else (some (60, 0)))))
def depotref06_Own.j1 : Nat → Bool → Bool → Int → Bool → ByteArray → List (S63) → Option (Int × Int)
 | 0, _, _, _, _, _, _ => none
 | k + 1, x4, x51, x113000, x113001, x113002, x113003 => if x51 = true then (some (62, 0)) else (if x4 = true then ((depotref06_room.f k (([(⟨#[40]⟩ : ByteArray), (⟨#[116, 121, 112, 101]⟩ : ByteArray), (⟨#[115, 121, 109, 108, 105, 110, 107]⟩ : ByteArray), (⟨#[116, 97, 114, 103, 101, 116]⟩ : ByteArray), x113002, (⟨#[41]⟩ : ByteArray)] : List ByteArray))).bind fun t124 => (some (0, t124))) else (some (63, 0)))
end
def depotref06_Own.f (k : Nat) (a0_0 : Int) (a0_1 : Bool) (a0_2 : ByteArray) (l0_3 : List (S63)) : Option (Int × Int) := depotref06_Own.l0 k (decide ((a0_2.size : Int) > 0)) 0 a0_0 a0_1 a0_2 l0_3
theorem depotref06_Own.mono_l : ∀ k, (∀ y0 y1 y2 y3 y4 y5, LeO (depotref06_Own.l0 k y0 y1 y2 y3 y4 y5) (depotref06_Own.l0 (k + 1) y0 y1 y2 y3 y4 y5)) ∧ (∀ y0 y1 y2 y3 y4 y5, LeO (depotref06_Own.j1 k y0 y1 y2 y3 y4 y5) (depotref06_Own.j1 (k + 1) y0 y1 y2 y3 y4 y5))
 | 0 => ⟨fun _ _ _ _ _ _ r h => by simp [depotref06_Own.l0] at h, fun _ _ _ _ _ _ r h => by simp [depotref06_Own.j1] at h⟩
 | k + 1 => by
  obtain ⟨ih0, ih1⟩ := depotref06_Own.mono_l k
  refine ⟨?_, ?_⟩
  ·intro y0 y1 y2 y3 y4 y5
   unfold depotref06_Own.l0
   repeat' first
   | (with_reducible exact ih0 _ _ _ _ _ _)
   | (with_reducible exact ih1 _ _ _ _ _ _)
   | (with_reducible exact depotref06_room.mono _ _)
   | (with_reducible exact LeO.refl _)
   | (with_reducible exact LeO.none _)
   | (with_reducible refine LeO.ite ?_ ?_)
   | (with_reducible refine LeO.bind ?_ (fun _ => ?_))
   | exact ih0 _ _ _ _ _ _
   | exact ih1 _ _ _ _ _ _
   | exact depotref06_room.mono _ _
   | exact LeO.none _
   | refine LeO.ite ?_ ?_
   | refine LeO.bind ?_ (fun _ => ?_)
  ·intro y0 y1 y2 y3 y4 y5
   unfold depotref06_Own.j1
   repeat' first
   | (with_reducible exact ih0 _ _ _ _ _ _)
   | (with_reducible exact ih1 _ _ _ _ _ _)
   | (with_reducible exact depotref06_room.mono _ _)
   | (with_reducible exact LeO.refl _)
   | (with_reducible exact LeO.none _)
   | (with_reducible refine LeO.ite ?_ ?_)
   | (with_reducible refine LeO.bind ?_ (fun _ => ?_))
   | exact ih0 _ _ _ _ _ _
   | exact ih1 _ _ _ _ _ _
   | exact depotref06_room.mono _ _
   | exact LeO.none _
   | refine LeO.ite ?_ ?_
   | refine LeO.bind ?_ (fun _ => ?_)
theorem depotref06_Own.mono : ∀ a0 a1 a2 a3 k, LeO (depotref06_Own.f k a0 a1 a2 a3) (depotref06_Own.f (k + 1) a0 a1 a2 a3) := by
 intro a0 a1 a2 a3 k
 obtain ⟨ih0, ih1⟩ := depotref06_Own.mono_l k
 unfold depotref06_Own.f
 repeat' first
   | (with_reducible exact ih0 _ _ _ _ _ _)
   | (with_reducible exact ih1 _ _ _ _ _ _)
   | (with_reducible exact depotref06_room.mono _ _)
   | (with_reducible exact LeO.refl _)
   | (with_reducible exact LeO.none _)
   | (with_reducible refine LeO.ite ?_ ?_)
   | (with_reducible refine LeO.bind ?_ (fun _ => ?_))
   | exact ih0 _ _ _ _ _ _
   | exact ih1 _ _ _ _ _ _
   | exact depotref06_room.mono _ _
   | exact LeO.none _
   | refine LeO.ite ?_ ?_
   | refine LeO.bind ?_ (fun _ => ?_)
set_option maxHeartbeats 8000000 in
set_option maxRecDepth 100000 in
theorem depotref06_Own.calls (k : Nat) (a0_0 : Int) (a0_1 : Bool) (a0_2 : ByteArray) (A0_3 : Option Addr) (c0_3 : Nat) (l0_3 : List (S63)) (r1 : Int) (r2 : Int) (w : World) (hr0_3 : Kd.C k63 w A0_3 l0_3.length l0_3) (hc0_3 : l0_3.length ≤ c0_3) (h : depotref06_Own.f k a0_0 a0_1 a0_2 l0_3 = some (r1, r2)) :
  Calls Tryd.prog 32 #[.agg #[.int .i64 a0_0, .bool a0_1, .string a0_2, .slice A0_3 l0_3.length c0_3]] w fun e w' => e = .returned (.tuple #[.int .i64 r1, .int .i64 r2]) ∧ Below w.heap.size w w' := by
 have hu32 := Tryd.underlying32
 have HR0_3 := Aside0.mk hr0_3
 have HC0_3 := Aside0.mk hc0_3
 clear hr0_3 hc0_3
 have HB := Aside0.mk (Below.refl w.heap.size w)
 have H : (depotref06_Own.l0 k (decide ((a0_2.size : Int) > 0)) 0 a0_0 a0_1 a0_2 l0_3) = some (r1, r2) := h
 clear h
 have H' := Aside0.mk H
 clear H
 go_enter Tryd.func32, Tryd.ntmps32
 go_wp2_with (first | ((with_reducible refine gate_dst (N := 1) rfl ?_); (try (refine gate_guard (by rfl) ?_; dsimp only)); refine box_event ?hg (N := 1) ?hd (cs := #[.int .i64 a0_0, .bool a0_1, .string a0_2, .slice A0_3 l0_3.length c0_3]) (t := 32) ?hr ?_; (case hd => rfl); (case hg => rfl); (case hr => first | (go_simp; done) | (go_simp; rfl)); intro gb112 hg w2 hbox hb; have n0_ := Aside0.mk (below_step (by repeat (first | (with_reducible first | exact HB.out | apply below_alloc | apply pw_below_drewN | apply below_drew1) | exact HB.out)) hb); have n1_ := Aside0.mk (hbox); have n2_ := Aside0.mk ((by rw [hg]; exact (below_size (by repeat (first | (with_reducible first | exact HB.out | apply below_alloc | apply pw_below_drewN | apply below_drew1) | exact HB.out))) : w.heap.size ≤ gb112)); have n3_ := Aside0.mk ((by rw [hg]; exact (below_size (by repeat (first | (with_reducible first | exact HB.out | apply below_alloc | apply pw_below_drewN | apply below_drew1) | exact HB.out))) : w.heap.size ≤ gb112)); clear HB; have HB := n0_; have BK112 := n1_; have GW112 := n2_; have GE112 := n3_; clear n0_ n1_ n2_ n3_; clear hb hbox hg; have hcz3_0 : w2.cell? ⟨gb112, 0, none⟩ = some (.int .i64 a0_0) := (blk_cell BK112.out 0).trans rfl; have hcz3_1 : w2.cell? ⟨gb112, 1, none⟩ = some (.bool a0_1) := (blk_cell BK112.out 1).trans rfl; have hcz3_2 : w2.cell? ⟨gb112, 2, none⟩ = some (.string a0_2) := (blk_cell BK112.out 2).trans rfl; have hcz3_3 : w2.cell? ⟨gb112, 3, none⟩ = some (.slice A0_3 l0_3.length c0_3) := (blk_cell BK112.out 3).trans rfl; have hfz3_0 := blk_frozen BK112.out 0; have hfz3_1 := blk_frozen BK112.out 1; have hfz3_2 := blk_frozen BK112.out 2; have hfz3_3 := blk_frozen BK112.out 3))
 go_loopg [4, 5] k (fun kq v4 v5 w' => ∃ (x4_1 : Bool) (x5_1 : Int), v4 = .bool x4_1 ∧ v5 = .int .i64 x5_1 ∧ Aside0 (depotref06_Own.l0 kq x4_1 x5_1 a0_0 a0_1 a0_2 l0_3 = some (r1, r2)) ∧ Aside0 (kq ≤ k) ∧ Aside0 (w'.heap[gb112]? = some (.cells #[.int .i64 a0_0, .bool a0_1, .string a0_2, (.slice A0_3 l0_3.length c0_3)] 32 (0, 0))) ∧ Aside0 (Below w.heap.size w w'))
 case atStart => exact ⟨(decide ((a0_2.size : Int) > 0)), (0), (by first | rfl | (simp; done) | (simp [*]; done)), (by first | rfl | (simp; done) | (simp [*]; done)), H', ⟨Nat.le_refl _⟩, ⟨by (with_reducible repeat (first | refine blk_drewN ?_ _ | refine blk_drew ?_ | refine blk_alloc ?_ _)); exact BK112.out⟩, ⟨by repeat (first | (with_reducible first | exact HB.out | apply below_alloc | apply pw_below_drewN | apply below_drew1 | refine below_set ?_ GE112.out) | exact HB.out)⟩⟩
 case round =>
  clear H'
  try clear p2
  try clear c3
  try clear hcz3_0
  try clear hcz3_1
  try clear hcz3_2
  try clear hcz3_3
  try clear hfz3_0
  try clear hfz3_1
  try clear hfz3_2
  try clear hfz3_3
  obtain ⟨x4_1, x5_1, rfl, rfl, HA, HK1, BK112, HB⟩ := hrel
  cases gk with
  | zero => exact absurd HA.out (by simp [depotref06_Own.l0])
  | succ k1 =>
   have H := HA.out
   clear HA
   simp only [depotref06_Own.l0] at H
   by_cases c4 : x5_1 < (a0_2.size : Int)
   ·rw [if_pos c4] at H
    have c4b0 : decide (x5_1 < (a0_2.size : Int)) = true := decide_eq_true c4
    clear c4
    by_cases c5 : 0 ≤ x5_1
    ·rw [if_pos c5] at H
     have c5b0 : decide (0 ≤ x5_1) = true := decide_eq_true c5
     clear c5
     by_cases c7 : (bt a0_2 x5_1) = 0
     ·rw [if_pos c7] at H
      have c7b0 : ((bt a0_2 x5_1) == 0) = true := beq_iff_eq.mpr c7
      have c7b1 : ((bt a0_2 x5_1) != 0) = false := bne_eq_false_iff_eq.mpr c7
      clear c7
      have H' := Aside0.mk H
      clear H
      have hcz8_0 : wr.cell? ⟨gb112, 0, none⟩ = some (.int .i64 a0_0) := (blk_cell BK112.out 0).trans rfl
      have hcz8_1 : wr.cell? ⟨gb112, 1, none⟩ = some (.bool a0_1) := (blk_cell BK112.out 1).trans rfl
      have hcz8_2 : wr.cell? ⟨gb112, 2, none⟩ = some (.string a0_2) := (blk_cell BK112.out 2).trans rfl
      have hcz8_3 : wr.cell? ⟨gb112, 3, none⟩ = some (.slice A0_3 l0_3.length c0_3) := (blk_cell BK112.out 3).trans rfl
      have hfz8_0 := blk_frozen BK112.out 0
      have hfz8_1 := blk_frozen BK112.out 1
      have hfz8_2 := blk_frozen BK112.out 2
      have hfz8_3 := blk_frozen BK112.out 3
      have p6 : 0 ≤ (x5_1 : Int) := of_decide_eq_true (by first | (with_reducible assumption) | assumption)
      have q6 : x5_1 < (a0_2.size : Int) := of_decide_eq_true (by first | (with_reducible assumption) | assumption)
      have hx6 := bt_at a0_2 x5_1
      replace p6 := eq_true p6
      replace q6 := eq_true q6
      go_wp2
      go_roundg k1
      case measure => have := HK1.out; omega
      case rel => exact ⟨(false), (wrap64 (x5_1 + 1)), (by first | rfl | (simp; done) | (simp [*]; done)), (by first | rfl | (simp; done) | (simp [*]; done)), H', ⟨by have := HK1.out; omega⟩, ⟨by (with_reducible repeat (first | refine blk_drewN ?_ _ | refine blk_drew ?_ | refine blk_alloc ?_ _)); exact BK112.out⟩, ⟨by repeat (first | (with_reducible first | exact HB.out | apply below_alloc | apply pw_below_drewN | apply below_drew1 | refine below_set ?_ GE112.out) | exact HB.out)⟩⟩
     ·rw [if_neg c7] at H
      have c7b0 : ((bt a0_2 x5_1) == 0) = false := beq_eq_false_iff_ne.mpr c7
      have c7b1 : ((bt a0_2 x5_1) != 0) = true := bne_iff_ne.mpr c7
      have H' := Aside0.mk H
      clear H
      have hcz9_0 : wr.cell? ⟨gb112, 0, none⟩ = some (.int .i64 a0_0) := (blk_cell BK112.out 0).trans rfl
      have hcz9_1 : wr.cell? ⟨gb112, 1, none⟩ = some (.bool a0_1) := (blk_cell BK112.out 1).trans rfl
      have hcz9_2 : wr.cell? ⟨gb112, 2, none⟩ = some (.string a0_2) := (blk_cell BK112.out 2).trans rfl
      have hcz9_3 : wr.cell? ⟨gb112, 3, none⟩ = some (.slice A0_3 l0_3.length c0_3) := (blk_cell BK112.out 3).trans rfl
      have hfz9_0 := blk_frozen BK112.out 0
      have hfz9_1 := blk_frozen BK112.out 1
      have hfz9_2 := blk_frozen BK112.out 2
      have hfz9_3 := blk_frozen BK112.out 3
      have p6 : 0 ≤ (x5_1 : Int) := of_decide_eq_true (by first | (with_reducible assumption) | assumption)
      have q6 : x5_1 < (a0_2.size : Int) := of_decide_eq_true (by first | (with_reducible assumption) | assumption)
      have hx6 := bt_at a0_2 x5_1
      replace p6 := eq_true p6
      replace q6 := eq_true q6
      go_wp2
      go_roundg k1
      case measure => have := HK1.out; omega
      case rel => exact ⟨(x4_1), (wrap64 (x5_1 + 1)), (by first | rfl | (simp; done) | (simp [*]; done)), (by first | rfl | (simp; done) | (simp [*]; done)), H', ⟨by have := HK1.out; omega⟩, ⟨by (with_reducible repeat (first | refine blk_drewN ?_ _ | refine blk_drew ?_ | refine blk_alloc ?_ _)); exact BK112.out⟩, ⟨by repeat (first | (with_reducible first | exact HB.out | apply below_alloc | apply pw_below_drewN | apply below_drew1 | refine below_set ?_ GE112.out) | exact HB.out)⟩⟩
    ·rw [if_neg c5] at H
     exact absurd H (by simp)
   ·rw [if_neg c4] at H
    have c4b0 : decide (x5_1 < (a0_2.size : Int)) = false := decide_eq_false c4
    clear c4
    by_cases c10 : a0_0 = 1
    ·rw [if_pos c10] at H
     have c10b0 : (a0_0 == 1) = true := beq_iff_eq.mpr c10
     have c10b1 : (a0_0 != 1) = false := bne_eq_false_iff_eq.mpr c10
     clear c10
     by_cases c11 : (l0_3.length : Int) = 0
     ·rw [if_pos c11] at H
      have c11b0 : ((l0_3.length : Int) == 0) = true := beq_iff_eq.mpr c11
      have c11b1 : ((l0_3.length : Int) != 0) = false := bne_eq_false_iff_eq.mpr c11
      clear c11
      obtain ⟨y113, hy113⟩ : ∃ y_ : List ByteArray, y_ = (([(⟨#[40]⟩ : ByteArray), (⟨#[116, 121, 112, 101]⟩ : ByteArray), (⟨#[114, 101, 103, 117, 108, 97, 114]⟩ : ByteArray), (⟨#[99, 111, 110, 116, 101, 110, 116, 115]⟩ : ByteArray), a0_2, (⟨#[41]⟩ : ByteArray)] : List ByteArray)) := ⟨_, rfl⟩
      replace H : ((depotref06_room.f k1 y113).bind fun t116 => (if a0_1 = true then ((depotref06_room.f k1 (([(⟨#[101, 120, 101, 99, 117, 116, 97, 98, 108, 101]⟩ : ByteArray), (⟨#[]⟩ : ByteArray)] : List ByteArray))).bind fun t120 => (some (0, wrap64 (t116 + t120)))) else (some (0, t116)))) = some (r1, r2) := by first | (rw [hy113]; with_reducible exact H) | (have H2_ := (Option.bind_some _ _).symm.trans H; rw [hy113]; with_reducible exact H2_) | (have H2_ := (Option.bind_some _ _).symm.trans H; with_reducible exact H2_) | with_reducible exact H | (rw [hy113]; exact H) | exact H
      have Ny113 := Aside0.mk hy113
      clear hy113
      replace H := Option.bind_eq_some_iff.mp H
      obtain ⟨t116, A120, H⟩ := H
      replace H : (if a0_1 = true then ((depotref06_room.f k1 (([(⟨#[101, 120, 101, 99, 117, 116, 97, 98, 108, 101]⟩ : ByteArray), (⟨#[]⟩ : ByteArray)] : List ByteArray))).bind fun t120 => (some (0, wrap64 (t116 + t120)))) else (some (0, t116))) = some (r1, r2) := H
      have A12 := Aside0.mk A120
      clear A120
      by_cases c13 : a0_1 = true
      ·subst c13
       have H1 : ((depotref06_room.f k1 (([(⟨#[101, 120, 101, 99, 117, 116, 97, 98, 108, 101]⟩ : ByteArray), (⟨#[]⟩ : ByteArray)] : List ByteArray))).bind fun t120 => (some (0, wrap64 (t116 + t120)))) = some (r1, r2) := by rw [if_pos rfl] at H; exact H
       clear H
       have H := H1
       clear H1
       obtain ⟨y117, hy117⟩ : ∃ y_ : List ByteArray, y_ = (([(⟨#[101, 120, 101, 99, 117, 116, 97, 98, 108, 101]⟩ : ByteArray), (⟨#[]⟩ : ByteArray)] : List ByteArray)) := ⟨_, rfl⟩
       replace H : ((depotref06_room.f k1 y117).bind fun t120 => (some (0, wrap64 (t116 + t120)))) = some (r1, r2) := by first | (rw [hy117]; with_reducible exact H) | (have H2_ := (Option.bind_some _ _).symm.trans H; rw [hy117]; with_reducible exact H2_) | (have H2_ := (Option.bind_some _ _).symm.trans H; with_reducible exact H2_) | with_reducible exact H | (rw [hy117]; exact H) | exact H
       have Ny117 := Aside0.mk hy117
       clear hy117
       replace H := Option.bind_eq_some_iff.mp H
       obtain ⟨t120, A140, H⟩ := H
       replace H : (some (0, wrap64 (t116 + t120))) = some (r1, r2) := H
       have A14 := Aside0.mk A140
       clear A140
       simp only [Option.some.injEq, Prod.mk.injEq] at H
       obtain ⟨rfl, rfl⟩ := H
       have hcz15_0 : wr.cell? ⟨gb112, 0, none⟩ = some (.int .i64 a0_0) := (blk_cell BK112.out 0).trans rfl
       have hcz15_1 : wr.cell? ⟨gb112, 1, none⟩ = some (.bool true) := (blk_cell BK112.out 1).trans rfl
       have hcz15_2 : wr.cell? ⟨gb112, 2, none⟩ = some (.string a0_2) := (blk_cell BK112.out 2).trans rfl
       have hcz15_3 : wr.cell? ⟨gb112, 3, none⟩ = some (.slice A0_3 l0_3.length c0_3) := (blk_cell BK112.out 3).trans rfl
       have hfz15_0 := blk_frozen BK112.out 0
       have hfz15_1 := blk_frozen BK112.out 1
       have hfz15_2 := blk_frozen BK112.out 2
       have hfz15_3 := blk_frozen BK112.out 3
       go_wp2_with (first | ((with_reducible refine gate_dst (N := 32) rfl ?_); (try (refine gate_guard (by rfl) ?_; dsimp only)); refine Kd.R_lit Kd.string _ 9 ?hg (N := 32) ?hd (xs := ([(⟨#[40]⟩ : ByteArray), (⟨#[116, 121, 112, 101]⟩ : ByteArray), (⟨#[114, 101, 103, 117, 108, 97, 114]⟩ : ByteArray), (⟨#[99, 111, 110, 116, 101, 110, 116, 115]⟩ : ByteArray), a0_2, (⟨#[41]⟩ : ByteArray)] : List ByteArray)) (inner := [.string (⟨#[40]⟩ : ByteArray), .string (⟨#[116, 121, 112, 101]⟩ : ByteArray), .string (⟨#[114, 101, 103, 117, 108, 97, 114]⟩ : ByteArray), .string (⟨#[99, 111, 110, 116, 101, 110, 116, 115]⟩ : ByteArray), .string a0_2, .string (⟨#[41]⟩ : ByteArray)]) (ok := fun _ => True) (okp := fun _ => True) ?hr ?hp (fun _ hk => hk) trivial (Below.refl _ _) (Nat.le_refl _) (by simp) ?_; (case hd => rfl); (case hg => rfl); (case hr => first | (go_simp; done) | (go_simp; rfl)); (case hp => exact (Reps.one (show Kd.M Kd.string _ _ _ (⟨#[40]⟩ : ByteArray) [.string (⟨#[40]⟩ : ByteArray)] from rfl) (Reps.one (show Kd.M Kd.string _ _ _ (⟨#[116, 121, 112, 101]⟩ : ByteArray) [.string (⟨#[116, 121, 112, 101]⟩ : ByteArray)] from rfl) (Reps.one (show Kd.M Kd.string _ _ _ (⟨#[114, 101, 103, 117, 108, 97, 114]⟩ : ByteArray) [.string (⟨#[114, 101, 103, 117, 108, 97, 114]⟩ : ByteArray)] from rfl) (Reps.one (show Kd.M Kd.string _ _ _ (⟨#[99, 111, 110, 116, 101, 110, 116, 115]⟩ : ByteArray) [.string (⟨#[99, 111, 110, 116, 101, 110, 116, 115]⟩ : ByteArray)] from rfl) (Reps.one (show Kd.M Kd.string _ _ _ a0_2 [.string a0_2] from rfl) (Reps.one (show Kd.M Kd.string _ _ _ (⟨#[41]⟩ : ByteArray) [.string (⟨#[41]⟩ : ByteArray)] from rfl) (Reps.none _ _)))))))); intro v114 w16 ho17 hb hg_ hnew_; clear hg_ hnew_; (first | rw [← Ny113.out] at ho17 | (simp only [Int.reduceToNat] at ho17; rw [← Ny113.out] at ho17)); have n0_ := Aside0.mk (Kd.R_lower ho17 (below_size (by repeat (first | (with_reducible first | exact HB.out | apply below_alloc | apply pw_below_drewN | apply below_drew1 | refine below_set ?_ GE112.out) | exact HB.out)))); have n1_ := Aside0.mk (blk_below (g := gb112) (o := .cells #[.int .i64 a0_0, .bool true, .string a0_2, .slice A0_3 l0_3.length c0_3] 32 (0, 0)) (by (with_reducible repeat (first | refine blk_drewN ?_ _ | refine blk_drew ?_ | refine blk_alloc ?_ _)); exact BK112.out) hb); have n2_ := Aside0.mk (below_step (by repeat (first | (with_reducible first | exact HB.out | apply below_alloc | apply pw_below_drewN | apply below_drew1 | refine below_set ?_ GE112.out) | exact HB.out)) hb); clear BK112; clear HB; have HO115 := n0_; have BK112 := n1_; have HB := n2_; clear n0_ n1_ n2_; clear hb ho17; obtain ⟨Ao18, co18, eo18⟩ := Kd.R_slice HO115.out; subst eo18) | ((with_reducible refine gate_callee (f := 57) rfl ?_); refine goesL_ (some 33) rfl rfl Tryd.func57 (by kernel_rfl) rfl #[.slice Ao18 y113.length co18] rfl (by (try simp only [List.map_toArray, List.map_cons, List.map_nil]); first | done | rfl | (simp only [List.length_drop, List.length_take]; rfl)) ?_; (with_reducible refine (depotref06_room.calls k1 _ _ y113 t116 _ ?side1 ?side2 A12.out).mono ?_); (case side1 => repeat (first | exact (Kd.R_reads' HO115.out).2.2 | (with_reducible refine Kd.C_alloc ?_ _) | (with_reducible refine Kd.C_drewN ?_ _) | (with_reducible refine Kd.C_drew ?_))); (case side2 => exact (Kd.R_reads' HO115.out).2.1); rintro e w' ⟨rfl, ⟨nd, rfl⟩⟩; refine ⟨_, rfl, ?_⟩; have hcz19_0 : w16.cell? ⟨gb112, 0, none⟩ = some (.int .i64 a0_0) := (blk_cell BK112.out 0).trans rfl; have hcz19_1 : w16.cell? ⟨gb112, 1, none⟩ = some (.bool true) := (blk_cell BK112.out 1).trans rfl; have hcz19_2 : w16.cell? ⟨gb112, 2, none⟩ = some (.string a0_2) := (blk_cell BK112.out 2).trans rfl; have hcz19_3 : w16.cell? ⟨gb112, 3, none⟩ = some (.slice A0_3 l0_3.length c0_3) := (blk_cell BK112.out 3).trans rfl; have hfz19_0 := blk_frozen BK112.out 0; have hfz19_1 := blk_frozen BK112.out 1; have hfz19_2 := blk_frozen BK112.out 2; have hfz19_3 := blk_frozen BK112.out 3) | ((with_reducible refine gate_dst (N := 37) rfl ?_); (try (refine gate_guard (by rfl) ?_; dsimp only)); refine Kd.R_lit Kd.string _ 9 ?hg (N := 37) ?hd (xs := ([(⟨#[101, 120, 101, 99, 117, 116, 97, 98, 108, 101]⟩ : ByteArray), (⟨#[]⟩ : ByteArray)] : List ByteArray)) (inner := [.string (⟨#[101, 120, 101, 99, 117, 116, 97, 98, 108, 101]⟩ : ByteArray), .string (⟨#[]⟩ : ByteArray)]) (ok := fun _ => True) (okp := fun _ => True) ?hr ?hp (fun _ hk => hk) trivial (Below.refl _ _) (Nat.le_refl _) (by simp) ?_; (case hd => rfl); (case hg => rfl); (case hr => first | (go_simp; done) | (go_simp; rfl)); (case hp => exact (Reps.one (show Kd.M Kd.string _ _ _ (⟨#[101, 120, 101, 99, 117, 116, 97, 98, 108, 101]⟩ : ByteArray) [.string (⟨#[101, 120, 101, 99, 117, 116, 97, 98, 108, 101]⟩ : ByteArray)] from rfl) (Reps.one (show Kd.M Kd.string _ _ _ (⟨#[]⟩ : ByteArray) [.string (⟨#[]⟩ : ByteArray)] from rfl) (Reps.none _ _)))); intro v118 w20 ho21 hb hg_ hnew_; clear hg_ hnew_; (first | rw [← Ny117.out] at ho21 | (simp only [Int.reduceToNat] at ho21; rw [← Ny117.out] at ho21)); have n0_ := Aside0.mk (Kd.R_elder' (by (with_reducible repeat (first | apply Kd.R_alloc | apply Kd.R_drewN | apply Kd.R_drew)); exact HO115.out) (Kd.R_base ho21) hb); have n1_ := Aside0.mk (Kd.R_lower (Kd.R_new' ho21 (Kd.R_lt (by (with_reducible repeat (first | apply Kd.R_alloc | apply Kd.R_drewN | apply Kd.R_drew)); exact HO115.out))) (below_size (by repeat (first | (with_reducible first | exact HB.out | apply below_alloc | apply pw_below_drewN | apply below_drew1 | refine below_set ?_ GE112.out) | exact HB.out)))); have n2_ := Aside0.mk (blk_below (g := gb112) (o := .cells #[.int .i64 a0_0, .bool true, .string a0_2, .slice A0_3 l0_3.length c0_3] 32 (0, 0)) (by (with_reducible repeat (first | refine blk_drewN ?_ _ | refine blk_drew ?_ | refine blk_alloc ?_ _)); exact BK112.out) hb); have n3_ := Aside0.mk (below_step (by repeat (first | (with_reducible first | exact HB.out | apply below_alloc | apply pw_below_drewN | apply below_drew1 | refine below_set ?_ GE112.out) | exact HB.out)) hb); clear HO115; clear BK112; clear HB; have HO115 := n0_; have HO119 := n1_; have BK112 := n2_; have HB := n3_; clear n0_ n1_ n2_ n3_; clear hb ho21; obtain ⟨Ao22, co22, eo22⟩ := Kd.R_slice HO119.out; subst eo22) | ((with_reducible refine gate_callee (f := 57) rfl ?_); refine goesL_ (some 38) rfl rfl Tryd.func57 (by kernel_rfl) rfl #[.slice Ao22 y117.length co22] rfl (by (try simp only [List.map_toArray, List.map_cons, List.map_nil]); first | done | rfl | (simp only [List.length_drop, List.length_take]; rfl)) ?_; (with_reducible refine (depotref06_room.calls k1 _ _ y117 t120 _ ?side1 ?side2 A14.out).mono ?_); (case side1 => repeat (first | exact (Kd.R_reads' HO119.out).2.2 | (with_reducible refine Kd.C_alloc ?_ _) | (with_reducible refine Kd.C_drewN ?_ _) | (with_reducible refine Kd.C_drew ?_))); (case side2 => exact (Kd.R_reads' HO119.out).2.1); rintro e w' ⟨rfl, ⟨nd, rfl⟩⟩; refine ⟨_, rfl, ?_⟩))
       go_ret2
       exact ⟨by first | rfl | (simp [errW_none, errW_some] <;> rfl) | (simp [*, errW_none, errW_some] <;> rfl), by repeat (first | (with_reducible first | exact HB.out | apply below_alloc | apply pw_below_drewN | apply below_drew1 | refine below_set ?_ GE112.out) | exact HB.out)⟩
      ·replace c13 := Bool.eq_false_iff.mpr c13
       subst c13
       have H1 : (some (0, t116)) = some (r1, r2) := by rw [if_neg (show ¬ (false = true) by decide)] at H; exact H
       clear H
       have H := H1
       clear H1
       simp only [Option.some.injEq, Prod.mk.injEq] at H
       obtain ⟨rfl, rfl⟩ := H
       have hcz23_0 : wr.cell? ⟨gb112, 0, none⟩ = some (.int .i64 a0_0) := (blk_cell BK112.out 0).trans rfl
       have hcz23_1 : wr.cell? ⟨gb112, 1, none⟩ = some (.bool false) := (blk_cell BK112.out 1).trans rfl
       have hcz23_2 : wr.cell? ⟨gb112, 2, none⟩ = some (.string a0_2) := (blk_cell BK112.out 2).trans rfl
       have hcz23_3 : wr.cell? ⟨gb112, 3, none⟩ = some (.slice A0_3 l0_3.length c0_3) := (blk_cell BK112.out 3).trans rfl
       have hfz23_0 := blk_frozen BK112.out 0
       have hfz23_1 := blk_frozen BK112.out 1
       have hfz23_2 := blk_frozen BK112.out 2
       have hfz23_3 := blk_frozen BK112.out 3
       go_wp2_with (first | ((with_reducible refine gate_dst (N := 32) rfl ?_); (try (refine gate_guard (by rfl) ?_; dsimp only)); refine Kd.R_lit Kd.string _ 9 ?hg (N := 32) ?hd (xs := ([(⟨#[40]⟩ : ByteArray), (⟨#[116, 121, 112, 101]⟩ : ByteArray), (⟨#[114, 101, 103, 117, 108, 97, 114]⟩ : ByteArray), (⟨#[99, 111, 110, 116, 101, 110, 116, 115]⟩ : ByteArray), a0_2, (⟨#[41]⟩ : ByteArray)] : List ByteArray)) (inner := [.string (⟨#[40]⟩ : ByteArray), .string (⟨#[116, 121, 112, 101]⟩ : ByteArray), .string (⟨#[114, 101, 103, 117, 108, 97, 114]⟩ : ByteArray), .string (⟨#[99, 111, 110, 116, 101, 110, 116, 115]⟩ : ByteArray), .string a0_2, .string (⟨#[41]⟩ : ByteArray)]) (ok := fun _ => True) (okp := fun _ => True) ?hr ?hp (fun _ hk => hk) trivial (Below.refl _ _) (Nat.le_refl _) (by simp) ?_; (case hd => rfl); (case hg => rfl); (case hr => first | (go_simp; done) | (go_simp; rfl)); (case hp => exact (Reps.one (show Kd.M Kd.string _ _ _ (⟨#[40]⟩ : ByteArray) [.string (⟨#[40]⟩ : ByteArray)] from rfl) (Reps.one (show Kd.M Kd.string _ _ _ (⟨#[116, 121, 112, 101]⟩ : ByteArray) [.string (⟨#[116, 121, 112, 101]⟩ : ByteArray)] from rfl) (Reps.one (show Kd.M Kd.string _ _ _ (⟨#[114, 101, 103, 117, 108, 97, 114]⟩ : ByteArray) [.string (⟨#[114, 101, 103, 117, 108, 97, 114]⟩ : ByteArray)] from rfl) (Reps.one (show Kd.M Kd.string _ _ _ (⟨#[99, 111, 110, 116, 101, 110, 116, 115]⟩ : ByteArray) [.string (⟨#[99, 111, 110, 116, 101, 110, 116, 115]⟩ : ByteArray)] from rfl) (Reps.one (show Kd.M Kd.string _ _ _ a0_2 [.string a0_2] from rfl) (Reps.one (show Kd.M Kd.string _ _ _ (⟨#[41]⟩ : ByteArray) [.string (⟨#[41]⟩ : ByteArray)] from rfl) (Reps.none _ _)))))))); intro v114 w24 ho25 hb hg_ hnew_; clear hg_ hnew_; (first | rw [← Ny113.out] at ho25 | (simp only [Int.reduceToNat] at ho25; rw [← Ny113.out] at ho25)); have n0_ := Aside0.mk (Kd.R_lower ho25 (below_size (by repeat (first | (with_reducible first | exact HB.out | apply below_alloc | apply pw_below_drewN | apply below_drew1 | refine below_set ?_ GE112.out) | exact HB.out)))); have n1_ := Aside0.mk (blk_below (g := gb112) (o := .cells #[.int .i64 a0_0, .bool false, .string a0_2, .slice A0_3 l0_3.length c0_3] 32 (0, 0)) (by (with_reducible repeat (first | refine blk_drewN ?_ _ | refine blk_drew ?_ | refine blk_alloc ?_ _)); exact BK112.out) hb); have n2_ := Aside0.mk (below_step (by repeat (first | (with_reducible first | exact HB.out | apply below_alloc | apply pw_below_drewN | apply below_drew1 | refine below_set ?_ GE112.out) | exact HB.out)) hb); clear BK112; clear HB; have HO115 := n0_; have BK112 := n1_; have HB := n2_; clear n0_ n1_ n2_; clear hb ho25; obtain ⟨Ao26, co26, eo26⟩ := Kd.R_slice HO115.out; subst eo26) | ((with_reducible refine gate_callee (f := 57) rfl ?_); refine goesL_ (some 33) rfl rfl Tryd.func57 (by kernel_rfl) rfl #[.slice Ao26 y113.length co26] rfl (by (try simp only [List.map_toArray, List.map_cons, List.map_nil]); first | done | rfl | (simp only [List.length_drop, List.length_take]; rfl)) ?_; (with_reducible refine (depotref06_room.calls k1 _ _ y113 t116 _ ?side1 ?side2 A12.out).mono ?_); (case side1 => repeat (first | exact (Kd.R_reads' HO115.out).2.2 | (with_reducible refine Kd.C_alloc ?_ _) | (with_reducible refine Kd.C_drewN ?_ _) | (with_reducible refine Kd.C_drew ?_))); (case side2 => exact (Kd.R_reads' HO115.out).2.1); rintro e w' ⟨rfl, ⟨nd, rfl⟩⟩; refine ⟨_, rfl, ?_⟩; have hcz27_0 : w24.cell? ⟨gb112, 0, none⟩ = some (.int .i64 a0_0) := (blk_cell BK112.out 0).trans rfl; have hcz27_1 : w24.cell? ⟨gb112, 1, none⟩ = some (.bool false) := (blk_cell BK112.out 1).trans rfl; have hcz27_2 : w24.cell? ⟨gb112, 2, none⟩ = some (.string a0_2) := (blk_cell BK112.out 2).trans rfl; have hcz27_3 : w24.cell? ⟨gb112, 3, none⟩ = some (.slice A0_3 l0_3.length c0_3) := (blk_cell BK112.out 3).trans rfl; have hfz27_0 := blk_frozen BK112.out 0; have hfz27_1 := blk_frozen BK112.out 1; have hfz27_2 := blk_frozen BK112.out 2; have hfz27_3 := blk_frozen BK112.out 3))
       go_ret2
       exact ⟨by first | rfl | (simp [errW_none, errW_some] <;> rfl) | (simp [*, errW_none, errW_some] <;> rfl), by repeat (first | (with_reducible first | exact HB.out | apply below_alloc | apply pw_below_drewN | apply below_drew1 | refine below_set ?_ GE112.out) | exact HB.out)⟩
     ·rw [if_neg c11] at H
      have c11b0 : ((l0_3.length : Int) == 0) = false := beq_eq_false_iff_ne.mpr c11
      have c11b1 : ((l0_3.length : Int) != 0) = true := bne_iff_ne.mpr c11
      have c11b2 : ¬ (l0_3 = []) := fun h_ => c11 (by rw [h_]; rfl)
      simp only [Option.some.injEq, Prod.mk.injEq] at H
      obtain ⟨rfl, rfl⟩ := H
      have hcz28_0 : wr.cell? ⟨gb112, 0, none⟩ = some (.int .i64 a0_0) := (blk_cell BK112.out 0).trans rfl
      have hcz28_1 : wr.cell? ⟨gb112, 1, none⟩ = some (.bool a0_1) := (blk_cell BK112.out 1).trans rfl
      have hcz28_2 : wr.cell? ⟨gb112, 2, none⟩ = some (.string a0_2) := (blk_cell BK112.out 2).trans rfl
      have hcz28_3 : wr.cell? ⟨gb112, 3, none⟩ = some (.slice A0_3 l0_3.length c0_3) := (blk_cell BK112.out 3).trans rfl
      have hfz28_0 := blk_frozen BK112.out 0
      have hfz28_1 := blk_frozen BK112.out 1
      have hfz28_2 := blk_frozen BK112.out 2
      have hfz28_3 := blk_frozen BK112.out 3
      go_wp2
      go_ret2
      exact ⟨by first | rfl | (simp [errW_none, errW_some] <;> rfl) | (simp [*, errW_none, errW_some] <;> rfl), by repeat (first | (with_reducible first | exact HB.out | apply below_alloc | apply pw_below_drewN | apply below_drew1 | refine below_set ?_ GE112.out) | exact HB.out)⟩
    ·rw [if_neg c10] at H
     have c10b0 : (a0_0 == 1) = false := beq_eq_false_iff_ne.mpr c10
     have c10b1 : (a0_0 != 1) = true := bne_iff_ne.mpr c10
     by_cases c29 : a0_0 = 2
     ·rw [if_pos c29] at H
      have c29b0 : (a0_0 == 2) = true := beq_iff_eq.mpr c29
      have c29b1 : (a0_0 != 2) = false := bne_eq_false_iff_eq.mpr c29
      clear c29
      have HC30 := Aside0.mk H
      clear H
      have hcz31_0 : wr.cell? ⟨gb112, 0, none⟩ = some (.int .i64 a0_0) := (blk_cell BK112.out 0).trans rfl
      have hcz31_1 : wr.cell? ⟨gb112, 1, none⟩ = some (.bool a0_1) := (blk_cell BK112.out 1).trans rfl
      have hcz31_2 : wr.cell? ⟨gb112, 2, none⟩ = some (.string a0_2) := (blk_cell BK112.out 2).trans rfl
      have hcz31_3 : wr.cell? ⟨gb112, 3, none⟩ = some (.slice A0_3 l0_3.length c0_3) := (blk_cell BK112.out 3).trans rfl
      have hfz31_0 := blk_frozen BK112.out 0
      have hfz31_1 := blk_frozen BK112.out 1
      have hfz31_2 := blk_frozen BK112.out 2
      have hfz31_3 := blk_frozen BK112.out 3
      go_upto_region 15 with (fail)
      go_cut [51] (fun v51 wc => ∃ (kq : Nat) (x51_29 : Bool), v51 = .bool x51_29 ∧ Aside0 (depotref06_Own.j1 kq x4_1 x51_29 a0_0 a0_1 a0_2 l0_3 = some (r1, r2)) ∧ Aside0 (kq ≤ k1) ∧ Aside0 (wc.heap[gb112]? = some (.cells #[.int .i64 a0_0, .bool a0_1, .string a0_2, (.slice A0_3 l0_3.length c0_3)] 32 (0, 0))) ∧ Aside0 (Below w.heap.size w wc))
      case first =>
       have H := HC30.out
       clear HC30
       by_cases c32 : a0_1 = true
       ·subst c32
        have H1 : (depotref06_Own.j1 k1 x4_1 true a0_0 true a0_2 l0_3) = some (r1, r2) := by rw [if_pos rfl] at H; exact H
        clear H
        have H := H1
        clear H1
        have H' := Aside0.mk H
        clear H
        have hcz33_0 : wr.cell? ⟨gb112, 0, none⟩ = some (.int .i64 a0_0) := (blk_cell BK112.out 0).trans rfl
        have hcz33_1 : wr.cell? ⟨gb112, 1, none⟩ = some (.bool true) := (blk_cell BK112.out 1).trans rfl
        have hcz33_2 : wr.cell? ⟨gb112, 2, none⟩ = some (.string a0_2) := (blk_cell BK112.out 2).trans rfl
        have hcz33_3 : wr.cell? ⟨gb112, 3, none⟩ = some (.slice A0_3 l0_3.length c0_3) := (blk_cell BK112.out 3).trans rfl
        have hfz33_0 := blk_frozen BK112.out 0
        have hfz33_1 := blk_frozen BK112.out 1
        have hfz33_2 := blk_frozen BK112.out 2
        have hfz33_3 := blk_frozen BK112.out 3
        go_wp2
        go_meet
        case rel => exact ⟨_, (true), (by first | rfl | (simp; done) | (simp [*]; done)), H', ⟨by have := HK1.out; first | omega | exact Nat.le_refl _⟩, ⟨by (with_reducible repeat (first | refine blk_drewN ?_ _ | refine blk_drew ?_ | refine blk_alloc ?_ _)); exact BK112.out⟩, ⟨by repeat (first | (with_reducible first | exact HB.out | apply below_alloc | apply pw_below_drewN | apply below_drew1 | refine below_set ?_ GE112.out) | exact HB.out)⟩⟩
       ·replace c32 := Bool.eq_false_iff.mpr c32
        subst c32
        have H1 : (depotref06_Own.j1 k1 x4_1 ((l0_3.length : Int) != 0) a0_0 false a0_2 l0_3) = some (r1, r2) := by rw [if_neg (show ¬ (false = true) by decide)] at H; exact H
        clear H
        have H := H1
        clear H1
        have H' := Aside0.mk H
        clear H
        have hcz34_0 : wr.cell? ⟨gb112, 0, none⟩ = some (.int .i64 a0_0) := (blk_cell BK112.out 0).trans rfl
        have hcz34_1 : wr.cell? ⟨gb112, 1, none⟩ = some (.bool false) := (blk_cell BK112.out 1).trans rfl
        have hcz34_2 : wr.cell? ⟨gb112, 2, none⟩ = some (.string a0_2) := (blk_cell BK112.out 2).trans rfl
        have hcz34_3 : wr.cell? ⟨gb112, 3, none⟩ = some (.slice A0_3 l0_3.length c0_3) := (blk_cell BK112.out 3).trans rfl
        have hfz34_0 := blk_frozen BK112.out 0
        have hfz34_1 := blk_frozen BK112.out 1
        have hfz34_2 := blk_frozen BK112.out 2
        have hfz34_3 := blk_frozen BK112.out 3
        go_wp2
        go_meet
        case rel => exact ⟨_, (((l0_3.length : Int) != 0)), (by first | rfl | (simp; done) | (simp [*]; done)), H', ⟨by have := HK1.out; first | omega | exact Nat.le_refl _⟩, ⟨by (with_reducible repeat (first | refine blk_drewN ?_ _ | refine blk_drew ?_ | refine blk_alloc ?_ _)); exact BK112.out⟩, ⟨by repeat (first | (with_reducible first | exact HB.out | apply below_alloc | apply pw_below_drewN | apply below_drew1 | refine below_set ?_ GE112.out) | exact HB.out)⟩⟩
      case rest =>
       clear HC30
       try clear c1
       try clear c2
       try clear p2
       try clear c3
       try clear c4
       try clear c4b0
       try clear c5
       try clear c5b0
       try clear p6
       try clear q6
       try clear hx6
       try clear c7
       try clear c7b0
       try clear c7b1
       try clear c10
       try clear c10b0
       try clear c10b1
       try clear c11
       try clear c11b0
       try clear c11b1
       try clear c11b2
       try clear c13
       try clear c29
       try clear c29b0
       try clear c29b1
       try clear c32
       try clear hcz15_0
       try clear hcz15_1
       try clear hcz15_2
       try clear hcz15_3
       try clear hcz19_0
       try clear hcz19_1
       try clear hcz19_2
       try clear hcz19_3
       try clear hcz23_0
       try clear hcz23_1
       try clear hcz23_2
       try clear hcz23_3
       try clear hcz27_0
       try clear hcz27_1
       try clear hcz27_2
       try clear hcz27_3
       try clear hcz28_0
       try clear hcz28_1
       try clear hcz28_2
       try clear hcz28_3
       try clear hcz31_0
       try clear hcz31_1
       try clear hcz31_2
       try clear hcz31_3
       try clear hcz33_0
       try clear hcz33_1
       try clear hcz33_2
       try clear hcz33_3
       try clear hcz34_0
       try clear hcz34_1
       try clear hcz34_2
       try clear hcz34_3
       try clear hcz3_0
       try clear hcz3_1
       try clear hcz3_2
       try clear hcz3_3
       try clear hcz8_0
       try clear hcz8_1
       try clear hcz8_2
       try clear hcz8_3
       try clear hcz9_0
       try clear hcz9_1
       try clear hcz9_2
       try clear hcz9_3
       try clear hfz15_0
       try clear hfz15_1
       try clear hfz15_2
       try clear hfz15_3
       try clear hfz19_0
       try clear hfz19_1
       try clear hfz19_2
       try clear hfz19_3
       try clear hfz23_0
       try clear hfz23_1
       try clear hfz23_2
       try clear hfz23_3
       try clear hfz27_0
       try clear hfz27_1
       try clear hfz27_2
       try clear hfz27_3
       try clear hfz28_0
       try clear hfz28_1
       try clear hfz28_2
       try clear hfz28_3
       try clear hfz31_0
       try clear hfz31_1
       try clear hfz31_2
       try clear hfz31_3
       try clear hfz33_0
       try clear hfz33_1
       try clear hfz33_2
       try clear hfz33_3
       try clear hfz34_0
       try clear hfz34_1
       try clear hfz34_2
       try clear hfz34_3
       try clear hfz3_0
       try clear hfz3_1
       try clear hfz3_2
       try clear hfz3_3
       try clear hfz8_0
       try clear hfz8_1
       try clear hfz8_2
       try clear hfz8_3
       try clear hfz9_0
       try clear hfz9_1
       try clear hfz9_2
       try clear hfz9_3
       try clear p2
       try clear p6
       try clear q6
       obtain ⟨kq, x51_29, rfl, HA, HJ29, BK112, HB⟩ := hcut
       cases kq with
       | zero => exact absurd HA.out (by simp [depotref06_Own.j1])
       | succ kj29 =>
        have H := HA.out
        clear HA
        simp only [depotref06_Own.j1] at H
        by_cases c35 : x51_29 = true
        ·subst c35
         have H1 : (some (62, 0)) = some (r1, r2) := by rw [if_pos rfl] at H; exact H
         clear H
         have H := H1
         clear H1
         simp only [Option.some.injEq, Prod.mk.injEq] at H
         obtain ⟨rfl, rfl⟩ := H
         go_wp2
         go_ret2
         exact ⟨by first | rfl | (simp [errW_none, errW_some] <;> rfl) | (simp [*, errW_none, errW_some] <;> rfl), by repeat (first | (with_reducible first | exact HB.out | apply below_alloc | apply pw_below_drewN | apply below_drew1 | refine below_set ?_ GE112.out) | exact HB.out)⟩
        ·replace c35 := Bool.eq_false_iff.mpr c35
         subst c35
         have H1 : (if x4_1 = true then ((depotref06_room.f kj29 (([(⟨#[40]⟩ : ByteArray), (⟨#[116, 121, 112, 101]⟩ : ByteArray), (⟨#[115, 121, 109, 108, 105, 110, 107]⟩ : ByteArray), (⟨#[116, 97, 114, 103, 101, 116]⟩ : ByteArray), a0_2, (⟨#[41]⟩ : ByteArray)] : List ByteArray))).bind fun t124 => (some (0, t124))) else (some (63, 0))) = some (r1, r2) := by rw [if_neg (show ¬ (false = true) by decide)] at H; exact H
         clear H
         have H := H1
         clear H1
         by_cases c36 : x4_1 = true
         ·subst c36
          have H1 : ((depotref06_room.f kj29 (([(⟨#[40]⟩ : ByteArray), (⟨#[116, 121, 112, 101]⟩ : ByteArray), (⟨#[115, 121, 109, 108, 105, 110, 107]⟩ : ByteArray), (⟨#[116, 97, 114, 103, 101, 116]⟩ : ByteArray), a0_2, (⟨#[41]⟩ : ByteArray)] : List ByteArray))).bind fun t124 => (some (0, t124))) = some (r1, r2) := by rw [if_pos rfl] at H; exact H
          clear H
          have H := H1
          clear H1
          obtain ⟨y121, hy121⟩ : ∃ y_ : List ByteArray, y_ = (([(⟨#[40]⟩ : ByteArray), (⟨#[116, 121, 112, 101]⟩ : ByteArray), (⟨#[115, 121, 109, 108, 105, 110, 107]⟩ : ByteArray), (⟨#[116, 97, 114, 103, 101, 116]⟩ : ByteArray), a0_2, (⟨#[41]⟩ : ByteArray)] : List ByteArray)) := ⟨_, rfl⟩
          replace H : ((depotref06_room.f kj29 y121).bind fun t124 => (some (0, t124))) = some (r1, r2) := by first | (rw [hy121]; with_reducible exact H) | (have H2_ := (Option.bind_some _ _).symm.trans H; rw [hy121]; with_reducible exact H2_) | (have H2_ := (Option.bind_some _ _).symm.trans H; with_reducible exact H2_) | with_reducible exact H | (rw [hy121]; exact H) | exact H
          have Ny121 := Aside0.mk hy121
          clear hy121
          replace H := Option.bind_eq_some_iff.mp H
          obtain ⟨t124, A370, H⟩ := H
          replace H : (some (0, t124)) = some (r1, r2) := H
          have A37 := Aside0.mk A370
          clear A370
          simp only [Option.some.injEq, Prod.mk.injEq] at H
          obtain ⟨rfl, rfl⟩ := H
          have hcz38_0 : wc.cell? ⟨gb112, 0, none⟩ = some (.int .i64 a0_0) := (blk_cell BK112.out 0).trans rfl
          have hcz38_1 : wc.cell? ⟨gb112, 1, none⟩ = some (.bool a0_1) := (blk_cell BK112.out 1).trans rfl
          have hcz38_2 : wc.cell? ⟨gb112, 2, none⟩ = some (.string a0_2) := (blk_cell BK112.out 2).trans rfl
          have hcz38_3 : wc.cell? ⟨gb112, 3, none⟩ = some (.slice A0_3 l0_3.length c0_3) := (blk_cell BK112.out 3).trans rfl
          have hfz38_0 := blk_frozen BK112.out 0
          have hfz38_1 := blk_frozen BK112.out 1
          have hfz38_2 := blk_frozen BK112.out 2
          have hfz38_3 := blk_frozen BK112.out 3
          go_wp2_with (first | ((with_reducible refine gate_dst (N := 56) rfl ?_); (try (refine gate_guard (by rfl) ?_; dsimp only)); refine Kd.R_lit Kd.string _ 9 ?hg (N := 56) ?hd (xs := ([(⟨#[40]⟩ : ByteArray), (⟨#[116, 121, 112, 101]⟩ : ByteArray), (⟨#[115, 121, 109, 108, 105, 110, 107]⟩ : ByteArray), (⟨#[116, 97, 114, 103, 101, 116]⟩ : ByteArray), a0_2, (⟨#[41]⟩ : ByteArray)] : List ByteArray)) (inner := [.string (⟨#[40]⟩ : ByteArray), .string (⟨#[116, 121, 112, 101]⟩ : ByteArray), .string (⟨#[115, 121, 109, 108, 105, 110, 107]⟩ : ByteArray), .string (⟨#[116, 97, 114, 103, 101, 116]⟩ : ByteArray), .string a0_2, .string (⟨#[41]⟩ : ByteArray)]) (ok := fun _ => True) (okp := fun _ => True) ?hr ?hp (fun _ hk => hk) trivial (Below.refl _ _) (Nat.le_refl _) (by simp) ?_; (case hd => rfl); (case hg => rfl); (case hr => first | (go_simp; done) | (go_simp; rfl)); (case hp => exact (Reps.one (show Kd.M Kd.string _ _ _ (⟨#[40]⟩ : ByteArray) [.string (⟨#[40]⟩ : ByteArray)] from rfl) (Reps.one (show Kd.M Kd.string _ _ _ (⟨#[116, 121, 112, 101]⟩ : ByteArray) [.string (⟨#[116, 121, 112, 101]⟩ : ByteArray)] from rfl) (Reps.one (show Kd.M Kd.string _ _ _ (⟨#[115, 121, 109, 108, 105, 110, 107]⟩ : ByteArray) [.string (⟨#[115, 121, 109, 108, 105, 110, 107]⟩ : ByteArray)] from rfl) (Reps.one (show Kd.M Kd.string _ _ _ (⟨#[116, 97, 114, 103, 101, 116]⟩ : ByteArray) [.string (⟨#[116, 97, 114, 103, 101, 116]⟩ : ByteArray)] from rfl) (Reps.one (show Kd.M Kd.string _ _ _ a0_2 [.string a0_2] from rfl) (Reps.one (show Kd.M Kd.string _ _ _ (⟨#[41]⟩ : ByteArray) [.string (⟨#[41]⟩ : ByteArray)] from rfl) (Reps.none _ _)))))))); intro v122 w39 ho40 hb hg_ hnew_; clear hg_ hnew_; (first | rw [← Ny121.out] at ho40 | (simp only [Int.reduceToNat] at ho40; rw [← Ny121.out] at ho40)); have n0_ := Aside0.mk (Kd.R_lower ho40 (below_size (by repeat (first | (with_reducible first | exact HB.out | apply below_alloc | apply pw_below_drewN | apply below_drew1 | refine below_set ?_ GE112.out) | exact HB.out)))); have n1_ := Aside0.mk (blk_below (g := gb112) (o := .cells #[.int .i64 a0_0, .bool a0_1, .string a0_2, .slice A0_3 l0_3.length c0_3] 32 (0, 0)) (by (with_reducible repeat (first | refine blk_drewN ?_ _ | refine blk_drew ?_ | refine blk_alloc ?_ _)); exact BK112.out) hb); have n2_ := Aside0.mk (below_step (by repeat (first | (with_reducible first | exact HB.out | apply below_alloc | apply pw_below_drewN | apply below_drew1 | refine below_set ?_ GE112.out) | exact HB.out)) hb); clear BK112; clear HB; have HO123 := n0_; have BK112 := n1_; have HB := n2_; clear n0_ n1_ n2_; clear hb ho40; obtain ⟨Ao41, co41, eo41⟩ := Kd.R_slice HO123.out; subst eo41) | ((with_reducible refine gate_callee (f := 57) rfl ?_); refine goesL_ (some 57) rfl rfl Tryd.func57 (by kernel_rfl) rfl #[.slice Ao41 y121.length co41] rfl (by (try simp only [List.map_toArray, List.map_cons, List.map_nil]); first | done | rfl | (simp only [List.length_drop, List.length_take]; rfl)) ?_; (with_reducible refine (depotref06_room.calls kj29 _ _ y121 t124 _ ?side1 ?side2 A37.out).mono ?_); (case side1 => repeat (first | exact (Kd.R_reads' HO123.out).2.2 | (with_reducible refine Kd.C_alloc ?_ _) | (with_reducible refine Kd.C_drewN ?_ _) | (with_reducible refine Kd.C_drew ?_))); (case side2 => exact (Kd.R_reads' HO123.out).2.1); rintro e w' ⟨rfl, ⟨nd, rfl⟩⟩; refine ⟨_, rfl, ?_⟩))
          go_ret2
          exact ⟨by first | rfl | (simp [errW_none, errW_some] <;> rfl) | (simp [*, errW_none, errW_some] <;> rfl), by repeat (first | (with_reducible first | exact HB.out | apply below_alloc | apply pw_below_drewN | apply below_drew1 | refine below_set ?_ GE112.out) | exact HB.out)⟩
         ·replace c36 := Bool.eq_false_iff.mpr c36
          subst c36
          have H1 : (some (63, 0)) = some (r1, r2) := by rw [if_neg (show ¬ (false = true) by decide)] at H; exact H
          clear H
          have H := H1
          clear H1
          simp only [Option.some.injEq, Prod.mk.injEq] at H
          obtain ⟨rfl, rfl⟩ := H
          go_wp2
          go_ret2
          exact ⟨by first | rfl | (simp [errW_none, errW_some] <;> rfl) | (simp [*, errW_none, errW_some] <;> rfl), by repeat (first | (with_reducible first | exact HB.out | apply below_alloc | apply pw_below_drewN | apply below_drew1 | refine below_set ?_ GE112.out) | exact HB.out)⟩
     ·rw [if_neg c29] at H
      have c29b0 : (a0_0 == 2) = false := beq_eq_false_iff_ne.mpr c29
      have c29b1 : (a0_0 != 2) = true := bne_iff_ne.mpr c29
      by_cases c42 : a0_0 = 3
      ·rw [if_pos c42] at H
       have c42b0 : (a0_0 == 3) = true := beq_iff_eq.mpr c42
       have c42b1 : (a0_0 != 3) = false := bne_eq_false_iff_eq.mpr c42
       clear c42
       by_cases c43 : a0_1 = true
       ·subst c43
        have H1 : (some (62, 0)) = some (r1, r2) := by rw [if_pos rfl] at H; exact H
        clear H
        have H := H1
        clear H1
        simp only [Option.some.injEq, Prod.mk.injEq] at H
        obtain ⟨rfl, rfl⟩ := H
        have hcz44_0 : wr.cell? ⟨gb112, 0, none⟩ = some (.int .i64 a0_0) := (blk_cell BK112.out 0).trans rfl
        have hcz44_1 : wr.cell? ⟨gb112, 1, none⟩ = some (.bool true) := (blk_cell BK112.out 1).trans rfl
        have hcz44_2 : wr.cell? ⟨gb112, 2, none⟩ = some (.string a0_2) := (blk_cell BK112.out 2).trans rfl
        have hcz44_3 : wr.cell? ⟨gb112, 3, none⟩ = some (.slice A0_3 l0_3.length c0_3) := (blk_cell BK112.out 3).trans rfl
        have hfz44_0 := blk_frozen BK112.out 0
        have hfz44_1 := blk_frozen BK112.out 1
        have hfz44_2 := blk_frozen BK112.out 2
        have hfz44_3 := blk_frozen BK112.out 3
        go_wp2
        go_ret2
        exact ⟨by first | rfl | (simp [errW_none, errW_some] <;> rfl) | (simp [*, errW_none, errW_some] <;> rfl), by repeat (first | (with_reducible first | exact HB.out | apply below_alloc | apply pw_below_drewN | apply below_drew1 | refine below_set ?_ GE112.out) | exact HB.out)⟩
       ·replace c43 := Bool.eq_false_iff.mpr c43
        subst c43
        have H1 : (if a0_2.toList = ([] : List UInt8) then ((depotref06_room.f k1 (([(⟨#[40]⟩ : ByteArray), (⟨#[116, 121, 112, 101]⟩ : ByteArray), (⟨#[100, 105, 114, 101, 99, 116, 111, 114, 121]⟩ : ByteArray), (⟨#[41]⟩ : ByteArray)] : List ByteArray))).bind fun t128 => (some (0, t128))) else (some (62, 0))) = some (r1, r2) := by rw [if_neg (show ¬ (false = true) by decide)] at H; exact H
        clear H
        have H := H1
        clear H1
        by_cases c45 : a0_2.toList = ([] : List UInt8)
        ·rw [if_pos c45] at H
         have c45b0 : (a0_2.toList == ([] : List UInt8)) = true := beq_iff_eq.mpr c45
         have c45b1 : (a0_2.toList != ([] : List UInt8)) = false := bne_eq_false_iff_eq.mpr c45
         clear c45
         obtain ⟨y125, hy125⟩ : ∃ y_ : List ByteArray, y_ = (([(⟨#[40]⟩ : ByteArray), (⟨#[116, 121, 112, 101]⟩ : ByteArray), (⟨#[100, 105, 114, 101, 99, 116, 111, 114, 121]⟩ : ByteArray), (⟨#[41]⟩ : ByteArray)] : List ByteArray)) := ⟨_, rfl⟩
         replace H : ((depotref06_room.f k1 y125).bind fun t128 => (some (0, t128))) = some (r1, r2) := by first | (rw [hy125]; with_reducible exact H) | (have H2_ := (Option.bind_some _ _).symm.trans H; rw [hy125]; with_reducible exact H2_) | (have H2_ := (Option.bind_some _ _).symm.trans H; with_reducible exact H2_) | with_reducible exact H | (rw [hy125]; exact H) | exact H
         have Ny125 := Aside0.mk hy125
         clear hy125
         replace H := Option.bind_eq_some_iff.mp H
         obtain ⟨t128, A460, H⟩ := H
         replace H : (some (0, t128)) = some (r1, r2) := H
         have A46 := Aside0.mk A460
         clear A460
         simp only [Option.some.injEq, Prod.mk.injEq] at H
         obtain ⟨rfl, rfl⟩ := H
         have hcz47_0 : wr.cell? ⟨gb112, 0, none⟩ = some (.int .i64 a0_0) := (blk_cell BK112.out 0).trans rfl
         have hcz47_1 : wr.cell? ⟨gb112, 1, none⟩ = some (.bool false) := (blk_cell BK112.out 1).trans rfl
         have hcz47_2 : wr.cell? ⟨gb112, 2, none⟩ = some (.string a0_2) := (blk_cell BK112.out 2).trans rfl
         have hcz47_3 : wr.cell? ⟨gb112, 3, none⟩ = some (.slice A0_3 l0_3.length c0_3) := (blk_cell BK112.out 3).trans rfl
         have hfz47_0 := blk_frozen BK112.out 0
         have hfz47_1 := blk_frozen BK112.out 1
         have hfz47_2 := blk_frozen BK112.out 2
         have hfz47_3 := blk_frozen BK112.out 3
         go_wp2_with (first | ((with_reducible refine gate_dst (N := 68) rfl ?_); (try (refine gate_guard (by rfl) ?_; dsimp only)); refine Kd.R_lit Kd.string _ 9 ?hg (N := 68) ?hd (xs := ([(⟨#[40]⟩ : ByteArray), (⟨#[116, 121, 112, 101]⟩ : ByteArray), (⟨#[100, 105, 114, 101, 99, 116, 111, 114, 121]⟩ : ByteArray), (⟨#[41]⟩ : ByteArray)] : List ByteArray)) (inner := [.string (⟨#[40]⟩ : ByteArray), .string (⟨#[116, 121, 112, 101]⟩ : ByteArray), .string (⟨#[100, 105, 114, 101, 99, 116, 111, 114, 121]⟩ : ByteArray), .string (⟨#[41]⟩ : ByteArray)]) (ok := fun _ => True) (okp := fun _ => True) ?hr ?hp (fun _ hk => hk) trivial (Below.refl _ _) (Nat.le_refl _) (by simp) ?_; (case hd => rfl); (case hg => rfl); (case hr => first | (go_simp; done) | (go_simp; rfl)); (case hp => exact (Reps.one (show Kd.M Kd.string _ _ _ (⟨#[40]⟩ : ByteArray) [.string (⟨#[40]⟩ : ByteArray)] from rfl) (Reps.one (show Kd.M Kd.string _ _ _ (⟨#[116, 121, 112, 101]⟩ : ByteArray) [.string (⟨#[116, 121, 112, 101]⟩ : ByteArray)] from rfl) (Reps.one (show Kd.M Kd.string _ _ _ (⟨#[100, 105, 114, 101, 99, 116, 111, 114, 121]⟩ : ByteArray) [.string (⟨#[100, 105, 114, 101, 99, 116, 111, 114, 121]⟩ : ByteArray)] from rfl) (Reps.one (show Kd.M Kd.string _ _ _ (⟨#[41]⟩ : ByteArray) [.string (⟨#[41]⟩ : ByteArray)] from rfl) (Reps.none _ _)))))); intro v126 w48 ho49 hb hg_ hnew_; clear hg_ hnew_; (first | rw [← Ny125.out] at ho49 | (simp only [Int.reduceToNat] at ho49; rw [← Ny125.out] at ho49)); have n0_ := Aside0.mk (Kd.R_lower ho49 (below_size (by repeat (first | (with_reducible first | exact HB.out | apply below_alloc | apply pw_below_drewN | apply below_drew1 | refine below_set ?_ GE112.out) | exact HB.out)))); have n1_ := Aside0.mk (blk_below (g := gb112) (o := .cells #[.int .i64 a0_0, .bool false, .string a0_2, .slice A0_3 l0_3.length c0_3] 32 (0, 0)) (by (with_reducible repeat (first | refine blk_drewN ?_ _ | refine blk_drew ?_ | refine blk_alloc ?_ _)); exact BK112.out) hb); have n2_ := Aside0.mk (below_step (by repeat (first | (with_reducible first | exact HB.out | apply below_alloc | apply pw_below_drewN | apply below_drew1 | refine below_set ?_ GE112.out) | exact HB.out)) hb); clear BK112; clear HB; have HO127 := n0_; have BK112 := n1_; have HB := n2_; clear n0_ n1_ n2_; clear hb ho49; obtain ⟨Ao50, co50, eo50⟩ := Kd.R_slice HO127.out; subst eo50) | ((with_reducible refine gate_callee (f := 57) rfl ?_); refine goesL_ (some 69) rfl rfl Tryd.func57 (by kernel_rfl) rfl #[.slice Ao50 y125.length co50] rfl (by (try simp only [List.map_toArray, List.map_cons, List.map_nil]); first | done | rfl | (simp only [List.length_drop, List.length_take]; rfl)) ?_; (with_reducible refine (depotref06_room.calls k1 _ _ y125 t128 _ ?side1 ?side2 A46.out).mono ?_); (case side1 => repeat (first | exact (Kd.R_reads' HO127.out).2.2 | (with_reducible refine Kd.C_alloc ?_ _) | (with_reducible refine Kd.C_drewN ?_ _) | (with_reducible refine Kd.C_drew ?_))); (case side2 => exact (Kd.R_reads' HO127.out).2.1); rintro e w' ⟨rfl, ⟨nd, rfl⟩⟩; refine ⟨_, rfl, ?_⟩))
         go_ret2
         exact ⟨by first | rfl | (simp [errW_none, errW_some] <;> rfl) | (simp [*, errW_none, errW_some] <;> rfl), by repeat (first | (with_reducible first | exact HB.out | apply below_alloc | apply pw_below_drewN | apply below_drew1 | refine below_set ?_ GE112.out) | exact HB.out)⟩
        ·rw [if_neg c45] at H
         have c45b0 : (a0_2.toList == ([] : List UInt8)) = false := beq_eq_false_iff_ne.mpr c45
         have c45b1 : (a0_2.toList != ([] : List UInt8)) = true := bne_iff_ne.mpr c45
         simp only [Option.some.injEq, Prod.mk.injEq] at H
         obtain ⟨rfl, rfl⟩ := H
         have hcz51_0 : wr.cell? ⟨gb112, 0, none⟩ = some (.int .i64 a0_0) := (blk_cell BK112.out 0).trans rfl
         have hcz51_1 : wr.cell? ⟨gb112, 1, none⟩ = some (.bool false) := (blk_cell BK112.out 1).trans rfl
         have hcz51_2 : wr.cell? ⟨gb112, 2, none⟩ = some (.string a0_2) := (blk_cell BK112.out 2).trans rfl
         have hcz51_3 : wr.cell? ⟨gb112, 3, none⟩ = some (.slice A0_3 l0_3.length c0_3) := (blk_cell BK112.out 3).trans rfl
         have hfz51_0 := blk_frozen BK112.out 0
         have hfz51_1 := blk_frozen BK112.out 1
         have hfz51_2 := blk_frozen BK112.out 2
         have hfz51_3 := blk_frozen BK112.out 3
         go_wp2
         go_ret2
         exact ⟨by first | rfl | (simp [errW_none, errW_some] <;> rfl) | (simp [*, errW_none, errW_some] <;> rfl), by repeat (first | (with_reducible first | exact HB.out | apply below_alloc | apply pw_below_drewN | apply below_drew1 | refine below_set ?_ GE112.out) | exact HB.out)⟩
      ·rw [if_neg c42] at H
       have c42b0 : (a0_0 == 3) = false := beq_eq_false_iff_ne.mpr c42
       have c42b1 : (a0_0 != 3) = true := bne_iff_ne.mpr c42
       simp only [Option.some.injEq, Prod.mk.injEq] at H
       obtain ⟨rfl, rfl⟩ := H
       have hcz52_0 : wr.cell? ⟨gb112, 0, none⟩ = some (.int .i64 a0_0) := (blk_cell BK112.out 0).trans rfl
       have hcz52_1 : wr.cell? ⟨gb112, 1, none⟩ = some (.bool a0_1) := (blk_cell BK112.out 1).trans rfl
       have hcz52_2 : wr.cell? ⟨gb112, 2, none⟩ = some (.string a0_2) := (blk_cell BK112.out 2).trans rfl
       have hcz52_3 : wr.cell? ⟨gb112, 3, none⟩ = some (.slice A0_3 l0_3.length c0_3) := (blk_cell BK112.out 3).trans rfl
       have hfz52_0 := blk_frozen BK112.out 0
       have hfz52_1 := blk_frozen BK112.out 1
       have hfz52_2 := blk_frozen BK112.out 2
       have hfz52_3 := blk_frozen BK112.out 3
       go_wp2
       go_ret2
       exact ⟨by first | rfl | (simp [errW_none, errW_some] <;> rfl) | (simp [*, errW_none, errW_some] <;> rfl), by repeat (first | (with_reducible first | exact HB.out | apply below_alloc | apply pw_below_drewN | apply below_drew1 | refine below_set ?_ GE112.out) | exact HB.out)⟩
mutual
def depotref05_Check.l0 : Nat → ByteArray → Int → Int → Option (Int)
 | 0, _, _, _ => none
 | k + 1, x0, x3, x4 => if x4 < (x0.size : Int) then (if 0 ≤ x4 then (if (bt x0 x4) = 47 then (depotref05_Check.j1 k x0 x3 x4 true) else (depotref05_Check.j1 k x0 x3 x4 ((bt x0 x4) == 0))) else (none)) else (if x3 = (x0.size : Int) then (if x3 ≤ 2 then (some 52) else (some 0)) else (some 0))
def depotref05_Check.j1 : Nat → ByteArray → Int → Int → Bool → Option (Int)
 | 0, _, _, _, _ => none
 | k + 1, x0, x3, x4, x26 => if x26 = true then (some 51) else (if 0 ≤ x4 then (if x4 < (x0.size : Int) then (if (bt x0 x4) = 46 then (depotref05_Check.l0 k x0 (wrap64 (x3 + 1)) (wrap64 (x4 + 1))) else (depotref05_Check.l0 k x0 x3 (wrap64 (x4 + 1)))) else (none)) else (none))
end
def depotref05_Check.f (k : Nat) (a0 : ByteArray) : Option (Int) := if (a0.size : Int) = 0 then (some 50) else (if (a0.size : Int) > 255 then (some 6) else (depotref05_Check.l0 k a0 0 0))
theorem depotref05_Check.mono_l : ∀ k, (∀ y0 y1 y2, LeO (depotref05_Check.l0 k y0 y1 y2) (depotref05_Check.l0 (k + 1) y0 y1 y2)) ∧ (∀ y0 y1 y2 y3, LeO (depotref05_Check.j1 k y0 y1 y2 y3) (depotref05_Check.j1 (k + 1) y0 y1 y2 y3))
 | 0 => ⟨fun _ _ _ r h => by simp [depotref05_Check.l0] at h, fun _ _ _ _ r h => by simp [depotref05_Check.j1] at h⟩
 | k + 1 => by
  obtain ⟨ih0, ih1⟩ := depotref05_Check.mono_l k
  refine ⟨?_, ?_⟩
  ·intro y0 y1 y2
   unfold depotref05_Check.l0
   repeat' first
   | (with_reducible exact ih0 _ _ _)
   | (with_reducible exact ih1 _ _ _ _)
   | (with_reducible exact LeO.refl _)
   | (with_reducible exact LeO.none _)
   | (with_reducible refine LeO.ite ?_ ?_)
   | (with_reducible refine LeO.bind ?_ (fun _ => ?_))
   | exact ih0 _ _ _
   | exact ih1 _ _ _ _
   | exact LeO.none _
   | refine LeO.ite ?_ ?_
   | refine LeO.bind ?_ (fun _ => ?_)
  ·intro y0 y1 y2 y3
   unfold depotref05_Check.j1
   repeat' first
   | (with_reducible exact ih0 _ _ _)
   | (with_reducible exact ih1 _ _ _ _)
   | (with_reducible exact LeO.refl _)
   | (with_reducible exact LeO.none _)
   | (with_reducible refine LeO.ite ?_ ?_)
   | (with_reducible refine LeO.bind ?_ (fun _ => ?_))
   | exact ih0 _ _ _
   | exact ih1 _ _ _ _
   | exact LeO.none _
   | refine LeO.ite ?_ ?_
   | refine LeO.bind ?_ (fun _ => ?_)
theorem depotref05_Check.mono : ∀ a0 k, LeO (depotref05_Check.f k a0) (depotref05_Check.f (k + 1) a0) := by
 intro a0 k
 obtain ⟨ih0, ih1⟩ := depotref05_Check.mono_l k
 unfold depotref05_Check.f
 repeat' first
   | (with_reducible exact ih0 _ _ _)
   | (with_reducible exact ih1 _ _ _ _)
   | (with_reducible exact LeO.refl _)
   | (with_reducible exact LeO.none _)
   | (with_reducible refine LeO.ite ?_ ?_)
   | (with_reducible refine LeO.bind ?_ (fun _ => ?_))
   | exact ih0 _ _ _
   | exact ih1 _ _ _ _
   | exact LeO.none _
   | refine LeO.ite ?_ ?_
   | refine LeO.bind ?_ (fun _ => ?_)
set_option maxHeartbeats 8000000 in
set_option maxRecDepth 100000 in
theorem depotref05_Check.calls (k : Nat) (a0 : ByteArray) (r : Int) (w : World) (h : depotref05_Check.f k a0 = some r) :
  Calls Tryd.prog 66 #[.string a0] w fun e w' => e = .returned (.int .i64 r) ∧ Drawn0 w w' := by
 have H : (if (a0.size : Int) = 0 then (some 50) else (if (a0.size : Int) > 255 then (some 6) else (depotref05_Check.l0 k a0 0 0))) = some r := h
 clear h
 by_cases c2 : (a0.size : Int) = 0
 ·rw [if_pos c2] at H
  have c2b0 : ((a0.size : Int) == 0) = true := beq_iff_eq.mpr c2
  have c2b1 : ((a0.size : Int) != 0) = false := bne_eq_false_iff_eq.mpr c2
  clear c2
  obtain rfl := Option.some.inj H
  go_enter Tryd.func66, Tryd.ntmps66
  go_wp2
  go_ret
  exact ⟨by first | rfl | (simp; done) | (simp [*]; done), by repeat (first | exact Drawn0.refl _ | apply Drawn0.step)⟩
 ·rw [if_neg c2] at H
  have c2b0 : ((a0.size : Int) == 0) = false := beq_eq_false_iff_ne.mpr c2
  have c2b1 : ((a0.size : Int) != 0) = true := bne_iff_ne.mpr c2
  by_cases c3 : (a0.size : Int) > 255
  ·rw [if_pos c3] at H
   have c3b0 : decide (255 < (a0.size : Int)) = true := decide_eq_true c3
   have c3b1 : decide (255 < a0.size) = true := decide_eq_true (by omega)
   clear c3
   obtain rfl := Option.some.inj H
   go_enter Tryd.func66, Tryd.ntmps66
   go_wp2
   go_ret
   exact ⟨by first | rfl | (simp; done) | (simp [*]; done), by repeat (first | exact Drawn0.refl _ | apply Drawn0.step)⟩
  ·rw [if_neg c3] at H
   have c3b0 : decide (255 < (a0.size : Int)) = false := decide_eq_false c3
   have c3b1 : decide (255 < a0.size) = false := decide_eq_false (by omega)
   clear c3
   have H' := Aside0.mk H
   clear H
   go_enter Tryd.func66, Tryd.ntmps66
   go_wp2
   go_loopg [3, 4] k (fun kq v3 v4 w' => ∃ (x3_1 : Int) (x4_1 : Int), v3 = .int .i64 x3_1 ∧ v4 = .int .i64 x4_1 ∧ Aside0 (depotref05_Check.l0 kq a0 x3_1 x4_1 = some r) ∧ Aside0 (kq ≤ k) ∧ Drawn0 w w')
   case atStart => exact ⟨(0), (0), (by first | rfl | (simp; done) | (simp [*]; done)), (by first | rfl | (simp; done) | (simp [*]; done)), H', ⟨Nat.le_refl _⟩, by repeat (first | exact Drawn0.refl _ | apply Drawn0.step)⟩
   case round =>
    clear H'
    try clear c2
    try clear c2b0
    try clear c2b1
    try clear p2
    try clear c3
    try clear c3b0
    try clear c3b1
    obtain ⟨x3_1, x4_1, rfl, rfl, HA, HK1, ⟨m1, rfl⟩⟩ := hrel
    cases gk with
    | zero => exact absurd HA.out (by simp [depotref05_Check.l0])
    | succ k1 =>
     have H := HA.out
     clear HA
     simp only [depotref05_Check.l0] at H
     by_cases c4 : x4_1 < (a0.size : Int)
     ·rw [if_pos c4] at H
      have c4b0 : decide (x4_1 < (a0.size : Int)) = true := decide_eq_true c4
      clear c4
      have HC5 := Aside0.mk H
      clear H
      go_upto_region 9 with (fail)
      go_cut [26] (fun v26 wc => ∃ (kq : Nat) (x26_4 : Bool), v26 = .bool x26_4 ∧ Aside0 (depotref05_Check.j1 kq a0 x3_1 x4_1 x26_4 = some r) ∧ Aside0 (kq ≤ k1) ∧ Drawn0 w wc)
      case first =>
       have H := HC5.out
       clear HC5
       by_cases c6 : 0 ≤ x4_1
       ·rw [if_pos c6] at H
        have c6b0 : decide (0 ≤ x4_1) = true := decide_eq_true c6
        clear c6
        (first | rw [c6b0] | (simp only [i64_w, i32_w]; rw [c6b0]) | skip)
        by_cases c8 : (bt a0 x4_1) = 47
        ·rw [if_pos c8] at H
         have c8b0 : ((bt a0 x4_1) == 47) = true := beq_iff_eq.mpr c8
         have c8b1 : ((bt a0 x4_1) != 47) = false := bne_eq_false_iff_eq.mpr c8
         clear c8
         have H' := Aside0.mk H
         clear H
         have p7 : 0 ≤ (x4_1 : Int) := of_decide_eq_true (by first | (with_reducible assumption) | assumption)
         have q7 : x4_1 < (a0.size : Int) := of_decide_eq_true (by first | (with_reducible assumption) | assumption)
         have hx7 := bt_at a0 x4_1
         replace p7 := eq_true p7
         replace q7 := eq_true q7
         go_wp2
         go_meet
         case rel => exact ⟨_, (true), (by first | rfl | (simp; done) | (simp [*]; done)), H', ⟨by have := HK1.out; first | omega | exact Nat.le_refl _⟩, by repeat (first | exact Drawn0.refl _ | apply Drawn0.step)⟩
        ·rw [if_neg c8] at H
         have c8b0 : ((bt a0 x4_1) == 47) = false := beq_eq_false_iff_ne.mpr c8
         have c8b1 : ((bt a0 x4_1) != 47) = true := bne_iff_ne.mpr c8
         have H' := Aside0.mk H
         clear H
         have p7 : 0 ≤ (x4_1 : Int) := of_decide_eq_true (by first | (with_reducible assumption) | assumption)
         have q7 : x4_1 < (a0.size : Int) := of_decide_eq_true (by first | (with_reducible assumption) | assumption)
         have hx7 := bt_at a0 x4_1
         replace p7 := eq_true p7
         replace q7 := eq_true q7
         have p9 : 0 ≤ (x4_1 : Int) := of_decide_eq_true (by first | (with_reducible assumption) | assumption)
         have q9 : x4_1 < (a0.size : Int) := of_decide_eq_true (by first | (with_reducible assumption) | assumption)
         have hx9 := bt_at a0 x4_1
         replace p9 := eq_true p9
         replace q9 := eq_true q9
         go_wp2
         go_meet
         case rel => exact ⟨_, (((bt a0 x4_1) == 0)), (by first | rfl | (simp; done) | (simp [*]; done)), H', ⟨by have := HK1.out; first | omega | exact Nat.le_refl _⟩, by repeat (first | exact Drawn0.refl _ | apply Drawn0.step)⟩
       ·rw [if_neg c6] at H
        exact absurd H (by simp)
      case rest =>
       clear HC5
       try clear c2
       try clear c2b0
       try clear c2b1
       try clear p2
       try clear c3
       try clear c3b0
       try clear c3b1
       try clear c4
       try clear c4b0
       try clear c6
       try clear c6b0
       try clear p7
       try clear q7
       try clear hx7
       try clear c8
       try clear c8b0
       try clear c8b1
       try clear p9
       try clear q9
       try clear hx9
       try clear p2
       try clear p7
       try clear p9
       try clear q7
       try clear q9
       obtain ⟨kq, x26_4, rfl, HA, HJ4, ⟨mc4, rfl⟩⟩ := hcut
       cases kq with
       | zero => exact absurd HA.out (by simp [depotref05_Check.j1])
       | succ kj4 =>
        have H := HA.out
        clear HA
        simp only [depotref05_Check.j1] at H
        by_cases c10 : x26_4 = true
        ·subst c10
         have H1 : (some 51) = some r := by rw [if_pos rfl] at H; exact H
         clear H
         have H := H1
         clear H1
         obtain rfl := Option.some.inj H
         go_wp2
         go_ret
         exact ⟨by first | rfl | (simp; done) | (simp [*]; done), by repeat (first | exact Drawn0.refl _ | apply Drawn0.step)⟩
        ·replace c10 := Bool.eq_false_iff.mpr c10
         subst c10
         have H1 : (if 0 ≤ x4_1 then (if x4_1 < (a0.size : Int) then (if (bt a0 x4_1) = 46 then (depotref05_Check.l0 kj4 a0 (wrap64 (x3_1 + 1)) (wrap64 (x4_1 + 1))) else (depotref05_Check.l0 kj4 a0 x3_1 (wrap64 (x4_1 + 1)))) else (none)) else (none)) = some r := by rw [if_neg (show ¬ (false = true) by decide)] at H; exact H
         clear H
         have H := H1
         clear H1
         by_cases c11 : 0 ≤ x4_1
         ·rw [if_pos c11] at H
          have c11b0 : decide (0 ≤ x4_1) = true := decide_eq_true c11
          clear c11
          by_cases c12 : x4_1 < (a0.size : Int)
          ·rw [if_pos c12] at H
           have c12b0 : decide (x4_1 < (a0.size : Int)) = true := decide_eq_true c12
           clear c12
           by_cases c14 : (bt a0 x4_1) = 46
           ·rw [if_pos c14] at H
            have c14b0 : ((bt a0 x4_1) == 46) = true := beq_iff_eq.mpr c14
            have c14b1 : ((bt a0 x4_1) != 46) = false := bne_eq_false_iff_eq.mpr c14
            clear c14
            have H' := Aside0.mk H
            clear H
            have p13 : 0 ≤ (x4_1 : Int) := of_decide_eq_true (by first | (with_reducible assumption) | assumption)
            have q13 : x4_1 < (a0.size : Int) := of_decide_eq_true (by first | (with_reducible assumption) | assumption)
            have hx13 := bt_at a0 x4_1
            replace p13 := eq_true p13
            replace q13 := eq_true q13
            go_wp2
            go_roundg kj4
            case measure => have := HK1.out; have := HJ4.out; omega
            case rel => exact ⟨(wrap64 (x3_1 + 1)), (wrap64 (x4_1 + 1)), (by first | rfl | (simp; done) | (simp [*]; done)), (by first | rfl | (simp; done) | (simp [*]; done)), H', ⟨by have := HK1.out; have := HJ4.out; omega⟩, by repeat (first | exact Drawn0.refl _ | apply Drawn0.step)⟩
           ·rw [if_neg c14] at H
            have c14b0 : ((bt a0 x4_1) == 46) = false := beq_eq_false_iff_ne.mpr c14
            have c14b1 : ((bt a0 x4_1) != 46) = true := bne_iff_ne.mpr c14
            have H' := Aside0.mk H
            clear H
            have p13 : 0 ≤ (x4_1 : Int) := of_decide_eq_true (by first | (with_reducible assumption) | assumption)
            have q13 : x4_1 < (a0.size : Int) := of_decide_eq_true (by first | (with_reducible assumption) | assumption)
            have hx13 := bt_at a0 x4_1
            replace p13 := eq_true p13
            replace q13 := eq_true q13
            go_wp2
            go_roundg kj4
            case measure => have := HK1.out; have := HJ4.out; omega
            case rel => exact ⟨(x3_1), (wrap64 (x4_1 + 1)), (by first | rfl | (simp; done) | (simp [*]; done)), (by first | rfl | (simp; done) | (simp [*]; done)), H', ⟨by have := HK1.out; have := HJ4.out; omega⟩, by repeat (first | exact Drawn0.refl _ | apply Drawn0.step)⟩
          ·rw [if_neg c12] at H
           exact absurd H (by simp)
         ·rw [if_neg c11] at H
          exact absurd H (by simp)
     ·rw [if_neg c4] at H
      have c4b0 : decide (x4_1 < (a0.size : Int)) = false := decide_eq_false c4
      clear c4
      by_cases c15 : x3_1 = (a0.size : Int)
      ·rw [if_pos c15] at H
       have c15b0 : (x3_1 == (a0.size : Int)) = true := beq_iff_eq.mpr c15
       have c15b1 : (x3_1 != (a0.size : Int)) = false := bne_eq_false_iff_eq.mpr c15
       clear c15
       by_cases c16 : x3_1 ≤ 2
       ·rw [if_pos c16] at H
        have c16b0 : decide (x3_1 ≤ 2) = true := decide_eq_true c16
        clear c16
        obtain rfl := Option.some.inj H
        go_wp2
        go_ret
        exact ⟨by first | rfl | (simp; done) | (simp [*]; done), by repeat (first | exact Drawn0.refl _ | apply Drawn0.step)⟩
       ·rw [if_neg c16] at H
        have c16b0 : decide (x3_1 ≤ 2) = false := decide_eq_false c16
        clear c16
        obtain rfl := Option.some.inj H
        go_wp2
        go_ret
        exact ⟨by first | rfl | (simp; done) | (simp [*]; done), by repeat (first | exact Drawn0.refl _ | apply Drawn0.step)⟩
      ·rw [if_neg c15] at H
       have c15b0 : (x3_1 == (a0.size : Int)) = false := beq_eq_false_iff_ne.mpr c15
       have c15b1 : (x3_1 != (a0.size : Int)) = true := bne_iff_ne.mpr c15
       obtain rfl := Option.some.inj H
       go_wp2
       go_ret
       exact ⟨by first | rfl | (simp; done) | (simp [*]; done), by repeat (first | exact Drawn0.refl _ | apply Drawn0.step)⟩
end
end Go.Proofs.YtnemeeidomceiaaDoor.PTreeChecks
end
section
namespace Go.Proofs.YtnemeeidomceiaaDoor
open Go.RowKit Go.Proofs.YtnemeeidomceiaaDoorW.PrintWords
/-- What the last piece gives, or a piece ahead of a slash: none where the names go on. -/
def pieceE (s : ByteArray) (names : List ByteArray) (frm i : Nat) : Option (List ByteArray × Int × Int) :=
 if names.length = 31 then some ([], 61, (frm : Int)) else if nameE (s.extract frm i) ≠ 0 then some ([], nameE (s.extract frm i), (frm : Int)) else none
/-- The names from place i on, m bytes ahead of the end, the piece begun at frm. -/
def splitG (s : ByteArray) : Nat → List ByteArray → Nat → Nat → List ByteArray × Int × Int
 | 0, names, frm, i => (pieceE s names frm i).getD (names ++ [s.extract frm i], 0, 0)
 | m + 1, names, frm, i => if bt s (i : Int) ≠ 47 then splitG s m names frm (i + 1) else (pieceE s names frm i).getD (splitG s m (names ++ [s.extract frm i]) (i + 1) (i + 1))
def splitP (s : ByteArray) : List ByteArray × Int × Int := if s.toList = [] then ([], 0, 0) else splitG s s.size [] 0 0
theorem splitG_skip (s : ByteArray) (names : List ByteArray) (frm : Nat) : ∀ (d m i : Nat), (∀ t : Nat, i ≤ t → t < i + d → bt s (t : Int) ≠ 47) → splitG s (m + d) names frm i = splitG s m names frm (i + d)
 | 0, m, i, _ => rfl
 | d + 1, m, i, h => by
  rw [show m + (d + 1) = (m + d) + 1 from rfl, splitG, if_pos (h i (Nat.le_refl _) (by omega)), splitG_skip s names frm d m (i + 1) (fun t h1 h2 => h t (by omega) (by omega)), show i + 1 + d = i + (d + 1) from by omega]
/-- A piece that ends at a slash. -/
theorem splitG_cut (s : ByteArray) (names : List ByteArray) (frm j m : Nat) (hf : frm ≤ j) (hno : ∀ t : Nat, frm ≤ t → t < j → bt s (t : Int) ≠ 47) (hb : bt s (j : Int) = 47) :
  splitG s (m + 1 + (j - frm)) names frm frm = (pieceE s names frm j).getD (splitG s m (names ++ [s.extract frm j]) (j + 1) (j + 1)) := by
 rw [splitG_skip s names frm (j - frm) (m + 1) frm (fun t h1 h2 => hno t h1 (by omega)), show frm + (j - frm) = j from by omega, splitG, if_neg (fun e => e hb)]
/-- The last piece. -/
theorem splitG_last (s : ByteArray) (names : List ByteArray) (frm : Nat) (hf : frm ≤ s.size) (hno : ∀ t : Nat, frm ≤ t → t < s.size → bt s (t : Int) ≠ 47) :
  splitG s (s.size - frm) names frm frm = (pieceE s names frm s.size).getD (names ++ [s.extract frm s.size], 0, 0) := by
 have h := splitG_skip s names frm (s.size - frm) 0 frm (fun t h1 h2 => hno t h1 (by omega))
 rw [Nat.zero_add] at h
 rw [h, show frm + (s.size - frm) = s.size from by omega]
 rfl
/-- The pieces of a path between the slashes, from place i on, the piece begun at frm. -/
def pieces (s : ByteArray) : Nat → Nat → Nat → List ByteArray
 | 0, frm, i => [s.extract frm i]
 | m + 1, frm, i => if bt s (i : Int) ≠ 47 then pieces s m frm (i + 1) else s.extract frm i :: pieces s m (i + 1) (i + 1)
def pcs (s : ByteArray) : List ByteArray := pieces s s.size 0 0
/-- What is told of the pieces one by one. -/
def goP : List ByteArray → List ByteArray → Nat → List ByteArray × Int × Int
 | [], names, _ => (names, 0, 0)
 | x :: l, names, frm => if names.length = 31 then ([], 61, (frm : Int)) else if nameE x ≠ 0 then ([], nameE x, (frm : Int)) else goP l (names ++ [x]) (frm + x.size + 1)
theorem pieces_skip (s : ByteArray) (frm : Nat) : ∀ (d m i : Nat), (∀ t : Nat, i ≤ t → t < i + d → bt s (t : Int) ≠ 47) → pieces s (m + d) frm i = pieces s m frm (i + d)
 | 0, m, i, _ => rfl
 | d + 1, m, i, h => by
  rw [show m + (d + 1) = (m + d) + 1 from rfl, pieces, if_pos (h i (Nat.le_refl _) (by omega)), pieces_skip s frm d m (i + 1) (fun t h1 h2 => h t (by omega) (by omega)), show i + 1 + d = i + (d + 1) from by omega]
theorem pieces_cut (s : ByteArray) (frm j m : Nat) (hf : frm ≤ j) (hno : ∀ t : Nat, frm ≤ t → t < j → bt s (t : Int) ≠ 47) (hb : bt s (j : Int) = 47) :
  pieces s (m + 1 + (j - frm)) frm frm = s.extract frm j :: pieces s m (j + 1) (j + 1) := by
 rw [pieces_skip s frm (j - frm) (m + 1) frm (fun t h1 h2 => hno t h1 (by omega)), show frm + (j - frm) = j from by omega, pieces, if_neg (fun e => e hb)]
theorem pieces_last (s : ByteArray) (frm : Nat) (hf : frm ≤ s.size) (hno : ∀ t : Nat, frm ≤ t → t < s.size → bt s (t : Int) ≠ 47) :
  pieces s (s.size - frm) frm frm = [s.extract frm s.size] := by
 have h := pieces_skip s frm (s.size - frm) 0 frm (fun t h1 h2 => hno t h1 (by omega))
 rw [Nat.zero_add] at h
 rw [h, show frm + (s.size - frm) = s.size from by omega]
 rfl
theorem extract_len (s : ByteArray) (a b : Nat) (hb : b ≤ s.size) : (s.extract a b).size = b - a := by
 rw [ByteArray.size_extract]; omega
theorem splitG_pieces (s : ByteArray) : ∀ (m : Nat) (names : List ByteArray) (frm i : Nat), i + m = s.size → frm ≤ i → splitG s m names frm i = goP (pieces s m frm i) names frm
 | 0, names, frm, i, h, hf => by
  show (pieceE s names frm i).getD _ = goP [s.extract frm i] names frm
  unfold pieceE goP
  split
  ·rfl
  ·split
   ·rfl
   ·rfl
 | m + 1, names, frm, i, h, hf => by
  rw [splitG, pieces]
  by_cases hb : bt s (i : Int) = 47
  ·rw [if_neg (fun e => e hb), if_neg (fun e => e hb), splitG_pieces s m _ (i + 1) (i + 1) (by omega) (Nat.le_refl _)]
   unfold pieceE
   rw [goP]
   split
   ·rfl
   ·split
    ·rfl
    ·rw [extract_len s frm i (by omega), show frm + (i - frm) + 1 = i + 1 from by omega]; rfl
  ·rw [if_pos hb, if_pos hb, splitG_pieces s m _ frm (i + 1) (by omega) (by omega)]
theorem splitP_pieces (s : ByteArray) (h : s.toList ≠ []) : splitP s = goP (pcs s) [] 0 := by
 unfold splitP pcs
 rw [if_neg h, splitG_pieces s s.size [] 0 0 (by omega) (Nat.le_refl _)]
end Go.Proofs.YtnemeeidomceiaaDoor
end
