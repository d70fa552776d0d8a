import Derived.Test.YtjbjdccnbjddjaaProg
import Derived.Below
import Derived.Deep.Draws
import Derived.Deep.AppendLies
import Derived.Maps.AppendAt
import Derived.OwnWalk
import Derived.Laws.BytesArg
import Derived.Laws.MakeOwn
import Derived.Laws.OwnMore
import Derived.Deep.OwnRows
import Derived.Tactics
import Derived.Lib.ConvBytes
import Derived.Laws.Slices
import Derived.WalkKit
import Derived.KernelRfl
import Derived.RowKit3
import Derived.Deep.LoopGhost
import Derived.Deep.QuietTactic
import Derived.BigQuiet
import Derived.WideLaws
import Derived.Deep.DeepCutAuto
import Derived.Deep.CutBlock
import Derived.Deep.RegionHeld3
import Derived.Laws.Rows
import Derived.Lib.AppendStr
import Derived.ArgAppend
import Derived.Laws.IdiomCopy
import Derived.OrdersHeld
import Derived.Laws.BitsLemmas
import Derived.RowKit
import Derived.Test.YtjbjdccnbjddjaaWWords
import Derived.Test.YtjbjdccnbjddjaaWLast
import Derived.Test.YtjbjdccnbjddjaaWTab
import Derived.Test.YtjbjdccnbjddjaaWFour
import Derived.Test.YtjbjdccnbjddjaaWQPut
import Derived.Test.YtjbjdccnbjddjaaWApart
import Derived.Test.YtjbjdccnbjddjaaWArr
import Derived.Test.YtjbjdccnbjddjaaWZeros
import Derived.Test.YtjbjdccnbjddjaaWFoot
import Derived.Test.YtjbjdccnbjddjaaWKept
import Derived.Test.YtjbjdccnbjddjaaWShare
import Derived.Test.YtjbjdccnbjddjaaWN
import Derived.Test.YtjbjdccnbjddjaaWFootNe
import Derived.Test.YtjbjdccnbjddjaaWAt
import Derived.Test.YtjbjdccnbjddjaaWEqStruct
import Derived.Test.YtjbjdccnbjddjaaWRepsOne
import Derived.Test.YtjbjdccnbjddjaaWInv
import Derived.Test.YtjbjdccnbjddjaaWInvWords
import Derived.Test.YtjbjdccnbjddjaaWGuard
import Derived.Test.YtjbjdccnbjddjaaWNEv
import Derived.Test.YtjbjdccnbjddjaaWMore
import Derived.StillTailTactics
import Derived.Test.YtjbjdccnbjddjaaExtFromHex
namespace Go.Proofs.Ytjbjdccnbjddjaa
open Go.RowKit Go.Proofs.YtjbjdccnbjddjaaW.PrintWords Go.Proofs.YtjbjdccnbjddjaaW.PrintLast Go.Proofs.YtjbjdccnbjddjaaW.PrintMore
set_option linter.unusedSimpArgs false
set_option linter.unusedVariables false

/-- The thirty-two letters. -/
def letterText : ByteArray := (⟨#[48, 49, 50, 51, 52, 53, 54, 55, 56, 57, 97, 98, 99, 100, 102, 103, 104, 105, 106, 107, 108, 109, 110, 112, 113, 114, 115, 118, 119, 120, 121, 122]⟩ : ByteArray)
/-- The value of a letter, or -1. -/
def letterOf (c : Int) : Int := Lib.indexByte letterText.data.toList c.toNat.toUInt8
theorem letterOf_lo (c : Int) : -1 ≤ letterOf c := Lib.indexByte_ge _ _
theorem letterOf_hi (c : Int) : letterOf c < 32 := by
  rcases indexByte_lt letterText.data.toList c.toNat.toUInt8 with h | h
  · exact h
  · cases h
def radix_Value.f (c : Int) : Option Int := some (letterOf c)
theorem radix_Value.calls (c : Int) (r : Int) (w : World) (h : radix_Value.f c = some r) :
    Calls Try.prog 22 #[.int .u8 c] w fun e w' => e = .returned (.int .i64 r) ∧ Drawn0 w w' := by
  have HI : Aside0 (strings_IndexByte.f (⟨#[48, 49, 50, 51, 52, 53, 54, 55, 56, 57, 97, 98, 99, 100, 102, 103, 104, 105, 106, 107, 108, 109, 110, 112, 113, 114, 115, 118, 119, 120, 121, 122]⟩ : ByteArray) c = some r) := ⟨h⟩
  clear h
  go_enter Try.func22, Try.ntmps22
  go_wp2_with fail
  ((with_reducible refine (strings_IndexByte.calls (⟨#[48, 49, 50, 51, 52, 53, 54, 55, 56, 57, 97, 98, 99, 100, 102, 103, 104, 105, 106, 107, 108, 109, 110, 112, 113, 114, 115, 118, 119, 120, 121, 122]⟩ : ByteArray) _ _ _ HI.out).mono ?_); rintro e w1 ⟨rfl, ⟨nd, rfl⟩⟩)
  go_wp2_with fail
  go_ret
  exact ⟨rfl, ⟨nd, rfl⟩⟩

/-- The value of the letter at place j from the right. -/
def valAt (b : ByteArray) (j : Nat) : Int := letterOf (bt b ((b.size : Int) - 1 - j))
/-- What has been gathered out of j letters from the right and isn't a whole byte; the whole bytes. -/
def unAcc (b : ByteArray) : Nat → Int
  | 0 => 0
  | j + 1 => if 5 * j % 8 + 5 < 8 then unAcc b j + valAt b j * 2 ^ (5 * j % 8) else (unAcc b j + valAt b j * 2 ^ (5 * j % 8)) / 256
def unOut (b : ByteArray) : Nat → List Int
  | 0 => []
  | j + 1 => if 5 * j % 8 + 5 < 8 then unOut b j else unOut b j ++ [(unAcc b j + valAt b j * 2 ^ (5 * j % 8)) % 256]
theorem unOut_length (b : ByteArray) (j : Nat) : (unOut b j).length = 5 * j / 8 := by
  induction j with
  | zero => rfl
  | succ j ih =>
    rw [unOut]
    split
    · omega
    · rw [List.length_append, ih, List.length_singleton]
      omega
def lettersGood (b : ByteArray) (n : Nat) : Prop := ∀ i, i < n → 0 ≤ valAt b i
instance (b : ByteArray) (n : Nat) : Decidable (lettersGood b n) := inferInstanceAs (Decidable (∀ i, i < n → 0 ≤ valAt b i))
theorem unAcc_bound (b : ByteArray) (j : Nat) (hg : lettersGood b j) : 0 ≤ unAcc b j ∧ unAcc b j < 2 ^ (5 * j % 8) := by
  induction j with
  | zero => simp [unAcc]
  | succ j ih =>
    obtain ⟨h0, h1⟩ := ih (fun i hi => hg i (by omega))
    have v0 := hg j (by omega)
    have v1 : valAt b j < 32 := letterOf_hi _
    rw [unAcc]
    rcases (by omega : 5 * j % 8 = 0 ∨ 5 * j % 8 = 1 ∨ 5 * j % 8 = 2 ∨ 5 * j % 8 = 3 ∨ 5 * j % 8 = 4 ∨ 5 * j % 8 = 5 ∨ 5 * j % 8 = 6 ∨ 5 * j % 8 = 7) with e | e | e | e | e | e | e | e
    · rw [e] at h1 ⊢; rw [if_pos (by decide), show 5 * (j + 1) % 8 = 5 by omega]; omega
    · rw [e] at h1 ⊢; rw [if_pos (by decide), show 5 * (j + 1) % 8 = 6 by omega]; omega
    · rw [e] at h1 ⊢; rw [if_pos (by decide), show 5 * (j + 1) % 8 = 7 by omega]; omega
    · rw [e] at h1 ⊢; rw [if_neg (by decide), show 5 * (j + 1) % 8 = 0 by omega]; omega
    · rw [e] at h1 ⊢; rw [if_neg (by decide), show 5 * (j + 1) % 8 = 1 by omega]; omega
    · rw [e] at h1 ⊢; rw [if_neg (by decide), show 5 * (j + 1) % 8 = 2 by omega]; omega
    · rw [e] at h1 ⊢; rw [if_neg (by decide), show 5 * (j + 1) % 8 = 3 by omega]; omega
    · rw [e] at h1 ⊢; rw [if_neg (by decide), show 5 * (j + 1) % 8 = 4 by omega]; omega
/-- A sum of numbers with no bit in common is their union. -/
theorem or_add (a v : Int) (h : Nat) (ha0 : 0 ≤ a) (ha : a < 2 ^ h) (hv0 : 0 ≤ v) (hv : v < 32) (hh : h ≤ 7) : Go.bits .or .u64 a (v * 2 ^ h) = a + v * 2 ^ h := by
  obtain ⟨x, rfl⟩ := Int.eq_ofNat_of_zero_le ha0
  obtain ⟨y, rfl⟩ := Int.eq_ofNat_of_zero_le hv0
  have hx : x < 2 ^ h := by exact_mod_cast ha
  have hp : 2 ^ h ≤ 128 := Nat.pow_le_pow_right (by omega) hh
  have hyp : y * 2 ^ h ≤ 31 * 128 := Nat.mul_le_mul (by omega) hp
  have e1 : ((y : Int) * 2 ^ h) = ((y * 2 ^ h : Nat) : Int) := by push_cast; rfl
  rw [e1, u64_or_nat x (y * 2 ^ h) (by omega) (by omega)]
  have : x ||| y * 2 ^ h = y * 2 ^ h + x := by
    rw [Nat.or_comm, Nat.mul_comm, ← Nat.two_pow_add_eq_or_of_lt hx]
  rw [this]
  push_cast
  omega

def radix_FromBase32.f (b : ByteArray) : Option (ByteArray × Int) :=
  if b.size ≤ 281474976710656 then (if (8 * (5 * b.size / 8) + 4) / 5 ≠ b.size then some (⟨#[]⟩, 21) else if lettersGood b b.size then (if unAcc b b.size ≠ 0 then some (⟨#[]⟩, 22) else some (strOfNums (unOut b b.size), 0)) else some (⟨#[]⟩, 20)) else none

set_option maxHeartbeats 1000000 in
set_option maxRecDepth 100000 in
theorem radix_FromBase32.calls (a0 : ByteArray) (r1 : ByteArray) (r2 : Int) (w : World) (h : radix_FromBase32.f a0 = some (r1, r2)) :
    Calls Try.prog 19 #[.string a0] w fun e w' => e = .returned (.tuple #[.string r1, .int .i64 r2]) ∧ Below w.heap.size w w' := by
  by_cases hs : a0.size ≤ 281474976710656
  case neg => simp [radix_FromBase32.f, hs] at h
  obtain ⟨n, hn⟩ : ∃ n, 5 * a0.size / 8 = n := ⟨_, rfl⟩
  have hni : 5 * (a0.size : Int) / 8 = (n : Int) := by omega
  have hn1 : n ≤ 281474976710656 := by omega
  by_cases h2 : (8 * (5 * a0.size / 8) + 4) / 5 ≠ a0.size
  · simp only [radix_FromBase32.f, if_pos hs, if_pos h2, Option.some.injEq, Prod.mk.injEq] at h
    obtain ⟨rfl, rfl⟩ := h
    rw [hn] at h2
    have hb : (((8 * (n : Int) + 4) / 5) != (a0.size : Int)) = true := by rw [bne_iff_ne]; omega
    clear h2 hn
    go_enter Try.func19, Try.ntmps19
    go_wp2
    go_ret2
    exact ⟨rfl, Below.refl _ _⟩
  · simp only [radix_FromBase32.f, if_pos hs, if_neg h2] at h
    have H := Aside0.mk h
    clear h
    rw [hn] at h2
    have hb : (((8 * (n : Int) + 4) / 5) != (a0.size : Int)) = false := by rw [bne_eq_false_iff_eq]; omega
    have HE : Aside0 ((8 * n + 4) / 5 = a0.size ∧ n = 5 * a0.size / 8) := ⟨by omega, hn.symm⟩
    clear h2 hn
    obtain ⟨i0, hi, hz⟩ := Option.map_eq_some_iff.1 (show (Try.prog.info? 5).map (fun i => (i.zero, i.size, i.bytes)) = some (some (.int .u8 0), 1, 1) by kernel_rfl)
    simp only [Prod.mk.injEq] at hz
    obtain ⟨hz0, hz1, hz2⟩ := hz
    have hmk : ∀ W : World, (Instr.makeSlice 38 (.int .i64 0) (.int .i64 (n : Int))).run Try.prog W = .ok (.slice (some ⟨W.heap.size, 0, none⟩) 0 n) (W.alloc (.cells (madeCells #[.int .u8 0] n) 5)) := by
      intro W
      have := run_make (P := Try.prog) W 38 5 i0 (.int .u8 0) Try.underlying38 hi hz0 .i64 .i64 0 (n : Int) (by omega) (by omega) (by rw [hz2]; omega) (by omega)
      rw [hz1] at this
      simpa [Value.cells] using this
    have Z := Aside0.mk (And.intro hi (And.intro hz0 (And.intro hz1 hz2)))
    clear hi hz0 hz1 hz2
    go_enter Try.func19, Try.ntmps19
    go_wp2
    clear hni hmk hb
    go_loopw [5, 6, 7, 8, 9] (fun v5 v6 v7 v8 _ wr => ∃ (j : Nat) (acc : Int) (held : Nat) (len : Nat) (i : Int), j ≤ a0.size ∧ v8 = .int .i64 i ∧ v6 = .int .u64 acc ∧ v7 = .int .u64 (held : Int) ∧ v5 = .slice (some ⟨w.heap.size, 0, none⟩) len n ∧
      Aside0 (i = (a0.size : Int) - 1 - j) ∧ Aside0 (acc = unAcc a0 j) ∧ Aside0 (held = 5 * j % 8) ∧ Aside0 (len = 5 * j / 8) ∧ Aside0 (lettersGood a0 j) ∧
      Aside0 (wr.ownsRow w.heap.size 5 1 (.slice (some ⟨w.heap.size, 0, none⟩) len n) len (nums .u8 (unOut a0 j))) ∧ Aside0 (Below w.heap.size w wr)) (fun _ _ _ v _ _ => (intOf v + 1).toNat)
    case atStart => exact ⟨0, 0, 0, 0, _, Nat.zero_le _, rfl, rfl, rfl, rfl, ⟨by simp⟩, ⟨rfl⟩, ⟨rfl⟩, ⟨rfl⟩, ⟨fun i hi => absurd hi (Nat.not_lt_zero _)⟩, ⟨World.ownsRow_made w _ _ (Nat.le_refl _) (by unfold maxLen; omega) (by simp [size_madeCells])⟩, ⟨(Below.refl _ _).alloc (Nat.le_refl _) _⟩⟩
    case round =>
      obtain ⟨j, acc, held, len, i, hj, rfl, rfl, rfl, rfl, HI, HA, HH, HL, HG, HO, HB⟩ := hrel
      by_cases hlt : j < a0.size
      · have hi0 : 0 ≤ i := by have := HI.out; omega
        have hi1 : i < (a0.size : Int) := by have := HI.out; omega
        have hq0 := idx_bt a0 .i64 i hi0 hi1
        obtain ⟨x, hx⟩ : ∃ x, letterOf (bt a0 i) = x := ⟨_, rfl⟩
        have hx0 : -1 ≤ x := hx ▸ letterOf_lo _
        have hx1 : x < 32 := hx ▸ letterOf_hi _
        have HX : Aside0 (valAt a0 j = x) := ⟨by rw [valAt, ← HI.out]; exact hx⟩
        have HV : Aside0 (radix_Value.f (bt a0 i) = some x) := ⟨congrArg some hx⟩
        clear hx
        by_cases hneg : x < 0
        · go_wp2_with fail
          ((with_reducible refine (radix_Value.calls _ _ _ HV.out).mono ?_); rintro e w1 ⟨rfl, ⟨nd, rfl⟩⟩)
          go_wp2_with fail
          go_ret2
          have hng : ¬ lettersGood a0 a0.size := fun hg => by have := hg j hlt; rw [HX.out] at this; omega
          have := H.out
          rw [if_neg hng] at this
          obtain ⟨rfl, rfl⟩ := Prod.mk.inj (Option.some.inj this)
          exact ⟨rfl, pw_below_drewN HB.out _⟩
        · have hh7 : held ≤ 7 := by have := HH.out; omega
          obtain ⟨ab0, ab1⟩ := unAcc_bound a0 j HG.out
          rw [← HA.out, ← HH.out] at ab1
          rw [← HA.out] at ab0
          have hor := or_add acc x held ab0 ab1 (by omega) hx1 hh7
          have hp : (2 : Int) ^ held ≤ 128 := by
            have : 2 ^ held ≤ 2 ^ 7 := Nat.pow_le_pow_right (by omega) hh7
            exact_mod_cast this
          have hp0 : (0 : Int) < 2 ^ held := Int.pow_pos (by omega)
          have hm0 : 0 ≤ x * 2 ^ held := Int.mul_nonneg (by omega) (by omega)
          have hm1 : x * 2 ^ held ≤ 31 * 128 := Int.mul_le_mul (by omega) hp (by omega) (by omega)
          obtain ⟨y, hy⟩ : ∃ y, acc + x * 2 ^ held = y := ⟨_, rfl⟩
          have hy0 : 0 ≤ y := by omega
          have hy1 : y ≤ 5000 := by omega
          rw [hy] at hor
          have HY : Aside0 (unAcc a0 j + valAt a0 j * 2 ^ (5 * j % 8) = y) := ⟨by rw [HX.out, ← HA.out, ← HH.out]; exact hy⟩
          clear hy ab0 ab1 hp hp0
          by_cases h8 : held + 5 < 8
          · have hc8 : decide (8 ≤ (held : Int) + 5) = false := decide_eq_false (by omega)
            go_wp2_with fail
            ((with_reducible refine (radix_Value.calls _ _ _ HV.out).mono ?_); rintro e w1 ⟨rfl, ⟨nd, rfl⟩⟩)
            go_wp2_with fail
            go_roundw
            case rel =>
              refine ⟨j + 1, y, held + 5, len, i - 1, by omega, rfl, rfl, by go_num, rfl, ⟨by have := HI.out; omega⟩, ⟨?_⟩, ⟨by have := HH.out; omega⟩, ⟨by have := HH.out; have := HL.out; omega⟩, ⟨?_⟩, ⟨?_⟩, ⟨pw_below_drewN HB.out _⟩⟩
              · rw [unAcc, if_pos (by have := HH.out; omega)]
                exact HY.out.symm
              · intro q hq
                rcases Nat.lt_or_ge q j with h | h
                · exact HG.out q h
                · obtain rfl : q = j := by omega
                  rw [HX.out]
                  omega
              · rw [unOut, if_pos (by have := HH.out; omega)]
                exact pw_own_drewN HO.out _
            case measure => simp [intOf]; omega
          · have hc8 : decide (8 ≤ (held : Int) + 5) = true := decide_eq_true (by omega)
            have hln : len < n := by have := HL.out; have := HE.out.2; have := HH.out; omega
            have hln1 : decide (len < n) = true := decide_eq_true hln
            have hln2 : decide ((len : Int) < 5 * (a0.size : Int) / 8) = true := decide_eq_true (by have := HE.out.2; omega)
            have hy2 : 0 ≤ y % 256 := by omega
            have hy3 : y % 256 ≤ 255 := by omega
            have hy4 : 0 ≤ y / 256 := by omega
            have hh3 : 3 ≤ held := by omega
            go_wp2_with fail
            ((with_reducible refine (radix_Value.calls _ _ _ HV.out).mono ?_); rintro e w1 ⟨rfl, ⟨nd, rfl⟩⟩)
            obtain ⟨hi, hz0, hz1, hz2⟩ := Z.out
            have HO2 : Aside0 ((wr.drewN nd).ownsRow w.heap.size 5 1 (.slice (some ⟨w.heap.size, 0, none⟩) len n) len (nums .u8 (unOut a0 j))) := ⟨pw_own_drewN HO.out _⟩
            have HB2 : Aside0 (Below w.heap.size w (wr.drewN nd)) := ⟨pw_below_drewN HB.out _⟩
            have Z2 := Aside0.mk hi
            have Z3 := Aside0.mk hz1
            clear hi hz0 hz1 hz2 HO HB
            generalize wr.drewN nd = ws at *
            go_wp2_with (first | (at_builtin; refine wpList_append_own_spare _ rfl (.tmp 52) (.tmp 55) 38 rfl w.heap.size 5 i0 1 Try.underlying38 Z2.out Z3.out w.heap.size len n (nums .u8 (unOut a0 j)) rfl (HO2.out.alloc _) ⟨ws.heap.size, 0, none⟩ 1 1 [.int .u8 (y % 256)] rfl rfl (World.news_of_block (heap_alloc_new ws _)) (by simp [Value.oneCell']) (by omega) ?_; intro w2 hown hg; (have HO3 := Aside0.mk hown); (have HB3 := Aside0.mk (pw_below_grown (below_alloc HB2.out _) _ (by have := HB2.out.size; simp; omega) hg (by rintro k hk; cases hk; exact Nat.le_refl _))); clear hown hg HO2 HB2))
            go_roundw
            case rel =>
              refine ⟨j + 1, y / 256, held - 3, len + 1, i - 1, by omega, rfl, rfl, ?_, rfl, ⟨by have := HI.out; omega⟩, ⟨?_⟩, ⟨by have := HH.out; omega⟩, ⟨by have := HH.out; have := HL.out; omega⟩, ⟨?_⟩, ⟨?_⟩, HB3⟩
              · exact congrArg (Value.int .u64) (by omega)
              · rw [unAcc, if_neg (by have := HH.out; omega), HY.out]
              · intro q hq
                rcases Nat.lt_or_ge q j with h | h
                · exact HG.out q h
                · obtain rfl : q = j := by omega
                  rw [HX.out]
                  omega
              · rw [unOut, if_neg (by have := HH.out; omega), HY.out]
                have := HO3.out
                simpa [nums] using this
            case measure => simp [intOf]; omega
      · obtain rfl : j = a0.size := by omega
        have hln : len = n := by have := HL.out; have := HE.out.2; omega
        subst hln
        have hcv := own_string (P := Try.prog) Try.underlying38 Try.underlying5 Try.underlying9 HO.out
        have hi2 : i = -1 := by have := HI.out; omega
        subst hi2
        by_cases hz : acc = 0
        · subst hz
          go_wp2
          go_ret2
          have := H.out
          rw [if_pos HG.out, if_neg (by rw [← HA.out]; simp)] at this
          obtain ⟨rfl, rfl⟩ := Prod.mk.inj (Option.some.inj this)
          exact ⟨rfl, HB.out⟩
        · have hz2 : (acc != 0) = true := by rw [bne_iff_ne]; exact hz
          go_wp2
          go_ret2
          have := H.out
          rw [if_pos HG.out, if_pos (by rw [← HA.out]; exact hz)] at this
          obtain ⟨rfl, rfl⟩ := Prod.mk.inj (Option.some.inj this)
          exact ⟨rfl, HB.out⟩
end Go.Proofs.Ytjbjdccnbjddjaa
