import Derived.Test.YtjbjdccnbjddjaaProg
import Derived.Below
import Derived.Deep.Draws
import Derived.Deep.AppendLies
import Derived.Maps.AppendAt
import Derived.OwnWalk
import Derived.Laws.BytesArg
import Derived.Laws.MakeOwn
import Derived.Laws.OwnMore
import Derived.Deep.OwnRows
import Derived.Tactics
import Derived.Lib.ConvBytes
import Derived.Laws.Slices
import Derived.WalkKit
import Derived.KernelRfl
import Derived.RowKit3
import Derived.Deep.LoopGhost
import Derived.Deep.QuietTactic
import Derived.BigQuiet
import Derived.WideLaws
import Derived.Deep.DeepCutAuto
import Derived.Deep.CutBlock
import Derived.Deep.RegionHeld3
import Derived.Laws.Rows
import Derived.Lib.AppendStr
import Derived.ArgAppend
import Derived.Laws.IdiomCopy
import Derived.OrdersHeld
import Derived.Laws.BitsLemmas
import Derived.RowKit
import Derived.Test.YtjbjdccnbjddjaaWWords
import Derived.Test.YtjbjdccnbjddjaaWLast
import Derived.Test.YtjbjdccnbjddjaaWTab
import Derived.Test.YtjbjdccnbjddjaaWFour
import Derived.Test.YtjbjdccnbjddjaaWQPut
import Derived.Test.YtjbjdccnbjddjaaWApart
import Derived.Test.YtjbjdccnbjddjaaWArr
import Derived.Test.YtjbjdccnbjddjaaWZeros
import Derived.Test.YtjbjdccnbjddjaaWFoot
import Derived.Test.YtjbjdccnbjddjaaWKept
import Derived.Test.YtjbjdccnbjddjaaWShare
import Derived.Test.YtjbjdccnbjddjaaWN
import Derived.Test.YtjbjdccnbjddjaaWFootNe
import Derived.Test.YtjbjdccnbjddjaaWAt
import Derived.Test.YtjbjdccnbjddjaaWEqStruct
import Derived.Test.YtjbjdccnbjddjaaWRepsOne
import Derived.Test.YtjbjdccnbjddjaaWInv
import Derived.Test.YtjbjdccnbjddjaaWInvWords
import Derived.Test.YtjbjdccnbjddjaaWGuard
import Derived.Test.YtjbjdccnbjddjaaWNEv
import Derived.Test.YtjbjdccnbjddjaaWMore
import Derived.StillTailTactics
import Derived.Test.YtjbjdccnbjddjaaExtHex
import Derived.Test.YtjbjdccnbjddjaaExtMixed
namespace Go.Proofs.Ytjbjdccnbjddjaa
open Go.RowKit Go.Proofs.YtjbjdccnbjddjaaW.PrintWords Go.Proofs.YtjbjdccnbjddjaaW.PrintLast Go.Proofs.YtjbjdccnbjddjaaW.PrintMore
set_option linter.unusedSimpArgs false
set_option linter.unusedVariables false

/-- The value of digit k, or -1. -/
def hexAt (b : ByteArray) (k : Nat) : Int := Lib.indexByte hexText.data.toList (bt b k).toNat.toUInt8
theorem indexByte_lt (l : List UInt8) (c : UInt8) : Lib.indexByte l c < (l.length : Int) ∨ l = [] := by
  induction l with
  | nil => exact .inr rfl
  | cons b l ih =>
    left
    unfold Lib.indexByte
    split
    · simp
    · split
      · simp
        omega
      · rcases ih with h | rfl
        · simp
          omega
        · rename_i h
          simp [Lib.indexByte] at h
theorem hexAt_lo (b : ByteArray) (k : Nat) : -1 ≤ hexAt b k := Lib.indexByte_ge _ _
theorem hexAt_hi (b : ByteArray) (k : Nat) : hexAt b k < 16 := by
  rcases indexByte_lt hexText.data.toList (bt b k).toNat.toUInt8 with h | h
  · exact h
  · cases h
/-- The bytes after k digits. -/
def unhexRow (b : ByteArray) : Nat → List Int
  | 0 => List.replicate (b.size / 2) 0
  | k + 1 => (unhexRow b k).set (k / 2) (Go.bits .or .u8 (rd (unhexRow b k) ((k / 2 : Nat) : Int) * 16 % 256) (hexAt b k))
theorem unhexRow_length (b : ByteArray) (k : Nat) : (unhexRow b k).length = b.size / 2 := by
  induction k with
  | zero => simp [unhexRow]
  | succ k ih => simp [unhexRow, ih]
def hexGood (b : ByteArray) (n : Nat) : Prop := ∀ i, i < n → 0 ≤ hexAt b i
instance (b : ByteArray) (n : Nat) : Decidable (hexGood b n) := inferInstanceAs (Decidable (∀ i, i < n → 0 ≤ hexAt b i))
def radix_FromHex.f (b : ByteArray) : Option (ByteArray × Int) :=
  if b.size ≤ 281474976710656 then (if b.size % 2 ≠ 0 then some (⟨#[]⟩, 21) else if hexGood b b.size then some (strOfNums (unhexRow b b.size), 0) else some (⟨#[]⟩, 20)) else none

set_option maxHeartbeats 1000000 in
set_option maxRecDepth 100000 in
theorem radix_FromHex.calls (a0 : ByteArray) (r1 : ByteArray) (r2 : Int) (w : World) (h : radix_FromHex.f a0 = some (r1, r2)) :
    Calls Try.prog 14 #[.string a0] w fun e w' => e = .returned (.tuple #[.string r1, .int .i64 r2]) ∧ Below w.heap.size w w' := by
  by_cases hs : a0.size ≤ 281474976710656
  case neg => simp [radix_FromHex.f, hs] at h
  by_cases h2 : a0.size % 2 ≠ 0
  · simp only [radix_FromHex.f, if_pos hs, if_pos h2, Option.some.injEq, Prod.mk.injEq] at h
    obtain ⟨rfl, rfl⟩ := h
    have hb : (((a0.size : Int) % 2) != 0) = true := by rw [bne_iff_ne]; omega
    clear h2
    go_enter Try.func14, Try.ntmps14
    go_wp2
    go_ret2
    exact ⟨rfl, Below.refl _ _⟩
  · simp only [radix_FromHex.f, if_pos hs, if_neg h2] at h
    have H := Aside0.mk h
    clear h
    have hb : (((a0.size : Int) % 2) != 0) = false := by rw [bne_eq_false_iff_eq]; omega
    have HE : Aside0 (a0.size % 2 = 0) := ⟨by omega⟩
    clear h2
    obtain ⟨m, hm⟩ : ∃ m, a0.size / 2 = m := ⟨_, rfl⟩
    have hm2 : (a0.size : Int) / 2 = (m : Int) := by omega
    have hm3 : m ≤ 281474976710656 := by omega
    have HM := Aside0.mk hm
    clear hm
    have hmk := print_make (P := Try.prog) 38 5 .u8 1 Try.underlying38 (by kernel_rfl) (by decide) m (by omega)
    go_enter Try.func14, Try.ntmps14
    go_wp2
    clear hm2
    go_loopw [5, 6, 17] (fun _ _ v17 wr => ∃ k : Nat, k ≤ a0.size ∧ v17 = .int .i64 k ∧ Aside0 (hexGood a0 k) ∧ Aside0 (wr.heap[w.heap.size]? = some (.cells (nums .u8 (unhexRow a0 k)).toArray 5 (0, 0))) ∧ Aside0 (Below w.heap.size w wr)) (fun _ _ v _ => a0.size - (intOf v).toNat)
    case atStart => exact ⟨0, Nat.zero_le _, rfl, ⟨fun i hi => absurd hi (Nat.not_lt_zero _)⟩, ⟨by rw [heap_alloc_new, made_nums]; simp [unhexRow, HM.out]⟩, ⟨(Below.refl _ _).alloc (Nat.le_refl _) _⟩⟩
    case round =>
      clear hmk
      obtain ⟨k, hk, rfl, HG, HC, HB⟩ := hrel
      by_cases hlt : k < a0.size
      · have hq0 := idx_bt a0 .i64 (k : Int) (by omega) (by omega)
        obtain ⟨x, hx⟩ : ∃ x, hexAt a0 k = x := ⟨_, rfl⟩
        have hx0 : -1 ≤ x := hx ▸ hexAt_lo a0 k
        have hx1 : x < 16 := hx ▸ hexAt_hi a0 k
        have HX := Aside0.mk hx
        have HI : Aside0 (strings_IndexByte.f (⟨#[48, 49, 50, 51, 52, 53, 54, 55, 56, 57, 97, 98, 99, 100, 101, 102]⟩ : ByteArray) (bt a0 k) = some x) := ⟨congrArg some hx⟩
        clear hx
        by_cases hneg : x < 0
        · go_wp2_with fail
          ((with_reducible refine (strings_IndexByte.calls (⟨#[48, 49, 50, 51, 52, 53, 54, 55, 56, 57, 97, 98, 99, 100, 101, 102]⟩ : ByteArray) _ _ _ HI.out).mono ?_); rintro e w1 ⟨rfl, ⟨nd, rfl⟩⟩)
          go_wp2_with fail
          go_ret2
          have hng : ¬ hexGood a0 a0.size := fun hg => by have := hg k hlt; rw [HX.out] at this; omega
          have := H.out
          rw [if_neg hng] at this
          obtain ⟨rfl, rfl⟩ := Prod.mk.inj (Option.some.inj this)
          exact ⟨rfl, pw_below_drewN HB.out _⟩
        · have hl : Aside0 ((unhexRow a0 k).length = m) := ⟨(unhexRow_length a0 k).trans HM.out⟩
          have hkm : k / 2 < m := by have := HM.out; have := HE.out; omega
          have hk2 : (k : Int) / 2 = ((k / 2 : Nat) : Int) := by omega
          generalize hj : k / 2 = j at hkm hk2
          have hcl : wr.cell? ⟨w.heap.size, j, none⟩ = some (.int .u8 (rd (unhexRow a0 k) (j : Int))) := by
            rw [blk_cell HC.out]
            have := hl.out
            simp [nums, rd, List.getElem?_eq_getElem (show j < (unhexRow a0 k).length by omega)]
          have hfr := blk_frozen HC.out j
          have HJ := Aside0.mk hj
          clear hj
          go_wp2_with fail
          ((with_reducible refine (strings_IndexByte.calls (⟨#[48, 49, 50, 51, 52, 53, 54, 55, 56, 57, 97, 98, 99, 100, 101, 102]⟩ : ByteArray) _ _ _ HI.out).mono ?_); rintro e w1 ⟨rfl, ⟨nd, rfl⟩⟩)
          go_wp2_with fail
          go_roundw
          case rel =>
            refine ⟨k + 1, by omega, by go_num, ⟨fun i hi => ?_⟩, ⟨?_⟩, ⟨?_⟩⟩
            · rcases Nat.lt_or_ge i k with h | h
              · exact HG.out i h
              · obtain rfl : i = k := by omega
                rw [HX.out]
                omega
            · have := blk_set (w := wr.drewN nd) HC.out j (.int .u8 (Go.bits .or .u8 (rd (unhexRow a0 k) (j : Int) * 16 % 256) x))
              refine Eq.trans this ?_
              rw [unhexRow, HJ.out, HX.out]
              simp [nums, List.map_set]
            · exact below_set (pw_below_drewN HB.out _) (Nat.le_refl _)
          case measure => simp [intOf]; omega
      · obtain rfl : k = a0.size := by omega
        have hcv := run_convert_bytes_arg (P := Try.prog) wr 38 5 Try.underlying38 Try.underlying5 w.heap.size 0 m m (unhexRow a0 a0.size) ((unhexRow_length _ _).trans HM.out)
          (fun i hi => by
            rw [blk_cell HC.out]
            have hl := unhexRow_length a0 a0.size
            have := HM.out
            simp [nums, List.getElem?_eq_getElem (show i < (unhexRow a0 a0.size).length by omega)]) 9 Try.underlying9
        go_wp2
        go_ret2
        have := H.out
        rw [if_pos HG.out] at this
        obtain ⟨rfl, rfl⟩ := Prod.mk.inj (Option.some.inj this)
        exact ⟨rfl, HB.out⟩
end Go.Proofs.Ytjbjdccnbjddjaa
