import Derived.Test.YtjbjdccnbjddjaaProg
import Derived.Below
import Derived.Deep.Draws
import Derived.Deep.AppendLies
import Derived.Maps.AppendAt
import Derived.OwnWalk
import Derived.Laws.BytesArg
import Derived.Laws.MakeOwn
import Derived.Laws.OwnMore
import Derived.Deep.OwnRows
import Derived.Tactics
import Derived.Lib.ConvBytes
import Derived.Laws.Slices
import Derived.WalkKit
import Derived.KernelRfl
import Derived.RowKit3
import Derived.Deep.LoopGhost
import Derived.Deep.QuietTactic
import Derived.BigQuiet
import Derived.WideLaws
import Derived.Deep.DeepCutAuto
import Derived.Deep.CutBlock
import Derived.Deep.RegionHeld3
import Derived.Laws.Rows
import Derived.Lib.AppendStr
import Derived.ArgAppend
import Derived.Laws.IdiomCopy
import Derived.OrdersHeld
import Derived.Laws.BitsLemmas
import Derived.RowKit
import Derived.Test.YtjbjdccnbjddjaaWWords
import Derived.Test.YtjbjdccnbjddjaaWLast
import Derived.Test.YtjbjdccnbjddjaaWTab
import Derived.Test.YtjbjdccnbjddjaaWFour
import Derived.Test.YtjbjdccnbjddjaaWQPut
import Derived.Test.YtjbjdccnbjddjaaWApart
import Derived.Test.YtjbjdccnbjddjaaWArr
import Derived.Test.YtjbjdccnbjddjaaWZeros
import Derived.Test.YtjbjdccnbjddjaaWFoot
import Derived.Test.YtjbjdccnbjddjaaWKept
import Derived.Test.YtjbjdccnbjddjaaWShare
import Derived.Test.YtjbjdccnbjddjaaWN
import Derived.Test.YtjbjdccnbjddjaaWFootNe
import Derived.Test.YtjbjdccnbjddjaaWAt
import Derived.Test.YtjbjdccnbjddjaaWEqStruct
import Derived.Test.YtjbjdccnbjddjaaWRepsOne
import Derived.Test.YtjbjdccnbjddjaaWInv
import Derived.Test.YtjbjdccnbjddjaaWInvWords
import Derived.Test.YtjbjdccnbjddjaaWGuard
import Derived.Test.YtjbjdccnbjddjaaWNEv
import Derived.Test.YtjbjdccnbjddjaaWMore
import Derived.StillTailTactics
namespace Go.Proofs.Ytjbjdccnbjddjaa
open Go.RowKit Go.Proofs.YtjbjdccnbjddjaaW.PrintWords Go.Proofs.YtjbjdccnbjddjaaW.PrintLast Go.Proofs.YtjbjdccnbjddjaaW.PrintMore

/-- The room after k bytes. -/
def foldRoom (b : ByteArray) (n : Int) : Nat → List Int
  | 0 => List.replicate 64 0
  | k + 1 => (foldRoom b n k).set (Int.tmod k n).toNat (Go.bits .xor .u8 (rd (foldRoom b n k) (Int.tmod k n)) (bt b k))
theorem foldRoom_length (b : ByteArray) (n : Int) (k : Nat) : (foldRoom b n k).length = 64 := by
  induction k with
  | zero => simp [foldRoom]
  | succ k ih => simp [foldRoom, ih]
def radix_Fold.f (b : ByteArray) (n : Int) : Option (ByteArray × Int) :=
  if b.size ≤ 140737488351232 then (if n < 1 then some (⟨#[]⟩, 1) else if n > 64 then some (⟨#[]⟩, 1) else some (strOfNums ((foldRoom b n b.size).take n.toNat), 0)) else none

set_option maxHeartbeats 1000000 in
set_option maxRecDepth 100000 in
theorem radix_Fold.calls (a0 : ByteArray) (a1 : Int) (r1 : ByteArray) (r2 : Int) (w : World) (h : radix_Fold.f a0 a1 = some (r1, r2)) :
    Calls Try.prog 10 #[.string a0, .int .i64 a1] w fun e w' => e = .returned (.tuple #[.string r1, .int .i64 r2]) ∧ Below w.heap.size w w' := by
  by_cases hs : a0.size ≤ 140737488351232
  case neg => simp [radix_Fold.f, hs] at h
  by_cases h1 : a1 < 1
  · simp only [radix_Fold.f, if_pos hs, if_pos h1, Option.some.injEq, Prod.mk.injEq] at h
    obtain ⟨rfl, rfl⟩ := h
    go_enter Try.func10, Try.ntmps10
    go_wp2
    go_ret2
    exact ⟨rfl, Below.refl _ _⟩
  · by_cases h2 : 64 < a1
    · simp only [radix_Fold.f, if_pos hs, if_neg h1, if_pos h2, Option.some.injEq, Prod.mk.injEq] at h
      obtain ⟨rfl, rfl⟩ := h
      go_enter Try.func10, Try.ntmps10
      go_wp2
      go_ret2
      exact ⟨rfl, Below.refl _ _⟩
    · simp only [radix_Fold.f, if_pos hs, if_neg h1, if_neg h2, Option.some.injEq, Prod.mk.injEq] at h
      obtain ⟨rfl, rfl⟩ := h
      go_enter Try.func10, Try.ntmps10
      go_wp2
      go_loopw [7, 16] (fun _ v16 wr => ∃ k : Nat, k ≤ a0.size ∧ v16 = .int .i64 k ∧ Aside0 (wr.heap[w.heap.size]? = some (.cells (nums .u8 (foldRoom a0 a1 k)).toArray 37 (0, 0))) ∧ Aside0 (Below w.heap.size w wr)) (fun _ v _ => a0.size - (intOf v).toNat)
      case atStart => exact ⟨0, Nat.zero_le _, rfl, ⟨by rw [heap_alloc_new]; rfl⟩, ⟨(Below.refl _ _).alloc (Nat.le_refl _) _⟩⟩
      case round =>
        obtain ⟨k, hk, rfl, HC, HB⟩ := hrel
        by_cases hlt : k < a0.size
        · have hm0 : 0 ≤ Int.tmod (k : Int) a1 := Int.tmod_nonneg _ (by omega)
          have hm1 : Int.tmod (k : Int) a1 < a1 := Int.tmod_lt_of_pos _ (by omega)
          have hcl : wr.cell? ⟨w.heap.size, (Int.tmod (k : Int) a1).toNat, none⟩ = some (.int .u8 (rd (foldRoom a0 a1 k) (Int.tmod (k : Int) a1))) := by
            rw [blk_cell HC.out]
            have hl := foldRoom_length a0 a1 k
            simp [nums, rd, List.getElem?_eq_getElem (show (Int.tmod (k : Int) a1).toNat < (foldRoom a0 a1 k).length by omega)]
          have hfr := blk_frozen HC.out (Int.tmod (k : Int) a1).toNat
          have hx := bt_at a0 k
          have hnz : (a1 == 0) = false := by rw [beq_eq_false_iff_ne]; omega
          have hnz2 : ¬ a1 = 0 := by omega
          obtain ⟨j, hj⟩ : ∃ j, Int.tmod (k : Int) a1 = j := ⟨_, rfl⟩
          rw [hj] at hm0 hm1 hcl hfr
          have hj64 : j < 64 := by omega
          go_wp2
          go_still_tail 10, (by kernel_rfl)
          change wpList _ _ _ _ _ wr.drew
          have hxor : bits BinOp.xor IntKind.u8 (rd (foldRoom a0 a1 k) j) (a0[k].toNat : Int) = bits BinOp.xor IntKind.u8 (rd (foldRoom a0 a1 k) j) (bt a0 k) := by
            rw [← bt_at a0 k (by simpa using hlt)]; rfl
          have HX := Aside0.mk hxor
          have HJ := Aside0.mk hj
          clear hxor hj
          go_wp2
          go_roundw
          case rel =>
            refine ⟨k + 1, by omega, by go_num, ⟨?_⟩, ⟨?_⟩⟩
            · rw [HX.out]
              have := blk_set HC.out j.toNat (.int .u8 (bits BinOp.xor IntKind.u8 (rd (foldRoom a0 a1 k) j) (bt a0 k)))
              rw [show foldRoom a0 a1 (k + 1) = (foldRoom a0 a1 k).set j.toNat (Go.bits .xor .u8 (rd (foldRoom a0 a1 k) j) (bt a0 k)) by rw [foldRoom, HJ.out]]
              refine Eq.trans this ?_
              simp [nums, List.map_set]
            · exact below_drew (below_set HB.out (Nat.le_refl _))
          case measure => simp [intOf]; omega
        · have hn0 : 0 ≤ a1 := by omega
          obtain rfl : k = a0.size := by omega
          have hcv := run_convert_bytes_arg (P := Try.prog) wr 38 5 Try.underlying38 Try.underlying5 w.heap.size 0 a1.toNat 64 ((foldRoom a0 a1 a0.size).take a1.toNat) (by rw [List.length_take, foldRoom_length]; omega)
            (fun i hi => by
              rw [blk_cell HC.out]
              have hl := foldRoom_length a0 a1 a0.size
              simp [nums, List.getElem?_eq_getElem (show i < (foldRoom a0 a1 a0.size).length by omega), hi]) 9 Try.underlying9
          go_wp2
          go_ret2
          exact ⟨rfl, HB.out⟩
end Go.Proofs.Ytjbjdccnbjddjaa
