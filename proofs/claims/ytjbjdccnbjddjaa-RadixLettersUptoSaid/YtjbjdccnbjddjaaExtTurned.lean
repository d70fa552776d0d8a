import Derived.Test.YtjbjdccnbjddjaaProg
import Derived.Below
import Derived.Deep.Draws
import Derived.Deep.AppendLies
import Derived.Maps.AppendAt
import Derived.OwnWalk
import Derived.Laws.BytesArg
import Derived.Laws.MakeOwn
import Derived.Laws.OwnMore
import Derived.Deep.OwnRows
import Derived.Tactics
import Derived.Lib.ConvBytes
import Derived.Laws.Slices
import Derived.WalkKit
import Derived.KernelRfl
import Derived.RowKit3
import Derived.Deep.LoopGhost
import Derived.Deep.QuietTactic
import Derived.BigQuiet
import Derived.WideLaws
import Derived.Deep.DeepCutAuto
import Derived.Deep.CutBlock
import Derived.Deep.RegionHeld3
import Derived.Laws.Rows
import Derived.Lib.AppendStr
import Derived.ArgAppend
import Derived.Laws.IdiomCopy
import Derived.OrdersHeld
import Derived.Laws.BitsLemmas
import Derived.RowKit
import Derived.Test.YtjbjdccnbjddjaaWWords
import Derived.Test.YtjbjdccnbjddjaaWLast
import Derived.Test.YtjbjdccnbjddjaaWTab
import Derived.Test.YtjbjdccnbjddjaaWFour
import Derived.Test.YtjbjdccnbjddjaaWQPut
import Derived.Test.YtjbjdccnbjddjaaWApart
import Derived.Test.YtjbjdccnbjddjaaWArr
import Derived.Test.YtjbjdccnbjddjaaWZeros
import Derived.Test.YtjbjdccnbjddjaaWFoot
import Derived.Test.YtjbjdccnbjddjaaWKept
import Derived.Test.YtjbjdccnbjddjaaWShare
import Derived.Test.YtjbjdccnbjddjaaWN
import Derived.Test.YtjbjdccnbjddjaaWFootNe
import Derived.Test.YtjbjdccnbjddjaaWAt
import Derived.Test.YtjbjdccnbjddjaaWEqStruct
import Derived.Test.YtjbjdccnbjddjaaWRepsOne
import Derived.Test.YtjbjdccnbjddjaaWInv
import Derived.Test.YtjbjdccnbjddjaaWInvWords
import Derived.Test.YtjbjdccnbjddjaaWGuard
import Derived.Test.YtjbjdccnbjddjaaWNEv
import Derived.Test.YtjbjdccnbjddjaaWMore
import Derived.StillTailTactics
import Derived.Test.YtjbjdccnbjddjaaExtFromHex
namespace Go.Proofs.Ytjbjdccnbjddjaa
open Go.RowKit Go.Proofs.YtjbjdccnbjddjaaW.PrintWords Go.Proofs.YtjbjdccnbjddjaaW.PrintLast Go.Proofs.YtjbjdccnbjddjaaW.PrintMore
set_option linter.unusedSimpArgs false
set_option linter.unusedVariables false

/-- The bytes turned about, after k of them. -/
def turnRow (a : ByteArray) : Nat → List Int
  | 0 => List.replicate a.size 0
  | k + 1 => (turnRow a k).set k (bt a ((a.size : Int) - 1 - k))
theorem turnRow_length (a : ByteArray) (k : Nat) : (turnRow a k).length = a.size := by
  induction k with
  | zero => simp [turnRow]
  | succ k ih => rw [turnRow]; simp [ih]
def depotlaw02_turned.f (a : ByteArray) : Option ByteArray := if a.size ≤ 140737488351232 then some (strOfNums (turnRow a a.size)) else none

set_option maxHeartbeats 1000000 in
set_option maxRecDepth 100000 in
theorem depotlaw02_turned.calls (a0 : ByteArray) (r : ByteArray) (w : World) (h : depotlaw02_turned.f a0 = some r) :
    Calls Try.prog 18 #[.string a0] w fun e w' => e = .returned (.string r) ∧ Below w.heap.size w w' := by
  by_cases hs : a0.size ≤ 140737488351232
  case neg => simp [depotlaw02_turned.f, hs] at h
  simp only [depotlaw02_turned.f, if_pos hs, Option.some.injEq] at h
  subst h
  have hmk := print_make (P := Try.prog) 38 5 .u8 1 Try.underlying38 (by kernel_rfl) (by decide) a0.size (by omega)
  go_enter Try.func18, Try.ntmps18
  go_wp2
  go_loopw [4, 10] (fun _ v10 wr => ∃ k : Nat, k ≤ a0.size ∧ v10 = .int .i64 k ∧ Aside0 (wr.heap[w.heap.size]? = some (.cells (nums .u8 (turnRow a0 k)).toArray 5 (0, 0))) ∧ Aside0 (Below w.heap.size w wr)) (fun _ v _ => a0.size - (intOf v).toNat)
  case atStart => exact ⟨0, Nat.zero_le _, rfl, ⟨by rw [heap_alloc_new, made_nums]; simp [turnRow]⟩, ⟨(Below.refl _ _).alloc (Nat.le_refl _) _⟩⟩
  case round =>
    clear hmk
    obtain ⟨k, hk, rfl, HC, HB⟩ := hrel
    by_cases hlt : k < a0.size
    · have hl := turnRow_length a0 k
      have hcl : wr.cell? ⟨w.heap.size, k, none⟩ = some (.int .u8 (rd (turnRow a0 k) k)) := by
        rw [blk_cell HC.out]
        simp [nums, rd, List.getElem?_eq_getElem (show k < (turnRow a0 k).length by omega)]
      have hfr := blk_frozen HC.out k
      have hq0 := idx_bt a0 .i64 ((a0.size : Int) - 1 - k) (by omega) (by omega)
      clear hl
      go_wp2
      go_roundw
      case rel =>
        refine ⟨k + 1, by omega, by go_num, ⟨?_⟩, ⟨below_set HB.out (Nat.le_refl _)⟩⟩
        have := blk_set HC.out k (.int .u8 (bt a0 ((a0.size : Int) - 1 - k)))
        refine Eq.trans this ?_
        rw [turnRow]
        simp [nums, List.map_set]
      case measure => simp [intOf]; omega
    · obtain rfl : k = a0.size := by omega
      have hcv := run_convert_bytes_arg (P := Try.prog) wr 38 5 Try.underlying38 Try.underlying5 w.heap.size 0 a0.size a0.size (turnRow a0 a0.size) (turnRow_length _ _)
        (fun i hi => by
          rw [blk_cell HC.out]
          have hl := turnRow_length a0 a0.size
          simp [nums, List.getElem?_eq_getElem (show i < (turnRow a0 a0.size).length by omega)]) 9 Try.underlying9
      go_wp2
      go_ret
      exact ⟨rfl, HB.out⟩
end Go.Proofs.Ytjbjdccnbjddjaa
