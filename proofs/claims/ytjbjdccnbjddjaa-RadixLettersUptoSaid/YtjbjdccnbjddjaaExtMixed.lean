import Derived.Test.YtjbjdccnbjddjaaProg
import Derived.Below
import Derived.Deep.Draws
import Derived.Deep.AppendLies
import Derived.Maps.AppendAt
import Derived.OwnWalk
import Derived.Laws.BytesArg
import Derived.Laws.MakeOwn
import Derived.Laws.OwnMore
import Derived.Deep.OwnRows
import Derived.Tactics
import Derived.Lib.ConvBytes
import Derived.Laws.Slices
import Derived.WalkKit
import Derived.KernelRfl
import Derived.RowKit3
import Derived.Deep.LoopGhost
import Derived.Deep.QuietTactic
import Derived.BigQuiet
import Derived.WideLaws
import Derived.Deep.DeepCutAuto
import Derived.Deep.CutBlock
import Derived.Deep.RegionHeld3
import Derived.Laws.Rows
import Derived.Lib.AppendStr
import Derived.ArgAppend
import Derived.Laws.IdiomCopy
import Derived.OrdersHeld
import Derived.Laws.BitsLemmas
import Derived.RowKit
import Derived.Test.YtjbjdccnbjddjaaWWords
import Derived.Test.YtjbjdccnbjddjaaWLast
import Derived.Test.YtjbjdccnbjddjaaWTab
import Derived.Test.YtjbjdccnbjddjaaWFour
import Derived.Test.YtjbjdccnbjddjaaWQPut
import Derived.Test.YtjbjdccnbjddjaaWApart
import Derived.Test.YtjbjdccnbjddjaaWArr
import Derived.Test.YtjbjdccnbjddjaaWZeros
import Derived.Test.YtjbjdccnbjddjaaWFoot
import Derived.Test.YtjbjdccnbjddjaaWKept
import Derived.Test.YtjbjdccnbjddjaaWShare
import Derived.Test.YtjbjdccnbjddjaaWN
import Derived.Test.YtjbjdccnbjddjaaWFootNe
import Derived.Test.YtjbjdccnbjddjaaWAt
import Derived.Test.YtjbjdccnbjddjaaWEqStruct
import Derived.Test.YtjbjdccnbjddjaaWRepsOne
import Derived.Test.YtjbjdccnbjddjaaWInv
import Derived.Test.YtjbjdccnbjddjaaWInvWords
import Derived.Test.YtjbjdccnbjddjaaWGuard
import Derived.Test.YtjbjdccnbjddjaaWNEv
import Derived.Test.YtjbjdccnbjddjaaWMore
import Derived.StillTailTactics
namespace Go.Proofs.Ytjbjdccnbjddjaa
open Go.RowKit Go.Proofs.YtjbjdccnbjddjaaW.PrintWords Go.Proofs.YtjbjdccnbjddjaaW.PrintLast Go.Proofs.YtjbjdccnbjddjaaW.PrintMore

/-- The exclusive or of two texts, after k bytes. -/
def mixRow (a b : ByteArray) : Nat → List Int
  | 0 => List.replicate a.size 0
  | k + 1 => if k < b.size then (mixRow a b k).set k (Go.bits .xor .u8 (bt a k) (bt b k)) else mixRow a b k
theorem mixRow_length (a b : ByteArray) (k : Nat) : (mixRow a b k).length = a.size := by
  induction k with
  | zero => simp [mixRow]
  | succ k ih => rw [mixRow]; split <;> simp [ih]
theorem made_nums (k : IntKind) (n : Nat) : madeCells #[.int k 0] n = (nums k (List.replicate n 0)).toArray := by
  apply Array.ext
  · simp [madeCells, nums]
  · intro i h1 h2
    simp [madeCells, nums, Nat.mod_one]
def depotlaw02_mixed.f (a b : ByteArray) : Option ByteArray :=
  if a.size ≤ 140737488351232 ∧ b.size ≤ 140737488351232 then some (strOfNums (mixRow a b a.size)) else none

set_option maxHeartbeats 1000000 in
set_option maxRecDepth 100000 in
theorem depotlaw02_mixed.calls (a0 a1 : ByteArray) (r : ByteArray) (w : World) (h : depotlaw02_mixed.f a0 a1 = some r) :
    Calls Try.prog 12 #[.string a0, .string a1] w fun e w' => e = .returned (.string r) ∧ Below w.heap.size w w' := by
  by_cases hs : a0.size ≤ 140737488351232 ∧ a1.size ≤ 140737488351232
  case neg => simp [depotlaw02_mixed.f, hs] at h
  simp only [depotlaw02_mixed.f, if_pos hs, Option.some.injEq] at h
  obtain ⟨hs0, hs1⟩ := hs
  subst h
  have hmk := print_make (P := Try.prog) 38 5 .u8 1 Try.underlying38 (by kernel_rfl) (by decide) a0.size (by omega)
  go_enter Try.func12, Try.ntmps12
  go_wp2
  go_loopw [6, 12] (fun _ v12 wr => ∃ k : Nat, k ≤ a0.size ∧ v12 = .int .i64 k ∧ Aside0 (wr.heap[w.heap.size]? = some (.cells (nums .u8 (mixRow a0 a1 k)).toArray 5 (0, 0))) ∧ Aside0 (Below w.heap.size w wr)) (fun _ v _ => a0.size - (intOf v).toNat)
  case atStart => exact ⟨0, Nat.zero_le _, rfl, ⟨by rw [heap_alloc_new, made_nums]; simp [mixRow]⟩, ⟨(Below.refl _ _).alloc (Nat.le_refl _) _⟩⟩
  case round =>
    obtain ⟨k, hk, rfl, HC, HB⟩ := hrel
    by_cases hlt : k < a0.size
    · have hl := mixRow_length a0 a1 k
      have hcl : wr.cell? ⟨w.heap.size, k, none⟩ = some (.int .u8 (rd (mixRow a0 a1 k) k)) := by
        rw [blk_cell HC.out]
        simp [nums, rd, List.getElem?_eq_getElem (show k < (mixRow a0 a1 k).length by omega)]
      have hfr := blk_frozen HC.out k
      have HL := Aside0.mk hl
      clear hl
      by_cases hb : k < a1.size
      · go_wp2
        go_still_tail 10, (by kernel_rfl)
        change wpList _ _ _ _ _ wr.drew
        go_wp2
        go_roundw
        case rel =>
          refine ⟨k + 1, by omega, by go_num, ⟨?_⟩, ⟨?_⟩⟩
          · have := blk_set HC.out k (.int .u8 (bits BinOp.xor IntKind.u8 (bt a0 k) (bt a1 k)))
            have e1 : (a0[k].toNat : Int) = bt a0 k := by rw [← bt_at a0 k (by simpa using hlt)]; rfl
            have e2 : (a1[k].toNat : Int) = bt a1 k := by rw [← bt_at a1 k (by simpa using hb)]; rfl
            rw [e1, e2, mixRow, if_pos hb]
            refine Eq.trans this ?_
            simp [nums, List.map_set]
          · exact below_drew (below_set HB.out (Nat.le_refl _))
        case measure => simp [intOf]; omega
      · go_wp2
        go_roundw
        case rel => exact ⟨k + 1, by omega, by go_num, ⟨by rw [mixRow, if_neg hb]; exact HC.out⟩, HB⟩
        case measure => simp [intOf]; omega
    · obtain rfl : k = a0.size := by omega
      have hcv := run_convert_bytes_arg (P := Try.prog) wr 38 5 Try.underlying38 Try.underlying5 w.heap.size 0 a0.size a0.size (mixRow a0 a1 a0.size) (mixRow_length _ _ _)
        (fun i hi => by
          rw [blk_cell HC.out]
          have hl := mixRow_length a0 a1 a0.size
          simp [nums, List.getElem?_eq_getElem (show i < (mixRow a0 a1 a0.size).length by omega)]) 9 Try.underlying9
      go_wp2
      go_ret
      exact ⟨rfl, HB.out⟩
end Go.Proofs.Ytjbjdccnbjddjaa
