import Derived.Test.YtjbjdccnbjddjaaProg
import Derived.Below
import Derived.Deep.Draws
import Derived.Deep.AppendLies
import Derived.Maps.AppendAt
import Derived.OwnWalk
import Derived.Laws.BytesArg
import Derived.Laws.MakeOwn
import Derived.Laws.OwnMore
import Derived.Deep.OwnRows
import Derived.Tactics
import Derived.Lib.ConvBytes
import Derived.Laws.Slices
import Derived.WalkKit
import Derived.KernelRfl
import Derived.RowKit3
import Derived.Deep.LoopGhost
import Derived.Deep.QuietTactic
import Derived.BigQuiet
import Derived.WideLaws
import Derived.Deep.DeepCutAuto
import Derived.Deep.CutBlock
import Derived.Deep.RegionHeld3
import Derived.Laws.Rows
import Derived.Lib.AppendStr
import Derived.ArgAppend
import Derived.Laws.IdiomCopy
import Derived.OrdersHeld
import Derived.Laws.BitsLemmas
import Derived.RowKit
import Derived.Test.YtjbjdccnbjddjaaWWords
import Derived.Test.YtjbjdccnbjddjaaWLast
import Derived.Test.YtjbjdccnbjddjaaWTab
import Derived.Test.YtjbjdccnbjddjaaWFour
import Derived.Test.YtjbjdccnbjddjaaWQPut
import Derived.Test.YtjbjdccnbjddjaaWApart
import Derived.Test.YtjbjdccnbjddjaaWArr
import Derived.Test.YtjbjdccnbjddjaaWZeros
import Derived.Test.YtjbjdccnbjddjaaWFoot
import Derived.Test.YtjbjdccnbjddjaaWKept
import Derived.Test.YtjbjdccnbjddjaaWShare
import Derived.Test.YtjbjdccnbjddjaaWN
import Derived.Test.YtjbjdccnbjddjaaWFootNe
import Derived.Test.YtjbjdccnbjddjaaWAt
import Derived.Test.YtjbjdccnbjddjaaWEqStruct
import Derived.Test.YtjbjdccnbjddjaaWRepsOne
import Derived.Test.YtjbjdccnbjddjaaWInv
import Derived.Test.YtjbjdccnbjddjaaWInvWords
import Derived.Test.YtjbjdccnbjddjaaWGuard
import Derived.Test.YtjbjdccnbjddjaaWNEv
import Derived.Test.YtjbjdccnbjddjaaWMore
import Derived.StillTailTactics
import Derived.Test.YtjbjdccnbjddjaaExtIndexByte
import Derived.Deep.DeepAppendRoom
import Derived.Laws.BitsAllLaws
namespace Go.Proofs.Ytjbjdccnbjddjaa
open Go.RowKit Go.Proofs.YtjbjdccnbjddjaaW.PrintWords Go.Proofs.YtjbjdccnbjddjaaW.PrintLast Go.Proofs.YtjbjdccnbjddjaaW.PrintMore

set_option linter.unusedSimpArgs false
set_option linter.unusedVariables false
/-- The digits, nought to fifteen. -/
def hexText : ByteArray := ⟨#[48, 49, 50, 51, 52, 53, 54, 55, 56, 57, 97, 98, 99, 100, 101, 102]⟩
/-- The text after k bytes. -/
def hexRow (b : ByteArray) : Nat → List Int
  | 0 => []
  | k + 1 => hexRow b k ++ [bt hexText (bt b k / 16), bt hexText (Go.bits .and .u8 (bt b k) 15)]
theorem hexRow_length (b : ByteArray) (k : Nat) : (hexRow b k).length = 2 * k := by
  induction k with
  | zero => rfl
  | succ k ih => simp [hexRow, ih]; omega
def radix_Hex.f (b : ByteArray) : Option ByteArray := if b.size ≤ 140737488351232 then some (strOfNums (hexRow b b.size)) else none

set_option maxHeartbeats 1000000 in
set_option maxRecDepth 100000 in
theorem radix_Hex.calls (a0 : ByteArray) (r : ByteArray) (w : World) (h : radix_Hex.f a0 = some r) :
    Calls Try.prog 13 #[.string a0] w fun e w' => e = .returned (.string r) ∧ Below w.heap.size w w' := by
  by_cases hs : a0.size ≤ 140737488351232
  case neg => simp [radix_Hex.f, hs] at h
  simp only [radix_Hex.f, if_pos hs, Option.some.injEq] at h
  subst h
  obtain ⟨i0, hi, hz⟩ := Option.map_eq_some_iff.1 (show (Try.prog.info? 5).map (fun i => (i.zero, i.size, i.bytes)) = some (some (.int .u8 0), 1, 1) by kernel_rfl)
  simp only [Prod.mk.injEq] at hz
  obtain ⟨hz0, hz1, hz2⟩ := hz
  have hmk : ∀ W : World, (Instr.makeSlice 38 (.int .i64 0) (.int .i64 (2 * (a0.size : Int)))).run Try.prog W = .ok (.slice (some ⟨W.heap.size, 0, none⟩) 0 (2 * a0.size)) (W.alloc (.cells (madeCells #[.int .u8 0] (2 * a0.size)) 5)) := by
    intro W
    have := run_make (P := Try.prog) W 38 5 i0 (.int .u8 0) Try.underlying38 hi hz0 .i64 .i64 0 (2 * (a0.size : Int)) (by omega) (by omega) (by rw [hz2]; omega) (by omega)
    rw [hz1] at this
    simpa [show (2 * (a0.size : Int)).toNat = 2 * a0.size by omega, Value.cells] using this
  have Z := Aside0.mk (And.intro hi (And.intro hz0 (And.intro hz1 hz2)))
  clear hi hz0 hz1 hz2
  go_enter Try.func13, Try.ntmps13
  go_wp2
  go_loopw [3, 4, 11] (fun v3 _ v11 wr => ∃ k : Nat, k ≤ a0.size ∧ v11 = .int .i64 k ∧ v3 = .slice (some ⟨w.heap.size, 0, none⟩) (2 * k) (2 * a0.size) ∧ Aside0 (wr.ownsRow w.heap.size 5 1 (.slice (some ⟨w.heap.size, 0, none⟩) (2 * k) (2 * a0.size)) (2 * k) (nums .u8 (hexRow a0 k))) ∧ Aside0 (Below w.heap.size w wr)) (fun _ _ v _ => a0.size - (intOf v).toNat)
  case atStart => exact ⟨0, Nat.zero_le _, rfl, rfl, ⟨World.ownsRow_made w _ _ (Nat.le_refl _) (by unfold maxLen; omega) (by simp [size_madeCells])⟩, ⟨(Below.refl _ _).alloc (Nat.le_refl _) _⟩⟩
  case round =>
    obtain ⟨k, hk, rfl, rfl, HO, HB⟩ := hrel
    clear hmk
    by_cases hlt : k < a0.size
    · have hb0 := (bt_range a0 k).1
      have hb1 := (bt_range a0 k).2
      have hq0 := idx_bt a0 .i64 (k : Int) (by omega) (by omega)
      have hd0 : 0 ≤ bt a0 k / 16 := by omega
      have hd1 : bt a0 k / 16 < 16 := by omega
      have hand : Go.bits .and .u8 (bt a0 k) 15 = ((bt a0 k).toNat &&& 15 : Nat) := u8_and _ _ (by omega) (by omega) (by omega) (by omega)
      have hand1 : (bt a0 k).toNat &&& 15 ≤ 15 := Nat.and_le_right
      have he0 : 0 ≤ Go.bits .and .u8 (bt a0 k) 15 := by rw [hand]; omega
      have he1 : Go.bits .and .u8 (bt a0 k) 15 < 16 := by rw [hand]; omega
      have hq1 : ∀ W, (Instr.index 9 (.string ⟨#[48, 49, 50, 51, 52, 53, 54, 55, 56, 57, 97, 98, 99, 100, 101, 102]⟩) (.int .u8 (bt a0 k / 16))).run Try.prog W = .ok (.int .u8 (bt hexText (bt a0 k / 16))) W := idx_bt hexText .u8 _ hd0 hd1
      have hq2 : ∀ W, (Instr.index 9 (.string ⟨#[48, 49, 50, 51, 52, 53, 54, 55, 56, 57, 97, 98, 99, 100, 101, 102]⟩) (.int .u8 (Go.bits .and .u8 (bt a0 k) 15))).run Try.prog W = .ok (.int .u8 (bt hexText (Go.bits .and .u8 (bt a0 k) 15))) W := idx_bt hexText .u8 _ he0 he1
      clear hand hand1
      go_wp2
      refine start_ (n := 14) (S := fun _ => True) (ds := []) #[false, false, false, false, false, false, false, false, false, false, false, false, false, false] (by kernel_rfl) rfl rfl (trivial) (fun hHeld => ?_)
      have HO2 : Aside0 (wr.drew.ownsRow w.heap.size 5 1 (.slice (some ⟨w.heap.size, 0, none⟩) (2 * k) (2 * a0.size)) (2 * k) (nums .u8 (hexRow a0 k))) := ⟨HO.out⟩
      have HB2 : Aside0 (Below w.heap.size w wr.drew) := ⟨below_drew HB.out⟩
      clear HO HB
      generalize wr.drew = ws at *
      refine pure_ (i := 0) (N := some 14) (v := ?_) (a' := ?_) #[true, false, false, false, false, false, false, false, false, false, false, false, false, false] rfl rfl (by kernel_rfl) (fun _ _ _ h => h) (Or.inl ⟨by rfl, ?_⟩) ?_ ?_
      rotate_left
      · intro w'
        go_simp
        with_reducible rfl
      rotate_left
      · simp only [Act.put, List.setIfInBounds_toArray, List.set_cons_zero, List.set_cons_succ, i64_w, i32_w]
        rfl
      refine pure_ (i := 1) (N := some 15) (v := ?_) (a' := ?_) #[true, true, false, false, false, false, false, false, false, false, false, false, false, false] rfl rfl (by kernel_rfl) (fun _ _ _ h => h) (Or.inl ⟨by rfl, ?_⟩) ?_ ?_
      rotate_left
      · intro w'
        go_simp
        with_reducible rfl
      rotate_left
      · simp only [Act.put, List.setIfInBounds_toArray, List.set_cons_zero, List.set_cons_succ, i64_w, i32_w]
        rfl
      refine pure_ (i := 2) (N := some 16) (v := ?_) (a' := ?_) #[true, true, true, false, false, false, false, false, false, false, false, false, false, false] rfl rfl (by kernel_rfl) (fun _ _ _ h => h) (Or.inl ⟨by rfl, ?_⟩) ?_ ?_
      rotate_left
      · intro w'
        go_simp
        with_reducible rfl
      rotate_left
      · simp only [Act.put, List.setIfInBounds_toArray, List.set_cons_zero, List.set_cons_succ, i64_w, i32_w]
        rfl
      refine pure_ (i := 3) (N := some 17) (v := ?_) (a' := ?_) #[true, true, true, true, false, false, false, false, false, false, false, false, false, false] rfl rfl (by kernel_rfl) (fun _ _ _ h => h) (Or.inl ⟨by rfl, ?_⟩) ?_ ?_
      rotate_left
      · intro w'
        go_simp
        with_reducible rfl
      rotate_left
      · simp only [Act.put, List.setIfInBounds_toArray, List.set_cons_zero, List.set_cons_succ, i64_w, i32_w]
        rfl
      refine pure_ (i := 4) (N := some 18) (v := ?_) (a' := ?_) #[true, true, true, true, true, false, false, false, false, false, false, false, false, false] rfl rfl (by kernel_rfl) (fun _ _ _ h => h) (Or.inl ⟨by rfl, ?_⟩) ?_ ?_
      rotate_left
      · intro w'
        go_simp
        with_reducible rfl
      rotate_left
      · simp only [Act.put, List.setIfInBounds_toArray, List.set_cons_zero, List.set_cons_succ, i64_w, i32_w]
        rfl
      refine pure_ (i := 5) (N := some 19) (v := ?_) (a' := ?_) #[true, true, true, true, true, true, false, false, false, false, false, false, false, false] rfl rfl (by kernel_rfl) (fun _ _ _ h => h) (Or.inl ⟨by rfl, ?_⟩) ?_ ?_
      rotate_left
      · intro w'
        go_simp
        with_reducible rfl
      rotate_left
      · simp only [Act.put, List.setIfInBounds_toArray, List.set_cons_zero, List.set_cons_succ, i64_w, i32_w]
        rfl
      refine pure_ (i := 6) (N := some 20) (v := ?_) (a' := ?_) #[true, true, true, true, true, true, true, false, false, false, false, false, false, false] rfl rfl (by kernel_rfl) (fun _ _ _ h => h) (Or.inl ⟨by rfl, ?_⟩) ?_ ?_
      rotate_left
      · intro w'
        go_simp
        with_reducible rfl
      rotate_left
      · simp only [Act.put, List.setIfInBounds_toArray, List.set_cons_zero, List.set_cons_succ, i64_w, i32_w]
        rfl
      refine pure_ (i := 7) (N := some 21) (v := ?_) (a' := ?_) #[true, true, true, true, true, true, true, true, false, false, false, false, false, false] rfl rfl (by kernel_rfl) (fun _ _ _ h => h) (Or.inl ⟨by rfl, ?_⟩) ?_ ?_
      rotate_left
      · intro w'
        go_simp
        with_reducible rfl
      rotate_left
      · simp only [Act.put, List.setIfInBounds_toArray, List.set_cons_zero, List.set_cons_succ, i64_w, i32_w]
        rfl
      refine pure_ (i := 8) (N := some 22) (v := ?_) (a' := ?_) #[true, true, true, true, true, true, true, true, true, false, false, false, false, false] rfl rfl (by kernel_rfl) (fun _ _ _ h => h) (Or.inl ⟨by rfl, ?_⟩) ?_ ?_
      rotate_left
      · intro w'
        go_simp
        with_reducible rfl
      rotate_left
      · simp only [Act.put, List.setIfInBounds_toArray, List.set_cons_zero, List.set_cons_succ, i64_w, i32_w]
        rfl
      refine pure_ (i := 9) (N := some 23) (v := ?_) (a' := ?_) #[true, true, true, true, true, true, true, true, true, true, false, false, false, false] rfl rfl (by kernel_rfl) (fun _ _ _ h => h) (Or.inl ⟨by rfl, ?_⟩) ?_ ?_
      rotate_left
      · intro w'
        go_simp
        with_reducible rfl
      rotate_left
      · simp only [Act.put, List.setIfInBounds_toArray, List.set_cons_zero, List.set_cons_succ, i64_w, i32_w]
        rfl
      refine pure_ (i := 10) (N := some 24) (v := ?_) (a' := ?_) #[true, true, true, true, true, true, true, true, true, true, true, false, false, false] rfl rfl (by kernel_rfl) (fun _ _ _ h => h) (Or.inl ⟨by rfl, ?_⟩) ?_ ?_
      rotate_left
      · intro w'
        go_simp
        with_reducible rfl
      rotate_left
      · simp only [Act.put, List.setIfInBounds_toArray, List.set_cons_zero, List.set_cons_succ, i64_w, i32_w]
        rfl
      refine one_ (i := 11) (N := some 25) #[true, true, true, true, true, true, true, true, true, true, true, true, false, false] rfl rfl (by kernel_rfl) (by decide) (fun K hK => ?_)
      refine value_ (w1 := ws.alloc (.cells #[.int .u8 (bt hexText (bt a0 k / 16)), .int .u8 (bt hexText (Go.bits .and .u8 (bt a0 k) 15))] 5)) (v := .slice (some ⟨ws.heap.size, 0, none⟩) 2 2) (by rfl) rfl ?_ ?_
      · go_simp
      refine hK.out _ _ trivial (fun _ => ?_)
      clear hK K
      refine one_ (i := 12) (N := some 26) #[true, true, true, true, true, true, true, true, true, true, true, true, true, false] rfl rfl (by kernel_rfl) (by decide) (fun K hK => ?_)
      rw [if_pos (by rfl)]
      obtain ⟨hi, hz0, hz1, hz2⟩ := Z.out
      refine wp_append_own_spare _ (.tmp 14) (.tmp 25) 38 rfl w.heap.size 5 i0 1 Try.underlying38 hi hz1 w.heap.size (2 * k) (2 * a0.size) (nums .u8 (hexRow a0 k)) rfl (HO2.out.alloc _) ⟨ws.heap.size, 0, none⟩ 2 2 [.int .u8 (bt hexText (bt a0 k / 16)), .int .u8 (bt hexText (Go.bits .and .u8 (bt a0 k) 15))] rfl rfl
        (World.news_of_block (heap_alloc_new ws _)) (by simp [Value.oneCell']) (by omega) ?_
      intro w2 hown hg
      refine hK.out _ _ trivial (fun _ => ?_)
      clear hK K
      have HO3 := Aside0.mk hown
      have HB3 := Aside0.mk (pw_below_grown (below_alloc HB2.out _) _ (by have := HB2.out.size; simp; omega) hg (by rintro k hk; cases hk; exact Nat.le_refl _))
      clear hown hg HO2 HB2 hi hz0 hz1 hz2
      refine pure_ (i := 13) (N := some 3) (v := ?_) (a' := ?_) #[true, true, true, true, true, true, true, true, true, true, true, true, true, true] rfl rfl (by kernel_rfl) (fun _ _ _ h => h) (Or.inl ⟨by rfl, ?_⟩) ?_ ?_
      rotate_left
      · intro w'
        go_simp
        with_reducible rfl
      rotate_left
      · simp only [Act.put, List.setIfInBounds_toArray, List.set_cons_zero, List.set_cons_succ, i64_w, i32_w]
        rfl
      refine done_ (by kernel_rfl) ?_
      go_wp2
      go_roundw
      case rel =>
        refine ⟨k + 1, by omega, by go_num, rfl, ⟨?_⟩, HB3⟩
        have := HO3.out
        simpa [hexRow, nums, Nat.mul_add] using this
      case measure => simp [intOf]; omega
    · obtain rfl : k = a0.size := by omega
      have hcv := own_string (P := Try.prog) Try.underlying38 Try.underlying5 Try.underlying9 HO.out
      go_wp2
      go_ret
      exact ⟨rfl, HB.out⟩
end Go.Proofs.Ytjbjdccnbjddjaa
