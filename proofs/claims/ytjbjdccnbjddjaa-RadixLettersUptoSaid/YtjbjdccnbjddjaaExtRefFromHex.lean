import Derived.Test.YtjbjdccnbjddjaaProg
import Derived.Below
import Derived.Deep.Draws
import Derived.Deep.AppendLies
import Derived.Maps.AppendAt
import Derived.OwnWalk
import Derived.Laws.BytesArg
import Derived.Laws.MakeOwn
import Derived.Laws.OwnMore
import Derived.Deep.OwnRows
import Derived.Tactics
import Derived.Lib.ConvBytes
import Derived.Laws.Slices
import Derived.WalkKit
import Derived.KernelRfl
import Derived.RowKit3
import Derived.Deep.LoopGhost
import Derived.Deep.QuietTactic
import Derived.BigQuiet
import Derived.WideLaws
import Derived.Deep.DeepCutAuto
import Derived.Deep.CutBlock
import Derived.Deep.RegionHeld3
import Derived.Laws.Rows
import Derived.Lib.AppendStr
import Derived.ArgAppend
import Derived.Laws.IdiomCopy
import Derived.OrdersHeld
import Derived.Laws.BitsLemmas
import Derived.RowKit
import Derived.Test.YtjbjdccnbjddjaaWWords
import Derived.Test.YtjbjdccnbjddjaaWLast
import Derived.Test.YtjbjdccnbjddjaaWTab
import Derived.Test.YtjbjdccnbjddjaaWFour
import Derived.Test.YtjbjdccnbjddjaaWQPut
import Derived.Test.YtjbjdccnbjddjaaWApart
import Derived.Test.YtjbjdccnbjddjaaWArr
import Derived.Test.YtjbjdccnbjddjaaWZeros
import Derived.Test.YtjbjdccnbjddjaaWFoot
import Derived.Test.YtjbjdccnbjddjaaWKept
import Derived.Test.YtjbjdccnbjddjaaWShare
import Derived.Test.YtjbjdccnbjddjaaWN
import Derived.Test.YtjbjdccnbjddjaaWFootNe
import Derived.Test.YtjbjdccnbjddjaaWAt
import Derived.Test.YtjbjdccnbjddjaaWEqStruct
import Derived.Test.YtjbjdccnbjddjaaWRepsOne
import Derived.Test.YtjbjdccnbjddjaaWInv
import Derived.Test.YtjbjdccnbjddjaaWInvWords
import Derived.Test.YtjbjdccnbjddjaaWGuard
import Derived.Test.YtjbjdccnbjddjaaWNEv
import Derived.Test.YtjbjdccnbjddjaaWMore
import Derived.StillTailTactics
import Derived.Test.YtjbjdccnbjddjaaExtFromHex
import Derived.Laws.BitsAllLaws
namespace Go.Proofs.Ytjbjdccnbjddjaa
open Go.RowKit Go.Proofs.YtjbjdccnbjddjaaW.PrintWords Go.Proofs.YtjbjdccnbjddjaaW.PrintLast Go.Proofs.YtjbjdccnbjddjaaW.PrintMore
set_option linter.unusedSimpArgs false
set_option linter.unusedVariables false

/-- A hexadecimal digit. -/
def digitOf (d : Int) : Int := if d < 10 then 48 + d else 97 + d - 10
def depotref02_digit.f (d : Int) : Option Int := if 0 ≤ d ∧ d < 16 then some (digitOf d) else none
theorem depotref02_digit.calls (a0 : Int) (r : Int) (w : World) (h : depotref02_digit.f a0 = some r) :
    Calls Try.prog 25 #[.int .u8 a0] w fun e w' => e = .returned (.int .u8 r) ∧ Drawn0 w w' := by
  by_cases hr : 0 ≤ a0 ∧ a0 < 16
  case neg => simp [depotref02_digit.f, hr] at h
  simp only [depotref02_digit.f, if_pos hr, Option.some.injEq] at h
  subst h
  obtain ⟨h0, h1⟩ := hr
  unfold digitOf
  by_cases h10 : a0 < 10
  · go_enter Try.func25, Try.ntmps25
    go_wp2
    go_ret
    exact ⟨by simp [h10], Drawn0.refl _⟩
  · go_enter Try.func25, Try.ntmps25
    go_wp2
    go_ret
    exact ⟨by simp [h10], Drawn0.refl _⟩
/-- The digit's value by trying all, the last that fits; 16: none. -/
def scan (c : Int) : Nat → Int
  | 0 => 16
  | d + 1 => if digitOf d = c then d else scan c d
theorem scan_is : ∀ c : Fin 256, scan (c.val : Int) 16 = if Lib.indexByte hexText.data.toList ((c.val : Int)).toNat.toUInt8 < 0 then 16 else Lib.indexByte hexText.data.toList ((c.val : Int)).toNat.toUInt8 := by decide +kernel
theorem scan_hexAt (b : ByteArray) (k : Nat) : scan (bt b k) 16 = if hexAt b k < 0 then 16 else hexAt b k := by
  obtain ⟨h0, h1⟩ := bt_range b k
  have := scan_is ⟨(bt b k).toNat, by omega⟩
  simp only [show (((bt b k).toNat : Nat) : Int) = bt b k by omega] at this
  exact this
theorem scan_range (c : Int) (d : Nat) (hd : d ≤ 16) : 0 ≤ scan c d ∧ scan c d ≤ 16 := by
  induction d with
  | zero => simp [scan]
  | succ d ih =>
    rw [scan]
    split
    · omega
    · exact ih (by omega)
theorem or16 (r x : Int) (h0 : 0 ≤ x) (h1 : x < 16) : Go.bits .or .u8 (r * 16 % 256) x = r * 16 % 256 + x := by
  obtain ⟨y, rfl⟩ := Int.eq_ofNat_of_zero_le h0
  obtain ⟨q, hq, hq16⟩ : ∃ q : Nat, r * 16 % 256 = ((16 * q : Nat) : Int) ∧ q < 16 := ⟨(r % 16).toNat, by omega, by omega⟩
  rw [hq, u8_or_nat (16 * q) y (by omega) (by omega), ← Nat.two_pow_add_eq_or_of_lt (i := 4) (by omega) q]
  push_cast
  rfl
def depotref02_FromHex.f (b : ByteArray) : Option (ByteArray × Int) := radix_FromHex.f b

set_option maxHeartbeats 1000000 in
set_option maxRecDepth 100000 in
theorem depotref02_FromHex.calls (a0 : ByteArray) (r1 : ByteArray) (r2 : Int) (w : World) (h : depotref02_FromHex.f a0 = some (r1, r2)) :
    Calls Try.prog 15 #[.string a0] w fun e w' => e = .returned (.tuple #[.string r1, .int .i64 r2]) ∧ Below w.heap.size w w' := by
  unfold depotref02_FromHex.f at h
  by_cases hs : a0.size ≤ 281474976710656
  case neg => simp [radix_FromHex.f, hs] at h
  by_cases h2 : a0.size % 2 ≠ 0
  · simp only [radix_FromHex.f, if_pos hs, if_pos h2, Option.some.injEq, Prod.mk.injEq] at h
    obtain ⟨rfl, rfl⟩ := h
    have hb : (((a0.size : Int) % 2) == 1) = true := by rw [beq_iff_eq]; omega
    clear h2
    go_enter Try.func15, Try.ntmps15
    go_wp2
    go_ret2
    exact ⟨rfl, Below.refl _ _⟩
  · simp only [radix_FromHex.f, if_pos hs, if_neg h2] at h
    have H := Aside0.mk h
    clear h
    have hb : (((a0.size : Int) % 2) == 1) = false := by rw [beq_eq_false_iff_ne]; omega
    have HE : Aside0 (a0.size % 2 = 0) := ⟨by omega⟩
    clear h2
    obtain ⟨m, hm⟩ : ∃ m, a0.size / 2 = m := ⟨_, rfl⟩
    have hm2 : (a0.size : Int) / 2 = (m : Int) := by omega
    have hm3 : m ≤ 281474976710656 := by omega
    have HM := Aside0.mk hm
    clear hm
    have hmk := print_make (P := Try.prog) 38 5 .u8 1 Try.underlying38 (by kernel_rfl) (by decide) m (by omega)
    go_enter Try.func15, Try.ntmps15
    go_wp2
    clear hm2
    go_loopw [5, 6, 7] (fun v5 _ _ wr => ∃ k : Nat, k ≤ a0.size ∧ v5 = .int .i64 k ∧ Aside0 (hexGood a0 k) ∧ Aside0 (wr.heap[w.heap.size]? = some (.cells (nums .u8 (unhexRow a0 k)).toArray 5 (0, 0))) ∧ Aside0 (Below w.heap.size w wr)) (fun v _ _ _ => a0.size - (intOf v).toNat)
    case atStart => exact ⟨0, Nat.zero_le _, rfl, ⟨fun i hi => absurd hi (Nat.not_lt_zero _)⟩, ⟨by rw [heap_alloc_new, made_nums]; simp [unhexRow, HM.out]⟩, ⟨(Below.refl _ _).alloc (Nat.le_refl _) _⟩⟩
    case round =>
      clear hmk hb
      obtain ⟨k, hk, rfl, HG, HC, HB⟩ := hrel
      by_cases hlt : k < a0.size
      · have hq0 := idx_bt a0 .i64 (k : Int) (by omega) (by omega)
        obtain ⟨c, hc⟩ : ∃ c, bt a0 k = c := ⟨_, rfl⟩
        rw [hc] at hq0
        have HCC := Aside0.mk hc
        clear hc
        go_wp2
        obtain ⟨wo, rfl⟩ : ∃ wo : World, wo = wr := ⟨_, rfl⟩
        go_loopw [6, 7] (fun v6 v7 wi => ∃ (d : Nat) (x : Int) (nd : Nat), d ≤ 16 ∧ v7 = .int .i64 d ∧ v6 = .int .i64 x ∧ Aside0 (x = scan c d) ∧ wi = wo.drewN nd) (fun _ v _ => 16 - (intOf v).toNat)
        case atStart => exact ⟨0, 16, 0, Nat.zero_le _, rfl, rfl, ⟨rfl⟩, rfl⟩
        case round =>
          obtain ⟨d, x, nd, hd, rfl, rfl, HX, rfl⟩ := hrel
          by_cases hd16 : d < 16
          · have HD : Aside0 (depotref02_digit.f (d : Int) = some (digitOf d)) := ⟨by unfold depotref02_digit.f; rw [if_pos ⟨by omega, by omega⟩]⟩
            obtain ⟨y, hy⟩ : ∃ y, digitOf d = y := ⟨_, rfl⟩
            rw [hy] at HD
            have HY := Aside0.mk hy
            clear hy
            have hd256 : (d : Int) < 256 := by omega
            have hwr : IntKind.u8.wrap (d : Int) = (d : Int) := by simp [IntKind.wrap, IntKind.bits, IntKind.signed]; omega
            by_cases hyc : y = c
            case' pos => have hyc1 : (y == c) = true := beq_iff_eq.2 hyc
            case' neg => have hyc1 : (y == c) = false := beq_eq_false_iff_ne.2 hyc
            all_goals
              have HYC := Aside0.mk hyc
              clear hyc
              go_wp2
              refine start_ (n := 7) (S := fun _ => True) (ds := []) #[false, false, false, false, false, false, false] (by kernel_rfl) rfl rfl (trivial) (fun hHeld => ?_)
              refine pure_ (i := 0) (N := some 26) (v := ?_) (a' := ?_) #[true, false, false, false, false, false, false] rfl rfl (by kernel_rfl) (fun _ _ _ h => h) (Or.inl ⟨by rfl, ?_⟩) ?_ ?_
              rotate_left
              · intro w'
                go_simp
                with_reducible rfl
              rotate_left
              · simp only [Act.put, List.setIfInBounds_toArray, List.set_cons_zero, List.set_cons_succ, i64_w, i32_w]
                rfl
              refine pure_ (i := 1) (N := some 27) (v := ?_) (a' := ?_) #[true, true, false, false, false, false, false] rfl rfl (by kernel_rfl) (fun _ _ _ h => h) (Or.inl ⟨by rfl, ?_⟩) ?_ ?_
              rotate_left
              · intro w'
                go_simp
                with_reducible rfl
              rotate_left
              · simp only [Act.put, List.setIfInBounds_toArray, List.set_cons_zero, List.set_cons_succ, i64_w, i32_w]
                rfl
              refine pure_ (i := 3) (N := some 29) (v := ?_) (a' := ?_) #[true, true, false, true, false, false, false] rfl rfl (by kernel_rfl) (fun _ _ _ h => h) (Or.inl ⟨by rfl, ?_⟩) ?_ ?_
              rotate_left
              · intro w'
                go_simp
                with_reducible rfl
              rotate_left
              · simp only [Act.put, List.setIfInBounds_toArray, List.set_cons_zero, List.set_cons_succ, i64_w, i32_w]
                rfl
              refine pure_ (i := 4) (N := some 30) (v := ?_) (a' := ?_) #[true, true, false, true, true, false, false] rfl rfl (by kernel_rfl) (fun _ _ _ h => h) (Or.inl ⟨by rfl, ?_⟩) ?_ ?_
              rotate_left
              · intro w'
                go_simp
                with_reducible rfl
              rotate_left
              · simp only [Act.put, List.setIfInBounds_toArray, List.set_cons_zero, List.set_cons_succ, i64_w, i32_w]
                rfl
              refine pure_ (i := 5) (N := some 31) (v := ?_) (a' := ?_) #[true, true, false, true, true, true, false] rfl rfl (by kernel_rfl) (fun _ _ _ h => h) (Or.inl ⟨by rfl, ?_⟩) ?_ ?_
              rotate_left
              · intro w'
                go_simp
                with_reducible rfl
              rotate_left
              · simp only [Act.put, List.setIfInBounds_toArray, List.set_cons_zero, List.set_cons_succ, i64_w, i32_w]
                rfl
              refine one_ (i := 2) (N := some 28) #[true, true, true, true, true, true, false] rfl rfl (by kernel_rfl) (by decide) (fun K hK => ?_)
              refine goes_ Try.func25 (by kernel_rfl) rfl #[.int .u8 (d : Int)] (by rfl) rfl rfl (by (try simp only [List.map_toArray, List.map_cons, List.map_nil]); first | done | rfl) ?_
              refine (depotref02_digit.calls (d : Int) y _ HD.out).mono ?_
              rintro e w' ⟨rfl, ⟨nq, rfl⟩⟩
              refine ⟨_, rfl, ?_⟩
              refine hK.out _ _ trivial (fun _ => ?_)
              clear hK K
              refine pure_ (i := 6) (N := some 32) (v := ?_) (a' := ?_) #[true, true, true, true, true, true, true] rfl rfl (by kernel_rfl) (fun _ _ _ h => h) (Or.inl ⟨by rfl, ?_⟩) ?_ ?_
              rotate_left
              · intro w'
                go_simp
                with_reducible rfl
              rotate_left
              · simp only [Act.put, List.setIfInBounds_toArray, List.set_cons_zero, List.set_cons_succ, i64_w, i32_w]
                rfl
              refine done_ (by kernel_rfl) ?_
              go_wp2
              go_roundw
              case rel =>
                refine ⟨d + 1, _, _, by omega, by go_num, rfl, ⟨?_⟩, rfl⟩
                rw [scan, HY.out]
                first | rw [if_pos HYC.out] | (rw [if_neg HYC.out]; exact HX.out)
              case measure => simp [intOf]; omega
          · obtain rfl : d = 16 := by omega
            rw [← HCC.out, scan_hexAt] at HX
            by_cases hneg : hexAt a0 k < 0
            · rw [if_pos hneg] at HX
              obtain rfl : x = 16 := HX.out
              go_wp2
              go_ret2
              have hng : ¬ hexGood a0 a0.size := fun hg => by have := hg k hlt; omega
              have := H.out
              rw [if_neg hng] at this
              obtain ⟨rfl, rfl⟩ := Prod.mk.inj (Option.some.inj this)
              exact ⟨rfl, pw_below_drewN HB.out _⟩
            · rw [if_neg hneg] at HX
              have hx1 : x < 16 := by rw [HX.out]; exact hexAt_hi a0 k
              have hx0 : 0 ≤ x := by rw [HX.out]; omega
              have hxn : (x == 16) = false := by rw [beq_eq_false_iff_ne]; omega
              have hl : Aside0 ((unhexRow a0 k).length = m) := ⟨(unhexRow_length a0 k).trans HM.out⟩
              have hkm : k / 2 < m := by have := HM.out; have := HE.out; omega
              have hk2 : (k : Int) / 2 = ((k / 2 : Nat) : Int) := by omega
              generalize hj : k / 2 = j at hkm hk2
              have hcl : wo.cell? ⟨w.heap.size, j, none⟩ = some (.int .u8 (rd (unhexRow a0 k) (j : Int))) := by
                rw [blk_cell HC.out]
                have := hl.out
                simp [nums, rd, List.getElem?_eq_getElem (show j < (unhexRow a0 k).length by omega)]
              have hfr := blk_frozen HC.out j
              have HJ := Aside0.mk hj
              have HNG := Aside0.mk hneg
              clear hj hneg
              go_wp2
              go_roundw
              case rel =>
                refine ⟨k + 1, by omega, by go_num, ⟨fun i hi => ?_⟩, ⟨?_⟩, ⟨?_⟩⟩
                · rcases Nat.lt_or_ge i k with h | h
                  · exact HG.out i h
                  · obtain rfl : i = k := by omega
                    have := HNG.out
                    omega
                · have := blk_set (w := wo.drewN nd) HC.out j (.int .u8 (Go.bits .or .u8 (rd (unhexRow a0 k) (j : Int) * 16 % 256) x))
                  rw [or16 _ _ hx0 hx1] at this
                  refine Eq.trans this ?_
                  rw [unhexRow, HJ.out, ← HX.out, or16 _ _ hx0 hx1]
                  simp [nums, List.map_set]
                · exact below_set (pw_below_drewN HB.out _) (Nat.le_refl _)
              case measure => simp [intOf]; omega
      · obtain rfl : k = a0.size := by omega
        have hcv := run_convert_bytes_arg (P := Try.prog) wr 38 5 Try.underlying38 Try.underlying5 w.heap.size 0 m m (unhexRow a0 a0.size) ((unhexRow_length _ _).trans HM.out)
          (fun i hi => by
            rw [blk_cell HC.out]
            have hl := unhexRow_length a0 a0.size
            have := HM.out
            simp [nums, List.getElem?_eq_getElem (show i < (unhexRow a0 a0.size).length by omega)]) 9 Try.underlying9
        go_wp2
        go_ret2
        have := H.out
        rw [if_pos HG.out] at this
        obtain ⟨rfl, rfl⟩ := Prod.mk.inj (Option.some.inj this)
        exact ⟨rfl, HB.out⟩
end Go.Proofs.Ytjbjdccnbjddjaa
