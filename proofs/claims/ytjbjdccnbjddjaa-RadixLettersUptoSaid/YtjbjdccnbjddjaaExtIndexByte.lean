import Derived.Test.YtjbjdccnbjddjaaProg
import Derived.Below
import Derived.Deep.Draws
import Derived.Deep.AppendLies
import Derived.Maps.AppendAt
import Derived.OwnWalk
import Derived.Laws.BytesArg
import Derived.Laws.MakeOwn
import Derived.Laws.OwnMore
import Derived.Deep.OwnRows
import Derived.Tactics
import Derived.Lib.ConvBytes
import Derived.Laws.Slices
import Derived.WalkKit
import Derived.KernelRfl
import Derived.RowKit3
import Derived.Deep.LoopGhost
import Derived.Deep.QuietTactic
import Derived.BigQuiet
import Derived.WideLaws
import Derived.Deep.DeepCutAuto
import Derived.Deep.CutBlock
import Derived.Deep.RegionHeld3
import Derived.Laws.Rows
import Derived.Lib.AppendStr
import Derived.ArgAppend
import Derived.Laws.IdiomCopy
import Derived.OrdersHeld
import Derived.Laws.BitsLemmas
import Derived.RowKit
import Derived.Test.YtjbjdccnbjddjaaWWords
import Derived.Test.YtjbjdccnbjddjaaWLast
import Derived.Test.YtjbjdccnbjddjaaWTab
import Derived.Test.YtjbjdccnbjddjaaWFour
import Derived.Test.YtjbjdccnbjddjaaWQPut
import Derived.Test.YtjbjdccnbjddjaaWApart
import Derived.Test.YtjbjdccnbjddjaaWArr
import Derived.Test.YtjbjdccnbjddjaaWZeros
import Derived.Test.YtjbjdccnbjddjaaWFoot
import Derived.Test.YtjbjdccnbjddjaaWKept
import Derived.Test.YtjbjdccnbjddjaaWShare
import Derived.Test.YtjbjdccnbjddjaaWN
import Derived.Test.YtjbjdccnbjddjaaWFootNe
import Derived.Test.YtjbjdccnbjddjaaWAt
import Derived.Test.YtjbjdccnbjddjaaWEqStruct
import Derived.Test.YtjbjdccnbjddjaaWRepsOne
import Derived.Test.YtjbjdccnbjddjaaWInv
import Derived.Test.YtjbjdccnbjddjaaWInvWords
import Derived.Test.YtjbjdccnbjddjaaWGuard
import Derived.Test.YtjbjdccnbjddjaaWNEv
import Derived.Test.YtjbjdccnbjddjaaWMore
import Derived.StillTailTactics
import Derived.Lib.Bytealg
import Derived.Laws.Externs
namespace Go.Proofs.Ytjbjdccnbjddjaa
open Go.RowKit Go.Proofs.YtjbjdccnbjddjaaW.PrintWords Go.Proofs.YtjbjdccnbjddjaaW.PrintLast Go.Proofs.YtjbjdccnbjddjaaW.PrintMore

/-- s[i], as the walk meets it. -/
theorem idx_bt (s : ByteArray) (k : IntKind) (i : Int) (h0 : 0 ≤ i) (h1 : i < (s.size : Int)) (w : World) : (Instr.index 9 (.string s) (.int k i)).run Try.prog w = .ok (.int .u8 (bt s i)) w := by
  have h2 : i.toNat < s.size := by omega
  rw [run_index_string w 9 s k _ Try.underlying9, dif_pos ⟨h0, h1⟩]
  unfold bt
  rw [dif_pos h2]
/-- The first place of a byte in a text, or -1. -/
def strings_IndexByte.f (s : ByteArray) (c : Int) : Option Int := some (Lib.indexByte s.data.toList c.toNat.toUInt8)
theorem index_extern (s : ByteArray) (c : Int) (w : World) : (callFunc 28 #[.string s, .int .u8 c]).run Try.prog w = .ok (.value (.int .i64 (Lib.indexByte s.data.toList c.toNat.toUInt8))) w := by
  rw [run_callFunc_extern Try.func28 (by kernel_rfl) (by kernel_rfl) (by kernel_rfl) (e := Extern.BytealgIndexByte.indexByte) (by kernel_rfl), Lib.run_indexByteString]
  rfl
theorem stringslite_IndexByte.calls (s : ByteArray) (c : Int) (w : World) :
    Calls Try.prog 27 #[.string s, .int .u8 c] w fun e w' => e = .returned (.int .i64 (Lib.indexByte s.data.toList c.toNat.toUInt8)) ∧ Drawn0 w w' := by
  have hx := index_extern s c
  generalize Lib.indexByte s.data.toList c.toNat.toUInt8 = r at *
  go_enter Try.func27, Try.ntmps27
  go_wp2
  go_ret
  exact ⟨rfl, Drawn0.refl _⟩
theorem strings_IndexByte.calls (s : ByteArray) (c : Int) (r : Int) (w : World) (h : strings_IndexByte.f s c = some r) :
    Calls Try.prog 24 #[.string s, .int .u8 c] w fun e w' => e = .returned (.int .i64 r) ∧ Drawn0 w w' := by
  have hx := fun w => stringslite_IndexByte.calls s c w
  unfold strings_IndexByte.f at h
  obtain rfl := Option.some.inj h
  clear h
  generalize Lib.indexByte s.data.toList c.toNat.toUInt8 = r at *
  have HX := Aside0.mk hx
  clear hx
  go_enter Try.func24, Try.ntmps24
  go_wp2_with fail
  ((with_reducible refine (HX.out _).mono ?_); rintro e w1 ⟨rfl, hw⟩)
  obtain ⟨n, rfl⟩ := hw
  go_wp2_with fail
  go_ret
  exact ⟨rfl, ⟨n, rfl⟩⟩
end Go.Proofs.Ytjbjdccnbjddjaa
