import Derived.Test.YtnemeeidomceiaaDoorMg0
import Derived.Test.YtnemeeidomceiaaDoorMg1
import Derived.Test.YtnemeeidomceiaaDoorMg2
import Derived.Test.YtnemeeidomceiaaDoorProg
import Derived.Test.YtnemeeidomceiaaDoorWArr
import Derived.Test.YtnemeeidomceiaaDoorWEqStruct
import Derived.Test.YtnemeeidomceiaaDoorWGuard
import Derived.Test.YtnemeeidomceiaaDoorWLast
import Derived.Test.YtnemeeidomceiaaDoorWRepsOne
import Derived.Test.YtnemeeidomceiaaDoorWWords
import Derived.ArgAppend
import Derived.Below
import Derived.BigQuiet
import Derived.Deep.AppendLies
import Derived.Deep.CutBlock
import Derived.Deep.DeepCutAuto
import Derived.Deep.Draws
import Derived.Deep.LoopGhost
import Derived.Deep.OwnRows
import Derived.Deep.QuietTactic
import Derived.Deep.RegionHeld3
import Derived.KernelRfl
import Derived.Laws.BitsLemmas
import Derived.Laws.BytesArg
import Derived.Laws.IdiomCopy
import Derived.Laws.MakeOwn
import Derived.Laws.OwnMore
import Derived.Laws.Rows
import Derived.Laws.Slices
import Derived.Lib.AppendStr
import Derived.Lib.ConvBytes
import Derived.Maps.AppendAt
import Derived.OrdersHeld
import Derived.OwnWalk
import Derived.RowKit
import Derived.RowKit3
import Derived.Tactics
import Derived.WalkKit
import Derived.WideLaws
section
-- Written by a program of this session (wip/tools/xprint.py, which calls the kit's printer): not trusted, Lean checks it.
namespace Go.Proofs.YtnemeeidomceiaaDoor
open Go.RowKit Go.Proofs.YtnemeeidomceiaaDoorW.PrintWords Go.Proofs.YtnemeeidomceiaaDoorW.PrintLast Go.Proofs.YtnemeeidomceiaaDoorW.PrintMore
attribute [local go_sem] max2_int min2_int max_two min_two max_three min_three max_four min_four   -- for this text's walks alone
set_option linter.unusedVariables false
set_option linter.unusedSimpArgs false

/-! #### struct type 27 -/
structure S27 where
  f0 : ByteArray
  f1 : Int
  f2 : Bool
  f3 : ByteArray
def z27 : S27 := ⟨(⟨#[]⟩ : ByteArray), (0 : Int), false, (⟨#[]⟩ : ByteArray)⟩
def k27 : Kd S27 := Kd.iso (Kd.pair Kd.string (Kd.pair (Kd.int .i64) (Kd.pair Kd.bool Kd.string))) (fun x : S27 => (x.f0, x.f1, x.f2, x.f3))
theorem k27_heap : Kd.Heap k27 := Kd.heap_iso _ (Kd.heap_pair Kd.heap_string (Kd.heap_pair (Kd.heap_int .i64) (Kd.heap_pair Kd.heap_bool Kd.heap_string)))
theorem k27_open {w : World} {x : S27} {cs : List Value} (h : k27.K w x cs) : cs = [.string x.f0, .int .i64 x.f1, .bool x.f2, .string x.f3] := by
  obtain ⟨_, _, rfl, rfl, ⟨_, _, rfl, rfl, ⟨_, _, rfl, rfl, rfl⟩⟩⟩ := h
  exact rfl
theorem k27_openM {w : World} {base : Nat} {ok : Nat → Prop} {x : S27} {cs : List Value} (h : k27.M w base ok x cs) : cs = [.string x.f0, .int .i64 x.f1, .bool x.f2, .string x.f3] := by
  obtain ⟨_, _, rfl, rfl, ⟨_, _, rfl, rfl, ⟨_, _, rfl, rfl, rfl⟩⟩⟩ := h
  exact rfl
theorem k27_mk (w : World) (x : S27)  : k27.K w x [.string x.f0, .int .i64 x.f1, .bool x.f2, .string x.f3] := ⟨[.string x.f0], [.int .i64 x.f1, .bool x.f2, .string x.f3], rfl, rfl, ⟨[.int .i64 x.f1], [.bool x.f2, .string x.f3], rfl, rfl, ⟨[.bool x.f2], [.string x.f3], rfl, rfl, rfl⟩⟩⟩
theorem k27_mkM (w : World) (base : Nat) (ok : Nat → Prop) (x : S27)  : k27.M w base ok x [.string x.f0, .int .i64 x.f1, .bool x.f2, .string x.f3] := ⟨[.string x.f0], [.int .i64 x.f1, .bool x.f2, .string x.f3], rfl, rfl, ⟨[.int .i64 x.f1], [.bool x.f2, .string x.f3], rfl, rfl, ⟨[.bool x.f2], [.string x.f3], rfl, rfl, rfl⟩⟩⟩
theorem k27_mkF (W : World) (ok : Nat → Prop) (x : S27) : Kd.FK k27 W ok x [.string x.f0, .int .i64 x.f1, .bool x.f2, .string x.f3] := fun W2 _ => k27_mk W2 x
def rd_T27 (xs : List S27) (i : Int) : S27 := xs.getD i.toNat z27
theorem at_T27 {w : World} {A : Option Addr} {n : Nat} {xs : List S27} (h : Kd.C k27 w A n xs) (i : Int) (h0 : 0 ≤ i) (h1 : i < n) : ∃ ad , A = some ad ∧ w.cell? (ad.add (i.toNat * 4)) = some (.string (rd_T27 xs i).f0) ∧ w.cell? ⟨(ad.add (i.toNat * 4)).block, (ad.add (i.toNat * 4)).off + 1, none⟩ = some (.int .i64 (rd_T27 xs i).f1) ∧ w.cell? ⟨(ad.add (i.toNat * 4)).block, (ad.add (i.toNat * 4)).off + 2, none⟩ = some (.bool (rd_T27 xs i).f2) ∧ w.cell? ⟨(ad.add (i.toNat * 4)).block, (ad.add (i.toNat * 4)).off + 3, none⟩ = some (.string (rd_T27 xs i).f3) := by
  obtain ⟨ad, c, e, _, hK, hc0⟩ := Kd.C_get h z27 i h0 h1
  have hc : ∀ j u, c[j]? = some u → w.cell? (ad.add (i.toNat * 4 + j)) = some u := hc0
  obtain rfl := k27_open hK
  exact ⟨ad, e, hc 0 _ rfl, by rw [← add_field _ _ 1 (by omega)]; exact hc 1 _ rfl, by rw [← add_field _ _ 2 (by omega)]; exact hc 2 _ rfl, by rw [← add_field _ _ 3 (by omega)]; exact hc 3 _ rfl⟩

def rd_L4 (xs : List (List S27)) (i : Int) : (List S27) := xs.getD i.toNat ([] : List S27)
theorem at_L4 {w : World} {A : Option Addr} {n : Nat} {xs : List (List S27)} (h : Kd.C (Kd.slice 27 k27) w A n xs) (i : Int) (h0 : 0 ≤ i) (h1 : i < n) : ∃ ad A0 c0, A = some ad ∧ w.cell? (ad.add i.toNat) = some (.slice A0 (rd_L4 xs i).length c0) ∧ (rd_L4 xs i).length ≤ c0 ∧ k27.C w A0 (rd_L4 xs i).length (rd_L4 xs i) := by
  obtain ⟨ad, c, e, _, hK, hc0⟩ := Kd.C_get h ([] : List S27) i h0 h1
  have hc : ∀ j u, c[j]? = some u → w.cell? (ad.add (i.toNat * 1 + j)) = some u := hc0
  obtain ⟨A0, c0, rfl, l0, g0⟩ := hK
  exact ⟨ad, A0, c0, e, by have hq := hc 0 _ rfl; rwa [Nat.mul_one, Nat.add_zero] at hq, l0, g0⟩

/-! #### struct type 29 -/
structure S29 where
  f0 : ByteArray
  f1 : Int
  f2 : Bool
  f3 : ByteArray
def z29 : S29 := ⟨(⟨#[]⟩ : ByteArray), (0 : Int), false, (⟨#[]⟩ : ByteArray)⟩
def k29 : Kd S29 := Kd.iso (Kd.pair Kd.string (Kd.pair (Kd.int .i64) (Kd.pair Kd.bool Kd.string))) (fun x : S29 => (x.f0, x.f1, x.f2, x.f3))
theorem k29_heap : Kd.Heap k29 := Kd.heap_iso _ (Kd.heap_pair Kd.heap_string (Kd.heap_pair (Kd.heap_int .i64) (Kd.heap_pair Kd.heap_bool Kd.heap_string)))
theorem k29_open {w : World} {x : S29} {cs : List Value} (h : k29.K w x cs) : cs = [.string x.f0, .int .i64 x.f1, .bool x.f2, .string x.f3] := by
  obtain ⟨_, _, rfl, rfl, ⟨_, _, rfl, rfl, ⟨_, _, rfl, rfl, rfl⟩⟩⟩ := h
  exact rfl
theorem k29_openM {w : World} {base : Nat} {ok : Nat → Prop} {x : S29} {cs : List Value} (h : k29.M w base ok x cs) : cs = [.string x.f0, .int .i64 x.f1, .bool x.f2, .string x.f3] := by
  obtain ⟨_, _, rfl, rfl, ⟨_, _, rfl, rfl, ⟨_, _, rfl, rfl, rfl⟩⟩⟩ := h
  exact rfl
theorem k29_mk (w : World) (x : S29)  : k29.K w x [.string x.f0, .int .i64 x.f1, .bool x.f2, .string x.f3] := ⟨[.string x.f0], [.int .i64 x.f1, .bool x.f2, .string x.f3], rfl, rfl, ⟨[.int .i64 x.f1], [.bool x.f2, .string x.f3], rfl, rfl, ⟨[.bool x.f2], [.string x.f3], rfl, rfl, rfl⟩⟩⟩
theorem k29_mkM (w : World) (base : Nat) (ok : Nat → Prop) (x : S29)  : k29.M w base ok x [.string x.f0, .int .i64 x.f1, .bool x.f2, .string x.f3] := ⟨[.string x.f0], [.int .i64 x.f1, .bool x.f2, .string x.f3], rfl, rfl, ⟨[.int .i64 x.f1], [.bool x.f2, .string x.f3], rfl, rfl, ⟨[.bool x.f2], [.string x.f3], rfl, rfl, rfl⟩⟩⟩
theorem k29_mkF (W : World) (ok : Nat → Prop) (x : S29) : Kd.FK k29 W ok x [.string x.f0, .int .i64 x.f1, .bool x.f2, .string x.f3] := fun W2 _ => k29_mk W2 x
def rd_T29 (xs : List S29) (i : Int) : S29 := xs.getD i.toNat z29
theorem at_T29 {w : World} {A : Option Addr} {n : Nat} {xs : List S29} (h : Kd.C k29 w A n xs) (i : Int) (h0 : 0 ≤ i) (h1 : i < n) : ∃ ad , A = some ad ∧ w.cell? (ad.add (i.toNat * 4)) = some (.string (rd_T29 xs i).f0) ∧ w.cell? ⟨(ad.add (i.toNat * 4)).block, (ad.add (i.toNat * 4)).off + 1, none⟩ = some (.int .i64 (rd_T29 xs i).f1) ∧ w.cell? ⟨(ad.add (i.toNat * 4)).block, (ad.add (i.toNat * 4)).off + 2, none⟩ = some (.bool (rd_T29 xs i).f2) ∧ w.cell? ⟨(ad.add (i.toNat * 4)).block, (ad.add (i.toNat * 4)).off + 3, none⟩ = some (.string (rd_T29 xs i).f3) := by
  obtain ⟨ad, c, e, _, hK, hc0⟩ := Kd.C_get h z29 i h0 h1
  have hc : ∀ j u, c[j]? = some u → w.cell? (ad.add (i.toNat * 4 + j)) = some u := hc0
  obtain rfl := k29_open hK
  exact ⟨ad, e, hc 0 _ rfl, by rw [← add_field _ _ 1 (by omega)]; exact hc 1 _ rfl, by rw [← add_field _ _ 2 (by omega)]; exact hc 2 _ rfl, by rw [← add_field _ _ 3 (by omega)]; exact hc 3 _ rfl⟩

def rd_L6 (xs : List (List S29)) (i : Int) : (List S29) := xs.getD i.toNat ([] : List S29)
theorem at_L6 {w : World} {A : Option Addr} {n : Nat} {xs : List (List S29)} (h : Kd.C (Kd.slice 29 k29) w A n xs) (i : Int) (h0 : 0 ≤ i) (h1 : i < n) : ∃ ad A0 c0, A = some ad ∧ w.cell? (ad.add i.toNat) = some (.slice A0 (rd_L6 xs i).length c0) ∧ (rd_L6 xs i).length ≤ c0 ∧ k29.C w A0 (rd_L6 xs i).length (rd_L6 xs i) := by
  obtain ⟨ad, c, e, _, hK, hc0⟩ := Kd.C_get h ([] : List S29) i h0 h1
  have hc : ∀ j u, c[j]? = some u → w.cell? (ad.add (i.toNat * 1 + j)) = some u := hc0
  obtain ⟨A0, c0, rfl, l0, g0⟩ := hK
  exact ⟨ad, A0, c0, e, by have hq := hc 0 _ rfl; rwa [Nat.mul_one, Nat.add_zero] at hq, l0, g0⟩

/-! #### struct type 63, nested in itself -/
structure S63 where
  f0 : ByteArray
  f1 : Int
  f2 : Bool
  f3 : ByteArray
  f4 : (List S63)
def z63 : S63 := ⟨(⟨#[]⟩ : ByteArray), (0 : Int), false, (⟨#[]⟩ : ByteArray), ([] : List S63)⟩
def F63 (d : Kd S63) : Kd S63 := Kd.iso (Kd.pair Kd.string (Kd.pair (Kd.int .i64) (Kd.pair Kd.bool (Kd.pair Kd.string (Kd.slice 63 d))))) (fun x : S63 => (x.f0, x.f1, x.f2, x.f3, x.f4))
theorem mono63 : Kd.Mono F63 := Kd.mono_iso _ (Kd.mono_pair (Kd.mono_const _) (Kd.mono_pair (Kd.mono_const _) (Kd.mono_pair (Kd.mono_const _) (Kd.mono_pair (Kd.mono_const _) (Kd.mono_slice 63 Kd.mono_id)))))
theorem sub63 : Kd.Sub F63 [63] := Kd.sub_iso _ (Kd.sub_pair (Kd.sub_const _ (by decide)) (Kd.sub_pair (Kd.sub_const _ (by decide)) (Kd.sub_pair (Kd.sub_const _ (by decide)) (Kd.sub_pair (Kd.sub_const _ (by decide)) (Kd.sub_slice 63 (by decide) Kd.sub_id)))))
theorem sz63 : ∀ n, (Kd.upto F63 5 [63] n).sz = 5 := Kd.upto_sz (fun _ => rfl)
def k63 : Kd S63 := Kd.fix F63 5 [63] sz63 (Kd.upto_E sub63)
theorem k63_heap : Kd.Heap k63 := Kd.heap_fix (fun _ h_ => Kd.heap_iso _ (Kd.heap_pair Kd.heap_string (Kd.heap_pair (Kd.heap_int .i64) (Kd.heap_pair Kd.heap_bool (Kd.heap_pair Kd.heap_string (Kd.heap_slice 63 h_))))))
theorem k63_open {w : World} {x : S63} {cs : List Value} (h : k63.K w x cs) : ∃ A4 c4, cs = [.string x.f0, .int .i64 x.f1, .bool x.f2, .string x.f3, .slice A4 x.f4.length c4] ∧ x.f4.length ≤ c4 ∧ k63.C w A4 x.f4.length x.f4 := by
  obtain ⟨n, h⟩ := h
  cases n with
  | zero => exact h.elim
  | succ n =>
    obtain ⟨_, _, rfl, rfl, ⟨_, _, rfl, rfl, ⟨_, _, rfl, rfl, ⟨_, _, rfl, rfl, ⟨A4, c4, rfl, l4, g4⟩⟩⟩⟩⟩ := h
    exact ⟨A4, c4, rfl, l4, Kd.fix_C g4⟩
theorem k63_openM {w : World} {base : Nat} {ok : Nat → Prop} {x : S63} {cs : List Value} (h : k63.M w base ok x cs) : ∃ v4, cs = [.string x.f0, .int .i64 x.f1, .bool x.f2, .string x.f3, v4] ∧ k63.R 63 w base ok v4 x.f4 := by
  obtain ⟨n, h⟩ := h
  cases n with
  | zero => exact h.elim
  | succ n =>
    obtain ⟨_, _, rfl, rfl, ⟨_, _, rfl, rfl, ⟨_, _, rfl, rfl, ⟨_, _, rfl, rfl, ⟨v4, rfl, g4⟩⟩⟩⟩⟩ := h
    exact ⟨v4, rfl, Kd.fix_R g4⟩
theorem k63_mk (w : World) (x : S63) {A4 : Option Addr} {c4 : Nat} (l4 : x.f4.length ≤ c4) (g4 : k63.C w A4 x.f4.length x.f4) : k63.K w x [.string x.f0, .int .i64 x.f1, .bool x.f2, .string x.f3, .slice A4 x.f4.length c4] := by
  obtain ⟨n4, q4⟩ := Kd.fix_C_back mono63 g4
  have r4 := Kd.upto_C_le mono63 sz63 (show n4 ≤ n4 by omega) q4
  exact ⟨n4 + 1, ⟨[.string x.f0], [.int .i64 x.f1, .bool x.f2, .string x.f3, .slice A4 x.f4.length c4], rfl, rfl, ⟨[.int .i64 x.f1], [.bool x.f2, .string x.f3, .slice A4 x.f4.length c4], rfl, rfl, ⟨[.bool x.f2], [.string x.f3, .slice A4 x.f4.length c4], rfl, rfl, ⟨[.string x.f3], [.slice A4 x.f4.length c4], rfl, rfl, ⟨A4, c4, rfl, l4, r4⟩⟩⟩⟩⟩⟩
theorem k63_mkM (w : World) (base : Nat) (ok : Nat → Prop) (x : S63) {v4 : Value} (g4 : k63.R 63 w base ok v4 x.f4) : k63.M w base ok x [.string x.f0, .int .i64 x.f1, .bool x.f2, .string x.f3, v4] := by
  obtain ⟨n4, q4⟩ := Kd.fix_R_back mono63 g4
  have r4 := Kd.upto_R_le mono63 sz63 (show n4 ≤ n4 by omega) q4
  exact ⟨n4 + 1, ⟨[.string x.f0], [.int .i64 x.f1, .bool x.f2, .string x.f3, v4], rfl, rfl, ⟨[.int .i64 x.f1], [.bool x.f2, .string x.f3, v4], rfl, rfl, ⟨[.bool x.f2], [.string x.f3, v4], rfl, rfl, ⟨[.string x.f3], [v4], rfl, rfl, ⟨v4, rfl, r4⟩⟩⟩⟩⟩⟩
theorem k63_openF {W : World} {ok : Nat → Prop} {x : S63} {cs : List Value} (h : Kd.FK k63 W ok x cs) : ∃ A4 c4, cs = [.string x.f0, .int .i64 x.f1, .bool x.f2, .string x.f3, .slice A4 x.f4.length c4] ∧ x.f4.length ≤ c4 ∧ Kd.F k63 W ok A4 x.f4.length x.f4 := by
  obtain ⟨A4, c4, rfl, l4, _⟩ := k63_open (Kd.FK_now h)
  exact ⟨A4, c4, rfl, l4, (fun W' hW => by obtain ⟨A4_, c4_, he, l4_, g4_⟩ := k63_open (h W' hW); injection (Option.some.inj (show some (Value.slice A4 x.f4.length c4) = some (Value.slice A4_ x.f4.length c4_) from congrArg (fun l => l[4]?) he)) with ha_ _ _; rw [ha_]; exact g4_)⟩
theorem k63_mkF (W : World) (ok : Nat → Prop) (x : S63) {A4 : Option Addr} {c4 : Nat} (l4 : x.f4.length ≤ c4) (g4 : Kd.F k63 W ok A4 x.f4.length x.f4) : Kd.FK k63 W ok x [.string x.f0, .int .i64 x.f1, .bool x.f2, .string x.f3, .slice A4 x.f4.length c4] := fun W2 hW => k63_mk W2 x l4 (g4 W2 hW)
def rd_T63 (xs : List S63) (i : Int) : S63 := xs.getD i.toNat z63
theorem at_T63 {w : World} {A : Option Addr} {n : Nat} {xs : List S63} (h : Kd.C k63 w A n xs) (i : Int) (h0 : 0 ≤ i) (h1 : i < n) : ∃ ad A4 c4, A = some ad ∧ w.cell? (ad.add (i.toNat * 5)) = some (.string (rd_T63 xs i).f0) ∧ w.cell? ⟨(ad.add (i.toNat * 5)).block, (ad.add (i.toNat * 5)).off + 1, none⟩ = some (.int .i64 (rd_T63 xs i).f1) ∧ w.cell? ⟨(ad.add (i.toNat * 5)).block, (ad.add (i.toNat * 5)).off + 2, none⟩ = some (.bool (rd_T63 xs i).f2) ∧ w.cell? ⟨(ad.add (i.toNat * 5)).block, (ad.add (i.toNat * 5)).off + 3, none⟩ = some (.string (rd_T63 xs i).f3) ∧ w.cell? ⟨(ad.add (i.toNat * 5)).block, (ad.add (i.toNat * 5)).off + 4, none⟩ = some (.slice A4 (rd_T63 xs i).f4.length c4) ∧ (rd_T63 xs i).f4.length ≤ c4 ∧ k63.C w A4 (rd_T63 xs i).f4.length (rd_T63 xs i).f4 := by
  obtain ⟨ad, c, e, _, hK, hc0⟩ := Kd.C_get h z63 i h0 h1
  have hc : ∀ j u, c[j]? = some u → w.cell? (ad.add (i.toNat * 5 + j)) = some u := hc0
  obtain ⟨A4, c4, rfl, l4, g4⟩ := k63_open hK
  exact ⟨ad, A4, c4, e, hc 0 _ rfl, by rw [← add_field _ _ 1 (by omega)]; exact hc 1 _ rfl, by rw [← add_field _ _ 2 (by omega)]; exact hc 2 _ rfl, by rw [← add_field _ _ 3 (by omega)]; exact hc 3 _ rfl, by rw [← add_field _ _ 4 (by omega)]; exact hc 4 _ rfl, l4, g4⟩

def rd_L8 (xs : List (List S63)) (i : Int) : (List S63) := xs.getD i.toNat ([] : List S63)
theorem at_L8 {w : World} {A : Option Addr} {n : Nat} {xs : List (List S63)} (h : Kd.C (Kd.slice 63 k63) w A n xs) (i : Int) (h0 : 0 ≤ i) (h1 : i < n) : ∃ ad A0 c0, A = some ad ∧ w.cell? (ad.add i.toNat) = some (.slice A0 (rd_L8 xs i).length c0) ∧ (rd_L8 xs i).length ≤ c0 ∧ k63.C w A0 (rd_L8 xs i).length (rd_L8 xs i) := by
  obtain ⟨ad, c, e, _, hK, hc0⟩ := Kd.C_get h ([] : List S63) i h0 h1
  have hc : ∀ j u, c[j]? = some u → w.cell? (ad.add (i.toNat * 1 + j)) = some u := hc0
  obtain ⟨A0, c0, rfl, l0, g0⟩ := hK
  exact ⟨ad, A0, c0, e, by have hq := hc 0 _ rfl; rwa [Nat.mul_one, Nat.add_zero] at hq, l0, g0⟩

/-! #### struct type 32 -/
structure S32 where
  f0 : Int
  f1 : Bool
  f2 : ByteArray
  f3 : (List S63)
def z32 : S32 := ⟨(0 : Int), false, (⟨#[]⟩ : ByteArray), ([] : List S63)⟩
def k32 : Kd S32 := Kd.iso (Kd.pair (Kd.int .i64) (Kd.pair Kd.bool (Kd.pair Kd.string (Kd.slice 63 k63)))) (fun x : S32 => (x.f0, x.f1, x.f2, x.f3))
theorem k32_heap : Kd.Heap k32 := Kd.heap_iso _ (Kd.heap_pair (Kd.heap_int .i64) (Kd.heap_pair Kd.heap_bool (Kd.heap_pair Kd.heap_string (Kd.heap_slice 63 k63_heap))))
theorem k32_open {w : World} {x : S32} {cs : List Value} (h : k32.K w x cs) : ∃ A3 c3, cs = [.int .i64 x.f0, .bool x.f1, .string x.f2, .slice A3 x.f3.length c3] ∧ x.f3.length ≤ c3 ∧ k63.C w A3 x.f3.length x.f3 := by
  obtain ⟨_, _, rfl, rfl, ⟨_, _, rfl, rfl, ⟨_, _, rfl, rfl, ⟨A3, c3, rfl, l3, g3⟩⟩⟩⟩ := h
  exact ⟨A3, c3, rfl, l3, g3⟩
theorem k32_openM {w : World} {base : Nat} {ok : Nat → Prop} {x : S32} {cs : List Value} (h : k32.M w base ok x cs) : ∃ v3, cs = [.int .i64 x.f0, .bool x.f1, .string x.f2, v3] ∧ k63.R 63 w base ok v3 x.f3 := by
  obtain ⟨_, _, rfl, rfl, ⟨_, _, rfl, rfl, ⟨_, _, rfl, rfl, ⟨v3, rfl, g3⟩⟩⟩⟩ := h
  exact ⟨v3, rfl, g3⟩
theorem k32_mk (w : World) (x : S32) {A3 : Option Addr} {c3 : Nat} (l3 : x.f3.length ≤ c3) (g3 : k63.C w A3 x.f3.length x.f3) : k32.K w x [.int .i64 x.f0, .bool x.f1, .string x.f2, .slice A3 x.f3.length c3] := ⟨[.int .i64 x.f0], [.bool x.f1, .string x.f2, .slice A3 x.f3.length c3], rfl, rfl, ⟨[.bool x.f1], [.string x.f2, .slice A3 x.f3.length c3], rfl, rfl, ⟨[.string x.f2], [.slice A3 x.f3.length c3], rfl, rfl, ⟨A3, c3, rfl, l3, g3⟩⟩⟩⟩
theorem k32_mkM (w : World) (base : Nat) (ok : Nat → Prop) (x : S32) {v3 : Value} (g3 : k63.R 63 w base ok v3 x.f3) : k32.M w base ok x [.int .i64 x.f0, .bool x.f1, .string x.f2, v3] := ⟨[.int .i64 x.f0], [.bool x.f1, .string x.f2, v3], rfl, rfl, ⟨[.bool x.f1], [.string x.f2, v3], rfl, rfl, ⟨[.string x.f2], [v3], rfl, rfl, ⟨v3, rfl, g3⟩⟩⟩⟩
theorem k32_openF {W : World} {ok : Nat → Prop} {x : S32} {cs : List Value} (h : Kd.FK k32 W ok x cs) : ∃ A3 c3, cs = [.int .i64 x.f0, .bool x.f1, .string x.f2, .slice A3 x.f3.length c3] ∧ x.f3.length ≤ c3 ∧ Kd.F k63 W ok A3 x.f3.length x.f3 := by
  obtain ⟨A3, c3, rfl, l3, _⟩ := k32_open (Kd.FK_now h)
  exact ⟨A3, c3, rfl, l3, (fun W' hW => by obtain ⟨A3_, c3_, he, l3_, g3_⟩ := k32_open (h W' hW); injection (Option.some.inj (show some (Value.slice A3 x.f3.length c3) = some (Value.slice A3_ x.f3.length c3_) from congrArg (fun l => l[3]?) he)) with ha_ _ _; rw [ha_]; exact g3_)⟩
theorem k32_mkF (W : World) (ok : Nat → Prop) (x : S32) {A3 : Option Addr} {c3 : Nat} (l3 : x.f3.length ≤ c3) (g3 : Kd.F k63 W ok A3 x.f3.length x.f3) : Kd.FK k32 W ok x [.int .i64 x.f0, .bool x.f1, .string x.f2, .slice A3 x.f3.length c3] := fun W2 hW => k32_mk W2 x l3 (g3 W2 hW)
def rd_T32 (xs : List S32) (i : Int) : S32 := xs.getD i.toNat z32
theorem at_T32 {w : World} {A : Option Addr} {n : Nat} {xs : List S32} (h : Kd.C k32 w A n xs) (i : Int) (h0 : 0 ≤ i) (h1 : i < n) : ∃ ad A3 c3, A = some ad ∧ w.cell? (ad.add (i.toNat * 4)) = some (.int .i64 (rd_T32 xs i).f0) ∧ w.cell? ⟨(ad.add (i.toNat * 4)).block, (ad.add (i.toNat * 4)).off + 1, none⟩ = some (.bool (rd_T32 xs i).f1) ∧ w.cell? ⟨(ad.add (i.toNat * 4)).block, (ad.add (i.toNat * 4)).off + 2, none⟩ = some (.string (rd_T32 xs i).f2) ∧ w.cell? ⟨(ad.add (i.toNat * 4)).block, (ad.add (i.toNat * 4)).off + 3, none⟩ = some (.slice A3 (rd_T32 xs i).f3.length c3) ∧ (rd_T32 xs i).f3.length ≤ c3 ∧ k63.C w A3 (rd_T32 xs i).f3.length (rd_T32 xs i).f3 := by
  obtain ⟨ad, c, e, _, hK, hc0⟩ := Kd.C_get h z32 i h0 h1
  have hc : ∀ j u, c[j]? = some u → w.cell? (ad.add (i.toNat * 4 + j)) = some u := hc0
  obtain ⟨A3, c3, rfl, l3, g3⟩ := k32_open hK
  exact ⟨ad, A3, c3, e, hc 0 _ rfl, by rw [← add_field _ _ 1 (by omega)]; exact hc 1 _ rfl, by rw [← add_field _ _ 2 (by omega)]; exact hc 2 _ rfl, by rw [← add_field _ _ 3 (by omega)]; exact hc 3 _ rfl, l3, g3⟩

/-! #### struct type 35 -/
structure S35 where
  f0 : Int
  f1 : Int
def z35 : S35 := ⟨(0 : Int), (0 : Int)⟩
def k35 : Kd S35 := Kd.iso (Kd.pair (Kd.int .i64) (Kd.int .i64)) (fun x : S35 => (x.f0, x.f1))
theorem k35_heap : Kd.Heap k35 := Kd.heap_iso _ (Kd.heap_pair (Kd.heap_int .i64) (Kd.heap_int .i64))
theorem k35_open {w : World} {x : S35} {cs : List Value} (h : k35.K w x cs) : cs = [.int .i64 x.f0, .int .i64 x.f1] := by
  obtain ⟨_, _, rfl, rfl, rfl⟩ := h
  exact rfl
theorem k35_openM {w : World} {base : Nat} {ok : Nat → Prop} {x : S35} {cs : List Value} (h : k35.M w base ok x cs) : cs = [.int .i64 x.f0, .int .i64 x.f1] := by
  obtain ⟨_, _, rfl, rfl, rfl⟩ := h
  exact rfl
theorem k35_mk (w : World) (x : S35)  : k35.K w x [.int .i64 x.f0, .int .i64 x.f1] := ⟨[.int .i64 x.f0], [.int .i64 x.f1], rfl, rfl, rfl⟩
theorem k35_mkM (w : World) (base : Nat) (ok : Nat → Prop) (x : S35)  : k35.M w base ok x [.int .i64 x.f0, .int .i64 x.f1] := ⟨[.int .i64 x.f0], [.int .i64 x.f1], rfl, rfl, rfl⟩
theorem k35_mkF (W : World) (ok : Nat → Prop) (x : S35) : Kd.FK k35 W ok x [.int .i64 x.f0, .int .i64 x.f1] := fun W2 _ => k35_mk W2 x
def rd_T35 (xs : List S35) (i : Int) : S35 := xs.getD i.toNat z35
theorem at_T35 {w : World} {A : Option Addr} {n : Nat} {xs : List S35} (h : Kd.C k35 w A n xs) (i : Int) (h0 : 0 ≤ i) (h1 : i < n) : ∃ ad , A = some ad ∧ w.cell? (ad.add (i.toNat * 2)) = some (.int .i64 (rd_T35 xs i).f0) ∧ w.cell? ⟨(ad.add (i.toNat * 2)).block, (ad.add (i.toNat * 2)).off + 1, none⟩ = some (.int .i64 (rd_T35 xs i).f1) := by
  obtain ⟨ad, c, e, _, hK, hc0⟩ := Kd.C_get h z35 i h0 h1
  have hc : ∀ j u, c[j]? = some u → w.cell? (ad.add (i.toNat * 2 + j)) = some u := hc0
  obtain rfl := k35_open hK
  exact ⟨ad, e, hc 0 _ rfl, by rw [← add_field _ _ 1 (by omega)]; exact hc 1 _ rfl⟩

/-! #### struct type 56 -/
structure S56 where
  f0 : Int
  f1 : Bool
  f2 : ByteArray
  f3 : (List S63)
  f4 : ByteArray
def z56 : S56 := ⟨(0 : Int), false, (⟨#[]⟩ : ByteArray), ([] : List S63), (⟨#[]⟩ : ByteArray)⟩
def k56 : Kd S56 := Kd.iso (Kd.pair (Kd.int .i64) (Kd.pair Kd.bool (Kd.pair Kd.string (Kd.pair (Kd.slice 63 k63) Kd.string)))) (fun x : S56 => (x.f0, x.f1, x.f2, x.f3, x.f4))
theorem k56_heap : Kd.Heap k56 := Kd.heap_iso _ (Kd.heap_pair (Kd.heap_int .i64) (Kd.heap_pair Kd.heap_bool (Kd.heap_pair Kd.heap_string (Kd.heap_pair (Kd.heap_slice 63 k63_heap) Kd.heap_string))))
theorem k56_open {w : World} {x : S56} {cs : List Value} (h : k56.K w x cs) : ∃ A3 c3, cs = [.int .i64 x.f0, .bool x.f1, .string x.f2, .slice A3 x.f3.length c3, .string x.f4] ∧ x.f3.length ≤ c3 ∧ k63.C w A3 x.f3.length x.f3 := by
  obtain ⟨_, _, rfl, rfl, ⟨_, _, rfl, rfl, ⟨_, _, rfl, rfl, ⟨_, _, rfl, ⟨A3, c3, rfl, l3, g3⟩, rfl⟩⟩⟩⟩ := h
  exact ⟨A3, c3, rfl, l3, g3⟩
theorem k56_openM {w : World} {base : Nat} {ok : Nat → Prop} {x : S56} {cs : List Value} (h : k56.M w base ok x cs) : ∃ v3, cs = [.int .i64 x.f0, .bool x.f1, .string x.f2, v3, .string x.f4] ∧ k63.R 63 w base ok v3 x.f3 := by
  obtain ⟨_, _, rfl, rfl, ⟨_, _, rfl, rfl, ⟨_, _, rfl, rfl, ⟨_, _, rfl, ⟨v3, rfl, g3⟩, rfl⟩⟩⟩⟩ := h
  exact ⟨v3, rfl, g3⟩
theorem k56_mk (w : World) (x : S56) {A3 : Option Addr} {c3 : Nat} (l3 : x.f3.length ≤ c3) (g3 : k63.C w A3 x.f3.length x.f3) : k56.K w x [.int .i64 x.f0, .bool x.f1, .string x.f2, .slice A3 x.f3.length c3, .string x.f4] := ⟨[.int .i64 x.f0], [.bool x.f1, .string x.f2, .slice A3 x.f3.length c3, .string x.f4], rfl, rfl, ⟨[.bool x.f1], [.string x.f2, .slice A3 x.f3.length c3, .string x.f4], rfl, rfl, ⟨[.string x.f2], [.slice A3 x.f3.length c3, .string x.f4], rfl, rfl, ⟨[.slice A3 x.f3.length c3], [.string x.f4], rfl, ⟨A3, c3, rfl, l3, g3⟩, rfl⟩⟩⟩⟩
theorem k56_mkM (w : World) (base : Nat) (ok : Nat → Prop) (x : S56) {v3 : Value} (g3 : k63.R 63 w base ok v3 x.f3) : k56.M w base ok x [.int .i64 x.f0, .bool x.f1, .string x.f2, v3, .string x.f4] := ⟨[.int .i64 x.f0], [.bool x.f1, .string x.f2, v3, .string x.f4], rfl, rfl, ⟨[.bool x.f1], [.string x.f2, v3, .string x.f4], rfl, rfl, ⟨[.string x.f2], [v3, .string x.f4], rfl, rfl, ⟨[v3], [.string x.f4], rfl, ⟨v3, rfl, g3⟩, rfl⟩⟩⟩⟩
theorem k56_openF {W : World} {ok : Nat → Prop} {x : S56} {cs : List Value} (h : Kd.FK k56 W ok x cs) : ∃ A3 c3, cs = [.int .i64 x.f0, .bool x.f1, .string x.f2, .slice A3 x.f3.length c3, .string x.f4] ∧ x.f3.length ≤ c3 ∧ Kd.F k63 W ok A3 x.f3.length x.f3 := by
  obtain ⟨A3, c3, rfl, l3, _⟩ := k56_open (Kd.FK_now h)
  exact ⟨A3, c3, rfl, l3, (fun W' hW => by obtain ⟨A3_, c3_, he, l3_, g3_⟩ := k56_open (h W' hW); injection (Option.some.inj (show some (Value.slice A3 x.f3.length c3) = some (Value.slice A3_ x.f3.length c3_) from congrArg (fun l => l[3]?) he)) with ha_ _ _; rw [ha_]; exact g3_)⟩
theorem k56_mkF (W : World) (ok : Nat → Prop) (x : S56) {A3 : Option Addr} {c3 : Nat} (l3 : x.f3.length ≤ c3) (g3 : Kd.F k63 W ok A3 x.f3.length x.f3) : Kd.FK k56 W ok x [.int .i64 x.f0, .bool x.f1, .string x.f2, .slice A3 x.f3.length c3, .string x.f4] := fun W2 hW => k56_mk W2 x l3 (g3 W2 hW)
def rd_T56 (xs : List S56) (i : Int) : S56 := xs.getD i.toNat z56
theorem at_T56 {w : World} {A : Option Addr} {n : Nat} {xs : List S56} (h : Kd.C k56 w A n xs) (i : Int) (h0 : 0 ≤ i) (h1 : i < n) : ∃ ad A3 c3, A = some ad ∧ w.cell? (ad.add (i.toNat * 5)) = some (.int .i64 (rd_T56 xs i).f0) ∧ w.cell? ⟨(ad.add (i.toNat * 5)).block, (ad.add (i.toNat * 5)).off + 1, none⟩ = some (.bool (rd_T56 xs i).f1) ∧ w.cell? ⟨(ad.add (i.toNat * 5)).block, (ad.add (i.toNat * 5)).off + 2, none⟩ = some (.string (rd_T56 xs i).f2) ∧ w.cell? ⟨(ad.add (i.toNat * 5)).block, (ad.add (i.toNat * 5)).off + 3, none⟩ = some (.slice A3 (rd_T56 xs i).f3.length c3) ∧ w.cell? ⟨(ad.add (i.toNat * 5)).block, (ad.add (i.toNat * 5)).off + 4, none⟩ = some (.string (rd_T56 xs i).f4) ∧ (rd_T56 xs i).f3.length ≤ c3 ∧ k63.C w A3 (rd_T56 xs i).f3.length (rd_T56 xs i).f3 := by
  obtain ⟨ad, c, e, _, hK, hc0⟩ := Kd.C_get h z56 i h0 h1
  have hc : ∀ j u, c[j]? = some u → w.cell? (ad.add (i.toNat * 5 + j)) = some u := hc0
  obtain ⟨A3, c3, rfl, l3, g3⟩ := k56_open hK
  exact ⟨ad, A3, c3, e, hc 0 _ rfl, by rw [← add_field _ _ 1 (by omega)]; exact hc 1 _ rfl, by rw [← add_field _ _ 2 (by omega)]; exact hc 2 _ rfl, by rw [← add_field _ _ 3 (by omega)]; exact hc 3 _ rfl, by rw [← add_field _ _ 4 (by omega)]; exact hc 4 _ rfl, l3, g3⟩

def rd_L12 (xs : List (List ByteArray)) (i : Int) : (List ByteArray) := xs.getD i.toNat ([] : List ByteArray)
theorem at_L12 {w : World} {A : Option Addr} {n : Nat} {xs : List (List ByteArray)} (h : Kd.C (Kd.slice 9 Kd.string) w A n xs) (i : Int) (h0 : 0 ≤ i) (h1 : i < n) : ∃ ad A0 c0, A = some ad ∧ w.cell? (ad.add i.toNat) = some (.slice A0 (rd_L12 xs i).length c0) ∧ (rd_L12 xs i).length ≤ c0 ∧ Kd.string.C w A0 (rd_L12 xs i).length (rd_L12 xs i) := by
  obtain ⟨ad, c, e, _, hK, hc0⟩ := Kd.C_get h ([] : List ByteArray) i h0 h1
  have hc : ∀ j u, c[j]? = some u → w.cell? (ad.add (i.toNat * 1 + j)) = some u := hc0
  obtain ⟨A0, c0, rfl, l0, g0⟩ := hK
  exact ⟨ad, A0, c0, e, by have hq := hc 0 _ rfl; rwa [Nat.mul_one, Nat.add_zero] at hq, l0, g0⟩

/-! #### struct type 87 -/
structure S87 where
  f0 : (List S29)
  f1 : Int
  f2 : Int
  f3 : ByteArray
def z87 : S87 := ⟨([] : List S29), (0 : Int), (0 : Int), (⟨#[]⟩ : ByteArray)⟩
def k87 : Kd S87 := Kd.iso (Kd.pair (Kd.slice 29 k29) (Kd.pair (Kd.int .i64) (Kd.pair (Kd.int .i64) Kd.string))) (fun x : S87 => (x.f0, x.f1, x.f2, x.f3))
theorem k87_heap : Kd.Heap k87 := Kd.heap_iso _ (Kd.heap_pair (Kd.heap_slice 29 k29_heap) (Kd.heap_pair (Kd.heap_int .i64) (Kd.heap_pair (Kd.heap_int .i64) Kd.heap_string)))
theorem k87_open {w : World} {x : S87} {cs : List Value} (h : k87.K w x cs) : ∃ A0 c0, cs = [.slice A0 x.f0.length c0, .int .i64 x.f1, .int .i64 x.f2, .string x.f3] ∧ x.f0.length ≤ c0 ∧ k29.C w A0 x.f0.length x.f0 := by
  obtain ⟨_, _, rfl, ⟨A0, c0, rfl, l0, g0⟩, ⟨_, _, rfl, rfl, ⟨_, _, rfl, rfl, rfl⟩⟩⟩ := h
  exact ⟨A0, c0, rfl, l0, g0⟩
theorem k87_openM {w : World} {base : Nat} {ok : Nat → Prop} {x : S87} {cs : List Value} (h : k87.M w base ok x cs) : ∃ v0, cs = [v0, .int .i64 x.f1, .int .i64 x.f2, .string x.f3] ∧ k29.R 29 w base ok v0 x.f0 := by
  obtain ⟨_, _, rfl, ⟨v0, rfl, g0⟩, ⟨_, _, rfl, rfl, ⟨_, _, rfl, rfl, rfl⟩⟩⟩ := h
  exact ⟨v0, rfl, g0⟩
theorem k87_mk (w : World) (x : S87) {A0 : Option Addr} {c0 : Nat} (l0 : x.f0.length ≤ c0) (g0 : k29.C w A0 x.f0.length x.f0) : k87.K w x [.slice A0 x.f0.length c0, .int .i64 x.f1, .int .i64 x.f2, .string x.f3] := ⟨[.slice A0 x.f0.length c0], [.int .i64 x.f1, .int .i64 x.f2, .string x.f3], rfl, ⟨A0, c0, rfl, l0, g0⟩, ⟨[.int .i64 x.f1], [.int .i64 x.f2, .string x.f3], rfl, rfl, ⟨[.int .i64 x.f2], [.string x.f3], rfl, rfl, rfl⟩⟩⟩
theorem k87_mkM (w : World) (base : Nat) (ok : Nat → Prop) (x : S87) {v0 : Value} (g0 : k29.R 29 w base ok v0 x.f0) : k87.M w base ok x [v0, .int .i64 x.f1, .int .i64 x.f2, .string x.f3] := ⟨[v0], [.int .i64 x.f1, .int .i64 x.f2, .string x.f3], rfl, ⟨v0, rfl, g0⟩, ⟨[.int .i64 x.f1], [.int .i64 x.f2, .string x.f3], rfl, rfl, ⟨[.int .i64 x.f2], [.string x.f3], rfl, rfl, rfl⟩⟩⟩
theorem k87_openF {W : World} {ok : Nat → Prop} {x : S87} {cs : List Value} (h : Kd.FK k87 W ok x cs) : ∃ A0 c0, cs = [.slice A0 x.f0.length c0, .int .i64 x.f1, .int .i64 x.f2, .string x.f3] ∧ x.f0.length ≤ c0 ∧ Kd.F k29 W ok A0 x.f0.length x.f0 := by
  obtain ⟨A0, c0, rfl, l0, _⟩ := k87_open (Kd.FK_now h)
  exact ⟨A0, c0, rfl, l0, (fun W' hW => by obtain ⟨A0_, c0_, he, l0_, g0_⟩ := k87_open (h W' hW); injection (Option.some.inj (show some (Value.slice A0 x.f0.length c0) = some (Value.slice A0_ x.f0.length c0_) from congrArg (fun l => l[0]?) he)) with ha_ _ _; rw [ha_]; exact g0_)⟩
theorem k87_mkF (W : World) (ok : Nat → Prop) (x : S87) {A0 : Option Addr} {c0 : Nat} (l0 : x.f0.length ≤ c0) (g0 : Kd.F k29 W ok A0 x.f0.length x.f0) : Kd.FK k87 W ok x [.slice A0 x.f0.length c0, .int .i64 x.f1, .int .i64 x.f2, .string x.f3] := fun W2 hW => k87_mk W2 x l0 (g0 W2 hW)
def rd_T87 (xs : List S87) (i : Int) : S87 := xs.getD i.toNat z87
theorem at_T87 {w : World} {A : Option Addr} {n : Nat} {xs : List S87} (h : Kd.C k87 w A n xs) (i : Int) (h0 : 0 ≤ i) (h1 : i < n) : ∃ ad A0 c0, A = some ad ∧ w.cell? (ad.add (i.toNat * 4)) = some (.slice A0 (rd_T87 xs i).f0.length c0) ∧ w.cell? ⟨(ad.add (i.toNat * 4)).block, (ad.add (i.toNat * 4)).off + 1, none⟩ = some (.int .i64 (rd_T87 xs i).f1) ∧ w.cell? ⟨(ad.add (i.toNat * 4)).block, (ad.add (i.toNat * 4)).off + 2, none⟩ = some (.int .i64 (rd_T87 xs i).f2) ∧ w.cell? ⟨(ad.add (i.toNat * 4)).block, (ad.add (i.toNat * 4)).off + 3, none⟩ = some (.string (rd_T87 xs i).f3) ∧ (rd_T87 xs i).f0.length ≤ c0 ∧ k29.C w A0 (rd_T87 xs i).f0.length (rd_T87 xs i).f0 := by
  obtain ⟨ad, c, e, _, hK, hc0⟩ := Kd.C_get h z87 i h0 h1
  have hc : ∀ j u, c[j]? = some u → w.cell? (ad.add (i.toNat * 4 + j)) = some u := hc0
  obtain ⟨A0, c0, rfl, l0, g0⟩ := k87_open hK
  exact ⟨ad, A0, c0, e, hc 0 _ rfl, by rw [← add_field _ _ 1 (by omega)]; exact hc 1 _ rfl, by rw [← add_field _ _ 2 (by omega)]; exact hc 2 _ rfl, by rw [← add_field _ _ 3 (by omega)]; exact hc 3 _ rfl, l0, g0⟩

/-! #### struct type 107 -/
structure S107 where
  f0 : Int
def z107 : S107 := ⟨(0 : Int)⟩
def k107 : Kd S107 := Kd.iso (Kd.int .i64) (fun x : S107 => x.f0)
theorem k107_heap : Kd.Heap k107 := Kd.heap_iso _ (Kd.heap_int .i64)
theorem k107_open {w : World} {x : S107} {cs : List Value} (h : k107.K w x cs) : cs = [.int .i64 x.f0] := by
  obtain rfl := h
  exact rfl
theorem k107_openM {w : World} {base : Nat} {ok : Nat → Prop} {x : S107} {cs : List Value} (h : k107.M w base ok x cs) : cs = [.int .i64 x.f0] := by
  obtain rfl := h
  exact rfl
theorem k107_mk (w : World) (x : S107)  : k107.K w x [.int .i64 x.f0] := rfl
theorem k107_mkM (w : World) (base : Nat) (ok : Nat → Prop) (x : S107)  : k107.M w base ok x [.int .i64 x.f0] := rfl
theorem k107_mkF (W : World) (ok : Nat → Prop) (x : S107) : Kd.FK k107 W ok x [.int .i64 x.f0] := fun W2 _ => k107_mk W2 x
def rd_T107 (xs : List S107) (i : Int) : S107 := xs.getD i.toNat z107
theorem at_T107 {w : World} {A : Option Addr} {n : Nat} {xs : List S107} (h : Kd.C k107 w A n xs) (i : Int) (h0 : 0 ≤ i) (h1 : i < n) : ∃ ad , A = some ad ∧ w.cell? (ad.add i.toNat) = some (.int .i64 (rd_T107 xs i).f0) := by
  obtain ⟨ad, c, e, _, hK, hc0⟩ := Kd.C_get h z107 i h0 h1
  have hc : ∀ j u, c[j]? = some u → w.cell? (ad.add (i.toNat * 1 + j)) = some u := hc0
  obtain rfl := k107_open hK
  exact ⟨ad, e, by have hq := hc 0 _ rfl; rwa [Nat.mul_one, Nat.add_zero] at hq⟩

/-! #### struct type 109 -/
structure S109 where
  f0 : ByteArray
  f1 : Int
def z109 : S109 := ⟨(⟨#[]⟩ : ByteArray), (0 : Int)⟩
def k109 : Kd S109 := Kd.iso (Kd.pair Kd.string (Kd.int .i64)) (fun x : S109 => (x.f0, x.f1))
theorem k109_heap : Kd.Heap k109 := Kd.heap_iso _ (Kd.heap_pair Kd.heap_string (Kd.heap_int .i64))
theorem k109_open {w : World} {x : S109} {cs : List Value} (h : k109.K w x cs) : cs = [.string x.f0, .int .i64 x.f1] := by
  obtain ⟨_, _, rfl, rfl, rfl⟩ := h
  exact rfl
theorem k109_openM {w : World} {base : Nat} {ok : Nat → Prop} {x : S109} {cs : List Value} (h : k109.M w base ok x cs) : cs = [.string x.f0, .int .i64 x.f1] := by
  obtain ⟨_, _, rfl, rfl, rfl⟩ := h
  exact rfl
theorem k109_mk (w : World) (x : S109)  : k109.K w x [.string x.f0, .int .i64 x.f1] := ⟨[.string x.f0], [.int .i64 x.f1], rfl, rfl, rfl⟩
theorem k109_mkM (w : World) (base : Nat) (ok : Nat → Prop) (x : S109)  : k109.M w base ok x [.string x.f0, .int .i64 x.f1] := ⟨[.string x.f0], [.int .i64 x.f1], rfl, rfl, rfl⟩
theorem k109_mkF (W : World) (ok : Nat → Prop) (x : S109) : Kd.FK k109 W ok x [.string x.f0, .int .i64 x.f1] := fun W2 _ => k109_mk W2 x
def rd_T109 (xs : List S109) (i : Int) : S109 := xs.getD i.toNat z109
theorem at_T109 {w : World} {A : Option Addr} {n : Nat} {xs : List S109} (h : Kd.C k109 w A n xs) (i : Int) (h0 : 0 ≤ i) (h1 : i < n) : ∃ ad , A = some ad ∧ w.cell? (ad.add (i.toNat * 2)) = some (.string (rd_T109 xs i).f0) ∧ w.cell? ⟨(ad.add (i.toNat * 2)).block, (ad.add (i.toNat * 2)).off + 1, none⟩ = some (.int .i64 (rd_T109 xs i).f1) := by
  obtain ⟨ad, c, e, _, hK, hc0⟩ := Kd.C_get h z109 i h0 h1
  have hc : ∀ j u, c[j]? = some u → w.cell? (ad.add (i.toNat * 2 + j)) = some u := hc0
  obtain rfl := k109_open hK
  exact ⟨ad, e, hc 0 _ rfl, by rw [← add_field _ _ 1 (by omega)]; exact hc 1 _ rfl⟩

end Go.Proofs.YtnemeeidomceiaaDoor
end
section
namespace Go.Proofs.YtnemeeidomceiaaDoor
open Go.RowKit Go.Proofs.YtnemeeidomceiaaDoorW.PrintWords Go.Proofs.YtnemeeidomceiaaDoorW.PrintLast Go.Proofs.YtnemeeidomceiaaDoorW.PrintMore
set_option linter.unusedVariables false
/-- Of the old blocks those of S alone have turned; the streams are as they were. -/
structure Upd (S : Nat → Prop) (w w' : World) : Prop where
  os : w'.os = w.os
  tape : w'.tape = w.tape
  output : w'.output = w.output
  size : w.heap.size ≤ w'.heap.size
  block : ∀ k, k < w.heap.size → ¬ S k → w'.heap[k]? = w.heap[k]?
section
variable {S S2 : Nat → Prop} {w w1 w2 : World}
theorem Upd.refl (S : Nat → Prop) (w : World) : Upd S w w := ⟨rfl, rfl, rfl, Nat.le_refl _, fun _ _ _ => rfl⟩
theorem Upd.trans (h : Upd S w w1) (k : Upd S2 w1 w2) (hs : ∀ b, S2 b → S b ∨ w.heap.size ≤ b) : Upd S w w2 :=
  ⟨k.os.trans h.os, k.tape.trans h.tape, k.output.trans h.output, Nat.le_trans h.size k.size, fun b hb hn => (k.block b (Nat.lt_of_lt_of_le hb h.size) (fun h2 => by
    rcases hs b h2 with h3 | h3
    · exact hn h3
    · omega)).trans (h.block b hb hn)⟩
theorem Upd.mono (h : Upd S w w1) (hs : ∀ k, S k → S2 k) : Upd S2 w w1 := ⟨h.os, h.tape, h.output, h.size, fun k hk hn => h.block k hk (fun h2 => hn (hs k h2))⟩
theorem Upd.of_below (h : Below w.heap.size w w1) : Upd S w w1 := ⟨h.os, h.tape, h.output, h.size, fun k hk _ => h.block k hk⟩
theorem Upd.setCell {p : Addr} (hp : S p.block ∨ w.heap.size ≤ p.block) (u : Value) : Upd S w (w.setCell p u) := ⟨rfl, rfl, rfl, by simp [World.setCell], fun k hk hn => Below.heap_setCell _ _ _ _ (fun e => by
  subst e
  rcases hp with h2 | h2
  · exact hn h2
  · omega)⟩
theorem Upd.of_grown {row : Option Nat} (h : w.grownBy w1 row) (hr : ∀ k, row = some k → S k ∨ w.heap.size ≤ k) : Upd S w w1 := ⟨h.os, h.tape, h.output, h.size, fun k hk hn => h.block k hk (fun e => by
  rcases hr k e.symm with h2 | h2
  · exact hn h2
  · omega)⟩
theorem Upd.below {B : Nat} (h : Upd S w w1) (hs : ∀ k, S k → B ≤ k) (hB : B ≤ w.heap.size) : Below B w w1 :=
  ⟨h.os, h.tape, h.output, h.size, fun k hk => h.block k (Nat.lt_of_lt_of_le hk hB) (fun h2 => by have := hs k h2; omega)⟩
theorem Upd.step (h : Upd S w w1) (hb : Below w1.heap.size w1 w2) : Upd S w w2 := h.trans (Upd.of_below (S := fun _ => False) hb) (fun _ h => h.elim)
theorem Upd.blk {g : Nat} {o : Obj} (h : Upd S w w1) (hb : w.heap[g]? = some o) (hn : ¬ S g) : w1.heap[g]? = some o := (h.block g (Array.getElem?_eq_some_iff.1 hb).1 hn).trans hb
end
/-- The walk stands still before this. -/
def Stand (p : Prop) : Prop := p
theorem Stand.go {p : Prop} (h : Stand p) : p := h
/-- A block of these cells. -/
def Blk (w : World) (b : Nat) (q : TypeId) (vs : List Value) : Prop := w.heap[b]? = some (.cells vs.toArray q (0, 0))
section
variable {w w' : World} {b : Nat} {q : TypeId} {vs : List Value} {S : Nat → Prop}
theorem Blk.lt (h : Blk w b q vs) : b < w.heap.size := (Array.getElem?_eq_some_iff.1 h).1
theorem Blk.cell (h : Blk w b q vs) (i : Nat) (v : Value) (hi : vs[i]? = some v) : w.cell? ⟨b, i, none⟩ = some v := by
  have := blk_cell (w := w) (g := b) h i
  rw [this]
  simpa using hi
theorem Blk.frozen (h : Blk w b q vs) (i : Nat) : w.frozen? ⟨b, i, none⟩ = false := blk_frozen h i
theorem Blk.new (w : World) (q : TypeId) (vs : List Value) : Blk (w.alloc (.cells vs.toArray q)) w.heap.size q vs := heap_alloc_new _ _
theorem Blk.upd (h : Blk w b q vs) (hU : Upd S w w') (hn : ¬ S b) : Blk w' b q vs := hU.blk h hn
theorem Blk.below (h : Blk w b q vs) (hb : Below w.heap.size w w') : Blk w' b q vs := (hb.block b h.lt).trans h
theorem Blk.grown {row : Option Nat} (h : Blk w b q vs) (hg : w.grownBy w' row) (hn : ¬ row = some b) : Blk w' b q vs := (hg.block b h.lt (fun e => hn e.symm)).trans h
theorem Blk.ne {a : Nat} {q2 : TypeId} {us : List Value} (h : Blk w a q us) (h' : Blk w b q2 vs) (hq : q ≠ q2) : a ≠ b := fun e => by
  subst e
  unfold Blk at h h'
  rw [h] at h'
  injection h' with h'
  injection h' with _ h'
  exact hq h'
end
end Go.Proofs.YtnemeeidomceiaaDoor
end
