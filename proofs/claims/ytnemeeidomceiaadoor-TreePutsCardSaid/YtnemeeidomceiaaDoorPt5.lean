import Derived.Test.YtnemeeidomceiaaDoorPt2
import Derived.Test.YtnemeeidomceiaaDoorPt4
import Derived.Defers
import Derived.IntWalk
import Derived.Recover
import Derived.WalkLawsBesides
set_option linter.unusedSimpArgs false
set_option linter.unusedVariables false
section
namespace Go.Proofs.YtnemeeidomceiaaDoor
open Go.RowKit Go.Proofs.YtnemeeidomceiaaDoorW.PrintWords Go.Proofs.YtnemeeidomceiaaDoorW.PrintLast Go.Proofs.YtnemeeidomceiaaDoorW.PrintMore Go.Proofs.YtnemeeidomceiaaDoor.PTreeChecks
set_option linter.unusedVariables false
set_option linter.unusedSimpArgs false
theorem lit_C {w : World} {b : Nat} (ws : List ByteArray) (hl : ws.length ≤ 1000) (h : Blk w b 9 (ws.map Value.string)) : Kd.C Kd.string w (some ⟨b, 0, none⟩) ws.length ws :=
 ⟨rfl, by omega, fun _ => ⟨⟨b, 0, none⟩, rfl, fun j p hp => ⟨[.string p], rfl, rfl, fun i u hu => by
  cases i with
  | zero =>
   simp only [List.getElem?_cons_zero, Option.some.injEq] at hu
   subst hu
   have := h.cell j (.string p) (by rw [List.getElem?_map, hp]; rfl)
   have e : (⟨b, 0, none⟩ : Addr).add (j * Kd.string.sz + 0) = ⟨b, j, none⟩ := by
    show (⟨b, 0, none⟩ : Addr).add (j * 1 + 0) = _
    rw [Nat.mul_one, Nat.add_zero]
    by_cases hj : j = 0
    ·subst hj; rfl
    ·simp [Addr.add, hj]
   rw [e]
   exact this
  | succ i => simp at hu⟩⟩⟩
theorem framed_lit (ws : List ByteArray) (hl : ws.length ≤ 1000) (hs : ∀ s ∈ ws, s.size ≤ 4611686018427387904) (b c : Nat) (w : World) (h : Blk w b 9 (ws.map Value.string)) (hc : ws.length ≤ c) :
  Calls Tryd.prog 28 #[.slice (some ⟨b, 0, none⟩) ws.length c] w fun e w' => e = .returned (.int .i64 (frs ws)) ∧ Aside0 (Drawn0 w w') :=
 (tree_framed.calls (ws.length + 1) (some ⟨b, 0, none⟩) c ws (frs ws) w (lit_C ws hl h) hc (framed_frs ws hs hl _ (Nat.lt_succ_self _))).mono fun _ _ h => ⟨h.1, ⟨h.2⟩⟩
theorem framed_new (ws : List ByteArray) (hl : ws.length ≤ 1000) (hs : ∀ s ∈ ws, s.size ≤ 4611686018427387904) (w : World) :
  Calls Tryd.prog 28 #[.slice (some ⟨w.heap.size, 0, none⟩) ws.length ws.length] (w.alloc (.cells (ws.map Value.string).toArray 9)) fun e w' => e = .returned (.int .i64 (frs ws)) ∧ Aside0 (Below w.heap.size w w') := by
 refine (framed_lit ws hl hs w.heap.size ws.length _ (Blk.new w 9 (ws.map Value.string)) (Nat.le_refl _)).mono ?_
 rintro e w' ⟨he, hd⟩
 exact ⟨he, ⟨below_step ((Below.refl _ _).alloc (Nat.le_refl _) _) hd.out.below⟩⟩
theorem framed_dir (w : World) : Calls Tryd.prog 28 #[.slice (some ⟨w.heap.size, 0, none⟩) 4 4] (w.alloc (.cells #[.string ⟨#[40]⟩, .string ⟨#[116, 121, 112, 101]⟩, .string ⟨#[100, 105, 114, 101, 99, 116, 111, 114, 121]⟩, .string ⟨#[41]⟩] 9)) fun e w' => e = .returned (.int .i64 (frs dirW)) ∧ Aside0 (Below w.heap.size w w') :=
 framed_new dirW (by decide) (by intro s hs; simp [dirW] at hs; rcases hs with rfl | rfl | rfl | rfl <;> decide) w
theorem framed_exec (w : World) : Calls Tryd.prog 28 #[.slice (some ⟨w.heap.size, 0, none⟩) 2 2] (w.alloc (.cells #[.string ⟨#[101, 120, 101, 99, 117, 116, 97, 98, 108, 101]⟩, .string ⟨#[]⟩] 9)) fun e w' => e = .returned (.int .i64 (frs execW)) ∧ Aside0 (Below w.heap.size w w') :=
 framed_new execW (by decide) (by intro s hs; simp [execW] at hs; rcases hs with rfl | rfl <;> decide) w
theorem framed_magic (w : World) : Calls Tryd.prog 28 #[.slice (some ⟨w.heap.size, 0, none⟩) 1 1] (w.alloc (.cells #[.string ⟨#[100, 101, 112, 111, 116, 45, 97, 114, 99, 104, 105, 118, 101, 45, 49]⟩] 9)) fun e w' => e = .returned (.int .i64 magS) ∧ Aside0 (Below w.heap.size w w') :=
 framed_new magW (by decide) (by intro s hs; simp [magW] at hs; rcases hs with rfl; decide) w
theorem framed_file (t : ByteArray) (ht : t.size ≤ 4611686018427387904) (w : World) : Calls Tryd.prog 28 #[.slice (some ⟨w.heap.size, 0, none⟩) 6 6] (w.alloc (.cells #[.string ⟨#[40]⟩, .string ⟨#[116, 121, 112, 101]⟩, .string ⟨#[114, 101, 103, 117, 108, 97, 114]⟩, .string ⟨#[99, 111, 110, 116, 101, 110, 116, 115]⟩, .string t, .string ⟨#[41]⟩] 9)) fun e w' => e = .returned (.int .i64 (frs (fileW t))) ∧ Aside0 (Below w.heap.size w w') :=
 framed_new (fileW t) (by show 6 ≤ 1000; decide) (by intro s hs; simp [fileW] at hs; rcases hs with rfl | rfl | rfl | rfl | rfl | rfl <;> first | exact ht | decide) w
theorem framed_link (t : ByteArray) (ht : t.size ≤ 4611686018427387904) (w : World) : Calls Tryd.prog 28 #[.slice (some ⟨w.heap.size, 0, none⟩) 6 6] (w.alloc (.cells #[.string ⟨#[40]⟩, .string ⟨#[116, 121, 112, 101]⟩, .string ⟨#[115, 121, 109, 108, 105, 110, 107]⟩, .string ⟨#[116, 97, 114, 103, 101, 116]⟩, .string t, .string ⟨#[41]⟩] 9)) fun e w' => e = .returned (.int .i64 (frs (linkW t))) ∧ Aside0 (Below w.heap.size w w') :=
 framed_new (linkW t) (by show 6 ≤ 1000; decide) (by intro s hs; simp [linkW] at hs; rcases hs with rfl | rfl | rfl | rfl | rfl | rfl <;> first | exact ht | decide) w
theorem framed_ent (t : ByteArray) (ht : t.size ≤ 4611686018427387904) (w : World) : Calls Tryd.prog 28 #[.slice (some ⟨w.heap.size, 0, none⟩) 6 6] (w.alloc (.cells #[.string ⟨#[101, 110, 116, 114, 121]⟩, .string ⟨#[40]⟩, .string ⟨#[110, 97, 109, 101]⟩, .string t, .string ⟨#[110, 111, 100, 101]⟩, .string ⟨#[41]⟩] 9)) fun e w' => e = .returned (.int .i64 (entS t)) ∧ Aside0 (Below w.heap.size w w') :=
 framed_new (entW t) (by show 6 ≤ 1000; decide) (by intro s hs; simp [entW] at hs; rcases hs with rfl | rfl | rfl | rfl | rfl | rfl <;> first | exact ht | decide) w
theorem framed_entN (t : ByteArray) (ht : t.size ≤ 4611686018427387904) (w : World) (n : Nat) : Calls Tryd.prog 28 #[.slice (some ⟨w.heap.size, 0, none⟩) 6 6] ((w.drewN n).alloc (.cells #[.string ⟨#[101, 110, 116, 114, 121]⟩, .string ⟨#[40]⟩, .string ⟨#[110, 97, 109, 101]⟩, .string t, .string ⟨#[110, 111, 100, 101]⟩, .string ⟨#[41]⟩] 9)) fun e w' => e = .returned (.int .i64 (entS t)) ∧ Aside0 (Below w.heap.size w w') :=
 (framed_ent t ht (w.drewN n)).mono fun e w' h => ⟨h.1, ⟨below_step (pw_below_drewN (Below.refl _ _) n) h.2.out⟩⟩
/-- What the walk gives up with. -/
def offends (path : ByteArray) (code : Int) : Ending := .panicked [{ v := .iface 109 (.agg #[.string path, .int .i64 code]), recovered := false }]
def AddPost (p : Nat) (path : ByteArray) (b : Int) (w : World) (e : Ending) (w' : World) : Prop :=
 w' = w.setCell ⟨p, 0, none⟩ (.int .i64 b) ∧ ((b ≤ 1048576 ∧ e = .returned (.tuple #[])) ∨ (1048576 < b ∧ e = offends path 2))
set_option maxHeartbeats 1000000 in
theorem add_calls (p : Nat) (path : ByteArray) (n b : Int) (w : World) (hp : Blk w p 107 [.int .i64 b]) (h0 : 0 ≤ b) (h1 : b ≤ 1048576) (h2 : 0 ≤ n) (h3 : n ≤ 10000000000000) :
  Calls Tryd.prog 72 #[.pointer (some ⟨p, 0, none⟩), .string path, .int .i64 n] w (AddPost p path (b + n) w) := by
 have hc := hp.cell 0 _ rfl
 have hf := hp.frozen 0
 clear hp
 by_cases hb : b + n ≤ 1048576
 ·have hb1 : ¬ (1048576 < b + n) := by omega
  have HB := Aside0.mk hb
  clear hb
  go_enter Tryd.func72, Tryd.ntmps72
  go_wp2
  go_end0
  exact ⟨rfl, .inl ⟨HB.out, rfl⟩⟩
 ·have hb1 : 1048576 < b + n := by omega
  clear hb
  go_enter Tryd.func72, Tryd.ntmps72
  go_wp2
  exact ⟨rfl, rfl, .inr ⟨hb1, rfl⟩⟩
def NodeRes (p : Nat) (s : Look) (e : Ending) (w' : World) : Prop := match s with
 | .ok b _ => e = .returned (.tuple #[]) ∧ Blk w' p 107 [.int .i64 b] ∧ 0 ≤ b ∧ b ≤ 1048576
 | .bad q c => e = offends q c
def NodePost (p : Nat) (s : Look) (w : World) (e : Ending) (w' : World) : Prop := Upd (fun k => k = p) w w' ∧ NodeRes p s e w'
/-- What the walk of a node says, f nodes ahead of the deepest. -/
def NodeSaid (f : Nat) : Prop := ∀ (p : Nat) (path : ByteArray) (x : Ent) (A : Option Addr) (c : Nat) (b : Int) (w0 w : World), Below w0.heap.size w0 w → w0.heap.size ≤ p →
 Blk w p 107 [.int .i64 b] → 0 ≤ b → b ≤ 1048576 → path.size + 256 * f ≤ 16384 → Texts x.f4 → x.f3.size ≤ 140737488351232 → Kd.C k63 w0 A x.f4.length x.f4 → x.f4.length ≤ c →
 Calls Tryd.prog 56 #[.pointer (some ⟨p, 0, none⟩), .string path, .agg #[.int .i64 x.f1, .bool x.f2, .string x.f3, .slice A x.f4.length c], .int .i64 (33 - (f : Int))] w (NodePost p (nodeL f path x b) w)
set_option maxHeartbeats 1000000 in
set_option maxRecDepth 100000 in
theorem node_zero : NodeSaid 0 := by
 intro p path x A c b w0 w hb0 hp0 hp h0 h1 hpl ht h3 hC hc
 have hd : (32 : Int) < 33 := by decide
 clear hb0 hp0 hp h0 h1 hpl ht h3 hC hc
 go_enter Tryd.func56, Tryd.ntmps56
 go_wp2
 exact ⟨rfl, Upd.of_below ((Below.refl _ _).alloc (Nat.le_refl _) _), rfl⟩
set_option maxHeartbeats 4000000 in
set_option maxRecDepth 100000 in
theorem node_step (f : Nat) (hf : f < 32) (ih : NodeSaid f) : NodeSaid (f + 1) := by
 intro p path x A c b w0 w hb0 hp0 hp h0 h1 hpl ht h3 hC hc
 have HP := Aside0.mk hp
 have HW0 := Aside0.mk hb0
 have HC0 := Aside0.mk hC
 have HC := Aside0.mk (Kd.C_below hC hb0)
 have HT := Aside0.mk ht
 unfold NodeSaid at ih
 have IH := Aside0.mk ih
 have hd : ¬ ((32 : Int) < 33 - ((f + 1 : Nat) : Int)) := by omega
 obtain ⟨d, hdd⟩ : ∃ d : Int, d = 33 - ((f + 1 : Nat) : Int) := ⟨_, rfl⟩
 rw [← hdd] at hd ⊢
 have HD := Aside0.mk hdd
 clear hp hC ht ih hdd hb0
 obtain ⟨W1, hW1⟩ : ∃ W1, W1 = w.alloc (.cells #[.int .i64 x.f1, .bool x.f2, .string x.f3, .slice A x.f4.length c] 32) := ⟨_, rfl⟩
 have HBX : Aside0 (Blk W1 w.heap.size 32 [.int .i64 x.f1, .bool x.f2, .string x.f3, .slice A x.f4.length c]) := ⟨by rw [hW1]; exact Blk.new _ _ _⟩
 have HB1 : Aside0 (Below w.heap.size w W1) := ⟨by rw [hW1]; exact (Below.refl _ _).alloc (Nat.le_refl _) _⟩
 have HF := Aside0.mk (fields_E x.f1 x.f2 x.f3 x.f4)
 have hlt : p < w.heap.size := HP.out.lt
 have z1 : W1.heap.size = w.heap.size + 1 := by rw [hW1]; simp
 obtain ⟨bx, hbx⟩ : ∃ bx, bx = w.heap.size := ⟨_, rfl⟩
 by_cases hfl : fieldsE x.f1 x.f2 x.f3 x.f4 = 0
 ·have HFL := Aside0.mk hfl
  rcases fields_kind hfl with hk | hk | hk
  ·have hk1 : (x.f1 == 1) = true := by rw [hk]; rfl
   have hk2 : (x.f1 == 2) = false := by rw [hk]; rfl
   have hk3 : (x.f1 == 3) = false := by rw [hk]; rfl
   have hkl := fields_kids hfl (by omega)
   have hor := ownS_range x.f1 x.f2 x.f3
   have HR : Aside0 (nodeL (f + 1) path x b = if 1048576 < b + ownS x.f1 x.f2 x.f3 then .bad path 2 else .ok (b + ownS x.f1 x.f2 x.f3) [(path, x.f1, x.f2, x.f3)]) := ⟨by
    rw [nodeL, if_neg (by rw [hfl]; decide), hkl]
    rfl⟩
   have HO : Aside0 (ownS x.f1 x.f2 x.f3 = if x.f2 = true then frs (fileW x.f3) + frs execW else frs (fileW x.f3)) := ⟨by unfold ownS; rw [if_pos hk]⟩
   have hf6 := frs_range (fileW x.f3)
   have hf2 := frs_range execW
   have e6 : ((fileW x.f3).length : Int) = 6 := rfl
   have e2 : (execW.length : Int) = 2 := rfl
   rw [e6] at hf6
   rw [e2] at hf2
   clear hfl hk hkl e6 e2
   rw [HFL.out] at HF
   generalize nodeL (f + 1) path x b = r at *
   generalize ownS x.f1 x.f2 x.f3 = own at *
   go_enter Tryd.func56, Tryd.ntmps56
   go_wp2_with fail
   rw [← hW1, ← hbx]
   rw [← hbx] at HBX hlt z1
   have HBQ := Aside0.mk hbx
   clear hbx
   (with_reducible refine (tree_fields.calls x.f1 x.f2 x.f3 A c x.f4 0 W1 (Kd.C_below HC.out HB1.out) hc HF.out).mono ?_)
   rintro e w2 ⟨rfl, hb2⟩
   have HB2 := Aside0.mk (below_step HB1.out hb2)
   have HX2 := Aside0.mk (HBX.out.below hb2)
   have c0 := HX2.out.cell 0 _ rfl
   have c1 := HX2.out.cell 1 _ rfl
   have c2 := HX2.out.cell 2 _ rfl
   clear hb2 hW1
   go_wp2_with fail
   (with_reducible refine (framed_file x.f3 (by omega) w2).mono ?_)
   rintro e w3 ⟨rfl, HB3⟩
   have HB4 := Aside0.mk (below_step HB2.out HB3.out)
   have HX4 := Aside0.mk (HX2.out.below HB3.out)
   clear HB2 HB3 HX2 HBX HB1 c0 c1 c2
   have c1 := HX4.out.cell 1 _ rfl
   cases hx2 : x.f2
   ·have HO2 : Aside0 (frs (fileW x.f3) = own) := ⟨by rw [HO.out, hx2]; rfl⟩
    rw [hx2] at c1 HX4
    clear hx2
    go_wp2_with fail
    rw [HO2.out]
    (with_reducible refine (add_calls p path own b w3 (HP.out.below HB4.out) h0 h1 hor.1 hor.2).mono ?_)
    rintro e w4 ⟨hw4, hq⟩
    have HU4 : Aside0 (Upd (fun k => k = p) w w4) := ⟨by rw [hw4]; exact (Upd.of_below HB4.out).trans (Upd.setCell (S := fun k => k = p) (p := ⟨p, 0, none⟩) (.inl rfl) _) (fun _ h => .inl h)⟩
    have HP5 : Aside0 (Blk w4 p 107 [.int .i64 (b + own)]) := ⟨by rw [hw4]; exact blk_put (HP.out.below HB4.out) 0 _ rfl⟩
    clear hw4
    rcases hq with ⟨hq, rfl⟩ | ⟨hq, rfl⟩
    ·go_wp2_with fail
     go_end0
     exact ⟨HU4.out, by rw [HR.out, if_neg (by omega)]; exact ⟨rfl, HP5.out, by omega, hq⟩⟩
    ·unfold offends
     go_wp2_with fail
     exact ⟨rfl, HU4.out, by rw [HR.out, if_pos hq]; exact rfl⟩
   ·have HO2 : Aside0 (frs (fileW x.f3) + frs execW = own) := ⟨by rw [HO.out, hx2]; rfl⟩
    rw [hx2] at c1 HX4
    clear hx2
    go_wp2_with fail
    (with_reducible refine (framed_exec w3).mono ?_)
    rintro e w5 ⟨rfl, HB5⟩
    have HB6 := Aside0.mk (below_step HB4.out HB5.out)
    clear HB4 HB5 HX4 c1
    go_wp2_with fail
    rw [HO2.out]
    (with_reducible refine (add_calls p path own b w5 (HP.out.below HB6.out) h0 h1 hor.1 hor.2).mono ?_)
    rintro e w4 ⟨hw4, hq⟩
    have HU4 : Aside0 (Upd (fun k => k = p) w w4) := ⟨by rw [hw4]; exact (Upd.of_below HB6.out).trans (Upd.setCell (S := fun k => k = p) (p := ⟨p, 0, none⟩) (.inl rfl) _) (fun _ h => .inl h)⟩
    have HP5 : Aside0 (Blk w4 p 107 [.int .i64 (b + own)]) := ⟨by rw [hw4]; exact blk_put (HP.out.below HB6.out) 0 _ rfl⟩
    clear hw4
    rcases hq with ⟨hq, rfl⟩ | ⟨hq, rfl⟩
    ·go_wp2_with fail
     go_end0
     exact ⟨HU4.out, by rw [HR.out, if_neg (by omega)]; exact ⟨rfl, HP5.out, by omega, hq⟩⟩
    ·unfold offends
     go_wp2_with fail
     exact ⟨rfl, HU4.out, by rw [HR.out, if_pos hq]; exact rfl⟩
  ·have hk1 : (x.f1 == 1) = false := by rw [hk]; rfl
   have hk2 : (x.f1 == 2) = true := by rw [hk]; rfl
   have hk3 : (x.f1 == 3) = false := by rw [hk]; rfl
   have hkl := fields_kids hfl (by omega)
   have hor := ownS_range x.f1 x.f2 x.f3
   have HR : Aside0 (nodeL (f + 1) path x b = if 1048576 < b + ownS x.f1 x.f2 x.f3 then .bad path 2 else .ok (b + ownS x.f1 x.f2 x.f3) [(path, x.f1, x.f2, x.f3)]) := ⟨by
    rw [nodeL, if_neg (by rw [hfl]; decide), hkl]
    rfl⟩
   have HO : Aside0 (frs (linkW x.f3) = ownS x.f1 x.f2 x.f3) := ⟨by unfold ownS; rw [if_neg (by omega), if_pos hk]⟩
   have hf6 := frs_range (linkW x.f3)
   have hf2 := frs_range execW
   have e6 : ((linkW x.f3).length : Int) = 6 := rfl
   have e2 : (execW.length : Int) = 2 := rfl
   rw [e6] at hf6
   rw [e2] at hf2
   clear hfl hk hkl e6 e2
   rw [HFL.out] at HF
   generalize nodeL (f + 1) path x b = r at *
   generalize ownS x.f1 x.f2 x.f3 = own at *
   go_enter Tryd.func56, Tryd.ntmps56
   go_wp2_with fail
   rw [← hW1, ← hbx]
   rw [← hbx] at HBX hlt z1
   have HBQ := Aside0.mk hbx
   clear hbx
   (with_reducible refine (tree_fields.calls x.f1 x.f2 x.f3 A c x.f4 0 W1 (Kd.C_below HC.out HB1.out) hc HF.out).mono ?_)
   rintro e w2 ⟨rfl, hb2⟩
   have HB2 := Aside0.mk (below_step HB1.out hb2)
   have HX2 := Aside0.mk (HBX.out.below hb2)
   have c0 := HX2.out.cell 0 _ rfl
   have c1 := HX2.out.cell 1 _ rfl
   have c2 := HX2.out.cell 2 _ rfl
   clear hb2 hW1
   go_wp2_with fail
   (with_reducible refine (framed_link x.f3 (by omega) w2).mono ?_)
   rintro e w3 ⟨rfl, HB3⟩
   have HB4 := Aside0.mk (below_step HB2.out HB3.out)
   have HX4 := Aside0.mk (HX2.out.below HB3.out)
   clear HB2 HB3 HX2 HBX HB1 c0 c1 c2
   go_wp2_with fail
   rw [HO.out]
   (with_reducible refine (add_calls p path own b w3 (HP.out.below HB4.out) h0 h1 hor.1 hor.2).mono ?_)
   rintro e w4 ⟨hw4, hq⟩
   have HU4 : Aside0 (Upd (fun k => k = p) w w4) := ⟨by rw [hw4]; exact (Upd.of_below HB4.out).trans (Upd.setCell (S := fun k => k = p) (p := ⟨p, 0, none⟩) (.inl rfl) _) (fun _ h => .inl h)⟩
   have HP5 : Aside0 (Blk w4 p 107 [.int .i64 (b + own)]) := ⟨by rw [hw4]; exact blk_put (HP.out.below HB4.out) 0 _ rfl⟩
   clear hw4
   rcases hq with ⟨hq, rfl⟩ | ⟨hq, rfl⟩
   ·go_wp2_with fail
    go_end0
    exact ⟨HU4.out, by rw [HR.out, if_neg (by omega)]; exact ⟨rfl, HP5.out, by omega, hq⟩⟩
   ·unfold offends
    go_wp2_with fail
    exact ⟨rfl, HU4.out, by rw [HR.out, if_pos hq]; exact rfl⟩
  ·have hk1 : (x.f1 == 1) = false := by rw [hk]; rfl
   have hk2 : (x.f1 == 2) = false := by rw [hk]; rfl
   have hk3 : (x.f1 == 3) = true := by rw [hk]; rfl
   have HO : Aside0 (ownS x.f1 x.f2 x.f3 = frs dirW) := ⟨by unfold ownS; rw [if_neg (by omega), if_neg (by omega)]⟩
   have HR : Aside0 (nodeL (f + 1) path x b = if 1048576 < b + frs dirW then .bad path 2 else (kidsL (nodeL f) d path none x.f4 (b + frs dirW)).pre [(path, x.f1, x.f2, x.f3)]) := ⟨by
    rw [nodeL, if_neg (by rw [hfl]; decide), HO.out, show (32 : Int) - (f : Int) = d from by have := HD.out; omega]⟩
   have hdr := frs_range dirW
   have hdl : (dirW.length : Int) = 4 := rfl
   rw [hdl] at hdr
   clear hfl hdl hk
   rw [HFL.out] at HF
   generalize nodeL (f + 1) path x b = r at *
   go_enter Tryd.func56, Tryd.ntmps56
   go_wp2_with fail
   rw [← hW1, ← hbx]
   rw [← hbx] at HBX hlt z1
   have HBQ := Aside0.mk hbx
   clear hbx
   (with_reducible refine (tree_fields.calls x.f1 x.f2 x.f3 A c x.f4 0 W1 (Kd.C_below HC.out HB1.out) hc HF.out).mono ?_)
   rintro e w2 ⟨rfl, hb2⟩
   have HB2 := Aside0.mk (below_step HB1.out hb2)
   have HX2 := Aside0.mk (HBX.out.below hb2)
   have c0 := HX2.out.cell 0 _ rfl
   clear hb2 hW1
   go_wp2_with fail
   (with_reducible refine (framed_dir w2).mono ?_)
   rintro e w3 ⟨rfl, HB3⟩
   have HB4 := Aside0.mk (below_step HB2.out HB3.out)
   have HX4 := Aside0.mk (HX2.out.below HB3.out)
   have HP4 := Aside0.mk (HP.out.below HB4.out)
   clear HB2 HB3 HX2 HBX HB1 c0
   go_wp2_with fail
   (with_reducible refine (add_calls p path (frs dirW) b w3 HP4.out h0 h1 hdr.1 (by omega)).mono ?_)
   rintro e w4 ⟨hw4, hq⟩
   have HU4 : Aside0 (Upd (fun k => k = p) w w4) := ⟨by rw [hw4]; exact (Upd.of_below HB4.out).trans (Upd.setCell (S := fun k => k = p) (p := ⟨p, 0, none⟩) (.inl rfl) _) (fun _ h => .inl h)⟩
   have HP5 : Aside0 (Blk w4 p 107 [.int .i64 (b + frs dirW)]) := ⟨by rw [hw4]; exact blk_put HP4.out 0 _ rfl⟩
   have HX5 : Aside0 (Blk w4 bx 32 [.int .i64 x.f1, .bool x.f2, .string x.f3, .slice A x.f4.length c]) := ⟨by rw [hw4]; exact HX4.out.upd (Upd.setCell (S := fun k => k = p) (p := ⟨p, 0, none⟩) (.inl rfl) _) (by omega)⟩
   clear hw4 HX4 HP4 HB4 HP
   rcases hq with ⟨hq, rfl⟩ | ⟨hq, rfl⟩
   ·have c3 := HX5.out.cell 3 _ rfl
    go_wp2_with fail
    have hm := Kd.C_max HC0.out
    have hmb : x.f4.length * 1 ≤ 9223372036854775807 := by omega
    have HR2 : Aside0 (r = (kidsL (nodeL f) d path none x.f4 (b + frs dirW)).pre [(path, x.f1, x.f2, x.f3)]) := ⟨by rw [HR.out, if_neg (by omega)]⟩
    clear HR c3
    go_loopw [64] (fun v64 wr => ∃ (i : Nat) (bi : Int), i ≤ x.f4.length ∧ v64 = .int .i64 i ∧ 0 ≤ bi ∧ bi ≤ 1048576 ∧ Aside0 (Blk wr p 107 [.int .i64 bi]) ∧ Aside0 (Upd (fun k => k = p) w wr) ∧ Aside0 (Blk wr bx 32 [.int .i64 x.f1, .bool x.f2, .string x.f3, .slice A x.f4.length c]) ∧ Aside0 (∃ rs, r = (kidsL (nodeL f) d path (prevAt x.f4 i) (x.f4.drop i) bi).pre rs)) (fun v _ => x.f4.length - (intOf v).toNat)
    case atStart => exact ⟨0, b + frs dirW, Nat.zero_le _, rfl, by omega, hq, HP5, HU4, HX5, ⟨_, HR2.out⟩⟩
    case round =>
     clear HP5 HU4 HX5 HR2
     obtain ⟨i, bi, hi, rfl, hb0, hb1, HP6, HU6, HX6, HR6⟩ := hrel
     have HB6 : Aside0 (Below w0.heap.size w0 wr) := ⟨HW0.out.trans (HU6.out.below (fun k hk => hk ▸ hp0) HW0.out.size)⟩
     by_cases hlt : i < x.f4.length
     ·obtain ⟨ad, A4, c4, hA, e0, e1, e2, e3, e4, hl4, hC4⟩ := at_T63 HC0.out (i : Int) (by omega) (by omega)
      subst hA
      simp only [Int.toNat_natCast] at e0 e1 e2 e3 e4
      have HAT : Aside0 (x.f4[i]? = some (rd_T63 x.f4 (i : Int))) := ⟨by simp [rd_T63, hlt]⟩
      replace e0 := (HB6.out.cell (World.block_lt_of_cell? _ _ e0)).trans e0
      replace e1 := (HB6.out.cell (World.block_lt_of_cell? _ _ e1)).trans e1
      replace e2 := (HB6.out.cell (World.block_lt_of_cell? _ _ e2)).trans e2
      replace e3 := (HB6.out.cell (World.block_lt_of_cell? _ _ e3)).trans e3
      replace e4 := (HB6.out.cell (World.block_lt_of_cell? _ _ e4)).trans e4
      have HC4 := Aside0.mk hC4
      generalize rd_T63 x.f4 (i : Int) = y at *
      clear hC4
      have hi0 : (0 : Int) ≤ (i : Int) := by omega
      have hi1 : (i : Int) < (x.f4.length : Int) := by omega
      have HTY := Aside0.mk (HT.out.at HAT.out)
      have hy0 := HTY.out.1
      go_wp2_with fail
      obtain ⟨W3, hW3⟩ : ∃ W3, W3 = wr.alloc (.cells #[.string y.f0, .int .i64 y.f1, .bool y.f2, .string y.f3, .slice A4 y.f4.length c4] 63) := ⟨_, rfl⟩
      have HBY : Aside0 (Blk W3 wr.heap.size 63 [.string y.f0, .int .i64 y.f1, .bool y.f2, .string y.f3, .slice A4 y.f4.length c4]) := ⟨by rw [hW3]; exact Blk.new _ _ _⟩
      have HB7 : Aside0 (Below wr.heap.size wr W3) := ⟨by rw [hW3]; exact (Below.refl _ _).alloc (Nat.le_refl _) _⟩
      have hpr : p < wr.heap.size := HP6.out.lt
      have hxr : bx < wr.heap.size := HX6.out.lt
      rw [← hW3]
      clear hW3 e0 e1 e2 e3 e4
      obtain ⟨bY, hbY⟩ : ∃ bY, bY = wr.heap.size := ⟨_, rfl⟩
      rw [← hbY] at HBY hpr hxr ⊢
      clear hbY
      obtain ⟨q, hq0⟩ : ∃ q, q = belowP path y.f0 d := ⟨_, rfl⟩
      have HBP : Aside0 (tree_below.f path y.f0 d = some q) := ⟨by rw [hq0]; exact below_P path y.f0 d (by omega)⟩
      have HQ := Aside0.mk hq0
      clear hq0
      (with_reducible refine (tree_below.calls path y.f0 d q W3 HBP.out).mono ?_)
      rintro e W4 ⟨rfl, hd4⟩
      have HB8 := Aside0.mk (below_step HB7.out hd4.below)
      have HBY4 := Aside0.mk (HBY.out.below hd4.below)
      clear hd4 HBP HB7 HBY
      have c0 := HBY4.out.cell 0 _ rfl
      go_wp2_with fail
      (with_reducible refine (name_Check.calls y.f0 (nameE y.f0) W4 (name_E y.f0)).mono ?_)
      rintro e W5 ⟨rfl, hb5⟩
      have HB9 := Aside0.mk (below_step HB8.out hb5)
      have HBY5 := Aside0.mk (HBY4.out.below hb5)
      clear hb5 HB8 HBY4 c0
      by_cases hne : nameE y.f0 = 0
      ·rw [hne]
       have cy0 := HBY5.out.cell 0 _ rfl
       have HX9 := Aside0.mk (HX6.out.below HB9.out)
       have HNE := Aside0.mk hne
       clear hne
       rcases Nat.eq_zero_or_pos i with hi00 | hi00
       case' inl =>
        have HORD : Aside0 ((prevAt x.f4 i).any (fun p => nle y.f0 p) = false) := ⟨by rw [hi00]; rfl⟩
        have hgt : decide (0 < i) = false := decide_eq_false (by omega)
        clear hi00
        go_wp2_with fail
        go_quiet (fail)
        go_wp2_with fail
       case' inr =>
        obtain ⟨j, hj⟩ : ∃ j, i = j + 1 := ⟨i - 1, by omega⟩
        obtain ⟨ad2, A5, c5, hA2, e0, e1, e2, e3, e4, _, _⟩ := at_T63 HC0.out (j : Int) (by omega) (by omega)
        cases hA2
        simp only [Int.toNat_natCast] at e0
        clear e1 e2 e3 e4
        have HAZ : Aside0 (x.f4[j]? = some (rd_T63 x.f4 (j : Int))) := ⟨by simp [rd_T63, show j < x.f4.length from by omega]⟩
        replace e0 := ((HB6.out.trans (HB9.out.mono HB6.out.size)).cell (World.block_lt_of_cell? _ _ e0)).trans e0
        generalize rd_T63 x.f4 (j : Int) = z at *
        have HPV : Aside0 (prevAt x.f4 i = some z.f0) := ⟨by rw [hj]; exact prevAt_succ HAZ.out⟩
        have c03 := HX9.out.cell 3 _ rfl
        have hgt : decide (0 < i) = true := decide_eq_true (by omega)
        have hw1 : IntKind.i64.wrap ((i : Int) - 1) = (j : Int) := by rw [show (i : Int) - 1 = (j : Int) from by omega]; exact IntWalk.i64_in _ (by omega)
        have hj0 : (0 : Int) ≤ (j : Int) := by omega
        have hj1 : (j : Int) < (x.f4.length : Int) := by omega
        clear hj hi00
        cases hle : (Op.bytesLess y.f0.toList z.f0.toList || y.f0.toList == z.f0.toList)
        case true =>
         have HK : Aside0 (r = .bad q 64) := ⟨by
          obtain ⟨rs, hr⟩ := HR6.out
          refine kids_bad HAT.out hr ?_
          rw [kidAt, if_neg (by rw [HNE.out]; decide), if_pos, ← HQ.out]
          rw [HPV.out]
          exact hle⟩
         go_wp2_with fail
         go_quiet (fail)
         go_wp2_with fail
         exact ⟨rfl, HU6.out.step (pw_below_drewN HB9.out _), by rw [HK.out]; exact rfl⟩
        have HORD : Aside0 ((prevAt x.f4 i).any (fun p => nle y.f0 p) = false) := ⟨by rw [HPV.out]; exact hle⟩
        go_wp2_with fail
        go_quiet (fail)
        go_wp2_with fail
       all_goals
        have her := entS_range y.f0
        (with_reducible refine (framed_entN y.f0 (by omega) W5 _).mono ?_)
        rintro e W6 ⟨rfl, HB10⟩
        have HB11 := Aside0.mk (below_step HB9.out HB10.out)
        have HBY6 := Aside0.mk (HBY5.out.below HB10.out)
        have HP7 := Aside0.mk (HP6.out.below HB11.out)
        have HX7 := Aside0.mk (HX6.out.below HB11.out)
        have HU7 := Aside0.mk (HU6.out.step HB11.out)
        clear HB9 HB10 HBY5 HX9 cy0 HP6 HX6 HU6 HB6
        go_wp2_with fail
        (with_reducible refine (add_calls p q (entS y.f0) bi W6 HP7.out hb0 hb1 her.1 her.2).mono ?_)
        rintro e W7 ⟨hW7, hq7⟩
        have hUs : Upd (fun k => k = p) W6 W7 := by rw [hW7]; exact Upd.setCell (S := fun k => k = p) (p := ⟨p, 0, none⟩) (.inl rfl) _
        have HU8 : Aside0 (Upd (fun k => k = p) w W7) := ⟨HU7.out.trans hUs (fun _ h => .inl h)⟩
        have HP8 : Aside0 (Blk W7 p 107 [.int .i64 (bi + entS y.f0)]) := ⟨by rw [hW7]; exact blk_put HP7.out 0 _ rfl⟩
        have HX8 := Aside0.mk (HX7.out.upd hUs (by omega))
        have HBY8 := Aside0.mk (HBY6.out.upd hUs (by omega))
        clear hW7 hUs HX7 HP7 HBY6 HU7 HB11
        rcases hq7 with ⟨hq7, rfl⟩ | ⟨hq7, rfl⟩
        case' inl =>
         have y1 := HBY8.out.cell 1 _ rfl
         have y2 := HBY8.out.cell 2 _ rfl
         have y3 := HBY8.out.cell 3 _ rfl
         have y4 := HBY8.out.cell 4 _ rfl
         have hd1 : 1 ≤ d := by have := HD.out; omega
         have hd2 : d ≤ 32 := by have := HD.out; omega
         go_wp2_with fail
         rw [show d + 1 = 33 - (f : Int) from by have := HD.out; omega]
         have HQS : Aside0 (q.size + 256 * f ≤ 16384) := ⟨by have := belowP_size (path := path) (kid := y.f0) d HNE.out; rw [← HQ.out] at this; omega⟩
         have HB12 : Aside0 (Below w0.heap.size w0 W7) := ⟨HW0.out.trans (HU8.out.below (fun k hk => hk ▸ hp0) HW0.out.size)⟩
         (with_reducible refine (IH.out p q y A4 c4 (bi + entS y.f0) w0 W7 HB12.out hp0 HP8.out (by omega) hq7 HQS.out HTY.out.2.2 HTY.out.2.1 HC4.out hl4).mono ?_)
         rintro e W8 ⟨hU9, hres⟩
         have HU9 : Aside0 (Upd (fun k => k = p) w W8) := ⟨HU8.out.trans hU9 (fun _ h => .inl h)⟩
         have HX9 := Aside0.mk (HX8.out.upd hU9 (by omega))
         clear hU9 HX8 HBY8 HP8 HU8 y1 y2 y3 y4
         have HKA : Aside0 (kidAt (nodeL f) d path (prevAt x.f4 i) y bi = nodeL f q y (bi + entS y.f0)) := ⟨by rw [kidAt, if_neg (by rw [HNE.out]; decide), if_neg (by rw [HORD.out]; decide), if_neg (by omega), ← HQ.out]⟩
         cases hs : nodeL f q y (bi + entS y.f0) with
         | bad q2 c2 =>
          rw [hs] at hres HKA
          have hres2 : e = offends q2 c2 := hres
          subst hres2
          have HK : Aside0 (r = .bad q2 c2) := ⟨by
           obtain ⟨rs, hr⟩ := HR6.out
           exact kids_bad HAT.out hr HKA.out⟩
          clear hs hres
          unfold offends
          go_wp2_with fail
          exact ⟨rfl, HU9.out, by rw [HK.out]; exact rfl⟩
         | ok b2 rows =>
          rw [hs] at hres HKA
          obtain ⟨rfl, hp9, hb20, hb21⟩ := hres
          have HP9 := Aside0.mk hp9
          have HK : Aside0 (∃ rs, r = (kidsL (nodeL f) d path (prevAt x.f4 (i + 1)) (x.f4.drop (i + 1)) b2).pre rs) := ⟨by
           obtain ⟨rs, hr⟩ := HR6.out
           exact ⟨_, kids_ok HAT.out hr HKA.out⟩⟩
          clear hs hp9 HR6 HKA
          go_wp2_with fail
          go_roundw
          case rel => exact ⟨i + 1, b2, by omega, by go_num, hb20, hb21, HP9, HU9, HX9, HK⟩
          case measure => simp [intOf]; omega
        have HK : Aside0 (r = .bad q 2) := ⟨by
         obtain ⟨rs, hr⟩ := HR6.out
         refine kids_bad HAT.out hr ?_
         rw [kidAt, if_neg (by rw [HNE.out]; decide), if_neg (by rw [HORD.out]; decide), if_pos hq7, ← HQ.out]⟩
        unfold offends
        go_wp2_with fail
        exact ⟨rfl, HU8.out, by rw [HK.out]; exact rfl⟩
      ·have HK : Aside0 (r = .bad q (nameE y.f0)) := ⟨by
        obtain ⟨rs, hr⟩ := HR6.out
        exact kids_bad HAT.out hr (by rw [kidAt, if_pos hne, ← HQ.out])⟩
       generalize nameE y.f0 = en at *
       have hen : (en != 0) = true := bne_iff_ne.2 hne
       have hen2 : (en == 0) = false := beq_eq_false_iff_ne.2 hne
       go_wp2_with fail
       exact ⟨rfl, HU6.out.step HB9.out, by rw [HK.out]; exact rfl⟩
     ·obtain rfl : i = x.f4.length := by omega
      have HK : Aside0 (∃ rs, r = .ok bi rs) := ⟨by
       obtain ⟨rs, hr⟩ := HR6.out
       rw [List.drop_length] at hr
       exact ⟨_, hr⟩⟩
      go_wp2_with fail
      go_end0
      refine ⟨HU6.out, ?_⟩
      obtain ⟨rs, hr⟩ := HK.out
      rw [hr]
      exact ⟨rfl, HP6.out, hb0, hb1⟩
   ·unfold offends
    go_wp2_with fail
    exact ⟨rfl, HU4.out, by rw [HR.out, if_pos hq]; exact rfl⟩
 ·have HR : Aside0 (nodeL (f + 1) path x b = .bad path (fieldsE x.f1 x.f2 x.f3 x.f4)) := ⟨by rw [nodeL, if_pos hfl]⟩
  generalize nodeL (f + 1) path x b = r at *
  generalize hee : fieldsE x.f1 x.f2 x.f3 x.f4 = e at *
  have he1 : (e == 0) = false := beq_eq_false_iff_ne.2 hfl
  have he2 : (e != 0) = true := bne_iff_ne.2 hfl
  clear hee
  go_enter Tryd.func56, Tryd.ntmps56
  go_wp2_with fail
  rw [← hW1]
  (with_reducible refine (tree_fields.calls x.f1 x.f2 x.f3 A c x.f4 e W1 (Kd.C_below HC.out HB1.out) hc HF.out).mono ?_)
  rintro ee w2 ⟨rfl, hb2⟩
  have HB2 := Aside0.mk (below_step HB1.out hb2)
  clear hb2 hW1
  go_wp2
  exact ⟨rfl, Upd.of_below HB2.out, by rw [HR.out]; exact rfl⟩
theorem node_all : ∀ f, f ≤ 32 → NodeSaid f
 | 0, _ => node_zero
 | f + 1, h => node_step f (by omega) (node_all f (by omega))
end Go.Proofs.YtnemeeidomceiaaDoor
end
section
namespace Go.Proofs.YtnemeeidomceiaaDoor
open Go.RowKit Go.Proofs.YtnemeeidomceiaaDoorW.PrintWords Go.Proofs.YtnemeeidomceiaaDoorW.PrintLast Go.Proofs.YtnemeeidomceiaaDoorW.PrintMore Go.Proofs.YtnemeeidomceiaaDoor.PTreeChecks
set_option linter.unusedVariables false
set_option linter.unusedSimpArgs false
abbrev RefRow := S29
/-- A row of the walk as the document's. -/
def rowR (r : RowT) : RefRow := ⟨r.1, r.2.1, r.2.2.1, r.2.2.2⟩
def RefRes (s : Look) (rows0 rows1 : List RefRow) (b1 c1 : Int) (p1 : ByteArray) : Prop := match s with
 | .bad q c => c1 = c ∧ p1 = q
 | .ok b2 rows => c1 = 0 ∧ b1 = b2 ∧ rows1 = rows0 ++ rows.map rowR
abbrev RowsAt (w : World) (base : Nat) (v : Value) (rows : List RefRow) : Prop := Kd.R k29 29 w base (fun _ => True) v rows
def RefPost (s : Look) (base : Nat) (v0 : Value) (rows0 : List RefRow) (w : World) (e : Ending) (w' : World) : Prop :=
 ∃ v1 rows1 b1 c1 p1, e = .returned (.agg #[v1, .int .i64 b1, .int .i64 c1, .string p1]) ∧ RowsAt w' base v1 rows1 ∧ Upd (fun k => v0.ownBlock = some k) w w' ∧
  (v1.ownBlock = v0.ownBlock ∨ ∃ b, v1.ownBlock = some b ∧ w.heap.size ≤ b) ∧ RefRes s rows0 rows1 b1 c1 p1
theorem _root_.Go.Proofs.YtnemeeidomceiaaDoorW.PrintWords.Kd.R_base_ {w : World} {base : Nat} {v : Value} {rows : List RefRow} (h : RowsAt w base v rows) (k : Nat) (hk : v.ownBlock = some k) : base ≤ k := by
 obtain ⟨inner, ho⟩ := Kd.R_own h
 exact own_base ho k hk
/-- What the document's walk of a node says. -/
def RefSaid (f : Nat) : Prop := ∀ (path : ByteArray) (x : Ent) (A : Option Addr) (c : Nat) (b : Int) (v0 : Value) (rows0 : List RefRow) (p0 : ByteArray) (base : Nat) (w0 w : World), Below w0.heap.size w0 w → w0.heap.size ≤ base → base ≤ w.heap.size →
 RowsAt w base v0 rows0 → (rows0.length : Int) ≤ b → 0 ≤ b → b ≤ 1048576 → path.size + 256 * f ≤ 16384 → Texts x.f4 → x.f3.size ≤ 140737488351232 → Kd.C k63 w0 A x.f4.length x.f4 → x.f4.length ≤ c →
 Calls Tryd.prog 65 #[.agg #[v0, .int .i64 b, .int .i64 0, .string p0], .string path, .agg #[.int .i64 x.f1, .bool x.f2, .string x.f3, .slice A x.f4.length c], .int .i64 (33 - (f : Int))] w (RefPost (nodeL f path x b) base v0 rows0 w)
/-- Four cells stored one by one. -/
theorem store4 {w : World} {g : Nat} {q : TypeId} {z0 z1 z2 z3 : Value} (h : Blk w g q [z0, z1, z2, z3]) (v0 v1 v2 v3 : Value) :
  Blk ((((w.setCell ⟨g, 0, none⟩ v0).setCell ⟨g, 1, none⟩ v1).setCell ⟨g, 2, none⟩ v2).setCell ⟨g, 3, none⟩ v3) g q [v0, v1, v2, v3] ∧ Upd (fun k => k = g) w ((((w.setCell ⟨g, 0, none⟩ v0).setCell ⟨g, 1, none⟩ v1).setCell ⟨g, 2, none⟩ v2).setCell ⟨g, 3, none⟩ v3) := by
 refine ⟨blk_put (cs := #[v0, v1, v2, z3]) (blk_put (cs := #[v0, v1, z2, z3]) (blk_put (cs := #[v0, z1, z2, z3]) (blk_put (cs := #[z0, z1, z2, z3]) h 0 _ rfl) 1 _ rfl) 2 _ rfl) 3 _ rfl, ?_⟩
 exact (((Upd.setCell (S := fun k => k = g) (p := ⟨g, 0, none⟩) (.inl rfl) v0).trans (Upd.setCell (S := fun k => k = g) (p := ⟨g, 1, none⟩) (.inl rfl) v1) (fun _ h => .inl h)).trans (Upd.setCell (S := fun k => k = g) (p := ⟨g, 2, none⟩) (.inl rfl) v2) (fun _ h => .inl h)).trans (Upd.setCell (S := fun k => k = g) (p := ⟨g, 3, none⟩) (.inl rfl) v3) (fun _ h => .inl h)
theorem store1 {w : World} {g : Nat} {q : TypeId} {vs : List Value} (h : Blk w g q vs) (i : Nat) (v : Value) : Blk (w.setCell ⟨g, i, none⟩ v) g q (vs.set i v) ∧ Upd (fun k => k = g) w (w.setCell ⟨g, i, none⟩ v) :=
 ⟨blk_put h i v (by simp), Upd.setCell (S := fun k => k = g) (p := ⟨g, i, none⟩) (.inl rfl) v⟩
theorem rows_upd {S : Nat → Prop} {w w1 : World} {base : Nat} {v : Value} {rows : List RefRow} (h : RowsAt w base v rows) (hU : Upd S w w1) (hS : ∀ k, S k → ∃ t cells, w.heap[k]? = some (.cells cells t (0, 0)) ∧ t ≠ 29) : RowsAt w1 base v rows :=
 Kd.R_mono (Kd.R_step (Kd.R_bound h) (fun k hk hlt => hU.block k hlt (fun hs => by
  obtain ⟨t, cells, hc, ht⟩ := hS k hs
  obtain ⟨_, _, _, q, hq, cells2, hc2⟩ := hk
  rw [hc] at hc2
  injection hc2 with hc2
  injection hc2 with _ h2
  rcases List.mem_cons.1 hq with h | h
  ·exact ht (h2.trans h)
  ·rw [show k29.E = [] from rfl] at h; cases h))) (fun _ _ => trivial)
theorem rows_ne {w : World} {base g : Nat} {v : Value} {rows : List RefRow} {q : TypeId} {vs : List Value} (h : RowsAt w base v rows) (hb : Blk w g q vs) (hq : q ≠ 29) : ¬ (v.ownBlock = some g) := fun e => Kd.R_ne h hb (fun e => hq e.symm) e.symm
theorem ref_fin {s : Look} {base b8 : Nat} {v0 v1 z0 z1 z2 z3 : Value} {rows0 rows1 : List RefRow} {w W : World} {b1 c1 : Int} {p1 : ByteArray} (hR : RowsAt W base v1 rows1) (hU : Upd (fun k => v0.ownBlock = some k) w W)
  (h8 : Blk W b8 87 [z0, z1, z2, z3]) (hb8 : w.heap.size ≤ b8) (ho : v1.ownBlock = v0.ownBlock ∨ ∃ b, v1.ownBlock = some b ∧ w.heap.size ≤ b) (hres : RefRes s rows0 rows1 b1 c1 p1) :
  RefPost s base v0 rows0 w (.returned (.agg #[v1, .int .i64 b1, .int .i64 c1, .string p1])) ((((W.setCell ⟨b8, 0, none⟩ v1).setCell ⟨b8, 1, none⟩ (.int .i64 b1)).setCell ⟨b8, 2, none⟩ (.int .i64 c1)).setCell ⟨b8, 3, none⟩ (.string p1)) := by
 have hs := (store4 h8 v1 (.int .i64 b1) (.int .i64 c1) (.string p1)).2
 exact ⟨v1, rows1, b1, c1, p1, rfl, rows_upd hR hs (fun k hk => ⟨_, _, by subst hk; exact h8, by decide⟩), hU.trans hs (fun k hk => .inr (hk ▸ hb8)), ho, hres⟩
/-- One cell of the state's own box is written. -/
theorem ref_put {base bs : Nat} {v0 v1 : Value} {rows1 : List RefRow} {w W : World} {vs : List Value} (hR : RowsAt W base v1 rows1) (hU : Upd (fun k => v0.ownBlock = some k) w W) (hS : Blk W bs 87 vs) (hbs : w.heap.size ≤ bs) (i : Nat) (u : Value) :
  RowsAt (W.setCell ⟨bs, i, none⟩ u) base v1 rows1 ∧ Upd (fun k => v0.ownBlock = some k) w (W.setCell ⟨bs, i, none⟩ u) ∧ Blk (W.setCell ⟨bs, i, none⟩ u) bs 87 (vs.set i u) ∧ Upd (fun k => k = bs) W (W.setCell ⟨bs, i, none⟩ u) := by
 have hs := store1 hS i u
 exact ⟨rows_upd hR hs.2 (fun k hk => ⟨_, _, by subst hk; exact hS, by decide⟩), hU.trans hs.2 (fun k hk => .inr (hk ▸ hbs)), hs.1, hs.2⟩
set_option maxHeartbeats 1000000 in
set_option maxRecDepth 100000 in
theorem ref_zero : RefSaid 0 := by
 intro path x A c b v0 rows0 p0 base w0 w hb0 hba hbw hR hrl h0 h1 hpl ht h3 hC hc
 have HR := Aside0.mk hR
 obtain ⟨A0, c0, hv0⟩ := Kd.R_slice hR
 have hd : (32 : Int) < 33 := by decide
 subst hv0
 clear hb0 hR ht hC
 go_enter Tryd.func65, Tryd.ntmps65
 go_wp2
 refine bodyPost_ret (results_cell_row rfl _ _ (w.heap.size + 1 + 1) 87 #[.slice A0 rows0.length c0, .int .i64 b, .int .i64 61, .string path] (0, 0) _ rfl (by have := heap_alloc_new ((w.alloc (.cells #[.slice A0 rows0.length c0, .int .i64 b, .int .i64 61, .string path] 87)).alloc (.cells #[.int .i64 x.f1, .bool x.f2, .string x.f3, .slice A x.f4.length c] 32)) (.cells #[.slice A0 rows0.length c0, .int .i64 b, .int .i64 61, .string path] 87); simpa using this) Tryd.underlying87 rfl (by kernel_rfl)) rfl ?_
 have hb : Below w.heap.size w (((w.alloc (.cells #[.slice A0 rows0.length c0, .int .i64 b, .int .i64 61, .string path] 87)).alloc (.cells #[.int .i64 x.f1, .bool x.f2, .string x.f3, .slice A x.f4.length c] 32)).alloc (.cells #[.slice A0 rows0.length c0, .int .i64 b, .int .i64 61, .string path] 87)) := ((((Below.refl _ _).alloc (Nat.le_refl _) _).alloc (by simp) _).alloc (by simp; omega) _)
 exact ⟨_, rows0, b, 61, path, rfl, Kd.R_below HR.out hb, Upd.of_below hb, .inl rfl, rfl, rfl⟩
set_option maxHeartbeats 4000000 in
set_option maxRecDepth 100000 in
theorem ref_step (f : Nat) (hf : f < 32) (ih : RefSaid f) : RefSaid (f + 1) := by
 intro path x A c b v0 rows0 p0 base w0 w hb0 hba hbw hR hrl h0 h1 hpl ht h3 hC hc
 have HR := Aside0.mk hR
 have HW0 := Aside0.mk hb0
 have HC0 := Aside0.mk hC
 have HT := Aside0.mk ht
 unfold RefSaid at ih
 have IH := Aside0.mk ih
 have hd : ¬ ((32 : Int) < 33 - ((f + 1 : Nat) : Int)) := by omega
 obtain ⟨d, hdd⟩ : ∃ d : Int, d = 33 - ((f + 1 : Nat) : Int) := ⟨_, rfl⟩
 rw [← hdd] at hd ⊢
 have HD := Aside0.mk hdd
 clear hC ht ih hdd hb0
 obtain ⟨A0, c0, hv0⟩ := Kd.R_slice hR
 subst hv0
 clear hR
 have HOWN := Aside0.mk (own_E x.f1 x.f2 x.f3 x.f4 (by omega) (x.f3.size + 61) (Nat.lt_succ_self _))
 have HNL : Aside0 (nodeL (f + 1) path x b = if fieldsE x.f1 x.f2 x.f3 x.f4 ≠ 0 then .bad path (fieldsE x.f1 x.f2 x.f3 x.f4) else if 1048576 < b + ownS x.f1 x.f2 x.f3 then .bad path 2 else (kidsL (nodeL f) d path none x.f4 (b + ownS x.f1 x.f2 x.f3)).pre [(path, x.f1, x.f2, x.f3)]) := ⟨by
  rw [nodeL, show (32 : Int) - (f : Int) = d from by have := HD.out; omega]⟩
 have hor := ownS_range x.f1 x.f2 x.f3
 generalize nodeL (f + 1) path x b = r at *
 generalize hfe : fieldsE x.f1 x.f2 x.f3 x.f4 = fe at *
 generalize hoe : ownS x.f1 x.f2 x.f3 = oe at *
 have HOE := Aside0.mk hoe
 clear hfe hoe
 go_enter Tryd.func65, Tryd.ntmps65
 go_wp2_with fail
 obtain ⟨Wa, hWa⟩ : ∃ Wa, Wa = w.alloc (.cells #[.slice A0 rows0.length c0, .int .i64 b, .int .i64 0, .string path] 87) := ⟨_, rfl⟩
 have zWa : Wa.heap.size = w.heap.size + 1 := by rw [hWa]; simp
 have HBA : Aside0 (Blk Wa w.heap.size 87 [.slice A0 rows0.length c0, .int .i64 b, .int .i64 0, .string path]) := ⟨by rw [hWa]; exact Blk.new _ _ _⟩
 have HLA : Aside0 (Below w.heap.size w Wa) := ⟨by rw [hWa]; exact (Below.refl _ _).alloc (Nat.le_refl _) _⟩
 rw [← hWa]
 try rw [← zWa]
 clear hWa
 obtain ⟨Wb, hWb⟩ : ∃ Wb, Wb = Wa.alloc (.cells #[.int .i64 x.f1, .bool x.f2, .string x.f3, .slice A x.f4.length c] 32) := ⟨_, rfl⟩
 have zWb : Wb.heap.size = Wa.heap.size + 1 := by rw [hWb]; simp
 have HBB : Aside0 (Blk Wb Wa.heap.size 32 [.int .i64 x.f1, .bool x.f2, .string x.f3, .slice A x.f4.length c]) := ⟨by rw [hWb]; exact Blk.new _ _ _⟩
 have HLB : Aside0 (Below Wa.heap.size Wa Wb) := ⟨by rw [hWb]; exact (Below.refl _ _).alloc (Nat.le_refl _) _⟩
 rw [← hWb]
 try rw [← zWb]
 clear hWb
 obtain ⟨Wc, hWc⟩ : ∃ Wc, Wc = Wb.alloc (.cells #[.slice none 0 0, .int .i64 0, .int .i64 0, .string ⟨#[]⟩] 87) := ⟨_, rfl⟩
 have zWc : Wc.heap.size = Wb.heap.size + 1 := by rw [hWc]; simp
 have HBC : Aside0 (Blk Wc Wb.heap.size 87 [.slice none 0 0, .int .i64 0, .int .i64 0, .string ⟨#[]⟩]) := ⟨by rw [hWc]; exact Blk.new _ _ _⟩
 have HLC : Aside0 (Below Wb.heap.size Wb Wc) := ⟨by rw [hWc]; exact (Below.refl _ _).alloc (Nat.le_refl _) _⟩
 rw [← hWc]
 try rw [← zWc]
 clear hWc
 have hsz : w.heap.size < Wa.heap.size ∧ Wa.heap.size < Wb.heap.size ∧ Wb.heap.size < Wc.heap.size := by omega
 clear zWa zWb zWc
 have HLac := Aside0.mk (below_step HLA.out (below_step HLB.out HLC.out))
 have HBS := Aside0.mk ((HBA.out.below HLB.out).below HLC.out)
 have HBN := Aside0.mk (HBB.out.below HLC.out)
 have HB8 := HBC
 obtain ⟨bs, hbs⟩ : ∃ q, q = w.heap.size := ⟨_, rfl⟩
 obtain ⟨bn, hbn⟩ : ∃ q, q = Wa.heap.size := ⟨_, rfl⟩
 obtain ⟨b8, hb8⟩ : ∃ q, q = Wb.heap.size := ⟨_, rfl⟩
 rw [← hbs, ← hbn, ← hb8] at hsz ⊢
 rw [← hbs] at HBS
 rw [← hbn] at HBN
 rw [← hb8] at HB8
 have HQS := Aside0.mk hbs
 have hbsw : w.heap.size ≤ bs := by omega
 have hb8w : w.heap.size ≤ b8 := by omega
 clear hbs hbn hb8 HBA HBB HBC HLA HLB HLC
 (with_reducible refine (depotref06_Own.calls (x.f3.size + 61) x.f1 x.f2 x.f3 A c x.f4 fe (if fe = 0 then oe else 0) Wc (Kd.C_below HC0.out (HW0.out.trans (HLac.out.mono HW0.out.size))) hc HOWN.out).mono ?_)
 rintro e W4 ⟨rfl, hb4⟩
 have HL4 := Aside0.mk (below_step HLac.out hb4)
 have S4 := Aside0.mk (HBS.out.below hb4)
 have N4 := Aside0.mk (HBN.out.below hb4)
 have R8 := Aside0.mk (HB8.out.below hb4)
 have HR4 := Aside0.mk (Kd.R_below HR.out HL4.out)
 clear hb4 HLac HBS HBN HB8 HOWN
 by_cases hfz : fe = 0
 ·have HFZ := Aside0.mk hfz
  have hf1 : (fe != 0) = false := by rw [hfz]; rfl
  have HIF : Aside0 ((if fe = 0 then oe else 0) = oe) := ⟨if_pos hfz⟩
  rw [HIF.out]
  clear hfz HIF
  have HU4 : Aside0 (Upd (fun k => (Value.slice A0 rows0.length c0).ownBlock = some k) w W4) := ⟨Upd.of_below HL4.out⟩
  by_cases hq : 1048576 < b + oe
  ·have HRB : Aside0 (r = .bad path 2) := ⟨by rw [HNL.out, if_neg (by rw [HFZ.out]; decide), if_pos hq]⟩
   have e0 := S4.out.cell 0 _ rfl
   have e1 := S4.out.cell 1 _ rfl
   have e2 := S4.out.cell 2 _ rfl
   have e3 := S4.out.cell 3 _ rfl
   have z0 := S4.out.frozen 0
   have z1 := S4.out.frozen 1
   have z2 := S4.out.frozen 2
   have z3 := S4.out.frozen 3
   have g0 := R8.out.cell 0 _ rfl
   have g1 := R8.out.cell 1 _ rfl
   have g2 := R8.out.cell 2 _ rfl
   have g3 := R8.out.cell 3 _ rfl
   have y0 := R8.out.frozen 0
   have y1 := R8.out.frozen 1
   have y2 := R8.out.frozen 2
   have y3 := R8.out.frozen 3
   have nsb : ¬ (b8 = bs) := by omega
   have nbs : ¬ (bs = b8) := by omega
   go_wp2
   clear e0 e1 e2 e3 z0 z1 z2 z3 g0 g1 g2 g3 y0 y1 y2 y3
   obtain ⟨W5, hW5⟩ : ∃ W5, W5 = W4.setCell ⟨bs, 1, none⟩ (.int .i64 (b + oe)) := ⟨_, rfl⟩
   have HPUT := Aside0.mk (ref_put HR4.out HU4.out S4.out hbsw 1 (.int .i64 (b + oe)))
   rw [← hW5] at HPUT
   try rw [← hW5]
   clear hW5
   have HR4x := Aside0.mk HPUT.out.1
   have HU4x := Aside0.mk HPUT.out.2.1
   have S4x := Aside0.mk HPUT.out.2.2.1
   have R8x := Aside0.mk (R8.out.upd HPUT.out.2.2.2 (by omega))
   clear HPUT HR4 HU4 S4 R8
   obtain ⟨W6, hW6⟩ : ∃ W6, W6 = W5.setCell ⟨bs, 2, none⟩ (.int .i64 2) := ⟨_, rfl⟩
   have HPUT := Aside0.mk (ref_put HR4x.out HU4x.out S4x.out hbsw 2 (.int .i64 2))
   rw [← hW6] at HPUT
   try rw [← hW6]
   clear hW6
   have HR4xy := Aside0.mk HPUT.out.1
   have HU4xy := Aside0.mk HPUT.out.2.1
   have S4xy := Aside0.mk HPUT.out.2.2.1
   have R8xy := Aside0.mk (R8x.out.upd HPUT.out.2.2.2 (by omega))
   clear HPUT HR4x HU4x S4x R8x
   refine bodyPost_ret (results_cell_row rfl _ _ b8 87 #[.slice A0 rows0.length c0, .int .i64 (b + oe), .int .i64 2, .string path] (0, 0) _ rfl (store4 R8xy.out _ _ _ _).1 Tryd.underlying87 rfl (by kernel_rfl)) rfl ?_
   exact ref_fin HR4xy.out HU4xy.out R8xy.out hb8w (.inl rfl) (by rw [HRB.out]; exact ⟨rfl, rfl⟩)
  ·have HRK : Aside0 (r = (kidsL (nodeL f) d path none x.f4 (b + oe)).pre [(path, x.f1, x.f2, x.f3)]) := ⟨by rw [HNL.out, if_neg (by rw [HFZ.out]; decide), if_neg hq]⟩
   have e1 := S4.out.cell 1 _ rfl
   have z1 := S4.out.frozen 1
   have HPUT := Aside0.mk (ref_put HR4.out HU4.out S4.out hbsw 1 (.int .i64 (b + oe)))
   have HR5 := Aside0.mk HPUT.out.1
   have HU5 := Aside0.mk HPUT.out.2.1
   have S5 : Aside0 (Blk (W4.setCell ⟨bs, 1, none⟩ (.int .i64 (b + oe))) bs 87 [.slice A0 rows0.length c0, .int .i64 (b + oe), .int .i64 0, .string path]) := ⟨HPUT.out.2.2.1⟩
   have N5 := Aside0.mk (N4.out.upd HPUT.out.2.2.2 (by omega))
   have R85 := Aside0.mk (R8.out.upd HPUT.out.2.2.2 (by omega))
   have q0 := S5.out.cell 0 _ rfl
   have q1 := S5.out.cell 1 _ rfl
   have n0 := N5.out.cell 0 _ rfl
   have n1 := N5.out.cell 1 _ rfl
   have n2 := N5.out.cell 2 _ rfl
   have HB5 : Aside0 (base ≤ (W4.setCell ⟨bs, 1, none⟩ (.int .i64 (b + oe))).heap.size) := ⟨Nat.le_trans hbw HU5.out.size⟩
   have HL5 : Aside0 ((rows0.length + 1) * 48 ≤ 140737488355328) := ⟨by omega⟩
   clear HPUT S4 N4 R8 HR4 HU4
   have hqd : decide (1048576 < b + oe) = false := decide_eq_false hq
   go_wp2_with ((with_reducible refine gate_dst (N := 50) rfl ?_); refine Stand.go ?_)
   clear q0 q1 n0 n1 n2 e1 z1
   refine Kd.R_append k29 base rfl (.tmp 40) (.tmp 49) 24 29 (.agg #[.string ⟨#[]⟩, .int .i64 0, .bool false, .string ⟨#[]⟩]) 48 rfl Tryd.underlying24 (by kernel_rfl) rfl (by decide) (by decide) (.slice A0 rows0.length c0) rows0 ⟨path, x.f1, x.f2, x.f3⟩ [.string path, .int .i64 x.f1, .bool x.f2, .string x.f3] (fun _ => True) (fun k => True ∧ some k ≠ (Value.slice A0 rows0.length c0).ownBlock) ?hs ?hx (k29_mkM _ _ _ _) (fun _ h => h) (fun _ _ => trivial) HR5.out (Below.refl _ _) HB5.out HL5.out ?_
   case hs => rfl
   case hx => first | rfl | (go_simp; done) | (simp [Act.eval, World.setCell]; done)
   intro v1 w1 hR6 _ hg6 hat6
   obtain ⟨rows1, hrw⟩ : ∃ q, q = rows0 ++ [(⟨path, x.f1, x.f2, x.f3⟩ : RefRow)] := ⟨_, rfl⟩
   rw [← hrw] at hR6
   have HRW := Aside0.mk hrw
   have hrl1 : (rows1.length : Int) ≤ b + oe := by
    have : rows1.length = rows0.length + 1 := by rw [hrw, List.length_append]; rfl
    have hoe1 : 1 ≤ oe := by have := own_pos x.f1 x.f2 x.f3; rw [HOE.out] at this; exact this
    omega
   clear hrw
   obtain ⟨A1, c1, hv1⟩ := Kd.R_slice hR6
   subst hv1
   have HR6 := Aside0.mk hR6
   have S6 := Aside0.mk (S5.out.grown hg6 (rows_ne HR5.out S5.out (by decide)))
   have N6 := Aside0.mk (N5.out.grown hg6 (rows_ne HR5.out N5.out (by decide)))
   have R86 := Aside0.mk (R85.out.grown hg6 (rows_ne HR5.out R85.out (by decide)))
   have HU6 := Aside0.mk (HU5.out.trans (Upd.of_grown (S := fun k => (Value.slice A0 rows0.length c0).ownBlock = some k) hg6 (fun k hk => .inl hk)) (fun _ h => .inl h))
   have HAT : Aside0 ((Value.slice A1 rows1.length c1).ownBlock = (Value.slice A0 rows0.length c0).ownBlock ∨ ∃ b, (Value.slice A1 rows1.length c1).ownBlock = some b ∧ w.heap.size ≤ b) := ⟨hat6.imp id (fun h => by obtain ⟨b, h1, h2⟩ := h; exact ⟨b, h1, Nat.le_trans HU5.out.size h2⟩)⟩
   clear hR6 hg6 hat6 HR5 S5 N5 R85 HU5 HB5 HL5
   have q0 := S6.out.cell 0 _ rfl
   have z0 := S6.out.frozen 0
   go_wp2_with fail
   clear q0 z0
   obtain ⟨w2, hw2⟩ : ∃ w2, w2 = w1.setCell ⟨bs, 0, none⟩ (.slice A1 rows1.length c1) := ⟨_, rfl⟩
   have HPUT := Aside0.mk (ref_put HR6.out HU6.out S6.out hbsw 0 (.slice A1 rows1.length c1))
   rw [← hw2] at HPUT
   try rw [← hw2]
   clear hw2
   have HR7 := Aside0.mk HPUT.out.1
   have HU7 := Aside0.mk HPUT.out.2.1
   have S7 : Aside0 (Blk w2 bs 87 [.slice A1 rows1.length c1, .int .i64 (b + oe), .int .i64 0, .string path]) := ⟨HPUT.out.2.2.1⟩
   have N7 := Aside0.mk (N6.out.upd HPUT.out.2.2.2 (by omega))
   have R87 := Aside0.mk (R86.out.upd HPUT.out.2.2.2 (by omega))
   clear HPUT HR6 HU6 S6 N6 R86
   have hm := Kd.C_max HC0.out
   have hmb : x.f4.length * 1 ≤ 9223372036854775807 := by omega
   go_loopw [11] (fun v11 wr => ∃ (i : Nat) (bi : Int) (Ai : Option Addr) (ci : Nat) (rowsi : List RefRow) (pi : ByteArray), i ≤ x.f4.length ∧ v11 = .int .i64 i ∧ 0 ≤ bi ∧ bi ≤ 1048576 ∧ (rowsi.length : Int) ≤ bi ∧ Aside0 (RowsAt wr base (.slice Ai rowsi.length ci) rowsi) ∧ Aside0 (Upd (fun k => (Value.slice A0 rows0.length c0).ownBlock = some k) w wr) ∧ Aside0 (Blk wr bs 87 [.slice Ai rowsi.length ci, .int .i64 bi, .int .i64 0, .string pi]) ∧ Aside0 (Blk wr bn 32 [.int .i64 x.f1, .bool x.f2, .string x.f3, .slice A x.f4.length c]) ∧ Aside0 (Blk wr b8 87 [.slice none 0 0, .int .i64 0, .int .i64 0, .string ⟨#[]⟩]) ∧
     Aside0 ((Value.slice Ai rowsi.length ci).ownBlock = (Value.slice A0 rows0.length c0).ownBlock ∨ ∃ b, (Value.slice Ai rowsi.length ci).ownBlock = some b ∧ w.heap.size ≤ b) ∧ Aside0 (∃ rs : List RowT, rowsi = rows0 ++ rs.map rowR ∧ r = (kidsL (nodeL f) d path (prevAt x.f4 i) (x.f4.drop i) bi).pre rs)) (fun v _ => x.f4.length - (intOf v).toNat)
   case atStart => exact ⟨0, b + oe, A1, c1, rows1, path, Nat.zero_le _, rfl, by omega, by omega, hrl1, HR7, HU7, S7, N7, R87, HAT, ⟨[(path, x.f1, x.f2, x.f3)], HRW.out, HRK.out⟩⟩
   case round =>
    clear HR7 HU7 S7 N7 R87 HAT HRW HRK hrl1
    obtain ⟨i, bi, Ai, ci, rowsi, pi, hi, rfl, hb0, hb1, hrl, HRi, HUi, Si, Ni, R8i, HAT, HK⟩ := hrel
    have n3 := Ni.out.cell 3 _ rfl
    by_cases hlt : i < x.f4.length
    ·skip
     have HBi : Aside0 (Below w0.heap.size w0 wr) := ⟨HW0.out.trans (HUi.out.below (fun k hk => by have := Kd.R_base_ (HR.out) k hk; omega) HW0.out.size)⟩
     obtain ⟨ad, A4, c4, hA, e0, e1, e2, e3, e4, hl4, hC4⟩ := at_T63 HC0.out (i : Int) (by omega) (by omega)
     subst hA
     simp only [Int.toNat_natCast] at e0 e1 e2 e3 e4
     have HAI : Aside0 (x.f4[i]? = some (rd_T63 x.f4 (i : Int))) := ⟨by simp [rd_T63, hlt]⟩
     replace e0 := (HBi.out.cell (World.block_lt_of_cell? _ _ e0)).trans e0
     replace e1 := (HBi.out.cell (World.block_lt_of_cell? _ _ e1)).trans e1
     replace e2 := (HBi.out.cell (World.block_lt_of_cell? _ _ e2)).trans e2
     replace e3 := (HBi.out.cell (World.block_lt_of_cell? _ _ e3)).trans e3
     replace e4 := (HBi.out.cell (World.block_lt_of_cell? _ _ e4)).trans e4
     have HC4 := Aside0.mk hC4
     generalize rd_T63 x.f4 (i : Int) = y at *
     clear hC4
     have hi0 : (0 : Int) ≤ (i : Int) := by omega
     have hi1 : (i : Int) < (x.f4.length : Int) := by omega
     have HTY := Aside0.mk (HT.out.at HAI.out)
     have hy0 := HTY.out.1
     obtain ⟨Wy, hWy⟩ : ∃ Wy, Wy = wr.alloc (.cells #[.string y.f0, .int .i64 y.f1, .bool y.f2, .string y.f3, .slice A4 y.f4.length c4] 63) := ⟨_, rfl⟩
     have hal : Below wr.heap.size wr Wy := by rw [hWy]; exact (Below.refl _ _).alloc (Nat.le_refl _) _
     have BYy : Aside0 (Blk Wy wr.heap.size 63 [.string y.f0, .int .i64 y.f1, .bool y.f2, .string y.f3, .slice A4 y.f4.length c4]) := ⟨by rw [hWy]; exact Blk.new _ _ _⟩
     have HRy := Aside0.mk (Kd.R_below HRi.out hal)
     have HUy := Aside0.mk (HUi.out.step hal)
     have Sy := Aside0.mk (Si.out.below hal)
     have Ny := Aside0.mk (Ni.out.below hal)
     have R8y := Aside0.mk (R8i.out.below hal)
     have hsr : b8 < wr.heap.size := R8i.out.lt
     have s3 := Sy.out.cell 3 _ rfl
     have f3 := Sy.out.frozen 3
     rw [hWy] at s3 f3
     have HWy := Aside0.mk hWy
     have hwr : w.heap.size ≤ wr.heap.size := HUi.out.size
     clear hWy hal HRi HUi Si Ni R8i
     obtain ⟨q, hq0⟩ : ∃ q, q = belowP path y.f0 d := ⟨_, rfl⟩
     have HQ := Aside0.mk hq0
     clear hq0
     obtain ⟨b12, hb12⟩ : ∃ b12, b12 = wr.heap.size := ⟨_, rfl⟩
     have HB12 := Aside0.mk hb12
     rw [← hb12] at BYy hsr hwr
     clear hb12
     by_cases hd1 : 1 < d
     case' pos =>
      have hqq : Aside0 (path ++ ⟨#[47]⟩ ++ y.f0 = q) := ⟨by rw [HQ.out, belowP, if_neg (by omega)]⟩
      have z1 : ¬ (9223372036854775807 < path.size + 1) := by omega
      have z2 : ¬ (9223372036854775807 < (path ++ ⟨#[47]⟩).size + y.f0.size) := by rw [ByteArray.size_append]; show ¬ (9223372036854775807 < path.size + 1 + y.f0.size); omega
      go_wp2_with fail
      rw [hqq.out, ← HWy.out, ← HB12.out]
      clear s3 f3 z1 z2
      obtain ⟨Wz0, hWz0⟩ : ∃ Wz0, Wz0 = Wy.setCell ⟨bs, 3, none⟩ (.string y.f0) := ⟨_, rfl⟩
      have HPUT := Aside0.mk (ref_put HRy.out HUy.out Sy.out hbsw 3 (.string y.f0))
      rw [← hWz0] at HPUT
      try rw [← hWz0]
      clear hWz0
      have HRy0 := Aside0.mk HPUT.out.1
      have HUy0 := Aside0.mk HPUT.out.2.1
      have Sy0 := Aside0.mk HPUT.out.2.2.1
      have Ny0 := Aside0.mk (Ny.out.upd HPUT.out.2.2.2 (by omega))
      have R8y0 := Aside0.mk (R8y.out.upd HPUT.out.2.2.2 (by omega))
      have BYy0 := Aside0.mk (BYy.out.upd HPUT.out.2.2.2 (by omega))
      clear HPUT Sy HRy HUy Ny R8y BYy
      obtain ⟨Wz, hWz⟩ : ∃ Wz, Wz = Wz0.setCell ⟨bs, 3, none⟩ (.string q) := ⟨_, rfl⟩
      have HPUT := Aside0.mk (ref_put HRy0.out HUy0.out Sy0.out hbsw 3 (.string q))
      rw [← hWz] at HPUT
      try rw [← hWz]
      clear hWz
      have HRz := Aside0.mk HPUT.out.1
      have HUz := Aside0.mk HPUT.out.2.1
      have Sz := Aside0.mk HPUT.out.2.2.1
      have Nz := Aside0.mk (Ny0.out.upd HPUT.out.2.2.2 (by omega))
      have R8z := Aside0.mk (R8y0.out.upd HPUT.out.2.2.2 (by omega))
      have BYz := Aside0.mk (BYy0.out.upd HPUT.out.2.2.2 (by omega))
      clear HPUT Sy0 HRy0 HUy0 Ny0 R8y0 BYy0
     case' neg =>
      have hqq : Aside0 (q = y.f0) := ⟨by rw [HQ.out, belowP, if_pos (by have := HD.out; omega)]⟩
      go_wp2_with fail
      rw [← HWy.out, ← HB12.out]
      clear s3 f3
      obtain ⟨Wz, hWz⟩ : ∃ Wz, Wz = Wy.setCell ⟨bs, 3, none⟩ (.string y.f0) := ⟨_, rfl⟩
      have HPUT := Aside0.mk (ref_put HRy.out HUy.out Sy.out hbsw 3 (.string y.f0))
      rw [← hWz] at HPUT
      try rw [← hWz]
      clear hWz
      have HRz0 := Aside0.mk HPUT.out.1
      have HUz0 := Aside0.mk HPUT.out.2.1
      have Sz0 := Aside0.mk HPUT.out.2.2.1
      have Nz0 := Aside0.mk (Ny.out.upd HPUT.out.2.2.2 (by omega))
      have R8z0 := Aside0.mk (R8y.out.upd HPUT.out.2.2.2 (by omega))
      have BYz0 := Aside0.mk (BYy.out.upd HPUT.out.2.2.2 (by omega))
      clear HPUT Sy HRy HUy Ny R8y BYy
      have HRz := HRz0
      have HUz := HUz0
      have Nz := Nz0
      have R8z := R8z0
      have BYz := BYz0
      have Sz : Aside0 (Blk Wz bs 87 [.slice Ai rowsi.length ci, .int .i64 bi, .int .i64 0, .string q]) := ⟨by rw [hqq.out]; exact Sz0.out⟩
      clear HRz0 HUz0 Nz0 R8z0 BYz0 Sz0
     all_goals
      clear hqq hd1 HWy HB12
      replace Sz : Aside0 (Blk Wz bs 87 [.slice Ai rowsi.length ci, .int .i64 bi, .int .i64 0, .string q]) := ⟨Sz.out⟩
      (with_reducible refine (depotref05_Check.calls 600 y.f0 (nameE y.f0) Wz (check_E y.f0 600 (Nat.le_refl _))).mono ?_)
      rintro e W5 ⟨rfl, hd5⟩
      have HR5 := Aside0.mk (Kd.R_below HRz.out hd5.below)
      have HU5 := Aside0.mk (HUz.out.step hd5.below)
      have S5 := Aside0.mk (Sz.out.below hd5.below)
      have N5 := Aside0.mk (Nz.out.below hd5.below)
      have R85 := Aside0.mk (R8z.out.below hd5.below)
      have BY5 := Aside0.mk (BYz.out.below hd5.below)
      clear Sz HRz HUz Nz R8z BYz
      clear hd5
      by_cases hne : nameE y.f0 = 0
      case neg =>
       have HKB : Aside0 (r = .bad q (nameE y.f0)) := ⟨by
        obtain ⟨rs, _, hr⟩ := HK.out
        exact kids_bad HAI.out hr (by rw [kidAt, if_pos hne, ← HQ.out])⟩
       generalize nameE y.f0 = en at *
       have hen : (en != 0) = true := bne_iff_ne.2 hne
       have e0 := S5.out.cell 0 _ rfl
       have e1 := S5.out.cell 1 _ rfl
       have e2 := S5.out.cell 2 _ rfl
       have e3 := S5.out.cell 3 _ rfl
       have z0 := S5.out.frozen 0
       have z1 := S5.out.frozen 1
       have z2 := S5.out.frozen 2
       have z3 := S5.out.frozen 3
       have g0 := R85.out.cell 0 _ rfl
       have g1 := R85.out.cell 1 _ rfl
       have g2 := R85.out.cell 2 _ rfl
       have g3 := R85.out.cell 3 _ rfl
       have y0 := R85.out.frozen 0
       have y1 := R85.out.frozen 1
       have y2 := R85.out.frozen 2
       have y3 := R85.out.frozen 3
       go_wp2
       clear e0 e1 e2 e3 z0 z1 z2 z3 g0 g1 g2 g3 y0 y1 y2 y3
       obtain ⟨Wo0, hWo0⟩ : ∃ Wo0, Wo0 = W5.setCell ⟨bs, 2, none⟩ (.int .i64 en) := ⟨_, rfl⟩
       have HPUT := Aside0.mk (ref_put HR5.out HU5.out S5.out hbsw 2 (.int .i64 en))
       rw [← hWo0] at HPUT
       try rw [← hWo0]
       clear hWo0
       have HRo0 := Aside0.mk HPUT.out.1
       have HUo0 := Aside0.mk HPUT.out.2.1
       have So0 := Aside0.mk HPUT.out.2.2.1
       have No0 := Aside0.mk (N5.out.upd HPUT.out.2.2.2 (by omega))
       have R8o0 := Aside0.mk (R85.out.upd HPUT.out.2.2.2 (by omega))
       have BYo0 := Aside0.mk (BY5.out.upd HPUT.out.2.2.2 (by omega))
       clear HPUT S5 HR5 HU5 N5 R85 BY5
       refine bodyPost_ret (results_cell_row rfl _ _ b8 87 #[.slice Ai rowsi.length ci, .int .i64 bi, .int .i64 en, .string q] (0, 0) _ rfl (store4 R8o0.out _ _ _ _).1 Tryd.underlying87 rfl (by kernel_rfl)) rfl ?_
       exact ref_fin HRo0.out HUo0.out R8o0.out hb8w HAT.out (by rw [HKB.out]; exact ⟨rfl, rfl⟩)
      rw [hne]
      have e2 := S5.out.cell 2 _ rfl
      have z2 := S5.out.frozen 2
      go_wp2_with fail
      clear e2 z2
      obtain ⟨W6, hW6⟩ : ∃ W6, W6 = W5.setCell ⟨bs, 2, none⟩ (.int .i64 0) := ⟨_, rfl⟩
      have HPUT := Aside0.mk (ref_put HR5.out HU5.out S5.out hbsw 2 (.int .i64 0))
      rw [← hW6] at HPUT
      try rw [← hW6]
      clear hW6
      have HR6 := Aside0.mk HPUT.out.1
      have HU6 := Aside0.mk HPUT.out.2.1
      have S6 := Aside0.mk HPUT.out.2.2.1
      have N6 := Aside0.mk (N5.out.upd HPUT.out.2.2.2 (by omega))
      have R86 := Aside0.mk (R85.out.upd HPUT.out.2.2.2 (by omega))
      have BY6 := Aside0.mk (BY5.out.upd HPUT.out.2.2.2 (by omega))
      clear HPUT S5 HR5 HU5 N5 R85 BY5
      have HNE := Aside0.mk hne
      clear hne
      have s0 := BY6.out.cell 0 _ rfl
      rcases Nat.eq_zero_or_pos i with hi00 | hi00
      case' inl =>
       have HORD : Aside0 ((prevAt x.f4 i).any (fun p => nle y.f0 p) = false) := ⟨by rw [hi00]; rfl⟩
       have hgt : decide (0 < i) = false := decide_eq_false (by omega)
       clear hi00
       go_quiet (fail)
       go_wp2_with fail
      case' inr =>
       obtain ⟨j, hj⟩ : ∃ j, i = j + 1 := ⟨i - 1, by omega⟩
       have HB6 : Aside0 (Below w0.heap.size w0 W6) := ⟨HW0.out.trans (HU6.out.below (fun k hk => by have := Kd.R_base_ (HR.out) k hk; omega) HW0.out.size)⟩
       obtain ⟨ad2, A5, c5, hA2, e0, e1, e2, e3, e4, _, _⟩ := at_T63 HC0.out (j : Int) (by omega) (by omega)
       cases hA2
       simp only [Int.toNat_natCast] at e0
       clear e1 e2 e3 e4
       have HAZ : Aside0 (x.f4[j]? = some (rd_T63 x.f4 (j : Int))) := ⟨by simp [rd_T63, show j < x.f4.length from by omega]⟩
       replace e0 := (HB6.out.cell (World.block_lt_of_cell? _ _ e0)).trans e0
       generalize rd_T63 x.f4 (j : Int) = z at *
       have HPV : Aside0 (prevAt x.f4 i = some z.f0) := ⟨by rw [hj]; exact prevAt_succ HAZ.out⟩
       have hz0 := (HT.out.at HAZ.out).1
       obtain ⟨cv, hcv, hci⟩ := compare_E z.f0 y.f0 (by omega) (by omega) (3 * (z.f0.size + y.f0.size) + 5) (by omega)
       have HCC : Aside0 (∀ W, Calls Tryd.prog 59 #[.string z.f0, .string y.f0] W fun e w' => e = .returned (.int .i64 cv) ∧ ∃ m, w' = W.drewN m) := ⟨fun W => (depotref05_Compare.calls _ z.f0 y.f0 cv W hcv).mono fun _ _ h => ⟨h.1, h.2.out⟩⟩
       have n3 := N6.out.cell 3 _ rfl
       have hgt : decide (0 < i) = true := decide_eq_true (by omega)
       have hw1 : IntKind.i64.wrap ((i : Int) - 1) = (j : Int) := by rw [show (i : Int) - 1 = (j : Int) from by omega]; exact IntWalk.i64_in _ (by omega)
       have hj0 : (0 : Int) ≤ (j : Int) := by omega
       have hj1 : (j : Int) < (x.f4.length : Int) := by omega
       clear hj hi00 hcv hz0 HB6
       cases hle : nle y.f0 z.f0
       case true =>
        have hcd : (0 : Int) ≤ cv := hci.2 hle
        have HKB : Aside0 (r = .bad q 64) := ⟨by
         obtain ⟨rs, _, hr⟩ := HK.out
         refine kids_bad HAI.out hr ?_
         rw [kidAt, if_neg (by rw [HNE.out]; decide), if_pos, ← HQ.out]
         rw [HPV.out]
         exact hle⟩
        clear hci hle
        go_quiet ((go_at_call 59; exact Calls.quiet_of (HCC.out _)))
        have hdr : Below W6.heap.size W6 (W6.drewN nq) := pw_below_drewN (Below.refl _ _) nq
        generalize W6.drewN nq = W7 at *
        have HR7 := Aside0.mk (Kd.R_below HR6.out hdr)
        have HU7 := Aside0.mk (HU6.out.step hdr)
        have S7 := Aside0.mk (S6.out.below hdr)
        have N7 := Aside0.mk (N6.out.below hdr)
        have R87 := Aside0.mk (R86.out.below hdr)
        have BY7 := Aside0.mk (BY6.out.below hdr)
        clear S6 HR6 HU6 N6 R86 BY6
        have e0 := S7.out.cell 0 _ rfl
        have e1 := S7.out.cell 1 _ rfl
        have e2 := S7.out.cell 2 _ rfl
        have e3 := S7.out.cell 3 _ rfl
        have z0 := S7.out.frozen 0
        have z1 := S7.out.frozen 1
        have z2 := S7.out.frozen 2
        have z3 := S7.out.frozen 3
        have g0 := R87.out.cell 0 _ rfl
        have g1 := R87.out.cell 1 _ rfl
        have g2 := R87.out.cell 2 _ rfl
        have g3 := R87.out.cell 3 _ rfl
        have y0 := R87.out.frozen 0
        have y1 := R87.out.frozen 1
        have y2 := R87.out.frozen 2
        have y3 := R87.out.frozen 3
        go_wp2
        clear e0 e1 e2 e3 z0 z1 z2 z3 g0 g1 g2 g3 y0 y1 y2 y3
        obtain ⟨Wo0, hWo0⟩ : ∃ Wo0, Wo0 = W7.setCell ⟨bs, 2, none⟩ (.int .i64 64) := ⟨_, rfl⟩
        have HPUT := Aside0.mk (ref_put HR7.out HU7.out S7.out hbsw 2 (.int .i64 64))
        rw [← hWo0] at HPUT
        try rw [← hWo0]
        clear hWo0
        have HRo0 := Aside0.mk HPUT.out.1
        have HUo0 := Aside0.mk HPUT.out.2.1
        have So0 := Aside0.mk HPUT.out.2.2.1
        have No0 := Aside0.mk (N7.out.upd HPUT.out.2.2.2 (by omega))
        have R8o0 := Aside0.mk (R87.out.upd HPUT.out.2.2.2 (by omega))
        have BYo0 := Aside0.mk (BY7.out.upd HPUT.out.2.2.2 (by omega))
        clear HPUT S7 HR7 HU7 N7 R87 BY7
        refine bodyPost_ret (results_cell_row rfl _ _ b8 87 #[.slice Ai rowsi.length ci, .int .i64 bi, .int .i64 64, .string q] (0, 0) _ rfl (store4 R8o0.out _ _ _ _).1 Tryd.underlying87 rfl (by kernel_rfl)) rfl ?_
        exact ref_fin HRo0.out HUo0.out R8o0.out hb8w HAT.out (by rw [HKB.out]; exact ⟨rfl, rfl⟩)
       have hcd : ¬ ((0 : Int) ≤ cv) := fun h => by rw [hci.1 h] at hle; cases hle
       have HORD : Aside0 ((prevAt x.f4 i).any (fun p => nle y.f0 p) = false) := ⟨by rw [HPV.out]; exact hle⟩
       clear hci hle
       go_quiet ((go_at_call 59; exact Calls.quiet_of (HCC.out _)))
       go_wp2_with fail
       clear e0 n3 hgt hw1 hj0 hj1 hcd
      all_goals
       have hdr : Below W6.heap.size W6 (W6.drewN nq) := pw_below_drewN (Below.refl _ _) nq
       generalize W6.drewN nq = W7 at *
       have HR7 := Aside0.mk (Kd.R_below HR6.out hdr)
       have HU7 := Aside0.mk (HU6.out.step hdr)
       have S7 := Aside0.mk (S6.out.below hdr)
       have N7 := Aside0.mk (N6.out.below hdr)
       have R87 := Aside0.mk (R86.out.below hdr)
       have BY7 := Aside0.mk (BY6.out.below hdr)
       clear S6 HR6 HU6 N6 R86 BY6
       clear hdr s0
       have her := entS_range y.f0
       have hent := entry_E y.f0 40 (Nat.le_refl _)
       have hws : IntKind.i64.wrap (bi + entS y.f0) = bi + entS y.f0 := IntWalk.i64_in _ (by omega)
       generalize hen : entS y.f0 = en at *
       have HEN := Aside0.mk hen
       clear hen
       have HENT := Aside0.mk hent
       clear hent
       refine start_ (n := 8) (S := fun w' => w'.cell? ⟨bs, 1, none⟩ = some (.int .i64 bi) ∧ w'.cell? ⟨b12, 0, none⟩ = some (.string y.f0)) (ds := [7]) #[false, false, false, false, false, false, false, false] (by kernel_rfl) rfl rfl (⟨S7.out.cell 1 _ rfl, BY7.out.cell 0 _ rfl⟩) (fun hHeld => ?_)
       refine pure_ (i := 0) (N := some 100) (v := ?_) (a' := ?_) #[true, false, false, false, false, false, false, false] rfl rfl (by kernel_rfl) (fun _ _ _ h => h) (Or.inl ⟨by rfl, ?_⟩) ?_ ?_
       rotate_left
       ·intro w'
        go_simp
        with_reducible rfl
       rotate_left
       ·simp only [Act.put, List.setIfInBounds_toArray, List.set_cons_zero, List.set_cons_succ, i64_w, i32_w]
        rfl
       refine take_ (i := 1) (N := some 101) (v := ?_) (a' := ?_) #[true, true, false, false, false, false, false, false] rfl rfl (by kernel_rfl) (fun _ _ _ h => h) (Or.inl ⟨by rfl, ?_⟩) hHeld ?_ ?_
       rotate_left
       ·rintro w' ⟨s0, s1⟩
        go_simp
        with_reducible rfl
       rotate_left
       ·simp only [Act.put, List.setIfInBounds_toArray, List.set_cons_zero, List.set_cons_succ, i64_w, i32_w]
        rfl
       refine pure_ (i := 2) (N := some 102) (v := ?_) (a' := ?_) #[true, true, true, false, false, false, false, false] rfl rfl (by kernel_rfl) (fun _ _ _ h => h) (Or.inl ⟨by rfl, ?_⟩) ?_ ?_
       rotate_left
       ·intro w'
        go_simp
        with_reducible rfl
       rotate_left
       ·simp only [Act.put, List.setIfInBounds_toArray, List.set_cons_zero, List.set_cons_succ, i64_w, i32_w]
        rfl
       refine take_ (i := 3) (N := some 103) (v := ?_) (a' := ?_) #[true, true, true, true, false, false, false, false] rfl rfl (by kernel_rfl) (fun _ _ _ h => h) (Or.inl ⟨by rfl, ?_⟩) hHeld ?_ ?_
       rotate_left
       ·rintro w' ⟨s0, s1⟩
        go_simp
        with_reducible rfl
       rotate_left
       ·simp only [Act.put, List.setIfInBounds_toArray, List.set_cons_zero, List.set_cons_succ, i64_w, i32_w]
        rfl
       refine one_ (i := 4) (N := some 104) #[true, true, true, true, true, false, false, false] rfl rfl (by kernel_rfl) (by decide) (fun K hK => ?_)
       refine goes_ Tryd.func61 (by kernel_rfl) rfl #[.string y.f0] (by rfl) rfl rfl (by (try simp only [List.map_toArray, List.map_cons, List.map_nil]); first | done | rfl) ?_
       refine (depotref06_Entry.calls 40 y.f0 en W7.drew HENT.out).mono ?_
       rintro o W8 ⟨rfl, hb8x⟩
       have hdr : Below W7.heap.size W7 W8 := below_step (below_drew (Below.refl _ _)) hb8x
       have HR8 := Aside0.mk (Kd.R_below HR7.out hdr)
       have HU8 := Aside0.mk (HU7.out.step hdr)
       have S8 := Aside0.mk (S7.out.below hdr)
       have N8 := Aside0.mk (N7.out.below hdr)
       have R88 := Aside0.mk (R87.out.below hdr)
       have BY8 := Aside0.mk (BY7.out.below hdr)
       clear S7 HR7 HU7 N7 R87 BY7
       refine ⟨_, rfl, ?_⟩
       refine hK.out _ _ ⟨S8.out.cell 1 _ rfl, BY8.out.cell 0 _ rfl⟩ (fun _ => ?_)
       clear hK K hdr hb8x
       have q1 := S8.out.cell 1 _ rfl
       have z1 := S8.out.frozen 1
       refine pure_ (i := 5) (N := some 105) (v := ?_) (a' := ?_) #[true, true, true, true, true, true, false, false] rfl rfl (by kernel_rfl) (fun _ _ _ h => h) (Or.inl ⟨by rfl, ?_⟩) ?_ ?_
       rotate_left
       ·intro w'
        go_simp
        with_reducible rfl
       rotate_left
       ·simp only [Act.put, List.setIfInBounds_toArray, List.set_cons_zero, List.set_cons_succ, i64_w, i32_w]
        rfl
       refine pure_ (i := 6) (N := some 106) (v := ?_) (a' := ?_) #[true, true, true, true, true, true, true, false] rfl rfl (by kernel_rfl) (fun _ _ _ h => h) (Or.inl ⟨by rfl, ?_⟩) ?_ ?_
       rotate_left
       ·intro w'
        go_simp
        with_reducible rfl
       rotate_left
       ·simp only [Act.put, List.setIfInBounds_toArray, List.set_cons_zero, List.set_cons_succ, i64_w, i32_w]
        rfl
       refine last_ (i := 7) (N := none) #[true, true, true, true, true, true, true, true] rfl rfl (by kernel_rfl) (by decide) (fun K hK => ?_)
       refine skip_ (w1 := W8.setCell ⟨bs, 1, none⟩ (.int .i64 (bi + en))) (by rfl) rfl ?_ ?_
       ·go_simp
       refine hK.out _ _ ?_
       clear hK K q1 z1
       refine done_ (by kernel_rfl) ?_
       obtain ⟨W9, hW9⟩ : ∃ W9, W9 = W8.setCell ⟨bs, 1, none⟩ (.int .i64 (bi + en)) := ⟨_, rfl⟩
       have HPUT := Aside0.mk (ref_put HR8.out HU8.out S8.out hbsw 1 (.int .i64 (bi + en)))
       rw [← hW9] at HPUT
       try rw [← hW9]
       clear hW9
       have HR9 := Aside0.mk HPUT.out.1
       have HU9 := Aside0.mk HPUT.out.2.1
       have S9 := Aside0.mk HPUT.out.2.2.1
       have N9 := Aside0.mk (N8.out.upd HPUT.out.2.2.2 (by omega))
       have R89 := Aside0.mk (R88.out.upd HPUT.out.2.2.2 (by omega))
       have BY9 := Aside0.mk (BY8.out.upd HPUT.out.2.2.2 (by omega))
       clear HPUT S8 HR8 HU8 N8 R88 BY8
       clear hws
       by_cases hq : 1048576 < bi + en
       case pos =>
        have HKB : Aside0 (r = .bad q 2) := ⟨by
         obtain ⟨rs, _, hr⟩ := HK.out
         refine kids_bad HAI.out hr ?_
         rw [kidAt, if_neg (by rw [HNE.out]; decide), if_neg (by rw [HORD.out]; decide), HEN.out, if_pos hq, ← HQ.out]⟩
        have e0 := S9.out.cell 0 _ rfl
        have e1 := S9.out.cell 1 _ rfl
        have e2 := S9.out.cell 2 _ rfl
        have e3 := S9.out.cell 3 _ rfl
        have z0 := S9.out.frozen 0
        have z1 := S9.out.frozen 1
        have z2 := S9.out.frozen 2
        have z3 := S9.out.frozen 3
        have g0 := R89.out.cell 0 _ rfl
        have g1 := R89.out.cell 1 _ rfl
        have g2 := R89.out.cell 2 _ rfl
        have g3 := R89.out.cell 3 _ rfl
        have y0 := R89.out.frozen 0
        have y1 := R89.out.frozen 1
        have y2 := R89.out.frozen 2
        have y3 := R89.out.frozen 3
        go_wp2
        clear e0 e1 e2 e3 z0 z1 z2 z3 g0 g1 g2 g3 y0 y1 y2 y3
        obtain ⟨Wo0, hWo0⟩ : ∃ Wo0, Wo0 = W9.setCell ⟨bs, 2, none⟩ (.int .i64 2) := ⟨_, rfl⟩
        have HPUT := Aside0.mk (ref_put HR9.out HU9.out S9.out hbsw 2 (.int .i64 2))
        rw [← hWo0] at HPUT
        try rw [← hWo0]
        clear hWo0
        have HRo0 := Aside0.mk HPUT.out.1
        have HUo0 := Aside0.mk HPUT.out.2.1
        have So0 := Aside0.mk HPUT.out.2.2.1
        have No0 := Aside0.mk (N9.out.upd HPUT.out.2.2.2 (by omega))
        have R8o0 := Aside0.mk (R89.out.upd HPUT.out.2.2.2 (by omega))
        have BYo0 := Aside0.mk (BY9.out.upd HPUT.out.2.2.2 (by omega))
        clear HPUT S9 HR9 HU9 N9 R89 BY9
        refine bodyPost_ret (results_cell_row rfl _ _ b8 87 #[.slice Ai rowsi.length ci, .int .i64 (bi + en), .int .i64 2, .string q] (0, 0) _ rfl (store4 R8o0.out _ _ _ _).1 Tryd.underlying87 rfl (by kernel_rfl)) rfl ?_
        exact ref_fin HRo0.out HUo0.out R8o0.out hb8w HAT.out (by rw [HKB.out]; exact ⟨rfl, rfl⟩)
       have e0 := S9.out.cell 0 _ rfl
       have e1 := S9.out.cell 1 _ rfl
       have e2 := S9.out.cell 2 _ rfl
       have e3 := S9.out.cell 3 _ rfl
       have y1 := BY9.out.cell 1 _ rfl
       have y2 := BY9.out.cell 2 _ rfl
       have y3 := BY9.out.cell 3 _ rfl
       have y4 := BY9.out.cell 4 _ rfl
       have hd3 : 1 ≤ d := by have := HD.out; omega
       have hd4 : d ≤ 32 := by have := HD.out; omega
       go_wp2_with fail
       rw [show d + 1 = 33 - (f : Int) from by have := HD.out; omega]
       have HQ9 : Aside0 (q.size + 256 * f ≤ 16384) := ⟨by have := belowP_size (path := path) (kid := y.f0) d HNE.out; rw [← HQ.out] at this; omega⟩
       have HB9 : Aside0 (Below w0.heap.size w0 W9) := ⟨HW0.out.trans (HU9.out.below (fun k hk => by have := Kd.R_base_ (HR.out) k hk; omega) HW0.out.size)⟩
       have hbw9 : base ≤ W9.heap.size := Nat.le_trans hbw HU9.out.size
       (with_reducible refine (IH.out q y A4 c4 (bi + en) (.slice Ai rowsi.length ci) rowsi q base w0 W9 HB9.out hba hbw9 HR9.out (by omega) (by omega) (by omega) HQ9.out HTY.out.2.2 HTY.out.2.1 HC4.out hl4).mono ?_)
       rintro e W10 ⟨v1, rowsn, b1, cn, p1, rfl, hRn, hUn, hon, hres⟩
       obtain ⟨A6, c6, hv6⟩ := Kd.R_slice hRn
       subst hv6
       have HR10 := Aside0.mk hRn
       have HU10 : Aside0 (Upd (fun k => (Value.slice A0 rows0.length c0).ownBlock = some k) w W10) := ⟨HU9.out.trans hUn (fun k hk => by
        rcases HAT.out with h | ⟨b, h, hb⟩
        ·exact .inl (h.symm.trans hk)
        ·rw [h] at hk
         injection hk with hk
         exact .inr (hk ▸ hb))⟩
       have S10 := Aside0.mk (S9.out.upd hUn (rows_ne HR9.out S9.out (by decide)))
       have N10 := Aside0.mk (N9.out.upd hUn (rows_ne HR9.out N9.out (by decide)))
       have R810 := Aside0.mk (R89.out.upd hUn (rows_ne HR9.out R89.out (by decide)))
       have HON : Aside0 ((Value.slice A6 rowsn.length c6).ownBlock = (Value.slice A0 rows0.length c0).ownBlock ∨ ∃ b, (Value.slice A6 rowsn.length c6).ownBlock = some b ∧ w.heap.size ≤ b) := ⟨by
        rcases hon with h | ⟨b, h, hb⟩
        ·rw [h]; exact HAT.out
        ·exact .inr ⟨b, h, Nat.le_trans HU9.out.size hb⟩⟩
       have HKA : Aside0 (kidAt (nodeL f) d path (prevAt x.f4 i) y bi = nodeL f q y (bi + en)) := ⟨by rw [kidAt, if_neg (by rw [HNE.out]; decide), if_neg (by rw [HORD.out]; decide), HEN.out, if_neg (by omega), ← HQ.out]⟩
       have hfair := nodeL_fair f q y (bi + en)
       clear hRn hUn hon S9 N9 R89 HR9 HU9 BY9 HAT e0 e1 e2 e3 y1 y2 y3 y4
       have HST := Aside0.mk (store4 S10.out (.slice A6 rowsn.length c6) (.int .i64 b1) (.int .i64 cn) (.string p1))
       have e0 := S10.out.cell 0 _ rfl
       have e1 := S10.out.cell 1 _ rfl
       have e2 := S10.out.cell 2 _ rfl
       have e3 := S10.out.cell 3 _ rfl
       have z0 := S10.out.frozen 0
       have z1 := S10.out.frozen 1
       have z2 := S10.out.frozen 2
       have z3 := S10.out.frozen 3
       have HR11 := Aside0.mk (rows_upd HR10.out HST.out.2 (fun k hk => ⟨_, _, by subst hk; exact S10.out, by decide⟩))
       have HU11 := Aside0.mk (HU10.out.trans HST.out.2 (fun k hk => .inr (hk ▸ hbsw)))
       have N11 := Aside0.mk (N10.out.upd HST.out.2 (by omega))
       have R811 := Aside0.mk (R810.out.upd HST.out.2 (by omega))
       have S11 := Aside0.mk HST.out.1
       clear HST S10 N10 R810 HR10 HU10
       cases hs : nodeL f q y (bi + en) with
       | bad q2 c2 =>
        rw [hs] at hres HKA hfair
        obtain ⟨rfl, rfl⟩ := hres
        have hcn : (cn != 0) = true := bne_iff_ne.2 hfair
        have HKB : Aside0 (r = .bad p1 cn) := ⟨by
         obtain ⟨rs, _, hr⟩ := HK.out
         exact kids_bad HAI.out hr HKA.out⟩
        clear hs hfair
        have g0 := R811.out.cell 0 _ rfl
        have g1 := R811.out.cell 1 _ rfl
        have g2 := R811.out.cell 2 _ rfl
        have g3 := R811.out.cell 3 _ rfl
        have y0 := R811.out.frozen 0
        have y1 := R811.out.frozen 1
        have y2 := R811.out.frozen 2
        have y3 := R811.out.frozen 3
        go_wp2
        clear e0 e1 e2 e3 z0 z1 z2 z3 g0 g1 g2 g3 y0 y1 y2 y3
        refine bodyPost_ret (results_cell_row rfl _ _ b8 87 #[.slice A6 rowsn.length c6, .int .i64 b1, .int .i64 cn, .string p1] (0, 0) _ rfl (store4 R811.out _ _ _ _).1 Tryd.underlying87 rfl (by kernel_rfl)) rfl ?_
        exact ref_fin HR11.out HU11.out R811.out hb8w HON.out (by rw [HKB.out]; exact ⟨rfl, rfl⟩)
       | ok b2 rows =>
        rw [hs] at hres HKA hfair
        obtain ⟨rfl, rfl, hrw⟩ := hres
        obtain ⟨hf1, hf2⟩ := hfair
        have HF := Aside0.mk (And.intro hf1 (hf2 (by omega)))
        have HKN : Aside0 (∃ rs : List RowT, rowsn = rows0 ++ rs.map rowR ∧ r = (kidsL (nodeL f) d path (prevAt x.f4 (i + 1)) (x.f4.drop (i + 1)) b1).pre rs) := ⟨by
         obtain ⟨rs, h1, h2⟩ := HK.out
         refine ⟨rs ++ rows, ?_, kids_ok HAI.out h2 HKA.out⟩
         rw [hrw, h1, List.map_append, List.append_assoc]⟩
        have hrn : (rowsn.length : Int) ≤ b1 := by
         rw [hrw, List.length_append, List.length_map]
         omega
        have hbn1 : b1 ≤ 1048576 := HF.out.2
        clear hs hf1 hf2 hrw HK HKA
        go_wp2
        go_roundw
        case rel => exact ⟨i + 1, b1, A6, c6, rowsn, p1, by omega, by go_num, by omega, hbn1, hrn, HR11, HU11, S11, N11, R811, HON, HKN⟩
        case measure => simp [intOf]; omega
    ·obtain rfl : i = x.f4.length := by omega
     have HK2 : Aside0 (∃ rs : List RowT, rowsi = rows0 ++ rs.map rowR ∧ r = .ok bi rs) := ⟨by
      obtain ⟨rs, h1, h2⟩ := HK.out
      refine ⟨rs, h1, ?_⟩
      rw [h2, List.drop_length]
      simp [kidsL, Look.pre]⟩
     have e0 := Si.out.cell 0 _ rfl
     have e1 := Si.out.cell 1 _ rfl
     have e2 := Si.out.cell 2 _ rfl
     have e3 := Si.out.cell 3 _ rfl
     have z0 := Si.out.frozen 0
     have z1 := Si.out.frozen 1
     have z2 := Si.out.frozen 2
     have z3 := Si.out.frozen 3
     have g0 := R8i.out.cell 0 _ rfl
     have g1 := R8i.out.cell 1 _ rfl
     have g2 := R8i.out.cell 2 _ rfl
     have g3 := R8i.out.cell 3 _ rfl
     have y0 := R8i.out.frozen 0
     have y1 := R8i.out.frozen 1
     have y2 := R8i.out.frozen 2
     have y3 := R8i.out.frozen 3
     go_wp2
     refine bodyPost_ret (results_cell_row rfl _ _ b8 87 #[.slice Ai rowsi.length ci, .int .i64 bi, .int .i64 0, .string pi] (0, 0) _ rfl (store4 R8i.out _ _ _ _).1 Tryd.underlying87 rfl (by kernel_rfl)) rfl ?_
     exact ref_fin HRi.out HUi.out R8i.out hb8w HAT.out (by obtain ⟨rs, h1, h2⟩ := HK2.out; rw [h2]; exact ⟨rfl, rfl, h1⟩)
 ·have hf1 : (fe != 0) = true := bne_iff_ne.2 hfz
  have HRB : Aside0 (r = .bad path fe) := ⟨by rw [HNL.out, if_pos hfz]⟩
  rw [if_neg hfz]
  have e0 := S4.out.cell 0 _ rfl
  have e1 := S4.out.cell 1 _ rfl
  have e2 := S4.out.cell 2 _ rfl
  have e3 := S4.out.cell 3 _ rfl
  have z0 := S4.out.frozen 0
  have z1 := S4.out.frozen 1
  have z2 := S4.out.frozen 2
  have z3 := S4.out.frozen 3
  have g0 := R8.out.cell 0 _ rfl
  have g1 := R8.out.cell 1 _ rfl
  have g2 := R8.out.cell 2 _ rfl
  have g3 := R8.out.cell 3 _ rfl
  have y0 := R8.out.frozen 0
  have y1 := R8.out.frozen 1
  have y2 := R8.out.frozen 2
  have y3 := R8.out.frozen 3
  have nsb : ¬ (b8 = bs) := by omega
  have nbs : ¬ (bs = b8) := by omega
  go_wp2
  clear e0 e1 e2 e3 z0 z1 z2 z3 g0 g1 g2 g3 y0 y1 y2 y3
  have HU4 : Aside0 (Upd (fun k => (Value.slice A0 rows0.length c0).ownBlock = some k) w W4) := ⟨Upd.of_below HL4.out⟩
  obtain ⟨W5, hW5⟩ : ∃ W5, W5 = W4.setCell ⟨bs, 2, none⟩ (.int .i64 fe) := ⟨_, rfl⟩
  have HPUT := Aside0.mk (ref_put HR4.out HU4.out S4.out hbsw 2 (.int .i64 fe))
  rw [← hW5] at HPUT
  try rw [← hW5]
  clear hW5
  have HR4x := Aside0.mk HPUT.out.1
  have HU4x := Aside0.mk HPUT.out.2.1
  have S4x := Aside0.mk HPUT.out.2.2.1
  have R8x := Aside0.mk (R8.out.upd HPUT.out.2.2.2 (by omega))
  clear HPUT HR4 HU4 S4 R8
  refine bodyPost_ret (results_cell_row rfl _ _ b8 87 #[.slice A0 rows0.length c0, .int .i64 b, .int .i64 fe, .string path] (0, 0) _ rfl (store4 R8x.out _ _ _ _).1 Tryd.underlying87 rfl (by kernel_rfl)) rfl ?_
  exact ref_fin HR4x.out HU4x.out R8x.out hb8w (.inl rfl) (by rw [HRB.out]; exact ⟨rfl, rfl⟩)
theorem ref_all : ∀ f, f ≤ 32 → RefSaid f
 | 0, _ => ref_zero
 | f + 1, h => ref_step f (by omega) (ref_all f (by omega))
end Go.Proofs.YtnemeeidomceiaaDoor
end
