import Derived.Test.YtnemeeidomceiaaDoorMa2
import Derived.Test.YtnemeeidomceiaaDoorMa3
import Derived.Defers
import Derived.IntWalk
import Derived.Recover
import Derived.WalkLawsBesides
set_option linter.unusedSimpArgs false
set_option linter.unusedVariables false
section
namespace Go.Proofs.YtnemeeidomceiaaDoor
open Go.RowKit Go.Proofs.YtnemeeidomceiaaDoorW.PrintWords Go.Proofs.YtnemeeidomceiaaDoorW.PrintLast Go.Proofs.YtnemeeidomceiaaDoorW.PrintMore Go.Proofs.YtnemeeidomceiaaDoor.PTreeChecks
set_option linter.unusedVariables false
set_option linter.unusedSimpArgs false
theorem lit_C {w : World} {b : Nat} (ws : List ByteArray) (hl : ws.length ≤ 1000) (h : Blk w b 9 (ws.map Value.string)) : Kd.C Kd.string w (some ⟨b, 0, none⟩) ws.length ws :=
 ⟨rfl, by omega, fun _ => ⟨⟨b, 0, none⟩, rfl, fun j p hp => ⟨[.string p], rfl, rfl, fun i u hu => by
  cases i with
  | zero =>
   simp only [List.getElem?_cons_zero, Option.some.injEq] at hu
   subst hu
   have := h.cell j (.string p) (by rw [List.getElem?_map, hp]; rfl)
   have e : (⟨b, 0, none⟩ : Addr).add (j * Kd.string.sz + 0) = ⟨b, j, none⟩ := by
    show (⟨b, 0, none⟩ : Addr).add (j * 1 + 0) = _
    rw [Nat.mul_one, Nat.add_zero]
    by_cases hj : j = 0
    ·subst hj; rfl
    ·simp [Addr.add, hj]
   rw [e]
   exact this
  | succ i => simp at hu⟩⟩⟩
theorem framed_lit (ws : List ByteArray) (hl : ws.length ≤ 1000) (hs : ∀ s ∈ ws, s.size ≤ 4611686018427387904) (b c : Nat) (w : World) (h : Blk w b 9 (ws.map Value.string)) (hc : ws.length ≤ c) :
  Calls Tryd.prog 28 #[.slice (some ⟨b, 0, none⟩) ws.length c] w fun e w' => e = .returned (.int .i64 (frs ws)) ∧ Aside0 (Drawn0 w w') :=
 (tree_framed.calls (ws.length + 1) (some ⟨b, 0, none⟩) c ws (frs ws) w (lit_C ws hl h) hc (framed_frs ws hs hl _ (Nat.lt_succ_self _))).mono fun _ _ h => ⟨h.1, ⟨h.2⟩⟩
theorem framed_new (ws : List ByteArray) (hl : ws.length ≤ 1000) (hs : ∀ s ∈ ws, s.size ≤ 4611686018427387904) (w : World) :
  Calls Tryd.prog 28 #[.slice (some ⟨w.heap.size, 0, none⟩) ws.length ws.length] (w.alloc (.cells (ws.map Value.string).toArray 9)) fun e w' => e = .returned (.int .i64 (frs ws)) ∧ Aside0 (Below w.heap.size w w') := by
 refine (framed_lit ws hl hs w.heap.size ws.length _ (Blk.new w 9 (ws.map Value.string)) (Nat.le_refl _)).mono ?_
 rintro e w' ⟨he, hd⟩
 exact ⟨he, ⟨below_step ((Below.refl _ _).alloc (Nat.le_refl _) _) hd.out.below⟩⟩
theorem framed_dir (w : World) : Calls Tryd.prog 28 #[.slice (some ⟨w.heap.size, 0, none⟩) 4 4] (w.alloc (.cells #[.string ⟨#[40]⟩, .string ⟨#[116, 121, 112, 101]⟩, .string ⟨#[100, 105, 114, 101, 99, 116, 111, 114, 121]⟩, .string ⟨#[41]⟩] 9)) fun e w' => e = .returned (.int .i64 (frs dirW)) ∧ Aside0 (Below w.heap.size w w') :=
 framed_new dirW (by decide) (by intro s hs; simp [dirW] at hs; rcases hs with rfl | rfl | rfl | rfl <;> decide) w
theorem framed_exec (w : World) : Calls Tryd.prog 28 #[.slice (some ⟨w.heap.size, 0, none⟩) 2 2] (w.alloc (.cells #[.string ⟨#[101, 120, 101, 99, 117, 116, 97, 98, 108, 101]⟩, .string ⟨#[]⟩] 9)) fun e w' => e = .returned (.int .i64 (frs execW)) ∧ Aside0 (Below w.heap.size w w') :=
 framed_new execW (by decide) (by intro s hs; simp [execW] at hs; rcases hs with rfl | rfl <;> decide) w
theorem framed_magic (w : World) : Calls Tryd.prog 28 #[.slice (some ⟨w.heap.size, 0, none⟩) 1 1] (w.alloc (.cells #[.string ⟨#[100, 101, 112, 111, 116, 45, 97, 114, 99, 104, 105, 118, 101, 45, 49]⟩] 9)) fun e w' => e = .returned (.int .i64 magS) ∧ Aside0 (Below w.heap.size w w') :=
 framed_new magW (by decide) (by intro s hs; simp [magW] at hs; rcases hs with rfl; decide) w
theorem framed_file (t : ByteArray) (ht : t.size ≤ 4611686018427387904) (w : World) : Calls Tryd.prog 28 #[.slice (some ⟨w.heap.size, 0, none⟩) 6 6] (w.alloc (.cells #[.string ⟨#[40]⟩, .string ⟨#[116, 121, 112, 101]⟩, .string ⟨#[114, 101, 103, 117, 108, 97, 114]⟩, .string ⟨#[99, 111, 110, 116, 101, 110, 116, 115]⟩, .string t, .string ⟨#[41]⟩] 9)) fun e w' => e = .returned (.int .i64 (frs (fileW t))) ∧ Aside0 (Below w.heap.size w w') :=
 framed_new (fileW t) (by show 6 ≤ 1000; decide) (by intro s hs; simp [fileW] at hs; rcases hs with rfl | rfl | rfl | rfl | rfl | rfl <;> first | exact ht | decide) w
theorem framed_link (t : ByteArray) (ht : t.size ≤ 4611686018427387904) (w : World) : Calls Tryd.prog 28 #[.slice (some ⟨w.heap.size, 0, none⟩) 6 6] (w.alloc (.cells #[.string ⟨#[40]⟩, .string ⟨#[116, 121, 112, 101]⟩, .string ⟨#[115, 121, 109, 108, 105, 110, 107]⟩, .string ⟨#[116, 97, 114, 103, 101, 116]⟩, .string t, .string ⟨#[41]⟩] 9)) fun e w' => e = .returned (.int .i64 (frs (linkW t))) ∧ Aside0 (Below w.heap.size w w') :=
 framed_new (linkW t) (by show 6 ≤ 1000; decide) (by intro s hs; simp [linkW] at hs; rcases hs with rfl | rfl | rfl | rfl | rfl | rfl <;> first | exact ht | decide) w
theorem framed_ent (t : ByteArray) (ht : t.size ≤ 4611686018427387904) (w : World) : Calls Tryd.prog 28 #[.slice (some ⟨w.heap.size, 0, none⟩) 6 6] (w.alloc (.cells #[.string ⟨#[101, 110, 116, 114, 121]⟩, .string ⟨#[40]⟩, .string ⟨#[110, 97, 109, 101]⟩, .string t, .string ⟨#[110, 111, 100, 101]⟩, .string ⟨#[41]⟩] 9)) fun e w' => e = .returned (.int .i64 (entS t)) ∧ Aside0 (Below w.heap.size w w') :=
 framed_new (entW t) (by show 6 ≤ 1000; decide) (by intro s hs; simp [entW] at hs; rcases hs with rfl | rfl | rfl | rfl | rfl | rfl <;> first | exact ht | decide) w
theorem framed_entN (t : ByteArray) (ht : t.size ≤ 4611686018427387904) (w : World) (n : Nat) : Calls Tryd.prog 28 #[.slice (some ⟨w.heap.size, 0, none⟩) 6 6] ((w.drewN n).alloc (.cells #[.string ⟨#[101, 110, 116, 114, 121]⟩, .string ⟨#[40]⟩, .string ⟨#[110, 97, 109, 101]⟩, .string t, .string ⟨#[110, 111, 100, 101]⟩, .string ⟨#[41]⟩] 9)) fun e w' => e = .returned (.int .i64 (entS t)) ∧ Aside0 (Below w.heap.size w w') :=
 (framed_ent t ht (w.drewN n)).mono fun e w' h => ⟨h.1, ⟨below_step (pw_below_drewN (Below.refl _ _) n) h.2.out⟩⟩
/-- What the walk gives up with. -/
def offends (path : ByteArray) (code : Int) : Ending := .panicked [{ v := .iface 109 (.agg #[.string path, .int .i64 code]), recovered := false }]
def AddPost (p : Nat) (path : ByteArray) (b : Int) (w : World) (e : Ending) (w' : World) : Prop :=
 w' = w.setCell ⟨p, 0, none⟩ (.int .i64 b) ∧ ((b ≤ 1048576 ∧ e = .returned (.tuple #[])) ∨ (1048576 < b ∧ e = offends path 2))
set_option maxHeartbeats 1000000 in
theorem add_calls (p : Nat) (path : ByteArray) (n b : Int) (w : World) (hp : Blk w p 107 [.int .i64 b]) (h0 : 0 ≤ b) (h1 : b ≤ 1048576) (h2 : 0 ≤ n) (h3 : n ≤ 10000000000000) :
  Calls Tryd.prog 72 #[.pointer (some ⟨p, 0, none⟩), .string path, .int .i64 n] w (AddPost p path (b + n) w) := by
 have hc := hp.cell 0 _ rfl
 have hf := hp.frozen 0
 clear hp
 by_cases hb : b + n ≤ 1048576
 ·have hb1 : ¬ (1048576 < b + n) := by omega
  have HB := Aside0.mk hb
  clear hb
  go_enter Tryd.func72, Tryd.ntmps72
  go_wp2
  go_end0
  exact ⟨rfl, .inl ⟨HB.out, rfl⟩⟩
 ·have hb1 : 1048576 < b + n := by omega
  clear hb
  go_enter Tryd.func72, Tryd.ntmps72
  go_wp2
  exact ⟨rfl, rfl, .inr ⟨hb1, rfl⟩⟩
def NodeRes (p : Nat) (s : Look) (e : Ending) (w' : World) : Prop := match s with
 | .ok b _ => e = .returned (.tuple #[]) ∧ Blk w' p 107 [.int .i64 b] ∧ 0 ≤ b ∧ b ≤ 1048576
 | .bad q c => e = offends q c
def NodePost (p : Nat) (s : Look) (w : World) (e : Ending) (w' : World) : Prop := Upd (fun k => k = p) w w' ∧ NodeRes p s e w'
/-- What the walk of a node says, f nodes ahead of the deepest. -/
def NodeSaid (f : Nat) : Prop := ∀ (p : Nat) (path : ByteArray) (x : Ent) (A : Option Addr) (c : Nat) (b : Int) (w0 w : World), Below w0.heap.size w0 w → w0.heap.size ≤ p →
 Blk w p 107 [.int .i64 b] → 0 ≤ b → b ≤ 1048576 → path.size + 256 * f ≤ 16384 → Texts x.f4 → x.f3.size ≤ 140737488351232 → Kd.C k63 w0 A x.f4.length x.f4 → x.f4.length ≤ c →
 Calls Tryd.prog 56 #[.pointer (some ⟨p, 0, none⟩), .string path, .agg #[.int .i64 x.f1, .bool x.f2, .string x.f3, .slice A x.f4.length c], .int .i64 (33 - (f : Int))] w (NodePost p (nodeL f path x b) w)
set_option maxHeartbeats 1000000 in
set_option maxRecDepth 100000 in
theorem node_zero : NodeSaid 0 := by
 intro p path x A c b w0 w hb0 hp0 hp h0 h1 hpl ht h3 hC hc
 have hd : (32 : Int) < 33 := by decide
 clear hb0 hp0 hp h0 h1 hpl ht h3 hC hc
 go_enter Tryd.func56, Tryd.ntmps56
 go_wp2
 exact ⟨rfl, Upd.of_below ((Below.refl _ _).alloc (Nat.le_refl _) _), rfl⟩
set_option maxHeartbeats 4000000 in
set_option maxRecDepth 100000 in
theorem node_step (f : Nat) (hf : f < 32) (ih : NodeSaid f) : NodeSaid (f + 1) := by
 intro p path x A c b w0 w hb0 hp0 hp h0 h1 hpl ht h3 hC hc
 have HP := Aside0.mk hp
 have HW0 := Aside0.mk hb0
 have HC0 := Aside0.mk hC
 have HC := Aside0.mk (Kd.C_below hC hb0)
 have HT := Aside0.mk ht
 unfold NodeSaid at ih
 have IH := Aside0.mk ih
 have hd : ¬ ((32 : Int) < 33 - ((f + 1 : Nat) : Int)) := by omega
 obtain ⟨d, hdd⟩ : ∃ d : Int, d = 33 - ((f + 1 : Nat) : Int) := ⟨_, rfl⟩
 rw [← hdd] at hd ⊢
 have HD := Aside0.mk hdd
 clear hp hC ht ih hdd hb0
 obtain ⟨W1, hW1⟩ : ∃ W1, W1 = w.alloc (.cells #[.int .i64 x.f1, .bool x.f2, .string x.f3, .slice A x.f4.length c] 32) := ⟨_, rfl⟩
 have HBX : Aside0 (Blk W1 w.heap.size 32 [.int .i64 x.f1, .bool x.f2, .string x.f3, .slice A x.f4.length c]) := ⟨by rw [hW1]; exact Blk.new _ _ _⟩
 have HB1 : Aside0 (Below w.heap.size w W1) := ⟨by rw [hW1]; exact (Below.refl _ _).alloc (Nat.le_refl _) _⟩
 have HF := Aside0.mk (fields_E x.f1 x.f2 x.f3 x.f4)
 have hlt : p < w.heap.size := HP.out.lt
 have z1 : W1.heap.size = w.heap.size + 1 := by rw [hW1]; simp
 obtain ⟨bx, hbx⟩ : ∃ bx, bx = w.heap.size := ⟨_, rfl⟩
 by_cases hfl : fieldsE x.f1 x.f2 x.f3 x.f4 = 0
 ·have HFL := Aside0.mk hfl
  rcases fields_kind hfl with hk | hk | hk
  ·have hk1 : (x.f1 == 1) = true := by rw [hk]; rfl
   have hk2 : (x.f1 == 2) = false := by rw [hk]; rfl
   have hk3 : (x.f1 == 3) = false := by rw [hk]; rfl
   have hkl := fields_kids hfl (by omega)
   have hor := ownS_range x.f1 x.f2 x.f3
   have HR : Aside0 (nodeL (f + 1) path x b = if 1048576 < b + ownS x.f1 x.f2 x.f3 then .bad path 2 else .ok (b + ownS x.f1 x.f2 x.f3) [(path, x.f1, x.f2, x.f3)]) := ⟨by
    rw [nodeL, if_neg (by rw [hfl]; decide), hkl]
    rfl⟩
   have HO : Aside0 (ownS x.f1 x.f2 x.f3 = if x.f2 = true then frs (fileW x.f3) + frs execW else frs (fileW x.f3)) := ⟨by unfold ownS; rw [if_pos hk]⟩
   have hf6 := frs_range (fileW x.f3)
   have hf2 := frs_range execW
   have e6 : ((fileW x.f3).length : Int) = 6 := rfl
   have e2 : (execW.length : Int) = 2 := rfl
   rw [e6] at hf6
   rw [e2] at hf2
   clear hfl hk hkl e6 e2
   rw [HFL.out] at HF
   generalize nodeL (f + 1) path x b = r at *
   generalize ownS x.f1 x.f2 x.f3 = own at *
   go_enter Tryd.func56, Tryd.ntmps56
   go_wp2_with fail
   rw [← hW1, ← hbx]
   rw [← hbx] at HBX hlt z1
   have HBQ := Aside0.mk hbx
   clear hbx
   (with_reducible refine (tree_fields.calls x.f1 x.f2 x.f3 A c x.f4 0 W1 (Kd.C_below HC.out HB1.out) hc HF.out).mono ?_)
   rintro e w2 ⟨rfl, hb2⟩
   have HB2 := Aside0.mk (below_step HB1.out hb2)
   have HX2 := Aside0.mk (HBX.out.below hb2)
   have c0 := HX2.out.cell 0 _ rfl
   have c1 := HX2.out.cell 1 _ rfl
   have c2 := HX2.out.cell 2 _ rfl
   clear hb2 hW1
   go_wp2_with fail
   (with_reducible refine (framed_file x.f3 (by omega) w2).mono ?_)
   rintro e w3 ⟨rfl, HB3⟩
   have HB4 := Aside0.mk (below_step HB2.out HB3.out)
   have HX4 := Aside0.mk (HX2.out.below HB3.out)
   clear HB2 HB3 HX2 HBX HB1 c0 c1 c2
   have c1 := HX4.out.cell 1 _ rfl
   cases hx2 : x.f2
   ·have HO2 : Aside0 (frs (fileW x.f3) = own) := ⟨by rw [HO.out, hx2]; rfl⟩
    rw [hx2] at c1 HX4
    clear hx2
    go_wp2_with fail
    rw [HO2.out]
    (with_reducible refine (add_calls p path own b w3 (HP.out.below HB4.out) h0 h1 hor.1 hor.2).mono ?_)
    rintro e w4 ⟨hw4, hq⟩
    have HU4 : Aside0 (Upd (fun k => k = p) w w4) := ⟨by rw [hw4]; exact (Upd.of_below HB4.out).trans (Upd.setCell (S := fun k => k = p) (p := ⟨p, 0, none⟩) (.inl rfl) _) (fun _ h => .inl h)⟩
    have HP5 : Aside0 (Blk w4 p 107 [.int .i64 (b + own)]) := ⟨by rw [hw4]; exact blk_put (HP.out.below HB4.out) 0 _ rfl⟩
    clear hw4
    rcases hq with ⟨hq, rfl⟩ | ⟨hq, rfl⟩
    ·go_wp2_with fail
     go_end0
     exact ⟨HU4.out, by rw [HR.out, if_neg (by omega)]; exact ⟨rfl, HP5.out, by omega, hq⟩⟩
    ·unfold offends
     go_wp2_with fail
     exact ⟨rfl, HU4.out, by rw [HR.out, if_pos hq]; exact rfl⟩
   ·have HO2 : Aside0 (frs (fileW x.f3) + frs execW = own) := ⟨by rw [HO.out, hx2]; rfl⟩
    rw [hx2] at c1 HX4
    clear hx2
    go_wp2_with fail
    (with_reducible refine (framed_exec w3).mono ?_)
    rintro e w5 ⟨rfl, HB5⟩
    have HB6 := Aside0.mk (below_step HB4.out HB5.out)
    clear HB4 HB5 HX4 c1
    go_wp2_with fail
    rw [HO2.out]
    (with_reducible refine (add_calls p path own b w5 (HP.out.below HB6.out) h0 h1 hor.1 hor.2).mono ?_)
    rintro e w4 ⟨hw4, hq⟩
    have HU4 : Aside0 (Upd (fun k => k = p) w w4) := ⟨by rw [hw4]; exact (Upd.of_below HB6.out).trans (Upd.setCell (S := fun k => k = p) (p := ⟨p, 0, none⟩) (.inl rfl) _) (fun _ h => .inl h)⟩
    have HP5 : Aside0 (Blk w4 p 107 [.int .i64 (b + own)]) := ⟨by rw [hw4]; exact blk_put (HP.out.below HB6.out) 0 _ rfl⟩
    clear hw4
    rcases hq with ⟨hq, rfl⟩ | ⟨hq, rfl⟩
    ·go_wp2_with fail
     go_end0
     exact ⟨HU4.out, by rw [HR.out, if_neg (by omega)]; exact ⟨rfl, HP5.out, by omega, hq⟩⟩
    ·unfold offends
     go_wp2_with fail
     exact ⟨rfl, HU4.out, by rw [HR.out, if_pos hq]; exact rfl⟩
  ·have hk1 : (x.f1 == 1) = false := by rw [hk]; rfl
   have hk2 : (x.f1 == 2) = true := by rw [hk]; rfl
   have hk3 : (x.f1 == 3) = false := by rw [hk]; rfl
   have hkl := fields_kids hfl (by omega)
   have hor := ownS_range x.f1 x.f2 x.f3
   have HR : Aside0 (nodeL (f + 1) path x b = if 1048576 < b + ownS x.f1 x.f2 x.f3 then .bad path 2 else .ok (b + ownS x.f1 x.f2 x.f3) [(path, x.f1, x.f2, x.f3)]) := ⟨by
    rw [nodeL, if_neg (by rw [hfl]; decide), hkl]
    rfl⟩
   have HO : Aside0 (frs (linkW x.f3) = ownS x.f1 x.f2 x.f3) := ⟨by unfold ownS; rw [if_neg (by omega), if_pos hk]⟩
   have hf6 := frs_range (linkW x.f3)
   have hf2 := frs_range execW
   have e6 : ((linkW x.f3).length : Int) = 6 := rfl
   have e2 : (execW.length : Int) = 2 := rfl
   rw [e6] at hf6
   rw [e2] at hf2
   clear hfl hk hkl e6 e2
   rw [HFL.out] at HF
   generalize nodeL (f + 1) path x b = r at *
   generalize ownS x.f1 x.f2 x.f3 = own at *
   go_enter Tryd.func56, Tryd.ntmps56
   go_wp2_with fail
   rw [← hW1, ← hbx]
   rw [← hbx] at HBX hlt z1
   have HBQ := Aside0.mk hbx
   clear hbx
   (with_reducible refine (tree_fields.calls x.f1 x.f2 x.f3 A c x.f4 0 W1 (Kd.C_below HC.out HB1.out) hc HF.out).mono ?_)
   rintro e w2 ⟨rfl, hb2⟩
   have HB2 := Aside0.mk (below_step HB1.out hb2)
   have HX2 := Aside0.mk (HBX.out.below hb2)
   have c0 := HX2.out.cell 0 _ rfl
   have c1 := HX2.out.cell 1 _ rfl
   have c2 := HX2.out.cell 2 _ rfl
   clear hb2 hW1
   go_wp2_with fail
   (with_reducible refine (framed_link x.f3 (by omega) w2).mono ?_)
   rintro e w3 ⟨rfl, HB3⟩
   have HB4 := Aside0.mk (below_step HB2.out HB3.out)
   have HX4 := Aside0.mk (HX2.out.below HB3.out)
   clear HB2 HB3 HX2 HBX HB1 c0 c1 c2
   go_wp2_with fail
   rw [HO.out]
   (with_reducible refine (add_calls p path own b w3 (HP.out.below HB4.out) h0 h1 hor.1 hor.2).mono ?_)
   rintro e w4 ⟨hw4, hq⟩
   have HU4 : Aside0 (Upd (fun k => k = p) w w4) := ⟨by rw [hw4]; exact (Upd.of_below HB4.out).trans (Upd.setCell (S := fun k => k = p) (p := ⟨p, 0, none⟩) (.inl rfl) _) (fun _ h => .inl h)⟩
   have HP5 : Aside0 (Blk w4 p 107 [.int .i64 (b + own)]) := ⟨by rw [hw4]; exact blk_put (HP.out.below HB4.out) 0 _ rfl⟩
   clear hw4
   rcases hq with ⟨hq, rfl⟩ | ⟨hq, rfl⟩
   ·go_wp2_with fail
    go_end0
    exact ⟨HU4.out, by rw [HR.out, if_neg (by omega)]; exact ⟨rfl, HP5.out, by omega, hq⟩⟩
   ·unfold offends
    go_wp2_with fail
    exact ⟨rfl, HU4.out, by rw [HR.out, if_pos hq]; exact rfl⟩
  ·have hk1 : (x.f1 == 1) = false := by rw [hk]; rfl
   have hk2 : (x.f1 == 2) = false := by rw [hk]; rfl
   have hk3 : (x.f1 == 3) = true := by rw [hk]; rfl
   have HO : Aside0 (ownS x.f1 x.f2 x.f3 = frs dirW) := ⟨by unfold ownS; rw [if_neg (by omega), if_neg (by omega)]⟩
   have HR : Aside0 (nodeL (f + 1) path x b = if 1048576 < b + frs dirW then .bad path 2 else (kidsL (nodeL f) d path none x.f4 (b + frs dirW)).pre [(path, x.f1, x.f2, x.f3)]) := ⟨by
    rw [nodeL, if_neg (by rw [hfl]; decide), HO.out, show (32 : Int) - (f : Int) = d from by have := HD.out; omega]⟩
   have hdr := frs_range dirW
   have hdl : (dirW.length : Int) = 4 := rfl
   rw [hdl] at hdr
   clear hfl hdl hk
   rw [HFL.out] at HF
   generalize nodeL (f + 1) path x b = r at *
   go_enter Tryd.func56, Tryd.ntmps56
   go_wp2_with fail
   rw [← hW1, ← hbx]
   rw [← hbx] at HBX hlt z1
   have HBQ := Aside0.mk hbx
   clear hbx
   (with_reducible refine (tree_fields.calls x.f1 x.f2 x.f3 A c x.f4 0 W1 (Kd.C_below HC.out HB1.out) hc HF.out).mono ?_)
   rintro e w2 ⟨rfl, hb2⟩
   have HB2 := Aside0.mk (below_step HB1.out hb2)
   have HX2 := Aside0.mk (HBX.out.below hb2)
   have c0 := HX2.out.cell 0 _ rfl
   clear hb2 hW1
   go_wp2_with fail
   (with_reducible refine (framed_dir w2).mono ?_)
   rintro e w3 ⟨rfl, HB3⟩
   have HB4 := Aside0.mk (below_step HB2.out HB3.out)
   have HX4 := Aside0.mk (HX2.out.below HB3.out)
   have HP4 := Aside0.mk (HP.out.below HB4.out)
   clear HB2 HB3 HX2 HBX HB1 c0
   go_wp2_with fail
   (with_reducible refine (add_calls p path (frs dirW) b w3 HP4.out h0 h1 hdr.1 (by omega)).mono ?_)
   rintro e w4 ⟨hw4, hq⟩
   have HU4 : Aside0 (Upd (fun k => k = p) w w4) := ⟨by rw [hw4]; exact (Upd.of_below HB4.out).trans (Upd.setCell (S := fun k => k = p) (p := ⟨p, 0, none⟩) (.inl rfl) _) (fun _ h => .inl h)⟩
   have HP5 : Aside0 (Blk w4 p 107 [.int .i64 (b + frs dirW)]) := ⟨by rw [hw4]; exact blk_put HP4.out 0 _ rfl⟩
   have HX5 : Aside0 (Blk w4 bx 32 [.int .i64 x.f1, .bool x.f2, .string x.f3, .slice A x.f4.length c]) := ⟨by rw [hw4]; exact HX4.out.upd (Upd.setCell (S := fun k => k = p) (p := ⟨p, 0, none⟩) (.inl rfl) _) (by omega)⟩
   clear hw4 HX4 HP4 HB4 HP
   rcases hq with ⟨hq, rfl⟩ | ⟨hq, rfl⟩
   ·have c3 := HX5.out.cell 3 _ rfl
    go_wp2_with fail
    have hm := Kd.C_max HC0.out
    have hmb : x.f4.length * 1 ≤ 9223372036854775807 := by omega
    have HR2 : Aside0 (r = (kidsL (nodeL f) d path none x.f4 (b + frs dirW)).pre [(path, x.f1, x.f2, x.f3)]) := ⟨by rw [HR.out, if_neg (by omega)]⟩
    clear HR c3
    go_loopw [64] (fun v64 wr => ∃ (i : Nat) (bi : Int), i ≤ x.f4.length ∧ v64 = .int .i64 i ∧ 0 ≤ bi ∧ bi ≤ 1048576 ∧ Aside0 (Blk wr p 107 [.int .i64 bi]) ∧ Aside0 (Upd (fun k => k = p) w wr) ∧ Aside0 (Blk wr bx 32 [.int .i64 x.f1, .bool x.f2, .string x.f3, .slice A x.f4.length c]) ∧ Aside0 (∃ rs, r = (kidsL (nodeL f) d path (prevAt x.f4 i) (x.f4.drop i) bi).pre rs)) (fun v _ => x.f4.length - (intOf v).toNat)
    case atStart => exact ⟨0, b + frs dirW, Nat.zero_le _, rfl, by omega, hq, HP5, HU4, HX5, ⟨_, HR2.out⟩⟩
    case round =>
     clear HP5 HU4 HX5 HR2
     obtain ⟨i, bi, hi, rfl, hb0, hb1, HP6, HU6, HX6, HR6⟩ := hrel
     have HB6 : Aside0 (Below w0.heap.size w0 wr) := ⟨HW0.out.trans (HU6.out.below (fun k hk => hk ▸ hp0) HW0.out.size)⟩
     by_cases hlt : i < x.f4.length
     ·obtain ⟨ad, A4, c4, hA, e0, e1, e2, e3, e4, hl4, hC4⟩ := at_T63 HC0.out (i : Int) (by omega) (by omega)
      subst hA
      simp only [Int.toNat_natCast] at e0 e1 e2 e3 e4
      have HAT : Aside0 (x.f4[i]? = some (rd_T63 x.f4 (i : Int))) := ⟨by simp [rd_T63, hlt]⟩
      replace e0 := (HB6.out.cell (World.block_lt_of_cell? _ _ e0)).trans e0
      replace e1 := (HB6.out.cell (World.block_lt_of_cell? _ _ e1)).trans e1
      replace e2 := (HB6.out.cell (World.block_lt_of_cell? _ _ e2)).trans e2
      replace e3 := (HB6.out.cell (World.block_lt_of_cell? _ _ e3)).trans e3
      replace e4 := (HB6.out.cell (World.block_lt_of_cell? _ _ e4)).trans e4
      have HC4 := Aside0.mk hC4
      generalize rd_T63 x.f4 (i : Int) = y at *
      clear hC4
      have hi0 : (0 : Int) ≤ (i : Int) := by omega
      have hi1 : (i : Int) < (x.f4.length : Int) := by omega
      have HTY := Aside0.mk (HT.out.at HAT.out)
      have hy0 := HTY.out.1
      go_wp2_with fail
      obtain ⟨W3, hW3⟩ : ∃ W3, W3 = wr.alloc (.cells #[.string y.f0, .int .i64 y.f1, .bool y.f2, .string y.f3, .slice A4 y.f4.length c4] 63) := ⟨_, rfl⟩
      have HBY : Aside0 (Blk W3 wr.heap.size 63 [.string y.f0, .int .i64 y.f1, .bool y.f2, .string y.f3, .slice A4 y.f4.length c4]) := ⟨by rw [hW3]; exact Blk.new _ _ _⟩
      have HB7 : Aside0 (Below wr.heap.size wr W3) := ⟨by rw [hW3]; exact (Below.refl _ _).alloc (Nat.le_refl _) _⟩
      have hpr : p < wr.heap.size := HP6.out.lt
      have hxr : bx < wr.heap.size := HX6.out.lt
      rw [← hW3]
      clear hW3 e0 e1 e2 e3 e4
      obtain ⟨bY, hbY⟩ : ∃ bY, bY = wr.heap.size := ⟨_, rfl⟩
      rw [← hbY] at HBY hpr hxr ⊢
      clear hbY
      obtain ⟨q, hq0⟩ : ∃ q, q = belowP path y.f0 d := ⟨_, rfl⟩
      have HBP : Aside0 (tree_below.f path y.f0 d = some q) := ⟨by rw [hq0]; exact below_P path y.f0 d (by omega)⟩
      have HQ := Aside0.mk hq0
      clear hq0
      (with_reducible refine (tree_below.calls path y.f0 d q W3 HBP.out).mono ?_)
      rintro e W4 ⟨rfl, hd4⟩
      have HB8 := Aside0.mk (below_step HB7.out hd4.below)
      have HBY4 := Aside0.mk (HBY.out.below hd4.below)
      clear hd4 HBP HB7 HBY
      have c0 := HBY4.out.cell 0 _ rfl
      go_wp2_with fail
      (with_reducible refine (name_Check.calls y.f0 (nameE y.f0) W4 (name_E y.f0)).mono ?_)
      rintro e W5 ⟨rfl, hb5⟩
      have HB9 := Aside0.mk (below_step HB8.out hb5)
      have HBY5 := Aside0.mk (HBY4.out.below hb5)
      clear hb5 HB8 HBY4 c0
      by_cases hne : nameE y.f0 = 0
      ·rw [hne]
       have cy0 := HBY5.out.cell 0 _ rfl
       have HX9 := Aside0.mk (HX6.out.below HB9.out)
       have HNE := Aside0.mk hne
       clear hne
       rcases Nat.eq_zero_or_pos i with hi00 | hi00
       case' inl =>
        have HORD : Aside0 ((prevAt x.f4 i).any (fun p => nle y.f0 p) = false) := ⟨by rw [hi00]; rfl⟩
        have hgt : decide (0 < i) = false := decide_eq_false (by omega)
        clear hi00
        go_wp2_with fail
        go_quiet (fail)
        go_wp2_with fail
       case' inr =>
        obtain ⟨j, hj⟩ : ∃ j, i = j + 1 := ⟨i - 1, by omega⟩
        obtain ⟨ad2, A5, c5, hA2, e0, e1, e2, e3, e4, _, _⟩ := at_T63 HC0.out (j : Int) (by omega) (by omega)
        cases hA2
        simp only [Int.toNat_natCast] at e0
        clear e1 e2 e3 e4
        have HAZ : Aside0 (x.f4[j]? = some (rd_T63 x.f4 (j : Int))) := ⟨by simp [rd_T63, show j < x.f4.length from by omega]⟩
        replace e0 := ((HB6.out.trans (HB9.out.mono HB6.out.size)).cell (World.block_lt_of_cell? _ _ e0)).trans e0
        generalize rd_T63 x.f4 (j : Int) = z at *
        have HPV : Aside0 (prevAt x.f4 i = some z.f0) := ⟨by rw [hj]; exact prevAt_succ HAZ.out⟩
        have c03 := HX9.out.cell 3 _ rfl
        have hgt : decide (0 < i) = true := decide_eq_true (by omega)
        have hw1 : IntKind.i64.wrap ((i : Int) - 1) = (j : Int) := by rw [show (i : Int) - 1 = (j : Int) from by omega]; exact IntWalk.i64_in _ (by omega)
        have hj0 : (0 : Int) ≤ (j : Int) := by omega
        have hj1 : (j : Int) < (x.f4.length : Int) := by omega
        clear hj hi00
        cases hle : (Op.bytesLess y.f0.toList z.f0.toList || y.f0.toList == z.f0.toList)
        case true =>
         have HK : Aside0 (r = .bad q 64) := ⟨by
          obtain ⟨rs, hr⟩ := HR6.out
          refine kids_bad HAT.out hr ?_
          rw [kidAt, if_neg (by rw [HNE.out]; decide), if_pos, ← HQ.out]
          rw [HPV.out]
          exact hle⟩
         go_wp2_with fail
         go_quiet (fail)
         go_wp2_with fail
         exact ⟨rfl, HU6.out.step (pw_below_drewN HB9.out _), by rw [HK.out]; exact rfl⟩
        have HORD : Aside0 ((prevAt x.f4 i).any (fun p => nle y.f0 p) = false) := ⟨by rw [HPV.out]; exact hle⟩
        go_wp2_with fail
        go_quiet (fail)
        go_wp2_with fail
       all_goals
        have her := entS_range y.f0
        (with_reducible refine (framed_entN y.f0 (by omega) W5 _).mono ?_)
        rintro e W6 ⟨rfl, HB10⟩
        have HB11 := Aside0.mk (below_step HB9.out HB10.out)
        have HBY6 := Aside0.mk (HBY5.out.below HB10.out)
        have HP7 := Aside0.mk (HP6.out.below HB11.out)
        have HX7 := Aside0.mk (HX6.out.below HB11.out)
        have HU7 := Aside0.mk (HU6.out.step HB11.out)
        clear HB9 HB10 HBY5 HX9 cy0 HP6 HX6 HU6 HB6
        go_wp2_with fail
        (with_reducible refine (add_calls p q (entS y.f0) bi W6 HP7.out hb0 hb1 her.1 her.2).mono ?_)
        rintro e W7 ⟨hW7, hq7⟩
        have hUs : Upd (fun k => k = p) W6 W7 := by rw [hW7]; exact Upd.setCell (S := fun k => k = p) (p := ⟨p, 0, none⟩) (.inl rfl) _
        have HU8 : Aside0 (Upd (fun k => k = p) w W7) := ⟨HU7.out.trans hUs (fun _ h => .inl h)⟩
        have HP8 : Aside0 (Blk W7 p 107 [.int .i64 (bi + entS y.f0)]) := ⟨by rw [hW7]; exact blk_put HP7.out 0 _ rfl⟩
        have HX8 := Aside0.mk (HX7.out.upd hUs (by omega))
        have HBY8 := Aside0.mk (HBY6.out.upd hUs (by omega))
        clear hW7 hUs HX7 HP7 HBY6 HU7 HB11
        rcases hq7 with ⟨hq7, rfl⟩ | ⟨hq7, rfl⟩
        case' inl =>
         have y1 := HBY8.out.cell 1 _ rfl
         have y2 := HBY8.out.cell 2 _ rfl
         have y3 := HBY8.out.cell 3 _ rfl
         have y4 := HBY8.out.cell 4 _ rfl
         have hd1 : 1 ≤ d := by have := HD.out; omega
         have hd2 : d ≤ 32 := by have := HD.out; omega
         go_wp2_with fail
         rw [show d + 1 = 33 - (f : Int) from by have := HD.out; omega]
         have HQS : Aside0 (q.size + 256 * f ≤ 16384) := ⟨by have := belowP_size (path := path) (kid := y.f0) d HNE.out; rw [← HQ.out] at this; omega⟩
         have HB12 : Aside0 (Below w0.heap.size w0 W7) := ⟨HW0.out.trans (HU8.out.below (fun k hk => hk ▸ hp0) HW0.out.size)⟩
         (with_reducible refine (IH.out p q y A4 c4 (bi + entS y.f0) w0 W7 HB12.out hp0 HP8.out (by omega) hq7 HQS.out HTY.out.2.2 HTY.out.2.1 HC4.out hl4).mono ?_)
         rintro e W8 ⟨hU9, hres⟩
         have HU9 : Aside0 (Upd (fun k => k = p) w W8) := ⟨HU8.out.trans hU9 (fun _ h => .inl h)⟩
         have HX9 := Aside0.mk (HX8.out.upd hU9 (by omega))
         clear hU9 HX8 HBY8 HP8 HU8 y1 y2 y3 y4
         have HKA : Aside0 (kidAt (nodeL f) d path (prevAt x.f4 i) y bi = nodeL f q y (bi + entS y.f0)) := ⟨by rw [kidAt, if_neg (by rw [HNE.out]; decide), if_neg (by rw [HORD.out]; decide), if_neg (by omega), ← HQ.out]⟩
         cases hs : nodeL f q y (bi + entS y.f0) with
         | bad q2 c2 =>
          rw [hs] at hres HKA
          have hres2 : e = offends q2 c2 := hres
          subst hres2
          have HK : Aside0 (r = .bad q2 c2) := ⟨by
           obtain ⟨rs, hr⟩ := HR6.out
           exact kids_bad HAT.out hr HKA.out⟩
          clear hs hres
          unfold offends
          go_wp2_with fail
          exact ⟨rfl, HU9.out, by rw [HK.out]; exact rfl⟩
         | ok b2 rows =>
          rw [hs] at hres HKA
          obtain ⟨rfl, hp9, hb20, hb21⟩ := hres
          have HP9 := Aside0.mk hp9
          have HK : Aside0 (∃ rs, r = (kidsL (nodeL f) d path (prevAt x.f4 (i + 1)) (x.f4.drop (i + 1)) b2).pre rs) := ⟨by
           obtain ⟨rs, hr⟩ := HR6.out
           exact ⟨_, kids_ok HAT.out hr HKA.out⟩⟩
          clear hs hp9 HR6 HKA
          go_wp2_with fail
          go_roundw
          case rel => exact ⟨i + 1, b2, by omega, by go_num, hb20, hb21, HP9, HU9, HX9, HK⟩
          case measure => simp [intOf]; omega
        have HK : Aside0 (r = .bad q 2) := ⟨by
         obtain ⟨rs, hr⟩ := HR6.out
         refine kids_bad HAT.out hr ?_
         rw [kidAt, if_neg (by rw [HNE.out]; decide), if_neg (by rw [HORD.out]; decide), if_pos hq7, ← HQ.out]⟩
        unfold offends
        go_wp2_with fail
        exact ⟨rfl, HU8.out, by rw [HK.out]; exact rfl⟩
      ·have HK : Aside0 (r = .bad q (nameE y.f0)) := ⟨by
        obtain ⟨rs, hr⟩ := HR6.out
        exact kids_bad HAT.out hr (by rw [kidAt, if_pos hne, ← HQ.out])⟩
       generalize nameE y.f0 = en at *
       have hen : (en != 0) = true := bne_iff_ne.2 hne
       have hen2 : (en == 0) = false := beq_eq_false_iff_ne.2 hne
       go_wp2_with fail
       exact ⟨rfl, HU6.out.step HB9.out, by rw [HK.out]; exact rfl⟩
     ·obtain rfl : i = x.f4.length := by omega
      have HK : Aside0 (∃ rs, r = .ok bi rs) := ⟨by
       obtain ⟨rs, hr⟩ := HR6.out
       rw [List.drop_length] at hr
       exact ⟨_, hr⟩⟩
      go_wp2_with fail
      go_end0
      refine ⟨HU6.out, ?_⟩
      obtain ⟨rs, hr⟩ := HK.out
      rw [hr]
      exact ⟨rfl, HP6.out, hb0, hb1⟩
   ·unfold offends
    go_wp2_with fail
    exact ⟨rfl, HU4.out, by rw [HR.out, if_pos hq]; exact rfl⟩
 ·have HR : Aside0 (nodeL (f + 1) path x b = .bad path (fieldsE x.f1 x.f2 x.f3 x.f4)) := ⟨by rw [nodeL, if_pos hfl]⟩
  generalize nodeL (f + 1) path x b = r at *
  generalize hee : fieldsE x.f1 x.f2 x.f3 x.f4 = e at *
  have he1 : (e == 0) = false := beq_eq_false_iff_ne.2 hfl
  have he2 : (e != 0) = true := bne_iff_ne.2 hfl
  clear hee
  go_enter Tryd.func56, Tryd.ntmps56
  go_wp2_with fail
  rw [← hW1]
  (with_reducible refine (tree_fields.calls x.f1 x.f2 x.f3 A c x.f4 e W1 (Kd.C_below HC.out HB1.out) hc HF.out).mono ?_)
  rintro ee w2 ⟨rfl, hb2⟩
  have HB2 := Aside0.mk (below_step HB1.out hb2)
  clear hb2 hW1
  go_wp2
  exact ⟨rfl, Upd.of_below HB2.out, by rw [HR.out]; exact rfl⟩
theorem node_all : ∀ f, f ≤ 32 → NodeSaid f
 | 0, _ => node_zero
 | f + 1, h => node_step f (by omega) (node_all f (by omega))
end Go.Proofs.YtnemeeidomceiaaDoor
end
section
namespace Go.Proofs.YtnemeeidomceiaaDoor
open Go.RowKit Go.Proofs.YtnemeeidomceiaaDoorW.PrintWords Go.Proofs.YtnemeeidomceiaaDoorW.PrintLast Go.Proofs.YtnemeeidomceiaaDoorW.PrintMore Go.Proofs.YtnemeeidomceiaaDoor.PTreeChecks
set_option linter.unusedVariables false
set_option linter.unusedSimpArgs false
abbrev RefRow := S29
/-- A row of the walk as the document's. -/
def rowR (r : RowT) : RefRow := ⟨r.1, r.2.1, r.2.2.1, r.2.2.2⟩
theorem store1 {w : World} {g : Nat} {q : TypeId} {vs : List Value} (h : Blk w g q vs) (i : Nat) (v : Value) : Blk (w.setCell ⟨g, i, none⟩ v) g q (vs.set i v) ∧ Upd (fun k => k = g) w (w.setCell ⟨g, i, none⟩ v) :=
 ⟨blk_put h i v (by simp), Upd.setCell (S := fun k => k = g) (p := ⟨g, i, none⟩) (.inl rfl) v⟩
end Go.Proofs.YtnemeeidomceiaaDoor
end
