import Derived.Test.YtkpicjhhkdjejaaTabSI
import Derived.Deep.RegionHeld3
import Derived.Deep.QuietTactic
import Derived.BigQuiet
set_option linter.unusedVariables false
set_option linter.unusedSimpArgs false
namespace Go.Proofs.Ytkpicjhhkdjejaa
open Go.RowKit Go.Proofs.YtkpicjhhkdjejaaW.PrintWords Go.Proofs.Ytkpicjhhkdjejaa.Tb
theorem new_SI (w : World) : Calls Try.prog 8 #[] w fun e w' => e = .returned (.pointer (some ⟨w.heap.size, 0, none⟩)) ∧ TabSI w' w.heap.size (fun k => w.heap.size ≤ k) w.heap.size [] ∧ Below w.heap.size w w' := by
  go_enter Try.func8, Try.ntmps8
  go_wp2
  go_ret
  refine ⟨rfl, ⟨.slice none 0 0, .slice none 0 0, heap_alloc_new _ _, Nat.le_refl _, Nat.le_refl _, fun b hb => (by cases hb), fun b hb => (by cases hb), fun b hb => (by cases hb), World.ownsRow_nil _ _ _ _, World.ownsRow_nil _ _ _ _, List.Pairwise.nil⟩, below_alloc0 _ _⟩
set_option maxHeartbeats 1000000 in
theorem cutnone_SI (w : World) (base t : Nat) (ok : Nat → Prop) (m : List (ByteArray × Int)) (k : ByteArray) (h : TabSI w base ok t m) (hk : ¬ has m k) (hn : m.length < 2305843009213693952) :
    Calls Try.prog 10 #[.pointer (some ⟨t, 0, none⟩), Value.string k] w (PutPostSI w base ok t (cut slt m k) false) := by
  have HT := Aside0.mk h
  obtain ⟨kv, vv, ht, h1, h2, h3, h4, h5, h6, h7, h8⟩ := h
  have c0 : w.cell? ⟨t, 0, none⟩ = some kv := (blk_cell ht 0).trans rfl
  have HF := Aside0.mk (And.intro h6 (And.intro h8 hk))
  clear ht h3 h4 h5 h6 h7 h8 hk
  go_enter Try.func10, Try.ntmps10
  go_wp2_with (go_at_call 32; refine (bs_calls_s m HF.out.2.1 k hn w base kv HF.out.1 false (by simp [HF.out.2.2])).mono ?_; rintro e w1 ⟨rfl, hd⟩; obtain ⟨q, rfl⟩ := hd.out)
  go_ret
  refine ⟨rfl, ?_, (Upd.drewN w q)⟩
  rw [cut_gone slt_ord HF.out.2.1 HF.out.2.2]
  exact (HT.out.keep (Upd.drewN (S := fun _ => False) w q) (fun _ _ h => h)).mono (fun _ h => .inl h)
set_option maxHeartbeats 1000000 in
theorem cutold_SI (w : World) (base t : Nat) (ok : Nat → Prop) (m : List (ByteArray × Int)) (k : ByteArray) (h : TabSI w base ok t m) (hk : has m k) (hn : m.length < 2305843009213693952) :
    Calls Try.prog 10 #[.pointer (some ⟨t, 0, none⟩), Value.string k] w (PutPostSI w base ok t (cut slt m k) true) := by
  obtain ⟨kv, vv, ht, h1, h2, h3, h4, h5, h6, h7, h8⟩ := h
  obtain ⟨hcut, hr⟩ := cut_there slt_ord h8 hk
  obtain ⟨n, hmn⟩ : ∃ n, m.length = n + 1 := ⟨m.length - 1, by omega⟩
  have c0 : w.cell? ⟨t, 0, none⟩ = some kv := (blk_cell ht 0).trans rfl
  have c1 : w.cell? ⟨t, 1, none⟩ = some vv := (blk_cell ht 1).trans rfl
  have HT := Aside0.mk ht
  have H3 := Aside0.mk h3
  have H4 := Aside0.mk h4
  have H5 := Aside0.mk h5
  have H6 := Aside0.mk h6
  have H7 := Aside0.mk h7
  have H8 := Aside0.mk h8
  have HK := Aside0.mk hk
  have HC := Aside0.mk (And.intro hcut hmn)
  have hr2 : rank slt m k ≤ n := by omega
  clear ht h3 h4 h5 h6 h7 h8 hk hcut hmn
  go_enter Try.func10, Try.ntmps10
  go_wp2_with (go_at_call 32; refine (bs_calls_s m H8.out k hn w base kv H6.out true (by simp [HK.out])).mono ?_; rintro e w1 ⟨rfl, hd⟩; obtain ⟨q, rfl⟩ := hd.out)
  refine (deleteStr_all base n (rank slt m k) kv (m.map fun p => Value.string p.1) (w.drewN q) (by have := own_move (w1 := w.drewN q) H6.out (fun _ _ => rfl); rw [HC.out.2] at this; exact this) hr2 (fun u hu => by obtain ⟨p, _, rfl⟩ := List.mem_map.1 hu; rfl)).mono ?_
  rintro e w2 ⟨kv', rfl, hown', hg', hat'⟩
  simp only [Nat.mul_one] at hown'
  have T2 : w2.heap[t]? = some (.cells #[kv, vv] 64 (0, 0)) := (hg'.block t (blk_lt HT.out) (fun e => own_ne_blk H6.out HT.out (by decide) t e.symm rfl)).trans HT.out
  have VO2 : w2.ownsRow base 3 1 vv m.length (m.map fun p => Value.int .i64 p.2) := own_other (own_move (w1 := w.drewN q) H7.out (fun _ _ => rfl)) hg' (by
    cases hv : vv.ownBlock with
    | none => exact .inl rfl
    | some b => exact .inr (fun e => H5.out b e.symm hv))
  obtain ⟨A, c, rfl⟩ := own_slice hown'
  have c0 : w2.cell? ⟨t, 0, none⟩ = some kv := (blk_cell T2 0).trans rfl
  have c1 : w2.cell? ⟨t, 1, none⟩ = some vv := (blk_cell T2 1).trans rfl
  have z0 : w2.frozen? ⟨t, 0, none⟩ = false := blk_frozen T2 0
  have z1 : w2.frozen? ⟨t, 1, none⟩ = false := blk_frozen T2 1
  have HS := Aside0.mk (And.intro T2 (And.intro VO2 (And.intro hown' (And.intro hg' hat'))))
  clear T2 VO2 hown' hg' hat'
  go_wp2_with fail
  obtain ⟨W3, hW3⟩ : ∃ W3, W3 = w2.setCell ⟨t, 0, none⟩ (.slice A n c) := ⟨_, rfl⟩
  rw [← hW3]
  obtain ⟨T2, VO2, hown', hg', hat'⟩ := HS.out
  have U3 : Upd (fun b => b = t) w2 W3 := by rw [hW3]; exact Upd.setCell (S := fun b => b = t) (p := ⟨t, 0, none⟩) (.inl rfl) _
  have T3 : W3.heap[t]? = some (.cells #[.slice A n c, vv] 64 (0, 0)) := by
    rw [hW3]
    exact blk_put T2 0 (.slice A n c) rfl
  have K3 := U3.own hown' (fun b hb => own_ne_blk hown' T2 (by decide) b hb)
  have VO3 := U3.own VO2 (fun b hb => own_ne_blk VO2 T2 (by decide) b hb)
  clear hW3 c0 c1 z0 z1
  refine (deleteInt_all base n (rank slt m k) vv (m.map fun p => Value.int .i64 p.2) W3 (by have := VO3; rw [HC.out.2] at this; exact this) hr2 (fun u hu => by obtain ⟨p, _, rfl⟩ := List.mem_map.1 hu; rfl)).mono ?_
  rintro e w4 ⟨vv', rfl, hownv, hgv, hatv⟩
  simp only [Nat.mul_one] at hownv
  have T4 : w4.heap[t]? = some (.cells #[.slice A n c, vv] 64 (0, 0)) := (hgv.block t (blk_lt T3) (fun e => own_ne_blk VO3 T3 (by decide) t e.symm rfl)).trans T3
  have hkv : ∀ b, (Value.slice A n c).ownBlock = some b → vv.ownBlock ≠ some b := fun b hb he => H5.out b (hat' ▸ hb) he
  have K4 := own_other K3 hgv (by
    cases hv : (Value.slice A n c).ownBlock with
    | none => exact .inl rfl
    | some b => exact .inr (fun e => hkv b hv e.symm))
  obtain ⟨A', c', rfl⟩ := own_slice hownv
  have c1 : w4.cell? ⟨t, 1, none⟩ = some vv := (blk_cell T4 1).trans rfl
  have z1 : w4.frozen? ⟨t, 1, none⟩ = false := blk_frozen T4 1
  have HS' := Aside0.mk (And.intro U3 (And.intro T4 (And.intro K4 (And.intro hownv (And.intro hgv (And.intro hatv hkv))))))
  have HS'' := HS
  clear HS T2 VO2 hown' hg' U3 T3 T4 K3 VO3 hownv hgv hatv K4 hkv
  go_wp2
  go_ret
  obtain ⟨T2, VO2, hown', hg', hat'⟩ := HS''.out
  obtain ⟨U3, T4, K4, hownv, hgv, hatv, hkv⟩ := HS'.out
  have U5 : Upd (fun b => b = t) w4 (w4.setCell ⟨t, 1, none⟩ (.slice A' n c')) := Upd.setCell (S := fun b => b = t) (p := ⟨t, 1, none⟩) (.inl rfl) _
  have T5 := blk_put T4 1 (.slice A' n c') rfl
  have K5 := U5.own K4 (fun b hb => own_ne_blk K4 T4 (by decide) b hb)
  have V5 := U5.own hownv (fun b hb => own_ne_blk hownv T4 (by decide) b hb)
  have U2 : Upd ok w w2 := (Upd.drewN w q).trans (S2 := fun b => kv.ownBlock = some b) (Upd.of_grown hg' (fun b hb => .inl hb)) (fun b hb => .inl (H3.out b hb))
  have U3' : Upd ok w W3 := U2.trans U3 (fun b hb => .inl (by rw [hb]; exact h1))
  have U4 : Upd ok w w4 := U3'.trans (S2 := fun b => vv.ownBlock = some b) (Upd.of_grown hgv (fun b hb => .inl hb)) (fun b hb => .inl (H4.out b hb))
  have U6 : Upd ok w (w4.setCell ⟨t, 1, none⟩ (.slice A' n c')) := U4.trans U5 (fun b hb => .inl (by rw [hb]; exact h1))
  refine ⟨rfl, ⟨_, _, T5, .inl h1, h2, fun b hb => .inl (H3.out b (hat' ▸ hb)), fun b hb => .inl (H4.out b (hatv ▸ hb)), fun b hb he => hkv b hb (hatv ▸ he), ?_, ?_, cut_srt slt_ord H8.out k⟩, U6⟩
  · rw [HC.out.1, del_len _ _ n hr HC.out.2, del_map]
    exact K5
  · rw [HC.out.1, del_len _ _ n hr HC.out.2, del_map]
    exact V5
/-- Cut. -/
theorem cut_SI (w : World) (base t : Nat) (ok : Nat → Prop) (m : List (ByteArray × Int)) (k : ByteArray) (h : TabSI w base ok t m) (hn : m.length < 2305843009213693952) (b : Bool) (hb : b = true ↔ has m k) :
    Calls Try.prog 10 #[.pointer (some ⟨t, 0, none⟩), Value.string k] w (PutPostSI w base ok t (cut slt m k) b) := by
  by_cases hk : has m k
  · obtain rfl : b = true := hb.2 hk
    exact cutold_SI w base t ok m k h hk hn
  · obtain rfl : b = false := by cases b with | false => rfl | true => exact absurd (hb.1 rfl) hk
    exact cutnone_SI w base t ok m k h hk hn
set_option maxHeartbeats 1000000 in
theorem atout_SI (w : World) (base t : Nat) (ok : Nat → Prop) (m : List (ByteArray × Int)) (i : Int) (h : TabSI w base ok t m) (hi : i < 0 ∨ (m.length : Int) ≤ i) :
    Calls Try.prog 44 #[.pointer (some ⟨t, 0, none⟩), .int .i64 i] w fun e w' => e = .returned (.tuple #[(.string ⟨#[]⟩), (.int .i64 0), .bool false]) ∧ w = w' := by
  obtain ⟨kv, vv, ht, h1, h2, h3, h4, h5, h6, h7, h8⟩ := h
  obtain ⟨A, c, rfl⟩ := own_slice h6
  have c0 : w.cell? ⟨t, 0, none⟩ = some (.slice A m.length c) := (blk_cell ht 0).trans rfl
  clear ht h3 h4 h5 h6 h7 h8
  by_cases hneg : i < 0
  · have hd : decide (i < 0) = true := by simpa using hneg
    go_enter Try.func44, Try.ntmps44
    go_wp2
    go_ret3
    exact ⟨rfl, rfl⟩
  · have hd : decide (i < 0) = false := by simpa using hneg
    have hl : (m.length : Int) ≤ i := by omega
    go_enter Try.func44, Try.ntmps44
    go_wp2
    go_ret3
    exact ⟨rfl, rfl⟩
set_option maxHeartbeats 1000000 in
theorem atin_SI (w : World) (base t : Nat) (ok : Nat → Prop) (m : List (ByteArray × Int)) (i : Nat) (p : ByteArray × Int) (h : TabSI w base ok t m) (hp : m[i]? = some p) :
    Calls Try.prog 44 #[.pointer (some ⟨t, 0, none⟩), .int .i64 (i : Int)] w fun e w' => e = .returned (.tuple #[Value.string p.1, Value.int .i64 p.2, .bool true]) ∧ Drawn0 w w' := by
  obtain ⟨kv, vv, ht, h1, h2, h3, h4, h5, h6, h7, h8⟩ := h
  have hi := (List.getElem?_eq_some_iff.1 hp).1
  obtain ⟨g, cap, rfl, hgb, hgl⟩ := h6.form (by omega)
  obtain ⟨g2, cap2, rfl, hgb2, hgl2⟩ := h7.form (by omega)
  have c0 : w.cell? ⟨t, 0, none⟩ = some (.slice (some ⟨g, 0, none⟩) m.length cap) := (blk_cell ht 0).trans rfl
  have c1 : w.cell? ⟨t, 1, none⟩ = some (.slice (some ⟨g2, 0, none⟩) m.length cap2) := (blk_cell ht 1).trans rfl
  have e0 : w.cell? ⟨g, i, none⟩ = some (Value.string p.1) := (h6.cellAt _ (by omega)).trans (by rw [List.getElem?_map, hp]; rfl)
  have e1 : w.cell? ⟨g2, i, none⟩ = some (Value.int .i64 p.2) := (h7.cellAt _ (by omega)).trans (by rw [List.getElem?_map, hp]; rfl)
  have hi1 : (i : Int) < (m.length : Int) := by omega
  have hi0 : (0 : Int) ≤ (i : Int) := by omega
  have hd : decide ((i : Int) < 0) = false := by simp
  clear ht h3 h4 h5 h6 h7 h8 hp hgb hgl hgb2 hgl2
  go_enter Try.func44, Try.ntmps44
  go_wp2
  go_quiet (fail)
  go_wp2
  go_ret3
  exact ⟨rfl, ⟨_, rfl⟩⟩
set_option maxHeartbeats 1000000 in
theorem keys_SI (w : World) (base t : Nat) (ok : Nat → Prop) (m : List (ByteArray × Int)) (h : TabSI w base ok t m) (hn : m.length * 16 ≤ 140737488355328) :
    Calls Try.prog 12 #[.pointer (some ⟨t, 0, none⟩)] w (ClonedStr w m.length (m.map fun p => Value.string p.1)) := by
  obtain ⟨kv, vv, ht, h1, h2, h3, h4, h5, h6, h7, h8⟩ := h
  have c0 : w.cell? ⟨t, 0, none⟩ = some kv := (blk_cell ht 0).trans rfl
  have H6 := Aside0.mk h6
  clear ht h3 h4 h5 h6 h7 h8
  go_enter Try.func12, Try.ntmps12
  go_wp2_with (go_at_call 37; refine (cloneStr_all base m.length kv (m.map fun p => Value.string p.1) w H6.out (fun u hu => by obtain ⟨p, _, rfl⟩ := List.mem_map.1 hu; rfl) hn).mono ?_; rintro e w2 ⟨kv', rfl, hown', hb'⟩)
  go_ret
  exact ⟨_, rfl, hown', hb'⟩
end Go.Proofs.Ytkpicjhhkdjejaa
