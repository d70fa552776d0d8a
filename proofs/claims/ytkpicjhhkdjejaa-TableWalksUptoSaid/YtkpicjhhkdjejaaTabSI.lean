import Derived.Test.YtkpicjhhkdjejaaTabBase
import Derived.Test.YtkpicjhhkdjejaaInsStr
import Derived.Test.YtkpicjhhkdjejaaInsInt
import Derived.Test.YtkpicjhhkdjejaaDcStr
import Derived.Test.YtkpicjhhkdjejaaDcInt
import Derived.Test.YtkpicjhhkdjejaaBsStr
set_option linter.unusedVariables false
set_option linter.unusedSimpArgs false
namespace Go.Proofs.Ytkpicjhhkdjejaa
open Go.RowKit Go.Proofs.YtkpicjhhkdjejaaW.PrintWords Go.Proofs.Ytkpicjhhkdjejaa.Tb
/-- The table of block t holds the pairs m; all its blocks are told by ok. -/
def TabSI (w : World) (base : Nat) (ok : Nat → Prop) (t : Nat) (m : List (ByteArray × Int)) : Prop :=
  ∃ kv vv, w.heap[t]? = some (.cells #[kv, vv] 64 (0, 0)) ∧ ok t ∧ base ≤ t ∧ (∀ k, kv.ownBlock = some k → ok k) ∧ (∀ k, vv.ownBlock = some k → ok k) ∧ (∀ k, kv.ownBlock = some k → vv.ownBlock ≠ some k) ∧
    w.ownsRow base 9 1 kv m.length (m.map fun p => Value.string p.1) ∧ w.ownsRow base 3 1 vv m.length (m.map fun p => Value.int .i64 p.2) ∧ Srt slt m
theorem TabSI.keep {w w' : World} {base t : Nat} {ok S : Nat → Prop} {m : List (ByteArray × Int)} (h : TabSI w base ok t m) (hu : Upd S w w') (hn : ∀ k, ok k → ¬ S k) : TabSI w' base ok t m := by
  obtain ⟨kv, vv, ht, h1, h2, h3, h4, h5, h6, h7, h8⟩ := h
  exact ⟨kv, vv, hu.blk ht (hn t h1), h1, h2, h3, h4, h5, hu.own h6 (fun k hk => hn k (h3 k hk)), hu.own h7 (fun k hk => hn k (h4 k hk)), h8⟩
theorem TabSI.mono {w : World} {base t : Nat} {ok ok' : Nat → Prop} {m : List (ByteArray × Int)} (h : TabSI w base ok t m) (hn : ∀ k, ok k → ok' k) : TabSI w base ok' t m := by
  obtain ⟨kv, vv, ht, h1, h2, h3, h4, h5, h6, h7, h8⟩ := h
  exact ⟨kv, vv, ht, hn t h1, h2, fun k hk => hn k (h3 k hk), fun k hk => hn k (h4 k hk), h5, h6, h7, h8⟩
theorem TabSI.bound {w : World} {base t : Nat} {ok : Nat → Prop} {m : List (ByteArray × Int)} (h : TabSI w base ok t m) : TabSI w base (fun k => ok k ∧ base ≤ k ∧ k < w.heap.size) t m := by
  obtain ⟨kv, vv, ht, h1, h2, h3, h4, h5, h6, h7, h8⟩ := h
  exact ⟨kv, vv, ht, ⟨h1, h2, blk_lt ht⟩, h2, fun k hk => ⟨h3 k hk, own_base h6 k hk, own_lt h6 k hk⟩, fun k hk => ⟨h4 k hk, own_base h7 k hk, own_lt h7 k hk⟩, h5, h6, h7, h8⟩
theorem TabSI.lower {w : World} {base base' t : Nat} {ok : Nat → Prop} {m : List (ByteArray × Int)} (h : TabSI w base ok t m) (hb : base' ≤ base) : TabSI w base' ok t m := by
  obtain ⟨kv, vv, ht, h1, h2, h3, h4, h5, h6, h7, h8⟩ := h
  exact ⟨kv, vv, ht, h1, Nat.le_trans hb h2, h3, h4, h5, own_lower h6 hb, own_lower h7 hb, h8⟩
theorem TabSI.srt {w : World} {base t : Nat} {ok : Nat → Prop} {m : List (ByteArray × Int)} (h : TabSI w base ok t m) : Srt slt m := by
  obtain ⟨kv, vv, ht, h1, h2, h3, h4, h5, h6, h7, h8⟩ := h
  exact h8
/-- What Put leaves. -/
def PutPostSI (w : World) (base : Nat) (ok : Nat → Prop) (t : Nat) (m : List (ByteArray × Int)) (b : Bool) (e : Ending) (w' : World) : Prop :=
  e = .returned (.bool b) ∧ TabSI w' base (fun k => ok k ∨ w.heap.size ≤ k) t m ∧ Upd ok w w'
set_option maxHeartbeats 1000000 in
theorem putnew_SI (w : World) (base t : Nat) (ok : Nat → Prop) (m : List (ByteArray × Int)) (k : ByteArray) (v : Int) (h : TabSI w base ok t m) (hno : ¬ has m k) (hn : m.length < 2305843009213693952) (hbk : (m.length + 1) * 16 ≤ 140737488355328) (hbv : (m.length + 1) * 8 ≤ 140737488355328) (hbw : base ≤ w.heap.size) :
    Calls Try.prog 9 #[.pointer (some ⟨t, 0, none⟩), Value.string k, Value.int .i64 v] w (PutPostSI w base ok t (put slt m k v) true) := by
  obtain ⟨kv, vv, ht, h1, h2, h3, h4, h5, h6, h7, h8⟩ := h
  have c0 : w.cell? ⟨t, 0, none⟩ = some kv := (blk_cell ht 0).trans rfl
  have c1 : w.cell? ⟨t, 1, none⟩ = some vv := (blk_cell ht 1).trans rfl
  have HT := Aside0.mk ht
  have H3 := Aside0.mk h3
  have H4 := Aside0.mk h4
  have H5 := Aside0.mk h5
  have H6 := Aside0.mk h6
  have H7 := Aside0.mk h7
  have H8 := Aside0.mk h8
  have HNO := Aside0.mk hno
  clear ht h3 h4 h5 h6 h7 h8 hno
  go_enter Try.func9, Try.ntmps9
  go_wp2_with (go_at_call 32; refine (bs_calls_s m H8.out k hn w base kv H6.out false (by simp [HNO.out])).mono ?_; rintro e w1 ⟨rfl, hd⟩; obtain ⟨q, rfl⟩ := hd.out)
  obtain ⟨W1, hW1⟩ : ∃ W1, W1 = (w.drewN q).alloc (.cells #[Value.string k] 9) := ⟨_, rfl⟩
  rw [← hW1]
  have hs1 : W1.heap.size = w.heap.size + 1 := by rw [hW1]; simp
  have U1 : Upd (fun _ => False) w W1 := by rw [hW1]; exact (Upd.drewN w q).trans (Upd.alloc _ _) (fun _ h => False.elim h)
  have V1 : W1.heap[w.heap.size]? = some (.cells #[Value.string k] 9 (0, 0)) := by rw [hW1]; exact heap_alloc_new (w.drewN q) _
  clear hW1 c0 c1
  refine (insertStr_all base m.length (rank slt m k) kv (m.map fun p => Value.string p.1) w.heap.size [Value.string k] W1 (U1.own H6.out (fun _ _ h => h)) (rank_le _ _) rfl V1 (fun he => by have := own_lt H6.out _ he; omega) (by simp [Value.oneCell']) (fun u hu => by obtain ⟨p, _, rfl⟩ := List.mem_map.1 hu; rfl) hbk (by omega)).mono ?_
  rintro e w2 ⟨kv', rfl, hown', hg', hat'⟩
  simp only [Nat.mul_one] at hown'
  have htw := blk_lt HT.out
  have T1 := U1.blk HT.out (fun h => h)
  have T2 : w2.heap[t]? = some (.cells #[kv, vv] 64 (0, 0)) := (hg'.block t (by omega) (fun e => own_ne_blk (U1.own H6.out (fun _ _ h => h)) T1 (by decide) t e.symm rfl)).trans T1
  have VO2 : w2.ownsRow base 3 1 vv m.length (m.map fun p => Value.int .i64 p.2) := own_other (U1.own H7.out (fun _ _ h => h)) hg' (by
    cases hv : vv.ownBlock with
    | none => exact .inl rfl
    | some b => exact .inr (fun e => H5.out b e.symm hv))
  obtain ⟨A, c, rfl⟩ := own_slice hown'
  have c0 : w2.cell? ⟨t, 0, none⟩ = some kv := (blk_cell T2 0).trans rfl
  have c1 : w2.cell? ⟨t, 1, none⟩ = some vv := (blk_cell T2 1).trans rfl
  have z0 : w2.frozen? ⟨t, 0, none⟩ = false := blk_frozen T2 0
  have z1 : w2.frozen? ⟨t, 1, none⟩ = false := blk_frozen T2 1
  have hs2 := hg'.size
  have HS := Aside0.mk (And.intro U1 (And.intro V1 (And.intro T2 (And.intro VO2 (And.intro hown' (And.intro hg' hat'))))))
  clear U1 V1 T1 T2 VO2 hown' hg' hat'
  go_wp2_with fail
  obtain ⟨W3, hW3⟩ : ∃ W3, W3 = (w2.setCell ⟨t, 0, none⟩ (.slice A (m.length + 1) c)).alloc (.cells #[Value.int .i64 v] 3) := ⟨_, rfl⟩
  rw [← hW3]
  obtain ⟨U1, V1, T2, VO2, hown', hg', hat'⟩ := HS.out
  have hs3 : W3.heap.size = w2.heap.size + 1 := by rw [hW3]; simp [World.setCell]
  have U3 : Upd (fun b => b = t) w2 W3 := by rw [hW3]; exact (Upd.setCell (S := fun b => b = t) (p := ⟨t, 0, none⟩) (.inl rfl) _).trans (S2 := fun _ => False) (Upd.alloc _ _) (fun _ h => False.elim h)
  have V3 : W3.heap[w2.heap.size]? = some (.cells #[Value.int .i64 v] 3 (0, 0)) := by
    rw [hW3]
    have := heap_alloc_new (w2.setCell ⟨t, 0, none⟩ (.slice A (m.length + 1) c)) (.cells #[Value.int .i64 v] 3)
    simpa [World.setCell] using this
  have T3 : W3.heap[t]? = some (.cells #[.slice A (m.length + 1) c, vv] 64 (0, 0)) := by
    rw [hW3]
    have h2 := blk_put T2 0 (.slice A (m.length + 1) c) rfl
    exact blk_alloc h2 _
  have K3 := U3.own hown' (fun b hb => own_ne_blk hown' T2 (by decide) b hb)
  have VO3 := U3.own VO2 (fun b hb => own_ne_blk VO2 T2 (by decide) b hb)
  clear hW3 c0 c1 z0 z1
  refine (insertInt_all base m.length (rank slt m k) vv (m.map fun p => Value.int .i64 p.2) w2.heap.size [Value.int .i64 v] W3 VO3 (rank_le _ _) rfl V3 (fun he => by have := own_lt VO2 _ he; omega) (by simp [Value.oneCell']) (fun u hu => by obtain ⟨p, _, rfl⟩ := List.mem_map.1 hu; rfl) hbv (by omega)).mono ?_
  rintro e w4 ⟨vv', rfl, hownv, hgv, hatv⟩
  simp only [Nat.mul_one] at hownv
  have T4 : w4.heap[t]? = some (.cells #[.slice A (m.length + 1) c, vv] 64 (0, 0)) := (hgv.block t (blk_lt T3) (fun e => own_ne_blk VO3 T3 (by decide) t e.symm rfl)).trans T3
  have hkv : ∀ b, (Value.slice A (m.length + 1) c).ownBlock = some b → vv.ownBlock ≠ some b := fun b hb he => by
    rcases hat' with h | h
    · exact H5.out b (h ▸ hb) he
    · rw [hb] at h
      injection h with h
      have := own_lt H7.out b he
      omega
  have K4 := own_other K3 hgv (by
    cases hv : (Value.slice A (m.length + 1) c).ownBlock with
    | none => exact .inl rfl
    | some b => exact .inr (fun e => hkv b hv e.symm))
  obtain ⟨A', c', rfl⟩ := own_slice hownv
  have c1 : w4.cell? ⟨t, 1, none⟩ = some vv := (blk_cell T4 1).trans rfl
  have z1 : w4.frozen? ⟨t, 1, none⟩ = false := blk_frozen T4 1
  have hs4 := hgv.size
  have HS' := Aside0.mk (And.intro U3 (And.intro T4 (And.intro K4 (And.intro hownv (And.intro hgv (And.intro hatv hkv))))))
  have HS'' := HS
  clear HS U1 V1 T2 VO2 hown' hg' U3 V3 T3 T4 K3 VO3 hownv hgv hatv K4 hkv
  go_wp2
  go_ret
  obtain ⟨U1, V1, T2, VO2, hown', hg', hat'⟩ := HS''.out
  obtain ⟨U3, T4, K4, hownv, hgv, hatv, hkv⟩ := HS'.out
  have U5 : Upd (fun b => b = t) w4 (w4.setCell ⟨t, 1, none⟩ (.slice A' (m.length + 1) c')) := Upd.setCell (S := fun b => b = t) (p := ⟨t, 1, none⟩) (.inl rfl) _
  have T5 := blk_put T4 1 (.slice A' (m.length + 1) c') rfl
  have K5 := U5.own K4 (fun b hb => own_ne_blk K4 T4 (by decide) b hb)
  have V5 := U5.own hownv (fun b hb => own_ne_blk hownv T4 (by decide) b hb)
  have U2 : Upd ok w w2 := (U1.mono (fun _ h => False.elim h)).trans (S2 := fun b => kv.ownBlock = some b) (Upd.of_grown hg' (fun b hb => .inl hb)) (fun b hb => .inl (H3.out b hb))
  have U3' : Upd ok w W3 := U2.trans U3 (fun b hb => .inl (by rw [hb]; exact h1))
  have U4 : Upd ok w w4 := U3'.trans (S2 := fun b => vv.ownBlock = some b) (Upd.of_grown hgv (fun b hb => .inl hb)) (fun b hb => .inl (H4.out b hb))
  have U6 : Upd ok w (w4.setCell ⟨t, 1, none⟩ (.slice A' (m.length + 1) c')) := U4.trans U5 (fun b hb => .inl (by rw [hb]; exact h1))
  refine ⟨rfl, ⟨_, _, T5, .inl h1, h2, fun b hb => ?_, fun b hb => ?_, fun b hb he => ?_, ?_, ?_, put_srt slt_ord H8.out k v⟩, U6⟩
  · rcases hat' with h | h
    · exact .inl (H3.out b (h ▸ hb))
    · rw [hb] at h; injection h with h; exact .inr (by omega)
  · rcases hatv with h | h
    · exact .inl (H4.out b (h ▸ hb))
    · rw [hb] at h; injection h with h; have := U3'.size; exact .inr (by omega)
  · rcases hatv with h | h
    · exact hkv b hb (h ▸ he)
    · rw [he] at h
      injection h with h
      have := own_lt K4 b hb
      rcases hat' with h' | h'
      · rw [hb] at h'
        have := own_lt H6.out b h'.symm
        omega
      · rw [hb] at h'
        injection h' with h'
        omega
  · rw [put_new slt_ord H8.out HNO.out]
    rw [ins_len _ _ _ (rank_le _ _), ins_map]
    exact K5
  · rw [put_new slt_ord H8.out HNO.out]
    rw [ins_len _ _ _ (rank_le _ _), ins_map]
    exact V5
set_option maxHeartbeats 1000000 in
theorem putold_SI (w : World) (base t : Nat) (ok : Nat → Prop) (m : List (ByteArray × Int)) (k : ByteArray) (v : Int) (h : TabSI w base ok t m) (hk : has m k) (hn : m.length < 2305843009213693952) :
    Calls Try.prog 9 #[.pointer (some ⟨t, 0, none⟩), Value.string k, Value.int .i64 v] w (PutPostSI w base ok t (put slt m k v) false) := by
  obtain ⟨kv, vv, ht, h1, h2, h3, h4, h5, h6, h7, h8⟩ := h
  obtain ⟨hput, hr⟩ := put_there slt_ord h8 hk v
  obtain ⟨g, cap, rfl, hgb, hgl⟩ := h7.form (by omega)
  have c0 : w.cell? ⟨t, 0, none⟩ = some kv := (blk_cell ht 0).trans rfl
  have c1 : w.cell? ⟨t, 1, none⟩ = some (.slice (some ⟨g, 0, none⟩) m.length cap) := (blk_cell ht 1).trans rfl
  have hold : w.cell? ⟨g, rank slt m k, none⟩ = (m.map fun p => Value.int .i64 p.2)[rank slt m k]? := h7.cellAt _ (by omega)
  obtain ⟨u, hu⟩ : ∃ u, (m.map fun p => Value.int .i64 p.2)[rank slt m k]? = some u := ⟨_, List.getElem?_eq_getElem (by rw [List.length_map]; exact hr)⟩
  have cg : w.cell? ⟨g, rank slt m k, none⟩ = some u := hold.trans hu
  have zg : w.frozen? ⟨g, rank slt m k, none⟩ = false := h7.frozenAt _
  have hgt : g ≠ t := own_ne_blk h7 ht (by decide) g rfl
  have hr' : ((rank slt m k : Nat) : Int) < (m.length : Int) := by omega
  have hr0 : (0 : Int) ≤ ((rank slt m k : Nat) : Int) := by omega
  have HF := Aside0.mk (And.intro ht (And.intro h3 (And.intro h4 (And.intro h5 (And.intro h6 (And.intro h7 (And.intro h8 (And.intro hk (And.intro hput hgt)))))))))
  clear ht h3 h4 h5 h6 h7 h8 hk hput hold hu hgb hgl hgt
  go_enter Try.func9, Try.ntmps9
  go_wp2_with (go_at_call 32; refine (bs_calls_s m HF.out.2.2.2.2.2.2.1 k hn w base kv HF.out.2.2.2.2.1 true (by simp [HF.out.2.2.2.2.2.2.2.1])).mono ?_; rintro e w1 ⟨rfl, hd⟩; obtain ⟨q, rfl⟩ := hd.out)
  go_ret
  obtain ⟨ht, h3, h4, h5, h6, h7, h8, hk, hput, hgt⟩ := HF.out
  have U5 : Upd (fun b => b = g) (w.drewN q) ((w.drewN q).setCell ⟨g, rank slt m k, none⟩ (Value.int .i64 v)) := Upd.setCell (S := fun b => b = g) (p := ⟨g, rank slt m k, none⟩) (.inl rfl) _
  have U6 : Upd ok w ((w.drewN q).setCell ⟨g, rank slt m k, none⟩ (Value.int .i64 v)) := (Upd.drewN w q).trans U5 (fun b hb => .inl (by rw [hb]; exact h4 g rfl))
  have hst := (own_move (w1 := w.drewN q) h7 (fun _ _ => rfl)).stored (rank slt m k) (Value.int .i64 v)
  refine ⟨rfl, ⟨kv, _, U5.blk (w := w.drewN q) ht (fun e => hgt e.symm), .inl h1, h2, fun b hb => .inl (h3 b hb), fun b hb => .inl (h4 b hb), h5, ?_, ?_, put_srt slt_ord h8 k v⟩, U6⟩
  · have h6' := U5.own (own_move (w1 := w.drewN q) h6 (fun _ _ => rfl)) (fun b hb e => h5 b hb (by rw [e]; rfl))
    have hm : (put slt m k v).map (fun p => Value.string p.1) = m.map fun p => Value.string p.1 := by
      rw [hput]
      obtain ⟨x, hx, _⟩ := (behind slt_ord k m h8).1 hk
      apply List.ext_getElem?
      intro j
      rw [List.getElem?_map, List.getElem?_map, List.getElem?_set]
      split
      · rename_i e
        rw [← e, hx]
        rfl
      · rfl
    rw [hm, hput, List.length_set]
    exact h6'
  · rw [hput, List.length_set, List.map_set]
    exact hst.1
/-- Put. -/
theorem put_SI (w : World) (base t : Nat) (ok : Nat → Prop) (m : List (ByteArray × Int)) (k : ByteArray) (v : Int) (h : TabSI w base ok t m) (hbk : (m.length + 1) * 16 ≤ 140737488355328) (hbv : (m.length + 1) * 8 ≤ 140737488355328) (hbw : base ≤ w.heap.size) (b : Bool) (hb : b = true ↔ ¬ has m k) :
    Calls Try.prog 9 #[.pointer (some ⟨t, 0, none⟩), Value.string k, Value.int .i64 v] w (PutPostSI w base ok t (put slt m k v) b) := by
  by_cases hk : has m k
  · obtain rfl : b = false := by cases b with | false => rfl | true => exact absurd hk (hb.1 rfl)
    exact putold_SI w base t ok m k v h hk (by omega)
  · obtain rfl : b = true := hb.2 hk
    exact putnew_SI w base t ok m k v h hk (by omega) hbk hbv hbw
set_option maxHeartbeats 1000000 in
theorem getold_SI (w : World) (base t : Nat) (ok : Nat → Prop) (m : List (ByteArray × Int)) (k : ByteArray) (v : Int) (h : TabSI w base ok t m) (hk : (k, v) ∈ m) (hn : m.length < 2305843009213693952) :
    Calls Try.prog 16 #[.pointer (some ⟨t, 0, none⟩), Value.string k] w fun e w' => e = .returned (.tuple #[Value.int .i64 v, .bool true]) ∧ Drawn0 w w' := by
  obtain ⟨kv, vv, ht, h1, h2, h3, h4, h5, h6, h7, h8⟩ := h
  have hhas : has m k := ⟨(k, v), hk, rfl⟩
  obtain ⟨x, hx, _⟩ := (behind slt_ord k m h8).1 hhas
  have hxv : x = v := congrArg Prod.snd (mem_unique slt_ord h8 (List.mem_iff_getElem?.2 ⟨_, hx⟩) hk rfl)
  subst hxv
  have hr := (List.getElem?_eq_some_iff.1 hx).1
  obtain ⟨g, cap, rfl, hgb, hgl⟩ := h7.form (by omega)
  have c0 : w.cell? ⟨t, 0, none⟩ = some kv := (blk_cell ht 0).trans rfl
  have c1 : w.cell? ⟨t, 1, none⟩ = some (.slice (some ⟨g, 0, none⟩) m.length cap) := (blk_cell ht 1).trans rfl
  have cg : w.cell? ⟨g, rank slt m k, none⟩ = some (Value.int .i64 x) := (h7.cellAt _ (by omega)).trans (by rw [List.getElem?_map, hx]; rfl)
  have hr' : ((rank slt m k : Nat) : Int) < (m.length : Int) := by omega
  have hr0 : (0 : Int) ≤ ((rank slt m k : Nat) : Int) := by omega
  have HF := Aside0.mk (And.intro h6 (And.intro h8 hhas))
  clear ht h3 h4 h5 h6 h7 h8 hk hgb hgl hhas hx
  go_enter Try.func16, Try.ntmps16
  go_wp2_with (go_at_call 32; refine (bs_calls_s m HF.out.2.1 k hn w base kv HF.out.1 true (by simp [HF.out.2.2])).mono ?_; rintro e w1 ⟨rfl, hd⟩; obtain ⟨q, rfl⟩ := hd.out)
  go_ret2
  exact ⟨rfl, ⟨q, rfl⟩⟩
set_option maxHeartbeats 1000000 in
theorem getnone_SI (w : World) (base t : Nat) (ok : Nat → Prop) (m : List (ByteArray × Int)) (k : ByteArray) (h : TabSI w base ok t m) (hk : ¬ has m k) (hn : m.length < 2305843009213693952) :
    Calls Try.prog 16 #[.pointer (some ⟨t, 0, none⟩), Value.string k] w fun e w' => e = .returned (.tuple #[(.int .i64 0), .bool false]) ∧ Drawn0 w w' := by
  obtain ⟨kv, vv, ht, h1, h2, h3, h4, h5, h6, h7, h8⟩ := h
  have c0 : w.cell? ⟨t, 0, none⟩ = some kv := (blk_cell ht 0).trans rfl
  have HF := Aside0.mk (And.intro h6 (And.intro h8 hk))
  clear ht h3 h4 h5 h6 h7 h8 hk
  go_enter Try.func16, Try.ntmps16
  go_wp2_with (go_at_call 32; refine (bs_calls_s m HF.out.2.1 k hn w base kv HF.out.1 false (by simp [HF.out.2.2])).mono ?_; rintro e w1 ⟨rfl, hd⟩; obtain ⟨q, rfl⟩ := hd.out)
  go_ret2
  exact ⟨rfl, ⟨q, rfl⟩⟩
set_option maxHeartbeats 1000000 in
theorem rank_SI (w : World) (base t : Nat) (ok : Nat → Prop) (m : List (ByteArray × Int)) (k : ByteArray) (h : TabSI w base ok t m) (hn : m.length < 2305843009213693952) (b : Bool) (hb : b = true ↔ has m k) :
    Calls Try.prog 42 #[.pointer (some ⟨t, 0, none⟩), Value.string k] w fun e w' => e = .returned (.int .i64 ((rank slt m k : Nat) : Int)) ∧ Drawn0 w w' := by
  obtain ⟨kv, vv, ht, h1, h2, h3, h4, h5, h6, h7, h8⟩ := h
  have c0 : w.cell? ⟨t, 0, none⟩ = some kv := (blk_cell ht 0).trans rfl
  have HF := Aside0.mk (And.intro h6 (And.intro h8 hb))
  clear ht h3 h4 h5 h6 h7 h8 hb
  go_enter Try.func42, Try.ntmps42
  go_wp2_with (go_at_call 32; refine (bs_calls_s m HF.out.2.1 k hn w base kv HF.out.1 b HF.out.2.2).mono ?_; rintro e w1 ⟨rfl, hd⟩; obtain ⟨q, rfl⟩ := hd.out)
  go_ret
  exact ⟨rfl, ⟨q, rfl⟩⟩
theorem len_SI (w : World) (base t : Nat) (ok : Nat → Prop) (m : List (ByteArray × Int)) (h : TabSI w base ok t m) :
    Calls Try.prog 29 #[.pointer (some ⟨t, 0, none⟩)] w fun e w' => e = .returned (.int .i64 (m.length : Int)) ∧ w = w' := by
  obtain ⟨kv, vv, ht, h1, h2, h3, h4, h5, h6, h7, h8⟩ := h
  obtain ⟨A, c, rfl⟩ := own_slice h6
  have c0 : w.cell? ⟨t, 0, none⟩ = some (.slice A m.length c) := (blk_cell ht 0).trans rfl
  clear ht h3 h4 h5 h6 h7 h8
  go_enter Try.func29, Try.ntmps29
  go_wp2
  go_ret
  exact ⟨rfl, rfl⟩
end Go.Proofs.Ytkpicjhhkdjejaa
