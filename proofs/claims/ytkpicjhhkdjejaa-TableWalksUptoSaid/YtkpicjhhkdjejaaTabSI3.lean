import Derived.Test.YtkpicjhhkdjejaaTabSI2
set_option linter.unusedVariables false
set_option linter.unusedSimpArgs false
namespace Go.Proofs.Ytkpicjhhkdjejaa
open Go.RowKit Go.Proofs.YtkpicjhhkdjejaaW.PrintWords Go.Proofs.Ytkpicjhhkdjejaa.Tb
def ForkPostSI (w : World) (m : List (ByteArray × Int)) (e : Ending) (w' : World) : Prop := ∃ t, e = .returned (.pointer (some ⟨t, 0, none⟩)) ∧ TabSI w' w.heap.size (fun k => w.heap.size ≤ k) t m ∧ Below w.heap.size w w'
theorem forkfin_SI {w w3 : World} {m : List (ByteArray × Int)} {kv vv : Value} (hs : Srt slt m) (hk : w3.ownsRow w.heap.size 9 1 kv m.length (m.map fun p => Value.string p.1)) (hv : w3.ownsRow w.heap.size 3 1 vv m.length (m.map fun p => Value.int .i64 p.2)) (hne : ∀ b, kv.ownBlock = some b → vv.ownBlock ≠ some b) (hb : Below w.heap.size w w3) (o : Ending) (ho : o = .returned (.pointer (some ⟨w3.heap.size, 0, none⟩))) :
    ForkPostSI w m o (w3.alloc (.cells #[kv, vv] 64)) :=
  ⟨_, ho, ⟨kv, vv, heap_alloc_new _ _, hb.size, hb.size, fun b h => own_base hk b h, fun b h => own_base hv b h, hne, own_move hk (fun b h => Below.heap_alloc _ _ _ (own_lt hk b h)), own_move hv (fun b h => Below.heap_alloc _ _ _ (own_lt hv b h)), hs⟩, below_alloc hb _⟩
theorem own_apart {w2 w3 : World} {b1 e1 n1 e2 n2 s1 s2 : Nat} {u v : Value} {xs ys : List Value} (hu : w2.ownsRow b1 e1 s1 u n1 xs) (hv : w3.ownsRow w2.heap.size e2 s2 v n2 ys) : ∀ b, u.ownBlock = some b → v.ownBlock ≠ some b := fun b hb he => by
  have := own_lt hu b hb
  have := own_base hv b he
  omega
set_option maxHeartbeats 1000000 in
theorem fork_SI (w : World) (base t : Nat) (ok : Nat → Prop) (m : List (ByteArray × Int)) (h : TabSI w base ok t m) (hn : m.length * 16 ≤ 140737488355328) (hv : m.length * 8 ≤ 140737488355328) :
    Calls Try.prog 13 #[.pointer (some ⟨t, 0, none⟩)] w (ForkPostSI w m) := by
  obtain ⟨kv, vv, ht, h1, h2, h3, h4, h5, h6, h7, h8⟩ := h
  have htl := blk_lt ht
  have c0 : w.cell? ⟨t, 0, none⟩ = some kv := (blk_cell ht 0).trans rfl
  have c1 : w.cell? ⟨t, 1, none⟩ = some vv := (blk_cell ht 1).trans rfl
  have HK : ∀ W, Below w.heap.size w W → W.ownsRow base 9 1 kv m.length (m.map fun p => Value.string p.1) := fun W hb => own_move h6 (fun b hb' => hb.block b (own_lt h6 b hb'))
  have HV : ∀ W, Below w.heap.size w W → W.ownsRow base 3 1 vv m.length (m.map fun p => Value.int .i64 p.2) := fun W hb => own_move h7 (fun b hb' => hb.block b (own_lt h7 b hb'))
  have HC0 : ∀ W, Below w.heap.size w W → W.cell? ⟨t, 0, none⟩ = some kv := fun W hb => (hb.cell (p := ⟨t, 0, none⟩) htl).trans c0
  have HC1 : ∀ W, Below w.heap.size w W → W.cell? ⟨t, 1, none⟩ = some vv := fun W hb => (hb.cell (p := ⟨t, 1, none⟩) htl).trans c1
  have AK := Aside0.mk HK
  have AV := Aside0.mk HV
  have AC := Aside0.mk (And.intro HC0 HC1)
  have H8 := Aside0.mk h8
  have hB0 : Below w.heap.size w w.drew := below_drew (Below.refl _ _)
  have hz0 : w.heap.size ≤ w.drew.heap.size := Nat.le_refl _
  clear ht h3 h4 h5 h6 h7 h8 HK HV HC0 HC1 htl
  go_enter Try.func13, Try.ntmps13
  go_wp2
  go_region_held3 (fun w' => w'.cell? ⟨t, 0, none⟩ = some kv ∧ w'.cell? ⟨t, 1, none⟩ = some vv) (go_keep)
    (first
      | ((go_at_call 37); (refine (cloneStr_all base m.length kv (m.map fun p => Value.string p.1) _ (AK.out _ (by assumption)) (fun u hu => by obtain ⟨p, _, rfl⟩ := List.mem_map.1 hu; rfl) hn).mono ?_); (rintro e w2 ⟨kv', rfl, hk1, hk2⟩); (obtain ⟨A1, d1, rfl⟩ := own_slice hk1); (have hB2 : Below w.heap.size w w2 := below_then (by assumption) (by assumption) hk2); (have hz2 : w.heap.size ≤ w2.heap.size := hB2.size); (have cc0 := AC.out.1 w2 hB2); (have cc1 := AC.out.2 w2 hB2))
      | ((go_at_call 38); (refine (cloneInt_all base m.length vv (m.map fun p => Value.int .i64 p.2) _ (AV.out _ (by assumption)) (fun u hu => by obtain ⟨p, _, rfl⟩ := List.mem_map.1 hu; rfl) hv).mono ?_); (rintro e w3 ⟨vv', rfl, hv1, hv2⟩); (obtain ⟨A2, d2, rfl⟩ := own_slice hv1); (have hB3 : Below w.heap.size w w3 := below_then (by assumption) (by assumption) hv2); (have hz3 : w.heap.size ≤ w3.heap.size := hB3.size); (have cc0 := AC.out.1 w3 hB3); (have cc1 := AC.out.2 w3 hB3)))
  all_goals go_wp2
  all_goals go_ret
  all_goals first
    | exact forkfin_SI H8.out (own_lower (pw_own_below hk1 hv2) hz0) (own_lower hv1 hz2) (own_apart hk1 hv1) hB3 _ rfl
    | exact forkfin_SI H8.out (own_lower hk1 hz3) (own_lower (pw_own_below hv1 hk2) hz0) (fun b hb he => own_apart hv1 hk1 b he hb) hB2 _ rfl
end Go.Proofs.Ytkpicjhhkdjejaa
