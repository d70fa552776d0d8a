import Derived.Test.YtkpicjhhkdjejaaPlaysState
import Derived.Test.YtkpicjhhkdjejaaWalkTablePlays
set_option linter.unusedVariables false
set_option linter.unusedSimpArgs false
namespace Go.Proofs.Ytkpicjhhkdjejaa
open Go.RowKit Go.Proofs.YtkpicjhhkdjejaaW.PrintWords Go.Proofs.YtkpicjhhkdjejaaW.PrintLast Go.Proofs.YtkpicjhhkdjejaaW.PrintMore Go.Proofs.Ytkpicjhhkdjejaa.Tb Go.Proofs.Ytkpicjhhkdjejaa.PTablePlays
/-- The document's Put and Cut. -/
def dput (l : List Pr) (k : ByteArray) (x : Int) : List Pr := l.filter (fun p => decide (p.f0 ≠ k)) ++ [⟨k, x⟩]
def dcut (l : List Pr) (k : ByteArray) : List Pr := l.filter (fun p => decide (p.f0 ≠ k))
theorem dput_len (l : List Pr) (k : ByteArray) (x : Int) : (dput l k x).length ≤ l.length + 1 := by
  have h1 := List.length_filter_le (fun p : Pr => decide (p.f0 ≠ k)) l
  simp only [dput, List.length_append, List.length_singleton]
  omega
theorem dcut_len (l : List Pr) (k : ByteArray) : (dcut l k).length ≤ l.length := List.length_filter_le _ _
theorem Same.put {m : List (ByteArray × Int)} {l : List Pr} (h : Same m l) (hl : l.length ≤ 4000000000000) (k : ByteArray) (x : Int) : Same (put slt m k x) (dput l k x) := ⟨perm_put h.perm k x, put_srt slt_ord h.srt k x, by have := dput_len l k x; omega⟩
theorem Same.cut {m : List (ByteArray × Int)} {l : List Pr} (h : Same m l) (k : ByteArray) : Same (cut slt m k) (dcut l k) := ⟨perm_cut h.perm k, cut_srt slt_ord h.srt k, by have := dcut_len l k; have := h.len; omega⟩
/-- One table and the document's list beside it. -/
structure OSt (W w : World) (n t : Nat) (m : List (ByteArray × Int)) (l : List Pr) (v : Value) : Prop where
  below : Below W.heap.size W w
  tab : TabSI w W.heap.size (fun k => W.heap.size ≤ k) t m
  row : Kd.R k40 40 w W.heap.size (fun _ => True) v l
  perm : (m.map ofP).Perm l
  len : l.length ≤ n
section
variable {W w w' : World} {n t : Nat} {m : List (ByteArray × Int)} {l : List Pr} {v : Value}
theorem OSt.same (h : OSt W w n t m l v) (hn : n ≤ 4000000000000) : Same m l := ⟨h.perm, h.tab.srt, by have := h.len; omega⟩
theorem OSt.mlen (h : OSt W w n t m l v) : m.length ≤ n := by have := h.perm.length_eq; simp at this; have := h.len; omega
theorem OSt.step_ (h : OSt W w n t m l v) (hb : Below w.heap.size w w') : OSt W w' n t m l v :=
  ⟨below_then h.below h.below.size hb, h.tab.keep (S := fun _ => False) (Upd.of_below hb) (fun _ _ h => h), Kd.R_below h.row hb, h.perm, h.len⟩
theorem OSt.more (h : OSt W w n t m l v) {n' : Nat} (hn : n ≤ n') : OSt W w n' t m l v := ⟨h.below, h.tab, h.row, h.perm, Nat.le_trans h.len hn⟩
/-- The table's own call has gone before the document's. -/
theorem one_put (h : OSt W w n t m l v) (k : ByteArray) (x : Int) (hl : n ≤ 4000000000000) (c : Bool) (hc : c = true ↔ ¬ has m k) :
    Calls Try.prog 9 #[.pointer (some ⟨t, 0, none⟩), .string k, .int .i64 x] w fun e w' => e = .returned (.bool c) ∧ Aside0 (TabSI w' W.heap.size (fun k => W.heap.size ≤ k) t (put slt m k x)) ∧ Aside0 (Kd.R k40 40 w' W.heap.size (fun _ => True) v l) ∧ Aside0 (Below W.heap.size W w') := by
  have hml := h.mlen
  refine (put_SI w W.heap.size t _ m k x h.tab.typed (by omega) (by omega) h.below.size c hc).mono ?_
  rintro e w' ⟨he, hT, hU⟩
  exact ⟨he, ⟨hT.mono (fun k hk => hk.elim (fun h2 => h2.1.1) (fun h2 => Nat.le_trans h.below.size h2))⟩, ⟨row_upd h.row (hU.mono (fun k hk => hk.2))⟩, ⟨h.below.trans (hU.below (fun k hk => hk.1.1) h.below.size)⟩⟩
theorem one_cut (h : OSt W w n t m l v) (k : ByteArray) (hl : n ≤ 4000000000000) (c : Bool) (hc : c = true ↔ has m k) :
    Calls Try.prog 10 #[.pointer (some ⟨t, 0, none⟩), .string k] w fun e w' => e = .returned (.bool c) ∧ Aside0 (TabSI w' W.heap.size (fun k => W.heap.size ≤ k) t (cut slt m k)) ∧ Aside0 (Kd.R k40 40 w' W.heap.size (fun _ => True) v l) ∧ Aside0 (Below W.heap.size W w') := by
  have hml := h.mlen
  refine (cut_SI w W.heap.size t _ m k h.tab.typed (by omega) c hc).mono ?_
  rintro e w' ⟨he, hT, hU⟩
  exact ⟨he, ⟨hT.mono (fun k hk => hk.elim (fun h2 => h2.1.1) (fun h2 => Nat.le_trans h.below.size h2))⟩, ⟨row_upd h.row (hU.mono (fun k hk => hk.2))⟩, ⟨h.below.trans (hU.below (fun k hk => hk.1.1) h.below.size)⟩⟩
/-- The document's Put follows. -/
theorem one_refput (h : Kd.R k40 40 w W.heap.size (fun _ => True) v l) (k : ByteArray) (x : Int) (hl : l.length ≤ 4000000000000) {A : Option Addr} {c : Nat} (hv : v = .slice A l.length c) :
    Calls Try.prog 11 #[.slice A l.length c, .string k, .int .i64 x] w fun e w' => ∃ A' c', e = .returned (.slice A' (dput l k x).length c') ∧ Aside0 (Kd.R k40 40 w' w.heap.size (fun _ => True) (.slice A' (dput l k x).length c') (dput l k x)) ∧ Aside0 (Below w.heap.size w w') := by
  rw [hv] at h
  have h2 := Kd.R_reads' h
  refine (depotref11_Put.calls (l.length + 1) A c l k x _ w h2.2.2 h2.2.1 (ref_put l k x (by omega))).mono ?_
  rintro e w' ⟨v0, he, hR, hb⟩
  obtain ⟨A', c', hv0⟩ := Kd.R_slice hR
  subst hv0
  exact ⟨A', c', he, ⟨hR⟩, ⟨hb⟩⟩
theorem refcut_ (k : ByteArray) {A : Option Addr} {c : Nat} (hC : Kd.C k40 w A l.length l) (hc : l.length ≤ c) (hl : l.length ≤ 4000000000000) :
    Calls Try.prog 17 #[.slice A l.length c, .string k] w fun e w' => ∃ A' c', e = .returned (.slice A' (dcut l k).length c') ∧ Aside0 ((dcut l k).length ≤ c' ∧ Kd.C k40 w' A' (dcut l k).length (dcut l k)) ∧ Aside0 (Below w.heap.size w w') := by
  refine (depotref11_Cut.calls (l.length + 1) A c l k _ w hC hc (ref_cut l k (by omega))).mono ?_
  rintro e w' ⟨v0, he, hR, hb⟩
  obtain ⟨A', c', hv0, hc', hC'⟩ := Kd.R_reads hR
  subst hv0
  exact ⟨A', c', he, ⟨hc', hC'⟩, ⟨hb⟩⟩
theorem sorted_ {A : Option Addr} {c : Nat} (hC : Kd.C k40 w A l.length l) (hc : l.length ≤ c) (hs : Same m l) :
    Calls Try.prog 15 #[.slice A l.length c] w fun e w' => ∃ A' c', e = .returned (.slice A' m.length c') ∧ Aside0 (m.length ≤ c' ∧ Kd.C k40 w' A' m.length (m.map ofP)) ∧ Aside0 (Below w.heap.size w w') := by
  have hln := hs.len
  refine (depotref11_Sorted.calls (2 * l.length + 1) A c l _ w hC hc (ref_sorted m hs.srt l hs.perm (by omega))).mono ?_
  rintro e w' ⟨v0, he, hR, hb⟩
  obtain ⟨A', c', hv0, hc', hC'⟩ := Kd.R_reads hR
  subst hv0
  rw [List.length_map] at hc' hC' he
  exact ⟨A', c', he, ⟨hc', hC'⟩, ⟨hb⟩⟩
theorem texts_ {A A' : Option Addr} {c c' : Nat} (h : m.length ≤ c ∧ Kd.C Kd.string w A m.length (m.map (·.1))) (h' : m.length ≤ c' ∧ Kd.C k40 w A' m.length (m.map ofP)) (hm : m.length ≤ 4000000000000) :
    Calls Try.prog 14 #[.slice A m.length c, .slice A' m.length c'] w fun e w' => e = .returned (.bool true) ∧ Drawn0 w w' := by
  have HC := depotlaw11_texts.calls ((m.map ofP).length + 1) A c (m.map (·.1)) A' c' (m.map ofP) true w
  simp only [List.length_map] at HC
  have HT := ref_texts (m.map (·.1)) (m.map ofP) (by rw [List.length_map]; omega) true (by simp [ofP, Function.comp_def])
  simp only [List.length_map] at HT
  exact HC h.2 h.1 h'.2 h'.1 HT
theorem keys_ {B : Nat} {ok : Nat → Prop} (h : TabSI w B ok t m) (hm : m.length ≤ 4000000000000) :
    Calls Try.prog 12 #[.pointer (some ⟨t, 0, none⟩)] w fun e w' => ∃ A c, e = .returned (.slice A m.length c) ∧ Aside0 (m.length ≤ c ∧ Kd.C Kd.string w' A m.length (m.map (·.1))) ∧ Aside0 (Kd.R Kd.string 9 w' w.heap.size (fun k => w.heap.size ≤ k ∧ k < w'.heap.size) (.slice A m.length c) (m.map (·.1))) ∧ Aside0 (Below w.heap.size w w') := by
  refine (keys_SI w B t ok m h (by omega)).mono ?_
  rintro e w' ⟨v0, he, hown, hb⟩
  have hR : Kd.R Kd.string 9 w' w.heap.size (fun _ => True) v0 (m.map (·.1)) := Kd.R_of_own (h1 := fun _ => rfl) (by
    have hx : encs Value.string (m.map (·.1)) = m.map (fun p => Value.string p.1) := by simp [encs, Function.comp_def]
    rw [List.length_map, hx]; exact hown) (fun _ _ => trivial)
  obtain ⟨A, c, hv0, hc, hC⟩ := Kd.R_reads hR
  subst hv0
  rw [List.length_map] at hc hC he hR
  exact ⟨A, c, he, ⟨hc, hC⟩, ⟨Kd.R_mono (Kd.R_bound hR) (fun k hk => ⟨hk.2.1, hk.2.2.1⟩)⟩, ⟨hb⟩⟩
theorem put_p (x : Int) (p : ByteArray) : put slt ([] : List (ByteArray × Int)) p x = [(p, x)] := by simp [put]
theorem cut_p (x : Int) (p : ByteArray) : cut slt [((p : ByteArray), (x : Int))] p = [] := by simp [cut, slt_ord.irr]
end
end Go.Proofs.Ytkpicjhhkdjejaa
