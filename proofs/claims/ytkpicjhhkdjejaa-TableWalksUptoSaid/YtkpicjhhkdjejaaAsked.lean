import Derived.Test.YtkpicjhhkdjejaaTabSI3
import Derived.Test.YtkpicjhhkdjejaaTbRef
import Derived.Test.YtkpicjhhkdjejaaWMore
set_option linter.unusedVariables false
set_option linter.unusedSimpArgs false
namespace Go.Proofs.Ytkpicjhhkdjejaa
open Go.RowKit Go.Proofs.YtkpicjhhkdjejaaW.PrintWords Go.Proofs.YtkpicjhhkdjejaaW.PrintLast Go.Proofs.YtkpicjhhkdjejaaW.PrintMore Go.Proofs.Ytkpicjhhkdjejaa.Tb Go.Proofs.Ytkpicjhhkdjejaa.PTablePlays
attribute [local go_sem] max2_int min2_int max_two min_two max_three min_three max_four min_four
/-- The table's pairs and the document's list are the same. -/
structure Same (m : List (ByteArray × Int)) (l : List Pr) : Prop where
  perm : (m.map ofP).Perm l
  srt : Srt slt m
  len : l.length ≤ 5000000000000
theorem Same.length {m : List (ByteArray × Int)} {l : List Pr} (h : Same m l) : m.length = l.length := by have := h.perm.length_eq; simpa using this
theorem Same.mem {m : List (ByteArray × Int)} {l : List Pr} (h : Same m l) {p : Pr} (hp : p ∈ l) : (p.f0, p.f1) ∈ m := by
  obtain ⟨q, hq, rfl⟩ := List.mem_map.1 (h.perm.mem_iff.2 hp)
  exact hq
theorem Same.none {m : List (ByteArray × Int)} {l : List Pr} (h : Same m l) {k : ByteArray} (hk : ∀ p ∈ l, p.f0 ≠ k) : ¬ has m k := fun ⟨q, hq, e⟩ => hk (ofP q) (h.perm.mem_iff.1 (List.mem_map_of_mem hq)) e
theorem below_two {a b c : World} (h : Below a.heap.size a b) (k : Below b.heap.size b c) : Below a.heap.size a c := below_then h h.size k
def AskPost (w : World) (e : Ending) (w' : World) : Prop := e = .returned (.bool true) ∧ Below w.heap.size w w'
theorem below_of_drawn {w w' : World} (h : Drawn0 w w') : Below w.heap.size w w' := h.below
set_option maxHeartbeats 2000000 in
set_option maxRecDepth 100000 in
theorem asked_get (w : World) (base t : Nat) (ok : Nat → Prop) (m : List (ByteArray × Int)) (l : List Pr) (A : Option Addr) (c : Nat) (x0 x3 : Int) (k : ByteArray) (h : TabSI w base ok t m) (hC : Kd.C k40 w A l.length l) (hc : l.length ≤ c) (hs : Same m l) :
    Calls Try.prog 31 #[.pointer (some ⟨t, 0, none⟩), .slice A l.length c, .agg #[.int .i64 x0, .int .i64 1, .string k, .int .i64 x3]] w (AskPost w) := by
  have htl : t < w.heap.size := by obtain ⟨kv, vv, ht, _⟩ := h; exact blk_lt ht
  obtain ⟨r, hr, hcase⟩ := ref_find l k (by have := hs.len; omega)
  have hln := hs.len
  have hml := hs.length
  have hmb : m.length < 2305843009213693952 := by omega
  obtain ⟨W1, hW1⟩ : ∃ W1, W1 = w.alloc (.cells #[.int .i64 x0, .int .i64 1, .string k, .int .i64 x3] 60) := ⟨_, rfl⟩
  have H1 : Aside0 (TabSI W1 base ok t m) := ⟨by rw [hW1]; exact h.keep (Upd.alloc (S := fun _ => False) _ _) (fun _ _ h => h)⟩
  have C1 : Aside0 (Kd.C k40 W1 A l.length l) := ⟨by rw [hW1]; exact Kd.C_alloc hC _⟩
  have B1 : Aside0 (Below w.heap.size w W1) := ⟨by rw [hW1]; exact below_alloc0 _ _⟩
  have OB : W1.heap[w.heap.size]? = some (.cells #[.int .i64 x0, .int .i64 1, .string k, .int .i64 x3] 60 (0, 0)) := by rw [hW1]; exact heap_alloc_new w _
  have o1 : W1.cell? ⟨w.heap.size, 1, none⟩ = some (.int .i64 1) := (blk_cell OB 1).trans rfl
  have o2 : W1.cell? ⟨w.heap.size, 2, none⟩ = some (.string k) := (blk_cell OB 2).trans rfl
  clear OB
  have HS := Aside0.mk hs
  have HR := Aside0.mk hr
  have HCC := Aside0.mk hc
  rcases hcase with ⟨i, p, rfl, hp, hpk⟩ | ⟨rfl, hno⟩
  · have hpm := hs.mem (List.mem_iff_getElem?.2 ⟨i, hp⟩)
    rw [hpk] at hpm
    have hil := (List.getElem?_eq_some_iff.1 hp).1
    obtain ⟨ad, hA, hx0, hx1⟩ := at_T40 hC (i : Int) (by omega) (by omega)
    have hrp : rd_T40 l (i : Int) = p := by rw [rdP hil]; rw [List.getElem?_eq_getElem hil] at hp; exact Option.some.inj hp
    rw [hrp] at hx1
    simp only [Int.toNat_natCast] at hx1
    have HX : Aside0 (∀ q, (W1.drewN q).cell? ⟨(ad.add (i * 2)).block, (ad.add (i * 2)).off + 1, none⟩ = some (.int .i64 p.f1)) := ⟨fun q => by rw [hW1]; exact pw_cell_below (below_alloc0 w _) hx1⟩
    have HP := Aside0.mk hpm
    subst hA
    have p0 : (0 : Int) ≤ (i : Int) := by omega
    have p1 : (i : Int) < (l.length : Int) := by omega
    have pd : decide ((0 : Int) ≤ (i : Int)) = true := by simp
    have pm : decide ((i : Int) < 0) = false := by simp
    clear h hC hs hr hc hp hpm hrp hx0 hx1 hpk hml
    go_enter Try.func31, Try.ntmps31
    go_wp2_with fail
    rw [← hW1]
    clear hW1
    (with_reducible refine (getold_SI W1 base t ok m k p.f1 H1.out HP.out hmb).mono ?_)
    rintro e w2 ⟨rfl, hd⟩
    obtain ⟨q, rfl⟩ := hd.out
    have CC := Aside0.mk (Kd.C_drewN C1.out q)
    go_wp2_with fail
    (with_reducible refine (depotref11_Find.calls (l.length + 1) (some ad) c l k _ _ CC.out HCC.out HR.out).mono ?_)
    rintro e w3 ⟨rfl, hd2⟩
    obtain ⟨q2, rfl⟩ := hd2.out
    have HX' : W1.cell? ⟨(ad.add (i * 2)).block, (ad.add (i * 2)).off + 1, none⟩ = some (.int .i64 p.f1) := HX.out 0
    go_wp2_with fail
    go_ret
    exact ⟨rfl, below_then B1.out B1.out.size (pw_below_drewN (Below.refl _ _) _)⟩
  · have HN := Aside0.mk (hs.none hno)
    clear h hC hs hr hc hno hml
    go_enter Try.func31, Try.ntmps31
    go_wp2_with fail
    rw [← hW1]
    clear hW1
    (with_reducible refine (getnone_SI W1 base t ok m k H1.out HN.out hmb).mono ?_)
    rintro e w2 ⟨rfl, hd⟩
    obtain ⟨q, rfl⟩ := hd.out
    have CC := Aside0.mk (Kd.C_drewN C1.out q)
    go_wp2_with fail
    (with_reducible refine (depotref11_Find.calls (l.length + 1) A c l k _ _ CC.out HCC.out HR.out).mono ?_)
    rintro e w3 ⟨rfl, hd2⟩
    obtain ⟨q2, rfl⟩ := hd2.out
    go_wp2_with fail
    go_ret
    exact ⟨rfl, below_then B1.out B1.out.size (pw_below_drewN (Below.refl _ _) _)⟩
set_option maxHeartbeats 2000000 in
set_option maxRecDepth 100000 in
theorem asked_rank (w : World) (base t : Nat) (ok : Nat → Prop) (m : List (ByteArray × Int)) (l : List Pr) (A : Option Addr) (c : Nat) (x0 x3 : Int) (k : ByteArray)  (h : TabSI w base ok t m) (hC : Kd.C k40 w A l.length l) (hc : l.length ≤ c) (hs : Same m l) :
    Calls Try.prog 31 #[.pointer (some ⟨t, 0, none⟩), .slice A l.length c, .agg #[.int .i64 x0, .int .i64 3, .string k, .int .i64 x3]] w (AskPost w) := by
  have htl : t < w.heap.size := by obtain ⟨kv, vv, ht, _⟩ := h; exact blk_lt ht
  have hln := hs.len
  have hml := hs.length
  have hmb : m.length < 2305843009213693952 := by omega
  obtain ⟨W1, hW1⟩ : ∃ W1, W1 = w.alloc (.cells #[.int .i64 x0, .int .i64 3, .string k, .int .i64 x3] 60) := ⟨_, rfl⟩
  have H1 : Aside0 (TabSI W1 base ok t m) := ⟨by rw [hW1]; exact h.keep (Upd.alloc (S := fun _ => False) _ _) (fun _ _ h => h)⟩
  have C1 : Aside0 (Kd.C k40 W1 A l.length l) := ⟨by rw [hW1]; exact Kd.C_alloc hC _⟩
  have B1 : Aside0 (Below w.heap.size w W1) := ⟨by rw [hW1]; exact below_alloc0 _ _⟩
  have OB : W1.heap[w.heap.size]? = some (.cells #[.int .i64 x0, .int .i64 3, .string k, .int .i64 x3] 60 (0, 0)) := by rw [hW1]; exact heap_alloc_new w _
  have o1 : W1.cell? ⟨w.heap.size, 1, none⟩ = some (.int .i64 3) := (blk_cell OB 1).trans rfl
  have o2 : W1.cell? ⟨w.heap.size, 2, none⟩ = some (.string k) := (blk_cell OB 2).trans rfl
  have o3 : W1.cell? ⟨w.heap.size, 3, none⟩ = some (.int .i64 x3) := (blk_cell OB 3).trans rfl
  have HOB := Aside0.mk OB
  clear OB
  have HS := Aside0.mk hs
  have HCC := Aside0.mk hc
  clear h hC hs hc
  have HR := Aside0.mk (ref_rank l k (by omega) (l.length + 1) (by omega))
  rw [rank_ref HS.out.perm] at HR
  obtain ⟨b, hb⟩ : ∃ b : Bool, b = true ↔ has m k := by classical exact ⟨decide (has m k), by simp⟩
  have HB := Aside0.mk hb
  clear hb hml
  generalize hrk : rank slt m k = r at HR
  have HRK := Aside0.mk hrk
  clear hrk
  go_enter Try.func31, Try.ntmps31
  go_wp2_with fail
  rw [← hW1]
  clear hW1
  go_quiet ((first
    | (go_at_call 42; exact Calls.quiet_of ((rank_SI _ base t ok m k (H1.out.keep (Upd.drewN (S := fun _ => False) _ _) (fun _ _ h => h)) hmb b HB.out).mono (fun _ _ h => ⟨by rw [HRK.out] at h; exact h.1, h.2.out⟩)))
    | (go_at_call 19; exact Calls.quiet_of ((depotref11_Rank.calls (l.length + 1) A c l k _ _ (Kd.C_drewN C1.out _) HCC.out HR.out).mono (fun _ _ h => ⟨h.1, h.2.out⟩)))))
  go_wp2
  go_ret
  exact ⟨rfl, below_then B1.out B1.out.size (pw_below_drewN (Below.refl _ _) _)⟩
set_option maxHeartbeats 2000000 in
set_option maxRecDepth 100000 in
theorem asked_at (w : World) (base t : Nat) (ok : Nat → Prop) (m : List (ByteArray × Int)) (l : List Pr) (A : Option Addr) (c : Nat) (x0 x3 : Int) (k : ByteArray)  (h : TabSI w base ok t m) (hC : Kd.C k40 w A l.length l) (hc : l.length ≤ c) (hs : Same m l) :
    Calls Try.prog 31 #[.pointer (some ⟨t, 0, none⟩), .slice A l.length c, .agg #[.int .i64 x0, .int .i64 4, .string k, .int .i64 x3]] w (AskPost w) := by
  have htl : t < w.heap.size := by obtain ⟨kv, vv, ht, _⟩ := h; exact blk_lt ht
  have hln := hs.len
  have hml := hs.length
  have hmb : m.length < 2305843009213693952 := by omega
  obtain ⟨W1, hW1⟩ : ∃ W1, W1 = w.alloc (.cells #[.int .i64 x0, .int .i64 4, .string k, .int .i64 x3] 60) := ⟨_, rfl⟩
  have H1 : Aside0 (TabSI W1 base ok t m) := ⟨by rw [hW1]; exact h.keep (Upd.alloc (S := fun _ => False) _ _) (fun _ _ h => h)⟩
  have C1 : Aside0 (Kd.C k40 W1 A l.length l) := ⟨by rw [hW1]; exact Kd.C_alloc hC _⟩
  have B1 : Aside0 (Below w.heap.size w W1) := ⟨by rw [hW1]; exact below_alloc0 _ _⟩
  have OB : W1.heap[w.heap.size]? = some (.cells #[.int .i64 x0, .int .i64 4, .string k, .int .i64 x3] 60 (0, 0)) := by rw [hW1]; exact heap_alloc_new w _
  have o1 : W1.cell? ⟨w.heap.size, 1, none⟩ = some (.int .i64 4) := (blk_cell OB 1).trans rfl
  have o2 : W1.cell? ⟨w.heap.size, 2, none⟩ = some (.string k) := (blk_cell OB 2).trans rfl
  have o3 : W1.cell? ⟨w.heap.size, 3, none⟩ = some (.int .i64 x3) := (blk_cell OB 3).trans rfl
  have HOB := Aside0.mk OB
  clear OB
  have HS := Aside0.mk hs
  have HCC := Aside0.mk hc
  clear h hC hs hc
  clear hml
  by_cases hin : x3 < 0 ∨ (m.length : Int) ≤ x3
  · have HA := Aside0.mk (atout_SI W1 base t ok m x3 H1.out hin)
    have hll : (m.length : Int) = (l.length : Int) := by have := HS.out.length; omega
    rw [hll] at hin
    clear hll
    by_cases hneg : x3 < 0
    all_goals first
      | have hd : decide (x3 < 0) = true := by simpa using hneg
      | (have hd : decide (x3 < 0) = false := by simpa using hneg
         have hge : (l.length : Int) ≤ x3 := by omega)
    all_goals
      clear hin hneg
      go_enter Try.func31, Try.ntmps31
      go_wp2_with fail
      rw [← hW1]
      clear hW1
      (with_reducible refine (HA.out).mono ?_)
      rintro e w2 ⟨rfl, rfl⟩
      go_wp2_with fail
      go_ret
      exact ⟨rfl, B1.out⟩
  · obtain ⟨i, rfl⟩ : ∃ i : Nat, x3 = (i : Int) := ⟨x3.toNat, by omega⟩
    have him : i < m.length := by omega
    obtain ⟨⟨key, y⟩, hp⟩ : ∃ p, m[i]? = some p := ⟨_, List.getElem?_eq_getElem him⟩
    have HA := Aside0.mk (atin_SI W1 base t ok m i (key, y) H1.out hp)
    have HSO := Aside0.mk (ref_sorted m HS.out.srt l HS.out.perm (by omega))
    have hil : (i : Int) < (l.length : Int) := by have := HS.out.length; omega
    have hi0 : (0 : Int) ≤ (i : Int) := by omega
    have hd : decide ((i : Int) < 0) = false := by simp
    have hd2 : decide ((l.length : Int) ≤ (i : Int)) = false := by simp; omega
    have HP := Aside0.mk hp
    clear hin hp
    go_enter Try.func31, Try.ntmps31
    go_wp2_with fail
    rw [← hW1]
    clear hW1
    (with_reducible refine HA.out.mono ?_)
    clear HA
    rintro e w2 ⟨rfl, hd⟩
    obtain ⟨q, rfl⟩ := hd.out
    clear hd
    go_wp2_with fail
    have CC := Aside0.mk (Kd.C_drewN C1.out q)
    have hq3 : (W1.drewN q).cell? ⟨w.heap.size, 3, none⟩ = some (.int .i64 (i : Int)) := o3
    obtain ⟨W2, hW2⟩ : ∃ W2, W2 = W1.drewN q := ⟨_, rfl⟩
    rw [← hW2] at CC hq3 ⊢
    have B2 : Aside0 (Below w.heap.size w W2) := ⟨by rw [hW2]; exact pw_below_drewN B1.out _⟩
    have hz2 : w.heap.size < W2.heap.size := by rw [hW2]; exact blk_lt HOB.out
    clear hW2 o1 o2 o3
    have HZ : (W2.drew.alloc (.cells #[.string ⟨#[]⟩, .int .i64 0] 40)).heap[W2.heap.size]? = some (.cells #[.string ⟨#[]⟩, .int .i64 0] 40 (0, 0)) := heap_alloc_new W2.drew _
    have HZ0 := Aside0.mk ((blk_cell HZ 0).trans rfl)
    have HZ1 := Aside0.mk ((blk_cell HZ 1).trans rfl)
    have HZB := Aside0.mk HZ
    clear HZ
    have hq3' := fun o => pw_cell_below (below_alloc0 W2 o) hq3
    have HRP : Aside0 (rd_T40 (m.map ofP) (i : Int) = ofP (key, y)) := ⟨by unfold rd_T40; rw [Int.toNat_natCast, List.getD_eq_getElem?_getD, List.getElem?_map, HP.out]; rfl⟩
    have HCW : Aside0 (∀ W, Below W2.heap.size W2 W → Kd.C k40 W A l.length l) := ⟨fun W hb => Kd.C_below CC.out hb⟩
    have HQW : Aside0 (∀ W, Below W2.heap.size W2 W → W.cell? ⟨w.heap.size, 3, none⟩ = some (.int .i64 (i : Int))) := ⟨fun W hb => pw_cell_below hb hq3⟩
    have hbW : Below W2.heap.size W2 W2.drew := below_drew (Below.refl _ _)
    have hbV : Below W2.heap.size W2 (W2.drew.alloc (.cells #[.string ⟨#[]⟩, .int .i64 0] 40)) := below_alloc (below_drew (Below.refl _ _)) _
    go_region_with ((go_at_call 15; refine (depotref11_Sorted.calls (2 * l.length + 1) A c l _ _ (HCW.out _ (by assumption)) HCC.out HSO.out).mono ?_; rintro e w3 ⟨v3, rfl, hR3, hb3⟩; obtain ⟨A3, c3, rfl, hc3, hC3⟩ := Kd.R_reads hR3; rw [List.length_map] at hC3; obtain ⟨ad3, hA3, hx0, hx1⟩ := at_T40 hC3 (i : Int) (by omega) (by omega); cases hA3; have hbw3 := below_two (by assumption : Below W2.heap.size W2 _) hb3; have hc3w := HQW.out w3 hbw3; have hc3w' := fun o => pw_cell_below (below_alloc0 w3 o) hc3w; rw [HRP.out] at hx0 hx1; simp only [ofP] at hx0 hx1; have hx0' := fun o => pw_cell_below (below_alloc0 w3 o) hx0; have hx1' := fun o => pw_cell_below (below_alloc0 w3 o) hx1; simp only [Int.toNat_natCast] at hx0 hx1 hx0' hx1'; try (have ha := (hb3.block W2.heap.size (by simp)).trans HZB.out; have ha0 := (blk_cell ha 0).trans rfl; have ha1 := (blk_cell ha 1).trans rfl; have hf0 := blk_frozen ha 0; have hf1 := blk_frozen ha 1; clear ha)))
    all_goals
      go_wp2
      go_ret
      first
        | exact ⟨rfl, below_alloc (below_two B2.out hbw3) _⟩
        | exact ⟨rfl, ((below_two B2.out hbw3).setCell (Nat.le_of_lt (Nat.lt_of_le_of_lt (Nat.le_refl _) hz2)) _).setCell (Nat.le_of_lt (Nat.lt_of_le_of_lt (Nat.le_refl _) hz2)) _⟩
set_option maxHeartbeats 2000000 in
set_option maxRecDepth 100000 in
theorem asked_keys (w : World) (base t : Nat) (ok : Nat → Prop) (m : List (ByteArray × Int)) (l : List Pr) (A : Option Addr) (c : Nat) (x0 x3 : Int) (k : ByteArray)  (h : TabSI w base ok t m) (hC : Kd.C k40 w A l.length l) (hc : l.length ≤ c) (hs : Same m l) :
    Calls Try.prog 31 #[.pointer (some ⟨t, 0, none⟩), .slice A l.length c, .agg #[.int .i64 x0, .int .i64 5, .string k, .int .i64 x3]] w (AskPost w) := by
  have htl : t < w.heap.size := by obtain ⟨kv, vv, ht, _⟩ := h; exact blk_lt ht
  have hln := hs.len
  have hml := hs.length
  have hmb : m.length < 2305843009213693952 := by omega
  obtain ⟨W1, hW1⟩ : ∃ W1, W1 = w.alloc (.cells #[.int .i64 x0, .int .i64 5, .string k, .int .i64 x3] 60) := ⟨_, rfl⟩
  have H1 : Aside0 (TabSI W1 base ok t m) := ⟨by rw [hW1]; exact h.keep (Upd.alloc (S := fun _ => False) _ _) (fun _ _ h => h)⟩
  have C1 : Aside0 (Kd.C k40 W1 A l.length l) := ⟨by rw [hW1]; exact Kd.C_alloc hC _⟩
  have B1 : Aside0 (Below w.heap.size w W1) := ⟨by rw [hW1]; exact below_alloc0 _ _⟩
  have OB : W1.heap[w.heap.size]? = some (.cells #[.int .i64 x0, .int .i64 5, .string k, .int .i64 x3] 60 (0, 0)) := by rw [hW1]; exact heap_alloc_new w _
  have o1 : W1.cell? ⟨w.heap.size, 1, none⟩ = some (.int .i64 5) := (blk_cell OB 1).trans rfl
  have o2 : W1.cell? ⟨w.heap.size, 2, none⟩ = some (.string k) := (blk_cell OB 2).trans rfl
  have o3 : W1.cell? ⟨w.heap.size, 3, none⟩ = some (.int .i64 x3) := (blk_cell OB 3).trans rfl
  have HOB := Aside0.mk OB
  clear OB
  have HS := Aside0.mk hs
  have HCC := Aside0.mk hc
  clear h hC hs hc
  clear hml
  have HSO := Aside0.mk (ref_sorted m HS.out.srt l HS.out.perm (by omega))
  have HTX := Aside0.mk (ref_texts (m.map (·.1)) (m.map ofP) (by rw [List.length_map, HS.out.length]; omega) true (by simp [ofP, Function.comp_def]))
  have hmk : m.length * 16 ≤ 140737488355328 := by have := HS.out.length; omega
  have hlm : ((m.length : Int) == (l.length : Int)) = true := by have := HS.out.length; simp [this]
  go_enter Try.func31, Try.ntmps31
  go_wp2_with fail
  rw [← hW1]
  clear hW1
  (with_reducible refine (len_SI W1 base t ok m H1.out).mono ?_)
  rintro e w2 ⟨rfl, rfl⟩
  go_wp2_with fail
  (with_reducible refine (keys_SI W1 base t ok m H1.out hmk).mono ?_)
  rintro e w2 ⟨v, rfl, hown, hb⟩
  have hR : Kd.R Kd.string 9 w2 W1.heap.size (fun _ => True) v (m.map (·.1)) := Kd.R_of_own (h1 := fun _ => rfl) (by
    have hx : encs Value.string (m.map (·.1)) = m.map (fun p => Value.string p.1) := by simp [encs, Function.comp_def]
    rw [List.length_map, hx]; exact hown) (fun _ _ => trivial)
  obtain ⟨A2, c2, rfl, hc2, hC2⟩ := Kd.R_reads hR
  have HK := Aside0.mk (And.intro hc2 hC2)
  have HB2 := Aside0.mk hb
  have CC := Aside0.mk (Kd.C_below C1.out hb)
  clear hR hown hb hc2 hC2
  go_wp2_with fail
  (with_reducible refine (depotref11_Sorted.calls (2 * l.length + 1) A c l _ _ CC.out HCC.out HSO.out).mono ?_)
  rintro e w3 ⟨v3, rfl, hR3, hb3⟩
  obtain ⟨A3, c3, rfl, hc3, hC3⟩ := Kd.R_reads hR3
  have HK3 := Aside0.mk (And.intro hc3 hC3)
  have HB3 := Aside0.mk hb3
  have HK2 := Aside0.mk (Kd.C_below HK.out.2 hb3)
  clear hR3 hb3 hc3 hC3
  go_wp2_with fail
  have HC := depotlaw11_texts.calls ((m.map ofP).length + 1) A2 c2 (m.map (·.1)) A3 c3 (m.map ofP) true w3 HK2.out HK.out.1 HK3.out.2 HK3.out.1 HTX.out
  simp only [List.length_map] at HC
  (with_reducible refine HC.mono ?_)
  clear HC
  rintro e w4 ⟨rfl, hd⟩
  obtain ⟨q, rfl⟩ := hd.out
  go_wp2_with fail
  go_ret
  exact ⟨rfl, pw_below_drewN (below_then (below_then B1.out B1.out.size HB2.out) (Nat.le_trans B1.out.size HB2.out.size) HB3.out) _⟩
set_option maxHeartbeats 2000000 in
set_option maxRecDepth 100000 in
theorem asked_other (w : World) (base t : Nat) (ok : Nat → Prop) (m : List (ByteArray × Int)) (l : List Pr) (A : Option Addr) (c : Nat) (x0 x1 x3 : Int) (k : ByteArray) (h1 : x1 ≠ 1) (h3 : x1 ≠ 3) (h4 : x1 ≠ 4) (h5 : x1 ≠ 5) (h : TabSI w base ok t m) (hC : Kd.C k40 w A l.length l) (hc : l.length ≤ c) (hs : Same m l) :
    Calls Try.prog 31 #[.pointer (some ⟨t, 0, none⟩), .slice A l.length c, .agg #[.int .i64 x0, .int .i64 x1, .string k, .int .i64 x3]] w (AskPost w) := by
  have htl : t < w.heap.size := by obtain ⟨kv, vv, ht, _⟩ := h; exact blk_lt ht
  have hln := hs.len
  have hml := hs.length
  have hmb : m.length < 2305843009213693952 := by omega
  obtain ⟨W1, hW1⟩ : ∃ W1, W1 = w.alloc (.cells #[.int .i64 x0, .int .i64 x1, .string k, .int .i64 x3] 60) := ⟨_, rfl⟩
  have H1 : Aside0 (TabSI W1 base ok t m) := ⟨by rw [hW1]; exact h.keep (Upd.alloc (S := fun _ => False) _ _) (fun _ _ h => h)⟩
  have C1 : Aside0 (Kd.C k40 W1 A l.length l) := ⟨by rw [hW1]; exact Kd.C_alloc hC _⟩
  have B1 : Aside0 (Below w.heap.size w W1) := ⟨by rw [hW1]; exact below_alloc0 _ _⟩
  have OB : W1.heap[w.heap.size]? = some (.cells #[.int .i64 x0, .int .i64 x1, .string k, .int .i64 x3] 60 (0, 0)) := by rw [hW1]; exact heap_alloc_new w _
  have o1 : W1.cell? ⟨w.heap.size, 1, none⟩ = some (.int .i64 x1) := (blk_cell OB 1).trans rfl
  have o2 : W1.cell? ⟨w.heap.size, 2, none⟩ = some (.string k) := (blk_cell OB 2).trans rfl
  have o3 : W1.cell? ⟨w.heap.size, 3, none⟩ = some (.int .i64 x3) := (blk_cell OB 3).trans rfl
  have HOB := Aside0.mk OB
  clear OB
  have HS := Aside0.mk hs
  have HCC := Aside0.mk hc
  clear h hC hs hc
  clear hml
  have e1 : (x1 == 1) = false := by simpa using h1
  have e3 : (x1 == 3) = false := by simpa using h3
  have e4 : (x1 == 4) = false := by simpa using h4
  have e5 : (x1 == 5) = false := by simpa using h5
  clear h1 h3 h4 h5
  go_enter Try.func31, Try.ntmps31
  go_wp2_with fail
  rw [← hW1]
  go_ret
  exact ⟨rfl, B1.out⟩
end Go.Proofs.Ytkpicjhhkdjejaa
