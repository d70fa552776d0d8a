import Derived.Test.YtnemeeidomceiaaDoorProg
import Derived.Test.YtnemeeidomceiaaDoorSlBase
import Derived.Deep.RegionLaw
import Derived.Lib.Hide
namespace Go.Proofs.YtnemeeidomceiaaDoor
open Go.RowKit
set_option linter.unusedVariables false
set_option linter.unusedSimpArgs false
/-- What slices.Insert of one element leaves. -/
def InsertedEnt (w : World) (base : Nat) (v : Value) (n : Nat) (cs' : List Value) (e : Ending) (w' : World) : Prop :=
  ∃ v', e = .returned v' ∧ w'.ownsRow base 63 5 v' (n + 1) cs' ∧ w.grownBy w' v.ownBlock ∧ (v'.ownBlock = v.ownBlock ∨ v'.ownBlock = some w.heap.size)
theorem infoEnt : (Tryd.prog.info? 63).map (fun i => (i.zero, i.size, i.bytes)) = some (some (.agg #[.string ⟨#[]⟩, .int .i64 0, .bool false, .string ⟨#[]⟩, .slice none 0 0]), 5, 72) := by kernel_rfl
set_option maxHeartbeats 1000000 in
set_option maxRecDepth 100000 in
theorem insertEnt_end (base n : Nat) (v : Value) (cs : List Value) (vb : Nat) (x : List Value) (w : World) (hown : w.ownsRow base 63 5 v n cs) (hx : x.length = 5)
    (hxc : ∀ j u, x[j]? = some u → w.cell? ⟨vb, j, none⟩ = some u) (h1 : ∀ u ∈ x, u.oneCell' = true) (hb : (n + 1) * 72 ≤ 140737488355328) (hbase : base ≤ w.heap.size) :
    Calls Tryd.prog 49 #[v, .int .i64 n, .slice (some ⟨vb, 0, none⟩) 1 1] w (InsertedEnt w base v n (cs ++ x)) := by
  obtain ⟨i0, hi, hz0, hz1, hz2⟩ := info_parts infoEnt
  have hn63 : n ≤ 9223372036854775807 := by omega
  have hnews : ∀ j u, x[j]? = some u → w.cell? ((⟨vb, 0, none⟩ : Addr).add j) = some u := fun j u hj => by rw [Addr.add_lit, Nat.zero_add]; exact hxc j u hj
  have HN := Lib.hid hnews
  have HX := Lib.hid hx
  have HO := Lib.hid hown
  have hmax : n + 1 ≤ maxLen := by unfold maxLen; omega
  clear hxc hx hnews
  rcases hown.2 with ⟨rfl, rfl⟩ | ⟨g, cap, cur, rfl, hbg, hg, hnc, hcm, hcs, htake⟩
  · clear hown
    go_enter Tryd.func49, Tryd.ntmps49
    go_wp2_with (at_builtin; refine wpList_append_own_at _ rfl _ _ 30 rfl base 63 i0 _ 5 72 Tryd.underlying30 hi hz0 hz1 hz2 rfl (by decide) _ 0 cs rfl HO.out ⟨vb, 0, none⟩ 1 1 x rfl (by rw [HX.out]) HN.out h1 hmax hb hbase ?_; intro v' w1 hown' hg' hnil' hat')
    go_ret
    exact ⟨v', rfl, hown', hg', hat'⟩
  · have hcm' : cap ≤ 9223372036854775807 := by unfold maxLen at hcm; omega
    clear hown hcs htake hg hcm
    go_enter Tryd.func49, Tryd.ntmps49
    go_wp2_with (at_builtin; refine wpList_append_own_at _ rfl _ _ 30 rfl base 63 i0 _ 5 72 Tryd.underlying30 hi hz0 hz1 hz2 rfl (by decide) _ n cs rfl HO.out ⟨vb, 0, none⟩ 1 1 x rfl (by rw [HX.out]) HN.out h1 hmax hb hbase ?_; intro v' w1 hown' hg' hnil' hat')
    all_goals
      go_ret
      exact ⟨v', rfl, hown', hg', hat'⟩
theorem slotEnt (l x : List Value) (i n : Nat) (hi : i < n) (hl : (n + 1) * 5 ≤ l.length) (hx : x.length = 5) :
    ((l.take ((i + 1) * 5) ++ (l.drop (i * 5)).take ((n - i) * 5) ++ l.drop ((n + 1) * 5)).take (i * 5) ++ x ++ (l.take ((i + 1) * 5) ++ (l.drop (i * 5)).take ((n - i) * 5) ++ l.drop ((n + 1) * 5)).drop (i * 5 + 5)).take ((n + 1) * 5)
      = (l.take (n * 5)).take (i * 5) ++ x ++ (l.take (n * 5)).drop (i * 5) := by
  apply List.ext_getElem?
  intro j
  simp only [List.getElem?_take, List.getElem?_append, List.getElem?_drop, List.length_append, List.length_take, List.length_drop, hx]
  grind
set_option maxHeartbeats 2000000 in
set_option maxRecDepth 100000 in
theorem insertEnt_room (base n c i g : Nat) (cur : Array Value) (vb : Nat) (x : List Value) (w : World) (hbg : base ≤ g) (hg : w.heap[g]? = some (.cells cur 63 (0, 0))) (hcm : c ≤ maxLen) (hcs : cur.size = c * 5) (hi : i < n) (hroom : n + 1 ≤ c) (hx : x.length = 5)
    (hv : w.heap[vb]? = some (.cells x.toArray 63 (0, 0))) (hvb : vb ≠ g) (h1 : ∀ u ∈ x, u.oneCell' = true) (h1c : ∀ u ∈ cur.toList.take (n * 5), u.oneCell' = true) :
    Calls Tryd.prog 49 #[.slice (some ⟨g, 0, none⟩) n c, .int .i64 i, .slice (some ⟨vb, 0, none⟩) 1 1] w
      (InsertedEnt w base (.slice (some ⟨g, 0, none⟩) n c) n ((cur.toList.take (n * 5)).take (i * 5) ++ x ++ (cur.toList.take (n * 5)).drop (i * 5))) := by
  have hcm' : c ≤ 9223372036854775807 := by unfold maxLen at hcm; omega
  have hsz : (Tryd.prog.info? 63).map (·.size) = some 5 := by kernel_rfl
  have hszf : ∀ w, (Go.sizeOf 63).run Tryd.prog w = .ok 5 w := fun _ => by kernel_rfl
  obtain ⟨cur1, hcur1⟩ : ∃ c1 : Array Value, c1 = (cur.toList.take ((i + 1) * 5) ++ (cur.toList.drop (i * 5)).take ((n - i) * 5) ++ cur.toList.drop ((n + 1) * 5)).toArray := ⟨_, rfl⟩
  have hl1 : cur1.size = c * 5 := by rw [hcur1]; simp; omega
  have hdl : ((cur.toList.drop (i * 5)).take ((n - i) * 5)).length = (n - i) * 5 := by simp; omega
  have hcp1 : ∀ W : World, W.heap[g]? = some (.cells cur 63 (0, 0)) → ∀ ty dc sc, (Builtin.copy_ #[30, 30] ty #[.slice (some ⟨g, (i + 1) * 5, none⟩) (n + 1 - (i + 1)) dc, .slice (some ⟨g, i * 5, none⟩) (n + 1 - i) sc]).run Tryd.prog W = .ok (goInt (Nat.min (n + 1 - i) (n + 1 - (i + 1)))) (W.setRow g cur1) := fun W hW ty dc sc => by
    rw [copy_row W 30 30 ty 63 5 g ((i + 1) * 5) (n + 1 - (i + 1)) dc ⟨g, i * 5, none⟩ (n + 1 - i) sc cur 63 ((cur.toList.drop (i * 5)).take ((n - i) * 5)) Tryd.underlying30 hsz hW
      (by rw [hdl]; simp only [Nat.min_def]; split <;> omega)
      (fun j u hj => by
        rw [Addr.add_lit, cell_of_row W g _ cur _ _ hW]
        rw [List.getElem?_take] at hj
        split at hj
        · rw [List.getElem?_drop] at hj; simpa using hj
        · cases hj)
      (by rw [hdl]; omega)
      (fun u hu => h1c u (by
        obtain ⟨j, hj⟩ := List.mem_iff_getElem?.1 hu
        rw [List.getElem?_take, List.getElem?_drop] at hj
        split at hj
        · exact List.mem_iff_getElem?.2 ⟨i * 5 + j, by rw [List.getElem?_take, if_pos (by omega)]; exact hj⟩
        · cases hj)), hdl, hcur1, show (i + 1) * 5 + (n - i) * 5 = (n + 1) * 5 by omega]
  have hcp2 : ∀ W : World, W.heap[g]? = some (.cells cur1 63 (0, 0)) → W.heap[vb]? = some (.cells x.toArray 63 (0, 0)) → ∀ ty dc, (Builtin.copy_ #[30, 30] ty #[.slice (some ⟨g, i * 5, none⟩) (n + 1 - i) dc, .slice (some ⟨vb, 0, none⟩) 1 1]).run Tryd.prog W = .ok (goInt (Nat.min 1 (n + 1 - i))) (W.setRow g (cur1.toList.take (i * 5) ++ x ++ cur1.toList.drop (i * 5 + 5)).toArray) := fun W hW hV ty dc => by
    rw [copy_row W 30 30 ty 63 5 g (i * 5) (n + 1 - i) dc ⟨vb, 0, none⟩ 1 1 cur1 63 x Tryd.underlying30 hsz hW
      (by rw [hx]; simp only [Nat.min_def]; split <;> omega)
      (fun j u hj => by rw [Addr.add_lit, cell_of_row W vb _ _ _ _ hV]; simpa using hj)
      (by rw [hx, hl1]; omega) h1, hx]
  have hov : ∀ lb cb, (callFunc 67 #[.slice (some ⟨vb, 0, none⟩) 1 1, .slice (some ⟨g, (i + 1) * 5, none⟩) lb cb]).run Tryd.prog w = .ok (.value (.bool false)) w := fun lb cb => by
    rw [run_callFunc_extern Tryd.func67 (by kernel_rfl) (by kernel_rfl) (by kernel_rfl) (e := Extern.SlicesOverlaps.overlaps #[30, 30] #[4]) (by kernel_rfl),
      Lib.run_overlaps_apart w 30 4 63 Tryd.underlying30 5 hszf ⟨vb, 0, none⟩ ⟨g, (i + 1) * 5, none⟩ 1 1 lb cb hvb 63 63 x.length cur.size (by simp [World.shape?, hv]) (by simp [World.shape?, hg]) (by rw [hcs]; omega)
        (by simp [World.frozen?, hv]) (by simp [World.frozen?, hv])]
    rfl
  have HX := Lib.hid hx
  have HF := Lib.hid (And.intro hg (And.intro hv (And.intro hl1 (And.intro hcur1 hcs))))
  have hb2 : ¬ (c = i + 1) := by omega
  have hb4 : ¬ (c = i) := by omega
  have hin : ¬ ((i : Int) = (n : Int)) := by omega
  have hi64 : IntKind.i64.wrap ((i : Int) + 1) = (i : Int) + 1 := by rw [IntKind.wrap_i64]; omega
  clear hg hv hl1 hcur1 hcs h1 h1c hszf hsz hdl hx
  go_enter Tryd.func49, Tryd.ntmps49
  try simp only [Nat.mul_one, Nat.add_sub_add_right] at hov hcp1 hcp2
  have hb1 : (0 : Int) ≤ (i : Int) + 1 := by omega
  have hin2 : i ≤ n := by omega
  have htn : ((i : Int) + 1).toNat = i + 1 := by omega
  have hin3 : (i : Int) ≤ (n : Int) + 1 := by omega
  go_wp2_with (simp only [hov])
  go_region_law (refine step_copy_eq rfl _ _ 30 30 rfl (.slice (some ⟨g, (i + 1) * 5, none⟩) (n - i) (c - (i + 1))) (.slice (some ⟨g, i * 5, none⟩) (n + 1 - i) (c - i)) (by simp [Act.eval, Act.put]) (by simp [Act.eval, Act.put]) (hcp1 w.drew HF.out.1 3 (c - (i + 1)) (c - i)) ?_)
  go_wp2_with (refine wpList_copy_eq _ rfl _ _ 30 30 rfl (.slice (some ⟨g, i * 5, none⟩) (n + 1 - i) (c - i)) (.slice (some ⟨vb, 0, none⟩) 1 1) rfl rfl (hcp2 (w.drew.setRow g cur1) (heap_setRow_same (w := w.drew) HF.out.1 _) ((setRow_other w.drew _ _ _ hvb).trans HF.out.2.1) _ (c - i)) ?_)
  go_ret
  obtain ⟨hg, hv, hl1, hcur1, hcs⟩ := HF.out
  have hlast := heap_setRow_same (w := w.drew.setRow g cur1) (heap_setRow_same (w := w.drew) hg cur1) (cur1.toList.take (i * 5) ++ x ++ cur1.toList.drop (i * 5 + 5)).toArray
  have hsl := slotEnt cur.toList x i n hi (by rw [Array.length_toList, hcs]; omega) HX.out
  rw [← @List.toList_toArray _ (cur.toList.take ((i + 1) * 5) ++ (cur.toList.drop (i * 5)).take ((n - i) * 5) ++ cur.toList.drop ((n + 1) * 5)), ← hcur1] at hsl
  refine ⟨_, rfl, owns_mk (cur := (cur1.toList.take (i * 5) ++ x ++ cur1.toList.drop (i * 5 + 5)).toArray) hbg (by simpa using hlast) hroom hcm ?_ ?_, ?_, .inl rfl⟩
  · have := HX.out
    simp [hl1, this]
    omega
  · rw [List.toList_toArray]; exact hsl
  · exact grown_step (grown_step (grown_drew (World.grownBy.refl w _)) (grown_setRow _) (.inl rfl)) (grown_setRow _) (.inl rfl)
theorem slotgEnt (l x z1 z2 : List Value) (i n : Nat) (hi : i < n) (hl : l.length = n * 5) (hx : x.length = 5) (hz1 : z1.length = (n + 1 - i) * 5) (R1 R2 : List Value)
    (h1 : R1 = l.take (i * 5) ++ z1 ++ z2) (h2 : R2 = R1.take (i * 5) ++ x ++ R1.drop (i * 5 + 5)) :
    (R2.take ((i + 1) * 5) ++ l.drop (i * 5) ++ R2.drop ((i + 1) * 5 + (n - i) * 5)).take ((n + 1) * 5) = l.take (i * 5) ++ x ++ l.drop (i * 5) := by
  subst h2
  subst h1
  apply List.ext_getElem?
  intro j
  simp only [List.getElem?_take, List.getElem?_append, List.getElem?_drop, List.length_append, List.length_take, List.length_drop, hx, hl, hz1]
  grind
set_option maxHeartbeats 2000000 in
set_option maxRecDepth 100000 in
theorem insertEnt_grow (base n c i g : Nat) (cs : List Value) (vb : Nat) (x : List Value) (w : World) (hbase : base ≤ w.heap.size) (hcs : cs.length = n * 5) (hgc : ∀ j u, cs[j]? = some u → w.cell? ⟨g, j, none⟩ = some u) (hi : i < n) (hnc : n ≤ c) (hroom : c < n + 1) (hx : x.length = 5)
    (hv : w.heap[vb]? = some (.cells x.toArray 63 (0, 0))) (h1 : ∀ u ∈ x, u.oneCell' = true) (h1c : ∀ u ∈ cs, u.oneCell' = true) (hbig : (n + 1) * 72 ≤ 140737488355328) :
    Calls Tryd.prog 49 #[.slice (some ⟨g, 0, none⟩) n c, .int .i64 i, .slice (some ⟨vb, 0, none⟩) 1 1] w
      (InsertedEnt w base (.slice (some ⟨g, 0, none⟩) n c) n (cs.take (i * 5) ++ x ++ cs.drop (i * 5))) := by
  obtain ⟨i0, hi0, hz0, hzs, hzb⟩ := info_parts infoEnt
  have hsz : (Tryd.prog.info? 63).map (·.size) = some 5 := by kernel_rfl
  have hgw : g < w.heap.size := block_lt_of_cell (hgc 0 _ (List.getElem?_eq_getElem (by omega)))
  have hvw : vb < w.heap.size := by
    rcases Nat.lt_or_ge vb w.heap.size with h | h
    · exact h
    · rw [Array.getElem?_eq_none h] at hv; cases hv
  have hkk : (n : Int) + 1 - (i : Int) = ((n + 1 - i : Nat) : Int) := by omega
  have hold : (Builtin.firstCells i0.size i (.slice (some ⟨g, 0, none⟩) i c)).run Tryd.prog w.drew = .ok (cs.take (i * 5)).toArray w.drew := by
    rw [hzs]
    exact run_firstCells_some w.drew 5 i ⟨g, 0, none⟩ i c (cs.take (i * 5)) (by rw [List.length_take]; omega) (fun j u hj => by
      rw [Addr.add_lit, Nat.zero_add]
      rw [List.getElem?_take] at hj
      split at hj
      · exact hgc j u hj
      · cases hj)
  obtain ⟨G, hG⟩ : ∃ G, G = grownCap w (n + 1) c 63 := ⟨_, rfl⟩
  have hGn : n + 1 ≤ G := by rw [hG]; exact grownCap_ge w _ _ _
  have hG63 : G ≤ maxLen := by rw [hG]; exact grownCap_le_maxLen w (n + 1) c 63 (by unfold maxLen; omega)
  have hG64 : G ≤ 9223372036854775807 := by unfold maxLen at hG63; omega
  obtain ⟨R1, hR1⟩ : ∃ R1 : Array Value, R1 = (cs.take (i * 5)).toArray ++ Builtin.zeroCells (Value.cells (.agg #[.string ⟨#[]⟩, .int .i64 0, .bool false, .string ⟨#[]⟩, .slice none 0 0])) (n + 1 - i) ++ Builtin.zeroCells (Value.cells (.agg #[.string ⟨#[]⟩, .int .i64 0, .bool false, .string ⟨#[]⟩, .slice none 0 0])) (G - (n + 1)) := ⟨_, rfl⟩
  have hR1s : R1.size = G * 5 := by
    rw [hR1]
    simp [size_zeroCells, Value.cells, hcs]
    omega
  have hrz : ∀ ty, (Builtin.append_ #[30, 3] ty #[.slice (some ⟨g, 0, none⟩) i c, .int .i64 ((n : Int) + 1 - (i : Int))]).run Tryd.prog w =
      .ok (.slice (some ⟨w.heap.size, 0, none⟩) (n + 1) G) (w.drew.alloc (.cells R1 63)) := fun ty => by
    have h := Lib.run_append_grow_zeros w 30 3 ty 63 i0 _ .i64 .i64 Tryd.underlying30 Tryd.underlying3 hi0 hz0 (some ⟨g, 0, none⟩) i c (cs.take (i * 5)) hold (n + 1 - i) (by omega) (by omega) (by omega) (by omega) (by rw [hzb]; omega)
      (by rw [hzb, show i + (n + 1 - i) = n + 1 by omega]; exact growslice_fits hroom hbig)
    rw [show i + (n + 1 - i) = n + 1 by omega, ← hG, ← hR1] at h
    rw [hkk]
    exact h
  obtain ⟨R2, hR2⟩ : ∃ R2 : Array Value, R2 = (R1.toList.take (i * 5) ++ x ++ R1.toList.drop (i * 5 + 5)).toArray := ⟨_, rfl⟩
  have hR2s : R2.size = G * 5 := by rw [hR2]; simp [hR1s, hx]; omega
  have hcpA : ∀ W : World, W.heap[w.heap.size]? = some (.cells R1 63 (0, 0)) → W.heap[vb]? = some (.cells x.toArray 63 (0, 0)) → ∀ ty dc, (Builtin.copy_ #[30, 30] ty #[.slice (some ⟨w.heap.size, i * 5, none⟩) (n + 1 - i) dc, .slice (some ⟨vb, 0, none⟩) 1 1]).run Tryd.prog W = .ok (goInt (Nat.min 1 (n + 1 - i))) (W.setRow w.heap.size R2) := fun W hW hV ty dc => by
    rw [copy_row W 30 30 ty 63 5 w.heap.size (i * 5) (n + 1 - i) dc ⟨vb, 0, none⟩ 1 1 R1 63 x Tryd.underlying30 hsz hW
      (by rw [hx]; simp only [Nat.min_def]; split <;> omega)
      (fun j u hj => by rw [Addr.add_lit, cell_of_row W vb _ _ _ _ hV]; simpa using hj)
      (by rw [hx, hR1s]; omega) h1, hx, hR2]
  have hcpB : ∀ W : World, W.heap[w.heap.size]? = some (.cells R2 63 (0, 0)) → W.heap[g]? = w.heap[g]? → ∀ ty dc sc, (Builtin.copy_ #[30, 30] ty #[.slice (some ⟨w.heap.size, (i + 1) * 5, none⟩) (n + 1 - (i + 1)) dc, .slice (some ⟨g, i * 5, none⟩) (n - i) sc]).run Tryd.prog W = .ok (goInt (Nat.min (n - i) (n + 1 - (i + 1)))) (W.setRow w.heap.size (R2.toList.take ((i + 1) * 5) ++ cs.drop (i * 5) ++ R2.toList.drop ((i + 1) * 5 + (n - i) * 5)).toArray) := fun W hW hV ty dc sc => by
    have hdl : (cs.drop (i * 5)).length = (n - i) * 5 := by rw [List.length_drop, hcs]; omega
    rw [copy_row W 30 30 ty 63 5 w.heap.size ((i + 1) * 5) (n + 1 - (i + 1)) dc ⟨g, i * 5, none⟩ (n - i) sc R2 63 (cs.drop (i * 5)) Tryd.underlying30 hsz hW
      (by rw [hdl]; simp only [Nat.min_def]; split <;> omega)
      (fun j u hj => by
        rw [List.getElem?_drop] at hj
        rw [Addr.add_lit, World.cell?_of_block (w := w) (w' := W) hV]
        exact hgc _ u hj)
      (by rw [hdl, hR2s]; omega) (fun u hu => h1c u (List.mem_of_mem_drop hu)), hdl]
  have hGi : ¬ (G = i) := by omega
  have hGim : ¬ (G = i + 1) := by omega
  have hci : ¬ (c = i) := by omega
  have hin : ¬ ((i : Int) = (n : Int)) := by omega
  have hi64 : IntKind.i64.wrap ((i : Int) + 1) = (i : Int) + 1 := by rw [IntKind.wrap_i64]; omega
  have hb1 : (0 : Int) ≤ (i : Int) + 1 := by omega
  have hin2 : i ≤ n := by omega
  have htn : ((i : Int) + 1).toNat = i + 1 := by omega
  have hin3 : (i : Int) ≤ (n : Int) + 1 := by omega
  have HR1 : (w.drew.alloc (.cells R1 63)).heap[w.heap.size]? = some (.cells R1 63 (0, 0)) := heap_alloc_new w.drew _
  have HRv : (w.drew.alloc (.cells R1 63)).heap[vb]? = some (.cells x.toArray 63 (0, 0)) := (Below.heap_alloc w.drew _ vb hvw).trans hv
  have HRg : (w.drew.alloc (.cells R1 63)).heap[g]? = w.heap[g]? := Below.heap_alloc w.drew _ g hgw
  have HF := Lib.hid (And.intro HR1 (And.intro HRv (And.intro HRg (And.intro hR2s (And.intro hcs (And.intro hx hG))))))
  have HR := Lib.hid (And.intro hR1 hR2)
  have hne : g ≠ w.heap.size := by omega
  clear HR1 HRv HRg hR2s hR1s hR1 hR2 hG hold hkk hcs hx hv hi0 hz0 hzs hzb hsz hgc h1 h1c
  try simp only [Nat.mul_one, Nat.add_sub_add_right] at hcpA hcpB
  go_enter Tryd.func49, Tryd.ntmps49
  go_wp2_with (first
    | (refine wpList_append_eq _ rfl _ _ _ _ rfl (.slice (some ⟨g, 0, none⟩) i c) (.int .i64 ((n : Int) + 1 - (i : Int))) rfl rfl (hrz _) ?_)
    | (refine wpList_copy_eq _ rfl _ _ 30 30 rfl (.slice (some ⟨w.heap.size, i * 5, none⟩) (n + 1 - i) (G - i)) (.slice (some ⟨vb, 0, none⟩) 1 1) rfl rfl (hcpA _ HF.out.1 HF.out.2.1 _ (G - i)) ?_))
  have HS := heap_setRow_same (w := w.drew.alloc (.cells R1 63)) HF.out.1 R2
  have HSg := (setRow_other (w.drew.alloc (.cells R1 63)) w.heap.size g R2 hne).trans HF.out.2.2.1
  have HS := Lib.hid HS
  have HSg := Lib.hid HSg
  go_region_law (refine step_copy_eq rfl _ _ 30 30 rfl (.slice (some ⟨w.heap.size, (i + 1) * 5, none⟩) (n - i) (G - (i + 1))) (.slice (some ⟨g, i * 5, none⟩) (n - i) (c - i)) (by simp [Act.eval, Act.put]) (by simp [Act.eval, Act.put]) (hcpB ((w.drew.alloc (.cells R1 63)).setRow w.heap.size R2).drew HS.out HSg.out 3 (G - (i + 1)) (c - i)) ?_)
  go_wp2
  go_ret
  obtain ⟨hRg, hRv, hR3, hR2s, hcs, hx, hG⟩ := HF.out
  obtain ⟨hR1, hR2⟩ := HR.out
  have hlast := heap_setRow_same (w := ((w.alloc (.cells R1 63)).drew.setRow w.heap.size R2).drew) HS.out (R2.toList.take ((i + 1) * 5) ++ cs.drop (i * 5) ++ R2.toList.drop ((i + 1) * 5 + (n - i) * 5)).toArray
  have hsl := slotgEnt cs x (Builtin.zeroCells (Value.cells (.agg #[.string ⟨#[]⟩, .int .i64 0, .bool false, .string ⟨#[]⟩, .slice none 0 0])) (n + 1 - i)).toList (Builtin.zeroCells (Value.cells (.agg #[.string ⟨#[]⟩, .int .i64 0, .bool false, .string ⟨#[]⟩, .slice none 0 0])) (G - (n + 1))).toList i n hi hcs hx (by simp [size_zeroCells, Value.cells]) R1.toList R2.toList (by rw [hR1]; simp) (by rw [hR2])
  refine ⟨_, rfl, owns_mk (cur := (R2.toList.take ((i + 1) * 5) ++ cs.drop (i * 5) ++ R2.toList.drop ((i + 1) * 5 + (n - i) * 5)).toArray) hbase (by simpa using hlast) hGn hG63 ?_ ?_, ?_, .inr rfl⟩
  · simp [hR2s, hcs]
    omega
  · rw [List.toList_toArray]; exact hsl
  · exact grown_step (grown_drew (grown_step (grown_drew (World.grownBy_alloc w _ _)) (grown_setRow _) (.inr (Nat.le_refl _)))) (grown_setRow _) (.inr (Nat.le_refl _))
theorem insertEnt_all (base n i : Nat) (v : Value) (cs : List Value) (vb : Nat) (x : List Value) (w : World) (hown : w.ownsRow base 63 5 v n cs) (hi : i ≤ n) (hx : x.length = 5)
    (hv : w.heap[vb]? = some (.cells x.toArray 63 (0, 0))) (hvb : v.ownBlock ≠ some vb) (h1 : ∀ u ∈ x, u.oneCell' = true) (h1c : ∀ u ∈ cs, u.oneCell' = true) (hb : (n + 1) * 72 ≤ 140737488355328) (hbase : base ≤ w.heap.size) :
    Calls Tryd.prog 49 #[v, .int .i64 i, .slice (some ⟨vb, 0, none⟩) 1 1] w (InsertedEnt w base v n (cs.take (i * 5) ++ x ++ cs.drop (i * 5))) := by
  have hlen := hown.1
  by_cases hin : i = n
  · subst hin
    rw [← hlen, List.take_length, List.drop_length, List.append_nil]
    exact insertEnt_end base i v cs vb x w hown hx (fun j u hj => by rw [cell_of_row w vb _ _ _ _ hv]; simpa using hj) h1 hb hbase
  · have hi' : i < n := by omega
    rcases hown.2 with ⟨rfl, h0⟩ | ⟨g, cap, cur, rfl, hbg, hg, hnc, hcm, hcs, htake⟩
    · omega
    · have hvg : vb ≠ g := fun e => hvb (by rw [e]; rfl)
      by_cases hroom : n + 1 ≤ cap
      · have h := insertEnt_room base n cap i g cur vb x w hbg hg hcm hcs hi' hroom hx hv hvg h1 (by rw [htake]; exact h1c)
        rw [htake] at h
        exact h
      · exact insertEnt_grow base n cap i g cs vb x w hbase hlen (fun j u hj => by
          have := hown.cells (g := g) rfl j u hj
          rwa [Addr.add_lit, Nat.zero_add] at this) hi' hnc (by omega) hx hv h1 h1c hb
end Go.Proofs.YtnemeeidomceiaaDoor
