import Derived.Test.YtnemeeidomceiaaDoorProg
import Derived.Test.YtnemeeidomceiaaDoorSlBase
import Derived.Deep.RegionLaw
import Derived.Lib.Hide
namespace Go.Proofs.YtnemeeidomceiaaDoor
open Go.RowKit
set_option linter.unusedVariables false
set_option linter.unusedSimpArgs false
theorem infoDEnt : (Tryd.prog.info? 63).map (fun i => (i.zero, i.size, i.bytes)) = some (some (.agg #[.string ⟨#[]⟩, .int .i64 0, .bool false, .string ⟨#[]⟩, .slice none 0 0]), 5, 72) := by kernel_rfl
/-- What slices.Delete of one element leaves. -/
def DeletedEnt (w : World) (base : Nat) (v : Value) (n : Nat) (cs' : List Value) (e : Ending) (w' : World) : Prop :=
  ∃ v', e = .returned v' ∧ w'.ownsRow base 63 5 v' n cs' ∧ w.grownBy w' v.ownBlock ∧ v'.ownBlock = v.ownBlock
theorem slotdEnt (l z : List Value) (i n c : Nat) (hi : i ≤ n) (hc : n + 1 ≤ c) (hl : l.length = c * 5) (hz : z.length = 5) (R1 : List Value)
    (h1 : R1 = l.take (i * 5) ++ (l.take ((n + 1) * 5)).drop ((i + 1) * 5) ++ l.drop (i * 5 + (n - i) * 5)) :
    (R1.take (n * 5) ++ z ++ R1.drop (n * 5 + 1 * 5)).take (n * 5) = (l.take ((n + 1) * 5)).take (i * 5) ++ (l.take ((n + 1) * 5)).drop ((i + 1) * 5) ∧ R1.length = c * 5 := by
  subst h1
  refine ⟨?_, by simp; omega⟩
  apply List.ext_getElem?
  intro j
  simp only [List.getElem?_take, List.getElem?_append, List.getElem?_drop, List.length_append, List.length_take, List.length_drop, hz, hl]
  grind
set_option maxHeartbeats 2000000 in
set_option maxRecDepth 100000 in
theorem deleteEnt_all (base n i : Nat) (v : Value) (cs : List Value) (w : World) (hown : w.ownsRow base 63 5 v (n + 1) cs) (hi : i ≤ n) (h1c : ∀ u ∈ cs, u.oneCell' = true) :
    Calls Tryd.prog 46 #[v, .int .i64 i, .int .i64 ((i : Int) + 1)] w (DeletedEnt w base v n (cs.take (i * 5) ++ cs.drop ((i + 1) * 5))) := by
  obtain ⟨i0, hi0, hz0, hzs, hzb⟩ := info_parts infoDEnt
  have hsz : (Tryd.prog.info? 63).map (·.size) = some 5 := by kernel_rfl
  have hzv : ∀ w, (zeroValue 63).run Tryd.prog w = .ok (.agg #[.string ⟨#[]⟩, .int .i64 0, .bool false, .string ⟨#[]⟩, .slice none 0 0]) w := fun _ => by kernel_rfl
  rcases hown.2 with ⟨rfl, h0⟩ | ⟨g, c, cur, rfl, hbg, hg, hnc, hcm, hcs, htake⟩
  · omega
  have hc63 : c ≤ 9223372036854775807 := by unfold maxLen at hcm; omega
  obtain ⟨R1, hR1⟩ : ∃ R1 : Array Value, R1 = (cur.toList.take (i * 5) ++ cs.drop ((i + 1) * 5) ++ cur.toList.drop (i * 5 + (n - i) * 5)).toArray := ⟨_, rfl⟩
  have hdl : (cs.drop ((i + 1) * 5)).length = (n - i) * 5 := by rw [List.length_drop, hown.1]; omega
  have hap : ∀ W : World, W.heap[g]? = some (.cells cur 63 (0, 0)) → ∀ ty (A : Nat) sc, (A = (i + 1) * 5 ∨ n - i = 0) → (Builtin.append_ #[30, 30] ty #[.slice (some ⟨g, 0, none⟩) i c, .slice (some ⟨g, A, none⟩) (n + 1 - (i + 1)) sc]).run Tryd.prog W = .ok (.slice (some ⟨g, 0, none⟩) n c) (W.setRow g R1) := fun W hW ty A sc hA => by
    have h := run_append_room (P := Tryd.prog) W 30 ty 63 i0 Tryd.underlying30 hi0 g i c cur hW ⟨g, A, none⟩ (n + 1 - (i + 1)) sc (cs.drop ((i + 1) * 5)) (by rw [hdl, hzs]; omega)
      (fun j u hj => by
        rcases hA with rfl | hA
        · rw [List.getElem?_drop, ← htake, List.getElem?_take] at hj
          rw [Addr.add_lit, cell_of_row W g _ cur _ _ hW]
          split at hj
          · simpa using hj
          · cases hj
        · have hz : cs.drop ((i + 1) * 5) = [] := List.eq_nil_of_length_eq_zero (by rw [hdl, hA, Nat.zero_mul])
          rw [hz] at hj
          simp at hj) (fun u hu => h1c u (List.mem_of_mem_drop hu)) (by omega) (by rw [hzs, hdl, hcs]; omega)
    rw [hzs, hdl, ← hR1, show i + (n + 1 - (i + 1)) = n by omega] at h
    exact h
  have hsl := slotdEnt cur.toList (Builtin.zeroCells (Value.cells (.agg #[.string ⟨#[]⟩, .int .i64 0, .bool false, .string ⟨#[]⟩, .slice none 0 0])) 1).toList i n c hi hnc (by rw [Array.length_toList, hcs]) (by simp [size_zeroCells, Value.cells]) R1.toList (by rw [hR1, htake])
  rw [htake] at hsl
  have hcl : ∀ W : World, W.heap[g]? = some (.cells R1 63 (0, 0)) → ∀ ty dc, (Builtin.clear_ #[30] ty #[.slice (some ⟨g, n * 5, none⟩) 1 dc]).run Tryd.prog W = .ok (.tuple #[]) (W.setRow g (R1.toList.take (n * 5) ++ (Builtin.zeroCells (Value.cells (.agg #[.string ⟨#[]⟩, .int .i64 0, .bool false, .string ⟨#[]⟩, .slice none 0 0])) 1).toList ++ R1.toList.drop (n * 5 + 1 * 5)).toArray) := fun W hW ty dc =>
    clear_row W 30 63 ty (.agg #[.string ⟨#[]⟩, .int .i64 0, .bool false, .string ⟨#[]⟩, .slice none 0 0]) 5 1 Tryd.underlying30 hzv rfl (by intro u hu; simp [Builtin.zeroCells, Value.cells] at hu; (first | (obtain ⟨a, ha, rfl⟩ := hu; rcases (by omega : a = 0 ∨ a = 1 ∨ a = 2 ∨ a = 3 ∨ a = 4) with rfl | rfl | rfl | rfl | rfl) | (rcases hu with rfl | rfl) | skip); (try subst hu); all_goals rfl) g (n * 5) dc R1 63 (by omega) hW (by have := hsl.2; rw [Array.length_toList] at this; omega)
  have hl := hown.1
  have HR1 := Lib.hid hR1
  have HF := Lib.hid (And.intro hg (And.intro hsl (And.intro hl hbg)))
  have hcin : ¬ (c = i) := by omega
  have hcn : ¬ (c = n) := by omega
  have hi64 : IntKind.i64.wrap ((i : Int) + 1) = (i : Int) + 1 := by rw [IntKind.wrap_i64]; omega
  have hb1 : (0 : Int) ≤ (i : Int) + 1 := by omega
  have htn : ((i : Int) + 1).toNat = i + 1 := by omega
  have hii : ((i : Int) == (i : Int) + 1) = false := by simp; omega
  have hin3 : (i : Int) + 1 ≤ (n : Int) + 1 := by omega
  have hin4 : (i : Int) ≤ (n : Int) + 1 := by omega
  have hnn : ((n + 1 : Nat) : Int) ≤ 9223372036854775807 := by omega
  have hnc' : n + 1 ≤ c := hnc
  have hic : i + 1 ≤ c := by omega
  have hic2 : i ≤ c := by omega
  clear hg hsl hl hbg hown hi0 hz0 hzs hzb hsz hzv hdl hR1 h1c htake hcs hnc
  try simp only [Nat.mul_one, Nat.add_sub_add_right] at hap hcl
  by_cases hci : c = i + 1
  · obtain rfl : n = i := by omega
    subst hci
    have hRc : R1 = cur := by
      rw [HR1.out]
      have : cs.drop ((n + 1) * 5) = [] := List.eq_nil_of_length_eq_zero (by rw [List.length_drop, HF.out.2.2.1]; omega)
      rw [this]
      apply Array.toList_inj.1
      simp
    have HRc := Lib.hid hRc
    clear hRc hap
    go_enter Tryd.func46, Tryd.ntmps46
    go_wp2
    go_region_law (fail)
    go_wp2_with (refine wpList_clear_eq _ rfl _ 30 rfl (.slice (some ⟨g, n * 5, none⟩) 1 _) rfl (hcl w.drew (HRc.out ▸ HF.out.1) _ _) ?_)
    go_ret
    obtain ⟨hg, hsl, hl, hbg⟩ := HF.out
    have hlast := heap_setRow_same (w := w.drew) hg (R1.toList.take (n * 5) ++ (Builtin.zeroCells (Value.cells (.agg #[.string ⟨#[]⟩, .int .i64 0, .bool false, .string ⟨#[]⟩, .slice none 0 0])) 1).toList ++ R1.toList.drop (n * 5 + 1 * 5)).toArray
    refine ⟨_, rfl, owns_mk (cur := (R1.toList.take (n * 5) ++ (Builtin.zeroCells (Value.cells (.agg #[.string ⟨#[]⟩, .int .i64 0, .bool false, .string ⟨#[]⟩, .slice none 0 0])) 1).toList ++ R1.toList.drop (n * 5 + 1 * 5)).toArray) hbg (by simpa [Value.cells] using hlast) (by omega) hcm ?_ ?_, ?_, rfl⟩
    · have h2 := hsl.2
      simp [size_zeroCells, Value.cells]
      simp at h2
      omega
    · rw [List.toList_toArray]; exact hsl.1
    · exact grown_step (grown_drew (World.grownBy.refl w _)) (grown_setRow _) (.inl rfl)
  · go_enter Tryd.func46, Tryd.ntmps46
    go_wp2
    go_region_law (refine step_append_eq rfl _ _ 30 30 rfl (.slice (some ⟨g, 0, none⟩) i c) (.slice (some ⟨g, (i + 1) * 5, none⟩) (n - i) (c - (i + 1))) (by simp [Act.eval, Act.put]) (by simp [Act.eval, Act.put]) (hap w.drew HF.out.1 30 ((i + 1) * 5) (c - (i + 1)) (.inl rfl)) ?_)
    go_wp2_with (refine wpList_clear_eq _ rfl _ 30 rfl (.slice (some ⟨g, n * 5, none⟩) 1 _) rfl (hcl (w.drew.setRow g R1) (heap_setRow_same (w := w.drew) HF.out.1 R1) _ _) ?_)
    go_ret
    obtain ⟨hg, hsl, hl, hbg⟩ := HF.out
    have hlast := heap_setRow_same (w := w.drew.setRow g R1) (heap_setRow_same (w := w.drew) hg R1) (R1.toList.take (n * 5) ++ (Builtin.zeroCells (Value.cells (.agg #[.string ⟨#[]⟩, .int .i64 0, .bool false, .string ⟨#[]⟩, .slice none 0 0])) 1).toList ++ R1.toList.drop (n * 5 + 1 * 5)).toArray
    refine ⟨_, rfl, owns_mk (cur := (R1.toList.take (n * 5) ++ (Builtin.zeroCells (Value.cells (.agg #[.string ⟨#[]⟩, .int .i64 0, .bool false, .string ⟨#[]⟩, .slice none 0 0])) 1).toList ++ R1.toList.drop (n * 5 + 1 * 5)).toArray) hbg (by simpa [Value.cells] using hlast) (by omega) hcm ?_ ?_, ?_, rfl⟩
    · have h2 := hsl.2
      simp [size_zeroCells, Value.cells]
      simp at h2
      omega
    · rw [List.toList_toArray]; exact hsl.1
    · exact grown_step (grown_step (grown_drew (World.grownBy.refl w _)) (grown_setRow _) (.inl rfl)) (grown_setRow _) (.inl rfl)
end Go.Proofs.YtnemeeidomceiaaDoor
