import Derived.Test.YtkpicjhhkdjejaaProg
import Derived.Test.YtkpicjhhkdjejaaSlBase
import Derived.Deep.RegionLaw
import Derived.Lib.Hide
namespace Go.Proofs.Ytkpicjhhkdjejaa
open Go.RowKit
set_option linter.unusedVariables false
set_option linter.unusedSimpArgs false
theorem infoDStr : (Try.prog.info? 9).map (fun i => (i.zero, i.size, i.bytes)) = some (some (.string ⟨#[]⟩), 1, 16) := by kernel_rfl
/-- What slices.Delete of one element leaves. -/
def DeletedStr (w : World) (base : Nat) (v : Value) (n : Nat) (cs' : List Value) (e : Ending) (w' : World) : Prop :=
  ∃ v', e = .returned v' ∧ w'.ownsRow base 9 1 v' n cs' ∧ w.grownBy w' v.ownBlock ∧ v'.ownBlock = v.ownBlock
theorem slotdStr (l z : List Value) (i n c : Nat) (hi : i ≤ n) (hc : n + 1 ≤ c) (hl : l.length = c * 1) (hz : z.length = 1) (R1 : List Value)
    (h1 : R1 = l.take (i * 1) ++ (l.take ((n + 1) * 1)).drop ((i + 1) * 1) ++ l.drop (i * 1 + (n - i) * 1)) :
    (R1.take (n * 1) ++ z ++ R1.drop (n * 1 + 1 * 1)).take (n * 1) = (l.take ((n + 1) * 1)).take (i * 1) ++ (l.take ((n + 1) * 1)).drop ((i + 1) * 1) ∧ R1.length = c * 1 := by
  subst h1
  refine ⟨?_, by simp; omega⟩
  apply List.ext_getElem?
  intro j
  simp only [List.getElem?_take, List.getElem?_append, List.getElem?_drop, List.length_append, List.length_take, List.length_drop, hz, hl]
  grind
set_option maxHeartbeats 2000000 in
set_option maxRecDepth 100000 in
theorem deleteStr_all (base n i : Nat) (v : Value) (cs : List Value) (w : World) (hown : w.ownsRow base 9 1 v (n + 1) cs) (hi : i ≤ n) (h1c : ∀ u ∈ cs, u.oneCell' = true) :
    Calls Try.prog 35 #[v, .int .i64 i, .int .i64 ((i : Int) + 1)] w (DeletedStr w base v n (cs.take (i * 1) ++ cs.drop ((i + 1) * 1))) := by
  obtain ⟨i0, hi0, hz0, hzs, hzb⟩ := info_parts infoDStr
  have hsz : (Try.prog.info? 9).map (·.size) = some 1 := by kernel_rfl
  have hzv : ∀ w, (zeroValue 9).run Try.prog w = .ok (.string ⟨#[]⟩) w := fun _ => by kernel_rfl
  rcases hown.2 with ⟨rfl, h0⟩ | ⟨g, c, cur, rfl, hbg, hg, hnc, hcm, hcs, htake⟩
  · omega
  have hc63 : c ≤ 9223372036854775807 := by unfold maxLen at hcm; omega
  obtain ⟨R1, hR1⟩ : ∃ R1 : Array Value, R1 = (cur.toList.take (i * 1) ++ cs.drop ((i + 1) * 1) ++ cur.toList.drop (i * 1 + (n - i) * 1)).toArray := ⟨_, rfl⟩
  have hdl : (cs.drop ((i + 1) * 1)).length = (n - i) * 1 := by rw [List.length_drop, hown.1]; omega
  have hap : ∀ W : World, W.heap[g]? = some (.cells cur 9 (0, 0)) → ∀ ty (A : Nat) sc, (A = (i + 1) * 1 ∨ n - i = 0) → (Builtin.append_ #[22, 22] ty #[.slice (some ⟨g, 0, none⟩) i c, .slice (some ⟨g, A, none⟩) (n + 1 - (i + 1)) sc]).run Try.prog W = .ok (.slice (some ⟨g, 0, none⟩) n c) (W.setRow g R1) := fun W hW ty A sc hA => by
    have h := run_append_room (P := Try.prog) W 22 ty 9 i0 Try.underlying22 hi0 g i c cur hW ⟨g, A, none⟩ (n + 1 - (i + 1)) sc (cs.drop ((i + 1) * 1)) (by rw [hdl, hzs]; omega)
      (fun j u hj => by
        rcases hA with rfl | hA
        · rw [List.getElem?_drop, ← htake, List.getElem?_take] at hj
          rw [Addr.add_lit, cell_of_row W g _ cur _ _ hW]
          split at hj
          · simpa using hj
          · cases hj
        · have hz : cs.drop ((i + 1) * 1) = [] := List.eq_nil_of_length_eq_zero (by rw [hdl, hA, Nat.zero_mul])
          rw [hz] at hj
          simp at hj) (fun u hu => h1c u (List.mem_of_mem_drop hu)) (by omega) (by rw [hzs, hdl, hcs]; omega)
    rw [hzs, hdl, ← hR1, show i + (n + 1 - (i + 1)) = n by omega] at h
    exact h
  have hsl := slotdStr cur.toList (Builtin.zeroCells (Value.cells (.string ⟨#[]⟩)) 1).toList i n c hi hnc (by rw [Array.length_toList, hcs]) (by simp [size_zeroCells, Value.cells]) R1.toList (by rw [hR1, htake])
  rw [htake] at hsl
  have hcl : ∀ W : World, W.heap[g]? = some (.cells R1 9 (0, 0)) → ∀ ty dc, (Builtin.clear_ #[22] ty #[.slice (some ⟨g, n * 1, none⟩) 1 dc]).run Try.prog W = .ok (.tuple #[]) (W.setRow g (R1.toList.take (n * 1) ++ (Builtin.zeroCells (Value.cells (.string ⟨#[]⟩)) 1).toList ++ R1.toList.drop (n * 1 + 1 * 1)).toArray) := fun W hW ty dc =>
    clear_row W 22 9 ty (.string ⟨#[]⟩) 1 1 Try.underlying22 hzv rfl (by intro u hu; simp [Builtin.zeroCells, Value.cells] at hu; (try rcases hu with rfl | rfl); (try subst hu); all_goals rfl) g (n * 1) dc R1 9 (by omega) hW (by have := hsl.2; rw [Array.length_toList] at this; omega)
  have hl := hown.1
  have HR1 := Lib.hid hR1
  have HF := Lib.hid (And.intro hg (And.intro hsl (And.intro hl hbg)))
  have hcin : ¬ (c = i) := by omega
  have hcn : ¬ (c = n) := by omega
  have hi64 : IntKind.i64.wrap ((i : Int) + 1) = (i : Int) + 1 := by rw [IntKind.wrap_i64]; omega
  have hb1 : (0 : Int) ≤ (i : Int) + 1 := by omega
  have htn : ((i : Int) + 1).toNat = i + 1 := by omega
  have hii : ((i : Int) == (i : Int) + 1) = false := by simp; omega
  have hin3 : (i : Int) + 1 ≤ (n : Int) + 1 := by omega
  have hin4 : (i : Int) ≤ (n : Int) + 1 := by omega
  have hnn : ((n + 1 : Nat) : Int) ≤ 9223372036854775807 := by omega
  have hnc' : n + 1 ≤ c := hnc
  have hic : i + 1 ≤ c := by omega
  have hic2 : i ≤ c := by omega
  clear hg hsl hl hbg hown hi0 hz0 hzs hzb hsz hzv hdl hR1 h1c htake hcs hnc
  try simp only [Nat.mul_one, Nat.add_sub_add_right] at hap hcl
  by_cases hci : c = i + 1
  · obtain rfl : n = i := by omega
    subst hci
    have hRc : R1 = cur := by
      rw [HR1.out]
      have : cs.drop ((n + 1) * 1) = [] := List.eq_nil_of_length_eq_zero (by rw [List.length_drop, HF.out.2.2.1]; omega)
      rw [this]
      apply Array.toList_inj.1
      simp
    have HRc := Lib.hid hRc
    clear hRc hap
    go_enter Try.func35, Try.ntmps35
    go_wp2
    go_region_law (fail)
    go_wp2_with (refine wpList_clear_eq _ rfl _ 22 rfl (.slice (some ⟨g, n, none⟩) 1 _) rfl (hcl w.drew (HRc.out ▸ HF.out.1) _ _) ?_)
    go_ret
    obtain ⟨hg, hsl, hl, hbg⟩ := HF.out
    have hlast := heap_setRow_same (w := w.drew) hg (R1.toList.take (n * 1) ++ (Builtin.zeroCells (Value.cells (.string ⟨#[]⟩)) 1).toList ++ R1.toList.drop (n * 1 + 1 * 1)).toArray
    refine ⟨_, rfl, owns_mk (cur := (R1.toList.take (n * 1) ++ (Builtin.zeroCells (Value.cells (.string ⟨#[]⟩)) 1).toList ++ R1.toList.drop (n * 1 + 1 * 1)).toArray) hbg (by simpa [Value.cells] using hlast) (by omega) hcm ?_ ?_, ?_, rfl⟩
    · have h2 := hsl.2
      simp [size_zeroCells, Value.cells]
      simp at h2
      omega
    · rw [List.toList_toArray]; exact hsl.1
    · exact grown_step (grown_drew (World.grownBy.refl w _)) (grown_setRow _) (.inl rfl)
  · go_enter Try.func35, Try.ntmps35
    go_wp2
    go_region_law (refine step_append_eq rfl _ _ 22 22 rfl (.slice (some ⟨g, 0, none⟩) i c) (.slice (some ⟨g, i + 1, none⟩) (n - i) (c - (i + 1))) (by simp [Act.eval, Act.put]) (by simp [Act.eval, Act.put]) (hap w.drew HF.out.1 22 (i + 1) (c - (i + 1)) (.inl rfl)) ?_)
    go_wp2_with (refine wpList_clear_eq _ rfl _ 22 rfl (.slice (some ⟨g, n, none⟩) 1 _) rfl (hcl (w.drew.setRow g R1) (heap_setRow_same (w := w.drew) HF.out.1 R1) _ _) ?_)
    go_ret
    obtain ⟨hg, hsl, hl, hbg⟩ := HF.out
    have hlast := heap_setRow_same (w := w.drew.setRow g R1) (heap_setRow_same (w := w.drew) hg R1) (R1.toList.take (n * 1) ++ (Builtin.zeroCells (Value.cells (.string ⟨#[]⟩)) 1).toList ++ R1.toList.drop (n * 1 + 1 * 1)).toArray
    refine ⟨_, rfl, owns_mk (cur := (R1.toList.take (n * 1) ++ (Builtin.zeroCells (Value.cells (.string ⟨#[]⟩)) 1).toList ++ R1.toList.drop (n * 1 + 1 * 1)).toArray) hbg (by simpa [Value.cells] using hlast) (by omega) hcm ?_ ?_, ?_, rfl⟩
    · have h2 := hsl.2
      simp [size_zeroCells, Value.cells]
      simp at h2
      omega
    · rw [List.toList_toArray]; exact hsl.1
    · exact grown_step (grown_step (grown_drew (World.grownBy.refl w _)) (grown_setRow _) (.inl rfl)) (grown_setRow _) (.inl rfl)
/-- What slices.Clone makes. -/
def ClonedStr (w : World) (n : Nat) (cs : List Value) (e : Ending) (w' : World) : Prop := ∃ v', e = .returned v' ∧ w'.ownsRow w.heap.size 9 1 v' n cs ∧ Below w.heap.size w w'
set_option maxHeartbeats 1000000 in
theorem cloneStr_all (base n : Nat) (v : Value) (cs : List Value) (w : World) (hown : w.ownsRow base 9 1 v n cs) (h1c : ∀ u ∈ cs, u.oneCell' = true) (hb : n * 16 ≤ 140737488355328) :
    Calls Try.prog 37 #[v] w (ClonedStr w n cs) := by
  obtain ⟨i0, hi, hz0, hz1, hz2⟩ := info_parts infoDStr
  have hn63 : n ≤ 9223372036854775807 := by omega
  have hmax : 0 + n ≤ maxLen := by unfold maxLen; omega
  have hl := hown.1
  rcases hown.2 with ⟨rfl, rfl⟩ | ⟨g, cap, cur, rfl, hbg, hg, hnc, hcm, hcs, htake⟩
  · have hnil : cs = [] := List.eq_nil_of_length_eq_zero (by simpa using hl)
    clear hl hown
    have heq : ∀ w, (binOp .eql 22 (.slice none 0 0) (.slice none 0 0)).run Try.prog w = .ok (.bool true) w := fun w => Lib.run_eql_slice_nil w 22 9 none 0 0 0 0 Try.underlying22
    go_enter Try.func37, Try.ntmps37
    go_wp2
    go_ret
    exact ⟨_, rfl, by rw [hnil]; exact World.ownsRow_nil _ _ _ _, Below.refl _ _⟩
  · have heq : ∀ w, (binOp .eql 22 (.slice (some ⟨g, 0, none⟩) n cap) (.slice none 0 0)).run Try.prog w = .ok (.bool false) w := fun w => Lib.run_eql_slice_nil w 22 9 (some ⟨g, 0, none⟩) n cap 0 0 Try.underlying22
    have hcm' : cap ≤ 9223372036854775807 := by unfold maxLen at hcm; omega
    have hfresh : (w.alloc (.cells #[] 9)).ownsRow w.heap.size 9 1 (.slice (some ⟨w.heap.size, 0, none⟩) 0 0) 0 [] := World.ownsRow_made w #[] 0 (Nat.le_refl _) (by unfold maxLen; omega) (by simp)
    have hnews : ∀ j u, cs[j]? = some u → (w.alloc (.cells #[] 9)).cell? ((⟨g, 0, none⟩ : Addr).add j) = some u := fun j u hj => by
      have hc := hown.cells (g := g) rfl j u hj
      have hlt : g < w.heap.size := (Array.getElem?_eq_some_iff.1 hg).1
      rw [Addr.add_lit] at hc ⊢
      rw [World.cell?_alloc_lt _ _ _ (by exact hlt)]
      exact hc
    have HF := Lib.hid (And.intro hfresh (And.intro hnews hl))
    clear hfresh hnews hl hown hg hnc hcs htake hcm hbg
    go_enter Try.func37, Try.ntmps37
    go_wp2_with (at_builtin; refine wpList_append_own_at _ rfl _ _ 22 rfl w.heap.size 9 i0 _ 1 16 Try.underlying22 hi hz0 hz1 hz2 rfl (by decide) _ 0 [] rfl HF.out.1 ⟨g, 0, none⟩ n cap cs rfl HF.out.2.2 HF.out.2.1 h1c hmax (by omega) (by simp) ?_; intro v' w1 hown' hg' hnil' hat')
    go_ret
    exact ⟨v', rfl, by simpa using hown', (below_alloc0 w _).grown hg' (by simp) (fun k hk => by injection hk with hk; exact Nat.le_of_eq hk)⟩
end Go.Proofs.Ytkpicjhhkdjejaa
