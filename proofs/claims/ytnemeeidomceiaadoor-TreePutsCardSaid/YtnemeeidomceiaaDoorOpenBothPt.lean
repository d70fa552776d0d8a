import Derived.Test.YtnemeeidomceiaaDoorPt2
import Derived.Test.YtnemeeidomceiaaDoorPt3
import Derived.Test.YtnemeeidomceiaaDoorPt8
import Derived.ChangeArms
import Derived.ChangeSlices
import Derived.DataElems
import Derived.DataReads
import Derived.SizedLaws
set_option linter.unusedSimpArgs false
set_option linter.unusedVariables false
namespace Go.Proofs.YtnemeeidomceiaaDoor.Both
open Go.RowKit Go.Proofs.YtnemeeidomceiaaDoorW.PrintWords Go.Proofs.YtnemeeidomceiaaDoorW.PrintLast Go.Proofs.YtnemeeidomceiaaDoorW.PrintMore
set_option linter.unusedSimpArgs false
set_option linter.unusedVariables false
set_option maxRecDepth 100000
theorem weightsAll_mem {H : Type} {P : Program} {e : TypeId} : ∀ {l : List (DataW H)} {d : DataW H}, d ∈ l → ∀ n ∈ d.weights P e, n ∈ DataW.weightsAll P e l
 | d0 :: l, d, hd, n, hn => by
  simp only [DataW.weightsAll, List.mem_append]
  rcases List.mem_cons.1 hd with rfl | hd
  ·exact Or.inl hn
  ·exact Or.inr (weightsAll_mem hd n hn)
 | [], _, hd, _, _ => by simp at hd
section
variable {H : Type} {enc : TypeId × Value → H} {w : World}
/-- A row of entries as it is read by the form. -/
def KidsAt (enc : TypeId × Value → H) (w : World) (fuel : Nat) : Prop := ∀ (cs : List Value) (x : DataW H × List MemPlace), DataW.trod enc Tryd.prog w 0 (fun _ => true) true fuel 30 cs = some x → (∀ m ∈ x.1.weights Tryd.prog 30, m ≤ reachBytes) →
 ∃ A c l, cs = [.slice A l.length c] ∧ l.length ≤ c ∧ Kd.C k63 w A l.length l ∧ (Texts l ∧ Fit l)
theorem node_at (fuel : Nat) (ih : ∀ n, n < fuel → KidsAt enc w n) (cs : List Value) (x : DataW H × List MemPlace) (h : DataW.trod enc Tryd.prog w 0 (fun _ => true) true fuel 32 cs = some x) (hs : ∀ m ∈ x.1.weights Tryd.prog 32, m ≤ reachBytes) :
  ∃ k e t A c l, cs = [.int .i64 k, .bool e, .string t, .slice A l.length c] ∧ l.length ≤ c ∧ Kd.C k63 w A l.length l ∧ (Texts l ∧ Fit l) ∧ t.size ≤ 140737488351232 := by
 obtain ⟨xs, n, rfl, rfl, hlen, hxl, hx⟩ := DataW.trod_struct Tryd.underlying32 h
 have hcells : Tryd.prog.cellsOf 32 = 4 := by decide +kernel
 rw [hcells] at hlen
 obtain ⟨c0, c1, c2, c3, rfl⟩ : ∃ c0 c1 c2 c3, cs = [c0, c1, c2, c3] := by
  match cs, hlen with
  | [c0, c1, c2, c3], _ => exact ⟨c0, c1, c2, c3, rfl⟩
 obtain ⟨x0, x1, x2, x3, rfl⟩ : ∃ x0 x1 x2 x3, xs = [x0, x1, x2, x3] := by
  match xs, hxl with
  | [x0, x1, x2, x3], _ => exact ⟨x0, x1, x2, x3, rfl⟩
 have qh0 : Tryd.prog.cellsOf 25 = 1 := by decide +kernel
 have h0 : DataW.trod enc Tryd.prog w 0 (fun _ => true) true n 25 (List.take (Tryd.prog.cellsOf 25) (List.drop 0 [c0, c1, c2, c3])) = some x0 := hx 0 _ rfl
 rw [qh0] at h0
 have qh1 : Tryd.prog.cellsOf 4 = 1 := by decide +kernel
 have h1 : DataW.trod enc Tryd.prog w 0 (fun _ => true) true n 4 (List.take (Tryd.prog.cellsOf 4) (List.drop 1 [c0, c1, c2, c3])) = some x1 := hx 1 _ rfl
 rw [qh1] at h1
 have qh2 : Tryd.prog.cellsOf 9 = 1 := by decide +kernel
 have h2 : DataW.trod enc Tryd.prog w 0 (fun _ => true) true n 9 (List.take (Tryd.prog.cellsOf 9) (List.drop 2 [c0, c1, c2, c3])) = some x2 := hx 2 _ rfl
 rw [qh2] at h2
 have qh3 : Tryd.prog.cellsOf 30 = 1 := by decide +kernel
 have h3 : DataW.trod enc Tryd.prog w 0 (fun _ => true) true n 30 (List.take (Tryd.prog.cellsOf 30) (List.drop 3 [c0, c1, c2, c3])) = some x3 := hx 3 _ rfl
 rw [qh3] at h3
 obtain ⟨k, e0, _⟩ := DataW.trod_int Tryd.underlying25 h0
 obtain ⟨e, e1, _⟩ := DataW.trod_bool Tryd.underlying4 h1
 obtain ⟨t, e2, q2, _⟩ := DataW.trod_string Tryd.underlying9 h2
 have hts : t.size ≤ 140737488351232 := by
  have z := hs t.data.toList.length (by
   simp only [DataW.weights, Tryd.underlying32]
   refine DataW.weights_mem_each (j := 2) (t := 9) (d := x2.1) rfl rfl _ ?_
   rw [q2]
   simp [DataW.weights])
  rw [Array.length_toList] at z
  exact z
 obtain ⟨A, c, l, e3, hc, hC, hF⟩ := ih n (by omega) _ x3 h3 (fun m hm => hs m (by
  simp only [DataW.weights, Tryd.underlying32]
  exact DataW.weights_mem_each (j := 3) (t := 30) (d := x3.1) rfl rfl m hm))
 simp at e0 e1 e2 e3
 subst e0 e1 e2 e3
 exact ⟨k, e, t, A, c, l, rfl, hc, hC, hF, hts⟩
theorem entry_at (fuel : Nat) (ih : ∀ n, n < fuel → KidsAt enc w n) (cs : List Value) (x : DataW H × List MemPlace) (h : DataW.trod enc Tryd.prog w 0 (fun _ => true) true fuel 63 cs = some x) (hs : ∀ m ∈ x.1.weights Tryd.prog 63, m ≤ reachBytes) :
  ∃ y : S63, cs.length = 5 ∧ k63.K w y cs ∧ (y.f0.size ≤ 140737488351232 ∧ y.f3.size ≤ 140737488351232) ∧ (Texts y.f4 ∧ Fit y.f4) := by
 obtain ⟨xs, n, rfl, rfl, hlen, hxl, hx⟩ := DataW.trod_struct Tryd.underlying63 h
 have hcells : Tryd.prog.cellsOf 63 = 5 := by decide +kernel
 rw [hcells] at hlen
 obtain ⟨c0, c1, c2, c3, c4, rfl⟩ : ∃ c0 c1 c2 c3 c4, cs = [c0, c1, c2, c3, c4] := by
  match cs, hlen with
  | [c0, c1, c2, c3, c4], _ => exact ⟨c0, c1, c2, c3, c4, rfl⟩
 obtain ⟨x0, x1, rfl⟩ : ∃ x0 x1, xs = [x0, x1] := by
  match xs, hxl with
  | [x0, x1], _ => exact ⟨x0, x1, rfl⟩
 have qh0 : Tryd.prog.cellsOf 9 = 1 := by decide +kernel
 have h0 : DataW.trod enc Tryd.prog w 0 (fun _ => true) true n 9 (List.take (Tryd.prog.cellsOf 9) (List.drop 0 [c0, c1, c2, c3, c4])) = some x0 := hx 0 _ rfl
 rw [qh0] at h0
 have qh1 : Tryd.prog.cellsOf 32 = 4 := by decide +kernel
 have h1 : DataW.trod enc Tryd.prog w 0 (fun _ => true) true n 32 (List.take (Tryd.prog.cellsOf 32) (List.drop 1 [c0, c1, c2, c3, c4])) = some x1 := hx 1 _ rfl
 rw [qh1] at h1
 obtain ⟨t0, e0, q0, _⟩ := DataW.trod_string Tryd.underlying9 h0
 have hts0 : t0.size ≤ 140737488351232 := by
  have z := hs t0.data.toList.length (by
   simp only [DataW.weights, Tryd.underlying63]
   refine DataW.weights_mem_each (j := 0) (t := 9) (d := x0.1) rfl rfl _ ?_
   rw [q0]
   simp [DataW.weights])
  rw [Array.length_toList] at z
  exact z
 obtain ⟨k, e, t, A, c, l, e1, hc, hC, hF, hts⟩ := node_at n (fun m hm => ih m (by omega)) _ x1 h1 (fun m hm => hs m (by
  simp only [DataW.weights, Tryd.underlying63]
  exact DataW.weights_mem_each (j := 1) (t := 32) (d := x1.1) rfl rfl m hm))
 simp at e0 e1
 obtain ⟨rfl, rfl, rfl, rfl⟩ := e1
 subst e0
 exact ⟨⟨t0, k, e, t, l⟩, rfl, k63_mk w ⟨t0, k, e, t, l⟩ hc hC, ⟨hts0, hts⟩, hF⟩
theorem kids_at (fuel : Nat) : KidsAt enc w fuel := by
 induction fuel using Nat.strongRecOn with
 | _ fuel ih =>
 intro cs x h hs
 rcases DataW.trod_slice Tryd.underlying30 h with ⟨rfl, rfl⟩ | ⟨a, len, cap, elems, rest, n, rfl, rfl, rfl, hb, hl, hm, hlen, hel, _, _⟩
 ·exact ⟨none, 0, [], rfl, Nat.le_refl _, ⟨rfl, by simp, fun h => by simp at h⟩, ⟨Texts.mk (by simp) (by simp), Fit.mk (by simp) (by simp)⟩⟩
 ·have hcells : Tryd.prog.cellsOf 63 = 5 := by decide +kernel
  have hbytes : Tryd.prog.bytesOf 63 = 72 := by decide +kernel
  rw [hcells] at hel
  simp only [DataW.weights, Tryd.underlying30, hbytes] at hs
  have each : ∀ i, i < len → ∃ y : S63, (∃ c : List Value, c.length = 5 ∧ k63.K w y c ∧ ∀ j u, c[j]? = some u → w.cell? (a.add (i * 5 + j)) = some u) ∧ (y.f0.size ≤ 140737488351232 ∧ y.f3.size ≤ 140737488351232) ∧ (Texts y.f4 ∧ Fit y.f4) := by
   intro i hi
   have hi' := hel i hi
   rw [List.getElem?_eq_getElem (by omega : i < elems.length)] at hi'
   obtain ⟨c, hc, hy⟩ := Option.bind_eq_some_iff.1 hi'
   obtain ⟨_, hcl, hcell⟩ := World.cells?_some hc
   obtain ⟨y, h5, hK, hF⟩ := entry_at n (fun m hm => ih m (by omega)) c _ hy (fun m hm => hs m (by
    refine List.mem_cons_of_mem _ (List.mem_append_left _ (weightsAll_mem (d := (elems[i]'(by omega)).1) ?_ m hm))
    exact List.mem_map_of_mem (List.getElem_mem _)))
   refine ⟨y, ⟨c, h5, hK, fun j u hu => ?_⟩, hF⟩
   have hj : j < 5 := by
    rw [← h5]
    exact (List.getElem?_eq_some_iff.1 hu).1
   rw [← Addr.add_add, hcell j hj, hu]
  have pick : ∃ l : List S63, l.length = len ∧ ∀ i p, l[i]? = some p → (∃ c : List Value, c.length = 5 ∧ k63.K w p c ∧ ∀ j u, c[j]? = some u → w.cell? (a.add (i * 5 + j)) = some u) ∧ (p.f0.size ≤ 140737488351232 ∧ p.f3.size ≤ 140737488351232) ∧ (Texts p.f4 ∧ Fit p.f4) := by
   refine ⟨List.ofFn (fun i : Fin len => Classical.choose (each i.1 i.2)), by simp, fun i p hp => ?_⟩
   obtain ⟨hi, rfl⟩ := List.getElem?_eq_some_iff.1 hp
   simp only [List.length_ofFn] at hi
   rw [List.getElem_ofFn]
   exact Classical.choose_spec (each i hi)
  obtain ⟨l, hll, hl2⟩ := pick
  subst hll
  have hbig := hs _ List.mem_cons_self
  simp only [List.length_map] at hbig
  have hrb : reachBytes < 2 ^ 47 := reachBytes_lt
  have h72 : l.length * 72 ≤ 140737488355328 := by
   have h47 : (2 : Nat) ^ 47 = 140737488355328 := by decide
   rw [h47] at hrb
   rw [hlen] at hbig
   have : l.length * 72 ≤ (l.length + rest.length) * 72 := Nat.mul_le_mul_right _ (by omega)
   omega
  refine ⟨some a, cap, l, rfl, hl, ⟨rfl, by omega, fun _ => ⟨a, rfl, fun j p hp => (hl2 j p hp).1⟩⟩, ⟨Texts.mk (fun x hx => ?_) (fun x hx => ?_), Fit.mk h72 (fun x hx => ?_)⟩⟩
  ·obtain ⟨i, hi⟩ := List.getElem?_of_mem hx
   exact (hl2 i x hi).2.1
  ·obtain ⟨i, hi⟩ := List.getElem?_of_mem hx
   exact (hl2 i x hi).2.2.1
  ·obtain ⟨i, hi⟩ := List.getElem?_of_mem hx
   exact (hl2 i x hi).2.2.2
/-- A Node among the arguments. -/
theorem open_node {r : Reach} {b0 : Nat} {v : Value} {d : DataW H} {ps : List MemPlace} {ts : List TypeId} {ds : List (DataW H)} {j : Nat}
  (hval : Value.okWide Tryd.prog w r b0 32 v) (hsz : (DataW.weightsEach Tryd.prog ts ds).all (· ≤ reachBytes) = true) (ht : ts[j]? = some 32) (hd : ds[j]? = some d) (h : DataW.Trod enc Tryd.prog w 0 (fun _ => true) true 32 v d ps) :
  ∃ a : Int × Bool × ByteArray × List S63, ∃ A c, v = .agg #[.int .i64 a.1, .bool a.2.1, .string a.2.2.1, .slice A a.2.2.2.length c] ∧ a.2.2.2.length ≤ c ∧ Kd.C k63 w A a.2.2.2.length a.2.2.2 ∧ (Texts a.2.2.2 ∧ Fit a.2.2.2) ∧ a.2.2.1.size ≤ 140737488351232 := by
 obtain ⟨fuel, hf⟩ := h
 obtain ⟨k, e, t, A, c, l, hcs, hc, hC, hF, hts⟩ := node_at fuel (fun n _ => kids_at n) _ _ hf (fun m hm => of_decide_eq_true (List.all_eq_true.1 hsz m (DataW.weights_mem_each ht hd m hm)))
 obtain ⟨cs, rfl, _⟩ := Go.WideShapes.okWide_struct Tryd.underlying32 hval
 refine ⟨(k, e, t, l), A, c, ?_, hc, hC, hF, hts⟩
 have : cs.toList = [.int .i64 k, .bool e, .string t, .slice A l.length c] := hcs
 cases cs
 simp at this
 rw [this]
end
end Go.Proofs.YtnemeeidomceiaaDoor.Both
