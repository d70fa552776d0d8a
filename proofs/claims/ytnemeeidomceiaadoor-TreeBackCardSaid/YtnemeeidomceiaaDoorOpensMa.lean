import Derived.Test.YtnemeeidomceiaaDoorMa0
import Derived.ChangeArms
import Derived.ChangeSlices
import Derived.DataElems
import Derived.DataReads
import Derived.SizedLaws
set_option linter.unusedSimpArgs false
set_option linter.unusedVariables false
namespace Go.Proofs.YtnemeeidomceiaaDoor
open Go.RowKit Go.Proofs.YtnemeeidomceiaaDoorW.PrintWords
set_option linter.unusedVariables false
theorem weightsAll_mem {H : Type} {P : Program} {e : TypeId} : ∀ {l : List (DataW H)} {d : DataW H}, d ∈ l → ∀ n ∈ d.weights P e, n ∈ DataW.weightsAll P e l
 | d0 :: l, d, hd, n, hn => by
  simp only [DataW.weightsAll, List.mem_append]
  rcases List.mem_cons.1 hd with rfl | hd
  ·exact Or.inl hn
  ·exact Or.inr (weightsAll_mem hd n hn)
 | [], _, hd, _, _ => by simp at hd
/-- What is read of type t, with so much fuel, is of kind d, and G holds of it. -/
def OpensAt {α : Type} (P : Program) (N : Nat) (t : TypeId) (d : Kd α) (G : α → Prop) : Prop :=
 ∀ (H : Type) (enc : TypeId × Value → H) (w : World) (fuel : Nat), fuel ≤ N → ∀ (cs : List Value) (x : DataW H × List MemPlace), DataW.trod enc P w 0 (fun _ => true) true fuel t cs = some x → (∀ m ∈ x.1.weights P t, m ≤ reachBytes) → ∃ y, d.K w y cs ∧ G y
/-- The same of a struct's fields from one on. -/
def OpensFs {α : Type} (P : Program) (N : Nat) (fs : List Field) (o : Nat) (d : Kd α) (G : α → Prop) : Prop :=
 ∀ (H : Type) (enc : TypeId × Value → H) (w : World) (n : Nat), n < N → ∀ (cs : List Value) (xs : List (DataW H × List MemPlace)), cs.length = o + d.sz → xs.length = fs.length →
  (∀ (i : Nat) (f : Field), fs[i]? = some f → DataW.trod enc P w 0 (fun _ => true) true n f.type ((cs.drop f.offset).take (P.cellsOf f.type)) = xs[i]?) →
  (∀ (i : Nat) (f : Field) (y : DataW H × List MemPlace), fs[i]? = some f → xs[i]? = some y → ∀ m ∈ y.1.weights P f.type, m ≤ reachBytes) → ∃ y, d.K w y (cs.drop o) ∧ G y
section
variable {P : Program} {N : Nat}
theorem opens_int {t : TypeId} {k : IntKind} (ht : P.underlying t = some (.int k)) : OpensAt P N t (Kd.int k) (fun x => (Lit.int k x).wf = true) := by
 intro H enc w fuel _ cs x h _
 obtain ⟨n, rfl, _, hw⟩ := DataW.trod_int ht h
 exact ⟨n, rfl, hw⟩
theorem opens_bool {t : TypeId} (ht : P.underlying t = some .bool) : OpensAt P N t Kd.bool (fun _ => True) := by
 intro H enc w fuel _ cs x h _
 obtain ⟨b, rfl, _⟩ := DataW.trod_bool ht h
 exact ⟨b, rfl, trivial⟩
theorem opens_string {t : TypeId} (ht : P.underlying t = some .string) : OpensAt P N t Kd.string (fun s => s.size ≤ 140737488351232) := by
 intro H enc w fuel _ cs x h hs
 obtain ⟨s, rfl, rfl, _⟩ := DataW.trod_string ht h
 refine ⟨s, rfl, ?_⟩
 have := hs s.data.toList.length (by simp [DataW.weights])
 rwa [Array.length_toList] at this
theorem opens_slice {α : Type} {t e B : Nat} {d : Kd α} {G : α → Prop} (ht : P.underlying t = some (.slice e)) (hc : P.cellsOf e = d.sz) (hB : P.bytesOf e = B) (hB0 : 0 < B) (he : ∀ M, M < N → OpensAt P M e d G) :
  OpensAt P N t (Kd.slice e d) (fun l => l.length * B ≤ 140737488351232 ∧ ∀ x ∈ l, G x) := by
 intro H enc w fuel hfu cs x h hs
 rcases DataW.trod_slice ht h with ⟨rfl, rfl⟩ | ⟨a, len, cap, elems, rest, n, rfl, rfl, rfl, hb, hl, hm, hlen, hel, _, _⟩
 ·exact ⟨[], ⟨none, 0, rfl, Nat.le_refl _, ⟨rfl, by simp, fun h => by simp at h⟩⟩, by simp, by simp⟩
 ·rw [hc] at hel
  simp only [DataW.weights, ht, hB] at hs
  have each : ∀ i, i < len → ∃ y : α, (∃ c : List Value, c.length = d.sz ∧ d.K w y c ∧ ∀ j u, c[j]? = some u → w.cell? (a.add (i * d.sz + j)) = some u) ∧ G y := by
   intro i hi
   have hi' := hel i hi
   rw [List.getElem?_eq_getElem (by omega : i < elems.length)] at hi'
   obtain ⟨c, hc, hy⟩ := Option.bind_eq_some_iff.1 hi'
   obtain ⟨_, hcl, hcell⟩ := World.cells?_some hc
   obtain ⟨y, hK, hG⟩ := he n (by omega) H enc w n (Nat.le_refl _) c _ hy (fun m hm => hs m (by
    refine List.mem_cons_of_mem _ (List.mem_append_left _ (weightsAll_mem (d := (elems[i]'(by omega)).1) ?_ m hm))
    exact List.mem_map_of_mem (List.getElem_mem _)))
   refine ⟨y, ⟨c, d.K_len hK, hK, fun j u hu => ?_⟩, hG⟩
   have hj : j < d.sz := by
    rw [← d.K_len hK]
    exact (List.getElem?_eq_some_iff.1 hu).1
   rw [← Addr.add_add, hcell j hj, hu]
  have pick : ∃ l : List α, l.length = len ∧ ∀ i p, l[i]? = some p → (∃ c : List Value, c.length = d.sz ∧ d.K w p c ∧ ∀ j u, c[j]? = some u → w.cell? (a.add (i * d.sz + j)) = some u) ∧ G p := by
   refine ⟨List.ofFn (fun i : Fin len => Classical.choose (each i.1 i.2)), by simp, fun i p hp => ?_⟩
   obtain ⟨hi, rfl⟩ := List.getElem?_eq_some_iff.1 hp
   simp only [List.length_ofFn] at hi
   rw [List.getElem_ofFn]
   exact Classical.choose_spec (each i hi)
  obtain ⟨l, hll, hl2⟩ := pick
  subst hll
  have hbig := hs _ List.mem_cons_self
  simp only [List.length_map] at hbig
  have hrb : reachBytes = 140737488351232 := by decide
  rw [hrb, hlen] at hbig
  have h72 : l.length * B ≤ 140737488351232 := Nat.le_trans (Nat.mul_le_mul_right _ (Nat.le_add_right _ _)) hbig
  have hlm : l.length ≤ 140737488351232 := Nat.le_trans (Nat.le_mul_of_pos_right _ hB0) h72
  refine ⟨l, ⟨some a, cap, rfl, hl, ⟨rfl, by omega, fun _ => ⟨a, rfl, fun j p hp => (hl2 j p hp).1⟩⟩⟩, h72, fun x hx => ?_⟩
  obtain ⟨i, hi⟩ := List.getElem?_of_mem hx
  exact (hl2 i x hi).2
theorem opensFs_one {α : Type} {f : Field} {o : Nat} {d : Kd α} {G : α → Prop} (hc : P.cellsOf f.type = d.sz) (ho : f.offset = o) (h : ∀ M, M < N → OpensAt P M f.type d G) : OpensFs P N [f] o d G := by
 intro H enc w n hn cs xs hl hxl hx hs
 obtain ⟨x, rfl⟩ : ∃ x, xs = [x] := by
  match xs, hxl with
  | [x], _ => exact ⟨x, rfl⟩
 have h0 := hx 0 f rfl
 rw [ho, hc, List.take_of_length_le (by rw [List.length_drop]; omega)] at h0
 exact h n hn H enc w n (Nat.le_refl _) _ x h0 (hs 0 f x rfl rfl)
theorem opensFs_cons {α β : Type} {f : Field} {fs : List Field} {o : Nat} {d : Kd α} {d' : Kd β} {G : α → Prop} {G' : β → Prop} (hc : P.cellsOf f.type = d.sz) (ho : f.offset = o) (h : ∀ M, M < N → OpensAt P M f.type d G) (h' : OpensFs P N fs (o + d.sz) d' G') :
  OpensFs P N (f :: fs) o (Kd.pair d d') (fun x => G x.1 ∧ G' x.2) := by
 intro H enc w n hn cs xs hl hxl hx hs
 obtain ⟨x, xs', rfl⟩ : ∃ x xs', xs = x :: xs' := by
  match xs, hxl with
  | x :: xs', _ => exact ⟨x, xs', rfl⟩
 have h0 := hx 0 f rfl
 rw [ho, hc] at h0
 obtain ⟨y, hy, hg⟩ := h n hn H enc w n (Nat.le_refl _) _ x h0 (hs 0 f x rfl rfl)
 obtain ⟨y', hy', hg'⟩ := h' H enc w n hn cs xs' (by have : (Kd.pair d d').sz = d.sz + d'.sz := rfl; omega) (by simpa using hxl) (fun i f' hf => by simpa using hx (i + 1) f' (by simpa using hf)) (fun i f' y hf hy => hs (i + 1) f' y (by simpa using hf) (by simpa using hy))
 refine ⟨(y, y'), ⟨(cs.drop o).take d.sz, (cs.drop o).drop d.sz, (List.take_append_drop _ _).symm, hy, ?_⟩, hg, hg'⟩
 rw [List.drop_drop]
 exact hy'
theorem opens_struct {α : Type} {t : TypeId} {fs : Array Field} {d : Kd α} {G : α → Prop} (ht : P.underlying t = some (.struct fs)) (hc : P.cellsOf t = d.sz) (h : OpensFs P N fs.toList 0 d G) : OpensAt P N t d G := by
 intro H enc w fuel hfu cs x hx hs
 obtain ⟨xs, n, rfl, rfl, hlen, hxl, hf⟩ := DataW.trod_struct ht hx
 have h2 := h H enc w n (by omega) cs xs (by rw [hlen, hc, Nat.zero_add]) (by rw [hxl, Array.length_toList]) (fun i f hi => hf i f (by simpa using hi)) (fun i f y hi hy m hm => hs m (by
  simp only [DataW.weights, ht]
  exact DataW.weights_mem_each (j := i) (t := f.type) (d := y.1) (by rw [List.getElem?_map, hi]; rfl) (by rw [List.getElem?_map, hy]; rfl) m hm))
 simpa using h2
theorem opens_iso {α β : Type} {t : TypeId} {d : Kd α} {G : α → Prop} (f : β → α) (g : α → β) (hfg : ∀ a, f (g a) = a) (h : OpensAt P N t d G) : OpensAt P N t (Kd.iso d f) (fun b => G (f b)) := by
 intro H enc w fuel hfu cs x hx hs
 obtain ⟨y, hy, hg⟩ := h H enc w fuel hfu cs x hx hs
 exact ⟨g y, by show d.K w (f (g y)) cs; rw [hfg]; exact hy, by show G (f (g y)); rw [hfg]; exact hg⟩
end
section
variable {H : Type} {enc : TypeId × Value → H} {P : Program} {w : World} {r : Reach} {b0 : Nat} {v : Value} {d : DataW H} {ps : List MemPlace} {ts : List TypeId} {ds : List (DataW H)} {j : Nat}
/-- A slice among the arguments. -/
theorem open_slice_arg {α : Type} {t e : TypeId} {dk : Kd α} {G : List α → Prop} (ho : ∀ N, OpensAt P N t (Kd.slice e dk) G) (hu : P.underlying t = some (.slice e))
  (hval : Value.okWide P w r b0 t v) (hsz : (DataW.weightsEach P ts ds).all (· ≤ reachBytes) = true) (ht : ts[j]? = some t) (hd : ds[j]? = some d) (h : DataW.Trod enc P w 0 (fun _ => true) true t v d ps) :
  ∃ a : List α, (∃ A c, v = .slice A a.length c ∧ a.length ≤ c ∧ dk.C w A a.length a) ∧ G a := by
 obtain ⟨fuel, hf⟩ := h
 obtain ⟨y, ⟨A, c, hcs, hc, hC⟩, hG⟩ := ho fuel H enc w fuel (Nat.le_refl _) _ _ hf (fun m hm => of_decide_eq_true (List.all_eq_true.1 hsz m (DataW.weights_mem_each ht hd m hm)))
 obtain ⟨a, l, c', rfl⟩ := Go.WideShapes.okWide_slice hu hval
 have : [Value.slice a l c'] = [Value.slice A y.length c] := hcs
 injection this with this
 exact ⟨y, ⟨A, c, this, hc, hC⟩, hG⟩
end
end Go.Proofs.YtnemeeidomceiaaDoor
