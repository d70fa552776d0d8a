import Derived.Test.YtkpicjhhkdjejaaPlaysState
set_option linter.unusedVariables false
set_option linter.unusedSimpArgs false
namespace Go.Proofs.Ytkpicjhhkdjejaa
open Go.RowKit Go.Proofs.YtkpicjhhkdjejaaW.PrintWords Go.Proofs.YtkpicjhhkdjejaaW.PrintLast Go.Proofs.YtkpicjhhkdjejaaW.PrintMore Go.Proofs.Ytkpicjhhkdjejaa.Tb Go.Proofs.Ytkpicjhhkdjejaa.PTablePlays
theorem perm_cut {m : List (ByteArray × Int)} {l : List Pr} (h : (m.map ofP).Perm l) (k : ByteArray) : ((cut slt m k).map ofP).Perm (l.filter (fun p => decide (p.f0 ≠ k))) := by
  refine ((cut_perm slt_ord k m).map ofP).trans ?_
  have := h.filter (fun p => decide (p.f0 ≠ k))
  rw [List.filter_map] at this
  exact this
theorem perm_put {m : List (ByteArray × Int)} {l : List Pr} (h : (m.map ofP).Perm l) (k : ByteArray) (x : Int) : ((put slt m k x).map ofP).Perm (l.filter (fun p => decide (p.f0 ≠ k)) ++ [⟨k, x⟩]) := by
  refine ((put_perm slt_ord k x m).map ofP).trans ?_
  rw [List.map_append]
  have := h.filter (fun p => decide (p.f0 ≠ k))
  rw [List.filter_map] at this
  exact this.append (List.Perm.refl _)
section
variable {W w : World} {g b n : Nat} {t : Nat → Nat} {m : Nat → List (ByteArray × Int)} {l : Nat → List Pr} {v : Nat → Value}
theorem plays_put (h : PSq W w g b t m l v) {j : Nat} (hj : j < 2) (k : ByteArray) (x : Int) (hl : (m j).length ≤ 4000000000000) (c : Bool) (hc : c = true ↔ ¬ has (m j) k) :
    Calls Try.prog 9 #[.pointer (some ⟨t j, 0, none⟩), .string k, .int .i64 x] w fun e w' => e = .returned (.bool c) ∧ Aside0 (PSq W w' g b t (upd m j (put slt (m j) k x)) l v) ∧ Aside0 (Upd (TT w) w w') :=
  (h.ps.step hj _ (fun ok hT => put_SI w W.heap.size (t j) ok (m j) k x hT (by omega) (by omega) h.below.size c hc)).mono fun e w' hp => ⟨hp.1, ⟨h.call hp.2.1.out hp.2.2.1.out hp.2.2.2.out⟩, hp.2.2.1⟩
theorem plays_cut (h : PSq W w g b t m l v) {j : Nat} (hj : j < 2) (k : ByteArray) (hl : (m j).length ≤ 4000000000000) (c : Bool) (hc : c = true ↔ has (m j) k) :
    Calls Try.prog 10 #[.pointer (some ⟨t j, 0, none⟩), .string k] w fun e w' => e = .returned (.bool c) ∧ Aside0 (PSq W w' g b t (upd m j (cut slt (m j) k)) l v) ∧ Aside0 (Upd (TT w) w w') :=
  (h.ps.step hj _ (fun ok hT => cut_SI w W.heap.size (t j) ok (m j) k hT (by omega) c hc)).mono fun e w' hp => ⟨hp.1, ⟨h.call hp.2.1.out hp.2.2.1.out hp.2.2.2.out⟩, hp.2.2.1⟩
theorem plays_len (h : PSq W w g b t m l v) {j : Nat} (hj : j < 2) (r : Int) (hr : r = ((m j).length : Int)) :
    Calls Try.prog 29 #[.pointer (some ⟨t j, 0, none⟩)] w fun e w' => e = .returned (.int .i64 r) ∧ w = w' := by
  obtain ⟨ok, hT⟩ := h.ps.tab hj
  rw [hr]
  exact len_SI w W.heap.size (t j) ok (m j) hT
end
theorem done_put {W w w' : World} {g b n : Nat} {t : Nat → Nat} {m : Nat → List (ByteArray × Int)} {l : Nat → List Pr} {v v' : Nat → Value} (h : PSt W w g b n t m l v) {j : Nat} (hj : j < 2) {k : ByteArray} {x : Int} {lx : List Pr} (hlx : lx = (l j).filter (fun p => decide (p.f0 ≠ k)) ++ [⟨k, x⟩])
    (hF : PSq W w' g b t (upd m j (put slt (m j) k x)) (upd l j lx) v') : PSt W w' g b (n + 1) t (upd m j (put slt (m j) k x)) (upd l j lx) v' := by
  refine ⟨hF, fun i hi => ?_, fun i hi => ?_⟩
  · by_cases hij : i = j
    · subst hij
      rw [upd_same, upd_same, hlx]
      exact perm_put (h.perm i hi) k x
    · rw [upd_other _ _ hij, upd_other _ _ hij]
      exact h.perm i hi
  · by_cases hij : i = j
    · subst hij
      have h1 := List.length_filter_le (fun p : Pr => decide (p.f0 ≠ k)) (l i)
      have h2 := h.len i hi
      rw [upd_same, hlx, List.length_append, List.length_singleton]
      omega
    · rw [upd_other _ _ hij]
      exact Nat.le_succ_of_le (h.len i hi)
theorem done_cut {W w w' : World} {g b n : Nat} {t : Nat → Nat} {m : Nat → List (ByteArray × Int)} {l : Nat → List Pr} {v v' : Nat → Value} (h : PSt W w g b n t m l v) {j : Nat} (hj : j < 2) {k : ByteArray} {lx : List Pr} (hlx : lx = (l j).filter (fun p => decide (p.f0 ≠ k)))
    (hF : PSq W w' g b t (upd m j (cut slt (m j) k)) (upd l j lx) v') : PSt W w' g b (n + 1) t (upd m j (cut slt (m j) k)) (upd l j lx) v' := by
  refine ⟨hF, fun i hi => ?_, fun i hi => ?_⟩
  · by_cases hij : i = j
    · subst hij
      rw [upd_same, upd_same, hlx]
      exact perm_cut (h.perm i hi) k
    · rw [upd_other _ _ hij, upd_other _ _ hij]
      exact h.perm i hi
  · by_cases hij : i = j
    · subst hij
      have h1 := List.length_filter_le (fun p : Pr => decide (p.f0 ≠ k)) (l i)
      have h2 := h.len i hi
      rw [upd_same, hlx]
      omega
    · rw [upd_other _ _ hij]
      exact Nat.le_succ_of_le (h.len i hi)
theorem done_fork {W w w' : World} {g b n : Nat} {t t2 : Nat → Nat} {m : Nat → List (ByteArray × Int)} {l : Nat → List Pr} {v v' : Nat → Value} (h : PSt W w g b n t m l v) {i j : Nat} (hj : j < 2)
    (hF : PSq W w' g b t2 (upd m i (m j)) (upd l i (l j)) v') : PSt W w' g b (n + 1) t2 (upd m i (m j)) (upd l i (l j)) v' := by
  refine ⟨hF, fun x hx => ?_, fun x hx => ?_⟩
  · by_cases hij : x = i
    · subst hij
      rw [upd_same, upd_same]
      exact h.perm j hj
    · rw [upd_other _ _ hij, upd_other _ _ hij]
      exact h.perm x hx
  · by_cases hij : x = i
    · subst hij
      rw [upd_same]
      exact Nat.le_succ_of_le (h.len j hj)
    · rw [upd_other _ _ hij]
      exact Nat.le_succ_of_le (h.len x hx)
theorem plays_fork {W w : World} {g b : Nat} {t : Nat → Nat} {m : Nat → List (ByteArray × Int)} {l : Nat → List Pr} {v : Nat → Value} (h : PSq W w g b t m l v) {i j : Nat} (hi : i < 2) (hj : j < 2) (hij : i ≠ j) (hl : (m j).length ≤ 4000000000000) :
    Calls Try.prog 13 #[.pointer (some ⟨t j, 0, none⟩)] w fun e w' => ∃ t', e = .returned (.pointer (some ⟨t', 0, none⟩)) ∧ Aside0 (PS W.heap.size w' (upd t i t') (upd m i (m j))) ∧ Aside0 (Below w.heap.size w w') := by
  obtain ⟨ok, hT⟩ := h.ps.tab hj
  refine (fork_SI w W.heap.size (t j) ok (m j) hT (by omega) (by omega)).mono ?_
  rintro e w' ⟨t', he, hT', hb⟩
  exact ⟨t', he, ⟨h.ps.fork hj hi hij hT' hb⟩, ⟨hb⟩⟩
theorem plays_asked {W w : World} {g b n : Nat} {t : Nat → Nat} {m : Nat → List (ByteArray × Int)} {l : Nat → List Pr} {v : Nat → Value} (h : PSt W w g b n t m l v) {j : Nat} (hj : j < 2) (hn : n ≤ 4000000000000) {A : Option Addr} {c : Nat} (hv : v j = .slice A (l j).length c) (x0 x1 x3 : Int) (k : ByteArray) :
    Calls Try.prog 31 #[.pointer (some ⟨t j, 0, none⟩), .slice A (l j).length c, .agg #[.int .i64 x0, .int .i64 x1, .string k, .int .i64 x3]] w (AskPost w) := by
  obtain ⟨ok, hT⟩ := h.q.ps.tab hj
  have hr := h.q.rows j hj
  rw [hv] at hr
  have h2 := Kd.R_reads' hr
  exact asked_all w W.heap.size (t j) ok (m j) (l j) A c x0 x1 x3 k hT h2.2.2 h2.2.1 (h.same hj hn)
theorem find_there {m : List (ByteArray × Int)} {l : List Pr} (h : Same m l) (k : ByteArray) : ∃ (r : Int) (c : Bool), depotref11_Find.f (l.length + 1) l k = some r ∧ (c = true ↔ has m k) ∧ decide ((0 : Int) ≤ r) = c := by
  have hl := h.len
  obtain ⟨r, hr, hcase⟩ := ref_find l k (by omega)
  rcases hcase with ⟨i, p, rfl, hp, hpk⟩ | ⟨rfl, hno⟩
  · have hm := h.mem (List.mem_iff_getElem?.2 ⟨i, hp⟩)
    exact ⟨_, true, hr, by simp; exact ⟨_, hm, hpk⟩, by simp⟩
  · exact ⟨_, false, hr, by simp; exact h.none hno, by simp⟩
theorem put_a : put slt ([] : List (ByteArray × Int)) ⟨#[97]⟩ 1 = [(⟨#[97]⟩, 1)] := by simp [put]
theorem cut_a : cut slt [((⟨#[97]⟩ : ByteArray), (1 : Int))] ⟨#[97]⟩ = [] := by simp [cut, slt_ord.irr]
set_option maxHeartbeats 4000000 in
set_option maxRecDepth 1000000 in
theorem tablePlays_walk (a0 : List (Int × Int × ByteArray × Int)) (W : World) {v0 : Value}
    (w0 : (∃ A c, v0 = .slice A a0.length c ∧ a0.length ≤ c ∧ Kd.C kOp W A a0.length a0) ∧ (a0.length * 40 ≤ 140737488351232 ∧ ∀ x ∈ a0, (Lit.int .i64 x.1).wf = true ∧ (Lit.int .i64 x.2.1).wf = true ∧ x.2.2.1.size ≤ 140737488351232 ∧ (Lit.int .i64 x.2.2.2).wf = true)) :
    Calls Try.prog 7 #[v0] W fun e W' => e = .returned (.bool true) ∧ Below W.heap.size W W' := by
  obtain ⟨⟨A0, c0, rfl, hc0, hC0⟩, hl0, hwf⟩ := w0
  have h63 : a0.length ≤ 3518437208783 := by omega
  have HC0 := Aside0.mk hC0
  have HWF := Aside0.mk hwf
  clear hC0 hl0 hwf
  go_enter Try.func7, Try.ntmps7
  go_wp2_with fail
  (with_reducible refine (new_SI W).mono ?_)
  rintro e w1 ⟨rfl, hT, hB⟩
  have T1 := Aside0.mk hT
  have B1 := Aside0.mk hB
  clear hT hB
  go_wp2_with fail
  (with_reducible refine (new_SI w1).mono ?_)
  rintro e w2 ⟨rfl, hT, hB⟩
  have T2 := Aside0.mk hT
  have B2 := Aside0.mk hB
  clear hT hB
  have hz1 := B1.out.size
  have hz2 := B2.out.size
  go_wp2_with fail
  obtain ⟨W3, hW3⟩ : ∃ W3, W3 = (w2.alloc (.cells #[.pointer (some ⟨W.heap.size, 0, none⟩), .pointer (some ⟨w1.heap.size, 0, none⟩)] 23)).alloc (.cells #[.slice none 0 0, .slice none 0 0] 58) := ⟨_, rfl⟩
  rw [← hW3]
  obtain ⟨t, ht⟩ : ∃ t : Nat → Nat, t = fun i => if i = 0 then W.heap.size else w1.heap.size := ⟨_, rfl⟩
  have HT0 : Aside0 (t 0 = W.heap.size) := ⟨by rw [ht]; rfl⟩
  have HT1 : Aside0 (t 1 = w1.heap.size) := ⟨by rw [ht]; rfl⟩
  have hQ : PSq W W3 w2.heap.size (w2.heap.size + 1) t (fun _ => []) (fun _ => []) (fun _ => .slice none 0 0) := by
    have hb2 : Below w2.heap.size w2 W3 := by rw [hW3]; exact below_alloc (below_alloc0 _ _) _
    have hbW : Below W.heap.size W W3 := below_then (below_then B1.out B1.out.size B2.out) (Nat.le_trans hz1 hz2) hb2
    refine ⟨hbW, Nat.le_trans hz1 hz2, by omega, ?_, ?_, ⟨fun i k => if i = 0 then W.heap.size ≤ k ∧ k < w1.heap.size else w1.heap.size ≤ k, fun i hi => ?_, fun i i' k hi hi' hne h1 h2 => ?_, hbW.size⟩, fun i _ => Kd.R_nil _ _ _ _ _⟩
    · rw [hW3, ht]
      exact blk_alloc (heap_alloc_new w2 _) _
    · rw [hW3]
      have := heap_alloc_new (w2.alloc (.cells #[.pointer (some ⟨W.heap.size, 0, none⟩), .pointer (some ⟨w1.heap.size, 0, none⟩)] 23)) (.cells #[.slice none 0 0, .slice none 0 0] 58)
      simpa using this
    · match i, hi with
      | 0, _ =>
        rw [HT0.out]
        exact ((T1.out.bound).keep (S := fun _ => False) (Upd.of_below (below_then B2.out B2.out.size hb2)) (fun _ _ h => h)).mono (fun k hk => by simpa using ⟨hk.1, hk.2.2⟩)
      | 1, _ =>
        rw [HT1.out]
        exact ((T2.out.keep (S := fun _ => False) (Upd.of_below hb2) (fun _ _ h => h)).lower hz1).mono (fun k hk => by simpa using hk)
    · match i, i', hi, hi' with
      | 0, 1, _, _ => simp at h1 h2; omega
      | 1, 0, _, _ => simp at h1 h2; omega
      | 0, 0, _, _ => exact hne rfl
      | 1, 1, _, _ => exact hne rfl
  have HQ := Aside0.mk hQ
  clear hQ hW3 T1 T2 B1 B2 ht HT1 hz1 hz2
  obtain ⟨g, hg⟩ : ∃ g, g = w2.heap.size := ⟨_, rfl⟩
  rw [← hg] at HQ ⊢
  clear hg
  have hC := plays_put HQ.out (j := 0) (by omega) ⟨#[97]⟩ 1 (by simp) true (by simp [has])
  rw [HT0.out] at hC
  (with_reducible refine hC.mono ?_)
  clear hC HQ
  rintro e w4 ⟨rfl, HQ4, _⟩
  rw [put_a] at HQ4
  have h0 := HQ4.out.cg (j := 0) (by omega)
  rw [HT0.out] at h0
  go_wp2_with fail
  have hC := plays_len HQ4.out (j := 0) (by omega) 1 (by rw [upd_same]; rfl)
  rw [HT0.out] at hC
  (with_reducible refine hC.mono ?_)
  clear hC
  rintro e w5 ⟨rfl, rfl⟩
  go_wp2_with fail
  have hC := plays_cut HQ4.out (j := 0) (by omega) ⟨#[97]⟩ (by rw [upd_same]; simp) true (by rw [upd_same]; simp [has])
  rw [HT0.out] at hC
  (with_reducible refine hC.mono ?_)
  clear hC h0
  rintro e w5 ⟨rfl, HQ5, _⟩
  clear HQ4
  have HS : Aside0 (PSt W w5 g (g + 1) 0 t (fun _ => []) (fun _ => []) (fun _ => .slice none 0 0)) := ⟨by
    have hm : upd (upd (fun _ => ([] : List (ByteArray × Int))) 0 [(⟨#[97]⟩, 1)]) 0 (cut slt (upd (fun _ => ([] : List (ByteArray × Int))) 0 [(⟨#[97]⟩, 1)] 0) ⟨#[97]⟩) = fun _ => [] := by
      funext i
      by_cases hi : i = 0
      · rw [hi, upd_same, upd_same, cut_a]
      · rw [upd_other _ _ hi, upd_other _ _ hi]
    have h := HQ5.out
    rw [hm] at h
    exact ⟨h, fun i _ => List.Perm.refl _, fun i _ => Nat.le_refl _⟩⟩
  clear HQ5 HT0
  go_wp2_with fail
  go_loopw [50] (fun x wr => ∃ (s : Nat) (t : Nat → Nat) (m : Nat → List (ByteArray × Int)) (l : Nat → List Pr) (v : Nat → Value), s ≤ a0.length ∧ x = .int .i64 s ∧ Aside0 (PSt W wr g (g + 1) s t m l v)) (fun x _ => a0.length - (intOf x).toNat)
  case atStart => exact ⟨0, _, _, _, _, Nat.zero_le _, rfl, HS⟩
  case round =>
    clear HS
    obtain ⟨s, t, m, l, v, hs, rfl, HS⟩ := hrel
    by_cases hlt : s < a0.length
    · obtain ⟨⟨who, kind, key, num⟩, hx⟩ : ∃ x, a0[s]? = some x := ⟨_, List.getElem?_eq_getElem hlt⟩
      obtain ⟨ad, hA, o0, o1, o2, o3⟩ := at_Op (Kd.C_below HC0.out HS.out.q.below) s hlt _ hx
      have hw := (HWF.out _ (List.mem_iff_getElem?.2 ⟨s, hx⟩)).1
      cases hA
      obtain ⟨j, hj2, hj⟩ : ∃ j : Nat, j < 2 ∧ who % 2 = (j : Int) := ⟨(who % 2).toNat, by omega, by omega⟩
      have hand : bits .and .i64 who 1 = (j : Int) := (and_one who).trans hj
      have p0 : (0 : Int) ≤ (s : Int) := by omega
      have p1 : (s : Int) < (a0.length : Int) := by omega
      have q0 : (0 : Int) ≤ (j : Int) := by omega
      have q1 : (j : Int) < 2 := by omega
      have cgj := HS.out.q.cg hj2
      have hgl := blk_lt HS.out.q.hg
      have hbl := blk_lt HS.out.q.hb
      have HJ := Aside0.mk hj2
      clear hj hx hj2 hw
      dsimp only at o0 o1 o2 o3
      go_wp2_with fail
      obtain ⟨W5, hW5⟩ : ∃ W5, W5 = wr.alloc (.cells #[.int .i64 who, .int .i64 kind, .string key, .int .i64 num] 60) := ⟨_, rfl⟩
      rw [← hW5]
      have HS5 : Aside0 (PSt W W5 g (g + 1) s t m l v) := ⟨by rw [hW5]; exact HS.out.step_ (below_alloc0 _ _)⟩
      have OB : W5.heap[wr.heap.size]? = some (.cells #[.int .i64 who, .int .i64 kind, .string key, .int .i64 num] 60 (0, 0)) := by rw [hW5]; exact heap_alloc_new _ _
      clear hW5 o0 o1 o2 o3 cgj hgl hbl HS hand p0 p1
      have HOB := Aside0.mk OB
      obtain ⟨bo, hbo⟩ : ∃ bo, bo = wr.heap.size := ⟨_, rfl⟩
      rw [← hbo] at HOB OB ⊢
      clear hbo
      have o1 : W5.cell? ⟨bo, 1, none⟩ = some (.int .i64 kind) := (blk_cell OB 1).trans rfl
      have o2 : W5.cell? ⟨bo, 2, none⟩ = some (.string key) := (blk_cell OB 2).trans rfl
      have o3 : W5.cell? ⟨bo, 3, none⟩ = some (.int .i64 num) := (blk_cell OB 3).trans rfl
      have o0 : W5.cell? ⟨bo, 0, none⟩ = some (.int .i64 who) := (blk_cell OB 0).trans rfl
      clear OB
      obtain ⟨Aj, cj, hvj, hcj, hCj⟩ := Kd.R_reads (HS5.out.q.rows j HJ.out)
      have cbj := HS5.out.q.cb HJ.out
      rw [hvj] at cbj
      have HV := Aside0.mk (And.intro hvj (And.intro hcj hCj))
      have HSM := Aside0.mk (HS5.out.same HJ.out (by omega))
      obtain ⟨r, th, hr, hth, hrd⟩ := find_there HSM.out key
      have HR := Aside0.mk hr
      have HTH := Aside0.mk hth
      clear hvj hcj hCj hr hth
      go_quiet ((go_at_call 30; exact Calls.quiet_of ((depotref11_Find.calls ((l j).length + 1) Aj cj (l j) key r _ (Kd.C_drewN HV.out.2.2 _) HV.out.2.1 HR.out).mono (fun _ _ h => ⟨h.1, h.2.out⟩))))
      obtain ⟨W6, hW6⟩ : ∃ W6, W6 = W5.drewN nq := ⟨_, rfl⟩
      rw [← hW6]
      have HS6 : Aside0 (PSt W W6 g (g + 1) s t m l v) := ⟨by rw [hW6]; exact HS5.out.step_ (pw_below_drewN (Below.refl _ _) _)⟩
      have HV6 : Aside0 (Kd.C k40 W6 Aj (l j).length (l j)) := ⟨by rw [hW6]; exact Kd.C_drewN HV.out.2.2 _⟩
      have OB6 : Aside0 (W6.heap[bo]? = some (.cells #[.int .i64 who, .int .i64 kind, .string key, .int .i64 num] 60 (0, 0))) := ⟨by rw [hW6]; exact HOB.out⟩
      have HVJ := Aside0.mk (And.intro HV.out.1 HV.out.2.1)
      clear hW6 HS5 HV HOB HR hrd o0 o1 o2 o3 cbj
      have hmj : (m j).length ≤ 4000000000000 := by have := HS6.out.mlen HJ.out; omega
      have o1 : W6.cell? ⟨bo, 1, none⟩ = some (.int .i64 kind) := (blk_cell OB6.out 1).trans rfl
      have o2 : W6.cell? ⟨bo, 2, none⟩ = some (.string key) := (blk_cell OB6.out 2).trans rfl
      have o3 : W6.cell? ⟨bo, 3, none⟩ = some (.int .i64 num) := (blk_cell OB6.out 3).trans rfl
      by_cases hk0 : kind = 0
      · subst hk0
        go_wp2_with fail
        (with_reducible refine (plays_put HS6.out.q HJ.out key num hmj (!th) (by have := HTH.out; cases th <;> simp_all)).mono ?_)
        rintro e w7 ⟨rfl, HQ7, HU7⟩
        have o1 : w7.cell? ⟨bo, 1, none⟩ = some (.int .i64 0) := (blk_cell (HU7.out.blk OB6.out (TT.ne OB6.out (by decide) (by decide) (by decide))) 1).trans rfl
        have o2 : w7.cell? ⟨bo, 2, none⟩ = some (.string key) := (blk_cell (HU7.out.blk OB6.out (TT.ne OB6.out (by decide) (by decide) (by decide))) 2).trans rfl
        have o3 : w7.cell? ⟨bo, 3, none⟩ = some (.int .i64 num) := (blk_cell (HU7.out.blk OB6.out (TT.ne OB6.out (by decide) (by decide) (by decide))) 3).trans rfl
        have cb7 : w7.cell? ⟨g + 1, j, none⟩ = some (.slice Aj (l j).length cj) := (HQ7.out.cb HJ.out).trans (by rw [HVJ.out.1])
        have HV7 : Aside0 (Kd.C k40 w7 Aj (l j).length (l j)) := ⟨by have h := HQ7.out.rows j HJ.out; rw [HVJ.out.1] at h; exact (Kd.R_reads' h).2.2⟩
        have HPU := Aside0.mk (ref_put (l j) key num (by have := HS6.out.len j HJ.out; omega))
        obtain ⟨lx, hlx⟩ : ∃ lx : List Pr, lx = (l j).filter (fun p => decide (p.f0 ≠ key)) ++ [⟨key, num⟩] := ⟨_, rfl⟩
        rw [← hlx] at HPU
        have HLX := Aside0.mk hlx
        clear HV6 HU7 OB6 hlx
        cases th
        all_goals
          go_wp2_with fail
          refine start_ (n := 11) (S := fun w' => w'.cell? ⟨g + 1, j, none⟩ = some (.slice Aj (l j).length cj) ∧ w'.cell? ⟨bo, 2, none⟩ = some (.string key) ∧ w'.cell? ⟨bo, 3, none⟩ = some (.int .i64 num)) (ds := [10]) #[false, false, false, false, false, false, false, false, false, false, false] (by kernel_rfl) rfl rfl (⟨cb7, o2, o3⟩) (fun hHeld => ?_)
          refine pure_ (i := 0) (N := some 89) (v := ?_) (a' := ?_) #[true, false, false, false, false, false, false, false, false, false, false] rfl rfl (by kernel_rfl) (fun _ _ _ h => h) (Or.inl ⟨by rfl, ?_⟩) ?_ ?_
          rotate_left
          · intro w'
            go_simp
            with_reducible rfl
          rotate_left
          · simp only [Act.put, List.setIfInBounds_toArray, List.set_cons_zero, List.set_cons_succ, i64_w, i32_w]
            rfl
          refine pure_ (i := 1) (N := some 90) (v := ?_) (a' := ?_) #[true, true, false, false, false, false, false, false, false, false, false] rfl rfl (by kernel_rfl) (fun _ _ _ h => h) (Or.inl ⟨by rfl, ?_⟩) ?_ ?_
          rotate_left
          · intro w'
            go_simp
            with_reducible rfl
          rotate_left
          · simp only [Act.put, List.setIfInBounds_toArray, List.set_cons_zero, List.set_cons_succ, i64_w, i32_w]
            rfl
          refine pure_ (i := 2) (N := some 91) (v := ?_) (a' := ?_) #[true, true, true, false, false, false, false, false, false, false, false] rfl rfl (by kernel_rfl) (fun _ _ _ h => h) (Or.inl ⟨by rfl, ?_⟩) ?_ ?_
          rotate_left
          · intro w'
            go_simp
            with_reducible rfl
          rotate_left
          · simp only [Act.put, List.setIfInBounds_toArray, List.set_cons_zero, List.set_cons_succ, i64_w, i32_w]
            rfl
          refine take_ (i := 3) (N := some 92) (v := ?_) (a' := ?_) #[true, true, true, true, false, false, false, false, false, false, false] rfl rfl (by kernel_rfl) (fun _ _ _ h => h) (Or.inl ⟨by rfl, ?_⟩) hHeld ?_ ?_
          rotate_left
          · rintro w' ⟨s0, s1, s2⟩
            go_simp
            with_reducible rfl
          rotate_left
          · simp only [Act.put, List.setIfInBounds_toArray, List.set_cons_zero, List.set_cons_succ, i64_w, i32_w]
            rfl
          refine pure_ (i := 4) (N := some 93) (v := ?_) (a' := ?_) #[true, true, true, true, true, false, false, false, false, false, false] rfl rfl (by kernel_rfl) (fun _ _ _ h => h) (Or.inl ⟨by rfl, ?_⟩) ?_ ?_
          rotate_left
          · intro w'
            go_simp
            with_reducible rfl
          rotate_left
          · simp only [Act.put, List.setIfInBounds_toArray, List.set_cons_zero, List.set_cons_succ, i64_w, i32_w]
            rfl
          refine take_ (i := 5) (N := some 94) (v := ?_) (a' := ?_) #[true, true, true, true, true, true, false, false, false, false, false] rfl rfl (by kernel_rfl) (fun _ _ _ h => h) (Or.inl ⟨by rfl, ?_⟩) hHeld ?_ ?_
          rotate_left
          · rintro w' ⟨s0, s1, s2⟩
            go_simp
            with_reducible rfl
          rotate_left
          · simp only [Act.put, List.setIfInBounds_toArray, List.set_cons_zero, List.set_cons_succ, i64_w, i32_w]
            rfl
          refine pure_ (i := 6) (N := some 95) (v := ?_) (a' := ?_) #[true, true, true, true, true, true, true, false, false, false, false] rfl rfl (by kernel_rfl) (fun _ _ _ h => h) (Or.inl ⟨by rfl, ?_⟩) ?_ ?_
          rotate_left
          · intro w'
            go_simp
            with_reducible rfl
          rotate_left
          · simp only [Act.put, List.setIfInBounds_toArray, List.set_cons_zero, List.set_cons_succ, i64_w, i32_w]
            rfl
          refine take_ (i := 7) (N := some 96) (v := ?_) (a' := ?_) #[true, true, true, true, true, true, true, true, false, false, false] rfl rfl (by kernel_rfl) (fun _ _ _ h => h) (Or.inl ⟨by rfl, ?_⟩) hHeld ?_ ?_
          rotate_left
          · rintro w' ⟨s0, s1, s2⟩
            go_simp
            with_reducible rfl
          rotate_left
          · simp only [Act.put, List.setIfInBounds_toArray, List.set_cons_zero, List.set_cons_succ, i64_w, i32_w]
            rfl
          refine one_ (i := 8) (N := some 97) #[true, true, true, true, true, true, true, true, true, false, false] rfl rfl (by kernel_rfl) (by decide) (fun K hK => ?_)
          refine goes_ Try.func11 (by kernel_rfl) rfl #[.slice Aj (l j).length cj, .string key, .int .i64 num] (by rfl) rfl rfl (by (try simp only [List.map_toArray, List.map_cons, List.map_nil]); first | done | rfl) ?_
          refine (depotref11_Put.calls ((l j).length + 1) Aj cj (l j) key num _ _ (Kd.C_drew HV7.out) HVJ.out.2 HPU.out).mono ?_
          rintro e w8 ⟨v8, rfl, hR8, hb8⟩
          have HQ8 := Aside0.mk (HQ7.out.step_ (below_two (below_drew (Below.refl _ _)) hb8))
          have HR8 := Aside0.mk (Kd.R_lower hR8 HQ7.out.below.size)
          obtain ⟨A8, c8, hv8⟩ := Kd.R_slice hR8
          subst hv8
          have e2 := pw_cell_below hb8 (show w7.drew.cell? ⟨bo, 2, none⟩ = some (.string key) from o2)
          have e3 := pw_cell_below hb8 (show w7.drew.cell? ⟨bo, 3, none⟩ = some (.int .i64 num) from o3)
          have eb := pw_cell_below hb8 (show w7.drew.cell? ⟨g + 1, j, none⟩ = some (.slice Aj (l j).length cj) from cb7)
          have ez := HQ8.out.zb j
          clear hR8 hb8
          refine ⟨_, rfl, ?_⟩
          refine hK.out _ _ ⟨eb, e2, e3⟩ (fun _ => ?_)
          clear hK K
          refine pure_ (i := 9) (N := some 98) (v := ?_) (a' := ?_) #[true, true, true, true, true, true, true, true, true, true, false] rfl rfl (by kernel_rfl) (fun _ _ _ h => h) (Or.inl ⟨by rfl, ?_⟩) ?_ ?_
          rotate_left
          · intro w'
            go_simp
            with_reducible rfl
          rotate_left
          · simp only [Act.put, List.setIfInBounds_toArray, List.set_cons_zero, List.set_cons_succ, i64_w, i32_w]
            rfl
          refine last_ (i := 10) (N := none) #[true, true, true, true, true, true, true, true, true, true, true] rfl rfl (by kernel_rfl) (by decide) (fun K hK => ?_)
          refine skip_ (w1 := w8.setCell ⟨g + 1, j, none⟩ (.slice A8 lx.length c8)) (by rfl) rfl ?_ ?_
          · go_simp
          refine hK.out _ _ ?_
          clear hK K
          refine done_ (by kernel_rfl) ?_
          have HF := Aside0.mk (HQ8.out.row HJ.out HR8.out)
          clear HQ8 HR8 eb e2 e3 ez
          go_wp2_with fail
          go_roundw
          case rel => exact ⟨s + 1, t, _, _, _, by omega, by go_num, ⟨done_put HS6.out HJ.out HLX.out HF.out⟩⟩
          case measure => simp [intOf]; omega
      · have k0 : (kind == 0) = false := by simpa using hk0
        by_cases hk2 : kind = 2
        · subst hk2
          go_wp2_with fail
          (with_reducible refine (plays_cut HS6.out.q HJ.out key hmj th HTH.out).mono ?_)
          rintro e w7 ⟨rfl, HQ7, HU7⟩
          have o1 : w7.cell? ⟨bo, 1, none⟩ = some (.int .i64 2) := (blk_cell (HU7.out.blk OB6.out (TT.ne OB6.out (by decide) (by decide) (by decide))) 1).trans rfl
          have o2 : w7.cell? ⟨bo, 2, none⟩ = some (.string key) := (blk_cell (HU7.out.blk OB6.out (TT.ne OB6.out (by decide) (by decide) (by decide))) 2).trans rfl
          have o3 : w7.cell? ⟨bo, 3, none⟩ = some (.int .i64 num) := (blk_cell (HU7.out.blk OB6.out (TT.ne OB6.out (by decide) (by decide) (by decide))) 3).trans rfl
          have cb7 : w7.cell? ⟨g + 1, j, none⟩ = some (.slice Aj (l j).length cj) := (HQ7.out.cb HJ.out).trans (by rw [HVJ.out.1])
          have HV7 : Aside0 (Kd.C k40 w7 Aj (l j).length (l j)) := ⟨by have h := HQ7.out.rows j HJ.out; rw [HVJ.out.1] at h; exact (Kd.R_reads' h).2.2⟩
          have HPU := Aside0.mk (ref_cut (l j) key (by have := HS6.out.len j HJ.out; omega))
          obtain ⟨lx, hlx⟩ : ∃ lx : List Pr, lx = (l j).filter (fun p => decide (p.f0 ≠ key)) := ⟨_, rfl⟩
          rw [← hlx] at HPU
          have HLX := Aside0.mk hlx
          clear HV6 HU7 OB6 hlx
          cases th
          all_goals
            go_wp2_with fail
            refine start_ (n := 9) (S := fun w' => w'.cell? ⟨g + 1, j, none⟩ = some (.slice Aj (l j).length cj) ∧ w'.cell? ⟨bo, 2, none⟩ = some (.string key)) (ds := [8]) #[false, false, false, false, false, false, false, false, false] (by kernel_rfl) rfl rfl (⟨cb7, o2⟩) (fun hHeld => ?_)
            refine pure_ (i := 0) (N := some 107) (v := ?_) (a' := ?_) #[true, false, false, false, false, false, false, false, false] rfl rfl (by kernel_rfl) (fun _ _ _ h => h) (Or.inl ⟨by rfl, ?_⟩) ?_ ?_
            rotate_left
            · intro w'
              go_simp
              with_reducible rfl
            rotate_left
            · simp only [Act.put, List.setIfInBounds_toArray, List.set_cons_zero, List.set_cons_succ, i64_w, i32_w]
              rfl
            refine pure_ (i := 1) (N := some 108) (v := ?_) (a' := ?_) #[true, true, false, false, false, false, false, false, false] rfl rfl (by kernel_rfl) (fun _ _ _ h => h) (Or.inl ⟨by rfl, ?_⟩) ?_ ?_
            rotate_left
            · intro w'
              go_simp
              with_reducible rfl
            rotate_left
            · simp only [Act.put, List.setIfInBounds_toArray, List.set_cons_zero, List.set_cons_succ, i64_w, i32_w]
              rfl
            refine pure_ (i := 2) (N := some 109) (v := ?_) (a' := ?_) #[true, true, true, false, false, false, false, false, false] rfl rfl (by kernel_rfl) (fun _ _ _ h => h) (Or.inl ⟨by rfl, ?_⟩) ?_ ?_
            rotate_left
            · intro w'
              go_simp
              with_reducible rfl
            rotate_left
            · simp only [Act.put, List.setIfInBounds_toArray, List.set_cons_zero, List.set_cons_succ, i64_w, i32_w]
              rfl
            refine take_ (i := 3) (N := some 110) (v := ?_) (a' := ?_) #[true, true, true, true, false, false, false, false, false] rfl rfl (by kernel_rfl) (fun _ _ _ h => h) (Or.inl ⟨by rfl, ?_⟩) hHeld ?_ ?_
            rotate_left
            · rintro w' ⟨s0, s1⟩
              go_simp
              with_reducible rfl
            rotate_left
            · simp only [Act.put, List.setIfInBounds_toArray, List.set_cons_zero, List.set_cons_succ, i64_w, i32_w]
              rfl
            refine pure_ (i := 4) (N := some 111) (v := ?_) (a' := ?_) #[true, true, true, true, true, false, false, false, false] rfl rfl (by kernel_rfl) (fun _ _ _ h => h) (Or.inl ⟨by rfl, ?_⟩) ?_ ?_
            rotate_left
            · intro w'
              go_simp
              with_reducible rfl
            rotate_left
            · simp only [Act.put, List.setIfInBounds_toArray, List.set_cons_zero, List.set_cons_succ, i64_w, i32_w]
              rfl
            refine take_ (i := 5) (N := some 112) (v := ?_) (a' := ?_) #[true, true, true, true, true, true, false, false, false] rfl rfl (by kernel_rfl) (fun _ _ _ h => h) (Or.inl ⟨by rfl, ?_⟩) hHeld ?_ ?_
            rotate_left
            · rintro w' ⟨s0, s1⟩
              go_simp
              with_reducible rfl
            rotate_left
            · simp only [Act.put, List.setIfInBounds_toArray, List.set_cons_zero, List.set_cons_succ, i64_w, i32_w]
              rfl
            refine one_ (i := 6) (N := some 113) #[true, true, true, true, true, true, true, false, false] rfl rfl (by kernel_rfl) (by decide) (fun K hK => ?_)
            refine goes_ Try.func17 (by kernel_rfl) rfl #[.slice Aj (l j).length cj, .string key] (by rfl) rfl rfl (by (try simp only [List.map_toArray, List.map_cons, List.map_nil]); first | done | rfl) ?_
            refine (depotref11_Cut.calls ((l j).length + 1) Aj cj (l j) key _ _ (Kd.C_drew HV7.out) HVJ.out.2 HPU.out).mono ?_
            rintro e w8 ⟨v8, rfl, hR8, hb8⟩
            have HQ8 := Aside0.mk (HQ7.out.step_ (below_two (below_drew (Below.refl _ _)) hb8))
            have HR8 := Aside0.mk (Kd.R_lower hR8 HQ7.out.below.size)
            obtain ⟨A8, c8, hv8⟩ := Kd.R_slice hR8
            subst hv8
            have e2 := pw_cell_below hb8 (show w7.drew.cell? ⟨bo, 2, none⟩ = some (.string key) from o2)
            have eb := pw_cell_below hb8 (show w7.drew.cell? ⟨g + 1, j, none⟩ = some (.slice Aj (l j).length cj) from cb7)
            have ez := HQ8.out.zb j
            clear hR8 hb8
            refine ⟨_, rfl, ?_⟩
            refine hK.out _ _ ⟨eb, e2⟩ (fun _ => ?_)
            clear hK K
            refine pure_ (i := 7) (N := some 114) (v := ?_) (a' := ?_) #[true, true, true, true, true, true, true, true, false] rfl rfl (by kernel_rfl) (fun _ _ _ h => h) (Or.inl ⟨by rfl, ?_⟩) ?_ ?_
            rotate_left
            · intro w'
              go_simp
              with_reducible rfl
            rotate_left
            · simp only [Act.put, List.setIfInBounds_toArray, List.set_cons_zero, List.set_cons_succ, i64_w, i32_w]
              rfl
            refine last_ (i := 8) (N := none) #[true, true, true, true, true, true, true, true, true] rfl rfl (by kernel_rfl) (by decide) (fun K hK => ?_)
            refine skip_ (w1 := w8.setCell ⟨g + 1, j, none⟩ (.slice A8 lx.length c8)) (by rfl) rfl ?_ ?_
            · go_simp
            refine hK.out _ _ ?_
            clear hK K
            refine done_ (by kernel_rfl) ?_
            have HF := Aside0.mk (HQ8.out.row HJ.out HR8.out)
            clear HQ8 HR8 eb e2 ez
            go_wp2_with fail
            go_roundw
            case rel => exact ⟨s + 1, t, _, _, _, by omega, by go_num, ⟨done_cut HS6.out HJ.out HLX.out HF.out⟩⟩
            case measure => simp [intOf]; omega
        · have k2 : (kind == 2) = false := by simpa using hk2
          by_cases hk6 : kind = 6
          · subst hk6
            go_wp2_with fail
            obtain ⟨i2, hi2, hij, hi2e⟩ : ∃ i2 : Nat, i2 < 2 ∧ i2 ≠ j ∧ (1 : Int) - (j : Int) = (i2 : Int) := ⟨1 - j, by omega, by have := HJ.out; omega, by have := HJ.out; omega⟩
            have HI := Aside0.mk (And.intro hi2 hij)
            have r0 : (0 : Int) ≤ (i2 : Int) := by omega
            have r1 : (i2 : Int) < 2 := by omega
            have cb6 : W6.cell? ⟨g + 1, j, none⟩ = some (.slice Aj (l j).length cj) := (HS6.out.q.cb HJ.out).trans (by rw [HVJ.out.1])
            have hw64 : wrap64 ((i2 : Nat) : Int) = (i2 : Int) := by unfold wrap64; omega
            clear hi2 hij
            refine start_ (n := 14) (S := fun w' => w'.cell? ⟨g + 1, j, none⟩ = some (.slice Aj (l j).length cj)) (ds := [13]) #[false, false, false, false, false, false, false, false, false, false, false, false, false, false] (by kernel_rfl) rfl rfl (cb6) (fun hHeld => ?_)
            refine pure_ (i := 0) (N := some 117) (v := ?_) (a' := ?_) #[true, false, false, false, false, false, false, false, false, false, false, false, false, false] rfl rfl (by kernel_rfl) (fun _ _ _ h => h) (Or.inl ⟨by rfl, ?_⟩) ?_ ?_
            rotate_left
            · intro w'
              go_simp
              with_reducible rfl
            rotate_left
            · simp only [Act.put, List.setIfInBounds_toArray, List.set_cons_zero, List.set_cons_succ, i64_w, i32_w]
              rfl
            refine pure_ (i := 1) (N := some 118) (v := ?_) (a' := ?_) #[true, true, false, false, false, false, false, false, false, false, false, false, false, false] rfl rfl (by kernel_rfl) (fun _ _ _ h => h) (Or.inl ⟨by rfl, ?_⟩) ?_ ?_
            rotate_left
            · intro w'
              go_simp
              with_reducible rfl
            rotate_left
            · simp only [Act.put, List.setIfInBounds_toArray, List.set_cons_zero, List.set_cons_succ, i64_w, i32_w]
              rfl
            refine pure_ (i := 2) (N := some 119) (v := ?_) (a' := ?_) #[true, true, true, false, false, false, false, false, false, false, false, false, false, false] rfl rfl (by kernel_rfl) (fun _ _ _ h => h) (Or.inl ⟨by rfl, ?_⟩) ?_ ?_
            rotate_left
            · intro w'
              go_simp
              with_reducible rfl
            rotate_left
            · simp only [Act.put, List.setIfInBounds_toArray, List.set_cons_zero, List.set_cons_succ, i64_w, i32_w]
              rfl
            refine pure_ (i := 3) (N := some 120) (v := ?_) (a' := ?_) #[true, true, true, true, false, false, false, false, false, false, false, false, false, false] rfl rfl (by kernel_rfl) (fun _ _ _ h => h) (Or.inl ⟨by rfl, ?_⟩) ?_ ?_
            rotate_left
            · intro w'
              go_simp
              with_reducible rfl
            rotate_left
            · simp only [Act.put, List.setIfInBounds_toArray, List.set_cons_zero, List.set_cons_succ, i64_w, i32_w]
              rfl
            refine pure_ (i := 4) (N := some 121) (v := ?_) (a' := ?_) #[true, true, true, true, true, false, false, false, false, false, false, false, false, false] rfl rfl (by kernel_rfl) (fun _ _ _ h => h) (Or.inl ⟨by rfl, ?_⟩) ?_ ?_
            rotate_left
            · intro w'
              go_simp
              with_reducible rfl
            rotate_left
            · simp only [Act.put, List.setIfInBounds_toArray, List.set_cons_zero, List.set_cons_succ, i64_w, i32_w]
              rfl
            refine pure_ (i := 5) (N := some 122) (v := ?_) (a' := ?_) #[true, true, true, true, true, true, false, false, false, false, false, false, false, false] rfl rfl (by kernel_rfl) (fun _ _ _ h => h) (Or.inl ⟨by rfl, ?_⟩) ?_ ?_
            rotate_left
            · intro w'
              go_simp
              with_reducible rfl
            rotate_left
            · simp only [Act.put, List.setIfInBounds_toArray, List.set_cons_zero, List.set_cons_succ, i64_w, i32_w]
              rfl
            refine pure_ (i := 7) (N := some 124) (v := ?_) (a' := ?_) #[true, true, true, true, true, true, false, true, false, false, false, false, false, false] rfl rfl (by kernel_rfl) (fun _ _ _ h => h) (Or.inl ⟨by rfl, ?_⟩) ?_ ?_
            rotate_left
            · intro w'
              go_simp
              with_reducible rfl
            rotate_left
            · simp only [Act.put, List.setIfInBounds_toArray, List.set_cons_zero, List.set_cons_succ, i64_w, i32_w]
              rfl
            refine pure_ (i := 8) (N := some 125) (v := ?_) (a' := ?_) #[true, true, true, true, true, true, false, true, true, false, false, false, false, false] rfl rfl (by kernel_rfl) (fun _ _ _ h => h) (Or.inl ⟨by rfl, ?_⟩) ?_ ?_
            rotate_left
            · intro w'
              go_simp
              with_reducible rfl
            rotate_left
            · simp only [Act.put, List.setIfInBounds_toArray, List.set_cons_zero, List.set_cons_succ, i64_w, i32_w]
              rfl
            refine take_ (i := 9) (N := some 126) (v := ?_) (a' := ?_) #[true, true, true, true, true, true, false, true, true, true, false, false, false, false] rfl rfl (by kernel_rfl) (fun _ _ _ h => h) (Or.inl ⟨by rfl, ?_⟩) hHeld ?_ ?_
            rotate_left
            · intro w' s0
              go_simp
              with_reducible rfl
            rotate_left
            · simp only [Act.put, List.setIfInBounds_toArray, List.set_cons_zero, List.set_cons_succ, i64_w, i32_w]
              rfl
            refine one_ (i := 6) (N := some 123) #[true, true, true, true, true, true, true, true, true, true, false, false, false, false] rfl rfl (by kernel_rfl) (by decide) (fun K hK => ?_)
            refine goes_ Try.func13 (by kernel_rfl) rfl #[.pointer (some ⟨t j, 0, none⟩)] (by rfl) rfl rfl (by (try simp only [List.map_toArray, List.map_cons, List.map_nil]); first | done | rfl) ?_
            refine (plays_fork (HS6.out.q.step_ (below_drew (Below.refl _ _))) HI.out.1 HJ.out HI.out.2 hmj).mono ?_
            rintro e w8 ⟨t', rfl, HP8, HB8⟩
            have HQ8 := Aside0.mk (HS6.out.q.step_ (below_two (below_drew (Below.refl _ _)) HB8.out))
            have HQ9 := Aside0.mk (HQ8.out.tabl HI.out.1 HP8.out)
            have hg8 := HQ8.out.cg HI.out.1
            have zg8 := HQ8.out.zg i2
            have eb := (HQ8.out.cb HJ.out).trans (show _ = some (Value.slice Aj (l j).length cj) by rw [HVJ.out.1])
            have eb9 := (HQ9.out.cb HJ.out).trans (show _ = some (Value.slice Aj (l j).length cj) by rw [HVJ.out.1])
            have ez9 := HQ9.out.zb i2
            obtain ⟨A9, c9, hv9⟩ := Kd.R_slice (HQ8.out.rows i2 HI.out.1)
            have eo9 := (HQ9.out.cb HI.out.1).trans (show _ = some (Value.slice A9 (l i2).length c9) by rw [hv9])
            have HRJ : Aside0 (Kd.R k40 40 (w8.setCell ⟨g, i2, none⟩ (.pointer (some ⟨t', 0, none⟩))) W.heap.size (fun _ => True) (.slice Aj (l j).length cj) (l j)) := ⟨by have h := HQ9.out.rows j HJ.out; rw [HVJ.out.1] at h; exact h⟩
            clear hv9
            refine ⟨_, rfl, ?_⟩
            refine hK.out _ _ eb (fun _ => ?_)
            clear hK K
            refine pure_ (i := 10) (N := some 127) (v := ?_) (a' := ?_) #[true, true, true, true, true, true, true, true, true, true, true, false, false, false] rfl rfl (by kernel_rfl) (fun _ _ _ h => h) (Or.inl ⟨by rfl, ?_⟩) ?_ ?_
            rotate_left
            · intro w'
              go_simp
              with_reducible rfl
            rotate_left
            · simp only [Act.put, List.setIfInBounds_toArray, List.set_cons_zero, List.set_cons_succ, i64_w, i32_w]
              rfl
            refine one_ (i := 11) (N := none) #[true, true, true, true, true, true, true, true, true, true, true, true, false, false] rfl rfl (by kernel_rfl) (by decide) (fun K hK => ?_)
            refine skip_ (w1 := w8.setCell ⟨g, i2, none⟩ (.pointer (some ⟨t', 0, none⟩))) (by rfl) rfl ?_ ?_
            · go_simp
            refine hK.out _ _ eb9 (fun _ => ?_)
            clear hK K
            refine pure_ (i := 12) (N := some 128) (v := ?_) (a' := ?_) #[true, true, true, true, true, true, true, true, true, true, true, true, true, false] rfl rfl (by kernel_rfl) (fun _ _ _ h => h) (Or.inl ⟨by rfl, ?_⟩) ?_ ?_
            rotate_left
            · intro w'
              go_simp
              with_reducible rfl
            rotate_left
            · simp only [Act.put, List.setIfInBounds_toArray, List.set_cons_zero, List.set_cons_succ, i64_w, i32_w]
              rfl
            refine last_ (i := 13) (N := none) #[true, true, true, true, true, true, true, true, true, true, true, true, true, true] rfl rfl (by kernel_rfl) (by decide) (fun K hK => ?_)
            refine skip_ (w1 := (w8.setCell ⟨g, i2, none⟩ (.pointer (some ⟨t', 0, none⟩))).setCell ⟨g + 1, i2, none⟩ (.slice Aj (l j).length cj)) (by rfl) rfl ?_ ?_
            · go_simp
            refine hK.out _ _ ?_
            clear hK K
            refine done_ (by kernel_rfl) ?_
            have HF := Aside0.mk (HQ9.out.row HI.out.1 HRJ.out)
            clear HQ8 HQ9 HRJ HP8 HB8 eb eb9 ez9 eo9 hg8 zg8 cb6 hw64 hi2e
            go_wp2_with fail
            go_roundw
            case rel => exact ⟨s + 1, _, _, _, _, by omega, by go_num, ⟨done_fork HS6.out HJ.out HF.out⟩⟩
            case measure => simp [intOf]; omega
          · have k6 : (kind == 6) = false := by simpa using hk6
            go_wp2_with fail
            have cb6 : W6.cell? ⟨g + 1, j, none⟩ = some (.slice Aj (l j).length cj) := (HS6.out.q.cb HJ.out).trans (by rw [HVJ.out.1])
            have o0 : W6.cell? ⟨bo, 0, none⟩ = some (.int .i64 who) := (blk_cell OB6.out 0).trans rfl
            have hsn : s ≤ 4000000000000 := by omega
            refine start_ (n := 7) (S := fun w' => w'.cell? ⟨g + 1, j, none⟩ = some (.slice Aj (l j).length cj) ∧ w'.cell? ⟨bo, 0, none⟩ = some (.int .i64 who) ∧ w'.cell? ⟨bo, 1, none⟩ = some (.int .i64 kind) ∧ w'.cell? ⟨bo, 2, none⟩ = some (.string key) ∧ w'.cell? ⟨bo, 3, none⟩ = some (.int .i64 num)) (ds := []) #[false, false, false, false, false, false, false] (by kernel_rfl) rfl rfl (⟨cb6, o0, o1, o2, o3⟩) (fun hHeld => ?_)
            refine pure_ (i := 0) (N := some 72) (v := ?_) (a' := ?_) #[true, false, false, false, false, false, false] rfl rfl (by kernel_rfl) (fun _ _ _ h => h) (Or.inl ⟨by rfl, ?_⟩) ?_ ?_
            rotate_left
            · intro w'
              go_simp
              with_reducible rfl
            rotate_left
            · simp only [Act.put, List.setIfInBounds_toArray, List.set_cons_zero, List.set_cons_succ, i64_w, i32_w]
              rfl
            refine pure_ (i := 1) (N := some 73) (v := ?_) (a' := ?_) #[true, true, false, false, false, false, false] rfl rfl (by kernel_rfl) (fun _ _ _ h => h) (Or.inl ⟨by rfl, ?_⟩) ?_ ?_
            rotate_left
            · intro w'
              go_simp
              with_reducible rfl
            rotate_left
            · simp only [Act.put, List.setIfInBounds_toArray, List.set_cons_zero, List.set_cons_succ, i64_w, i32_w]
              rfl
            refine pure_ (i := 2) (N := some 74) (v := ?_) (a' := ?_) #[true, true, true, false, false, false, false] rfl rfl (by kernel_rfl) (fun _ _ _ h => h) (Or.inl ⟨by rfl, ?_⟩) ?_ ?_
            rotate_left
            · intro w'
              go_simp
              with_reducible rfl
            rotate_left
            · simp only [Act.put, List.setIfInBounds_toArray, List.set_cons_zero, List.set_cons_succ, i64_w, i32_w]
              rfl
            refine take_ (i := 3) (N := some 75) (v := ?_) (a' := ?_) #[true, true, true, true, false, false, false] rfl rfl (by kernel_rfl) (fun _ _ _ h => h) (Or.inl ⟨by rfl, ?_⟩) hHeld ?_ ?_
            rotate_left
            · rintro w' ⟨s0, s1, s2, s3, s4⟩
              go_simp
              with_reducible rfl
            rotate_left
            · simp only [Act.put, List.setIfInBounds_toArray, List.set_cons_zero, List.set_cons_succ, i64_w, i32_w]
              rfl
            refine take_ (i := 4) (N := some 76) (v := ?_) (a' := ?_) #[true, true, true, true, true, false, false] rfl rfl (by kernel_rfl) (fun _ _ _ h => h) (Or.inl ⟨by rfl, ?_⟩) hHeld ?_ ?_
            rotate_left
            · rintro w' ⟨s0, s1, s2, s3, s4⟩
              go_simp
              with_reducible rfl
            rotate_left
            · simp only [Act.put, List.setIfInBounds_toArray, List.set_cons_zero, List.set_cons_succ, i64_w, i32_w]
              rfl
            refine one_ (i := 5) (N := some 77) #[true, true, true, true, true, true, false] rfl rfl (by kernel_rfl) (by decide) (fun K hK => ?_)
            refine goes_ Try.func31 (by kernel_rfl) rfl #[.pointer (some ⟨t j, 0, none⟩), .slice Aj (l j).length cj, .agg #[.int .i64 who, .int .i64 kind, .string key, .int .i64 num]] (by rfl) rfl rfl (by (try simp only [List.map_toArray, List.map_cons, List.map_nil]); first | done | rfl) ?_
            refine (plays_asked (HS6.out.step_ (below_drew (Below.refl _ _))) HJ.out hsn HVJ.out.1 who kind num key).mono ?_
            rintro e w8 ⟨rfl, hb8⟩
            have HF := Aside0.mk ((HS6.out.step_ (below_two (below_drew (Below.refl _ _)) hb8)).more (Nat.le_succ s))
            have hb9 := below_two (below_drew (Below.refl W6.heap.size W6)) hb8
            refine ⟨_, rfl, ?_⟩
            refine hK.out _ _ ⟨pw_cell_below hb9 cb6, pw_cell_below hb9 o0, pw_cell_below hb9 o1, pw_cell_below hb9 o2, pw_cell_below hb9 o3⟩ (fun _ => ?_)
            clear hK K hb9 hb8
            refine pure_ (i := 6) (N := some 78) (v := ?_) (a' := ?_) #[true, true, true, true, true, true, true] rfl rfl (by kernel_rfl) (fun _ _ _ h => h) (Or.inl ⟨by rfl, ?_⟩) ?_ ?_
            rotate_left
            · intro w'
              go_simp
              with_reducible rfl
            rotate_left
            · simp only [Act.put, List.setIfInBounds_toArray, List.set_cons_zero, List.set_cons_succ, i64_w, i32_w]
              rfl
            refine done_ (by kernel_rfl) ?_
            go_wp2_with fail
            go_roundw
            case rel => exact ⟨s + 1, _, _, _, _, by omega, by go_num, HF⟩
            case measure => simp [intOf]; omega
    · obtain rfl : s = a0.length := by omega
      go_wp2_with fail
      obtain ⟨wo, rfl⟩ : ∃ wo : World, wo = wr := ⟨_, rfl⟩
      go_loopw [132] (fun x wr => ∃ i : Nat, i ≤ 2 ∧ x = .int .i64 i ∧ Aside0 (PSt W wr g (g + 1) a0.length t m l v)) (fun x _ => 2 - (intOf x).toNat)
      case atStart => exact ⟨0, by omega, rfl, HS⟩
      case round =>
        clear HS
        obtain ⟨i, hi, rfl, HS⟩ := hrel
        by_cases hi2 : i < 2
        · have cgi := HS.out.q.cg hi2
          obtain ⟨Ai, ci, hvi, hci, hCi⟩ := Kd.R_reads (HS.out.q.rows i hi2)
          have cbi := (HS.out.q.cb hi2).trans (show _ = some (Value.slice Ai (l i).length ci) by rw [hvi])
          have HI := Aside0.mk (And.intro hi2 hvi)
          have p0 : (0 : Int) ≤ (i : Int) := by omega
          have p1 : (i : Int) < 2 := by omega
          have hsn : a0.length ≤ 4000000000000 := by omega
          clear hvi hci hCi hi2
          go_wp2_with fail
          (with_reducible refine (plays_asked HS.out HI.out.1 hsn HI.out.2 0 5 0 ⟨#[]⟩).mono ?_)
          rintro e w8 ⟨rfl, hb8⟩
          have HS8 := Aside0.mk (HS.out.step_ hb8)
          have cbi8 := (HS8.out.q.cb HI.out.1).trans (show _ = some (Value.slice Ai (l i).length ci) by rw [HI.out.2])
          clear HS hb8
          go_wp2_with fail
          go_loopw [152] (fun y wr => ∃ c : Nat, c ≤ (l i).length ∧ y = .int .i64 c ∧ Aside0 (PSt W wr g (g + 1) a0.length t m l v)) (fun y _ => (l i).length - (intOf y).toNat)
          case atStart => exact ⟨0, Nat.zero_le _, rfl, HS8⟩
          case round =>
            clear HS8
            obtain ⟨c, hc, rfl, HS⟩ := hrel
            by_cases hlt : c < (l i).length
            · have hR := HS.out.q.rows i HI.out.1
              rw [HI.out.2] at hR
              obtain ⟨ad, hA, e0, e1⟩ := at_T40 (Kd.R_reads' hR).2.2 (c : Int) (by omega) (by omega)
              rw [rdP hlt] at e0 e1
              simp only [Int.toNat_natCast] at e0 e1
              have hmem := (HS.out.same HI.out.1 hsn).mem (List.getElem_mem hlt)
              generalize (l i)[c] = p at e0 e1 hmem
              have HM := Aside0.mk hmem
              cases hA
              have q0 : (0 : Int) ≤ (c : Int) := by omega
              have hlb : (l i).length ≤ 4000000000000 := by have := HS.out.len i HI.out.1; omega
              have q1 : (c : Int) < ((l i).length : Int) := by omega
              clear hmem hR
              go_wp2_with fail
              obtain ⟨W9, hW9⟩ : ∃ W9, W9 = wr.alloc (.cells #[.string p.f0, .int .i64 p.f1] 40) := ⟨_, rfl⟩
              rw [← hW9]
              have HS9 : Aside0 (PSt W W9 g (g + 1) a0.length t m l v) := ⟨by rw [hW9]; exact HS.out.step_ (below_alloc0 _ _)⟩
              have OB : W9.heap[wr.heap.size]? = some (.cells #[.string p.f0, .int .i64 p.f1] 40 (0, 0)) := by rw [hW9]; exact heap_alloc_new _ _
              have f0 : W9.cell? ⟨wr.heap.size, 0, none⟩ = some (.string p.f0) := (blk_cell OB 0).trans rfl
              have f1 : W9.cell? ⟨wr.heap.size, 1, none⟩ = some (.int .i64 p.f1) := (blk_cell OB 1).trans rfl
              obtain ⟨ok, hT⟩ := HS9.out.q.ps.tab HI.out.1
              have HT := Aside0.mk hT
              have hml := HS9.out.mlen HI.out.1
              have hm : (m i).length < 2305843009213693952 := by omega
              clear hW9 OB hT HS e0 e1 hml
              (with_reducible refine (getold_SI W9 W.heap.size (t i) ok (m i) p.f0 p.f1 HT.out HM.out hm).mono ?_)
              rintro e w10 ⟨rfl, hd⟩
              obtain ⟨q, rfl⟩ := hd.out
              have HS10 := Aside0.mk (HS9.out.step_ (pw_below_drewN (Below.refl _ _) q))
              clear hd HS9 HT
              go_wp2_with fail
              go_roundw
              case rel => exact ⟨c + 1, by omega, by go_num, HS10⟩
              case measure => simp [intOf]; omega
            · obtain rfl : c = (l i).length := by omega
              have hi3 := HI.out.1
              go_wp2_with fail
              go_roundw
              case rel => exact ⟨i + 1, by omega, by go_num, HS⟩
              case measure => simp [intOf]; omega
        · obtain rfl : i = 2 := by omega
          go_wp2_with fail
          go_ret
          exact ⟨rfl, HS.out.q.below⟩
end Go.Proofs.Ytkpicjhhkdjejaa
