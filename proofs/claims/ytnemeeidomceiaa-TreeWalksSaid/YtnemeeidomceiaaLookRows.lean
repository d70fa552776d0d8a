import Derived.Test.YtnemeeidomceiaaLookTop
/-! Walk: the program's own rows of a tree that has no offence. -/
namespace Go.Proofs.Ytnemeeidomceiaa
open Go.RowKit Go.Proofs.YtnemeeidomceiaaW.PrintWords Go.Proofs.YtnemeeidomceiaaW.PrintLast Go.Proofs.YtnemeeidomceiaaW.PrintMore Go.Proofs.Ytnemeeidomceiaa.PTreeChecks
set_option linter.unusedVariables false
set_option linter.unusedSimpArgs false
abbrev OwnRw := S52
/-- A row of the walk as the program's. -/
def rowW (r : RowT) : OwnRw := ⟨r.1, r.2.1, r.2.2.1, r.2.2.2⟩
abbrev RowsW (w : World) (base : Nat) (v : Value) (rows : List OwnRw) : Prop := Kd.R k52 52 w base (fun _ => True) v rows
theorem rowsW_upd {S : Nat → Prop} {w w1 : World} {base : Nat} {v : Value} {rows : List OwnRw} (h : RowsW w base v rows) (hU : Upd S w w1) (hS : ∀ k, S k → ∃ t cells, w.heap[k]? = some (.cells cells t (0, 0)) ∧ t ≠ 52) : RowsW w1 base v rows :=
  Kd.R_mono (Kd.R_step (Kd.R_bound h) (fun k hk hlt => hU.block k hlt (fun hs => by
    obtain ⟨t, cells, hc, ht⟩ := hS k hs
    obtain ⟨_, _, _, q, hq, cells2, hc2⟩ := hk
    rw [hc] at hc2
    injection hc2 with hc2
    injection hc2 with _ h2
    rcases List.mem_cons.1 hq with h | h
    · exact ht (h2.trans h)
    · rw [show k52.E = [] from rfl] at h; cases h))) (fun _ _ => trivial)
theorem rowsW_ne {w : World} {base g : Nat} {v : Value} {rows : List OwnRw} {q : TypeId} {vs : List Value} (h : RowsW w base v rows) (hb : Blk w g q vs) (hq : q ≠ 52) : ¬ (v.ownBlock = some g) := fun e => Kd.R_ne h hb (fun e => hq e.symm) e.symm
theorem rowsW_base {w : World} {base : Nat} {v : Value} {rows : List OwnRw} (h : RowsW w base v rows) (k : Nat) (hk : v.ownBlock = some k) : base ≤ k := by
  obtain ⟨inner, ho⟩ := Kd.R_own h
  exact own_base ho k hk
/-- A call of a closure in a region. -/
theorem goesC_ {P : Program} {ops : Array Oper} {Q : Exit → Act → World → Prop} {oi : Oper} {N : Option Tmp} {a : Act} {w : World} {K : Act → World → Prop} {f : FuncId} {fn : Func} {c : Operand} {as1 : Array Operand} {ts : Array TypeId} {cap : Array Value} (hf : P.funcs[f]? = some fn) (hname : (fn.name == "runtime.NumGoroutine") = false) (hb : fn.body.isSome = true) (args : Array Value)
    (hw : Region.wanted oi (yielded ops a.tmps) = true) (hN : oi.dst = N) (hop : oi.op = .call { callee := .value c, args := as1, argTypes := ts }) (hc : a.eval c = .func (.func f) #[] cap) (hargs : as1.map a.eval = args)
    (h : Calls P f (args ++ cap) w fun e w' => ∃ v, e = .returned v ∧ K (a.put N v) w') : if Region.wanted oi (yielded ops a.tmps) = true then Oper.wp P oi a w K Q else K (a.put N undef) w := by
  refine call_ f (args ++ cap) hw hN ?_ h
  have he := enters_ hf hname hb (args ++ cap) w
  unfold execOp
  simp [hop, resolve, Deferred.ofValue, invoke, hc, hargs, he]
theorem kidAt_ok {nd : ByteArray → Ent → Int → Look} {depth : Int} {path : ByteArray} {prev : Option ByteArray} {x : Ent} {b b2 : Int} {rows : List RowT} (h : kidAt nd depth path prev x b = .ok b2 rows) :
    nameE x.f0 = 0 ∧ b + entS x.f0 ≤ 1048576 ∧ nd (belowP path x.f0 depth) x (b + entS x.f0) = .ok b2 rows := by
  unfold kidAt at h
  split at h
  · cases h
  · rename_i h1
    split at h
    · cases h
    · split at h
      · cases h
      · rename_i h3
        exact ⟨by omega, by omega, h⟩
theorem kids_inv {nd : ByteArray → Ent → Int → Look} {depth : Int} {path : ByteArray} {l : List Ent} {i : Nat} {x : Ent} {b b2 : Int} {rows rs : List RowT} (h : l[i]? = some x)
    (hr : Look.ok b2 rows = (kidsL nd depth path (prevAt l i) (l.drop i) b).pre rs) : ∃ b3 rows3, kidAt nd depth path (prevAt l i) x b = .ok b3 rows3 := by
  cases hk : kidAt nd depth path (prevAt l i) x b with
  | ok b3 rows3 => exact ⟨_, _, rfl⟩
  | bad q c => exact absurd (kids_bad h hr hk) (by simp)
theorem nodeL_ok {f : Nat} {path : ByteArray} {x : Ent} {b b2 : Int} {rows : List RowT} (h : nodeL (f + 1) path x b = .ok b2 rows) :
    b + ownS x.f1 x.f2 x.f3 ≤ 1048576 ∧ Look.ok b2 rows = (kidsL (nodeL f) (32 - (f : Int)) path none x.f4 (b + ownS x.f1 x.f2 x.f3)).pre [(path, x.f1, x.f2, x.f3)] := by
  rw [nodeL] at h
  split at h
  · cases h
  · split at h
    · cases h
    · exact ⟨by omega, h.symm⟩
/-- What the closure leaves. -/
def ClosPost (rows : List RowT) (base br : Nat) (v0 : Value) (rows0 : List OwnRw) (w : World) (e : Ending) (w' : World) : Prop :=
  e = .returned (.tuple #[]) ∧ ∃ v1, RowsW w' base v1 (rows0 ++ rows.map rowW) ∧ Blk w' br 43 [v1] ∧ Upd (fun k => v0.ownBlock = some k ∨ k = br) w w' ∧ (v1.ownBlock = v0.ownBlock ∨ ∃ b, v1.ownBlock = some b ∧ w.heap.size ≤ b)
abbrev fnCell (br bv : Nat) : Value := .func (.func 25) #[] #[.pointer (some ⟨br, 0, none⟩), .pointer (some ⟨bv, 0, none⟩)]
def ClosSaid (f : Nat) : Prop := ∀ (path : ByteArray) (x : Ent) (A : Option Addr) (c : Nat) (b b2 : Int) (rows : List RowT) (v0 : Value) (rows0 : List OwnRw) (base br bv : Nat) (w0 w : World), nodeL f path x b = .ok b2 rows → Below w0.heap.size w0 w → w0.heap.size ≤ base → base ≤ w.heap.size → w0.heap.size ≤ br → br ≠ bv →
  RowsW w base v0 rows0 → (rows0.length : Int) ≤ b → 0 ≤ b → b ≤ 1048576 → path.size + 256 * f ≤ 16384 → Texts x.f4 → x.f3.size ≤ 140737488351232 → Kd.C k49 w0 A x.f4.length x.f4 → x.f4.length ≤ c →
  Blk w br 43 [v0] → Blk w bv 60 [fnCell br bv] →
  Calls Try.prog 25 #[.string path, .agg #[.int .i64 x.f1, .bool x.f2, .string x.f3, .slice A x.f4.length c], .int .i64 (33 - (f : Int)), .pointer (some ⟨br, 0, none⟩), .pointer (some ⟨bv, 0, none⟩)] w (ClosPost rows base br v0 rows0 w)
theorem clos_zero : ClosSaid 0 := fun path x A c b b2 rows v0 rows0 base br bv w0 w h => by cases h
set_option maxHeartbeats 4000000 in
set_option maxRecDepth 100000 in
theorem clos_step (f : Nat) (hf : f < 32) (ih : ClosSaid f) : ClosSaid (f + 1) := by
  intro path x A c b b2 rows v0 rows0 base br bv w0 w hnl hb0 hba hbw hbr hne hR hrl h0 h1 hpl ht h3 hC hc hBR hBV
  obtain ⟨hown, hkid⟩ := nodeL_ok hnl
  have HOWN1 := Aside0.mk (own_pos x.f1 x.f2 x.f3)
  have HOWN := Aside0.mk hown
  have HFAIR : Aside0 (LookFair b (Look.ok b2 rows)) := ⟨by rw [← hnl]; exact nodeL_fair _ _ _ _⟩
  have HR := Aside0.mk hR
  have HW0 := Aside0.mk hb0
  have HC0 := Aside0.mk hC
  have HT := Aside0.mk ht
  unfold ClosSaid at ih
  have IH := Aside0.mk ih
  obtain ⟨d, hdd⟩ : ∃ d : Int, d = 33 - ((f + 1 : Nat) : Int) := ⟨_, rfl⟩
  rw [← hdd]
  rw [show (32 : Int) - (f : Int) = d from by omega] at hkid
  have HD := Aside0.mk hdd
  have HK0 := Aside0.mk hkid
  have HBAS : Aside0 (∀ k, v0.ownBlock = some k → base ≤ k) := ⟨fun k hk => rowsW_base hR k hk⟩
  obtain ⟨A0, c0, hv0⟩ := Kd.R_slice hR
  subst hv0
  have hbrl := hBR.lt
  have hbvl := hBV.lt
  have HBR := Aside0.mk hBR
  have HBV := Aside0.mk hBV
  have r0 := hBR.cell 0 _ rfl
  have rz := hBR.frozen 0
  clear hR hC ht ih hdd hb0 hkid hown hnl hBR hBV
  go_enter Try.func25, Try.ntmps25
  have HL5 : Aside0 ((rows0.length + 1) * 48 ≤ 140737488355328) := ⟨by omega⟩
  go_wp2_with ((with_reducible refine gate_dst (N := 10) rfl ?_); refine Stand.go ?_)
  obtain ⟨Wa, hWa⟩ : ∃ Wa, Wa = w.alloc (.cells #[.int .i64 x.f1, .bool x.f2, .string x.f3, .slice A x.f4.length c] 25) := ⟨_, rfl⟩
  have HBX : Aside0 (Blk Wa w.heap.size 25 [.int .i64 x.f1, .bool x.f2, .string x.f3, .slice A x.f4.length c]) := ⟨by rw [hWa]; exact Blk.new _ _ _⟩
  have hal : Below w.heap.size w Wa := by rw [hWa]; exact (Below.refl _ _).alloc (Nat.le_refl _) _
  rw [← hWa]
  clear hWa r0 rz
  have HR1 := Aside0.mk (Kd.R_below HR.out hal)
  have HU1 : Aside0 (Upd (fun k => (Value.slice A0 rows0.length c0).ownBlock = some k ∨ k = br) w Wa) := ⟨Upd.of_below hal⟩
  have BR1 := Aside0.mk (HBR.out.below hal)
  have BV1 := Aside0.mk (HBV.out.below hal)
  have HB1 : Aside0 (base ≤ Wa.heap.size) := ⟨Nat.le_trans hbw hal.size⟩
  obtain ⟨bx, hbx⟩ : ∃ q, q = w.heap.size := ⟨_, rfl⟩
  rw [← hbx] at HBX hbrl hbvl ⊢
  have HBXE := Aside0.mk hbx
  clear hbx hal HR HBR HBV
  unfold Stand
  have r0 := BR1.out.cell 0 _ rfl
  have x0 := HBX.out.cell 0 _ rfl
  have x1 := HBX.out.cell 1 _ rfl
  have x2 := HBX.out.cell 2 _ rfl
  go_wp2_with ((with_reducible refine gate_dst (N := 20) rfl ?_); refine Stand.go ?_)
  clear r0 x0 x1 x2
  refine Kd.R_append k52 base rfl (.tmp 10) (.tmp 19) 43 52 (.agg #[.string ⟨#[]⟩, .int .i64 0, .bool false, .string ⟨#[]⟩]) 48 rfl Try.underlying43 (by kernel_rfl) rfl (by decide) (by decide) (.slice A0 rows0.length c0) rows0 ⟨path, x.f1, x.f2, x.f3⟩ [.string path, .int .i64 x.f1, .bool x.f2, .string x.f3] (fun _ => True) (fun k => True ∧ some k ≠ (Value.slice A0 rows0.length c0).ownBlock) ?hs ?hx (k52_mkM _ _ _ _) (fun _ h => h) (fun _ _ => trivial) HR1.out (Below.refl _ _) HB1.out HL5.out ?_
  case hs => rfl
  case hx => first | rfl | (go_simp; done) | (simp [Act.eval, World.setCell]; done)
  intro v1 w1 hR2 _ hg2 hat2
  obtain ⟨rows1, hrw⟩ : ∃ q, q = rows0 ++ [(⟨path, x.f1, x.f2, x.f3⟩ : OwnRw)] := ⟨_, rfl⟩
  rw [← hrw] at hR2
  have HRW := Aside0.mk hrw
  have hrl1 : (rows1.length : Int) ≤ b + ownS x.f1 x.f2 x.f3 := by
    have : rows1.length = rows0.length + 1 := by rw [hrw, List.length_append]; rfl
    have := HOWN1.out
    omega
  clear hrw
  obtain ⟨A1, c1, hv1⟩ := Kd.R_slice hR2
  subst hv1
  have HR2 := Aside0.mk hR2
  have BR2 := Aside0.mk (BR1.out.grown hg2 (rowsW_ne HR1.out BR1.out (by decide)))
  have BV2 := Aside0.mk (BV1.out.grown hg2 (rowsW_ne HR1.out BV1.out (by decide)))
  have BX2 := Aside0.mk (HBX.out.grown hg2 (rowsW_ne HR1.out HBX.out (by decide)))
  have HU2 := Aside0.mk (HU1.out.trans (Upd.of_grown (S := fun k => (Value.slice A0 rows0.length c0).ownBlock = some k) hg2 (fun k hk => .inl hk)) (fun _ h => .inl (.inl h)))
  have HAT : Aside0 ((Value.slice A1 rows1.length c1).ownBlock = (Value.slice A0 rows0.length c0).ownBlock ∨ ∃ b, (Value.slice A1 rows1.length c1).ownBlock = some b ∧ w.heap.size ≤ b) := ⟨hat2.imp id (fun h => by obtain ⟨b, h1, h2⟩ := h; exact ⟨b, h1, Nat.le_trans HU1.out.size h2⟩)⟩
  clear hR2 hg2 hat2 HR1 BR1 BV1 HBX HU1 HB1 HL5
  have r0 := BR2.out.cell 0 _ rfl
  have rz := BR2.out.frozen 0
  go_wp2_with ((with_reducible refine gate_dst (N := 21) rfl ?_); refine Stand.go ?_)
  clear r0 rz
  obtain ⟨w2, hw2⟩ : ∃ w2, w2 = w1.setCell ⟨br, 0, none⟩ (.slice A1 rows1.length c1) := ⟨_, rfl⟩
  have hput := store1 BR2.out 0 (.slice A1 rows1.length c1)
  rw [← hw2] at hput
  try rw [← hw2]
  clear hw2
  have HR3 := Aside0.mk (rowsW_upd HR2.out hput.2 (fun q hq => by rw [hq]; exact ⟨_, _, BR2.out, by decide⟩))
  have HU3 := Aside0.mk (HU2.out.trans hput.2 (fun q hq => .inl (.inr hq)))
  have BR3 : Aside0 (Blk w2 br 43 [.slice A1 rows1.length c1]) := ⟨hput.1⟩
  have BV3 := Aside0.mk (BV2.out.upd hput.2 (fun e => hne e.symm))
  have BX3 := Aside0.mk (BX2.out.upd hput.2 (by omega))
  clear hput HR2 HU2 BR2 BV2 BX2
  have hm := Kd.C_max HC0.out
  have hmb : x.f4.length * 1 ≤ 9223372036854775807 := by omega
  have HKS : Aside0 (∃ rs : List RowT, rows1 = rows0 ++ rs.map rowW ∧ Look.ok b2 rows = (kidsL (nodeL f) d path (prevAt x.f4 0) (x.f4.drop 0) (b + ownS x.f1 x.f2 x.f3)).pre rs) := ⟨[(path, x.f1, x.f2, x.f3)], HRW.out, HK0.out⟩
  have x3 := BX3.out.cell 3 _ rfl
  have hoe0 : 0 ≤ b + ownS x.f1 x.f2 x.f3 := by have := HOWN1.out; omega
  have hoe1 := HOWN.out
  generalize b + ownS x.f1 x.f2 x.f3 = bo at *
  clear HOWN1 HOWN HRW HK0
  unfold Stand
  go_wp2_with fail
  clear x3
  go_loopw [24] (fun v24 wr => ∃ (i : Nat) (bi : Int) (Ai : Option Addr) (ci : Nat) (rowsi : List OwnRw), i ≤ x.f4.length ∧ v24 = .int .i64 i ∧ 0 ≤ bi ∧ bi ≤ 1048576 ∧ (rowsi.length : Int) ≤ bi ∧ Aside0 (RowsW wr base (.slice Ai rowsi.length ci) rowsi) ∧ Aside0 (Upd (fun k => (Value.slice A0 rows0.length c0).ownBlock = some k ∨ k = br) w wr) ∧ Aside0 (Blk wr br 43 [.slice Ai rowsi.length ci]) ∧ Aside0 (Blk wr bv 60 [fnCell br bv]) ∧ Aside0 (Blk wr bx 25 [.int .i64 x.f1, .bool x.f2, .string x.f3, .slice A x.f4.length c]) ∧
    Aside0 ((Value.slice Ai rowsi.length ci).ownBlock = (Value.slice A0 rows0.length c0).ownBlock ∨ ∃ b, (Value.slice Ai rowsi.length ci).ownBlock = some b ∧ w.heap.size ≤ b) ∧ Aside0 (∃ rs : List RowT, rowsi = rows0 ++ rs.map rowW ∧ Look.ok b2 rows = (kidsL (nodeL f) d path (prevAt x.f4 i) (x.f4.drop i) bi).pre rs)) (fun v _ => x.f4.length - (intOf v).toNat)
  case atStart => exact ⟨0, bo, A1, c1, rows1, Nat.zero_le _, rfl, hoe0, hoe1, hrl1, HR3, HU3, BR3, BV3, BX3, HAT, HKS⟩
  case round =>
    clear HR3 HU3 BR3 BV3 BX3 HAT HKS hrl1 hoe0 hoe1
    obtain ⟨i, bi, Ai, ci, rowsi, hi, rfl, hb0, hb1, hrl, HRi, HUi, BRi, BVi, BXi, HAT, HK⟩ := hrel
    by_cases hlt : i < x.f4.length
    · have HBi : Aside0 (Below w0.heap.size w0 wr) := ⟨HW0.out.trans (HUi.out.below (fun k hk => by
        rcases hk with hk | hk
        · have := HBAS.out k hk; omega
        · omega) HW0.out.size)⟩
      obtain ⟨ad, A4, c4, hA, e0, e1, e2, e3, e4, hl4, hC4⟩ := at_T49 HC0.out (i : Int) (by omega) (by omega)
      subst hA
      simp only [Int.toNat_natCast] at e0 e1 e2 e3 e4
      have HAI : Aside0 (x.f4[i]? = some (rd_T49 x.f4 (i : Int))) := ⟨by simp [rd_T49, hlt]⟩
      replace e0 := (HBi.out.cell (World.block_lt_of_cell? _ _ e0)).trans e0
      replace e1 := (HBi.out.cell (World.block_lt_of_cell? _ _ e1)).trans e1
      replace e2 := (HBi.out.cell (World.block_lt_of_cell? _ _ e2)).trans e2
      replace e3 := (HBi.out.cell (World.block_lt_of_cell? _ _ e3)).trans e3
      replace e4 := (HBi.out.cell (World.block_lt_of_cell? _ _ e4)).trans e4
      have HC4 := Aside0.mk hC4
      generalize rd_T49 x.f4 (i : Int) = y at *
      clear hC4
      have hi0 : (0 : Int) ≤ (i : Int) := by omega
      have hi1 : (i : Int) < (x.f4.length : Int) := by omega
      have HTY := Aside0.mk (HT.out.at HAI.out)
      have hy0 := HTY.out.1
      have HKI : Aside0 (∃ b3 rows3, kidAt (nodeL f) d path (prevAt x.f4 i) y bi = .ok b3 rows3) := ⟨by
        obtain ⟨rs, _, hr⟩ := HK.out
        exact kids_inv HAI.out hr⟩
      obtain ⟨b3, rows3, hk3⟩ := HKI.out
      have HK3 := Aside0.mk hk3
      obtain ⟨hne1, hbe, hnd⟩ := kidAt_ok hk3
      have HNE := Aside0.mk hne1
      have HND := Aside0.mk hnd
      clear hk3 HKI hne1 hnd
      obtain ⟨q, hq0⟩ : ∃ q, q = belowP path y.f0 d := ⟨_, rfl⟩
      have HBP : Aside0 (tree_below.f path y.f0 d = some q) := ⟨by rw [hq0]; exact below_P path y.f0 d (by omega)⟩
      have HQ := Aside0.mk hq0
      rw [← hq0] at HND
      clear hq0
      go_wp2_with fail
      obtain ⟨Wy, hWy⟩ : ∃ Wy, Wy = wr.alloc (.cells #[.string y.f0, .int .i64 y.f1, .bool y.f2, .string y.f3, .slice A4 y.f4.length c4] 49) := ⟨_, rfl⟩
      have hal : Below wr.heap.size wr Wy := by rw [hWy]; exact (Below.refl _ _).alloc (Nat.le_refl _) _
      have BYy : Aside0 (Blk Wy wr.heap.size 49 [.string y.f0, .int .i64 y.f1, .bool y.f2, .string y.f3, .slice A4 y.f4.length c4]) := ⟨by rw [hWy]; exact Blk.new _ _ _⟩
      have HRy := Aside0.mk (Kd.R_below HRi.out hal)
      have HUy := Aside0.mk (HUi.out.step hal)
      have BRy := Aside0.mk (BRi.out.below hal)
      have BVy := Aside0.mk (BVi.out.below hal)
      have BXy := Aside0.mk (BXi.out.below hal)
      have hbr2 : br < wr.heap.size := BRi.out.lt
      rw [← hWy]
      clear hWy hal e0 e1 e2 e3 e4 HRi HUi BRi BVi BXi HBi
      obtain ⟨bY, hbY⟩ : ∃ b, b = wr.heap.size := ⟨_, rfl⟩
      rw [← hbY] at BYy hbr2 ⊢
      clear hbY
      have hd1 : 1 ≤ d := by have := HD.out; omega
      have hd2 : d ≤ 32 := by have := HD.out; omega
      refine start_ (n := 11) (S := fun w' => w'.cell? ⟨bv, 0, none⟩ = some (fnCell br bv) ∧ w'.cell? ⟨bY, 0, none⟩ = some (.string y.f0) ∧ w'.cell? ⟨bY, 1, none⟩ = some (.int .i64 y.f1) ∧ w'.cell? ⟨bY, 2, none⟩ = some (.bool y.f2) ∧ w'.cell? ⟨bY, 3, none⟩ = some (.string y.f3) ∧ w'.cell? ⟨bY, 4, none⟩ = some (.slice A4 y.f4.length c4)) (ds := []) #[false, false, false, false, false, false, false, false, false, false, false] (by kernel_rfl) rfl rfl (⟨BVy.out.cell 0 _ rfl, BYy.out.cell 0 _ rfl, BYy.out.cell 1 _ rfl, BYy.out.cell 2 _ rfl, BYy.out.cell 3 _ rfl, BYy.out.cell 4 _ rfl⟩) (fun hHeld => ?_)
      have hdr : Below Wy.heap.size Wy Wy.drew := below_drew (Below.refl _ _)
      generalize Wy.drew = Wz at *
      refine take_ (i := 0) (N := some 28) (v := ?_) (a' := ?_) #[true, false, false, false, false, false, false, false, false, false, false] rfl rfl (by kernel_rfl) (fun _ _ _ h => h) (Or.inl ⟨by rfl, ?_⟩) hHeld ?_ ?_
      rotate_left
      · rintro w' ⟨s0, s1, s2, s3, s4, s5⟩
        go_simp
        with_reducible rfl
      rotate_left
      · simp only [Act.put, List.setIfInBounds_toArray, List.set_cons_zero, List.set_cons_succ, i64_w, i32_w]
        rfl
      refine pure_ (i := 1) (N := some 29) (v := ?_) (a' := ?_) #[true, true, false, false, false, false, false, false, false, false, false] rfl rfl (by kernel_rfl) (fun _ _ _ h => h) (Or.inl ⟨by rfl, ?_⟩) ?_ ?_
      rotate_left
      · intro w'
        go_simp
        with_reducible rfl
      rotate_left
      · simp only [Act.put, List.setIfInBounds_toArray, List.set_cons_zero, List.set_cons_succ, i64_w, i32_w]
        rfl
      refine pure_ (i := 2) (N := some 30) (v := ?_) (a' := ?_) #[true, true, true, false, false, false, false, false, false, false, false] rfl rfl (by kernel_rfl) (fun _ _ _ h => h) (Or.inl ⟨by rfl, ?_⟩) ?_ ?_
      rotate_left
      · intro w'
        go_simp
        with_reducible rfl
      rotate_left
      · simp only [Act.put, List.setIfInBounds_toArray, List.set_cons_zero, List.set_cons_succ, i64_w, i32_w]
        rfl
      refine take_ (i := 3) (N := some 31) (v := ?_) (a' := ?_) #[true, true, true, true, false, false, false, false, false, false, false] rfl rfl (by kernel_rfl) (fun _ _ _ h => h) (Or.inl ⟨by rfl, ?_⟩) hHeld ?_ ?_
      rotate_left
      · rintro w' ⟨s0, s1, s2, s3, s4, s5⟩
        go_simp
        with_reducible rfl
      rotate_left
      · simp only [Act.put, List.setIfInBounds_toArray, List.set_cons_zero, List.set_cons_succ, i64_w, i32_w]
        rfl
      refine pure_ (i := 4) (N := some 32) (v := ?_) (a' := ?_) #[true, true, true, true, true, false, false, false, false, false, false] rfl rfl (by kernel_rfl) (fun _ _ _ h => h) (Or.inl ⟨by rfl, ?_⟩) ?_ ?_
      rotate_left
      · intro w'
        go_simp
        with_reducible rfl
      rotate_left
      · simp only [Act.put, List.setIfInBounds_toArray, List.set_cons_zero, List.set_cons_succ, i64_w, i32_w]
        rfl
      refine pure_ (i := 6) (N := some 34) (v := ?_) (a' := ?_) #[true, true, true, true, true, false, true, false, false, false, false] rfl rfl (by kernel_rfl) (fun _ _ _ h => h) (Or.inl ⟨by rfl, ?_⟩) ?_ ?_
      rotate_left
      · intro w'
        go_simp
        with_reducible rfl
      rotate_left
      · simp only [Act.put, List.setIfInBounds_toArray, List.set_cons_zero, List.set_cons_succ, i64_w, i32_w]
        rfl
      refine take_ (i := 7) (N := some 35) (v := ?_) (a' := ?_) #[true, true, true, true, true, false, true, true, false, false, false] rfl rfl (by kernel_rfl) (fun _ _ _ h => h) (Or.inl ⟨by rfl, ?_⟩) hHeld ?_ ?_
      rotate_left
      · rintro w' ⟨s0, s1, s2, s3, s4, s5⟩
        go_simp
        with_reducible rfl
      rotate_left
      · simp only [Act.put, List.setIfInBounds_toArray, List.set_cons_zero, List.set_cons_succ, i64_w, i32_w]
        rfl
      refine pure_ (i := 8) (N := some 36) (v := ?_) (a' := ?_) #[true, true, true, true, true, false, true, true, true, false, false] rfl rfl (by kernel_rfl) (fun _ _ _ h => h) (Or.inl ⟨by rfl, ?_⟩) ?_ ?_
      rotate_left
      · intro w'
        go_simp
        with_reducible rfl
      rotate_left
      · simp only [Act.put, List.setIfInBounds_toArray, List.set_cons_zero, List.set_cons_succ, i64_w, i32_w]
        rfl
      refine pure_ (i := 9) (N := some 37) (v := ?_) (a' := ?_) #[true, true, true, true, true, false, true, true, true, true, false] rfl rfl (by kernel_rfl) (fun _ _ _ h => h) (Or.inl ⟨by rfl, ?_⟩) ?_ ?_
      rotate_left
      · intro w'
        go_simp
        with_reducible rfl
      rotate_left
      · simp only [Act.put, List.setIfInBounds_toArray, List.set_cons_zero, List.set_cons_succ, i64_w, i32_w]
        rfl
      refine one_ (i := 5) (N := some 33) #[true, true, true, true, true, true, true, true, true, true, false] rfl rfl (by kernel_rfl) (by decide) (fun K hK => ?_)
      refine goes_ Try.func26 (by kernel_rfl) rfl #[.string path, .string y.f0, .int .i64 d] (by rfl) rfl rfl (by (try simp only [List.map_toArray, List.map_cons, List.map_nil]); first | done | rfl) ?_
      refine (tree_below.calls path y.f0 d q Wz HBP.out).mono ?_
      rintro o W5 ⟨rfl, hd5⟩
      have hb5 : Below Wy.heap.size Wy W5 := below_step hdr hd5.below
      have HR5 := Aside0.mk (Kd.R_below HRy.out hb5)
      have HU5 := Aside0.mk (HUy.out.step hb5)
      have BR5 := Aside0.mk (BRy.out.below hb5)
      have BV5 := Aside0.mk (BVy.out.below hb5)
      have BX5 := Aside0.mk (BXy.out.below hb5)
      have BY5 := Aside0.mk (BYy.out.below hb5)
      refine ⟨_, rfl, ?_⟩
      refine hK.out _ _ ⟨BV5.out.cell 0 _ rfl, BY5.out.cell 0 _ rfl, BY5.out.cell 1 _ rfl, BY5.out.cell 2 _ rfl, BY5.out.cell 3 _ rfl, BY5.out.cell 4 _ rfl⟩ (fun hHeld => ?_)
      clear hK K hd5 hb5 hdr HRy HUy BRy BVy BXy BYy
      refine norm_ (a' := ?_) ?_ ?_
      rotate_left
      · show Act.put _ (some 33) _ = _
        simp only [Act.put, List.setIfInBounds_toArray, List.set_cons_zero, List.set_cons_succ]
        rfl
      rw [show wrap64 (d + 1) = 33 - (f : Int) from by have := HD.out; rw [show d + 1 = 33 - (f : Int) from by omega]; exact (i64_w _).symm.trans (IntWalk.i64_in _ (by omega))]
      refine one_ (i := 10) (N := some 38) #[true, true, true, true, true, true, true, true, true, true, true] rfl rfl (by kernel_rfl) (by decide) (fun K hK => ?_)
      refine goesC_ Try.func25 (by kernel_rfl) rfl #[.string q, .agg #[.int .i64 y.f1, .bool y.f2, .string y.f3, .slice A4 y.f4.length c4], .int .i64 (33 - (f : Int))] (by rfl) rfl rfl (by rfl) (by (try simp only [List.map_toArray, List.map_cons, List.map_nil]); first | done | rfl) ?_
      have HQS : Aside0 (q.size + 256 * f ≤ 16384) := ⟨by have := belowP_size (path := path) (kid := y.f0) d HNE.out; rw [← HQ.out] at this; omega⟩
      have her := entS_range y.f0
      have HB5 : Aside0 (Below w0.heap.size w0 W5) := ⟨HW0.out.trans (HU5.out.below (fun k hk => by
        rcases hk with hk | hk
        · have := HBAS.out k hk; omega
        · omega) HW0.out.size)⟩
      have hfair := nodeL_fair f q y (bi + entS y.f0)
      rw [HND.out] at hfair
      obtain ⟨hf1, hf2⟩ := hfair
      have hf3 := hf2 (by omega)
      refine (IH.out q y A4 c4 (bi + entS y.f0) b3 rows3 (.slice Ai rowsi.length ci) rowsi base br bv w0 W5 HND.out HB5.out hba (by have := HU5.out.size; omega) hbr hne HR5.out (by omega) (by omega) (by omega) HQS.out HTY.out.2.2 HTY.out.2.1 HC4.out hl4 BR5.out BV5.out).mono ?_
      rintro o W6 ⟨rfl, v6, hR6, hBR6, hU6, hat6⟩
      obtain ⟨rowsn, hrn⟩ : ∃ q, q = rowsi ++ rows3.map rowW := ⟨_, rfl⟩
      rw [← hrn] at hR6
      obtain ⟨A6, c6, hv6⟩ := Kd.R_slice hR6
      subst hv6
      have HR6 := Aside0.mk hR6
      have BR6 := Aside0.mk hBR6
      have ny : ¬ ((Value.slice Ai rowsi.length ci).ownBlock = some bY ∨ bY = br) := fun h => h.elim (rowsW_ne HR5.out BY5.out (by decide)) (fun h => by omega)
      have nv : ¬ ((Value.slice Ai rowsi.length ci).ownBlock = some bv ∨ bv = br) := fun h => h.elim (rowsW_ne HR5.out BV5.out (by decide)) (fun h => hne h.symm)
      have nx : ¬ ((Value.slice Ai rowsi.length ci).ownBlock = some bx ∨ bx = br) := fun h => h.elim (rowsW_ne HR5.out BX5.out (by decide)) (fun h => by omega)
      have BY6 := Aside0.mk (BY5.out.upd hU6 ny)
      have BV6 := Aside0.mk (BV5.out.upd hU6 nv)
      have BX6 := Aside0.mk (BX5.out.upd hU6 nx)
      have HU6 : Aside0 (Upd (fun k => (Value.slice A0 rows0.length c0).ownBlock = some k ∨ k = br) w W6) := ⟨HU5.out.trans hU6 (fun k hk => by
        rcases hk with hk | hk
        · rcases HAT.out with h | ⟨b, h, hb⟩
          · exact .inl (.inl (h.symm.trans hk))
          · rw [h] at hk
            injection hk with hk
            exact .inr (hk ▸ hb)
        · exact .inl (.inr hk))⟩
      have HAT6 : Aside0 ((Value.slice A6 rowsn.length c6).ownBlock = (Value.slice A0 rows0.length c0).ownBlock ∨ ∃ b, (Value.slice A6 rowsn.length c6).ownBlock = some b ∧ w.heap.size ≤ b) := ⟨by
        rcases hat6 with h | ⟨b, h, hb⟩
        · rw [h]; exact HAT.out
        · exact .inr ⟨b, h, Nat.le_trans HU5.out.size hb⟩⟩
      have HKN : Aside0 (∃ rs : List RowT, rowsn = rows0 ++ rs.map rowW ∧ Look.ok b2 rows = (kidsL (nodeL f) d path (prevAt x.f4 (i + 1)) (x.f4.drop (i + 1)) b3).pre rs) := ⟨by
        obtain ⟨rs, h1, h2⟩ := HK.out
        refine ⟨rs ++ rows3, ?_, kids_ok HAI.out h2 HK3.out⟩
        rw [hrn, h1, List.map_append, List.append_assoc]⟩
      have hrl2 : (rowsn.length : Int) ≤ b3 := by
        rw [hrn, List.length_append, List.length_map]
        omega
      have hb30 : 0 ≤ b3 := by omega
      refine ⟨_, rfl, ?_⟩
      refine hK.out _ _ ⟨BV6.out.cell 0 _ rfl, BY6.out.cell 0 _ rfl, BY6.out.cell 1 _ rfl, BY6.out.cell 2 _ rfl, BY6.out.cell 3 _ rfl, BY6.out.cell 4 _ rfl⟩ (fun hHeld => ?_)
      clear hK K hHeld hR6 hBR6 hU6 hat6 HR5 HU5 BR5 BV5 BX5 BY5 HAT HK HK3 hf1 hf2 her ny nv nx hrn HND HNE HBP HB5 BY6
      refine norm_ (a' := ?_) ?_ ?_
      rotate_left
      · show Act.put _ (some 38) _ = _
        simp only [Act.put, List.setIfInBounds_toArray, List.set_cons_zero, List.set_cons_succ]
        rfl
      refine done_ (by kernel_rfl) ?_
      go_wp2_with fail
      go_roundw
      case rel => exact ⟨i + 1, b3, A6, c6, rowsn, by omega, by go_num, hb30, hf3, hrl2, HR6, HU6, BR6, BV6, BX6, HAT6, HKN⟩
      case measure => simp [intOf]; omega
    · obtain rfl : i = x.f4.length := by omega
      have HK2 : Aside0 (rowsi = rows0 ++ rows.map rowW) := ⟨by
        obtain ⟨rs, h1, h2⟩ := HK.out
        rw [List.drop_length] at h2
        simp [kidsL, Look.pre] at h2
        rw [h1, h2.2]⟩
      clear HK
      go_wp2_with fail
      go_end0
      have hr := HRi.out
      refine ⟨rfl, _, ?_, BRi.out, HUi.out, HAT.out⟩
      rw [← HK2.out]
      exact hr
theorem clos_all : ∀ f, f ≤ 32 → ClosSaid f
  | 0, _ => clos_zero
  | f + 1, h => clos_step f (by omega) (clos_all f (by omega))
/-- What Walk says. -/
def RowsPost (s : Look) (w : World) (o : Ending) (w' : World) : Prop := ∃ v, o = .returned (.tuple #[v, .int .i64 (lookCode s)]) ∧ RowsW w' w.heap.size v ((lookRows s).map rowW) ∧ Below w.heap.size w w'
set_option maxHeartbeats 4000000 in
set_option maxRecDepth 100000 in
theorem rows_calls (k : Int) (e : Bool) (t : ByteArray) (A : Option Addr) (c : Nat) (l : List Ent) (w : World) (hC : Kd.C k49 w A l.length l) (hc : l.length ≤ c) (ht : Texts l) (h3 : t.size ≤ 140737488351232) :
    Calls Try.prog 16 #[.agg #[.int .i64 k, .bool e, .string t, .slice A l.length c]] w (RowsPost (lookL k e t l) w) := by
  have HCH := Aside0.mk (fun W hC => check_calls k e t A c l W hC hc ht h3)
  have HCL := Aside0.mk (fun (b2 : Int) (rows : List RowT) (base br bv : Nat) (w' : World) h hb hba hbb hbr hne hBR hBV => clos_all 32 (Nat.le_refl _) ⟨#[]⟩ ⟨⟨#[]⟩, k, e, t, l⟩ A c magS b2 rows (.slice none 0 0) [] base br bv w w' h hb hba hbb hbr hne (Kd.R_nil _ _ _ _ _) (by rw [magS_eq]; decide) (by rw [magS_eq]; decide) (by rw [magS_eq]; decide) (by decide) ht h3 hC hc hBR hBV)
  have HC := Aside0.mk hC
  have hsf : ∀ (a : Addr) (fn : Fn) (cap : Array Value) (w : World), (store a (.func fn #[] cap)).run Try.prog w = stored Try.prog w a (.func fn #[] cap) .plain := fun a fn cap w => run_store _ w a _ .plain rfl
  have hmf : ∀ (fn : Fn) (first cap : Array Value) (w : World), (Instr.makeFunc fn first cap).run Try.prog w = .ok (.func fn first cap) w := fun _ _ _ _ => rfl
  have HFAIR : Aside0 (LookFair magS (lookL k e t l)) := ⟨nodeL_fair _ _ _ _⟩
  obtain ⟨s, hs⟩ : ∃ s, s = lookL k e t l := ⟨_, rfl⟩
  have HS : Aside0 (s = nodeL 32 ⟨#[]⟩ ⟨⟨#[]⟩, k, e, t, l⟩ magS) := ⟨hs⟩
  rw [← hs] at HCH HFAIR ⊢
  clear hs hC ht h3
  go_enter Try.func16, Try.ntmps16
  go_wp2_with fail
  obtain ⟨Wa, hWa⟩ : ∃ Wa, Wa = w.alloc (.cells #[.int .i64 k, .bool e, .string t, .slice A l.length c] 25) := ⟨_, rfl⟩
  have HBX : Aside0 (Blk Wa w.heap.size 25 [.int .i64 k, .bool e, .string t, .slice A l.length c]) := ⟨by rw [hWa]; exact Blk.new _ _ _⟩
  have hal : Below w.heap.size w Wa := by rw [hWa]; exact (Below.refl _ _).alloc (Nat.le_refl _) _
  rw [← hWa]
  clear hWa
  (with_reducible refine (HCH.out Wa (Kd.C_below HC.out hal)).mono ?_)
  rintro o W1 ⟨rfl, hb1⟩
  have hL1 : Below w.heap.size w W1 := below_step hal hb1.out
  have BX1 := Aside0.mk (HBX.out.below hb1.out)
  have HL1 := Aside0.mk hL1
  have hsz : w.heap.size ≤ W1.heap.size := hL1.size
  have hxs : w.heap.size < W1.heap.size := BX1.out.lt
  obtain ⟨bx, hbx⟩ : ∃ q, q = w.heap.size := ⟨_, rfl⟩
  rw [← hbx] at BX1 hxs ⊢
  have HBQ := Aside0.mk hbx
  clear hbx hal hb1 hL1 HBX HCH HC
  cases s with
  | bad q c2 =>
    have hcn : (c2 != 0) = true := bne_iff_ne.2 HFAIR.out
    simp only [lookPath, lookCode]
    go_wp2
    go_ret2
    exact ⟨_, rfl, Kd.R_nil _ _ _ _ _, HL1.out⟩
  | ok b2 rows =>
    simp only [lookPath, lookCode]
    go_wp2_with ((with_reducible refine gate_dst (N := 16) rfl ?_); refine Stand.go ?_)
    obtain ⟨Wb, hWb⟩ : ∃ Wb, Wb = W1.alloc (.cells #[.slice none 0 0] 43) := ⟨_, rfl⟩
    have HBR : Aside0 (Blk Wb W1.heap.size 43 [.slice none 0 0]) := ⟨by rw [hWb]; exact Blk.new _ _ _⟩
    have halb : Below W1.heap.size W1 Wb := by rw [hWb]; exact (Below.refl _ _).alloc (Nat.le_refl _) _
    have zb : Wb.heap.size = W1.heap.size + 1 := by rw [hWb]; simp
    rw [← hWb]
    try rw [← zb]
    clear hWb
    obtain ⟨Wc, hWc⟩ : ∃ Wc, Wc = Wb.alloc (.cells #[.nilFunc] 60) := ⟨_, rfl⟩
    have BV2 : Aside0 (Blk Wc Wb.heap.size 60 [.nilFunc]) := ⟨by rw [hWc]; exact Blk.new _ _ _⟩
    have halc : Below Wb.heap.size Wb Wc := by rw [hWc]; exact (Below.refl _ _).alloc (Nat.le_refl _) _
    rw [← hWc]
    clear hWc
    have HL2 := Aside0.mk (below_step HL1.out (below_step halb halc))
    have BX2 := Aside0.mk ((BX1.out.below halb).below halc)
    have BR2 := Aside0.mk (HBR.out.below halc)
    obtain ⟨br, hbr⟩ : ∃ q, q = W1.heap.size := ⟨_, rfl⟩
    obtain ⟨bv, hbv⟩ : ∃ q, q = Wb.heap.size := ⟨_, rfl⟩
    have hne : br ≠ bv := by omega
    have hbrw : w.heap.size ≤ br := by omega
    have hxr : bx < br := by omega
    rw [← hbr, ← hbv]
    rw [← hbr] at BR2
    rw [← hbv] at BV2
    have HZ : Aside0 (w.heap.size ≤ Wc.heap.size) := ⟨HL2.out.size⟩
    have hxv : bx ≠ bv := by omega
    have hwv : w.heap.size ≤ bv := by omega
    clear hbr hbv zb halb halc HBR HL1 BX1 hxs hsz
    unfold Stand
    have v0 := BV2.out.cell 0 _ rfl
    have vz := BV2.out.frozen 0
    go_wp2_with ((with_reducible refine gate_dst (N := 17) rfl ?_); refine Stand.go ?_)
    clear v0 vz
    obtain ⟨Wd, hWd⟩ : ∃ q, q = Wc.setCell ⟨bv, 0, none⟩ (fnCell br bv) := ⟨_, rfl⟩
    have hput := store1 BV2.out 0 (fnCell br bv)
    rw [← hWd] at hput
    try rw [← hWd]
    clear hWd
    have BV3 : Aside0 (Blk Wd bv 60 [fnCell br bv]) := ⟨hput.1⟩
    have BR3 := Aside0.mk (BR2.out.upd hput.2 hne)
    have BX3 := Aside0.mk (BX2.out.upd hput.2 hxv)
    have HL3 := Aside0.mk (HL2.out.trans (hput.2.below (fun q hq => by rw [hq]; exact hwv) HL2.out.size))
    clear hput BV2 BR2 BX2 HL2
    unfold Stand
    have v0 := BV3.out.cell 0 _ rfl
    have x0 := BX3.out.cell 0 _ rfl
    have x1 := BX3.out.cell 1 _ rfl
    have x2 := BX3.out.cell 2 _ rfl
    have x3 := BX3.out.cell 3 _ rfl
    go_wp2_with fail
    clear v0 x0 x1 x2 x3
    have hcl := HCL.out b2 rows w.heap.size br bv Wd HS.out.symm HL3.out (Nat.le_refl _) HL3.out.size hbrw hne BR3.out BV3.out
    rw [show (33 : Int) - ((32 : Nat) : Int) = 1 from rfl] at hcl
    (with_reducible refine hcl.mono ?_)
    rintro o W4 ⟨rfl, v4, hR4, hBR4, hU4, hat4⟩
    obtain ⟨rl, hrl⟩ : ∃ q, q = rows.map rowW := ⟨_, rfl⟩
    have hRq : RowsW W4 w.heap.size v4 rl := by rw [hrl]; exact hR4
    have HRL : Aside0 ((lookRows (Look.ok b2 rows)).map rowW = rl) := ⟨hrl.symm⟩
    have HR4 := Aside0.mk hRq
    have BR4 := Aside0.mk hBR4
    have HL4 := Aside0.mk (HL3.out.trans (hU4.below (fun k hk => by
      rcases hk with hk | hk
      · cases hk
      · rw [hk]; exact hbrw) HL3.out.size))
    obtain ⟨A4, c4, hv4⟩ := Kd.R_slice hRq
    subst hv4
    clear hcl hrl hR4 hRq hBR4 hU4 hat4
    have r0 := BR4.out.cell 0 _ rfl
    go_wp2
    go_ret2
    refine ⟨.slice A4 rl.length c4, rfl, ?_, HL4.out⟩
    rw [HRL.out]
    exact HR4.out
end Go.Proofs.Ytnemeeidomceiaa
