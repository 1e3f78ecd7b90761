/- klippelaw25.sameRows at equal rows; constraint.Thickness. constraint.Count where the variables are too many. The columns of ConstraintMany. No walk. -/
import Derived.Test.YtbiffaciinppiaaGreatDoorVa39
import Derived.Test.YtbiffaciinppiaaGreatDoorVa32
import Derived.Test.YtbiffaciinppiaaGreatDoorVa27
import Derived.Test.YtbiffaciinppiaaGreatDoorVa29
set_option linter.unusedVariables false
set_option linter.unusedSimpArgs false
section
namespace Go.Proofs.YtbiffaciinppiaaGreatDoor
open Go.RowKit Go.Maps
attribute [local irreducible] tQ
set_option linter.unusedSimpArgs false

def SmR2 (m : Nat) (w : World) (v5 : Value) (wr : World) : Prop := ∃ k : Nat, k ≤ m ∧ v5 = .int .i64 k ∧ Ext w wr
set_option maxRecDepth 100000 in
set_option maxHeartbeats 4000000 in
theorem sameRows_ok (n : Nat) (hn : n ≤ 1000) (N1 N2 : List Rv) (hN : N1.map (fun r => (r.G, r.b)) = N2.map (fun r => (r.G, r.b))) (hl : N1.length ≤ 100000) (B1 B2 : Nat) (v1 v2 : Value) (w : World) (h1 : OwnL (encV n) 101 2 B1 N1 v1 w) (h2 : OwnL (encV n) 101 2 B2 N2 v2 w) (r1 : RowsV n B1 N1 w) (r2 : RowsV n B2 N2 w) :
    Calls Tryz.prog 18 #[v1, v2] w (Ret (.bool true) w) := by
  have hlen : N2.length = N1.length := by
    have := congrArg List.length hN
    simpa using this.symm
  have HS := Lib.hid (fun (k : Nat) (hk : k < N1.length) (hk2 : k < N2.length) W (X : Ext w W) => show Calls Tryz.prog 36 #[.agg #[.slice (some ⟨N1[k].q, 0, none⟩) n N1[k].c, .string (tQ N1[k].b)], .agg #[.slice (some ⟨N2[k].q, 0, none⟩) n N2[k].c, .string (tQ N2[k].b)]] W (Ret (.bool true) W) from by
    have e : (N1[k].G, N1[k].b) = (N2[k].G, N2[k].b) := by
      have a1 : (N1.map (fun r => (r.G, r.b)))[k]? = some (N1[k].G, N1[k].b) := by rw [List.getElem?_map, List.getElem?_eq_getElem hk]; rfl
      rw [hN, List.getElem?_map, List.getElem?_eq_getElem hk2] at a1
      exact (Option.some.inj a1).symm
    simp only [Prod.mk.injEq] at e
    have f1 := ((r1 _ (List.getElem_mem hk)).2.ext X).fld
    have f2 := ((r2 _ (List.getElem_mem hk2)).2.ext X).fld
    rw [← e.1] at f2
    rw [← e.2]
    have h := sameRow_ok (rowL N1[k].G n) (tQ N1[k].b) N1[k].q 0 N1[k].c N2[k].q 0 N2[k].c W (by rw [rowL_len]; exact hn) f1 f2
    rw [rowL_len] at h
    exact h)
  obtain ⟨va1, vc1, rfl, hf1⟩ := h1.form
  obtain ⟨va2, vc2, rfl, hf2⟩ := h2.form
  have H1 := Lib.hid h1
  have H2 := Lib.hid h2
  have F1 := Lib.hid hf1
  have F2 := Lib.hid hf2
  have HLen := Lib.hid hlen
  rw [hlen]
  clear h1 h2 hf1 hf2 r1 r2 hN hlen
  have hm : (N1.length : Int) ≤ 100000 := by omega
  have hM : ∃ m, m = N1.length := ⟨_, rfl⟩
  obtain ⟨m, hM⟩ := hM
  rw [← hM] at hm ⊢
  have HM := Lib.hid hM
  clear hM hl
  go_enter Tryz.func18, Tryz.ntmps18
  go_wp2_with fail
  go_loopw [5] (SmR2 m w) (fun p _ => m - (intOf p).toNat)
  case atStart => exact ⟨0, by omega, rfl, Ext.refl w⟩
  case round =>
    obtain ⟨k, hk, rfl, hX⟩ := hrel
    by_cases hlt : k < m
    · have kl : (k : Int) < m := by omega
      have kl0 : (0 : Int) ≤ (k : Int) := by omega
      have hk1 : k < N1.length := by rw [← HM.out]; exact hlt
      have hk2 : k < N2.length := by rw [HLen.out]; exact hk1
      obtain ⟨g1, rfl, _, _⟩ := F1.out (fun e => by rw [e] at hk1; simp at hk1)
      obtain ⟨g2, rfl, _, _⟩ := F2.out (fun e => by rw [e] at hk2; simp at hk2)
      have a0 := hX.cell (H1.out.cells.2.2 k hk1 0 _ (by omega) rfl)
      have a1 := hX.cell (H1.out.cells.2.2 k hk1 1 _ (by omega) rfl)
      have b0 := hX.cell (H2.out.cells.2.2 k hk2 0 _ (by omega) rfl)
      have b1 := hX.cell (H2.out.cells.2.2 k hk2 1 _ (by omega) rfl)
      rw [Nat.add_zero] at a0 b0
      have HSk := Lib.hid (HS.out k hk1 hk2)
      generalize N1[k].q = q1 at *
      generalize N2[k].q = q2 at *
      generalize N1[k].c = c1 at *
      generalize N2[k].c = c2 at *
      generalize tQ N1[k].b = t1 at *
      generalize tQ N2[k].b = t2 at *
      have HK := Lib.hid (And.intro hk1 hk2)
      clear hk1 hk2
      have lg1 := World.block_lt_of_cell? wr _ a0
      have lg2 := World.block_lt_of_cell? wr _ b0
      go_upto_region 6 with fail
      refine wp_region_Z' (fun _ => TE wr.heap.size wr false) 99 (by kernel_rfl) ?_
      intro V0 hV0
      have Y0 : Ext wr V0 := by rw [hV0]; exact (Ext.refl wr).drew
      have hT : TE wr.heap.size wr false V0 := Y0
      clear hV0
      refine' wpAnyZ_hold 99 (i := 0) (v := _) rfl (by kernel_rfl) (by kernel_rfl) (by kernel_rfl) (fun _ _ _ h => h.no.elim) hT (by rfl) ?hy ?_
      case hy => (intro w' hS; have p0 := TE.c hS lg1 a0; have p1 := TE.c hS lg1 a1; have p2 := TE.c hS lg2 b0; have p3 := TE.c hS lg2 b1; clear hS; go_simp; rfl)
      try simp only [Act.put, List.getElem_toArray, List.getElem_cons_zero, List.getElem_cons_succ, List.setIfInBounds_toArray, List.set_cons_zero, List.set_cons_succ]
      refine' wpAnyZ_hold 99 (i := 1) (v := _) rfl (by kernel_rfl) (by kernel_rfl) (by kernel_rfl) (fun _ _ _ h => h.no.elim) hT (by rfl) ?hy ?_
      case hy => (intro w' hS; have p0 := TE.c hS lg1 a0; have p1 := TE.c hS lg1 a1; have p2 := TE.c hS lg2 b0; have p3 := TE.c hS lg2 b1; clear hS; go_simp; rfl)
      try simp only [Act.put, List.getElem_toArray, List.getElem_cons_zero, List.getElem_cons_succ, List.setIfInBounds_toArray, List.set_cons_zero, List.set_cons_succ]
      refine' wpAnyZ_hold 99 (i := 2) (v := _) rfl (by kernel_rfl) (by kernel_rfl) (by kernel_rfl) (fun _ _ _ h => h.no.elim) hT (by rfl) ?hy ?_
      case hy => (intro w' hS; have p0 := TE.c hS lg1 a0; have p1 := TE.c hS lg1 a1; have p2 := TE.c hS lg2 b0; have p3 := TE.c hS lg2 b1; clear hS; go_simp; rfl)
      try simp only [Act.put, List.getElem_toArray, List.getElem_cons_zero, List.getElem_cons_succ, List.setIfInBounds_toArray, List.set_cons_zero, List.set_cons_succ]
      refine' wpAnyZ_hold 99 (i := 3) (v := _) rfl (by kernel_rfl) (by kernel_rfl) (by kernel_rfl) (fun _ _ _ h => h.no.elim) hT (by rfl) ?hy ?_
      case hy => (intro w' hS; have p0 := TE.c hS lg1 a0; have p1 := TE.c hS lg1 a1; have p2 := TE.c hS lg2 b0; have p3 := TE.c hS lg2 b1; clear hS; go_simp; rfl)
      try simp only [Act.put, List.getElem_toArray, List.getElem_cons_zero, List.getElem_cons_succ, List.setIfInBounds_toArray, List.set_cons_zero, List.set_cons_succ]
      refine' wpAnyZ_hold 99 (i := 4) (v := _) rfl (by kernel_rfl) (by kernel_rfl) (by kernel_rfl) (fun _ _ _ h => h.no.elim) hT (by rfl) ?hy ?_
      case hy => (intro w' hS; have p0 := TE.c hS lg1 a0; have p1 := TE.c hS lg1 a1; have p2 := TE.c hS lg2 b0; have p3 := TE.c hS lg2 b1; clear hS; go_simp; rfl)
      try simp only [Act.put, List.getElem_toArray, List.getElem_cons_zero, List.getElem_cons_succ, List.setIfInBounds_toArray, List.set_cons_zero, List.set_cons_succ]
      refine' wpAnyZ_hold 99 (i := 5) (v := _) rfl (by kernel_rfl) (by kernel_rfl) (by kernel_rfl) (fun _ _ _ h => h.no.elim) hT (by rfl) ?hy ?_
      case hy => (intro w' hS; have p0 := TE.c hS lg1 a0; have p1 := TE.c hS lg1 a1; have p2 := TE.c hS lg2 b0; have p3 := TE.c hS lg2 b1; clear hS; go_simp; rfl)
      try simp only [Act.put, List.getElem_toArray, List.getElem_cons_zero, List.getElem_cons_succ, List.setIfInBounds_toArray, List.set_cons_zero, List.set_cons_succ]
      refine' wpAnyZ_hold 99 (i := 6) (v := _) rfl (by kernel_rfl) (by kernel_rfl) (by kernel_rfl) (fun _ _ _ h => h.no.elim) hT (by rfl) ?hy ?_
      case hy => (intro w' hS; have p0 := TE.c hS lg1 a0; have p1 := TE.c hS lg1 a1; have p2 := TE.c hS lg2 b0; have p3 := TE.c hS lg2 b1; clear hS; go_simp; rfl)
      try simp only [Act.put, List.getElem_toArray, List.getElem_cons_zero, List.getElem_cons_succ, List.setIfInBounds_toArray, List.set_cons_zero, List.set_cons_succ]
      refine' wpAnyZ_hold 99 (i := 7) (v := _) rfl (by kernel_rfl) (by kernel_rfl) (by kernel_rfl) (fun _ _ _ h => h.no.elim) hT (by rfl) ?hy ?_
      case hy => (intro w' hS; have p0 := TE.c hS lg1 a0; have p1 := TE.c hS lg1 a1; have p2 := TE.c hS lg2 b0; have p3 := TE.c hS lg2 b1; clear hS; go_simp; rfl)
      try simp only [Act.put, List.getElem_toArray, List.getElem_cons_zero, List.getElem_cons_succ, List.setIfInBounds_toArray, List.set_cons_zero, List.set_cons_succ]
      refine wpAnyZ_one true (i := 8) (by kernel_rfl) (by kernel_rfl) rfl (fun K' hK => ?_)
      go_simp
      refine (HSk.out _ (hX.trans Y0)).mono ?_
      rintro e V1 ⟨rfl, Z1⟩
      have Y1 := Y0.trans Z1
      refine hK.out _ _ Y1 ?_
      clear hK K'
      try simp only [Act.put, List.getElem_toArray, List.getElem_cons_zero, List.getElem_cons_succ, List.setIfInBounds_toArray, List.set_cons_zero, List.set_cons_succ]
      refine wpAnyZ_one true (i := 9) (by kernel_rfl) (by kernel_rfl) rfl (fun K' hK => ?_)
      go_simp
      refine hK.out _ _ Y1 ?_
      clear hK K'
      try simp only [Act.put, List.getElem_toArray, List.getElem_cons_zero, List.getElem_cons_succ, List.setIfInBounds_toArray, List.set_cons_zero, List.set_cons_succ]
      refine wpAnyZ_done (by kernel_rfl) ⟨rfl, ?_⟩ _
      have HX := Lib.hid (hX.trans Y1)
      clear Y0 Y1 Z1 hT hX a0 a1 b0 b1
      go_wp2_with fail
      exact ⟨⟨k + 1, hlt, by push_cast; rfl, HX.out⟩, by simp only [intOf]; omega⟩
    · obtain rfl : k = m := by omega
      have HX := Lib.hid hX
      clear hX
      go_wp2_with fail
      go_ret
      exact ⟨rfl, HX.out⟩

def RowsT2 (n : Nat) (R : List ((Nat → Rat) × Rat)) (w : World) (e : Ending) (w' : World) : Prop :=
  ∃ (v : Value) (N : List Rv) (base : Nat), e = .returned (.tuple #[v, .int .i64 0]) ∧ w.heap.size ≤ base ∧ OwnL (encV n) 101 2 base N v w' ∧ RowsV n base N w' ∧ N.map (fun r => (r.G, r.b)) = R ∧ Ext w w'
set_option maxRecDepth 100000 in
set_option maxHeartbeats 1000000 in
theorem thickness_ok (N D : Nat) (b : Bk) (cyc : List Int) (hb : BkOk N D b cyc) (s : Nat) (hs : b.col.length = s + 1) (hc : s * b.pts.length ≤ 60) (hp0 : 0 < b.pts.length) (hp : b.pts.length ≤ 60) (hmx : ∀ x ∈ b.col, x.max = none) (a : BkA) (w : World) (g : Glob w) (hI : BkIn w a b) :
    Calls Tryz.prog 17 #[bkV a b] w (RowsT2 (s * b.pts.length) (thkL b.pts.length b.col (s - 1) 0) w) := by
  have hcol := hb.col.le
  have H := Lib.hid (fun W (X : Ext w W) => cOf_ok N D b cyc hb s hs hc hp a W (g.ext X) (hI.ext X))
  have HT := Lib.hid (fun W (X : Ext w W) => thick_ok s b.pts.length b.col hs (by omega) hp0 hp hc hmx (fun x hx => (hb.col.lay x hx).mn) a.lb a.lo a.lc W (hI.ext X).l)
  clear hb g hI hs hc hp0 hp hmx hcol
  obtain ⟨pts, tris, ter, col, obs⟩ := b
  obtain ⟨pb, po, pc, tb, tO, tc, fb, fo, fc, lb, lo, lc, oc, oa⟩ := a
  simp only [bkV, shpV] at *
  generalize hR : thkL pts.length col (s - 1) 0 = R at *
  clear hR
  generalize s * pts.length = n at *
  generalize pts.length = P at *
  generalize tris.length = T at *
  generalize col.length = C at *
  generalize obs.length = O at *
  go_enter Tryz.func17, Tryz.ntmps17
  go_upto_region 1 with fail
  have hW : ∃ W0, W0 = w.alloc (.cells #[.slice (some ⟨pb, po, none⟩) P pc, .slice (some ⟨tb, tO, none⟩) T tc, .slice (some ⟨fb, fo, none⟩) P fc, .slice (some ⟨lb, lo, none⟩) C lc, .slice oa O oc] 43) := ⟨_, rfl⟩
  obtain ⟨W0, hW0⟩ := hW
  rw [← hW0]
  have X0 : Ext w W0 := by rw [hW0]; exact (Ext.refl w).alloc _
  have c0 : Cells w.heap.size [.slice (some ⟨pb, po, none⟩) P pc, .slice (some ⟨tb, tO, none⟩) T tc, .slice (some ⟨fb, fo, none⟩) P fc, .slice (some ⟨lb, lo, none⟩) C lc, .slice oa O oc] W0 := by rw [hW0]; exact Cells.new w [.slice (some ⟨pb, po, none⟩) P pc, .slice (some ⟨tb, tO, none⟩) T tc, .slice (some ⟨fb, fo, none⟩) P fc, .slice (some ⟨lb, lo, none⟩) C lc, .slice oa O oc] 43
  clear hW0
  obtain ⟨k0, k1, k2, k3, k4⟩ := five c0
  go_wp2_with fail
  refine (H.out _ X0).mono ?_
  rintro e w1 ⟨rfl, X1⟩
  clear k0 k1 k2 k3 k4
  go_upto_region 2 with fail
  have hW2 : ∃ W2, W2 = w1.alloc (.cells #[.int .i64 s, .int .i64 P] 109) := ⟨_, rfl⟩
  obtain ⟨W2, hW2⟩ := hW2
  rw [← hW2]
  have X2 : Ext w1 W2 := by rw [hW2]; exact (Ext.refl w1).alloc _
  have c1 : Cells w1.heap.size [.int .i64 s, .int .i64 P] W2 := by rw [hW2]; exact Cells.new w1 [.int .i64 s, .int .i64 P] 109
  clear hW2
  obtain ⟨k0, k1, k2, k3, k4⟩ := five (c0.ext (X1.trans X2))
  have m0 := (c1.at 0 _ rfl).1
  have m1 := (c1.at 1 _ rfl).1
  have XX := (X0.trans X1).trans X2
  clear c0 c1 X0 X1 X2 H
  go_wp2_with fail
  refine (HT.out _ XX).mono ?_
  rintro e w3 ⟨v, N, base, rfl, hbs, hown, hrows, hN, X3⟩
  have HE := Lib.hid (show RowsT2 n R w (.returned (.tuple #[v, .int .i64 0])) w3 from ⟨v, N, base, rfl, Nat.le_trans XX.size hbs, hown, hrows, hN, XX.trans X3⟩)
  clear k0 k1 k2 k3 k4 m0 m1 hown hrows hN X3 XX hbs
  go_wp2_with fail
  go_ret2
  exact HE.out
end Go.Proofs.YtbiffaciinppiaaGreatDoor
end

section
namespace Go.Proofs.YtbiffaciinppiaaGreatDoor
open Go.RowKit
attribute [local irreducible] tQ
set_option linter.unusedSimpArgs false

set_option maxRecDepth 100000 in
set_option maxHeartbeats 1000000 in
theorem cOf_lim (N D : Nat) (b : Bk) (cyc : List Int) (hb : BkOk N D b cyc) (s : Nat) (hs : b.col.length = s + 1) (hc : 60 < s * b.pts.length) (hp : b.pts.length ≤ 60) (a : BkA) (w : World) (g : Glob w) (hI : BkIn w a b) :
    Calls Tryz.prog 39 #[bkV a b] w (Ret (.tuple #[shpV 0 0, .int .i64 4]) w) := by
  have H := Lib.hid (fun W (X : Ext w W) => checkAll_ok N D b cyc hb a W (g.ext X) (hI.ext X))
  have hcol := hb.col.le
  have HC := Lib.hid (fun W => sCount_ok s b.pts.length (by omega) hp W)
  clear hb g hI
  obtain ⟨pts, tris, ter, col, obs⟩ := b
  obtain ⟨pb, po, pc, tb, tO, tc, fb, fo, fc, lb, lo, lc, oc, oa⟩ := a
  simp only [bkV, shpV] at *
  have h1 : IntKind.i64.wrap ((col.length : Int) - 1) = (s : Int) := by simp only [IntKind.wrap_i64]; omega
  have h2 : decide (((s * pts.length : Nat) : Int) > 60) = true := decide_eq_true (by omega)
  have h3 : (60 : Int) < ((s * pts.length : Nat) : Int) := by omega
  clear hs hc hp hcol
  generalize s * pts.length = sp at *
  go_enter Tryz.func39, Tryz.ntmps39
  go_wp2_with fail
  have hW : ∃ W0, W0 = (w.alloc (.cells #[.slice (some ⟨pb, po, none⟩) pts.length pc, .slice (some ⟨tb, tO, none⟩) tris.length tc, .slice (some ⟨fb, fo, none⟩) pts.length fc, .slice (some ⟨lb, lo, none⟩) col.length lc, .slice oa obs.length oc] 43)).alloc (.cells #[.int .i64 0, .int .i64 0] 109) := ⟨_, rfl⟩
  obtain ⟨W0, hW0⟩ := hW
  rw [← hW0]
  have X0 : Ext w W0 := by rw [hW0]; exact ((Ext.refl w).alloc _).alloc _
  have c0 : Cells w.heap.size [.slice (some ⟨pb, po, none⟩) pts.length pc, .slice (some ⟨tb, tO, none⟩) tris.length tc, .slice (some ⟨fb, fo, none⟩) pts.length fc, .slice (some ⟨lb, lo, none⟩) col.length lc, .slice oa obs.length oc] W0 := by
    rw [hW0]; exact (Cells.new w [.slice (some ⟨pb, po, none⟩) pts.length pc, .slice (some ⟨tb, tO, none⟩) tris.length tc, .slice (some ⟨fb, fo, none⟩) pts.length fc, .slice (some ⟨lb, lo, none⟩) col.length lc, .slice oa obs.length oc] 43).ext ((Ext.refl _).alloc _)
  have c1 : Cells (w.heap.size + 1) [.int .i64 0, .int .i64 0] W0 := by
    have := Cells.new (w.alloc (.cells #[.slice (some ⟨pb, po, none⟩) pts.length pc, .slice (some ⟨tb, tO, none⟩) tris.length tc, .slice (some ⟨fb, fo, none⟩) pts.length fc, .slice (some ⟨lb, lo, none⟩) col.length lc, .slice oa obs.length oc] 43)) [.int .i64 0, .int .i64 0] 109
    rw [World.size_alloc] at this
    rw [hW0]; exact this
  clear hW0
  refine (H.out W0 X0).mono ?_
  rintro e w1 ⟨rfl, X1⟩
  have X01 := X0.trans X1
  obtain ⟨k0, k1, k2, k3, k4⟩ := five (c0.ext X1)
  have d1 := c1.ext X1
  go_wp2_with fail
  have X2 := X01.alloc (.cells #[.int .i64 s, .int .i64 pts.length] 109)
  have d2 := d1.ext ((Ext.refl w1).alloc (.cells #[.int .i64 s, .int .i64 pts.length] 109))
  have e2 := Cells.new w1 [.int .i64 s, .int .i64 pts.length] 109
  refine (HC.out _).mono ?_
  rintro e w2 ⟨rfl, X3⟩
  have X4 := X2.trans X3
  have d3 := d2.ext X3
  have e3 := e2.ext X3
  obtain ⟨y0, x0⟩ := d3.at 0 _ rfl
  obtain ⟨y1, x1⟩ := d3.at 1 _ rfl
  have q0 := (e3.at 0 _ rfl).1
  have q1 := (e3.at 1 _ rfl).1
  have hf := (d3.put 0 (by simp) (.int .i64 0)).put 1 (by simp) (.int .i64 0)
  have z0 := (hf.at 0 _ rfl).1
  have z1 := (hf.at 1 _ rfl).1
  have HX := Lib.hid ((X4.setCell (p := ⟨w.heap.size + 1, 0, none⟩) (by show w.heap.size ≤ w.heap.size + 1; omega) (.int .i64 0)).setCell (p := ⟨w.heap.size + 1, 1, none⟩) (by show w.heap.size ≤ w.heap.size + 1; omega) (.int .i64 0))
  go_wp2_with fail
  refine bodyPost_ret (v := .tuple #[.agg #[.int .i64 0, .int .i64 0], .int .i64 4]) (by simp [results, Tryz.results39, go_sem, z0, z1]) rfl ⟨rfl, HX.out⟩
set_option maxRecDepth 100000 in
set_option maxHeartbeats 1000000 in
theorem count_lim (N D : Nat) (b : Bk) (cyc : List Int) (hb : BkOk N D b cyc) (s : Nat) (hs : b.col.length = s + 1) (hc : 60 < s * b.pts.length) (hp : b.pts.length ≤ 60) (a : BkA) (w : World) (g : Glob w) (hI : BkIn w a b) : Calls Tryz.prog 13 #[bkV a b] w (Ret (.tuple #[.int .i64 0, .int .i64 4]) w) := by
  have H := Lib.hid (fun W (X : Ext w W) => cOf_lim N D b cyc hb s hs hc hp a W (g.ext X) (hI.ext X))
  have hcol := hb.col.le
  have HC := Lib.hid (fun W => sCount_ok 0 0 (by omega) (by omega) W)
  clear hb g hI hs hc hp hcol
  obtain ⟨pts, tris, ter, col, obs⟩ := b
  obtain ⟨pb, po, pc, tb, tO, tc, fb, fo, fc, lb, lo, lc, oc, oa⟩ := a
  simp only [bkV, shpV] at *
  go_enter Tryz.func13, Tryz.ntmps13
  go_wp2_with fail
  have X0 := (Ext.refl w).alloc (.cells #[.slice (some ⟨pb, po, none⟩) pts.length pc, .slice (some ⟨tb, tO, none⟩) tris.length tc, .slice (some ⟨fb, fo, none⟩) pts.length fc, .slice (some ⟨lb, lo, none⟩) col.length lc, .slice oa obs.length oc] 43)
  refine (H.out _ X0).mono ?_
  rintro e w1 ⟨rfl, X1⟩
  go_wp2_with fail
  refine (HC.out _).mono ?_
  rintro e w2 ⟨rfl, X2⟩
  have XE := ((X0.trans X1).alloc (.cells #[.int .i64 0, .int .i64 0] 109)).trans X2
  go_wp2_with fail
  go_ret2
  exact ⟨rfl, XE⟩
end Go.Proofs.YtbiffaciinppiaaGreatDoor
end

section
namespace Go.Proofs.YtbiffaciinppiaaGreatDoor
open Go.RowKit
attribute [local irreducible] tQ
set_option linter.unusedSimpArgs false

def unN (i : Nat) : ByteArray := ⟨#[117, UInt8.ofNat (97 + i % 26), UInt8.ofNat (97 + i / 26)]⟩
def layN (i : Nat) : Lay := ⟨unN i, 1, none⟩
def colN (m : Nat) : List Lay := (List.range m).map layN
theorem colN_len (m : Nat) : (colN m).length = m := by unfold colN; simp
theorem colN_succ (m : Nat) : colN (m + 1) = colN m ++ [layN m] := by unfold colN; rw [List.range_succ, List.map_append]; rfl
theorem colN_at (m i : Nat) (h : i < (colN m).length) : (colN m)[i] = layN i := by simp [colN]
theorem unN_ok : ∀ i < 30, (unN i).size = 3 ∧ ∀ j < 30, unN i = unN j → i = j := by decide +kernel
theorem colN_mx (m : Nat) : ∀ x ∈ colN m, x.max = none := fun x hx => by
  unfold colN at hx
  obtain ⟨i, _, rfl⟩ := List.mem_map.1 hx
  rfl
def layL (x : Lay) : List Value := [.string x.unit, .string (tQ x.min), .string (mxT x.max)]
theorem ELay : ElemOk Tryz.prog 40 56 3 48 := ⟨Tryz.underlying40, ⟨_, (by kernel_rfl : (Tryz.prog.info? 56).map (fun i => (i.zero, i.size, i.bytes)) = some (some (.agg #[.string ⟨#[]⟩, .string ⟨#[]⟩, .string ⟨#[]⟩]), 3, 48)), rfl⟩, by omega, by omega⟩
theorem unName_b : ∀ i < 30, letterB (((117 : UInt8).toNat : Int)) = true ∧ letterB ((UInt8.ofNat (97 + i % 26)).toNat : Int) = true ∧ letterB ((UInt8.ofNat (97 + i / 26)).toNat : Int) = true := by decide +kernel
theorem unName (i : Nat) (hi : i < 30) : NameOk (unN i) := by
  obtain ⟨h0, h1, h2⟩ := unName_b i hi
  refine ⟨by show 0 < 3; omega, by show 3 ≤ 32; omega, fun k hk => .inl ?_⟩
  have hk : k < 3 := hk
  rcases (show k = 0 ∨ k = 1 ∨ k = 2 by omega) with rfl | rfl | rfl
  · exact h0
  · exact h1
  · exact h2
theorem colN_ok (m : Nat) (h0 : 0 < m) (h : m ≤ 30) : ColOk (colN m) := by
  refine ⟨by rw [colN_len]; exact h0, by rw [colN_len]; omega, fun x hx => ?_, fun i j hj hij e => ?_⟩
  · unfold colN at hx
    obtain ⟨i, hi, rfl⟩ := List.mem_map.1 hx
    have hi := List.mem_range.1 hi
    have h1 : Dg 9 (1 : Rat) := (gr_int 1 1 1 (by omega) (by decide)).dg (by omega) (by omega)
    exact ⟨unName i (by omega), h1, by show ¬ (1 : Rat) < 0; decide +kernel, by simp [layN]⟩
  · rw [colN_len] at hj
    have hi : i < (colN m).length := by rw [colN_len]; omega
    have hj' : j < (colN m).length := by rw [colN_len]; omega
    have e1 : (colN m)[i].unit = (colN m)[j].unit := e
    rw [colN_at m i hi, colN_at m j hj'] at e1
    have := (unN_ok i (by omega)).2 j (by omega) e1
    omega
theorem OwnL.lays {base m n c g : Nat} {w : World} (h : OwnL layL 56 3 base (colN m) (.slice (some ⟨g, 0, none⟩) n c) w) : LaysIn w g 0 (colN m) := fun i hi => by
  have hc := h.cells.2.2 i hi
  have a0 := hc 0 _ (by omega) rfl
  have a1 := hc 1 _ (by omega) rfl
  have a2 := hc 2 _ (by omega) rfl
  rw [Nat.zero_add]
  exact ⟨by rw [Nat.add_zero] at a0; exact a0, a1, a2⟩
end Go.Proofs.YtbiffaciinppiaaGreatDoor
end
