/- fieldbook.Height, Surfaces at right books. constraint.height. -/
import Derived.Test.YtbiffaciinppiaaGreatDoorVa20
import Derived.Test.YtbiffaciinppiaaGreatDoorVa11
import Derived.Test.YtbiffaciinppiaaGreatDoorVa06
import Derived.Deep.QuietTactic
import Derived.BigQuiet
set_option linter.unusedVariables false
set_option linter.unusedSimpArgs false
section
namespace Go.Proofs.YtbiffaciinppiaaGreatDoor
open Go.RowKit
attribute [local irreducible] tQ
set_option linter.unusedSimpArgs false

set_option maxRecDepth 100000 in
set_option maxHeartbeats 4000000 in
theorem height_ok (N D : Nat) (b : Bk) (cyc : List Int) (hb : BkOk N D b cyc) (a : BkA) (w : World) (g : Glob w) (hI : BkIn w a b) (i : Nat) (hi : i < b.obs.length) (z : Rat) (hz : Dg 9 z) (hzh : Dg 9 (hgt b.obs[i].kd z)) (hd : ∀ d, b.obs[i].kd = .contact d → Dg 9 d)
    (HV : ∀ W, Ext w W → Calls Tryz.prog 70 #[mV a.pb a.po a.pc a.tb a.tO a.tc b.pts b.tris, .slice (some ⟨a.fb, a.fo, none⟩) b.pts.length a.fc, ptV b.obs[i].pt] W (Ret (.tuple #[.string (tQ z), .int .i64 0]) W)) :
    Calls Tryz.prog 47 #[bkV a b, .int .i64 i] w (Ret (.tuple #[.string (tQ (hgt b.obs[i].kd z)), .int .i64 0]) w) := by
  have HI := Lib.hid (fun W (X : Ext w W) => checkIndex_ok N D b cyc hb a W (g.ext X) (hI.ext X) i hi)
  have HH := Lib.hid (fun W (X : Ext w W) => bheight_ok a b b.obs[i] z W (g.ext X) hz hd (fun W' X' => HV W' (X.trans X')))
  have HK := Lib.hid (fun W (X : Ext w W) => rCheck (hgt b.obs[i].kd z) W (g.ext X) hzh)
  have hob := hI.o
  clear HV hz hzh hd
  generalize tQ (hgt b.obs[i].kd z) = th at *
  clear hb g hI
  obtain ⟨pts, tris, ter, col, obs⟩ := b
  obtain ⟨pb, po, pc, tb, tO, tc, fb, fo, fc, lb, lo, lc, oc, oa⟩ := a
  simp only at hob
  have hi : i < obs.length := hi
  have hbb := hob (fun e => by rw [e] at hi; simp at hi)
  obtain ⟨bb, oo, rfl, hcells⟩ := hbb
  simp only [bkV, obV] at *
  have i1 : (i : Int) < obs.length := by omega
  have hq := fun k u hu => hcells i hi k u hu
  clear hcells hob
  have hox : ∃ ob, ob = obs[i] := ⟨_, rfl⟩
  obtain ⟨ob, hox⟩ := hox
  rw [← hox] at hq HH
  clear hox
  have q0 := hq 0 _ rfl
  rw [Nat.add_zero] at q0
  have q1 := hq 1 _ rfl
  have q2 := hq 2 _ rfl
  have q3 := hq 3 _ rfl
  have q4 := hq 4 _ rfl
  have q5 := hq 5 _ rfl
  have q6 := hq 6 _ rfl
  have q7 := hq 7 _ rfl
  have q8 := hq 8 _ rfl
  have q9 := hq 9 _ rfl
  clear hq
  go_enter Tryz.func47, Tryz.ntmps47
  go_wp2_with fail
  have hW : ∃ W0, W0 = w.alloc (.cells #[.slice (some ⟨pb, po, none⟩) pts.length pc, .slice (some ⟨tb, tO, none⟩) tris.length tc, .slice (some ⟨fb, fo, none⟩) pts.length fc, .slice (some ⟨lb, lo, none⟩) col.length lc, .slice (some ⟨bb, oo, none⟩) obs.length oc] 43) := ⟨_, rfl⟩
  obtain ⟨W0, hW0⟩ := hW
  rw [← hW0]
  have X0 : Ext w W0 := by rw [hW0]; exact (Ext.refl w).alloc _
  have c0 : Cells w.heap.size [.slice (some ⟨pb, po, none⟩) pts.length pc, .slice (some ⟨tb, tO, none⟩) tris.length tc, .slice (some ⟨fb, fo, none⟩) pts.length fc, .slice (some ⟨lb, lo, none⟩) col.length lc, .slice (some ⟨bb, oo, none⟩) obs.length oc] W0 := by rw [hW0]; exact Cells.new w [.slice (some ⟨pb, po, none⟩) pts.length pc, .slice (some ⟨tb, tO, none⟩) tris.length tc, .slice (some ⟨fb, fo, none⟩) pts.length fc, .slice (some ⟨lb, lo, none⟩) col.length lc, .slice (some ⟨bb, oo, none⟩) obs.length oc] 43
  clear hW0
  refine (HI.out W0 X0).mono ?_
  rintro e w1 ⟨rfl, X1⟩
  have XX := X0.trans X1
  have c1 := c0.ext X1
  replace q0 := XX.cell q0
  replace q1 := XX.cell q1
  replace q2 := XX.cell q2
  replace q3 := XX.cell q3
  replace q4 := XX.cell q4
  replace q5 := XX.cell q5
  replace q6 := XX.cell q6
  replace q7 := XX.cell q7
  replace q8 := XX.cell q8
  replace q9 := XX.cell q9
  obtain ⟨k0, k1, k2, k3, k4⟩ := five c1
  have ln := World.block_lt_of_cell? w1 _ k0
  have lq := World.block_lt_of_cell? w1 _ q0
  go_upto_region 4 with fail
  clear c0 c1 X0 X1 hi
  refine wp_region_Z' (TE w1.heap.size w1) 11 (by kernel_rfl) ?_
  intro V0 hV0
  have Y0 : Ext w1 V0 := by rw [hV0]; exact (Ext.refl w1).drew
  have hT : TE w1.heap.size w1 false V0 := Y0
  clear hV0
  refine' wpAnyZ_take 11 (i := 0) (v := _) rfl rfl (by kernel_rfl) (by decide) (by kernel_rfl) (by kernel_rfl) (by kernel_rfl) (by kernel_rfl) (fun _ _ _ h => h.no.elim) hT (by rfl) ?hy ?_
  case hy => (intro w' hS; have g0 := hS.c ln k0; have g1 := hS.c ln k1; have g2 := hS.c ln k2; have g3 := hS.c ln k3; have g4 := hS.c ln k4; have h0 := hS.c lq q0; have h1 := hS.c lq q1; have h2 := hS.c lq q2; have h3 := hS.c lq q3; have h4 := hS.c lq q4; have h5 := hS.c lq q5; have h6 := hS.c lq q6; have h7 := hS.c lq q7; have h8 := hS.c lq q8; have h9 := hS.c lq q9; clear hS; go_simp; rfl)
  try simp only [Act.put, List.getElem_toArray, List.getElem_cons_zero, List.getElem_cons_succ, List.setIfInBounds_toArray, List.set_cons_zero, List.set_cons_succ]
  refine' wpAnyZ_take 11 (i := 1) (v := _) rfl rfl (by kernel_rfl) (by decide) (by kernel_rfl) (by kernel_rfl) (by kernel_rfl) (by kernel_rfl) (fun _ _ _ h => h.no.elim) hT (by rfl) ?hy ?_
  case hy => (intro w' hS; have g0 := hS.c ln k0; have g1 := hS.c ln k1; have g2 := hS.c ln k2; have g3 := hS.c ln k3; have g4 := hS.c ln k4; have h0 := hS.c lq q0; have h1 := hS.c lq q1; have h2 := hS.c lq q2; have h3 := hS.c lq q3; have h4 := hS.c lq q4; have h5 := hS.c lq q5; have h6 := hS.c lq q6; have h7 := hS.c lq q7; have h8 := hS.c lq q8; have h9 := hS.c lq q9; clear hS; go_simp; rfl)
  try simp only [Act.put, List.getElem_toArray, List.getElem_cons_zero, List.getElem_cons_succ, List.setIfInBounds_toArray, List.set_cons_zero, List.set_cons_succ]
  refine' wpAnyZ_take 11 (i := 2) (v := _) rfl rfl (by kernel_rfl) (by decide) (by kernel_rfl) (by kernel_rfl) (by kernel_rfl) (by kernel_rfl) (fun _ _ _ h => h.no.elim) hT (by rfl) ?hy ?_
  case hy => (intro w' hS; have g0 := hS.c ln k0; have g1 := hS.c ln k1; have g2 := hS.c ln k2; have g3 := hS.c ln k3; have g4 := hS.c ln k4; have h0 := hS.c lq q0; have h1 := hS.c lq q1; have h2 := hS.c lq q2; have h3 := hS.c lq q3; have h4 := hS.c lq q4; have h5 := hS.c lq q5; have h6 := hS.c lq q6; have h7 := hS.c lq q7; have h8 := hS.c lq q8; have h9 := hS.c lq q9; clear hS; go_simp; rfl)
  try simp only [Act.put, List.getElem_toArray, List.getElem_cons_zero, List.getElem_cons_succ, List.setIfInBounds_toArray, List.set_cons_zero, List.set_cons_succ]
  refine' wpAnyZ_take 11 (i := 3) (v := _) rfl rfl (by kernel_rfl) (by decide) (by kernel_rfl) (by kernel_rfl) (by kernel_rfl) (by kernel_rfl) (fun _ _ _ h => h.no.elim) hT (by rfl) ?hy ?_
  case hy => (intro w' hS; have g0 := hS.c ln k0; have g1 := hS.c ln k1; have g2 := hS.c ln k2; have g3 := hS.c ln k3; have g4 := hS.c ln k4; have h0 := hS.c lq q0; have h1 := hS.c lq q1; have h2 := hS.c lq q2; have h3 := hS.c lq q3; have h4 := hS.c lq q4; have h5 := hS.c lq q5; have h6 := hS.c lq q6; have h7 := hS.c lq q7; have h8 := hS.c lq q8; have h9 := hS.c lq q9; clear hS; go_simp; rfl)
  try simp only [Act.put, List.getElem_toArray, List.getElem_cons_zero, List.getElem_cons_succ, List.setIfInBounds_toArray, List.set_cons_zero, List.set_cons_succ]
  refine' wpAnyZ_take 11 (i := 4) (v := _) rfl rfl (by kernel_rfl) (by decide) (by kernel_rfl) (by kernel_rfl) (by kernel_rfl) (by kernel_rfl) (fun _ _ _ h => h.no.elim) hT (by rfl) ?hy ?_
  case hy => (intro w' hS; have g0 := hS.c ln k0; have g1 := hS.c ln k1; have g2 := hS.c ln k2; have g3 := hS.c ln k3; have g4 := hS.c ln k4; have h0 := hS.c lq q0; have h1 := hS.c lq q1; have h2 := hS.c lq q2; have h3 := hS.c lq q3; have h4 := hS.c lq q4; have h5 := hS.c lq q5; have h6 := hS.c lq q6; have h7 := hS.c lq q7; have h8 := hS.c lq q8; have h9 := hS.c lq q9; clear hS; go_simp; rfl)
  try simp only [Act.put, List.getElem_toArray, List.getElem_cons_zero, List.getElem_cons_succ, List.setIfInBounds_toArray, List.set_cons_zero, List.set_cons_succ]
  refine' wpAnyZ_take 11 (i := 5) (v := _) rfl rfl (by kernel_rfl) (by decide) (by kernel_rfl) (by kernel_rfl) (by kernel_rfl) (by kernel_rfl) (fun _ _ _ h => h.no.elim) hT (by rfl) ?hy ?_
  case hy => (intro w' hS; have g0 := hS.c ln k0; have g1 := hS.c ln k1; have g2 := hS.c ln k2; have g3 := hS.c ln k3; have g4 := hS.c ln k4; have h0 := hS.c lq q0; have h1 := hS.c lq q1; have h2 := hS.c lq q2; have h3 := hS.c lq q3; have h4 := hS.c lq q4; have h5 := hS.c lq q5; have h6 := hS.c lq q6; have h7 := hS.c lq q7; have h8 := hS.c lq q8; have h9 := hS.c lq q9; clear hS; go_simp; rfl)
  try simp only [Act.put, List.getElem_toArray, List.getElem_cons_zero, List.getElem_cons_succ, List.setIfInBounds_toArray, List.set_cons_zero, List.set_cons_succ]
  refine wpAnyZ_one false (i := 6) (by kernel_rfl) (by kernel_rfl) rfl (fun K' hK => ?_)
  go_simp
  refine (HH.out _ (XX.trans Y0)).mono ?_
  rintro e V1 ⟨rfl, Z1⟩
  have Y1 := Y0.trans Z1
  refine hK.out _ _ Y1 ?_
  clear hK K' hT
  have hT : TE w1.heap.size w1 false V1 := Y1
  try simp only [Act.put, List.getElem_toArray, List.getElem_cons_zero, List.getElem_cons_succ, List.setIfInBounds_toArray, List.set_cons_zero, List.set_cons_succ]
  refine' wpAnyZ_take 11 (i := 7) (v := _) rfl rfl (by kernel_rfl) (by decide) (by kernel_rfl) (by kernel_rfl) (by kernel_rfl) (by kernel_rfl) (fun _ _ _ h => h.no.elim) hT (by rfl) ?hy ?_
  case hy => (intro w' hS; skip; clear hS; go_simp; rfl)
  try simp only [Act.put, List.getElem_toArray, List.getElem_cons_zero, List.getElem_cons_succ, List.setIfInBounds_toArray, List.set_cons_zero, List.set_cons_succ]
  refine' wpAnyZ_take 11 (i := 8) (v := _) rfl rfl (by kernel_rfl) (by decide) (by kernel_rfl) (by kernel_rfl) (by kernel_rfl) (by kernel_rfl) (fun _ _ _ h => h.no.elim) hT (by rfl) ?hy ?_
  case hy => (intro w' hS; skip; clear hS; go_simp; rfl)
  try simp only [Act.put, List.getElem_toArray, List.getElem_cons_zero, List.getElem_cons_succ, List.setIfInBounds_toArray, List.set_cons_zero, List.set_cons_succ]
  refine' wpAnyZ_take 11 (i := 9) (v := _) rfl rfl (by kernel_rfl) (by decide) (by kernel_rfl) (by kernel_rfl) (by kernel_rfl) (by kernel_rfl) (fun _ _ _ h => h.no.elim) hT (by rfl) ?hy ?_
  case hy => (intro w' hS; skip; clear hS; go_simp; rfl)
  try simp only [Act.put, List.getElem_toArray, List.getElem_cons_zero, List.getElem_cons_succ, List.setIfInBounds_toArray, List.set_cons_zero, List.set_cons_succ]
  refine wpAnyZ_one false (i := 10) (by kernel_rfl) (by kernel_rfl) rfl (fun K' hK => ?_)
  go_simp
  refine hK.out _ _ Y1 ?_
  clear hK K'
  try simp only [Act.put, List.getElem_toArray, List.getElem_cons_zero, List.getElem_cons_succ, List.setIfInBounds_toArray, List.set_cons_zero, List.set_cons_succ]
  refine wpAnyZ_one true (i := 11) (by kernel_rfl) (by kernel_rfl) rfl (fun K' hK => ?_)
  go_simp
  refine hK.out _ _ trivial ?_
  clear hK K'
  refine wpAnyZ_done (by kernel_rfl) ⟨rfl, ?_⟩ _
  have X2 := XX.trans Y1
  go_wp2_with fail
  refine (HK.out _ X2).mono ?_
  rintro e V2 ⟨rfl, Z2⟩
  go_wp2_with fail
  go_ret2
  exact ⟨rfl, X2.trans Z2⟩

set_option maxRecDepth 100000 in
set_option maxHeartbeats 4000000 in
theorem surfaces_ok (N D : Nat) (b : Bk) (cyc : List Int) (hb : BkOk N D b cyc) (a : BkA) (w : World) (g : Glob w) (hI : BkIn w a b) (i : Nat) (hi : i < b.obs.length) (u l : Nat) (hu : idxU b.col b.obs[i].upper = u) (hu6 : u < 60) (hlo : numB b.obs[i].kd = false → idxU b.col b.obs[i].lower = l ∧ l < 60) :
    Calls Tryz.prog 48 #[bkV a b, .int .i64 i] w (fun e w' => ∃ v, e = .returned (.tuple #[v, .int .i64 0]) ∧ IntsV (sfs b.obs[i].kd u l b.col.length) v w' ∧ Ext w w') := by
  have HI := Lib.hid (fun W (X : Ext w W) => checkIndex_ok N D b cyc hb a W (g.ext X) (hI.ext X) i hi)
  have HH := Lib.hid (fun W (X : Ext w W) => bsurf_ok a b b.obs[i] u l W (hI.l.ext X) hb.col.ne hb.col.le hu hu6 hlo)
  have hob := hI.o
  clear hu hu6 hlo
  clear hb g hI
  obtain ⟨pts, tris, ter, col, obs⟩ := b
  obtain ⟨pb, po, pc, tb, tO, tc, fb, fo, fc, lb, lo, lc, oc, oa⟩ := a
  simp only at hob
  have hi : i < obs.length := hi
  have hbb := hob (fun e => by rw [e] at hi; simp at hi)
  obtain ⟨bb, oo, rfl, hcells⟩ := hbb
  simp only [bkV, obV] at *
  have i1 : (i : Int) < obs.length := by omega
  have hq := fun k u hu => hcells i hi k u hu
  clear hcells hob
  have hox : ∃ ob, ob = obs[i] := ⟨_, rfl⟩
  obtain ⟨ob, hox⟩ := hox
  rw [← hox] at hq HH ⊢
  clear hox
  have q0 := hq 0 _ rfl
  rw [Nat.add_zero] at q0
  have q1 := hq 1 _ rfl
  have q2 := hq 2 _ rfl
  have q3 := hq 3 _ rfl
  have q4 := hq 4 _ rfl
  have q5 := hq 5 _ rfl
  have q6 := hq 6 _ rfl
  have q7 := hq 7 _ rfl
  have q8 := hq 8 _ rfl
  have q9 := hq 9 _ rfl
  clear hq
  go_enter Tryz.func48, Tryz.ntmps48
  go_wp2_with fail
  have hW : ∃ W0, W0 = w.alloc (.cells #[.slice (some ⟨pb, po, none⟩) pts.length pc, .slice (some ⟨tb, tO, none⟩) tris.length tc, .slice (some ⟨fb, fo, none⟩) pts.length fc, .slice (some ⟨lb, lo, none⟩) col.length lc, .slice (some ⟨bb, oo, none⟩) obs.length oc] 43) := ⟨_, rfl⟩
  obtain ⟨W0, hW0⟩ := hW
  rw [← hW0]
  have X0 : Ext w W0 := by rw [hW0]; exact (Ext.refl w).alloc _
  have c0 : Cells w.heap.size [.slice (some ⟨pb, po, none⟩) pts.length pc, .slice (some ⟨tb, tO, none⟩) tris.length tc, .slice (some ⟨fb, fo, none⟩) pts.length fc, .slice (some ⟨lb, lo, none⟩) col.length lc, .slice (some ⟨bb, oo, none⟩) obs.length oc] W0 := by rw [hW0]; exact Cells.new w [.slice (some ⟨pb, po, none⟩) pts.length pc, .slice (some ⟨tb, tO, none⟩) tris.length tc, .slice (some ⟨fb, fo, none⟩) pts.length fc, .slice (some ⟨lb, lo, none⟩) col.length lc, .slice (some ⟨bb, oo, none⟩) obs.length oc] 43
  clear hW0
  refine (HI.out W0 X0).mono ?_
  rintro e w1 ⟨rfl, X1⟩
  have XX := X0.trans X1
  have c1 := c0.ext X1
  replace q0 := XX.cell q0
  replace q1 := XX.cell q1
  replace q2 := XX.cell q2
  replace q3 := XX.cell q3
  replace q4 := XX.cell q4
  replace q5 := XX.cell q5
  replace q6 := XX.cell q6
  replace q7 := XX.cell q7
  replace q8 := XX.cell q8
  replace q9 := XX.cell q9
  obtain ⟨k0, k1, k2, k3, k4⟩ := five c1
  have ln := World.block_lt_of_cell? w1 _ k0
  have lq := World.block_lt_of_cell? w1 _ q0
  go_upto_region 4 with fail
  clear c0 c1 X0 X1 hi
  refine wp_region_Z' (TE w1.heap.size w1) 8 (by kernel_rfl) ?_
  intro V0 hV0
  have Y0 : Ext w1 V0 := by rw [hV0]; exact (Ext.refl w1).drew
  have hT : TE w1.heap.size w1 false V0 := Y0
  clear hV0
  refine' wpAnyZ_take 8 (i := 0) (v := _) rfl rfl (by kernel_rfl) (by decide) (by kernel_rfl) (by kernel_rfl) (by kernel_rfl) (by kernel_rfl) (fun _ _ _ h => h.no.elim) hT (by rfl) ?hy ?_
  case hy => (intro w' hS; have g0 := hS.c ln k0; have g1 := hS.c ln k1; have g2 := hS.c ln k2; have g3 := hS.c ln k3; have g4 := hS.c ln k4; have h0 := hS.c lq q0; have h1 := hS.c lq q1; have h2 := hS.c lq q2; have h3 := hS.c lq q3; have h4 := hS.c lq q4; have h5 := hS.c lq q5; have h6 := hS.c lq q6; have h7 := hS.c lq q7; have h8 := hS.c lq q8; have h9 := hS.c lq q9; clear hS; go_simp; rfl)
  try simp only [Act.put, List.getElem_toArray, List.getElem_cons_zero, List.getElem_cons_succ, List.setIfInBounds_toArray, List.set_cons_zero, List.set_cons_succ]
  refine' wpAnyZ_take 8 (i := 1) (v := _) rfl rfl (by kernel_rfl) (by decide) (by kernel_rfl) (by kernel_rfl) (by kernel_rfl) (by kernel_rfl) (fun _ _ _ h => h.no.elim) hT (by rfl) ?hy ?_
  case hy => (intro w' hS; have g0 := hS.c ln k0; have g1 := hS.c ln k1; have g2 := hS.c ln k2; have g3 := hS.c ln k3; have g4 := hS.c ln k4; have h0 := hS.c lq q0; have h1 := hS.c lq q1; have h2 := hS.c lq q2; have h3 := hS.c lq q3; have h4 := hS.c lq q4; have h5 := hS.c lq q5; have h6 := hS.c lq q6; have h7 := hS.c lq q7; have h8 := hS.c lq q8; have h9 := hS.c lq q9; clear hS; go_simp; rfl)
  try simp only [Act.put, List.getElem_toArray, List.getElem_cons_zero, List.getElem_cons_succ, List.setIfInBounds_toArray, List.set_cons_zero, List.set_cons_succ]
  refine' wpAnyZ_take 8 (i := 2) (v := _) rfl rfl (by kernel_rfl) (by decide) (by kernel_rfl) (by kernel_rfl) (by kernel_rfl) (by kernel_rfl) (fun _ _ _ h => h.no.elim) hT (by rfl) ?hy ?_
  case hy => (intro w' hS; have g0 := hS.c ln k0; have g1 := hS.c ln k1; have g2 := hS.c ln k2; have g3 := hS.c ln k3; have g4 := hS.c ln k4; have h0 := hS.c lq q0; have h1 := hS.c lq q1; have h2 := hS.c lq q2; have h3 := hS.c lq q3; have h4 := hS.c lq q4; have h5 := hS.c lq q5; have h6 := hS.c lq q6; have h7 := hS.c lq q7; have h8 := hS.c lq q8; have h9 := hS.c lq q9; clear hS; go_simp; rfl)
  try simp only [Act.put, List.getElem_toArray, List.getElem_cons_zero, List.getElem_cons_succ, List.setIfInBounds_toArray, List.set_cons_zero, List.set_cons_succ]
  refine' wpAnyZ_take 8 (i := 3) (v := _) rfl rfl (by kernel_rfl) (by decide) (by kernel_rfl) (by kernel_rfl) (by kernel_rfl) (by kernel_rfl) (fun _ _ _ h => h.no.elim) hT (by rfl) ?hy ?_
  case hy => (intro w' hS; have g0 := hS.c ln k0; have g1 := hS.c ln k1; have g2 := hS.c ln k2; have g3 := hS.c ln k3; have g4 := hS.c ln k4; have h0 := hS.c lq q0; have h1 := hS.c lq q1; have h2 := hS.c lq q2; have h3 := hS.c lq q3; have h4 := hS.c lq q4; have h5 := hS.c lq q5; have h6 := hS.c lq q6; have h7 := hS.c lq q7; have h8 := hS.c lq q8; have h9 := hS.c lq q9; clear hS; go_simp; rfl)
  try simp only [Act.put, List.getElem_toArray, List.getElem_cons_zero, List.getElem_cons_succ, List.setIfInBounds_toArray, List.set_cons_zero, List.set_cons_succ]
  refine' wpAnyZ_take 8 (i := 4) (v := _) rfl rfl (by kernel_rfl) (by decide) (by kernel_rfl) (by kernel_rfl) (by kernel_rfl) (by kernel_rfl) (fun _ _ _ h => h.no.elim) hT (by rfl) ?hy ?_
  case hy => (intro w' hS; have g0 := hS.c ln k0; have g1 := hS.c ln k1; have g2 := hS.c ln k2; have g3 := hS.c ln k3; have g4 := hS.c ln k4; have h0 := hS.c lq q0; have h1 := hS.c lq q1; have h2 := hS.c lq q2; have h3 := hS.c lq q3; have h4 := hS.c lq q4; have h5 := hS.c lq q5; have h6 := hS.c lq q6; have h7 := hS.c lq q7; have h8 := hS.c lq q8; have h9 := hS.c lq q9; clear hS; go_simp; rfl)
  try simp only [Act.put, List.getElem_toArray, List.getElem_cons_zero, List.getElem_cons_succ, List.setIfInBounds_toArray, List.set_cons_zero, List.set_cons_succ]
  refine' wpAnyZ_take 8 (i := 5) (v := _) rfl rfl (by kernel_rfl) (by decide) (by kernel_rfl) (by kernel_rfl) (by kernel_rfl) (by kernel_rfl) (fun _ _ _ h => h.no.elim) hT (by rfl) ?hy ?_
  case hy => (intro w' hS; have g0 := hS.c ln k0; have g1 := hS.c ln k1; have g2 := hS.c ln k2; have g3 := hS.c ln k3; have g4 := hS.c ln k4; have h0 := hS.c lq q0; have h1 := hS.c lq q1; have h2 := hS.c lq q2; have h3 := hS.c lq q3; have h4 := hS.c lq q4; have h5 := hS.c lq q5; have h6 := hS.c lq q6; have h7 := hS.c lq q7; have h8 := hS.c lq q8; have h9 := hS.c lq q9; clear hS; go_simp; rfl)
  try simp only [Act.put, List.getElem_toArray, List.getElem_cons_zero, List.getElem_cons_succ, List.setIfInBounds_toArray, List.set_cons_zero, List.set_cons_succ]
  refine wpAnyZ_one false (i := 6) (by kernel_rfl) (by kernel_rfl) rfl (fun K' hK => ?_)
  go_simp
  refine (HH.out _ (XX.trans Y0)).mono ?_
  rintro e V1 ⟨v, rfl, hv, Z1⟩
  have Y1 := Y0.trans Z1
  refine hK.out _ _ Y1 ?_
  clear hK K' hT
  try simp only [Act.put, List.getElem_toArray, List.getElem_cons_zero, List.getElem_cons_succ, List.setIfInBounds_toArray, List.set_cons_zero, List.set_cons_succ]
  refine wpAnyZ_one false (i := 7) (by kernel_rfl) (by kernel_rfl) rfl (fun K' hK => ?_)
  go_simp
  refine hK.out _ _ Y1 ?_
  clear hK K'
  try simp only [Act.put, List.getElem_toArray, List.getElem_cons_zero, List.getElem_cons_succ, List.setIfInBounds_toArray, List.set_cons_zero, List.set_cons_succ]
  refine wpAnyZ_one true (i := 8) (by kernel_rfl) (by kernel_rfl) rfl (fun K' hK => ?_)
  go_simp
  refine hK.out _ _ trivial ?_
  clear hK K'
  refine wpAnyZ_done (by kernel_rfl) ⟨rfl, ?_⟩ _
  have X2 := XX.trans Y1
  go_wp2_with fail
  go_ret2
  exact ⟨_, rfl, hv, X2⟩

end Go.Proofs.YtbiffaciinppiaaGreatDoor
end

section
namespace Go.Proofs.YtbiffaciinppiaaGreatDoor
open Go.RowKit Go.Maps
attribute [local irreducible] tQ
set_option linter.unusedSimpArgs false

noncomputable def fm0 : Value → Option Value := fun _ => none
noncomputable def fm1 (k0 : Int) (v0 : Value) : Value → Option Value := upd fm0 (.int .i64 k0) v0
noncomputable def fm2 (k0 k1 : Int) (v0 v1 : Value) : Value → Option Value := upd (fm1 k0 v0) (.int .i64 k1) v1
noncomputable def fm3 (k0 k1 k2 : Int) (v0 v1 v2 : Value) : Value → Option Value := upd (fm2 k0 k1 v0 v1) (.int .i64 k2) v2
abbrev MapR (w : World) (b n : Nat) (f : Value → Option Value) : Prop := MapE Tryz.prog 3 54 w b n f
def HgR (k0 k1 k2 : Int) (v0 v1 v2 : Value) (mb : Nat) (W : World) (v40 : Value) (wr : World) : Prop :=
  ∃ k : Nat, k ≤ 3 ∧ v40 = .int .i64 k ∧ MapR wr mb k (match k with | 0 => fm0 | 1 => fm1 k0 v0 | 2 => fm2 k0 k1 v0 v1 | _ => fm3 k0 k1 k2 v0 v1 v2) ∧ Below mb W wr
theorem putR {w : World} {b n : Nat} {f : Value → Option Value} (h : MapR w b n f) (hn : n ≤ 100) (k : Int) (hk : I64 k) (s : ByteArray) (hs : s.size ≤ 1000) (hno : f (.int .i64 k) = none) :
    ∃ w', (Instr.mapUpdate 164 (.map (some b)) (.int .i64 k) (.string s)).run Tryz.prog w = .ok () w' ∧ MapR w' b (n + 1) (upd f (.int .i64 k) (.string s)) ∧ w.grownBy w' (some b) := by
  obtain ⟨kl, hkl⟩ := key_int hk
  exact h.update_new KInt Tryz.underlying164 (by unfold maxLen; omega) hkl (plainElem_string Tryz.underlying54 (by unfold maxLen; omega)) hno

set_option maxRecDepth 100000 in
set_option maxHeartbeats 4000000 in
theorem cheight_ok (N D : Nat) (pts : List (Rat × Rat)) (tris : List Tri) (cyc : List Int) (hM : MeshOk N D pts tris cyc) (p : Rat × Rat) (hp : GP N D p) (i : Nat) (hi : i < tris.length) (LL : List Nat) (hL : locd pts tris p tris.length = i :: LL) (pb po pc tb tO tc : Nat) (w : World) (g : Glob w) (hI : MeshIn w pb po tb tO pts tris)
    (k0 k1 k2 : Int) (ht : tris[i] = (k0, k1, k2)) (hk0 : I64 k0) (hk1 : I64 k1) (hk2 : I64 k2) (hne : k0 ≠ k1 ∧ k0 ≠ k2 ∧ k1 ≠ k2) (s0 s1 s2 : ByteArray) (hs : s0.size ≤ 1000 ∧ s1.size ≤ 1000 ∧ s2.size ≤ 1000)
    (h0 : s0 = tQ (shr (cor pts k0) (cor pts k1) (cor pts k2) p 0)) (h1 : s1 = tQ (shr (cor pts k0) (cor pts k1) (cor pts k2) p 1)) (h2 : s2 = tQ (shr (cor pts k0) (cor pts k1) (cor pts k2) p 2)) :
    Calls Tryz.prog 85 #[mV pb po pc tb tO tc pts tris, ptV p] w (fun e w' => ∃ mb, e = .returned (.tuple #[.map (some mb), .int .i64 i, .int .i64 0]) ∧ w.heap.size ≤ mb ∧ MapR w' mb 3 (fm3 k0 k1 k2 (.string s0) (.string s1) (.string s2)) ∧ Ext w w') := by
  have HL := Lib.hid (fun W (X : Ext w W) => locate_ok N D pts tris cyc hM p hp pb po pc tb tO tc W (g.ext X) (hI.ext X))
  have HS := Lib.hid (fun W (X : Ext w W) => shares_ok N D pts tris cyc hM p hp i hi pb po pc tb tO tc W (g.ext X) (hI.ext X) (cor pts k0) (cor pts k1) (cor pts k2) (by rw [ht]) (by rw [ht]) (by rw [ht]))
  rw [← h0, ← h1, ← h2] at HS
  rw [hL] at HL
  have htr := hI.t i hi
  rw [ht] at htr
  have htl := hM.tlen
  clear hM hp g hI h0 h1 h2 hL
  obtain ⟨xP, yP⟩ := p
  simp only [mV, ptV] at *
  generalize tQ xP = px at *
  generalize tQ yP = py at *
  go_enter Tryz.func85, Tryz.ntmps85
  go_wp2_with fail
  have hW : ∃ W0, W0 = (w.alloc (.cells #[.slice (some ⟨pb, po, none⟩) pts.length pc, .slice (some ⟨tb, tO, none⟩) tris.length tc] 37)).alloc (.cells #[.string px, .string py] 91) := ⟨_, rfl⟩
  obtain ⟨W0, hW0⟩ := hW
  rw [← hW0]
  have X0 : Ext w W0 := by rw [hW0]; exact ((Ext.refl w).alloc _).alloc _
  have c0 : Cells w.heap.size [.slice (some ⟨pb, po, none⟩) pts.length pc, .slice (some ⟨tb, tO, none⟩) tris.length tc] W0 := by rw [hW0]; exact (Cells.new w [.slice (some ⟨pb, po, none⟩) pts.length pc, .slice (some ⟨tb, tO, none⟩) tris.length tc] 37).ext ((Ext.refl _).alloc _)
  have c1 : Cells (w.heap.size + 1) [.string px, .string py] W0 := by
    have := Cells.new (w.alloc (.cells #[.slice (some ⟨pb, po, none⟩) pts.length pc, .slice (some ⟨tb, tO, none⟩) tris.length tc] 37)) [.string px, .string py] 91
    rw [World.size_alloc] at this
    rw [hW0]; exact this
  clear hW0
  refine (HL.out W0 X0).mono ?_
  rintro e w1 ⟨v, rfl, ⟨va, cap, rfl, hv⟩, X1⟩
  obtain ⟨gl, rfl, hgc⟩ := hv (by simp)
  have g0 := hgc 0 (by simp)
  simp only [List.getElem_cons_zero, List.length_cons] at g0 ⊢
  have XX := X0.trans X1
  have d0 := c0.ext X1
  have d1 := c1.ext X1
  obtain ⟨ht0, ht1, ht2⟩ := htr
  have t0 := XX.cell ht0
  have t1 := XX.cell ht1
  have t2 := XX.cell ht2
  have hln : (0 : Int) < ((LL.length + 1 : Nat) : Int) := by omega
  clear c0 c1 hgc hv X0 X1 HL ht0 ht1 ht2
  go_upto_region 4 with fail
  go_cut [8, 6] (fun s8 s6 wx => ∃ n, s8 = .pointer (some ⟨n, 0, none⟩) ∧ s6 = .int .i64 0 ∧ w1.heap.size ≤ n ∧ Cells n [.string s0, .string s1, .string s2] wx ∧ Ext w1 wx)
  case first =>
    have m0 := (d0.at 0 _ rfl).1
    have m1 := (d0.at 1 _ rfl).1
    have p0 := (d1.at 0 _ rfl).1
    have p1 := (d1.at 1 _ rfl).1
    have lm := World.block_lt_of_cell? w1 _ m0
    have lp := World.block_lt_of_cell? w1 _ p0
    have lg := World.block_lt_of_cell? w1 _ g0
    refine wp_region_Z' (TE w1.heap.size w1) 11 (by kernel_rfl) ?_
    intro V0 hV0
    have Y0 : Ext w1 V0 := by rw [hV0]; exact (Ext.refl w1).drew
    have hT : TE w1.heap.size w1 false V0 := Y0
    clear hV0
    refine' wpAnyZ_take 11 (i := 0) (v := _) rfl rfl (by kernel_rfl) (by decide) (by kernel_rfl) (by kernel_rfl) (by kernel_rfl) (by kernel_rfl) (fun _ _ _ h => h.no.elim) hT (by rfl) ?hy ?_
    case hy => (intro w' hS; have q0 := hS.c lm m0; have q1 := hS.c lm m1; have q2 := hS.c lp p0; have q3 := hS.c lp p1; have q4 := hS.c lg g0; clear hS; go_simp; rfl)
    try simp only [Act.put, List.getElem_toArray, List.getElem_cons_zero, List.getElem_cons_succ, List.setIfInBounds_toArray, List.set_cons_zero, List.set_cons_succ]
    refine' wpAnyZ_take 11 (i := 1) (v := _) rfl rfl (by kernel_rfl) (by decide) (by kernel_rfl) (by kernel_rfl) (by kernel_rfl) (by kernel_rfl) (fun _ _ _ h => h.no.elim) hT (by rfl) ?hy ?_
    case hy => (intro w' hS; have q0 := hS.c lm m0; have q1 := hS.c lm m1; have q2 := hS.c lp p0; have q3 := hS.c lp p1; have q4 := hS.c lg g0; clear hS; go_simp; rfl)
    try simp only [Act.put, List.getElem_toArray, List.getElem_cons_zero, List.getElem_cons_succ, List.setIfInBounds_toArray, List.set_cons_zero, List.set_cons_succ]
    refine' wpAnyZ_take 11 (i := 2) (v := _) rfl rfl (by kernel_rfl) (by decide) (by kernel_rfl) (by kernel_rfl) (by kernel_rfl) (by kernel_rfl) (fun _ _ _ h => h.no.elim) hT (by rfl) ?hy ?_
    case hy => (intro w' hS; have q0 := hS.c lm m0; have q1 := hS.c lm m1; have q2 := hS.c lp p0; have q3 := hS.c lp p1; have q4 := hS.c lg g0; clear hS; go_simp; rfl)
    try simp only [Act.put, List.getElem_toArray, List.getElem_cons_zero, List.getElem_cons_succ, List.setIfInBounds_toArray, List.set_cons_zero, List.set_cons_succ]
    refine' wpAnyZ_take 11 (i := 3) (v := _) rfl rfl (by kernel_rfl) (by decide) (by kernel_rfl) (by kernel_rfl) (by kernel_rfl) (by kernel_rfl) (fun _ _ _ h => h.no.elim) hT (by rfl) ?hy ?_
    case hy => (intro w' hS; have q0 := hS.c lm m0; have q1 := hS.c lm m1; have q2 := hS.c lp p0; have q3 := hS.c lp p1; have q4 := hS.c lg g0; clear hS; go_simp; rfl)
    try simp only [Act.put, List.getElem_toArray, List.getElem_cons_zero, List.getElem_cons_succ, List.setIfInBounds_toArray, List.set_cons_zero, List.set_cons_succ]
    refine' wpAnyZ_take 11 (i := 4) (v := _) rfl rfl (by kernel_rfl) (by decide) (by kernel_rfl) (by kernel_rfl) (by kernel_rfl) (by kernel_rfl) (fun _ _ _ h => h.no.elim) hT (by rfl) ?hy ?_
    case hy => (intro w' hS; have q0 := hS.c lm m0; have q1 := hS.c lm m1; have q2 := hS.c lp p0; have q3 := hS.c lp p1; have q4 := hS.c lg g0; clear hS; go_simp; rfl)
    try simp only [Act.put, List.getElem_toArray, List.getElem_cons_zero, List.getElem_cons_succ, List.setIfInBounds_toArray, List.set_cons_zero, List.set_cons_succ]
    refine wpAnyZ_alt (r := 5) (rs := [9]) (by kernel_rfl) ?_
    refine AltR.cons false (by kernel_rfl) rfl (fun K' hK => ?_) ?_
    ·
      go_simp
      refine (HS.out _ (XX.trans Y0)).mono ?_
      rintro e V1 ⟨rfl, Z1⟩
      have Y1 := Y0.trans Z1
      refine hK.out _ _ Y1 ?_
      clear hK K'
      have hT1 : TE w1.heap.size w1 false V1 := Y1
      try simp only [Act.put, List.getElem_toArray, List.getElem_cons_zero, List.getElem_cons_succ, List.setIfInBounds_toArray, List.set_cons_zero, List.set_cons_succ]
      refine' wpAnyZ_take 11 (i := 6) (v := _) rfl rfl (by kernel_rfl) (by decide) (by kernel_rfl) (by kernel_rfl) (by kernel_rfl) (by kernel_rfl) (fun _ _ _ h => h.no.elim) hT1 (by rfl) ?hy ?_
      case hy => (intro w' hS; skip; clear hS; go_simp; rfl)
      try simp only [Act.put, List.getElem_toArray, List.getElem_cons_zero, List.getElem_cons_succ, List.setIfInBounds_toArray, List.set_cons_zero, List.set_cons_succ]
      refine' wpAnyZ_take 11 (i := 7) (v := _) rfl rfl (by kernel_rfl) (by decide) (by kernel_rfl) (by kernel_rfl) (by kernel_rfl) (by kernel_rfl) (fun _ _ _ h => h.no.elim) hT1 (by rfl) ?hy ?_
      case hy => (intro w' hS; skip; clear hS; go_simp; rfl)
      try simp only [Act.put, List.getElem_toArray, List.getElem_cons_zero, List.getElem_cons_succ, List.setIfInBounds_toArray, List.set_cons_zero, List.set_cons_succ]
      refine' wpAnyZ_take 11 (i := 8) (v := _) rfl rfl (by kernel_rfl) (by decide) (by kernel_rfl) (by kernel_rfl) (by kernel_rfl) (by kernel_rfl) (fun _ _ _ h => h.no.elim) hT1 (by rfl) ?hy ?_
      case hy => (intro w' hS; skip; clear hS; go_simp; rfl)
      try simp only [Act.put, List.getElem_toArray, List.getElem_cons_zero, List.getElem_cons_succ, List.setIfInBounds_toArray, List.set_cons_zero, List.set_cons_succ]
      refine wpAnyZ_one false (i := 9) (by kernel_rfl) (by kernel_rfl) rfl (fun K' hK => ?_)
      go_simp
      have Y2 : Ext w1 (V1.alloc (.cells #[.string ⟨#[]⟩, .string ⟨#[]⟩, .string ⟨#[]⟩] 212)) := Y1.alloc _
      refine hK.out _ _ Y2 ?_
      clear hK K'
      refine wpAnyZ_gen ?_
      intro V2 hV
      rw [← hV] at Y2
      have Z2 : Ext V1 V2 := by rw [hV]; exact (Ext.refl _).alloc _
      have f9 : Cells V1.heap.size [.string ⟨#[]⟩, .string ⟨#[]⟩, .string ⟨#[]⟩] V2 := by rw [hV]; exact Cells.new _ _ _
      have l9 : w1.heap.size ≤ V1.heap.size := Y1.size
      clear hV
      try simp only [Act.put, List.getElem_toArray, List.getElem_cons_zero, List.getElem_cons_succ, List.setIfInBounds_toArray, List.set_cons_zero, List.set_cons_succ]
      obtain ⟨a0, b0⟩ := f9.at 0 _ rfl
      obtain ⟨a1, b1⟩ := f9.at 1 _ rfl
      obtain ⟨a2, b2⟩ := f9.at 2 _ rfl
      have hf := ((f9.put 0 (by simp) (.string s0)).put 1 (by simp) (.string s1)).put 2 (by simp) (.string s2)
      have hX := ((Y2.setCell (p := ⟨_, 0, none⟩) l9 (.string s0)).setCell (p := ⟨_, 1, none⟩) l9 (.string s1)).setCell (p := ⟨_, 2, none⟩) l9 (.string s2)
      have HF := Lib.hid (And.intro hf hX)
      have hXX := hX
      clear hf hX
      refine wpAnyZ_one false (i := 10) (by kernel_rfl) (by kernel_rfl) rfl (fun K' hK => ?_)
      go_simp
      refine hK.out _ _ HF.out.2 ?_
      clear hK K'
      try simp only [Act.put, List.getElem_toArray, List.getElem_cons_zero, List.getElem_cons_succ, List.setIfInBounds_toArray, List.set_cons_zero, List.set_cons_succ]
      refine wpAnyZ_one true (i := 11) (by kernel_rfl) (by kernel_rfl) rfl (fun K' hK => ?_)
      go_simp
      refine hK.out _ _ trivial ?_
      clear hK K'
      refine wpAnyZ_done (by kernel_rfl) ⟨rfl, ?_⟩ _
      go_wp2_with fail
      go_meet
      exact ⟨_, rfl, rfl, l9, HF.out.1, HF.out.2⟩
    refine AltR.cons false (by kernel_rfl) rfl (fun K' hK => ?_) ?_
    ·
      go_simp
      have Y3 : Ext w1 (V0.alloc (.cells #[.string ⟨#[]⟩, .string ⟨#[]⟩, .string ⟨#[]⟩] 212)) := Y0.alloc _
      refine hK.out _ _ Y3 ?_
      clear hK K'
      refine wpAnyZ_gen ?_
      intro V3 hV
      rw [← hV] at Y3
      have Z3 : Ext V0 V3 := by rw [hV]; exact (Ext.refl _).alloc _
      have f9 : Cells V0.heap.size [.string ⟨#[]⟩, .string ⟨#[]⟩, .string ⟨#[]⟩] V3 := by rw [hV]; exact Cells.new _ _ _
      have l9 : w1.heap.size ≤ V0.heap.size := Y0.size
      clear hV
      try simp only [Act.put, List.getElem_toArray, List.getElem_cons_zero, List.getElem_cons_succ, List.setIfInBounds_toArray, List.set_cons_zero, List.set_cons_succ]
      refine wpAnyZ_one false (i := 5) (by kernel_rfl) (by kernel_rfl) rfl (fun K' hK => ?_)
      go_simp
      refine (HS.out _ (XX.trans Y3)).mono ?_
      rintro e V4 ⟨rfl, Z4⟩
      have Y4 := Y3.trans Z4
      refine hK.out _ _ Y4 ?_
      clear hK K'
      have hT4 : TE w1.heap.size w1 false V4 := Y4
      try simp only [Act.put, List.getElem_toArray, List.getElem_cons_zero, List.getElem_cons_succ, List.setIfInBounds_toArray, List.set_cons_zero, List.set_cons_succ]
      refine' wpAnyZ_take 11 (i := 6) (v := _) rfl rfl (by kernel_rfl) (by decide) (by kernel_rfl) (by kernel_rfl) (by kernel_rfl) (by kernel_rfl) (fun _ _ _ h => h.no.elim) hT4 (by rfl) ?hy ?_
      case hy => (intro w' hS; skip; clear hS; go_simp; rfl)
      try simp only [Act.put, List.getElem_toArray, List.getElem_cons_zero, List.getElem_cons_succ, List.setIfInBounds_toArray, List.set_cons_zero, List.set_cons_succ]
      refine' wpAnyZ_take 11 (i := 7) (v := _) rfl rfl (by kernel_rfl) (by decide) (by kernel_rfl) (by kernel_rfl) (by kernel_rfl) (by kernel_rfl) (fun _ _ _ h => h.no.elim) hT4 (by rfl) ?hy ?_
      case hy => (intro w' hS; skip; clear hS; go_simp; rfl)
      try simp only [Act.put, List.getElem_toArray, List.getElem_cons_zero, List.getElem_cons_succ, List.setIfInBounds_toArray, List.set_cons_zero, List.set_cons_succ]
      refine' wpAnyZ_take 11 (i := 8) (v := _) rfl rfl (by kernel_rfl) (by decide) (by kernel_rfl) (by kernel_rfl) (by kernel_rfl) (by kernel_rfl) (fun _ _ _ h => h.no.elim) hT4 (by rfl) ?hy ?_
      case hy => (intro w' hS; skip; clear hS; go_simp; rfl)
      try simp only [Act.put, List.getElem_toArray, List.getElem_cons_zero, List.getElem_cons_succ, List.setIfInBounds_toArray, List.set_cons_zero, List.set_cons_succ]
      have f94 := f9.ext Z4
      obtain ⟨a0, b0⟩ := f94.at 0 _ rfl
      obtain ⟨a1, b1⟩ := f94.at 1 _ rfl
      obtain ⟨a2, b2⟩ := f94.at 2 _ rfl
      have hf := ((f94.put 0 (by simp) (.string s0)).put 1 (by simp) (.string s1)).put 2 (by simp) (.string s2)
      have hX := ((Y4.setCell (p := ⟨_, 0, none⟩) l9 (.string s0)).setCell (p := ⟨_, 1, none⟩) l9 (.string s1)).setCell (p := ⟨_, 2, none⟩) l9 (.string s2)
      have HF := Lib.hid (And.intro hf hX)
      have hXX := hX
      clear hf hX
      refine wpAnyZ_one false (i := 10) (by kernel_rfl) (by kernel_rfl) rfl (fun K' hK => ?_)
      go_simp
      refine hK.out _ _ HF.out.2 ?_
      clear hK K'
      try simp only [Act.put, List.getElem_toArray, List.getElem_cons_zero, List.getElem_cons_succ, List.setIfInBounds_toArray, List.set_cons_zero, List.set_cons_succ]
      refine wpAnyZ_one true (i := 11) (by kernel_rfl) (by kernel_rfl) rfl (fun K' hK => ?_)
      go_simp
      refine hK.out _ _ trivial ?_
      clear hK K'
      refine wpAnyZ_done (by kernel_rfl) ⟨rfl, ?_⟩ _
      go_wp2_with fail
      go_meet
      exact ⟨_, rfl, rfl, l9, HF.out.1, HF.out.2⟩
    exact AltR.nil
  case rest =>
    obtain ⟨n, rfl, rfl, hn, e3, XO⟩ := hcut
    have XC := XX.trans XO
    have r0 := d0.ext XO
    have g1 := XO.cell g0
    have u0 := XO.cell t0
    have u1 := XO.cell t1
    have u2 := XO.cell t2
    have hm0 : MapR (wc.alloc (.map #[] 0)) wc.heap.size 0 fm0 := MapE.made wc _ _ _
    have X2 := (Ext.refl wc).alloc (.map #[] 0)
    have ii : (i : Int) < tris.length := by omega
    clear HS XX d0 d1 g0 t0 t1 t2
    have hmm := @run_makeMap Tryz.prog
    go_upto_region 8 with fail
    clear hmm
    have hWm : ∃ Wm, Wm = wc.alloc (.map #[] 0) := ⟨_, rfl⟩
    obtain ⟨Wm, hWm⟩ := hWm
    have hsm : Wm.heap.size = wc.heap.size + 1 := by rw [hWm]; simp
    rw [← hWm] at hm0 X2 ⊢
    clear hWm
    have hmb : ∃ mb, mb = wc.heap.size := ⟨_, rfl⟩
    obtain ⟨mb, hmb⟩ := hmb
    rw [← hmb] at hm0 hsm ⊢
    have hmw : w.heap.size ≤ mb := by rw [hmb]; exact XC.size
    have e4 := e3.ext X2
    have r1 := r0.ext X2
    have m1 := (r1.at 1 _ rfl).1
    have g2 := X2.cell g1
    have y0 := X2.cell u0
    have y1 := X2.cell u1
    have y2 := X2.cell u2
    have XD := XC.trans X2
    have hBm : Below mb wc Wm := by rw [hmb]; exact X2
    have hmbs : mb ≤ Wm.heap.size := by omega
    have nb : n < mb := by rw [hmb]; exact World.block_lt_of_cell? wc _ (e3.at 0 _ rfl).1
    have glb : gl < mb := by rw [hmb]; exact World.block_lt_of_cell? wc _ g1
    clear hmb X2 e3 r0 g1 u0 u1 u2
    go_quiet (fail)
    have hWq : ∃ Wq, Wq = Wm.drewN nq := ⟨_, rfl⟩
    obtain ⟨Wq, hWq⟩ := hWq
    rw [← hWq]
    have Zq : Ext Wm Wq := by rw [hWq]; exact (Ext.refl Wm).drewN nq
    have hm1 : MapR Wq mb 0 fm0 := by
      rw [hWq]
      exact hm0.same (by rw [← hWq]; exact Zq.block mb (by omega))
    replace XD := XD.trans Zq
    replace e4 := e4.ext Zq
    replace r1 := r1.ext Zq
    replace g2 := Zq.cell g2
    replace hBm : Below mb wc Wq := hBm.trans (Zq.mono (by omega))
    have hszq : Wm.heap.size ≤ Wq.heap.size := Zq.size
    clear hWq hm0 y0 y1 y2 m1 Zq
    go_wp2_with fail
    go_loopw [40] (HgR k0 k1 k2 (.string s0) (.string s1) (.string s2) mb Wq) (fun p _ => 3 - (intOf p).toNat)
    case atStart => exact ⟨0, by omega, rfl, hm1, Below.refl _ _⟩
    case round =>
      obtain ⟨k, hk, rfl, hE, hB⟩ := hrel
      have hwrs := hB.size
      have x0 := (hB.cell (p := ⟨n, 0, none⟩) nb).trans (e4.at 0 _ rfl).1
      have x1 := (hB.cell (p := ⟨n, 1, none⟩) nb).trans (e4.at 1 _ rfl).1
      have x2 := (hB.cell (p := ⟨n, 2, none⟩) nb).trans (e4.at 2 _ rfl).1
      rcases (show k = 0 ∨ k = 1 ∨ k = 2 ∨ k = 3 by omega) with rfl | rfl | rfl | rfl
      · have hix := ixT0 k0 k1 k2 wr
        obtain ⟨w2, hup, hE2, hg2⟩ := putR hE (by omega) k0 hk0 s0 hs.1 rfl
        have HE := Lib.hid hE2
        have HB := Lib.hid (show Below mb Wq w2 from Below.grown hB hg2 (by omega) (fun k e => by cases e; omega))
        clear hE hE2 hg2 hB
        go_wp2_with fail
        exact ⟨⟨1, by omega, rfl, HE.out, HB.out⟩, by simp [intOf]⟩
      · have hix := ixT1 k0 k1 k2 wr
        obtain ⟨w2, hup, hE2, hg2⟩ := putR hE (by omega) k1 hk1 s1 hs.2.1 (by simp only [fm1]; rw [upd_other (by intro e; cases e; exact hne.1 rfl)]; rfl)
        have HE := Lib.hid hE2
        have HB := Lib.hid (show Below mb Wq w2 from Below.grown hB hg2 (by omega) (fun k e => by cases e; omega))
        clear hE hE2 hg2 hB
        go_wp2_with fail
        exact ⟨⟨2, by omega, rfl, HE.out, HB.out⟩, by simp [intOf]⟩
      · have hix := ixT2 k0 k1 k2 wr
        obtain ⟨w2, hup, hE2, hg2⟩ := putR hE (by omega) k2 hk2 s2 hs.2.2 (by simp only [fm2, fm1]; rw [upd_other (by intro e; cases e; exact hne.2.2 rfl), upd_other (by intro e; cases e; exact hne.2.1 rfl)]; rfl)
        have HE := Lib.hid hE2
        have HB := Lib.hid (show Below mb Wq w2 from Below.grown hB hg2 (by omega) (fun k e => by cases e; omega))
        clear hE hE2 hg2 hB
        go_wp2_with fail
        exact ⟨⟨3, by omega, rfl, HE.out, HB.out⟩, by simp [intOf]⟩
      · have gz := (hB.cell (p := ⟨gl, 0, none⟩) glb).trans g2
        have HE := Lib.hid hE
        have HX := Lib.hid (show Ext w wr from Ext.trans' XD (hB.mono hmw))
        clear hE hB
        go_wp2_with fail
        go_quiet (fail)
        go_wp2_with fail
        refine bodyPost_ret (v := .tuple #[.map (some mb), .int .i64 i, .int .i64 0]) (by simp [results, Tryz.results85, go_sem]) rfl ⟨mb, rfl, hmw, ?_, HX.out.drewN _⟩
        exact HE.out.same (by rfl)

end Go.Proofs.YtbiffaciinppiaaGreatDoor
end
