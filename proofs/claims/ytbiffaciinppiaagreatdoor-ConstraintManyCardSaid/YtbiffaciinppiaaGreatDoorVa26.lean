/- constraint.rows at a dip. -/
import Derived.Test.YtbiffaciinppiaaGreatDoorVa25
set_option linter.unusedVariables false
set_option linter.unusedSimpArgs false
namespace Go.Proofs.YtbiffaciinppiaaGreatDoor
open Go.RowKit Go.Maps
attribute [local irreducible] tQ
set_option linter.unusedSimpArgs false

set_option maxRecDepth 100000 in
set_option maxHeartbeats 4000000 in
theorem rows_dip (s p : Nat) (hs : s ≤ 60) (hp : p ≤ 60) (h0 : 0 < s * p) (h6 : s * p ≤ 60) (k0 k1 k2 : Nat) (hk : k0 < p ∧ k1 < p ∧ k2 < p) (hne : k0 ≠ k1 ∧ k0 ≠ k2 ∧ k1 ≠ k2)
    (pb po pc tb tO tc fb fo fc lb lo lc bb oo oc np nt nf nl no : Nat) (i : Nat) (hi : i < no) (hno : no ≤ 100) (nm tx ty up low : ByteArray) (nx ny nz : Rat) (dx : Dg 9 nx) (dy : Dg 9 ny) (dz : Dg 9 nz) (hz0 : nz ≠ 0) (w : World) (g : Glob w) (hq : ∀ k u, ([.int .i64 3, .string nm, .string tx, .string ty, .string ⟨#[]⟩, .string up, .string low, .string (tQ nx), .string (tQ ny), .string (tQ nz)] : List Value)[k]? = some u → w.cell? ⟨bb, oo + i * 10 + k, none⟩ = some u)
    (ti : Nat) (l : List Nat) (hl : l.length ≤ 60) (hls : ∀ u ∈ l, u < s) (q0 q1 q2 z : Rat) (d0 : Dg 9 q0) (d1 : Dg 9 q1) (d2 : Dg 9 q2) (dz9 : Dg 9 z)
    (HH : ∀ W, Ext w W → Calls Tryz.prog 85 #[.agg #[.slice (some ⟨pb, po, none⟩) np pc, .slice (some ⟨tb, tO, none⟩) nt tc], .agg #[.string tx, .string ty]] W (fun e w' => ∃ mb, e = .returned (.tuple #[.map (some mb), .int .i64 ti, .int .i64 0]) ∧ W.heap.size ≤ mb ∧ MapR w' mb 3 (fm3 k0 k1 k2 (.string (tQ q0)) (.string (tQ q1)) (.string (tQ q2))) ∧ Ext W w'))
    (HZ : ∀ W, Ext w W → Calls Tryz.prog 47 #[.agg #[.slice (some ⟨pb, po, none⟩) np pc, .slice (some ⟨tb, tO, none⟩) nt tc, .slice (some ⟨fb, fo, none⟩) nf fc, .slice (some ⟨lb, lo, none⟩) nl lc, .slice (some ⟨bb, oo, none⟩) no oc], .int .i64 i] W (Ret (.tuple #[.string (tQ z), .int .i64 0]) W))
    (HS : ∀ W, Ext w W → Calls Tryz.prog 48 #[.agg #[.slice (some ⟨pb, po, none⟩) np pc, .slice (some ⟨tb, tO, none⟩) nt tc, .slice (some ⟨fb, fo, none⟩) nf fc, .slice (some ⟨lb, lo, none⟩) nl lc, .slice (some ⟨bb, oo, none⟩) no oc], .int .i64 i] W (fun e w' => ∃ v, e = .returned (.tuple #[v, .int .i64 0]) ∧ IntsV l v w' ∧ Ext W w'))
    (x0 x1 x2 y0 y1 y2 : Rat) (dx0 : Dg 9 x0) (dx1 : Dg 9 x1) (dx2 : Dg 9 x2) (dy0 : Dg 9 y0) (dy1 : Dg 9 y1) (dy2 : Dg 9 y2) (da : Dg 9 (-nx / nz)) (dc : Dg 9 (-ny / nz))
    (HL : ∀ W, Ext w W → Calls Tryz.prog 89 #[.agg #[.slice (some ⟨pb, po, none⟩) np pc, .slice (some ⟨tb, tO, none⟩) nt tc], .int .i64 ti] W (fun e w' => ∃ me mn, e = .returned (.tuple #[.map (some me), .map (some mn), .int .i64 0]) ∧ W.heap.size ≤ me ∧ W.heap.size ≤ mn ∧ MapR w' me 3 (fm3 k0 k1 k2 (.string (tQ x0)) (.string (tQ x1)) (.string (tQ x2))) ∧ MapR w' mn 3 (fm3 k0 k1 k2 (.string (tQ y0)) (.string (tQ y1)) (.string (tQ y2))) ∧ Ext W w'))
    : Calls Tryz.prog 45 #[shpV s p, .agg #[.slice (some ⟨pb, po, none⟩) np pc, .slice (some ⟨tb, tO, none⟩) nt tc, .slice (some ⟨fb, fo, none⟩) nf fc, .slice (some ⟨lb, lo, none⟩) nl lc, .slice (some ⟨bb, oo, none⟩) no oc], .int .i64 i] w (fun e w' => ∃ (v : Value) (N : List Rw) (base : Nat), e = .returned (.tuple #[v, .int .i64 0]) ∧ w.heap.size ≤ base ∧ OwnL (encW (s * p)) 101 2 base N v w' ∧ RowsIn (s * p) base N w' ∧ N.map (fun r => (r.G, r.b)) = l.flatMap (rowsX2 p k0 k1 k2 x0 x1 x2 (-nx / nz) y0 y1 y2 (-ny / nz)) ∧ Ext w w') := by
  have HHd := Lib.hid HH
  have HZd := Lib.hid HZ
  have HSd := Lib.hid HS
  have HLd := Lib.hid HL
  have HNx := Lib.hid (fun W => rNeg nx W (by have := dx.size; omega))
  have HNy := Lib.hid (fun W => rNeg ny W (by have := dy.size; omega))
  have HDx := Lib.hid (fun W (X : Ext w W) => rDiv (-nx) nz W (g.ext X) dx.neg dz hz0)
  have HDy := Lib.hid (fun W (X : Ext w W) => rDiv (-ny) nz W (g.ext X) dy.neg dz hz0)
  have HA := Lib.hid (fun (u : Nat) (hu : u < s) (mb oc' base : Nat) (N : List Rw) (hN : N.length ≤ 990) (v : Value) (W5 wr : World) (X5 : Ext w W5) (hm : MapR W5 mb 3 (fm3 k0 k1 k2 (.string (tQ x0)) (.string (tQ x1)) (.string (tQ x2)))) (hc : Cells w.heap.size [.int .i64 s, .int .i64 p] W5) (hoc : oc' < base) (hso : w.heap.size < oc') (hmo : mb ≠ oc') (hbs : base ≤ W5.heap.size) (hI : InvR (s * p) base oc' W5 v N wr) => add_ok s p u hs hp h0 h6 hu k0 k1 k2 hk hne x0 x1 x2 (-nx / nz) dx0 dx1 dx2 da mb oc' w.heap.size base N hN v w W5 wr g X5 hm hc hoc (by omega) (by omega) hmo (by omega) hbs hI)
  have HB := Lib.hid (fun (u : Nat) (hu : u < s) (mb oc' base : Nat) (N : List Rw) (hN : N.length ≤ 990) (v : Value) (W5 wr : World) (X5 : Ext w W5) (hm : MapR W5 mb 3 (fm3 k0 k1 k2 (.string (tQ y0)) (.string (tQ y1)) (.string (tQ y2)))) (hc : Cells w.heap.size [.int .i64 s, .int .i64 p] W5) (hoc : oc' < base) (hso : w.heap.size < oc') (hmo : mb ≠ oc') (hbs : base ≤ W5.heap.size) (hI : InvR (s * p) base oc' W5 v N wr) => add_ok s p u hs hp h0 h6 hu k0 k1 k2 hk hne y0 y1 y2 (-ny / nz) dy0 dy1 dy2 dc mb oc' w.heap.size base N hN v w W5 wr g X5 hm hc hoc (by omega) (by omega) hmo (by omega) hbs hI)
  have HBd := Lib.hid (fun (N : List Rw) (hN : N.map (fun r => (r.G, r.b)) = l.flatMap (rowsX2 p k0 k1 k2 x0 x1 x2 (-nx / nz) y0 y1 y2 (-ny / nz))) (hNl : N.length ≤ 1000) (base : Nat) (v : Value) (W : World) (X : Ext w W) (hown : OwnL (encW (s * p)) 101 2 base N v W) (hr : RowsIn (s * p) base N W) => bounded_ok (s * p) h0 h6 N hNl base v W (g.ext X) hown hr (dg_of hN (rowsX2_dg dx0 dx1 dx2 da dy0 dy1 dy2 dc)))
  have HLS := Lib.hid hls
  clear HH HZ HS hs hp h0 h6 hk hne d0 d1 d2 dz9 hls g HL dx dy dz hz0 dx0 dx1 dx2 dy0 dy1 dy2 da dc
  generalize s * p = n at *
  have i1 : (i : Int) < no := by omega
  have i0 : (0 : Int) ≤ (i : Int) := by omega
  have e0 := hq 0 _ rfl
  rw [Nat.add_zero] at e0
  have e1 := hq 1 _ rfl
  have e2 := hq 2 _ rfl
  have e3 := hq 3 _ rfl
  have e4 := hq 4 _ rfl
  have e5 := hq 5 _ rfl
  have e6 := hq 6 _ rfl
  have e7 := hq 7 _ rfl
  have e8 := hq 8 _ rfl
  have e9 := hq 9 _ rfl
  clear hq
  simp only [shpV] at *
  go_enter Tryz.func45, Tryz.ntmps45
  go_upto_region 1 with fail
  have hV : ∃ W0, W0 = (w.alloc (.cells #[.int .i64 s, .int .i64 p] 109)).alloc (.cells #[.slice (some ⟨pb, po, none⟩) np pc, .slice (some ⟨tb, tO, none⟩) nt tc, .slice (some ⟨fb, fo, none⟩) nf fc, .slice (some ⟨lb, lo, none⟩) nl lc, .slice (some ⟨bb, oo, none⟩) no oc] 43) := ⟨_, rfl⟩
  obtain ⟨W0, hV⟩ := hV
  rw [← hV]
  have V0 : Ext w W0 := by rw [hV]; exact ((Ext.refl w).alloc _).alloc _
  have hV0 : W0.heap.size = w.heap.size + 1 + 1 := by rw [hV]; simp
  have vB := (five (show Cells (w.heap.size + 1) [.slice (some ⟨pb, po, none⟩) np pc, .slice (some ⟨tb, tO, none⟩) nt tc, .slice (some ⟨fb, fo, none⟩) nf fc, .slice (some ⟨lb, lo, none⟩) nl lc, .slice (some ⟨bb, oo, none⟩) no oc] W0 from by
    have := Cells.new (w.alloc (.cells #[.int .i64 s, .int .i64 p] 109)) [.slice (some ⟨pb, po, none⟩) np pc, .slice (some ⟨tb, tO, none⟩) nt tc, .slice (some ⟨fb, fo, none⟩) nf fc, .slice (some ⟨lb, lo, none⟩) nl lc, .slice (some ⟨bb, oo, none⟩) no oc] 43
    rw [World.size_alloc] at this
    rw [hV]; exact this)).2.2.2.2
  have HV := Lib.hid (And.intro hV hV0)
  clear hV hV0
  replace e0 := V0.cell e0
  replace e1 := V0.cell e1
  replace e2 := V0.cell e2
  replace e3 := V0.cell e3
  replace e4 := V0.cell e4
  replace e5 := V0.cell e5
  replace e6 := V0.cell e6
  replace e7 := V0.cell e7
  replace e8 := V0.cell e8
  replace e9 := V0.cell e9
  go_upto_region 2 with fail
  have hW : ∃ W1, W1 = W0.alloc (.cells #[.int .i64 3, .string nm, .string tx, .string ty, .string ⟨#[]⟩, .string up, .string low, .string (tQ nx), .string (tQ ny), .string (tQ nz)] 95) := ⟨_, rfl⟩
  obtain ⟨W1, hW⟩ := hW
  rw [← hW]
  rw [HV.out.1] at hW
  have hV2 : W0.heap.size = w.heap.size + 1 + 1 := HV.out.2
  rw [hV2]
  clear HV vB V0 hV2
  have X1 : Ext w W1 := by rw [hW]; exact (((Ext.refl w).alloc _).alloc _).alloc _
  have cS : Cells w.heap.size [.int .i64 s, .int .i64 p] W1 := by rw [hW]; exact (Cells.new w [.int .i64 s, .int .i64 p] 109).ext (((Ext.refl _).alloc _).alloc _)
  have cB : Cells (w.heap.size + 1) [.slice (some ⟨pb, po, none⟩) np pc, .slice (some ⟨tb, tO, none⟩) nt tc, .slice (some ⟨fb, fo, none⟩) nf fc, .slice (some ⟨lb, lo, none⟩) nl lc, .slice (some ⟨bb, oo, none⟩) no oc] W1 := by
    have := Cells.new (w.alloc (.cells #[.int .i64 s, .int .i64 p] 109)) [.slice (some ⟨pb, po, none⟩) np pc, .slice (some ⟨tb, tO, none⟩) nt tc, .slice (some ⟨fb, fo, none⟩) nf fc, .slice (some ⟨lb, lo, none⟩) nl lc, .slice (some ⟨bb, oo, none⟩) no oc] 43
    rw [World.size_alloc] at this
    rw [hW]; exact this.ext ((Ext.refl _).alloc _)
  have cO : Cells (w.heap.size + 1 + 1) [.int .i64 3, .string nm, .string tx, .string ty, .string ⟨#[]⟩, .string up, .string low, .string (tQ nx), .string (tQ ny), .string (tQ nz)] W1 := by
    have := Cells.new ((w.alloc (.cells #[.int .i64 s, .int .i64 p] 109)).alloc (.cells #[.slice (some ⟨pb, po, none⟩) np pc, .slice (some ⟨tb, tO, none⟩) nt tc, .slice (some ⟨fb, fo, none⟩) nf fc, .slice (some ⟨lb, lo, none⟩) nl lc, .slice (some ⟨bb, oo, none⟩) no oc] 43)) [.int .i64 3, .string nm, .string tx, .string ty, .string ⟨#[]⟩, .string up, .string low, .string (tQ nx), .string (tQ ny), .string (tQ nz)] 95
    rw [World.size_alloc, World.size_alloc] at this
    rw [hW]; exact this
  clear hW e0 e1 e2 e3 e4 e5 e6 e7 e8 e9 i0 i1
  have hBn := Lib.hid (Nat.succ_le_of_lt (World.block_lt_of_cell? W1 _ (cO.at 0 _ rfl).1))
  obtain ⟨b0, b1, b2, b3, b4⟩ := five cB
  have o2 := (cO.at 2 _ rfl).1
  have o3 := (cO.at 3 _ rfl).1
  go_wp2_with fail
  refine (HHd.out W1 X1).mono ?_
  rintro e w2 ⟨mb, rfl, hmb, hM, X2⟩
  have XA := X1.trans X2
  clear b0 b1 b2 b3 b4 o2 o3
  obtain ⟨b0, b1, b2, b3, b4⟩ := five (cB.ext X2)
  go_wp2_with fail
  refine (HZd.out w2 XA).mono ?_
  rintro e w3 ⟨rfl, X3⟩
  have XB := XA.trans X3
  have X23 := X2.trans X3
  clear b0 b1 b2 b3 b4
  obtain ⟨b0, b1, b2, b3, b4⟩ := five (cB.ext X23)
  go_wp2_with fail
  refine (HSd.out w3 XB).mono ?_
  rintro e w4 ⟨v, rfl, ⟨va, vc, rfl, hv⟩, X4⟩
  have XC := XB.trans X4
  have X14 := X23.trans X4
  clear b0 b1 b2 b3 b4 XA XB HHd HZd HSd
  have cO4 := cO.ext X14
  go_upto_region 12 with fail
  have hW5 : ∃ W5, W5 = w4.alloc (.cells #[.slice none 0 0] 57) := ⟨_, rfl⟩
  obtain ⟨W5, hW5⟩ := hW5
  rw [← hW5]
  have Z5 : Ext w4 W5 := by rw [hW5]; exact (Ext.refl _).alloc _
  have c5 : Cells w4.heap.size [.slice none 0 0] W5 := by rw [hW5]; exact Cells.new _ _ _
  have hs5 : Hid (w4.heap.size < W5.heap.size) := Lib.hid (by rw [hW5]; simp)
  clear hW5
  have o0 := ((cO4.ext Z5).at 0 _ rfl).1
  have X5 := XC.trans Z5
  have X15 := X14.trans Z5
  obtain ⟨b0, b1, b2, b3, b4⟩ := five (cB.ext X15)
  have hx14 := Lib.hid X14.size
  have hx1 := Lib.hid X1.size
  clear hM X2 X3 XC X14 X23 cO4
  go_wp2_with fail
  refine (HLd.out W5 X5).mono ?_
  rintro e w6 ⟨me, mn, rfl, hme, hmn, hE, hN, X6⟩
  have hME := Lib.hid (And.intro hme (And.intro hmn (And.intro hE.lt hN.lt)))
  clear o0 b0 b1 b2 b3 b4 hme hmn HLd
  have cO6 := cO.ext (X15.trans X6)
  have o7 := (cO6.at 7 _ rfl).1
  have o8 := (cO6.at 8 _ rfl).1
  have o9 := (cO6.at 9 _ rfl).1
  have lo := World.block_lt_of_cell? w6 _ o7
  have XD := X5.trans X6
  go_upto_region 17 with fail
  refine wp_region_Z' (TE w6.heap.size w6) 12 (by kernel_rfl) ?_
  intro V0 hV0
  have Y0 : Ext w6 V0 := by rw [hV0]; exact (Ext.refl w6).drew
  have hT : TE w6.heap.size w6 false V0 := Y0
  clear hV0
  refine' wpAnyZ_take 12 (i := 0) (v := _) rfl rfl (by kernel_rfl) (by decide) (by kernel_rfl) (by kernel_rfl) (by kernel_rfl) (by kernel_rfl) (fun _ _ _ h => h.no.elim) hT (by rfl) ?hy ?_
  case hy => (intro w' hS; have q0 := hS.c lo o7; have q1 := hS.c lo o8; have q2 := hS.c lo o9; clear hS; go_simp; rfl)
  try simp only [Act.put, List.getElem_toArray, List.getElem_cons_zero, List.getElem_cons_succ, List.setIfInBounds_toArray, List.set_cons_zero, List.set_cons_succ]
  refine' wpAnyZ_take 12 (i := 1) (v := _) rfl rfl (by kernel_rfl) (by decide) (by kernel_rfl) (by kernel_rfl) (by kernel_rfl) (by kernel_rfl) (fun _ _ _ h => h.no.elim) hT (by rfl) ?hy ?_
  case hy => (intro w' hS; have q0 := hS.c lo o7; have q1 := hS.c lo o8; have q2 := hS.c lo o9; clear hS; go_simp; rfl)
  try simp only [Act.put, List.getElem_toArray, List.getElem_cons_zero, List.getElem_cons_succ, List.setIfInBounds_toArray, List.set_cons_zero, List.set_cons_succ]
  refine' wpAnyZ_take 12 (i := 2) (v := _) rfl rfl (by kernel_rfl) (by decide) (by kernel_rfl) (by kernel_rfl) (by kernel_rfl) (by kernel_rfl) (fun _ _ _ h => h.no.elim) hT (by rfl) ?hy ?_
  case hy => (intro w' hS; have q0 := hS.c lo o7; have q1 := hS.c lo o8; have q2 := hS.c lo o9; clear hS; go_simp; rfl)
  try simp only [Act.put, List.getElem_toArray, List.getElem_cons_zero, List.getElem_cons_succ, List.setIfInBounds_toArray, List.set_cons_zero, List.set_cons_succ]
  refine' wpAnyZ_take 12 (i := 4) (v := _) rfl rfl (by kernel_rfl) (by decide) (by kernel_rfl) (by kernel_rfl) (by kernel_rfl) (by kernel_rfl) (fun _ _ _ h => h.no.elim) hT (by rfl) ?hy ?_
  case hy => (intro w' hS; have q0 := hS.c lo o7; have q1 := hS.c lo o8; have q2 := hS.c lo o9; clear hS; go_simp; rfl)
  try simp only [Act.put, List.getElem_toArray, List.getElem_cons_zero, List.getElem_cons_succ, List.setIfInBounds_toArray, List.set_cons_zero, List.set_cons_succ]
  refine' wpAnyZ_take 12 (i := 5) (v := _) rfl rfl (by kernel_rfl) (by decide) (by kernel_rfl) (by kernel_rfl) (by kernel_rfl) (by kernel_rfl) (fun _ _ _ h => h.no.elim) hT (by rfl) ?hy ?_
  case hy => (intro w' hS; have q0 := hS.c lo o7; have q1 := hS.c lo o8; have q2 := hS.c lo o9; clear hS; go_simp; rfl)
  try simp only [Act.put, List.getElem_toArray, List.getElem_cons_zero, List.getElem_cons_succ, List.setIfInBounds_toArray, List.set_cons_zero, List.set_cons_succ]
  refine' wpAnyZ_take 12 (i := 6) (v := _) rfl rfl (by kernel_rfl) (by decide) (by kernel_rfl) (by kernel_rfl) (by kernel_rfl) (by kernel_rfl) (fun _ _ _ h => h.no.elim) hT (by rfl) ?hy ?_
  case hy => (intro w' hS; have q0 := hS.c lo o7; have q1 := hS.c lo o8; have q2 := hS.c lo o9; clear hS; go_simp; rfl)
  try simp only [Act.put, List.getElem_toArray, List.getElem_cons_zero, List.getElem_cons_succ, List.setIfInBounds_toArray, List.set_cons_zero, List.set_cons_succ]
  refine wpAnyZ_one false (i := 3) (by kernel_rfl) (by kernel_rfl) rfl (fun K' hK => ?_)
  go_simp
  refine (HNx.out _).mono ?_
  rintro e V1 ⟨rfl, Z1⟩
  have Z2 := Y0.trans Z1
  refine hK.out _ _ Z2 ?_
  clear hK K'
  try simp only [Act.put, List.getElem_toArray, List.getElem_cons_zero, List.getElem_cons_succ, List.setIfInBounds_toArray, List.set_cons_zero, List.set_cons_succ]
  refine wpAnyZ_one false (i := 7) (by kernel_rfl) (by kernel_rfl) rfl (fun K' hK => ?_)
  go_simp
  refine (HDx.out _ (XD.trans Z2)).mono ?_
  rintro e V2 ⟨rfl, Z3⟩
  have Z4 : Ext w6 V2 := Z2.trans Z3
  have hT2 : TE w6.heap.size w6 false V2 := Z4
  refine hK.out _ _ Z4 ?_
  clear hK K'
  try simp only [Act.put, List.getElem_toArray, List.getElem_cons_zero, List.getElem_cons_succ, List.setIfInBounds_toArray, List.set_cons_zero, List.set_cons_succ]
  refine' wpAnyZ_take 12 (i := 8) (v := _) rfl rfl (by kernel_rfl) (by decide) (by kernel_rfl) (by kernel_rfl) (by kernel_rfl) (by kernel_rfl) (fun _ _ _ h => h.no.elim) hT2 (by rfl) ?hy ?_
  case hy => (intro w' hS; skip; clear hS; go_simp; rfl)
  try simp only [Act.put, List.getElem_toArray, List.getElem_cons_zero, List.getElem_cons_succ, List.setIfInBounds_toArray, List.set_cons_zero, List.set_cons_succ]
  refine' wpAnyZ_take 12 (i := 9) (v := _) rfl rfl (by kernel_rfl) (by decide) (by kernel_rfl) (by kernel_rfl) (by kernel_rfl) (by kernel_rfl) (fun _ _ _ h => h.no.elim) hT2 (by rfl) ?hy ?_
  case hy => (intro w' hS; skip; clear hS; go_simp; rfl)
  try simp only [Act.put, List.getElem_toArray, List.getElem_cons_zero, List.getElem_cons_succ, List.setIfInBounds_toArray, List.set_cons_zero, List.set_cons_succ]
  refine' wpAnyZ_take 12 (i := 10) (v := _) rfl rfl (by kernel_rfl) (by decide) (by kernel_rfl) (by kernel_rfl) (by kernel_rfl) (by kernel_rfl) (fun _ _ _ h => h.no.elim) hT2 (by rfl) ?hy ?_
  case hy => (intro w' hS; skip; clear hS; go_simp; rfl)
  try simp only [Act.put, List.getElem_toArray, List.getElem_cons_zero, List.getElem_cons_succ, List.setIfInBounds_toArray, List.set_cons_zero, List.set_cons_succ]
  refine wpAnyZ_one false (i := 11) (by kernel_rfl) (by kernel_rfl) rfl (fun K' hK => ?_)
  go_simp
  refine hK.out _ _ Z4 ?_
  clear hK K'
  try simp only [Act.put, List.getElem_toArray, List.getElem_cons_zero, List.getElem_cons_succ, List.setIfInBounds_toArray, List.set_cons_zero, List.set_cons_succ]
  refine wpAnyZ_one true (i := 12) (by kernel_rfl) (by kernel_rfl) rfl (fun K' hK => ?_)
  go_simp
  refine hK.out _ _ trivial ?_
  clear hK K'
  try simp only [Act.put, List.getElem_toArray, List.getElem_cons_zero, List.getElem_cons_succ, List.setIfInBounds_toArray, List.set_cons_zero, List.set_cons_succ]
  refine wpAnyZ_done (by kernel_rfl) ⟨rfl, ?_⟩ _
  have XE := XD.trans Z4
  have cO7 := cO6.ext Z4
  clear o7 o8 o9 lo hT hT2 Y0 Z1 Z2 Z3 XD
  have p7 := (cO7.at 7 _ rfl).1
  have p8 := (cO7.at 8 _ rfl).1
  have p9 := (cO7.at 9 _ rfl).1
  have lo2 := World.block_lt_of_cell? V2 _ p7
  go_upto_region 18 with fail
  refine wp_region_Z' (TE V2.heap.size V2) 12 (by kernel_rfl) ?_
  intro U0 hU0
  have T0 : Ext V2 U0 := by rw [hU0]; exact (Ext.refl V2).drew
  have hT : TE V2.heap.size V2 false U0 := T0
  clear hU0
  refine' wpAnyZ_take 12 (i := 0) (v := _) rfl rfl (by kernel_rfl) (by decide) (by kernel_rfl) (by kernel_rfl) (by kernel_rfl) (by kernel_rfl) (fun _ _ _ h => h.no.elim) hT (by rfl) ?hy ?_
  case hy => (intro w' hS; have q0 := hS.c lo2 p7; have q1 := hS.c lo2 p8; have q2 := hS.c lo2 p9; clear hS; go_simp; rfl)
  try simp only [Act.put, List.getElem_toArray, List.getElem_cons_zero, List.getElem_cons_succ, List.setIfInBounds_toArray, List.set_cons_zero, List.set_cons_succ]
  refine' wpAnyZ_take 12 (i := 1) (v := _) rfl rfl (by kernel_rfl) (by decide) (by kernel_rfl) (by kernel_rfl) (by kernel_rfl) (by kernel_rfl) (fun _ _ _ h => h.no.elim) hT (by rfl) ?hy ?_
  case hy => (intro w' hS; have q0 := hS.c lo2 p7; have q1 := hS.c lo2 p8; have q2 := hS.c lo2 p9; clear hS; go_simp; rfl)
  try simp only [Act.put, List.getElem_toArray, List.getElem_cons_zero, List.getElem_cons_succ, List.setIfInBounds_toArray, List.set_cons_zero, List.set_cons_succ]
  refine' wpAnyZ_take 12 (i := 2) (v := _) rfl rfl (by kernel_rfl) (by decide) (by kernel_rfl) (by kernel_rfl) (by kernel_rfl) (by kernel_rfl) (fun _ _ _ h => h.no.elim) hT (by rfl) ?hy ?_
  case hy => (intro w' hS; have q0 := hS.c lo2 p7; have q1 := hS.c lo2 p8; have q2 := hS.c lo2 p9; clear hS; go_simp; rfl)
  try simp only [Act.put, List.getElem_toArray, List.getElem_cons_zero, List.getElem_cons_succ, List.setIfInBounds_toArray, List.set_cons_zero, List.set_cons_succ]
  refine' wpAnyZ_take 12 (i := 4) (v := _) rfl rfl (by kernel_rfl) (by decide) (by kernel_rfl) (by kernel_rfl) (by kernel_rfl) (by kernel_rfl) (fun _ _ _ h => h.no.elim) hT (by rfl) ?hy ?_
  case hy => (intro w' hS; have q0 := hS.c lo2 p7; have q1 := hS.c lo2 p8; have q2 := hS.c lo2 p9; clear hS; go_simp; rfl)
  try simp only [Act.put, List.getElem_toArray, List.getElem_cons_zero, List.getElem_cons_succ, List.setIfInBounds_toArray, List.set_cons_zero, List.set_cons_succ]
  refine' wpAnyZ_take 12 (i := 5) (v := _) rfl rfl (by kernel_rfl) (by decide) (by kernel_rfl) (by kernel_rfl) (by kernel_rfl) (by kernel_rfl) (fun _ _ _ h => h.no.elim) hT (by rfl) ?hy ?_
  case hy => (intro w' hS; have q0 := hS.c lo2 p7; have q1 := hS.c lo2 p8; have q2 := hS.c lo2 p9; clear hS; go_simp; rfl)
  try simp only [Act.put, List.getElem_toArray, List.getElem_cons_zero, List.getElem_cons_succ, List.setIfInBounds_toArray, List.set_cons_zero, List.set_cons_succ]
  refine' wpAnyZ_take 12 (i := 6) (v := _) rfl rfl (by kernel_rfl) (by decide) (by kernel_rfl) (by kernel_rfl) (by kernel_rfl) (by kernel_rfl) (fun _ _ _ h => h.no.elim) hT (by rfl) ?hy ?_
  case hy => (intro w' hS; have q0 := hS.c lo2 p7; have q1 := hS.c lo2 p8; have q2 := hS.c lo2 p9; clear hS; go_simp; rfl)
  try simp only [Act.put, List.getElem_toArray, List.getElem_cons_zero, List.getElem_cons_succ, List.setIfInBounds_toArray, List.set_cons_zero, List.set_cons_succ]
  refine wpAnyZ_one false (i := 3) (by kernel_rfl) (by kernel_rfl) rfl (fun K' hK => ?_)
  go_simp
  refine (HNy.out _).mono ?_
  rintro e U1 ⟨rfl, T1⟩
  have T2 := T0.trans T1
  refine hK.out _ _ T2 ?_
  clear hK K'
  try simp only [Act.put, List.getElem_toArray, List.getElem_cons_zero, List.getElem_cons_succ, List.setIfInBounds_toArray, List.set_cons_zero, List.set_cons_succ]
  refine wpAnyZ_one false (i := 7) (by kernel_rfl) (by kernel_rfl) rfl (fun K' hK => ?_)
  go_simp
  refine (HDy.out _ (XE.trans T2)).mono ?_
  rintro e U2 ⟨rfl, T3⟩
  have T4 : Ext V2 U2 := T2.trans T3
  have hT2 : TE V2.heap.size V2 false U2 := T4
  refine hK.out _ _ T4 ?_
  clear hK K'
  try simp only [Act.put, List.getElem_toArray, List.getElem_cons_zero, List.getElem_cons_succ, List.setIfInBounds_toArray, List.set_cons_zero, List.set_cons_succ]
  refine' wpAnyZ_take 12 (i := 8) (v := _) rfl rfl (by kernel_rfl) (by decide) (by kernel_rfl) (by kernel_rfl) (by kernel_rfl) (by kernel_rfl) (fun _ _ _ h => h.no.elim) hT2 (by rfl) ?hy ?_
  case hy => (intro w' hS; skip; clear hS; go_simp; rfl)
  try simp only [Act.put, List.getElem_toArray, List.getElem_cons_zero, List.getElem_cons_succ, List.setIfInBounds_toArray, List.set_cons_zero, List.set_cons_succ]
  refine' wpAnyZ_take 12 (i := 9) (v := _) rfl rfl (by kernel_rfl) (by decide) (by kernel_rfl) (by kernel_rfl) (by kernel_rfl) (by kernel_rfl) (fun _ _ _ h => h.no.elim) hT2 (by rfl) ?hy ?_
  case hy => (intro w' hS; skip; clear hS; go_simp; rfl)
  try simp only [Act.put, List.getElem_toArray, List.getElem_cons_zero, List.getElem_cons_succ, List.setIfInBounds_toArray, List.set_cons_zero, List.set_cons_succ]
  refine' wpAnyZ_take 12 (i := 10) (v := _) rfl rfl (by kernel_rfl) (by decide) (by kernel_rfl) (by kernel_rfl) (by kernel_rfl) (by kernel_rfl) (fun _ _ _ h => h.no.elim) hT2 (by rfl) ?hy ?_
  case hy => (intro w' hS; skip; clear hS; go_simp; rfl)
  try simp only [Act.put, List.getElem_toArray, List.getElem_cons_zero, List.getElem_cons_succ, List.setIfInBounds_toArray, List.set_cons_zero, List.set_cons_succ]
  refine wpAnyZ_one false (i := 11) (by kernel_rfl) (by kernel_rfl) rfl (fun K' hK => ?_)
  go_simp
  refine hK.out _ _ T4 ?_
  clear hK K'
  try simp only [Act.put, List.getElem_toArray, List.getElem_cons_zero, List.getElem_cons_succ, List.setIfInBounds_toArray, List.set_cons_zero, List.set_cons_succ]
  refine wpAnyZ_one true (i := 12) (by kernel_rfl) (by kernel_rfl) rfl (fun K' hK => ?_)
  go_simp
  refine hK.out _ _ trivial ?_
  clear hK K'
  try simp only [Act.put, List.getElem_toArray, List.getElem_cons_zero, List.getElem_cons_succ, List.setIfInBounds_toArray, List.set_cons_zero, List.set_cons_succ]
  refine wpAnyZ_done (by kernel_rfl) ⟨rfl, ?_⟩ _
  have XF := XE.trans T4
  have X69 := Z4.trans T4
  clear p7 p8 p9 lo2 hT hT2 T0 T1 T2 T3 XE cO7 cO6
  generalize U2 = W9 at *
  have hE9 : MapR W9 me 3 (fm3 k0 k1 k2 (.string (tQ x0)) (.string (tQ x1)) (.string (tQ x2))) := hE.same (X69.block me hE.lt)
  have hN9 : MapR W9 mn 3 (fm3 k0 k1 k2 (.string (tQ y0)) (.string (tQ y1)) (.string (tQ y2))) := hN.same (X69.block mn hN.lt)
  have cS9 := cS.ext (X15.trans (X6.trans X69))
  have hv9 : IntsV l (.slice va l.length vc) W9 := (show IntsV l (.slice va l.length vc) w4 from ⟨va, vc, rfl, hv⟩).ext (Z5.trans (X6.trans X69))
  have hgl : Hid (l ≠ [] → ∃ g, va = some ⟨g, 0, none⟩ ∧ g < w4.heap.size) := Lib.hid (fun hne => by
    obtain ⟨g, h1, h2⟩ := hv hne
    exact ⟨g, h1, World.block_lt_of_cell? w4 _ (h2 0 (List.length_pos_iff.2 hne))⟩)
  have c9 := c5.ext (X6.trans X69)
  have hst : RsR (s := s) n W9.heap.size w4.heap.size l (rowsX2 p k0 k1 k2 x0 x1 x2 (-nx / nz) y0 y1 y2 (-ny / nz)) W9 (.int .i64 0) W9 := ⟨0, .slice none 0 0, [], by omega, rfl, ⟨c9, OwnL.nil _, fun r hr => by simp at hr, KO.refl _ _ _⟩, rfl⟩
  have HM := Lib.hid (And.intro hE9 (And.intro hN9 (And.intro cS9 (And.intro hv9 XF))))
  have HW := Lib.hid (And.intro hs5.out (And.intro hME.out (And.intro hx1.out (And.intro hx14.out (And.intro hBn.out (And.intro X6.size X69.size))))))
  clear hE9 hN9 cS9 hv9 XF hE hN cS hv c5 c9 X5 X6 X15 X69 Z5 Z4 T4 X1 cB cO hs5 hME hx1 hx14 hBn HNx HNy HDx HDy
  have hl2 : (l.length : Int) ≤ 60 := by omega
  go_wp2_with fail
  go_loopw [103] (RsR (s := s) n W9.heap.size w4.heap.size l (rowsX2 p k0 k1 k2 x0 x1 x2 (-nx / nz) y0 y1 y2 (-ny / nz)) W9) (fun p _ => l.length - (intOf p).toNat)
  case atStart => exact hst
  case round =>
    obtain ⟨k, v, N, hk, rfl, hI, hN⟩ := hrel
    obtain ⟨hs5, ⟨hme, hmn, hel, hnl⟩, hx1, hx14, hBn, hx6, hx69⟩ := HW.out
    obtain ⟨hE9, hN9, cS9, hv9, X9⟩ := HM.out
    have hNl : N.length = 4 * k := by
      have := congrArg List.length hN
      rw [List.length_map, rowsX2_len, List.length_take, Nat.min_eq_left hk] at this
      exact this
    by_cases hlt : k < l.length
    · have kl : (k : Int) < l.length := by omega
      have kl0 : (0 : Int) ≤ (k : Int) := by omega
      obtain ⟨gl, rfl, hgl1⟩ := hgl.out (fun e => by rw [e] at hlt; simp at hlt)
      obtain ⟨va', vc', hve, hvv⟩ := hv9
      simp only [Value.slice.injEq] at hve
      obtain ⟨g2, hg2, hgc⟩ := hvv (fun e => by rw [e] at hlt; simp at hlt)
      obtain ⟨rfl, _, rfl⟩ := hve
      simp only [Option.some.injEq, Addr.mk.injEq] at hg2
      obtain ⟨rfl, _, _⟩ := hg2
      have y0 := hI.kb.cell (b := gl) (by omega) (by omega) (hgc k hlt)
      have HA1 := Lib.hid (HA.out l[k] (HLS.out _ (List.getElem_mem hlt)) me w4.heap.size W9.heap.size N (by omega) v W9 wr X9 hE9 cS9 (by omega) (by omega) (by omega) (Nat.le_refl _) hI)
      have HB1 := Lib.hid (fun (v' : Value) (N' : List Rw) (hl' : N'.length = 2) (w6 : World) (hI6 : InvR n W9.heap.size w4.heap.size W9 v' (N ++ N') w6) => HB.out l[k] (HLS.out _ (List.getElem_mem hlt)) mn w4.heap.size W9.heap.size (N ++ N') (by rw [List.length_append]; omega) v' W9 w6 X9 hN9 cS9 (by omega) (by omega) (by omega) (Nat.le_refl _) hI6)
      have HT := Lib.hid (rowsX_step hlt hN)
      clear hgc hvv hs5 hme hmn hel hnl hx1 hx14 hBn hx6 hx69 hE9 hN9 cS9 X9 hI hgl1 hNl
      generalize l[k] = u at *
      go_wp2_with fail
      refine HA1.out.mono ?_
      rintro e u6 ⟨v', N', ⟨x, rfl⟩, hI6, hN6⟩
      have hl6 : N'.length = 2 := by
        have := congrArg List.length hN6
        rw [List.length_map] at this
        rw [this]; rfl
      have HB2 := Lib.hid (HB1.out v' N' hl6 u6 hI6)
      clear hI6 y0 hl6
      go_wp2_with fail
      refine HB2.out.mono ?_
      rintro e u7 ⟨v2, N2, ⟨xx2, rfl⟩, hI7, hN7⟩
      have HE : Hid (RsR (s := s) n W9.heap.size w4.heap.size l (rowsX2 p k0 k1 k2 x0 x1 x2 (-nx / nz) y0 y1 y2 (-ny / nz)) W9 (.int .i64 (k + 1 : Nat)) u7) := Lib.hid ⟨k + 1, v2, N ++ (N' ++ N2), hlt, rfl, by rw [← List.append_assoc]; exact hI7, HT.out _ (by rw [List.map_append, hN6, hN7]; rfl)⟩
      clear hI7 hN7 hN6
      go_wp2_with fail
      exact ⟨HE.out, by simp only [intOf]; omega⟩
    · obtain rfl : k = l.length := by omega
      rw [List.take_length] at hN
      have hc0 := (hI.c.at 0 _ rfl).1
      have Xr : Ext w wr := X9.trans' (hI.kb.below (by omega) (by omega))
      have HB1 := Lib.hid (HBd.out N hN (by omega) W9.heap.size v wr Xr hI.own hI.rows)
      have HE := Lib.hid (And.intro hI (And.intro hN (And.intro Xr (show w.heap.size ≤ W9.heap.size by omega))))
      clear hI hN Xr hs5 hme hmn hel hnl hx1 hx14 hBn hx6 hx69 hE9 hN9 cS9 hv9 X9 hNl
      go_wp2_with fail
      refine HB1.out.mono ?_
      rintro e w7 ⟨rfl, X7⟩
      have HX := Lib.hid X7
      clear X7 hc0
      go_wp2_with fail
      go_ret2
      obtain ⟨hI, hN, Xr, hbs⟩ := HE.out
      exact ⟨v, N, W9.heap.size, rfl, hbs, hI.own.below HX.out, fun r hr => ⟨(hI.rows r hr).1, (hI.rows r hr).2.same (HX.out.block _ (hI.rows r hr).2.lt)⟩, hN, Xr.trans HX.out⟩
end Go.Proofs.YtbiffaciinppiaaGreatDoor
