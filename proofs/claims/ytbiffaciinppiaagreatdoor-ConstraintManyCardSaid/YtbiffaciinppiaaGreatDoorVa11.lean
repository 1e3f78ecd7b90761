/- mesh.Shares at a mesh that is right. -/
import Derived.Test.YtbiffaciinppiaaGreatDoorVa10
set_option linter.unusedVariables false
set_option linter.unusedSimpArgs false
namespace Go.Proofs.YtbiffaciinppiaaGreatDoor
open Go.RowKit Go.Maps
attribute [local go_sem] fld_x fld_y

/-- Three cells of a block. -/
def Tri3 (b : Nat) (v0 v1 v2 : Value) (w : World) : Prop := w.cell? ⟨b, 0, none⟩ = some v0 ∧ w.cell? ⟨b, 1, none⟩ = some v1 ∧ w.cell? ⟨b, 2, none⟩ = some v2 ∧ w.frozen? ⟨b, 0, none⟩ = false ∧ w.frozen? ⟨b, 1, none⟩ = false ∧ w.frozen? ⟨b, 2, none⟩ = false
theorem Tri3.ext {b : Nat} {v0 v1 v2 : Value} {w W : World} (h : Tri3 b v0 v1 v2 w) (hx : Ext w W) : Tri3 b v0 v1 v2 W := by
  have hb : b < w.heap.size := World.block_lt_of_cell? w _ h.1
  exact ⟨hx.cell h.1, hx.cell h.2.1, hx.cell h.2.2.1, (hx.cells.2 b 0 hb).trans h.2.2.2.1, (hx.cells.2 b 1 hb).trans h.2.2.2.2.1, (hx.cells.2 b 2 hb).trans h.2.2.2.2.2⟩
theorem Tri3.new (w : World) (v0 v1 v2 : Value) (t : TypeId) : Tri3 w.heap.size v0 v1 v2 (w.alloc (.cells #[v0, v1, v2] t)) := by
  refine ⟨?_, ?_, ?_, ?_, ?_, ?_⟩ <;> simp [go_sem]
theorem Tri3.put {b : Nat} {v0 v1 v2 : Value} {w : World} (h : Tri3 b v0 v1 v2 w) (x : Value) :
    Tri3 b x v1 v2 (w.setCell ⟨b, 0, none⟩ x) ∧ Tri3 b v0 x v2 (w.setCell ⟨b, 1, none⟩ x) ∧ Tri3 b v0 v1 x (w.setCell ⟨b, 2, none⟩ x) := by
  have ne : ∀ (i j : Nat) (h : i ≠ j), (⟨b, i, none⟩ : Addr) ≠ ⟨b, j, none⟩ := fun i j h e => h (by cases e; rfl)
  have fr : ∀ i j, (w.setCell ⟨b, i, none⟩ x).frozen? ⟨b, j, none⟩ = w.frozen? ⟨b, j, none⟩ := fun i j => by simp [go_sem]
  obtain ⟨h0, h1, h2, f0, f1, f2⟩ := h
  refine ⟨⟨World.cell?_setCell_same _ _ _ h0, (World.cell?_setCell_other _ _ _ _ (ne 0 1 (by decide))).trans h1, (World.cell?_setCell_other _ _ _ _ (ne 0 2 (by decide))).trans h2, (fr _ _).trans f0, (fr _ _).trans f1, (fr _ _).trans f2⟩,
    ⟨(World.cell?_setCell_other _ _ _ _ (ne 1 0 (by decide))).trans h0, World.cell?_setCell_same _ _ _ h1, (World.cell?_setCell_other _ _ _ _ (ne 1 2 (by decide))).trans h2, (fr _ _).trans f0, (fr _ _).trans f1, (fr _ _).trans f2⟩,
    ⟨(World.cell?_setCell_other _ _ _ _ (ne 2 0 (by decide))).trans h0, (World.cell?_setCell_other _ _ _ _ (ne 2 1 (by decide))).trans h1, World.cell?_setCell_same _ _ _ h2, (fr _ _).trans f0, (fr _ _).trans f1, (fr _ _).trans f2⟩⟩
/-- A store in another block. -/
theorem Tri3.far {b c j : Nat} {v0 v1 v2 x : Value} {w : World} (h : Tri3 b v0 v1 v2 w) (hc : c ≠ b) : Tri3 b v0 v1 v2 (w.setCell ⟨c, j, none⟩ x) := by
  have ne : ∀ (i : Nat), (⟨c, j, none⟩ : Addr) ≠ ⟨b, i, none⟩ := fun i e => hc (by cases e; rfl)
  have fr : ∀ k, (w.setCell ⟨c, j, none⟩ x).frozen? ⟨b, k, none⟩ = w.frozen? ⟨b, k, none⟩ := fun k => by simp [go_sem]
  obtain ⟨h0, h1, h2, f0, f1, f2⟩ := h
  exact ⟨(World.cell?_setCell_other _ _ _ _ (ne 0)).trans h0, (World.cell?_setCell_other _ _ _ _ (ne 1)).trans h1, (World.cell?_setCell_other _ _ _ _ (ne 2)).trans h2, (fr _).trans f0, (fr _).trans f1, (fr _).trans f2⟩
/-- Six cells of a block. -/
def Six (b : Nat) (v0 v1 v2 v3 v4 v5 : Value) (w : World) : Prop := w.cell? ⟨b, 0, none⟩ = some v0 ∧ w.cell? ⟨b, 1, none⟩ = some v1 ∧ w.cell? ⟨b, 2, none⟩ = some v2 ∧ w.cell? ⟨b, 3, none⟩ = some v3 ∧ w.cell? ⟨b, 4, none⟩ = some v4 ∧ w.cell? ⟨b, 5, none⟩ = some v5
theorem Six.ext {b : Nat} {v0 v1 v2 v3 v4 v5 : Value} {w W : World} (h : Six b v0 v1 v2 v3 v4 v5 w) (hx : Ext w W) : Six b v0 v1 v2 v3 v4 v5 W :=
  ⟨hx.cell h.1, hx.cell h.2.1, hx.cell h.2.2.1, hx.cell h.2.2.2.1, hx.cell h.2.2.2.2.1, hx.cell h.2.2.2.2.2⟩
theorem Six.far {b c j : Nat} {v0 v1 v2 v3 v4 v5 x : Value} {w : World} (h : Six b v0 v1 v2 v3 v4 v5 w) (hc : c ≠ b) : Six b v0 v1 v2 v3 v4 v5 (w.setCell ⟨c, j, none⟩ x) := by
  have ne : ∀ (i : Nat), (⟨c, j, none⟩ : Addr) ≠ ⟨b, i, none⟩ := fun i e => hc (by cases e; rfl)
  obtain ⟨h0, h1, h2, h3, h4, h5⟩ := h
  exact ⟨(World.cell?_setCell_other _ _ _ _ (ne 0)).trans h0, (World.cell?_setCell_other _ _ _ _ (ne 1)).trans h1, (World.cell?_setCell_other _ _ _ _ (ne 2)).trans h2, (World.cell?_setCell_other _ _ _ _ (ne 3)).trans h3, (World.cell?_setCell_other _ _ _ _ (ne 4)).trans h4, (World.cell?_setCell_other _ _ _ _ (ne 5)).trans h5⟩
/-- Two cells of a block. -/
def Two (b : Nat) (v0 v1 : Value) (w : World) : Prop := w.cell? ⟨b, 0, none⟩ = some v0 ∧ w.cell? ⟨b, 1, none⟩ = some v1
theorem Two.ext {b : Nat} {v0 v1 : Value} {w W : World} (h : Two b v0 v1 w) (hx : Ext w W) : Two b v0 v1 W := ⟨hx.cell h.1, hx.cell h.2⟩
theorem Two.far {b c j : Nat} {v0 v1 x : Value} {w : World} (h : Two b v0 v1 w) (hc : c ≠ b) : Two b v0 v1 (w.setCell ⟨c, j, none⟩ x) := by
  have ne : ∀ (i : Nat), (⟨c, j, none⟩ : Addr) ≠ ⟨b, i, none⟩ := fun i e => hc (by cases e; rfl)
  exact ⟨(World.cell?_setCell_other _ _ _ _ (ne 0)).trans h.1, (World.cell?_setCell_other _ _ _ _ (ne 1)).trans h.2⟩
theorem Tri3.block {b : Nat} {v0 v1 v2 : Value} {w W : World} (h : Tri3 b v0 v1 v2 w) {B : Nat} (hx : Below B w W) (hB : b < B) : Tri3 b v0 v1 v2 W := by
  have c : ∀ j, W.cell? ⟨b, j, none⟩ = w.cell? ⟨b, j, none⟩ := fun j => hx.cell (p := ⟨b, j, none⟩) hB
  have f : ∀ j, W.frozen? ⟨b, j, none⟩ = w.frozen? ⟨b, j, none⟩ := fun j => hx.frozen (p := ⟨b, j, none⟩) hB
  exact ⟨(c 0).trans h.1, (c 1).trans h.2.1, (c 2).trans h.2.2.1, (f 0).trans h.2.2.2.1, (f 1).trans h.2.2.2.2.1, (f 2).trans h.2.2.2.2.2⟩

/-- Three cells of a block, of which one may turn. -/
def T3 (b j : Nat) (v0 v1 v2 : Value) (w : World) : Prop := ∃ v, Tri3 b (if j = 0 then v else v0) (if j = 1 then v else v1) (if j = 2 then v else v2) w
def SS (n N9 : Nat) (w0 : World) (px py a0 a1 a2 a3 a4 a5 v0 v1 v2 : Value) (j : Nat) (w' : World) : Prop :=
  w'.cell? ⟨n + 1, 0, none⟩ = some px ∧ w'.cell? ⟨n + 1, 1, none⟩ = some py ∧ w'.cell? ⟨N9, 0, none⟩ = some a0 ∧ w'.cell? ⟨N9, 1, none⟩ = some a1 ∧ w'.cell? ⟨N9, 2, none⟩ = some a2 ∧ w'.cell? ⟨N9, 3, none⟩ = some a3 ∧ w'.cell? ⟨N9, 4, none⟩ = some a4 ∧ w'.cell? ⟨N9, 5, none⟩ = some a5 ∧ T3 (N9 + 1) j v0 v1 v2 w' ∧ Below (N9 + 1) w0 w'
section
variable {n N9 : Nat} {w0 : World} {px py a0 a1 a2 a3 a4 a5 v0 v1 v2 : Value} {j : Nat} {a b : World}
theorem SS.bel (h : SS n N9 w0 px py a0 a1 a2 a3 a4 a5 v0 v1 v2 j a) : Below (N9 + 1) w0 a := h.2.2.2.2.2.2.2.2.2
theorem SS.t3 (h : SS n N9 w0 px py a0 a1 a2 a3 a4 a5 v0 v1 v2 j a) : T3 (N9 + 1) j v0 v1 v2 a := h.2.2.2.2.2.2.2.2.1
theorem SS.ew (h : SS n N9 w0 px py a0 a1 a2 a3 a4 a5 v0 v1 v2 j a) {w : World} (hx : Ext w w0) (hs : w.heap.size ≤ N9) : Ext w a := Ext.trans' hx (h.bel.mono (by omega))
theorem SS.step (h : SS n N9 w0 px py a0 a1 a2 a3 a4 a5 v0 v1 v2 j a) (hb : Ext a b) : SS n N9 w0 px py a0 a1 a2 a3 a4 a5 v0 v1 v2 j b := by
  obtain ⟨h0, h1, h2, h3, h4, h5, h6, h7, ⟨v, h8⟩, hB⟩ := h
  have hlt : N9 + 1 < a.heap.size := World.block_lt_of_cell? a _ h8.1
  exact ⟨hb.cell h0, hb.cell h1, hb.cell h2, hb.cell h3, hb.cell h4, hb.cell h5, hb.cell h6, hb.cell h7, ⟨v, h8.ext hb⟩, Below.trans hB (Below.mono hb (by omega))⟩
theorem SS.drew (h : SS n N9 w0 px py a0 a1 a2 a3 a4 a5 v0 v1 v2 j a) : SS n N9 w0 px py a0 a1 a2 a3 a4 a5 v0 v1 v2 j a.drew := by
  obtain ⟨h0, h1, h2, h3, h4, h5, h6, h7, h8, hB⟩ := h
  exact ⟨h0, h1, h2, h3, h4, h5, h6, h7, h8, Below.drew hB⟩
theorem T3.put {bb : Nat} {x : Value} (hj : j < 3) (h : T3 bb j v0 v1 v2 a) : Tri3 bb (if j = 0 then x else v0) (if j = 1 then x else v1) (if j = 2 then x else v2) (a.setCell ⟨bb, j, none⟩ x) := by
  obtain ⟨v, h⟩ := h
  have hp := h.put x
  rcases (show j = 0 ∨ j = 1 ∨ j = 2 by omega) with rfl | rfl | rfl
  · simpa using hp.1
  · simpa using hp.2.1
  · simpa using hp.2.2
theorem SS.store (h : SS n N9 w0 px py a0 a1 a2 a3 a4 a5 v0 v1 v2 j a) (hj : j < 3) (hn : n + 2 < N9) {x : Value} : SS n N9 w0 px py a0 a1 a2 a3 a4 a5 v0 v1 v2 j (a.setCell ⟨N9 + 1, j, none⟩ x) := by
  obtain ⟨h0, h1, h2, h3, h4, h5, h6, h7, h8, hB⟩ := h
  have t := Two.far (c := N9 + 1) (j := j) (x := x) ⟨h0, h1⟩ (by omega)
  have s := Six.far (c := N9 + 1) (j := j) (x := x) ⟨h2, h3, h4, h5, h6, h7⟩ (by omega)
  exact ⟨t.1, t.2, s.1, s.2.1, s.2.2.1, s.2.2.2.1, s.2.2.2.2.1, s.2.2.2.2.2, ⟨x, h8.put hj⟩, hB.setCell (Nat.le_refl _) _⟩
/-- What the store into the j-th of three cells wants. -/
theorem T3.at {bb : Nat} (hj : j < 3) (h : T3 bb j v0 v1 v2 a) : ∃ v, a.cell? ⟨bb, j, none⟩ = some v ∧ a.frozen? ⟨bb, j, none⟩ = false := by
  obtain ⟨v, h⟩ := h
  rcases (show j = 0 ∨ j = 1 ∨ j = 2 by omega) with rfl | rfl | rfl
  · exact ⟨_, h.1, h.2.2.2.1⟩
  · exact ⟨_, h.2.1, h.2.2.2.2.1⟩
  · exact ⟨_, h.2.2.1, h.2.2.2.2.2⟩
end
def sh3 (a b c p : Rat × Rat) (k j : Nat) : Value := .string (if j < k then tQ (shr a b c p j) else ⟨#[]⟩)
def ShR (n N9 : Nat) (a b c p : Rat × Rat) (w W1 : World) (v28 : Value) (wr : World) : Prop :=
  ∃ k : Nat, k ≤ 3 ∧ v28 = .int .i64 k ∧ Two (n + 1) (.string (tQ p.1)) (.string (tQ p.2)) wr ∧ Six N9 (.string (tQ a.1)) (.string (tQ a.2)) (.string (tQ b.1)) (.string (tQ b.2)) (.string (tQ c.1)) (.string (tQ c.2)) wr ∧ Tri3 (N9 + 1) (sh3 a b c p k 0) (sh3 a b c p k 1) (sh3 a b c p k 2) wr ∧
    Tri3 (n + 1 + 1) (.string ⟨#[]⟩) (.string ⟨#[]⟩) (.string ⟨#[]⟩) wr ∧ Ext w wr ∧ N9 + 1 < wr.heap.size ∧ n + 2 < N9 ∧ w.heap.size ≤ N9 ∧ W1 = W1

set_option maxRecDepth 100000 in
set_option maxHeartbeats 4000000 in
theorem shares_ok (N D : Nat) (pts : List (Rat × Rat)) (tris : List Tri) (cyc : List Int) (hM : MeshOk N D pts tris cyc) (p : Rat × Rat) (hp : GP N D p) (i : Nat) (hi : i < tris.length) (pb po pc tb tO tc : Nat) (w : World) (g : Glob w) (hI : MeshIn w pb po tb tO pts tris)
    (a b c : Rat × Rat) (ha : a = cor pts tris[i].1) (hb : b = cor pts tris[i].2.1) (hc : c = cor pts tris[i].2.2) :
    Calls Tryz.prog 139 #[mV pb po pc tb tO tc pts tris, .int .i64 i, ptV p] w (Ret (.tuple #[.agg #[.string (tQ (shr a b c p 0)), .string (tQ (shr a b c p 1)), .string (tQ (shr a b c p 2))], .int .i64 0]) w) := by
  have hT := Lib.hid (fun W (X : Ext w W) => checkTri_ok N D pts tris cyc hM pb po pc tb tO tc i hi W (g.ext X) (hI.ext X))
  have hf := hM.fine.n
  have HP := Lib.hid (fun W (X : Ext w W) => checkPoint_ok p W (g.ext X) (hp.1.dg (by omega) hf.2) (hp.2.dg (by omega) hf.2))
  have HR := Lib.hid (fun W (X : Ext w W) => corners_ok pts tris pb po pc tb tO tc i W (hI.ext X) hi (hM.ix _ (List.getElem_mem hi)))
  obtain ⟨ga, gb, gc⟩ := hM.cgp (List.getElem_mem hi)
  have h0 := hM.turn _ (List.getElem_mem hi)
  change 0 < arQ (cor pts tris[i].1) (cor pts tris[i].2.1) (cor pts tris[i].2.2) at h0
  rw [← ha, ← hb, ← hc] at h0 HR
  rw [← ha] at ga
  rw [← hb] at gb
  rw [← hc] at gc
  have hne : arQ a b c ≠ 0 := fun e => by rw [e] at h0; exact absurd h0 (by decide)
  have hF := hM.fine
  have gD : ∀ {x y z : Rat × Rat}, GP N D x → GP N D y → GP N D z → Dg 9 (arQ x y z) := fun hx hy hz => (arQ_gr hx hy hz).dg hF.2.1 hF.2.2
  have HA := Lib.hid (fun W (X : Ext w W) => area_calls N D hF a b c W (g.ext X) ga gb gc)
  have HA0 := Lib.hid (fun W (X : Ext w W) => area_calls N D hF p b c W (g.ext X) hp gb gc)
  have HA1 := Lib.hid (fun W (X : Ext w W) => area_calls N D hF p c a W (g.ext X) hp gc ga)
  have HA2 := Lib.hid (fun W (X : Ext w W) => area_calls N D hF p a b W (g.ext X) hp ga gb)
  have HD0 := Lib.hid (fun W (X : Ext w W) => show Calls Tryz.prog 90 _ W (Ret (.tuple #[.string (tQ (shr a b c p 0)), .int .i64 0]) W) from rDiv (arQ p b c) (arQ a b c) W (g.ext X) (gD hp gb gc) (gD ga gb gc) hne)
  have HD1 := Lib.hid (fun W (X : Ext w W) => show Calls Tryz.prog 90 _ W (Ret (.tuple #[.string (tQ (shr a b c p 1)), .int .i64 0]) W) from rDiv (arQ p c a) (arQ a b c) W (g.ext X) (gD hp gc ga) (gD ga gb gc) hne)
  have HD2 := Lib.hid (fun W (X : Ext w W) => show Calls Tryz.prog 90 _ W (Ret (.tuple #[.string (tQ (shr a b c p 2)), .int .i64 0]) W) from rDiv (arQ p a b) (arQ a b c) W (g.ext X) (gD hp ga gb) (gD ga gb gc) hne)
  have HG0 := Lib.hid (fun W (X : Ext w W) => right_ok (shr a b c p 0) W (g.ext X) (Gr.div_dg (arQ_gr hp gb gc) (arQ_gr ga gb gc) hne hF.2.1))
  have HG1 := Lib.hid (fun W (X : Ext w W) => right_ok (shr a b c p 1) W (g.ext X) (Gr.div_dg (arQ_gr hp gc ga) (arQ_gr ga gb gc) hne hF.2.1))
  have HG2 := Lib.hid (fun W (X : Ext w W) => right_ok (shr a b c p 2) W (g.ext X) (Gr.div_dg (arQ_gr hp ga gb) (arQ_gr ga gb gc) hne hF.2.1))
  have htl := hM.tlen
  clear hM hp hf g hI ga gb gc h0 hne hF gD ha hb hc
  obtain ⟨xP, yP⟩ := p
  obtain ⟨xA, yA⟩ := a
  obtain ⟨xB, yB⟩ := b
  obtain ⟨xC, yC⟩ := c
  unfold mV at *
  simp only [ptV, p3V] at *
  go_enter Tryz.func139, Tryz.ntmps139
  go_wp2_with fail
  obtain ⟨W0, hW0⟩ : ∃ W0, W0 = ((w.alloc (.cells #[.slice (some ⟨pb, po, none⟩) pts.length pc, .slice (some ⟨tb, tO, none⟩) tris.length tc] 37)).alloc (.cells #[.string (tQ xP), .string (tQ yP)] 91)).alloc (.cells #[.string ⟨#[]⟩, .string ⟨#[]⟩, .string ⟨#[]⟩] 212) := ⟨_, rfl⟩
  rw [← hW0]
  have X0 : Ext w W0 := by rw [hW0]; exact (((Ext.refl w).alloc _).alloc _).alloc _
  have hs0 : W0.heap.size = w.heap.size + 3 := by rw [hW0]; simp
  have m0 : Two w.heap.size (.slice (some ⟨pb, po, none⟩) pts.length pc) (.slice (some ⟨tb, tO, none⟩) tris.length tc) W0 := by rw [hW0]; constructor <;> simp [go_sem]
  have p0 : Two (w.heap.size + 1) (.string (tQ xP)) (.string (tQ yP)) W0 := by rw [hW0]; constructor <;> simp [go_sem]
  have r0 : Tri3 (w.heap.size + 1 + 1) (.string ⟨#[]⟩) (.string ⟨#[]⟩) (.string ⟨#[]⟩) W0 := by
    rw [hW0]
    have := Tri3.new ((w.alloc (.cells #[.slice (some ⟨pb, po, none⟩) pts.length pc, .slice (some ⟨tb, tO, none⟩) tris.length tc] 37)).alloc (.cells #[.string (tQ xP), .string (tQ yP)] 91)) (.string ⟨#[]⟩) (.string ⟨#[]⟩) (.string ⟨#[]⟩) 212
    simpa using this
  clear hW0
  obtain ⟨m00, m01⟩ := m0
  refine (hT.out W0 X0).mono ?_
  rintro e W1 ⟨rfl, X1⟩
  have p1 := p0.ext X1
  have r1 := r0.ext X1
  have m0 : Two w.heap.size _ _ W1 := Two.ext ⟨m00, m01⟩ X1
  obtain ⟨m10, m11⟩ := m0
  obtain ⟨p10, p11⟩ := p1
  go_wp2_with fail
  refine (HP.out W1 (X0.trans X1)).mono ?_
  rintro e W2 ⟨rfl, X2⟩
  have m20 := X2.cell m10
  have m21 := X2.cell m11
  go_wp2_with fail
  have XW2 := (X0.trans X1).trans X2
  refine (HR.out W2 XW2).mono ?_
  rintro e W3 ⟨rfl, X3⟩
  have XW3 := XW2.trans X3
  have hs3 : w.heap.size + 3 ≤ W3.heap.size := by have := X1.size; have := X2.size; have := X3.size; omega
  have p3 : Two (w.heap.size + 1) (.string (tQ xP)) (.string (tQ yP)) W3 := Two.ext ⟨p10, p11⟩ (X2.trans X3)
  have r3 := r1.ext (X2.trans X3)
  clear m00 m01 m10 m11 m20 m21 p0 r0 r1 p10 p11 X1 X2 X3 XW2 hT HP HR
  go_wp2_with fail
  -- LOOP
  have cS : Six W3.heap.size (.string (tQ xA)) (.string (tQ yA)) (.string (tQ xB)) (.string (tQ yB)) (.string (tQ xC)) (.string (tQ yC)) ((W3.alloc (.cells #[.string (tQ xA), .string (tQ yA), .string (tQ xB), .string (tQ yB), .string (tQ xC), .string (tQ yC)] 177)).alloc (.cells #[.string ⟨#[]⟩, .string ⟨#[]⟩, .string ⟨#[]⟩] 212)) := by
    refine ⟨?_, ?_, ?_, ?_, ?_, ?_⟩ <;> simp [go_sem]
  have cT : Tri3 (W3.heap.size + 1) (.string ⟨#[]⟩) (.string ⟨#[]⟩) (.string ⟨#[]⟩) ((W3.alloc (.cells #[.string (tQ xA), .string (tQ yA), .string (tQ xB), .string (tQ yB), .string (tQ xC), .string (tQ yC)] 177)).alloc (.cells #[.string ⟨#[]⟩, .string ⟨#[]⟩, .string ⟨#[]⟩] 212)) := by
    have := Tri3.new (W3.alloc (.cells #[.string (tQ xA), .string (tQ yA), .string (tQ xB), .string (tQ yB), .string (tQ xC), .string (tQ yC)] 177)) (.string ⟨#[]⟩) (.string ⟨#[]⟩) (.string ⟨#[]⟩) 212
    simpa using this
  have X4 : Ext W3 ((W3.alloc (.cells #[.string (tQ xA), .string (tQ yA), .string (tQ xB), .string (tQ yB), .string (tQ xC), .string (tQ yC)] 177)).alloc (.cells #[.string ⟨#[]⟩, .string ⟨#[]⟩, .string ⟨#[]⟩] 212)) := ((Ext.refl _).alloc _).alloc _
  have hz4 : W3.heap.size + 1 < ((W3.alloc (.cells #[.string (tQ xA), .string (tQ yA), .string (tQ xB), .string (tQ yB), .string (tQ xC), .string (tQ yC)] 177)).alloc (.cells #[.string ⟨#[]⟩, .string ⟨#[]⟩, .string ⟨#[]⟩] 212)).heap.size := by simp
  have p4 := p3.ext X4
  have r4 := r3.ext X4
  have X5 := XW3.trans X4
  generalize (W3.alloc (.cells #[.string (tQ xA), .string (tQ yA), .string (tQ xB), .string (tQ yB), .string (tQ xC), .string (tQ yC)] 177)).alloc (.cells #[.string ⟨#[]⟩, .string ⟨#[]⟩, .string ⟨#[]⟩] 212) = W4 at *
  have hw9' : w.heap.size ≤ W3.heap.size := by omega
  generalize W3.heap.size = N9 at *
  clear p3 r3 X4 XW3 X0 hs0
  go_loopw [28] (ShR w.heap.size N9 (xA, yA) (xB, yB) (xC, yC) (xP, yP) w W4) (fun p _ => 3 - (intOf p).toNat)
  case atStart => exact ⟨0, by omega, rfl, p4, cS, cT, r4, X5, hz4, by omega, by omega, rfl⟩
  case round =>
    obtain ⟨k, hk, rfl, hP, hS, h3, h6, XR, hz, hn, hw9, -⟩ := hrel
    rcases (show k = 0 ∨ k = 1 ∨ k = 2 ∨ k = 3 by omega) with rfl | rfl | rfl | rfl
    · have P0 : SS w.heap.size N9 wr (.string (tQ xP)) (.string (tQ yP)) (.string (tQ xA)) (.string (tQ yA)) (.string (tQ xB)) (.string (tQ yB)) (.string (tQ xC)) (.string (tQ yC)) (sh3 (xA, yA) (xB, yB) (xC, yC) (xP, yP) 0 0) (sh3 (xA, yA) (xB, yB) (xC, yC) (xP, yP) 0 1) (sh3 (xA, yA) (xB, yB) (xC, yC) (xP, yP) 0 2) 0 wr.drew :=
        ⟨hP.1, hP.2, hS.1, hS.2.1, hS.2.2.1, hS.2.2.2.1, hS.2.2.2.2.1, hS.2.2.2.2.2, ⟨.string ⟨#[]⟩, h3⟩, (Below.refl _ wr).drew⟩
      have q1 : IntKind.i64.wrap 1 = 1 := rfl
      have q2 : IntKind.i64.wrap 2 = 2 := rfl
      have q3 : IntKind.i64.wrap 3 = 3 := rfl
      have q4 : IntKind.i64.wrap 4 = 4 := rfl
      have q5 : (1 : Int).tmod 3 = 1 := rfl
      have q6 : (2 : Int).tmod 3 = 2 := rfl
      have q7 : (3 : Int).tmod 3 = 0 := rfl
      have q8 : (4 : Int).tmod 3 = 1 := rfl
      go_wp2_with fail
      go_region_held3 (fun w' => w'.cell? ⟨w.heap.size + 1, 0, none⟩ = some (.string (tQ xP)) ∧ w'.cell? ⟨w.heap.size + 1, 1, none⟩ = some (.string (tQ yP)) ∧ w'.cell? ⟨N9, 0, none⟩ = some (.string (tQ xA)) ∧ w'.cell? ⟨N9, 1, none⟩ = some (.string (tQ yA)) ∧ w'.cell? ⟨N9, 2, none⟩ = some (.string (tQ xB)) ∧ w'.cell? ⟨N9, 3, none⟩ = some (.string (tQ yB)) ∧ w'.cell? ⟨N9, 4, none⟩ = some (.string (tQ xC)) ∧ w'.cell? ⟨N9, 5, none⟩ = some (.string (tQ yC)) ∧ T3 (N9 + 1) 0 (sh3 (xA, yA) (xB, yB) (xC, yC) (xP, yP) 0 0) (sh3 (xA, yA) (xB, yB) (xC, yC) (xP, yP) 0 1) (sh3 (xA, yA) (xB, yB) (xC, yC) (xP, yP) 0 2) w' ∧ Below (N9 + 1) wr w')
        (first | exact P0 | exact SS.step (by assumption) hb | exact SS.drew (by assumption) | exact SS.store (by assumption) (by decide) hn)
        (first | (go_at_call 177; (with_reducible refine (HA.out _ ?hx).mono ?_); (case hx => exact SS.ew (by assumption) XR hw9); rintro e w' ⟨rfl, hb⟩) | (go_at_call 177; (with_reducible refine (HA0.out _ ?hx).mono ?_); (case hx => exact SS.ew (by assumption) XR hw9); rintro e w' ⟨rfl, hb⟩) | (go_at_call 90; refine (HD0.out _ (SS.ew (by assumption) XR hw9)).mono ?_; rintro e w' ⟨rfl, hb⟩; have hT3 : T3 (N9 + 1) 0 (sh3 (xA, yA) (xB, yB) (xC, yC) (xP, yP) 0 0) (sh3 (xA, yA) (xB, yB) (xC, yC) (xP, yP) 0 1) (sh3 (xA, yA) (xB, yB) (xC, yC) (xP, yP) 0 2) w' := SS.t3 (SS.step (by assumption) hb); obtain ⟨vz, z1, z2⟩ := T3.at (by decide) hT3))
      obtain ⟨Wn, hWn⟩ : ∃ Wn, Wn = w'.setCell ⟨N9 + 1, 0, none⟩ (.string (tQ (shr (xA, yA) (xB, yB) (xC, yC) (xP, yP) 0))) := ⟨_, rfl⟩
      have hSn : SS w.heap.size N9 wr (.string (tQ xP)) (.string (tQ yP)) (.string (tQ xA)) (.string (tQ yA)) (.string (tQ xB)) (.string (tQ yB)) (.string (tQ xC)) (.string (tQ yC)) (sh3 (xA, yA) (xB, yB) (xC, yC) (xP, yP) 0 0) (sh3 (xA, yA) (xB, yB) (xC, yC) (xP, yP) 0 1) (sh3 (xA, yA) (xB, yB) (xC, yC) (xP, yP) 0 2) 0 (w'.setCell ⟨N9 + 1, 0, none⟩ (.string (tQ (shr (xA, yA) (xB, yB) (xC, yC) (xP, yP) 0)))) := by assumption
      have hTn : Tri3 (N9 + 1) (sh3 (xA, yA) (xB, yB) (xC, yC) (xP, yP) 1 0) (sh3 (xA, yA) (xB, yB) (xC, yC) (xP, yP) 1 1) (sh3 (xA, yA) (xB, yB) (xC, yC) (xP, yP) 1 2) Wn := by rw [hWn]; simpa [sh3] using T3.put (x := .string (tQ (shr (xA, yA) (xB, yB) (xC, yC) (xP, yP) 0))) (by decide) hT3
      rw [← hWn] at hSn ⊢
      have XWn : Ext w Wn := SS.ew hSn XR hw9
      have hzn : N9 + 1 < Wn.heap.size := World.block_lt_of_cell? Wn _ hTn.1
      have h6n := h6.block (SS.bel hSn) (by omega)
      have hcn : Wn.cell? ⟨N9 + 1, 0, none⟩ = some (.string (tQ (shr (xA, yA) (xB, yB) (xC, yC) (xP, yP) 0))) := by have := hTn.1; simpa [sh3] using this
      obtain ⟨s0, s1, s2, s3, s4, s5, s6, s7, _, _⟩ := hSn
      clear hWn hT3 z1 z2
      go_wp2_with fail
      refine (HG0.out Wn XWn).mono ?_
      rintro e W5 ⟨rfl, X6⟩
      go_wp2_with fail
      exact ⟨⟨1, by omega, rfl, Two.ext ⟨s0, s1⟩ X6, Six.ext ⟨s2, s3, s4, s5, s6, s7⟩ X6, hTn.ext X6, h6n.ext X6, XWn.trans X6, by have := X6.size; omega, hn, hw9, rfl⟩, by simp [intOf]⟩
    · have P0 : SS w.heap.size N9 wr (.string (tQ xP)) (.string (tQ yP)) (.string (tQ xA)) (.string (tQ yA)) (.string (tQ xB)) (.string (tQ yB)) (.string (tQ xC)) (.string (tQ yC)) (sh3 (xA, yA) (xB, yB) (xC, yC) (xP, yP) 1 0) (sh3 (xA, yA) (xB, yB) (xC, yC) (xP, yP) 1 1) (sh3 (xA, yA) (xB, yB) (xC, yC) (xP, yP) 1 2) 1 wr.drew :=
        ⟨hP.1, hP.2, hS.1, hS.2.1, hS.2.2.1, hS.2.2.2.1, hS.2.2.2.2.1, hS.2.2.2.2.2, ⟨.string ⟨#[]⟩, h3⟩, (Below.refl _ wr).drew⟩
      have q1 : IntKind.i64.wrap 1 = 1 := rfl
      have q2 : IntKind.i64.wrap 2 = 2 := rfl
      have q3 : IntKind.i64.wrap 3 = 3 := rfl
      have q4 : IntKind.i64.wrap 4 = 4 := rfl
      have q5 : (1 : Int).tmod 3 = 1 := rfl
      have q6 : (2 : Int).tmod 3 = 2 := rfl
      have q7 : (3 : Int).tmod 3 = 0 := rfl
      have q8 : (4 : Int).tmod 3 = 1 := rfl
      go_wp2_with fail
      go_region_held3 (fun w' => w'.cell? ⟨w.heap.size + 1, 0, none⟩ = some (.string (tQ xP)) ∧ w'.cell? ⟨w.heap.size + 1, 1, none⟩ = some (.string (tQ yP)) ∧ w'.cell? ⟨N9, 0, none⟩ = some (.string (tQ xA)) ∧ w'.cell? ⟨N9, 1, none⟩ = some (.string (tQ yA)) ∧ w'.cell? ⟨N9, 2, none⟩ = some (.string (tQ xB)) ∧ w'.cell? ⟨N9, 3, none⟩ = some (.string (tQ yB)) ∧ w'.cell? ⟨N9, 4, none⟩ = some (.string (tQ xC)) ∧ w'.cell? ⟨N9, 5, none⟩ = some (.string (tQ yC)) ∧ T3 (N9 + 1) 1 (sh3 (xA, yA) (xB, yB) (xC, yC) (xP, yP) 1 0) (sh3 (xA, yA) (xB, yB) (xC, yC) (xP, yP) 1 1) (sh3 (xA, yA) (xB, yB) (xC, yC) (xP, yP) 1 2) w' ∧ Below (N9 + 1) wr w')
        (first | exact P0 | exact SS.step (by assumption) hb | exact SS.drew (by assumption) | exact SS.store (by assumption) (by decide) hn)
        (first | (go_at_call 177; (with_reducible refine (HA.out _ ?hx).mono ?_); (case hx => exact SS.ew (by assumption) XR hw9); rintro e w' ⟨rfl, hb⟩) | (go_at_call 177; (with_reducible refine (HA1.out _ ?hx).mono ?_); (case hx => exact SS.ew (by assumption) XR hw9); rintro e w' ⟨rfl, hb⟩) | (go_at_call 90; refine (HD1.out _ (SS.ew (by assumption) XR hw9)).mono ?_; rintro e w' ⟨rfl, hb⟩; have hT3 : T3 (N9 + 1) 1 (sh3 (xA, yA) (xB, yB) (xC, yC) (xP, yP) 1 0) (sh3 (xA, yA) (xB, yB) (xC, yC) (xP, yP) 1 1) (sh3 (xA, yA) (xB, yB) (xC, yC) (xP, yP) 1 2) w' := SS.t3 (SS.step (by assumption) hb); obtain ⟨vz, z1, z2⟩ := T3.at (by decide) hT3))
      obtain ⟨Wn, hWn⟩ : ∃ Wn, Wn = w'.setCell ⟨N9 + 1, 1, none⟩ (.string (tQ (shr (xA, yA) (xB, yB) (xC, yC) (xP, yP) 1))) := ⟨_, rfl⟩
      have hSn : SS w.heap.size N9 wr (.string (tQ xP)) (.string (tQ yP)) (.string (tQ xA)) (.string (tQ yA)) (.string (tQ xB)) (.string (tQ yB)) (.string (tQ xC)) (.string (tQ yC)) (sh3 (xA, yA) (xB, yB) (xC, yC) (xP, yP) 1 0) (sh3 (xA, yA) (xB, yB) (xC, yC) (xP, yP) 1 1) (sh3 (xA, yA) (xB, yB) (xC, yC) (xP, yP) 1 2) 1 (w'.setCell ⟨N9 + 1, 1, none⟩ (.string (tQ (shr (xA, yA) (xB, yB) (xC, yC) (xP, yP) 1)))) := by assumption
      have hTn : Tri3 (N9 + 1) (sh3 (xA, yA) (xB, yB) (xC, yC) (xP, yP) 2 0) (sh3 (xA, yA) (xB, yB) (xC, yC) (xP, yP) 2 1) (sh3 (xA, yA) (xB, yB) (xC, yC) (xP, yP) 2 2) Wn := by rw [hWn]; simpa [sh3] using T3.put (x := .string (tQ (shr (xA, yA) (xB, yB) (xC, yC) (xP, yP) 1))) (by decide) hT3
      rw [← hWn] at hSn ⊢
      have XWn : Ext w Wn := SS.ew hSn XR hw9
      have hzn : N9 + 1 < Wn.heap.size := World.block_lt_of_cell? Wn _ hTn.1
      have h6n := h6.block (SS.bel hSn) (by omega)
      have hcn : Wn.cell? ⟨N9 + 1, 1, none⟩ = some (.string (tQ (shr (xA, yA) (xB, yB) (xC, yC) (xP, yP) 1))) := by have := hTn.2.1; simpa [sh3] using this
      obtain ⟨s0, s1, s2, s3, s4, s5, s6, s7, _, _⟩ := hSn
      clear hWn hT3 z1 z2
      go_wp2_with fail
      refine (HG1.out Wn XWn).mono ?_
      rintro e W5 ⟨rfl, X6⟩
      go_wp2_with fail
      exact ⟨⟨2, by omega, rfl, Two.ext ⟨s0, s1⟩ X6, Six.ext ⟨s2, s3, s4, s5, s6, s7⟩ X6, hTn.ext X6, h6n.ext X6, XWn.trans X6, by have := X6.size; omega, hn, hw9, rfl⟩, by simp [intOf]⟩
    · have P0 : SS w.heap.size N9 wr (.string (tQ xP)) (.string (tQ yP)) (.string (tQ xA)) (.string (tQ yA)) (.string (tQ xB)) (.string (tQ yB)) (.string (tQ xC)) (.string (tQ yC)) (sh3 (xA, yA) (xB, yB) (xC, yC) (xP, yP) 2 0) (sh3 (xA, yA) (xB, yB) (xC, yC) (xP, yP) 2 1) (sh3 (xA, yA) (xB, yB) (xC, yC) (xP, yP) 2 2) 2 wr.drew :=
        ⟨hP.1, hP.2, hS.1, hS.2.1, hS.2.2.1, hS.2.2.2.1, hS.2.2.2.2.1, hS.2.2.2.2.2, ⟨.string ⟨#[]⟩, h3⟩, (Below.refl _ wr).drew⟩
      have q1 : IntKind.i64.wrap 1 = 1 := rfl
      have q2 : IntKind.i64.wrap 2 = 2 := rfl
      have q3 : IntKind.i64.wrap 3 = 3 := rfl
      have q4 : IntKind.i64.wrap 4 = 4 := rfl
      have q5 : (1 : Int).tmod 3 = 1 := rfl
      have q6 : (2 : Int).tmod 3 = 2 := rfl
      have q7 : (3 : Int).tmod 3 = 0 := rfl
      have q8 : (4 : Int).tmod 3 = 1 := rfl
      go_wp2_with fail
      go_region_held3 (fun w' => w'.cell? ⟨w.heap.size + 1, 0, none⟩ = some (.string (tQ xP)) ∧ w'.cell? ⟨w.heap.size + 1, 1, none⟩ = some (.string (tQ yP)) ∧ w'.cell? ⟨N9, 0, none⟩ = some (.string (tQ xA)) ∧ w'.cell? ⟨N9, 1, none⟩ = some (.string (tQ yA)) ∧ w'.cell? ⟨N9, 2, none⟩ = some (.string (tQ xB)) ∧ w'.cell? ⟨N9, 3, none⟩ = some (.string (tQ yB)) ∧ w'.cell? ⟨N9, 4, none⟩ = some (.string (tQ xC)) ∧ w'.cell? ⟨N9, 5, none⟩ = some (.string (tQ yC)) ∧ T3 (N9 + 1) 2 (sh3 (xA, yA) (xB, yB) (xC, yC) (xP, yP) 2 0) (sh3 (xA, yA) (xB, yB) (xC, yC) (xP, yP) 2 1) (sh3 (xA, yA) (xB, yB) (xC, yC) (xP, yP) 2 2) w' ∧ Below (N9 + 1) wr w')
        (first | exact P0 | exact SS.step (by assumption) hb | exact SS.drew (by assumption) | exact SS.store (by assumption) (by decide) hn)
        (first | (go_at_call 177; (with_reducible refine (HA.out _ ?hx).mono ?_); (case hx => exact SS.ew (by assumption) XR hw9); rintro e w' ⟨rfl, hb⟩) | (go_at_call 177; (with_reducible refine (HA2.out _ ?hx).mono ?_); (case hx => exact SS.ew (by assumption) XR hw9); rintro e w' ⟨rfl, hb⟩) | (go_at_call 90; refine (HD2.out _ (SS.ew (by assumption) XR hw9)).mono ?_; rintro e w' ⟨rfl, hb⟩; have hT3 : T3 (N9 + 1) 2 (sh3 (xA, yA) (xB, yB) (xC, yC) (xP, yP) 2 0) (sh3 (xA, yA) (xB, yB) (xC, yC) (xP, yP) 2 1) (sh3 (xA, yA) (xB, yB) (xC, yC) (xP, yP) 2 2) w' := SS.t3 (SS.step (by assumption) hb); obtain ⟨vz, z1, z2⟩ := T3.at (by decide) hT3))
      obtain ⟨Wn, hWn⟩ : ∃ Wn, Wn = w'.setCell ⟨N9 + 1, 2, none⟩ (.string (tQ (shr (xA, yA) (xB, yB) (xC, yC) (xP, yP) 2))) := ⟨_, rfl⟩
      have hSn : SS w.heap.size N9 wr (.string (tQ xP)) (.string (tQ yP)) (.string (tQ xA)) (.string (tQ yA)) (.string (tQ xB)) (.string (tQ yB)) (.string (tQ xC)) (.string (tQ yC)) (sh3 (xA, yA) (xB, yB) (xC, yC) (xP, yP) 2 0) (sh3 (xA, yA) (xB, yB) (xC, yC) (xP, yP) 2 1) (sh3 (xA, yA) (xB, yB) (xC, yC) (xP, yP) 2 2) 2 (w'.setCell ⟨N9 + 1, 2, none⟩ (.string (tQ (shr (xA, yA) (xB, yB) (xC, yC) (xP, yP) 2)))) := by assumption
      have hTn : Tri3 (N9 + 1) (sh3 (xA, yA) (xB, yB) (xC, yC) (xP, yP) 3 0) (sh3 (xA, yA) (xB, yB) (xC, yC) (xP, yP) 3 1) (sh3 (xA, yA) (xB, yB) (xC, yC) (xP, yP) 3 2) Wn := by rw [hWn]; simpa [sh3] using T3.put (x := .string (tQ (shr (xA, yA) (xB, yB) (xC, yC) (xP, yP) 2))) (by decide) hT3
      rw [← hWn] at hSn ⊢
      have XWn : Ext w Wn := SS.ew hSn XR hw9
      have hzn : N9 + 1 < Wn.heap.size := World.block_lt_of_cell? Wn _ hTn.1
      have h6n := h6.block (SS.bel hSn) (by omega)
      have hcn : Wn.cell? ⟨N9 + 1, 2, none⟩ = some (.string (tQ (shr (xA, yA) (xB, yB) (xC, yC) (xP, yP) 2))) := by have := hTn.2.2.1; simpa [sh3] using this
      obtain ⟨s0, s1, s2, s3, s4, s5, s6, s7, _, _⟩ := hSn
      clear hWn hT3 z1 z2
      go_wp2_with fail
      refine (HG2.out Wn XWn).mono ?_
      rintro e W5 ⟨rfl, X6⟩
      go_wp2_with fail
      exact ⟨⟨3, by omega, rfl, Two.ext ⟨s0, s1⟩ X6, Six.ext ⟨s2, s3, s4, s5, s6, s7⟩ X6, hTn.ext X6, h6n.ext X6, XWn.trans X6, by have := X6.size; omega, hn, hw9, rfl⟩, by simp [intOf]⟩
    · have c0 : wr.cell? ⟨N9 + 1, 0, none⟩ = some (.string (tQ (shr (xA, yA) (xB, yB) (xC, yC) (xP, yP) 0))) := by have := h3.1; simpa [sh3] using this
      have c1 : wr.cell? ⟨N9 + 1, 1, none⟩ = some (.string (tQ (shr (xA, yA) (xB, yB) (xC, yC) (xP, yP) 1))) := by have := h3.2.1; simpa [sh3] using this
      have c2 : wr.cell? ⟨N9 + 1, 2, none⟩ = some (.string (tQ (shr (xA, yA) (xB, yB) (xC, yC) (xP, yP) 2))) := by have := h3.2.2.1; simpa [sh3] using this
      have hq := (((h6.put (.string (tQ (shr (xA, yA) (xB, yB) (xC, yC) (xP, yP) 0)))).1.put (.string (tQ (shr (xA, yA) (xB, yB) (xC, yC) (xP, yP) 1)))).2.1.put (.string (tQ (shr (xA, yA) (xB, yB) (xC, yC) (xP, yP) 2)))).2.2
      have hBq : Ext w (((wr.setCell ⟨w.heap.size + 1 + 1, 0, none⟩ (.string (tQ (shr (xA, yA) (xB, yB) (xC, yC) (xP, yP) 0)))).setCell ⟨w.heap.size + 1 + 1, 1, none⟩ (.string (tQ (shr (xA, yA) (xB, yB) (xC, yC) (xP, yP) 1)))).setCell ⟨w.heap.size + 1 + 1, 2, none⟩ (.string (tQ (shr (xA, yA) (xB, yB) (xC, yC) (xP, yP) 2)))) :=
        ((XR.setCell (by show w.heap.size ≤ w.heap.size + 1 + 1; omega) _).setCell (by show w.heap.size ≤ w.heap.size + 1 + 1; omega) _).setCell (by show w.heap.size ≤ w.heap.size + 1 + 1; omega) _
      obtain ⟨r0, r1, r2, f0, f1, f2⟩ := h6
      go_wp2_with fail
      generalize ((wr.setCell ⟨w.heap.size + 1 + 1, 0, none⟩ (.string (tQ (shr (xA, yA) (xB, yB) (xC, yC) (xP, yP) 0)))).setCell ⟨w.heap.size + 1 + 1, 1, none⟩ (.string (tQ (shr (xA, yA) (xB, yB) (xC, yC) (xP, yP) 1)))).setCell ⟨w.heap.size + 1 + 1, 2, none⟩ (.string (tQ (shr (xA, yA) (xB, yB) (xC, yC) (xP, yP) 2))) = Wq at *
      refine bodyPost_ret (v := .tuple #[.agg #[.string (tQ (shr (xA, yA) (xB, yB) (xC, yC) (xP, yP) 0)), .string (tQ (shr (xA, yA) (xB, yB) (xC, yC) (xP, yP) 1)), .string (tQ (shr (xA, yA) (xB, yB) (xC, yC) (xP, yP) 2))], .int .i64 0]) ?_ rfl ⟨rfl, hBq⟩
      simp [results, Tryz.results139, go_sem, hq.1, hq.2.1, hq.2.2.1]
end Go.Proofs.YtbiffaciinppiaaGreatDoor
