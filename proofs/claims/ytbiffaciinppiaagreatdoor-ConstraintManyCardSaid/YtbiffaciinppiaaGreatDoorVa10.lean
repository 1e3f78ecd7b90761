/- mesh.corners, mesh.inside. Slices that a call fills by append, as lists. mesh.Locate and mesh.Contains at a mesh that is right. mesh.checkTriangle, mesh.right, mesh.Shares at a mesh that is right. -/
import Derived.Test.YtbiffaciinppiaaGreatDoorVa09
import Derived.Test.YtbiffaciinppiaaGreatDoorVa01
import Derived.Laws.AppendOwn
set_option linter.unusedVariables false
set_option linter.unusedSimpArgs false
section
namespace Go.Proofs.YtbiffaciinppiaaGreatDoor
open Go.RowKit Go.Maps
attribute [local go_sem] ixT0 ixT1 ixT2 fld_x fld_y

theorem Ext.trans' {w a b : World} (h : Ext w a) (k : Below w.heap.size a b) : Ext w b := Below.trans h k
/-- The texts of three places. -/
def p3V (a b c : Rat × Rat) : Value := .agg #[.string (tQ a.1), .string (tQ a.2), .string (tQ b.1), .string (tQ b.2), .string (tQ c.1), .string (tQ c.2)]
theorem sixCells (wd : World) (b : Nat) (v0 v1 v2 v3 v4 v5 u0 u1 u2 u3 u4 u5 : Value) (r0 : wd.cell? ⟨b, 0, none⟩ = some u0) (r1 : wd.cell? ⟨b, 1, none⟩ = some u1) (r2 : wd.cell? ⟨b, 2, none⟩ = some u2) (r3 : wd.cell? ⟨b, 3, none⟩ = some u3) (r4 : wd.cell? ⟨b, 4, none⟩ = some u4) (r5 : wd.cell? ⟨b, 5, none⟩ = some u5) :
    ∃ W, W = ((((((wd.setCell ⟨b, 0, none⟩ v0).setCell ⟨b, 1, none⟩ v1).setCell ⟨b, 2, none⟩ v2).setCell ⟨b, 3, none⟩ v3).setCell ⟨b, 4, none⟩ v4).setCell ⟨b, 5, none⟩ v5) ∧ W.cell? ⟨b, 0, none⟩ = some v0 ∧ W.cell? ⟨b, 1, none⟩ = some v1 ∧ W.cell? ⟨b, 2, none⟩ = some v2 ∧ W.cell? ⟨b, 3, none⟩ = some v3 ∧ W.cell? ⟨b, 4, none⟩ = some v4 ∧ W.cell? ⟨b, 5, none⟩ = some v5 ∧ (∀ B, B ≤ b → Below B wd W) := by
  have ne : ∀ (i j : Nat) (h : i ≠ j), (⟨b, i, none⟩ : Addr) ≠ ⟨b, j, none⟩ := fun i j h e => h (by cases e; rfl)
  refine ⟨_, rfl, ?_, ?_, ?_, ?_, ?_, ?_, fun B hB => ?_⟩
  · simp only [World.cell?_setCell_other _ _ _ _ (ne 5 0 (by decide)), World.cell?_setCell_other _ _ _ _ (ne 4 0 (by decide)), World.cell?_setCell_other _ _ _ _ (ne 3 0 (by decide)), World.cell?_setCell_other _ _ _ _ (ne 2 0 (by decide)), World.cell?_setCell_other _ _ _ _ (ne 1 0 (by decide))]
    exact World.cell?_setCell_same _ _ _ r0
  · simp only [World.cell?_setCell_other _ _ _ _ (ne 5 1 (by decide)), World.cell?_setCell_other _ _ _ _ (ne 4 1 (by decide)), World.cell?_setCell_other _ _ _ _ (ne 3 1 (by decide)), World.cell?_setCell_other _ _ _ _ (ne 2 1 (by decide))]
    exact World.cell?_setCell_same _ _ _ ((World.cell?_setCell_other _ _ _ _ (ne 0 1 (by decide))).trans r1)
  · simp only [World.cell?_setCell_other _ _ _ _ (ne 5 2 (by decide)), World.cell?_setCell_other _ _ _ _ (ne 4 2 (by decide)), World.cell?_setCell_other _ _ _ _ (ne 3 2 (by decide))]
    exact World.cell?_setCell_same _ _ _ ((World.cell?_setCell_other _ _ _ _ (ne 1 2 (by decide))).trans ((World.cell?_setCell_other _ _ _ _ (ne 0 2 (by decide))).trans r2))
  · simp only [World.cell?_setCell_other _ _ _ _ (ne 5 3 (by decide)), World.cell?_setCell_other _ _ _ _ (ne 4 3 (by decide))]
    exact World.cell?_setCell_same _ _ _ ((World.cell?_setCell_other _ _ _ _ (ne 2 3 (by decide))).trans ((World.cell?_setCell_other _ _ _ _ (ne 1 3 (by decide))).trans ((World.cell?_setCell_other _ _ _ _ (ne 0 3 (by decide))).trans r3)))
  · simp only [World.cell?_setCell_other _ _ _ _ (ne 5 4 (by decide))]
    exact World.cell?_setCell_same _ _ _ ((World.cell?_setCell_other _ _ _ _ (ne 3 4 (by decide))).trans ((World.cell?_setCell_other _ _ _ _ (ne 2 4 (by decide))).trans ((World.cell?_setCell_other _ _ _ _ (ne 1 4 (by decide))).trans ((World.cell?_setCell_other _ _ _ _ (ne 0 4 (by decide))).trans r4))))
  · exact World.cell?_setCell_same _ _ _ ((World.cell?_setCell_other _ _ _ _ (ne 4 5 (by decide))).trans ((World.cell?_setCell_other _ _ _ _ (ne 3 5 (by decide))).trans ((World.cell?_setCell_other _ _ _ _ (ne 2 5 (by decide))).trans ((World.cell?_setCell_other _ _ _ _ (ne 1 5 (by decide))).trans ((World.cell?_setCell_other _ _ _ _ (ne 0 5 (by decide))).trans r5)))))
  · exact ((((((Below.refl _ _).setCell hB _).setCell hB _).setCell hB _).setCell hB _).setCell hB _).setCell hB _
/-- The corner of a triangle. -/
def cor (pts : List (Rat × Rat)) (k : Int) : Rat × Rat := pts.getD k.toNat (0, 0)
theorem cor_nat {pts : List (Rat × Rat)} {k : Int} (h0 : 0 ≤ k) (h1 : k < pts.length) : ∃ A : Nat, ∃ h : A < pts.length, k = A ∧ cor pts k = pts[A] := by
  obtain ⟨A, rfl⟩ : ∃ A : Nat, k = A := ⟨_, (Int.toNat_of_nonneg h0).symm⟩
  have hA : A < pts.length := by omega
  refine ⟨A, hA, rfl, ?_⟩
  unfold cor
  rw [Int.toNat_natCast, List.getD_eq_getElem?_getD, List.getElem?_eq_getElem hA, Option.getD_some]

set_option maxRecDepth 100000 in
set_option maxHeartbeats 2000000 in
theorem corners_ok (pts : List (Rat × Rat)) (tris : List Tri) (pb po pc tb tO tc : Nat) (i : Nat) (w : World) (hI : MeshIn w pb po tb tO pts tris) (hi : i < tris.length) (hx : ∀ k ∈ triIdx tris[i], 0 ≤ k ∧ k < pts.length) :
    Calls Tryz.prog 94 #[mV pb po pc tb tO tc pts tris, .int .i64 i] w (Ret (p3V (cor pts tris[i].1) (cor pts tris[i].2.1) (cor pts tris[i].2.2)) w) := by
  obtain ⟨d0, d1, d2⟩ := hI.t i hi
  have q1 := hx tris[i].1 (by simp [triIdx])
  have q2 := hx tris[i].2.1 (by simp [triIdx])
  have q3 := hx tris[i].2.2 (by simp [triIdx])
  obtain ⟨A, rA, hA, hA2⟩ := cor_nat q1.1 q1.2
  obtain ⟨B, rB, hB, hB2⟩ := cor_nat q2.1 q2.2
  obtain ⟨C, rC, hC, hC2⟩ := cor_nat q3.1 q3.2
  rw [hA2, hB2, hC2]
  rw [hA] at d0
  rw [hB] at d1
  rw [hC] at d2
  have eA := hI.p A rA
  have eB := hI.p B rB
  have eC := hI.p C rC
  have i1 : (A : Int) < pts.length := by omega
  have i2 : (B : Int) < pts.length := by omega
  have i3 : (C : Int) < pts.length := by omega
  have i0 : (i : Int) < tris.length := by omega
  clear hI hx q1 q2 q3 hA hB hC hA2 hB2 hC2
  generalize pts[A] = pA at *
  generalize pts[B] = pB at *
  generalize pts[C] = pC at *
  obtain ⟨xA, yA⟩ := pA
  obtain ⟨xB, yB⟩ := pB
  obtain ⟨xC, yC⟩ := pC
  simp only [p3V] at *
  have htb : tb < w.heap.size := World.block_lt_of_cell? w _ d0
  have hpb : pb < w.heap.size := World.block_lt_of_cell? w _ eA.1
  unfold mV
  go_enter Tryz.func94, Tryz.ntmps94
  go_wp2_with fail
  refine wp_region_still_tail 19 (by kernel_rfl) (by kernel_rfl) ?_
  simp only [List.take_succ_cons, List.take_zero, List.drop_succ_cons, List.drop_zero]
  obtain ⟨wd, hwd⟩ : ∃ wd, wd = (World.drew (((w.alloc (.cells #[.slice (some ⟨pb, po, none⟩) pts.length pc, .slice (some ⟨tb, tO, none⟩) tris.length tc] 37)).alloc (.cells #[.string ⟨#[]⟩, .string ⟨#[]⟩, .string ⟨#[]⟩, .string ⟨#[]⟩, .string ⟨#[]⟩, .string ⟨#[]⟩] 177)).alloc (.cells #[.int .i64 A, .int .i64 B, .int .i64 C] 121))) := ⟨_, rfl⟩
  change wpStill _ _ (World.drew (((w.alloc (.cells #[.slice (some ⟨pb, po, none⟩) pts.length pc, .slice (some ⟨tb, tO, none⟩) tris.length tc] 37)).alloc (.cells #[.string ⟨#[]⟩, .string ⟨#[]⟩, .string ⟨#[]⟩, .string ⟨#[]⟩, .string ⟨#[]⟩, .string ⟨#[]⟩] 177)).alloc (.cells #[.int .i64 A, .int .i64 B, .int .i64 C] 121))) (fun a' => wpList _ _ _ _ a' (World.drew (((w.alloc (.cells #[.slice (some ⟨pb, po, none⟩) pts.length pc, .slice (some ⟨tb, tO, none⟩) tris.length tc] 37)).alloc (.cells #[.string ⟨#[]⟩, .string ⟨#[]⟩, .string ⟨#[]⟩, .string ⟨#[]⟩, .string ⟨#[]⟩, .string ⟨#[]⟩] 177)).alloc (.cells #[.int .i64 A, .int .i64 B, .int .i64 C] 121)))) _ _
  rw [← hwd]
  have X : Ext w wd := by rw [hwd]; exact ((((Ext.refl w).alloc _).alloc _).alloc _).drew
  have m0 : wd.cell? ⟨w.heap.size, 0, none⟩ = some (.slice (some ⟨pb, po, none⟩) pts.length pc) := by rw [hwd]; simp [go_sem]
  have t0 : wd.cell? ⟨w.heap.size + 1 + 1, 0, none⟩ = some (.int .i64 A) := by rw [hwd]; simp [go_sem]
  have t1 : wd.cell? ⟨w.heap.size + 1 + 1, 1, none⟩ = some (.int .i64 B) := by rw [hwd]; simp [go_sem]
  have t2 : wd.cell? ⟨w.heap.size + 1 + 1, 2, none⟩ = some (.int .i64 C) := by rw [hwd]; simp [go_sem]
  have r : ∀ j, j < 6 → wd.cell? ⟨w.heap.size + 1, j, none⟩ = some (.string ⟨#[]⟩) ∧ wd.frozen? ⟨w.heap.size + 1, j, none⟩ = false := fun j hj => by
    rw [hwd]
    rcases (show j = 0 ∨ j = 1 ∨ j = 2 ∨ j = 3 ∨ j = 4 ∨ j = 5 by omega) with rfl | rfl | rfl | rfl | rfl | rfl <;> constructor <;> simp [go_sem]
  obtain ⟨r0, f0⟩ := r 0 (by omega)
  obtain ⟨r1, f1⟩ := r 1 (by omega)
  obtain ⟨r2, f2⟩ := r 2 (by omega)
  obtain ⟨r3, f3⟩ := r 3 (by omega)
  obtain ⟨r4, f4⟩ := r 4 (by omega)
  obtain ⟨r5, f5⟩ := r 5 (by omega)
  have n0 := X.cell eA.1
  have n1 := X.cell eA.2
  have n2 := X.cell eB.1
  have n3 := X.cell eB.2
  have n4 := X.cell eC.1
  have n5 := X.cell eC.2
  clear hwd r d0 d1 d2 eA eB eC htb hpb
  repeat still_step
  refine wpStill_nil ?_
  go_wp2_with fail
  obtain ⟨W, hW, z0, z1, z2, z3, z4, z5, hb⟩ := sixCells wd (w.heap.size + 1) (.string (tQ xA)) (.string (tQ yA)) (.string (tQ xB)) (.string (tQ yB)) (.string (tQ xC)) (.string (tQ yC)) _ _ _ _ _ _ r0 r1 r2 r3 r4 r5
  rw [← hW]
  clear hW r0 r1 r2 r3 r4 r5
  refine bodyPost_ret (v := .agg #[.string (tQ xA), .string (tQ yA), .string (tQ xB), .string (tQ yB), .string (tQ xC), .string (tQ yC)]) ?_ rfl ⟨rfl, X.trans' (hb _ (Nat.le_succ _))⟩
  simp [results, Tryz.results94, go_sem, z0, z1, z2, z3, z4, z5]

/-- A place lies in a triangle, or on its sides. -/
def insB (a b c p : Rat × Rat) : Bool := decide (0 ≤ sgnQ (arQ a b p)) && decide (0 ≤ sgnQ (arQ b c p)) && decide (0 ≤ sgnQ (arQ c a p))
set_option maxRecDepth 100000 in
set_option maxHeartbeats 2000000 in
theorem inside_ok (N D : Nat) (hF : Fine N D) (a b c p : Rat × Rat) (w : World) (g : Glob w) (ha : GP N D a) (hb : GP N D b) (hc : GP N D c) (hp : GP N D p) :
    Calls Tryz.prog 93 #[p3V a b c, ptV p] w (Ret (.bool (insB a b c p)) w) := by
  have H1 := Lib.hid (fun W (X : Ext w W) => turn_calls N D hF a b p W (g.ext X) ha hb hp)
  have H2 := Lib.hid (fun W (X : Ext w W) => turn_calls N D hF b c p W (g.ext X) hb hc hp)
  have H3 := Lib.hid (fun W (X : Ext w W) => turn_calls N D hF c a p W (g.ext X) hc ha hp)
  have HI : ∃ v1 v2 v3, v1 = sgnQ (arQ a b p) ∧ v2 = sgnQ (arQ b c p) ∧ v3 = sgnQ (arQ c a p) := ⟨_, _, _, rfl, rfl, rfl⟩
  obtain ⟨v1, v2, v3, h1, h2, h3⟩ := HI
  have HB := Lib.hid (show insB a b c p = (decide (0 ≤ v1) && decide (0 ≤ v2) && decide (0 ≤ v3)) by rw [h1, h2, h3]; rfl)
  rw [← h1] at H1
  rw [← h2] at H2
  rw [← h3] at H3
  clear h1 h2 h3 ha hb hc hp hF g
  obtain ⟨xA, yA⟩ := a
  obtain ⟨xB, yB⟩ := b
  obtain ⟨xC, yC⟩ := c
  obtain ⟨xP, yP⟩ := p
  simp only [ptV, p3V] at *
  generalize insB (xA, yA) (xB, yB) (xC, yC) (xP, yP) = bb at *
  go_enter Tryz.func93, Tryz.ntmps93
  go_wp2_with fail
  obtain ⟨W0, hW0⟩ : ∃ W0, W0 = (w.alloc (.cells #[.string (tQ xA), .string (tQ yA), .string (tQ xB), .string (tQ yB), .string (tQ xC), .string (tQ yC)] 177)).alloc (.cells #[.string (tQ xP), .string (tQ yP)] 91) := ⟨_, rfl⟩
  rw [← hW0]
  have X0 : Ext w W0 := by rw [hW0]; exact ((Ext.refl w).alloc _).alloc _
  have k0 : W0.cell? ⟨w.heap.size, 0, none⟩ = some (.string (tQ xA)) := by rw [hW0]; simp [go_sem]
  have k1 : W0.cell? ⟨w.heap.size, 1, none⟩ = some (.string (tQ yA)) := by rw [hW0]; simp [go_sem]
  have k2 : W0.cell? ⟨w.heap.size, 2, none⟩ = some (.string (tQ xB)) := by rw [hW0]; simp [go_sem]
  have k3 : W0.cell? ⟨w.heap.size, 3, none⟩ = some (.string (tQ yB)) := by rw [hW0]; simp [go_sem]
  have k4 : W0.cell? ⟨w.heap.size, 4, none⟩ = some (.string (tQ xC)) := by rw [hW0]; simp [go_sem]
  have k5 : W0.cell? ⟨w.heap.size, 5, none⟩ = some (.string (tQ yC)) := by rw [hW0]; simp [go_sem]
  have k6 : W0.cell? ⟨w.heap.size + 1, 0, none⟩ = some (.string (tQ xP)) := by rw [hW0]; simp [go_sem]
  have k7 : W0.cell? ⟨w.heap.size + 1, 1, none⟩ = some (.string (tQ yP)) := by rw [hW0]; simp [go_sem]
  clear hW0
  refine (H1.out W0 X0).mono ?_
  rintro e W1 ⟨rfl, X1⟩
  have XA1 := X0.trans X1
  rcases Int.lt_or_le v1 0 with hv | hv
  · have hd : decide (v1 ≥ 0) = false := decide_eq_false (by omega)
    have hd' : decide (0 ≤ v1) = false := decide_eq_false (by omega)
    go_wp2_with fail
    go_ret
    rw [HB.out, hd']
    exact ⟨rfl, XA1⟩
  have hd : decide (v1 ≥ 0) = true := decide_eq_true (by omega)
  have HD1 := Lib.hid (show decide (0 ≤ v1) = true from decide_eq_true hv)
  have k0 := X1.cell k0
  have k1 := X1.cell k1
  have k2 := X1.cell k2
  have k3 := X1.cell k3
  have k4 := X1.cell k4
  have k5 := X1.cell k5
  have k6 := X1.cell k6
  have k7 := X1.cell k7
  go_wp2_with fail
  refine (H2.out W1 XA1).mono ?_
  rintro e W2 ⟨rfl, X2⟩
  have XA2 := XA1.trans X2
  rcases Int.lt_or_le v2 0 with hv2 | hv2
  · have hd2 : decide (v2 ≥ 0) = false := decide_eq_false (by omega)
    have hd' : decide (0 ≤ v2) = false := decide_eq_false (by omega)
    go_wp2_with fail
    go_ret
    rw [HB.out, HD1.out, hd']
    exact ⟨rfl, XA2⟩
  have hd2 : decide (v2 ≥ 0) = true := decide_eq_true (by omega)
  have HD2 := Lib.hid (show decide (0 ≤ v2) = true from decide_eq_true hv2)
  have k0 := X2.cell k0
  have k1 := X2.cell k1
  have k4 := X2.cell k4
  have k5 := X2.cell k5
  have k6 := X2.cell k6
  have k7 := X2.cell k7
  go_wp2_with fail
  refine (H3.out W2 XA2).mono ?_
  rintro e W3 ⟨rfl, X3⟩
  have XA3 := XA2.trans X3
  go_wp2_with fail
  go_ret
  rw [HB.out, HD1.out, HD2.out]
  exact ⟨rfl, XA3⟩
end Go.Proofs.YtbiffaciinppiaaGreatDoor
end

section
namespace Go.Proofs.YtbiffaciinppiaaGreatDoor
open Go.RowKit

/-- What append asks of the element's type. -/
structure ElemOk (P : Program) (t e : TypeId) (size bytes : Nat) : Prop where
  ht : P.underlying t = some (.slice e)
  info : ∃ z, (P.info? e).map (fun i => (i.zero, i.size, i.bytes)) = some (some z, size, bytes) ∧ z.cells.size = size
  pos : 0 < size
  by0 : bytes ≤ 1000

/-- A slice of this call that holds a list. -/
def OwnL {α : Type} (enc : α → List Value) (e : TypeId) (size base : Nat) (L : List α) (v : Value) (w : World) : Prop :=
  (∀ x ∈ L, (enc x).length = size ∧ ∀ u ∈ enc x, u.oneCell' = true) ∧ w.ownsRow base e size v L.length (L.flatMap enc)
section
variable {α : Type} {enc : α → List Value} {e : TypeId} {size base : Nat} {L : List α} {v : Value} {w : World}
theorem OwnL.nil (w : World) : OwnL enc e size base ([] : List α) (.slice none 0 0) w := by
  refine ⟨fun x hx => ?_, ?_, ?_⟩
  · simp at hx
  · simp
  · exact .inl ⟨rfl, rfl⟩
theorem OwnL.alloc (h : OwnL enc e size base L v w) (o : Obj) : OwnL enc e size base L v (w.alloc o) := ⟨h.1, World.ownsRow.alloc h.2 o⟩
theorem OwnL.below {w' : World} (h : OwnL enc e size base L v w) (hx : Below w.heap.size w w') : OwnL enc e size base L v w' := by
  obtain ⟨h0, hl, h1⟩ := h
  refine ⟨h0, hl, ?_⟩
  rcases h1 with h1 | ⟨g, cap, cur, h2, h3, h4, h5⟩
  · exact .inl h1
  · exact .inr ⟨g, cap, cur, h2, h3, by rw [hx.block g (Array.getElem?_eq_some_iff.1 h4).1]; exact h4, h5⟩
theorem OwnL.form (h : OwnL enc e size base L v w) : ∃ a cap, v = .slice a L.length cap ∧ (L ≠ [] → ∃ g, a = some ⟨g, 0, none⟩ ∧ base ≤ g ∧ g < w.heap.size) := by
  obtain ⟨_, _, h1⟩ := h
  rcases h1 with ⟨h1, h2⟩ | ⟨g, cap, cur, h2, h3, h4, h5⟩
  · exact ⟨none, 0, by rw [h2]; exact h1, fun hne => absurd (List.length_eq_zero_iff.1 h2) hne⟩
  · exact ⟨_, cap, h2, fun _ => ⟨g, rfl, h3, (Array.getElem?_eq_some_iff.1 h4).1⟩⟩
theorem flatMap_at (hs : ∀ x ∈ L, (enc x).length = size) : ∀ (j k : Nat) (hj : j < L.length) (_ : k < size), (L.flatMap enc)[j * size + k]? = (enc L[j])[k]? := by
  induction L with
  | nil => intro j k hj; cases hj
  | cons x L ih =>
    intro j k hj hk
    rw [List.flatMap_cons]
    have hx := hs x (by simp)
    cases j with
    | zero => rw [List.getElem?_append_left (by omega)]; simp
    | succ j =>
      rw [List.getElem?_append_right (by rw [hx, Nat.succ_mul]; omega), hx, show (j + 1) * size + k - size = j * size + k by rw [Nat.succ_mul]; omega]
      rw [ih (fun y hy => hs y (by simp [hy])) j k (by simpa using hj) hk]
      rfl
/-- The cells of such a slice. -/
theorem OwnL.cells {n cap g : Nat} (h : OwnL enc e size base L (.slice (some ⟨g, 0, none⟩) n cap) w) : n = L.length ∧ base ≤ g ∧ ∀ j (hj : j < L.length) k u, k < size → (enc L[j])[k]? = some u → w.cell? ⟨g, j * size + k, none⟩ = some u := by
  obtain ⟨h0, hl, h1⟩ := h
  rcases h1 with ⟨h1, h2⟩ | ⟨g', cap', cur, h2, h3, h4, h5, h6, h7, h8⟩
  · cases h1
  · simp only [Value.slice.injEq, Option.some.injEq, Addr.mk.injEq] at h2
    obtain ⟨⟨rfl, _, _⟩, hn, rfl⟩ := h2
    refine ⟨hn, h3, fun j hj k u hk hu => ?_⟩
    have e1 := flatMap_at (fun x hx => (h0 x hx).1) j k hj hk
    have hb : j * size + k < L.length * size := by
      have : (j + 1) * size ≤ L.length * size := Nat.mul_le_mul_right _ hj
      rw [Nat.succ_mul] at this
      omega
    rw [← h8, List.getElem?_take_of_lt hb, hu] at e1
    have e2 : cur[j * size + k]? = some u := by simpa using e1
    simp [World.cell?, h4, e2]
end

section
variable {P : Program} {α : Type} {enc : α → List Value} {t e : TypeId} {size bytes base : Nat} {L : List α} {v : Value}
/-- 's = append(s, x)'. -/
theorem wpList_push {ops : Array Oper} {rest : List Oper} {o : Oper} {a : Act} {Q : Exit → Act → World → Prop} (w : World) (hE : ElemOk P t e size bytes) (hgd : o.guard = none) (s x : Operand)
    (ho : o.op = .call { callee := .builtin .append, args := #[s, x], argTypes := #[t, t] }) (hs : a.eval s = v) (hown : OwnL enc e size base L v w) (y : α) (ad : Addr) (c : Nat) (hx : a.eval x = .slice (some ad) 1 c)
    (hy : (enc y).length = size) (hy1 : ∀ u ∈ enc y, u.oneCell' = true) (hnews : ∀ j u, (enc y)[j]? = some u → w.cell? (ad.add j) = some u) (hL : L.length ≤ 1000000) (hbase : base ≤ w.heap.size)
    (h : ∀ q c' w', OwnL enc e size base (L ++ [y]) (.slice (some ⟨q, 0, none⟩) (L.length + 1) c') w' → Hid (∀ B wb, B ≤ base → B ≤ wb.heap.size → Below B wb w → Below B wb w') → Hid (w.grownBy w' v.ownBlock) → wpList P ops Q rest (a.put o.dst (.slice (some ⟨q, 0, none⟩) (L.length + 1) c')) w') :
    wpList P ops Q (o :: rest) a w := by
  obtain ⟨z, hz, hzs⟩ := hE.info
  obtain ⟨i, hi, hi2⟩ := Option.map_eq_some_iff.1 hz
  simp only [Prod.mk.injEq] at hi2
  refine wpList_append_own w hgd s x t ho base e i z size bytes hE.ht hi hi2.1 hi2.2.1 hi2.2.2 hzs hE.pos v L.length (L.flatMap enc) hs hown.2 ad 1 c (enc y) hx (by omega) hnews hy1 (by unfold maxLen; omega) ?_ hbase ?_
  · have h1 : (L.length + 1) * bytes ≤ 1000001 * 1000 := Nat.mul_le_mul (by omega) hE.by0
    omega
  · intro v' w' h1 h2 _
    have hv : ∃ q c', v' = .slice (some ⟨q, 0, none⟩) (L.length + 1) c' := by
      rcases h1.2 with ⟨_, h⟩ | ⟨q, c', cur, h, _⟩
      · omega
      · exact ⟨q, c', h⟩
    have hbl : ∀ k, v.ownBlock = some k → base ≤ k := fun k hk => by
      rcases hown.2.2 with ⟨h, _⟩ | ⟨q, c', cur, h, hb, _⟩
      · rw [h] at hk; cases hk
      · rw [h] at hk; simp only [Value.ownBlock, Option.some.injEq] at hk; omega
    obtain ⟨q, c', rfl⟩ := hv
    refine h q c' w' ⟨?_, ?_⟩ (Lib.hid (fun B wb hB hB2 hb => Below.grown hb h2 (Nat.le_trans hB2 hb.size) (fun k e => by have := hbl k e; omega))) (Lib.hid h2)
    · intro x hx
      rcases List.mem_append.1 hx with h | h
      · exact hown.1 x h
      · rw [List.mem_singleton.1 h]; exact ⟨hy, hy1⟩
    · rw [List.length_append, List.flatMap_append]
      simpa using h1
end
end Go.Proofs.YtbiffaciinppiaaGreatDoor
end

section
namespace Go.Proofs.YtbiffaciinppiaaGreatDoor
open Go.RowKit Go.Maps
attribute [local go_sem] fld_x fld_y

theorem EInt : ElemOk Tryz.prog 74 3 1 8 := ⟨Tryz.underlying74, ⟨_, info_int, rfl⟩, by omega, by omega⟩
def encI (i : Nat) : List Value := [.int .i64 i]
/-- A place lies in the triangle of a number. -/
def insAt (pts : List (Rat × Rat)) (tris : List Tri) (p : Rat × Rat) (i : Nat) : Bool := match tris[i]? with
  | some t => insB (cor pts t.1) (cor pts t.2.1) (cor pts t.2.2) p
  | none => false
theorem insAt_lt {pts : List (Rat × Rat)} {tris : List Tri} {p : Rat × Rat} {i : Nat} (h : i < tris.length) : insAt pts tris p i = insB (cor pts tris[i].1) (cor pts tris[i].2.1) (cor pts tris[i].2.2) p := by
  unfold insAt; rw [List.getElem?_eq_getElem h]
/-- The numbers of the triangles that have a place. -/
def locd (pts : List (Rat × Rat)) (tris : List Tri) (p : Rat × Rat) (k : Nat) : List Nat := (List.range k).filter (insAt pts tris p)
theorem locd_succ (pts : List (Rat × Rat)) (tris : List Tri) (p : Rat × Rat) (k : Nat) : locd pts tris p (k + 1) = if insAt pts tris p k then locd pts tris p k ++ [k] else locd pts tris p k := by
  unfold locd
  rw [List.range_succ, List.filter_append]
  by_cases h : insAt pts tris p k <;> simp [h]
theorem locd_len (pts : List (Rat × Rat)) (tris : List Tri) (p : Rat × Rat) (k : Nat) : (locd pts tris p k).length ≤ k := by
  unfold locd
  have := List.length_filter_le (insAt pts tris p) (List.range k)
  simpa using this
/-- The corners of a right mesh lie on its grid. -/
theorem MeshOk.cgp {N D : Nat} {pts : List (Rat × Rat)} {tris : List Tri} {cyc : List Int} (h : MeshOk N D pts tris cyc) {t : Tri} (ht : t ∈ tris) : GP N D (cor pts t.1) ∧ GP N D (cor pts t.2.1) ∧ GP N D (cor pts t.2.2) := by
  have key : ∀ k ∈ triIdx t, GP N D (cor pts k) := fun k hk => by
    obtain ⟨h0, h1⟩ := h.ix t ht k hk
    obtain ⟨A, hA, rfl, e⟩ := cor_nat h0 h1
    rw [e]; exact h.gp _ (List.getElem_mem _)
  exact ⟨key _ (by simp [triIdx]), key _ (by simp [triIdx]), key _ (by simp [triIdx])⟩

def LS (n : Nat) (w : World) (m0 m1 px py : Value) (w' : World) : Prop :=
  w'.cell? ⟨n, 0, none⟩ = some m0 ∧ w'.cell? ⟨n, 1, none⟩ = some m1 ∧ w'.cell? ⟨n + 1, 0, none⟩ = some px ∧ w'.cell? ⟨n + 1, 1, none⟩ = some py ∧ Below w.heap.size w w'
theorem LS.step {n : Nat} {w : World} {m0 m1 px py : Value} {a b : World} (h : LS n w m0 m1 px py a) (hb : Ext a b) : LS n w m0 m1 px py b :=
  ⟨hb.cell h.1, hb.cell h.2.1, hb.cell h.2.2.1, hb.cell h.2.2.2.1, Ext.trans h.2.2.2.2 hb⟩
theorem LS.drew {n : Nat} {w : World} {m0 m1 px py : Value} {a : World} (h : LS n w m0 m1 px py a) : LS n w m0 m1 px py a.drew := ⟨h.1, h.2.1, h.2.2.1, h.2.2.2.1, Ext.drew h.2.2.2.2⟩
theorem LS.bel {n : Nat} {w : World} {m0 m1 px py : Value} {a : World} (h : LS n w m0 m1 px py a) : Ext w a := h.2.2.2.2

/-- A slice of numbers, as a call returns it. -/
def IntsV (L : List Nat) (v : Value) (w : World) : Prop := ∃ a cap, v = .slice a L.length cap ∧ (L ≠ [] → ∃ g, a = some ⟨g, 0, none⟩ ∧ ∀ j (h : j < L.length), w.cell? ⟨g, j, none⟩ = some (.int .i64 L[j]))
theorem IntsV.ext {L : List Nat} {v : Value} {w W : World} (h : IntsV L v w) (hx : Ext w W) : IntsV L v W := by
  obtain ⟨a, cap, h1, h2⟩ := h
  exact ⟨a, cap, h1, fun hne => by obtain ⟨g, h3, h4⟩ := h2 hne; exact ⟨g, h3, fun j hj => hx.cell (h4 j hj)⟩⟩
theorem OwnL.ints {base : Nat} {L : List Nat} {v : Value} {w : World} (h : OwnL encI 3 1 base L v w) : IntsV L v w := by
  obtain ⟨a, cap, rfl, h2⟩ := h.form
  refine ⟨a, cap, rfl, fun hne => ?_⟩
  obtain ⟨g, rfl, _, _⟩ := h2 hne
  refine ⟨g, rfl, fun j hj => ?_⟩
  have := h.cells.2.2 j hj 0 (.int .i64 L[j]) (by omega) rfl
  simpa using this

def LR (pts : List (Rat × Rat)) (tris : List Tri) (p : Rat × Rat) (w W1 : World) (v7 v20 : Value) (wr : World) : Prop :=
  ∃ k : Nat, k ≤ tris.length ∧ v20 = .int .i64 k ∧ OwnL encI 3 1 (w.heap.size + 2) (locd pts tris p k) v7 wr ∧ Below (w.heap.size + 2) W1 wr

def LocEnd (L : List Nat) (w : World) (e : Ending) (w' : World) : Prop := ∃ v, e = .returned (.tuple #[v, .int .i64 0]) ∧ IntsV L v w' ∧ Ext w w'

set_option maxRecDepth 100000 in
set_option maxHeartbeats 2000000 in
theorem locate_ok (N D : Nat) (pts : List (Rat × Rat)) (tris : List Tri) (cyc : List Int) (hM : MeshOk N D pts tris cyc) (p : Rat × Rat) (hp : GP N D p) (pb po pc tb tO tc : Nat) (w : World) (g : Glob w) (hI : MeshIn w pb po tb tO pts tris) :
    Calls Tryz.prog 46 #[mV pb po pc tb tO tc pts tris, ptV p] w (LocEnd (locd pts tris p tris.length) w) := by
  have HC := Lib.hid (fun W (X : Ext w W) => check_ok N D pts tris cyc hM pb po pc tb tO tc W (g.ext X) (hI.ext X))
  have hf := hM.fine.n
  have HP := Lib.hid (fun W (X : Ext w W) => checkPoint_ok p W (g.ext X) (hp.1.dg (by omega) hf.2) (hp.2.dg (by omega) hf.2))
  have HR := Lib.hid (fun i (h : i < tris.length) W (X : Ext w W) => corners_ok pts tris pb po pc tb tO tc i W (hI.ext X) h (hM.ix _ (List.getElem_mem h)))
  have HN := Lib.hid (fun i (h : i < tris.length) W (X : Ext w W) => show Calls Tryz.prog 93 _ W _ from inside_ok N D hM.fine _ _ _ p W (g.ext X) (hM.cgp (List.getElem_mem h)).1 (hM.cgp (List.getElem_mem h)).2.1 (hM.cgp (List.getElem_mem h)).2.2 hp)
  have htl := hM.tlen
  have hpl := hM.plen
  clear hM hp hf g hI
  obtain ⟨xP, yP⟩ := p
  unfold mV at *
  simp only [ptV] at *
  go_enter Tryz.func46, Tryz.ntmps46
  go_wp2_with fail
  obtain ⟨W0, hW0⟩ : ∃ W0, W0 = (w.alloc (.cells #[.slice (some ⟨pb, po, none⟩) pts.length pc, .slice (some ⟨tb, tO, none⟩) tris.length tc] 37)).alloc (.cells #[.string (tQ xP), .string (tQ yP)] 91) := ⟨_, rfl⟩
  rw [← hW0]
  have X0 : Ext w W0 := by rw [hW0]; exact ((Ext.refl w).alloc _).alloc _
  have hs0 : W0.heap.size = w.heap.size + 2 := by rw [hW0]; simp
  have k0 : W0.cell? ⟨w.heap.size, 0, none⟩ = some (.slice (some ⟨pb, po, none⟩) pts.length pc) := by rw [hW0]; simp [go_sem]
  have k1 : W0.cell? ⟨w.heap.size, 1, none⟩ = some (.slice (some ⟨tb, tO, none⟩) tris.length tc) := by rw [hW0]; simp [go_sem]
  have k2 : W0.cell? ⟨w.heap.size + 1, 0, none⟩ = some (.string (tQ xP)) := by rw [hW0]; simp [go_sem]
  have k3 : W0.cell? ⟨w.heap.size + 1, 1, none⟩ = some (.string (tQ yP)) := by rw [hW0]; simp [go_sem]
  clear hW0
  refine (HC.out W0 X0).mono ?_
  rintro e W1 ⟨rfl, X1⟩
  have XA := X0.trans X1
  have L1 : LS w.heap.size w (.slice (some ⟨pb, po, none⟩) pts.length pc) (.slice (some ⟨tb, tO, none⟩) tris.length tc) (.string (tQ xP)) (.string (tQ yP)) W1 := ⟨X1.cell k0, X1.cell k1, X1.cell k2, X1.cell k3, XA⟩
  have k0 := L1.1
  have k1 := L1.2.1
  have k2 := L1.2.2.1
  have k3 := L1.2.2.2.1
  go_wp2_with fail
  refine (HP.out W1 XA).mono ?_
  rintro e W2 ⟨rfl, X2⟩
  have L2 := L1.step X2
  have k0 := L2.1
  have k1 := L2.2.1
  have k2 := L2.2.2.1
  have k3 := L2.2.2.2.1
  have hs2 : w.heap.size + 2 ≤ W2.heap.size := by have := X1.size; have := X2.size; omega
  go_wp2_with fail
  go_loopw [7, 20] (LR pts tris (xP, yP) w W2) (fun _ p _ => tris.length - (intOf p).toNat)
  case atStart => exact ⟨0, by omega, rfl, OwnL.nil _, Below.refl _ _⟩
  case round =>
    obtain ⟨k, hk, rfl, hown, hB⟩ := hrel
    have hsz := hB.size
    have k0 : wr.cell? ⟨w.heap.size, 0, none⟩ = some (.slice (some ⟨pb, po, none⟩) pts.length pc) := (hB.cell (p := ⟨w.heap.size, 0, none⟩) (by show w.heap.size < _; omega)).trans k0
    have k1 : wr.cell? ⟨w.heap.size, 1, none⟩ = some (.slice (some ⟨tb, tO, none⟩) tris.length tc) := (hB.cell (p := ⟨w.heap.size, 1, none⟩) (by show w.heap.size < _; omega)).trans k1
    have k2 : wr.cell? ⟨w.heap.size + 1, 0, none⟩ = some (.string (tQ xP)) := (hB.cell (p := ⟨w.heap.size + 1, 0, none⟩) (by show w.heap.size + 1 < _; omega)).trans k2
    have k3 : wr.cell? ⟨w.heap.size + 1, 1, none⟩ = some (.string (tQ yP)) := (hB.cell (p := ⟨w.heap.size + 1, 1, none⟩) (by show w.heap.size + 1 < _; omega)).trans k3
    have XR : Ext w wr := Ext.trans' L2.bel (hB.mono (by omega))
    have hll := locd_len pts tris (xP, yP) k
    by_cases hlt : k < tris.length
    · have HS := Lib.hid (locd_succ pts tris (xP, yP) k)
      rw [insAt_lt hlt] at HS
      have HR1 := Lib.hid (HR.out k hlt)
      have HN1 := Lib.hid (HN.out k hlt)
      have P0 : LS w.heap.size wr (.slice (some ⟨pb, po, none⟩) pts.length pc) (.slice (some ⟨tb, tO, none⟩) tris.length tc) (.string (tQ xP)) (.string (tQ yP)) wr.drew := LS.drew ⟨k0, k1, k2, k3, Ext.refl wr⟩
      generalize locd pts tris (xP, yP) k = L at *
      generalize p3V (cor pts tris[k].1) (cor pts tris[k].2.1) (cor pts tris[k].2.2) = vc at *
      generalize insB (cor pts tris[k].1) (cor pts tris[k].2.1) (cor pts tris[k].2.2) (xP, yP) = ins at *
      clear hk k0 k1 k2 k3
      go_wp2_with fail
      go_region_held3 (fun w' => w'.cell? ⟨w.heap.size, 0, none⟩ = some (.slice (some ⟨pb, po, none⟩) pts.length pc) ∧ w'.cell? ⟨w.heap.size, 1, none⟩ = some (.slice (some ⟨tb, tO, none⟩) tris.length tc) ∧ w'.cell? ⟨w.heap.size + 1, 0, none⟩ = some (.string (tQ xP)) ∧ w'.cell? ⟨w.heap.size + 1, 1, none⟩ = some (.string (tQ yP)) ∧ Below wr.heap.size wr w')
        (first | exact P0 | exact LS.step (by assumption) hb | exact LS.drew (by assumption))
        (first | (go_at_call 94; refine (HR1.out _ (XR.trans (LS.bel (by assumption)))).mono ?_; rintro e w' ⟨rfl, hb⟩) | (go_at_call 93; refine (HN1.out _ (XR.trans (LS.bel (by assumption)))).mono ?_; rintro e w' ⟨rfl, hb⟩))
      have hz : Ext wr w' := LS.bel (by assumption)
      have hown' := hown.below hz
      have hsz' := hz.size
      have hB' : Below (w.heap.size + 2) W2 w' := hB.trans (hz.mono (by omega))
      cases ins with
      | false =>
        go_wp2_with fail
        refine ⟨⟨k + 1, hlt, by go_num, ?_, hB'⟩, by simp only [intOf]; omega⟩
        rw [HS.out]; exact hown'
      | true =>
        have howa := hown'.alloc (.cells #[.int .i64 k] 3)
        have hBa : Below (w.heap.size + 2) W2 (w'.alloc (.cells #[.int .i64 k] 3)) := hB'.alloc (by omega) _
        have HH := Lib.hid (show ∀ q c' W3, OwnL encI 3 1 (w.heap.size + 2) (L ++ [k]) (.slice (some ⟨q, 0, none⟩) (L.length + 1) c') W3 → Below (w.heap.size + 2) W2 W3 → LR pts tris (xP, yP) w W2 (.slice (some ⟨q, 0, none⟩) (L.length + 1) c') (.int .i64 (↑k + 1)) W3 from fun q c' W3 h1 h2 => ⟨k + 1, hlt, by simp, by rw [HS.out]; exact h1, h2⟩)
        clear hown hown' hB hB' P0
        go_wp2_with (at_builtin; go_loud (refine wpList_push _ EInt rfl _ _ rfl (v := u7) rfl howa k ⟨w'.heap.size, 0, none⟩ 1 rfl rfl (by intro u hu; simp only [encI, List.mem_singleton] at hu; rw [hu]; rfl) (cell_one_new _ _ _) (by omega) (by simp; omega) ?_); intro q c' W3 hown3 hX3 hg3; have HB3 := Lib.hid (HH.out q c' W3 hown3 (hX3.out _ _ (Nat.le_refl _) (by omega) hBa)); clear hown3 hX3 hg3)
        exact ⟨HB3.out, by simp only [intOf]; omega⟩
    · have : k = tris.length := by omega
      subst this
      go_wp2_with fail
      go_ret2
      exact ⟨_, rfl, hown.ints, XR⟩

set_option maxRecDepth 100000 in
set_option maxHeartbeats 1000000 in
theorem contains_ok (N D : Nat) (pts : List (Rat × Rat)) (tris : List Tri) (cyc : List Int) (hM : MeshOk N D pts tris cyc) (p : Rat × Rat) (hp : GP N D p) (pb po pc tb tO tc : Nat) (w : World) (g : Glob w) (hI : MeshIn w pb po tb tO pts tris) :
    Calls Tryz.prog 80 #[mV pb po pc tb tO tc pts tris, ptV p] w (Ret (.tuple #[.bool (decide (0 < (locd pts tris p tris.length).length)), .int .i64 0]) w) := by
  have HC := Lib.hid (fun W (X : Ext w W) => locate_ok N D pts tris cyc hM p hp pb po pc tb tO tc W (g.ext X) (hI.ext X))
  have hll := locd_len pts tris p tris.length
  have htl := hM.tlen
  clear hM hp g hI
  generalize locd pts tris p tris.length = L at *
  obtain ⟨xP, yP⟩ := p
  unfold mV at *
  simp only [ptV] at *
  go_enter Tryz.func80, Tryz.ntmps80
  go_wp2_with fail
  refine (HC.out _ (((Ext.refl w).alloc _).alloc _)).mono ?_
  rintro e W1 ⟨v, rfl, ⟨a, cap, rfl, h2⟩, X1⟩
  have XA := (((Ext.refl w).alloc (.cells #[.slice (some ⟨pb, po, none⟩) pts.length pc, .slice (some ⟨tb, tO, none⟩) tris.length tc] 37)).alloc (.cells #[.string (tQ xP), .string (tQ yP)] 91)).trans X1
  clear h2
  by_cases hL : 0 < L.length
  · have hd : decide ((L.length : Int) > 0) = true := decide_eq_true (by omega)
    have HD := Lib.hid (show decide (0 < L.length) = true from decide_eq_true hL)
    go_wp2_with fail
    go_ret2
    rw [HD.out]
    exact ⟨rfl, XA⟩
  · have hd : decide ((L.length : Int) > 0) = false := decide_eq_false (by omega)
    have HD := Lib.hid (show decide (0 < L.length) = false from decide_eq_false hL)
    go_wp2_with fail
    go_ret2
    rw [HD.out]
    exact ⟨rfl, XA⟩
end Go.Proofs.YtbiffaciinppiaaGreatDoor
end

section
namespace Go.Proofs.YtbiffaciinppiaaGreatDoor
open Go.RowKit Go.Maps
attribute [local go_sem] fld_x fld_y

set_option maxRecDepth 100000 in
theorem checkTri_ok (N D : Nat) (pts : List (Rat × Rat)) (tris : List Tri) (cyc : List Int) (hM : MeshOk N D pts tris cyc) (pb po pc tb tO tc : Nat) (i : Nat) (hi : i < tris.length) (w : World) (g : Glob w) (hI : MeshIn w pb po tb tO pts tris) :
    Calls Tryz.prog 188 #[mV pb po pc tb tO tc pts tris, .int .i64 i] w (Ret (.int .i64 0) w) := by
  have HC := Lib.hid (fun W (X : Ext w W) => check_ok N D pts tris cyc hM pb po pc tb tO tc W (g.ext X) (hI.ext X))
  have htl := hM.tlen
  have i1 : (i : Int) < tris.length := by omega
  clear hM hI g
  unfold mV at *
  go_enter Tryz.func188, Tryz.ntmps188
  go_wp2_with fail
  refine (HC.out _ ((Ext.refl w).alloc _)).mono ?_
  rintro e W1 ⟨rfl, X1⟩
  have k1 : W1.cell? ⟨w.heap.size, 1, none⟩ = some (.slice (some ⟨tb, tO, none⟩) tris.length tc) := X1.cell (by simp [go_sem])
  go_wp2_with fail
  go_ret
  exact ⟨rfl, ((Ext.refl w).alloc _).trans X1⟩

theorem right_ok (q : Rat) (w : World) (g : Glob w) (hq : Dg 9 q) : Calls Tryz.prog 189 #[.string (tQ q)] w (Ret (.tuple #[.string (tQ q), .int .i64 0]) w) := by
  have HC := Lib.hid (rCheck q w g hq)
  clear hq
  go_enter Tryz.func189, Tryz.ntmps189
  go_wp2_with fail
  refine HC.out.mono ?_
  rintro e W1 ⟨rfl, X1⟩
  go_wp2_with fail
  go_ret2
  exact ⟨rfl, X1⟩

theorem Gr.div_dg {M E k : Nat} {a b : Rat} (ha : Gr M E a) (hb : Gr M E b) (h0 : b ≠ 0) (hM : M < 10 ^ k) : Dg k (a / b) := by
  obtain ⟨hE, x, hx, hx2⟩ := ha
  obtain ⟨_, y, hy, hy2⟩ := hb
  have hE0 : (E : Rat) ≠ 0 := by exact_mod_cast (by omega : E ≠ 0)
  have hy0 : y ≠ 0 := by
    rintro rfl
    apply h0
    have : b * (E : Rat) = 0 := by rw [hy]; rfl
    rcases Rat.mul_eq_zero.1 this with h | h
    · exact h
    · exact absurd h hE0
  have hyr : (y : Rat) ≠ 0 := by exact_mod_cast hy0
  have hab : a / b = (x : Rat) / (y : Rat) := by
    rw [← hx, ← hy]
    have hb0 := h0
    grind
  have hg : Gr M y.natAbs (a / b) := by
    refine ⟨by omega, if 0 ≤ y then x else -x, ?_, by split <;> omega⟩
    rw [hab]
    by_cases hp : 0 ≤ y
    · rw [if_pos hp]
      have : ((y.natAbs : Nat) : Rat) = (y : Rat) := by
        have e : ((y.natAbs : Nat) : Int) = y := by omega
        exact_mod_cast congrArg (Int.cast : Int → Rat) e
      rw [this]; grind
    · rw [if_neg hp]
      have : ((y.natAbs : Nat) : Rat) = -(y : Rat) := by
        have e : ((y.natAbs : Nat) : Int) = -y := by omega
        have := congrArg (Int.cast : Int → Rat) e
        rw [Rat.intCast_neg] at this
        exact_mod_cast this
      rw [this, Rat.intCast_neg]; grind
  exact hg.dg hM (by omega)

/-- The share of a corner of a triangle in a place. -/
def shr (a b c p : Rat × Rat) (k : Nat) : Rat := match k with
  | 0 => arQ p b c / arQ a b c
  | 1 => arQ p c a / arQ a b c
  | _ => arQ p a b / arQ a b c
end Go.Proofs.YtbiffaciinppiaaGreatDoor
end
