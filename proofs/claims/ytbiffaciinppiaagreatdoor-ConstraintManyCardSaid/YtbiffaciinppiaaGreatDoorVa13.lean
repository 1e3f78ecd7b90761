/- field.on. field.Value and field.Slope at a right mesh. Observations in memory; fieldbook.Shape. fieldbook.over. -/
import Derived.Test.YtbiffaciinppiaaGreatDoorVa12
import Derived.Test.YtbiffaciinppiaaGreatDoorVa05
set_option linter.unusedVariables false
set_option linter.unusedSimpArgs false
section
namespace Go.Proofs.YtbiffaciinppiaaGreatDoor
open Go.RowKit
attribute [local go_sem] fld_x fld_y
attribute [local irreducible] tQ

def onQ (a p : Rat × Rat) (z sx sy : Rat) : Rat := z + sx * (p.1 - a.1) + sy * (p.2 - a.2)
structure OnOk (a p : Rat × Rat) (z sx sy : Rat) : Prop where
  a1 : Dg 9 a.1
  a2 : Dg 9 a.2
  p1 : Dg 9 p.1
  p2 : Dg 9 p.2
  z0 : Dg 9 z
  s1 : Dg 9 sx
  s2 : Dg 9 sy
  t1 : Dg 9 (p.1 - a.1)
  t2 : Dg 9 (p.2 - a.2)
  u1 : Dg 9 (sx * (p.1 - a.1))
  u2 : Dg 9 (sy * (p.2 - a.2))
  v : Dg 9 (z + sx * (p.1 - a.1))
  r : Dg 9 (onQ a p z sx sy)

def OS (fb oA N9 np N11 : Nat) (w0 : World) (vf s0 s1 p0 p1 o0 o1 : Value) (w' : World) : Prop :=
  w'.cell? ⟨fb, oA, none⟩ = some vf ∧ w'.cell? ⟨N9, 0, none⟩ = some s0 ∧ w'.cell? ⟨N9, 1, none⟩ = some s1 ∧ w'.cell? ⟨np, 0, none⟩ = some p0 ∧ w'.cell? ⟨np, 1, none⟩ = some p1 ∧ w'.cell? ⟨N11, 0, none⟩ = some o0 ∧ w'.cell? ⟨N11, 1, none⟩ = some o1 ∧ Below w0.heap.size w0 w'
section
variable {fb oA N9 np N11 : Nat} {w0 : World} {vf s0 s1 p0 p1 o0 o1 : Value} {a b : World}
theorem OS.bel (h : OS fb oA N9 np N11 w0 vf s0 s1 p0 p1 o0 o1 a) : Ext w0 a := h.2.2.2.2.2.2.2
theorem OS.step (h : OS fb oA N9 np N11 w0 vf s0 s1 p0 p1 o0 o1 a) (hb : Ext a b) : OS fb oA N9 np N11 w0 vf s0 s1 p0 p1 o0 o1 b := by
  obtain ⟨h0, h1, h2, h3, h4, h5, h6, hB⟩ := h
  exact ⟨hb.cell h0, hb.cell h1, hb.cell h2, hb.cell h3, hb.cell h4, hb.cell h5, hb.cell h6, Ext.trans hB hb⟩
theorem OS.drew (h : OS fb oA N9 np N11 w0 vf s0 s1 p0 p1 o0 o1 a) : OS fb oA N9 np N11 w0 vf s0 s1 p0 p1 o0 o1 a.drew := h.step (Ext.refl a).drew
theorem OS.alloc (h : OS fb oA N9 np N11 w0 vf s0 s1 p0 p1 o0 o1 a) (o : Obj) : OS fb oA N9 np N11 w0 vf s0 s1 p0 p1 o0 o1 (a.alloc o) := h.step ((Ext.refl a).alloc o)
end

set_option maxRecDepth 100000 in
set_option maxHeartbeats 4000000 in
theorem on_ok (pts : List (Rat × Rat)) (tris : List Tri) (f : List Rat) (pb po pc tb tO tc fb fo fc : Nat) (i : Nat) (w : World) (g : Glob w) (hI : MeshIn w pb po tb tO pts tris) (hf : FldIn w fb fo f) (hn : f.length = pts.length) (hi : i < tris.length) (hx : ∀ k ∈ triIdx tris[i], 0 ≤ k ∧ k < pts.length)
    (a b c : Rat × Rat) (ha : a = cor pts tris[i].1) (hb : b = cor pts tris[i].2.1) (hc : c = cor pts tris[i].2.2) (x y z : Rat) (hx0 : x = vl f tris[i].1) (hy0 : y = vl f tris[i].2.1) (hz0 : z = vl f tris[i].2.2) (hS : SlOk a b c x y z)
    (p : Rat × Rat) (hO : OnOk a p x (slX a b c x y z) (slY a b c x y z)) :
    Calls Tryz.prog 125 #[mV pb po pc tb tO tc pts tris, .slice (some ⟨fb, fo, none⟩) pts.length fc, .int .i64 i, ptV p] w (Ret (.string (tQ (onQ a p x (slX a b c x y z) (slY a b c x y z)))) w) := by
  have HS := Lib.hid (fun W (X : Ext w W) => slope_ok pts tris f pb po pc tb tO tc fb fo fc i W (g.ext X) (hI.ext X) (hf.ext X) hn hi hx a b c ha hb hc x y z hx0 hy0 hz0 hS)
  obtain ⟨d0, d1, d2⟩ := hI.t i hi
  have q1 := hx tris[i].1 (by simp [triIdx])
  obtain ⟨A, rA, hA, hA2⟩ := cor_nat q1.1 q1.2
  have sA : A < f.length := by omega
  rw [hA] at d0
  have eA := hI.p A rA
  rw [← hA2, ← ha] at eA
  have fA := hf A sA
  rw [← vl_nat sA, ← hA, ← hx0] at fA
  have i0 : (i : Int) < tris.length := by omega
  have i1 : (A : Int) < pts.length := by omega
  clear hS hI hf hx q1 hA hA2 ha hb hc hx0 hy0 hz0 d1 d2 sA
  generalize slX a b c x y z = sx at *
  generalize slY a b c x y z = sy at *
  have T1 := Lib.hid (fun W (X : Ext w W) => rSub p.1 a.1 W (g.ext X) hO.p1 hO.a1)
  have T2 := Lib.hid (fun W (X : Ext w W) => rSub p.2 a.2 W (g.ext X) hO.p2 hO.a2)
  have U1 := Lib.hid (fun W (X : Ext w W) => rMul sx (p.1 - a.1) W (g.ext X) hO.s1 hO.t1)
  have U2 := Lib.hid (fun W (X : Ext w W) => rMul sy (p.2 - a.2) W (g.ext X) hO.s2 hO.t2)
  have V := Lib.hid (fun sb W (X : Ext w W) h0 h1 h2 => show Calls Tryz.prog 174 #[.slice (some ⟨sb, 0, none⟩) 3 3] W (Ret (.string (tQ (onQ a p x sx sy))) W) from sum3_ok x (sx * (p.1 - a.1)) (sy * (p.2 - a.2)) sb 3 W (g.ext X) h0 h1 h2 hO.z0 hO.u1 hO.u2 hO.v)
  generalize onQ a p x sx sy = rr at *
  clear hO g
  obtain ⟨xA, yA⟩ := a
  obtain ⟨xP, yP⟩ := p
  simp only at T1 T2 U1 U2 V eA
  obtain ⟨eA1, eA2⟩ := eA
  generalize xP - xA = tx at *
  generalize yP - yA = ty at *
  generalize sx * tx = ux at *
  generalize sy * ty = uy at *
  unfold mV at *
  simp only [ptV] at *
  go_enter Tryz.func125, Tryz.ntmps125
  go_wp2_with fail
  obtain ⟨W0, hW0⟩ : ∃ W0, W0 = (w.alloc (.cells #[.slice (some ⟨pb, po, none⟩) pts.length pc, .slice (some ⟨tb, tO, none⟩) tris.length tc] 37)).alloc (.cells #[.string (tQ xP), .string (tQ yP)] 91) := ⟨_, rfl⟩
  rw [← hW0]
  have X0 : Ext w W0 := by rw [hW0]; exact ((Ext.refl w).alloc _).alloc _
  have m0 : Two w.heap.size (.slice (some ⟨pb, po, none⟩) pts.length pc) (.slice (some ⟨tb, tO, none⟩) tris.length tc) W0 := by rw [hW0]; constructor <;> simp [go_sem]
  have p0 : Two (w.heap.size + 1) (.string (tQ xP)) (.string (tQ yP)) W0 := by rw [hW0]; constructor <;> simp [go_sem]
  clear hW0
  refine (HS.out W0 X0).mono ?_
  rintro e w1 ⟨rfl, X1⟩
  have XA := X0.trans X1
  obtain ⟨m1, m2⟩ := m0.ext X1
  obtain ⟨p1, p2⟩ := p0.ext X1
  have h0 := XA.cell d0
  have h1 := XA.cell eA1
  have h2 := XA.cell eA2
  have h3 := XA.cell fA
  have l1 : w.heap.size + 1 < w1.heap.size := World.block_lt_of_cell? w1 _ p1
  have l0 : w.heap.size < w1.heap.size := by omega
  have l2 : tb < w1.heap.size := World.block_lt_of_cell? w1 _ h0
  have l3 : pb < w1.heap.size := World.block_lt_of_cell? w1 _ h1
  clear m0 p0 d0 eA1 eA2 fA X0 X1
  go_wp2_with fail
  obtain ⟨w3, hw3⟩ : ∃ w3, w3 = (w1.alloc (.cells #[.string (tQ sx), .string (tQ sy)] 91)).alloc (.cells #[.string (tQ xA), .string (tQ yA)] 91) := ⟨_, rfl⟩
  rw [← hw3]
  have X : Ext w1 w3 := by rw [hw3]; exact ((Ext.refl w1).alloc _).alloc _
  have XA := XA.trans X
  have P0 : OS fb (fo + A) w1.heap.size (w.heap.size + 1) (w1.heap.size + 1) w3 (.string (tQ x)) (.string (tQ sx)) (.string (tQ sy)) (.string (tQ xP)) (.string (tQ yP)) (.string (tQ xA)) (.string (tQ yA)) w3.drew := by
    refine OS.drew ⟨X.cell h3, ?_, ?_, X.cell p1, X.cell p2, ?_, ?_, Ext.refl w3⟩ <;> rw [hw3] <;> simp [go_sem]
  generalize w1.heap.size = N9 at *
  clear hw3 X l0 l1 l2 l3 h0 h1 h2 h3 m1 m2 p1 p2
  have k1 : (0 : Int) ≤ A := by omega
  go_region_held3 (fun w' => w'.cell? ⟨fb, fo + A, none⟩ = some (.string (tQ x)) ∧ w'.cell? ⟨N9, 0, none⟩ = some (.string (tQ sx)) ∧ w'.cell? ⟨N9, 1, none⟩ = some (.string (tQ sy)) ∧ w'.cell? ⟨w.heap.size + 1, 0, none⟩ = some (.string (tQ xP)) ∧ w'.cell? ⟨w.heap.size + 1, 1, none⟩ = some (.string (tQ yP)) ∧ w'.cell? ⟨N9 + 1, 0, none⟩ = some (.string (tQ xA)) ∧ w'.cell? ⟨N9 + 1, 1, none⟩ = some (.string (tQ yA)) ∧ Below w3.heap.size w3 w')
    (first | exact P0 | exact OS.step (by assumption) hb | exact OS.drew (by assumption) | exact OS.alloc (by assumption) _)
    (first | (go_at_call 146; (with_reducible refine (T1.out _ ?hx).mono ?_); (case hx => exact XA.trans (OS.bel (by assumption))); rintro e w' ⟨rfl, hb⟩) | (go_at_call 146; (with_reducible refine (T2.out _ ?hx).mono ?_); (case hx => exact XA.trans (OS.bel (by assumption))); rintro e w' ⟨rfl, hb⟩) | (go_at_call 115; (with_reducible refine (U1.out _ ?hx).mono ?_); (case hx => exact XA.trans (OS.bel (by assumption))); rintro e w' ⟨rfl, hb⟩) | (go_at_call 115; (with_reducible refine (U2.out _ ?hx).mono ?_); (case hx => exact XA.trans (OS.bel (by assumption))); rintro e w' ⟨rfl, hb⟩) | (go_at_call 174; refine (V.out _ _ (XA.trans (OS.bel (by assumption))) (by simp [go_sem]) (by simp [go_sem]) (by simp [go_sem])).mono ?_; rintro e w' ⟨rfl, hb⟩))
  go_wp2_with fail
  go_ret
  have Q : OS fb (fo + A) N9 (w.heap.size + 1) (N9 + 1) w3 (.string (tQ x)) (.string (tQ sx)) (.string (tQ sy)) (.string (tQ xP)) (.string (tQ yP)) (.string (tQ xA)) (.string (tQ yA)) w' := by assumption
  exact ⟨rfl, XA.trans (OS.bel Q)⟩
end Go.Proofs.YtbiffaciinppiaaGreatDoor
end

section
namespace Go.Proofs.YtbiffaciinppiaaGreatDoor
open Go.RowKit
attribute [local go_sem] fld_x fld_y
attribute [local irreducible] tQ

def VS (n bl : Nat) (w : World) (m0 m1 px py l0 : Value) (w' : World) : Prop :=
  w'.cell? ⟨n, 0, none⟩ = some m0 ∧ w'.cell? ⟨n, 1, none⟩ = some m1 ∧ w'.cell? ⟨n + 1, 0, none⟩ = some px ∧ w'.cell? ⟨n + 1, 1, none⟩ = some py ∧ w'.cell? ⟨bl, 0, none⟩ = some l0 ∧ Below w.heap.size w w'
theorem VS.step {n bl : Nat} {w : World} {m0 m1 px py l0 : Value} {a b : World} (h : VS n bl w m0 m1 px py l0 a) (hb : Ext a b) : VS n bl w m0 m1 px py l0 b :=
  ⟨hb.cell h.1, hb.cell h.2.1, hb.cell h.2.2.1, hb.cell h.2.2.2.1, hb.cell h.2.2.2.2.1, Ext.trans h.2.2.2.2.2 hb⟩
theorem VS.drew {n bl : Nat} {w : World} {m0 m1 px py l0 : Value} {a : World} (h : VS n bl w m0 m1 px py l0 a) : VS n bl w m0 m1 px py l0 a.drew := h.step (Ext.refl a).drew
theorem VS.bel {n bl : Nat} {w : World} {m0 m1 px py l0 : Value} {a : World} (h : VS n bl w m0 m1 px py l0 a) : Ext w a := h.2.2.2.2.2

set_option maxRecDepth 100000 in
set_option maxHeartbeats 2000000 in
theorem value_ok (N D : Nat) (pts : List (Rat × Rat)) (tris : List Tri) (cyc : List Int) (hM : MeshOk N D pts tris cyc) (f : List Rat) (pb po pc tb tO tc fb fo fc : Nat) (w : World) (g : Glob w) (hI : MeshIn w pb po tb tO pts tris) (hf : FldIn w fb fo f) (hn : f.length = pts.length) (hd : ∀ q ∈ f, Dg 9 q)
    (p : Rat × Rat) (hp : GP N D p) (i : Nat) (L : List Nat) (hL : locd pts tris p tris.length = i :: L) (hi : i < tris.length)
    (a b c : Rat × Rat) (ha : a = cor pts tris[i].1) (hb : b = cor pts tris[i].2.1) (hc : c = cor pts tris[i].2.2) (x y z : Rat) (hx0 : x = vl f tris[i].1) (hy0 : y = vl f tris[i].2.1) (hz0 : z = vl f tris[i].2.2) (hS : SlOk a b c x y z)
    (hO : OnOk a p x (slX a b c x y z) (slY a b c x y z)) :
    Calls Tryz.prog 70 #[mV pb po pc tb tO tc pts tris, .slice (some ⟨fb, fo, none⟩) pts.length fc, ptV p] w (Ret (.tuple #[.string (tQ (onQ a p x (slX a b c x y z) (slY a b c x y z))), .int .i64 0]) w) := by
  have HC := Lib.hid (fun vb W (X : Ext w W) (hv : W.cell? ⟨vb, 0, none⟩ = some (.slice (some ⟨fb, fo, none⟩) pts.length fc)) => checks_ok N D pts tris cyc hM pb po pc tb tO tc f vb 1 fb fo fc W (g.ext X) (hI.ext X) hv (hf.ext X) hn hd)
  have HLo := Lib.hid (fun W (X : Ext w W) => hL ▸ locate_ok N D pts tris cyc hM p hp pb po pc tb tO tc W (g.ext X) (hI.ext X))
  have HO := Lib.hid (fun W (X : Ext w W) => on_ok pts tris f pb po pc tb tO tc fb fo fc i W (g.ext X) (hI.ext X) (hf.ext X) hn hi (hM.ix _ (List.getElem_mem hi)) a b c ha hb hc x y z hx0 hy0 hz0 hS p hO)
  have HN := Lib.hid (fun W (X : Ext w W) => number_ok _ W (g.ext X) hO.r)
  generalize onQ a p x (slX a b c x y z) (slY a b c x y z) = rr at *
  have hll : L.length + 1 ≤ 800 := by
    have h1 := locd_len pts tris p tris.length
    rw [hL] at h1
    have := hM.tlen
    simp at h1; omega
  clear hM g hI hf hn hd hp hL hi ha hb hc hx0 hy0 hz0 hS hO
  obtain ⟨xP, yP⟩ := p
  unfold mV at *
  simp only [ptV] at *
  go_enter Tryz.func70, Tryz.ntmps70
  go_wp2_with fail
  obtain ⟨W0, hW0⟩ : ∃ W0, W0 = ((w.alloc (.cells #[.slice (some ⟨pb, po, none⟩) pts.length pc, .slice (some ⟨tb, tO, none⟩) tris.length tc] 37)).alloc (.cells #[.string (tQ xP), .string (tQ yP)] 91)).alloc (.cells #[.slice (some ⟨fb, fo, none⟩) pts.length fc] 39) := ⟨_, rfl⟩
  rw [← hW0]
  have X0 : Ext w W0 := by rw [hW0]; exact (((Ext.refl w).alloc _).alloc _).alloc _
  have k0 : W0.cell? ⟨w.heap.size, 0, none⟩ = some (.slice (some ⟨pb, po, none⟩) pts.length pc) := by rw [hW0]; simp [go_sem]
  have k1 : W0.cell? ⟨w.heap.size, 1, none⟩ = some (.slice (some ⟨tb, tO, none⟩) tris.length tc) := by rw [hW0]; simp [go_sem]
  have k2 : W0.cell? ⟨w.heap.size + 1, 0, none⟩ = some (.string (tQ xP)) := by rw [hW0]; simp [go_sem]
  have k3 : W0.cell? ⟨w.heap.size + 1, 1, none⟩ = some (.string (tQ yP)) := by rw [hW0]; simp [go_sem]
  have k4 : W0.cell? ⟨w.heap.size + 1 + 1, 0, none⟩ = some (.slice (some ⟨fb, fo, none⟩) pts.length fc) := by rw [hW0]; simp [go_sem]
  clear hW0
  refine (HC.out _ W0 X0 k4).mono ?_
  rintro e w1 ⟨rfl, X1⟩
  have X01 := X0.trans X1
  have k0 := X1.cell k0
  have k1 := X1.cell k1
  have k2 := X1.cell k2
  have k3 := X1.cell k3
  go_wp2_with fail
  refine (HLo.out w1 X01).mono ?_
  rintro e w2 ⟨v, rfl, ⟨al, cap, rfl, h2⟩, X2⟩
  obtain ⟨gl, rfl, h3⟩ := h2 (by simp)
  have k4 := h3 0 (by simp)
  simp only [List.getElem_cons_zero] at k4
  have X02 := X01.trans X2
  have k0 := X2.cell k0
  have k1 := X2.cell k1
  have k2 := X2.cell k2
  have k3 := X2.cell k3
  have P0 : VS w.heap.size gl w2 (.slice (some ⟨pb, po, none⟩) pts.length pc) (.slice (some ⟨tb, tO, none⟩) tris.length tc) (.string (tQ xP)) (.string (tQ yP)) (.int .i64 i) w2.drew := VS.drew ⟨k0, k1, k2, k3, k4, Ext.refl w2⟩
  rw [List.length_cons]
  obtain ⟨nl, hnl⟩ : ∃ nl, nl = L.length + 1 := ⟨_, rfl⟩
  have hz : ((nl : Int) == 0) = false := beq_false_of_ne (by omega)
  have hz1 : (0 : Int) < nl := by omega
  have hz2 : 0 < nl := by omega
  rw [← hnl]
  clear h2 h3 hnl hll k0 k1 k2 k3 k4
  go_wp2_with fail
  go_region_held3 (fun w' => w'.cell? ⟨w.heap.size, 0, none⟩ = some (.slice (some ⟨pb, po, none⟩) pts.length pc) ∧ w'.cell? ⟨w.heap.size, 1, none⟩ = some (.slice (some ⟨tb, tO, none⟩) tris.length tc) ∧ w'.cell? ⟨w.heap.size + 1, 0, none⟩ = some (.string (tQ xP)) ∧ w'.cell? ⟨w.heap.size + 1, 1, none⟩ = some (.string (tQ yP)) ∧ w'.cell? ⟨gl, 0, none⟩ = some (.int .i64 i) ∧ Below w2.heap.size w2 w')
    (first | exact P0 | exact VS.step (by assumption) hb | exact VS.drew (by assumption))
    (first | (go_at_call 125; (with_reducible refine (HO.out _ ?hx).mono ?_); (case hx => exact X02.trans (VS.bel (by assumption))); rintro e w' ⟨rfl, hb⟩) | (go_at_call 124; (with_reducible refine (HN.out _ ?hx).mono ?_); (case hx => exact X02.trans (VS.bel (by assumption))); rintro e w' ⟨rfl, hb⟩))
  have Q : VS w.heap.size gl w2 (.slice (some ⟨pb, po, none⟩) pts.length pc) (.slice (some ⟨tb, tO, none⟩) tris.length tc) (.string (tQ xP)) (.string (tQ yP)) (.int .i64 i) w' := by assumption
  go_wp2_with fail
  go_ret2
  exact ⟨rfl, X02.trans (VS.bel Q)⟩

set_option maxRecDepth 100000 in
set_option maxHeartbeats 2000000 in
theorem fslope_ok (N D : Nat) (pts : List (Rat × Rat)) (tris : List Tri) (cyc : List Int) (hM : MeshOk N D pts tris cyc) (f : List Rat) (pb po pc tb tO tc fb fo fc : Nat) (w : World) (g : Glob w) (hI : MeshIn w pb po tb tO pts tris) (hf : FldIn w fb fo f) (hn : f.length = pts.length) (hd : ∀ q ∈ f, Dg 9 q)
    (i : Nat) (hi : i < tris.length)
    (a b c : Rat × Rat) (ha : a = cor pts tris[i].1) (hb : b = cor pts tris[i].2.1) (hc : c = cor pts tris[i].2.2) (x y z : Rat) (hx0 : x = vl f tris[i].1) (hy0 : y = vl f tris[i].2.1) (hz0 : z = vl f tris[i].2.2) (hS : SlOk a b c x y z)
    (h1 : Dg 9 (slX a b c x y z)) (h2 : Dg 9 (slY a b c x y z)) :
    Calls Tryz.prog 71 #[mV pb po pc tb tO tc pts tris, .slice (some ⟨fb, fo, none⟩) pts.length fc, .int .i64 i] w (Ret (.tuple #[.agg #[.string (tQ (slX a b c x y z)), .string (tQ (slY a b c x y z))], .int .i64 0]) w) := by
  have HC := Lib.hid (fun vb W (X : Ext w W) (hv : W.cell? ⟨vb, 0, none⟩ = some (.slice (some ⟨fb, fo, none⟩) pts.length fc)) => checks_ok N D pts tris cyc hM pb po pc tb tO tc f vb 1 fb fo fc W (g.ext X) (hI.ext X) hv (hf.ext X) hn hd)
  have HO := Lib.hid (fun W (X : Ext w W) => slope_ok pts tris f pb po pc tb tO tc fb fo fc i W (g.ext X) (hI.ext X) (hf.ext X) hn hi (hM.ix _ (List.getElem_mem hi)) a b c ha hb hc x y z hx0 hy0 hz0 hS)
  have HP := Lib.hid (fun W (X : Ext w W) => checkPoint_ok (slX a b c x y z, slY a b c x y z) W (g.ext X) h1 h2)
  generalize slX a b c x y z = sx at *
  generalize slY a b c x y z = sy at *
  have i0 : (i : Int) < tris.length := by omega
  clear hM g hI hf hn hd hi ha hb hc hx0 hy0 hz0 hS h1 h2
  unfold mV at *
  simp only [ptV] at *
  go_enter Tryz.func71, Tryz.ntmps71
  go_wp2_with fail
  obtain ⟨W0, hW0⟩ : ∃ W0, W0 = ((w.alloc (.cells #[.slice (some ⟨pb, po, none⟩) pts.length pc, .slice (some ⟨tb, tO, none⟩) tris.length tc] 37)).alloc (.cells #[.string ⟨#[]⟩, .string ⟨#[]⟩] 91)).alloc (.cells #[.slice (some ⟨fb, fo, none⟩) pts.length fc] 39) := ⟨_, rfl⟩
  rw [← hW0]
  have X0 : Ext w W0 := by rw [hW0]; exact (((Ext.refl w).alloc _).alloc _).alloc _
  have m0 : Two w.heap.size (.slice (some ⟨pb, po, none⟩) pts.length pc) (.slice (some ⟨tb, tO, none⟩) tris.length tc) W0 := by rw [hW0]; constructor <;> simp [go_sem]
  have cR : Cells (w.heap.size + 1) [.string ⟨#[]⟩, .string ⟨#[]⟩] W0 := by
    rw [hW0]
    intro j hj
    have hj9 : j < 2 := by simpa using hj
    rcases (show j = 0 ∨ j = 1 by omega) with rfl | rfl <;> constructor <;> simp [go_sem]
  have k4 : W0.cell? ⟨w.heap.size + 1 + 1, 0, none⟩ = some (.slice (some ⟨fb, fo, none⟩) pts.length fc) := by rw [hW0]; simp [go_sem]
  clear hW0
  refine (HC.out _ W0 X0 k4).mono ?_
  rintro e w1 ⟨rfl, X1⟩
  have X01 := X0.trans X1
  have cR1 := cR.ext X1
  obtain ⟨m1, m2⟩ := m0.ext X1
  go_wp2_with fail
  refine (HO.out w1 X01).mono ?_
  rintro e w2 ⟨rfl, X2⟩
  have X02 := X01.trans X2
  have cR2 := cR1.ext X2
  go_wp2_with fail
  have XA := (Ext.refl w2).alloc (.cells #[.string (tQ sx), .string (tQ sy)] 91)
  have cR3 := cR2.ext XA
  refine (HP.out _ (X02.trans XA)).mono ?_
  rintro e w3 ⟨rfl, X3⟩
  have X03 := (X02.trans XA).trans X3
  have n0 : w3.cell? ⟨w2.heap.size, 0, none⟩ = some (.string (tQ sx)) := X3.cell (by simp [go_sem])
  have n1 : w3.cell? ⟨w2.heap.size, 1, none⟩ = some (.string (tQ sy)) := X3.cell (by simp [go_sem])
  have cRA := cR3.ext X3
  have hq : Cells (w.heap.size + 1) [.string (tQ sx), .string (tQ sy)] ((w3.setCell ⟨w.heap.size + 1, 0, none⟩ (.string (tQ sx))).setCell ⟨w.heap.size + 1, 1, none⟩ (.string (tQ sy))) := by simpa using ((cRA.put 0 (by simp) (.string (tQ sx))).put 1 (by simp) (.string (tQ sy)))
  have hBq : Ext w ((w3.setCell ⟨w.heap.size + 1, 0, none⟩ (.string (tQ sx))).setCell ⟨w.heap.size + 1, 1, none⟩ (.string (tQ sy))) := (X03.setCell (by show w.heap.size ≤ w.heap.size + 1; omega) _).setCell (by show w.heap.size ≤ w.heap.size + 1; omega) _
  obtain ⟨k0, g0⟩ := cRA.at 0 _ rfl
  obtain ⟨k1, g1⟩ := cRA.at 1 _ rfl
  go_wp2_with fail
  generalize (w3.setCell ⟨w.heap.size + 1, 0, none⟩ (.string (tQ sx))).setCell ⟨w.heap.size + 1, 1, none⟩ (.string (tQ sy)) = Wq at *
  have r0 := (hq.at 0 _ rfl).1
  have r1 := (hq.at 1 _ rfl).1
  refine bodyPost_ret (v := .tuple #[.agg #[.string (tQ sx), .string (tQ sy)], .int .i64 0]) ?_ rfl ⟨rfl, hBq⟩
  simp [results, Tryz.results71, go_sem, r0, r1]
end Go.Proofs.YtbiffaciinppiaaGreatDoor
end

section
namespace Go.Proofs.YtbiffaciinppiaaGreatDoor
open Go.RowKit
attribute [local irreducible] tQ

inductive Kd where
  | outcrop
  | contact (depth : Rat)
  | dip (nx ny nz : Rat)
/-- An observation. -/
structure Ob where
  kd : Kd
  name : ByteArray
  pt : Rat × Rat
  upper : ByteArray
  lower : ByteArray
def e0 : ByteArray := ⟨#[]⟩
def Kd.num : Kd → Int
  | .outcrop => 1
  | .contact _ => 2
  | .dip _ _ _ => 3
def Kd.depth : Kd → ByteArray
  | .contact d => tQ d
  | _ => ⟨#[]⟩
def Kd.n0 : Kd → ByteArray
  | .dip x _ _ => tQ x
  | _ => ⟨#[]⟩
def Kd.n1 : Kd → ByteArray
  | .dip _ y _ => tQ y
  | _ => ⟨#[]⟩
def Kd.n2 : Kd → ByteArray
  | .dip _ _ z => tQ z
  | _ => ⟨#[]⟩
def obL (o : Ob) : List Value := [.int .i64 o.kd.num, .string o.name, .string (tQ o.pt.1), .string (tQ o.pt.2), .string o.kd.depth, .string o.upper, .string o.lower, .string o.kd.n0, .string o.kd.n1, .string o.kd.n2]
def obV (o : Ob) : Value := .agg #[.int .i64 o.kd.num, .string o.name, .string (tQ o.pt.1), .string (tQ o.pt.2), .string o.kd.depth, .string o.upper, .string o.lower, .string o.kd.n0, .string o.kd.n1, .string o.kd.n2]
/-- An observation whose form is right. -/
structure ShOk (o : Ob) : Prop where
  nm : NameOk o.name
  up : NameOk o.upper
  p1 : Dg 9 o.pt.1
  p2 : Dg 9 o.pt.2
  low : match o.kd with
    | .outcrop => o.lower = ⟨#[]⟩
    | .contact d => NameOk o.lower ∧ Dg 9 d
    | .dip x y z => NameOk o.lower ∧ Dg 9 x ∧ Dg 9 y ∧ Dg 9 z

theorem Cells.new (w : World) (vs : List Value) (t : TypeId) : Cells w.heap.size vs (w.alloc (.cells vs.toArray t)) := by
  intro j hj
  constructor <;> simp [go_sem, hj]
theorem ten {b : Nat} {W : World} {v0 v1 v2 v3 v4 v5 v6 v7 v8 v9 : Value} (h : Cells b [v0, v1, v2, v3, v4, v5, v6, v7, v8, v9] W) :
    W.cell? ⟨b, 0, none⟩ = some v0 ∧ W.cell? ⟨b, 1, none⟩ = some v1 ∧ W.cell? ⟨b, 2, none⟩ = some v2 ∧ W.cell? ⟨b, 3, none⟩ = some v3 ∧ W.cell? ⟨b, 4, none⟩ = some v4 ∧ W.cell? ⟨b, 5, none⟩ = some v5 ∧ W.cell? ⟨b, 6, none⟩ = some v6 ∧ W.cell? ⟨b, 7, none⟩ = some v7 ∧ W.cell? ⟨b, 8, none⟩ = some v8 ∧ W.cell? ⟨b, 9, none⟩ = some v9 :=
  ⟨(h.at 0 _ rfl).1, (h.at 1 _ rfl).1, (h.at 2 _ rfl).1, (h.at 3 _ rfl).1, (h.at 4 _ rfl).1, (h.at 5 _ rfl).1, (h.at 6 _ rfl).1, (h.at 7 _ rfl).1, (h.at 8 _ rfl).1, (h.at 9 _ rfl).1⟩

set_option maxRecDepth 100000 in
set_option maxHeartbeats 2000000 in
theorem shape_ok (o : Ob) (w : World) (g : Glob w) (h : ShOk o) : Calls Tryz.prog 134 #[obV o] w (Ret (.int .i64 0) w) := by
  obtain ⟨kd, nm, ⟨x, y⟩, up, low⟩ := o
  have N1 := Lib.hid (fun W => isName_ok nm W h.nm)
  have N2 := Lib.hid (fun W => isName_ok up W h.up)
  have P := Lib.hid (fun W (X : Ext w W) => checkPoint_ok (x, y) W (g.ext X) h.p1 h.p2)
  simp only [ptV] at P
  cases kd with
  | outcrop =>
    have hl : low = ⟨#[]⟩ := h.low
    subst hl
    simp only [obV, Kd.num, Kd.depth, Kd.n0, Kd.n1, Kd.n2]
    clear h g
    go_enter Tryz.func134, Tryz.ntmps134
    go_wp2_with fail
    obtain ⟨W0, hW0⟩ : ∃ W0, W0 = w.alloc (.cells #[.int .i64 1, .string nm, .string (tQ x), .string (tQ y), .string ⟨#[]⟩, .string up, .string ⟨#[]⟩, .string ⟨#[]⟩, .string ⟨#[]⟩, .string ⟨#[]⟩] 95) := ⟨_, rfl⟩
    rw [← hW0]
    have X0 : Ext w W0 := by rw [hW0]; exact (Ext.refl w).alloc _
    have c0 : Cells w.heap.size [.int .i64 1, .string nm, .string (tQ x), .string (tQ y), .string ⟨#[]⟩, .string up, .string ⟨#[]⟩, .string ⟨#[]⟩, .string ⟨#[]⟩, .string ⟨#[]⟩] W0 := by rw [hW0]; exact Cells.new _ _ _
    clear hW0
    refine (N1.out _).mono ?_
    rintro e w1 ⟨rfl, Y1⟩
    have c1 := c0.ext Y1
    have X1 := X0.trans Y1
    obtain ⟨k0, k1, k2, k3, k4, k5, k6, k7, k8, k9⟩ := ten c1
    go_wp2_with fail
    refine (N2.out _).mono ?_
    rintro e w2 ⟨rfl, Y2⟩
    have c2 := c1.ext Y2
    have X2 := X1.trans Y2
    clear k0 k1 k2 k3 k4 k5 k6 k7 k8 k9
    obtain ⟨k0, k1, k2, k3, k4, k5, k6, k7, k8, k9⟩ := ten c2
    go_wp2_with fail
    refine (P.out _ X2).mono ?_
    rintro e w3 ⟨rfl, Y3⟩
    have c3 := c2.ext Y3
    have X3 := X2.trans Y3
    clear k0 k1 k2 k3 k4 k5 k6 k7 k8 k9
    obtain ⟨k0, k1, k2, k3, k4, k5, k6, k7, k8, k9⟩ := ten c3
    go_wp2_with fail
    go_ret
    exact ⟨rfl, X3⟩
  | contact d =>
    obtain ⟨hl, hd⟩ : NameOk low ∧ Dg 9 d := h.low
    have N3 := Lib.hid (fun W => isName_ok low W hl)
    have D := Lib.hid (fun W (X : Ext w W) => rCheck d W (g.ext X) hd)
    clear hl hd
    simp only [obV, Kd.num, Kd.depth, Kd.n0, Kd.n1, Kd.n2]
    clear h g
    go_enter Tryz.func134, Tryz.ntmps134
    go_wp2_with fail
    obtain ⟨W0, hW0⟩ : ∃ W0, W0 = w.alloc (.cells #[.int .i64 2, .string nm, .string (tQ x), .string (tQ y), .string (tQ d), .string up, .string low, .string ⟨#[]⟩, .string ⟨#[]⟩, .string ⟨#[]⟩] 95) := ⟨_, rfl⟩
    rw [← hW0]
    have X0 : Ext w W0 := by rw [hW0]; exact (Ext.refl w).alloc _
    have c0 : Cells w.heap.size [.int .i64 2, .string nm, .string (tQ x), .string (tQ y), .string (tQ d), .string up, .string low, .string ⟨#[]⟩, .string ⟨#[]⟩, .string ⟨#[]⟩] W0 := by rw [hW0]; exact Cells.new _ _ _
    clear hW0
    refine (N1.out _).mono ?_
    rintro e w1 ⟨rfl, Y1⟩
    have c1 := c0.ext Y1
    have X1 := X0.trans Y1
    obtain ⟨k0, k1, k2, k3, k4, k5, k6, k7, k8, k9⟩ := ten c1
    go_wp2_with fail
    refine (N2.out _).mono ?_
    rintro e w2 ⟨rfl, Y2⟩
    have c2 := c1.ext Y2
    have X2 := X1.trans Y2
    clear k0 k1 k2 k3 k4 k5 k6 k7 k8 k9
    obtain ⟨k0, k1, k2, k3, k4, k5, k6, k7, k8, k9⟩ := ten c2
    go_wp2_with fail
    refine (N3.out _).mono ?_
    rintro e w3 ⟨rfl, Y3⟩
    have c3 := c2.ext Y3
    have X3 := X2.trans Y3
    clear k0 k1 k2 k3 k4 k5 k6 k7 k8 k9
    obtain ⟨k0, k1, k2, k3, k4, k5, k6, k7, k8, k9⟩ := ten c3
    go_wp2_with fail
    refine (P.out _ X3).mono ?_
    rintro e w4 ⟨rfl, Y4⟩
    have c4 := c3.ext Y4
    have X4 := X3.trans Y4
    clear k0 k1 k2 k3 k4 k5 k6 k7 k8 k9
    obtain ⟨k0, k1, k2, k3, k4, k5, k6, k7, k8, k9⟩ := ten c4
    go_wp2_with fail
    refine (D.out _ X4).mono ?_
    rintro e w5 ⟨rfl, Y5⟩
    have c5 := c4.ext Y5
    have X5 := X4.trans Y5
    clear k0 k1 k2 k3 k4 k5 k6 k7 k8 k9
    obtain ⟨k0, k1, k2, k3, k4, k5, k6, k7, k8, k9⟩ := ten c5
    go_wp2_with fail
    go_ret
    exact ⟨rfl, X5⟩
  | dip nx ny nz =>
    obtain ⟨hl, d1, d2, d3⟩ : NameOk low ∧ Dg 9 nx ∧ Dg 9 ny ∧ Dg 9 nz := h.low
    have N3 := Lib.hid (fun W => isName_ok low W hl)
    have D := Lib.hid (fun W (X : Ext w W) => checkVec_ok (nx, ny, nz) W (g.ext X) d1 d2 d3)
    simp only [vcV] at D
    clear hl d1 d2 d3
    simp only [obV, Kd.num, Kd.depth, Kd.n0, Kd.n1, Kd.n2]
    clear h g
    go_enter Tryz.func134, Tryz.ntmps134
    go_wp2_with fail
    obtain ⟨W0, hW0⟩ : ∃ W0, W0 = w.alloc (.cells #[.int .i64 3, .string nm, .string (tQ x), .string (tQ y), .string ⟨#[]⟩, .string up, .string low, .string (tQ nx), .string (tQ ny), .string (tQ nz)] 95) := ⟨_, rfl⟩
    rw [← hW0]
    have X0 : Ext w W0 := by rw [hW0]; exact (Ext.refl w).alloc _
    have c0 : Cells w.heap.size [.int .i64 3, .string nm, .string (tQ x), .string (tQ y), .string ⟨#[]⟩, .string up, .string low, .string (tQ nx), .string (tQ ny), .string (tQ nz)] W0 := by rw [hW0]; exact Cells.new _ _ _
    clear hW0
    refine (N1.out _).mono ?_
    rintro e w1 ⟨rfl, Y1⟩
    have c1 := c0.ext Y1
    have X1 := X0.trans Y1
    obtain ⟨k0, k1, k2, k3, k4, k5, k6, k7, k8, k9⟩ := ten c1
    go_wp2_with fail
    refine (N2.out _).mono ?_
    rintro e w2 ⟨rfl, Y2⟩
    have c2 := c1.ext Y2
    have X2 := X1.trans Y2
    clear k0 k1 k2 k3 k4 k5 k6 k7 k8 k9
    obtain ⟨k0, k1, k2, k3, k4, k5, k6, k7, k8, k9⟩ := ten c2
    go_wp2_with fail
    refine (N3.out _).mono ?_
    rintro e w3 ⟨rfl, Y3⟩
    have c3 := c2.ext Y3
    have X3 := X2.trans Y3
    clear k0 k1 k2 k3 k4 k5 k6 k7 k8 k9
    obtain ⟨k0, k1, k2, k3, k4, k5, k6, k7, k8, k9⟩ := ten c3
    go_wp2_with fail
    refine (P.out _ X3).mono ?_
    rintro e w4 ⟨rfl, Y4⟩
    have c4 := c3.ext Y4
    have X4 := X3.trans Y4
    clear k0 k1 k2 k3 k4 k5 k6 k7 k8 k9
    obtain ⟨k0, k1, k2, k3, k4, k5, k6, k7, k8, k9⟩ := ten c4
    go_wp2_with fail
    refine (D.out _ X4).mono ?_
    rintro e w5 ⟨rfl, Y5⟩
    have c5 := c4.ext Y5
    have X5 := X4.trans Y5
    clear k0 k1 k2 k3 k4 k5 k6 k7 k8 k9
    obtain ⟨k0, k1, k2, k3, k4, k5, k6, k7, k8, k9⟩ := ten c5
    go_wp2_with fail
    go_ret
    exact ⟨rfl, X5⟩
end Go.Proofs.YtbiffaciinppiaaGreatDoor
end

section
namespace Go.Proofs.YtbiffaciinppiaaGreatDoor
open Go.RowKit
attribute [local irreducible] tQ

def idxU (l : List Lay) (u : ByteArray) : Int := idxF (fun x => x.unit.toList == u.toList) l
/-- An observation that is right over a mesh and a column. -/
structure OvOk (N D : Nat) (pts : List (Rat × Rat)) (tris : List Tri) (l : List Lay) (o : Ob) : Prop where
  sh : ShOk o
  pt : GP N D o.pt
  ins : 0 < (locd pts tris o.pt tris.length).length
  up : 0 ≤ idxU l o.upper
  low : match o.kd with
    | .outcrop => True
    | .contact d => 0 ≤ idxU l o.lower ∧ idxU l o.lower < idxU l o.upper ∧ ¬ d < 0
    | .dip _ _ nz => 0 ≤ idxU l o.lower ∧ idxU l o.lower < idxU l o.upper ∧ nz ≠ 0

/-- Ten cells, and all that was there. -/
def TS (n : Nat) (w0 : World) (u5 u6 : Value) (vs : List Value) (w' : World) : Prop := w'.cell? ⟨n, 5, none⟩ = some u5 ∧ w'.cell? ⟨n, 6, none⟩ = some u6 ∧ Cells n vs w' ∧ Below w0.heap.size w0 w'
section
variable {n : Nat} {w0 : World} {u5 u6 : Value} {vs : List Value} {a b : World}
theorem TS.step (h : TS n w0 u5 u6 vs a) (hb : Ext a b) : TS n w0 u5 u6 vs b := ⟨hb.cell h.1, hb.cell h.2.1, h.2.2.1.ext hb, Ext.trans h.2.2.2 hb⟩
theorem TS.drew (h : TS n w0 u5 u6 vs a) : TS n w0 u5 u6 vs a.drew := h.step (Ext.refl a).drew
theorem TS.bel (h : TS n w0 u5 u6 vs a) : Ext w0 a := h.2.2.2
end

set_option maxRecDepth 100000 in
set_option maxHeartbeats 4000000 in
theorem over_ok (N D : Nat) (pts : List (Rat × Rat)) (tris : List Tri) (cyc : List Int) (hM : MeshOk N D pts tris cyc) (pb po pc tb tO tc : Nat) (l : List Lay) (lb lo lc : Nat) (o : Ob) (w : World) (g : Glob w) (hI : MeshIn w pb po tb tO pts tris) (hl : LaysIn w lb lo l) (hlen : l.length ≤ 60) (h : OvOk N D pts tris l o) :
    Calls Tryz.prog 75 #[mV pb po pc tb tO tc pts tris, .slice (some ⟨lb, lo, none⟩) l.length lc, obV o] w (Ret (.int .i64 0) w) := by
  have S := Lib.hid (fun W (X : Ext w W) => shape_ok o W (g.ext X) h.sh)
  have C := Lib.hid (fun W (X : Ext w W) => contains_ok N D pts tris cyc hM o.pt h.pt pb po pc tb tO tc W (g.ext X) (hI.ext X))
  rw [decide_eq_true h.ins] at C
  have I1 := Lib.hid (fun W (X : Ext w W) => show Calls Tryz.prog 135 _ W (Ret (.int .i64 (idxU l o.upper)) W) from fbIdx_ok l o.upper lb lo lc W (hl.ext X) (by omega))
  have I2 := Lib.hid (fun W (X : Ext w W) => show Calls Tryz.prog 135 _ W (Ret (.int .i64 (idxU l o.lower)) W) from fbIdx_ok l o.lower lb lo lc W (hl.ext X) (by omega))
  have hup := h.up
  have hlow := h.low
  obtain ⟨kd, nm, ⟨x, y⟩, up, low⟩ := o
  simp only at hup hlow I1 I2 C
  generalize idxU l up = iu at *
  generalize idxU l low = il at *
  clear h hM hI hl hlen
  unfold mV at *
  simp only [ptV] at C
  have e1 : decide (iu < 0) = false := decide_eq_false (by omega)
  cases kd with
  | outcrop =>
    simp only [obV, Kd.num, Kd.depth, Kd.n0, Kd.n1, Kd.n2] at *
    clear hlow
    clear g
    go_enter Tryz.func75, Tryz.ntmps75
    go_wp2_with fail
    obtain ⟨W0, hW0⟩ : ∃ W0, W0 = (w.alloc (.cells #[.slice (some ⟨pb, po, none⟩) pts.length pc, .slice (some ⟨tb, tO, none⟩) tris.length tc] 37)).alloc (.cells #[.int .i64 1, .string nm, .string (tQ x), .string (tQ y), .string ⟨#[]⟩, .string up, .string low, .string ⟨#[]⟩, .string ⟨#[]⟩, .string ⟨#[]⟩] 95) := ⟨_, rfl⟩
    rw [← hW0]
    have X0 : Ext w W0 := by rw [hW0]; exact ((Ext.refl w).alloc _).alloc _
    have m0 : Two w.heap.size (.slice (some ⟨pb, po, none⟩) pts.length pc) (.slice (some ⟨tb, tO, none⟩) tris.length tc) W0 := by rw [hW0]; constructor <;> simp [go_sem]
    have c0 : Cells (w.heap.size + 1) [.int .i64 1, .string nm, .string (tQ x), .string (tQ y), .string ⟨#[]⟩, .string up, .string low, .string ⟨#[]⟩, .string ⟨#[]⟩, .string ⟨#[]⟩] W0 := by
      rw [hW0]
      have := Cells.new (w.alloc (.cells #[.slice (some ⟨pb, po, none⟩) pts.length pc, .slice (some ⟨tb, tO, none⟩) tris.length tc] 37)) [.int .i64 1, .string nm, .string (tQ x), .string (tQ y), .string ⟨#[]⟩, .string up, .string low, .string ⟨#[]⟩, .string ⟨#[]⟩, .string ⟨#[]⟩] 95
      rwa [World.size_alloc] at this
    clear hW0
    refine (S.out _ X0).mono ?_
    rintro e w1 ⟨rfl, Y1⟩
    have c1 := c0.ext Y1
    have X1 := X0.trans Y1
    obtain ⟨m1, m2⟩ := m0.ext Y1
    obtain ⟨k0, k1, k2, k3, k4, k5, k6, k7, k8, k9⟩ := ten c1
    go_wp2_with fail
    refine (C.out _ X1).mono ?_
    rintro e w2 ⟨rfl, Y2⟩
    have c2 := c1.ext Y2
    have X2 := X1.trans Y2
    clear k0 k1 k2 k3 k4 k5 k6 k7 k8 k9 m1 m2 m0 c0 c1 S C
    obtain ⟨k0, k1, k2, k3, k4, k5, k6, k7, k8, k9⟩ := ten c2
    have P0 : TS (w.heap.size + 1) w2 (.string up) (.string low) [.int .i64 1, .string nm, .string (tQ x), .string (tQ y), .string ⟨#[]⟩, .string up, .string low, .string ⟨#[]⟩, .string ⟨#[]⟩, .string ⟨#[]⟩] w2.drew := TS.drew ⟨k5, k6, c2, Ext.refl w2⟩
    clear k0 k1 k2 k3 k4 k5 k6 k7 k8 k9 c2
    go_wp2_with fail
    go_region_held3 (fun w' => w'.cell? ⟨w.heap.size + 1, 5, none⟩ = some (.string up) ∧ w'.cell? ⟨w.heap.size + 1, 6, none⟩ = some (.string low) ∧ Cells (w.heap.size + 1) [.int .i64 1, .string nm, .string (tQ x), .string (tQ y), .string ⟨#[]⟩, .string up, .string low, .string ⟨#[]⟩, .string ⟨#[]⟩, .string ⟨#[]⟩] w' ∧ Below w2.heap.size w2 w')
      (first | exact P0 | exact TS.step (by assumption) hb | exact TS.drew (by assumption))
      (first | (go_at_call 135; (with_reducible refine (I1.out _ ?hx).mono ?_); (case hx => exact X2.trans (TS.bel (by assumption))); rintro e w' ⟨rfl, hb⟩) | (go_at_call 135; (with_reducible refine (I2.out _ ?hx).mono ?_); (case hx => exact X2.trans (TS.bel (by assumption))); rintro e w' ⟨rfl, hb⟩))
    have Q : TS (w.heap.size + 1) w2 (.string up) (.string low) [.int .i64 1, .string nm, .string (tQ x), .string (tQ y), .string ⟨#[]⟩, .string up, .string low, .string ⟨#[]⟩, .string ⟨#[]⟩, .string ⟨#[]⟩] w' := by assumption
    have X3 := X2.trans Q.bel
    obtain ⟨k0, k1, k2, k3, k4, k5, k6, k7, k8, k9⟩ := ten Q.2.2.1
    have c3 := Q.2.2.1
    clear P0 Q
    go_wp2_with fail
    go_ret
    exact ⟨rfl, X3⟩
  | contact d =>
    simp only [obV, Kd.num, Kd.depth, Kd.n0, Kd.n1, Kd.n2] at *
    obtain ⟨h1, h2, h3⟩ := hlow
    have e2 : decide (il < 0) = false := decide_eq_false (by omega)
    have e3 : decide (iu ≤ il) = false := decide_eq_false (by omega)
    have hs : decide (sgnQ d < 0) = false := decide_eq_false (by
      by_cases h0 : d = 0
      · rw [h0]; decide
      · rw [sgnQ_pos h0 h3]; decide)
    have Sg := Lib.hid (fun W => rSign d W)
    generalize sgnQ d = sd at *
    clear h1 h2 h3
    clear g
    go_enter Tryz.func75, Tryz.ntmps75
    go_wp2_with fail
    obtain ⟨W0, hW0⟩ : ∃ W0, W0 = (w.alloc (.cells #[.slice (some ⟨pb, po, none⟩) pts.length pc, .slice (some ⟨tb, tO, none⟩) tris.length tc] 37)).alloc (.cells #[.int .i64 2, .string nm, .string (tQ x), .string (tQ y), .string (tQ d), .string up, .string low, .string ⟨#[]⟩, .string ⟨#[]⟩, .string ⟨#[]⟩] 95) := ⟨_, rfl⟩
    rw [← hW0]
    have X0 : Ext w W0 := by rw [hW0]; exact ((Ext.refl w).alloc _).alloc _
    have m0 : Two w.heap.size (.slice (some ⟨pb, po, none⟩) pts.length pc) (.slice (some ⟨tb, tO, none⟩) tris.length tc) W0 := by rw [hW0]; constructor <;> simp [go_sem]
    have c0 : Cells (w.heap.size + 1) [.int .i64 2, .string nm, .string (tQ x), .string (tQ y), .string (tQ d), .string up, .string low, .string ⟨#[]⟩, .string ⟨#[]⟩, .string ⟨#[]⟩] W0 := by
      rw [hW0]
      have := Cells.new (w.alloc (.cells #[.slice (some ⟨pb, po, none⟩) pts.length pc, .slice (some ⟨tb, tO, none⟩) tris.length tc] 37)) [.int .i64 2, .string nm, .string (tQ x), .string (tQ y), .string (tQ d), .string up, .string low, .string ⟨#[]⟩, .string ⟨#[]⟩, .string ⟨#[]⟩] 95
      rwa [World.size_alloc] at this
    clear hW0
    refine (S.out _ X0).mono ?_
    rintro e w1 ⟨rfl, Y1⟩
    have c1 := c0.ext Y1
    have X1 := X0.trans Y1
    obtain ⟨m1, m2⟩ := m0.ext Y1
    obtain ⟨k0, k1, k2, k3, k4, k5, k6, k7, k8, k9⟩ := ten c1
    go_wp2_with fail
    refine (C.out _ X1).mono ?_
    rintro e w2 ⟨rfl, Y2⟩
    have c2 := c1.ext Y2
    have X2 := X1.trans Y2
    clear k0 k1 k2 k3 k4 k5 k6 k7 k8 k9 m1 m2 m0 c0 c1 S C
    obtain ⟨k0, k1, k2, k3, k4, k5, k6, k7, k8, k9⟩ := ten c2
    have P0 : TS (w.heap.size + 1) w2 (.string up) (.string low) [.int .i64 2, .string nm, .string (tQ x), .string (tQ y), .string (tQ d), .string up, .string low, .string ⟨#[]⟩, .string ⟨#[]⟩, .string ⟨#[]⟩] w2.drew := TS.drew ⟨k5, k6, c2, Ext.refl w2⟩
    clear k0 k1 k2 k3 k4 k5 k6 k7 k8 k9 c2
    go_wp2_with fail
    go_region_held3 (fun w' => w'.cell? ⟨w.heap.size + 1, 5, none⟩ = some (.string up) ∧ w'.cell? ⟨w.heap.size + 1, 6, none⟩ = some (.string low) ∧ Cells (w.heap.size + 1) [.int .i64 2, .string nm, .string (tQ x), .string (tQ y), .string (tQ d), .string up, .string low, .string ⟨#[]⟩, .string ⟨#[]⟩, .string ⟨#[]⟩] w' ∧ Below w2.heap.size w2 w')
      (first | exact P0 | exact TS.step (by assumption) hb | exact TS.drew (by assumption))
      (first | (go_at_call 135; (with_reducible refine (I1.out _ ?hx).mono ?_); (case hx => exact X2.trans (TS.bel (by assumption))); rintro e w' ⟨rfl, hb⟩) | (go_at_call 135; (with_reducible refine (I2.out _ ?hx).mono ?_); (case hx => exact X2.trans (TS.bel (by assumption))); rintro e w' ⟨rfl, hb⟩))
    have Q : TS (w.heap.size + 1) w2 (.string up) (.string low) [.int .i64 2, .string nm, .string (tQ x), .string (tQ y), .string (tQ d), .string up, .string low, .string ⟨#[]⟩, .string ⟨#[]⟩, .string ⟨#[]⟩] w' := by assumption
    have X3 := X2.trans Q.bel
    obtain ⟨k0, k1, k2, k3, k4, k5, k6, k7, k8, k9⟩ := ten Q.2.2.1
    have c3 := Q.2.2.1
    clear P0 Q
    go_wp2_with fail
    refine (Sg.out _).mono ?_
    rintro e w4 ⟨rfl, Y4⟩
    clear k0 k1 k2 k3 k4 k5 k6 k7 k8 k9
    obtain ⟨k0, k1, k2, k3, k4, k5, k6, k7, k8, k9⟩ := ten (c3.ext Y4)
    have X3 := X3.trans Y4
    go_wp2_with fail
    go_ret
    exact ⟨rfl, X3⟩
  | dip nx ny nz =>
    simp only [obV, Kd.num, Kd.depth, Kd.n0, Kd.n1, Kd.n2] at *
    obtain ⟨h1, h2, h3⟩ := hlow
    have e2 : decide (il < 0) = false := decide_eq_false (by omega)
    have e3 : decide (iu ≤ il) = false := decide_eq_false (by omega)
    have e4 : ((tQ nz).toList == [48]) = false := by rw [tQ_is0]; exact decide_eq_false h3
    clear h1 h2 h3
    clear g
    go_enter Tryz.func75, Tryz.ntmps75
    go_wp2_with fail
    obtain ⟨W0, hW0⟩ : ∃ W0, W0 = (w.alloc (.cells #[.slice (some ⟨pb, po, none⟩) pts.length pc, .slice (some ⟨tb, tO, none⟩) tris.length tc] 37)).alloc (.cells #[.int .i64 3, .string nm, .string (tQ x), .string (tQ y), .string ⟨#[]⟩, .string up, .string low, .string (tQ nx), .string (tQ ny), .string (tQ nz)] 95) := ⟨_, rfl⟩
    rw [← hW0]
    have X0 : Ext w W0 := by rw [hW0]; exact ((Ext.refl w).alloc _).alloc _
    have m0 : Two w.heap.size (.slice (some ⟨pb, po, none⟩) pts.length pc) (.slice (some ⟨tb, tO, none⟩) tris.length tc) W0 := by rw [hW0]; constructor <;> simp [go_sem]
    have c0 : Cells (w.heap.size + 1) [.int .i64 3, .string nm, .string (tQ x), .string (tQ y), .string ⟨#[]⟩, .string up, .string low, .string (tQ nx), .string (tQ ny), .string (tQ nz)] W0 := by
      rw [hW0]
      have := Cells.new (w.alloc (.cells #[.slice (some ⟨pb, po, none⟩) pts.length pc, .slice (some ⟨tb, tO, none⟩) tris.length tc] 37)) [.int .i64 3, .string nm, .string (tQ x), .string (tQ y), .string ⟨#[]⟩, .string up, .string low, .string (tQ nx), .string (tQ ny), .string (tQ nz)] 95
      rwa [World.size_alloc] at this
    clear hW0
    refine (S.out _ X0).mono ?_
    rintro e w1 ⟨rfl, Y1⟩
    have c1 := c0.ext Y1
    have X1 := X0.trans Y1
    obtain ⟨m1, m2⟩ := m0.ext Y1
    obtain ⟨k0, k1, k2, k3, k4, k5, k6, k7, k8, k9⟩ := ten c1
    go_wp2_with fail
    refine (C.out _ X1).mono ?_
    rintro e w2 ⟨rfl, Y2⟩
    have c2 := c1.ext Y2
    have X2 := X1.trans Y2
    clear k0 k1 k2 k3 k4 k5 k6 k7 k8 k9 m1 m2 m0 c0 c1 S C
    obtain ⟨k0, k1, k2, k3, k4, k5, k6, k7, k8, k9⟩ := ten c2
    have P0 : TS (w.heap.size + 1) w2 (.string up) (.string low) [.int .i64 3, .string nm, .string (tQ x), .string (tQ y), .string ⟨#[]⟩, .string up, .string low, .string (tQ nx), .string (tQ ny), .string (tQ nz)] w2.drew := TS.drew ⟨k5, k6, c2, Ext.refl w2⟩
    clear k0 k1 k2 k3 k4 k5 k6 k7 k8 k9 c2
    go_wp2_with fail
    go_region_held3 (fun w' => w'.cell? ⟨w.heap.size + 1, 5, none⟩ = some (.string up) ∧ w'.cell? ⟨w.heap.size + 1, 6, none⟩ = some (.string low) ∧ Cells (w.heap.size + 1) [.int .i64 3, .string nm, .string (tQ x), .string (tQ y), .string ⟨#[]⟩, .string up, .string low, .string (tQ nx), .string (tQ ny), .string (tQ nz)] w' ∧ Below w2.heap.size w2 w')
      (first | exact P0 | exact TS.step (by assumption) hb | exact TS.drew (by assumption))
      (first | (go_at_call 135; (with_reducible refine (I1.out _ ?hx).mono ?_); (case hx => exact X2.trans (TS.bel (by assumption))); rintro e w' ⟨rfl, hb⟩) | (go_at_call 135; (with_reducible refine (I2.out _ ?hx).mono ?_); (case hx => exact X2.trans (TS.bel (by assumption))); rintro e w' ⟨rfl, hb⟩))
    have Q : TS (w.heap.size + 1) w2 (.string up) (.string low) [.int .i64 3, .string nm, .string (tQ x), .string (tQ y), .string ⟨#[]⟩, .string up, .string low, .string (tQ nx), .string (tQ ny), .string (tQ nz)] w' := by assumption
    have X3 := X2.trans Q.bel
    obtain ⟨k0, k1, k2, k3, k4, k5, k6, k7, k8, k9⟩ := ten Q.2.2.1
    have c3 := Q.2.2.1
    clear P0 Q
    go_wp2_with fail
    go_ret
    exact ⟨rfl, X3⟩
end Go.Proofs.YtbiffaciinppiaaGreatDoor
end
