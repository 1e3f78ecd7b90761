/- field.checks, field.Check, field.number, rational.Sum of three numbers, the closure of field.slope. field.corners: the three corners of a triangle with the values of a field. field.slope. -/
import Derived.Test.YtbiffaciinppiaaGreatDoorVa10
import Derived.Test.YtbiffaciinppiaaGreatDoorVa11
set_option linter.unusedVariables false
set_option linter.unusedSimpArgs false
section
namespace Go.Proofs.YtbiffaciinppiaaGreatDoor
open Go.RowKit

/-- A row of numbers in memory. -/
def FldIn (w : World) (b o : Nat) (l : List Rat) : Prop := ∀ i (h : i < l.length), w.cell? ⟨b, o + i, none⟩ = some (.string (tQ l[i]))
theorem FldIn.ext {w W : World} {b o : Nat} {l : List Rat} (h : FldIn w b o l) (hx : Ext w W) : FldIn W b o l := fun i hi => hx.cell (h i hi)

set_option maxRecDepth 100000 in
set_option maxHeartbeats 1000000 in
theorem checks_ok (N D : Nat) (pts : List (Rat × Rat)) (tris : List Tri) (cyc : List Int) (hM : MeshOk N D pts tris cyc) (pb po pc tb tO tc : Nat) (f : List Rat) (vb vc fb fo fc : Nat) (w : World) (g : Glob w) (hI : MeshIn w pb po tb tO pts tris)
    (hv : w.cell? ⟨vb, 0, none⟩ = some (.slice (some ⟨fb, fo, none⟩) pts.length fc)) (hf : FldIn w fb fo f) (hn : f.length = pts.length) (hd : ∀ q ∈ f, Dg 9 q) :
    Calls Tryz.prog 123 #[mV pb po pc tb tO tc pts tris, .slice (some ⟨vb, 0, none⟩) 1 vc] w (Ret (.int .i64 0) w) := by
  have HC := Lib.hid (fun W (X : Ext w W) => check_ok N D pts tris cyc hM pb po pc tb tO tc W (g.ext X) (hI.ext X))
  have hpl := hM.plen
  have HF := Lib.hid hf
  have HD := Lib.hid hd
  have G := Lib.hid g
  have HN := Lib.hid hn
  have HV := Lib.hid hv
  unfold mV at *
  clear hM hI g hf hd hn hv
  go_enter Tryz.func123, Tryz.ntmps123
  go_wp2_with fail
  refine (HC.out _ ((Ext.refl w).alloc _)).mono ?_
  rintro e w1 ⟨rfl, X1⟩
  have b0 : w1.cell? ⟨w.heap.size, 0, none⟩ = some (.slice (some ⟨pb, po, none⟩) pts.length pc) := X1.cell (by simp [go_sem])
  have XX := ((Ext.refl w).alloc (.cells #[.slice (some ⟨pb, po, none⟩) pts.length pc, .slice (some ⟨tb, tO, none⟩) tris.length tc] 37)).trans X1
  have v1 := XX.cell HV.out
  clear X1
  go_wp2_with fail
  go_loopw [18] (fun p wr => ∃ k : Int, (k = 0 ∨ k = 1) ∧ p = .int .i64 k ∧ Ext w1 wr) (fun p _ => 1 - (intOf p).toNat)
  case atStart => exact ⟨0, .inl rfl, rfl, Ext.refl _⟩
  case round =>
    obtain ⟨k, hk, rfl, hx⟩ := hrel
    have b1 := hx.cell b0
    have v2 := hx.cell v1
    rcases hk with rfl | rfl
    · go_wp2_with fail
      go_loopw [30] (fun p wq => ∃ j : Nat, j ≤ pts.length ∧ p = .int .i64 j ∧ Ext w1 wq) (fun p _ => pts.length - (intOf p).toNat)
      case atStart => exact ⟨0, by omega, rfl, hx⟩
      case round =>
        obtain ⟨j, hj, rfl, hx2⟩ := hrel
        by_cases hlt : j < pts.length
        · have hjf : j < f.length := by rw [HN.out]; exact hlt
          have hcj := hx2.cell (XX.cell (HF.out j hjf))
          have hdj := HD.out f[j] (List.getElem_mem _)
          have j1 : (j : Int) < pts.length := by omega
          generalize f[j] = q at *
          have HK := Lib.hid (rCheck q wr (G.out.ext (Ext.trans XX hx2)) hdj)
          clear hjf hdj
          go_wp2_with fail
          refine HK.out.mono ?_
          rintro e w2 ⟨rfl, X2⟩
          go_wp2_with fail
          exact ⟨⟨j + 1, hlt, by go_num, Ext.trans hx2 X2⟩, by simp only [intOf]; omega⟩
        · have : j = pts.length := by omega
          subst this
          go_wp2_with fail
          exact ⟨⟨1, .inr rfl, rfl, hx2⟩, by simp [intOf]⟩
    · go_wp2_with fail
      go_ret
      exact ⟨rfl, Ext.trans XX hx⟩

set_option maxRecDepth 100000 in
theorem fieldCheck_ok (N D : Nat) (pts : List (Rat × Rat)) (tris : List Tri) (cyc : List Int) (hM : MeshOk N D pts tris cyc) (pb po pc tb tO tc : Nat) (f : List Rat) (fb fo fc : Nat) (w : World) (g : Glob w) (hI : MeshIn w pb po tb tO pts tris)
    (hf : FldIn w fb fo f) (hn : f.length = pts.length) (hd : ∀ q ∈ f, Dg 9 q) :
    Calls Tryz.prog 73 #[mV pb po pc tb tO tc pts tris, .slice (some ⟨fb, fo, none⟩) pts.length fc] w (Ret (.int .i64 0) w) := by
  have HC := Lib.hid (fun vb W (X : Ext w W) (hv : W.cell? ⟨vb, 0, none⟩ = some (.slice (some ⟨fb, fo, none⟩) pts.length fc)) => checks_ok N D pts tris cyc hM pb po pc tb tO tc f vb 1 fb fo fc W (g.ext X) (hI.ext X) hv (hf.ext X) hn hd)
  unfold mV at *
  clear hM hI g hf hd hn
  go_enter Tryz.func73, Tryz.ntmps73
  go_wp2_with fail
  refine (HC.out (w.heap.size + 1) _ (((Ext.refl w).alloc _).alloc _) (by simp [go_sem])).mono ?_
  rintro e w2 ⟨rfl, X2⟩
  go_wp2_with fail
  go_ret
  exact ⟨rfl, (((Ext.refl w).alloc _).alloc _).trans X2⟩

theorem number_ok (q : Rat) (w : World) (g : Glob w) (hq : Dg 9 q) : Calls Tryz.prog 124 #[.string (tQ q)] w (Ret (.tuple #[.string (tQ q), .int .i64 0]) w) := by
  have HC := Lib.hid (rCheck q w g hq)
  clear hq
  go_enter Tryz.func124, Tryz.ntmps124
  go_wp2_with fail
  refine HC.out.mono ?_
  rintro e W1 ⟨rfl, X1⟩
  go_wp2_with fail
  go_ret2
  exact ⟨rfl, X1⟩

set_option maxRecDepth 100000 in
theorem sum3_ok (a b c : Rat) (sb sc : Nat) (w : World) (g : Glob w) (h0 : w.cell? ⟨sb, 0, none⟩ = some (.string (tQ a))) (h1 : w.cell? ⟨sb, 1, none⟩ = some (.string (tQ b))) (h2 : w.cell? ⟨sb, 2, none⟩ = some (.string (tQ c)))
    (ha : Dg 9 a) (hb : Dg 9 b) (hc : Dg 9 c) (hab : Dg 9 (a + b)) : Calls Tryz.prog 174 #[.slice (some ⟨sb, 0, none⟩) 3 sc] w (Ret (.string (tQ (a + b + c))) w) := by
  have d0 : Dg 9 (0 : Rat) := ⟨by decide, by decide⟩
  have t0 : tQ 0 = ⟨#[48]⟩ := ba_ext (by rw [tQ_data]; exact qL_zero)
  have H0 := Lib.hid (fun W (X : Ext w W) => show Calls Tryz.prog 114 #[.string ⟨#[48]⟩, .string (tQ a)] W (Ret (.string (tQ a)) W) from by
    have := rAdd 0 a W (g.ext X) d0 ha
    rwa [t0, Rat.zero_add] at this)
  have H1 := Lib.hid (fun W (X : Ext w W) => rAdd a b W (g.ext X) ha hb)
  have H2 := Lib.hid (fun W (X : Ext w W) => rAdd (a + b) c W (g.ext X) hab hc)
  clear ha hb hc hab d0 t0 g
  go_enter Tryz.func174, Tryz.ntmps174
  go_wp2_with fail
  go_loopw [3, 8] (fun s p wr => ∃ k : Nat, k ≤ 3 ∧ p = .int .i64 k ∧ s = .string (if k = 0 then ⟨#[48]⟩ else if k = 1 then tQ a else if k = 2 then tQ (a + b) else tQ (a + b + c)) ∧ Ext w wr) (fun _ p _ => 3 - (intOf p).toNat)
  case atStart => exact ⟨0, by omega, rfl, rfl, Ext.refl _⟩
  case round =>
    obtain ⟨k, hk, rfl, rfl, hx⟩ := hrel
    have c0 := hx.cell h0
    have c1 := hx.cell h1
    have c2 := hx.cell h2
    rcases (show k = 0 ∨ k = 1 ∨ k = 2 ∨ k = 3 by omega) with rfl | rfl | rfl | rfl
    · go_wp2_with fail
      refine (H0.out wr hx).mono ?_
      rintro e w2 ⟨rfl, X2⟩
      go_wp2_with fail
      exact ⟨⟨1, by omega, rfl, rfl, Ext.trans hx X2⟩, by simp [intOf]⟩
    · go_wp2_with fail
      refine (H1.out wr hx).mono ?_
      rintro e w2 ⟨rfl, X2⟩
      go_wp2_with fail
      exact ⟨⟨2, by omega, rfl, rfl, Ext.trans hx X2⟩, by simp [intOf]⟩
    · go_wp2_with fail
      refine (H2.out wr hx).mono ?_
      rintro e w2 ⟨rfl, X2⟩
      go_wp2_with fail
      exact ⟨⟨3, by omega, rfl, rfl, Ext.trans hx X2⟩, by simp [intOf]⟩
    · go_wp2_with fail
      go_ret
      exact ⟨rfl, hx⟩

/-- What field.slope's closure wants. -/
structure MnOk (a b c d : Rat) : Prop where
  h1 : Dg 9 a
  h2 : Dg 9 b
  h3 : Dg 9 c
  h4 : Dg 9 d
  h5 : Dg 9 (a * d)
  h6 : Dg 9 (b * c)
theorem minor_ok (a b c d : Rat) (w : World) (g : Glob w) (h : MnOk a b c d) : Calls Tryz.prog 176 #[.string (tQ a), .string (tQ b), .string (tQ c), .string (tQ d)] w (Ret (.string (tQ (a * d - b * c))) w) := by
  have H0 := Lib.hid (fun W (X : Ext w W) => rMul a d W (g.ext X) h.h1 h.h4)
  have H1 := Lib.hid (fun W (X : Ext w W) => rMul b c W (g.ext X) h.h2 h.h3)
  have H2 := Lib.hid (fun W (X : Ext w W) => rSub (a * d) (b * c) W (g.ext X) h.h5 h.h6)
  clear h g
  go_enter Tryz.func176, Tryz.ntmps176
  go_wp2_with fail
  refine (H0.out _ (Ext.refl _)).mono ?_
  rintro e w1 ⟨rfl, X1⟩
  go_wp2_with fail
  refine (H1.out _ X1).mono ?_
  rintro e w2 ⟨rfl, X2⟩
  go_wp2_with fail
  refine (H2.out _ (X1.trans X2)).mono ?_
  rintro e w3 ⟨rfl, X3⟩
  go_wp2_with fail
  go_ret
  exact ⟨rfl, (X1.trans X2).trans X3⟩
end Go.Proofs.YtbiffaciinppiaaGreatDoor
end

section
namespace Go.Proofs.YtbiffaciinppiaaGreatDoor
open Go.RowKit
attribute [local go_sem] ixT0 ixT1 ixT2

/-- The cells of a block, none of them frozen. -/
def Cells (b : Nat) (vs : List Value) (W : World) : Prop := ∀ i (h : i < vs.length), W.cell? ⟨b, i, none⟩ = some vs[i] ∧ W.frozen? ⟨b, i, none⟩ = false
theorem Cells.put {b : Nat} {vs : List Value} {W : World} (h : Cells b vs W) (i : Nat) (hi : i < vs.length) (x : Value) : Cells b (vs.set i x) (W.setCell ⟨b, i, none⟩ x) := by
  intro j hj
  have hj2 : j < vs.length := by simpa using hj
  have fr : (W.setCell ⟨b, i, none⟩ x).frozen? ⟨b, j, none⟩ = W.frozen? ⟨b, j, none⟩ := by simp [go_sem]
  rw [fr]
  refine ⟨?_, (h j hj2).2⟩
  by_cases e : i = j
  · subst e
    rw [List.getElem_set_self]
    exact World.cell?_setCell_same _ _ _ (h i hi).1
  · rw [List.getElem_set_ne e, World.cell?_setCell_other _ _ _ _ (fun h2 => e (by cases h2; rfl))]
    exact (h j hj2).1
theorem Cells.ext {b : Nat} {vs : List Value} {w W : World} (h : Cells b vs w) (hx : Ext w W) : Cells b vs W := fun i hi =>
  ⟨hx.cell (h i hi).1, (hx.cells.2 b i (World.block_lt_of_cell? w _ (h i hi).1)).trans (h i hi).2⟩
theorem Cells.at {b : Nat} {vs : List Value} {w : World} (h : Cells b vs w) (i : Nat) (u : Value) (hu : vs[i]? = some u) : w.cell? ⟨b, i, none⟩ = some u ∧ w.frozen? ⟨b, i, none⟩ = false := by
  obtain ⟨hi, rfl⟩ := List.getElem?_eq_some_iff.1 hu
  exact h i hi

def p9V (a b c : Rat × Rat) (x y z : Rat) : Value := .agg #[.string (tQ a.1), .string (tQ a.2), .string (tQ x), .string (tQ b.1), .string (tQ b.2), .string (tQ y), .string (tQ c.1), .string (tQ c.2), .string (tQ z)]
def vl (f : List Rat) (k : Int) : Rat := f.getD k.toNat 0
theorem vl_nat {f : List Rat} {A : Nat} (h : A < f.length) : vl f (A : Int) = f[A] := by
  unfold vl
  rw [Int.toNat_natCast, List.getD_eq_getElem?_getD, List.getElem?_eq_getElem h, Option.getD_some]
def es : Value := .string ⟨#[]⟩
/-- The first k corners are there. -/
def crn (a b c : Rat × Rat) (x y z : Rat) (k : Nat) : List Value :=
  [.string (tQ a.1), .string (tQ a.2), .string (tQ x), .string (tQ b.1), .string (tQ b.2), .string (tQ y), .string (tQ c.1), .string (tQ c.2), .string (tQ z)].take (3 * k) ++ List.replicate (9 - 3 * k) es
def FcR (n : Nat) (a b c : Rat × Rat) (x y z : Rat) (w : World) (v14 : Value) (wr : World) : Prop :=
  ∃ k : Nat, k ≤ 3 ∧ v14 = .int .i64 k ∧ Cells (n + 1) (crn a b c x y z k) wr ∧ Below (n + 1) w wr

set_option maxRecDepth 100000 in
set_option maxHeartbeats 4000000 in
theorem fcorners_ok (pts : List (Rat × Rat)) (tris : List Tri) (f : List Rat) (pb po pc tb tO tc fb fo fc : Nat) (i : Nat) (w : World) (hI : MeshIn w pb po tb tO pts tris) (hf : FldIn w fb fo f) (hn : f.length = pts.length) (hi : i < tris.length) (hx : ∀ k ∈ triIdx tris[i], 0 ≤ k ∧ k < pts.length) :
    Calls Tryz.prog 175 #[mV pb po pc tb tO tc pts tris, .slice (some ⟨fb, fo, none⟩) pts.length fc, .int .i64 i] w (Ret (p9V (cor pts tris[i].1) (cor pts tris[i].2.1) (cor pts tris[i].2.2) (vl f tris[i].1) (vl f tris[i].2.1) (vl f tris[i].2.2)) w) := by
  obtain ⟨d0, d1, d2⟩ := hI.t i hi
  have q1 := hx tris[i].1 (by simp [triIdx])
  have q2 := hx tris[i].2.1 (by simp [triIdx])
  have q3 := hx tris[i].2.2 (by simp [triIdx])
  obtain ⟨A, rA, hA, hA2⟩ := cor_nat q1.1 q1.2
  obtain ⟨B, rB, hB, hB2⟩ := cor_nat q2.1 q2.2
  obtain ⟨C, rC, hC, hC2⟩ := cor_nat q3.1 q3.2
  have sA : A < f.length := by omega
  have sB : B < f.length := by omega
  have sC : C < f.length := by omega
  rw [hA2, hB2, hC2, hA, hB, hC, vl_nat sA, vl_nat sB, vl_nat sC]
  rw [hA] at d0
  rw [hB] at d1
  rw [hC] at d2
  have eA := hI.p A rA
  have eB := hI.p B rB
  have eC := hI.p C rC
  have fA := hf A sA
  have fB := hf B sB
  have fC := hf C sC
  have i1 : (A : Int) < pts.length := by omega
  have i2 : (B : Int) < pts.length := by omega
  have i3 : (C : Int) < pts.length := by omega
  have i0 : (i : Int) < tris.length := by omega
  have htb : tb < w.heap.size := World.block_lt_of_cell? w _ d0
  have hpb : pb < w.heap.size := World.block_lt_of_cell? w _ eA.1
  have hfb : fb < w.heap.size := World.block_lt_of_cell? w _ fA
  clear hI hx q1 q2 q3 hA hB hC hA2 hB2 hC2 hf hn
  generalize pts[A] = pA at *
  generalize pts[B] = pB at *
  generalize pts[C] = pC at *
  generalize f[A] = x at *
  generalize f[B] = y at *
  generalize f[C] = z at *
  obtain ⟨xA, yA⟩ := pA
  obtain ⟨xB, yB⟩ := pB
  obtain ⟨xC, yC⟩ := pC
  simp only [p9V] at *
  unfold mV
  go_enter Tryz.func175, Tryz.ntmps175
  go_wp2_with fail
  obtain ⟨W0, hW0⟩ : ∃ W0, W0 = (w.alloc (.cells #[.slice (some ⟨pb, po, none⟩) pts.length pc, .slice (some ⟨tb, tO, none⟩) tris.length tc] 37)).alloc (.cells #[.string ⟨#[]⟩, .string ⟨#[]⟩, .string ⟨#[]⟩, .string ⟨#[]⟩, .string ⟨#[]⟩, .string ⟨#[]⟩, .string ⟨#[]⟩, .string ⟨#[]⟩, .string ⟨#[]⟩] 244) := ⟨_, rfl⟩
  rw [← hW0]
  have X0 : Ext w W0 := by rw [hW0]; exact ((Ext.refl w).alloc _).alloc _
  have hC0 : Cells (w.heap.size + 1) (crn (xA, yA) (xB, yB) (xC, yC) x y z 0) W0 := by
    rw [hW0]
    intro j hj
    have hj9 : j < 9 := by simpa [crn] using hj
    rcases (show j = 0 ∨ j = 1 ∨ j = 2 ∨ j = 3 ∨ j = 4 ∨ j = 5 ∨ j = 6 ∨ j = 7 ∨ j = 8 by omega) with rfl | rfl | rfl | rfl | rfl | rfl | rfl | rfl | rfl <;> constructor <;> simp [go_sem, crn, es, List.replicate]
  have m0 : W0.cell? ⟨w.heap.size, 0, none⟩ = some (.slice (some ⟨pb, po, none⟩) pts.length pc) := by rw [hW0]; simp [go_sem]
  have hs0 : w.heap.size + 1 < W0.heap.size := by rw [hW0]; simp
  have eA := And.intro (X0.cell eA.1) (X0.cell eA.2)
  have eB := And.intro (X0.cell eB.1) (X0.cell eB.2)
  have eC := And.intro (X0.cell eC.1) (X0.cell eC.2)
  have fA := X0.cell fA
  have fB := X0.cell fB
  have fC := X0.cell fC
  clear hW0 d0 d1 d2
  go_loopw [14] (FcR w.heap.size (xA, yA) (xB, yB) (xC, yC) x y z W0) (fun p _ => 3 - (intOf p).toNat)
  case atStart => exact ⟨0, by omega, rfl, hC0, Below.refl _ _⟩
  case round =>
    obtain ⟨k, hk, rfl, hcs0, hB0⟩ := hrel
    have hcs : Cells (w.heap.size + 1) (crn (xA, yA) (xB, yB) (xC, yC) x y z k) wr.drew := hcs0
    have hB := hB0.drew
    have old : ∀ bb oo u, bb < w.heap.size + 1 → W0.cell? ⟨bb, oo, none⟩ = some u → wr.drew.cell? ⟨bb, oo, none⟩ = some u := fun bb oo u hb h => (hB.cell (p := ⟨bb, oo, none⟩) hb).trans h
    have m1 := old _ _ _ (by omega) m0
    have eA := And.intro (old _ _ _ (by omega) eA.1) (old _ _ _ (by omega) eA.2)
    have eB := And.intro (old _ _ _ (by omega) eB.1) (old _ _ _ (by omega) eB.2)
    have eC := And.intro (old _ _ _ (by omega) eC.1) (old _ _ _ (by omega) eC.2)
    have fA := old _ _ _ (by omega) fA
    have fB := old _ _ _ (by omega) fB
    have fC := old _ _ _ (by omega) fC
    rcases (show k = 0 ∨ k = 1 ∨ k = 2 ∨ k = 3 by omega) with rfl | rfl | rfl | rfl
    · clear old
      obtain ⟨k0, g0⟩ := hcs.at 0 es (by simp [crn, List.replicate])
      obtain ⟨k1, g1⟩ := hcs.at 1 es (by simp [crn, List.replicate])
      obtain ⟨k2, g2⟩ := hcs.at 2 es (by simp [crn, List.replicate])
      unfold es at k0 k1 k2
      have hp := (((hcs.put 0 (by simp [crn]) (.string (tQ xA))).put 1 (by simp [crn]) (.string (tQ yA))).put 2 (by simp [crn]) (.string (tQ x)))
      have hp2 : Cells (w.heap.size + 1) (crn (xA, yA) (xB, yB) (xC, yC) x y z 1) (((wr.drew.setCell ⟨w.heap.size + 1, 0, none⟩ (.string (tQ xA))).setCell ⟨w.heap.size + 1, 1, none⟩ (.string (tQ yA))).setCell ⟨w.heap.size + 1, 2, none⟩ (.string (tQ x))) := by simpa [crn, List.replicate] using hp
      have hB2 : Below (w.heap.size + 1) W0 (((wr.drew.setCell ⟨w.heap.size + 1, 0, none⟩ (.string (tQ xA))).setCell ⟨w.heap.size + 1, 1, none⟩ (.string (tQ yA))).setCell ⟨w.heap.size + 1, 2, none⟩ (.string (tQ x))) := ((hB.setCell (Nat.le_refl _) _).setCell (Nat.le_refl _) _).setCell (Nat.le_refl _) _
      go_wp2_with fail
      refine wp_region_still_tail 12 (by kernel_rfl) (by kernel_rfl) ?_
      simp only [List.take_succ_cons, List.take_zero, List.drop_succ_cons, List.drop_zero]
      change wpStill _ _ wr.drew (fun a' => wpList _ _ _ _ a' wr.drew) _ _
      clear hcs0 hB0 hp hcs
      generalize wr.drew = wd at *
      obtain ⟨n0, n1⟩ := eA
      have j0 : (0 : Int) < 3 := by decide
      repeat still_step
      refine wpStill_nil ?_
      go_wp2_with fail
      exact ⟨⟨1, by omega, rfl, hp2, hB2⟩, by simp [intOf]⟩
    · clear old
      obtain ⟨k0, g0⟩ := hcs.at 3 es (by simp [crn, List.replicate])
      obtain ⟨k1, g1⟩ := hcs.at 4 es (by simp [crn, List.replicate])
      obtain ⟨k2, g2⟩ := hcs.at 5 es (by simp [crn, List.replicate])
      unfold es at k0 k1 k2
      have hp := (((hcs.put 3 (by simp [crn]) (.string (tQ xB))).put 4 (by simp [crn]) (.string (tQ yB))).put 5 (by simp [crn]) (.string (tQ y)))
      have hp2 : Cells (w.heap.size + 1) (crn (xA, yA) (xB, yB) (xC, yC) x y z 2) (((wr.drew.setCell ⟨w.heap.size + 1, 3, none⟩ (.string (tQ xB))).setCell ⟨w.heap.size + 1, 4, none⟩ (.string (tQ yB))).setCell ⟨w.heap.size + 1, 5, none⟩ (.string (tQ y))) := by simpa [crn, List.replicate] using hp
      have hB2 : Below (w.heap.size + 1) W0 (((wr.drew.setCell ⟨w.heap.size + 1, 3, none⟩ (.string (tQ xB))).setCell ⟨w.heap.size + 1, 4, none⟩ (.string (tQ yB))).setCell ⟨w.heap.size + 1, 5, none⟩ (.string (tQ y))) := ((hB.setCell (Nat.le_refl _) _).setCell (Nat.le_refl _) _).setCell (Nat.le_refl _) _
      go_wp2_with fail
      refine wp_region_still_tail 12 (by kernel_rfl) (by kernel_rfl) ?_
      simp only [List.take_succ_cons, List.take_zero, List.drop_succ_cons, List.drop_zero]
      change wpStill _ _ wr.drew (fun a' => wpList _ _ _ _ a' wr.drew) _ _
      clear hcs0 hB0 hp hcs
      generalize wr.drew = wd at *
      obtain ⟨n0, n1⟩ := eB
      have j0 : (1 : Int) < 3 := by decide
      repeat still_step
      refine wpStill_nil ?_
      go_wp2_with fail
      exact ⟨⟨2, by omega, rfl, hp2, hB2⟩, by simp [intOf]⟩
    · clear old
      obtain ⟨k0, g0⟩ := hcs.at 6 es (by simp [crn, List.replicate])
      obtain ⟨k1, g1⟩ := hcs.at 7 es (by simp [crn, List.replicate])
      obtain ⟨k2, g2⟩ := hcs.at 8 es (by simp [crn, List.replicate])
      unfold es at k0 k1 k2
      have hp := (((hcs.put 6 (by simp [crn]) (.string (tQ xC))).put 7 (by simp [crn]) (.string (tQ yC))).put 8 (by simp [crn]) (.string (tQ z)))
      have hp2 : Cells (w.heap.size + 1) (crn (xA, yA) (xB, yB) (xC, yC) x y z 3) (((wr.drew.setCell ⟨w.heap.size + 1, 6, none⟩ (.string (tQ xC))).setCell ⟨w.heap.size + 1, 7, none⟩ (.string (tQ yC))).setCell ⟨w.heap.size + 1, 8, none⟩ (.string (tQ z))) := by simpa [crn, List.replicate] using hp
      have hB2 : Below (w.heap.size + 1) W0 (((wr.drew.setCell ⟨w.heap.size + 1, 6, none⟩ (.string (tQ xC))).setCell ⟨w.heap.size + 1, 7, none⟩ (.string (tQ yC))).setCell ⟨w.heap.size + 1, 8, none⟩ (.string (tQ z))) := ((hB.setCell (Nat.le_refl _) _).setCell (Nat.le_refl _) _).setCell (Nat.le_refl _) _
      go_wp2_with fail
      refine wp_region_still_tail 12 (by kernel_rfl) (by kernel_rfl) ?_
      simp only [List.take_succ_cons, List.take_zero, List.drop_succ_cons, List.drop_zero]
      change wpStill _ _ wr.drew (fun a' => wpList _ _ _ _ a' wr.drew) _ _
      clear hcs0 hB0 hp hcs
      generalize wr.drew = wd at *
      obtain ⟨n0, n1⟩ := eC
      have j0 : (2 : Int) < 3 := by decide
      repeat still_step
      refine wpStill_nil ?_
      go_wp2_with fail
      exact ⟨⟨3, by omega, rfl, hp2, hB2⟩, by simp [intOf]⟩
    · clear old eA eB eC fA fB fC hcs hB
      obtain ⟨k0, g0⟩ := hcs0.at 0 (.string (tQ xA)) (by simp [crn])
      obtain ⟨k1, g1⟩ := hcs0.at 1 (.string (tQ yA)) (by simp [crn])
      obtain ⟨k2, g2⟩ := hcs0.at 2 (.string (tQ x)) (by simp [crn])
      obtain ⟨k3, g3⟩ := hcs0.at 3 (.string (tQ xB)) (by simp [crn])
      obtain ⟨k4, g4⟩ := hcs0.at 4 (.string (tQ yB)) (by simp [crn])
      obtain ⟨k5, g5⟩ := hcs0.at 5 (.string (tQ y)) (by simp [crn])
      obtain ⟨k6, g6⟩ := hcs0.at 6 (.string (tQ xC)) (by simp [crn])
      obtain ⟨k7, g7⟩ := hcs0.at 7 (.string (tQ yC)) (by simp [crn])
      obtain ⟨k8, g8⟩ := hcs0.at 8 (.string (tQ z)) (by simp [crn])
      have hq : Cells (w.heap.size + 1) (crn (xA, yA) (xB, yB) (xC, yC) x y z 3) (((((((((wr.setCell ⟨w.heap.size + 1, 0, none⟩ (.string (tQ xA))).setCell ⟨w.heap.size + 1, 1, none⟩ (.string (tQ yA))).setCell ⟨w.heap.size + 1, 2, none⟩ (.string (tQ x))).setCell ⟨w.heap.size + 1, 3, none⟩ (.string (tQ xB))).setCell ⟨w.heap.size + 1, 4, none⟩ (.string (tQ yB))).setCell ⟨w.heap.size + 1, 5, none⟩ (.string (tQ y))).setCell ⟨w.heap.size + 1, 6, none⟩ (.string (tQ xC))).setCell ⟨w.heap.size + 1, 7, none⟩ (.string (tQ yC))).setCell ⟨w.heap.size + 1, 8, none⟩ (.string (tQ z))) := by simpa [crn] using (((((((((hcs0.put 0 (by simp [crn]) (.string (tQ xA))).put 1 (by simp [crn]) (.string (tQ yA))).put 2 (by simp [crn]) (.string (tQ x))).put 3 (by simp [crn]) (.string (tQ xB))).put 4 (by simp [crn]) (.string (tQ yB))).put 5 (by simp [crn]) (.string (tQ y))).put 6 (by simp [crn]) (.string (tQ xC))).put 7 (by simp [crn]) (.string (tQ yC))).put 8 (by simp [crn]) (.string (tQ z)))
      have hBq : Below (w.heap.size + 1) W0 (((((((((wr.setCell ⟨w.heap.size + 1, 0, none⟩ (.string (tQ xA))).setCell ⟨w.heap.size + 1, 1, none⟩ (.string (tQ yA))).setCell ⟨w.heap.size + 1, 2, none⟩ (.string (tQ x))).setCell ⟨w.heap.size + 1, 3, none⟩ (.string (tQ xB))).setCell ⟨w.heap.size + 1, 4, none⟩ (.string (tQ yB))).setCell ⟨w.heap.size + 1, 5, none⟩ (.string (tQ y))).setCell ⟨w.heap.size + 1, 6, none⟩ (.string (tQ xC))).setCell ⟨w.heap.size + 1, 7, none⟩ (.string (tQ yC))).setCell ⟨w.heap.size + 1, 8, none⟩ (.string (tQ z))) := (((((((((hB0.setCell (Nat.le_refl _) _).setCell (Nat.le_refl _) _).setCell (Nat.le_refl _) _).setCell (Nat.le_refl _) _).setCell (Nat.le_refl _) _).setCell (Nat.le_refl _) _).setCell (Nat.le_refl _) _).setCell (Nat.le_refl _) _).setCell (Nat.le_refl _) _)
      go_wp2_with fail
      generalize (((((((((wr.setCell ⟨w.heap.size + 1, 0, none⟩ (.string (tQ xA))).setCell ⟨w.heap.size + 1, 1, none⟩ (.string (tQ yA))).setCell ⟨w.heap.size + 1, 2, none⟩ (.string (tQ x))).setCell ⟨w.heap.size + 1, 3, none⟩ (.string (tQ xB))).setCell ⟨w.heap.size + 1, 4, none⟩ (.string (tQ yB))).setCell ⟨w.heap.size + 1, 5, none⟩ (.string (tQ y))).setCell ⟨w.heap.size + 1, 6, none⟩ (.string (tQ xC))).setCell ⟨w.heap.size + 1, 7, none⟩ (.string (tQ yC))).setCell ⟨w.heap.size + 1, 8, none⟩ (.string (tQ z))) = Wq at *
      have r0 := (hq.at 0 (.string (tQ xA)) (by simp [crn])).1
      have r1 := (hq.at 1 (.string (tQ yA)) (by simp [crn])).1
      have r2 := (hq.at 2 (.string (tQ x)) (by simp [crn])).1
      have r3 := (hq.at 3 (.string (tQ xB)) (by simp [crn])).1
      have r4 := (hq.at 4 (.string (tQ yB)) (by simp [crn])).1
      have r5 := (hq.at 5 (.string (tQ y)) (by simp [crn])).1
      have r6 := (hq.at 6 (.string (tQ xC)) (by simp [crn])).1
      have r7 := (hq.at 7 (.string (tQ yC)) (by simp [crn])).1
      have r8 := (hq.at 8 (.string (tQ z)) (by simp [crn])).1
      refine bodyPost_ret (v := .agg #[.string (tQ xA), .string (tQ yA), .string (tQ x), .string (tQ xB), .string (tQ yB), .string (tQ y), .string (tQ xC), .string (tQ yC), .string (tQ z)]) ?_ rfl ⟨rfl, Ext.trans' X0 (hBq.mono (by omega))⟩
      simp [results, Tryz.results175, go_sem, r0, r1, r2, r3, r4, r5, r6, r7, r8]
end Go.Proofs.YtbiffaciinppiaaGreatDoor
end

section
namespace Go.Proofs.YtbiffaciinppiaaGreatDoor
open Go.RowKit
attribute [local go_sem] fld_x fld_y
attribute [local irreducible] tQ

def slM (a b c : Rat × Rat) : Rat := (b.1 - a.1) * (c.2 - a.2) - (b.2 - a.2) * (c.1 - a.1)
def slX (a b c : Rat × Rat) (x y z : Rat) : Rat := 1 / slM a b c * ((y - x) * (c.2 - a.2) - (b.2 - a.2) * (z - x))
def slY (a b c : Rat × Rat) (x y z : Rat) : Rat := 1 / slM a b c * ((b.1 - a.1) * (z - x) - (y - x) * (c.1 - a.1))
/-- What field.slope wants. -/
structure SlOk (a b c : Rat × Rat) (x y z : Rat) : Prop where
  a1 : Dg 9 a.1
  a2 : Dg 9 a.2
  b1 : Dg 9 b.1
  b2 : Dg 9 b.2
  c1 : Dg 9 c.1
  c2 : Dg 9 c.2
  x0 : Dg 9 x
  y0 : Dg 9 y
  z0 : Dg 9 z
  m0 : MnOk (b.1 - a.1) (b.2 - a.2) (c.1 - a.1) (c.2 - a.2)
  m1 : MnOk (y - x) (b.2 - a.2) (z - x) (c.2 - a.2)
  m2 : MnOk (b.1 - a.1) (y - x) (c.1 - a.1) (z - x)
  d0 : Dg 9 (slM a b c)
  d1 : Dg 9 ((y - x) * (c.2 - a.2) - (b.2 - a.2) * (z - x))
  d2 : Dg 9 ((b.1 - a.1) * (z - x) - (y - x) * (c.1 - a.1))
  ne : slM a b c ≠ 0

def NS (N7 : Nat) (w0 : World) (v0 v1 v2 v3 v4 v5 v6 v7 v8 : Value) (w' : World) : Prop :=
  w'.cell? ⟨N7, 0, none⟩ = some v0 ∧ w'.cell? ⟨N7, 1, none⟩ = some v1 ∧ w'.cell? ⟨N7, 2, none⟩ = some v2 ∧ w'.cell? ⟨N7, 3, none⟩ = some v3 ∧ w'.cell? ⟨N7, 4, none⟩ = some v4 ∧ w'.cell? ⟨N7, 5, none⟩ = some v5 ∧ w'.cell? ⟨N7, 6, none⟩ = some v6 ∧ w'.cell? ⟨N7, 7, none⟩ = some v7 ∧ w'.cell? ⟨N7, 8, none⟩ = some v8 ∧ Below w0.heap.size w0 w'
section
variable {N7 : Nat} {w0 : World} {v0 v1 v2 v3 v4 v5 v6 v7 v8 : Value} {a b : World}
theorem NS.bel (h : NS N7 w0 v0 v1 v2 v3 v4 v5 v6 v7 v8 a) : Ext w0 a := h.2.2.2.2.2.2.2.2.2
theorem NS.step (h : NS N7 w0 v0 v1 v2 v3 v4 v5 v6 v7 v8 a) (hb : Ext a b) : NS N7 w0 v0 v1 v2 v3 v4 v5 v6 v7 v8 b := by
  obtain ⟨h0, h1, h2, h3, h4, h5, h6, h7, h8, hB⟩ := h
  exact ⟨hb.cell h0, hb.cell h1, hb.cell h2, hb.cell h3, hb.cell h4, hb.cell h5, hb.cell h6, hb.cell h7, hb.cell h8, Ext.trans hB hb⟩
theorem NS.drew (h : NS N7 w0 v0 v1 v2 v3 v4 v5 v6 v7 v8 a) : NS N7 w0 v0 v1 v2 v3 v4 v5 v6 v7 v8 a.drew := by
  obtain ⟨h0, h1, h2, h3, h4, h5, h6, h7, h8, hB⟩ := h
  exact ⟨h0, h1, h2, h3, h4, h5, h6, h7, h8, Ext.drew hB⟩
end

set_option maxRecDepth 100000 in
set_option maxHeartbeats 4000000 in
theorem slope_ok (pts : List (Rat × Rat)) (tris : List Tri) (f : List Rat) (pb po pc tb tO tc fb fo fc : Nat) (i : Nat) (w : World) (g : Glob w) (hI : MeshIn w pb po tb tO pts tris) (hf : FldIn w fb fo f) (hn : f.length = pts.length) (hi : i < tris.length) (hx : ∀ k ∈ triIdx tris[i], 0 ≤ k ∧ k < pts.length)
    (a b c : Rat × Rat) (ha : a = cor pts tris[i].1) (hb : b = cor pts tris[i].2.1) (hc : c = cor pts tris[i].2.2) (x y z : Rat) (hx0 : x = vl f tris[i].1) (hy0 : y = vl f tris[i].2.1) (hz0 : z = vl f tris[i].2.2) (hS : SlOk a b c x y z) :
    Calls Tryz.prog 126 #[mV pb po pc tb tO tc pts tris, .slice (some ⟨fb, fo, none⟩) pts.length fc, .int .i64 i] w (Ret (.agg #[.string (tQ (slX a b c x y z)), .string (tQ (slY a b c x y z))]) w) := by
  have HC := Lib.hid (fun W (X : Ext w W) => fcorners_ok pts tris f pb po pc tb tO tc fb fo fc i W (hI.ext X) (hf.ext X) hn hi hx)
  rw [← ha, ← hb, ← hc, ← hx0, ← hy0, ← hz0] at HC
  have t1 : tQ 1 = ⟨#[49]⟩ := ba_ext (by rw [tQ_data]; exact qL_one)
  have d1 : Dg 9 (1 : Rat) := ⟨by decide, by decide⟩
  have k0 : Dg 9 (1 / slM a b c) := by
    rw [Rat.div_def, Rat.one_mul]; exact hS.d0.inv hS.ne
  have S1 := Lib.hid (fun W (X : Ext w W) => rSub b.1 a.1 W (g.ext X) hS.b1 hS.a1)
  have S2 := Lib.hid (fun W (X : Ext w W) => rSub b.2 a.2 W (g.ext X) hS.b2 hS.a2)
  have S3 := Lib.hid (fun W (X : Ext w W) => rSub c.1 a.1 W (g.ext X) hS.c1 hS.a1)
  have S4 := Lib.hid (fun W (X : Ext w W) => rSub c.2 a.2 W (g.ext X) hS.c2 hS.a2)
  have S5 := Lib.hid (fun W (X : Ext w W) => rSub y x W (g.ext X) hS.y0 hS.x0)
  have S6 := Lib.hid (fun W (X : Ext w W) => rSub z x W (g.ext X) hS.z0 hS.x0)
  have M0 := Lib.hid (fun W (X : Ext w W) => show Calls Tryz.prog 176 _ W (Ret (.string (tQ (slM a b c))) W) from minor_ok _ _ _ _ W (g.ext X) hS.m0)
  have M1 := Lib.hid (fun W (X : Ext w W) => minor_ok _ _ _ _ W (g.ext X) hS.m1)
  have M2 := Lib.hid (fun W (X : Ext w W) => minor_ok _ _ _ _ W (g.ext X) hS.m2)
  have HD := Lib.hid (fun W (X : Ext w W) => show Calls Tryz.prog 90 #[.string ⟨#[49]⟩, .string (tQ (slM a b c))] W (Ret (.tuple #[.string (tQ (1 / slM a b c)), .int .i64 0]) W) from t1 ▸ rDiv 1 (slM a b c) W (g.ext X) d1 hS.d0 hS.ne)
  have L1 := Lib.hid (fun W (X : Ext w W) => show Calls Tryz.prog 115 _ W (Ret (.string (tQ (slX a b c x y z))) W) from rMul (1 / slM a b c) _ W (g.ext X) k0 hS.d1)
  have L2 := Lib.hid (fun W (X : Ext w W) => show Calls Tryz.prog 115 _ W (Ret (.string (tQ (slY a b c x y z))) W) from rMul (1 / slM a b c) _ W (g.ext X) k0 hS.d2)
  clear hS g hI hf hn hx ha hb hc hx0 hy0 hz0 t1 d1 k0
  generalize slX a b c x y z = sx at *
  generalize slY a b c x y z = sy at *
  generalize 1 / slM a b c = kk at *
  generalize slM a b c = mm at *
  obtain ⟨xA, yA⟩ := a
  obtain ⟨xB, yB⟩ := b
  obtain ⟨xC, yC⟩ := c
  simp only at S1 S2 S3 S4 M0 M1 M2 L1 L2
  unfold mV at *
  simp only [p9V] at HC
  go_enter Tryz.func126, Tryz.ntmps126
  go_wp2_with fail
  obtain ⟨W0, hW0⟩ : ∃ W0, W0 = (w.alloc (.cells #[.slice (some ⟨pb, po, none⟩) pts.length pc, .slice (some ⟨tb, tO, none⟩) tris.length tc] 37)).alloc (.cells #[.string ⟨#[]⟩, .string ⟨#[]⟩] 91) := ⟨_, rfl⟩
  rw [← hW0]
  have X0 : Ext w W0 := by rw [hW0]; exact ((Ext.refl w).alloc _).alloc _
  have cR : Cells (w.heap.size + 1) [.string ⟨#[]⟩, .string ⟨#[]⟩] W0 := by
    rw [hW0]
    intro j hj
    have hj9 : j < 2 := by simpa using hj
    rcases (show j = 0 ∨ j = 1 by omega) with rfl | rfl <;> constructor <;> simp [go_sem]
  clear hW0
  refine (HC.out W0 X0).mono ?_
  rintro e w1 ⟨rfl, X1⟩
  have cR1 := cR.ext X1
  go_wp2_with fail
  obtain ⟨w3, hw3⟩ : ∃ w3, w3 = w1.alloc (.cells #[.string (tQ xA), .string (tQ yA), .string (tQ x), .string (tQ xB), .string (tQ yB), .string (tQ y), .string (tQ xC), .string (tQ yC), .string (tQ z)] 244) := ⟨_, rfl⟩
  rw [← hw3]
  have X3 : Ext w1 w3 := by rw [hw3]; exact (Ext.refl w1).alloc _
  have XR := (X0.trans X1).trans X3
  have cR3 := cR1.ext X3
  have P2 : NS w1.heap.size w3 (.string (tQ xA)) (.string (tQ yA)) (.string (tQ x)) (.string (tQ xB)) (.string (tQ yB)) (.string (tQ y)) (.string (tQ xC)) (.string (tQ yC)) (.string (tQ z)) w3.drew := by
    rw [hw3]
    refine ⟨?_, ?_, ?_, ?_, ?_, ?_, ?_, ?_, ?_, (Ext.refl _).drew⟩ <;> simp [go_sem]
  generalize w1.heap.size = N7 at *
  clear hw3 X1 X3 cR cR1 X0
  go_region_held3 (fun w' => w'.cell? ⟨N7, 0, none⟩ = some (.string (tQ xA)) ∧ w'.cell? ⟨N7, 1, none⟩ = some (.string (tQ yA)) ∧ w'.cell? ⟨N7, 2, none⟩ = some (.string (tQ x)) ∧ w'.cell? ⟨N7, 3, none⟩ = some (.string (tQ xB)) ∧ w'.cell? ⟨N7, 4, none⟩ = some (.string (tQ yB)) ∧ w'.cell? ⟨N7, 5, none⟩ = some (.string (tQ y)) ∧ w'.cell? ⟨N7, 6, none⟩ = some (.string (tQ xC)) ∧ w'.cell? ⟨N7, 7, none⟩ = some (.string (tQ yC)) ∧ w'.cell? ⟨N7, 8, none⟩ = some (.string (tQ z)) ∧ Below w3.heap.size w3 w')
    (first | exact P2 | exact NS.step (by assumption) hb | exact NS.drew (by assumption))
    (first | (go_at_call 146; (with_reducible refine (S1.out _ ?hx).mono ?_); (case hx => exact XR.trans (NS.bel (by assumption))); rintro e w' ⟨rfl, hb⟩) | (go_at_call 146; (with_reducible refine (S2.out _ ?hx).mono ?_); (case hx => exact XR.trans (NS.bel (by assumption))); rintro e w' ⟨rfl, hb⟩))
  have Q2 : NS N7 w3 (.string (tQ xA)) (.string (tQ yA)) (.string (tQ x)) (.string (tQ xB)) (.string (tQ yB)) (.string (tQ y)) (.string (tQ xC)) (.string (tQ yC)) (.string (tQ z)) w' := by assumption
  have P3 : NS N7 w3 (.string (tQ xA)) (.string (tQ yA)) (.string (tQ x)) (.string (tQ xB)) (.string (tQ yB)) (.string (tQ y)) (.string (tQ xC)) (.string (tQ yC)) (.string (tQ z)) w'.drew := Q2.drew
  go_wp2_with fail
  go_region_held3 (fun w' => w'.cell? ⟨N7, 0, none⟩ = some (.string (tQ xA)) ∧ w'.cell? ⟨N7, 1, none⟩ = some (.string (tQ yA)) ∧ w'.cell? ⟨N7, 2, none⟩ = some (.string (tQ x)) ∧ w'.cell? ⟨N7, 3, none⟩ = some (.string (tQ xB)) ∧ w'.cell? ⟨N7, 4, none⟩ = some (.string (tQ yB)) ∧ w'.cell? ⟨N7, 5, none⟩ = some (.string (tQ y)) ∧ w'.cell? ⟨N7, 6, none⟩ = some (.string (tQ xC)) ∧ w'.cell? ⟨N7, 7, none⟩ = some (.string (tQ yC)) ∧ w'.cell? ⟨N7, 8, none⟩ = some (.string (tQ z)) ∧ Below w3.heap.size w3 w')
    (first | exact P3 | exact NS.step (by assumption) hb | exact NS.drew (by assumption))
    (first | (go_at_call 146; (with_reducible refine (S3.out _ ?hx).mono ?_); (case hx => exact XR.trans (NS.bel (by assumption))); rintro e w' ⟨rfl, hb⟩) | (go_at_call 146; (with_reducible refine (S4.out _ ?hx).mono ?_); (case hx => exact XR.trans (NS.bel (by assumption))); rintro e w' ⟨rfl, hb⟩))
  have Q3 : NS N7 w3 (.string (tQ xA)) (.string (tQ yA)) (.string (tQ x)) (.string (tQ xB)) (.string (tQ yB)) (.string (tQ y)) (.string (tQ xC)) (.string (tQ yC)) (.string (tQ z)) w' := by assumption
  have P4 : NS N7 w3 (.string (tQ xA)) (.string (tQ yA)) (.string (tQ x)) (.string (tQ xB)) (.string (tQ yB)) (.string (tQ y)) (.string (tQ xC)) (.string (tQ yC)) (.string (tQ z)) w'.drew := Q3.drew
  go_wp2_with fail
  go_region_held3 (fun w' => w'.cell? ⟨N7, 0, none⟩ = some (.string (tQ xA)) ∧ w'.cell? ⟨N7, 1, none⟩ = some (.string (tQ yA)) ∧ w'.cell? ⟨N7, 2, none⟩ = some (.string (tQ x)) ∧ w'.cell? ⟨N7, 3, none⟩ = some (.string (tQ xB)) ∧ w'.cell? ⟨N7, 4, none⟩ = some (.string (tQ yB)) ∧ w'.cell? ⟨N7, 5, none⟩ = some (.string (tQ y)) ∧ w'.cell? ⟨N7, 6, none⟩ = some (.string (tQ xC)) ∧ w'.cell? ⟨N7, 7, none⟩ = some (.string (tQ yC)) ∧ w'.cell? ⟨N7, 8, none⟩ = some (.string (tQ z)) ∧ Below w3.heap.size w3 w')
    (first | exact P4 | exact NS.step (by assumption) hb | exact NS.drew (by assumption))
    (first | (go_at_call 146; (with_reducible refine (S5.out _ ?hx).mono ?_); (case hx => exact XR.trans (NS.bel (by assumption))); rintro e w' ⟨rfl, hb⟩) | (go_at_call 146; (with_reducible refine (S6.out _ ?hx).mono ?_); (case hx => exact XR.trans (NS.bel (by assumption))); rintro e w' ⟨rfl, hb⟩))
  have Q4 : NS N7 w3 (.string (tQ xA)) (.string (tQ yA)) (.string (tQ x)) (.string (tQ xB)) (.string (tQ yB)) (.string (tQ y)) (.string (tQ xC)) (.string (tQ yC)) (.string (tQ z)) w' := by assumption
  have P5 : NS N7 w3 (.string (tQ xA)) (.string (tQ yA)) (.string (tQ x)) (.string (tQ xB)) (.string (tQ yB)) (.string (tQ y)) (.string (tQ xC)) (.string (tQ yC)) (.string (tQ z)) w'.drew := Q4.drew
  go_wp2_with fail
  have XA := XR.trans (NS.bel Q4)
  have cR4 := cR3.ext (NS.bel Q4)
  clear P2 P3 P4 P5 Q2 Q3 Q4 cR3 XR S1 S2 S3 S4 S5 S6
  refine (M0.out _ XA).mono ?_
  rintro e v1 ⟨rfl, Y1⟩
  have XA1 := XA.trans Y1
  have cR5 := cR4.ext Y1
  go_wp2_with fail
  refine (HD.out _ XA1).mono ?_
  rintro e v2 ⟨rfl, Y2⟩
  have XA2 := XA1.trans Y2
  have cR6 := cR5.ext Y2
  go_wp2_with fail
  refine (M1.out _ XA2).mono ?_
  rintro e v3 ⟨rfl, Y3⟩
  have XA3 := XA2.trans Y3
  have cR7 := cR6.ext Y3
  go_wp2_with fail
  refine (L1.out _ XA3).mono ?_
  rintro e v4 ⟨rfl, Y4⟩
  have XA4 := XA3.trans Y4
  have cR8 := cR7.ext Y4
  go_wp2_with fail
  refine (M2.out _ XA4).mono ?_
  rintro e v5 ⟨rfl, Y5⟩
  have XA5 := XA4.trans Y5
  have cR9 := cR8.ext Y5
  go_wp2_with fail
  refine (L2.out _ XA5).mono ?_
  rintro e v6 ⟨rfl, Y6⟩
  have XA6 := XA5.trans Y6
  have cRA := cR9.ext Y6
  have hq : Cells (w.heap.size + 1) [.string (tQ sx), .string (tQ sy)] ((v6.setCell ⟨w.heap.size + 1, 0, none⟩ (.string (tQ sx))).setCell ⟨w.heap.size + 1, 1, none⟩ (.string (tQ sy))) := by simpa using ((cRA.put 0 (by simp) (.string (tQ sx))).put 1 (by simp) (.string (tQ sy)))
  have hBq : Ext w ((v6.setCell ⟨w.heap.size + 1, 0, none⟩ (.string (tQ sx))).setCell ⟨w.heap.size + 1, 1, none⟩ (.string (tQ sy))) := (XA6.setCell (by show w.heap.size ≤ w.heap.size + 1; omega) _).setCell (by show w.heap.size ≤ w.heap.size + 1; omega) _
  obtain ⟨k0, g0⟩ := cRA.at 0 _ rfl
  obtain ⟨k1, g1⟩ := cRA.at 1 _ rfl
  go_wp2_with fail
  generalize (v6.setCell ⟨w.heap.size + 1, 0, none⟩ (.string (tQ sx))).setCell ⟨w.heap.size + 1, 1, none⟩ (.string (tQ sy)) = Wq at *
  have r0 := (hq.at 0 _ rfl).1
  have r1 := (hq.at 1 _ rfl).1
  refine bodyPost_ret (v := .agg #[.string (tQ sx), .string (tQ sy)]) ?_ rfl ⟨rfl, hBq⟩
  simp [results, Tryz.results126, go_sem, r0, r1]
end Go.Proofs.YtbiffaciinppiaaGreatDoor
end
