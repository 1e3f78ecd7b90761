/- constraint.slopes. -/
import Derived.Test.YtbiffaciinppiaaGreatDoorVa23
import Derived.Test.YtbiffaciinppiaaGreatDoorVa20
import Derived.Test.YtbiffaciinppiaaGreatDoorVa28
import Derived.Test.YtbiffaciinppiaaGreatDoorVa14
import Derived.Test.YtbiffaciinppiaaGreatDoorVa30
set_option linter.unusedVariables false
set_option linter.unusedSimpArgs false
namespace Go.Proofs.YtbiffaciinppiaaGreatDoor
open Go.RowKit Go.Maps
attribute [local irreducible] tQ
set_option linter.unusedSimpArgs false

theorem tQ_one : tQ 1 = ⟨#[49]⟩ := by decide +kernel
/-- A row of zeros with a 1 at k is the field that is 1 at k. -/
theorem RowOf.unit {q n k : Nat} {w : World} (h : RowOf (fun i => if i = k then 1 else 0) q n w) : FldIn w q 0 (unitL n k) := fun i hi => by
  have hn : i < n := by rw [unitL_len] at hi; exact hi
  have := h.cell hn
  rw [Nat.zero_add, this, show (unitL n k)[i] = (if i = k then 1 else 0) by simp [unitL]]
noncomputable def fmk (k0 k1 k2 : Int) (v : Nat → Value) (k : Nat) : Value → Option Value := match k with
  | 0 => fm0
  | 1 => fm1 k0 (v 0)
  | 2 => fm2 k0 k1 (v 0) (v 1)
  | _ => fm3 k0 k1 k2 (v 0) (v 1) (v 2)
def SlR (k0 k1 k2 : Int) (x y : Nat → Value) (me mn : Nat) (W : World) (v4 v5 v19 : Value) (wr : World) : Prop :=
  ∃ k : Nat, k ≤ 3 ∧ v4 = .map (some me) ∧ v5 = .map (some mn) ∧ v19 = .int .i64 k ∧ MapR wr me k (fmk k0 k1 k2 x k) ∧ MapR wr mn k (fmk k0 k1 k2 y k) ∧ Below me W wr
theorem fmk_no0 {k0 k1 k2 : Int} (v : Nat → Value) : fmk k0 k1 k2 v 0 (.int .i64 k0) = none := rfl
theorem fmk_no1 {k0 k1 k2 : Int} (hne : k0 ≠ k1 ∧ k0 ≠ k2 ∧ k1 ≠ k2) (v : Nat → Value) : fmk k0 k1 k2 v 1 (.int .i64 k1) = none := by
  show fm1 k0 (v 0) (.int .i64 k1) = none
  unfold fm1
  rw [upd_other (by intro e; cases e; exact hne.1 rfl)]; rfl
theorem fmk_no2 {k0 k1 k2 : Int} (hne : k0 ≠ k1 ∧ k0 ≠ k2 ∧ k1 ≠ k2) (v : Nat → Value) : fmk k0 k1 k2 v 2 (.int .i64 k2) = none := by
  show fm2 k0 k1 (v 0) (v 1) (.int .i64 k2) = none
  unfold fm2 fm1
  rw [upd_other (by intro e; cases e; exact hne.2.2 rfl), upd_other (by intro e; cases e; exact hne.2.1 rfl)]; rfl

set_option maxRecDepth 100000 in
set_option maxHeartbeats 4000000 in
theorem slopes_ok {pts : List (Rat × Rat)} {tris : List Tri} {cyc : List Int} (h : Pm pts tris cyc) (hp6 : pts.length ≤ 60) (i : Nat) (hi : i < tris.length) (k0 k1 k2 : Nat) (ht : tris[i] = ((k0 : Int), (k1 : Int), (k2 : Int))) (hk : k0 < pts.length ∧ k1 < pts.length ∧ k2 < pts.length) (hne : k0 ≠ k1 ∧ k0 ≠ k2 ∧ k1 ≠ k2)
    (X Y : Nat → ByteArray) (h0 : X 0 = tQ (slxQ pts (unitL pts.length k0) (trq tris i)) ∧ Y 0 = tQ (slyQ pts (unitL pts.length k0) (trq tris i))) (h1 : X 1 = tQ (slxQ pts (unitL pts.length k1) (trq tris i)) ∧ Y 1 = tQ (slyQ pts (unitL pts.length k1) (trq tris i))) (h2 : X 2 = tQ (slxQ pts (unitL pts.length k2) (trq tris i)) ∧ Y 2 = tQ (slyQ pts (unitL pts.length k2) (trq tris i)))
    (hs : ∀ j, (X j).size ≤ 1000 ∧ (Y j).size ≤ 1000) (pb po pc tb tO tc : Nat) (w : World) (g : Glob w) (hI : MeshIn w pb po tb tO pts tris) :
    Calls Tryz.prog 89 #[mV pb po pc tb tO tc pts tris, .int .i64 i] w (fun e w' => ∃ me mn, e = .returned (.tuple #[.map (some me), .map (some mn), .int .i64 0]) ∧ w.heap.size ≤ me ∧ w.heap.size ≤ mn ∧ MapR w' me 3 (fm3 k0 k1 k2 (.string (X 0)) (.string (X 1)) (.string (X 2))) ∧ MapR w' mn 3 (fm3 k0 k1 k2 (.string (Y 0)) (.string (Y 1)) (.string (Y 2))) ∧ Ext w w') := by
  have hS : ∀ (k : Nat) (sx sy : ByteArray), sx = tQ (slxQ pts (unitL pts.length k) (trq tris i)) → sy = tQ (slyQ pts (unitL pts.length k) (trq tris i)) → ∀ (q fc : Nat) W, Ext w W → FldIn W q 0 (unitL pts.length k) → Calls Tryz.prog 71 #[mV pb po pc tb tO tc pts tris, .slice (some ⟨q, 0, none⟩) pts.length fc, .int .i64 i] W (Ret (.tuple #[.agg #[.string sx, .string sy], .int .i64 0]) W) := fun k sx sy ex ey q fc W XE hF => by
    rw [ex, ey]
    exact slope_pl h (unitL pts.length k) pb po pc tb tO tc q 0 fc W (g.ext XE) (hI.ext XE) hF (unitL_len _ _) (unitL_gr _ _) i hi
  have HS0 := Lib.hid (hS k0 _ _ h0.1 h0.2)
  have HS1 := Lib.hid (hS k1 _ _ h1.1 h1.2)
  have HS2 := Lib.hid (hS k2 _ _ h2.1 h2.2)
  have hpos : 0 < pts.length := by omega
  have HR := Lib.hid (fun xb W hx => rep2 z48 rfl xb pts.length hpos hp6 W hx)
  have htr := hI.t i hi
  rw [ht] at htr
  have htl : tris.length ≤ 800 := h.ok.tlen
  have ii : (i : Int) < tris.length := by omega
  have ii0 : (0 : Int) ≤ (i : Int) := by omega
  clear h g hI h0 h1 h2 hS ht
  simp only [mV] at *
  generalize pts.length = n at *
  generalize tris.length = m at *
  go_enter Tryz.func89, Tryz.ntmps89
  have hmm := @run_makeMap Tryz.prog
  go_upto_region 2 with fail
  clear hmm
  have hW : ∃ W0, W0 = ((w.alloc (.cells #[.slice (some ⟨pb, po, none⟩) n pc, .slice (some ⟨tb, tO, none⟩) m tc] 37)).alloc (.map #[] 0)).alloc (.map #[] 0) := ⟨_, rfl⟩
  obtain ⟨W0, hW0⟩ := hW
  have X0 : Ext w W0 := by rw [hW0]; exact (((Ext.refl w).alloc _).alloc _).alloc _
  have c0 : Cells w.heap.size [.slice (some ⟨pb, po, none⟩) n pc, .slice (some ⟨tb, tO, none⟩) m tc] W0 := by rw [hW0]; exact (Cells.new w [.slice (some ⟨pb, po, none⟩) n pc, .slice (some ⟨tb, tO, none⟩) m tc] 37).ext (((Ext.refl _).alloc _).alloc _)
  have e0 : MapR W0 (w.heap.size + 1) 0 (fmk k0 k1 k2 (fun j => .string (X j)) 0) := by
    have := (MapE.made (w.alloc (.cells #[.slice (some ⟨pb, po, none⟩) n pc, .slice (some ⟨tb, tO, none⟩) m tc] 37)) Tryz.prog 3 54).alloc (.map #[] 0)
    rw [World.size_alloc] at this
    rw [hW0]; exact this
  have n0 : MapR W0 (w.heap.size + 1 + 1) 0 (fmk k0 k1 k2 (fun j => .string (Y j)) 0) := by
    have := MapE.made ((w.alloc (.cells #[.slice (some ⟨pb, po, none⟩) n pc, .slice (some ⟨tb, tO, none⟩) m tc] 37)).alloc (.map #[] 0)) Tryz.prog 3 54
    rw [World.size_alloc, World.size_alloc] at this
    rw [hW0]; exact this
  have hs0 : W0.heap.size = w.heap.size + 3 := by rw [hW0]; simp
  have HZ0 := Lib.hid hs0
  rw [← hW0]
  clear hW0 hs0
  have hme : ∃ me mn, me = w.heap.size + 1 ∧ mn = w.heap.size + 1 + 1 := ⟨_, _, rfl, rfl⟩
  obtain ⟨me, mn, hme, hmn⟩ := hme
  rw [← hmn] at n0 ⊢
  rw [← hme] at e0 ⊢
  have HME := Lib.hid (And.intro hme hmn)
  clear hme hmn
  obtain ⟨t0, t1, t2⟩ := htr
  have u0 := X0.cell t0
  have u1 := X0.cell t1
  have u2 := X0.cell t2
  have d1 := (c0.at 1 _ rfl).1
  go_wp2_with fail
  clear t0 t1 t2 u0 u1 u2 d1 ii ii0
  have HNE := Lib.hid hne
  have hst : SlR k0 k1 k2 (fun j => .string (X j)) (fun j => .string (Y j)) me mn W0 (.map (some me)) (.map (some mn)) (.int .i64 0) W0 := ⟨0, by omega, rfl, rfl, rfl, e0, n0, Below.refl _ _⟩
  have hkI : Hid (k0 < n ∧ k1 < n ∧ k2 < n) := Lib.hid hk
  have hneI : Hid ((k0 : Int) ≠ k1 ∧ (k0 : Int) ≠ k2 ∧ (k1 : Int) ≠ k2) := Lib.hid ⟨by omega, by omega, by omega⟩
  have hn6 := Lib.hid hp6
  clear hne hk e0 n0 hp6
  go_loopw [4, 5, 19] (SlR k0 k1 k2 (fun j => .string (X j)) (fun j => .string (Y j)) me mn W0) (fun _ _ p _ => 3 - (intOf p).toNat)
  case atStart => exact hst
  case round =>
    obtain ⟨k, hk, rfl, rfl, rfl, hE, hN, hB⟩ := hrel
    have hwrs := hB.size
    have hsz := HZ0.out
    obtain ⟨hme, hmn⟩ := HME.out
    have hcm : Cells w.heap.size [.slice (some ⟨pb, po, none⟩) n pc, .slice (some ⟨tb, tO, none⟩) m tc] wr := c0.block hB (by omega)
    have XR : Ext w wr := X0.trans' (hB.mono (by omega))
    have HEN := Lib.hid (And.intro hE hN)
    have HB := Lib.hid hB
    have HW := Lib.hid (And.intro hwrs (And.intro hsz (And.intro hme hmn)))
    clear hE hN hB hst c0 X0 hwrs hsz hme hmn
    rcases (show k = 0 ∨ k = 1 ∨ k = 2 ∨ k = 3 by omega) with rfl | rfl | rfl | rfl
    · have hix := ixT0 k0 k1 k2 wr
      have hK0 : (0 : Int) ≤ ((k0 : Nat) : Int) := by omega
      have hK1 : ((k0 : Nat) : Int) < ((n : Nat) : Int) := by have := hkI.out; omega
      have mm0 := ((hcm.ext ((Ext.refl wr).alloc (.cells #[.string ⟨#[48]⟩] 54))).at 0 _ rfl).1
      go_wp2_with fail
      have y0 := cell_newl wr z48 54
      have Z0 := (Ext.refl wr).alloc (.cells #[z48] 54)
      have hsA : (wr.alloc (.cells #[z48] 54)).heap.size = wr.heap.size + 1 := by simp
      refine (HR.out _ _ y0).mono ?_
      rintro e w2 ⟨q, cur, rfl, hq, hrow, Z1⟩
      have hZ : Hid (wr.heap.size + 1 ≤ q) := Lib.hid (by omega)
      clear hsA y0 hq
      have hro : RowOf (fun _ => 0) q n w2 := RowZ.of hrow
      have ZZ := Z0.trans Z1
      have hc2 := hcm.ext ZZ
      have hcell := hro.cell (j := k0) (by have := hkI.out; omega)
      have hfrz := hro.frozen k0
      have hW5 : ∃ W5, W5 = w2.setCell ⟨q, k0, none⟩ (.string ⟨#[49]⟩) := ⟨_, rfl⟩
      obtain ⟨W5, hW5⟩ := hW5
      have hro5 : FldIn W5 q 0 (unitL n k0) := by
        have := hro.put k0 (by have := hkI.out; omega) 1
        rw [tQ_one] at this
        rw [hW5]; exact RowOf.unit (this.congr fun _ _ => rfl)
      have Z5 : Ext wr W5 := by rw [hW5]; exact ZZ.setCell (p := ⟨q, k0, none⟩) (by have := hZ.out; show wr.heap.size ≤ q; omega) _
      have hc5 := hcm.ext Z5
      have mm5 := (hc5.at 0 _ rfl).1
      have mm6 := (hc5.at 1 _ rfl).1
      clear hro hrow Z1 ZZ mm0 hcm hix
      go_upto_region 7 with fail
      rw [← hW5]
      clear hW5 hcell hfrz hc2
      go_wp2_with fail
      refine (HS0.out q n W5 (XR.trans Z5) hro5).mono ?_
      rintro e w6 ⟨rfl, Z6⟩
      clear mm5 mm6 hro5 hK0 hK1 hZ
      go_upto_region 10 with fail
      have Z7 := Z5.trans Z6
      clear Z5 Z6 Z0
      have hW7 : ∃ W7, W7 = w6.alloc (.cells #[.string (X 0), .string (Y 0)] 91) := ⟨_, rfl⟩
      obtain ⟨W7, hW7⟩ := hW7
      rw [← hW7]
      have hg7 : Cells w6.heap.size [.string (X 0), .string (Y 0)] W7 := by rw [hW7]; exact Cells.new _ _ _
      have Z8 : Ext wr W7 := by rw [hW7]; exact Z7.alloc _
      have hnbs := Z7.size
      clear hW7 Z7 hc5
      have nb0 := (hg7.at 0 _ rfl).1
      have nb1 := (hg7.at 1 _ rfl).1
      have hnb : Hid (wr.heap.size ≤ w6.heap.size) := Lib.hid hnbs
      clear hnbs hg7
      generalize w6.heap.size = nb at *
      have nbl : nb < W7.heap.size := World.block_lt_of_cell? W7 _ nb0
      refine wp_region_Z' (TN nb 0 1 (.string (X 0)) (.string (Y 0))) 9 (by kernel_rfl) ?_
      intro V0 hV0
      have Y0 : Ext W7 V0 := by rw [hV0]; exact (Ext.refl W7).drew
      have hT : TN nb 0 1 (.string (X 0)) (.string (Y 0)) false V0 := ⟨Y0.cell nb0, Y0.cell nb1⟩
      clear hV0
      refine' wpAnyZ_take 9 (i := 0) (v := _) rfl rfl (by kernel_rfl) (by decide) (by kernel_rfl) (by kernel_rfl) (by kernel_rfl) (by kernel_rfl) (fun _ _ _ h => h.no.elim) hT (by rfl) ?hy ?_
      case hy => (intro w' hS; obtain ⟨q0, q1⟩ := hS.c; clear hS; go_simp; rfl)
      try simp only [Act.put, List.getElem_toArray, List.getElem_cons_zero, List.getElem_cons_succ, List.setIfInBounds_toArray, List.set_cons_zero, List.set_cons_succ]
      refine' wpAnyZ_take 9 (i := 1) (v := _) rfl rfl (by kernel_rfl) (by decide) (by kernel_rfl) (by kernel_rfl) (by kernel_rfl) (by kernel_rfl) (fun _ _ _ h => h.no.elim) hT (by rfl) ?hy ?_
      case hy => (intro w' hS; obtain ⟨q0, q1⟩ := hS.c; clear hS; go_simp; rfl)
      try simp only [Act.put, List.getElem_toArray, List.getElem_cons_zero, List.getElem_cons_succ, List.setIfInBounds_toArray, List.set_cons_zero, List.set_cons_succ]
      refine' wpAnyZ_take 9 (i := 2) (v := _) rfl rfl (by kernel_rfl) (by decide) (by kernel_rfl) (by kernel_rfl) (by kernel_rfl) (by kernel_rfl) (fun _ _ _ h => h.no.elim) hT (by rfl) ?hy ?_
      case hy => (intro w' hS; obtain ⟨q0, q1⟩ := hS.c; clear hS; go_simp; rfl)
      try simp only [Act.put, List.getElem_toArray, List.getElem_cons_zero, List.getElem_cons_succ, List.setIfInBounds_toArray, List.set_cons_zero, List.set_cons_succ]
      refine' wpAnyZ_take 9 (i := 3) (v := _) rfl rfl (by kernel_rfl) (by decide) (by kernel_rfl) (by kernel_rfl) (by kernel_rfl) (by kernel_rfl) (fun _ _ _ h => h.no.elim) hT (by rfl) ?hy ?_
      case hy => (intro w' hS; obtain ⟨q0, q1⟩ := hS.c; clear hS; go_simp; rfl)
      try simp only [Act.put, List.getElem_toArray, List.getElem_cons_zero, List.getElem_cons_succ, List.setIfInBounds_toArray, List.set_cons_zero, List.set_cons_succ]
      refine' wpAnyZ_take 9 (i := 4) (v := _) rfl rfl (by kernel_rfl) (by decide) (by kernel_rfl) (by kernel_rfl) (by kernel_rfl) (by kernel_rfl) (fun _ _ _ h => h.no.elim) hT (by rfl) ?hy ?_
      case hy => (intro w' hS; obtain ⟨q0, q1⟩ := hS.c; clear hS; go_simp; rfl)
      try simp only [Act.put, List.getElem_toArray, List.getElem_cons_zero, List.getElem_cons_succ, List.setIfInBounds_toArray, List.set_cons_zero, List.set_cons_succ]
      refine' wpAnyZ_take 9 (i := 5) (v := _) rfl rfl (by kernel_rfl) (by decide) (by kernel_rfl) (by kernel_rfl) (by kernel_rfl) (by kernel_rfl) (fun _ _ _ h => h.no.elim) hT (by rfl) ?hy ?_
      case hy => (intro w' hS; obtain ⟨q0, q1⟩ := hS.c; clear hS; go_simp; rfl)
      try simp only [Act.put, List.getElem_toArray, List.getElem_cons_zero, List.getElem_cons_succ, List.setIfInBounds_toArray, List.set_cons_zero, List.set_cons_succ]
      refine' wpAnyZ_take 9 (i := 6) (v := _) rfl rfl (by kernel_rfl) (by decide) (by kernel_rfl) (by kernel_rfl) (by kernel_rfl) (by kernel_rfl) (fun _ _ _ h => h.no.elim) hT (by rfl) ?hy ?_
      case hy => (intro w' hS; obtain ⟨q0, q1⟩ := hS.c; clear hS; go_simp; rfl)
      try simp only [Act.put, List.getElem_toArray, List.getElem_cons_zero, List.getElem_cons_succ, List.setIfInBounds_toArray, List.set_cons_zero, List.set_cons_succ]
      refine' wpAnyZ_take 9 (i := 7) (v := _) rfl rfl (by kernel_rfl) (by decide) (by kernel_rfl) (by kernel_rfl) (by kernel_rfl) (by kernel_rfl) (fun _ _ _ h => h.no.elim) hT (by rfl) ?hy ?_
      case hy => (intro w' hS; obtain ⟨q0, q1⟩ := hS.c; clear hS; go_simp; rfl)
      try simp only [Act.put, List.getElem_toArray, List.getElem_cons_zero, List.getElem_cons_succ, List.setIfInBounds_toArray, List.set_cons_zero, List.set_cons_succ]
      have Z9 := Z8.trans Y0
      have hEN := HEN.out
      have hx := HW.out
      have hno := fmk_no0 (k0 := k0) (k1 := k1) (k2 := k2) (fun j => .string (X j))
      have hno2 := fmk_no0 (k0 := k0) (k1 := k1) (k2 := k2) (fun j => .string (Y j))
      have hI64 : I64 ((k0 : Nat) : Int) := by have := hkI.out; have := hn6.out; exact ⟨by omega, by omega⟩
      obtain ⟨V1, hup, hE1, hg1⟩ := putR (hEN.1.same (Z9.block me hEN.1.lt)) (by omega) k0 hI64 (X 0) (hs 0).1 hno
      have hml := hEN.1.lt
      have hnl := hEN.2.lt
      have hnbx := hnb.out
      have hs1 := hg1.size
      have hs9 := Z9.size
      have hs8 := Y0.size
      have hT1 : TN nb 0 1 (.string (X 0)) (.string (Y 0)) false V1 := by
        have hb := hg1.block nb (by omega) (by intro e; cases e; omega)
        refine ⟨?_, ?_⟩
        · have := Y0.cell nb0; simp only [World.cell?] at this ⊢; rw [hb]; exact this
        · have := Y0.cell nb1; simp only [World.cell?] at this ⊢; rw [hb]; exact this
      obtain ⟨V2, hup2, hN2, hg2⟩ := putR ((hEN.2.same (Z9.block mn hEN.2.lt)).kept hg1 (by intro e; cases e; omega)) (by omega) k0 hI64 (Y 0) (hs 0).2 hno2
      have HE : Hid (SlR k0 k1 k2 (fun j => .string (X j)) (fun j => .string (Y j)) me mn W0 (.map (some me)) (.map (some mn)) (.int .i64 1) V2) := Lib.hid
        ⟨1, by omega, rfl, rfl, rfl, hE1.kept hg2 (by intro e; cases e; omega), hN2, Below.grown (Below.grown (HB.out.trans (Below.mono Z9 (by omega))) hg1 (by omega) (fun k e => by cases e; omega)) hg2 (by omega) (fun k e => by cases e; omega)⟩
      clear hE1 hN2 hg1 hg2 hEN hx hno hno2 hI64 hml hnl hnbx hs1 hs9 hs8 Z9 Z8 Y0 nb0 nb1 nbl hT
      refine wpAnyZ_one false (i := 8) (by kernel_rfl) (by kernel_rfl) rfl (fun K' hK => ?_)
      go_simp
      refine hK.out _ _ hT1 ?_
      clear hK K' hup
      try simp only [Act.put, List.getElem_toArray, List.getElem_cons_zero, List.getElem_cons_succ, List.setIfInBounds_toArray, List.set_cons_zero, List.set_cons_succ]
      refine wpAnyZ_one true (i := 9) (by kernel_rfl) (by kernel_rfl) rfl (fun K' hK => ?_)
      go_simp
      refine hK.out _ _ trivial ?_
      clear hK K' hup2
      refine wpAnyZ_done (by kernel_rfl) ⟨rfl, ?_⟩ _
      go_wp2_with fail
      exact ⟨HE.out, by simp only [intOf]; omega⟩
    · have hix := ixT1 k0 k1 k2 wr
      have hK0 : (0 : Int) ≤ ((k1 : Nat) : Int) := by omega
      have hK1 : ((k1 : Nat) : Int) < ((n : Nat) : Int) := by have := hkI.out; omega
      have mm0 := ((hcm.ext ((Ext.refl wr).alloc (.cells #[.string ⟨#[48]⟩] 54))).at 0 _ rfl).1
      go_wp2_with fail
      have y0 := cell_newl wr z48 54
      have Z0 := (Ext.refl wr).alloc (.cells #[z48] 54)
      have hsA : (wr.alloc (.cells #[z48] 54)).heap.size = wr.heap.size + 1 := by simp
      refine (HR.out _ _ y0).mono ?_
      rintro e w2 ⟨q, cur, rfl, hq, hrow, Z1⟩
      have hZ : Hid (wr.heap.size + 1 ≤ q) := Lib.hid (by omega)
      clear hsA y0 hq
      have hro : RowOf (fun _ => 0) q n w2 := RowZ.of hrow
      have ZZ := Z0.trans Z1
      have hc2 := hcm.ext ZZ
      have hcell := hro.cell (j := k1) (by have := hkI.out; omega)
      have hfrz := hro.frozen k1
      have hW5 : ∃ W5, W5 = w2.setCell ⟨q, k1, none⟩ (.string ⟨#[49]⟩) := ⟨_, rfl⟩
      obtain ⟨W5, hW5⟩ := hW5
      have hro5 : FldIn W5 q 0 (unitL n k1) := by
        have := hro.put k1 (by have := hkI.out; omega) 1
        rw [tQ_one] at this
        rw [hW5]; exact RowOf.unit (this.congr fun _ _ => rfl)
      have Z5 : Ext wr W5 := by rw [hW5]; exact ZZ.setCell (p := ⟨q, k1, none⟩) (by have := hZ.out; show wr.heap.size ≤ q; omega) _
      have hc5 := hcm.ext Z5
      have mm5 := (hc5.at 0 _ rfl).1
      have mm6 := (hc5.at 1 _ rfl).1
      clear hro hrow Z1 ZZ mm0 hcm hix
      go_upto_region 7 with fail
      rw [← hW5]
      clear hW5 hcell hfrz hc2
      go_wp2_with fail
      refine (HS1.out q n W5 (XR.trans Z5) hro5).mono ?_
      rintro e w6 ⟨rfl, Z6⟩
      clear mm5 mm6 hro5 hK0 hK1 hZ
      go_upto_region 10 with fail
      have Z7 := Z5.trans Z6
      clear Z5 Z6 Z0
      have hW7 : ∃ W7, W7 = w6.alloc (.cells #[.string (X 1), .string (Y 1)] 91) := ⟨_, rfl⟩
      obtain ⟨W7, hW7⟩ := hW7
      rw [← hW7]
      have hg7 : Cells w6.heap.size [.string (X 1), .string (Y 1)] W7 := by rw [hW7]; exact Cells.new _ _ _
      have Z8 : Ext wr W7 := by rw [hW7]; exact Z7.alloc _
      have hnbs := Z7.size
      clear hW7 Z7 hc5
      have nb0 := (hg7.at 0 _ rfl).1
      have nb1 := (hg7.at 1 _ rfl).1
      have hnb : Hid (wr.heap.size ≤ w6.heap.size) := Lib.hid hnbs
      clear hnbs hg7
      generalize w6.heap.size = nb at *
      have nbl : nb < W7.heap.size := World.block_lt_of_cell? W7 _ nb0
      refine wp_region_Z' (TN nb 0 1 (.string (X 1)) (.string (Y 1))) 9 (by kernel_rfl) ?_
      intro V0 hV0
      have Y0 : Ext W7 V0 := by rw [hV0]; exact (Ext.refl W7).drew
      have hT : TN nb 0 1 (.string (X 1)) (.string (Y 1)) false V0 := ⟨Y0.cell nb0, Y0.cell nb1⟩
      clear hV0
      refine' wpAnyZ_take 9 (i := 0) (v := _) rfl rfl (by kernel_rfl) (by decide) (by kernel_rfl) (by kernel_rfl) (by kernel_rfl) (by kernel_rfl) (fun _ _ _ h => h.no.elim) hT (by rfl) ?hy ?_
      case hy => (intro w' hS; obtain ⟨q0, q1⟩ := hS.c; clear hS; go_simp; rfl)
      try simp only [Act.put, List.getElem_toArray, List.getElem_cons_zero, List.getElem_cons_succ, List.setIfInBounds_toArray, List.set_cons_zero, List.set_cons_succ]
      refine' wpAnyZ_take 9 (i := 1) (v := _) rfl rfl (by kernel_rfl) (by decide) (by kernel_rfl) (by kernel_rfl) (by kernel_rfl) (by kernel_rfl) (fun _ _ _ h => h.no.elim) hT (by rfl) ?hy ?_
      case hy => (intro w' hS; obtain ⟨q0, q1⟩ := hS.c; clear hS; go_simp; rfl)
      try simp only [Act.put, List.getElem_toArray, List.getElem_cons_zero, List.getElem_cons_succ, List.setIfInBounds_toArray, List.set_cons_zero, List.set_cons_succ]
      refine' wpAnyZ_take 9 (i := 2) (v := _) rfl rfl (by kernel_rfl) (by decide) (by kernel_rfl) (by kernel_rfl) (by kernel_rfl) (by kernel_rfl) (fun _ _ _ h => h.no.elim) hT (by rfl) ?hy ?_
      case hy => (intro w' hS; obtain ⟨q0, q1⟩ := hS.c; clear hS; go_simp; rfl)
      try simp only [Act.put, List.getElem_toArray, List.getElem_cons_zero, List.getElem_cons_succ, List.setIfInBounds_toArray, List.set_cons_zero, List.set_cons_succ]
      refine' wpAnyZ_take 9 (i := 3) (v := _) rfl rfl (by kernel_rfl) (by decide) (by kernel_rfl) (by kernel_rfl) (by kernel_rfl) (by kernel_rfl) (fun _ _ _ h => h.no.elim) hT (by rfl) ?hy ?_
      case hy => (intro w' hS; obtain ⟨q0, q1⟩ := hS.c; clear hS; go_simp; rfl)
      try simp only [Act.put, List.getElem_toArray, List.getElem_cons_zero, List.getElem_cons_succ, List.setIfInBounds_toArray, List.set_cons_zero, List.set_cons_succ]
      refine' wpAnyZ_take 9 (i := 4) (v := _) rfl rfl (by kernel_rfl) (by decide) (by kernel_rfl) (by kernel_rfl) (by kernel_rfl) (by kernel_rfl) (fun _ _ _ h => h.no.elim) hT (by rfl) ?hy ?_
      case hy => (intro w' hS; obtain ⟨q0, q1⟩ := hS.c; clear hS; go_simp; rfl)
      try simp only [Act.put, List.getElem_toArray, List.getElem_cons_zero, List.getElem_cons_succ, List.setIfInBounds_toArray, List.set_cons_zero, List.set_cons_succ]
      refine' wpAnyZ_take 9 (i := 5) (v := _) rfl rfl (by kernel_rfl) (by decide) (by kernel_rfl) (by kernel_rfl) (by kernel_rfl) (by kernel_rfl) (fun _ _ _ h => h.no.elim) hT (by rfl) ?hy ?_
      case hy => (intro w' hS; obtain ⟨q0, q1⟩ := hS.c; clear hS; go_simp; rfl)
      try simp only [Act.put, List.getElem_toArray, List.getElem_cons_zero, List.getElem_cons_succ, List.setIfInBounds_toArray, List.set_cons_zero, List.set_cons_succ]
      refine' wpAnyZ_take 9 (i := 6) (v := _) rfl rfl (by kernel_rfl) (by decide) (by kernel_rfl) (by kernel_rfl) (by kernel_rfl) (by kernel_rfl) (fun _ _ _ h => h.no.elim) hT (by rfl) ?hy ?_
      case hy => (intro w' hS; obtain ⟨q0, q1⟩ := hS.c; clear hS; go_simp; rfl)
      try simp only [Act.put, List.getElem_toArray, List.getElem_cons_zero, List.getElem_cons_succ, List.setIfInBounds_toArray, List.set_cons_zero, List.set_cons_succ]
      refine' wpAnyZ_take 9 (i := 7) (v := _) rfl rfl (by kernel_rfl) (by decide) (by kernel_rfl) (by kernel_rfl) (by kernel_rfl) (by kernel_rfl) (fun _ _ _ h => h.no.elim) hT (by rfl) ?hy ?_
      case hy => (intro w' hS; obtain ⟨q0, q1⟩ := hS.c; clear hS; go_simp; rfl)
      try simp only [Act.put, List.getElem_toArray, List.getElem_cons_zero, List.getElem_cons_succ, List.setIfInBounds_toArray, List.set_cons_zero, List.set_cons_succ]
      have Z9 := Z8.trans Y0
      have hEN := HEN.out
      have hx := HW.out
      have hno := fmk_no1 hneI (k0 := k0) (k1 := k1) (k2 := k2) (fun j => .string (X j))
      have hno2 := fmk_no1 hneI (k0 := k0) (k1 := k1) (k2 := k2) (fun j => .string (Y j))
      have hI64 : I64 ((k1 : Nat) : Int) := by have := hkI.out; have := hn6.out; exact ⟨by omega, by omega⟩
      obtain ⟨V1, hup, hE1, hg1⟩ := putR (hEN.1.same (Z9.block me hEN.1.lt)) (by omega) k1 hI64 (X 1) (hs 1).1 hno
      have hml := hEN.1.lt
      have hnl := hEN.2.lt
      have hnbx := hnb.out
      have hs1 := hg1.size
      have hs9 := Z9.size
      have hs8 := Y0.size
      have hT1 : TN nb 0 1 (.string (X 1)) (.string (Y 1)) false V1 := by
        have hb := hg1.block nb (by omega) (by intro e; cases e; omega)
        refine ⟨?_, ?_⟩
        · have := Y0.cell nb0; simp only [World.cell?] at this ⊢; rw [hb]; exact this
        · have := Y0.cell nb1; simp only [World.cell?] at this ⊢; rw [hb]; exact this
      obtain ⟨V2, hup2, hN2, hg2⟩ := putR ((hEN.2.same (Z9.block mn hEN.2.lt)).kept hg1 (by intro e; cases e; omega)) (by omega) k1 hI64 (Y 1) (hs 1).2 hno2
      have HE : Hid (SlR k0 k1 k2 (fun j => .string (X j)) (fun j => .string (Y j)) me mn W0 (.map (some me)) (.map (some mn)) (.int .i64 2) V2) := Lib.hid
        ⟨2, by omega, rfl, rfl, rfl, hE1.kept hg2 (by intro e; cases e; omega), hN2, Below.grown (Below.grown (HB.out.trans (Below.mono Z9 (by omega))) hg1 (by omega) (fun k e => by cases e; omega)) hg2 (by omega) (fun k e => by cases e; omega)⟩
      clear hE1 hN2 hg1 hg2 hEN hx hno hno2 hI64 hml hnl hnbx hs1 hs9 hs8 Z9 Z8 Y0 nb0 nb1 nbl hT
      refine wpAnyZ_one false (i := 8) (by kernel_rfl) (by kernel_rfl) rfl (fun K' hK => ?_)
      go_simp
      refine hK.out _ _ hT1 ?_
      clear hK K' hup
      try simp only [Act.put, List.getElem_toArray, List.getElem_cons_zero, List.getElem_cons_succ, List.setIfInBounds_toArray, List.set_cons_zero, List.set_cons_succ]
      refine wpAnyZ_one true (i := 9) (by kernel_rfl) (by kernel_rfl) rfl (fun K' hK => ?_)
      go_simp
      refine hK.out _ _ trivial ?_
      clear hK K' hup2
      refine wpAnyZ_done (by kernel_rfl) ⟨rfl, ?_⟩ _
      go_wp2_with fail
      exact ⟨HE.out, by simp only [intOf]; omega⟩
    · have hix := ixT2 k0 k1 k2 wr
      have hK0 : (0 : Int) ≤ ((k2 : Nat) : Int) := by omega
      have hK1 : ((k2 : Nat) : Int) < ((n : Nat) : Int) := by have := hkI.out; omega
      have mm0 := ((hcm.ext ((Ext.refl wr).alloc (.cells #[.string ⟨#[48]⟩] 54))).at 0 _ rfl).1
      go_wp2_with fail
      have y0 := cell_newl wr z48 54
      have Z0 := (Ext.refl wr).alloc (.cells #[z48] 54)
      have hsA : (wr.alloc (.cells #[z48] 54)).heap.size = wr.heap.size + 1 := by simp
      refine (HR.out _ _ y0).mono ?_
      rintro e w2 ⟨q, cur, rfl, hq, hrow, Z1⟩
      have hZ : Hid (wr.heap.size + 1 ≤ q) := Lib.hid (by omega)
      clear hsA y0 hq
      have hro : RowOf (fun _ => 0) q n w2 := RowZ.of hrow
      have ZZ := Z0.trans Z1
      have hc2 := hcm.ext ZZ
      have hcell := hro.cell (j := k2) (by have := hkI.out; omega)
      have hfrz := hro.frozen k2
      have hW5 : ∃ W5, W5 = w2.setCell ⟨q, k2, none⟩ (.string ⟨#[49]⟩) := ⟨_, rfl⟩
      obtain ⟨W5, hW5⟩ := hW5
      have hro5 : FldIn W5 q 0 (unitL n k2) := by
        have := hro.put k2 (by have := hkI.out; omega) 1
        rw [tQ_one] at this
        rw [hW5]; exact RowOf.unit (this.congr fun _ _ => rfl)
      have Z5 : Ext wr W5 := by rw [hW5]; exact ZZ.setCell (p := ⟨q, k2, none⟩) (by have := hZ.out; show wr.heap.size ≤ q; omega) _
      have hc5 := hcm.ext Z5
      have mm5 := (hc5.at 0 _ rfl).1
      have mm6 := (hc5.at 1 _ rfl).1
      clear hro hrow Z1 ZZ mm0 hcm hix
      go_upto_region 7 with fail
      rw [← hW5]
      clear hW5 hcell hfrz hc2
      go_wp2_with fail
      refine (HS2.out q n W5 (XR.trans Z5) hro5).mono ?_
      rintro e w6 ⟨rfl, Z6⟩
      clear mm5 mm6 hro5 hK0 hK1 hZ
      go_upto_region 10 with fail
      have Z7 := Z5.trans Z6
      clear Z5 Z6 Z0
      have hW7 : ∃ W7, W7 = w6.alloc (.cells #[.string (X 2), .string (Y 2)] 91) := ⟨_, rfl⟩
      obtain ⟨W7, hW7⟩ := hW7
      rw [← hW7]
      have hg7 : Cells w6.heap.size [.string (X 2), .string (Y 2)] W7 := by rw [hW7]; exact Cells.new _ _ _
      have Z8 : Ext wr W7 := by rw [hW7]; exact Z7.alloc _
      have hnbs := Z7.size
      clear hW7 Z7 hc5
      have nb0 := (hg7.at 0 _ rfl).1
      have nb1 := (hg7.at 1 _ rfl).1
      have hnb : Hid (wr.heap.size ≤ w6.heap.size) := Lib.hid hnbs
      clear hnbs hg7
      generalize w6.heap.size = nb at *
      have nbl : nb < W7.heap.size := World.block_lt_of_cell? W7 _ nb0
      refine wp_region_Z' (TN nb 0 1 (.string (X 2)) (.string (Y 2))) 9 (by kernel_rfl) ?_
      intro V0 hV0
      have Y0 : Ext W7 V0 := by rw [hV0]; exact (Ext.refl W7).drew
      have hT : TN nb 0 1 (.string (X 2)) (.string (Y 2)) false V0 := ⟨Y0.cell nb0, Y0.cell nb1⟩
      clear hV0
      refine' wpAnyZ_take 9 (i := 0) (v := _) rfl rfl (by kernel_rfl) (by decide) (by kernel_rfl) (by kernel_rfl) (by kernel_rfl) (by kernel_rfl) (fun _ _ _ h => h.no.elim) hT (by rfl) ?hy ?_
      case hy => (intro w' hS; obtain ⟨q0, q1⟩ := hS.c; clear hS; go_simp; rfl)
      try simp only [Act.put, List.getElem_toArray, List.getElem_cons_zero, List.getElem_cons_succ, List.setIfInBounds_toArray, List.set_cons_zero, List.set_cons_succ]
      refine' wpAnyZ_take 9 (i := 1) (v := _) rfl rfl (by kernel_rfl) (by decide) (by kernel_rfl) (by kernel_rfl) (by kernel_rfl) (by kernel_rfl) (fun _ _ _ h => h.no.elim) hT (by rfl) ?hy ?_
      case hy => (intro w' hS; obtain ⟨q0, q1⟩ := hS.c; clear hS; go_simp; rfl)
      try simp only [Act.put, List.getElem_toArray, List.getElem_cons_zero, List.getElem_cons_succ, List.setIfInBounds_toArray, List.set_cons_zero, List.set_cons_succ]
      refine' wpAnyZ_take 9 (i := 2) (v := _) rfl rfl (by kernel_rfl) (by decide) (by kernel_rfl) (by kernel_rfl) (by kernel_rfl) (by kernel_rfl) (fun _ _ _ h => h.no.elim) hT (by rfl) ?hy ?_
      case hy => (intro w' hS; obtain ⟨q0, q1⟩ := hS.c; clear hS; go_simp; rfl)
      try simp only [Act.put, List.getElem_toArray, List.getElem_cons_zero, List.getElem_cons_succ, List.setIfInBounds_toArray, List.set_cons_zero, List.set_cons_succ]
      refine' wpAnyZ_take 9 (i := 3) (v := _) rfl rfl (by kernel_rfl) (by decide) (by kernel_rfl) (by kernel_rfl) (by kernel_rfl) (by kernel_rfl) (fun _ _ _ h => h.no.elim) hT (by rfl) ?hy ?_
      case hy => (intro w' hS; obtain ⟨q0, q1⟩ := hS.c; clear hS; go_simp; rfl)
      try simp only [Act.put, List.getElem_toArray, List.getElem_cons_zero, List.getElem_cons_succ, List.setIfInBounds_toArray, List.set_cons_zero, List.set_cons_succ]
      refine' wpAnyZ_take 9 (i := 4) (v := _) rfl rfl (by kernel_rfl) (by decide) (by kernel_rfl) (by kernel_rfl) (by kernel_rfl) (by kernel_rfl) (fun _ _ _ h => h.no.elim) hT (by rfl) ?hy ?_
      case hy => (intro w' hS; obtain ⟨q0, q1⟩ := hS.c; clear hS; go_simp; rfl)
      try simp only [Act.put, List.getElem_toArray, List.getElem_cons_zero, List.getElem_cons_succ, List.setIfInBounds_toArray, List.set_cons_zero, List.set_cons_succ]
      refine' wpAnyZ_take 9 (i := 5) (v := _) rfl rfl (by kernel_rfl) (by decide) (by kernel_rfl) (by kernel_rfl) (by kernel_rfl) (by kernel_rfl) (fun _ _ _ h => h.no.elim) hT (by rfl) ?hy ?_
      case hy => (intro w' hS; obtain ⟨q0, q1⟩ := hS.c; clear hS; go_simp; rfl)
      try simp only [Act.put, List.getElem_toArray, List.getElem_cons_zero, List.getElem_cons_succ, List.setIfInBounds_toArray, List.set_cons_zero, List.set_cons_succ]
      refine' wpAnyZ_take 9 (i := 6) (v := _) rfl rfl (by kernel_rfl) (by decide) (by kernel_rfl) (by kernel_rfl) (by kernel_rfl) (by kernel_rfl) (fun _ _ _ h => h.no.elim) hT (by rfl) ?hy ?_
      case hy => (intro w' hS; obtain ⟨q0, q1⟩ := hS.c; clear hS; go_simp; rfl)
      try simp only [Act.put, List.getElem_toArray, List.getElem_cons_zero, List.getElem_cons_succ, List.setIfInBounds_toArray, List.set_cons_zero, List.set_cons_succ]
      refine' wpAnyZ_take 9 (i := 7) (v := _) rfl rfl (by kernel_rfl) (by decide) (by kernel_rfl) (by kernel_rfl) (by kernel_rfl) (by kernel_rfl) (fun _ _ _ h => h.no.elim) hT (by rfl) ?hy ?_
      case hy => (intro w' hS; obtain ⟨q0, q1⟩ := hS.c; clear hS; go_simp; rfl)
      try simp only [Act.put, List.getElem_toArray, List.getElem_cons_zero, List.getElem_cons_succ, List.setIfInBounds_toArray, List.set_cons_zero, List.set_cons_succ]
      have Z9 := Z8.trans Y0
      have hEN := HEN.out
      have hx := HW.out
      have hno := fmk_no2 hneI (k0 := k0) (k1 := k1) (k2 := k2) (fun j => .string (X j))
      have hno2 := fmk_no2 hneI (k0 := k0) (k1 := k1) (k2 := k2) (fun j => .string (Y j))
      have hI64 : I64 ((k2 : Nat) : Int) := by have := hkI.out; have := hn6.out; exact ⟨by omega, by omega⟩
      obtain ⟨V1, hup, hE1, hg1⟩ := putR (hEN.1.same (Z9.block me hEN.1.lt)) (by omega) k2 hI64 (X 2) (hs 2).1 hno
      have hml := hEN.1.lt
      have hnl := hEN.2.lt
      have hnbx := hnb.out
      have hs1 := hg1.size
      have hs9 := Z9.size
      have hs8 := Y0.size
      have hT1 : TN nb 0 1 (.string (X 2)) (.string (Y 2)) false V1 := by
        have hb := hg1.block nb (by omega) (by intro e; cases e; omega)
        refine ⟨?_, ?_⟩
        · have := Y0.cell nb0; simp only [World.cell?] at this ⊢; rw [hb]; exact this
        · have := Y0.cell nb1; simp only [World.cell?] at this ⊢; rw [hb]; exact this
      obtain ⟨V2, hup2, hN2, hg2⟩ := putR ((hEN.2.same (Z9.block mn hEN.2.lt)).kept hg1 (by intro e; cases e; omega)) (by omega) k2 hI64 (Y 2) (hs 2).2 hno2
      have HE : Hid (SlR k0 k1 k2 (fun j => .string (X j)) (fun j => .string (Y j)) me mn W0 (.map (some me)) (.map (some mn)) (.int .i64 3) V2) := Lib.hid
        ⟨3, by omega, rfl, rfl, rfl, hE1.kept hg2 (by intro e; cases e; omega), hN2, Below.grown (Below.grown (HB.out.trans (Below.mono Z9 (by omega))) hg1 (by omega) (fun k e => by cases e; omega)) hg2 (by omega) (fun k e => by cases e; omega)⟩
      clear hE1 hN2 hg1 hg2 hEN hx hno hno2 hI64 hml hnl hnbx hs1 hs9 hs8 Z9 Z8 Y0 nb0 nb1 nbl hT
      refine wpAnyZ_one false (i := 8) (by kernel_rfl) (by kernel_rfl) rfl (fun K' hK => ?_)
      go_simp
      refine hK.out _ _ hT1 ?_
      clear hK K' hup
      try simp only [Act.put, List.getElem_toArray, List.getElem_cons_zero, List.getElem_cons_succ, List.setIfInBounds_toArray, List.set_cons_zero, List.set_cons_succ]
      refine wpAnyZ_one true (i := 9) (by kernel_rfl) (by kernel_rfl) rfl (fun K' hK => ?_)
      go_simp
      refine hK.out _ _ trivial ?_
      clear hK K' hup2
      refine wpAnyZ_done (by kernel_rfl) ⟨rfl, ?_⟩ _
      go_wp2_with fail
      exact ⟨HE.out, by simp only [intOf]; omega⟩
    · have HX := Lib.hid (show w.heap.size ≤ me ∧ w.heap.size ≤ mn ∧ Ext w wr from by obtain ⟨_, _, a, b⟩ := HW.out; exact ⟨by omega, by omega, XR⟩)
      clear XR hcm
      go_wp2_with fail
      exact bodyPost_ret (v := .tuple #[.map (some me), .map (some mn), .int .i64 0]) (by simp [results, Tryz.results89, go_sem]) rfl ⟨me, mn, rfl, HX.out.1, HX.out.2.1, HEN.out.1, HEN.out.2, HX.out.2.2⟩
end Go.Proofs.YtbiffaciinppiaaGreatDoor
