/- klippelaw24.observation. -/
import Derived.Test.YtbiffaciinppiaaGreatDoorVa22
import Derived.Test.YtbiffaciinppiaaGreatDoorVa20
import Derived.Test.YtbiffaciinppiaaGreatDoorVa14
import Derived.Deep.DeepCutAuto
import Derived.Deep.QuietTactic
import Derived.BigQuiet
import Derived.Laws.BytesArg
set_option linter.unusedVariables false
set_option linter.unusedSimpArgs false
namespace Go.Proofs.YtbiffaciinppiaaGreatDoor
open Go.RowKit
attribute [local irreducible] tQ
set_option linter.unusedSimpArgs false

/-- A sight. -/
structure Sg where
  (kd p0 p1 u0 u1 d n0 n1 n2 : Int)
structure SgW (g : Sg) : Prop where
  kd : 0 ≤ g.kd ∧ g.kd ≤ 255
  p0 : -128 ≤ g.p0 ∧ g.p0 ≤ 127
  p1 : -128 ≤ g.p1 ∧ g.p1 ≤ 127
  u0 : 0 ≤ g.u0 ∧ g.u0 ≤ 255
  u1 : 0 ≤ g.u1 ∧ g.u1 ≤ 255
  d : 0 ≤ g.d ∧ g.d ≤ 255
  n0 : -128 ≤ g.n0 ∧ g.n0 ≤ 127
  n1 : -128 ≤ g.n1 ∧ g.n1 ≤ 127
  n2 : -128 ≤ g.n2 ∧ g.n2 ≤ 127
def sgV (g : Sg) : Value := .agg #[.int .u8 g.kd, .int .i8 g.p0, .int .i8 g.p1, .int .u8 g.u0, .int .u8 g.u1, .int .u8 g.d, .int .i8 g.n0, .int .i8 g.n1, .int .i8 g.n2]
def sgL (g : Sg) : List Value := [.int .u8 g.kd, .int .i8 g.p0, .int .i8 g.p1, .int .u8 g.u0, .int .u8 g.u1, .int .u8 g.d, .int .i8 g.n0, .int .i8 g.n1, .int .i8 g.n2]
def plV (s : Sh) (h : Hts) (sa : Option Addr) (sn sc : Nat) : Value := .agg #[.int .u8 s.kind, .int .i8 s.s0, .int .i8 s.s1, .bool s.half, .int .i8 (h.v 0), .int .i8 (h.v 1), .int .i8 (h.v 2), .int .i8 (h.v 3), .int .i8 (h.v 4), .int .i8 (h.v 5), .bool h.half, .slice sa sn sc]
def plL (s : Sh) (h : Hts) (sa : Option Addr) (sn sc : Nat) : List Value := [.int .u8 s.kind, .int .i8 s.s0, .int .i8 s.s1, .bool s.half, .int .i8 (h.v 0), .int .i8 (h.v 1), .int .i8 (h.v 2), .int .i8 (h.v 3), .int .i8 (h.v 4), .int .i8 (h.v 5), .bool h.half, .slice sa sn sc]
def nmA : Nat → ByteArray
  | 0 => ⟨#[65]⟩
  | 1 => ⟨#[66]⟩
  | _ => ⟨#[67]⟩
def obNm (k : Nat) : ByteArray := ⟨#[111, UInt8.ofNat (49 + k)]⟩
theorem obNm_eq (k : Nat) : strOfNums [111, 49 + (k : Int)] = obNm k := by
  unfold strOfNums obNm
  simp only [List.map_cons, List.map_nil, show (49 + (k : Int)).toNat = 49 + k by omega]
  rfl
theorem conv_nm (k b : Nat) (W : World) (h0 : W.cell? ⟨b, 0, none⟩ = some (.int .u8 111)) (h1 : W.cell? ⟨b, 1, none⟩ = some (.int .u8 (49 + k))) :
    (convert 53 9 (.slice (some ⟨b, 0, none⟩) 2 2)).run Tryz.prog W = .ok (.string (obNm k)) W := by
  rw [← obNm_eq]
  refine run_convert_bytes_arg W _ 5 Tryz.underlying53 Tryz.underlying5 b 0 2 2 [111, 49 + (k : Int)] rfl ?_ _ Tryz.underlying9
  intro i hi
  rcases (show i = 0 ∨ i = 1 by omega) with rfl | rfl
  · exact h0
  · exact h1
theorem Cells.setOther {b : Nat} {vs : List Value} {W : World} (h : Cells b vs W) {a : Addr} (hne : b ≠ a.block) (x : Value) : Cells b vs (W.setCell a x) := fun i hi =>
  ⟨(cell_set W a x hne).trans (h i hi).1, (World.frozen?_setCell _ _ _ _).trans (h i hi).2⟩
/-- Two cells are as they should be, till the region's last operation. -/
def TN (nb mx mn : Nat) (a b : Value) : Bool → World → Prop
  | false, w => w.cell? ⟨nb, mx, none⟩ = some a ∧ w.cell? ⟨nb, mn, none⟩ = some b
  | true, _ => True
theorem TN.c {nb mx mn : Nat} {a b : Value} {w : World} (h : TN nb mx mn a b false w) : w.cell? ⟨nb, mx, none⟩ = some a ∧ w.cell? ⟨nb, mn, none⟩ = some b := h
theorem put10 {n : Nat} {U V : World} {v0 v1 v2 v3 v4 v5 v6 v7 v8 v9 : Value} (h : Cells n [v0, v1, v2, v3, v4, v5, v6, v7, v8, v9] V) (u0 u1 u2 u3 u4 u5 u6 u7 u8 u9 : Value) (Y : Ext U V) (hl : U.heap.size ≤ n) :
    let W := (((((((((V.setCell ⟨n, 0, none⟩ u0).setCell ⟨n, 1, none⟩ u1).setCell ⟨n, 2, none⟩ u2).setCell ⟨n, 3, none⟩ u3).setCell ⟨n, 4, none⟩ u4).setCell ⟨n, 5, none⟩ u5).setCell ⟨n, 6, none⟩ u6).setCell ⟨n, 7, none⟩ u7).setCell ⟨n, 8, none⟩ u8).setCell ⟨n, 9, none⟩ u9
    Cells n [u0, u1, u2, u3, u4, u5, u6, u7, u8, u9] W ∧ Ext U W :=
  ⟨(((((((((h.put 0 (by simp) u0).put 1 (by simp) u1).put 2 (by simp) u2).put 3 (by simp) u3).put 4 (by simp) u4).put 5 (by simp) u5).put 6 (by simp) u6).put 7 (by simp) u7).put 8 (by simp) u8).put 9 (by simp) u9,
   (((((((((Y.setCell (p := ⟨n, 0, none⟩) hl u0).setCell (p := ⟨n, 1, none⟩) hl u1).setCell (p := ⟨n, 2, none⟩) hl u2).setCell (p := ⟨n, 3, none⟩) hl u3).setCell (p := ⟨n, 4, none⟩) hl u4).setCell (p := ⟨n, 5, none⟩) hl u5).setCell (p := ⟨n, 6, none⟩) hl u6).setCell (p := ⟨n, 7, none⟩) hl u7).setCell (p := ⟨n, 8, none⟩) hl u8).setCell (p := ⟨n, 9, none⟩) hl u9⟩
def obPt (pts : List (Rat × Rat)) (tris : List Tri) (s : Sh) (g : Sg) : Rat × Rat :=
  if 0 < (locd pts tris (plP s g.p0 g.p1 2) tris.length).length then plP s g.p0 g.p1 2 else pts.getD (g.d.toNat % pts.length) (0, 0)
def luA (g : Sg) : Nat × Nat := if g.u0.toNat % 3 = g.u1.toNat % 3 then (0, 1 + g.u1.toNat % 3 % 2) else (g.u0.toNat % 3, g.u1.toNat % 3)
def nzA (g : Sg) : Int := if g.n2.tmod 5 = 0 then 1 else g.n2.tmod 5
def obsOf (pts : List (Rat × Rat)) (tris : List Tri) (s : Sh) (g : Sg) (k : Nat) : Ob :=
  if g.kd % 3 = 0 then ⟨.outcrop, obNm k, obPt pts tris s g, nmA (g.u1.toNat % 3), ⟨#[]⟩⟩
  else ⟨if g.kd % 3 = 1 then .contact (mkRat (g.d % 12) 2) else .dip (g.n0.tmod 5) (g.n1.tmod 5) (nzA g), obNm k, obPt pts tris s g, nmA (max (luA g).1 (luA g).2), nmA (min (luA g).1 (luA g).2)⟩

set_option maxRecDepth 100000 in
set_option maxHeartbeats 4000000 in
theorem observation_ok (s : Sh) (hs : ShW s) (h : Hts) (sa : Option Addr) (sn sc : Nat) (sg : Sg) (hg : SgW sg) (k : Nat) (hk : k < 6) (i : Nat) (hi : s.kind % 8 = i) (w : World) (g : Glob w) :
    Calls Tryz.prog 38 #[plV s h sa sn sc, sgV sg, .int .i64 k] w (Ret (obV (obsOf (mkPts s i) (shpT i) s sg k)) w) := by
  have HM := Lib.hid (fun W (X : Ext w W) => l12make_ok s hs i hi W (g.ext X))
  have HP := Lib.hid (fun W (X : Ext w W) => place_ok s hs sg.p0 sg.p1 hg.p0 hg.p1 2 (.inr rfl) W (g.ext X))
  have hpm := mk_pm s i (by have := hs.k0; omega)
  have HC := Lib.hid (fun W (X : Ext w W) pb pc tb tc (hI : MeshIn W pb 0 tb 0 (mkPts s i) (shpT i)) => contains_ok 284 4 (mkPts s i) (shpT i) (shpC i) hpm.ok _ (pl2_gr s sg.p0 sg.p1 hg.p0 hg.p1) pb 0 pc tb 0 tc W (g.ext X) hI)
  have hp0 : 0 < (mkPts s i).length := by unfold mkPts; rw [List.length_map]; exact shp_pos i
  have hpl6 : (mkPts s i).length ≤ 6 := by unfold mkPts; rw [List.length_map]; exact (shp_ok i (by have := hs.k0; omega)).2.2.2.2.1
  suffices hpl : ∀ pts tris, pts = mkPts s i → tris = shpT i → 0 < pts.length → pts.length ≤ 6 → Hid (∀ W, Ext w W → Calls Tryz.prog 37 #[shV s] W (fun e w' => ∃ pb pc tb tc, e = .returned (mV pb 0 pc tb 0 tc pts tris) ∧ MeshIn w' pb 0 tb 0 pts tris ∧ Ext W w')) →
      Hid (∀ W, Ext w W → ∀ pb pc tb tc, MeshIn W pb 0 tb 0 pts tris → Calls Tryz.prog 80 #[mV pb 0 pc tb 0 tc pts tris, ptV (plP s sg.p0 sg.p1 2)] W (Ret (.tuple #[.bool (decide (0 < (locd pts tris (plP s sg.p0 sg.p1 2) tris.length).length)), .int .i64 0]) W)) →
      Calls Tryz.prog 38 #[plV s h sa sn sc, sgV sg, .int .i64 k] w (Ret (obV (obsOf pts tris s sg k)) w) from
    hpl _ _ rfl rfl hp0 hpl6 HM HC
  have HO := Lib.hid (fun W (X : Ext w W) => rOf_ok (sg.d % 12) 2 W (g.ext X) (by omega) (by omega) (by omega))
  have HWh := Lib.hid (fun (z : Int) (hz : -5 ≤ z ∧ z ≤ 5) W (X : Ext w W) => rWhole z W (g.ext X) (by omega) (by omega))
  clear HM HC hpm hp0 hpl6 hi hs g
  intro pts tris hpts htris hp0 hpl6 HM HC
  clear hpts htris
  simp only [plV, sgV, shV] at *
  go_enter Tryz.func38, Tryz.ntmps38
  go_wp2_with fail
  have hW : ∃ W0, W0 = ((w.alloc (.cells #[.int .u8 s.kind, .int .i8 s.s0, .int .i8 s.s1, .bool s.half, .int .i8 (h.v 0), .int .i8 (h.v 1), .int .i8 (h.v 2), .int .i8 (h.v 3), .int .i8 (h.v 4), .int .i8 (h.v 5), .bool h.half, .slice sa sn sc] 31)).alloc (.cells #[.int .u8 sg.kd, .int .i8 sg.p0, .int .i8 sg.p1, .int .u8 sg.u0, .int .u8 sg.u1, .int .u8 sg.d, .int .i8 sg.n0, .int .i8 sg.n1, .int .i8 sg.n2] 107)).alloc (.cells #[.int .i64 0, .string ⟨#[]⟩, .string ⟨#[]⟩, .string ⟨#[]⟩, .string ⟨#[]⟩, .string ⟨#[]⟩, .string ⟨#[]⟩, .string ⟨#[]⟩, .string ⟨#[]⟩, .string ⟨#[]⟩] 95) := ⟨_, rfl⟩
  obtain ⟨W0, hW0⟩ := hW
  rw [← hW0]
  --GEN
  have X0 : Ext w W0 := by rw [hW0]; exact (((Ext.refl w).alloc _).alloc _).alloc _
  have hs0 : W0.heap.size = w.heap.size + 3 := by rw [hW0]; simp
  have a0 : Cells w.heap.size (plL s h sa sn sc) W0 := by
    rw [hW0]; exact ((Cells.new w (plL s h sa sn sc) 31).ext ((Ext.refl _).alloc _)).ext ((Ext.refl _).alloc _)
  have a1 : Cells (w.heap.size + 1) (sgL sg) W0 := by
    have := Cells.new (w.alloc (.cells (plL s h sa sn sc).toArray 31)) (sgL sg) 107
    rw [World.size_alloc] at this
    rw [hW0]; exact this.ext ((Ext.refl _).alloc _)
  have a2 : Cells (w.heap.size + 2) [.int .i64 0, .string ⟨#[]⟩, .string ⟨#[]⟩, .string ⟨#[]⟩, .string ⟨#[]⟩, .string ⟨#[]⟩, .string ⟨#[]⟩, .string ⟨#[]⟩, .string ⟨#[]⟩, .string ⟨#[]⟩] W0 := by
    have := Cells.new ((w.alloc (.cells (plL s h sa sn sc).toArray 31)).alloc (.cells (sgL sg).toArray 107)) [.int .i64 0, .string ⟨#[]⟩, .string ⟨#[]⟩, .string ⟨#[]⟩, .string ⟨#[]⟩, .string ⟨#[]⟩, .string ⟨#[]⟩, .string ⟨#[]⟩, .string ⟨#[]⟩, .string ⟨#[]⟩] 95
    rw [World.size_alloc, World.size_alloc] at this
    rw [hW0]; exact this
  clear hW0
  refine (HM.out W0 X0).mono ?_
  rintro e w1 ⟨pb, pc, tb, tc, rfl, hI, X1⟩
  have X01 := X0.trans X1
  have hsz1 := X1.size
  have b0 := a0.ext X1
  have b1 := a1.ext X1
  have b2 := a2.ext X1
  clear a0 a1 a2 HM
  simp only [mV]
  go_upto_region 2 with fail
  have hW2 : ∃ W2, W2 = w1.alloc (.cells #[.slice (some ⟨pb, 0, none⟩) pts.length pc, .slice (some ⟨tb, 0, none⟩) tris.length tc] 37) := ⟨_, rfl⟩
  obtain ⟨W2, hW2⟩ := hW2
  rw [← hW2]
  have X2 : Ext w1 W2 := by rw [hW2]; exact (Ext.refl w1).alloc _
  have hs2 : W2.heap.size = w1.heap.size + 1 := by rw [hW2]; simp
  have a3 : Cells w1.heap.size [.slice (some ⟨pb, 0, none⟩) pts.length pc, .slice (some ⟨tb, 0, none⟩) tris.length tc] W2 := by rw [hW2]; exact Cells.new _ _ _
  clear hW2
  have c0 := b0.ext X2
  have c1 := b1.ext X2
  have c2 := b2.ext X2
  have XW := X01.trans X2
  clear b0 b1 b2 X0 X1 X01
  have nk := (c1.at 0 _ rfl).1
  have np0 := (c1.at 1 _ rfl).1
  have np1 := (c1.at 2 _ rfl).1
  have ns0 := (c0.at 0 _ rfl).1
  have ns1 := (c0.at 1 _ rfl).1
  have ns2 := (c0.at 2 _ rfl).1
  have ns3 := (c0.at 3 _ rfl).1
  generalize hlb : plP s sg.p0 sg.p1 2 = q at *
  go_cut [8] (fun s8 wx => ∃ n, s8 = .pointer (some ⟨n, 0, none⟩) ∧ W2.heap.size ≤ n ∧ Cells n [.int .i64 (1 + sg.kd % 3), .string (obNm k), .string (tQ q.1), .string (tQ q.2), .string ⟨#[]⟩, .string ⟨#[]⟩, .string ⟨#[]⟩, .string ⟨#[]⟩, .string ⟨#[]⟩, .string ⟨#[]⟩] wx ∧ Ext W2 wx)
  case first =>
    have lb0 : w.heap.size < W2.heap.size := by omega
    have lb1 : w.heap.size + 1 < W2.heap.size := by omega
    refine wp_region_Z' (TE W2.heap.size W2) 17 (by kernel_rfl) ?_
    intro V0 hV0
    have Y0 : Ext W2 V0 := by rw [hV0]; exact (Ext.refl W2).drew
    have hT : TE W2.heap.size W2 false V0 := Y0
    clear hV0
    have hc0 : IntKind.u8.wrap (k : Int) = k := by simp only [IntKind.wrap_u8]; omega
    have hc1 : IntKind.u8.wrap (49 + (k : Int)) = 49 + k := by simp only [IntKind.wrap_u8]; omega
    have hc2 : sg.kd.tmod 3 = sg.kd % 3 := Int.tmod_eq_emod_of_nonneg hg.kd.1
    have hc3 : IntKind.i64.wrap (sg.kd % 3) = sg.kd % 3 := by simp only [IntKind.wrap_i64]; omega
    have hc4 : IntKind.i64.wrap (1 + sg.kd % 3) = 1 + sg.kd % 3 := by simp only [IntKind.wrap_i64]; omega
    refine' wpAnyZ_take 17 (i := 0) (v := _) rfl rfl (by kernel_rfl) (by decide) (by kernel_rfl) (by kernel_rfl) (by kernel_rfl) (by kernel_rfl) (fun _ _ _ h => h.no.elim) hT (by rfl) ?hy ?_
    case hy => (intro w' hS; have g0 := hS.c lb1 nk; have g1 := hS.c lb1 np0; have g2 := hS.c lb1 np1; have g3 := hS.c lb0 ns0; have g4 := hS.c lb0 ns1; have g5 := hS.c lb0 ns2; have g6 := hS.c lb0 ns3; clear hS; go_simp; rfl)
    try simp only [Act.put, List.getElem_toArray, List.getElem_cons_zero, List.getElem_cons_succ, List.setIfInBounds_toArray, List.set_cons_zero, List.set_cons_succ]
    refine' wpAnyZ_take 17 (i := 1) (v := _) rfl rfl (by kernel_rfl) (by decide) (by kernel_rfl) (by kernel_rfl) (by kernel_rfl) (by kernel_rfl) (fun _ _ _ h => h.no.elim) hT (by rfl) ?hy ?_
    case hy => (intro w' hS; have g0 := hS.c lb1 nk; have g1 := hS.c lb1 np0; have g2 := hS.c lb1 np1; have g3 := hS.c lb0 ns0; have g4 := hS.c lb0 ns1; have g5 := hS.c lb0 ns2; have g6 := hS.c lb0 ns3; clear hS; go_simp; rfl)
    try simp only [Act.put, List.getElem_toArray, List.getElem_cons_zero, List.getElem_cons_succ, List.setIfInBounds_toArray, List.set_cons_zero, List.set_cons_succ]
    refine' wpAnyZ_take 17 (i := 2) (v := _) rfl rfl (by kernel_rfl) (by decide) (by kernel_rfl) (by kernel_rfl) (by kernel_rfl) (by kernel_rfl) (fun _ _ _ h => h.no.elim) hT (by rfl) ?hy ?_
    case hy => (intro w' hS; have g0 := hS.c lb1 nk; have g1 := hS.c lb1 np0; have g2 := hS.c lb1 np1; have g3 := hS.c lb0 ns0; have g4 := hS.c lb0 ns1; have g5 := hS.c lb0 ns2; have g6 := hS.c lb0 ns3; clear hS; go_simp; rfl)
    try simp only [Act.put, List.getElem_toArray, List.getElem_cons_zero, List.getElem_cons_succ, List.setIfInBounds_toArray, List.set_cons_zero, List.set_cons_succ]
    refine' wpAnyZ_take 17 (i := 3) (v := _) rfl rfl (by kernel_rfl) (by decide) (by kernel_rfl) (by kernel_rfl) (by kernel_rfl) (by kernel_rfl) (fun _ _ _ h => h.no.elim) hT (by rfl) ?hy ?_
    case hy => (intro w' hS; have g0 := hS.c lb1 nk; have g1 := hS.c lb1 np0; have g2 := hS.c lb1 np1; have g3 := hS.c lb0 ns0; have g4 := hS.c lb0 ns1; have g5 := hS.c lb0 ns2; have g6 := hS.c lb0 ns3; clear hS; go_simp; rfl)
    try simp only [Act.put, List.getElem_toArray, List.getElem_cons_zero, List.getElem_cons_succ, List.setIfInBounds_toArray, List.set_cons_zero, List.set_cons_succ]
    refine' wpAnyZ_take 17 (i := 4) (v := _) rfl rfl (by kernel_rfl) (by decide) (by kernel_rfl) (by kernel_rfl) (by kernel_rfl) (by kernel_rfl) (fun _ _ _ h => h.no.elim) hT (by rfl) ?hy ?_
    case hy => (intro w' hS; have g0 := hS.c lb1 nk; have g1 := hS.c lb1 np0; have g2 := hS.c lb1 np1; have g3 := hS.c lb0 ns0; have g4 := hS.c lb0 ns1; have g5 := hS.c lb0 ns2; have g6 := hS.c lb0 ns3; clear hS; go_simp; rfl)
    try simp only [Act.put, List.getElem_toArray, List.getElem_cons_zero, List.getElem_cons_succ, List.setIfInBounds_toArray, List.set_cons_zero, List.set_cons_succ]
    refine' wpAnyZ_take 17 (i := 5) (v := _) rfl rfl (by kernel_rfl) (by decide) (by kernel_rfl) (by kernel_rfl) (by kernel_rfl) (by kernel_rfl) (fun _ _ _ h => h.no.elim) hT (by rfl) ?hy ?_
    case hy => (intro w' hS; have g0 := hS.c lb1 nk; have g1 := hS.c lb1 np0; have g2 := hS.c lb1 np1; have g3 := hS.c lb0 ns0; have g4 := hS.c lb0 ns1; have g5 := hS.c lb0 ns2; have g6 := hS.c lb0 ns3; clear hS; go_simp; rfl)
    try simp only [Act.put, List.getElem_toArray, List.getElem_cons_zero, List.getElem_cons_succ, List.setIfInBounds_toArray, List.set_cons_zero, List.set_cons_succ]
    refine' wpAnyZ_take 17 (i := 6) (v := _) rfl rfl (by kernel_rfl) (by decide) (by kernel_rfl) (by kernel_rfl) (by kernel_rfl) (by kernel_rfl) (fun _ _ _ h => h.no.elim) hT (by rfl) ?hy ?_
    case hy => (intro w' hS; have g0 := hS.c lb1 nk; have g1 := hS.c lb1 np0; have g2 := hS.c lb1 np1; have g3 := hS.c lb0 ns0; have g4 := hS.c lb0 ns1; have g5 := hS.c lb0 ns2; have g6 := hS.c lb0 ns3; clear hS; go_simp; rfl)
    try simp only [Act.put, List.getElem_toArray, List.getElem_cons_zero, List.getElem_cons_succ, List.setIfInBounds_toArray, List.set_cons_zero, List.set_cons_succ]
    refine' wpAnyZ_take 17 (i := 7) (v := _) rfl rfl (by kernel_rfl) (by decide) (by kernel_rfl) (by kernel_rfl) (by kernel_rfl) (by kernel_rfl) (fun _ _ _ h => h.no.elim) hT (by rfl) ?hy ?_
    case hy => (intro w' hS; have g0 := hS.c lb1 nk; have g1 := hS.c lb1 np0; have g2 := hS.c lb1 np1; have g3 := hS.c lb0 ns0; have g4 := hS.c lb0 ns1; have g5 := hS.c lb0 ns2; have g6 := hS.c lb0 ns3; clear hS; go_simp; rfl)
    try simp only [Act.put, List.getElem_toArray, List.getElem_cons_zero, List.getElem_cons_succ, List.setIfInBounds_toArray, List.set_cons_zero, List.set_cons_succ]
    refine' wpAnyZ_take 17 (i := 10) (v := _) rfl rfl (by kernel_rfl) (by decide) (by kernel_rfl) (by kernel_rfl) (by kernel_rfl) (by kernel_rfl) (fun _ _ _ h => h.no.elim) hT (by rfl) ?hy ?_
    case hy => (intro w' hS; have g0 := hS.c lb1 nk; have g1 := hS.c lb1 np0; have g2 := hS.c lb1 np1; have g3 := hS.c lb0 ns0; have g4 := hS.c lb0 ns1; have g5 := hS.c lb0 ns2; have g6 := hS.c lb0 ns3; clear hS; go_simp; rfl)
    try simp only [Act.put, List.getElem_toArray, List.getElem_cons_zero, List.getElem_cons_succ, List.setIfInBounds_toArray, List.set_cons_zero, List.set_cons_succ]
    refine' wpAnyZ_take 17 (i := 11) (v := _) rfl rfl (by kernel_rfl) (by decide) (by kernel_rfl) (by kernel_rfl) (by kernel_rfl) (by kernel_rfl) (fun _ _ _ h => h.no.elim) hT (by rfl) ?hy ?_
    case hy => (intro w' hS; have g0 := hS.c lb1 nk; have g1 := hS.c lb1 np0; have g2 := hS.c lb1 np1; have g3 := hS.c lb0 ns0; have g4 := hS.c lb0 ns1; have g5 := hS.c lb0 ns2; have g6 := hS.c lb0 ns3; clear hS; go_simp; rfl)
    try simp only [Act.put, List.getElem_toArray, List.getElem_cons_zero, List.getElem_cons_succ, List.setIfInBounds_toArray, List.set_cons_zero, List.set_cons_succ]
    refine' wpAnyZ_take 17 (i := 12) (v := _) rfl rfl (by kernel_rfl) (by decide) (by kernel_rfl) (by kernel_rfl) (by kernel_rfl) (by kernel_rfl) (fun _ _ _ h => h.no.elim) hT (by rfl) ?hy ?_
    case hy => (intro w' hS; have g0 := hS.c lb1 nk; have g1 := hS.c lb1 np0; have g2 := hS.c lb1 np1; have g3 := hS.c lb0 ns0; have g4 := hS.c lb0 ns1; have g5 := hS.c lb0 ns2; have g6 := hS.c lb0 ns3; clear hS; go_simp; rfl)
    try simp only [Act.put, List.getElem_toArray, List.getElem_cons_zero, List.getElem_cons_succ, List.setIfInBounds_toArray, List.set_cons_zero, List.set_cons_succ]
    refine' wpAnyZ_take 17 (i := 13) (v := _) rfl rfl (by kernel_rfl) (by decide) (by kernel_rfl) (by kernel_rfl) (by kernel_rfl) (by kernel_rfl) (fun _ _ _ h => h.no.elim) hT (by rfl) ?hy ?_
    case hy => (intro w' hS; have g0 := hS.c lb1 nk; have g1 := hS.c lb1 np0; have g2 := hS.c lb1 np1; have g3 := hS.c lb0 ns0; have g4 := hS.c lb0 ns1; have g5 := hS.c lb0 ns2; have g6 := hS.c lb0 ns3; clear hS; go_simp; rfl)
    try simp only [Act.put, List.getElem_toArray, List.getElem_cons_zero, List.getElem_cons_succ, List.setIfInBounds_toArray, List.set_cons_zero, List.set_cons_succ]
    refine wpAnyZ_alt (r := 8) (rs := [14, 16]) (by kernel_rfl) ?_
    refine AltR.cons false (by kernel_rfl) rfl (fun K' hK => ?_) ?_
    ·
      go_simp
      have Y1 : Ext W2 (V0.alloc (.cells #[.int .u8 111, .int .u8 (49 + k)] 5)) := Y0.alloc _
      refine hK.out _ _ Y1 ?_
      clear hK K'
      refine wpAnyZ_gen ?_
      intro V1 hV
      rw [← hV] at Y1
      have Z1 : Ext V0 V1 := by rw [hV]; exact (Ext.refl _).alloc _
      have f8 : Cells V0.heap.size [.int .u8 111, .int .u8 (49 + k)] V1 := by rw [hV]; exact Cells.new _ _ _
      clear hV
      try simp only [Act.put, List.getElem_toArray, List.getElem_cons_zero, List.getElem_cons_succ, List.setIfInBounds_toArray, List.set_cons_zero, List.set_cons_succ]
      refine wpAnyZ_alt (r := 9) (rs := [14, 16]) (by kernel_rfl) ?_
      refine AltR.cons false (by kernel_rfl) rfl (fun K' hK => ?_) ?_
      ·
        have hcv := conv_nm k _ _ (f8.at 0 _ rfl).1 (f8.at 1 _ rfl).1
        go_simp
        clear hcv
        refine hK.out _ _ Y1 ?_
        clear hK K'
        try simp only [Act.put, List.getElem_toArray, List.getElem_cons_zero, List.getElem_cons_succ, List.setIfInBounds_toArray, List.set_cons_zero, List.set_cons_succ]
        refine wpAnyZ_alt (r := 14) (rs := [16]) (by kernel_rfl) ?_
        refine AltR.cons false (by kernel_rfl) rfl (fun K' hK => ?_) ?_
        ·
          go_simp
          refine (HP.out _ (XW.trans Y1)).mono ?_
          rintro e V3 ⟨rfl, Z3⟩
          have Y3 : Ext W2 V3 := Y1.trans Z3
          replace f8 := f8.ext Z3
          refine hK.out _ _ Y3 ?_
          clear hK K'
          try simp only [Act.put, List.getElem_toArray, List.getElem_cons_zero, List.getElem_cons_succ, List.setIfInBounds_toArray, List.set_cons_zero, List.set_cons_succ]
          refine wpAnyZ_alt (r := 15) (rs := [16]) (by kernel_rfl) ?_
          refine AltR.cons false (by kernel_rfl) rfl (fun K' hK => ?_) ?_
          ·
            simp only [ptV]
            go_simp
            refine hK.out _ _ Y3 ?_
            clear hK K'
            try simp only [Act.put, List.getElem_toArray, List.getElem_cons_zero, List.getElem_cons_succ, List.setIfInBounds_toArray, List.set_cons_zero, List.set_cons_succ]
            refine wpAnyZ_one false (i := 16) (by kernel_rfl) (by kernel_rfl) rfl (fun K' hK => ?_)
            go_simp
            have Y5 : Ext W2 (V3.alloc (.cells #[.int .i64 0, .string ⟨#[]⟩, .string ⟨#[]⟩, .string ⟨#[]⟩, .string ⟨#[]⟩, .string ⟨#[]⟩, .string ⟨#[]⟩, .string ⟨#[]⟩, .string ⟨#[]⟩, .string ⟨#[]⟩] 95)) := Y3.alloc _
            refine hK.out _ _ Y5 ?_
            clear hK K'
            refine wpAnyZ_gen ?_
            intro V5 hV
            rw [← hV] at Y5
            have Z5 : Ext V3 V5 := by rw [hV]; exact (Ext.refl _).alloc _
            have f16 : Cells V3.heap.size [.int .i64 0, .string ⟨#[]⟩, .string ⟨#[]⟩, .string ⟨#[]⟩, .string ⟨#[]⟩, .string ⟨#[]⟩, .string ⟨#[]⟩, .string ⟨#[]⟩, .string ⟨#[]⟩, .string ⟨#[]⟩] V5 := by rw [hV]; exact Cells.new _ _ _
            have l16 : W2.heap.size ≤ V3.heap.size := Y3.size
            clear hV
            replace f8 := f8.ext Z5
            try simp only [Act.put, List.getElem_toArray, List.getElem_cons_zero, List.getElem_cons_succ, List.setIfInBounds_toArray, List.set_cons_zero, List.set_cons_succ]
            refine wpAnyZ_one true (i := 17) (by kernel_rfl) (by kernel_rfl) rfl (fun K' hK => ?_)
            have fc0 := f16.at 0 _ rfl
            have fc1 := f16.at 1 _ rfl
            have fc2 := f16.at 2 _ rfl
            have fc3 := f16.at 3 _ rfl
            have fc4 := f16.at 4 _ rfl
            have fc5 := f16.at 5 _ rfl
            have fc6 := f16.at 6 _ rfl
            have fc7 := f16.at 7 _ rfl
            have fc8 := f16.at 8 _ rfl
            have fc9 := f16.at 9 _ rfl
            obtain ⟨fa0, fb0⟩ := fc0
            obtain ⟨fa1, fb1⟩ := fc1
            obtain ⟨fa2, fb2⟩ := fc2
            obtain ⟨fa3, fb3⟩ := fc3
            obtain ⟨fa4, fb4⟩ := fc4
            obtain ⟨fa5, fb5⟩ := fc5
            obtain ⟨fa6, fb6⟩ := fc6
            obtain ⟨fa7, fb7⟩ := fc7
            obtain ⟨fa8, fb8⟩ := fc8
            obtain ⟨fa9, fb9⟩ := fc9
            have hfin := put10 f16 (.int .i64 (1 + sg.kd % 3)) (.string (obNm k)) (.string (tQ q.1)) (.string (tQ q.2)) (.string ⟨#[]⟩) (.string ⟨#[]⟩) (.string ⟨#[]⟩) (.string ⟨#[]⟩) (.string ⟨#[]⟩) (.string ⟨#[]⟩) Y5 l16
            have HF := Lib.hid hfin
            clear hfin
            go_simp
            refine hK.out _ _ trivial ?_
            clear hK K'
            refine wpAnyZ_done (by kernel_rfl) ⟨rfl, ?_⟩ _
            go_wp2_with fail
            go_meet
            exact ⟨_, rfl, l16, HF.out.1, HF.out.2⟩
          refine AltR.cons false (by kernel_rfl) rfl (fun K' hK => ?_) ?_
          ·
            go_simp
            have Y7 : Ext W2 (V3.alloc (.cells #[.int .i64 0, .string ⟨#[]⟩, .string ⟨#[]⟩, .string ⟨#[]⟩, .string ⟨#[]⟩, .string ⟨#[]⟩, .string ⟨#[]⟩, .string ⟨#[]⟩, .string ⟨#[]⟩, .string ⟨#[]⟩] 95)) := Y3.alloc _
            refine hK.out _ _ Y7 ?_
            clear hK K'
            refine wpAnyZ_gen ?_
            intro V7 hV
            rw [← hV] at Y7
            have Z7 : Ext V3 V7 := by rw [hV]; exact (Ext.refl _).alloc _
            have f16 : Cells V3.heap.size [.int .i64 0, .string ⟨#[]⟩, .string ⟨#[]⟩, .string ⟨#[]⟩, .string ⟨#[]⟩, .string ⟨#[]⟩, .string ⟨#[]⟩, .string ⟨#[]⟩, .string ⟨#[]⟩, .string ⟨#[]⟩] V7 := by rw [hV]; exact Cells.new _ _ _
            have l16 : W2.heap.size ≤ V3.heap.size := Y3.size
            clear hV
            replace f8 := f8.ext Z7
            try simp only [Act.put, List.getElem_toArray, List.getElem_cons_zero, List.getElem_cons_succ, List.setIfInBounds_toArray, List.set_cons_zero, List.set_cons_succ]
            refine wpAnyZ_one false (i := 15) (by kernel_rfl) (by kernel_rfl) rfl (fun K' hK => ?_)
            simp only [ptV]
            go_simp
            refine hK.out _ _ Y7 ?_
            clear hK K'
            try simp only [Act.put, List.getElem_toArray, List.getElem_cons_zero, List.getElem_cons_succ, List.setIfInBounds_toArray, List.set_cons_zero, List.set_cons_succ]
            refine wpAnyZ_one true (i := 17) (by kernel_rfl) (by kernel_rfl) rfl (fun K' hK => ?_)
            have fc0 := f16.at 0 _ rfl
            have fc1 := f16.at 1 _ rfl
            have fc2 := f16.at 2 _ rfl
            have fc3 := f16.at 3 _ rfl
            have fc4 := f16.at 4 _ rfl
            have fc5 := f16.at 5 _ rfl
            have fc6 := f16.at 6 _ rfl
            have fc7 := f16.at 7 _ rfl
            have fc8 := f16.at 8 _ rfl
            have fc9 := f16.at 9 _ rfl
            obtain ⟨fa0, fb0⟩ := fc0
            obtain ⟨fa1, fb1⟩ := fc1
            obtain ⟨fa2, fb2⟩ := fc2
            obtain ⟨fa3, fb3⟩ := fc3
            obtain ⟨fa4, fb4⟩ := fc4
            obtain ⟨fa5, fb5⟩ := fc5
            obtain ⟨fa6, fb6⟩ := fc6
            obtain ⟨fa7, fb7⟩ := fc7
            obtain ⟨fa8, fb8⟩ := fc8
            obtain ⟨fa9, fb9⟩ := fc9
            have hfin := put10 f16 (.int .i64 (1 + sg.kd % 3)) (.string (obNm k)) (.string (tQ q.1)) (.string (tQ q.2)) (.string ⟨#[]⟩) (.string ⟨#[]⟩) (.string ⟨#[]⟩) (.string ⟨#[]⟩) (.string ⟨#[]⟩) (.string ⟨#[]⟩) Y7 l16
            have HF := Lib.hid hfin
            clear hfin
            go_simp
            refine hK.out _ _ trivial ?_
            clear hK K'
            refine wpAnyZ_done (by kernel_rfl) ⟨rfl, ?_⟩ _
            go_wp2_with fail
            go_meet
            exact ⟨_, rfl, l16, HF.out.1, HF.out.2⟩
          exact AltR.nil
        refine AltR.cons false (by kernel_rfl) rfl (fun K' hK => ?_) ?_
        ·
          go_simp
          have Y10 : Ext W2 (V1.alloc (.cells #[.int .i64 0, .string ⟨#[]⟩, .string ⟨#[]⟩, .string ⟨#[]⟩, .string ⟨#[]⟩, .string ⟨#[]⟩, .string ⟨#[]⟩, .string ⟨#[]⟩, .string ⟨#[]⟩, .string ⟨#[]⟩] 95)) := Y1.alloc _
          refine hK.out _ _ Y10 ?_
          clear hK K'
          refine wpAnyZ_gen ?_
          intro V10 hV
          rw [← hV] at Y10
          have Z10 : Ext V1 V10 := by rw [hV]; exact (Ext.refl _).alloc _
          have f16 : Cells V1.heap.size [.int .i64 0, .string ⟨#[]⟩, .string ⟨#[]⟩, .string ⟨#[]⟩, .string ⟨#[]⟩, .string ⟨#[]⟩, .string ⟨#[]⟩, .string ⟨#[]⟩, .string ⟨#[]⟩, .string ⟨#[]⟩] V10 := by rw [hV]; exact Cells.new _ _ _
          have l16 : W2.heap.size ≤ V1.heap.size := Y1.size
          clear hV
          replace f8 := f8.ext Z10
          try simp only [Act.put, List.getElem_toArray, List.getElem_cons_zero, List.getElem_cons_succ, List.setIfInBounds_toArray, List.set_cons_zero, List.set_cons_succ]
          refine wpAnyZ_one false (i := 14) (by kernel_rfl) (by kernel_rfl) rfl (fun K' hK => ?_)
          go_simp
          refine (HP.out _ (XW.trans Y10)).mono ?_
          rintro e V11 ⟨rfl, Z11⟩
          have Y11 : Ext W2 V11 := Y10.trans Z11
          replace f8 := f8.ext Z11
          replace f16 := f16.ext Z11
          refine hK.out _ _ Y11 ?_
          clear hK K'
          try simp only [Act.put, List.getElem_toArray, List.getElem_cons_zero, List.getElem_cons_succ, List.setIfInBounds_toArray, List.set_cons_zero, List.set_cons_succ]
          refine wpAnyZ_one false (i := 15) (by kernel_rfl) (by kernel_rfl) rfl (fun K' hK => ?_)
          simp only [ptV]
          go_simp
          refine hK.out _ _ Y11 ?_
          clear hK K'
          try simp only [Act.put, List.getElem_toArray, List.getElem_cons_zero, List.getElem_cons_succ, List.setIfInBounds_toArray, List.set_cons_zero, List.set_cons_succ]
          refine wpAnyZ_one true (i := 17) (by kernel_rfl) (by kernel_rfl) rfl (fun K' hK => ?_)
          have fc0 := f16.at 0 _ rfl
          have fc1 := f16.at 1 _ rfl
          have fc2 := f16.at 2 _ rfl
          have fc3 := f16.at 3 _ rfl
          have fc4 := f16.at 4 _ rfl
          have fc5 := f16.at 5 _ rfl
          have fc6 := f16.at 6 _ rfl
          have fc7 := f16.at 7 _ rfl
          have fc8 := f16.at 8 _ rfl
          have fc9 := f16.at 9 _ rfl
          obtain ⟨fa0, fb0⟩ := fc0
          obtain ⟨fa1, fb1⟩ := fc1
          obtain ⟨fa2, fb2⟩ := fc2
          obtain ⟨fa3, fb3⟩ := fc3
          obtain ⟨fa4, fb4⟩ := fc4
          obtain ⟨fa5, fb5⟩ := fc5
          obtain ⟨fa6, fb6⟩ := fc6
          obtain ⟨fa7, fb7⟩ := fc7
          obtain ⟨fa8, fb8⟩ := fc8
          obtain ⟨fa9, fb9⟩ := fc9
          have hfin := put10 f16 (.int .i64 (1 + sg.kd % 3)) (.string (obNm k)) (.string (tQ q.1)) (.string (tQ q.2)) (.string ⟨#[]⟩) (.string ⟨#[]⟩) (.string ⟨#[]⟩) (.string ⟨#[]⟩) (.string ⟨#[]⟩) (.string ⟨#[]⟩) Y11 l16
          have HF := Lib.hid hfin
          clear hfin
          go_simp
          refine hK.out _ _ trivial ?_
          clear hK K'
          refine wpAnyZ_done (by kernel_rfl) ⟨rfl, ?_⟩ _
          go_wp2_with fail
          go_meet
          exact ⟨_, rfl, l16, HF.out.1, HF.out.2⟩
        exact AltR.nil
      refine AltR.cons false (by kernel_rfl) rfl (fun K' hK => ?_) ?_
      ·
        go_simp
        refine (HP.out _ (XW.trans Y1)).mono ?_
        rintro e V14 ⟨rfl, Z14⟩
        have Y14 : Ext W2 V14 := Y1.trans Z14
        replace f8 := f8.ext Z14
        refine hK.out _ _ Y14 ?_
        clear hK K'
        try simp only [Act.put, List.getElem_toArray, List.getElem_cons_zero, List.getElem_cons_succ, List.setIfInBounds_toArray, List.set_cons_zero, List.set_cons_succ]
        refine wpAnyZ_alt (r := 9) (rs := [16]) (by kernel_rfl) ?_
        refine AltR.cons false (by kernel_rfl) rfl (fun K' hK => ?_) ?_
        ·
          have hcv := conv_nm k _ _ (f8.at 0 _ rfl).1 (f8.at 1 _ rfl).1
          go_simp
          clear hcv
          refine hK.out _ _ Y14 ?_
          clear hK K'
          try simp only [Act.put, List.getElem_toArray, List.getElem_cons_zero, List.getElem_cons_succ, List.setIfInBounds_toArray, List.set_cons_zero, List.set_cons_succ]
          refine wpAnyZ_alt (r := 15) (rs := [16]) (by kernel_rfl) ?_
          refine AltR.cons false (by kernel_rfl) rfl (fun K' hK => ?_) ?_
          ·
            simp only [ptV]
            go_simp
            refine hK.out _ _ Y14 ?_
            clear hK K'
            try simp only [Act.put, List.getElem_toArray, List.getElem_cons_zero, List.getElem_cons_succ, List.setIfInBounds_toArray, List.set_cons_zero, List.set_cons_succ]
            refine wpAnyZ_one false (i := 16) (by kernel_rfl) (by kernel_rfl) rfl (fun K' hK => ?_)
            go_simp
            have Y17 : Ext W2 (V14.alloc (.cells #[.int .i64 0, .string ⟨#[]⟩, .string ⟨#[]⟩, .string ⟨#[]⟩, .string ⟨#[]⟩, .string ⟨#[]⟩, .string ⟨#[]⟩, .string ⟨#[]⟩, .string ⟨#[]⟩, .string ⟨#[]⟩] 95)) := Y14.alloc _
            refine hK.out _ _ Y17 ?_
            clear hK K'
            refine wpAnyZ_gen ?_
            intro V17 hV
            rw [← hV] at Y17
            have Z17 : Ext V14 V17 := by rw [hV]; exact (Ext.refl _).alloc _
            have f16 : Cells V14.heap.size [.int .i64 0, .string ⟨#[]⟩, .string ⟨#[]⟩, .string ⟨#[]⟩, .string ⟨#[]⟩, .string ⟨#[]⟩, .string ⟨#[]⟩, .string ⟨#[]⟩, .string ⟨#[]⟩, .string ⟨#[]⟩] V17 := by rw [hV]; exact Cells.new _ _ _
            have l16 : W2.heap.size ≤ V14.heap.size := Y14.size
            clear hV
            replace f8 := f8.ext Z17
            try simp only [Act.put, List.getElem_toArray, List.getElem_cons_zero, List.getElem_cons_succ, List.setIfInBounds_toArray, List.set_cons_zero, List.set_cons_succ]
            refine wpAnyZ_one true (i := 17) (by kernel_rfl) (by kernel_rfl) rfl (fun K' hK => ?_)
            have fc0 := f16.at 0 _ rfl
            have fc1 := f16.at 1 _ rfl
            have fc2 := f16.at 2 _ rfl
            have fc3 := f16.at 3 _ rfl
            have fc4 := f16.at 4 _ rfl
            have fc5 := f16.at 5 _ rfl
            have fc6 := f16.at 6 _ rfl
            have fc7 := f16.at 7 _ rfl
            have fc8 := f16.at 8 _ rfl
            have fc9 := f16.at 9 _ rfl
            obtain ⟨fa0, fb0⟩ := fc0
            obtain ⟨fa1, fb1⟩ := fc1
            obtain ⟨fa2, fb2⟩ := fc2
            obtain ⟨fa3, fb3⟩ := fc3
            obtain ⟨fa4, fb4⟩ := fc4
            obtain ⟨fa5, fb5⟩ := fc5
            obtain ⟨fa6, fb6⟩ := fc6
            obtain ⟨fa7, fb7⟩ := fc7
            obtain ⟨fa8, fb8⟩ := fc8
            obtain ⟨fa9, fb9⟩ := fc9
            have hfin := put10 f16 (.int .i64 (1 + sg.kd % 3)) (.string (obNm k)) (.string (tQ q.1)) (.string (tQ q.2)) (.string ⟨#[]⟩) (.string ⟨#[]⟩) (.string ⟨#[]⟩) (.string ⟨#[]⟩) (.string ⟨#[]⟩) (.string ⟨#[]⟩) Y17 l16
            have HF := Lib.hid hfin
            clear hfin
            go_simp
            refine hK.out _ _ trivial ?_
            clear hK K'
            refine wpAnyZ_done (by kernel_rfl) ⟨rfl, ?_⟩ _
            go_wp2_with fail
            go_meet
            exact ⟨_, rfl, l16, HF.out.1, HF.out.2⟩
          refine AltR.cons false (by kernel_rfl) rfl (fun K' hK => ?_) ?_
          ·
            go_simp
            have Y19 : Ext W2 (V14.alloc (.cells #[.int .i64 0, .string ⟨#[]⟩, .string ⟨#[]⟩, .string ⟨#[]⟩, .string ⟨#[]⟩, .string ⟨#[]⟩, .string ⟨#[]⟩, .string ⟨#[]⟩, .string ⟨#[]⟩, .string ⟨#[]⟩] 95)) := Y14.alloc _
            refine hK.out _ _ Y19 ?_
            clear hK K'
            refine wpAnyZ_gen ?_
            intro V19 hV
            rw [← hV] at Y19
            have Z19 : Ext V14 V19 := by rw [hV]; exact (Ext.refl _).alloc _
            have f16 : Cells V14.heap.size [.int .i64 0, .string ⟨#[]⟩, .string ⟨#[]⟩, .string ⟨#[]⟩, .string ⟨#[]⟩, .string ⟨#[]⟩, .string ⟨#[]⟩, .string ⟨#[]⟩, .string ⟨#[]⟩, .string ⟨#[]⟩] V19 := by rw [hV]; exact Cells.new _ _ _
            have l16 : W2.heap.size ≤ V14.heap.size := Y14.size
            clear hV
            replace f8 := f8.ext Z19
            try simp only [Act.put, List.getElem_toArray, List.getElem_cons_zero, List.getElem_cons_succ, List.setIfInBounds_toArray, List.set_cons_zero, List.set_cons_succ]
            refine wpAnyZ_one false (i := 15) (by kernel_rfl) (by kernel_rfl) rfl (fun K' hK => ?_)
            simp only [ptV]
            go_simp
            refine hK.out _ _ Y19 ?_
            clear hK K'
            try simp only [Act.put, List.getElem_toArray, List.getElem_cons_zero, List.getElem_cons_succ, List.setIfInBounds_toArray, List.set_cons_zero, List.set_cons_succ]
            refine wpAnyZ_one true (i := 17) (by kernel_rfl) (by kernel_rfl) rfl (fun K' hK => ?_)
            have fc0 := f16.at 0 _ rfl
            have fc1 := f16.at 1 _ rfl
            have fc2 := f16.at 2 _ rfl
            have fc3 := f16.at 3 _ rfl
            have fc4 := f16.at 4 _ rfl
            have fc5 := f16.at 5 _ rfl
            have fc6 := f16.at 6 _ rfl
            have fc7 := f16.at 7 _ rfl
            have fc8 := f16.at 8 _ rfl
            have fc9 := f16.at 9 _ rfl
            obtain ⟨fa0, fb0⟩ := fc0
            obtain ⟨fa1, fb1⟩ := fc1
            obtain ⟨fa2, fb2⟩ := fc2
            obtain ⟨fa3, fb3⟩ := fc3
            obtain ⟨fa4, fb4⟩ := fc4
            obtain ⟨fa5, fb5⟩ := fc5
            obtain ⟨fa6, fb6⟩ := fc6
            obtain ⟨fa7, fb7⟩ := fc7
            obtain ⟨fa8, fb8⟩ := fc8
            obtain ⟨fa9, fb9⟩ := fc9
            have hfin := put10 f16 (.int .i64 (1 + sg.kd % 3)) (.string (obNm k)) (.string (tQ q.1)) (.string (tQ q.2)) (.string ⟨#[]⟩) (.string ⟨#[]⟩) (.string ⟨#[]⟩) (.string ⟨#[]⟩) (.string ⟨#[]⟩) (.string ⟨#[]⟩) Y19 l16
            have HF := Lib.hid hfin
            clear hfin
            go_simp
            refine hK.out _ _ trivial ?_
            clear hK K'
            refine wpAnyZ_done (by kernel_rfl) ⟨rfl, ?_⟩ _
            go_wp2_with fail
            go_meet
            exact ⟨_, rfl, l16, HF.out.1, HF.out.2⟩
          exact AltR.nil
        refine AltR.cons false (by kernel_rfl) rfl (fun K' hK => ?_) ?_
        ·
          go_simp
          have Y22 : Ext W2 (V14.alloc (.cells #[.int .i64 0, .string ⟨#[]⟩, .string ⟨#[]⟩, .string ⟨#[]⟩, .string ⟨#[]⟩, .string ⟨#[]⟩, .string ⟨#[]⟩, .string ⟨#[]⟩, .string ⟨#[]⟩, .string ⟨#[]⟩] 95)) := Y14.alloc _
          refine hK.out _ _ Y22 ?_
          clear hK K'
          refine wpAnyZ_gen ?_
          intro V22 hV
          rw [← hV] at Y22
          have Z22 : Ext V14 V22 := by rw [hV]; exact (Ext.refl _).alloc _
          have f16 : Cells V14.heap.size [.int .i64 0, .string ⟨#[]⟩, .string ⟨#[]⟩, .string ⟨#[]⟩, .string ⟨#[]⟩, .string ⟨#[]⟩, .string ⟨#[]⟩, .string ⟨#[]⟩, .string ⟨#[]⟩, .string ⟨#[]⟩] V22 := by rw [hV]; exact Cells.new _ _ _
          have l16 : W2.heap.size ≤ V14.heap.size := Y14.size
          clear hV
          replace f8 := f8.ext Z22
          try simp only [Act.put, List.getElem_toArray, List.getElem_cons_zero, List.getElem_cons_succ, List.setIfInBounds_toArray, List.set_cons_zero, List.set_cons_succ]
          refine wpAnyZ_one false (i := 9) (by kernel_rfl) (by kernel_rfl) rfl (fun K' hK => ?_)
          have hcv := conv_nm k _ _ (f8.at 0 _ rfl).1 (f8.at 1 _ rfl).1
          go_simp
          clear hcv
          refine hK.out _ _ Y22 ?_
          clear hK K'
          try simp only [Act.put, List.getElem_toArray, List.getElem_cons_zero, List.getElem_cons_succ, List.setIfInBounds_toArray, List.set_cons_zero, List.set_cons_succ]
          refine wpAnyZ_one false (i := 15) (by kernel_rfl) (by kernel_rfl) rfl (fun K' hK => ?_)
          simp only [ptV]
          go_simp
          refine hK.out _ _ Y22 ?_
          clear hK K'
          try simp only [Act.put, List.getElem_toArray, List.getElem_cons_zero, List.getElem_cons_succ, List.setIfInBounds_toArray, List.set_cons_zero, List.set_cons_succ]
          refine wpAnyZ_one true (i := 17) (by kernel_rfl) (by kernel_rfl) rfl (fun K' hK => ?_)
          have fc0 := f16.at 0 _ rfl
          have fc1 := f16.at 1 _ rfl
          have fc2 := f16.at 2 _ rfl
          have fc3 := f16.at 3 _ rfl
          have fc4 := f16.at 4 _ rfl
          have fc5 := f16.at 5 _ rfl
          have fc6 := f16.at 6 _ rfl
          have fc7 := f16.at 7 _ rfl
          have fc8 := f16.at 8 _ rfl
          have fc9 := f16.at 9 _ rfl
          obtain ⟨fa0, fb0⟩ := fc0
          obtain ⟨fa1, fb1⟩ := fc1
          obtain ⟨fa2, fb2⟩ := fc2
          obtain ⟨fa3, fb3⟩ := fc3
          obtain ⟨fa4, fb4⟩ := fc4
          obtain ⟨fa5, fb5⟩ := fc5
          obtain ⟨fa6, fb6⟩ := fc6
          obtain ⟨fa7, fb7⟩ := fc7
          obtain ⟨fa8, fb8⟩ := fc8
          obtain ⟨fa9, fb9⟩ := fc9
          have hfin := put10 f16 (.int .i64 (1 + sg.kd % 3)) (.string (obNm k)) (.string (tQ q.1)) (.string (tQ q.2)) (.string ⟨#[]⟩) (.string ⟨#[]⟩) (.string ⟨#[]⟩) (.string ⟨#[]⟩) (.string ⟨#[]⟩) (.string ⟨#[]⟩) Y22 l16
          have HF := Lib.hid hfin
          clear hfin
          go_simp
          refine hK.out _ _ trivial ?_
          clear hK K'
          refine wpAnyZ_done (by kernel_rfl) ⟨rfl, ?_⟩ _
          go_wp2_with fail
          go_meet
          exact ⟨_, rfl, l16, HF.out.1, HF.out.2⟩
        exact AltR.nil
      refine AltR.cons false (by kernel_rfl) rfl (fun K' hK => ?_) ?_
      ·
        go_simp
        have Y26 : Ext W2 (V1.alloc (.cells #[.int .i64 0, .string ⟨#[]⟩, .string ⟨#[]⟩, .string ⟨#[]⟩, .string ⟨#[]⟩, .string ⟨#[]⟩, .string ⟨#[]⟩, .string ⟨#[]⟩, .string ⟨#[]⟩, .string ⟨#[]⟩] 95)) := Y1.alloc _
        refine hK.out _ _ Y26 ?_
        clear hK K'
        refine wpAnyZ_gen ?_
        intro V26 hV
        rw [← hV] at Y26
        have Z26 : Ext V1 V26 := by rw [hV]; exact (Ext.refl _).alloc _
        have f16 : Cells V1.heap.size [.int .i64 0, .string ⟨#[]⟩, .string ⟨#[]⟩, .string ⟨#[]⟩, .string ⟨#[]⟩, .string ⟨#[]⟩, .string ⟨#[]⟩, .string ⟨#[]⟩, .string ⟨#[]⟩, .string ⟨#[]⟩] V26 := by rw [hV]; exact Cells.new _ _ _
        have l16 : W2.heap.size ≤ V1.heap.size := Y1.size
        clear hV
        replace f8 := f8.ext Z26
        try simp only [Act.put, List.getElem_toArray, List.getElem_cons_zero, List.getElem_cons_succ, List.setIfInBounds_toArray, List.set_cons_zero, List.set_cons_succ]
        refine wpAnyZ_alt (r := 9) (rs := [14]) (by kernel_rfl) ?_
        refine AltR.cons false (by kernel_rfl) rfl (fun K' hK => ?_) ?_
        ·
          have hcv := conv_nm k _ _ (f8.at 0 _ rfl).1 (f8.at 1 _ rfl).1
          go_simp
          clear hcv
          refine hK.out _ _ Y26 ?_
          clear hK K'
          try simp only [Act.put, List.getElem_toArray, List.getElem_cons_zero, List.getElem_cons_succ, List.setIfInBounds_toArray, List.set_cons_zero, List.set_cons_succ]
          refine wpAnyZ_one false (i := 14) (by kernel_rfl) (by kernel_rfl) rfl (fun K' hK => ?_)
          go_simp
          refine (HP.out _ (XW.trans Y26)).mono ?_
          rintro e V28 ⟨rfl, Z28⟩
          have Y28 : Ext W2 V28 := Y26.trans Z28
          replace f8 := f8.ext Z28
          replace f16 := f16.ext Z28
          refine hK.out _ _ Y28 ?_
          clear hK K'
          try simp only [Act.put, List.getElem_toArray, List.getElem_cons_zero, List.getElem_cons_succ, List.setIfInBounds_toArray, List.set_cons_zero, List.set_cons_succ]
          refine wpAnyZ_one false (i := 15) (by kernel_rfl) (by kernel_rfl) rfl (fun K' hK => ?_)
          simp only [ptV]
          go_simp
          refine hK.out _ _ Y28 ?_
          clear hK K'
          try simp only [Act.put, List.getElem_toArray, List.getElem_cons_zero, List.getElem_cons_succ, List.setIfInBounds_toArray, List.set_cons_zero, List.set_cons_succ]
          refine wpAnyZ_one true (i := 17) (by kernel_rfl) (by kernel_rfl) rfl (fun K' hK => ?_)
          have fc0 := f16.at 0 _ rfl
          have fc1 := f16.at 1 _ rfl
          have fc2 := f16.at 2 _ rfl
          have fc3 := f16.at 3 _ rfl
          have fc4 := f16.at 4 _ rfl
          have fc5 := f16.at 5 _ rfl
          have fc6 := f16.at 6 _ rfl
          have fc7 := f16.at 7 _ rfl
          have fc8 := f16.at 8 _ rfl
          have fc9 := f16.at 9 _ rfl
          obtain ⟨fa0, fb0⟩ := fc0
          obtain ⟨fa1, fb1⟩ := fc1
          obtain ⟨fa2, fb2⟩ := fc2
          obtain ⟨fa3, fb3⟩ := fc3
          obtain ⟨fa4, fb4⟩ := fc4
          obtain ⟨fa5, fb5⟩ := fc5
          obtain ⟨fa6, fb6⟩ := fc6
          obtain ⟨fa7, fb7⟩ := fc7
          obtain ⟨fa8, fb8⟩ := fc8
          obtain ⟨fa9, fb9⟩ := fc9
          have hfin := put10 f16 (.int .i64 (1 + sg.kd % 3)) (.string (obNm k)) (.string (tQ q.1)) (.string (tQ q.2)) (.string ⟨#[]⟩) (.string ⟨#[]⟩) (.string ⟨#[]⟩) (.string ⟨#[]⟩) (.string ⟨#[]⟩) (.string ⟨#[]⟩) Y28 l16
          have HF := Lib.hid hfin
          clear hfin
          go_simp
          refine hK.out _ _ trivial ?_
          clear hK K'
          refine wpAnyZ_done (by kernel_rfl) ⟨rfl, ?_⟩ _
          go_wp2_with fail
          go_meet
          exact ⟨_, rfl, l16, HF.out.1, HF.out.2⟩
        refine AltR.cons false (by kernel_rfl) rfl (fun K' hK => ?_) ?_
        ·
          go_simp
          refine (HP.out _ (XW.trans Y26)).mono ?_
          rintro e V31 ⟨rfl, Z31⟩
          have Y31 : Ext W2 V31 := Y26.trans Z31
          replace f8 := f8.ext Z31
          replace f16 := f16.ext Z31
          refine hK.out _ _ Y31 ?_
          clear hK K'
          try simp only [Act.put, List.getElem_toArray, List.getElem_cons_zero, List.getElem_cons_succ, List.setIfInBounds_toArray, List.set_cons_zero, List.set_cons_succ]
          refine wpAnyZ_one false (i := 9) (by kernel_rfl) (by kernel_rfl) rfl (fun K' hK => ?_)
          have hcv := conv_nm k _ _ (f8.at 0 _ rfl).1 (f8.at 1 _ rfl).1
          go_simp
          clear hcv
          refine hK.out _ _ Y31 ?_
          clear hK K'
          try simp only [Act.put, List.getElem_toArray, List.getElem_cons_zero, List.getElem_cons_succ, List.setIfInBounds_toArray, List.set_cons_zero, List.set_cons_succ]
          refine wpAnyZ_one false (i := 15) (by kernel_rfl) (by kernel_rfl) rfl (fun K' hK => ?_)
          simp only [ptV]
          go_simp
          refine hK.out _ _ Y31 ?_
          clear hK K'
          try simp only [Act.put, List.getElem_toArray, List.getElem_cons_zero, List.getElem_cons_succ, List.setIfInBounds_toArray, List.set_cons_zero, List.set_cons_succ]
          refine wpAnyZ_one true (i := 17) (by kernel_rfl) (by kernel_rfl) rfl (fun K' hK => ?_)
          have fc0 := f16.at 0 _ rfl
          have fc1 := f16.at 1 _ rfl
          have fc2 := f16.at 2 _ rfl
          have fc3 := f16.at 3 _ rfl
          have fc4 := f16.at 4 _ rfl
          have fc5 := f16.at 5 _ rfl
          have fc6 := f16.at 6 _ rfl
          have fc7 := f16.at 7 _ rfl
          have fc8 := f16.at 8 _ rfl
          have fc9 := f16.at 9 _ rfl
          obtain ⟨fa0, fb0⟩ := fc0
          obtain ⟨fa1, fb1⟩ := fc1
          obtain ⟨fa2, fb2⟩ := fc2
          obtain ⟨fa3, fb3⟩ := fc3
          obtain ⟨fa4, fb4⟩ := fc4
          obtain ⟨fa5, fb5⟩ := fc5
          obtain ⟨fa6, fb6⟩ := fc6
          obtain ⟨fa7, fb7⟩ := fc7
          obtain ⟨fa8, fb8⟩ := fc8
          obtain ⟨fa9, fb9⟩ := fc9
          have hfin := put10 f16 (.int .i64 (1 + sg.kd % 3)) (.string (obNm k)) (.string (tQ q.1)) (.string (tQ q.2)) (.string ⟨#[]⟩) (.string ⟨#[]⟩) (.string ⟨#[]⟩) (.string ⟨#[]⟩) (.string ⟨#[]⟩) (.string ⟨#[]⟩) Y31 l16
          have HF := Lib.hid hfin
          clear hfin
          go_simp
          refine hK.out _ _ trivial ?_
          clear hK K'
          refine wpAnyZ_done (by kernel_rfl) ⟨rfl, ?_⟩ _
          go_wp2_with fail
          go_meet
          exact ⟨_, rfl, l16, HF.out.1, HF.out.2⟩
        exact AltR.nil
      exact AltR.nil
    refine AltR.cons false (by kernel_rfl) rfl (fun K' hK => ?_) ?_
    ·
      go_simp
      refine (HP.out _ (XW.trans Y0)).mono ?_
      rintro e V35 ⟨rfl, Z35⟩
      have Y35 : Ext W2 V35 := Y0.trans Z35
      refine hK.out _ _ Y35 ?_
      clear hK K'
      try simp only [Act.put, List.getElem_toArray, List.getElem_cons_zero, List.getElem_cons_succ, List.setIfInBounds_toArray, List.set_cons_zero, List.set_cons_succ]
      refine wpAnyZ_alt (r := 8) (rs := [16]) (by kernel_rfl) ?_
      refine AltR.cons false (by kernel_rfl) rfl (fun K' hK => ?_) ?_
      ·
        go_simp
        have Y36 : Ext W2 (V35.alloc (.cells #[.int .u8 111, .int .u8 (49 + k)] 5)) := Y35.alloc _
        refine hK.out _ _ Y36 ?_
        clear hK K'
        refine wpAnyZ_gen ?_
        intro V36 hV
        rw [← hV] at Y36
        have Z36 : Ext V35 V36 := by rw [hV]; exact (Ext.refl _).alloc _
        have f8 : Cells V35.heap.size [.int .u8 111, .int .u8 (49 + k)] V36 := by rw [hV]; exact Cells.new _ _ _
        clear hV
        try simp only [Act.put, List.getElem_toArray, List.getElem_cons_zero, List.getElem_cons_succ, List.setIfInBounds_toArray, List.set_cons_zero, List.set_cons_succ]
        refine wpAnyZ_alt (r := 9) (rs := [16]) (by kernel_rfl) ?_
        refine AltR.cons false (by kernel_rfl) rfl (fun K' hK => ?_) ?_
        ·
          have hcv := conv_nm k _ _ (f8.at 0 _ rfl).1 (f8.at 1 _ rfl).1
          go_simp
          clear hcv
          refine hK.out _ _ Y36 ?_
          clear hK K'
          try simp only [Act.put, List.getElem_toArray, List.getElem_cons_zero, List.getElem_cons_succ, List.setIfInBounds_toArray, List.set_cons_zero, List.set_cons_succ]
          refine wpAnyZ_alt (r := 15) (rs := [16]) (by kernel_rfl) ?_
          refine AltR.cons false (by kernel_rfl) rfl (fun K' hK => ?_) ?_
          ·
            simp only [ptV]
            go_simp
            refine hK.out _ _ Y36 ?_
            clear hK K'
            try simp only [Act.put, List.getElem_toArray, List.getElem_cons_zero, List.getElem_cons_succ, List.setIfInBounds_toArray, List.set_cons_zero, List.set_cons_succ]
            refine wpAnyZ_one false (i := 16) (by kernel_rfl) (by kernel_rfl) rfl (fun K' hK => ?_)
            go_simp
            have Y39 : Ext W2 (V36.alloc (.cells #[.int .i64 0, .string ⟨#[]⟩, .string ⟨#[]⟩, .string ⟨#[]⟩, .string ⟨#[]⟩, .string ⟨#[]⟩, .string ⟨#[]⟩, .string ⟨#[]⟩, .string ⟨#[]⟩, .string ⟨#[]⟩] 95)) := Y36.alloc _
            refine hK.out _ _ Y39 ?_
            clear hK K'
            refine wpAnyZ_gen ?_
            intro V39 hV
            rw [← hV] at Y39
            have Z39 : Ext V36 V39 := by rw [hV]; exact (Ext.refl _).alloc _
            have f16 : Cells V36.heap.size [.int .i64 0, .string ⟨#[]⟩, .string ⟨#[]⟩, .string ⟨#[]⟩, .string ⟨#[]⟩, .string ⟨#[]⟩, .string ⟨#[]⟩, .string ⟨#[]⟩, .string ⟨#[]⟩, .string ⟨#[]⟩] V39 := by rw [hV]; exact Cells.new _ _ _
            have l16 : W2.heap.size ≤ V36.heap.size := Y36.size
            clear hV
            replace f8 := f8.ext Z39
            try simp only [Act.put, List.getElem_toArray, List.getElem_cons_zero, List.getElem_cons_succ, List.setIfInBounds_toArray, List.set_cons_zero, List.set_cons_succ]
            refine wpAnyZ_one true (i := 17) (by kernel_rfl) (by kernel_rfl) rfl (fun K' hK => ?_)
            have fc0 := f16.at 0 _ rfl
            have fc1 := f16.at 1 _ rfl
            have fc2 := f16.at 2 _ rfl
            have fc3 := f16.at 3 _ rfl
            have fc4 := f16.at 4 _ rfl
            have fc5 := f16.at 5 _ rfl
            have fc6 := f16.at 6 _ rfl
            have fc7 := f16.at 7 _ rfl
            have fc8 := f16.at 8 _ rfl
            have fc9 := f16.at 9 _ rfl
            obtain ⟨fa0, fb0⟩ := fc0
            obtain ⟨fa1, fb1⟩ := fc1
            obtain ⟨fa2, fb2⟩ := fc2
            obtain ⟨fa3, fb3⟩ := fc3
            obtain ⟨fa4, fb4⟩ := fc4
            obtain ⟨fa5, fb5⟩ := fc5
            obtain ⟨fa6, fb6⟩ := fc6
            obtain ⟨fa7, fb7⟩ := fc7
            obtain ⟨fa8, fb8⟩ := fc8
            obtain ⟨fa9, fb9⟩ := fc9
            have hfin := put10 f16 (.int .i64 (1 + sg.kd % 3)) (.string (obNm k)) (.string (tQ q.1)) (.string (tQ q.2)) (.string ⟨#[]⟩) (.string ⟨#[]⟩) (.string ⟨#[]⟩) (.string ⟨#[]⟩) (.string ⟨#[]⟩) (.string ⟨#[]⟩) Y39 l16
            have HF := Lib.hid hfin
            clear hfin
            go_simp
            refine hK.out _ _ trivial ?_
            clear hK K'
            refine wpAnyZ_done (by kernel_rfl) ⟨rfl, ?_⟩ _
            go_wp2_with fail
            go_meet
            exact ⟨_, rfl, l16, HF.out.1, HF.out.2⟩
          refine AltR.cons false (by kernel_rfl) rfl (fun K' hK => ?_) ?_
          ·
            go_simp
            have Y41 : Ext W2 (V36.alloc (.cells #[.int .i64 0, .string ⟨#[]⟩, .string ⟨#[]⟩, .string ⟨#[]⟩, .string ⟨#[]⟩, .string ⟨#[]⟩, .string ⟨#[]⟩, .string ⟨#[]⟩, .string ⟨#[]⟩, .string ⟨#[]⟩] 95)) := Y36.alloc _
            refine hK.out _ _ Y41 ?_
            clear hK K'
            refine wpAnyZ_gen ?_
            intro V41 hV
            rw [← hV] at Y41
            have Z41 : Ext V36 V41 := by rw [hV]; exact (Ext.refl _).alloc _
            have f16 : Cells V36.heap.size [.int .i64 0, .string ⟨#[]⟩, .string ⟨#[]⟩, .string ⟨#[]⟩, .string ⟨#[]⟩, .string ⟨#[]⟩, .string ⟨#[]⟩, .string ⟨#[]⟩, .string ⟨#[]⟩, .string ⟨#[]⟩] V41 := by rw [hV]; exact Cells.new _ _ _
            have l16 : W2.heap.size ≤ V36.heap.size := Y36.size
            clear hV
            replace f8 := f8.ext Z41
            try simp only [Act.put, List.getElem_toArray, List.getElem_cons_zero, List.getElem_cons_succ, List.setIfInBounds_toArray, List.set_cons_zero, List.set_cons_succ]
            refine wpAnyZ_one false (i := 15) (by kernel_rfl) (by kernel_rfl) rfl (fun K' hK => ?_)
            simp only [ptV]
            go_simp
            refine hK.out _ _ Y41 ?_
            clear hK K'
            try simp only [Act.put, List.getElem_toArray, List.getElem_cons_zero, List.getElem_cons_succ, List.setIfInBounds_toArray, List.set_cons_zero, List.set_cons_succ]
            refine wpAnyZ_one true (i := 17) (by kernel_rfl) (by kernel_rfl) rfl (fun K' hK => ?_)
            have fc0 := f16.at 0 _ rfl
            have fc1 := f16.at 1 _ rfl
            have fc2 := f16.at 2 _ rfl
            have fc3 := f16.at 3 _ rfl
            have fc4 := f16.at 4 _ rfl
            have fc5 := f16.at 5 _ rfl
            have fc6 := f16.at 6 _ rfl
            have fc7 := f16.at 7 _ rfl
            have fc8 := f16.at 8 _ rfl
            have fc9 := f16.at 9 _ rfl
            obtain ⟨fa0, fb0⟩ := fc0
            obtain ⟨fa1, fb1⟩ := fc1
            obtain ⟨fa2, fb2⟩ := fc2
            obtain ⟨fa3, fb3⟩ := fc3
            obtain ⟨fa4, fb4⟩ := fc4
            obtain ⟨fa5, fb5⟩ := fc5
            obtain ⟨fa6, fb6⟩ := fc6
            obtain ⟨fa7, fb7⟩ := fc7
            obtain ⟨fa8, fb8⟩ := fc8
            obtain ⟨fa9, fb9⟩ := fc9
            have hfin := put10 f16 (.int .i64 (1 + sg.kd % 3)) (.string (obNm k)) (.string (tQ q.1)) (.string (tQ q.2)) (.string ⟨#[]⟩) (.string ⟨#[]⟩) (.string ⟨#[]⟩) (.string ⟨#[]⟩) (.string ⟨#[]⟩) (.string ⟨#[]⟩) Y41 l16
            have HF := Lib.hid hfin
            clear hfin
            go_simp
            refine hK.out _ _ trivial ?_
            clear hK K'
            refine wpAnyZ_done (by kernel_rfl) ⟨rfl, ?_⟩ _
            go_wp2_with fail
            go_meet
            exact ⟨_, rfl, l16, HF.out.1, HF.out.2⟩
          exact AltR.nil
        refine AltR.cons false (by kernel_rfl) rfl (fun K' hK => ?_) ?_
        ·
          go_simp
          have Y44 : Ext W2 (V36.alloc (.cells #[.int .i64 0, .string ⟨#[]⟩, .string ⟨#[]⟩, .string ⟨#[]⟩, .string ⟨#[]⟩, .string ⟨#[]⟩, .string ⟨#[]⟩, .string ⟨#[]⟩, .string ⟨#[]⟩, .string ⟨#[]⟩] 95)) := Y36.alloc _
          refine hK.out _ _ Y44 ?_
          clear hK K'
          refine wpAnyZ_gen ?_
          intro V44 hV
          rw [← hV] at Y44
          have Z44 : Ext V36 V44 := by rw [hV]; exact (Ext.refl _).alloc _
          have f16 : Cells V36.heap.size [.int .i64 0, .string ⟨#[]⟩, .string ⟨#[]⟩, .string ⟨#[]⟩, .string ⟨#[]⟩, .string ⟨#[]⟩, .string ⟨#[]⟩, .string ⟨#[]⟩, .string ⟨#[]⟩, .string ⟨#[]⟩] V44 := by rw [hV]; exact Cells.new _ _ _
          have l16 : W2.heap.size ≤ V36.heap.size := Y36.size
          clear hV
          replace f8 := f8.ext Z44
          try simp only [Act.put, List.getElem_toArray, List.getElem_cons_zero, List.getElem_cons_succ, List.setIfInBounds_toArray, List.set_cons_zero, List.set_cons_succ]
          refine wpAnyZ_one false (i := 9) (by kernel_rfl) (by kernel_rfl) rfl (fun K' hK => ?_)
          have hcv := conv_nm k _ _ (f8.at 0 _ rfl).1 (f8.at 1 _ rfl).1
          go_simp
          clear hcv
          refine hK.out _ _ Y44 ?_
          clear hK K'
          try simp only [Act.put, List.getElem_toArray, List.getElem_cons_zero, List.getElem_cons_succ, List.setIfInBounds_toArray, List.set_cons_zero, List.set_cons_succ]
          refine wpAnyZ_one false (i := 15) (by kernel_rfl) (by kernel_rfl) rfl (fun K' hK => ?_)
          simp only [ptV]
          go_simp
          refine hK.out _ _ Y44 ?_
          clear hK K'
          try simp only [Act.put, List.getElem_toArray, List.getElem_cons_zero, List.getElem_cons_succ, List.setIfInBounds_toArray, List.set_cons_zero, List.set_cons_succ]
          refine wpAnyZ_one true (i := 17) (by kernel_rfl) (by kernel_rfl) rfl (fun K' hK => ?_)
          have fc0 := f16.at 0 _ rfl
          have fc1 := f16.at 1 _ rfl
          have fc2 := f16.at 2 _ rfl
          have fc3 := f16.at 3 _ rfl
          have fc4 := f16.at 4 _ rfl
          have fc5 := f16.at 5 _ rfl
          have fc6 := f16.at 6 _ rfl
          have fc7 := f16.at 7 _ rfl
          have fc8 := f16.at 8 _ rfl
          have fc9 := f16.at 9 _ rfl
          obtain ⟨fa0, fb0⟩ := fc0
          obtain ⟨fa1, fb1⟩ := fc1
          obtain ⟨fa2, fb2⟩ := fc2
          obtain ⟨fa3, fb3⟩ := fc3
          obtain ⟨fa4, fb4⟩ := fc4
          obtain ⟨fa5, fb5⟩ := fc5
          obtain ⟨fa6, fb6⟩ := fc6
          obtain ⟨fa7, fb7⟩ := fc7
          obtain ⟨fa8, fb8⟩ := fc8
          obtain ⟨fa9, fb9⟩ := fc9
          have hfin := put10 f16 (.int .i64 (1 + sg.kd % 3)) (.string (obNm k)) (.string (tQ q.1)) (.string (tQ q.2)) (.string ⟨#[]⟩) (.string ⟨#[]⟩) (.string ⟨#[]⟩) (.string ⟨#[]⟩) (.string ⟨#[]⟩) (.string ⟨#[]⟩) Y44 l16
          have HF := Lib.hid hfin
          clear hfin
          go_simp
          refine hK.out _ _ trivial ?_
          clear hK K'
          refine wpAnyZ_done (by kernel_rfl) ⟨rfl, ?_⟩ _
          go_wp2_with fail
          go_meet
          exact ⟨_, rfl, l16, HF.out.1, HF.out.2⟩
        exact AltR.nil
      refine AltR.cons false (by kernel_rfl) rfl (fun K' hK => ?_) ?_
      ·
        go_simp
        have Y48 : Ext W2 (V35.alloc (.cells #[.int .i64 0, .string ⟨#[]⟩, .string ⟨#[]⟩, .string ⟨#[]⟩, .string ⟨#[]⟩, .string ⟨#[]⟩, .string ⟨#[]⟩, .string ⟨#[]⟩, .string ⟨#[]⟩, .string ⟨#[]⟩] 95)) := Y35.alloc _
        refine hK.out _ _ Y48 ?_
        clear hK K'
        refine wpAnyZ_gen ?_
        intro V48 hV
        rw [← hV] at Y48
        have Z48 : Ext V35 V48 := by rw [hV]; exact (Ext.refl _).alloc _
        have f16 : Cells V35.heap.size [.int .i64 0, .string ⟨#[]⟩, .string ⟨#[]⟩, .string ⟨#[]⟩, .string ⟨#[]⟩, .string ⟨#[]⟩, .string ⟨#[]⟩, .string ⟨#[]⟩, .string ⟨#[]⟩, .string ⟨#[]⟩] V48 := by rw [hV]; exact Cells.new _ _ _
        have l16 : W2.heap.size ≤ V35.heap.size := Y35.size
        clear hV
        try simp only [Act.put, List.getElem_toArray, List.getElem_cons_zero, List.getElem_cons_succ, List.setIfInBounds_toArray, List.set_cons_zero, List.set_cons_succ]
        refine wpAnyZ_one false (i := 8) (by kernel_rfl) (by kernel_rfl) rfl (fun K' hK => ?_)
        go_simp
        have Y49 : Ext W2 (V48.alloc (.cells #[.int .u8 111, .int .u8 (49 + k)] 5)) := Y48.alloc _
        refine hK.out _ _ Y49 ?_
        clear hK K'
        refine wpAnyZ_gen ?_
        intro V49 hV
        rw [← hV] at Y49
        have Z49 : Ext V48 V49 := by rw [hV]; exact (Ext.refl _).alloc _
        have f8 : Cells V48.heap.size [.int .u8 111, .int .u8 (49 + k)] V49 := by rw [hV]; exact Cells.new _ _ _
        clear hV
        replace f16 := f16.ext Z49
        try simp only [Act.put, List.getElem_toArray, List.getElem_cons_zero, List.getElem_cons_succ, List.setIfInBounds_toArray, List.set_cons_zero, List.set_cons_succ]
        refine wpAnyZ_one false (i := 9) (by kernel_rfl) (by kernel_rfl) rfl (fun K' hK => ?_)
        have hcv := conv_nm k _ _ (f8.at 0 _ rfl).1 (f8.at 1 _ rfl).1
        go_simp
        clear hcv
        refine hK.out _ _ Y49 ?_
        clear hK K'
        try simp only [Act.put, List.getElem_toArray, List.getElem_cons_zero, List.getElem_cons_succ, List.setIfInBounds_toArray, List.set_cons_zero, List.set_cons_succ]
        refine wpAnyZ_one false (i := 15) (by kernel_rfl) (by kernel_rfl) rfl (fun K' hK => ?_)
        simp only [ptV]
        go_simp
        refine hK.out _ _ Y49 ?_
        clear hK K'
        try simp only [Act.put, List.getElem_toArray, List.getElem_cons_zero, List.getElem_cons_succ, List.setIfInBounds_toArray, List.set_cons_zero, List.set_cons_succ]
        refine wpAnyZ_one true (i := 17) (by kernel_rfl) (by kernel_rfl) rfl (fun K' hK => ?_)
        have fc0 := f16.at 0 _ rfl
        have fc1 := f16.at 1 _ rfl
        have fc2 := f16.at 2 _ rfl
        have fc3 := f16.at 3 _ rfl
        have fc4 := f16.at 4 _ rfl
        have fc5 := f16.at 5 _ rfl
        have fc6 := f16.at 6 _ rfl
        have fc7 := f16.at 7 _ rfl
        have fc8 := f16.at 8 _ rfl
        have fc9 := f16.at 9 _ rfl
        obtain ⟨fa0, fb0⟩ := fc0
        obtain ⟨fa1, fb1⟩ := fc1
        obtain ⟨fa2, fb2⟩ := fc2
        obtain ⟨fa3, fb3⟩ := fc3
        obtain ⟨fa4, fb4⟩ := fc4
        obtain ⟨fa5, fb5⟩ := fc5
        obtain ⟨fa6, fb6⟩ := fc6
        obtain ⟨fa7, fb7⟩ := fc7
        obtain ⟨fa8, fb8⟩ := fc8
        obtain ⟨fa9, fb9⟩ := fc9
        have hfin := put10 f16 (.int .i64 (1 + sg.kd % 3)) (.string (obNm k)) (.string (tQ q.1)) (.string (tQ q.2)) (.string ⟨#[]⟩) (.string ⟨#[]⟩) (.string ⟨#[]⟩) (.string ⟨#[]⟩) (.string ⟨#[]⟩) (.string ⟨#[]⟩) Y49 l16
        have HF := Lib.hid hfin
        clear hfin
        go_simp
        refine hK.out _ _ trivial ?_
        clear hK K'
        refine wpAnyZ_done (by kernel_rfl) ⟨rfl, ?_⟩ _
        go_wp2_with fail
        go_meet
        exact ⟨_, rfl, l16, HF.out.1, HF.out.2⟩
      exact AltR.nil
    refine AltR.cons false (by kernel_rfl) rfl (fun K' hK => ?_) ?_
    ·
      go_simp
      have Y53 : Ext W2 (V0.alloc (.cells #[.int .i64 0, .string ⟨#[]⟩, .string ⟨#[]⟩, .string ⟨#[]⟩, .string ⟨#[]⟩, .string ⟨#[]⟩, .string ⟨#[]⟩, .string ⟨#[]⟩, .string ⟨#[]⟩, .string ⟨#[]⟩] 95)) := Y0.alloc _
      refine hK.out _ _ Y53 ?_
      clear hK K'
      refine wpAnyZ_gen ?_
      intro V53 hV
      rw [← hV] at Y53
      have Z53 : Ext V0 V53 := by rw [hV]; exact (Ext.refl _).alloc _
      have f16 : Cells V0.heap.size [.int .i64 0, .string ⟨#[]⟩, .string ⟨#[]⟩, .string ⟨#[]⟩, .string ⟨#[]⟩, .string ⟨#[]⟩, .string ⟨#[]⟩, .string ⟨#[]⟩, .string ⟨#[]⟩, .string ⟨#[]⟩] V53 := by rw [hV]; exact Cells.new _ _ _
      have l16 : W2.heap.size ≤ V0.heap.size := Y0.size
      clear hV
      try simp only [Act.put, List.getElem_toArray, List.getElem_cons_zero, List.getElem_cons_succ, List.setIfInBounds_toArray, List.set_cons_zero, List.set_cons_succ]
      refine wpAnyZ_alt (r := 8) (rs := [14]) (by kernel_rfl) ?_
      refine AltR.cons false (by kernel_rfl) rfl (fun K' hK => ?_) ?_
      ·
        go_simp
        have Y54 : Ext W2 (V53.alloc (.cells #[.int .u8 111, .int .u8 (49 + k)] 5)) := Y53.alloc _
        refine hK.out _ _ Y54 ?_
        clear hK K'
        refine wpAnyZ_gen ?_
        intro V54 hV
        rw [← hV] at Y54
        have Z54 : Ext V53 V54 := by rw [hV]; exact (Ext.refl _).alloc _
        have f8 : Cells V53.heap.size [.int .u8 111, .int .u8 (49 + k)] V54 := by rw [hV]; exact Cells.new _ _ _
        clear hV
        replace f16 := f16.ext Z54
        try simp only [Act.put, List.getElem_toArray, List.getElem_cons_zero, List.getElem_cons_succ, List.setIfInBounds_toArray, List.set_cons_zero, List.set_cons_succ]
        refine wpAnyZ_alt (r := 9) (rs := [14]) (by kernel_rfl) ?_
        refine AltR.cons false (by kernel_rfl) rfl (fun K' hK => ?_) ?_
        ·
          have hcv := conv_nm k _ _ (f8.at 0 _ rfl).1 (f8.at 1 _ rfl).1
          go_simp
          clear hcv
          refine hK.out _ _ Y54 ?_
          clear hK K'
          try simp only [Act.put, List.getElem_toArray, List.getElem_cons_zero, List.getElem_cons_succ, List.setIfInBounds_toArray, List.set_cons_zero, List.set_cons_succ]
          refine wpAnyZ_one false (i := 14) (by kernel_rfl) (by kernel_rfl) rfl (fun K' hK => ?_)
          go_simp
          refine (HP.out _ (XW.trans Y54)).mono ?_
          rintro e V56 ⟨rfl, Z56⟩
          have Y56 : Ext W2 V56 := Y54.trans Z56
          replace f16 := f16.ext Z56
          replace f8 := f8.ext Z56
          refine hK.out _ _ Y56 ?_
          clear hK K'
          try simp only [Act.put, List.getElem_toArray, List.getElem_cons_zero, List.getElem_cons_succ, List.setIfInBounds_toArray, List.set_cons_zero, List.set_cons_succ]
          refine wpAnyZ_one false (i := 15) (by kernel_rfl) (by kernel_rfl) rfl (fun K' hK => ?_)
          simp only [ptV]
          go_simp
          refine hK.out _ _ Y56 ?_
          clear hK K'
          try simp only [Act.put, List.getElem_toArray, List.getElem_cons_zero, List.getElem_cons_succ, List.setIfInBounds_toArray, List.set_cons_zero, List.set_cons_succ]
          refine wpAnyZ_one true (i := 17) (by kernel_rfl) (by kernel_rfl) rfl (fun K' hK => ?_)
          have fc0 := f16.at 0 _ rfl
          have fc1 := f16.at 1 _ rfl
          have fc2 := f16.at 2 _ rfl
          have fc3 := f16.at 3 _ rfl
          have fc4 := f16.at 4 _ rfl
          have fc5 := f16.at 5 _ rfl
          have fc6 := f16.at 6 _ rfl
          have fc7 := f16.at 7 _ rfl
          have fc8 := f16.at 8 _ rfl
          have fc9 := f16.at 9 _ rfl
          obtain ⟨fa0, fb0⟩ := fc0
          obtain ⟨fa1, fb1⟩ := fc1
          obtain ⟨fa2, fb2⟩ := fc2
          obtain ⟨fa3, fb3⟩ := fc3
          obtain ⟨fa4, fb4⟩ := fc4
          obtain ⟨fa5, fb5⟩ := fc5
          obtain ⟨fa6, fb6⟩ := fc6
          obtain ⟨fa7, fb7⟩ := fc7
          obtain ⟨fa8, fb8⟩ := fc8
          obtain ⟨fa9, fb9⟩ := fc9
          have hfin := put10 f16 (.int .i64 (1 + sg.kd % 3)) (.string (obNm k)) (.string (tQ q.1)) (.string (tQ q.2)) (.string ⟨#[]⟩) (.string ⟨#[]⟩) (.string ⟨#[]⟩) (.string ⟨#[]⟩) (.string ⟨#[]⟩) (.string ⟨#[]⟩) Y56 l16
          have HF := Lib.hid hfin
          clear hfin
          go_simp
          refine hK.out _ _ trivial ?_
          clear hK K'
          refine wpAnyZ_done (by kernel_rfl) ⟨rfl, ?_⟩ _
          go_wp2_with fail
          go_meet
          exact ⟨_, rfl, l16, HF.out.1, HF.out.2⟩
        refine AltR.cons false (by kernel_rfl) rfl (fun K' hK => ?_) ?_
        ·
          go_simp
          refine (HP.out _ (XW.trans Y54)).mono ?_
          rintro e V59 ⟨rfl, Z59⟩
          have Y59 : Ext W2 V59 := Y54.trans Z59
          replace f16 := f16.ext Z59
          replace f8 := f8.ext Z59
          refine hK.out _ _ Y59 ?_
          clear hK K'
          try simp only [Act.put, List.getElem_toArray, List.getElem_cons_zero, List.getElem_cons_succ, List.setIfInBounds_toArray, List.set_cons_zero, List.set_cons_succ]
          refine wpAnyZ_one false (i := 9) (by kernel_rfl) (by kernel_rfl) rfl (fun K' hK => ?_)
          have hcv := conv_nm k _ _ (f8.at 0 _ rfl).1 (f8.at 1 _ rfl).1
          go_simp
          clear hcv
          refine hK.out _ _ Y59 ?_
          clear hK K'
          try simp only [Act.put, List.getElem_toArray, List.getElem_cons_zero, List.getElem_cons_succ, List.setIfInBounds_toArray, List.set_cons_zero, List.set_cons_succ]
          refine wpAnyZ_one false (i := 15) (by kernel_rfl) (by kernel_rfl) rfl (fun K' hK => ?_)
          simp only [ptV]
          go_simp
          refine hK.out _ _ Y59 ?_
          clear hK K'
          try simp only [Act.put, List.getElem_toArray, List.getElem_cons_zero, List.getElem_cons_succ, List.setIfInBounds_toArray, List.set_cons_zero, List.set_cons_succ]
          refine wpAnyZ_one true (i := 17) (by kernel_rfl) (by kernel_rfl) rfl (fun K' hK => ?_)
          have fc0 := f16.at 0 _ rfl
          have fc1 := f16.at 1 _ rfl
          have fc2 := f16.at 2 _ rfl
          have fc3 := f16.at 3 _ rfl
          have fc4 := f16.at 4 _ rfl
          have fc5 := f16.at 5 _ rfl
          have fc6 := f16.at 6 _ rfl
          have fc7 := f16.at 7 _ rfl
          have fc8 := f16.at 8 _ rfl
          have fc9 := f16.at 9 _ rfl
          obtain ⟨fa0, fb0⟩ := fc0
          obtain ⟨fa1, fb1⟩ := fc1
          obtain ⟨fa2, fb2⟩ := fc2
          obtain ⟨fa3, fb3⟩ := fc3
          obtain ⟨fa4, fb4⟩ := fc4
          obtain ⟨fa5, fb5⟩ := fc5
          obtain ⟨fa6, fb6⟩ := fc6
          obtain ⟨fa7, fb7⟩ := fc7
          obtain ⟨fa8, fb8⟩ := fc8
          obtain ⟨fa9, fb9⟩ := fc9
          have hfin := put10 f16 (.int .i64 (1 + sg.kd % 3)) (.string (obNm k)) (.string (tQ q.1)) (.string (tQ q.2)) (.string ⟨#[]⟩) (.string ⟨#[]⟩) (.string ⟨#[]⟩) (.string ⟨#[]⟩) (.string ⟨#[]⟩) (.string ⟨#[]⟩) Y59 l16
          have HF := Lib.hid hfin
          clear hfin
          go_simp
          refine hK.out _ _ trivial ?_
          clear hK K'
          refine wpAnyZ_done (by kernel_rfl) ⟨rfl, ?_⟩ _
          go_wp2_with fail
          go_meet
          exact ⟨_, rfl, l16, HF.out.1, HF.out.2⟩
        exact AltR.nil
      refine AltR.cons false (by kernel_rfl) rfl (fun K' hK => ?_) ?_
      ·
        go_simp
        refine (HP.out _ (XW.trans Y53)).mono ?_
        rintro e V63 ⟨rfl, Z63⟩
        have Y63 : Ext W2 V63 := Y53.trans Z63
        replace f16 := f16.ext Z63
        refine hK.out _ _ Y63 ?_
        clear hK K'
        try simp only [Act.put, List.getElem_toArray, List.getElem_cons_zero, List.getElem_cons_succ, List.setIfInBounds_toArray, List.set_cons_zero, List.set_cons_succ]
        refine wpAnyZ_one false (i := 8) (by kernel_rfl) (by kernel_rfl) rfl (fun K' hK => ?_)
        go_simp
        have Y64 : Ext W2 (V63.alloc (.cells #[.int .u8 111, .int .u8 (49 + k)] 5)) := Y63.alloc _
        refine hK.out _ _ Y64 ?_
        clear hK K'
        refine wpAnyZ_gen ?_
        intro V64 hV
        rw [← hV] at Y64
        have Z64 : Ext V63 V64 := by rw [hV]; exact (Ext.refl _).alloc _
        have f8 : Cells V63.heap.size [.int .u8 111, .int .u8 (49 + k)] V64 := by rw [hV]; exact Cells.new _ _ _
        clear hV
        replace f16 := f16.ext Z64
        try simp only [Act.put, List.getElem_toArray, List.getElem_cons_zero, List.getElem_cons_succ, List.setIfInBounds_toArray, List.set_cons_zero, List.set_cons_succ]
        refine wpAnyZ_one false (i := 9) (by kernel_rfl) (by kernel_rfl) rfl (fun K' hK => ?_)
        have hcv := conv_nm k _ _ (f8.at 0 _ rfl).1 (f8.at 1 _ rfl).1
        go_simp
        clear hcv
        refine hK.out _ _ Y64 ?_
        clear hK K'
        try simp only [Act.put, List.getElem_toArray, List.getElem_cons_zero, List.getElem_cons_succ, List.setIfInBounds_toArray, List.set_cons_zero, List.set_cons_succ]
        refine wpAnyZ_one false (i := 15) (by kernel_rfl) (by kernel_rfl) rfl (fun K' hK => ?_)
        simp only [ptV]
        go_simp
        refine hK.out _ _ Y64 ?_
        clear hK K'
        try simp only [Act.put, List.getElem_toArray, List.getElem_cons_zero, List.getElem_cons_succ, List.setIfInBounds_toArray, List.set_cons_zero, List.set_cons_succ]
        refine wpAnyZ_one true (i := 17) (by kernel_rfl) (by kernel_rfl) rfl (fun K' hK => ?_)
        have fc0 := f16.at 0 _ rfl
        have fc1 := f16.at 1 _ rfl
        have fc2 := f16.at 2 _ rfl
        have fc3 := f16.at 3 _ rfl
        have fc4 := f16.at 4 _ rfl
        have fc5 := f16.at 5 _ rfl
        have fc6 := f16.at 6 _ rfl
        have fc7 := f16.at 7 _ rfl
        have fc8 := f16.at 8 _ rfl
        have fc9 := f16.at 9 _ rfl
        obtain ⟨fa0, fb0⟩ := fc0
        obtain ⟨fa1, fb1⟩ := fc1
        obtain ⟨fa2, fb2⟩ := fc2
        obtain ⟨fa3, fb3⟩ := fc3
        obtain ⟨fa4, fb4⟩ := fc4
        obtain ⟨fa5, fb5⟩ := fc5
        obtain ⟨fa6, fb6⟩ := fc6
        obtain ⟨fa7, fb7⟩ := fc7
        obtain ⟨fa8, fb8⟩ := fc8
        obtain ⟨fa9, fb9⟩ := fc9
        have hfin := put10 f16 (.int .i64 (1 + sg.kd % 3)) (.string (obNm k)) (.string (tQ q.1)) (.string (tQ q.2)) (.string ⟨#[]⟩) (.string ⟨#[]⟩) (.string ⟨#[]⟩) (.string ⟨#[]⟩) (.string ⟨#[]⟩) (.string ⟨#[]⟩) Y64 l16
        have HF := Lib.hid hfin
        clear hfin
        go_simp
        refine hK.out _ _ trivial ?_
        clear hK K'
        refine wpAnyZ_done (by kernel_rfl) ⟨rfl, ?_⟩ _
        go_wp2_with fail
        go_meet
        exact ⟨_, rfl, l16, HF.out.1, HF.out.2⟩
      exact AltR.nil
    exact AltR.nil
  case rest =>
    obtain ⟨n, rfl, hn, d8, XO⟩ := hcut
    have m3 := a3.ext XO
    have XC := XW.trans XO
    have hIc := hI.ext (X2.trans XO)
    have mq0 := (m3.at 0 _ rfl).1
    have mq1 := (m3.at 1 _ rfl).1
    have dq2 := (d8.at 2 _ rfl).1
    have dq3 := (d8.at 3 _ rfl).1
    have HC1 := Lib.hid (HC.out _ XC pb pc tb tc hIc)
    have hob : obPt pts tris s sg = if 0 < (locd pts tris q tris.length).length then q else pts.getD (sg.d.toNat % pts.length) (0, 0) := by unfold obPt; rw [hlb]
    obtain ⟨qx, qy⟩ := q
    simp only [mV, ptV] at HC1
    have hinB : ∃ inB : Bool, inB = decide (0 < (locd pts tris (qx, qy) tris.length).length) := ⟨_, rfl⟩
    obtain ⟨inB, hinB⟩ := hinB
    rw [← hinB] at HC1
    replace hinB := Lib.hid hinB
    go_upto_if 42 with ((go_at_call 80; refine HC1.out.mono ?_; rintro e w3 ⟨rfl, X3⟩; replace m3 := m3.ext X3; replace d8 := d8.ext X3; have X4 := XC.trans X3; have XO4 := XO.trans X3; have hI4 := hIc.ext X3; clear mq0 mq1 dq2 dq3))
    have nd := ((c1.ext XO4).at 5 _ rfl).1
    go_cut [] (fun wx => Cells n [.int .i64 (1 + sg.kd % 3), .string (obNm k), .string (tQ (obPt pts tris s sg).1), .string (tQ (obPt pts tris s sg).2), .string ⟨#[]⟩, .string ⟨#[]⟩, .string ⟨#[]⟩, .string ⟨#[]⟩, .string ⟨#[]⟩, .string ⟨#[]⟩] wx ∧ Ext W2 wx)
    case first =>
      cases inB with
      | true =>
        have hin : 0 < (locd pts tris (qx, qy) tris.length).length := of_decide_eq_true hinB.out.symm
        rw [if_pos hin] at hob
        go_wp2_with fail
        go_meet
        rw [hob]
        exact ⟨d8, XO4⟩
      | false =>
        have hin : ¬ 0 < (locd pts tris (qx, qy) tris.length).length := of_decide_eq_false hinB.out.symm
        rw [if_neg hin] at hob
        go_upto_region 5 with fail
        have hj : sg.d.toNat % pts.length < pts.length := Nat.mod_lt _ hp0
        have hq := hI4.p _ hj
        obtain ⟨hx, hy⟩ := hq
        have hgd : pts.getD (sg.d.toNat % pts.length) (0, 0) = pts[sg.d.toNat % pts.length] := by rw [List.getD_eq_getElem?_getD, List.getElem?_eq_getElem hj]; rfl
        rw [hgd] at hob
        clear hgd
        have hd64 : IntKind.i64.wrap sg.d = sg.d := by have := hg.d; simp only [IntKind.wrap_i64]; omega
        have hrem : sg.d.tmod (pts.length : Int) = ((sg.d.toNat % pts.length : Nat) : Int) := by
          have hd0 := hg.d
          obtain ⟨dn, hdn⟩ : ∃ dn : Nat, sg.d = dn := ⟨sg.d.toNat, by omega⟩
          rw [hdn, Int.tmod_eq_emod_of_nonneg (by omega), Int.toNat_natCast]
          exact (Int.natCast_emod _ _).symm
        have hne : pts ≠ [] := fun e => by rw [e] at hp0; simp at hp0
        rw [Nat.zero_add] at hx hy
        generalize pts[sg.d.toNat % pts.length] = np at *
        generalize sg.d.toNat % pts.length = j at *
        have hwj : IntKind.i64.wrap (j : Int) = j := by
          have : pts.length ≤ 6 := hpl6
          simp only [IntKind.wrap_i64]; omega
        have hji : (j : Int) < pts.length := by omega
        have mq0 := (m3.at 0 _ rfl).1
        have lp : pb < w3.heap.size := World.block_lt_of_cell? w3 _ hx
        have lm : w1.heap.size < w3.heap.size := World.block_lt_of_cell? w3 _ mq0
        have ls : w.heap.size + 1 < w3.heap.size := World.block_lt_of_cell? w3 _ nd
        refine wp_region_Z' (TE w3.heap.size w3) 12 (by kernel_rfl) ?_
        intro V0 hV0
        have Y0 : Ext w3 V0 := by rw [hV0]; exact (Ext.refl w3).drew
        have hT : TE w3.heap.size w3 false V0 := Y0
        clear hV0
        refine' wpAnyZ_take 12 (i := 0) (v := _) rfl rfl (by kernel_rfl) (by decide) (by kernel_rfl) (by kernel_rfl) (by kernel_rfl) (by kernel_rfl) (fun _ _ _ h => h.no.elim) hT (by rfl) ?hy ?_
        case hy => (intro w' hS; have g0 := hS.c lm mq0; have g1 := hS.c ls nd; have g2 := hS.c lp hx; have g3 := hS.c lp hy; clear hS; go_simp; rfl)
        try simp only [Act.put, List.getElem_toArray, List.getElem_cons_zero, List.getElem_cons_succ, List.setIfInBounds_toArray, List.set_cons_zero, List.set_cons_succ]
        refine' wpAnyZ_take 12 (i := 1) (v := _) rfl rfl (by kernel_rfl) (by decide) (by kernel_rfl) (by kernel_rfl) (by kernel_rfl) (by kernel_rfl) (fun _ _ _ h => h.no.elim) hT (by rfl) ?hy ?_
        case hy => (intro w' hS; have g0 := hS.c lm mq0; have g1 := hS.c ls nd; have g2 := hS.c lp hx; have g3 := hS.c lp hy; clear hS; go_simp; rfl)
        try simp only [Act.put, List.getElem_toArray, List.getElem_cons_zero, List.getElem_cons_succ, List.setIfInBounds_toArray, List.set_cons_zero, List.set_cons_succ]
        refine' wpAnyZ_take 12 (i := 2) (v := _) rfl rfl (by kernel_rfl) (by decide) (by kernel_rfl) (by kernel_rfl) (by kernel_rfl) (by kernel_rfl) (fun _ _ _ h => h.no.elim) hT (by rfl) ?hy ?_
        case hy => (intro w' hS; have g0 := hS.c lm mq0; have g1 := hS.c ls nd; have g2 := hS.c lp hx; have g3 := hS.c lp hy; clear hS; go_simp; rfl)
        try simp only [Act.put, List.getElem_toArray, List.getElem_cons_zero, List.getElem_cons_succ, List.setIfInBounds_toArray, List.set_cons_zero, List.set_cons_succ]
        refine' wpAnyZ_take 12 (i := 3) (v := _) rfl rfl (by kernel_rfl) (by decide) (by kernel_rfl) (by kernel_rfl) (by kernel_rfl) (by kernel_rfl) (fun _ _ _ h => h.no.elim) hT (by rfl) ?hy ?_
        case hy => (intro w' hS; have g0 := hS.c lm mq0; have g1 := hS.c ls nd; have g2 := hS.c lp hx; have g3 := hS.c lp hy; clear hS; go_simp; rfl)
        try simp only [Act.put, List.getElem_toArray, List.getElem_cons_zero, List.getElem_cons_succ, List.setIfInBounds_toArray, List.set_cons_zero, List.set_cons_succ]
        refine' wpAnyZ_take 12 (i := 4) (v := _) rfl rfl (by kernel_rfl) (by decide) (by kernel_rfl) (by kernel_rfl) (by kernel_rfl) (by kernel_rfl) (fun _ _ _ h => h.no.elim) hT (by rfl) ?hy ?_
        case hy => (intro w' hS; have g0 := hS.c lm mq0; have g1 := hS.c ls nd; have g2 := hS.c lp hx; have g3 := hS.c lp hy; clear hS; go_simp; rfl)
        try simp only [Act.put, List.getElem_toArray, List.getElem_cons_zero, List.getElem_cons_succ, List.setIfInBounds_toArray, List.set_cons_zero, List.set_cons_succ]
        refine' wpAnyZ_take 12 (i := 5) (v := _) rfl rfl (by kernel_rfl) (by decide) (by kernel_rfl) (by kernel_rfl) (by kernel_rfl) (by kernel_rfl) (fun _ _ _ h => h.no.elim) hT (by rfl) ?hy ?_
        case hy => (intro w' hS; have g0 := hS.c lm mq0; have g1 := hS.c ls nd; have g2 := hS.c lp hx; have g3 := hS.c lp hy; clear hS; go_simp; rfl)
        try simp only [Act.put, List.getElem_toArray, List.getElem_cons_zero, List.getElem_cons_succ, List.setIfInBounds_toArray, List.set_cons_zero, List.set_cons_succ]
        refine' wpAnyZ_take 12 (i := 6) (v := _) rfl rfl (by kernel_rfl) (by decide) (by kernel_rfl) (by kernel_rfl) (by kernel_rfl) (by kernel_rfl) (fun _ _ _ h => h.no.elim) hT (by rfl) ?hy ?_
        case hy => (intro w' hS; have g0 := hS.c lm mq0; have g1 := hS.c ls nd; have g2 := hS.c lp hx; have g3 := hS.c lp hy; clear hS; go_simp; rfl)
        try simp only [Act.put, List.getElem_toArray, List.getElem_cons_zero, List.getElem_cons_succ, List.setIfInBounds_toArray, List.set_cons_zero, List.set_cons_succ]
        refine' wpAnyZ_take 12 (i := 7) (v := _) rfl rfl (by kernel_rfl) (by decide) (by kernel_rfl) (by kernel_rfl) (by kernel_rfl) (by kernel_rfl) (fun _ _ _ h => h.no.elim) hT (by rfl) ?hy ?_
        case hy => (intro w' hS; have g0 := hS.c lm mq0; have g1 := hS.c ls nd; have g2 := hS.c lp hx; have g3 := hS.c lp hy; clear hS; go_simp; rfl)
        try simp only [Act.put, List.getElem_toArray, List.getElem_cons_zero, List.getElem_cons_succ, List.setIfInBounds_toArray, List.set_cons_zero, List.set_cons_succ]
        refine' wpAnyZ_take 12 (i := 8) (v := _) rfl rfl (by kernel_rfl) (by decide) (by kernel_rfl) (by kernel_rfl) (by kernel_rfl) (by kernel_rfl) (fun _ _ _ h => h.no.elim) hT (by rfl) ?hy ?_
        case hy => (intro w' hS; have g0 := hS.c lm mq0; have g1 := hS.c ls nd; have g2 := hS.c lp hx; have g3 := hS.c lp hy; clear hS; go_simp; rfl)
        try simp only [Act.put, List.getElem_toArray, List.getElem_cons_zero, List.getElem_cons_succ, List.setIfInBounds_toArray, List.set_cons_zero, List.set_cons_succ]
        refine' wpAnyZ_take 12 (i := 9) (v := _) rfl rfl (by kernel_rfl) (by decide) (by kernel_rfl) (by kernel_rfl) (by kernel_rfl) (by kernel_rfl) (fun _ _ _ h => h.no.elim) hT (by rfl) ?hy ?_
        case hy => (intro w' hS; have g0 := hS.c lm mq0; have g1 := hS.c ls nd; have g2 := hS.c lp hx; have g3 := hS.c lp hy; clear hS; go_simp; rfl)
        try simp only [Act.put, List.getElem_toArray, List.getElem_cons_zero, List.getElem_cons_succ, List.setIfInBounds_toArray, List.set_cons_zero, List.set_cons_succ]
        refine' wpAnyZ_take 12 (i := 10) (v := _) rfl rfl (by kernel_rfl) (by decide) (by kernel_rfl) (by kernel_rfl) (by kernel_rfl) (by kernel_rfl) (fun _ _ _ h => h.no.elim) hT (by rfl) ?hy ?_
        case hy => (intro w' hS; have g0 := hS.c lm mq0; have g1 := hS.c ls nd; have g2 := hS.c lp hx; have g3 := hS.c lp hy; clear hS; go_simp; rfl)
        try simp only [Act.put, List.getElem_toArray, List.getElem_cons_zero, List.getElem_cons_succ, List.setIfInBounds_toArray, List.set_cons_zero, List.set_cons_succ]
        have d9 := d8.ext Y0
        refine wpAnyZ_one false (i := 11) (by kernel_rfl) (by kernel_rfl) rfl (fun K' hK => ?_)
        go_simp
        refine hK.out _ _ Y0 ?_
        clear hK K'
        try simp only [Act.put, List.getElem_toArray, List.getElem_cons_zero, List.getElem_cons_succ, List.setIfInBounds_toArray, List.set_cons_zero, List.set_cons_succ]
        obtain ⟨fa2, fb2⟩ := d9.at 2 _ rfl
        obtain ⟨fa3, fb3⟩ := d9.at 3 _ rfl
        obtain ⟨nx, ny⟩ := np
        have XE := ((XO4.trans Y0).setCell (p := ⟨n, 2, none⟩) hn (.string (tQ nx))).setCell (p := ⟨n, 3, none⟩) hn (.string (tQ ny))
        have d10 := (d9.put 2 (by simp) (.string (tQ nx))).put 3 (by simp) (.string (tQ ny))
        refine wpAnyZ_one true (i := 12) (by kernel_rfl) (by kernel_rfl) rfl (fun K' hK => ?_)
        go_simp
        refine hK.out _ _ trivial ?_
        clear hK K'
        refine wpAnyZ_done (by kernel_rfl) ⟨rfl, ?_⟩ _
        go_wp2_with fail
        go_meet
        rw [hob]
        exact ⟨d10, XE⟩
    case rest =>
      have hcut2 := hcut
      obtain ⟨d9, XO9⟩ := hcut2
      have hnw : n < wc.heap.size := World.block_lt_of_cell? wc _ (d9.at 0 _ rfl).1
      clear d8 m3 X3 X4 hI4 hIc XO XC HC1 HC HP XO4 nd hob hcut
      generalize hpt : obPt pts tris s sg = pt at *
      have X9 := XW.trans XO9
      have s1 := c1.ext XO9
      have r1 := c2.ext XO9
      have nu0 := (s1.at 3 _ rfl).1
      have nu1 := (s1.at 4 _ rfl).1
      have hl3 : sg.u0.toNat % 3 < 3 := Nat.mod_lt _ (by omega)
      have hu3 : sg.u1.toNat % 3 < 3 := Nat.mod_lt _ (by omega)
      have hl : sg.u0.tmod 3 = ((sg.u0.toNat % 3 : Nat) : Int) := by
        have := hg.u0
        rw [Int.tmod_eq_emod_of_nonneg this.1]; omega
      have hu : sg.u1.tmod 3 = ((sg.u1.toNat % 3 : Nat) : Int) := by
        have := hg.u1
        rw [Int.tmod_eq_emod_of_nonneg this.1]; omega
      go_upto_region 7 with fail
      have hW6 : ∃ W6, W6 = wc.alloc (.cells #[.string ⟨#[65]⟩, .string ⟨#[66]⟩, .string ⟨#[67]⟩] 160) := ⟨_, rfl⟩
      obtain ⟨W6, hW6⟩ := hW6
      rw [← hW6]
      have hNB : ∃ nb, nb = wc.heap.size := ⟨_, rfl⟩
      obtain ⟨nb, hNB⟩ := hNB
      rw [← hNB]
      rw [← hNB] at hnw
      have Z6 : Ext wc W6 := by rw [hW6]; exact (Ext.refl wc).alloc _
      have e6 : Cells nb [.string ⟨#[65]⟩, .string ⟨#[66]⟩, .string ⟨#[67]⟩] W6 := by rw [hW6, hNB]; exact Cells.new _ _ _
      clear hW6 hNB
      replace d9 := d9.ext Z6
      replace s1 := s1.ext Z6
      replace r1 := r1.ext Z6
      replace X9 := X9.trans Z6
      replace nu0 := (s1.at 3 _ rfl).1
      replace nu1 := (s1.at 4 _ rfl).1
      have hlu : luA sg = if sg.u0.toNat % 3 = sg.u1.toNat % 3 then (0, 1 + sg.u1.toNat % 3 % 2) else (sg.u0.toNat % 3, sg.u1.toNat % 3) := rfl
      have hup : Hid (obsOf pts tris s sg k = if sg.kd % 3 = 0 then ⟨.outcrop, obNm k, pt, nmA (sg.u1.toNat % 3), ⟨#[]⟩⟩ else ⟨if sg.kd % 3 = 1 then .contact (mkRat (sg.d % 12) 2) else .dip (sg.n0.tmod 5) (sg.n1.tmod 5) (nzA sg), obNm k, pt, nmA (max (luA sg).1 (luA sg).2), nmA (min (luA sg).1 (luA sg).2)⟩) := Lib.hid (by unfold obsOf; rw [hpt])
      rw [hlu] at hup
      clear hlu
      generalize sg.u0.toNat % 3 = l at *
      generalize sg.u1.toNat % 3 = u at *
      have hwl : IntKind.i64.wrap (l : Int) = l := by simp only [IntKind.wrap_i64]; omega
      have hwu : IntKind.i64.wrap (u : Int) = u := by simp only [IntKind.wrap_i64]; omega
      have hnm : ∀ j, j < 3 → W6.cell? ⟨nb, j, none⟩ = some (.string (nmA j)) := fun j hj => by
        rcases (show j = 0 ∨ j = 1 ∨ j = 2 by omega) with rfl | rfl | rfl
        · exact (e6.at 0 _ rfl).1
        · exact (e6.at 1 _ rfl).1
        · exact (e6.at 2 _ rfl).1
      replace hnm := Lib.hid hnm
      go_quiet (fail)
      have hW7 : ∃ W7, W7 = W6.drewN nq := ⟨_, rfl⟩
      obtain ⟨W7, hW7⟩ := hW7
      rw [← hW7]
      have Z7 : Ext W6 W7 := by rw [hW7]; exact (Ext.refl W6).drewN nq
      clear hW7
      replace d9 := d9.ext Z7
      replace s1 := s1.ext Z7
      replace r1 := r1.ext Z7
      replace X9 := X9.trans Z7
      replace hnm : Hid (∀ j, j < 3 → W7.cell? ⟨nb, j, none⟩ = some (.string (nmA j))) := Lib.hid fun j hj => Z7.cell (hnm.out j hj)
      replace r1 : Cells (w.heap.size + 1 + 1) [.int .i64 0, .string ⟨#[]⟩, .string ⟨#[]⟩, .string ⟨#[]⟩, .string ⟨#[]⟩, .string ⟨#[]⟩, .string ⟨#[]⟩, .string ⟨#[]⟩, .string ⟨#[]⟩, .string ⟨#[]⟩] W7 := r1
      have hn2 : w.heap.size + 1 + 1 < n := by omega
      clear nu0 nu1 hl hu XO9 Z6 Z7 e6 X2 hI a3 c0 c1 c2 nk np0 np1 ns0 ns1 ns2 ns3 hlb hpt
      by_cases hk0 : sg.kd % 3 = 0
      · have d1 : Cells n [.int .i64 1, .string (obNm k), .string (tQ pt.1), .string (tQ pt.2), .string ⟨#[]⟩, .string ⟨#[]⟩, .string ⟨#[]⟩, .string ⟨#[]⟩, .string ⟨#[]⟩, .string ⟨#[]⟩] W7 := by rw [hk0] at d9; exact d9
        clear d9
        have fk := (d1.at 0 _ rfl).1
        have fb5 := (d1.at 5 _ rfl)
        obtain ⟨fb5, ff5⟩ := fb5
        have hnu := hnm.out u hu3
        have hui : (u : Int) < 3 := by omega
        go_upto_region 10 with fail
        have d2 := d1.put 5 (by simp) (.string (nmA u))
        have rr := r1.setOther (a := ⟨n, 5, none⟩) (by show w.heap.size + 1 + 1 ≠ n; omega) (.string (nmA u))
        have XX := X9.setCell (p := ⟨n, 5, none⟩) (by show w.heap.size ≤ n; omega) (.string (nmA u))
        have hW8 : ∃ W8, W8 = W7.setCell ⟨n, 5, none⟩ (.string (nmA u)) := ⟨_, rfl⟩
        obtain ⟨W8, hW8⟩ := hW8
        rw [← hW8] at d2 rr XX ⊢
        clear hW8 d1 r1 X9 fk fb5 ff5 hnu
        have fd0 := (d2.at 0 _ rfl).1
        have fd1 := (d2.at 1 _ rfl).1
        have fd2 := (d2.at 2 _ rfl).1
        have fd3 := (d2.at 3 _ rfl).1
        have fd4 := (d2.at 4 _ rfl).1
        have fd5 := (d2.at 5 _ rfl).1
        have fd6 := (d2.at 6 _ rfl).1
        have fd7 := (d2.at 7 _ rfl).1
        have fd8 := (d2.at 8 _ rfl).1
        have fd9 := (d2.at 9 _ rfl).1
        obtain ⟨ra0, rb0⟩ := rr.at 0 _ rfl
        obtain ⟨ra1, rb1⟩ := rr.at 1 _ rfl
        obtain ⟨ra2, rb2⟩ := rr.at 2 _ rfl
        obtain ⟨ra3, rb3⟩ := rr.at 3 _ rfl
        obtain ⟨ra4, rb4⟩ := rr.at 4 _ rfl
        obtain ⟨ra5, rb5⟩ := rr.at 5 _ rfl
        obtain ⟨ra6, rb6⟩ := rr.at 6 _ rfl
        obtain ⟨ra7, rb7⟩ := rr.at 7 _ rfl
        obtain ⟨ra8, rb8⟩ := rr.at 8 _ rfl
        obtain ⟨ra9, rb9⟩ := rr.at 9 _ rfl
        have HF := Lib.hid (put10 rr (.int .i64 1) (.string (obNm k)) (.string (tQ pt.1)) (.string (tQ pt.2)) (.string ⟨#[]⟩) (.string (nmA u)) (.string ⟨#[]⟩) (.string ⟨#[]⟩) (.string ⟨#[]⟩) (.string ⟨#[]⟩) XX (by omega))
        go_wp2_with fail
        have q0 := (HF.out.1.at 0 _ rfl).1
        have q1 := (HF.out.1.at 1 _ rfl).1
        have q2 := (HF.out.1.at 2 _ rfl).1
        have q3 := (HF.out.1.at 3 _ rfl).1
        have q4 := (HF.out.1.at 4 _ rfl).1
        have q5 := (HF.out.1.at 5 _ rfl).1
        have q6 := (HF.out.1.at 6 _ rfl).1
        have q7 := (HF.out.1.at 7 _ rfl).1
        have q8 := (HF.out.1.at 8 _ rfl).1
        have q9 := (HF.out.1.at 9 _ rfl).1
        refine bodyPost_ret (v := .agg #[.int .i64 1, .string (obNm k), .string (tQ pt.1), .string (tQ pt.2), .string ⟨#[]⟩, .string (nmA u), .string ⟨#[]⟩, .string ⟨#[]⟩, .string ⟨#[]⟩, .string ⟨#[]⟩]) (by simp [results, Tryz.results38, go_sem, q0, q1, q2, q3, q4, q5, q6, q7, q8, q9]) rfl ⟨?_, HF.out.2⟩
        rw [hup.out, if_pos hk0]
        rfl
      · have hk1 : decide (1 + sg.kd % 3 = 1) = false := decide_eq_false (by omega)
        have fk := (d9.at 0 _ rfl).1
        go_upto_if 76 with fail
        replace hup : Hid (obsOf pts tris s sg k = ⟨if sg.kd % 3 = 1 then .contact (mkRat (sg.d % 12) 2) else .dip (sg.n0.tmod 5) (sg.n1.tmod 5) (nzA sg), obNm k, pt, nmA (max (if l = u then (0, 1 + u % 2) else (l, u)).1 (if l = u then (0, 1 + u % 2) else (l, u)).2), nmA (min (if l = u then (0, 1 + u % 2) else (l, u)).1 (if l = u then (0, 1 + u % 2) else (l, u)).2)⟩) := Lib.hid (by rw [hup.out, if_neg hk0])
        have hlu3 : ∃ lu : Nat × Nat, lu = (if l = u then (0, 1 + u % 2) else (l, u)) := ⟨_, rfl⟩
        obtain ⟨lu, hlu⟩ := hlu3
        rw [← hlu] at hup
        have hlu1 : lu.1 < 3 ∧ lu.2 < 3 := by rw [hlu]; split <;> simp <;> omega
        obtain ⟨l2, u2⟩ := lu
        simp only at hlu1 hup
        go_cut [12, 13] (fun s12 s13 wx => s12 = .int .i64 l2 ∧ s13 = .int .i64 u2 ∧ wx = W7)
        case first =>
          by_cases hlu0 : l = u
          · rw [if_pos hlu0] at hlu
            have hde : decide ((l : Int) = u) = true := decide_eq_true (by omega)
            have hm2 : (u : Int).tmod 2 = ((u % 2 : Nat) : Int) := by rw [Int.tmod_eq_emod_of_nonneg (by omega)]; omega
            have hw2 : IntKind.i64.wrap (1 + ((u % 2 : Nat) : Int)) = ((1 + u % 2 : Nat) : Int) := by simp only [IntKind.wrap_i64]; omega
            have hww : IntKind.i64.wrap ((u % 2 : Nat) : Int) = ((u % 2 : Nat) : Int) := by simp only [IntKind.wrap_i64]; omega
            cases hlu
            clear hlu1 hup
            generalize 1 + u % 2 = z1 at *
            generalize u % 2 = z2 at *
            go_wp2_with fail
            go_meet
            exact ⟨rfl, rfl, rfl⟩
          · rw [if_neg hlu0] at hlu
            have hde : decide ((l : Int) = u) = false := decide_eq_false (by omega)
            cases hlu
            go_wp2_with fail
            go_meet
            exact ⟨rfl, rfl, rfl⟩
        case rest =>
          obtain ⟨rfl, rfl, hwc⟩ := hcut
          rw [hwc]
          clear hwc hlu hl3 hu3 hwl hwu
          have hmx : max (l2 : Int) (u2 : Int) = ((max l2 u2 : Nat) : Int) := by omega
          have hmn : min (l2 : Int) (u2 : Int) = ((min l2 u2 : Nat) : Int) := by omega
          have mx3 : max l2 u2 < 3 := by omega
          have mn3 : min l2 u2 < 3 := by omega
          generalize max l2 u2 = mx at *
          generalize min l2 u2 = mn at *
          have nmx := hnm.out mx mx3
          have nmn := hnm.out mn mn3
          have imx : (mx : Int) < 3 := by omega
          have imn : (mn : Int) < 3 := by omega
          go_upto_region 13 with fail
          refine wp_region_Z' (TN nb mx mn (.string (nmA mx)) (.string (nmA mn))) 13 (by kernel_rfl) ?_
          intro V0 hV0
          have Y0 : Ext W7 V0 := by rw [hV0]; exact (Ext.refl W7).drew
          have hT : TN nb mx mn (.string (nmA mx)) (.string (nmA mn)) false V0 := ⟨Y0.cell nmx, Y0.cell nmn⟩
          clear hV0 nmx nmn hnm
          refine' wpAnyZ_take 13 (i := 0) (v := _) rfl rfl (by kernel_rfl) (by decide) (by kernel_rfl) (by kernel_rfl) (by kernel_rfl) (by kernel_rfl) (fun _ _ _ h => h.no.elim) hT (by rfl) ?hy ?_
          case hy => (intro w' hS; obtain ⟨g0, g1⟩ := hS.c; clear hS; go_simp; rfl)
          try simp only [Act.put, List.getElem_toArray, List.getElem_cons_zero, List.getElem_cons_succ, List.setIfInBounds_toArray, List.set_cons_zero, List.set_cons_succ]
          refine' wpAnyZ_take 13 (i := 1) (v := _) rfl rfl (by kernel_rfl) (by decide) (by kernel_rfl) (by kernel_rfl) (by kernel_rfl) (by kernel_rfl) (fun _ _ _ h => h.no.elim) hT (by rfl) ?hy ?_
          case hy => (intro w' hS; obtain ⟨g0, g1⟩ := hS.c; clear hS; go_simp; rfl)
          try simp only [Act.put, List.getElem_toArray, List.getElem_cons_zero, List.getElem_cons_succ, List.setIfInBounds_toArray, List.set_cons_zero, List.set_cons_succ]
          refine' wpAnyZ_take 13 (i := 2) (v := _) rfl rfl (by kernel_rfl) (by decide) (by kernel_rfl) (by kernel_rfl) (by kernel_rfl) (by kernel_rfl) (fun _ _ _ h => h.no.elim) hT (by rfl) ?hy ?_
          case hy => (intro w' hS; obtain ⟨g0, g1⟩ := hS.c; clear hS; go_simp; rfl)
          try simp only [Act.put, List.getElem_toArray, List.getElem_cons_zero, List.getElem_cons_succ, List.setIfInBounds_toArray, List.set_cons_zero, List.set_cons_succ]
          refine' wpAnyZ_take 13 (i := 3) (v := _) rfl rfl (by kernel_rfl) (by decide) (by kernel_rfl) (by kernel_rfl) (by kernel_rfl) (by kernel_rfl) (fun _ _ _ h => h.no.elim) hT (by rfl) ?hy ?_
          case hy => (intro w' hS; obtain ⟨g0, g1⟩ := hS.c; clear hS; go_simp; rfl)
          try simp only [Act.put, List.getElem_toArray, List.getElem_cons_zero, List.getElem_cons_succ, List.setIfInBounds_toArray, List.set_cons_zero, List.set_cons_succ]
          refine' wpAnyZ_take 13 (i := 4) (v := _) rfl rfl (by kernel_rfl) (by decide) (by kernel_rfl) (by kernel_rfl) (by kernel_rfl) (by kernel_rfl) (fun _ _ _ h => h.no.elim) hT (by rfl) ?hy ?_
          case hy => (intro w' hS; obtain ⟨g0, g1⟩ := hS.c; clear hS; go_simp; rfl)
          try simp only [Act.put, List.getElem_toArray, List.getElem_cons_zero, List.getElem_cons_succ, List.setIfInBounds_toArray, List.set_cons_zero, List.set_cons_succ]
          refine' wpAnyZ_take 13 (i := 5) (v := _) rfl rfl (by kernel_rfl) (by decide) (by kernel_rfl) (by kernel_rfl) (by kernel_rfl) (by kernel_rfl) (fun _ _ _ h => h.no.elim) hT (by rfl) ?hy ?_
          case hy => (intro w' hS; obtain ⟨g0, g1⟩ := hS.c; clear hS; go_simp; rfl)
          try simp only [Act.put, List.getElem_toArray, List.getElem_cons_zero, List.getElem_cons_succ, List.setIfInBounds_toArray, List.set_cons_zero, List.set_cons_succ]
          refine' wpAnyZ_take 13 (i := 6) (v := _) rfl rfl (by kernel_rfl) (by decide) (by kernel_rfl) (by kernel_rfl) (by kernel_rfl) (by kernel_rfl) (fun _ _ _ h => h.no.elim) hT (by rfl) ?hy ?_
          case hy => (intro w' hS; obtain ⟨g0, g1⟩ := hS.c; clear hS; go_simp; rfl)
          try simp only [Act.put, List.getElem_toArray, List.getElem_cons_zero, List.getElem_cons_succ, List.setIfInBounds_toArray, List.set_cons_zero, List.set_cons_succ]
          refine' wpAnyZ_take 13 (i := 7) (v := _) rfl rfl (by kernel_rfl) (by decide) (by kernel_rfl) (by kernel_rfl) (by kernel_rfl) (by kernel_rfl) (fun _ _ _ h => h.no.elim) hT (by rfl) ?hy ?_
          case hy => (intro w' hS; obtain ⟨g0, g1⟩ := hS.c; clear hS; go_simp; rfl)
          try simp only [Act.put, List.getElem_toArray, List.getElem_cons_zero, List.getElem_cons_succ, List.setIfInBounds_toArray, List.set_cons_zero, List.set_cons_succ]
          refine' wpAnyZ_take 13 (i := 8) (v := _) rfl rfl (by kernel_rfl) (by decide) (by kernel_rfl) (by kernel_rfl) (by kernel_rfl) (by kernel_rfl) (fun _ _ _ h => h.no.elim) hT (by rfl) ?hy ?_
          case hy => (intro w' hS; obtain ⟨g0, g1⟩ := hS.c; clear hS; go_simp; rfl)
          try simp only [Act.put, List.getElem_toArray, List.getElem_cons_zero, List.getElem_cons_succ, List.setIfInBounds_toArray, List.set_cons_zero, List.set_cons_succ]
          refine' wpAnyZ_take 13 (i := 9) (v := _) rfl rfl (by kernel_rfl) (by decide) (by kernel_rfl) (by kernel_rfl) (by kernel_rfl) (by kernel_rfl) (fun _ _ _ h => h.no.elim) hT (by rfl) ?hy ?_
          case hy => (intro w' hS; obtain ⟨g0, g1⟩ := hS.c; clear hS; go_simp; rfl)
          try simp only [Act.put, List.getElem_toArray, List.getElem_cons_zero, List.getElem_cons_succ, List.setIfInBounds_toArray, List.set_cons_zero, List.set_cons_succ]
          have d1 := d9.ext Y0
          have r2 := r1.ext Y0
          have X2 := X9.trans Y0
          obtain ⟨fa5, fb5⟩ := d1.at 5 _ rfl
          obtain ⟨fa6, fb6⟩ := d1.at 6 _ rfl
          clear d9 r1 X9
          refine wpAnyZ_one false (i := 10) (by kernel_rfl) (by kernel_rfl) rfl (fun K' hK => ?_)
          go_simp
          refine hK.out _ _ hT ?_
          clear hK K'
          try simp only [Act.put, List.getElem_toArray, List.getElem_cons_zero, List.getElem_cons_succ, List.setIfInBounds_toArray, List.set_cons_zero, List.set_cons_succ]
          have hne : nb ≠ n := by omega
          refine wpAnyZ_one false (i := 11) (by kernel_rfl) (by kernel_rfl) rfl (fun K' hK => ?_)
          go_simp
          refine hK.out _ _ ⟨(cell_set V0 ⟨n, 5, none⟩ (.string (nmA mx)) hne).trans hT.c.1, (cell_set V0 ⟨n, 5, none⟩ (.string (nmA mx)) hne).trans hT.c.2⟩ ?_
          clear hK K'
          try simp only [Act.put, List.getElem_toArray, List.getElem_cons_zero, List.getElem_cons_succ, List.setIfInBounds_toArray, List.set_cons_zero, List.set_cons_succ]
          refine wpAnyZ_one false (i := 12) (by kernel_rfl) (by kernel_rfl) rfl (fun K' hK => ?_)
          go_simp
          refine hK.out _ _ ⟨(cell_set V0 ⟨n, 5, none⟩ (.string (nmA mx)) hne).trans hT.c.1, (cell_set V0 ⟨n, 5, none⟩ (.string (nmA mx)) hne).trans hT.c.2⟩ ?_
          clear hK K'
          try simp only [Act.put, List.getElem_toArray, List.getElem_cons_zero, List.getElem_cons_succ, List.setIfInBounds_toArray, List.set_cons_zero, List.set_cons_succ]
          refine wpAnyZ_one true (i := 13) (by kernel_rfl) (by kernel_rfl) rfl (fun K' hK => ?_)
          go_simp
          refine hK.out _ _ trivial ?_
          clear hK K'
          refine wpAnyZ_done (by kernel_rfl) ⟨rfl, ?_⟩ _
          replace d1 := (d1.put 5 (by simp) (.string (nmA mx))).put 6 (by simp) (.string (nmA mn))
          replace r2 := (r2.setOther (a := ⟨n, 5, none⟩) (by show w.heap.size + 1 + 1 ≠ n; omega) (.string (nmA mx))).setOther (a := ⟨n, 6, none⟩) (by show w.heap.size + 1 + 1 ≠ n; omega) (.string (nmA mn))
          replace s1 := ((s1.ext Y0).setOther (a := ⟨n, 5, none⟩) (by show w.heap.size + 1 ≠ n; omega) (.string (nmA mx))).setOther (a := ⟨n, 6, none⟩) (by show w.heap.size + 1 ≠ n; omega) (.string (nmA mn))
          replace X2 := (X2.setCell (p := ⟨n, 5, none⟩) (by show w.heap.size ≤ n; omega) (.string (nmA mx))).setCell (p := ⟨n, 6, none⟩) (by show w.heap.size ≤ n; omega) (.string (nmA mn))
          have hW8 : ∃ W8, W8 = (V0.setCell ⟨n, 5, none⟩ (.string (nmA mx))).setCell ⟨n, 6, none⟩ (.string (nmA mn)) := ⟨_, rfl⟩
          obtain ⟨W8, hW8⟩ := hW8
          rw [← hW8] at d1 r2 s1 X2 ⊢
          clear hW8 hT fa5 fb5 fa6 fb6 Y0 fk hk1
          have fk := (d1.at 0 _ rfl).1
          rcases (show sg.kd % 3 = 1 ∨ sg.kd % 3 = 2 by omega) with hk1 | hk1
          · rw [hk1] at fk d1 hup
            have hde : decide ((1 : Int) + 1 = 2) = true := rfl
            have nd := (s1.at 5 _ rfl).1
            have hdm : sg.d.tmod 12 = sg.d % 12 := Int.tmod_eq_emod_of_nonneg hg.d.1
            have hdw : IntKind.i64.wrap (sg.d % 12) = sg.d % 12 := by simp only [IntKind.wrap_i64]; omega
            have fk2 : W8.cell? ⟨n, 0, none⟩ = some (.int .i64 2) := fk
            clear fk
            go_wp2_with fail
            refine (HO.out _ X2).mono ?_
            rintro e W9 ⟨rfl, X3⟩
            replace d1 := d1.ext X3
            replace r2 := r2.ext X3
            replace X2 := X2.trans X3
            obtain ⟨fa4, fb4⟩ := d1.at 4 _ rfl
            generalize mkRat (sg.d % 12) 2 = dep at *
            go_upto_region 16 with fail
            replace d1 := d1.put 4 (by simp) (.string (tQ dep))
            replace r2 := r2.setOther (a := ⟨n, 4, none⟩) (by show w.heap.size + 1 + 1 ≠ n; omega) (.string (tQ dep))
            replace X2 := X2.setCell (p := ⟨n, 4, none⟩) (by show w.heap.size ≤ n; omega) (.string (tQ dep))
            have hWA : ∃ WA, WA = W9.setCell ⟨n, 4, none⟩ (.string (tQ dep)) := ⟨_, rfl⟩
            obtain ⟨WA, hWA⟩ := hWA
            rw [← hWA] at d1 r2 X2 ⊢
            clear hWA fa4 fb4 fk2 nd
            have fd0 := (d1.at 0 _ rfl).1
            have fd1 := (d1.at 1 _ rfl).1
            have fd2 := (d1.at 2 _ rfl).1
            have fd3 := (d1.at 3 _ rfl).1
            have fd4 := (d1.at 4 _ rfl).1
            have fd5 := (d1.at 5 _ rfl).1
            have fd6 := (d1.at 6 _ rfl).1
            have fd7 := (d1.at 7 _ rfl).1
            have fd8 := (d1.at 8 _ rfl).1
            have fd9 := (d1.at 9 _ rfl).1
            obtain ⟨ra0, rb0⟩ := r2.at 0 _ rfl
            obtain ⟨ra1, rb1⟩ := r2.at 1 _ rfl
            obtain ⟨ra2, rb2⟩ := r2.at 2 _ rfl
            obtain ⟨ra3, rb3⟩ := r2.at 3 _ rfl
            obtain ⟨ra4, rb4⟩ := r2.at 4 _ rfl
            obtain ⟨ra5, rb5⟩ := r2.at 5 _ rfl
            obtain ⟨ra6, rb6⟩ := r2.at 6 _ rfl
            obtain ⟨ra7, rb7⟩ := r2.at 7 _ rfl
            obtain ⟨ra8, rb8⟩ := r2.at 8 _ rfl
            obtain ⟨ra9, rb9⟩ := r2.at 9 _ rfl
            have HF := Lib.hid (put10 r2 (.int .i64 2) (.string (obNm k)) (.string (tQ pt.1)) (.string (tQ pt.2)) (.string (tQ dep)) (.string (nmA mx)) (.string (nmA mn)) (.string ⟨#[]⟩) (.string ⟨#[]⟩) (.string ⟨#[]⟩) X2 (by omega))
            go_wp2_with fail
            have q0 := (HF.out.1.at 0 _ rfl).1
            have q1 := (HF.out.1.at 1 _ rfl).1
            have q2 := (HF.out.1.at 2 _ rfl).1
            have q3 := (HF.out.1.at 3 _ rfl).1
            have q4 := (HF.out.1.at 4 _ rfl).1
            have q5 := (HF.out.1.at 5 _ rfl).1
            have q6 := (HF.out.1.at 6 _ rfl).1
            have q7 := (HF.out.1.at 7 _ rfl).1
            have q8 := (HF.out.1.at 8 _ rfl).1
            have q9 := (HF.out.1.at 9 _ rfl).1
            refine bodyPost_ret (v := .agg #[.int .i64 2, .string (obNm k), .string (tQ pt.1), .string (tQ pt.2), .string (tQ dep), .string (nmA mx), .string (nmA mn), .string ⟨#[]⟩, .string ⟨#[]⟩, .string ⟨#[]⟩]) (by simp [results, Tryz.results38, go_sem, q0, q1, q2, q3, q4, q5, q6, q7, q8, q9]) rfl ⟨?_, HF.out.2⟩
            rw [hup.out, if_pos trivial]
            rfl
          · rw [hk1] at fk d1 hup
            have fk2 : W8.cell? ⟨n, 0, none⟩ = some (.int .i64 3) := fk
            clear fk
            have d2 : Cells n [.int .i64 3, .string (obNm k), .string (tQ pt.1), .string (tQ pt.2), .string ⟨#[]⟩, .string (nmA mx), .string (nmA mn), .string ⟨#[]⟩, .string ⟨#[]⟩, .string ⟨#[]⟩] W8 := d1
            clear d1
            have nn0 := (s1.at 6 _ rfl).1
            have nn1 := (s1.at 7 _ rfl).1
            have nn2 := (s1.at 8 _ rfl).1
            have t0 := tmod_lt sg.n0 5 (by omega)
            have t1 := tmod_lt sg.n1 5 (by omega)
            have t2 := tmod_lt sg.n2 5 (by omega)
            have tw0 : IntKind.i64.wrap (sg.n0.tmod 5) = sg.n0.tmod 5 := by simp only [IntKind.wrap_i64]; omega
            have tw1 : IntKind.i64.wrap (sg.n1.tmod 5) = sg.n1.tmod 5 := by simp only [IntKind.wrap_i64]; omega
            have tw2 : IntKind.i64.wrap (sg.n2.tmod 5) = sg.n2.tmod 5 := by simp only [IntKind.wrap_i64]; omega
            have hnz := Lib.hid (show nzA sg = if sg.n2.tmod 5 = 0 then 1 else sg.n2.tmod 5 from rfl)
            have hzb : -5 ≤ nzA sg ∧ nzA sg ≤ 5 := by unfold nzA; split <;> omega
            go_upto_if 111 with fail
            go_cut [14] (fun s14 wx => s14 = .int .i64 (nzA sg) ∧ wx = W8)
            case first =>
              by_cases hz : sg.n2.tmod 5 = 0
              · have hz2 := hnz.out
                rw [if_pos hz] at hz2
                have hde : decide (sg.n2.tmod 5 = 0) = true := decide_eq_true hz
                go_wp2_with fail
                go_meet
                exact ⟨by rw [hz2], rfl⟩
              · have hz2 := hnz.out
                rw [if_neg hz] at hz2
                have hde : decide (sg.n2.tmod 5 = 0) = false := decide_eq_false hz
                go_wp2_with fail
                go_meet
                exact ⟨by rw [hz2], rfl⟩
            case rest =>
              obtain ⟨rfl, hwc⟩ := hcut
              rw [hwc]
              clear hwc tw2 hnz nn2
              generalize nzA sg = nz at *
              have H0 := Lib.hid (HWh.out (sg.n0.tmod 5) (by omega))
              have H1 := Lib.hid (HWh.out (sg.n1.tmod 5) (by omega))
              have H2 := Lib.hid (HWh.out nz hzb)
              clear HWh
              have ls : w.heap.size + 1 < W8.heap.size := World.block_lt_of_cell? W8 _ nn0
              go_upto_region 20 with fail
              refine wp_region_Z' (TE W8.heap.size W8) 16 (by kernel_rfl) ?_
              intro V0 hV0
              have Y0 : Ext W8 V0 := by rw [hV0]; exact (Ext.refl W8).drew
              have hT : TE W8.heap.size W8 false V0 := Y0
              clear hV0
              refine' wpAnyZ_take 16 (i := 0) (v := _) rfl rfl (by kernel_rfl) (by decide) (by kernel_rfl) (by kernel_rfl) (by kernel_rfl) (by kernel_rfl) (fun _ _ _ h => h.no.elim) hT (by rfl) ?hy ?_
              case hy => (intro w' hS; have g0 := hS.c ls nn0; have g1 := hS.c ls nn1; clear hS; go_simp; rfl)
              try simp only [Act.put, List.getElem_toArray, List.getElem_cons_zero, List.getElem_cons_succ, List.setIfInBounds_toArray, List.set_cons_zero, List.set_cons_succ]
              refine' wpAnyZ_take 16 (i := 1) (v := _) rfl rfl (by kernel_rfl) (by decide) (by kernel_rfl) (by kernel_rfl) (by kernel_rfl) (by kernel_rfl) (fun _ _ _ h => h.no.elim) hT (by rfl) ?hy ?_
              case hy => (intro w' hS; have g0 := hS.c ls nn0; have g1 := hS.c ls nn1; clear hS; go_simp; rfl)
              try simp only [Act.put, List.getElem_toArray, List.getElem_cons_zero, List.getElem_cons_succ, List.setIfInBounds_toArray, List.set_cons_zero, List.set_cons_succ]
              refine' wpAnyZ_take 16 (i := 2) (v := _) rfl rfl (by kernel_rfl) (by decide) (by kernel_rfl) (by kernel_rfl) (by kernel_rfl) (by kernel_rfl) (fun _ _ _ h => h.no.elim) hT (by rfl) ?hy ?_
              case hy => (intro w' hS; have g0 := hS.c ls nn0; have g1 := hS.c ls nn1; clear hS; go_simp; rfl)
              try simp only [Act.put, List.getElem_toArray, List.getElem_cons_zero, List.getElem_cons_succ, List.setIfInBounds_toArray, List.set_cons_zero, List.set_cons_succ]
              refine' wpAnyZ_take 16 (i := 3) (v := _) rfl rfl (by kernel_rfl) (by decide) (by kernel_rfl) (by kernel_rfl) (by kernel_rfl) (by kernel_rfl) (fun _ _ _ h => h.no.elim) hT (by rfl) ?hy ?_
              case hy => (intro w' hS; have g0 := hS.c ls nn0; have g1 := hS.c ls nn1; clear hS; go_simp; rfl)
              try simp only [Act.put, List.getElem_toArray, List.getElem_cons_zero, List.getElem_cons_succ, List.setIfInBounds_toArray, List.set_cons_zero, List.set_cons_succ]
              refine' wpAnyZ_take 16 (i := 4) (v := _) rfl rfl (by kernel_rfl) (by decide) (by kernel_rfl) (by kernel_rfl) (by kernel_rfl) (by kernel_rfl) (fun _ _ _ h => h.no.elim) hT (by rfl) ?hy ?_
              case hy => (intro w' hS; have g0 := hS.c ls nn0; have g1 := hS.c ls nn1; clear hS; go_simp; rfl)
              try simp only [Act.put, List.getElem_toArray, List.getElem_cons_zero, List.getElem_cons_succ, List.setIfInBounds_toArray, List.set_cons_zero, List.set_cons_succ]
              refine' wpAnyZ_take 16 (i := 6) (v := _) rfl rfl (by kernel_rfl) (by decide) (by kernel_rfl) (by kernel_rfl) (by kernel_rfl) (by kernel_rfl) (fun _ _ _ h => h.no.elim) hT (by rfl) ?hy ?_
              case hy => (intro w' hS; have g0 := hS.c ls nn0; have g1 := hS.c ls nn1; clear hS; go_simp; rfl)
              try simp only [Act.put, List.getElem_toArray, List.getElem_cons_zero, List.getElem_cons_succ, List.setIfInBounds_toArray, List.set_cons_zero, List.set_cons_succ]
              refine' wpAnyZ_take 16 (i := 7) (v := _) rfl rfl (by kernel_rfl) (by decide) (by kernel_rfl) (by kernel_rfl) (by kernel_rfl) (by kernel_rfl) (fun _ _ _ h => h.no.elim) hT (by rfl) ?hy ?_
              case hy => (intro w' hS; have g0 := hS.c ls nn0; have g1 := hS.c ls nn1; clear hS; go_simp; rfl)
              try simp only [Act.put, List.getElem_toArray, List.getElem_cons_zero, List.getElem_cons_succ, List.setIfInBounds_toArray, List.set_cons_zero, List.set_cons_succ]
              refine' wpAnyZ_take 16 (i := 8) (v := _) rfl rfl (by kernel_rfl) (by decide) (by kernel_rfl) (by kernel_rfl) (by kernel_rfl) (by kernel_rfl) (fun _ _ _ h => h.no.elim) hT (by rfl) ?hy ?_
              case hy => (intro w' hS; have g0 := hS.c ls nn0; have g1 := hS.c ls nn1; clear hS; go_simp; rfl)
              try simp only [Act.put, List.getElem_toArray, List.getElem_cons_zero, List.getElem_cons_succ, List.setIfInBounds_toArray, List.set_cons_zero, List.set_cons_succ]
              refine' wpAnyZ_take 16 (i := 9) (v := _) rfl rfl (by kernel_rfl) (by decide) (by kernel_rfl) (by kernel_rfl) (by kernel_rfl) (by kernel_rfl) (fun _ _ _ h => h.no.elim) hT (by rfl) ?hy ?_
              case hy => (intro w' hS; have g0 := hS.c ls nn0; have g1 := hS.c ls nn1; clear hS; go_simp; rfl)
              try simp only [Act.put, List.getElem_toArray, List.getElem_cons_zero, List.getElem_cons_succ, List.setIfInBounds_toArray, List.set_cons_zero, List.set_cons_succ]
              refine' wpAnyZ_take 16 (i := 10) (v := _) rfl rfl (by kernel_rfl) (by decide) (by kernel_rfl) (by kernel_rfl) (by kernel_rfl) (by kernel_rfl) (fun _ _ _ h => h.no.elim) hT (by rfl) ?hy ?_
              case hy => (intro w' hS; have g0 := hS.c ls nn0; have g1 := hS.c ls nn1; clear hS; go_simp; rfl)
              try simp only [Act.put, List.getElem_toArray, List.getElem_cons_zero, List.getElem_cons_succ, List.setIfInBounds_toArray, List.set_cons_zero, List.set_cons_succ]
              refine' wpAnyZ_take 16 (i := 12) (v := _) rfl rfl (by kernel_rfl) (by decide) (by kernel_rfl) (by kernel_rfl) (by kernel_rfl) (by kernel_rfl) (fun _ _ _ h => h.no.elim) hT (by rfl) ?hy ?_
              case hy => (intro w' hS; have g0 := hS.c ls nn0; have g1 := hS.c ls nn1; clear hS; go_simp; rfl)
              try simp only [Act.put, List.getElem_toArray, List.getElem_cons_zero, List.getElem_cons_succ, List.setIfInBounds_toArray, List.set_cons_zero, List.set_cons_succ]
              generalize sg.n0.tmod 5 = m0 at *
              generalize sg.n1.tmod 5 = m1 at *
              refine wpAnyZ_one false (i := 5) (by kernel_rfl) (by kernel_rfl) rfl (fun K' hK => ?_)
              go_simp
              refine (H0.out _ (X2.trans Y0)).mono ?_
              rintro e V1 ⟨rfl, Z1⟩
              have Y1 := Y0.trans Z1
              refine hK.out _ _ Y1 ?_
              clear hK K'
              try simp only [Act.put, List.getElem_toArray, List.getElem_cons_zero, List.getElem_cons_succ, List.setIfInBounds_toArray, List.set_cons_zero, List.set_cons_succ]
              refine wpAnyZ_one false (i := 11) (by kernel_rfl) (by kernel_rfl) rfl (fun K' hK => ?_)
              go_simp
              refine (H1.out _ (X2.trans Y1)).mono ?_
              rintro e V2 ⟨rfl, Z2⟩
              have Y2 := Y1.trans Z2
              refine hK.out _ _ Y2 ?_
              clear hK K'
              try simp only [Act.put, List.getElem_toArray, List.getElem_cons_zero, List.getElem_cons_succ, List.setIfInBounds_toArray, List.set_cons_zero, List.set_cons_succ]
              refine wpAnyZ_one false (i := 13) (by kernel_rfl) (by kernel_rfl) rfl (fun K' hK => ?_)
              go_simp
              refine (H2.out _ (X2.trans Y2)).mono ?_
              rintro e V3 ⟨rfl, Z3⟩
              have Y3 := Y2.trans Z3
              refine hK.out _ _ Y3 ?_
              clear hK K'
              try simp only [Act.put, List.getElem_toArray, List.getElem_cons_zero, List.getElem_cons_succ, List.setIfInBounds_toArray, List.set_cons_zero, List.set_cons_succ]
              refine wpAnyZ_one false (i := 14) (by kernel_rfl) (by kernel_rfl) rfl (fun K' hK => ?_)
              go_simp
              refine hK.out _ _ Y3 ?_
              clear hK K'
              try simp only [Act.put, List.getElem_toArray, List.getElem_cons_zero, List.getElem_cons_succ, List.setIfInBounds_toArray, List.set_cons_zero, List.set_cons_succ]
              refine wpAnyZ_one false (i := 15) (by kernel_rfl) (by kernel_rfl) rfl (fun K' hK => ?_)
              go_simp
              refine hK.out _ _ Y3 ?_
              clear hK K'
              try simp only [Act.put, List.getElem_toArray, List.getElem_cons_zero, List.getElem_cons_succ, List.setIfInBounds_toArray, List.set_cons_zero, List.set_cons_succ]
              have d3 := d2.ext Y3
              obtain ⟨fa7, fb7⟩ := d3.at 7 _ rfl
              obtain ⟨fa8, fb8⟩ := d3.at 8 _ rfl
              obtain ⟨fa9, fb9⟩ := d3.at 9 _ rfl
              refine wpAnyZ_one true (i := 16) (by kernel_rfl) (by kernel_rfl) rfl (fun K' hK => ?_)
              go_simp
              refine hK.out _ _ trivial ?_
              clear hK K'
              refine wpAnyZ_done (by kernel_rfl) ⟨rfl, ?_⟩ _
              have d4 := ((d3.put 7 (by simp) (.string (tQ m0))).put 8 (by simp) (.string (tQ m1))).put 9 (by simp) (.string (tQ nz))
              have r4 := (((r2.ext Y3).setOther (a := ⟨n, 7, none⟩) (by show w.heap.size + 1 + 1 ≠ n; omega) (.string (tQ m0))).setOther (a := ⟨n, 8, none⟩) (by show w.heap.size + 1 + 1 ≠ n; omega) (.string (tQ m1))).setOther (a := ⟨n, 9, none⟩) (by show w.heap.size + 1 + 1 ≠ n; omega) (.string (tQ nz))
              have X4 := (((X2.trans Y3).setCell (p := ⟨n, 7, none⟩) (by show w.heap.size ≤ n; omega) (.string (tQ m0))).setCell (p := ⟨n, 8, none⟩) (by show w.heap.size ≤ n; omega) (.string (tQ m1))).setCell (p := ⟨n, 9, none⟩) (by show w.heap.size ≤ n; omega) (.string (tQ nz))
              have hWA : ∃ WA, WA = ((V3.setCell ⟨n, 7, none⟩ (.string (tQ m0))).setCell ⟨n, 8, none⟩ (.string (tQ m1))).setCell ⟨n, 9, none⟩ (.string (tQ nz)) := ⟨_, rfl⟩
              obtain ⟨WA, hWA⟩ := hWA
              rw [← hWA] at d4 r4 X4 ⊢
              clear hWA fa7 fb7 fa8 fb8 fa9 fb9 fk2 nn0 nn1 d2 r2 d3
              have fd0 := (d4.at 0 _ rfl).1
              have fd1 := (d4.at 1 _ rfl).1
              have fd2 := (d4.at 2 _ rfl).1
              have fd3 := (d4.at 3 _ rfl).1
              have fd4 := (d4.at 4 _ rfl).1
              have fd5 := (d4.at 5 _ rfl).1
              have fd6 := (d4.at 6 _ rfl).1
              have fd7 := (d4.at 7 _ rfl).1
              have fd8 := (d4.at 8 _ rfl).1
              have fd9 := (d4.at 9 _ rfl).1
              obtain ⟨ra0, rb0⟩ := r4.at 0 _ rfl
              obtain ⟨ra1, rb1⟩ := r4.at 1 _ rfl
              obtain ⟨ra2, rb2⟩ := r4.at 2 _ rfl
              obtain ⟨ra3, rb3⟩ := r4.at 3 _ rfl
              obtain ⟨ra4, rb4⟩ := r4.at 4 _ rfl
              obtain ⟨ra5, rb5⟩ := r4.at 5 _ rfl
              obtain ⟨ra6, rb6⟩ := r4.at 6 _ rfl
              obtain ⟨ra7, rb7⟩ := r4.at 7 _ rfl
              obtain ⟨ra8, rb8⟩ := r4.at 8 _ rfl
              obtain ⟨ra9, rb9⟩ := r4.at 9 _ rfl
              have HF := Lib.hid (put10 r4 (.int .i64 3) (.string (obNm k)) (.string (tQ pt.1)) (.string (tQ pt.2)) (.string ⟨#[]⟩) (.string (nmA mx)) (.string (nmA mn)) (.string (tQ m0)) (.string (tQ m1)) (.string (tQ nz)) X4 (by omega))
              go_wp2_with fail
              have q0 := (HF.out.1.at 0 _ rfl).1
              have q1 := (HF.out.1.at 1 _ rfl).1
              have q2 := (HF.out.1.at 2 _ rfl).1
              have q3 := (HF.out.1.at 3 _ rfl).1
              have q4 := (HF.out.1.at 4 _ rfl).1
              have q5 := (HF.out.1.at 5 _ rfl).1
              have q6 := (HF.out.1.at 6 _ rfl).1
              have q7 := (HF.out.1.at 7 _ rfl).1
              have q8 := (HF.out.1.at 8 _ rfl).1
              have q9 := (HF.out.1.at 9 _ rfl).1
              refine bodyPost_ret (v := .agg #[.int .i64 3, .string (obNm k), .string (tQ pt.1), .string (tQ pt.2), .string ⟨#[]⟩, .string (nmA mx), .string (nmA mn), .string (tQ m0), .string (tQ m1), .string (tQ nz)]) (by simp [results, Tryz.results38, go_sem, q0, q1, q2, q3, q4, q5, q6, q7, q8, q9]) rfl ⟨?_, HF.out.2⟩
              rw [hup.out, if_neg (by omega)]
              rfl
end Go.Proofs.YtbiffaciinppiaaGreatDoor
