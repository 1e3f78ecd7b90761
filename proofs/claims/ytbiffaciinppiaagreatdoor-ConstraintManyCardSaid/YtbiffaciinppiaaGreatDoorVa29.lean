/- klippelaw24.Make. -/
import Derived.Test.YtbiffaciinppiaaGreatDoorVa28
set_option linter.unusedVariables false
set_option linter.unusedSimpArgs false
namespace Go.Proofs.YtbiffaciinppiaaGreatDoor
open Go.RowKit
attribute [local irreducible] tQ
set_option linter.unusedSimpArgs false

theorem tQ_0 : tQ 0 = ⟨#[48]⟩ := by decide +kernel
theorem tQ_1 : tQ 1 = ⟨#[49]⟩ := by decide +kernel
theorem tQ_5 : tQ 5 = ⟨#[53]⟩ := by decide +kernel
def colABC : List Lay := [⟨⟨#[65]⟩, 0, none⟩, ⟨⟨#[66]⟩, 0, some 5⟩, ⟨⟨#[67]⟩, 1, none⟩]
theorem laysABC {W : World} {b : Nat} (h : Cells b [.string ⟨#[65]⟩, .string ⟨#[48]⟩, .string ⟨#[]⟩, .string ⟨#[66]⟩, .string ⟨#[48]⟩, .string ⟨#[53]⟩, .string ⟨#[67]⟩, .string ⟨#[49]⟩, .string ⟨#[]⟩] W) : LaysIn W b 0 colABC := by
  intro i hi
  have hi : i < 3 := hi
  rcases (show i = 0 ∨ i = 1 ∨ i = 2 by omega) with rfl | rfl | rfl
  · simp only [colABC, List.getElem_cons_zero, mxT, tQ_0]
    exact ⟨(h.at 0 _ rfl).1, (h.at 1 _ rfl).1, (h.at 2 _ rfl).1⟩
  · simp only [colABC, List.getElem_cons_succ, List.getElem_cons_zero, mxT, tQ_0, tQ_5]
    exact ⟨(h.at 3 _ rfl).1, (h.at 4 _ rfl).1, (h.at 5 _ rfl).1⟩
  · simp only [colABC, List.getElem_cons_succ, List.getElem_cons_zero, mxT, tQ_1]
    exact ⟨(h.at 6 _ rfl).1, (h.at 7 _ rfl).1, (h.at 8 _ rfl).1⟩
def SgsIn (w : World) (sa : Option Addr) (l : List Sg) : Prop := l ≠ [] → ∃ b o, sa = some ⟨b, o, none⟩ ∧ ∀ i (h : i < l.length) k u, (sgL l[i])[k]? = some u → w.cell? ⟨b, o + i * 9 + k, none⟩ = some u
theorem SgsIn.ext {w W : World} {sa : Option Addr} {l : List Sg} (h : SgsIn w sa l) (hx : Ext w W) : SgsIn W sa l := fun hne => by
  obtain ⟨b, o, h1, h2⟩ := h hne
  exact ⟨b, o, h1, fun i hi k u hu => hx.cell (h2 i hi k u hu)⟩
instance : Inhabited Sg := ⟨⟨0, 0, 0, 0, 0, 0, 0, 0, 0⟩⟩
def obsAll (pts : List (Rat × Rat)) (tris : List Tri) (s : Sh) (l : List Sg) : List Ob := (List.range l.length).map fun k => obsOf pts tris s (l.getD k default) k
theorem obsAll_len (pts : List (Rat × Rat)) (tris : List Tri) (s : Sh) (l : List Sg) : (obsAll pts tris s l).length = l.length := by simp [obsAll]
theorem obsAll_take (pts : List (Rat × Rat)) (tris : List Tri) (s : Sh) (l : List Sg) (k : Nat) (h : k < l.length) : (obsAll pts tris s l).take (k + 1) = (obsAll pts tris s l).take k ++ [obsOf pts tris s l[k] k] := by
  rw [List.take_add_one, List.getElem?_eq_getElem (by rw [obsAll_len]; exact h)]
  simp [obsAll, List.getD_eq_getElem?_getD, List.getElem?_eq_getElem h]
def bkOf (s : Sh) (h : Hts) (l : List Sg) : Bk := ⟨mkPts s (s.kind % 8).toNat, shpT (s.kind % 8).toNat, hts h (mkPts s (s.kind % 8).toNat).length, colABC, obsAll (mkPts s (s.kind % 8).toNat) (shpT (s.kind % 8).toNat) s l⟩
theorem EOb : ElemOk Tryz.prog 41 95 10 152 := ⟨Tryz.underlying41, ⟨_, (by kernel_rfl : (Tryz.prog.info? 95).map (fun i => (i.zero, i.size, i.bytes)) = some (some (.agg #[.int .i64 0, .string ⟨#[]⟩, .string ⟨#[]⟩, .string ⟨#[]⟩, .string ⟨#[]⟩, .string ⟨#[]⟩, .string ⟨#[]⟩, .string ⟨#[]⟩, .string ⟨#[]⟩, .string ⟨#[]⟩]), 10, 152)), rfl⟩, by omega, by omega⟩
/-- All blocks but one are as they were. -/
def But (n : Nat) (W wr : World) : Prop := W.heap.size ≤ wr.heap.size ∧ ∀ b o, b ≠ n → b < W.heap.size → wr.cell? ⟨b, o, none⟩ = W.cell? ⟨b, o, none⟩ ∧ wr.frozen? ⟨b, o, none⟩ = W.frozen? ⟨b, o, none⟩
theorem But.refl (n : Nat) (W : World) : But n W W := ⟨Nat.le_refl _, fun _ _ _ _ => ⟨rfl, rfl⟩⟩
theorem But.below {n : Nat} {W wr w2 : World} (h : But n W wr) (hb : Below W.heap.size wr w2) : But n W w2 := by
  refine ⟨Nat.le_trans h.1 hb.size, fun b o hn hl => ?_⟩
  exact ⟨(hb.cell (p := ⟨b, o, none⟩) hl).trans (h.2 b o hn hl).1, (hb.frozen (p := ⟨b, o, none⟩) hl).trans (h.2 b o hn hl).2⟩
theorem But.set {n : Nat} {W wr : World} (h : But n W wr) (o : Nat) (u : Value) : But n W (wr.setCell ⟨n, o, none⟩ u) := by
  refine ⟨by simpa using h.1, fun b o2 hn hl => ?_⟩
  exact ⟨(cell_set wr ⟨n, o, none⟩ u hn).trans (h.2 b o2 hn hl).1, (World.frozen?_setCell _ _ _ _).trans (h.2 b o2 hn hl).2⟩
theorem But.cell {n : Nat} {W wr : World} (h : But n W wr) {b o : Nat} {u : Value} (hn : b ≠ n) (hc : W.cell? ⟨b, o, none⟩ = some u) : wr.cell? ⟨b, o, none⟩ = some u :=
  (h.2 b o hn (World.block_lt_of_cell? W _ hc)).1.trans hc
def BR (l : List Sg) (O : List Ob) (n : Nat) (u0 u1 u2 u3 : Value) (w W3 : World) (v5 : Value) (wr : World) : Prop :=
  ∃ (k : Nat) (v : Value), k ≤ l.length ∧ v5 = .int .i64 k ∧ OwnL obL 95 10 W3.heap.size (O.take k) v wr ∧ Cells n [u0, u1, u2, u3, v] wr ∧ But n W3 wr ∧ Ext w wr
theorem But.cells {n b : Nat} {W wr : World} {vs : List Value} (h : But n W wr) (hn : b ≠ n) (hc : Cells b vs W) : Cells b vs wr := fun i hi => by
  have hb := World.block_lt_of_cell? W _ (hc i hi).1
  exact ⟨(h.2 b i hn hb).1.trans (hc i hi).1, (h.2 b i hn hb).2.trans (hc i hi).2⟩
theorem neq_si {a b o : Nat} {W : World} {x : Option Addr} {m c : Nat} {y : Int} (h : W.cell? ⟨a, o, none⟩ = some (.slice x m c)) (h2 : W.cell? ⟨b, o, none⟩ = some (.int .i64 y)) : b ≠ a := by
  rintro rfl
  rw [h] at h2
  cases h2
theorem MeshIn.of {w W : World} {pb po tb tO : Nat} {pts : List (Rat × Rat)} {tris : List Tri} (h : MeshIn w pb po tb tO pts tris) (hp : ∀ o u, w.cell? ⟨pb, o, none⟩ = some u → W.cell? ⟨pb, o, none⟩ = some u) (ht : ∀ o u, w.cell? ⟨tb, o, none⟩ = some u → W.cell? ⟨tb, o, none⟩ = some u) : MeshIn W pb po tb tO pts tris :=
  ⟨fun i hi => ⟨hp _ _ (h.p i hi).1, hp _ _ (h.p i hi).2⟩, fun i hi => ⟨ht _ _ (h.t i hi).1, ht _ _ (h.t i hi).2.1, ht _ _ (h.t i hi).2.2⟩⟩
theorem set5_cell (V : World) (m : Nat) (u0 u1 u2 u3 u4 : Value) {b o : Nat} (hb : b ≠ m) :
    (((((V.setCell ⟨m, 0, none⟩ u0).setCell ⟨m, 1, none⟩ u1).setCell ⟨m, 2, none⟩ u2).setCell ⟨m, 3, none⟩ u3).setCell ⟨m, 4, none⟩ u4).cell? ⟨b, o, none⟩ = V.cell? ⟨b, o, none⟩ := by
  rw [cell_set _ ⟨m, 4, none⟩ u4 hb, cell_set _ ⟨m, 3, none⟩ u3 hb, cell_set _ ⟨m, 2, none⟩ u2 hb, cell_set _ ⟨m, 1, none⟩ u1 hb, cell_set _ ⟨m, 0, none⟩ u0 hb]
theorem OwnL.obs {base : Nat} {O : List Ob} {va : Option Addr} {n vc : Nat} {w : World} (h : OwnL obL 95 10 base O (.slice va n vc) w) {W : World} (hW : ∀ b o u, base ≤ b → w.cell? ⟨b, o, none⟩ = some u → W.cell? ⟨b, o, none⟩ = some u) : ObsIn W va O := by
  intro hne
  obtain ⟨a, cap, hv, hv2⟩ := h.form
  obtain ⟨g, hg, _, _⟩ := hv2 hne
  simp only [Value.slice.injEq] at hv
  obtain ⟨rfl, _, _⟩ := hv
  subst hg
  have hcl := h.cells
  refine ⟨g, 0, rfl, fun i hi k u hu => hW _ _ _ hcl.2.1 ?_⟩
  rw [Nat.zero_add]
  have hk : k < 10 := by
    have := List.getElem?_eq_some_iff.1 hu
    obtain ⟨h1, _⟩ := this
    simpa [obL] using h1
  exact hcl.2.2 i hi k u hk hu
theorem neq_ss {a b : Nat} {W : World} {x : Option Addr} {m c : Nat} {y : ByteArray} (h : W.cell? ⟨a, 0, none⟩ = some (.slice x m c)) (h2 : W.cell? ⟨b, 0, none⟩ = some (.string y)) : b ≠ a := by
  rintro rfl
  rw [h] at h2
  cases h2
theorem FldIn.set {w : World} {b o : Nat} {l : List Rat} (h : FldIn w b o l) {a : Addr} (hne : b ≠ a.block) (u : Value) : FldIn (w.setCell a u) b o l := fun i hi => (cell_set w a u hne).trans (h i hi)
theorem put5 {n : Nat} {U V : World} {v0 v1 v2 v3 v4 : Value} (h : Cells n [v0, v1, v2, v3, v4] V) (u0 u1 u2 u3 u4 : Value) (Y : Ext U V) (hl : U.heap.size ≤ n) {fb lb : Nat} {f : List Rat} {ls : List Value} (hf : fb ≠ n) (hF : FldIn V fb 0 f) (hlb : lb ≠ n) (hL : Cells lb ls V) :
    let W := ((((V.setCell ⟨n, 0, none⟩ u0).setCell ⟨n, 1, none⟩ u1).setCell ⟨n, 2, none⟩ u2).setCell ⟨n, 3, none⟩ u3).setCell ⟨n, 4, none⟩ u4
    Cells n [u0, u1, u2, u3, u4] W ∧ FldIn W fb 0 f ∧ Cells lb ls W ∧ Ext U W :=
  ⟨((((h.put 0 (by simp) u0).put 1 (by simp) u1).put 2 (by simp) u2).put 3 (by simp) u3).put 4 (by simp) u4,
   ((((hF.set (a := ⟨n, 0, none⟩) hf u0).set (a := ⟨n, 1, none⟩) hf u1).set (a := ⟨n, 2, none⟩) hf u2).set (a := ⟨n, 3, none⟩) hf u3).set (a := ⟨n, 4, none⟩) hf u4,
   ((((hL.setOther (a := ⟨n, 0, none⟩) hlb u0).setOther (a := ⟨n, 1, none⟩) hlb u1).setOther (a := ⟨n, 2, none⟩) hlb u2).setOther (a := ⟨n, 3, none⟩) hlb u3).setOther (a := ⟨n, 4, none⟩) hlb u4,
   ((((Y.setCell (p := ⟨n, 0, none⟩) hl u0).setCell (p := ⟨n, 1, none⟩) hl u1).setCell (p := ⟨n, 2, none⟩) hl u2).setCell (p := ⟨n, 3, none⟩) hl u3).setCell (p := ⟨n, 4, none⟩) hl u4⟩
set_option maxRecDepth 100000 in
set_option maxHeartbeats 4000000 in
theorem l24make_ok (s : Sh) (hs : ShW s) (h : Hts) (hh : HtW h) (l : List Sg) (hl6 : l.length ≤ 6) (hlw : ∀ g ∈ l, SgW g) (sa : Option Addr) (sc : Nat) (w : World) (g : Glob w) (hin : SgsIn w sa l) :
    Calls Tryz.prog 12 #[plV s h sa l.length sc] w (fun e w' => ∃ a : BkA, e = .returned (bkV a (bkOf s h l)) ∧ BkIn w' a (bkOf s h l) ∧ Ext w w') := by
  have hi : s.kind % 8 = ((s.kind % 8).toNat : Int) := by have := hs.k0; omega
  have HM := Lib.hid (fun W (X : Ext w W) => l12make_ok s hs (s.kind % 8).toNat hi W (g.ext X))
  have HO := Lib.hid (fun (k : Nat) (hk : k < l.length) W (X : Ext w W) => observation_ok s hs h sa l.length sc l[k] (hlw _ (List.getElem_mem hk)) k (by omega) (s.kind % 8).toNat hi W (g.ext X))
  have hpp : Hid (0 < (mkPts s (s.kind % 8).toNat).length ∧ (mkPts s (s.kind % 8).toNat).length ≤ 6 ∧ 0 < (shpT (s.kind % 8).toNat).length) := by
    refine Lib.hid ⟨?_, ?_, shpT_pos _⟩
    · unfold mkPts; rw [List.length_map]; exact shp_pos _
    · unfold mkPts; rw [List.length_map]; exact (shp_ok _ (by have := hs.k0; omega)).2.2.2.2.1
  have HT := Lib.hid (fun (ta : Option Addr) (pc tn tc pb : Nat) W (X : Ext w W) => l13make_ok h hh (mkPts s (s.kind % 8).toNat).length hpp.out.1 hpp.out.2.1 (some ⟨pb, 0, none⟩) ta pc tn tc W (g.ext X))
  have HS := Lib.hid hin
  have hts3 : Hid (∀ k (hk : k < l.length), (obsAll (mkPts s (s.kind % 8).toNat) (shpT (s.kind % 8).toNat) s l).take (k + 1) = (obsAll (mkPts s (s.kind % 8).toNat) (shpT (s.kind % 8).toNat) s l).take k ++ [obsOf (mkPts s (s.kind % 8).toNat) (shpT (s.kind % 8).toNat) s l[k] k]) := Lib.hid fun k hk => obsAll_take _ _ _ _ k hk
  have hol := obsAll_len (mkPts s (s.kind % 8).toNat) (shpT (s.kind % 8).toNat) s l
  unfold bkOf
  clear hin hlw hi hh hs g
  generalize mkPts s (s.kind % 8).toNat = pts at *
  generalize shpT (s.kind % 8).toNat = tris at *
  have hOO : ∃ O, O = obsAll pts tris s l := ⟨_, rfl⟩
  obtain ⟨O, hO⟩ := hOO
  rw [← hO] at hts3 hol ⊢
  clear hO
  simp only [plV, shV, hsV] at *
  go_enter Tryz.func12, Tryz.ntmps12
  go_wp2_with fail
  have hW : ∃ W0, W0 = (w.alloc (.cells #[.int .u8 s.kind, .int .i8 s.s0, .int .i8 s.s1, .bool s.half, .int .i8 (h.v 0), .int .i8 (h.v 1), .int .i8 (h.v 2), .int .i8 (h.v 3), .int .i8 (h.v 4), .int .i8 (h.v 5), .bool h.half, .slice sa l.length sc] 31)).alloc (.cells #[.slice none 0 0, .slice none 0 0, .slice none 0 0, .slice none 0 0, .slice none 0 0] 43) := ⟨_, rfl⟩
  obtain ⟨W0, hW0⟩ := hW
  rw [← hW0]
  have X0 : Ext w W0 := by rw [hW0]; exact ((Ext.refl w).alloc _).alloc _
  have hs0 : W0.heap.size = w.heap.size + 2 := by rw [hW0]; simp
  have a0 : Cells w.heap.size (plL s h sa l.length sc) W0 := by
    rw [hW0]; exact (Cells.new w (plL s h sa l.length sc) 31).ext ((Ext.refl _).alloc _)
  have a1 : Cells (w.heap.size + 1) [.slice none 0 0, .slice none 0 0, .slice none 0 0, .slice none 0 0, .slice none 0 0] W0 := by
    have := Cells.new (w.alloc (.cells (plL s h sa l.length sc).toArray 31)) [.slice none 0 0, .slice none 0 0, .slice none 0 0, .slice none 0 0, .slice none 0 0] 43
    rw [World.size_alloc] at this
    rw [hW0]; exact this
  clear hW0
  refine (HM.out W0 X0).mono ?_
  rintro e w1 ⟨pb, pc, tb, tc, rfl, hI, X1⟩
  have X01 := X0.trans X1
  have hsz1 := X1.size
  have b0 := a0.ext X1
  have b1 := a1.ext X1
  clear a0 a1 HM
  simp only [mV]
  go_upto_region 2 with fail
  have hW2 : ∃ W2, W2 = w1.alloc (.cells #[.slice (some ⟨pb, 0, none⟩) pts.length pc, .slice (some ⟨tb, 0, none⟩) tris.length tc] 37) := ⟨_, rfl⟩
  obtain ⟨W2, hW2⟩ := hW2
  rw [← hW2]
  have X2 : Ext w1 W2 := by rw [hW2]; exact (Ext.refl w1).alloc _
  have hs2 : W2.heap.size = w1.heap.size + 1 := by rw [hW2]; simp
  have a3 : Cells w1.heap.size [.slice (some ⟨pb, 0, none⟩) pts.length pc, .slice (some ⟨tb, 0, none⟩) tris.length tc] W2 := by rw [hW2]; exact Cells.new _ _ _
  clear hW2
  have c0 := b0.ext X2
  have c1 := b1.ext X2
  have XW := X01.trans X2
  have hI2 := hI.ext X2
  clear b0 b1 X0 X1 X01 hI
  go_cut [4] (fun s4 wx => ∃ n lb fb fc, s4 = .pointer (some ⟨n, 0, none⟩) ∧ W2.heap.size ≤ n ∧ Cells n [.slice (some ⟨pb, 0, none⟩) pts.length pc, .slice (some ⟨tb, 0, none⟩) tris.length tc, .slice (some ⟨fb, 0, none⟩) pts.length fc, .slice (some ⟨lb, 0, none⟩) 3 3, .slice none 0 0] wx ∧ FldIn wx fb 0 (hts h pts.length) ∧ LaysIn wx lb 0 colABC ∧ Ext W2 wx)
  case first =>
    have nm0 := (a3.at 0 _ rfl).1
    have nm1 := (a3.at 1 _ rfl).1
    have ns4 := (c0.at 4 _ rfl).1
    have ns5 := (c0.at 5 _ rfl).1
    have ns6 := (c0.at 6 _ rfl).1
    have ns7 := (c0.at 7 _ rfl).1
    have ns8 := (c0.at 8 _ rfl).1
    have ns9 := (c0.at 9 _ rfl).1
    have ns10 := (c0.at 10 _ rfl).1
    have lb0 : w.heap.size < W2.heap.size := by omega
    have lb1 : w1.heap.size < W2.heap.size := by omega
    refine wp_region_Z' (TE W2.heap.size W2) 11 (by kernel_rfl) ?_
    intro V0 hV0
    have Y0 : Ext W2 V0 := by rw [hV0]; exact (Ext.refl W2).drew
    have hT : TE W2.heap.size W2 false V0 := Y0
    clear hV0
    refine' wpAnyZ_take 11 (i := 0) (v := _) rfl rfl (by kernel_rfl) (by decide) (by kernel_rfl) (by kernel_rfl) (by kernel_rfl) (by kernel_rfl) (fun _ _ _ h => h.no.elim) hT (by rfl) ?hy ?_
    case hy => (intro w' hS; have g0 := hS.c lb1 nm0; have g1 := hS.c lb1 nm1; have g4 := hS.c lb0 ns4; have g5 := hS.c lb0 ns5; have g6 := hS.c lb0 ns6; have g7 := hS.c lb0 ns7; have g8 := hS.c lb0 ns8; have g9 := hS.c lb0 ns9; have g10 := hS.c lb0 ns10; clear hS; go_simp; rfl)
    try simp only [Act.put, List.getElem_toArray, List.getElem_cons_zero, List.getElem_cons_succ, List.setIfInBounds_toArray, List.set_cons_zero, List.set_cons_succ]
    refine' wpAnyZ_take 11 (i := 1) (v := _) rfl rfl (by kernel_rfl) (by decide) (by kernel_rfl) (by kernel_rfl) (by kernel_rfl) (by kernel_rfl) (fun _ _ _ h => h.no.elim) hT (by rfl) ?hy ?_
    case hy => (intro w' hS; have g0 := hS.c lb1 nm0; have g1 := hS.c lb1 nm1; have g4 := hS.c lb0 ns4; have g5 := hS.c lb0 ns5; have g6 := hS.c lb0 ns6; have g7 := hS.c lb0 ns7; have g8 := hS.c lb0 ns8; have g9 := hS.c lb0 ns9; have g10 := hS.c lb0 ns10; clear hS; go_simp; rfl)
    try simp only [Act.put, List.getElem_toArray, List.getElem_cons_zero, List.getElem_cons_succ, List.setIfInBounds_toArray, List.set_cons_zero, List.set_cons_succ]
    refine' wpAnyZ_take 11 (i := 2) (v := _) rfl rfl (by kernel_rfl) (by decide) (by kernel_rfl) (by kernel_rfl) (by kernel_rfl) (by kernel_rfl) (fun _ _ _ h => h.no.elim) hT (by rfl) ?hy ?_
    case hy => (intro w' hS; have g0 := hS.c lb1 nm0; have g1 := hS.c lb1 nm1; have g4 := hS.c lb0 ns4; have g5 := hS.c lb0 ns5; have g6 := hS.c lb0 ns6; have g7 := hS.c lb0 ns7; have g8 := hS.c lb0 ns8; have g9 := hS.c lb0 ns9; have g10 := hS.c lb0 ns10; clear hS; go_simp; rfl)
    try simp only [Act.put, List.getElem_toArray, List.getElem_cons_zero, List.getElem_cons_succ, List.setIfInBounds_toArray, List.set_cons_zero, List.set_cons_succ]
    refine' wpAnyZ_take 11 (i := 3) (v := _) rfl rfl (by kernel_rfl) (by decide) (by kernel_rfl) (by kernel_rfl) (by kernel_rfl) (by kernel_rfl) (fun _ _ _ h => h.no.elim) hT (by rfl) ?hy ?_
    case hy => (intro w' hS; have g0 := hS.c lb1 nm0; have g1 := hS.c lb1 nm1; have g4 := hS.c lb0 ns4; have g5 := hS.c lb0 ns5; have g6 := hS.c lb0 ns6; have g7 := hS.c lb0 ns7; have g8 := hS.c lb0 ns8; have g9 := hS.c lb0 ns9; have g10 := hS.c lb0 ns10; clear hS; go_simp; rfl)
    try simp only [Act.put, List.getElem_toArray, List.getElem_cons_zero, List.getElem_cons_succ, List.setIfInBounds_toArray, List.set_cons_zero, List.set_cons_succ]
    refine' wpAnyZ_take 11 (i := 5) (v := _) rfl rfl (by kernel_rfl) (by decide) (by kernel_rfl) (by kernel_rfl) (by kernel_rfl) (by kernel_rfl) (fun _ _ _ h => h.no.elim) hT (by rfl) ?hy ?_
    case hy => (intro w' hS; have g0 := hS.c lb1 nm0; have g1 := hS.c lb1 nm1; have g4 := hS.c lb0 ns4; have g5 := hS.c lb0 ns5; have g6 := hS.c lb0 ns6; have g7 := hS.c lb0 ns7; have g8 := hS.c lb0 ns8; have g9 := hS.c lb0 ns9; have g10 := hS.c lb0 ns10; clear hS; go_simp; rfl)
    try simp only [Act.put, List.getElem_toArray, List.getElem_cons_zero, List.getElem_cons_succ, List.setIfInBounds_toArray, List.set_cons_zero, List.set_cons_succ]
    refine' wpAnyZ_take 11 (i := 6) (v := _) rfl rfl (by kernel_rfl) (by decide) (by kernel_rfl) (by kernel_rfl) (by kernel_rfl) (by kernel_rfl) (fun _ _ _ h => h.no.elim) hT (by rfl) ?hy ?_
    case hy => (intro w' hS; have g0 := hS.c lb1 nm0; have g1 := hS.c lb1 nm1; have g4 := hS.c lb0 ns4; have g5 := hS.c lb0 ns5; have g6 := hS.c lb0 ns6; have g7 := hS.c lb0 ns7; have g8 := hS.c lb0 ns8; have g9 := hS.c lb0 ns9; have g10 := hS.c lb0 ns10; clear hS; go_simp; rfl)
    try simp only [Act.put, List.getElem_toArray, List.getElem_cons_zero, List.getElem_cons_succ, List.setIfInBounds_toArray, List.set_cons_zero, List.set_cons_succ]
    refine' wpAnyZ_take 11 (i := 7) (v := _) rfl rfl (by kernel_rfl) (by decide) (by kernel_rfl) (by kernel_rfl) (by kernel_rfl) (by kernel_rfl) (fun _ _ _ h => h.no.elim) hT (by rfl) ?hy ?_
    case hy => (intro w' hS; have g0 := hS.c lb1 nm0; have g1 := hS.c lb1 nm1; have g4 := hS.c lb0 ns4; have g5 := hS.c lb0 ns5; have g6 := hS.c lb0 ns6; have g7 := hS.c lb0 ns7; have g8 := hS.c lb0 ns8; have g9 := hS.c lb0 ns9; have g10 := hS.c lb0 ns10; clear hS; go_simp; rfl)
    try simp only [Act.put, List.getElem_toArray, List.getElem_cons_zero, List.getElem_cons_succ, List.setIfInBounds_toArray, List.set_cons_zero, List.set_cons_succ]
    refine wpAnyZ_alt (r := 4) (rs := [8, 10]) (by kernel_rfl) ?_
    refine AltR.cons false (by kernel_rfl) rfl (fun K' hK => ?_) ?_
    ·
      go_simp
      refine (HT.out _ _ _ _ _ _ (XW.trans Y0)).mono ?_
      rintro e V1 ⟨fb, fc, rfl, f4, Z1⟩
      have Y1 : Ext W2 V1 := Y0.trans Z1
      refine hK.out _ _ Y1 ?_
      clear hK K'
      try simp only [Act.put, List.getElem_toArray, List.getElem_cons_zero, List.getElem_cons_succ, List.setIfInBounds_toArray, List.set_cons_zero, List.set_cons_succ]
      refine wpAnyZ_alt (r := 8) (rs := [10]) (by kernel_rfl) ?_
      refine AltR.cons false (by kernel_rfl) rfl (fun K' hK => ?_) ?_
      ·
        go_simp
        have Y2 : Ext W2 (V1.alloc (.cells #[.string ⟨#[65]⟩, .string ⟨#[48]⟩, .string ⟨#[]⟩, .string ⟨#[66]⟩, .string ⟨#[48]⟩, .string ⟨#[53]⟩, .string ⟨#[67]⟩, .string ⟨#[49]⟩, .string ⟨#[]⟩] 56)) := Y1.alloc _
        refine hK.out _ _ Y2 ?_
        clear hK K'
        refine wpAnyZ_gen ?_
        intro V2 hV
        rw [← hV] at Y2
        have Z2 : Ext V1 V2 := by rw [hV]; exact (Ext.refl _).alloc _
        have f8 : Cells V1.heap.size [.string ⟨#[65]⟩, .string ⟨#[48]⟩, .string ⟨#[]⟩, .string ⟨#[66]⟩, .string ⟨#[48]⟩, .string ⟨#[53]⟩, .string ⟨#[67]⟩, .string ⟨#[49]⟩, .string ⟨#[]⟩] V2 := by rw [hV]; exact Cells.new _ _ _
        have l8 : W2.heap.size ≤ V1.heap.size := Y1.size
        clear hV
        replace f4 := f4.ext Z2
        try simp only [Act.put, List.getElem_toArray, List.getElem_cons_zero, List.getElem_cons_succ, List.setIfInBounds_toArray, List.set_cons_zero, List.set_cons_succ]
        refine wpAnyZ_alt (r := 9) (rs := [10]) (by kernel_rfl) ?_
        refine AltR.cons false (by kernel_rfl) rfl (fun K' hK => ?_) ?_
        ·
          go_simp
          refine hK.out _ _ Y2 ?_
          clear hK K'
          try simp only [Act.put, List.getElem_toArray, List.getElem_cons_zero, List.getElem_cons_succ, List.setIfInBounds_toArray, List.set_cons_zero, List.set_cons_succ]
          refine wpAnyZ_one false (i := 10) (by kernel_rfl) (by kernel_rfl) rfl (fun K' hK => ?_)
          go_simp
          have Y4 : Ext W2 (V2.alloc (.cells #[.slice none 0 0, .slice none 0 0, .slice none 0 0, .slice none 0 0, .slice none 0 0] 43)) := Y2.alloc _
          refine hK.out _ _ Y4 ?_
          clear hK K'
          refine wpAnyZ_gen ?_
          intro V4 hV
          rw [← hV] at Y4
          have Z4 : Ext V2 V4 := by rw [hV]; exact (Ext.refl _).alloc _
          have f10 : Cells V2.heap.size [.slice none 0 0, .slice none 0 0, .slice none 0 0, .slice none 0 0, .slice none 0 0] V4 := by rw [hV]; exact Cells.new _ _ _
          have l10 : W2.heap.size ≤ V2.heap.size := Y2.size
          clear hV
          replace f4 := f4.ext Z4
          replace f8 := f8.ext Z4
          try simp only [Act.put, List.getElem_toArray, List.getElem_cons_zero, List.getElem_cons_succ, List.setIfInBounds_toArray, List.set_cons_zero, List.set_cons_succ]
          refine wpAnyZ_one true (i := 11) (by kernel_rfl) (by kernel_rfl) rfl (fun K' hK => ?_)
          obtain ⟨fa0, fb0⟩ := f10.at 0 _ rfl
          obtain ⟨fa1, fb1⟩ := f10.at 1 _ rfl
          obtain ⟨fa2, fb2⟩ := f10.at 2 _ rfl
          obtain ⟨fa3, fb3⟩ := f10.at 3 _ rfl
          obtain ⟨fa4, fb4⟩ := f10.at 4 _ rfl
          have hfin := put5 f10 (.slice (some ⟨pb, 0, none⟩) pts.length pc) (.slice (some ⟨tb, 0, none⟩) tris.length tc) (.slice (some ⟨fb, 0, none⟩) pts.length fc) (.slice (some ⟨V1.heap.size, 0, none⟩) 3 3) (.slice none 0 0) Y4 l10 (neq_ss (f10.at 0 _ rfl).1 (f4 0 (by rw [hts_len]; exact hpp.out.1)).symm.symm) f4 (neq_ss (f10.at 0 _ rfl).1 (f8.at 0 _ rfl).1) f8
          have HF := Lib.hid hfin
          clear hfin
          go_simp
          refine hK.out _ _ trivial ?_
          clear hK K'
          refine wpAnyZ_done (by kernel_rfl) ⟨rfl, ?_⟩ _
          go_wp2_with fail
          go_meet
          exact ⟨_, _, _, _, rfl, l10, HF.out.1, HF.out.2.1, laysABC HF.out.2.2.1, HF.out.2.2.2⟩
        refine AltR.cons false (by kernel_rfl) rfl (fun K' hK => ?_) ?_
        ·
          go_simp
          have Y6 : Ext W2 (V2.alloc (.cells #[.slice none 0 0, .slice none 0 0, .slice none 0 0, .slice none 0 0, .slice none 0 0] 43)) := Y2.alloc _
          refine hK.out _ _ Y6 ?_
          clear hK K'
          refine wpAnyZ_gen ?_
          intro V6 hV
          rw [← hV] at Y6
          have Z6 : Ext V2 V6 := by rw [hV]; exact (Ext.refl _).alloc _
          have f10 : Cells V2.heap.size [.slice none 0 0, .slice none 0 0, .slice none 0 0, .slice none 0 0, .slice none 0 0] V6 := by rw [hV]; exact Cells.new _ _ _
          have l10 : W2.heap.size ≤ V2.heap.size := Y2.size
          clear hV
          replace f4 := f4.ext Z6
          replace f8 := f8.ext Z6
          try simp only [Act.put, List.getElem_toArray, List.getElem_cons_zero, List.getElem_cons_succ, List.setIfInBounds_toArray, List.set_cons_zero, List.set_cons_succ]
          refine wpAnyZ_one false (i := 9) (by kernel_rfl) (by kernel_rfl) rfl (fun K' hK => ?_)
          go_simp
          refine hK.out _ _ Y6 ?_
          clear hK K'
          try simp only [Act.put, List.getElem_toArray, List.getElem_cons_zero, List.getElem_cons_succ, List.setIfInBounds_toArray, List.set_cons_zero, List.set_cons_succ]
          refine wpAnyZ_one true (i := 11) (by kernel_rfl) (by kernel_rfl) rfl (fun K' hK => ?_)
          obtain ⟨fa0, fb0⟩ := f10.at 0 _ rfl
          obtain ⟨fa1, fb1⟩ := f10.at 1 _ rfl
          obtain ⟨fa2, fb2⟩ := f10.at 2 _ rfl
          obtain ⟨fa3, fb3⟩ := f10.at 3 _ rfl
          obtain ⟨fa4, fb4⟩ := f10.at 4 _ rfl
          have hfin := put5 f10 (.slice (some ⟨pb, 0, none⟩) pts.length pc) (.slice (some ⟨tb, 0, none⟩) tris.length tc) (.slice (some ⟨fb, 0, none⟩) pts.length fc) (.slice (some ⟨V1.heap.size, 0, none⟩) 3 3) (.slice none 0 0) Y6 l10 (neq_ss (f10.at 0 _ rfl).1 (f4 0 (by rw [hts_len]; exact hpp.out.1)).symm.symm) f4 (neq_ss (f10.at 0 _ rfl).1 (f8.at 0 _ rfl).1) f8
          have HF := Lib.hid hfin
          clear hfin
          go_simp
          refine hK.out _ _ trivial ?_
          clear hK K'
          refine wpAnyZ_done (by kernel_rfl) ⟨rfl, ?_⟩ _
          go_wp2_with fail
          go_meet
          exact ⟨_, _, _, _, rfl, l10, HF.out.1, HF.out.2.1, laysABC HF.out.2.2.1, HF.out.2.2.2⟩
        exact AltR.nil
      refine AltR.cons false (by kernel_rfl) rfl (fun K' hK => ?_) ?_
      ·
        go_simp
        have Y9 : Ext W2 (V1.alloc (.cells #[.slice none 0 0, .slice none 0 0, .slice none 0 0, .slice none 0 0, .slice none 0 0] 43)) := Y1.alloc _
        refine hK.out _ _ Y9 ?_
        clear hK K'
        refine wpAnyZ_gen ?_
        intro V9 hV
        rw [← hV] at Y9
        have Z9 : Ext V1 V9 := by rw [hV]; exact (Ext.refl _).alloc _
        have f10 : Cells V1.heap.size [.slice none 0 0, .slice none 0 0, .slice none 0 0, .slice none 0 0, .slice none 0 0] V9 := by rw [hV]; exact Cells.new _ _ _
        have l10 : W2.heap.size ≤ V1.heap.size := Y1.size
        clear hV
        replace f4 := f4.ext Z9
        try simp only [Act.put, List.getElem_toArray, List.getElem_cons_zero, List.getElem_cons_succ, List.setIfInBounds_toArray, List.set_cons_zero, List.set_cons_succ]
        refine wpAnyZ_one false (i := 8) (by kernel_rfl) (by kernel_rfl) rfl (fun K' hK => ?_)
        go_simp
        have Y10 : Ext W2 (V9.alloc (.cells #[.string ⟨#[65]⟩, .string ⟨#[48]⟩, .string ⟨#[]⟩, .string ⟨#[66]⟩, .string ⟨#[48]⟩, .string ⟨#[53]⟩, .string ⟨#[67]⟩, .string ⟨#[49]⟩, .string ⟨#[]⟩] 56)) := Y9.alloc _
        refine hK.out _ _ Y10 ?_
        clear hK K'
        refine wpAnyZ_gen ?_
        intro V10 hV
        rw [← hV] at Y10
        have Z10 : Ext V9 V10 := by rw [hV]; exact (Ext.refl _).alloc _
        have f8 : Cells V9.heap.size [.string ⟨#[65]⟩, .string ⟨#[48]⟩, .string ⟨#[]⟩, .string ⟨#[66]⟩, .string ⟨#[48]⟩, .string ⟨#[53]⟩, .string ⟨#[67]⟩, .string ⟨#[49]⟩, .string ⟨#[]⟩] V10 := by rw [hV]; exact Cells.new _ _ _
        have l8 : W2.heap.size ≤ V9.heap.size := Y9.size
        clear hV
        replace f4 := f4.ext Z10
        replace f10 := f10.ext Z10
        try simp only [Act.put, List.getElem_toArray, List.getElem_cons_zero, List.getElem_cons_succ, List.setIfInBounds_toArray, List.set_cons_zero, List.set_cons_succ]
        refine wpAnyZ_one false (i := 9) (by kernel_rfl) (by kernel_rfl) rfl (fun K' hK => ?_)
        go_simp
        refine hK.out _ _ Y10 ?_
        clear hK K'
        try simp only [Act.put, List.getElem_toArray, List.getElem_cons_zero, List.getElem_cons_succ, List.setIfInBounds_toArray, List.set_cons_zero, List.set_cons_succ]
        refine wpAnyZ_one true (i := 11) (by kernel_rfl) (by kernel_rfl) rfl (fun K' hK => ?_)
        obtain ⟨fa0, fb0⟩ := f10.at 0 _ rfl
        obtain ⟨fa1, fb1⟩ := f10.at 1 _ rfl
        obtain ⟨fa2, fb2⟩ := f10.at 2 _ rfl
        obtain ⟨fa3, fb3⟩ := f10.at 3 _ rfl
        obtain ⟨fa4, fb4⟩ := f10.at 4 _ rfl
        have hfin := put5 f10 (.slice (some ⟨pb, 0, none⟩) pts.length pc) (.slice (some ⟨tb, 0, none⟩) tris.length tc) (.slice (some ⟨fb, 0, none⟩) pts.length fc) (.slice (some ⟨V9.heap.size, 0, none⟩) 3 3) (.slice none 0 0) Y10 l10 (neq_ss (f10.at 0 _ rfl).1 (f4 0 (by rw [hts_len]; exact hpp.out.1)).symm.symm) f4 (neq_ss (f10.at 0 _ rfl).1 (f8.at 0 _ rfl).1) f8
        have HF := Lib.hid hfin
        clear hfin
        go_simp
        refine hK.out _ _ trivial ?_
        clear hK K'
        refine wpAnyZ_done (by kernel_rfl) ⟨rfl, ?_⟩ _
        go_wp2_with fail
        go_meet
        exact ⟨_, _, _, _, rfl, l10, HF.out.1, HF.out.2.1, laysABC HF.out.2.2.1, HF.out.2.2.2⟩
      exact AltR.nil
    refine AltR.cons false (by kernel_rfl) rfl (fun K' hK => ?_) ?_
    ·
      go_simp
      have Y13 : Ext W2 (V0.alloc (.cells #[.string ⟨#[65]⟩, .string ⟨#[48]⟩, .string ⟨#[]⟩, .string ⟨#[66]⟩, .string ⟨#[48]⟩, .string ⟨#[53]⟩, .string ⟨#[67]⟩, .string ⟨#[49]⟩, .string ⟨#[]⟩] 56)) := Y0.alloc _
      refine hK.out _ _ Y13 ?_
      clear hK K'
      refine wpAnyZ_gen ?_
      intro V13 hV
      rw [← hV] at Y13
      have Z13 : Ext V0 V13 := by rw [hV]; exact (Ext.refl _).alloc _
      have f8 : Cells V0.heap.size [.string ⟨#[65]⟩, .string ⟨#[48]⟩, .string ⟨#[]⟩, .string ⟨#[66]⟩, .string ⟨#[48]⟩, .string ⟨#[53]⟩, .string ⟨#[67]⟩, .string ⟨#[49]⟩, .string ⟨#[]⟩] V13 := by rw [hV]; exact Cells.new _ _ _
      have l8 : W2.heap.size ≤ V0.heap.size := Y0.size
      clear hV
      try simp only [Act.put, List.getElem_toArray, List.getElem_cons_zero, List.getElem_cons_succ, List.setIfInBounds_toArray, List.set_cons_zero, List.set_cons_succ]
      refine wpAnyZ_alt (r := 4) (rs := [10]) (by kernel_rfl) ?_
      refine AltR.cons false (by kernel_rfl) rfl (fun K' hK => ?_) ?_
      ·
        go_simp
        refine (HT.out _ _ _ _ _ _ (XW.trans Y13)).mono ?_
        rintro e V14 ⟨fb, fc, rfl, f4, Z14⟩
        have Y14 : Ext W2 V14 := Y13.trans Z14
        replace f8 := f8.ext Z14
        refine hK.out _ _ Y14 ?_
        clear hK K'
        try simp only [Act.put, List.getElem_toArray, List.getElem_cons_zero, List.getElem_cons_succ, List.setIfInBounds_toArray, List.set_cons_zero, List.set_cons_succ]
        refine wpAnyZ_alt (r := 9) (rs := [10]) (by kernel_rfl) ?_
        refine AltR.cons false (by kernel_rfl) rfl (fun K' hK => ?_) ?_
        ·
          go_simp
          refine hK.out _ _ Y14 ?_
          clear hK K'
          try simp only [Act.put, List.getElem_toArray, List.getElem_cons_zero, List.getElem_cons_succ, List.setIfInBounds_toArray, List.set_cons_zero, List.set_cons_succ]
          refine wpAnyZ_one false (i := 10) (by kernel_rfl) (by kernel_rfl) rfl (fun K' hK => ?_)
          go_simp
          have Y16 : Ext W2 (V14.alloc (.cells #[.slice none 0 0, .slice none 0 0, .slice none 0 0, .slice none 0 0, .slice none 0 0] 43)) := Y14.alloc _
          refine hK.out _ _ Y16 ?_
          clear hK K'
          refine wpAnyZ_gen ?_
          intro V16 hV
          rw [← hV] at Y16
          have Z16 : Ext V14 V16 := by rw [hV]; exact (Ext.refl _).alloc _
          have f10 : Cells V14.heap.size [.slice none 0 0, .slice none 0 0, .slice none 0 0, .slice none 0 0, .slice none 0 0] V16 := by rw [hV]; exact Cells.new _ _ _
          have l10 : W2.heap.size ≤ V14.heap.size := Y14.size
          clear hV
          replace f8 := f8.ext Z16
          replace f4 := f4.ext Z16
          try simp only [Act.put, List.getElem_toArray, List.getElem_cons_zero, List.getElem_cons_succ, List.setIfInBounds_toArray, List.set_cons_zero, List.set_cons_succ]
          refine wpAnyZ_one true (i := 11) (by kernel_rfl) (by kernel_rfl) rfl (fun K' hK => ?_)
          obtain ⟨fa0, fb0⟩ := f10.at 0 _ rfl
          obtain ⟨fa1, fb1⟩ := f10.at 1 _ rfl
          obtain ⟨fa2, fb2⟩ := f10.at 2 _ rfl
          obtain ⟨fa3, fb3⟩ := f10.at 3 _ rfl
          obtain ⟨fa4, fb4⟩ := f10.at 4 _ rfl
          have hfin := put5 f10 (.slice (some ⟨pb, 0, none⟩) pts.length pc) (.slice (some ⟨tb, 0, none⟩) tris.length tc) (.slice (some ⟨fb, 0, none⟩) pts.length fc) (.slice (some ⟨V0.heap.size, 0, none⟩) 3 3) (.slice none 0 0) Y16 l10 (neq_ss (f10.at 0 _ rfl).1 (f4 0 (by rw [hts_len]; exact hpp.out.1)).symm.symm) f4 (neq_ss (f10.at 0 _ rfl).1 (f8.at 0 _ rfl).1) f8
          have HF := Lib.hid hfin
          clear hfin
          go_simp
          refine hK.out _ _ trivial ?_
          clear hK K'
          refine wpAnyZ_done (by kernel_rfl) ⟨rfl, ?_⟩ _
          go_wp2_with fail
          go_meet
          exact ⟨_, _, _, _, rfl, l10, HF.out.1, HF.out.2.1, laysABC HF.out.2.2.1, HF.out.2.2.2⟩
        refine AltR.cons false (by kernel_rfl) rfl (fun K' hK => ?_) ?_
        ·
          go_simp
          have Y18 : Ext W2 (V14.alloc (.cells #[.slice none 0 0, .slice none 0 0, .slice none 0 0, .slice none 0 0, .slice none 0 0] 43)) := Y14.alloc _
          refine hK.out _ _ Y18 ?_
          clear hK K'
          refine wpAnyZ_gen ?_
          intro V18 hV
          rw [← hV] at Y18
          have Z18 : Ext V14 V18 := by rw [hV]; exact (Ext.refl _).alloc _
          have f10 : Cells V14.heap.size [.slice none 0 0, .slice none 0 0, .slice none 0 0, .slice none 0 0, .slice none 0 0] V18 := by rw [hV]; exact Cells.new _ _ _
          have l10 : W2.heap.size ≤ V14.heap.size := Y14.size
          clear hV
          replace f8 := f8.ext Z18
          replace f4 := f4.ext Z18
          try simp only [Act.put, List.getElem_toArray, List.getElem_cons_zero, List.getElem_cons_succ, List.setIfInBounds_toArray, List.set_cons_zero, List.set_cons_succ]
          refine wpAnyZ_one false (i := 9) (by kernel_rfl) (by kernel_rfl) rfl (fun K' hK => ?_)
          go_simp
          refine hK.out _ _ Y18 ?_
          clear hK K'
          try simp only [Act.put, List.getElem_toArray, List.getElem_cons_zero, List.getElem_cons_succ, List.setIfInBounds_toArray, List.set_cons_zero, List.set_cons_succ]
          refine wpAnyZ_one true (i := 11) (by kernel_rfl) (by kernel_rfl) rfl (fun K' hK => ?_)
          obtain ⟨fa0, fb0⟩ := f10.at 0 _ rfl
          obtain ⟨fa1, fb1⟩ := f10.at 1 _ rfl
          obtain ⟨fa2, fb2⟩ := f10.at 2 _ rfl
          obtain ⟨fa3, fb3⟩ := f10.at 3 _ rfl
          obtain ⟨fa4, fb4⟩ := f10.at 4 _ rfl
          have hfin := put5 f10 (.slice (some ⟨pb, 0, none⟩) pts.length pc) (.slice (some ⟨tb, 0, none⟩) tris.length tc) (.slice (some ⟨fb, 0, none⟩) pts.length fc) (.slice (some ⟨V0.heap.size, 0, none⟩) 3 3) (.slice none 0 0) Y18 l10 (neq_ss (f10.at 0 _ rfl).1 (f4 0 (by rw [hts_len]; exact hpp.out.1)).symm.symm) f4 (neq_ss (f10.at 0 _ rfl).1 (f8.at 0 _ rfl).1) f8
          have HF := Lib.hid hfin
          clear hfin
          go_simp
          refine hK.out _ _ trivial ?_
          clear hK K'
          refine wpAnyZ_done (by kernel_rfl) ⟨rfl, ?_⟩ _
          go_wp2_with fail
          go_meet
          exact ⟨_, _, _, _, rfl, l10, HF.out.1, HF.out.2.1, laysABC HF.out.2.2.1, HF.out.2.2.2⟩
        exact AltR.nil
      refine AltR.cons false (by kernel_rfl) rfl (fun K' hK => ?_) ?_
      ·
        go_simp
        have Y21 : Ext W2 (V13.alloc (.cells #[.slice none 0 0, .slice none 0 0, .slice none 0 0, .slice none 0 0, .slice none 0 0] 43)) := Y13.alloc _
        refine hK.out _ _ Y21 ?_
        clear hK K'
        refine wpAnyZ_gen ?_
        intro V21 hV
        rw [← hV] at Y21
        have Z21 : Ext V13 V21 := by rw [hV]; exact (Ext.refl _).alloc _
        have f10 : Cells V13.heap.size [.slice none 0 0, .slice none 0 0, .slice none 0 0, .slice none 0 0, .slice none 0 0] V21 := by rw [hV]; exact Cells.new _ _ _
        have l10 : W2.heap.size ≤ V13.heap.size := Y13.size
        clear hV
        replace f8 := f8.ext Z21
        try simp only [Act.put, List.getElem_toArray, List.getElem_cons_zero, List.getElem_cons_succ, List.setIfInBounds_toArray, List.set_cons_zero, List.set_cons_succ]
        refine wpAnyZ_one false (i := 4) (by kernel_rfl) (by kernel_rfl) rfl (fun K' hK => ?_)
        go_simp
        refine (HT.out _ _ _ _ _ _ (XW.trans Y21)).mono ?_
        rintro e V22 ⟨fb, fc, rfl, f4, Z22⟩
        have Y22 : Ext W2 V22 := Y21.trans Z22
        replace f8 := f8.ext Z22
        replace f10 := f10.ext Z22
        refine hK.out _ _ Y22 ?_
        clear hK K'
        try simp only [Act.put, List.getElem_toArray, List.getElem_cons_zero, List.getElem_cons_succ, List.setIfInBounds_toArray, List.set_cons_zero, List.set_cons_succ]
        refine wpAnyZ_one false (i := 9) (by kernel_rfl) (by kernel_rfl) rfl (fun K' hK => ?_)
        go_simp
        refine hK.out _ _ Y22 ?_
        clear hK K'
        try simp only [Act.put, List.getElem_toArray, List.getElem_cons_zero, List.getElem_cons_succ, List.setIfInBounds_toArray, List.set_cons_zero, List.set_cons_succ]
        refine wpAnyZ_one true (i := 11) (by kernel_rfl) (by kernel_rfl) rfl (fun K' hK => ?_)
        obtain ⟨fa0, fb0⟩ := f10.at 0 _ rfl
        obtain ⟨fa1, fb1⟩ := f10.at 1 _ rfl
        obtain ⟨fa2, fb2⟩ := f10.at 2 _ rfl
        obtain ⟨fa3, fb3⟩ := f10.at 3 _ rfl
        obtain ⟨fa4, fb4⟩ := f10.at 4 _ rfl
        have hfin := put5 f10 (.slice (some ⟨pb, 0, none⟩) pts.length pc) (.slice (some ⟨tb, 0, none⟩) tris.length tc) (.slice (some ⟨fb, 0, none⟩) pts.length fc) (.slice (some ⟨V0.heap.size, 0, none⟩) 3 3) (.slice none 0 0) Y22 l10 (neq_ss (f10.at 0 _ rfl).1 (f4 0 (by rw [hts_len]; exact hpp.out.1)).symm.symm) f4 (neq_ss (f10.at 0 _ rfl).1 (f8.at 0 _ rfl).1) f8
        have HF := Lib.hid hfin
        clear hfin
        go_simp
        refine hK.out _ _ trivial ?_
        clear hK K'
        refine wpAnyZ_done (by kernel_rfl) ⟨rfl, ?_⟩ _
        go_wp2_with fail
        go_meet
        exact ⟨_, _, _, _, rfl, l10, HF.out.1, HF.out.2.1, laysABC HF.out.2.2.1, HF.out.2.2.2⟩
      exact AltR.nil
    refine AltR.cons false (by kernel_rfl) rfl (fun K' hK => ?_) ?_
    ·
      go_simp
      have Y25 : Ext W2 (V0.alloc (.cells #[.slice none 0 0, .slice none 0 0, .slice none 0 0, .slice none 0 0, .slice none 0 0] 43)) := Y0.alloc _
      refine hK.out _ _ Y25 ?_
      clear hK K'
      refine wpAnyZ_gen ?_
      intro V25 hV
      rw [← hV] at Y25
      have Z25 : Ext V0 V25 := by rw [hV]; exact (Ext.refl _).alloc _
      have f10 : Cells V0.heap.size [.slice none 0 0, .slice none 0 0, .slice none 0 0, .slice none 0 0, .slice none 0 0] V25 := by rw [hV]; exact Cells.new _ _ _
      have l10 : W2.heap.size ≤ V0.heap.size := Y0.size
      clear hV
      try simp only [Act.put, List.getElem_toArray, List.getElem_cons_zero, List.getElem_cons_succ, List.setIfInBounds_toArray, List.set_cons_zero, List.set_cons_succ]
      refine wpAnyZ_alt (r := 4) (rs := [8]) (by kernel_rfl) ?_
      refine AltR.cons false (by kernel_rfl) rfl (fun K' hK => ?_) ?_
      ·
        go_simp
        refine (HT.out _ _ _ _ _ _ (XW.trans Y25)).mono ?_
        rintro e V26 ⟨fb, fc, rfl, f4, Z26⟩
        have Y26 : Ext W2 V26 := Y25.trans Z26
        replace f10 := f10.ext Z26
        refine hK.out _ _ Y26 ?_
        clear hK K'
        try simp only [Act.put, List.getElem_toArray, List.getElem_cons_zero, List.getElem_cons_succ, List.setIfInBounds_toArray, List.set_cons_zero, List.set_cons_succ]
        refine wpAnyZ_one false (i := 8) (by kernel_rfl) (by kernel_rfl) rfl (fun K' hK => ?_)
        go_simp
        have Y27 : Ext W2 (V26.alloc (.cells #[.string ⟨#[65]⟩, .string ⟨#[48]⟩, .string ⟨#[]⟩, .string ⟨#[66]⟩, .string ⟨#[48]⟩, .string ⟨#[53]⟩, .string ⟨#[67]⟩, .string ⟨#[49]⟩, .string ⟨#[]⟩] 56)) := Y26.alloc _
        refine hK.out _ _ Y27 ?_
        clear hK K'
        refine wpAnyZ_gen ?_
        intro V27 hV
        rw [← hV] at Y27
        have Z27 : Ext V26 V27 := by rw [hV]; exact (Ext.refl _).alloc _
        have f8 : Cells V26.heap.size [.string ⟨#[65]⟩, .string ⟨#[48]⟩, .string ⟨#[]⟩, .string ⟨#[66]⟩, .string ⟨#[48]⟩, .string ⟨#[53]⟩, .string ⟨#[67]⟩, .string ⟨#[49]⟩, .string ⟨#[]⟩] V27 := by rw [hV]; exact Cells.new _ _ _
        have l8 : W2.heap.size ≤ V26.heap.size := Y26.size
        clear hV
        replace f10 := f10.ext Z27
        replace f4 := f4.ext Z27
        try simp only [Act.put, List.getElem_toArray, List.getElem_cons_zero, List.getElem_cons_succ, List.setIfInBounds_toArray, List.set_cons_zero, List.set_cons_succ]
        refine wpAnyZ_one false (i := 9) (by kernel_rfl) (by kernel_rfl) rfl (fun K' hK => ?_)
        go_simp
        refine hK.out _ _ Y27 ?_
        clear hK K'
        try simp only [Act.put, List.getElem_toArray, List.getElem_cons_zero, List.getElem_cons_succ, List.setIfInBounds_toArray, List.set_cons_zero, List.set_cons_succ]
        refine wpAnyZ_one true (i := 11) (by kernel_rfl) (by kernel_rfl) rfl (fun K' hK => ?_)
        obtain ⟨fa0, fb0⟩ := f10.at 0 _ rfl
        obtain ⟨fa1, fb1⟩ := f10.at 1 _ rfl
        obtain ⟨fa2, fb2⟩ := f10.at 2 _ rfl
        obtain ⟨fa3, fb3⟩ := f10.at 3 _ rfl
        obtain ⟨fa4, fb4⟩ := f10.at 4 _ rfl
        have hfin := put5 f10 (.slice (some ⟨pb, 0, none⟩) pts.length pc) (.slice (some ⟨tb, 0, none⟩) tris.length tc) (.slice (some ⟨fb, 0, none⟩) pts.length fc) (.slice (some ⟨V26.heap.size, 0, none⟩) 3 3) (.slice none 0 0) Y27 l10 (neq_ss (f10.at 0 _ rfl).1 (f4 0 (by rw [hts_len]; exact hpp.out.1)).symm.symm) f4 (neq_ss (f10.at 0 _ rfl).1 (f8.at 0 _ rfl).1) f8
        have HF := Lib.hid hfin
        clear hfin
        go_simp
        refine hK.out _ _ trivial ?_
        clear hK K'
        refine wpAnyZ_done (by kernel_rfl) ⟨rfl, ?_⟩ _
        go_wp2_with fail
        go_meet
        exact ⟨_, _, _, _, rfl, l10, HF.out.1, HF.out.2.1, laysABC HF.out.2.2.1, HF.out.2.2.2⟩
      refine AltR.cons false (by kernel_rfl) rfl (fun K' hK => ?_) ?_
      ·
        go_simp
        have Y30 : Ext W2 (V25.alloc (.cells #[.string ⟨#[65]⟩, .string ⟨#[48]⟩, .string ⟨#[]⟩, .string ⟨#[66]⟩, .string ⟨#[48]⟩, .string ⟨#[53]⟩, .string ⟨#[67]⟩, .string ⟨#[49]⟩, .string ⟨#[]⟩] 56)) := Y25.alloc _
        refine hK.out _ _ Y30 ?_
        clear hK K'
        refine wpAnyZ_gen ?_
        intro V30 hV
        rw [← hV] at Y30
        have Z30 : Ext V25 V30 := by rw [hV]; exact (Ext.refl _).alloc _
        have f8 : Cells V25.heap.size [.string ⟨#[65]⟩, .string ⟨#[48]⟩, .string ⟨#[]⟩, .string ⟨#[66]⟩, .string ⟨#[48]⟩, .string ⟨#[53]⟩, .string ⟨#[67]⟩, .string ⟨#[49]⟩, .string ⟨#[]⟩] V30 := by rw [hV]; exact Cells.new _ _ _
        have l8 : W2.heap.size ≤ V25.heap.size := Y25.size
        clear hV
        replace f10 := f10.ext Z30
        try simp only [Act.put, List.getElem_toArray, List.getElem_cons_zero, List.getElem_cons_succ, List.setIfInBounds_toArray, List.set_cons_zero, List.set_cons_succ]
        refine wpAnyZ_one false (i := 4) (by kernel_rfl) (by kernel_rfl) rfl (fun K' hK => ?_)
        go_simp
        refine (HT.out _ _ _ _ _ _ (XW.trans Y30)).mono ?_
        rintro e V31 ⟨fb, fc, rfl, f4, Z31⟩
        have Y31 : Ext W2 V31 := Y30.trans Z31
        replace f10 := f10.ext Z31
        replace f8 := f8.ext Z31
        refine hK.out _ _ Y31 ?_
        clear hK K'
        try simp only [Act.put, List.getElem_toArray, List.getElem_cons_zero, List.getElem_cons_succ, List.setIfInBounds_toArray, List.set_cons_zero, List.set_cons_succ]
        refine wpAnyZ_one false (i := 9) (by kernel_rfl) (by kernel_rfl) rfl (fun K' hK => ?_)
        go_simp
        refine hK.out _ _ Y31 ?_
        clear hK K'
        try simp only [Act.put, List.getElem_toArray, List.getElem_cons_zero, List.getElem_cons_succ, List.setIfInBounds_toArray, List.set_cons_zero, List.set_cons_succ]
        refine wpAnyZ_one true (i := 11) (by kernel_rfl) (by kernel_rfl) rfl (fun K' hK => ?_)
        obtain ⟨fa0, fb0⟩ := f10.at 0 _ rfl
        obtain ⟨fa1, fb1⟩ := f10.at 1 _ rfl
        obtain ⟨fa2, fb2⟩ := f10.at 2 _ rfl
        obtain ⟨fa3, fb3⟩ := f10.at 3 _ rfl
        obtain ⟨fa4, fb4⟩ := f10.at 4 _ rfl
        have hfin := put5 f10 (.slice (some ⟨pb, 0, none⟩) pts.length pc) (.slice (some ⟨tb, 0, none⟩) tris.length tc) (.slice (some ⟨fb, 0, none⟩) pts.length fc) (.slice (some ⟨V25.heap.size, 0, none⟩) 3 3) (.slice none 0 0) Y31 l10 (neq_ss (f10.at 0 _ rfl).1 (f4 0 (by rw [hts_len]; exact hpp.out.1)).symm.symm) f4 (neq_ss (f10.at 0 _ rfl).1 (f8.at 0 _ rfl).1) f8
        have HF := Lib.hid hfin
        clear hfin
        go_simp
        refine hK.out _ _ trivial ?_
        clear hK K'
        refine wpAnyZ_done (by kernel_rfl) ⟨rfl, ?_⟩ _
        go_wp2_with fail
        go_meet
        exact ⟨_, _, _, _, rfl, l10, HF.out.1, HF.out.2.1, laysABC HF.out.2.2.1, HF.out.2.2.2⟩
      exact AltR.nil
    exact AltR.nil
  case rest =>
    obtain ⟨n, lb, fb, fc, rfl, hn, d3, hF, hL, XO⟩ := hcut
    have X3 := XW.trans XO
    have hI3 := hI2.ext XO
    have k0 := c0.ext XO
    have k1 := c1.ext XO
    have hnc : n < wc.heap.size := World.block_lt_of_cell? wc _ (d3.at 0 _ rfl).1
    have hwn : w.heap.size + 1 < n := by omega
    have hws : w.heap.size < wc.heap.size := by omega
    have hfn := neq_ss (d3.at 0 _ rfl).1 (hF 0 (by rw [hts_len]; exact hpp.out.1))
    have hlbn := neq_ss (d3.at 0 _ rfl).1 (hL 0 (by decide)).1
    clear c0 c1 a3 XW XO hI2 X2 HT hs0 hs2 hsz1 hn
    go_wp2_with fail
    go_loopw [5] (BR l O n (.slice (some ⟨pb, 0, none⟩) pts.length pc) (.slice (some ⟨tb, 0, none⟩) tris.length tc) (.slice (some ⟨fb, 0, none⟩) pts.length fc) (.slice (some ⟨lb, 0, none⟩) 3 3) w wc) (fun p _ => l.length - (intOf p).toNat)
    case atStart => exact ⟨0, _, by omega, rfl, OwnL.nil _, d3, But.refl _ _, X3⟩
    case round =>
      obtain ⟨k, v, hk, rfl, hown, hc, hB, XR⟩ := hrel
      have kr := hB.cells (by omega) k0
      have hszr := hB.1
      by_cases hlt : k < l.length
      · have hsg := HS.out (fun e => by rw [e] at hlt; simp at hlt)
        obtain ⟨bb, oo, rfl, hcells⟩ := hsg
        have hq := fun j u hu => hcells k hlt j u hu
        have HOk := Lib.hid (HO.out k hlt)
        have htk := Lib.hid (hts3.out k hlt)
        have htl : (O.take k).length = k := by rw [List.length_take, hol]; omega
        have kl : (k : Int) < l.length := by omega
        have k6 : (k : Int) < 6 := by omega
        clear hcells HO hts3 HS
        generalize O.take k = L at *
        generalize obsOf pts tris s l[k] k = ob at *
        generalize l[k] = sg at *
        have qw0 := hq 0 _ rfl
        have qw1 := hq 1 _ rfl
        have qw2 := hq 2 _ rfl
        have qw3 := hq 3 _ rfl
        have qw4 := hq 4 _ rfl
        have qw5 := hq 5 _ rfl
        have qw6 := hq 6 _ rfl
        have qw7 := hq 7 _ rfl
        have qw8 := hq 8 _ rfl
        rw [Nat.add_zero] at qw0
        have bbl : bb < wc.heap.size := Nat.lt_trans (World.block_lt_of_cell? w _ qw0) hws
        have q0 := XR.cell qw0
        have q1 := XR.cell qw1
        have q2 := XR.cell qw2
        have q3 := XR.cell qw3
        have q4 := XR.cell qw4
        have q5 := XR.cell qw5
        have q6 := XR.cell qw6
        have q7 := XR.cell qw7
        have q8 := XR.cell qw8
        have p0 := (kr.at 0 _ rfl).1
        have p1 := (kr.at 1 _ rfl).1
        have p2 := (kr.at 2 _ rfl).1
        have p3 := (kr.at 3 _ rfl).1
        have p4 := (kr.at 4 _ rfl).1
        have p5 := (kr.at 5 _ rfl).1
        have p6 := (kr.at 6 _ rfl).1
        have p7 := (kr.at 7 _ rfl).1
        have p8 := (kr.at 8 _ rfl).1
        have p9 := (kr.at 9 _ rfl).1
        have p10 := (kr.at 10 _ rfl).1
        have p11 := (kr.at 11 _ rfl).1
        have nv := (hc.at 4 _ rfl).1
        simp only [sgV] at HOk
        clear hq qw0 qw1 qw2 qw3 qw4 qw5 qw6 qw7 qw8
        go_wp2_with fail
        refine wp_region_Z' (TE wc.heap.size wr) 13 (by kernel_rfl) ?_
        intro V0 hV0
        have Y0 : Ext wr V0 := by rw [hV0]; exact (Ext.refl wr).drew
        have hT : TE wc.heap.size wr false V0 := Below.mono (show Below wr.heap.size wr V0 from Y0) hszr
        clear hV0
        refine' wpAnyZ_take 13 (i := 0) (v := _) rfl rfl (by kernel_rfl) (by decide) (by kernel_rfl) (by kernel_rfl) (by kernel_rfl) (by kernel_rfl) (fun _ _ _ h => h.no.elim) hT (by rfl) ?hy ?_
        case hy => (intro w' hS; have gn := hS.c hnc nv; have gp0 := hS.c hws p0; have gp1 := hS.c hws p1; have gp2 := hS.c hws p2; have gp3 := hS.c hws p3; have gp4 := hS.c hws p4; have gp5 := hS.c hws p5; have gp6 := hS.c hws p6; have gp7 := hS.c hws p7; have gp8 := hS.c hws p8; have gp9 := hS.c hws p9; have gp10 := hS.c hws p10; have gp11 := hS.c hws p11; have gq0 := hS.c bbl q0; have gq1 := hS.c bbl q1; have gq2 := hS.c bbl q2; have gq3 := hS.c bbl q3; have gq4 := hS.c bbl q4; have gq5 := hS.c bbl q5; have gq6 := hS.c bbl q6; have gq7 := hS.c bbl q7; have gq8 := hS.c bbl q8; clear hS; go_simp; rfl)
        try simp only [Act.put, List.getElem_toArray, List.getElem_cons_zero, List.getElem_cons_succ, List.setIfInBounds_toArray, List.set_cons_zero, List.set_cons_succ]
        refine' wpAnyZ_take 13 (i := 1) (v := _) rfl rfl (by kernel_rfl) (by decide) (by kernel_rfl) (by kernel_rfl) (by kernel_rfl) (by kernel_rfl) (fun _ _ _ h => h.no.elim) hT (by rfl) ?hy ?_
        case hy => (intro w' hS; have gn := hS.c hnc nv; have gp0 := hS.c hws p0; have gp1 := hS.c hws p1; have gp2 := hS.c hws p2; have gp3 := hS.c hws p3; have gp4 := hS.c hws p4; have gp5 := hS.c hws p5; have gp6 := hS.c hws p6; have gp7 := hS.c hws p7; have gp8 := hS.c hws p8; have gp9 := hS.c hws p9; have gp10 := hS.c hws p10; have gp11 := hS.c hws p11; have gq0 := hS.c bbl q0; have gq1 := hS.c bbl q1; have gq2 := hS.c bbl q2; have gq3 := hS.c bbl q3; have gq4 := hS.c bbl q4; have gq5 := hS.c bbl q5; have gq6 := hS.c bbl q6; have gq7 := hS.c bbl q7; have gq8 := hS.c bbl q8; clear hS; go_simp; rfl)
        try simp only [Act.put, List.getElem_toArray, List.getElem_cons_zero, List.getElem_cons_succ, List.setIfInBounds_toArray, List.set_cons_zero, List.set_cons_succ]
        refine' wpAnyZ_take 13 (i := 2) (v := _) rfl rfl (by kernel_rfl) (by decide) (by kernel_rfl) (by kernel_rfl) (by kernel_rfl) (by kernel_rfl) (fun _ _ _ h => h.no.elim) hT (by rfl) ?hy ?_
        case hy => (intro w' hS; have gn := hS.c hnc nv; have gp0 := hS.c hws p0; have gp1 := hS.c hws p1; have gp2 := hS.c hws p2; have gp3 := hS.c hws p3; have gp4 := hS.c hws p4; have gp5 := hS.c hws p5; have gp6 := hS.c hws p6; have gp7 := hS.c hws p7; have gp8 := hS.c hws p8; have gp9 := hS.c hws p9; have gp10 := hS.c hws p10; have gp11 := hS.c hws p11; have gq0 := hS.c bbl q0; have gq1 := hS.c bbl q1; have gq2 := hS.c bbl q2; have gq3 := hS.c bbl q3; have gq4 := hS.c bbl q4; have gq5 := hS.c bbl q5; have gq6 := hS.c bbl q6; have gq7 := hS.c bbl q7; have gq8 := hS.c bbl q8; clear hS; go_simp; rfl)
        try simp only [Act.put, List.getElem_toArray, List.getElem_cons_zero, List.getElem_cons_succ, List.setIfInBounds_toArray, List.set_cons_zero, List.set_cons_succ]
        refine' wpAnyZ_take 13 (i := 3) (v := _) rfl rfl (by kernel_rfl) (by decide) (by kernel_rfl) (by kernel_rfl) (by kernel_rfl) (by kernel_rfl) (fun _ _ _ h => h.no.elim) hT (by rfl) ?hy ?_
        case hy => (intro w' hS; have gn := hS.c hnc nv; have gp0 := hS.c hws p0; have gp1 := hS.c hws p1; have gp2 := hS.c hws p2; have gp3 := hS.c hws p3; have gp4 := hS.c hws p4; have gp5 := hS.c hws p5; have gp6 := hS.c hws p6; have gp7 := hS.c hws p7; have gp8 := hS.c hws p8; have gp9 := hS.c hws p9; have gp10 := hS.c hws p10; have gp11 := hS.c hws p11; have gq0 := hS.c bbl q0; have gq1 := hS.c bbl q1; have gq2 := hS.c bbl q2; have gq3 := hS.c bbl q3; have gq4 := hS.c bbl q4; have gq5 := hS.c bbl q5; have gq6 := hS.c bbl q6; have gq7 := hS.c bbl q7; have gq8 := hS.c bbl q8; clear hS; go_simp; rfl)
        try simp only [Act.put, List.getElem_toArray, List.getElem_cons_zero, List.getElem_cons_succ, List.setIfInBounds_toArray, List.set_cons_zero, List.set_cons_succ]
        refine' wpAnyZ_take 13 (i := 4) (v := _) rfl rfl (by kernel_rfl) (by decide) (by kernel_rfl) (by kernel_rfl) (by kernel_rfl) (by kernel_rfl) (fun _ _ _ h => h.no.elim) hT (by rfl) ?hy ?_
        case hy => (intro w' hS; have gn := hS.c hnc nv; have gp0 := hS.c hws p0; have gp1 := hS.c hws p1; have gp2 := hS.c hws p2; have gp3 := hS.c hws p3; have gp4 := hS.c hws p4; have gp5 := hS.c hws p5; have gp6 := hS.c hws p6; have gp7 := hS.c hws p7; have gp8 := hS.c hws p8; have gp9 := hS.c hws p9; have gp10 := hS.c hws p10; have gp11 := hS.c hws p11; have gq0 := hS.c bbl q0; have gq1 := hS.c bbl q1; have gq2 := hS.c bbl q2; have gq3 := hS.c bbl q3; have gq4 := hS.c bbl q4; have gq5 := hS.c bbl q5; have gq6 := hS.c bbl q6; have gq7 := hS.c bbl q7; have gq8 := hS.c bbl q8; clear hS; go_simp; rfl)
        try simp only [Act.put, List.getElem_toArray, List.getElem_cons_zero, List.getElem_cons_succ, List.setIfInBounds_toArray, List.set_cons_zero, List.set_cons_succ]
        refine' wpAnyZ_take 13 (i := 5) (v := _) rfl rfl (by kernel_rfl) (by decide) (by kernel_rfl) (by kernel_rfl) (by kernel_rfl) (by kernel_rfl) (fun _ _ _ h => h.no.elim) hT (by rfl) ?hy ?_
        case hy => (intro w' hS; have gn := hS.c hnc nv; have gp0 := hS.c hws p0; have gp1 := hS.c hws p1; have gp2 := hS.c hws p2; have gp3 := hS.c hws p3; have gp4 := hS.c hws p4; have gp5 := hS.c hws p5; have gp6 := hS.c hws p6; have gp7 := hS.c hws p7; have gp8 := hS.c hws p8; have gp9 := hS.c hws p9; have gp10 := hS.c hws p10; have gp11 := hS.c hws p11; have gq0 := hS.c bbl q0; have gq1 := hS.c bbl q1; have gq2 := hS.c bbl q2; have gq3 := hS.c bbl q3; have gq4 := hS.c bbl q4; have gq5 := hS.c bbl q5; have gq6 := hS.c bbl q6; have gq7 := hS.c bbl q7; have gq8 := hS.c bbl q8; clear hS; go_simp; rfl)
        try simp only [Act.put, List.getElem_toArray, List.getElem_cons_zero, List.getElem_cons_succ, List.setIfInBounds_toArray, List.set_cons_zero, List.set_cons_succ]
        refine' wpAnyZ_take 13 (i := 6) (v := _) rfl rfl (by kernel_rfl) (by decide) (by kernel_rfl) (by kernel_rfl) (by kernel_rfl) (by kernel_rfl) (fun _ _ _ h => h.no.elim) hT (by rfl) ?hy ?_
        case hy => (intro w' hS; have gn := hS.c hnc nv; have gp0 := hS.c hws p0; have gp1 := hS.c hws p1; have gp2 := hS.c hws p2; have gp3 := hS.c hws p3; have gp4 := hS.c hws p4; have gp5 := hS.c hws p5; have gp6 := hS.c hws p6; have gp7 := hS.c hws p7; have gp8 := hS.c hws p8; have gp9 := hS.c hws p9; have gp10 := hS.c hws p10; have gp11 := hS.c hws p11; have gq0 := hS.c bbl q0; have gq1 := hS.c bbl q1; have gq2 := hS.c bbl q2; have gq3 := hS.c bbl q3; have gq4 := hS.c bbl q4; have gq5 := hS.c bbl q5; have gq6 := hS.c bbl q6; have gq7 := hS.c bbl q7; have gq8 := hS.c bbl q8; clear hS; go_simp; rfl)
        try simp only [Act.put, List.getElem_toArray, List.getElem_cons_zero, List.getElem_cons_succ, List.setIfInBounds_toArray, List.set_cons_zero, List.set_cons_succ]
        refine' wpAnyZ_take 13 (i := 7) (v := _) rfl rfl (by kernel_rfl) (by decide) (by kernel_rfl) (by kernel_rfl) (by kernel_rfl) (by kernel_rfl) (fun _ _ _ h => h.no.elim) hT (by rfl) ?hy ?_
        case hy => (intro w' hS; have gn := hS.c hnc nv; have gp0 := hS.c hws p0; have gp1 := hS.c hws p1; have gp2 := hS.c hws p2; have gp3 := hS.c hws p3; have gp4 := hS.c hws p4; have gp5 := hS.c hws p5; have gp6 := hS.c hws p6; have gp7 := hS.c hws p7; have gp8 := hS.c hws p8; have gp9 := hS.c hws p9; have gp10 := hS.c hws p10; have gp11 := hS.c hws p11; have gq0 := hS.c bbl q0; have gq1 := hS.c bbl q1; have gq2 := hS.c bbl q2; have gq3 := hS.c bbl q3; have gq4 := hS.c bbl q4; have gq5 := hS.c bbl q5; have gq6 := hS.c bbl q6; have gq7 := hS.c bbl q7; have gq8 := hS.c bbl q8; clear hS; go_simp; rfl)
        try simp only [Act.put, List.getElem_toArray, List.getElem_cons_zero, List.getElem_cons_succ, List.setIfInBounds_toArray, List.set_cons_zero, List.set_cons_succ]
        refine' wpAnyZ_take 13 (i := 8) (v := _) rfl rfl (by kernel_rfl) (by decide) (by kernel_rfl) (by kernel_rfl) (by kernel_rfl) (by kernel_rfl) (fun _ _ _ h => h.no.elim) hT (by rfl) ?hy ?_
        case hy => (intro w' hS; have gn := hS.c hnc nv; have gp0 := hS.c hws p0; have gp1 := hS.c hws p1; have gp2 := hS.c hws p2; have gp3 := hS.c hws p3; have gp4 := hS.c hws p4; have gp5 := hS.c hws p5; have gp6 := hS.c hws p6; have gp7 := hS.c hws p7; have gp8 := hS.c hws p8; have gp9 := hS.c hws p9; have gp10 := hS.c hws p10; have gp11 := hS.c hws p11; have gq0 := hS.c bbl q0; have gq1 := hS.c bbl q1; have gq2 := hS.c bbl q2; have gq3 := hS.c bbl q3; have gq4 := hS.c bbl q4; have gq5 := hS.c bbl q5; have gq6 := hS.c bbl q6; have gq7 := hS.c bbl q7; have gq8 := hS.c bbl q8; clear hS; go_simp; rfl)
        try simp only [Act.put, List.getElem_toArray, List.getElem_cons_zero, List.getElem_cons_succ, List.setIfInBounds_toArray, List.set_cons_zero, List.set_cons_succ]
        clear p0 p1 p2 p3 p4 p5 p6 p7 p8 p9 p10 p11 q0 q1 q2 q3 q4 q5 q6 q7 q8
        refine wpAnyZ_one false (i := 9) (by kernel_rfl) (by kernel_rfl) rfl (fun K' hK => ?_)
        go_simp
        refine (HOk.out _ (XR.trans Y0)).mono ?_
        rintro e V1 ⟨rfl, Z1⟩
        have Y1 := Y0.trans Z1
        refine hK.out _ _ (Below.mono (show Below wr.heap.size wr V1 from Y1) hszr) ?_
        clear hK K' hT
        try simp only [Act.put, List.getElem_toArray, List.getElem_cons_zero, List.getElem_cons_succ, List.setIfInBounds_toArray, List.set_cons_zero, List.set_cons_succ]
        refine wpAnyZ_one false (i := 10) (by kernel_rfl) (by kernel_rfl) rfl (fun K' hK => ?_)
        simp only [obV]
        go_simp
        have Y2 : Ext wr (V1.alloc (.cells #[.int .i64 ob.kd.num, .string ob.name, .string (tQ ob.pt.1), .string (tQ ob.pt.2), .string ob.kd.depth, .string ob.upper, .string ob.lower, .string ob.kd.n0, .string ob.kd.n1, .string ob.kd.n2] 95)) := Y1.alloc _
        refine hK.out _ _ (Below.mono (show Below wr.heap.size wr _ from Y2) hszr) ?_
        clear hK K'
        try simp only [Act.put, List.getElem_toArray, List.getElem_cons_zero, List.getElem_cons_succ, List.setIfInBounds_toArray, List.set_cons_zero, List.set_cons_succ]
        have hown5 := hown.below Y2
        refine wpAnyZ_one false (i := 11) (by kernel_rfl) (by kernel_rfl) rfl (fun K' hK => ?_)
        refine step_push _ EOb rfl _ _ rfl (v := v) rfl hown5 ob ⟨V1.heap.size, 0, none⟩ 1 rfl rfl ?_ ?_ ?_ ?_ ?_
        · intro u hu
          simp only [obL, List.mem_cons, List.not_mem_nil, or_false] at hu
          rcases hu with rfl | rfl | rfl | rfl | rfl | rfl | rfl | rfl | rfl | rfl <;> rfl
        · intro j u hj
          rw [addr0]
          exact cells_at (Cells.new V1 (obL ob) 95) j u hj
        · omega
        · have := Y2.size; omega
        intro q c' W6 hown6 hX6 hg6
        have Y6 : Below wc.heap.size wr W6 := hX6.out _ wr (Nat.le_refl _) hszr (Below.mono (show Below wr.heap.size wr _ from Y2) hszr)
        refine hK.out _ _ Y6 ?_
        clear hK K' hX6 hg6 hown5 hown
        try simp only [Act.put, List.getElem_toArray, List.getElem_cons_zero, List.getElem_cons_succ, List.setIfInBounds_toArray, List.set_cons_zero, List.set_cons_succ]
        refine wpAnyZ_one false (i := 12) (by kernel_rfl) (by kernel_rfl) rfl (fun K' hK => ?_)
        go_simp
        refine hK.out _ _ Y6 ?_
        clear hK K'
        try simp only [Act.put, List.getElem_toArray, List.getElem_cons_zero, List.getElem_cons_succ, List.setIfInBounds_toArray, List.set_cons_zero, List.set_cons_succ]
        have d6 := hc.block Y6 hnc
        obtain ⟨f0, f2⟩ := d6.at 4 _ rfl
        refine wpAnyZ_one true (i := 13) (by kernel_rfl) (by kernel_rfl) rfl (fun K' hK => ?_)
        go_simp
        refine hK.out _ _ trivial ?_
        clear hK K'
        refine wpAnyZ_done (by kernel_rfl) ⟨rfl, ?_⟩ _
        go_wp2_with fail
        refine ⟨⟨k + 1, .slice (some ⟨q, 0, none⟩) (k + 1) c', hlt, by simp, ?_, ?_, ?_, ?_⟩, by simp only [intOf]; omega⟩
        · rw [htk.out]
          have := hown6.put (a := ⟨n, 4, none⟩) (by show n < wc.heap.size; exact hnc) (.slice (some ⟨q, 0, none⟩) (k + 1) c')
          rw [htl] at this
          exact this
        · exact d6.put 4 (by simp) _
        · exact (hB.below Y6).set _ _
        · exact (Ext.trans' XR (Below.mono Y6 (by omega))).setCell (p := ⟨n, 4, none⟩) (by show w.heap.size ≤ n; omega) _
      · have hkk : k = l.length := by omega
        have htk : O.take k = O := List.take_of_length_le (by rw [hol]; omega)
        rw [htk] at hown
        have hf := hown.form
        obtain ⟨va, vc, rfl, _⟩ := hf
        have r1 := hB.cells (by omega) k1
        have hfN := neq_ss (r1.at 0 _ rfl).1 (hB.cell hfn (hF 0 (by rw [hts_len]; exact hpp.out.1)))
        have hlN := neq_ss (r1.at 0 _ rfl).1 (hB.cell hlbn (hL 0 (by decide)).1)
        have hpn := neq_ss (d3.at 0 _ rfl).1 (hI3.p 0 hpp.out.1).1
        have hpN := neq_ss (r1.at 0 _ rfl).1 (hB.cell hpn (hI3.p 0 hpp.out.1).1)
        have htn := neq_si (d3.at 0 _ rfl).1 (hI3.t 0 hpp.out.2.2).1
        have htN := neq_si (r1.at 0 _ rfl).1 (hB.cell htn (hI3.t 0 hpp.out.2.2).1)
        have HF := Lib.hid (put5 r1 (.slice (some ⟨pb, 0, none⟩) pts.length pc) (.slice (some ⟨tb, 0, none⟩) tris.length tc) (.slice (some ⟨fb, 0, none⟩) pts.length fc) (.slice (some ⟨lb, 0, none⟩) 3 3) (.slice va O.length vc) XR (by omega) hfN (show FldIn wr fb 0 [] from fun i hi => by simp at hi) hlN (show Cells lb [] wr from fun i hi => by simp at hi))
        have HC := Lib.hid (fun b o (hb : b ≠ w.heap.size + 1) => set5_cell wr (w.heap.size + 1) (.slice (some ⟨pb, 0, none⟩) pts.length pc) (.slice (some ⟨tb, 0, none⟩) tris.length tc) (.slice (some ⟨fb, 0, none⟩) pts.length fc) (.slice (some ⟨lb, 0, none⟩) 3 3) (.slice va O.length vc) (o := o) hb)
        have hWF : ∃ WF, WF = ((((wr.setCell ⟨w.heap.size + 1, 0, none⟩ (.slice (some ⟨pb, 0, none⟩) pts.length pc)).setCell ⟨w.heap.size + 1, 1, none⟩ (.slice (some ⟨tb, 0, none⟩) tris.length tc)).setCell ⟨w.heap.size + 1, 2, none⟩ (.slice (some ⟨fb, 0, none⟩) pts.length fc)).setCell ⟨w.heap.size + 1, 3, none⟩ (.slice (some ⟨lb, 0, none⟩) 3 3)).setCell ⟨w.heap.size + 1, 4, none⟩ (.slice va O.length vc) := ⟨_, rfl⟩
        obtain ⟨WF, hWF⟩ := hWF
        have HC2 := HC.out
        have HF2 := HF.out
        clear HC HF
        simp only at HF2
        rw [← hWF] at HC2 HF2
        have HIN : Hid (BkIn WF ⟨pb, 0, pc, tb, 0, tc, fb, 0, fc, lb, 0, 3, vc, va⟩ ⟨pts, tris, hts h pts.length, colABC, O⟩) := Lib.hid
          ⟨hI3.of (fun o u hu => (HC2 _ _ hpN).trans (hB.cell hpn hu)) (fun o u hu => (HC2 _ _ htN).trans (hB.cell htn hu)),
           fun j hj => (HC2 _ _ hfN).trans (hB.cell hfn (hF j hj)),
           fun j hj => ⟨(HC2 _ _ hlN).trans (hB.cell hlbn (hL j hj).1), (HC2 _ _ hlN).trans (hB.cell hlbn (hL j hj).2.1), (HC2 _ _ hlN).trans (hB.cell hlbn (hL j hj).2.2)⟩,
           hown.obs (fun b o u hb hu => (HC2 _ _ (by omega)).trans hu), Nat.le_refl _⟩
        have HX := Lib.hid HF2.2.2.2
        have z0 := (HF2.1.at 0 _ rfl).1
        have z1 := (HF2.1.at 1 _ rfl).1
        have z2 := (HF2.1.at 2 _ rfl).1
        have z3 := (HF2.1.at 3 _ rfl).1
        have z4 := (HF2.1.at 4 _ rfl).1
        clear HF2 HC2 hown hF hL hI3 hpn hpN htn htN hfn hfN hlN hlbn
        have n0 := (hc.at 0 _ rfl).1
        have n1 := (hc.at 1 _ rfl).1
        have n2 := (hc.at 2 _ rfl).1
        have n3 := (hc.at 3 _ rfl).1
        have n4 := (hc.at 4 _ rfl).1
        obtain ⟨y0, x0⟩ := r1.at 0 _ rfl
        obtain ⟨y1, x1⟩ := r1.at 1 _ rfl
        obtain ⟨y2, x2⟩ := r1.at 2 _ rfl
        obtain ⟨y3, x3⟩ := r1.at 3 _ rfl
        obtain ⟨y4, x4⟩ := r1.at 4 _ rfl
        have kl : decide ((k : Int) < l.length) = false := decide_eq_false (by omega)
        have p11 := (kr.at 11 _ rfl).1
        clear hol
        go_wp2_with fail
        rw [← hWF]
        refine bodyPost_ret (v := .agg #[.slice (some ⟨pb, 0, none⟩) pts.length pc, .slice (some ⟨tb, 0, none⟩) tris.length tc, .slice (some ⟨fb, 0, none⟩) pts.length fc, .slice (some ⟨lb, 0, none⟩) 3 3, .slice va O.length vc]) (by simp [results, Tryz.results12, go_sem, z0, z1, z2, z3, z4]) rfl ⟨_, rfl, HIN.out, HX.out⟩
end Go.Proofs.YtbiffaciinppiaaGreatDoor
