/- klippelaw12.Make. A drawn region: where several operations may come next, each of them. No program. fieldbook.Book.surfaces, Height, Surfaces at right books. -/
import Derived.Test.YtbiffaciinppiaaGreatDoorVa19
import Derived.Test.YtbiffaciinppiaaGreatDoorVa15
import Derived.Test.YtbiffaciinppiaaGreatDoorVa14
import Derived.Deep.DeepCutAuto
set_option linter.unusedVariables false
set_option linter.unusedSimpArgs false
section
namespace Go.Proofs.YtbiffaciinppiaaGreatDoor
open Go.RowKit
attribute [local irreducible] tQ

/-- What there was below a block is as it was, till the region's last operation. -/
def TE (B : Nat) (w : World) : Bool → World → Prop
  | false, W => Below B w W
  | true, _ => True
theorem TE.c {B : Nat} {w W : World} (h : TE B w false W) {b o : Nat} {u : Value} (hb : b < B) (hc : w.cell? ⟨b, o, none⟩ = some u) : W.cell? ⟨b, o, none⟩ = some u := (Below.cell (show Below B w W from h) (p := ⟨b, o, none⟩) hb).trans hc
def ptE (p : Rat × Rat) : List Value := [.string (tQ p.1), .string (tQ p.2)]
theorem EPt : ElemOk Tryz.prog 34 91 2 32 := ⟨Tryz.underlying34, ⟨_, (by kernel_rfl : (Tryz.prog.info? 91).map (fun i => (i.zero, i.size, i.bytes)) = some (some (.agg #[.string ⟨#[]⟩, .string ⟨#[]⟩]), 2, 32)), rfl⟩, by omega, by omega⟩
theorem heap_set (w : World) (a : Addr) (u : Value) (g : Nat) (h : g ≠ a.block) : (w.setCell a u).heap[g]? = w.heap[g]? := by
  simp [World.setCell, Array.getElem?_modify, Ne.symm h]
theorem OwnL.put {α : Type} {enc : α → List Value} {e size base : Nat} {L : List α} {v : Value} {w : World} (h : OwnL enc e size base L v w) {a : Addr} (ha : a.block < base) (u : Value) : OwnL enc e size base L v (w.setCell a u) := by
  obtain ⟨h0, hl, h1⟩ := h
  refine ⟨h0, hl, ?_⟩
  rcases h1 with h1 | ⟨g, cap, cur, h2, h3, h4, h5⟩
  · exact .inl h1
  · exact .inr ⟨g, cap, cur, h2, h3, by rw [heap_set w a u g (by omega)]; exact h4, h5⟩
theorem shp_pos (i : Nat) : 0 < (shpZ i).length := by
  unfold shpZ; split <;> decide
theorem shpT_pos (i : Nat) : 0 < (shpT i).length := by
  unfold shpT; split <;> decide
theorem cell_set (w : World) (a : Addr) (u : Value) {b o : Nat} (h : b ≠ a.block) : (w.setCell a u).cell? ⟨b, o, none⟩ = w.cell? ⟨b, o, none⟩ := World.cell?_of_block (w := w) (a := ⟨b, o, none⟩) (heap_set w a u b h)
theorem MeshIn.set {w : World} {pb po tb tO : Nat} {pts : List (Rat × Rat)} {tris : List Tri} (h : MeshIn w pb po tb tO pts tris) {a : Addr} (h1 : pb ≠ a.block) (h2 : tb ≠ a.block) (u : Value) : MeshIn (w.setCell a u) pb po tb tO pts tris :=
  ⟨fun i hi => ⟨(cell_set w a u h1).trans (h.p i hi).1, (cell_set w a u h1).trans (h.p i hi).2⟩, fun i hi => ⟨(cell_set w a u h2).trans (h.t i hi).1, (cell_set w a u h2).trans (h.t i hi).2.1, (cell_set w a u h2).trans (h.t i hi).2.2⟩⟩
def mkPts (s : Sh) (i : Nat) : List (Rat × Rat) := (shpZ i).map fun z => plP s z.1 z.2 1
def MkR (s : Sh) (i N : Nat) (tv : Value) (W2 : World) (v6 : Value) (wr : World) : Prop :=
  ∃ (k : Nat) (v : Value), k ≤ (shpZ i).length ∧ v6 = .int .i64 k ∧ OwnL ptE 91 2 (N + 1) ((mkPts s i).take k) v wr ∧ wr.cell? ⟨N, 0, none⟩ = some v ∧ wr.frozen? ⟨N, 0, none⟩ = false ∧ wr.cell? ⟨N, 1, none⟩ = some tv ∧ Below N W2 wr

set_option maxRecDepth 100000 in
set_option maxHeartbeats 4000000 in
theorem l12make_ok (s : Sh) (hs : ShW s) (i : Nat) (hi : s.kind % 8 = i) (w : World) (g : Glob w) :
    Calls Tryz.prog 37 #[shV s] w (fun e w' => ∃ pb pc tb tc, e = .returned (mV pb 0 pc tb 0 tc (mkPts s i) (shpT i)) ∧ MeshIn w' pb 0 tb 0 (mkPts s i) (shpT i) ∧ Ext w w') := by
  have HS := Lib.hid (fun W => l12shape_ok s.kind i hi hs.k0 W)
  have HP := Lib.hid (fun (x y : Int) (hx : -128 ≤ x ∧ x ≤ 127) (hy : -128 ≤ y ∧ y ≤ 127) W (X : Ext w W) => place_ok s hs x y hx hy 1 (.inl rfl) W (g.ext X))
  have hz : Hid (∀ z ∈ shpZ i, (0 ≤ z.1 ∧ z.1 ≤ 6) ∧ (0 ≤ z.2 ∧ z.2 ≤ 6)) := Lib.hid (shp_ok i (by have := hs.k0; omega)).2.1
  have hl6 : (shpZ i).length ≤ 6 := (shp_ok i (by have := hs.k0; omega)).2.2.2.2.1
  have hml : (mkPts s i).length = (shpZ i).length := by simp [mkPts]
  clear g hs hi
  obtain ⟨kind, s0, s1, half⟩ := s
  simp only [shV] at HS HP ⊢
  go_enter Tryz.func37, Tryz.ntmps37
  go_wp2_with fail
  have X0 := ((Ext.refl w).alloc (.cells #[.int .u8 kind, .int .i8 s0, .int .i8 s1, .bool half] 25)).alloc (.cells #[.slice none 0 0, .slice none 0 0] 37)
  have hW : ∃ W0, W0 = (w.alloc (.cells #[.int .u8 kind, .int .i8 s0, .int .i8 s1, .bool half] 25)).alloc (.cells #[.slice none 0 0, .slice none 0 0] 37) := ⟨_, rfl⟩
  obtain ⟨W0, hW0⟩ := hW
  rw [← hW0] at X0 ⊢
  have a0 : Cells w.heap.size [.int .u8 kind, .int .i8 s0, .int .i8 s1, .bool half] W0 := by
    rw [hW0]; exact (Cells.new w [.int .u8 kind, .int .i8 s0, .int .i8 s1, .bool half] 25).ext ((Ext.refl _).alloc _)
  have a1 : Cells (w.heap.size + 1) [.slice none 0 0, .slice none 0 0] W0 := by
    have := Cells.new (w.alloc (.cells #[.int .u8 kind, .int .i8 s0, .int .i8 s1, .bool half] 25)) [.slice none 0 0, .slice none 0 0] 37
    rw [World.size_alloc] at this
    rw [hW0]; exact this
  have hsz0 : W0.heap.size = w.heap.size + 2 := by rw [hW0]; simp
  clear hW0
  refine (HS.out W0).mono ?_
  rintro e w1 ⟨zb, zc, tb, tc, rfl, hzs, htr, X1⟩
  have b0 := a0.ext X1
  have b1 := a1.ext X1
  have X01 := X0.trans X1
  have hsz1 := X1.size
  clear a0 a1
  go_wp2_with fail
  have hWm : ∃ W2, W2 = w1.alloc (.cells #[.slice none 0 0, .slice (some ⟨tb, 0, none⟩) (shpT i).length tc] 37) := ⟨_, rfl⟩
  obtain ⟨W2, hW2⟩ := hWm
  rw [← hW2]
  have X2 : Ext w1 W2 := by rw [hW2]; exact (Ext.refl w1).alloc _
  have d0 : W2.cell? ⟨w1.heap.size, 0, none⟩ = some (.slice none 0 0) := by rw [hW2]; simp [go_sem]
  have d1 : W2.cell? ⟨w1.heap.size, 1, none⟩ = some (.slice (some ⟨tb, 0, none⟩) (shpT i).length tc) := by rw [hW2]; simp [go_sem]
  have d2 : W2.frozen? ⟨w1.heap.size, 0, none⟩ = false := by rw [hW2]; simp [go_sem]
  have hsz2 : W2.heap.size = w1.heap.size + 1 := by rw [hW2]; simp
  clear hW2
  have hzl : ∀ k, k < (shpZ i).length → zb < w1.heap.size := fun k hk => World.block_lt_of_cell? w1 _ (hzs k hk).1
  go_loopw [6] (MkR ⟨kind, s0, s1, half⟩ i w1.heap.size (.slice (some ⟨tb, 0, none⟩) (shpT i).length tc) W2) (fun p _ => (shpZ i).length - (intOf p).toNat)
  case atStart => exact ⟨0, _, by omega, rfl, OwnL.nil _, d0, d2, d1, Below.refl _ _⟩
  case round =>
    obtain ⟨k, v, hk, rfl, hown, hc, hf, hc1, hB⟩ := hrel
    have hszr := hB.size
    have b0r : ∀ j u, ([.int .u8 kind, .int .i8 s0, .int .i8 s1, .bool half] : List Value)[j]? = some u → wr.cell? ⟨w.heap.size, j, none⟩ = some u := fun j u hu => (hB.cell (p := ⟨w.heap.size, j, none⟩) (by show w.heap.size < w1.heap.size; omega)).trans (X2.cell (b0.at j u hu).1)
    have XR : Ext w wr := Ext.trans' X01 (Below.mono (Below.trans (show Below w1.heap.size w1 W2 from X2) hB) (by omega))
    by_cases hlt : k < (shpZ i).length
    · have cx := (hB.cell (p := ⟨zb, k * 2, none⟩) (hzl k hlt)).trans (X2.cell (hzs k hlt).1)
      have cy := (hB.cell (p := ⟨zb, k * 2 + 1, none⟩) (hzl k hlt)).trans (X2.cell (hzs k hlt).2)
      have hzk := hz.out (shpZ i)[k] (List.getElem_mem _)
      have HPk := Lib.hid (HP.out (shpZ i)[k].1 (shpZ i)[k].2 (by omega) (by omega))
      have hget := Lib.hid (show (mkPts ⟨kind, s0, s1, half⟩ i).take (k + 1) = (mkPts ⟨kind, s0, s1, half⟩ i).take k ++ [plP ⟨kind, s0, s1, half⟩ (shpZ i)[k].1 (shpZ i)[k].2 1] from by
        rw [List.take_add_one, List.getElem?_eq_getElem (by rw [hml]; exact hlt)]; simp [mkPts])
      have htl : ((mkPts ⟨kind, s0, s1, half⟩ i).take k).length = k := by rw [List.length_take, hml]; omega
      generalize (mkPts ⟨kind, s0, s1, half⟩ i).take k = L at *
      generalize plP ⟨kind, s0, s1, half⟩ (shpZ i)[k].1 (shpZ i)[k].2 1 = np at *
      obtain ⟨z0, z1⟩ := hzk
      generalize (shpZ i)[k].1 = zx at *
      generalize (shpZ i)[k].2 = zy at *
      have wx : IntKind.i8.wrap zx = zx := by rcases (show zx = 0 ∨ zx = 1 ∨ zx = 2 ∨ zx = 3 ∨ zx = 4 ∨ zx = 5 ∨ zx = 6 by omega) with h | h | h | h | h | h | h <;> rw [h] <;> rfl
      have wy : IntKind.i8.wrap zy = zy := by rcases (show zy = 0 ∨ zy = 1 ∨ zy = 2 ∨ zy = 3 ∨ zy = 4 ∨ zy = 5 ∨ zy = 6 by omega) with h | h | h | h | h | h | h <;> rw [h] <;> rfl
      have n0 := b0r 0 _ rfl
      have n1 := b0r 1 _ rfl
      have n2 := b0r 2 _ rfl
      have n3 := b0r 3 _ rfl
      have kl : (k : Int) < (shpZ i).length := by omega
      clear b0r
      go_wp2_with fail
      have lb0 : w.heap.size < w1.heap.size + 1 := by omega
      have lb1 : w1.heap.size < w1.heap.size + 1 := by omega
      have lb2 : zb < w1.heap.size + 1 := by have := hzl k hlt; omega
      have hT : TE (w1.heap.size + 1) wr false wr.drew := Below.drew (Below.refl _ _)
      refine wp_region_Z (TE (w1.heap.size + 1) wr) 20 (by kernel_rfl) ?_
      refine' wpAnyZ_take 20 (i := 0) (v := _) rfl rfl (by kernel_rfl) (by decide) (by kernel_rfl) (by kernel_rfl) (by kernel_rfl) (by kernel_rfl) (fun _ _ _ h => h.no.elim) hT (by rfl) ?hy ?_
      case hy => (intro w' hS; have g0 := hS.c lb0 n0; have g1 := hS.c lb0 n1; have g2 := hS.c lb0 n2; have g3 := hS.c lb0 n3; have gc := hS.c lb1 hc; have gx := hS.c lb2 cx; have gy := hS.c lb2 cy; clear hS; go_simp; rfl)
      try simp only [Act.put, List.setIfInBounds_toArray, List.set_cons_zero, List.set_cons_succ]
      refine' wpAnyZ_take 20 (i := 1) (v := _) rfl rfl (by kernel_rfl) (by decide) (by kernel_rfl) (by kernel_rfl) (by kernel_rfl) (by kernel_rfl) (fun _ _ _ h => h.no.elim) hT (by rfl) ?hy ?_
      case hy => (intro w' hS; have g0 := hS.c lb0 n0; have g1 := hS.c lb0 n1; have g2 := hS.c lb0 n2; have g3 := hS.c lb0 n3; have gc := hS.c lb1 hc; have gx := hS.c lb2 cx; have gy := hS.c lb2 cy; clear hS; go_simp; rfl)
      try simp only [Act.put, List.setIfInBounds_toArray, List.set_cons_zero, List.set_cons_succ]
      refine' wpAnyZ_take 20 (i := 2) (v := _) rfl rfl (by kernel_rfl) (by decide) (by kernel_rfl) (by kernel_rfl) (by kernel_rfl) (by kernel_rfl) (fun _ _ _ h => h.no.elim) hT (by rfl) ?hy ?_
      case hy => (intro w' hS; have g0 := hS.c lb0 n0; have g1 := hS.c lb0 n1; have g2 := hS.c lb0 n2; have g3 := hS.c lb0 n3; have gc := hS.c lb1 hc; have gx := hS.c lb2 cx; have gy := hS.c lb2 cy; clear hS; go_simp; rfl)
      try simp only [Act.put, List.setIfInBounds_toArray, List.set_cons_zero, List.set_cons_succ]
      refine' wpAnyZ_take 20 (i := 3) (v := _) rfl rfl (by kernel_rfl) (by decide) (by kernel_rfl) (by kernel_rfl) (by kernel_rfl) (by kernel_rfl) (fun _ _ _ h => h.no.elim) hT (by rfl) ?hy ?_
      case hy => (intro w' hS; have g0 := hS.c lb0 n0; have g1 := hS.c lb0 n1; have g2 := hS.c lb0 n2; have g3 := hS.c lb0 n3; have gc := hS.c lb1 hc; have gx := hS.c lb2 cx; have gy := hS.c lb2 cy; clear hS; go_simp; rfl)
      try simp only [Act.put, List.setIfInBounds_toArray, List.set_cons_zero, List.set_cons_succ]
      refine' wpAnyZ_take 20 (i := 4) (v := _) rfl rfl (by kernel_rfl) (by decide) (by kernel_rfl) (by kernel_rfl) (by kernel_rfl) (by kernel_rfl) (fun _ _ _ h => h.no.elim) hT (by rfl) ?hy ?_
      case hy => (intro w' hS; have g0 := hS.c lb0 n0; have g1 := hS.c lb0 n1; have g2 := hS.c lb0 n2; have g3 := hS.c lb0 n3; have gc := hS.c lb1 hc; have gx := hS.c lb2 cx; have gy := hS.c lb2 cy; clear hS; go_simp; rfl)
      try simp only [Act.put, List.setIfInBounds_toArray, List.set_cons_zero, List.set_cons_succ]
      refine' wpAnyZ_take 20 (i := 5) (v := _) rfl rfl (by kernel_rfl) (by decide) (by kernel_rfl) (by kernel_rfl) (by kernel_rfl) (by kernel_rfl) (fun _ _ _ h => h.no.elim) hT (by rfl) ?hy ?_
      case hy => (intro w' hS; have g0 := hS.c lb0 n0; have g1 := hS.c lb0 n1; have g2 := hS.c lb0 n2; have g3 := hS.c lb0 n3; have gc := hS.c lb1 hc; have gx := hS.c lb2 cx; have gy := hS.c lb2 cy; clear hS; go_simp; rfl)
      try simp only [Act.put, List.setIfInBounds_toArray, List.set_cons_zero, List.set_cons_succ]
      refine' wpAnyZ_take 20 (i := 6) (v := _) rfl rfl (by kernel_rfl) (by decide) (by kernel_rfl) (by kernel_rfl) (by kernel_rfl) (by kernel_rfl) (fun _ _ _ h => h.no.elim) hT (by rfl) ?hy ?_
      case hy => (intro w' hS; have g0 := hS.c lb0 n0; have g1 := hS.c lb0 n1; have g2 := hS.c lb0 n2; have g3 := hS.c lb0 n3; have gc := hS.c lb1 hc; have gx := hS.c lb2 cx; have gy := hS.c lb2 cy; clear hS; go_simp; rfl)
      try simp only [Act.put, List.setIfInBounds_toArray, List.set_cons_zero, List.set_cons_succ]
      refine' wpAnyZ_take 20 (i := 7) (v := _) rfl rfl (by kernel_rfl) (by decide) (by kernel_rfl) (by kernel_rfl) (by kernel_rfl) (by kernel_rfl) (fun _ _ _ h => h.no.elim) hT (by rfl) ?hy ?_
      case hy => (intro w' hS; have g0 := hS.c lb0 n0; have g1 := hS.c lb0 n1; have g2 := hS.c lb0 n2; have g3 := hS.c lb0 n3; have gc := hS.c lb1 hc; have gx := hS.c lb2 cx; have gy := hS.c lb2 cy; clear hS; go_simp; rfl)
      try simp only [Act.put, List.setIfInBounds_toArray, List.set_cons_zero, List.set_cons_succ]
      refine' wpAnyZ_take 20 (i := 8) (v := _) rfl rfl (by kernel_rfl) (by decide) (by kernel_rfl) (by kernel_rfl) (by kernel_rfl) (by kernel_rfl) (fun _ _ _ h => h.no.elim) hT (by rfl) ?hy ?_
      case hy => (intro w' hS; have g0 := hS.c lb0 n0; have g1 := hS.c lb0 n1; have g2 := hS.c lb0 n2; have g3 := hS.c lb0 n3; have gc := hS.c lb1 hc; have gx := hS.c lb2 cx; have gy := hS.c lb2 cy; clear hS; go_simp; rfl)
      try simp only [Act.put, List.setIfInBounds_toArray, List.set_cons_zero, List.set_cons_succ]
      refine' wpAnyZ_take 20 (i := 9) (v := _) rfl rfl (by kernel_rfl) (by decide) (by kernel_rfl) (by kernel_rfl) (by kernel_rfl) (by kernel_rfl) (fun _ _ _ h => h.no.elim) hT (by rfl) ?hy ?_
      case hy => (intro w' hS; have g0 := hS.c lb0 n0; have g1 := hS.c lb0 n1; have g2 := hS.c lb0 n2; have g3 := hS.c lb0 n3; have gc := hS.c lb1 hc; have gx := hS.c lb2 cx; have gy := hS.c lb2 cy; clear hS; go_simp; rfl)
      try simp only [Act.put, List.setIfInBounds_toArray, List.set_cons_zero, List.set_cons_succ]
      refine' wpAnyZ_take 20 (i := 10) (v := _) rfl rfl (by kernel_rfl) (by decide) (by kernel_rfl) (by kernel_rfl) (by kernel_rfl) (by kernel_rfl) (fun _ _ _ h => h.no.elim) hT (by rfl) ?hy ?_
      case hy => (intro w' hS; have g0 := hS.c lb0 n0; have g1 := hS.c lb0 n1; have g2 := hS.c lb0 n2; have g3 := hS.c lb0 n3; have gc := hS.c lb1 hc; have gx := hS.c lb2 cx; have gy := hS.c lb2 cy; clear hS; go_simp; rfl)
      try simp only [Act.put, List.setIfInBounds_toArray, List.set_cons_zero, List.set_cons_succ]
      refine' wpAnyZ_take 20 (i := 11) (v := _) rfl rfl (by kernel_rfl) (by decide) (by kernel_rfl) (by kernel_rfl) (by kernel_rfl) (by kernel_rfl) (fun _ _ _ h => h.no.elim) hT (by rfl) ?hy ?_
      case hy => (intro w' hS; have g0 := hS.c lb0 n0; have g1 := hS.c lb0 n1; have g2 := hS.c lb0 n2; have g3 := hS.c lb0 n3; have gc := hS.c lb1 hc; have gx := hS.c lb2 cx; have gy := hS.c lb2 cy; clear hS; go_simp; rfl)
      try simp only [Act.put, List.setIfInBounds_toArray, List.set_cons_zero, List.set_cons_succ]
      refine' wpAnyZ_take 20 (i := 12) (v := _) rfl rfl (by kernel_rfl) (by decide) (by kernel_rfl) (by kernel_rfl) (by kernel_rfl) (by kernel_rfl) (fun _ _ _ h => h.no.elim) hT (by rfl) ?hy ?_
      case hy => (intro w' hS; have g0 := hS.c lb0 n0; have g1 := hS.c lb0 n1; have g2 := hS.c lb0 n2; have g3 := hS.c lb0 n3; have gc := hS.c lb1 hc; have gx := hS.c lb2 cx; have gy := hS.c lb2 cy; clear hS; go_simp; rfl)
      try simp only [Act.put, List.setIfInBounds_toArray, List.set_cons_zero, List.set_cons_succ]
      refine' wpAnyZ_take 20 (i := 13) (v := _) rfl rfl (by kernel_rfl) (by decide) (by kernel_rfl) (by kernel_rfl) (by kernel_rfl) (by kernel_rfl) (fun _ _ _ h => h.no.elim) hT (by rfl) ?hy ?_
      case hy => (intro w' hS; have g0 := hS.c lb0 n0; have g1 := hS.c lb0 n1; have g2 := hS.c lb0 n2; have g3 := hS.c lb0 n3; have gc := hS.c lb1 hc; have gx := hS.c lb2 cx; have gy := hS.c lb2 cy; clear hS; go_simp; rfl)
      try simp only [Act.put, List.setIfInBounds_toArray, List.set_cons_zero, List.set_cons_succ]
      refine' wpAnyZ_take 20 (i := 14) (v := _) rfl rfl (by kernel_rfl) (by decide) (by kernel_rfl) (by kernel_rfl) (by kernel_rfl) (by kernel_rfl) (fun _ _ _ h => h.no.elim) hT (by rfl) ?hy ?_
      case hy => (intro w' hS; have g0 := hS.c lb0 n0; have g1 := hS.c lb0 n1; have g2 := hS.c lb0 n2; have g3 := hS.c lb0 n3; have gc := hS.c lb1 hc; have gx := hS.c lb2 cx; have gy := hS.c lb2 cy; clear hS; go_simp; rfl)
      try simp only [Act.put, List.setIfInBounds_toArray, List.set_cons_zero, List.set_cons_succ]
      refine' wpAnyZ_take 20 (i := 15) (v := _) rfl rfl (by kernel_rfl) (by decide) (by kernel_rfl) (by kernel_rfl) (by kernel_rfl) (by kernel_rfl) (fun _ _ _ h => h.no.elim) hT (by rfl) ?hy ?_
      case hy => (intro w' hS; have g0 := hS.c lb0 n0; have g1 := hS.c lb0 n1; have g2 := hS.c lb0 n2; have g3 := hS.c lb0 n3; have gc := hS.c lb1 hc; have gx := hS.c lb2 cx; have gy := hS.c lb2 cy; clear hS; go_simp; rfl)
      try simp only [Act.put, List.setIfInBounds_toArray, List.set_cons_zero, List.set_cons_succ]
      refine wpAnyZ_one false (i := 16) (by kernel_rfl) (by kernel_rfl) rfl (fun K' hK => ?_)
      go_simp
      refine (HPk.out _ XR.drew).mono ?_
      rintro e W4 ⟨rfl, X4⟩
      have Y4 : Ext wr W4 := (Ext.refl wr).drew.trans X4
      refine hK.out _ _ (Below.mono (show Below wr.heap.size wr W4 from Y4) (by omega)) ?_
      clear hK K' X4 hT
      try simp only [Act.put, List.setIfInBounds_toArray, List.set_cons_zero, List.set_cons_succ]
      refine wpAnyZ_one false (i := 17) (by kernel_rfl) (by kernel_rfl) rfl (fun K' hK => ?_)
      obtain ⟨px, py⟩ := np
      simp only [ptV]
      go_simp
      have Y5 : Ext wr (W4.alloc (.cells #[.string (tQ px), .string (tQ py)] 91)) := Y4.alloc _
      refine hK.out _ _ (Below.mono (show Below wr.heap.size wr _ from Y5) (by omega)) ?_
      clear hK K'
      try simp only [Act.put, List.setIfInBounds_toArray, List.set_cons_zero, List.set_cons_succ]
      have hown5 := hown.below Y5
      refine wpAnyZ_one false (i := 18) (by kernel_rfl) (by kernel_rfl) rfl (fun K' hK => ?_)
      refine step_push _ EPt rfl _ _ rfl (v := v) rfl hown5 (px, py) ⟨W4.heap.size, 0, none⟩ 1 rfl rfl ?_ ?_ ?_ ?_ ?_
      · intro u hu
        simp only [ptE, List.mem_cons, List.not_mem_nil, or_false] at hu
        rcases hu with rfl | rfl <;> rfl
      · intro j u hj
        rw [addr0]
        exact cells_at (Cells.new W4 [.string (tQ px), .string (tQ py)] 91) j u hj
      · omega
      · have := Y5.size; omega
      intro q c' W6 hown6 hX6 hg6
      have Y6 : Below (w1.heap.size + 1) wr W6 := hX6.out _ wr (Nat.le_refl _) (by omega) (Below.mono (show Below wr.heap.size wr _ from Y5) (by omega))
      refine hK.out _ _ Y6 ?_
      clear hK K' hX6 hg6 hown5 hown
      try simp only [Act.put, List.setIfInBounds_toArray, List.set_cons_zero, List.set_cons_succ]
      refine wpAnyZ_one false (i := 19) (by kernel_rfl) (by kernel_rfl) rfl (fun K' hK => ?_)
      go_simp
      refine hK.out _ _ Y6 ?_
      clear hK K'
      try simp only [Act.put, List.setIfInBounds_toArray, List.set_cons_zero, List.set_cons_succ]
      have f0 := TE.c (show TE (w1.heap.size + 1) wr false W6 from Y6) lb1 hc
      have f1 := TE.c (show TE (w1.heap.size + 1) wr false W6 from Y6) lb1 hc1
      have f2 : W6.frozen? ⟨w1.heap.size, 0, none⟩ = false := (Y6.frozen (p := ⟨w1.heap.size, 0, none⟩) lb1).trans hf
      refine wpAnyZ_one true (i := 20) (by kernel_rfl) (by kernel_rfl) rfl (fun K' hK => ?_)
      go_simp
      refine hK.out _ _ trivial ?_
      clear hK K'
      refine wpAnyZ_done (by kernel_rfl) ⟨rfl, ?_⟩ _
      go_wp2_with fail
      have e0 := World.cell?_setCell_same _ _ (.slice (some ⟨q, 0, none⟩) (k + 1) c') f0
      refine ⟨⟨k + 1, .slice (some ⟨q, 0, none⟩) (k + 1) c', hlt, by simp, ?_, e0, (World.frozen?_setCell _ _ _ _).trans f2, (World.cell?_setCell_other _ _ _ _ (by simp)).trans f1, ?_⟩, by simp only [intOf]; omega⟩
      · rw [hget.out]
        have := hown6.put (a := ⟨w1.heap.size, 0, none⟩) (by show w1.heap.size < w1.heap.size + 1; omega) (.slice (some ⟨q, 0, none⟩) (k + 1) c')
        rw [htl] at this
        exact this
      · exact Below.setCell (Below.trans hB (Below.mono Y6 (by omega))) (by show w1.heap.size ≤ w1.heap.size; omega) _
    · have hkk : k = (shpZ i).length := by omega
      have hfm := hown.form
      obtain ⟨va, vc, hv, hv2⟩ := hfm
      have hne : (mkPts ⟨kind, s0, s1, half⟩ i).take k ≠ [] := by
        intro e
        have := congrArg List.length e
        rw [List.length_take, hml] at this
        have hp := shp_pos i
        simp only [List.length_nil] at this
        omega
      have hv3 := hv2 hne
      obtain ⟨q, rfl, _, _⟩ := hv3
      have htk : (mkPts ⟨kind, s0, s1, half⟩ i).take k = mkPts ⟨kind, s0, s1, half⟩ i := List.take_of_length_le (by rw [hml]; omega)
      rw [htk] at hown hv
      subst hv
      have hcl := hown.cells
      have HM : MeshIn wr q 0 tb 0 (mkPts ⟨kind, s0, s1, half⟩ i) (shpT i) := by
        refine ⟨fun j hj => ?_, fun j hj => ?_⟩
        · have e0 := hcl.2.2 j hj 0 _ (by omega) rfl
          have e1 := hcl.2.2 j hj 1 _ (by omega) rfl
          rw [Nat.zero_add]
          exact ⟨e0, e1⟩
        · have ht0 := htr j hj
          have hlb : tb < w1.heap.size := World.block_lt_of_cell? w1 _ ht0.1
          exact ⟨(hB.cell (p := ⟨tb, 0 + j * 3, none⟩) hlb).trans (X2.cell ht0.1), (hB.cell (p := ⟨tb, 0 + j * 3 + 1, none⟩) hlb).trans (X2.cell ht0.2.1), (hB.cell (p := ⟨tb, 0 + j * 3 + 2, none⟩) hlb).trans (X2.cell ht0.2.2)⟩
      have r0 : wr.cell? ⟨w.heap.size + 1, 0, none⟩ = some (.slice none 0 0) := (hB.cell (p := ⟨w.heap.size + 1, 0, none⟩) (by show w.heap.size + 1 < w1.heap.size; omega)).trans (X2.cell (b1.at 0 _ rfl).1)
      have r1 : wr.cell? ⟨w.heap.size + 1, 1, none⟩ = some (.slice none 0 0) := (hB.cell (p := ⟨w.heap.size + 1, 1, none⟩) (by show w.heap.size + 1 < w1.heap.size; omega)).trans (X2.cell (b1.at 1 _ rfl).1)
      have r2 : wr.frozen? ⟨w.heap.size + 1, 0, none⟩ = false := (hB.frozen (p := ⟨w.heap.size + 1, 0, none⟩) (by show w.heap.size + 1 < w1.heap.size; omega)).trans ((X2.cells.2 _ _ (by omega)).trans (b1.at 0 _ rfl).2)
      have r3 : wr.frozen? ⟨w.heap.size + 1, 1, none⟩ = false := (hB.frozen (p := ⟨w.heap.size + 1, 1, none⟩) (by show w.heap.size + 1 < w1.heap.size; omega)).trans ((X2.cells.2 _ _ (by omega)).trans (b1.at 1 _ rfl).2)
      have htp : 0 < (shpT i).length := shpT_pos i
      have htne : tb ≠ w.heap.size + 1 := by
        rintro rfl
        have h1 := (htr 0 htp).1
        have h2 := (b1.at 0 _ rfl).1
        rw [show (0 : Nat) + 0 * 3 = 0 from rfl, h2] at h1
        cases h1
      have hqne : q ≠ w.heap.size + 1 := by have := hcl.2.1; omega
      have HM2 := (HM.set (a := ⟨w.heap.size + 1, 0, none⟩) hqne htne (.slice (some ⟨q, 0, none⟩) (shpZ i).length vc)).set (a := ⟨w.heap.size + 1, 1, none⟩) hqne htne (.slice (some ⟨tb, 0, none⟩) (shpT i).length tc)
      have s0' := World.cell?_setCell_same _ _ (.slice (some ⟨q, 0, none⟩) (shpZ i).length vc) r0
      have s1' := (World.cell?_setCell_other (w := wr) ⟨w.heap.size + 1, 0, none⟩ ⟨w.heap.size + 1, 1, none⟩ (.slice (some ⟨q, 0, none⟩) (shpZ i).length vc) (by simp)).trans r1
      have s2' := World.cell?_setCell_same _ _ (.slice (some ⟨tb, 0, none⟩) (shpT i).length tc) s1'
      have s3' := (World.cell?_setCell_other (w := wr.setCell ⟨w.heap.size + 1, 0, none⟩ (.slice (some ⟨q, 0, none⟩) (shpZ i).length vc)) ⟨w.heap.size + 1, 1, none⟩ ⟨w.heap.size + 1, 0, none⟩ (.slice (some ⟨tb, 0, none⟩) (shpT i).length tc) (by simp)).trans s0'
      have XE := ((XR.setCell (p := ⟨w.heap.size + 1, 0, none⟩) (by show w.heap.size ≤ w.heap.size + 1; omega) (.slice (some ⟨q, 0, none⟩) (shpZ i).length vc))).setCell (p := ⟨w.heap.size + 1, 1, none⟩) (by show w.heap.size ≤ w.heap.size + 1; omega) (.slice (some ⟨tb, 0, none⟩) (shpT i).length tc)
      have HH := Lib.hid (And.intro HM2 XE)
      have kl : decide ((k : Int) < (shpZ i).length) = false := decide_eq_false (by omega)
      clear HM2 XE HM hcl hown hv2 hne htk htne hqne htp
      go_wp2_with fail
      refine bodyPost_ret (v := .agg #[.slice (some ⟨q, 0, none⟩) (shpZ i).length vc, .slice (some ⟨tb, 0, none⟩) (shpT i).length tc]) (by simp [results, Tryz.results37, go_sem, s3', s2']) rfl ⟨q, vc, tb, tc, by unfold mV; rw [hml], HH.out.1, HH.out.2⟩
end Go.Proofs.YtbiffaciinppiaaGreatDoor
end

section
namespace Go.Proofs.YtbiffaciinppiaaGreatDoor
open Go.RowKit

section
variable {P : Program} {ops : Array Oper} {Q : Exit → Act → World → Prop} {md : Region.Mode} {T : Bool → World → Prop} {z : Nat}
/-- Each of some operations may come next. -/
def AltR (P : Program) (md : Region.Mode) (ops : Array Oper) (Q : Exit → Act → World → Prop) (T : Bool → World → Prop) (z fuel : Nat) (listed : Array Bool) (a : Act) (w : World) (rs : List Nat) : Prop :=
  ∀ i ∈ rs, wpOp P ops Q i (fun a' w' => T ((listed.setIfInBounds i true).getD z true) w' ∧ wpAnyZ P md ops Q T z fuel (listed.setIfInBounds i true) a' w') a w
theorem AltR.nil {fuel : Nat} {listed : Array Bool} {a : Act} {w : World} : AltR P md ops Q T z fuel listed a w [] := fun _ h => by cases h
theorem AltR.cons (b : Bool) {i : Nat} {rs : List Nat} {o : Oper} {fuel : Nat} {listed : Array Bool} {a : Act} {w : World} (hb : (listed.setIfInBounds i true).getD z true = b) (ho : ops[i]? = some o)
    (h : ∀ K' : Act → World → Prop, Hid (∀ a w, T b w → wpAnyZ P md ops Q T z fuel (listed.setIfInBounds i true) a w → K' a w) → if Region.wanted o (yielded ops a.tmps) = true then Oper.wp P o a w K' Q else K' (a.put o.dst undef) w)
    (ht : AltR P md ops Q T z fuel listed a w rs) : AltR P md ops Q T z fuel listed a w (i :: rs) := by
  intro j hj
  rcases List.mem_cons.1 hj with rfl | hj
  · exact wpOp_step ho (fun K' hK => h K' (Lib.hid (fun a w h1 h2 => hK a w ⟨by rw [hb]; exact h1, h2⟩)))
  · exact ht j hj
theorem wpAnyZ_alt {r : Nat} {rs : List Nat} {fuel : Nat} {listed : Array Bool} {a : Act} {w : World} (hr : Region.ready md ops listed = r :: rs) (h : AltR P md ops Q T z fuel listed a w (r :: rs)) : wpAnyZ P md ops Q T z (fuel + 1) listed a w :=
  ⟨fun h0 => (by rw [hr] at h0; cases h0), fun j hj => h j (by rw [hr] at hj; exact hj)⟩
theorem wpAnyZ_gen {fuel : Nat} {listed : Array Bool} {a : Act} {w : World} (h : ∀ W, W = w → wpAnyZ P md ops Q T z fuel listed a W) : wpAnyZ P md ops Q T z fuel listed a w := h w rfl
theorem wp_region_Z' (T : Bool → World → Prop) (z : Nat) {id : Nat} {a : Act} {w : World} (hm : P.follows .mixedOrders = true)
    (h : ∀ W, W = w.drew → wpAnyZ P .any ops (NormalOnly Q) T z ops.size (Array.replicate ops.size false) a W) : (Code.region id ops true).wp P Q a w := wp_region_Z T z hm (h _ rfl)
end
end Go.Proofs.YtbiffaciinppiaaGreatDoor
end

section
namespace Go.Proofs.YtbiffaciinppiaaGreatDoor
open Go.RowKit
attribute [local irreducible] tQ
set_option linter.unusedSimpArgs false

/-- The surfaces of an observation whose units have the numbers u (upper) and l (lower), in a column of n layers. -/
def sfLo (kd : Kd) (u l : Nat) : Nat := match kd with
  | .outcrop => u - 1
  | _ => l
def sfHi (kd : Kd) (u : Nat) (n : Nat) : Nat := match kd with
  | .outcrop => min (u + 1) (n - 1)
  | _ => min u (n - 1)
def sfs (kd : Kd) (u l n : Nat) : List Nat := List.range' (sfLo kd u l) (sfHi kd u n - sfLo kd u l)
def SR (lo hi base : Nat) (W1 : World) (v7 v8 : Value) (wr : World) : Prop :=
  ∃ k : Nat, lo ≤ k ∧ (k ≤ hi ∨ k = lo) ∧ v8 = .int .i64 k ∧ OwnL encI 3 1 base (List.range' lo (k - lo)) v7 wr ∧ Below base W1 wr
theorem range'_snoc (lo k : Nat) (h : lo ≤ k) : List.range' lo (k + 1 - lo) = List.range' lo (k - lo) ++ [k] := by
  rw [show k + 1 - lo = (k - lo) + 1 by omega, List.range'_concat]
  congr 2; omega
def loI (kd : Kd) (u l : Nat) : Int := match kd with
  | .outcrop => (u : Int) - 1
  | _ => l
def hiI (kd : Kd) (u : Nat) : Int := match kd with
  | .outcrop => (u : Int) + 1
  | _ => u
def numB (kd : Kd) : Bool := match kd with
  | .outcrop => true
  | _ => false

set_option maxRecDepth 100000 in
set_option maxHeartbeats 4000000 in
theorem bsurf_ok (a : BkA) (b : Bk) (ob : Ob) (u l : Nat) (w : World) (hl : LaysIn w a.lb a.lo b.col) (hn : 0 < b.col.length) (hlen : b.col.length ≤ 60) (hu : idxU b.col ob.upper = u) (hu6 : u < 60) (hlo : numB ob.kd = false → idxU b.col ob.lower = l ∧ l < 60) :
    Calls Tryz.prog 97 #[bkV a b, obV ob] w (fun e w' => ∃ v, e = .returned v ∧ IntsV (sfs ob.kd u l b.col.length) v w' ∧ Ext w w') := by
  have I1 := Lib.hid (fun W (X : Ext w W) => show Calls Tryz.prog 135 _ W (Ret (.int .i64 (idxU b.col ob.upper)) W) from fbIdx_ok b.col ob.upper a.lb a.lo a.lc W (hl.ext X) (by omega))
  have I2 := Lib.hid (fun W (X : Ext w W) => show Calls Tryz.prog 135 _ W (Ret (.int .i64 (idxU b.col ob.lower)) W) from fbIdx_ok b.col ob.lower a.lb a.lo a.lc W (hl.ext X) (by omega))
  clear hl
  obtain ⟨pts, tris, ter, col, obs⟩ := b
  obtain ⟨pb, po, pc, tb, tO, tc, fb, fo, fc, lb, lo, lc, oc, oa⟩ := a
  simp only [bkV, obV] at *
  rw [hu] at I1
  have hex : ∃ il, il = idxU col ob.lower := ⟨_, rfl⟩
  obtain ⟨il, hil⟩ := hex
  rw [← hil] at I2 hlo
  clear hil hu
  go_enter Tryz.func97, Tryz.ntmps97
  go_wp2_with fail
  have hW : ∃ W0, W0 = (w.alloc (.cells #[.slice (some ⟨pb, po, none⟩) pts.length pc, .slice (some ⟨tb, tO, none⟩) tris.length tc, .slice (some ⟨fb, fo, none⟩) pts.length fc, .slice (some ⟨lb, lo, none⟩) col.length lc, .slice oa obs.length oc] 43)).alloc (.cells #[.int .i64 ob.kd.num, .string ob.name, .string (tQ ob.pt.1), .string (tQ ob.pt.2), .string ob.kd.depth, .string ob.upper, .string ob.lower, .string ob.kd.n0, .string ob.kd.n1, .string ob.kd.n2] 95) := ⟨_, rfl⟩
  obtain ⟨W0, hW0⟩ := hW
  rw [← hW0]
  have X0 : Ext w W0 := by rw [hW0]; exact ((Ext.refl w).alloc _).alloc _
  have hs0 : W0.heap.size = w.heap.size + 2 := by rw [hW0]; simp
  have c0 : Cells w.heap.size [.slice (some ⟨pb, po, none⟩) pts.length pc, .slice (some ⟨tb, tO, none⟩) tris.length tc, .slice (some ⟨fb, fo, none⟩) pts.length fc, .slice (some ⟨lb, lo, none⟩) col.length lc, .slice oa obs.length oc] W0 := by rw [hW0]; exact (Cells.new w [.slice (some ⟨pb, po, none⟩) pts.length pc, .slice (some ⟨tb, tO, none⟩) tris.length tc, .slice (some ⟨fb, fo, none⟩) pts.length fc, .slice (some ⟨lb, lo, none⟩) col.length lc, .slice oa obs.length oc] 43).ext ((Ext.refl _).alloc _)
  have c1 : Cells (w.heap.size + 1) [.int .i64 ob.kd.num, .string ob.name, .string (tQ ob.pt.1), .string (tQ ob.pt.2), .string ob.kd.depth, .string ob.upper, .string ob.lower, .string ob.kd.n0, .string ob.kd.n1, .string ob.kd.n2] W0 := by
    have := Cells.new (w.alloc (.cells #[.slice (some ⟨pb, po, none⟩) pts.length pc, .slice (some ⟨tb, tO, none⟩) tris.length tc, .slice (some ⟨fb, fo, none⟩) pts.length fc, .slice (some ⟨lb, lo, none⟩) col.length lc, .slice oa obs.length oc] 43)) [.int .i64 ob.kd.num, .string ob.name, .string (tQ ob.pt.1), .string (tQ ob.pt.2), .string ob.kd.depth, .string ob.upper, .string ob.lower, .string ob.kd.n0, .string ob.kd.n1, .string ob.kd.n2] 95
    rw [World.size_alloc] at this
    rw [hW0]; exact this
  clear hW0
  have k3 := (c0.at 3 _ rfl).1
  have p5 := (c1.at 5 _ rfl).1
  have p6 := (c1.at 6 _ rfl).1
  have l0 : w.heap.size < W0.heap.size := by omega
  have l1 : w.heap.size + 1 < W0.heap.size := by omega
  refine wp_region_Z' (TE W0.heap.size W0) 11 (by kernel_rfl) ?_
  intro V0 hV0
  have Y0 : Ext W0 V0 := by rw [hV0]; exact (Ext.refl W0).drew
  have hT : TE W0.heap.size W0 false V0 := Y0
  clear hV0
  refine' wpAnyZ_take 11 (i := 0) (v := _) rfl rfl (by kernel_rfl) (by decide) (by kernel_rfl) (by kernel_rfl) (by kernel_rfl) (by kernel_rfl) (fun _ _ _ h => h.no.elim) hT (by rfl) ?hy ?_
  case hy => (intro w' hS; have g0 := hS.c l0 k3; have g1 := hS.c l1 p5; have g2 := hS.c l1 p6; clear hS; go_simp; rfl)
  try simp only [Act.put, List.getElem_toArray, List.getElem_cons_zero, List.getElem_cons_succ, List.setIfInBounds_toArray, List.set_cons_zero, List.set_cons_succ]
  refine' wpAnyZ_take 11 (i := 1) (v := _) rfl rfl (by kernel_rfl) (by decide) (by kernel_rfl) (by kernel_rfl) (by kernel_rfl) (by kernel_rfl) (fun _ _ _ h => h.no.elim) hT (by rfl) ?hy ?_
  case hy => (intro w' hS; have g0 := hS.c l0 k3; have g1 := hS.c l1 p5; have g2 := hS.c l1 p6; clear hS; go_simp; rfl)
  try simp only [Act.put, List.getElem_toArray, List.getElem_cons_zero, List.getElem_cons_succ, List.setIfInBounds_toArray, List.set_cons_zero, List.set_cons_succ]
  refine' wpAnyZ_take 11 (i := 2) (v := _) rfl rfl (by kernel_rfl) (by decide) (by kernel_rfl) (by kernel_rfl) (by kernel_rfl) (by kernel_rfl) (fun _ _ _ h => h.no.elim) hT (by rfl) ?hy ?_
  case hy => (intro w' hS; have g0 := hS.c l0 k3; have g1 := hS.c l1 p5; have g2 := hS.c l1 p6; clear hS; go_simp; rfl)
  try simp only [Act.put, List.getElem_toArray, List.getElem_cons_zero, List.getElem_cons_succ, List.setIfInBounds_toArray, List.set_cons_zero, List.set_cons_succ]
  refine' wpAnyZ_take 11 (i := 3) (v := _) rfl rfl (by kernel_rfl) (by decide) (by kernel_rfl) (by kernel_rfl) (by kernel_rfl) (by kernel_rfl) (fun _ _ _ h => h.no.elim) hT (by rfl) ?hy ?_
  case hy => (intro w' hS; have g0 := hS.c l0 k3; have g1 := hS.c l1 p5; have g2 := hS.c l1 p6; clear hS; go_simp; rfl)
  try simp only [Act.put, List.getElem_toArray, List.getElem_cons_zero, List.getElem_cons_succ, List.setIfInBounds_toArray, List.set_cons_zero, List.set_cons_succ]
  refine' wpAnyZ_take 11 (i := 5) (v := _) rfl rfl (by kernel_rfl) (by decide) (by kernel_rfl) (by kernel_rfl) (by kernel_rfl) (by kernel_rfl) (fun _ _ _ h => h.no.elim) hT (by rfl) ?hy ?_
  case hy => (intro w' hS; have g0 := hS.c l0 k3; have g1 := hS.c l1 p5; have g2 := hS.c l1 p6; clear hS; go_simp; rfl)
  try simp only [Act.put, List.getElem_toArray, List.getElem_cons_zero, List.getElem_cons_succ, List.setIfInBounds_toArray, List.set_cons_zero, List.set_cons_succ]
  refine' wpAnyZ_take 11 (i := 6) (v := _) rfl rfl (by kernel_rfl) (by decide) (by kernel_rfl) (by kernel_rfl) (by kernel_rfl) (by kernel_rfl) (fun _ _ _ h => h.no.elim) hT (by rfl) ?hy ?_
  case hy => (intro w' hS; have g0 := hS.c l0 k3; have g1 := hS.c l1 p5; have g2 := hS.c l1 p6; clear hS; go_simp; rfl)
  try simp only [Act.put, List.getElem_toArray, List.getElem_cons_zero, List.getElem_cons_succ, List.setIfInBounds_toArray, List.set_cons_zero, List.set_cons_succ]
  refine' wpAnyZ_take 11 (i := 7) (v := _) rfl rfl (by kernel_rfl) (by decide) (by kernel_rfl) (by kernel_rfl) (by kernel_rfl) (by kernel_rfl) (fun _ _ _ h => h.no.elim) hT (by rfl) ?hy ?_
  case hy => (intro w' hS; have g0 := hS.c l0 k3; have g1 := hS.c l1 p5; have g2 := hS.c l1 p6; clear hS; go_simp; rfl)
  try simp only [Act.put, List.getElem_toArray, List.getElem_cons_zero, List.getElem_cons_succ, List.setIfInBounds_toArray, List.set_cons_zero, List.set_cons_succ]
  refine' wpAnyZ_take 11 (i := 8) (v := _) rfl rfl (by kernel_rfl) (by decide) (by kernel_rfl) (by kernel_rfl) (by kernel_rfl) (by kernel_rfl) (fun _ _ _ h => h.no.elim) hT (by rfl) ?hy ?_
  case hy => (intro w' hS; have g0 := hS.c l0 k3; have g1 := hS.c l1 p5; have g2 := hS.c l1 p6; clear hS; go_simp; rfl)
  try simp only [Act.put, List.getElem_toArray, List.getElem_cons_zero, List.getElem_cons_succ, List.setIfInBounds_toArray, List.set_cons_zero, List.set_cons_succ]
  refine wpAnyZ_one false (i := 4) (by kernel_rfl) (by kernel_rfl) rfl (fun K' hK => ?_)
  go_simp
  refine (I2.out _ (X0.trans Y0)).mono ?_
  rintro e V1 ⟨rfl, Z1⟩
  have Y1 := Y0.trans Z1
  refine hK.out _ _ Y1 ?_
  clear hK K'
  try simp only [Act.put, List.getElem_toArray, List.getElem_cons_zero, List.getElem_cons_succ, List.setIfInBounds_toArray, List.set_cons_zero, List.set_cons_succ]
  refine wpAnyZ_one false (i := 9) (by kernel_rfl) (by kernel_rfl) rfl (fun K' hK => ?_)
  go_simp
  refine (I1.out _ (X0.trans Y1)).mono ?_
  rintro e V2 ⟨rfl, Z2⟩
  have Y2 := Y1.trans Z2
  refine hK.out _ _ Y2 ?_
  clear hK K'
  try simp only [Act.put, List.getElem_toArray, List.getElem_cons_zero, List.getElem_cons_succ, List.setIfInBounds_toArray, List.set_cons_zero, List.set_cons_succ]
  refine wpAnyZ_one false (i := 10) (by kernel_rfl) (by kernel_rfl) rfl (fun K' hK => ?_)
  go_simp
  refine hK.out _ _ Y2 ?_
  clear hK K'
  try simp only [Act.put, List.getElem_toArray, List.getElem_cons_zero, List.getElem_cons_succ, List.setIfInBounds_toArray, List.set_cons_zero, List.set_cons_succ]
  refine wpAnyZ_one true (i := 11) (by kernel_rfl) (by kernel_rfl) rfl (fun K' hK => ?_)
  go_simp
  refine hK.out _ _ trivial ?_
  clear hK K'
  refine wpAnyZ_done (by kernel_rfl) ⟨rfl, ?_⟩ _
  have X2 := X0.trans Y2
  have k3' := Y2.cell k3
  have p0 := ((c1.ext Y2).at 0 _ rfl).1
  have hsz := Y2.size
  clear I1 I2 k3 p5 p6 l0 l1 hT c0 c1 Y0 Z1 Y1 Z2 Y2 X0
  go_upto_if 21 with fail
  go_cut [5, 6] (fun s5 s6 wx => s5 = .int .i64 (loI ob.kd u l) ∧ s6 = .int .i64 (hiI ob.kd u) ∧ wx = V2)
  case first =>
    obtain ⟨kd, nm, pt, up, low⟩ := ob
    simp only at hlo p0
    cases kd with
    | outcrop =>
      have w1 : IntKind.i64.wrap ((u : Int) - 1) = (u : Int) - 1 := by simp only [IntKind.wrap_i64]; omega
      have w2 : IntKind.i64.wrap ((u : Int) + 1) = (u : Int) + 1 := by simp only [IntKind.wrap_i64]; omega
      simp only [Kd.num] at *
      clear hlo
      go_wp2_with fail
      go_meet
      exact ⟨rfl, rfl, rfl⟩
    | contact d =>
      have hl2 := (hlo rfl).1
      simp only [Kd.num] at *
      subst hl2
      clear hlo
      go_wp2_with fail
      go_meet
      exact ⟨rfl, rfl, rfl⟩
    | dip x y z =>
      have hl2 := (hlo rfl).1
      simp only [Kd.num] at *
      subst hl2
      clear hlo
      go_wp2_with fail
      go_meet
      exact ⟨rfl, rfl, rfl⟩
  case rest =>
    obtain ⟨rfl, rfl, hwc⟩ := hcut
    rw [hwc]
    clear hwc p0
    have hL : max (loI ob.kd u l) 0 = (sfLo ob.kd u l : Int) := by
      cases ob.kd <;> simp only [loI, sfLo] <;> omega
    have hH : min (hiI ob.kd u) ((col.length : Int) - 1) = (sfHi ob.kd u col.length : Int) := by
      cases ob.kd <;> simp only [hiI, sfHi] <;> omega
    have hlo60 : sfLo ob.kd u l < 60 := by
      cases hk : ob.kd <;> simp only [sfLo] <;> first | omega | exact (hlo (by rw [hk]; rfl)).2
    have hhi60 : sfHi ob.kd u col.length ≤ 60 := by
      cases ob.kd <;> simp only [sfHi] <;> omega
    have hcw : IntKind.i64.wrap ((col.length : Int) - 1) = (col.length : Int) - 1 := by simp only [IntKind.wrap_i64]; omega
    clear hlo
    have hx : ∃ lo2 hi2, Hid (lo2 = sfLo ob.kd u l) ∧ Hid (hi2 = sfHi ob.kd u col.length) := ⟨_, _, Lib.hid rfl, Lib.hid rfl⟩
    obtain ⟨lo2, hi2, he1, he2⟩ := hx
    rw [← he1.out] at hL hlo60
    rw [← he2.out] at hH hhi60
    generalize loI ob.kd u l = li at *
    generalize hiI ob.kd u = hi at *
    go_wp2_with fail
    go_loopw [7, 8] (SR lo2 hi2 V2.heap.size V2) (fun _ p _ => hi2 - (intOf p).toNat)
    case atStart => exact ⟨lo2, Nat.le_refl _, .inr rfl, rfl, by rw [Nat.sub_self]; exact OwnL.nil _, Below.refl _ _⟩
    case round =>
      obtain ⟨k, hk, hkh, rfl, hown, hB⟩ := hrel
      have k3r : wr.cell? ⟨w.heap.size, 3, none⟩ = some (.slice (some ⟨lb, lo, none⟩) col.length lc) := (hB.cell (p := ⟨w.heap.size, 3, none⟩) (World.block_lt_of_cell? V2 _ k3')).trans k3'
      have XR : Ext w wr := Ext.trans' X2 (hB.mono (by omega))
      have hszr := hB.size
      have hrl : (List.range' lo2 (k - lo2)).length = k - lo2 := by simp
      by_cases hlt : k < hi2
      · have dl : decide ((k : Int) < hi2) = true := decide_eq_true (by omega)
        have kl : (k : Int) < hi2 := by omega
        have howa := hown.alloc (.cells #[.int .i64 k] 3)
        have hBa : Below V2.heap.size V2 (wr.alloc (.cells #[.int .i64 k] 3)) := hB.alloc hszr _
        have HS := Lib.hid (range'_snoc lo2 k hk)
        have hlo2 : lo2 ≤ k + 1 := by omega
        have hk2 : k + 1 ≤ hi2 := by omega
        generalize List.range' lo2 (k - lo2) = LL at *
        have HH := Lib.hid (show ∀ q c' W3, OwnL encI 3 1 V2.heap.size (LL ++ [k]) (.slice (some ⟨q, 0, none⟩) (LL.length + 1) c') W3 → Below V2.heap.size V2 W3 → SR lo2 hi2 V2.heap.size V2 (.slice (some ⟨q, 0, none⟩) (LL.length + 1) c') (.int .i64 (↑k + 1)) W3 from fun q c' W3 h1 h2 => ⟨k + 1, hlo2, .inl hk2, by simp, by rw [HS.out]; exact h1, h2⟩)
        clear hown hB HS
        go_wp2_with (at_builtin; go_loud (refine wpList_push _ EInt rfl _ _ rfl (v := u7) rfl howa k ⟨wr.heap.size, 0, none⟩ 1 rfl rfl (by intro u hu; simp only [encI, List.mem_singleton] at hu; rw [hu]; rfl) (cell_one_new _ _ _) (by omega) (by simp; omega) ?_); intro q c' W3 hown3 hX3 hg3; have HB3 := Lib.hid (HH.out q c' W3 hown3 (hX3.out _ _ (Nat.le_refl _) (by omega) hBa)); clear hown3 hX3 hg3)
        exact ⟨by first | exact HB3.out | (rw [← hrl]; exact HB3.out) | simpa only [hrl] using HB3.out, by simp only [intOf]; omega⟩
      · have dl : decide ((k : Int) < hi2) = false := decide_eq_false (by omega)
        have hkl : k - lo2 = hi2 - lo2 := by omega
        rw [hkl] at hown hrl
        have kl : ¬ (k : Int) < hi2 := by omega
        have HI := Lib.hid hown.ints
        clear hown hB
        go_wp2_with fail
        go_ret
        have HI2 := HI.out
        rw [he1.out, he2.out] at HI2
        exact ⟨_, rfl, HI2, XR⟩

end Go.Proofs.YtbiffaciinppiaaGreatDoor
end
