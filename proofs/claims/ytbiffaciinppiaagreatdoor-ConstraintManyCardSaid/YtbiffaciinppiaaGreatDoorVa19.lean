/- klippelaw12.shape. append to a slice of the call's own, as a step of a region. -/
import Derived.Test.YtbiffaciinppiaaGreatDoorVa18
import Derived.Test.YtbiffaciinppiaaGreatDoorVa10
import Derived.Test.YtbiffaciinppiaaGreatDoorVa15
set_option linter.unusedVariables false
set_option linter.unusedSimpArgs false
section
namespace Go.Proofs.YtbiffaciinppiaaGreatDoor
open Go.RowKit
attribute [local irreducible] tQ

def zE (z : Int × Int) : List Value := [.int .i64 z.1, .int .i64 z.2]
def tE (t : Tri) : List Value := [.int .i64 t.1, .int .i64 t.2.1, .int .i64 t.2.2]
def ZsIn (w : World) (b : Nat) (l : List (Int × Int)) : Prop := ∀ i (h : i < l.length), w.cell? ⟨b, i * 2, none⟩ = some (.int .i64 l[i].1) ∧ w.cell? ⟨b, i * 2 + 1, none⟩ = some (.int .i64 l[i].2)
theorem ZsIn.ext {w W : World} {b : Nat} {l : List (Int × Int)} (h : ZsIn w b l) (hx : Ext w W) : ZsIn W b l := fun i hi => ⟨hx.cell (h i hi).1, hx.cell (h i hi).2⟩
theorem zs_of {w : World} {b : Nat} {l : List (Int × Int)} (h : ∀ k u, (l.flatMap zE)[k]? = some u → w.cell? ⟨b, k, none⟩ = some u) : ZsIn w b l := fun i hi => by
  have e := fun k hk => flatMap_at (enc := zE) (size := 2) (L := l) (fun x _ => rfl) i k hi hk
  exact ⟨h _ _ (by have := e 0 (by omega); rw [Nat.add_zero] at this; rw [this]; rfl), h _ _ (by rw [e 1 (by omega)]; rfl)⟩
theorem tris_of {w : World} {b : Nat} {l : List Tri} (h : ∀ k u, (l.flatMap tE)[k]? = some u → w.cell? ⟨b, k, none⟩ = some u) : TrisIn w b 0 l := fun i hi => by
  have e := fun k hk => flatMap_at (enc := tE) (size := 3) (L := l) (fun x _ => rfl) i k hi hk
  rw [Nat.zero_add]
  exact ⟨h _ _ (by have := e 0 (by omega); rw [Nat.add_zero] at this; rw [this]; rfl), h _ _ (by rw [e 1 (by omega)]; rfl), h _ _ (by rw [e 2 (by omega)]; rfl)⟩
theorem cells_at {b : Nat} {vs : List Value} {w : World} (h : Cells b vs w) : ∀ k u, vs[k]? = some u → w.cell? ⟨b, k, none⟩ = some u := fun k u hu => (h.at k u hu).1
theorem ESq : ElemOk Tryz.prog 154 158 2 16 := ⟨Tryz.underlying154, ⟨_, (by kernel_rfl : (Tryz.prog.info? 158).map (fun i => (i.zero, i.size, i.bytes)) = some (some (.agg #[.int .i64 0, .int .i64 0]), 2, 16)), rfl⟩, by omega, by omega⟩
theorem sqOwn (w : World) : OwnL zE 158 2 w.heap.size [(0, 0), (4, 0), (4, 4), (0, 4)] (.slice (some ⟨w.heap.size, 0, none⟩) 4 4) (w.alloc (.cells #[.int .i64 0, .int .i64 0, .int .i64 4, .int .i64 0, .int .i64 4, .int .i64 4, .int .i64 0, .int .i64 4] 158)) := by
  refine ⟨fun x _ => ⟨rfl, fun u hu => ?_⟩, rfl, .inr ⟨w.heap.size, 4, _, rfl, Nat.le_refl _, World.alloc_heap_new _ _, Nat.le_refl _, by decide, rfl, rfl⟩⟩
  simp only [zE, List.mem_cons, List.not_mem_nil, or_false] at hu
  rcases hu with rfl | rfl <;> rfl
theorem addr0 (b j : Nat) : Addr.add ⟨b, 0, none⟩ j = ⟨b, j, none⟩ := by
  unfold Addr.add
  by_cases h : j = 0
  · rw [if_pos h, h]
  · rw [if_neg h]; simp
def ShapeEnd (i : Nat) (w : World) (e : Ending) (w' : World) : Prop :=
  ∃ zb zc tb tc, e = .returned (.tuple #[.slice (some ⟨zb, 0, none⟩) (shpZ i).length zc, .slice (some ⟨tb, 0, none⟩) (shpT i).length tc]) ∧ ZsIn w' zb (shpZ i) ∧ TrisIn w' tb 0 (shpT i) ∧ Ext w w'
set_option maxRecDepth 100000 in
set_option maxHeartbeats 1000000 in
theorem shape_0 (kind : Int) (hk : kind % 8 = 0) (h0 : 0 ≤ kind ∧ kind ≤ 255) (w : World) : Calls Tryz.prog 78 #[.int .u8 kind] w (ShapeEnd 0 w) := by
  have h1 := h0.1
  have h2 := h0.2
  have HZ : ZsIn ((w.alloc (.cells #[.int .i64 0, .int .i64 0, .int .i64 4, .int .i64 0, .int .i64 4, .int .i64 4, .int .i64 0, .int .i64 4] 158)).alloc (.cells #[.int .i64 0, .int .i64 1, .int .i64 2, .int .i64 0, .int .i64 2, .int .i64 3] 121)) (w.heap.size) (shpZ 0) := by
    have c := Cells.new w [.int .i64 0, .int .i64 0, .int .i64 4, .int .i64 0, .int .i64 4, .int .i64 4, .int .i64 0, .int .i64 4] 158
    try simp only [World.size_alloc] at c
    exact (zs_of (l := shpZ 0) (cells_at c)).ext ((Ext.refl _).alloc _)
  have HT : TrisIn ((w.alloc (.cells #[.int .i64 0, .int .i64 0, .int .i64 4, .int .i64 0, .int .i64 4, .int .i64 4, .int .i64 0, .int .i64 4] 158)).alloc (.cells #[.int .i64 0, .int .i64 1, .int .i64 2, .int .i64 0, .int .i64 2, .int .i64 3] 121)) (w.heap.size + 1) 0 (shpT 0) := by
    have c := Cells.new (w.alloc (.cells #[.int .i64 0, .int .i64 0, .int .i64 4, .int .i64 0, .int .i64 4, .int .i64 4, .int .i64 0, .int .i64 4] 158)) [.int .i64 0, .int .i64 1, .int .i64 2, .int .i64 0, .int .i64 2, .int .i64 3] 121
    try simp only [World.size_alloc] at c
    exact tris_of (l := shpT 0) (cells_at c)
  have HX : Ext w ((w.alloc (.cells #[.int .i64 0, .int .i64 0, .int .i64 4, .int .i64 0, .int .i64 4, .int .i64 4, .int .i64 0, .int .i64 4] 158)).alloc (.cells #[.int .i64 0, .int .i64 1, .int .i64 2, .int .i64 0, .int .i64 2, .int .i64 3] 121)) := ((Ext.refl w).alloc _).alloc _
  have HH := Lib.hid (And.intro HZ (And.intro HT HX))
  clear HZ HT HX
  go_enter Tryz.func78, Tryz.ntmps78
  go_wp2_with fail
  go_ret2
  exact ⟨_, _, _, _, rfl, HH.out.1, HH.out.2.1, HH.out.2.2⟩
set_option maxRecDepth 100000 in
set_option maxHeartbeats 1000000 in
theorem shape_1 (kind : Int) (hk : kind % 8 = 1) (h0 : 0 ≤ kind ∧ kind ≤ 255) (w : World) : Calls Tryz.prog 78 #[.int .u8 kind] w (ShapeEnd 1 w) := by
  have h1 := h0.1
  have h2 := h0.2
  have HZ : ZsIn ((w.alloc (.cells #[.int .i64 0, .int .i64 0, .int .i64 4, .int .i64 0, .int .i64 4, .int .i64 4, .int .i64 0, .int .i64 4] 158)).alloc (.cells #[.int .i64 0, .int .i64 1, .int .i64 3, .int .i64 1, .int .i64 2, .int .i64 3] 121)) (w.heap.size) (shpZ 1) := by
    have c := Cells.new w [.int .i64 0, .int .i64 0, .int .i64 4, .int .i64 0, .int .i64 4, .int .i64 4, .int .i64 0, .int .i64 4] 158
    try simp only [World.size_alloc] at c
    exact (zs_of (l := shpZ 1) (cells_at c)).ext ((Ext.refl _).alloc _)
  have HT : TrisIn ((w.alloc (.cells #[.int .i64 0, .int .i64 0, .int .i64 4, .int .i64 0, .int .i64 4, .int .i64 4, .int .i64 0, .int .i64 4] 158)).alloc (.cells #[.int .i64 0, .int .i64 1, .int .i64 3, .int .i64 1, .int .i64 2, .int .i64 3] 121)) (w.heap.size + 1) 0 (shpT 1) := by
    have c := Cells.new (w.alloc (.cells #[.int .i64 0, .int .i64 0, .int .i64 4, .int .i64 0, .int .i64 4, .int .i64 4, .int .i64 0, .int .i64 4] 158)) [.int .i64 0, .int .i64 1, .int .i64 3, .int .i64 1, .int .i64 2, .int .i64 3] 121
    try simp only [World.size_alloc] at c
    exact tris_of (l := shpT 1) (cells_at c)
  have HX : Ext w ((w.alloc (.cells #[.int .i64 0, .int .i64 0, .int .i64 4, .int .i64 0, .int .i64 4, .int .i64 4, .int .i64 0, .int .i64 4] 158)).alloc (.cells #[.int .i64 0, .int .i64 1, .int .i64 3, .int .i64 1, .int .i64 2, .int .i64 3] 121)) := ((Ext.refl w).alloc _).alloc _
  have HH := Lib.hid (And.intro HZ (And.intro HT HX))
  clear HZ HT HX
  go_enter Tryz.func78, Tryz.ntmps78
  go_wp2_with fail
  go_ret2
  exact ⟨_, _, _, _, rfl, HH.out.1, HH.out.2.1, HH.out.2.2⟩
set_option maxRecDepth 100000 in
set_option maxHeartbeats 1000000 in
theorem shape_3 (kind : Int) (hk : kind % 8 = 3) (h0 : 0 ≤ kind ∧ kind ≤ 255) (w : World) : Calls Tryz.prog 78 #[.int .u8 kind] w (ShapeEnd 3 w) := by
  have h1 := h0.1
  have h2 := h0.2
  have HZ : ZsIn (((w.alloc (.cells #[.int .i64 0, .int .i64 0, .int .i64 4, .int .i64 0, .int .i64 4, .int .i64 4, .int .i64 0, .int .i64 4] 158)).alloc (.cells #[.int .i64 0, .int .i64 0, .int .i64 6, .int .i64 0, .int .i64 0, .int .i64 4] 158)).alloc (.cells #[.int .i64 2, .int .i64 0, .int .i64 1] 121)) (w.heap.size + 1) (shpZ 3) := by
    have c := Cells.new (w.alloc (.cells #[.int .i64 0, .int .i64 0, .int .i64 4, .int .i64 0, .int .i64 4, .int .i64 4, .int .i64 0, .int .i64 4] 158)) [.int .i64 0, .int .i64 0, .int .i64 6, .int .i64 0, .int .i64 0, .int .i64 4] 158
    try simp only [World.size_alloc] at c
    exact (zs_of (l := shpZ 3) (cells_at c)).ext ((Ext.refl _).alloc _)
  have HT : TrisIn (((w.alloc (.cells #[.int .i64 0, .int .i64 0, .int .i64 4, .int .i64 0, .int .i64 4, .int .i64 4, .int .i64 0, .int .i64 4] 158)).alloc (.cells #[.int .i64 0, .int .i64 0, .int .i64 6, .int .i64 0, .int .i64 0, .int .i64 4] 158)).alloc (.cells #[.int .i64 2, .int .i64 0, .int .i64 1] 121)) (w.heap.size + 1 + 1) 0 (shpT 3) := by
    have c := Cells.new ((w.alloc (.cells #[.int .i64 0, .int .i64 0, .int .i64 4, .int .i64 0, .int .i64 4, .int .i64 4, .int .i64 0, .int .i64 4] 158)).alloc (.cells #[.int .i64 0, .int .i64 0, .int .i64 6, .int .i64 0, .int .i64 0, .int .i64 4] 158)) [.int .i64 2, .int .i64 0, .int .i64 1] 121
    try simp only [World.size_alloc] at c
    exact tris_of (l := shpT 3) (cells_at c)
  have HX : Ext w (((w.alloc (.cells #[.int .i64 0, .int .i64 0, .int .i64 4, .int .i64 0, .int .i64 4, .int .i64 4, .int .i64 0, .int .i64 4] 158)).alloc (.cells #[.int .i64 0, .int .i64 0, .int .i64 6, .int .i64 0, .int .i64 0, .int .i64 4] 158)).alloc (.cells #[.int .i64 2, .int .i64 0, .int .i64 1] 121)) := (((Ext.refl w).alloc _).alloc _).alloc _
  have HH := Lib.hid (And.intro HZ (And.intro HT HX))
  clear HZ HT HX
  go_enter Tryz.func78, Tryz.ntmps78
  go_wp2_with fail
  go_ret2
  exact ⟨_, _, _, _, rfl, HH.out.1, HH.out.2.1, HH.out.2.2⟩
set_option maxRecDepth 100000 in
set_option maxHeartbeats 1000000 in
theorem shape_4 (kind : Int) (hk : kind % 8 = 4) (h0 : 0 ≤ kind ∧ kind ≤ 255) (w : World) : Calls Tryz.prog 78 #[.int .u8 kind] w (ShapeEnd 4 w) := by
  have h1 := h0.1
  have h2 := h0.2
  have HZ : ZsIn (((w.alloc (.cells #[.int .i64 0, .int .i64 0, .int .i64 4, .int .i64 0, .int .i64 4, .int .i64 4, .int .i64 0, .int .i64 4] 158)).alloc (.cells #[.int .i64 0, .int .i64 0, .int .i64 2, .int .i64 0, .int .i64 4, .int .i64 0, .int .i64 0, .int .i64 2, .int .i64 2, .int .i64 2, .int .i64 4, .int .i64 2] 158)).alloc (.cells #[.int .i64 0, .int .i64 1, .int .i64 4, .int .i64 0, .int .i64 4, .int .i64 3, .int .i64 1, .int .i64 2, .int .i64 5, .int .i64 1, .int .i64 5, .int .i64 4] 121)) (w.heap.size + 1) (shpZ 4) := by
    have c := Cells.new (w.alloc (.cells #[.int .i64 0, .int .i64 0, .int .i64 4, .int .i64 0, .int .i64 4, .int .i64 4, .int .i64 0, .int .i64 4] 158)) [.int .i64 0, .int .i64 0, .int .i64 2, .int .i64 0, .int .i64 4, .int .i64 0, .int .i64 0, .int .i64 2, .int .i64 2, .int .i64 2, .int .i64 4, .int .i64 2] 158
    try simp only [World.size_alloc] at c
    exact (zs_of (l := shpZ 4) (cells_at c)).ext ((Ext.refl _).alloc _)
  have HT : TrisIn (((w.alloc (.cells #[.int .i64 0, .int .i64 0, .int .i64 4, .int .i64 0, .int .i64 4, .int .i64 4, .int .i64 0, .int .i64 4] 158)).alloc (.cells #[.int .i64 0, .int .i64 0, .int .i64 2, .int .i64 0, .int .i64 4, .int .i64 0, .int .i64 0, .int .i64 2, .int .i64 2, .int .i64 2, .int .i64 4, .int .i64 2] 158)).alloc (.cells #[.int .i64 0, .int .i64 1, .int .i64 4, .int .i64 0, .int .i64 4, .int .i64 3, .int .i64 1, .int .i64 2, .int .i64 5, .int .i64 1, .int .i64 5, .int .i64 4] 121)) (w.heap.size + 1 + 1) 0 (shpT 4) := by
    have c := Cells.new ((w.alloc (.cells #[.int .i64 0, .int .i64 0, .int .i64 4, .int .i64 0, .int .i64 4, .int .i64 4, .int .i64 0, .int .i64 4] 158)).alloc (.cells #[.int .i64 0, .int .i64 0, .int .i64 2, .int .i64 0, .int .i64 4, .int .i64 0, .int .i64 0, .int .i64 2, .int .i64 2, .int .i64 2, .int .i64 4, .int .i64 2] 158)) [.int .i64 0, .int .i64 1, .int .i64 4, .int .i64 0, .int .i64 4, .int .i64 3, .int .i64 1, .int .i64 2, .int .i64 5, .int .i64 1, .int .i64 5, .int .i64 4] 121
    try simp only [World.size_alloc] at c
    exact tris_of (l := shpT 4) (cells_at c)
  have HX : Ext w (((w.alloc (.cells #[.int .i64 0, .int .i64 0, .int .i64 4, .int .i64 0, .int .i64 4, .int .i64 4, .int .i64 0, .int .i64 4] 158)).alloc (.cells #[.int .i64 0, .int .i64 0, .int .i64 2, .int .i64 0, .int .i64 4, .int .i64 0, .int .i64 0, .int .i64 2, .int .i64 2, .int .i64 2, .int .i64 4, .int .i64 2] 158)).alloc (.cells #[.int .i64 0, .int .i64 1, .int .i64 4, .int .i64 0, .int .i64 4, .int .i64 3, .int .i64 1, .int .i64 2, .int .i64 5, .int .i64 1, .int .i64 5, .int .i64 4] 121)) := (((Ext.refl w).alloc _).alloc _).alloc _
  have HH := Lib.hid (And.intro HZ (And.intro HT HX))
  clear HZ HT HX
  go_enter Tryz.func78, Tryz.ntmps78
  go_wp2_with fail
  go_ret2
  exact ⟨_, _, _, _, rfl, HH.out.1, HH.out.2.1, HH.out.2.2⟩
set_option maxRecDepth 100000 in
set_option maxHeartbeats 1000000 in
theorem shape_5 (kind : Int) (hk : kind % 8 = 5) (h0 : 0 ≤ kind ∧ kind ≤ 255) (w : World) : Calls Tryz.prog 78 #[.int .u8 kind] w (ShapeEnd 5 w) := by
  have h1 := h0.1
  have h2 := h0.2
  have HZ : ZsIn (((w.alloc (.cells #[.int .i64 0, .int .i64 0, .int .i64 4, .int .i64 0, .int .i64 4, .int .i64 4, .int .i64 0, .int .i64 4] 158)).alloc (.cells #[.int .i64 1, .int .i64 4, .int .i64 5, .int .i64 3, .int .i64 4, .int .i64 0, .int .i64 0, .int .i64 0] 158)).alloc (.cells #[.int .i64 3, .int .i64 2, .int .i64 1, .int .i64 3, .int .i64 1, .int .i64 0] 121)) (w.heap.size + 1) (shpZ 5) := by
    have c := Cells.new (w.alloc (.cells #[.int .i64 0, .int .i64 0, .int .i64 4, .int .i64 0, .int .i64 4, .int .i64 4, .int .i64 0, .int .i64 4] 158)) [.int .i64 1, .int .i64 4, .int .i64 5, .int .i64 3, .int .i64 4, .int .i64 0, .int .i64 0, .int .i64 0] 158
    try simp only [World.size_alloc] at c
    exact (zs_of (l := shpZ 5) (cells_at c)).ext ((Ext.refl _).alloc _)
  have HT : TrisIn (((w.alloc (.cells #[.int .i64 0, .int .i64 0, .int .i64 4, .int .i64 0, .int .i64 4, .int .i64 4, .int .i64 0, .int .i64 4] 158)).alloc (.cells #[.int .i64 1, .int .i64 4, .int .i64 5, .int .i64 3, .int .i64 4, .int .i64 0, .int .i64 0, .int .i64 0] 158)).alloc (.cells #[.int .i64 3, .int .i64 2, .int .i64 1, .int .i64 3, .int .i64 1, .int .i64 0] 121)) (w.heap.size + 1 + 1) 0 (shpT 5) := by
    have c := Cells.new ((w.alloc (.cells #[.int .i64 0, .int .i64 0, .int .i64 4, .int .i64 0, .int .i64 4, .int .i64 4, .int .i64 0, .int .i64 4] 158)).alloc (.cells #[.int .i64 1, .int .i64 4, .int .i64 5, .int .i64 3, .int .i64 4, .int .i64 0, .int .i64 0, .int .i64 0] 158)) [.int .i64 3, .int .i64 2, .int .i64 1, .int .i64 3, .int .i64 1, .int .i64 0] 121
    try simp only [World.size_alloc] at c
    exact tris_of (l := shpT 5) (cells_at c)
  have HX : Ext w (((w.alloc (.cells #[.int .i64 0, .int .i64 0, .int .i64 4, .int .i64 0, .int .i64 4, .int .i64 4, .int .i64 0, .int .i64 4] 158)).alloc (.cells #[.int .i64 1, .int .i64 4, .int .i64 5, .int .i64 3, .int .i64 4, .int .i64 0, .int .i64 0, .int .i64 0] 158)).alloc (.cells #[.int .i64 3, .int .i64 2, .int .i64 1, .int .i64 3, .int .i64 1, .int .i64 0] 121)) := (((Ext.refl w).alloc _).alloc _).alloc _
  have HH := Lib.hid (And.intro HZ (And.intro HT HX))
  clear HZ HT HX
  go_enter Tryz.func78, Tryz.ntmps78
  go_wp2_with fail
  go_ret2
  exact ⟨_, _, _, _, rfl, HH.out.1, HH.out.2.1, HH.out.2.2⟩
set_option maxRecDepth 100000 in
set_option maxHeartbeats 1000000 in
theorem shape_7 (kind : Int) (hk : kind % 8 = 7) (h0 : 0 ≤ kind ∧ kind ≤ 255) (w : World) : Calls Tryz.prog 78 #[.int .u8 kind] w (ShapeEnd 7 w) := by
  have h1 := h0.1
  have h2 := h0.2
  have HZ : ZsIn (((w.alloc (.cells #[.int .i64 0, .int .i64 0, .int .i64 4, .int .i64 0, .int .i64 4, .int .i64 4, .int .i64 0, .int .i64 4] 158)).alloc (.cells #[.int .i64 0, .int .i64 0, .int .i64 6, .int .i64 0, .int .i64 0, .int .i64 6, .int .i64 2, .int .i64 2] 158)).alloc (.cells #[.int .i64 0, .int .i64 1, .int .i64 3, .int .i64 1, .int .i64 2, .int .i64 3, .int .i64 2, .int .i64 0, .int .i64 3] 121)) (w.heap.size + 1) (shpZ 7) := by
    have c := Cells.new (w.alloc (.cells #[.int .i64 0, .int .i64 0, .int .i64 4, .int .i64 0, .int .i64 4, .int .i64 4, .int .i64 0, .int .i64 4] 158)) [.int .i64 0, .int .i64 0, .int .i64 6, .int .i64 0, .int .i64 0, .int .i64 6, .int .i64 2, .int .i64 2] 158
    try simp only [World.size_alloc] at c
    exact (zs_of (l := shpZ 7) (cells_at c)).ext ((Ext.refl _).alloc _)
  have HT : TrisIn (((w.alloc (.cells #[.int .i64 0, .int .i64 0, .int .i64 4, .int .i64 0, .int .i64 4, .int .i64 4, .int .i64 0, .int .i64 4] 158)).alloc (.cells #[.int .i64 0, .int .i64 0, .int .i64 6, .int .i64 0, .int .i64 0, .int .i64 6, .int .i64 2, .int .i64 2] 158)).alloc (.cells #[.int .i64 0, .int .i64 1, .int .i64 3, .int .i64 1, .int .i64 2, .int .i64 3, .int .i64 2, .int .i64 0, .int .i64 3] 121)) (w.heap.size + 1 + 1) 0 (shpT 7) := by
    have c := Cells.new ((w.alloc (.cells #[.int .i64 0, .int .i64 0, .int .i64 4, .int .i64 0, .int .i64 4, .int .i64 4, .int .i64 0, .int .i64 4] 158)).alloc (.cells #[.int .i64 0, .int .i64 0, .int .i64 6, .int .i64 0, .int .i64 0, .int .i64 6, .int .i64 2, .int .i64 2] 158)) [.int .i64 0, .int .i64 1, .int .i64 3, .int .i64 1, .int .i64 2, .int .i64 3, .int .i64 2, .int .i64 0, .int .i64 3] 121
    try simp only [World.size_alloc] at c
    exact tris_of (l := shpT 7) (cells_at c)
  have HX : Ext w (((w.alloc (.cells #[.int .i64 0, .int .i64 0, .int .i64 4, .int .i64 0, .int .i64 4, .int .i64 4, .int .i64 0, .int .i64 4] 158)).alloc (.cells #[.int .i64 0, .int .i64 0, .int .i64 6, .int .i64 0, .int .i64 0, .int .i64 6, .int .i64 2, .int .i64 2] 158)).alloc (.cells #[.int .i64 0, .int .i64 1, .int .i64 3, .int .i64 1, .int .i64 2, .int .i64 3, .int .i64 2, .int .i64 0, .int .i64 3] 121)) := (((Ext.refl w).alloc _).alloc _).alloc _
  have HH := Lib.hid (And.intro HZ (And.intro HT HX))
  clear HZ HT HX
  go_enter Tryz.func78, Tryz.ntmps78
  go_wp2_with fail
  go_ret2
  exact ⟨_, _, _, _, rfl, HH.out.1, HH.out.2.1, HH.out.2.2⟩
set_option maxRecDepth 100000 in
set_option maxHeartbeats 1000000 in
theorem shape_2 (kind : Int) (hk : kind % 8 = 2) (h0 : 0 ≤ kind ∧ kind ≤ 255) (w : World) : Calls Tryz.prog 78 #[.int .u8 kind] w (ShapeEnd 2 w) := by
  have h1 := h0.1
  have h2 := h0.2
  have hown := sqOwn w
  have hX := (Ext.refl w).alloc (.cells #[.int .i64 0, .int .i64 0, .int .i64 4, .int .i64 0, .int .i64 4, .int .i64 4, .int .i64 0, .int .i64 4] 158)
  have hs1 : (w.alloc (.cells #[.int .i64 0, .int .i64 0, .int .i64 4, .int .i64 0, .int .i64 4, .int .i64 4, .int .i64 0, .int .i64 4] 158)).heap.size = w.heap.size + 1 := by simp
  have howa := hown.alloc (.cells #[.int .i64 2, .int .i64 1] 158)
  have hXa := hX.alloc (.cells #[.int .i64 2, .int .i64 1] 158)
  go_enter Tryz.func78, Tryz.ntmps78
  go_wp2_with (at_builtin; go_loud (refine wpList_push _ ESq rfl _ _ rfl (v := .slice (some ⟨w.heap.size, 0, none⟩) 4 4) rfl howa (2, 1) ⟨w.heap.size + 1, 0, none⟩ 1 rfl rfl (by intro u hu; simp only [zE, List.mem_cons, List.not_mem_nil, or_false] at hu; rcases hu with rfl | rfl <;> rfl) ?hnews (by simp) (by simp; omega) ?_))
  case hnews =>
    have c := cells_at (Cells.new (w.alloc (.cells #[.int .i64 0, .int .i64 0, .int .i64 4, .int .i64 0, .int .i64 4, .int .i64 4, .int .i64 0, .int .i64 4] 158)) [.int .i64 2, .int .i64 1] 158)
    rw [hs1] at c
    intro j u hj
    have := c j u hj
    rw [addr0]; exact this
  intro q c' W3 hown3 hX3 hg3
  have XB := hX3.out _ w (Nat.le_refl _) (Nat.le_refl _) hXa
  have hcl := hown3.cells
  have HZ : ZsIn W3 q (shpZ 2) := fun i hi => by
    have e0 := hcl.2.2 i hi 0 _ (by omega) rfl
    have e1 := hcl.2.2 i hi 1 _ (by omega) rfl
    exact ⟨e0, e1⟩
  have HT : TrisIn (W3.alloc (.cells #[.int .i64 0, .int .i64 1, .int .i64 4, .int .i64 1, .int .i64 2, .int .i64 4, .int .i64 2, .int .i64 3, .int .i64 4, .int .i64 3, .int .i64 0, .int .i64 4] 121)) W3.heap.size 0 (shpT 2) :=
    tris_of (l := shpT 2) (cells_at (Cells.new W3 [.int .i64 0, .int .i64 1, .int .i64 4, .int .i64 1, .int .i64 2, .int .i64 4, .int .i64 2, .int .i64 3, .int .i64 4, .int .i64 3, .int .i64 0, .int .i64 4] 121))
  have HX : Ext w (W3.alloc (.cells #[.int .i64 0, .int .i64 1, .int .i64 4, .int .i64 1, .int .i64 2, .int .i64 4, .int .i64 2, .int .i64 3, .int .i64 4, .int .i64 3, .int .i64 0, .int .i64 4] 121)) := Ext.alloc (show Ext w W3 from XB) _
  have HH := Lib.hid (And.intro (HZ.ext ((Ext.refl W3).alloc (.cells #[.int .i64 0, .int .i64 1, .int .i64 4, .int .i64 1, .int .i64 2, .int .i64 4, .int .i64 2, .int .i64 3, .int .i64 4, .int .i64 3, .int .i64 0, .int .i64 4] 121))) (And.intro HT HX))
  clear HZ HT HX hcl hX3 hg3 hown3
  go_wp2_with fail
  go_ret2
  exact ⟨_, _, _, _, rfl, HH.out.1, HH.out.2.1, HH.out.2.2⟩
set_option maxRecDepth 100000 in
set_option maxHeartbeats 1000000 in
theorem shape_6 (kind : Int) (hk : kind % 8 = 6) (h0 : 0 ≤ kind ∧ kind ≤ 255) (w : World) : Calls Tryz.prog 78 #[.int .u8 kind] w (ShapeEnd 6 w) := by
  have h1 := h0.1
  have h2 := h0.2
  have hown := sqOwn w
  have hX := (Ext.refl w).alloc (.cells #[.int .i64 0, .int .i64 0, .int .i64 4, .int .i64 0, .int .i64 4, .int .i64 4, .int .i64 0, .int .i64 4] 158)
  have hs1 : (w.alloc (.cells #[.int .i64 0, .int .i64 0, .int .i64 4, .int .i64 0, .int .i64 4, .int .i64 4, .int .i64 0, .int .i64 4] 158)).heap.size = w.heap.size + 1 := by simp
  have howa := hown.alloc (.cells #[.int .i64 2, .int .i64 0] 158)
  have hXa := hX.alloc (.cells #[.int .i64 2, .int .i64 0] 158)
  go_enter Tryz.func78, Tryz.ntmps78
  go_wp2_with (at_builtin; go_loud (refine wpList_push _ ESq rfl _ _ rfl (v := .slice (some ⟨w.heap.size, 0, none⟩) 4 4) rfl howa (2, 0) ⟨w.heap.size + 1, 0, none⟩ 1 rfl rfl (by intro u hu; simp only [zE, List.mem_cons, List.not_mem_nil, or_false] at hu; rcases hu with rfl | rfl <;> rfl) ?hnews (by simp) (by simp; omega) ?_))
  case hnews =>
    have c := cells_at (Cells.new (w.alloc (.cells #[.int .i64 0, .int .i64 0, .int .i64 4, .int .i64 0, .int .i64 4, .int .i64 4, .int .i64 0, .int .i64 4] 158)) [.int .i64 2, .int .i64 0] 158)
    rw [hs1] at c
    intro j u hj
    have := c j u hj
    rw [addr0]; exact this
  intro q c' W3 hown3 hX3 hg3
  have XB := hX3.out _ w (Nat.le_refl _) (Nat.le_refl _) hXa
  have hcl := hown3.cells
  have HZ : ZsIn W3 q (shpZ 6) := fun i hi => by
    have e0 := hcl.2.2 i hi 0 _ (by omega) rfl
    have e1 := hcl.2.2 i hi 1 _ (by omega) rfl
    exact ⟨e0, e1⟩
  have HT : TrisIn (W3.alloc (.cells #[.int .i64 0, .int .i64 4, .int .i64 3, .int .i64 4, .int .i64 2, .int .i64 3, .int .i64 4, .int .i64 1, .int .i64 2] 121)) W3.heap.size 0 (shpT 6) :=
    tris_of (l := shpT 6) (cells_at (Cells.new W3 [.int .i64 0, .int .i64 4, .int .i64 3, .int .i64 4, .int .i64 2, .int .i64 3, .int .i64 4, .int .i64 1, .int .i64 2] 121))
  have HX : Ext w (W3.alloc (.cells #[.int .i64 0, .int .i64 4, .int .i64 3, .int .i64 4, .int .i64 2, .int .i64 3, .int .i64 4, .int .i64 1, .int .i64 2] 121)) := Ext.alloc (show Ext w W3 from XB) _
  have HH := Lib.hid (And.intro (HZ.ext ((Ext.refl W3).alloc (.cells #[.int .i64 0, .int .i64 4, .int .i64 3, .int .i64 4, .int .i64 2, .int .i64 3, .int .i64 4, .int .i64 1, .int .i64 2] 121))) (And.intro HT HX))
  clear HZ HT HX hcl hX3 hg3 hown3
  go_wp2_with fail
  go_ret2
  exact ⟨_, _, _, _, rfl, HH.out.1, HH.out.2.1, HH.out.2.2⟩
theorem l12shape_ok (kind : Int) (i : Nat) (hk : kind % 8 = i) (h0 : 0 ≤ kind ∧ kind ≤ 255) (w : World) : Calls Tryz.prog 78 #[.int .u8 kind] w (ShapeEnd i w) := by
  have hi : i < 8 := by omega
  match i, hi with
  | 0, _ => exact shape_0 kind hk h0 w
  | 1, _ => exact shape_1 kind hk h0 w
  | 2, _ => exact shape_2 kind hk h0 w
  | 3, _ => exact shape_3 kind hk h0 w
  | 4, _ => exact shape_4 kind hk h0 w
  | 5, _ => exact shape_5 kind hk h0 w
  | 6, _ => exact shape_6 kind hk h0 w
  | 7, _ => exact shape_7 kind hk h0 w
end Go.Proofs.YtbiffaciinppiaaGreatDoor
end

section
namespace Go.Proofs.YtbiffaciinppiaaGreatDoor
open Go.RowKit

section
variable {P : Program} {α : Type} {enc : α → List Value} {t e : TypeId} {size bytes base : Nat} {L : List α} {v : Value}
theorem step_push {ops : Array Oper} {o : Oper} {a : Act} {K : Act → World → Prop} {Q : Exit → Act → World → Prop} {E : Prop} (w : World) (hE : ElemOk P t e size bytes) (hgd : o.guard = none) (s x : Operand)
    (ho : o.op = .call { callee := .builtin .append, args := #[s, x], argTypes := #[t, t] }) (hs : a.eval s = v) (hown : OwnL enc e size base L v w) (y : α) (ad : Addr) (c : Nat) (hx : a.eval x = .slice (some ad) 1 c)
    (hy : (enc y).length = size) (hy1 : ∀ u ∈ enc y, u.oneCell' = true) (hnews : ∀ j u, (enc y)[j]? = some u → w.cell? (ad.add j) = some u) (hL : L.length ≤ 1000000) (hbase : base ≤ w.heap.size)
    (h : ∀ q c' w', OwnL enc e size base (L ++ [y]) (.slice (some ⟨q, 0, none⟩) (L.length + 1) c') w' → Hid (∀ B wb, B ≤ base → B ≤ wb.heap.size → Below B wb w → Below B wb w') → Hid (w.grownBy w' v.ownBlock) → K (a.put o.dst (.slice (some ⟨q, 0, none⟩) (L.length + 1) c')) w') :
    if Region.wanted o (yielded ops a.tmps) = true then Oper.wp P o a w K Q else E := by
  have hw : Region.wanted o (yielded ops a.tmps) = true := by simp [Region.wanted, hgd]
  rw [if_pos hw]
  obtain ⟨z, hz, hzs⟩ := hE.info
  obtain ⟨i, hi, hi2⟩ := Option.map_eq_some_iff.1 hz
  simp only [Prod.mk.injEq] at hi2
  refine wp_append_own w s x t ho base e i z size bytes hE.ht hi hi2.1 hi2.2.1 hi2.2.2 hzs hE.pos v L.length (L.flatMap enc) hs hown.2 ad 1 c (enc y) hx (by omega) hnews hy1 (by unfold maxLen; omega) ?_ hbase ?_
  · have h1 : (L.length + 1) * bytes ≤ 1000001 * 1000 := Nat.mul_le_mul (by omega) hE.by0
    omega
  · intro v' w' h1 h2 _
    have hv : ∃ q c', v' = .slice (some ⟨q, 0, none⟩) (L.length + 1) c' := by
      rcases h1.2 with ⟨_, h⟩ | ⟨q, c', cur, h, _⟩
      · omega
      · exact ⟨q, c', h⟩
    have hbl : ∀ k, v.ownBlock = some k → base ≤ k := fun k hk => by
      rcases hown.2.2 with ⟨h, _⟩ | ⟨q, c', cur, h, hb, _⟩
      · rw [h] at hk; cases hk
      · rw [h] at hk; simp only [Value.ownBlock, Option.some.injEq] at hk; omega
    obtain ⟨q, c', rfl⟩ := hv
    refine h q c' w' ⟨?_, ?_⟩ (Lib.hid (fun B wb hB hB2 hb => Below.grown hb h2 (Nat.le_trans hB2 hb.size) (fun k e => by have := hbl k e; omega))) (Lib.hid h2)
    · intro x hx
      rcases List.mem_append.1 hx with h | h
      · exact hown.1 x h
      · rw [List.mem_singleton.1 h]; exact ⟨hy, hy1⟩
    · rw [List.length_append, List.flatMap_append]
      simpa using h1
end
end Go.Proofs.YtbiffaciinppiaaGreatDoor
end
