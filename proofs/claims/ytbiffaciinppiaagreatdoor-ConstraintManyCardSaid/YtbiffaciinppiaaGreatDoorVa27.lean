/- constraint.Count, Variable, Place; klippelaw25.count. constraint.Of, given what rows returns. -/
import Derived.Test.YtbiffaciinppiaaGreatDoorVa23
import Derived.Test.YtbiffaciinppiaaGreatDoorVa26
set_option linter.unusedVariables false
set_option linter.unusedSimpArgs false
section
namespace Go.Proofs.YtbiffaciinppiaaGreatDoor
open Go.RowKit
attribute [local irreducible] tQ

section
variable (N D : Nat) (b : Bk) (cyc : List Int) (hb : BkOk N D b cyc) (s : Nat) (hs : b.col.length = s + 1) (hc : s * b.pts.length ≤ 60) (hp : b.pts.length ≤ 60) (a : BkA) (w : World) (g : Glob w) (hI : BkIn w a b)
include hb hs hc hp g hI
set_option maxRecDepth 100000 in
theorem count_ok : Calls Tryz.prog 13 #[bkV a b] w (Ret (.tuple #[.int .i64 ((s * b.pts.length : Nat) : Int), .int .i64 0]) w) := by
  have H := Lib.hid (fun W (X : Ext w W) => cOf_ok N D b cyc hb s hs hc hp a W (g.ext X) (hI.ext X))
  have hcol := hb.col.le
  have HC := Lib.hid (fun W => sCount_ok s b.pts.length (by omega) hp W)
  clear hb g hI hs hc hp hcol
  obtain ⟨pts, tris, ter, col, obs⟩ := b
  obtain ⟨pb, po, pc, tb, tO, tc, fb, fo, fc, lb, lo, lc, oc, oa⟩ := a
  simp only [bkV, shpV] at *
  go_enter Tryz.func13, Tryz.ntmps13
  go_wp2_with fail
  have X0 := (Ext.refl w).alloc (.cells #[.slice (some ⟨pb, po, none⟩) pts.length pc, .slice (some ⟨tb, tO, none⟩) tris.length tc, .slice (some ⟨fb, fo, none⟩) pts.length fc, .slice (some ⟨lb, lo, none⟩) col.length lc, .slice oa obs.length oc] 43)
  refine (H.out _ X0).mono ?_
  rintro e w1 ⟨rfl, X1⟩
  go_wp2_with fail
  refine (HC.out _).mono ?_
  rintro e w2 ⟨rfl, X2⟩
  have XE := ((X0.trans X1).alloc (.cells #[.int .i64 s, .int .i64 pts.length] 109)).trans X2
  go_wp2_with fail
  go_ret2
  exact ⟨rfl, XE⟩
set_option maxRecDepth 100000 in
set_option maxHeartbeats 1000000 in
theorem variable_in (i j : Nat) (hi : i < s) (hj : j < b.pts.length) : Calls Tryz.prog 14 #[bkV a b, .int .i64 i, .int .i64 j] w (Ret (.tuple #[.int .i64 ((i * b.pts.length + j : Nat) : Int), .int .i64 0]) w) := by
  have H := Lib.hid (fun W (X : Ext w W) => cOf_ok N D b cyc hb s hs hc hp a W (g.ext X) (hI.ext X))
  have hcol := hb.col.le
  have HA := Lib.hid (fun W => sAt_ok s b.pts.length i j hp (by omega) (by omega) W)
  have d1 : decide ((i : Int) < 0) = false := decide_eq_false (by omega)
  have d2 : decide ((i : Int) ≥ s) = false := decide_eq_false (by omega)
  have d3 : decide ((j : Int) < 0) = false := decide_eq_false (by omega)
  have d4 : decide ((j : Int) ≥ b.pts.length) = false := decide_eq_false (by omega)
  have i1 : (i : Int) < s := by omega
  have j1 : (j : Int) < b.pts.length := by omega
  clear hb g hI hs hc hp hcol hi hj
  obtain ⟨pts, tris, ter, col, obs⟩ := b
  obtain ⟨pb, po, pc, tb, tO, tc, fb, fo, fc, lb, lo, lc, oc, oa⟩ := a
  simp only [bkV, shpV] at *
  go_enter Tryz.func14, Tryz.ntmps14
  go_wp2_with fail
  have X0 := (Ext.refl w).alloc (.cells #[.slice (some ⟨pb, po, none⟩) pts.length pc, .slice (some ⟨tb, tO, none⟩) tris.length tc, .slice (some ⟨fb, fo, none⟩) pts.length fc, .slice (some ⟨lb, lo, none⟩) col.length lc, .slice oa obs.length oc] 43)
  refine (H.out _ X0).mono ?_
  rintro e w1 ⟨rfl, X1⟩
  have X2 := (X0.trans X1).alloc (.cells #[.int .i64 s, .int .i64 pts.length] 109)
  go_wp2_with fail
  refine (HA.out _).mono ?_
  rintro e w2 ⟨rfl, X3⟩
  go_wp2_with fail
  go_ret2
  exact ⟨rfl, X2.trans X3⟩
set_option maxRecDepth 100000 in
set_option maxHeartbeats 1000000 in
theorem variable_out (x y : Int) (h : x < 0 ∨ (s : Int) ≤ x ∨ y < 0 ∨ (b.pts.length : Int) ≤ y) : Calls Tryz.prog 14 #[bkV a b, .int .i64 x, .int .i64 y] w (Ret (.tuple #[.int .i64 0, .int .i64 3]) w) := by
  have H := Lib.hid (fun W (X : Ext w W) => cOf_ok N D b cyc hb s hs hc hp a W (g.ext X) (hI.ext X))
  clear hb g hI hs hc hp
  obtain ⟨pts, tris, ter, col, obs⟩ := b
  obtain ⟨pb, po, pc, tb, tO, tc, fb, fo, fc, lb, lo, lc, oc, oa⟩ := a
  simp only [bkV, shpV] at *
  have X0 := (Ext.refl w).alloc (.cells #[.slice (some ⟨pb, po, none⟩) pts.length pc, .slice (some ⟨tb, tO, none⟩) tris.length tc, .slice (some ⟨fb, fo, none⟩) pts.length fc, .slice (some ⟨lb, lo, none⟩) col.length lc, .slice oa obs.length oc] 43)
  by_cases c1 : x < 0
  · have d1 : decide (x < 0) = true := decide_eq_true c1
    clear h
    go_enter Tryz.func14, Tryz.ntmps14
    go_wp2_with fail
    refine (H.out _ X0).mono ?_
    rintro e w1 ⟨rfl, X1⟩
    have X2 := (X0.trans X1).alloc (.cells #[.int .i64 s, .int .i64 pts.length] 109)
    go_wp2_with fail
    go_ret2
    exact ⟨rfl, X2⟩
  have d1 : decide (x < 0) = false := decide_eq_false c1
  by_cases c2 : (s : Int) ≤ x
  · have d2 : decide (x ≥ (s : Int)) = true := decide_eq_true c2
    clear h
    go_enter Tryz.func14, Tryz.ntmps14
    go_wp2_with fail
    refine (H.out _ X0).mono ?_
    rintro e w1 ⟨rfl, X1⟩
    have X2 := (X0.trans X1).alloc (.cells #[.int .i64 s, .int .i64 pts.length] 109)
    go_wp2_with fail
    go_ret2
    exact ⟨rfl, X2⟩
  have d2 : decide (x ≥ (s : Int)) = false := decide_eq_false c2
  have c2' : x < (s : Int) := by omega
  by_cases c3 : y < 0
  · have d3 : decide (y < 0) = true := decide_eq_true c3
    clear h
    go_enter Tryz.func14, Tryz.ntmps14
    go_wp2_with fail
    refine (H.out _ X0).mono ?_
    rintro e w1 ⟨rfl, X1⟩
    have X2 := (X0.trans X1).alloc (.cells #[.int .i64 s, .int .i64 pts.length] 109)
    go_wp2_with fail
    go_ret2
    exact ⟨rfl, X2⟩
  have d3 : decide (y < 0) = false := decide_eq_false c3
  have c4 : (pts.length : Int) ≤ y := by omega
  have d4 : decide (y ≥ (pts.length : Int)) = true := decide_eq_true c4
  clear h
  go_enter Tryz.func14, Tryz.ntmps14
  go_wp2_with fail
  refine (H.out _ X0).mono ?_
  rintro e w1 ⟨rfl, X1⟩
  have X2 := (X0.trans X1).alloc (.cells #[.int .i64 s, .int .i64 pts.length] 109)
  go_wp2_with fail
  go_ret2
  exact ⟨rfl, X2⟩
set_option maxRecDepth 100000 in
set_option maxHeartbeats 1000000 in
theorem place_out (x : Int) (h : x < 0 ∨ ((s * b.pts.length : Nat) : Int) ≤ x) : Calls Tryz.prog 15 #[bkV a b, .int .i64 x] w (Ret (.tuple #[.int .i64 0, .int .i64 0, .int .i64 3]) w) := by
  have H := Lib.hid (fun W (X : Ext w W) => cOf_ok N D b cyc hb s hs hc hp a W (g.ext X) (hI.ext X))
  have hcol := hb.col.le
  have HC := Lib.hid (fun W => sCount_ok s b.pts.length (by omega) hp W)
  clear hb g hI hs hc hp hcol
  obtain ⟨pts, tris, ter, col, obs⟩ := b
  obtain ⟨pb, po, pc, tb, tO, tc, fb, fo, fc, lb, lo, lc, oc, oa⟩ := a
  simp only [bkV, shpV] at *
  generalize s * pts.length = sp at *
  have X0 := (Ext.refl w).alloc (.cells #[.slice (some ⟨pb, po, none⟩) pts.length pc, .slice (some ⟨tb, tO, none⟩) tris.length tc, .slice (some ⟨fb, fo, none⟩) pts.length fc, .slice (some ⟨lb, lo, none⟩) col.length lc, .slice oa obs.length oc] 43)
  by_cases c1 : x < 0
  · have d1 : decide (x < 0) = true := decide_eq_true c1
    clear h
    go_enter Tryz.func15, Tryz.ntmps15
    go_wp2_with fail
    refine (H.out _ X0).mono ?_
    rintro e w1 ⟨rfl, X1⟩
    have X2 := (X0.trans X1).alloc (.cells #[.int .i64 s, .int .i64 pts.length] 109)
    go_wp2_with fail
    refine bodyPost_ret (v := .tuple #[.int .i64 0, .int .i64 0, .int .i64 3]) (by simp [results, Tryz.results15, go_sem]) rfl ⟨rfl, X2⟩
  have d1 : decide (x < 0) = false := decide_eq_false c1
  have c2 : (sp : Int) ≤ x := by omega
  have d2 : decide (x ≥ (sp : Int)) = true := decide_eq_true c2
  clear h
  go_enter Tryz.func15, Tryz.ntmps15
  go_wp2_with fail
  refine (H.out _ X0).mono ?_
  rintro e w1 ⟨rfl, X1⟩
  have X2 := (X0.trans X1).alloc (.cells #[.int .i64 s, .int .i64 pts.length] 109)
  go_wp2_with fail
  refine (HC.out _).mono ?_
  rintro e w2 ⟨rfl, X3⟩
  go_wp2_with fail
  refine bodyPost_ret (v := .tuple #[.int .i64 0, .int .i64 0, .int .i64 3]) (by simp [results, Tryz.results15, go_sem]) rfl ⟨rfl, X2.trans X3⟩
set_option maxRecDepth 100000 in
set_option maxHeartbeats 1000000 in
theorem place_in (x : Nat) (h : x < s * b.pts.length) : Calls Tryz.prog 15 #[bkV a b, .int .i64 x] w (Ret (.tuple #[.int .i64 ((x / b.pts.length : Nat) : Int), .int .i64 ((x % b.pts.length : Nat) : Int), .int .i64 0]) w) := by
  have H := Lib.hid (fun W (X : Ext w W) => cOf_ok N D b cyc hb s hs hc hp a W (g.ext X) (hI.ext X))
  have hcol := hb.col.le
  have HC := Lib.hid (fun W => sCount_ok s b.pts.length (by omega) hp W)
  have hp0 : 0 < b.pts.length := by
    rcases Nat.eq_zero_or_pos b.pts.length with e | e
    · rw [e] at h; simp at h
    · exact e
  have hx : x < 60 := by omega
  obtain ⟨pts, tris, ter, col, obs⟩ := b
  obtain ⟨pb, po, pc, tb, tO, tc, fb, fo, fc, lb, lo, lc, oc, oa⟩ := a
  simp only [bkV, shpV] at *
  have d1 : decide ((x : Int) < 0) = false := decide_eq_false (by omega)
  have d2 : decide ((x : Int) ≥ ((s * pts.length : Nat) : Int)) = false := decide_eq_false (by omega)
  have hq : (x : Int).tdiv (pts.length : Int) = ((x / pts.length : Nat) : Int) := by
    rw [Int.tdiv_eq_ediv_of_nonneg (by omega)]; exact (Int.natCast_ediv _ _).symm
  have hr : (x : Int).tmod (pts.length : Int) = ((x % pts.length : Nat) : Int) := by
    rw [Int.tmod_eq_emod_of_nonneg (by omega)]; exact (Int.natCast_emod _ _).symm
  have hqw : IntKind.i64.wrap ((x / pts.length : Nat) : Int) = ((x / pts.length : Nat) : Int) := by
    have hqb : x / pts.length < 60 := Nat.lt_of_le_of_lt (Nat.div_le_self _ _) hx
    clear hq
    generalize x / pts.length = q at hqb ⊢
    simp only [IntKind.wrap_i64]; omega
  have hne : pts ≠ [] := fun e => by rw [e] at hp0; simp at hp0
  have hne2 : (pts.length : Int) ≠ 0 := by omega
  have x1 : (x : Int) < ((s * pts.length : Nat) : Int) := by omega
  clear hb g hI hs hc hp hcol h hx hp0
  generalize x / pts.length = xq at *
  generalize x % pts.length = xr at *
  generalize s * pts.length = sp at *
  have X0 := (Ext.refl w).alloc (.cells #[.slice (some ⟨pb, po, none⟩) pts.length pc, .slice (some ⟨tb, tO, none⟩) tris.length tc, .slice (some ⟨fb, fo, none⟩) pts.length fc, .slice (some ⟨lb, lo, none⟩) col.length lc, .slice oa obs.length oc] 43)
  go_enter Tryz.func15, Tryz.ntmps15
  go_wp2_with fail
  refine (H.out _ X0).mono ?_
  rintro e w1 ⟨rfl, X1⟩
  have X2 := (X0.trans X1).alloc (.cells #[.int .i64 s, .int .i64 pts.length] 109)
  have e2 := Cells.new w1 [.int .i64 s, .int .i64 pts.length] 109
  go_wp2_with fail
  refine (HC.out _).mono ?_
  rintro e w2 ⟨rfl, X3⟩
  have q1 := ((e2.ext X3).at 1 _ rfl).1
  go_wp2_with fail
  go_quiet (fail)
  go_wp2_with fail
  refine bodyPost_ret (v := .tuple #[.int .i64 xq, .int .i64 xr, .int .i64 0]) (by simp [results, Tryz.results15, go_sem]) rfl ⟨rfl, (X2.trans X3).drewN _⟩
end
set_option maxRecDepth 100000 in
theorem lcount_ok (b : Bk) (s : Nat) (hs : b.col.length = s + 1) (hs2 : s ≤ 60) (hp : b.pts.length ≤ 60) (a : BkA) (w : World) : Calls Tryz.prog 16 #[bkV a b] w (Ret (.int .i64 ((s * b.pts.length : Nat) : Int)) w) := by
  have hm := mul_nat s b.pts.length hs2 hp
  obtain ⟨pts, tris, ter, col, obs⟩ := b
  obtain ⟨pb, po, pc, tb, tO, tc, fb, fo, fc, lb, lo, lc, oc, oa⟩ := a
  simp only [bkV] at *
  have h1 : IntKind.i64.wrap ((col.length : Int) - 1) = (s : Int) := by simp only [IntKind.wrap_i64]; omega
  have h2 : IntKind.i64.wrap ((s : Int) * (pts.length : Int)) = ((s * pts.length : Nat) : Int) := by
    rw [← Int.natCast_mul]; simp only [IntKind.wrap_i64]; omega
  clear hs hs2 hp hm
  go_enter Tryz.func16, Tryz.ntmps16
  go_wp2_with fail
  go_ret
  first
    | exact ⟨rfl, (Ext.refl w).alloc _⟩
    | exact ⟨by simp [h1, h2], (Ext.refl w).alloc _⟩
end Go.Proofs.YtbiffaciinppiaaGreatDoor
end

section
namespace Go.Proofs.YtbiffaciinppiaaGreatDoor
open Go.RowKit
attribute [local irreducible] tQ
set_option linter.unusedSimpArgs false

def RowsP (n : Nat) (R : List ((Nat → Rat) × Rat)) (w : World) (e : Ending) (w' : World) : Prop :=
  ∃ (v : Value) (N : List Rw) (base : Nat), e = .returned (.tuple #[v, .int .i64 0]) ∧ w.heap.size ≤ base ∧ OwnL (encW n) 101 2 base N v w' ∧ RowsIn n base N w' ∧ N.map (fun r => (r.G, r.b)) = R ∧ Ext w w'
set_option maxRecDepth 100000 in
set_option maxHeartbeats 1000000 in
theorem of_ok (N D : Nat) (b : Bk) (cyc : List Int) (hb : BkOk N D b cyc) (s : Nat) (hs : b.col.length = s + 1) (hc : s * b.pts.length ≤ 60) (hp : b.pts.length ≤ 60) (a : BkA) (w : World) (g : Glob w) (hI : BkIn w a b) (i : Nat) (hi : i < b.obs.length) (n : Nat) (R : List ((Nat → Rat) × Rat))
    (HR : ∀ W, Ext w W → Calls Tryz.prog 45 #[shpV s b.pts.length, bkV a b, .int .i64 i] W (RowsP n R W)) : Calls Tryz.prog 20 #[bkV a b, .int .i64 i] w (RowsP n R w) := by
  have H := Lib.hid (fun W (X : Ext w W) => cOf_ok N D b cyc hb s hs hc hp a W (g.ext X) (hI.ext X))
  have HRd := Lib.hid HR
  have hol := hb.olen
  have d1 : decide ((i : Int) < 0) = false := decide_eq_false (by omega)
  have d2 : decide ((i : Int) ≥ b.obs.length) = false := decide_eq_false (by omega)
  have i1 : (i : Int) < b.obs.length := by omega
  clear hb g hI hs hc hp hol hi HR
  obtain ⟨pts, tris, ter, col, obs⟩ := b
  obtain ⟨pb, po, pc, tb, tO, tc, fb, fo, fc, lb, lo, lc, oc, oa⟩ := a
  simp only [bkV, shpV] at *
  go_enter Tryz.func20, Tryz.ntmps20
  go_wp2_with fail
  have hW : ∃ W0, W0 = w.alloc (.cells #[.slice (some ⟨pb, po, none⟩) pts.length pc, .slice (some ⟨tb, tO, none⟩) tris.length tc, .slice (some ⟨fb, fo, none⟩) pts.length fc, .slice (some ⟨lb, lo, none⟩) col.length lc, .slice oa obs.length oc] 43) := ⟨_, rfl⟩
  obtain ⟨W0, hW0⟩ := hW
  rw [← hW0]
  have X0 : Ext w W0 := by rw [hW0]; exact (Ext.refl w).alloc _
  have c0 : Cells w.heap.size [.slice (some ⟨pb, po, none⟩) pts.length pc, .slice (some ⟨tb, tO, none⟩) tris.length tc, .slice (some ⟨fb, fo, none⟩) pts.length fc, .slice (some ⟨lb, lo, none⟩) col.length lc, .slice oa obs.length oc] W0 := by rw [hW0]; exact Cells.new w [.slice (some ⟨pb, po, none⟩) pts.length pc, .slice (some ⟨tb, tO, none⟩) tris.length tc, .slice (some ⟨fb, fo, none⟩) pts.length fc, .slice (some ⟨lb, lo, none⟩) col.length lc, .slice oa obs.length oc] 43
  clear hW0
  refine (H.out _ X0).mono ?_
  rintro e w1 ⟨rfl, X1⟩
  go_upto_region 2 with fail
  have hW2 : ∃ W2, W2 = w1.alloc (.cells #[.int .i64 s, .int .i64 pts.length] 109) := ⟨_, rfl⟩
  obtain ⟨W2, hW2⟩ := hW2
  rw [← hW2]
  have X2 : Ext w1 W2 := by rw [hW2]; exact (Ext.refl w1).alloc _
  have c1 : Cells w1.heap.size [.int .i64 s, .int .i64 pts.length] W2 := by rw [hW2]; exact Cells.new w1 [.int .i64 s, .int .i64 pts.length] 109
  clear hW2
  obtain ⟨k0, k1, k2, k3, k4⟩ := five (c0.ext (X1.trans X2))
  have m0 := (c1.at 0 _ rfl).1
  have m1 := (c1.at 1 _ rfl).1
  have XX := (X0.trans X1).trans X2
  clear c0 c1 X0 X1 X2 H
  go_wp2_with fail
  refine (HRd.out _ XX).mono ?_
  rintro e w3 ⟨v, N, base, rfl, hbs, hown, hrows, hN, X3⟩
  have HE := Lib.hid (show RowsP n R w (.returned (.tuple #[v, .int .i64 0])) w3 from ⟨v, N, base, rfl, Nat.le_trans XX.size hbs, hown, hrows, hN, XX.trans X3⟩)
  clear k0 k1 k2 k3 k4 m0 m1 hown hrows hN X3 XX hbs
  go_wp2_with fail
  go_ret2
  exact HE.out
end Go.Proofs.YtbiffaciinppiaaGreatDoor
end
