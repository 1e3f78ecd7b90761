/- Books in memory; fieldbook.CheckAll. fieldbook.checkIndex, height, Height, surfaces, Surfaces at right books. Plain bounds for places, values and slopes on grids; no program. Planned meshes: the first triangle of a place, the value and the slopes of a field there. integer.trim, open, order: short magnitudes. integer.open. -/
import Derived.Test.YtbiffaciinppiaaGreatDoorVa13
import Derived.Test.YtbiffaciinppiaaGreatDoorVa09
import Derived.Test.YtbiffaciinppiaaGreatDoorVa04
import Derived.Test.YtbiffaciinppiaaGreatDoorVa08
import Derived.Test.YtbiffaciinppiaaGreatDoorVa12
import Derived.Deep.RegionLaw
set_option linter.unusedVariables false
set_option linter.unusedSimpArgs false
section
namespace Go.Proofs.YtbiffaciinppiaaGreatDoor
open Go.RowKit Go.Maps
attribute [local irreducible] tQ

/-- Where a book lies. -/
structure BkA where
  (pb po pc tb tO tc fb fo fc lb lo lc oc : Nat)
  oa : Option Addr
/-- A book. -/
structure Bk where
  pts : List (Rat × Rat)
  tris : List Tri
  ter : List Rat
  col : List Lay
  obs : List Ob
def ObsIn (w : World) (oa : Option Addr) (l : List Ob) : Prop := l ≠ [] → ∃ b o, oa = some ⟨b, o, none⟩ ∧ ∀ i (h : i < l.length) k u, (obL l[i])[k]? = some u → w.cell? ⟨b, o + i * 10 + k, none⟩ = some u
theorem ObsIn.ext {w W : World} {oa : Option Addr} {l : List Ob} (h : ObsIn w oa l) (hx : Ext w W) : ObsIn W oa l := fun hne => by
  obtain ⟨b, o, h1, h2⟩ := h hne
  exact ⟨b, o, h1, fun i hi k u hu => hx.cell (h2 i hi k u hu)⟩
structure BkIn (w : World) (a : BkA) (b : Bk) : Prop where
  m : MeshIn w a.pb a.po a.tb a.tO b.pts b.tris
  f : FldIn w a.fb a.fo b.ter
  l : LaysIn w a.lb a.lo b.col
  o : ObsIn w a.oa b.obs
  cap : b.col.length ≤ a.lc
theorem BkIn.ext {w W : World} {a : BkA} {b : Bk} (h : BkIn w a b) (hx : Ext w W) : BkIn W a b := ⟨h.m.ext hx, h.f.ext hx, h.l.ext hx, h.o.ext hx, h.cap⟩
def bkV (a : BkA) (b : Bk) : Value := .agg #[.slice (some ⟨a.pb, a.po, none⟩) b.pts.length a.pc, .slice (some ⟨a.tb, a.tO, none⟩) b.tris.length a.tc, .slice (some ⟨a.fb, a.fo, none⟩) b.pts.length a.fc, .slice (some ⟨a.lb, a.lo, none⟩) b.col.length a.lc, .slice a.oa b.obs.length a.oc]
/-- A book that is right. -/
structure BkOk (N D : Nat) (b : Bk) (cyc : List Int) : Prop where
  mesh : MeshOk N D b.pts b.tris cyc
  flen : b.ter.length = b.pts.length
  fdg : ∀ q ∈ b.ter, Dg 9 q
  col : ColOk b.col
  olen : b.obs.length ≤ 100
  obs : ∀ o ∈ b.obs, OvOk N D b.pts b.tris b.col o
  names : ∀ i j (hj : j < b.obs.length) (h : i < j), b.obs[i].name ≠ b.obs[j].name

abbrev NmsM (w : World) (b : Nat) (U : List ByteArray) : Prop := SetG Tryz.prog 9 4 Value.string (.bool true) w b U
theorem NmsM.add' {w : World} {b : Nat} {U : List ByteArray} (h : NmsM w b U) (hn : U.length ≤ 1000000) (s : ByteArray) (hs : s.size ≤ 32) :
    ∃ w', (Instr.mapUpdate 150 (.map (some b)) (.string s) (.bool true)).run Tryz.prog w = .ok () w' ∧ NmsM w' b (insG U s) ∧ w.grownBy w' (some b) := by
  obtain ⟨kl, hk⟩ := key_str (s := s) (by unfold maxLen; omega)
  exact SetG.add h KStr Tryz.underlying150 (by unfold maxLen; omega) (fun x y e => by cases e; rfl) s hk (plainElem_bool Tryz.underlying4 _)
theorem NmsM.look' {w : World} {b : Nat} {U : List ByteArray} (h : NmsM w b U) (s : ByteArray) (hs : s.size ≤ 32) (hn : s ∉ U) :
    (Instr.lookup 150 (.map (some b)) (.string s) false).run Tryz.prog w = .ok (.bool false) w := by
  obtain ⟨kl, hk⟩ := key_str (s := s) (by unfold maxLen; omega)
  have := SetG.look h KStr Tryz.underlying150 (fun x y e => by cases e; rfl) (Tryz.zeroValue4 w) (plainElem_bool Tryz.underlying4 _) s hk
  rwa [if_neg hn] at this
/-- Five cells of a book. -/
theorem five {b : Nat} {W : World} {v0 v1 v2 v3 v4 : Value} (h : Cells b [v0, v1, v2, v3, v4] W) :
    W.cell? ⟨b, 0, none⟩ = some v0 ∧ W.cell? ⟨b, 1, none⟩ = some v1 ∧ W.cell? ⟨b, 2, none⟩ = some v2 ∧ W.cell? ⟨b, 3, none⟩ = some v3 ∧ W.cell? ⟨b, 4, none⟩ = some v4 :=
  ⟨(h.at 0 _ rfl).1, (h.at 1 _ rfl).1, (h.at 2 _ rfl).1, (h.at 3 _ rfl).1, (h.at 4 _ rfl).1⟩
def bkL (a : BkA) (b : Bk) : List Value := [.slice (some ⟨a.pb, a.po, none⟩) b.pts.length a.pc, .slice (some ⟨a.tb, a.tO, none⟩) b.tris.length a.tc, .slice (some ⟨a.fb, a.fo, none⟩) b.pts.length a.fc, .slice (some ⟨a.lb, a.lo, none⟩) b.col.length a.lc, .slice a.oa b.obs.length a.oc]
def NR (obs : List Ob) (nb : Nat) (W1 : World) (v : Value) (wr : World) : Prop :=
  ∃ (i : Nat) (U : List ByteArray), i ≤ obs.length ∧ v = .int .i64 i ∧ Hid (∀ s ∈ U, ∃ j, ∃ h : j < obs.length, j < i ∧ s = obs[j].name) ∧ U.length ≤ i ∧ NmsM wr nb U ∧ Ext W1 wr

set_option maxRecDepth 100000 in
set_option maxHeartbeats 4000000 in
theorem checkAll_ok (N D : Nat) (b : Bk) (cyc : List Int) (hb : BkOk N D b cyc) (a : BkA) (w : World) (g : Glob w) (hI : BkIn w a b) :
    Calls Tryz.prog 34 #[bkV a b] w (Ret (.int .i64 0) w) := by
  have M := Lib.hid (fun W (X : Ext w W) => check_ok N D b.pts b.tris cyc hb.mesh a.pb a.po a.pc a.tb a.tO a.tc W (g.ext X) (hI.m.ext X))
  have F := Lib.hid (fun W (X : Ext w W) => fieldCheck_ok N D b.pts b.tris cyc hb.mesh a.pb a.po a.pc a.tb a.tO a.tc b.ter a.fb a.fo a.fc W (g.ext X) (hI.m.ext X) (hI.f.ext X) hb.flen hb.fdg)
  have C := Lib.hid (fun W (X : Ext w W) => colCheck_ok b.col a.lb a.lo a.lc W (g.ext X) (hI.l.ext X) hb.col hI.cap)
  have O := Lib.hid (fun (i : Nat) (h : i < b.obs.length) W (X : Ext w W) => over_ok N D b.pts b.tris cyc hb.mesh a.pb a.po a.pc a.tb a.tO a.tc b.col a.lb a.lo a.lc b.obs[i] W (g.ext X) (hI.m.ext X) (hI.l.ext X) hb.col.le (hb.obs _ (List.getElem_mem h)))
  have HO := Lib.hid hI.o
  have HN := Lib.hid hb.names
  have HS := Lib.hid (fun (i : Nat) (h : i < b.obs.length) => (hb.obs _ (List.getElem_mem h)).sh.nm.le)
  have hol := hb.olen
  have hmm := @run_makeMap Tryz.prog
  clear hb g hI
  obtain ⟨pts, tris, ter, col, obs⟩ := b
  obtain ⟨pb, po, pc, tb, tO, tc, fb, fo, fc, lb, lo, lc, oc, oa⟩ := a
  simp only [bkV, mV] at *
  go_enter Tryz.func34, Tryz.ntmps34
  go_wp2_with fail
  obtain ⟨W0, hW0⟩ : ∃ W0, W0 = w.alloc (.cells #[.slice (some ⟨pb, po, none⟩) pts.length pc, .slice (some ⟨tb, tO, none⟩) tris.length tc, .slice (some ⟨fb, fo, none⟩) pts.length fc, .slice (some ⟨lb, lo, none⟩) col.length lc, .slice oa obs.length oc] 43) := ⟨_, rfl⟩
  rw [← hW0]
  have X0 : Ext w W0 := by rw [hW0]; exact (Ext.refl w).alloc _
  have c0 : Cells w.heap.size [.slice (some ⟨pb, po, none⟩) pts.length pc, .slice (some ⟨tb, tO, none⟩) tris.length tc, .slice (some ⟨fb, fo, none⟩) pts.length fc, .slice (some ⟨lb, lo, none⟩) col.length lc, .slice oa obs.length oc] W0 := by rw [hW0]; exact Cells.new _ _ _
  clear hW0
  refine (M.out _ X0).mono ?_
  rintro e w1 ⟨rfl, Y1⟩
  have c1 := c0.ext Y1
  have X1 := X0.trans Y1
  obtain ⟨k0, k1, k2, k3, k4⟩ := five c1
  go_wp2_with fail
  refine (F.out _ X1).mono ?_
  rintro e w2 ⟨rfl, Y2⟩
  have c2 := c1.ext Y2
  have X2 := X1.trans Y2
  clear k0 k1 k2 k3 k4
  obtain ⟨k0, k1, k2, k3, k4⟩ := five c2
  go_wp2_with fail
  refine (C.out _ X2).mono ?_
  rintro e w3 ⟨rfl, Y3⟩
  have c3 := c2.ext Y3
  have X3 := X2.trans Y3
  clear k0 k1 k2 k3 k4 c0 c1 c2 Y1 Y2 Y3 X0 X1 X2 M F C
  obtain ⟨k0, k1, k2, k3, k4⟩ := five c3
  have hws : w.heap.size < w3.heap.size := World.block_lt_of_cell? w3 _ k0
  have hN0 : NmsM (w3.alloc (.map #[] 0)) w3.heap.size [] := SetG.made _ _ _ _ _ _
  have X4 := (Ext.refl w3).alloc (.map #[] 0)
  go_wp2_with fail
  go_loopw [38] (NR obs w3.heap.size w3) (fun p _ => obs.length - (intOf p).toNat)
  case atStart => exact ⟨0, [], by omega, rfl, Lib.hid (by simp), by simp, hN0, X4⟩
  case round =>
    obtain ⟨i, U, hi, rfl, hU, hUl, hnm, X5⟩ := hrel
    clear k0 k1 k2 k3 k4 hN0
    obtain ⟨k0, k1, k2, k3, k4⟩ := five (c3.ext X5)
    have XW := X3.trans X5
    have hsz := X5.size
    by_cases hlt : i < obs.length
    · obtain ⟨bb, oo, rfl, hcells⟩ := (HO.out.ext XW) (by intro e; rw [e] at hlt; simp at hlt)
      have hc := fun k u hu => hcells i hlt k u hu
      have HOv := Lib.hid (O.out i hlt)
      have hs := HS.out i hlt
      have hno : obs[i].name ∉ U := by
        intro hin
        obtain ⟨j, hj, hji, e⟩ := hU.out _ hin
        exact HN.out j i hlt hji e.symm
      have HU1 := Lib.hid (show ∀ s ∈ insG U obs[i].name, ∃ j, ∃ h : j < obs.length, j < i + 1 ∧ s = obs[j].name from fun s hs => by
        rcases (mem_insG _ _ _).1 hs with rfl | h
        · exact ⟨i, hlt, by omega, rfl⟩
        · obtain ⟨j, hj, hji, e⟩ := hU.out _ h
          exact ⟨j, hj, by omega, e⟩)
      have hl1 := insG_len U obs[i].name
      have hNO := Lib.hid hno
      have i1 : (i : Int) < obs.length := by omega
      clear hcells hno hU
      generalize obs[i] = ob at *
      have q0 := hc 0 _ rfl
      have q1 := hc 1 _ rfl
      have q2 := hc 2 _ rfl
      have q3 := hc 3 _ rfl
      have q4 := hc 4 _ rfl
      have q5 := hc 5 _ rfl
      have q6 := hc 6 _ rfl
      have q7 := hc 7 _ rfl
      have q8 := hc 8 _ rfl
      have q9 := hc 9 _ rfl
      rw [Nat.add_zero] at q0
      unfold obV at HOv
      clear hc
      have hwr : w.heap.size < wr.heap.size := by omega
      have hbb : bb < wr.heap.size := World.block_lt_of_cell? wr _ q0
      have X6 := Ext.trans X5 ((Ext.refl wr).alloc (.cells #[.int .i64 ob.kd.num, .string ob.name, .string (tQ ob.pt.1), .string (tQ ob.pt.2), .string ob.kd.depth, .string ob.upper, .string ob.lower, .string ob.kd.n0, .string ob.kd.n1, .string ob.kd.n2] 95))
      have hnm6 := SetG.alloc hnm (.cells #[.int .i64 ob.kd.num, .string ob.name, .string (tQ ob.pt.1), .string (tQ ob.pt.2), .string ob.kd.depth, .string ob.upper, .string ob.lower, .string ob.kd.n0, .string ob.kd.n1, .string ob.kd.n2] 95)
      go_wp2_with fail
      refine (HOv.out _ (X3.trans X6)).mono ?_
      rintro e w5 ⟨rfl, X7⟩
      have n1 : w5.cell? ⟨wr.heap.size, 1, none⟩ = some (.string ob.name) := X7.cell (by simp [go_sem])
      have hnm7 := SetG.ext hnm6 X7
      have hlk := NmsM.look' hnm7 ob.name hs hNO.out
      obtain ⟨w8, hup, hnm8, hg8⟩ := NmsM.add' hnm7 (by omega) ob.name hs
      have X8 := X6.trans X7
      have X9 : Ext w3 w8 := Below.grown X8 hg8 X8.size (fun k e => by cases e; omega)
      clear X7 q0 q1 q2 q3 q4 q5 q6 q7 q8 q9 hnm hnm6 hnm7
      go_wp2_with fail
      exact ⟨⟨i + 1, _, hlt, by go_num, HU1, by omega, hnm8, X9⟩, by simp only [intOf]; omega⟩
    · have : i = obs.length := by omega
      subst this
      clear hU hnm
      go_wp2_with fail
      go_ret
      exact ⟨rfl, XW⟩
end Go.Proofs.YtbiffaciinppiaaGreatDoor
end

section
namespace Go.Proofs.YtbiffaciinppiaaGreatDoor
open Go.RowKit
attribute [local irreducible] tQ

set_option maxRecDepth 100000 in
set_option maxHeartbeats 1000000 in
theorem checkIndex_ok (N D : Nat) (b : Bk) (cyc : List Int) (hb : BkOk N D b cyc) (a : BkA) (w : World) (g : Glob w) (hI : BkIn w a b) (i : Nat) (hi : i < b.obs.length) :
    Calls Tryz.prog 95 #[bkV a b, .int .i64 i] w (Ret (.int .i64 0) w) := by
  have H := Lib.hid (fun W (X : Ext w W) => checkAll_ok N D b cyc hb a W (g.ext X) (hI.ext X))
  have hol := hb.olen
  have i1 : (i : Int) < b.obs.length := by omega
  clear hb g hI
  obtain ⟨pts, tris, ter, col, obs⟩ := b
  obtain ⟨pb, po, pc, tb, tO, tc, fb, fo, fc, lb, lo, lc, oc, oa⟩ := a
  simp only [bkV] at *
  go_enter Tryz.func95, Tryz.ntmps95
  go_wp2_with fail
  refine (H.out _ ((Ext.refl w).alloc _)).mono ?_
  rintro e w1 ⟨rfl, X1⟩
  have k : w1.cell? ⟨w.heap.size, 4, none⟩ = some (.slice oa obs.length oc) := X1.cell (by simp [go_sem])
  go_wp2_with fail
  go_ret
  exact ⟨rfl, ((Ext.refl w).alloc _).trans X1⟩

/-- The height of an observation at terrain z. -/
def hgt (kd : Kd) (z : Rat) : Rat := match kd with
  | .contact d => z - d
  | _ => z
set_option maxRecDepth 100000 in
set_option maxHeartbeats 1000000 in
theorem bheight_ok (a : BkA) (b : Bk) (o : Ob) (z : Rat) (w : World) (g : Glob w) (hz : Dg 9 z) (hd : ∀ d, o.kd = .contact d → Dg 9 d)
    (HV : ∀ W, Ext w W → Calls Tryz.prog 70 #[mV a.pb a.po a.pc a.tb a.tO a.tc b.pts b.tris, .slice (some ⟨a.fb, a.fo, none⟩) b.pts.length a.fc, ptV o.pt] W (Ret (.tuple #[.string (tQ z), .int .i64 0]) W)) :
    Calls Tryz.prog 96 #[bkV a b, obV o] w (Ret (.tuple #[.string (tQ (hgt o.kd z)), .int .i64 0]) w) := by
  have V := Lib.hid HV
  clear HV
  obtain ⟨pts, tris, ter, col, obs⟩ := b
  obtain ⟨pb, po, pc, tb, tO, tc, fb, fo, fc, lb, lo, lc, oc, oa⟩ := a
  obtain ⟨kd, nm, ⟨x, y⟩, up, low⟩ := o
  simp only [bkV, mV, ptV] at *
  cases kd with
  | outcrop =>
    simp only [obV, hgt, Kd.num, Kd.depth, Kd.n0, Kd.n1, Kd.n2] at *
    clear hd hz g
    go_enter Tryz.func96, Tryz.ntmps96
    go_wp2_with fail
    have X0 := ((Ext.refl w).alloc (.cells #[.slice (some ⟨pb, po, none⟩) pts.length pc, .slice (some ⟨tb, tO, none⟩) tris.length tc, .slice (some ⟨fb, fo, none⟩) pts.length fc, .slice (some ⟨lb, lo, none⟩) col.length lc, .slice oa obs.length oc] 43)).alloc (.cells #[.int .i64 1, .string nm, .string (tQ x), .string (tQ y), .string ⟨#[]⟩, .string up, .string low, .string ⟨#[]⟩, .string ⟨#[]⟩, .string ⟨#[]⟩] 95)
    refine (V.out _ X0).mono ?_
    rintro e w1 ⟨rfl, X1⟩
    have k0 : w1.cell? ⟨w.heap.size + 1, 0, none⟩ = some (.int .i64 1) := X1.cell (by simp [go_sem])
    have k4 : w1.cell? ⟨w.heap.size + 1, 4, none⟩ = some (.string ⟨#[]⟩) := X1.cell (by simp [go_sem])
    go_wp2_with fail
    go_ret2
    exact ⟨rfl, X0.trans X1⟩
  | contact d =>
    simp only [obV, hgt, Kd.num, Kd.depth, Kd.n0, Kd.n1, Kd.n2] at *
    have S := Lib.hid (fun W (X : Ext w W) => rSub z d W (g.ext X) hz (hd d rfl))
    clear hd hz g
    go_enter Tryz.func96, Tryz.ntmps96
    go_wp2_with fail
    have X0 := ((Ext.refl w).alloc (.cells #[.slice (some ⟨pb, po, none⟩) pts.length pc, .slice (some ⟨tb, tO, none⟩) tris.length tc, .slice (some ⟨fb, fo, none⟩) pts.length fc, .slice (some ⟨lb, lo, none⟩) col.length lc, .slice oa obs.length oc] 43)).alloc (.cells #[.int .i64 2, .string nm, .string (tQ x), .string (tQ y), .string (tQ d), .string up, .string low, .string ⟨#[]⟩, .string ⟨#[]⟩, .string ⟨#[]⟩] 95)
    refine (V.out _ X0).mono ?_
    rintro e w1 ⟨rfl, X1⟩
    have k0 : w1.cell? ⟨w.heap.size + 1, 0, none⟩ = some (.int .i64 2) := X1.cell (by simp [go_sem])
    have k4 : w1.cell? ⟨w.heap.size + 1, 4, none⟩ = some (.string (tQ d)) := X1.cell (by simp [go_sem])
    go_wp2_with fail
    refine (S.out _ (X0.trans X1)).mono ?_
    rintro e w2 ⟨rfl, X2⟩
    go_wp2_with fail
    go_ret2
    exact ⟨rfl, (X0.trans X1).trans X2⟩
  | dip nx ny nz =>
    simp only [obV, hgt, Kd.num, Kd.depth, Kd.n0, Kd.n1, Kd.n2] at *
    clear hd hz g
    go_enter Tryz.func96, Tryz.ntmps96
    go_wp2_with fail
    have X0 := ((Ext.refl w).alloc (.cells #[.slice (some ⟨pb, po, none⟩) pts.length pc, .slice (some ⟨tb, tO, none⟩) tris.length tc, .slice (some ⟨fb, fo, none⟩) pts.length fc, .slice (some ⟨lb, lo, none⟩) col.length lc, .slice oa obs.length oc] 43)).alloc (.cells #[.int .i64 3, .string nm, .string (tQ x), .string (tQ y), .string ⟨#[]⟩, .string up, .string low, .string (tQ nx), .string (tQ ny), .string (tQ nz)] 95)
    refine (V.out _ X0).mono ?_
    rintro e w1 ⟨rfl, X1⟩
    have k0 : w1.cell? ⟨w.heap.size + 1, 0, none⟩ = some (.int .i64 3) := X1.cell (by simp [go_sem])
    have k4 : w1.cell? ⟨w.heap.size + 1, 4, none⟩ = some (.string ⟨#[]⟩) := X1.cell (by simp [go_sem])
    go_wp2_with fail
    go_ret2
    exact ⟨rfl, X0.trans X1⟩
end Go.Proofs.YtbiffaciinppiaaGreatDoor
end

section
namespace Go.Proofs.YtbiffaciinppiaaGreatDoor
open Go.RowKit

theorem Gr.one {k : Nat} (hk : 0 < k) : Gr k k 1 := ⟨hk, k, by rw [Rat.one_mul]; exact_mod_cast rfl, by omega⟩
theorem Gr.scale {N D k : Nat} {q : Rat} (h : Gr N D q) (hk : 0 < k) : Gr (N * k) (D * k) q := by
  have := h.mul (Gr.one hk)
  rwa [Rat.mul_one] at this
/-- Quotients by one number have one denominator. -/
theorem Gr.over {K E : Nat} {b : Rat} (hb : Gr K E b) (h0 : b ≠ 0) : ∃ B, 0 < B ∧ B ≤ K ∧ ∀ M a, Gr M E a → Gr M B (a / b) := by
  obtain ⟨hE, y, hy, hy2⟩ := hb
  have hE0 : (E : Rat) ≠ 0 := by exact_mod_cast (by omega : E ≠ 0)
  have hy0 : y ≠ 0 := by
    rintro rfl
    apply h0
    have : b * (E : Rat) = 0 := by rw [hy]; rfl
    rcases Rat.mul_eq_zero.1 this with h | h
    · exact h
    · exact absurd h hE0
  have hyr : (y : Rat) ≠ 0 := by exact_mod_cast hy0
  refine ⟨y.natAbs, by omega, hy2, fun M a ha => ?_⟩
  obtain ⟨_, x, hx, hx2⟩ := ha
  have hab : a / b = (x : Rat) / (y : Rat) := by
    rw [← hx, ← hy]
    have hb0 := h0
    grind
  refine ⟨by omega, if 0 ≤ y then x else -x, ?_, by split <;> omega⟩
  rw [hab]
  by_cases hp : 0 ≤ y
  · rw [if_pos hp]
    have : ((y.natAbs : Nat) : Rat) = (y : Rat) := by
      have e : ((y.natAbs : Nat) : Int) = y := by omega
      exact_mod_cast congrArg (Int.cast : Int → Rat) e
    rw [this]; grind
  · rw [if_neg hp]
    have : ((y.natAbs : Nat) : Rat) = -(y : Rat) := by
      have e : ((y.natAbs : Nat) : Int) = -y := by omega
      have := congrArg (Int.cast : Int → Rat) e
      rw [Rat.intCast_neg] at this
      exact_mod_cast this
    rw [this, Rat.intCast_neg]; grind

theorem slX_div (a b c : Rat × Rat) (x y z : Rat) : slX a b c x y z = ((y - x) * (c.2 - a.2) - (b.2 - a.2) * (z - x)) / slM a b c := by
  unfold slX; rw [Rat.div_def, Rat.div_def, Rat.one_mul, Rat.mul_comm]
theorem slY_div (a b c : Rat × Rat) (x y z : Rat) : slY a b c x y z = ((b.1 - a.1) * (z - x) - (y - x) * (c.1 - a.1)) / slM a b c := by
  unfold slY; rw [Rat.div_def, Rat.div_def, Rat.one_mul, Rat.mul_comm]

section
variable {a b c p : Rat × Rat} {x y z : Rat}
theorem mnOk_grid {a b c d : Rat} {N M K L : Nat} (ha : Gr N 4 a) (hb : Gr M 4 b) (hc : Gr K 4 c) (hd : Gr L 4 d) (h1 : N < 10000) (h2 : M < 10000) (h3 : K < 10000) (h4 : L < 10000) : MnOk a b c d := by
  have e1 : N * L ≤ 9999 * 9999 := Nat.mul_le_mul (by omega) (by omega)
  have e2 : M * K ≤ 9999 * 9999 := Nat.mul_le_mul (by omega) (by omega)
  exact ⟨ha.dg (by omega) (by omega), hb.dg (by omega) (by omega), hc.dg (by omega) (by omega), hd.dg (by omega) (by omega), (ha.mul hd).dg (by omega) (by omega), (hb.mul hc).dg (by omega) (by omega)⟩
theorem slOk_grid (ha : GP 52 4 a) (hb : GP 52 4 b) (hc : GP 52 4 c) (hx : Gr 80 4 x) (hy : Gr 80 4 y) (hz : Gr 80 4 z) (h0 : slM a b c ≠ 0) : SlOk a b c x y z where
  a1 := ha.1.dg (by omega) (by omega)
  a2 := ha.2.dg (by omega) (by omega)
  b1 := hb.1.dg (by omega) (by omega)
  b2 := hb.2.dg (by omega) (by omega)
  c1 := hc.1.dg (by omega) (by omega)
  c2 := hc.2.dg (by omega) (by omega)
  x0 := hx.dg (by omega) (by omega)
  y0 := hy.dg (by omega) (by omega)
  z0 := hz.dg (by omega) (by omega)
  m0 := mnOk_grid (hb.1.sub ha.1) (hb.2.sub ha.2) (hc.1.sub ha.1) (hc.2.sub ha.2) (by omega) (by omega) (by omega) (by omega)
  m1 := mnOk_grid (hy.sub hx) (hb.2.sub ha.2) (hz.sub hx) (hc.2.sub ha.2) (by omega) (by omega) (by omega) (by omega)
  m2 := mnOk_grid (hb.1.sub ha.1) (hy.sub hx) (hc.1.sub ha.1) (hz.sub hx) (by omega) (by omega) (by omega) (by omega)
  d0 := (((hb.1.sub ha.1).mul (hc.2.sub ha.2)).sub ((hb.2.sub ha.2).mul (hc.1.sub ha.1))).dg (by omega) (by omega)
  d1 := (((hy.sub hx).mul (hc.2.sub ha.2)).sub ((hb.2.sub ha.2).mul (hz.sub hx))).dg (by omega) (by omega)
  d2 := (((hb.1.sub ha.1).mul (hz.sub hx)).sub ((hy.sub hx).mul (hc.1.sub ha.1))).dg (by omega) (by omega)
  ne := h0
/-- One denominator for the slopes on a triangle. -/
theorem sl_gr (ha : GP 52 4 a) (hb : GP 52 4 b) (hc : GP 52 4 c) (h0 : slM a b c ≠ 0) : ∃ B, 0 < B ∧ B ≤ 21632 ∧ ∀ x y z, Gr 80 4 x → Gr 80 4 y → Gr 80 4 z → Gr 33280 B (slX a b c x y z) ∧ Gr 33280 B (slY a b c x y z) := by
  have hm : Gr 21632 16 (slM a b c) := ((hb.1.sub ha.1).mul (hc.2.sub ha.2)).sub ((hb.2.sub ha.2).mul (hc.1.sub ha.1))
  obtain ⟨B, h1, h2, h3⟩ := hm.over h0
  refine ⟨B, h1, h2, fun x y z hx hy hz => ⟨?_, ?_⟩⟩
  · rw [slX_div]
    exact h3 _ _ (((hy.sub hx).mul (hc.2.sub ha.2)).sub ((hb.2.sub ha.2).mul (hz.sub hx)))
  · rw [slY_div]
    exact h3 _ _ (((hb.1.sub ha.1).mul (hz.sub hx)).sub ((hy.sub hx).mul (hc.1.sub ha.1)))
theorem on_gr {B : Nat} {sx sy : Rat} (hB : 0 < B) (ha : GP 52 4 a) (hp : GP 284 4 p) (hx : Gr 80 4 x) (h1 : Gr 33280 B sx) (h2 : Gr 33280 B sy) : Gr (80 * B + 33280 * 336 + 33280 * 336) (B * 4) (onQ a p x sx sy) := by
  have e := (hx.scale hB)
  rw [Nat.mul_comm 4 B] at e
  exact (e.add (h1.mul (hp.1.sub ha.1))).add (h2.mul (hp.2.sub ha.2))
theorem onOk_grid {B : Nat} {sx sy : Rat} (hB : 0 < B) (hB2 : B ≤ 21632) (ha : GP 52 4 a) (hp : GP 284 4 p) (hx : Gr 80 4 x) (h1 : Gr 33280 B sx) (h2 : Gr 33280 B sy) : OnOk a p x sx sy where
  a1 := ha.1.dg (by omega) (by omega)
  a2 := ha.2.dg (by omega) (by omega)
  p1 := hp.1.dg (by omega) (by omega)
  p2 := hp.2.dg (by omega) (by omega)
  z0 := hx.dg (by omega) (by omega)
  s1 := h1.dg (by omega) (by omega)
  s2 := h2.dg (by omega) (by omega)
  t1 := (hp.1.sub ha.1).dg (by omega) (by omega)
  t2 := (hp.2.sub ha.2).dg (by omega) (by omega)
  u1 := (h1.mul (hp.1.sub ha.1)).dg (by omega) (by omega)
  u2 := (h2.mul (hp.2.sub ha.2)).dg (by omega) (by omega)
  v := by
    have e := (hx.scale hB)
    rw [Nat.mul_comm 4 B] at e
    exact (e.add (h1.mul (hp.1.sub ha.1))).dg (by omega) (by omega)
  r := (on_gr hB ha hp hx h1 h2).dg (by omega) (by omega)
end
end Go.Proofs.YtbiffaciinppiaaGreatDoor
end

section
namespace Go.Proofs.YtbiffaciinppiaaGreatDoor
open Go.RowKit

/-- A planned mesh: right, and on a small grid. -/
structure Pm (pts : List (Rat × Rat)) (tris : List Tri) (cyc : List Int) : Prop where
  ok : MeshOk 284 4 pts tris cyc
  gp : ∀ p ∈ pts, GP 52 4 p
def tri0 (pts : List (Rat × Rat)) (tris : List Tri) (p : Rat × Rat) : Nat := (locd pts tris p tris.length).headD 0
def trq (tris : List Tri) (i : Nat) : Tri := tris.getD i (0, 0, 0)
theorem trq_eq {tris : List Tri} {i : Nat} (h : i < tris.length) : trq tris i = tris[i] := by
  unfold trq; rw [List.getD_eq_getElem?_getD, List.getElem?_eq_getElem h]; rfl
theorem tri0_at {pts : List (Rat × Rat)} {tris : List Tri} {p : Rat × Rat} (h : 0 < (locd pts tris p tris.length).length) : tri0 pts tris p < tris.length ∧ ∃ L, locd pts tris p tris.length = tri0 pts tris p :: L := by
  unfold tri0
  cases hl : locd pts tris p tris.length with
  | nil => rw [hl] at h; simp at h
  | cons i L =>
    refine ⟨?_, L, rfl⟩
    have : i ∈ locd pts tris p tris.length := by rw [hl]; simp
    unfold locd at this
    exact List.mem_range.1 (List.mem_filter.1 this).1
/-- The slopes of a field on a triangle. -/
def slxQ (pts : List (Rat × Rat)) (f : List Rat) (t : Tri) : Rat := slX (cor pts t.1) (cor pts t.2.1) (cor pts t.2.2) (vl f t.1) (vl f t.2.1) (vl f t.2.2)
def slyQ (pts : List (Rat × Rat)) (f : List Rat) (t : Tri) : Rat := slY (cor pts t.1) (cor pts t.2.1) (cor pts t.2.2) (vl f t.1) (vl f t.2.1) (vl f t.2.2)
/-- The value of a field at a place. -/
def valQ (pts : List (Rat × Rat)) (tris : List Tri) (f : List Rat) (p : Rat × Rat) : Rat :=
  onQ (cor pts (trq tris (tri0 pts tris p)).1) p (vl f (trq tris (tri0 pts tris p)).1) (slxQ pts f (trq tris (tri0 pts tris p))) (slyQ pts f (trq tris (tri0 pts tris p)))

section
variable {pts : List (Rat × Rat)} {tris : List Tri} {cyc : List Int}
theorem Pm.cor (h : Pm pts tris cyc) {t : Tri} (ht : t ∈ tris) : GP 52 4 (cor pts t.1) ∧ GP 52 4 (Proofs.YtbiffaciinppiaaGreatDoor.cor pts t.2.1) ∧ GP 52 4 (Proofs.YtbiffaciinppiaaGreatDoor.cor pts t.2.2) ∧ slM (Proofs.YtbiffaciinppiaaGreatDoor.cor pts t.1) (Proofs.YtbiffaciinppiaaGreatDoor.cor pts t.2.1) (Proofs.YtbiffaciinppiaaGreatDoor.cor pts t.2.2) ≠ 0 := by
  have hh : ∀ k ∈ triIdx t, GP 52 4 (Proofs.YtbiffaciinppiaaGreatDoor.cor pts k) := fun k hk => by
    have := h.ok.ix t ht k hk
    obtain ⟨A, hA, _, e⟩ := cor_nat this.1 this.2
    rw [e]; exact h.gp _ (List.getElem_mem _)
  refine ⟨hh _ (by simp [triIdx]), hh _ (by simp [triIdx]), hh _ (by simp [triIdx]), fun e => ?_⟩
  have := h.ok.turn t ht
  have e2 : arQ (pts.getD t.1.toNat (0, 0)) (pts.getD t.2.1.toNat (0, 0)) (pts.getD t.2.2.toNat (0, 0)) = 0 := e
  rw [e2] at this
  exact Rat.lt_irrefl this
theorem vl_gr {f : List Rat} {M D : Nat} (hn : f.length = pts.length) (hf : ∀ q ∈ f, Gr M D q) (h : Pm pts tris cyc) {t : Tri} (ht : t ∈ tris) : Gr M D (vl f t.1) ∧ Gr M D (vl f t.2.1) ∧ Gr M D (vl f t.2.2) := by
  have hh : ∀ k ∈ triIdx t, Gr M D (vl f k) := fun k hk => by
    have := h.ok.ix t ht k hk
    obtain ⟨A, hA⟩ : ∃ A : Nat, k = A := ⟨k.toNat, by omega⟩
    rw [hA] at this ⊢
    rw [vl_nat (by omega)]
    exact hf _ (List.getElem_mem _)
  exact ⟨hh _ (by simp [triIdx]), hh _ (by simp [triIdx]), hh _ (by simp [triIdx])⟩
theorem slq_gr (h : Pm pts tris cyc) {t : Tri} (ht : t ∈ tris) : ∃ B, 0 < B ∧ B ≤ 21632 ∧ ∀ f : List Rat, f.length = pts.length → (∀ q ∈ f, Gr 80 4 q) → Gr 33280 B (slxQ pts f t) ∧ Gr 33280 B (slyQ pts f t) := by
  obtain ⟨h1, h2, h3, h4⟩ := h.cor ht
  obtain ⟨B, hB, hB2, hh⟩ := sl_gr h1 h2 h3 h4
  refine ⟨B, hB, hB2, fun f hn hf => ?_⟩
  obtain ⟨k1, k2, k3⟩ := vl_gr hn hf h ht
  exact hh _ _ _ k1 k2 k3
theorem valQ_gr (h : Pm pts tris cyc) {p : Rat × Rat} (hp : GP 284 4 p) (hin : 0 < (locd pts tris p tris.length).length) : ∃ B, 0 < B ∧ B ≤ 21632 ∧ ∀ f : List Rat, f.length = pts.length → (∀ q ∈ f, Gr 80 4 q) → Gr (80 * B + 33280 * 336 + 33280 * 336) (B * 4) (valQ pts tris f p) := by
  obtain ⟨hi, _⟩ := tri0_at hin
  have ht : trq tris (tri0 pts tris p) ∈ tris := by rw [trq_eq hi]; exact List.getElem_mem _
  obtain ⟨B, hB, hB2, hh⟩ := slq_gr h ht
  refine ⟨B, hB, hB2, fun f hn hf => ?_⟩
  exact on_gr hB (h.cor ht).1 hp (vl_gr hn hf h ht).1 (hh f hn hf).1 (hh f hn hf).2
theorem valQ_dg (h : Pm pts tris cyc) {p : Rat × Rat} (hp : GP 284 4 p) (hin : 0 < (locd pts tris p tris.length).length) {f : List Rat} (hn : f.length = pts.length) (hf : ∀ q ∈ f, Gr 80 4 q) : Dg 9 (valQ pts tris f p) := by
  obtain ⟨B, hB, hB2, hh⟩ := valQ_gr h hp hin
  exact (hh f hn hf).dg (by omega) (by omega)

theorem value_pl (h : Pm pts tris cyc) (f : List Rat) (pb po pc tb tO tc fb fo fc : Nat) (w : World) (g : Glob w) (hI : MeshIn w pb po tb tO pts tris) (hF : FldIn w fb fo f) (hn : f.length = pts.length) (hf : ∀ q ∈ f, Gr 80 4 q) (p : Rat × Rat) (hp : GP 284 4 p) (hin : 0 < (locd pts tris p tris.length).length) :
    Calls Tryz.prog 70 #[mV pb po pc tb tO tc pts tris, .slice (some ⟨fb, fo, none⟩) pts.length fc, ptV p] w (Ret (.tuple #[.string (tQ (valQ pts tris f p)), .int .i64 0]) w) := by
  obtain ⟨hi, L, hL⟩ := tri0_at hin
  have ht : trq tris (tri0 pts tris p) ∈ tris := by rw [trq_eq hi]; exact List.getElem_mem _
  obtain ⟨B, hB, hB2, hh⟩ := slq_gr h ht
  obtain ⟨h1, h2, h3, h4⟩ := h.cor ht
  obtain ⟨k1, k2, k3⟩ := vl_gr hn hf h ht
  refine value_ok 284 4 pts tris cyc h.ok f pb po pc tb tO tc fb fo fc w g hI hF hn (fun q hq => (hf q hq).dg (by omega) (by omega)) p hp _ L hL hi _ _ _ (by rw [← trq_eq hi]) (by rw [← trq_eq hi]) (by rw [← trq_eq hi]) _ _ _ (by rw [← trq_eq hi]) (by rw [← trq_eq hi]) (by rw [← trq_eq hi]) ?_ ?_
  · exact slOk_grid h1 h2 h3 k1 k2 k3 h4
  · exact onOk_grid hB hB2 h1 hp k1 (hh f hn hf).1 (hh f hn hf).2
theorem slope_pl (h : Pm pts tris cyc) (f : List Rat) (pb po pc tb tO tc fb fo fc : Nat) (w : World) (g : Glob w) (hI : MeshIn w pb po tb tO pts tris) (hF : FldIn w fb fo f) (hn : f.length = pts.length) (hf : ∀ q ∈ f, Gr 80 4 q) (i : Nat) (hi : i < tris.length) :
    Calls Tryz.prog 71 #[mV pb po pc tb tO tc pts tris, .slice (some ⟨fb, fo, none⟩) pts.length fc, .int .i64 i] w (Ret (.tuple #[.agg #[.string (tQ (slxQ pts f (trq tris i))), .string (tQ (slyQ pts f (trq tris i)))], .int .i64 0]) w) := by
  have ht : trq tris i ∈ tris := by rw [trq_eq hi]; exact List.getElem_mem _
  obtain ⟨B, hB, hB2, hh⟩ := slq_gr h ht
  obtain ⟨h1, h2, h3, h4⟩ := h.cor ht
  obtain ⟨k1, k2, k3⟩ := vl_gr hn hf h ht
  refine fslope_ok 284 4 pts tris cyc h.ok f pb po pc tb tO tc fb fo fc w g hI hF hn (fun q hq => (hf q hq).dg (by omega) (by omega)) i hi _ _ _ (by rw [← trq_eq hi]) (by rw [← trq_eq hi]) (by rw [← trq_eq hi]) _ _ _ (by rw [← trq_eq hi]) (by rw [← trq_eq hi]) (by rw [← trq_eq hi]) ?_ ?_ ?_
  · exact slOk_grid h1 h2 h3 k1 k2 k3 h4
  · exact (hh f hn hf).1.dg (by omega) (by omega)
  · exact (hh f hn hf).2.dg (by omega) (by omega)
end
end Go.Proofs.YtbiffaciinppiaaGreatDoor
end

section
namespace Go.Proofs.YtbiffaciinppiaaGreatDoor
open Go.RowKit

/-- A magnitude of at most one piece. -/
def Mag (m : Nat) (v : Value) (w : World) : Prop :=
  (m = 0 ∧ ∃ a c, v = .slice a 0 c) ∨ (m ≠ 0 ∧ ∃ b c, v = .slice (some ⟨b, 0, none⟩) 1 c ∧ w.cell? ⟨b, 0, none⟩ = some (.int .u64 m))
theorem Mag.ext {m : Nat} {v : Value} {w W : World} (h : Mag m v w) (hx : Ext w W) : Mag m v W := by
  rcases h with ⟨h1, h2⟩ | ⟨h1, b, c, h2, h3⟩
  · exact .inl ⟨h1, h2⟩
  · exact .inr ⟨h1, b, c, h2, hx.cell h3⟩
theorem Mag.form {m : Nat} {v : Value} {w : World} (h : Mag m v w) : ∃ a k c, v = .slice a k c := by
  rcases h with ⟨_, a, c, h⟩ | ⟨_, b, c, h, _⟩
  · exact ⟨_, _, _, h⟩
  · exact ⟨_, _, _, h⟩
def MagEnd (m : Nat) (w : World) (e : Ending) (w' : World) : Prop := ∃ v, e = .returned v ∧ Mag m v w' ∧ Ext w w'

def tr1 (x : Nat) : Nat := if x = 0 then 0 else 1
theorem trim0_eq (a : Option Addr) (c : Nat) (w : World) : Calls Tryz.prog 197 #[.slice a 0 c] w (fun e w' => e = .returned (.slice a 0 c) ∧ w' = w) := by
  go_enter Tryz.func197, Tryz.ntmps197
  go_wp2_with fail
  go_loop [0] (fun p => p = .slice a 0 c) (fun _ => 0)
  case atStart => rfl
  case round =>
    subst hrel
    go_wp2_with fail
    go_ret
    exact ⟨rfl, rfl⟩
theorem trim1_eq (b c x : Nat) (w : World) (hx : w.cell? ⟨b, 0, none⟩ = some (.int .u64 x)) : Calls Tryz.prog 197 #[.slice (some ⟨b, 0, none⟩) 1 c] w (fun e w' => e = .returned (.slice (some ⟨b, 0, none⟩) (tr1 x) c) ∧ w' = w) := by
  go_enter Tryz.func197, Tryz.ntmps197
  go_wp2_with fail
  go_loop [0] (fun p => p = .slice (some ⟨b, 0, none⟩) 1 c ∨ (x = 0 ∧ p = .slice (some ⟨b, 0, none⟩) 0 c)) (fun p => lenV p)
  case atStart => exact .inl rfl
  case round =>
    rcases hrel with rfl | ⟨rfl, rfl⟩
    · by_cases h0 : x = 0
      · subst h0
        go_wp2_with fail
        exact ⟨.inr ⟨trivial, rfl⟩, by simp [lenV]⟩
      · have h1 : ((x : Int) == 0) = false := beq_false_of_ne (by omega)
        go_wp2_with fail
        go_ret
        exact ⟨by unfold tr1; rw [if_neg h0]; rfl, rfl⟩
    · go_wp2_with fail
      go_ret
      exact ⟨rfl, rfl⟩
theorem tr1_mag {b c x : Nat} {w : World} (hx : w.cell? ⟨b, 0, none⟩ = some (.int .u64 x)) : Mag x (.slice (some ⟨b, 0, none⟩) (tr1 x) c) w := by
  unfold tr1
  by_cases h : x = 0
  · rw [if_pos h]; exact .inl ⟨h, _, _, rfl⟩
  · rw [if_neg h]; exact .inr ⟨h, b, c, rfl, hx⟩
theorem trim1_ok (b c x : Nat) (w : World) (hx : w.cell? ⟨b, 0, none⟩ = some (.int .u64 x)) : Calls Tryz.prog 197 #[.slice (some ⟨b, 0, none⟩) 1 c] w (MagEnd x w) :=
  (trim1_eq b c x w hx).mono fun e w' ⟨he, hw⟩ => by subst hw; exact ⟨_, he, tr1_mag hx, Ext.refl _⟩

def cmpN (m k : Nat) : Int := if m < k then -1 else if m = k then 0 else 1
theorem order_ok (m k : Nat) (u v : Value) (w : World) (hm : Mag m u w) (hk : Mag k v w) : Calls Tryz.prog 198 #[u, v] w (Ret (.int .i64 (cmpN m k)) w) := by
  rcases hm with ⟨rfl, a, c, rfl⟩ | ⟨hm, b, c, rfl, h1⟩
  · rcases hk with ⟨rfl, a2, c2, rfl⟩ | ⟨hk, b2, c2, rfl, h2⟩
    · go_enter Tryz.func198, Tryz.ntmps198
      go_wp2_with fail
      go_loop [5] (fun p => p = .int .i64 (-1)) (fun _ => 0)
      case atStart => rfl
      case round =>
        subst hrel
        go_wp2_with fail
        go_ret
        exact ⟨rfl, Ext.refl _⟩
    · have : cmpN 0 k = -1 := by unfold cmpN; rw [if_pos (by omega)]
      rw [this]
      go_enter Tryz.func198, Tryz.ntmps198
      go_wp2_with fail
      go_ret
      exact ⟨rfl, Ext.refl _⟩
  · rcases hk with ⟨rfl, a2, c2, rfl⟩ | ⟨hk, b2, c2, rfl, h2⟩
    · have : cmpN m 0 = 1 := by unfold cmpN; rw [if_neg (by omega), if_neg hm]
      rw [this]
      go_enter Tryz.func198, Tryz.ntmps198
      go_wp2_with fail
      go_ret
      exact ⟨rfl, Ext.refl _⟩
    · go_enter Tryz.func198, Tryz.ntmps198
      go_wp2_with fail
      go_loopw [5] (fun p wr => (p = .int .i64 0 ∧ Ext w wr) ∨ (m = k ∧ p = .int .i64 (-1) ∧ Ext w wr)) (fun p _ => (intOf p + 1).toNat)
      case atStart => exact .inl ⟨rfl, Ext.refl _⟩
      case round =>
        rcases hrel with ⟨rfl, hx⟩ | ⟨he, rfl, hx⟩
        · have k1 := hx.cell h1
          have k2 := hx.cell h2
          by_cases h0 : m = k
          · subst h0
            go_wp2_with fail
            go_quiet (fail)
            go_wp2_with fail
            exact ⟨.inr ⟨trivial, rfl, hx.drewN _⟩, by simp [intOf]⟩
          · have h3 : ((m : Int) != k) = true := by simp; omega
            go_wp2_with fail
            go_quiet (fail)
            go_wp2_with fail
            go_quiet (fail)
            go_wp2_with fail
            · have hlt : m < k := by assumption
              have : cmpN m k = -1 := by unfold cmpN; rw [if_pos (by omega)]
              rw [this]
              go_ret
              exact ⟨rfl, (hx.drewN _).drewN _⟩
            · have hlt : (k : Int) ≤ m := by first | assumption | omega
              have : cmpN m k = 1 := by unfold cmpN; rw [if_neg (by omega), if_neg h0]
              rw [this]
              go_ret
              exact ⟨rfl, (hx.drewN _).drewN _⟩
        · subst he
          go_wp2_with fail
          go_ret
          have h0 : cmpN m m = 0 := by unfold cmpN; rw [if_neg (by omega), if_pos rfl]
          rw [h0]
          exact ⟨rfl, hx⟩
end Go.Proofs.YtbiffaciinppiaaGreatDoor
end

section
namespace Go.Proofs.YtbiffaciinppiaaGreatDoor
open Go.RowKit

theorem parseM_ok : ∀ (l : List UInt8) (acc j : Nat), (∀ b ∈ l, 48 ≤ b.toNat ∧ b.toNat ≤ 57) → acc < 10 ^ j → j + l.length ≤ 17 → Lib.parseUintM (2 ^ 64 - 1) acc l = .ok (l.foldl (fun a b => a * 10 + (b.toNat - 48)) acc)
  | [], acc, j, _, _, _ => rfl
  | c :: r, acc, j, hd, ha, hj => by
    have hc := hd c (by simp)
    have hp : 10 ^ j ≤ 10 ^ 16 := Nat.pow_le_pow_right (by omega) (by simp at hj; omega)
    unfold Lib.parseUintM
    rw [if_pos hc, if_neg (by omega), if_neg (by omega), List.foldl_cons]
    refine parseM_ok r _ (j + 1) (fun b hb => hd b (by simp [hb])) ?_ (by simp at hj; omega)
    rw [Nat.pow_succ]; omega
theorem parseU_ok (m : Nat) (h : m < 10 ^ 8) : Lib.parseUintB 64 (Lib.decDigits m) = .ok m := by
  unfold Lib.parseUintB
  rw [if_neg (decDigits_ne_nil m)]
  have h1 := parseM_ok (Lib.decDigits m) 0 0 (decDigits_mem m) (by omega) (by have := (nDigits_le m 8 (by omega)).2 h; rw [Lib.decDigits_length]; omega)
  have h2 := pv_decDigits m
  unfold pv at h2
  rw [h1, h2]
theorem Cells.block {b B : Nat} {vs : List Value} {w W : World} (h : Cells b vs w) (hx : Below B w W) (hb : b < B) : Cells b vs W := fun i hi =>
  ⟨(hx.cell (p := ⟨b, i, none⟩) hb).trans (h i hi).1, (hx.frozen (p := ⟨b, i, none⟩) hb).trans (h i hi).2⟩
def lenS : Value → Nat
  | .string s => s.size
  | _ => 0
def OpR (w : World) (m : Nat) (s p : Value) (wr : World) : Prop :=
  Ext w wr ∧ Cells w.heap.size [.bool false, .slice none 0 0] wr ∧ ((s = .string (tI m) ∧ p = .slice (some ⟨w.heap.size + 1, 0, none⟩) 0 1 ∧ wr.cell? ⟨w.heap.size + 1, 0, none⟩ = some (.int .u64 0) ∧ wr.frozen? ⟨w.heap.size + 1, 0, none⟩ = false) ∨
    (s = .string ⟨#[]⟩ ∧ p = .slice (some ⟨w.heap.size + 1, 0, none⟩) 1 1 ∧ wr.cell? ⟨w.heap.size + 1, 0, none⟩ = some (.int .u64 m)))

set_option maxRecDepth 100000 in
set_option maxHeartbeats 1000000 in
theorem open_ok' (n : Int) (m : Nat) (sgn : Bool) (w : World) (hm : m = n.natAbs) (hsg : decide (n < 0) = sgn) (hn : m < 10 ^ 8) :
    Calls Tryz.prog 156 #[.string (tI n)] w (fun e w' => ∃ v, e = .returned (.agg #[.bool sgn, v]) ∧ Mag m v w' ∧ Ext w w') := by
  have HP := Lib.hid (hasPre n)
  have HT := Lib.hid (trimPre n)
  rw [← hm] at HT
  rw [hsg] at HP
  have hsz := tI_nsize m
  have hd8 : Lib.nDigits m ≤ 8 := (nDigits_le _ _ (by omega)).2 hn
  have hpos : 0 < (tI m).size := by rw [tI_size]; exact List.length_pos_iff.2 (itoa_ne_nil _)
  have hs8 : (tI m).size ≤ 8 := by omega
  have hmk : ∀ w, (Instr.makeSlice 225 (.int .i64 0) (.int .i64 1)).run Tryz.prog w = .ok (.slice (some ⟨w.heap.size, 0, none⟩) 0 1) (w.alloc (.cells #[.int .u64 0] 267)) := fun _ => by kernel_rfl
  have HPU : Hid (Lib.parseUintB 64 (tI m).data.toList = .ok m) := Lib.hid (by
    rw [tI_nat]
    exact parseU_ok m (by omega))
  have hq : ((tI m).size : Int) / 9 = 0 := by omega
  have hmx : max (((tI m).size : Int) - 9) 0 = 0 := by omega
  have hex : (tI m).extract 0 (tI m).size = tI m := ByteArray.extract_zero_size
  clear hsz hd8
  clear hm hsg
  go_enter Tryz.func156, Tryz.ntmps156
  go_wp2_with fail
  refine (Tryz.strings_CutPrefix _ _ _).mono ?_
  rintro e w1 ⟨rfl, rfl⟩
  rw [show (⟨#[45]⟩ : ByteArray).data.toList = [45] from rfl, HT.out, HP.out]
  clear HP HT hn
  go_wp2_with fail
  obtain ⟨W0, hW0⟩ : ∃ W0, W0 = (w.alloc (.cells #[.bool false, .slice none 0 0] 227)).alloc (.cells #[.int .u64 0] 267) := ⟨_, rfl⟩
  rw [← hW0]
  have X0 : Ext w W0 := by rw [hW0]; exact ((Ext.refl w).alloc _).alloc _
  have c0 : Cells w.heap.size [.bool false, .slice none 0 0] W0 := by
    rw [hW0]; intro j hj
    have : j = 0 ∨ j = 1 := by simp at hj; omega
    rcases this with rfl | rfl <;> constructor <;> simp [go_sem]
  have z0 : W0.cell? ⟨w.heap.size + 1, 0, none⟩ = some (.int .u64 0) := by rw [hW0]; simp [go_sem]
  have z1 : W0.frozen? ⟨w.heap.size + 1, 0, none⟩ = false := by rw [hW0]; simp [go_sem]
  clear hW0
  go_loopw [3, 5] (OpR w m) (fun s _ _ => lenS s)
  case atStart => exact ⟨X0, c0, .inl ⟨rfl, rfl, z0, z1⟩⟩
  case round =>
    obtain ⟨X, c, h⟩ := hrel
    clear X0 c0 z0 z1
    rcases h with ⟨rfl, rfl, h1, h2⟩ | ⟨rfl, rfl, h1⟩
    · go_wp2_with fail
      refine (Tryz.strconv_ParseUint_10_at64_ok (tI m) (by omega) m HPU.out wr).mono ?_
      rintro e w2 ⟨rfl, hw2⟩
      have X2 : Ext wr w2 := by
        rcases hw2 with rfl | rfl
        · exact Ext.refl _
        · exact (Ext.refl _).bytes _ _
      have k1 := X2.cell h1
      have k2 : w2.frozen? ⟨w.heap.size + 1, 0, none⟩ = false := ((X2.cells).2 _ _ (World.block_lt_of_cell? wr _ h1)).trans h2
      have c2 := c.ext X2
      have X3 := X.trans X2
      clear hw2 h1 h2 X X2 c
      have hl : w.heap.size + 1 < w2.heap.size := World.block_lt_of_cell? w2 _ k1
      go_wp2_with fail
      go_region
      have hB : Below (w.heap.size + 1) w2 (((w2.setCell ⟨w.heap.size + 1, 0, none⟩ (.int .u64 m)).alloc (.cells #[.int .u64 m] 267)).drew) := by
        refine Below.drew (Below.alloc (Below.setCell (Below.refl _ _) (by show w.heap.size + 1 ≤ w.heap.size + 1; omega) _) ?_ _)
        rw [World.size_setCell]; omega
      have c4 := c2.block hB (by omega)
      have X5 : Ext w (((w2.setCell ⟨w.heap.size + 1, 0, none⟩ (.int .u64 m)).alloc (.cells #[.int .u64 m] 267)).drew) := ((X3.setCell (by show w.heap.size ≤ w.heap.size + 1; omega) _).alloc _).drew
      have k5 : (((w2.setCell ⟨w.heap.size + 1, 0, none⟩ (.int .u64 m)).alloc (.cells #[.int .u64 m] 267)).drew).cell? ⟨w.heap.size + 1, 0, none⟩ = some (.int .u64 m) := by
        have := World.cell?_setCell_same _ _ (.int .u64 m) k1
        simp [go_sem, hl, this]
      go_wp2_with fail
      exact ⟨⟨X5, c4, .inr ⟨rfl, rfl, k5⟩⟩, by simp [lenS]; omega⟩
    · go_wp2_with fail
      refine (trim1_ok _ _ m wr h1).mono ?_
      rintro e w2 ⟨v, rfl, hv, X2⟩
      obtain ⟨va, vk, vc, rfl⟩ := hv.form
      have c2 := c.ext X2
      have X3 := X.trans X2
      have d0 := (c2.at 0 _ rfl).1
      have d1 := (c2.at 1 _ rfl).1
      have d2 := (c2.at 0 _ rfl).2
      have d3 := (c2.at 1 _ rfl).2
      have hq2 := ((c2.put 0 (by simp) (.bool sgn)).put 1 (by simp) (.slice va vk vc))
      have q0 := (hq2.at 0 _ rfl).1
      have q1 := (hq2.at 1 _ rfl).1
      have XE : Ext w ((w2.setCell ⟨w.heap.size, 0, none⟩ (.bool sgn)).setCell ⟨w.heap.size, 1, none⟩ (.slice va vk vc)) := (X3.setCell (by show w.heap.size ≤ w.heap.size; omega) _).setCell (by show w.heap.size ≤ w.heap.size; omega) _
      have hv2 : Mag m (.slice va vk vc) ((w2.setCell ⟨w.heap.size, 0, none⟩ (.bool sgn)).setCell ⟨w.heap.size, 1, none⟩ (.slice va vk vc)) := by
        rcases hv with ⟨h0, h⟩ | ⟨h0, b, c, h, hcell⟩
        · exact .inl ⟨h0, h⟩
        · refine .inr ⟨h0, b, c, h, ?_⟩
          have hne : b ≠ w.heap.size := by
            rintro rfl
            rw [d0] at hcell; cases hcell
          rw [World.cell?_setCell_other _ _ _ _ (by simp [hne]), World.cell?_setCell_other _ _ _ _ (by simp [hne])]
          exact hcell
      go_wp2_with fail
      refine bodyPost_ret (v := .agg #[.bool sgn, .slice va vk vc]) (by simp [results, Tryz.results156, go_sem, q0, q1]) rfl ⟨_, rfl, hv2, XE⟩
end Go.Proofs.YtbiffaciinppiaaGreatDoor
end
