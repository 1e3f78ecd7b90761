/- klippelaw25.ConstraintVariables returns true. ConstraintVariables returns true for every plan of a book and every three numbers, and leaves its arguments as they were; the package-level variables that its row lists are tied to the program's text by the given tie. -/
import Derived.Test.YtbiffaciinppiaaGreatDoorVa32
import Derived.Test.YtbiffaciinppiaaGreatDoorVa30
import Derived.Test.YtbiffaciinppiaaGreatDoorVa27
import Derived.Test.YtbiffaciinppiaaGreatDoorCards
import Derived.Test.YtbiffaciinppiaaGreatDoorTie
import Derived.WalkKit
import Derived.ProofKit
import Derived.OpenShut
import Derived.Carry
import Derived.Deep.DeepHandedRow
import Derived.Lib.LaidTab
import Derived.Shelf.Vars
set_option linter.unusedVariables false
set_option linter.unusedSimpArgs false
section
namespace Go.Proofs.YtbiffaciinppiaaGreatDoor
open Go.RowKit
attribute [local irreducible] tQ
set_option linter.unusedSimpArgs false

theorem bkOf_col (s : Sh) (hh : Hts) (l : List Sg) : (bkOf s hh l).col.length = 3 := rfl
theorem bkOf_pts (s : Sh) (hs : ShW s) (hh : Hts) (l : List Sg) : 0 < (bkOf s hh l).pts.length ∧ (bkOf s hh l).pts.length ≤ 6 := by
  show 0 < (mkPts s (s.kind % 8).toNat).length ∧ (mkPts s (s.kind % 8).toNat).length ≤ 6
  unfold mkPts
  rw [List.length_map]
  exact ⟨shp_pos _, (shp_ok _ (by have := hs.k0; omega)).2.2.2.2.1⟩
/-- What Variable returns. -/
structure VarR (P : Nat) (x0 x1 vv ve : Int) (ob : Bool) : Prop where
  out : ob = true → (x0 < 0 ∨ 2 ≤ x0 ∨ x1 < 0 ∨ (P : Int) ≤ x1) ∧ vv = 0 ∧ ve = 3
  inn : ob = false → 0 ≤ x0 ∧ x0 < 2 ∧ 0 ≤ x1 ∧ x1 < P ∧ vv = x0 * P + x1 ∧ ve = 0
structure PlaR (P : Nat) (x2 sv iv ev : Int) (pb : Bool) : Prop where
  out : pb = true → (x2 < 0 ∨ 2 * (P : Int) ≤ x2) ∧ sv = 0 ∧ iv = 0 ∧ ev = 3
  inn : pb = false → 0 ≤ x2 ∧ x2 < 2 * (P : Int) ∧ 0 ≤ sv ∧ sv < 2 ∧ 0 ≤ iv ∧ iv < P ∧ sv * P + iv = x2 ∧ ev = 0
section
variable (N D : Nat) (b : Bk) (cyc : List Int) (hb : BkOk N D b cyc) (hs : b.col.length = 3) (hp0 : 0 < b.pts.length) (hp : b.pts.length ≤ 6) (a : BkA) (w : World) (g : Glob w) (hI : BkIn w a b)
include hb hs hp0 hp g hI
theorem var_of (x0 x1 : Int) : ∃ (vv ve : Int) (ob : Bool), VarR b.pts.length x0 x1 vv ve ob ∧ ∀ W, Ext w W → Calls Tryz.prog 14 #[bkV a b, .int .i64 x0, .int .i64 x1] W (Ret (.tuple #[.int .i64 vv, .int .i64 ve]) W) := by
  by_cases h : 0 ≤ x0 ∧ x0 < 2 ∧ 0 ≤ x1 ∧ x1 < b.pts.length
  · obtain ⟨h0, h1, h2, h3⟩ := h
    obtain ⟨i, rfl⟩ : ∃ i : Nat, x0 = i := ⟨x0.toNat, by omega⟩
    obtain ⟨j, rfl⟩ : ∃ j : Nat, x1 = j := ⟨x1.toNat, by omega⟩
    exact ⟨((i * b.pts.length + j : Nat) : Int), 0, false, ⟨fun e => (by cases e), fun _ => ⟨h0, h1, h2, h3, by push_cast; rfl, rfl⟩⟩, fun W X => variable_in N D b cyc hb 2 hs (by omega) (by omega) a W (g.ext X) (hI.ext X) i j (by omega) (by omega)⟩
  · exact ⟨0, 3, true, ⟨fun _ => ⟨by omega, rfl, rfl⟩, fun e => (by cases e)⟩, fun W X => variable_out N D b cyc hb 2 hs (by omega) (by omega) a W (g.ext X) (hI.ext X) x0 x1 (by omega)⟩
theorem pla_of (x2 : Int) : ∃ (sv iv ev : Int) (pb : Bool), PlaR b.pts.length x2 sv iv ev pb ∧ ∀ W, Ext w W → Calls Tryz.prog 15 #[bkV a b, .int .i64 x2] W (Ret (.tuple #[.int .i64 sv, .int .i64 iv, .int .i64 ev]) W) := by
  by_cases h : 0 ≤ x2 ∧ x2 < 2 * (b.pts.length : Int)
  · obtain ⟨x, rfl⟩ : ∃ x : Nat, x2 = x := ⟨x2.toNat, by omega⟩
    have hx : x < 2 * b.pts.length := by omega
    have hd := Nat.div_add_mod x b.pts.length
    have hm := Nat.mod_lt x hp0
    have hq : x / b.pts.length < 2 := (Nat.div_lt_iff_lt_mul hp0).2 hx
    refine ⟨((x / b.pts.length : Nat) : Int), ((x % b.pts.length : Nat) : Int), 0, false, ⟨fun e => (by cases e), fun _ => ⟨by omega, by omega, Int.natCast_nonneg _, by exact_mod_cast hq, Int.natCast_nonneg _, by exact_mod_cast hm, ?_, rfl⟩⟩, fun W X => place_in N D b cyc hb 2 hs (by omega) (by omega) a W (g.ext X) (hI.ext X) x hx⟩
    rw [Nat.mul_comm] at hd
    exact_mod_cast hd
  · exact ⟨0, 0, 3, true, ⟨fun _ => ⟨by omega, rfl, rfl, rfl⟩, fun e => (by cases e)⟩, fun W X => place_out N D b cyc hb 2 hs (by omega) (by omega) a W (g.ext X) (hI.ext X) x2 (by omega)⟩
end
set_option maxRecDepth 100000 in
set_option maxHeartbeats 4000000 in
theorem cv_ok (s : Sh) (hs : ShW s) (hh : Hts) (hhw : HtW hh) (l : List Sg) (hlw : ∀ g ∈ l, SgW g) (sa : Option Addr) (sc : Nat) (x0 x1 x2 : Int) (w : World) (g : Glob w) (hin : SgsIn w sa l) :
    Calls Tryz.prog 3 #[plV s hh sa l.length sc, .agg #[.int .i64 x0, .int .i64 x1, .int .i64 x2]] w (Ret (.bool true) w) := by
  have HK := Lib.hid (fun W (X : Ext w W) => known_ok W (g.ext X))
  have HMk := Lib.hid (fun (h6 : l.length ≤ 6) W (X : Ext w W) => l24make_ok s hs hh hhw l h6 hlw sa sc W (g.ext X) (hin.ext X))
  have HB := Lib.hid (fun (h6 : l.length ≤ 6) => bkOf_ok s hs hh l h6 hlw)
  have HP := Lib.hid (bkOf_pts s hs hh l)
  have HG := Lib.hid g
  have HCol := Lib.hid (bkOf_col s hh l)
  clear hin hlw g hhw hs
  simp only [plV] at *
  go_enter Tryz.func3, Tryz.ntmps3
  go_upto_region 1 with fail
  have hW : ∃ W0, W0 = (w.alloc (.cells (plL s hh sa l.length sc).toArray 31)).alloc (.cells #[.int .i64 x0, .int .i64 x1, .int .i64 x2] 32) := ⟨_, rfl⟩
  obtain ⟨W0, hW⟩ := hW
  have X0 : Ext w W0 := by rw [hW]; exact ((Ext.refl w).alloc _).alloc _
  have cP : Cells w.heap.size (plL s hh sa l.length sc) W0 := by rw [hW]; exact (Cells.new w (plL s hh sa l.length sc) 31).ext ((Ext.refl _).alloc _)
  have cX : Cells (w.heap.size + 1) [.int .i64 x0, .int .i64 x1, .int .i64 x2] W0 := by
    have := Cells.new (w.alloc (.cells (plL s hh sa l.length sc).toArray 31)) [.int .i64 x0, .int .i64 x1, .int .i64 x2] 32
    rw [World.size_alloc] at this
    rw [hW]; exact this
  unfold plL at hW
  rw [← hW]
  clear hW
  by_cases h6 : 6 < l.length
  · have d6 : decide ((l.length : Int) > 6) = true := decide_eq_true (by omega)
    have c6 : (6 : Int) < l.length := by omega
    clear h6 HMk HB HP HCol HG
    go_wp2_with fail
    refine (HK.out W0 X0).mono ?_
    rintro e w1 ⟨rfl, X1⟩
    have X2 := X0.trans X1
    have p11 := ((cP.ext X1).at 11 _ rfl).1
    clear X1 X0 cX cP
    go_wp2_with fail
    refine (HK.out w1 X2).mono ?_
    rintro e w2 ⟨rfl, X3⟩
    have HX := Lib.hid (X2.trans X3)
    clear X2 X3 p11
    go_wp2_with fail
    go_ret
    exact ⟨rfl, HX.out⟩
  have h6' : l.length ≤ 6 := by omega
  have d6 : decide ((l.length : Int) > 6) = false := decide_eq_false (by omega)
  have c6 : (l.length : Int) ≤ 6 := by omega
  have HMk2 := Lib.hid (HMk.out h6')
  have HB2 := Lib.hid (HB.out h6')
  clear h6 HMk HB h6'
  go_wp2_with fail
  refine (HK.out W0 X0).mono ?_
  rintro e w1 ⟨rfl, X1⟩
  have XX := X0.trans X1
  have cP1 := cP.ext X1
  have cX1 := cX.ext X1
  clear cP cX X0 X1 HK
  have p0 := (cP1.at 0 _ rfl).1
  have p1 := (cP1.at 1 _ rfl).1
  have p2 := (cP1.at 2 _ rfl).1
  have p3 := (cP1.at 3 _ rfl).1
  have p4 := (cP1.at 4 _ rfl).1
  have p5 := (cP1.at 5 _ rfl).1
  have p6 := (cP1.at 6 _ rfl).1
  have p7 := (cP1.at 7 _ rfl).1
  have p8 := (cP1.at 8 _ rfl).1
  have p9 := (cP1.at 9 _ rfl).1
  have p10 := (cP1.at 10 _ rfl).1
  have p11 := (cP1.at 11 _ rfl).1
  go_wp2_with fail
  refine (HMk2.out w1 XX).mono ?_
  rintro e w2 ⟨a, rfl, hI, X2⟩
  have XY := XX.trans X2
  have cX2 := cX1.ext X2
  have hbok := HB2.out
  have hcol := HCol.out
  have hpp := HP.out
  have hg2 := HG.out.ext XY
  clear p0 p1 p2 p3 p4 p5 p6 p7 p8 p9 p10 p11 cP1 cX1 XX X2 HMk2 HB2 HCol HP HG d6 c6
  generalize bkOf s hh l = b at *
  obtain ⟨vv, ve, ob, hV, hVc⟩ := var_of 284 4 b _ hbok hcol hpp.1 hpp.2 a w2 hg2 hI x0 x1
  obtain ⟨sv, iv, ev, pb', hPl, hPc⟩ := pla_of 284 4 b _ hbok hcol hpp.1 hpp.2 a w2 hg2 hI x2
  have hCc : ∀ W, Ext w2 W → Calls Tryz.prog 13 #[bkV a b] W (Ret (.tuple #[.int .i64 ((2 * b.pts.length : Nat) : Int), .int .i64 0]) W) := fun W X => count_ok 284 4 b _ hbok 2 hcol (by omega) (by omega) a W (hg2.ext X) (hI.ext X)
  have hLc : ∀ W, Ext w2 W → Calls Tryz.prog 16 #[bkV a b] W (Ret (.int .i64 ((2 * b.pts.length : Nat) : Int)) W) := fun W _ => lcount_ok b 2 hcol (by omega) (by omega) a W
  have hbv : bkV a b = .agg #[.slice (some ⟨a.pb, a.po, none⟩) b.pts.length a.pc, .slice (some ⟨a.tb, a.tO, none⟩) b.tris.length a.tc, .slice (some ⟨a.fb, a.fo, none⟩) b.pts.length a.fc, .slice (some ⟨a.lb, a.lo, none⟩) 3 a.lc, .slice a.oa b.obs.length a.oc] := by
    unfold bkV; rw [hcol]
  rw [hbv] at hVc hPc hCc hLc ⊢
  have HV := Lib.hid hVc
  have HP := Lib.hid hPc
  have HC := Lib.hid hCc
  have HL := Lib.hid hLc
  have HVr := Lib.hid hV
  have HPr := Lib.hid hPl
  have HPP := Lib.hid hpp
  clear hVc hPc hCc hLc hbv hV hPl hpp hbok hcol hg2 hI
  generalize b.pts.length = P at *
  generalize b.tris.length = T at *
  generalize b.obs.length = O at *
  obtain ⟨pb, po, pc, tb, tO, tc, fb, fo, fc, lb, lo, lc, oc, oa⟩ := a
  have h2P : ∃ Q : Nat, Q = 2 * P := ⟨_, rfl⟩
  obtain ⟨Q, h2P⟩ := h2P
  rw [← h2P] at HC HL
  have HQ := Lib.hid h2P
  clear h2P
  simp only at *
  go_upto_region 4 with fail
  have hW : ∃ W3, W3 = w2.alloc (.cells #[.slice (some ⟨pb, po, none⟩) P pc, .slice (some ⟨tb, tO, none⟩) T tc, .slice (some ⟨fb, fo, none⟩) P fc, .slice (some ⟨lb, lo, none⟩) 3 lc, .slice oa O oc] 43) := ⟨_, rfl⟩
  obtain ⟨W3, hW⟩ := hW
  rw [← hW]
  have X3 : Ext w2 W3 := by rw [hW]; exact (Ext.refl w2).alloc _
  have cB : Cells w2.heap.size [.slice (some ⟨pb, po, none⟩) P pc, .slice (some ⟨tb, tO, none⟩) T tc, .slice (some ⟨fb, fo, none⟩) P fc, .slice (some ⟨lb, lo, none⟩) 3 lc, .slice oa O oc] W3 := by rw [hW]; exact Cells.new _ _ _
  clear hW
  have cX3 := cX2.ext X3
  clear cX2
  obtain ⟨b0, b1, b2, b3, b4⟩ := five cB
  go_wp2_with fail
  refine (HC.out W3 X3).mono ?_
  rintro e w4 ⟨rfl, X4⟩
  have Y4 := X3.trans X4
  clear b0 b1 b2 b3 b4
  obtain ⟨b0, b1, b2, b3, b4⟩ := five (cB.ext X4)
  have q0 := ((cX3.ext X4).at 0 _ rfl).1
  have q1 := ((cX3.ext X4).at 1 _ rfl).1
  go_wp2_with fail
  refine (HV.out w4 Y4).mono ?_
  rintro e w5 ⟨rfl, X5⟩
  have Y5 := Y4.trans X5
  have X45 := X4.trans X5
  clear b0 b1 b2 b3 b4 q0 q1
  obtain ⟨b0, b1, b2, b3, b4⟩ := five (cB.ext X45)
  have q2 := ((cX3.ext X45).at 2 _ rfl).1
  go_wp2_with fail
  refine (HP.out w5 Y5).mono ?_
  rintro e w6 ⟨rfl, X6⟩
  have Y6 := Y5.trans X6
  have X46 := X45.trans X6
  clear b0 b1 b2 b3 b4 q2
  obtain ⟨b0, b1, b2, b3, b4⟩ := five (cB.ext X46)
  go_wp2_with fail
  refine (HL.out w6 Y6).mono ?_
  rintro e w7 ⟨rfl, X7⟩
  have X47 := X46.trans X7
  have XZ := Lib.hid (XY.trans (Y6.trans X7))
  clear b0 b1 b2 b3 b4
  obtain ⟨b0, b1, b2, b3, b4⟩ := five (cB.ext X47)
  have q0 := ((cX3.ext X47).at 0 _ rfl).1
  have q1 := ((cX3.ext X47).at 1 _ rfl).1
  have q2 := ((cX3.ext X47).at 2 _ rfl).1
  clear cB cX3 X3 X4 Y4 X5 Y5 X45 X6 Y6 X46 X7 X47 XY HC HV HP HL
  go_upto_region 10 with fail
  go_cut [81] (fun s81 wx => s81 = .bool ob ∧ wx = w7)
  case first =>
    have hv := HVr.out
    cases ob with
    | true =>
      have ho := (hv.out rfl).1
      clear hv
      by_cases c1 : x0 < 0
      · have d1 : decide (x0 < 0) = true := decide_eq_true c1
        clear ho
        go_wp2_with fail
        go_meet
        exact ⟨rfl, rfl⟩
      have d1 : decide (x0 < 0) = false := decide_eq_false c1
      by_cases c2 : (2 : Int) ≤ x0
      · have d2 : decide (x0 ≥ 2) = true := decide_eq_true c2
        clear ho
        go_wp2_with fail
        go_meet
        exact ⟨rfl, rfl⟩
      have d2 : decide (x0 ≥ 2) = false := decide_eq_false c2
      have c2' : x0 < 2 := by omega
      by_cases c3 : x1 < 0
      · have d3 : decide (x1 < 0) = true := decide_eq_true c3
        clear ho
        go_wp2_with fail
        go_meet
        exact ⟨rfl, rfl⟩
      have d3 : decide (x1 < 0) = false := decide_eq_false c3
      have c4 : (P : Int) ≤ x1 := by omega
      have d4 : decide (x1 ≥ (P : Int)) = true := decide_eq_true c4
      clear ho
      go_wp2_with fail
      go_meet
      exact ⟨rfl, rfl⟩
    | false =>
      obtain ⟨a0, a1, a2, a3, a5, a6⟩ := hv.inn rfl
      clear hv a5 a6
      have d1 : decide (x0 < 0) = false := decide_eq_false (by omega)
      have d2 : decide (x0 ≥ 2) = false := decide_eq_false (by omega)
      have d3 : decide (x1 < 0) = false := decide_eq_false (by omega)
      have d4 : decide (x1 ≥ (P : Int)) = false := decide_eq_false (by omega)
      go_wp2_with fail
      go_meet
      exact ⟨rfl, rfl⟩
  case rest =>
    obtain ⟨rfl, rfl⟩ := hcut
    go_upto_if 81 with fail
    go_cut [81] (fun s81 wx => wx = wc)
    case first =>
      have hv := HVr.out
      cases ob with
      | true =>
        obtain ⟨_, rfl, rfl⟩ := hv.out rfl
        clear hv
        go_wp2_with fail
        go_meet
        rfl
      | false =>
        obtain ⟨a0, a1, a2, a3, a4, rfl⟩ := hv.inn rfl
        clear hv
        have hPP := HPP.out
        have hwP : IntKind.i64.wrap (P : Int) = P := by simp only [IntKind.wrap_i64]; omega
        have hwx : IntKind.i64.wrap x1 = x1 := by simp only [IntKind.wrap_i64]; omega
        have hwPx : IntKind.i64.wrap ((P : Int) + x1) = P + x1 := by simp only [IntKind.wrap_i64]; omega
        clear hPP a2 a3
        rcases (show x0 = 0 ∨ x0 = 1 by omega) with rfl | rfl
        · obtain rfl : vv = x1 := by rw [a4]; omega
          clear a4
          go_wp2_with fail
          go_meet
          rfl
        · obtain rfl : vv = (P : Int) + x1 := by rw [a4]; omega
          clear a4
          go_wp2_with fail
          go_meet
          rfl
    case rest =>
      obtain rfl := hcut
      clear HVr
      have hpr := HPr.out
      have hq := HQ.out
      cases pb' with
      | true =>
        obtain ⟨ho, rfl, rfl, rfl⟩ := hpr.out rfl
        clear hpr
        by_cases c1 : x2 < 0
        · have d1 : decide (x2 < 0) = true := decide_eq_true c1
          clear ho hq
          go_wp2_with fail
          go_ret
          exact ⟨rfl, XZ.out⟩
        have d1 : decide (x2 < 0) = false := decide_eq_false c1
        have c2 : (Q : Int) ≤ x2 := by omega
        have d2 : decide (x2 ≥ (Q : Int)) = true := decide_eq_true c2
        clear ho hq
        go_wp2_with fail
        go_ret
        exact ⟨rfl, XZ.out⟩
      | false =>
        obtain ⟨a0, a1, a2, a3, a4, a5, a6, rfl⟩ := hpr.inn rfl
        clear hpr
        have d1 : decide (x2 < 0) = false := decide_eq_false (by omega)
        have d2 : decide (x2 ≥ (Q : Int)) = false := decide_eq_false (by omega)
        have c1 : x2 < (Q : Int) := by omega
        have d3 : decide (iv ≥ 0) = true := decide_eq_true a4
        have d4 : decide (iv < (P : Int)) = true := decide_eq_true a5
        have hPP := HPP.out
        have hwP : IntKind.i64.wrap (P : Int) = P := by simp only [IntKind.wrap_i64]; omega
        have hwx : IntKind.i64.wrap iv = iv := by simp only [IntKind.wrap_i64]; omega
        have hwPx : IntKind.i64.wrap ((P : Int) + iv) = P + iv := by simp only [IntKind.wrap_i64]; omega
        clear hPP hq
        rcases (show sv = 0 ∨ sv = 1 by omega) with rfl | rfl
        · obtain rfl : x2 = iv := by rw [← a6]; omega
          clear a6 a1
          go_wp2_with fail
          go_ret
          exact ⟨rfl, XZ.out⟩
        · obtain rfl : x2 = (P : Int) + iv := by rw [← a6]; omega
          clear a6 a1
          go_wp2_with fail
          go_ret
          exact ⟨rfl, XZ.out⟩
end Go.Proofs.YtbiffaciinppiaaGreatDoor
end

section
namespace Go.Proofs.YtbiffaciinppiaaGreatDoor
open Go.ChangeShapes Go.WideShapes Go.ChangeAt Go.RowKit

theorem own : ownKnob Tryz.prog.godebug = none := by kernel_rfl
theorem iface_inv {P : Program} {w : World} {base : Nat} {sp : Nat → Bool} {fuel : Nat} {t : TypeId} {ms : Array (String × TypeId)} {cs : List Value} {name : String} {d : DataW Unit} {p : List MemPlace}
    (ht : P.underlying t = some (.interface ms)) (h : DataW.trod (fun _ => ()) P w base sp false fuel t cs = some (.iface name d, p)) : ∃ te pe, cs = [.iface te pe] := by
  cases fuel with
  | zero => simp [DataW.trod] at h
  | succ fuel =>
    unfold DataW.trod at h
    rw [ht] at h
    split at h <;> simp_all
theorem glob_of {W : World} (hL : laidMetH Tryz.prog Rows.constraintVariablesRow.laid W) (hsh : W.ShapedOpen Tryz.prog) : Glob W := by
  have hL' : laidMet Tryz.prog Rows.constraintVariablesRow.laid W := hL
  obtain ⟨ps, ⟨_, _, _, _, _, _, _, _, _, _, ⟨_, _, _, _, _, _, _, _, _, _, ⟨g3, t3, cs3, f3, p3, q3, hg3, ht3, hv3, hd3, ⟨g4, t4, cs4, f4, p4, q4, hg4, ht4, hv4, hd4, ⟨g5, t5, cs5, f5, p5, q5, hg5, ht5, hv5, hd5, _, _⟩, _⟩, _⟩, _⟩, _⟩, _⟩ := hL'
  obtain rfl := Option.some.inj ((show Tryz.prog.globalNamed "internal/strconv.uint64pow10" = some 3 by kernel_rfl).symm.trans hg3)
  obtain rfl := Option.some.inj ((show (Tryz.prog.globals[3]?).map (·.type) = some 326 by kernel_rfl).symm.trans ht3)
  obtain rfl := Option.some.inj ((show Tryz.prog.globalNamed "strconv.ErrRange" = some 2 by kernel_rfl).symm.trans hg4)
  obtain rfl := Option.some.inj ((show (Tryz.prog.globals[2]?).map (·.type) = some 263 by kernel_rfl).symm.trans ht4)
  obtain rfl := Option.some.inj ((show Tryz.prog.globalNamed "strconv.ErrSyntax" = some 1 by kernel_rfl).symm.trans hg5)
  obtain rfl := Option.some.inj ((show (Tryz.prog.globals[1]?).map (·.type) = some 263 by kernel_rfl).symm.trans ht5)
  refine ⟨?_, ?_, ?_, ?_⟩
  · unfold Lib.TabIs
    rw [hv3, ← Lib.cells_of_tab (k := .u64) (zs := Lib.pow10Tab) Tryz.underlying326 Tryz.underlying267 (by kernel_rfl) (by kernel_rfl) hd3]
  · exact Go.Proofs.cell_of_shapedOpen_int (zero := #[.int .i64 0]) (t := 3) hsh (of_decide_eq_true (by kernel_rfl)) (by kernel_rfl) rfl (by kernel_rfl) (by kernel_rfl) Tryz.underlying3
  · obtain ⟨te, pe, he⟩ := iface_inv Tryz.underlying263 hd5
    refine ⟨.iface te pe, ?_, .inr ⟨te, pe, rfl⟩⟩
    rw [World.var?_cell hg5 hv5, ← Array.getElem?_toList, he]; rfl
  · obtain ⟨te, pe, he⟩ := iface_inv Tryz.underlying263 hd4
    refine ⟨.iface te pe, ?_, .inr ⟨te, pe, rfl⟩⟩
    rw [World.var?_cell hg4 hv4, ← Array.getElem?_toList, he]; rfl
end Go.Proofs.YtbiffaciinppiaaGreatDoor
end
