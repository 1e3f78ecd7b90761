/- klippelaw13.Same, klippelaw25.sameRow at equal rows. The rows of the example's observations. klippelaw25.known: the examples of the chapter hold. The arguments of the laws, opened: a plan and three numbers. No walk. -/
import Derived.Test.YtbiffaciinppiaaGreatDoorVa12
import Derived.Test.YtbiffaciinppiaaGreatDoorVa13
import Derived.Deep.QuietTactic
import Derived.BigQuiet
import Derived.Test.YtbiffaciinppiaaGreatDoorVa27
import Derived.Test.YtbiffaciinppiaaGreatDoorVa31
import Derived.Test.YtbiffaciinppiaaGreatDoorVa30
import Derived.Test.YtbiffaciinppiaaGreatDoorVa29
import Derived.Deep.Slices
import Derived.OpenShut
set_option linter.unusedVariables false
set_option linter.unusedSimpArgs false
section
namespace Go.Proofs.YtbiffaciinppiaaGreatDoor
open Go.RowKit
attribute [local irreducible] tQ

def SmR (n : Nat) (w : World) (v5 : Value) (wr : World) : Prop := ∃ k : Nat, k ≤ n ∧ v5 = .int .i64 k ∧ Ext w wr
set_option maxRecDepth 100000 in
set_option maxHeartbeats 1000000 in
theorem same_ok (l : List Rat) (b1 o1 c1 b2 o2 c2 : Nat) (w : World) (hl : l.length ≤ 1000) (h1 : FldIn w b1 o1 l) (h2 : FldIn w b2 o2 l) :
    Calls Tryz.prog 24 #[.slice (some ⟨b1, o1, none⟩) l.length c1, .slice (some ⟨b2, o2, none⟩) l.length c2] w (Ret (.bool true) w) := by
  have H1 := Lib.hid h1
  have H2 := Lib.hid h2
  clear h1 h2
  have X0 := Ext.refl w
  go_enter Tryz.func24, Tryz.ntmps24
  go_wp2_with fail
  go_loopw [5] (SmR l.length w) (fun p _ => l.length - (intOf p).toNat)
  case atStart => exact ⟨0, by omega, rfl, X0⟩
  case round =>
    obtain ⟨k, hk, rfl, XR⟩ := hrel
    by_cases hlt : k < l.length
    · have g1 := (H1.out.ext XR) k hlt
      have g2 := (H2.out.ext XR) k hlt
      have kl : (k : Int) < l.length := by omega
      generalize tQ l[k] = t at *
      go_wp2_with fail
      go_quiet (fail)
      go_wp2_with fail
      exact ⟨⟨k + 1, hlt, by simp, XR.drewN _⟩, by simp only [intOf]; omega⟩
    · have hkk : k = l.length := by omega
      have kl : decide ((k : Int) < l.length) = false := decide_eq_false (by omega)
      go_wp2_with fail
      go_ret
      exact ⟨rfl, XR⟩
set_option maxRecDepth 100000 in
set_option maxHeartbeats 1000000 in
theorem sameRow_ok (l : List Rat) (t : ByteArray) (b1 o1 c1 b2 o2 c2 : Nat) (w : World) (hl : l.length ≤ 1000) (h1 : FldIn w b1 o1 l) (h2 : FldIn w b2 o2 l) :
    Calls Tryz.prog 36 #[.agg #[.slice (some ⟨b1, o1, none⟩) l.length c1, .string t], .agg #[.slice (some ⟨b2, o2, none⟩) l.length c2, .string t]] w (Ret (.bool true) w) := by
  have HS := Lib.hid (fun W (X : Ext w W) => same_ok l b1 o1 c1 b2 o2 c2 W hl (h1.ext X) (h2.ext X))
  clear h1 h2
  go_enter Tryz.func36, Tryz.ntmps36
  go_wp2_with fail
  have X0 := ((Ext.refl w).alloc (.cells #[.slice (some ⟨b1, o1, none⟩) l.length c1, .string t] 101)).alloc (.cells #[.slice (some ⟨b2, o2, none⟩) l.length c2, .string t] 101)
  refine (HS.out _ X0).mono ?_
  rintro e w1 ⟨rfl, X1⟩
  have q0 : w1.cell? ⟨w.heap.size, 1, none⟩ = some (.string t) := X1.cell (by simp [go_sem])
  have q1 : w1.cell? ⟨w.heap.size + 1, 1, none⟩ = some (.string t) := X1.cell (by simp [go_sem])
  go_wp2_with fail
  go_ret
  exact ⟨rfl, X0.trans X1⟩
end Go.Proofs.YtbiffaciinppiaaGreatDoor
end

section
namespace Go.Proofs.YtbiffaciinppiaaGreatDoor
open Go.RowKit Go.Maps
attribute [local irreducible] tQ
set_option linter.unusedSimpArgs false

theorem dgI (n : Int) (h : n.natAbs ≤ 1000) : Dg 9 (n : Rat) := (gr_int n 1000 1 (by omega) h).dg (by omega) (by omega)
theorem dg_half : Dg 9 (1 / 2 : Rat) := by
  have h : Gr 1 2 (1 / 2 : Rat) := ⟨by omega, 1, by decide +kernel, by decide⟩
  exact h.dg (by omega) (by omega)
theorem dg_q {q : Rat} (n : Int) (e : q * 12 = n) (h : n.natAbs ≤ 1000) : Dg 9 q := by
  have h : Gr 1000 12 q := ⟨by omega, n, by simpa using e, by omega⟩
  exact h.dg (by omega) (by omega)
theorem exVl (W : World) (g : Glob W) (a : BkA) (hI : BkIn W a exB) :
    Calls Tryz.prog 70 #[mV a.pb a.po a.pc a.tb a.tO a.tc exPts exTris, .slice (some ⟨a.fb, a.fo, none⟩) 3 a.fc, ptV (3, 0)] W (Ret (.tuple #[.string (tQ 10), .int .i64 0]) W) := by
  have h := value_pl exPm exTer a.pb a.po a.pc a.tb a.tO a.tc a.fb a.fo a.fc W g hI.m hI.f rfl (fun q hq => by
    have hq : q ∈ exTer := hq
    simp only [exTer, List.mem_cons, List.not_mem_nil, or_false] at hq
    have : Gr 80 4 (10 : Rat) := ⟨by omega, 40, by decide +kernel, by decide⟩
    rcases hq with rfl | rfl | rfl <;> exact this) (3, 0) gp30 (by show 0 < (locd exPts exTris (3, 0) 1).length; rw [ex_in]; decide)
  rw [exVal] at h
  exact h
theorem exHgt (i : Nat) (hi : i < 2) (z : Rat) (hz : hgt exB.obs[i].kd 10 = z) (a : BkA) (w : World) (g : Glob w) (hI : BkIn w a exB) : Calls Tryz.prog 47 #[bkV a exB, .int .i64 i] w (Ret (.tuple #[.string (tQ z), .int .i64 0]) w) := by
  have h10 : Dg 9 (10 : Rat) := dgI 10 (by decide)
  have hzz : Dg 9 z := by
    rw [← hz]
    rcases (show i = 0 ∨ i = 1 by omega) with rfl | rfl
    · show Dg 9 (hgt exO0.kd 10); rw [exHgt0]; exact dgI 6 (by decide)
    · show Dg 9 (hgt exO1.kd 10); rw [exHgt1]; exact h10
  have h := height_ok 284 4 exB [0, 1, 2] exB_ok a w g hI i hi 10 h10 (by rw [hz]; exact hzz) (fun d hd => by
    rcases (show i = 0 ∨ i = 1 by omega) with rfl | rfl
    · have : Kd.contact 4 = Kd.contact d := hd
      cases this
      exact dgI 4 (by decide)
    · have : Kd.dip (-1) 0 2 = Kd.contact d := hd
      cases this) (fun W X => by
    have hp : exB.obs[i].pt = (3, 0) := by rcases (show i = 0 ∨ i = 1 by omega) with rfl | rfl <;> rfl
    rw [hp]
    exact exVl W (g.ext X) a (hI.ext X))
  rw [hz] at h
  exact h
theorem exSfs (i : Nat) (hi : i < 2) (a : BkA) (w : World) (g : Glob w) (hI : BkIn w a exB) : Calls Tryz.prog 48 #[bkV a exB, .int .i64 i] w (fun e w' => ∃ v, e = .returned (.tuple #[v, .int .i64 0]) ∧ IntsV [0] v w' ∧ Ext w w') := by
  have hu : idxU exB.col exB.obs[i].upper = 1 := by rcases (show i = 0 ∨ i = 1 by omega) with rfl | rfl <;> exact exIdx1
  have hl : idxU exB.col exB.obs[i].lower = 0 := by rcases (show i = 0 ∨ i = 1 by omega) with rfl | rfl <;> exact exIdx0
  have h := surfaces_ok 284 4 exB [0, 1, 2] exB_ok a w g hI i hi 1 0 hu (by omega) (fun _ => ⟨hl, by omega⟩)
  have hs : sfs exB.obs[i].kd 1 0 exB.col.length = [0] := by rcases (show i = 0 ∨ i = 1 by omega) with rfl | rfl <;> rfl
  rw [hs] at h
  exact h
theorem exCh (a : BkA) (w : World) (g : Glob w) (hI : BkIn w a exB) : Calls Tryz.prog 85 #[mV a.pb a.po a.pc a.tb a.tO a.tc exPts exTris, ptV (3, 0)] w (fun e w' => ∃ mb, e = .returned (.tuple #[.map (some mb), .int .i64 (0 : Nat), .int .i64 0]) ∧ w.heap.size ≤ mb ∧ MapR w' mb 3 (fm3 (0 : Nat) (1 : Nat) (2 : Nat) (.string (tQ (1 / 2))) (.string (tQ (1 / 2))) (.string (tQ 0))) ∧ Ext w w') := by
  have hz : (tQ (1 / 2 : Rat)).size ≤ 1000 := by have := dg_half.size; omega
  have hz0 : (tQ (0 : Rat)).size ≤ 1000 := by have := dg_0.size; omega
  exact cheight_ok 284 4 exPts exTris [0, 1, 2] exPm.ok (3, 0) gp30 0 (by decide) [] ex_in a.pb a.po a.pc a.tb a.tO a.tc w g hI.m 0 1 2 rfl ⟨by omega, by omega⟩ ⟨by omega, by omega⟩ ⟨by omega, by omega⟩ ⟨by omega, by omega, by omega⟩ _ _ _ ⟨hz, hz, hz0⟩ (by rw [exW0]) (by rw [exW1]) (by rw [exW2])
def exX : Nat → Rat
  | 0 => -1 / 6
  | 1 => 1 / 6
  | _ => 0
def exY : Nat → Rat
  | 0 => -1 / 4
  | 1 => 0
  | _ => 1 / 4
theorem dgX (j : Nat) : Dg 9 (exX j) := by
  unfold exX
  split
  · exact dg_q (-2) (by decide +kernel) (by decide)
  · exact dg_q 2 (by decide +kernel) (by decide)
  · exact dg_0
theorem dgY (j : Nat) : Dg 9 (exY j) := by
  unfold exY
  split
  · exact dg_q (-3) (by decide +kernel) (by decide)
  · exact dg_0
  · exact dg_q 3 (by decide +kernel) (by decide)
theorem exSl (a : BkA) (w : World) (g : Glob w) (hI : BkIn w a exB) : Calls Tryz.prog 89 #[mV a.pb a.po a.pc a.tb a.tO a.tc exPts exTris, .int .i64 (0 : Nat)] w (fun e w' => ∃ me mn, e = .returned (.tuple #[.map (some me), .map (some mn), .int .i64 0]) ∧ w.heap.size ≤ me ∧ w.heap.size ≤ mn ∧ MapR w' me 3 (fm3 (0 : Nat) (1 : Nat) (2 : Nat) (.string (tQ (exX 0))) (.string (tQ (exX 1))) (.string (tQ (exX 2)))) ∧ MapR w' mn 3 (fm3 (0 : Nat) (1 : Nat) (2 : Nat) (.string (tQ (exY 0))) (.string (tQ (exY 1))) (.string (tQ (exY 2)))) ∧ Ext w w') := by
  have ht : trq exTris 0 = (0, 1, 2) := rfl
  have hl : exPts.length = 3 := rfl
  refine slopes_ok exPm (by decide) 0 (by decide) 0 1 2 rfl (by decide) (by decide) (fun j => tQ (exX j)) (fun j => tQ (exY j)) ?_ ?_ ?_ (fun j => ⟨by have := (dgX j).size; omega, by have := (dgY j).size; omega⟩) a.pb a.po a.pc a.tb a.tO a.tc w g hI.m
  · rw [ht, hl, exE0, exN0]; exact ⟨rfl, rfl⟩
  · rw [ht, hl, exE1, exN1]; exact ⟨rfl, rfl⟩
  · rw [ht, hl, exE2, exN2]; exact ⟨rfl, rfl⟩
def exR0 : List ((Nat → Rat) × Rat) := [0].flatMap (rowsX 3 0 1 2 (1 / 2) (1 / 2) 0 6)
def exR1 : List ((Nat → Rat) × Rat) := [0].flatMap (rowsX2 3 0 1 2 (exX 0) (exX 1) (exX 2) (-(-1) / 2) (exY 0) (exY 1) (exY 2) (-0 / 2))
theorem exRows0 (a : BkA) (w : World) (g : Glob w) (hI : BkIn w a exB) : Calls Tryz.prog 45 #[shpV 1 3, bkV a exB, .int .i64 (0 : Nat)] w (RowsP (1 * 3) exR0 w) := by
  obtain ⟨bb, oo, hoa, hcells⟩ := hI.o (by simp [exB])
  have hh := rows_con 1 3 (by omega) (by omega) (by omega) (by omega) 0 1 2 (by omega) (by omega) a.pb a.po a.pc a.tb a.tO a.tc a.fb a.fo a.fc a.lb a.lo a.lc bb oo a.oc 3 1 3 2 2 0 (by omega) (by omega) ⟨#[99]⟩ (tQ 3) (tQ 0) (tQ 4) ⟨#[66]⟩ ⟨#[65]⟩ w g (fun k u hu => hcells 0 (by decide) k u hu)
    0 [0] (by simp) (by simp) (1 / 2) (1 / 2) 0 6 dg_half dg_half dg_0 (dgI 6 (by decide)) (fun W X => exCh a W (g.ext X) (hI.ext X)) (fun W X => by
      have := exHgt 0 (by omega) 6 exHgt0 a W (g.ext X) (hI.ext X)
      unfold bkV at this
      rw [hoa] at this
      exact this) (fun W X => by
      have := exSfs 0 (by omega) a W (g.ext X) (hI.ext X)
      unfold bkV at this
      rw [hoa] at this
      exact this)
  unfold bkV
  rw [hoa]
  exact hh
theorem exRows1 (a : BkA) (w : World) (g : Glob w) (hI : BkIn w a exB) : Calls Tryz.prog 45 #[shpV 1 3, bkV a exB, .int .i64 (1 : Nat)] w (RowsP (1 * 3) exR1 w) := by
  obtain ⟨bb, oo, hoa, hcells⟩ := hI.o (by simp [exB])
  have hh := rows_dip 1 3 (by omega) (by omega) (by omega) (by omega) 0 1 2 (by omega) (by omega) a.pb a.po a.pc a.tb a.tO a.tc a.fb a.fo a.fc a.lb a.lo a.lc bb oo a.oc 3 1 3 2 2 1 (by omega) (by omega) ⟨#[100]⟩ (tQ 3) (tQ 0) ⟨#[66]⟩ ⟨#[65]⟩ (-1) 0 2 (dgI (-1) (by decide)) dg_0 (dgI 2 (by decide)) (by decide +kernel) w g (fun k u hu => hcells 1 (by decide) k u hu)
    0 [0] (by simp) (by simp) (1 / 2) (1 / 2) 0 10 dg_half dg_half dg_0 (dgI 10 (by decide)) (fun W X => exCh a W (g.ext X) (hI.ext X)) (fun W X => by
      have := exHgt 1 (by omega) 10 exHgt1 a W (g.ext X) (hI.ext X)
      unfold bkV at this
      rw [hoa] at this
      exact this) (fun W X => by
      have := exSfs 1 (by omega) a W (g.ext X) (hI.ext X)
      unfold bkV at this
      rw [hoa] at this
      exact this)
    (exX 0) (exX 1) (exX 2) (exY 0) (exY 1) (exY 2) (dgX 0) (dgX 1) (dgX 2) (dgY 0) (dgY 1) (dgY 2) (dg_q 6 (by decide +kernel) (by decide)) (dg_q 0 (by decide +kernel) (by decide)) (fun W X => exSl a W (g.ext X) (hI.ext X))
  unfold bkV
  rw [hoa]
  exact hh
theorem exOf0 (a : BkA) (w : World) (g : Glob w) (hI : BkIn w a exB) : Calls Tryz.prog 20 #[bkV a exB, .int .i64 (0 : Nat)] w (RowsP (1 * 3) exR0 w) :=
  of_ok 284 4 exB [0, 1, 2] exB_ok 1 rfl (by decide) (by decide) a w g hI 0 (by decide) (1 * 3) exR0 (fun W X => exRows0 a W (g.ext X) (hI.ext X))
theorem exOf1 (a : BkA) (w : World) (g : Glob w) (hI : BkIn w a exB) : Calls Tryz.prog 20 #[bkV a exB, .int .i64 (1 : Nat)] w (RowsP (1 * 3) exR1 w) :=
  of_ok 284 4 exB [0, 1, 2] exB_ok 1 rfl (by decide) (by decide) a w g hI 1 (by decide) (1 * 3) exR1 (fun W X => exRows1 a W (g.ext X) (hI.ext X))
theorem exCount (a : BkA) (w : World) (g : Glob w) (hI : BkIn w a exB) : Calls Tryz.prog 13 #[bkV a exB] w (Ret (.tuple #[.int .i64 3, .int .i64 0]) w) :=
  count_ok 284 4 exB [0, 1, 2] exB_ok 1 rfl (by decide) (by decide) a w g hI
end Go.Proofs.YtbiffaciinppiaaGreatDoor
end

section
namespace Go.Proofs.YtbiffaciinppiaaGreatDoor
open Go.RowKit Go.Maps
attribute [local irreducible] tQ
set_option linter.unusedSimpArgs false

theorem tQ_6 : tQ 6 = ⟨#[54]⟩ := by decide +kernel
theorem tQ_m6 : tQ (-6) = ⟨#[45, 54]⟩ := by decide +kernel
theorem tQ_h : tQ (1 / 2) = ⟨#[49, 47, 50]⟩ := by decide +kernel
theorem tQ_mh : tQ (-1 / 2) = ⟨#[45, 49, 47, 50]⟩ := by decide +kernel
theorem tQ_s : tQ (1 / 6) = ⟨#[49, 47, 54]⟩ := by decide +kernel
theorem tQ_ms : tQ (-1 / 6) = ⟨#[45, 49, 47, 54]⟩ := by decide +kernel
theorem tQ_f : tQ (1 / 4) = ⟨#[49, 47, 52]⟩ := by decide +kernel
theorem tQ_mf : tQ (-1 / 4) = ⟨#[45, 49, 47, 52]⟩ := by decide +kernel
theorem two_of {β : Type} {f : Rw → β} {N : List Rw} {x y : β} (h : N.map f = [x, y]) : ∃ a b, N = [a, b] ∧ f a = x ∧ f b = y := by
  match N, h with
  | [a, b], h => simp only [List.map_cons, List.map_nil, List.cons.injEq, and_true] at h; exact ⟨a, b, rfl, h.1, h.2⟩
theorem four_of {β : Type} {f : Rw → β} {N : List Rw} {x y z u : β} (h : N.map f = [x, y, z, u]) : ∃ a b c d, N = [a, b, c, d] ∧ f a = x ∧ f b = y ∧ f c = z ∧ f d = u := by
  match N, h with
  | [a, b, c, d], h => simp only [List.map_cons, List.map_nil, List.cons.injEq, and_true] at h; exact ⟨a, b, c, d, rfl, h.1, h.2.1, h.2.2.1, h.2.2.2⟩
/-- A row of the list: its cells, and its factors. -/
theorem row_at {base g c n : Nat} {N : List Rw} {w : World} (hown : OwnL (encW 3) 101 2 base N (.slice (some ⟨g, 0, none⟩) n c) w) (hr : RowsIn 3 base N w) (j : Nat) (hj : j < N.length) (l : List Rat) (hl : rowL N[j].G 3 = l) (t : ByteArray) (ht : tQ N[j].b = t) :
    w.cell? ⟨g, j * 2, none⟩ = some (.slice (some ⟨N[j].q, 0, none⟩) 3 3) ∧ w.cell? ⟨g, j * 2 + 1, none⟩ = some (.string t) ∧ FldIn w N[j].q 0 l := by
  have hc := hown.cells.2.2 j hj
  refine ⟨?_, ?_, ?_⟩
  · have := hc 0 _ (by omega) rfl
    exact this
  · have := hc 1 _ (by omega) rfl
    rw [← ht]; exact this
  · rw [← hl]; exact (hr _ (List.getElem_mem hj)).2.fld
theorem rows0_of {w w' : World} {e : Ending} (h : RowsP (1 * 3) exR0 w e w') : ∃ g c qa qb, e = .returned (.tuple #[.slice (some ⟨g, 0, none⟩) 2 c, .int .i64 0]) ∧
    (w'.cell? ⟨g, 0, none⟩ = some (.slice (some ⟨qa, 0, none⟩) 3 3) ∧ w'.cell? ⟨g, 1, none⟩ = some (.string ⟨#[54]⟩) ∧ FldIn w' qa 0 [1 / 2, 1 / 2, 0]) ∧
    (w'.cell? ⟨g, 2, none⟩ = some (.slice (some ⟨qb, 0, none⟩) 3 3) ∧ w'.cell? ⟨g, 3, none⟩ = some (.string ⟨#[45, 54]⟩) ∧ FldIn w' qb 0 [-1 / 2, -1 / 2, 0]) ∧ Ext w w' := by
  obtain ⟨v, N, base, rfl, _, hown, hrows, hN, X⟩ := h
  obtain ⟨a, b, rfl, ha, hb⟩ := two_of (show N.map (fun r => (r.G, r.b)) = [_, _] from hN)
  simp only [Prod.mk.injEq] at ha hb
  obtain ⟨va, c, rfl, hf⟩ := hown.form
  obtain ⟨g, rfl, _, _⟩ := hf (by simp)
  exact ⟨g, c, a.q, b.q, rfl, row_at hown hrows 0 (by simp) _ (by show rowL a.G 3 = _; rw [ha.1]; decide +kernel) _ (by show tQ a.b = _; rw [ha.2]; decide +kernel),
    row_at hown hrows 1 (by simp) _ (by show rowL b.G 3 = _; rw [hb.1]; decide +kernel) _ (by show tQ b.b = _; rw [hb.2]; decide +kernel), X⟩
theorem rows1_of {w w' : World} {e : Ending} (h : RowsP (1 * 3) exR1 w e w') : ∃ g c qa qb, e = .returned (.tuple #[.slice (some ⟨g, 0, none⟩) 4 c, .int .i64 0]) ∧
    (w'.cell? ⟨g, 0, none⟩ = some (.slice (some ⟨qa, 0, none⟩) 3 3) ∧ w'.cell? ⟨g, 1, none⟩ = some (.string ⟨#[49, 47, 50]⟩) ∧ FldIn w' qa 0 [-1 / 6, 1 / 6, 0]) ∧
    (w'.cell? ⟨g, 6, none⟩ = some (.slice (some ⟨qb, 0, none⟩) 3 3) ∧ w'.cell? ⟨g, 7, none⟩ = some (.string ⟨#[48]⟩) ∧ FldIn w' qb 0 [1 / 4, 0, -1 / 4]) ∧ Ext w w' := by
  obtain ⟨v, N, base, rfl, _, hown, hrows, hN, X⟩ := h
  obtain ⟨a, b, d, f, rfl, ha, _, _, hb⟩ := four_of (show N.map (fun r => (r.G, r.b)) = [_, _, _, _] from hN)
  simp only [Prod.mk.injEq] at ha hb
  obtain ⟨va, c, rfl, hf⟩ := hown.form
  obtain ⟨g, rfl, _, _⟩ := hf (by simp)
  exact ⟨g, c, a.q, f.q, rfl, row_at hown hrows 0 (by simp) _ (by show rowL a.G 3 = _; rw [ha.1]; decide +kernel) _ (by show tQ a.b = _; rw [ha.2]; decide +kernel),
    row_at hown hrows 3 (by simp) _ (by show rowL f.G 3 = _; rw [hb.1]; decide +kernel) _ (by show tQ f.b = _; rw [hb.2]; decide +kernel), X⟩
theorem fld3 {b : Nat} {w : World} {s0 s1 s2 : ByteArray} {x0 x1 x2 : Rat} (h : Cells b [.string s0, .string s1, .string s2] w) (h0 : tQ x0 = s0) (h1 : tQ x1 = s1) (h2 : tQ x2 = s2) : FldIn w b 0 [x0, x1, x2] := by
  subst h0 h1 h2
  intro i hi
  have hi : i < 3 := hi
  rcases (show i = 0 ∨ i = 1 ∨ i = 2 by omega) with rfl | rfl | rfl
  · exact (h.at 0 _ rfl).1
  · exact (h.at 1 _ rfl).1
  · exact (h.at 2 _ rfl).1
theorem same3 (x0 x1 x2 : Rat) (t : ByteArray) (q sb : Nat) (w : World) (h1 : FldIn w q 0 [x0, x1, x2]) (h2 : FldIn w sb 0 [x0, x1, x2]) : Calls Tryz.prog 36 #[.agg #[.slice (some ⟨q, 0, none⟩) 3 3, .string t], .agg #[.slice (some ⟨sb, 0, none⟩) 3 3, .string t]] w (Ret (.bool true) w) :=
  sameRow_ok [x0, x1, x2] t q 0 3 sb 0 3 w (by simp) h1 h2
set_option maxRecDepth 100000 in
set_option maxHeartbeats 4000000 in
theorem known_ok (w : World) (g : Glob w) : Calls Tryz.prog 11 #[] w (Ret (.bool true) w) := by
  have HE := Lib.hid (fun W (X : Ext w W) => example_ok W (g.ext X))
  have HG := Lib.hid (fun W (X : Ext w W) => g.ext X)
  clear g
  go_enter Tryz.func11, Tryz.ntmps11
  go_wp2_with fail
  refine (HE.out w (Ext.refl w)).mono ?_
  rintro e w1 ⟨⟨pb, po, pc, tb, tO, tc, fb, fo, fc, lb, lo, lc, oc, oa⟩, rfl, hI, X1⟩
  have HC := Lib.hid (fun W (X : Ext w1 W) => show Calls Tryz.prog 13 #[.agg #[.slice (some ⟨pb, po, none⟩) 3 pc, .slice (some ⟨tb, tO, none⟩) 1 tc, .slice (some ⟨fb, fo, none⟩) 3 fc, .slice (some ⟨lb, lo, none⟩) 2 lc, .slice oa 2 oc]] W _ from exCount ⟨pb, po, pc, tb, tO, tc, fb, fo, fc, lb, lo, lc, oc, oa⟩ W (HG.out _ (X1.trans X)) (hI.ext X))
  have H0 := Lib.hid (fun W (X : Ext w1 W) => show Calls Tryz.prog 20 #[.agg #[.slice (some ⟨pb, po, none⟩) 3 pc, .slice (some ⟨tb, tO, none⟩) 1 tc, .slice (some ⟨fb, fo, none⟩) 3 fc, .slice (some ⟨lb, lo, none⟩) 2 lc, .slice oa 2 oc], .int .i64 0] W (fun e w' => ∃ g c qa qb, e = .returned (.tuple #[.slice (some ⟨g, 0, none⟩) 2 c, .int .i64 0]) ∧ _) from (exOf0 ⟨pb, po, pc, tb, tO, tc, fb, fo, fc, lb, lo, lc, oc, oa⟩ W (HG.out _ (X1.trans X)) (hI.ext X)).mono (fun e w' h => rows0_of h))
  have H1 := Lib.hid (fun W (X : Ext w1 W) => show Calls Tryz.prog 20 #[.agg #[.slice (some ⟨pb, po, none⟩) 3 pc, .slice (some ⟨tb, tO, none⟩) 1 tc, .slice (some ⟨fb, fo, none⟩) 3 fc, .slice (some ⟨lb, lo, none⟩) 2 lc, .slice oa 2 oc], .int .i64 1] W (fun e w' => ∃ g c qa qb, e = .returned (.tuple #[.slice (some ⟨g, 0, none⟩) 4 c, .int .i64 0]) ∧ _) from (exOf1 ⟨pb, po, pc, tb, tO, tc, fb, fo, fc, lb, lo, lc, oc, oa⟩ W (HG.out _ (X1.trans X)) (hI.ext X)).mono (fun e w' h => rows1_of h))
  rw [show bkV ⟨pb, po, pc, tb, tO, tc, fb, fo, fc, lb, lo, lc, oc, oa⟩ exB = .agg #[.slice (some ⟨pb, po, none⟩) 3 pc, .slice (some ⟨tb, tO, none⟩) 1 tc, .slice (some ⟨fb, fo, none⟩) 3 fc, .slice (some ⟨lb, lo, none⟩) 2 lc, .slice oa 2 oc] from rfl]
  clear hI HE HG
  go_upto_region 2 with fail
  have hW : ∃ W2, W2 = w1.alloc (.cells #[.slice (some ⟨pb, po, none⟩) 3 pc, .slice (some ⟨tb, tO, none⟩) 1 tc, .slice (some ⟨fb, fo, none⟩) 3 fc, .slice (some ⟨lb, lo, none⟩) 2 lc, .slice oa 2 oc] 43) := ⟨_, rfl⟩
  obtain ⟨W2, hW2⟩ := hW
  rw [← hW2]
  have X2 : Ext w1 W2 := by rw [hW2]; exact (Ext.refl w1).alloc _
  have cB : Cells w1.heap.size [.slice (some ⟨pb, po, none⟩) 3 pc, .slice (some ⟨tb, tO, none⟩) 1 tc, .slice (some ⟨fb, fo, none⟩) 3 fc, .slice (some ⟨lb, lo, none⟩) 2 lc, .slice oa 2 oc] W2 := by rw [hW2]; exact Cells.new w1 [.slice (some ⟨pb, po, none⟩) 3 pc, .slice (some ⟨tb, tO, none⟩) 1 tc, .slice (some ⟨fb, fo, none⟩) 3 fc, .slice (some ⟨lb, lo, none⟩) 2 lc, .slice oa 2 oc] 43
  clear hW2
  have XX := X1.trans X2
  clear X1
  obtain ⟨b0, b1, b2, b3, b4⟩ := five cB
  go_wp2_with fail
  refine (HC.out W2 X2).mono ?_
  rintro e w3 ⟨rfl, X3⟩
  have Y3 := X2.trans X3
  clear b0 b1 b2 b3 b4
  obtain ⟨b0, b1, b2, b3, b4⟩ := five (cB.ext X3)
  go_wp2_with fail
  refine (H0.out w3 Y3).mono ?_
  rintro e w4 ⟨ga, ca, qa, qb, rfl, ⟨r0, r1, f0⟩, ⟨r2, r3, f1⟩, X4⟩
  have Y4 := Y3.trans X4
  have X34 := X3.trans X4
  clear b0 b1 b2 b3 b4
  obtain ⟨b0, b1, b2, b3, b4⟩ := five (cB.ext X34)
  go_wp2_with fail
  refine (H1.out w4 Y4).mono ?_
  rintro e w5 ⟨gd, cd, qd, qe, rfl, ⟨d0, d1, f2⟩, ⟨d2, d3, f3⟩, X5⟩
  have XE := (XX.trans X34).trans X5
  replace r0 := X5.cell r0
  replace r1 := X5.cell r1
  replace r2 := X5.cell r2
  replace r3 := X5.cell r3
  replace f0 := f0.ext X5
  replace f1 := f1.ext X5
  clear b0 b1 b2 b3 b4 cB X2 X3 X4 X5 X34 Y3 Y4 XX HC H0 H1
  go_upto_region 7 with fail
  have Z0 : Ext w5 (w5.alloc (.cells #[.string ⟨#[49, 47, 50]⟩, .string ⟨#[49, 47, 50]⟩, .string ⟨#[48]⟩] 54)) := (Ext.refl w5).alloc _
  have g0 := fld3 (Cells.new w5 [.string ⟨#[49, 47, 50]⟩, .string ⟨#[49, 47, 50]⟩, .string ⟨#[48]⟩] 54) tQ_h tQ_h tQ_zero
  have HS0 := Lib.hid (same3 (1 / 2) (1 / 2) (0) ⟨#[54]⟩ qa w5.heap.size _ (f0.ext Z0) g0)
  clear g0
  go_wp2_with fail
  refine HS0.out.mono ?_
  rintro e w6 ⟨rfl, U0⟩
  have V0 := Z0.trans U0
  replace XE := XE.trans V0
  clear Z0 U0 HS0
  replace r0 := V0.cell r0
  replace r1 := V0.cell r1
  replace r2 := V0.cell r2
  replace r3 := V0.cell r3
  replace d0 := V0.cell d0
  replace d1 := V0.cell d1
  replace d2 := V0.cell d2
  replace d3 := V0.cell d3
  replace f0 := f0.ext V0
  replace f1 := f1.ext V0
  replace f2 := f2.ext V0
  replace f3 := f3.ext V0
  clear V0
  have Z1 : Ext w6 (w6.alloc (.cells #[.string ⟨#[45, 49, 47, 50]⟩, .string ⟨#[45, 49, 47, 50]⟩, .string ⟨#[48]⟩] 54)) := (Ext.refl w6).alloc _
  have g1 := fld3 (Cells.new w6 [.string ⟨#[45, 49, 47, 50]⟩, .string ⟨#[45, 49, 47, 50]⟩, .string ⟨#[48]⟩] 54) tQ_mh tQ_mh tQ_zero
  have HS1 := Lib.hid (same3 (-1 / 2) (-1 / 2) (0) ⟨#[45, 54]⟩ qb w6.heap.size _ (f1.ext Z1) g1)
  clear g1
  go_wp2_with fail
  refine HS1.out.mono ?_
  rintro e w7 ⟨rfl, U1⟩
  have V1 := Z1.trans U1
  replace XE := XE.trans V1
  clear Z1 U1 HS1
  replace r0 := V1.cell r0
  replace r1 := V1.cell r1
  replace r2 := V1.cell r2
  replace r3 := V1.cell r3
  replace d0 := V1.cell d0
  replace d1 := V1.cell d1
  replace d2 := V1.cell d2
  replace d3 := V1.cell d3
  replace f0 := f0.ext V1
  replace f1 := f1.ext V1
  replace f2 := f2.ext V1
  replace f3 := f3.ext V1
  clear V1
  have Z2 : Ext w7 (w7.alloc (.cells #[.string ⟨#[45, 49, 47, 54]⟩, .string ⟨#[49, 47, 54]⟩, .string ⟨#[48]⟩] 54)) := (Ext.refl w7).alloc _
  have g2 := fld3 (Cells.new w7 [.string ⟨#[45, 49, 47, 54]⟩, .string ⟨#[49, 47, 54]⟩, .string ⟨#[48]⟩] 54) tQ_ms tQ_s tQ_zero
  have HS2 := Lib.hid (same3 (-1 / 6) (1 / 6) (0) ⟨#[49, 47, 50]⟩ qd w7.heap.size _ (f2.ext Z2) g2)
  clear g2
  go_wp2_with fail
  refine HS2.out.mono ?_
  rintro e w8 ⟨rfl, U2⟩
  have V2 := Z2.trans U2
  replace XE := XE.trans V2
  clear Z2 U2 HS2
  replace r0 := V2.cell r0
  replace r1 := V2.cell r1
  replace r2 := V2.cell r2
  replace r3 := V2.cell r3
  replace d0 := V2.cell d0
  replace d1 := V2.cell d1
  replace d2 := V2.cell d2
  replace d3 := V2.cell d3
  replace f0 := f0.ext V2
  replace f1 := f1.ext V2
  replace f2 := f2.ext V2
  replace f3 := f3.ext V2
  clear V2
  have Z3 : Ext w8 (w8.alloc (.cells #[.string ⟨#[49, 47, 52]⟩, .string ⟨#[48]⟩, .string ⟨#[45, 49, 47, 52]⟩] 54)) := (Ext.refl w8).alloc _
  have g3 := fld3 (Cells.new w8 [.string ⟨#[49, 47, 52]⟩, .string ⟨#[48]⟩, .string ⟨#[45, 49, 47, 52]⟩] 54) tQ_f tQ_zero tQ_mf
  have HS3 := Lib.hid (same3 (1 / 4) (0) (-1 / 4) ⟨#[48]⟩ qe w8.heap.size _ (f3.ext Z3) g3)
  clear g3
  go_wp2_with fail
  refine HS3.out.mono ?_
  rintro e w9 ⟨rfl, U3⟩
  have V3 := Z3.trans U3
  replace XE := XE.trans V3
  clear Z3 U3 HS3
  replace r0 := V3.cell r0
  replace r1 := V3.cell r1
  replace r2 := V3.cell r2
  replace r3 := V3.cell r3
  replace d0 := V3.cell d0
  replace d1 := V3.cell d1
  replace d2 := V3.cell d2
  replace d3 := V3.cell d3
  replace f0 := f0.ext V3
  replace f1 := f1.ext V3
  replace f2 := f2.ext V3
  replace f3 := f3.ext V3
  clear V3
  have HX := Lib.hid XE
  clear XE
  go_wp2_with fail
  go_ret
  exact ⟨rfl, HX.out⟩
end Go.Proofs.YtbiffaciinppiaaGreatDoor
end

section
namespace Go.Proofs.YtbiffaciinppiaaGreatDoor
open Go.RowKit Go.ChangeShapes Go.WideShapes Go.Deep

theorem take1_inv {cs : List Value} {i : Nat} {u : Value} (h : (cs.drop i).take 1 = [u]) : cs[i]? = some u := by
  have := congrArg (·[0]?) h
  simpa using this
theorem piece {cs l r : List Value} {o n : Nat} (h : (cs.drop o).take n = l) (hr : cs.drop (o + n) = r) : cs.drop o = l ++ r := by
  rw [← h, ← hr, ← List.drop_drop, List.take_append_drop]
theorem drop_all {cs : List Value} {n : Nat} (h : cs.length = n) : cs.drop n = [] := by
  rw [← h]; exact List.drop_length
theorem list2 {cs : List Value} {f : Nat → Value} (hl : cs.length = 2) (h : ∀ i, i < 2 → cs[i]? = some (f i)) : cs = [f 0, f 1] := by
  match cs, hl with
  | [a, b], _ =>
    have h0 := h 0 (by decide)
    have h1 := h 1 (by decide)
    simp at h0 h1
    rw [h0, h1]
theorem list3 {cs : List Value} {f : Nat → Value} (hl : cs.length = 3) (h : ∀ i, i < 3 → cs[i]? = some (f i)) : cs = [f 0, f 1, f 2] := by
  match cs, hl with
  | [a, b, c], _ =>
    have h0 := h 0 (by decide)
    have h1 := h 1 (by decide)
    have h2 := h 2 (by decide)
    simp at h0 h1 h2
    rw [h0, h1, h2]
theorem list6 {cs : List Value} {f : Nat → Value} (hl : cs.length = 6) (h : ∀ i, i < 6 → cs[i]? = some (f i)) : cs = [f 0, f 1, f 2, f 3, f 4, f 5] := by
  match cs, hl with
  | [a, b, c, d, e, g], _ =>
    have h0 := h 0 (by decide)
    have h1 := h 1 (by decide)
    have h2 := h 2 (by decide)
    have h3 := h 3 (by decide)
    have h4 := h 4 (by decide)
    have h5 := h 5 (by decide)
    simp at h0 h1 h2 h3 h4 h5
    rw [h0, h1, h2, h3, h4, h5]
section
variable {H : Type} {enc : TypeId × Value → H} {P : Program} {w : World} {base : Nat} {spare : Nat → Bool} {held : Bool} {fuel : Nat} {cs : List Value} {x : DataW H × List MemPlace}
/-- An array of ints, opened. -/
theorem op_ints {t e : TypeId} {n : Nat} {k : IntKind} (ht : P.underlying t = some (.array n e)) (he : P.underlying e = some (.int k)) (hc : P.cellsOf e = 1) (hn : P.cellsOf t = n) (h : DataW.trod enc P w base spare held fuel t cs = some x) :
    cs.length = n ∧ ∃ f : Nat → Int, ∀ i, i < n → cs[i]? = some (.int k (f i)) ∧ (Lit.int k (f i)).wf = true := by
  obtain ⟨xs, m, _, _, hl, hxl, hi⟩ := DataW.trod_array ht h
  refine ⟨hl.trans hn, choose_lt (p := fun i a => cs[i]? = some (.int k a) ∧ (Lit.int k a).wf = true) fun i hin => ?_⟩
  have h1 := hi i hin
  rw [hc, Nat.mul_one, List.getElem?_eq_getElem (by omega)] at h1
  obtain ⟨n', h2, _, hw⟩ := DataW.trod_int he h1
  exact ⟨n', take1_inv h2, hw⟩
theorem cellsU8 : Tryz.prog.cellsOf 5 = 1 := by kernel_rfl
theorem cellsI8 : Tryz.prog.cellsOf 22 = 1 := by kernel_rfl
theorem cellsI : Tryz.prog.cellsOf 3 = 1 := by kernel_rfl
theorem cells2i8 : Tryz.prog.cellsOf 23 = 2 := by kernel_rfl
theorem cells3i8 : Tryz.prog.cellsOf 105 = 3 := by kernel_rfl
theorem cells6i8 : Tryz.prog.cellsOf 26 = 6 := by kernel_rfl
theorem cells2u8 : Tryz.prog.cellsOf 104 = 2 := by kernel_rfl
theorem cells3i : Tryz.prog.cellsOf 32 = 3 := by kernel_rfl
theorem cellsSheet : Tryz.prog.cellsOf 25 = 4 := by kernel_rfl
theorem cellsHts : Tryz.prog.cellsOf 28 = 7 := by kernel_rfl
theorem cellsSight : Tryz.prog.cellsOf 107 = 9 := by kernel_rfl
theorem cellsPlan : Tryz.prog.cellsOf 31 = 12 := by kernel_rfl
theorem cellsBool : Tryz.prog.cellsOf 4 = 1 := by kernel_rfl
theorem cellsSgs : Tryz.prog.cellsOf 29 = 1 := by kernel_rfl

theorem op_sheet (h : DataW.trod enc Tryz.prog w base spare held fuel 25 cs = some x) : ∃ s : Sh, ShW s ∧ cs = [.int .u8 s.kind, .int .i8 s.s0, .int .i8 s.s1, .bool s.half] := by
  obtain ⟨xs, n, _, _, hl, hxl, hf⟩ := DataW.trod_struct Tryz.underlying25 h
  have hxl : xs.length = 3 := hxl
  rw [cellsSheet] at hl
  have h0 := hf 0 _ rfl
  have h1 := hf 1 _ rfl
  have h2 := hf 2 _ rfl
  rw [List.getElem?_eq_getElem (by omega)] at h0 h1 h2
  simp only [List.getElem_toArray, List.getElem_cons_zero, List.getElem_cons_succ, cellsU8, cells2i8, cellsBool] at h0 h1 h2
  obtain ⟨k, e0, _, w0⟩ := DataW.trod_int Tryz.underlying5 h0
  obtain ⟨l1, f, h1⟩ := op_ints Tryz.underlying23 Tryz.underlying22 cellsI8 cells2i8 h1
  obtain ⟨b, e2, _⟩ := DataW.trod_bool Tryz.underlying4 h2
  have e1 := list2 l1 (fun i hi => (h1 i hi).1)
  refine ⟨⟨k, f 0, f 1, b⟩, ⟨bounds_u8 w0, bounds_i8 (h1 0 (by decide)).2, bounds_i8 (h1 1 (by decide)).2⟩, ?_⟩
  have := piece (o := 0) e0 (piece (o := 0 + 1) e1 (piece (o := 0 + 1 + 2) e2 (drop_all hl)))
  simpa using this
theorem op_hts (h : DataW.trod enc Tryz.prog w base spare held fuel 28 cs = some x) : ∃ s : Hts, HtW s ∧ cs = [.int .i8 (s.v 0), .int .i8 (s.v 1), .int .i8 (s.v 2), .int .i8 (s.v 3), .int .i8 (s.v 4), .int .i8 (s.v 5), .bool s.half] := by
  obtain ⟨xs, n, _, _, hl, hxl, hf⟩ := DataW.trod_struct Tryz.underlying28 h
  have hxl : xs.length = 2 := hxl
  rw [cellsHts] at hl
  have h0 := hf 0 _ rfl
  have h1 := hf 1 _ rfl
  rw [List.getElem?_eq_getElem (by omega)] at h0 h1
  simp only [List.getElem_toArray, List.getElem_cons_zero, List.getElem_cons_succ, cells6i8, cellsBool] at h0 h1
  obtain ⟨l0, f, h0⟩ := op_ints Tryz.underlying26 Tryz.underlying22 cellsI8 cells6i8 h0
  obtain ⟨b, e1, _⟩ := DataW.trod_bool Tryz.underlying4 h1
  have e0 := list6 l0 (fun i hi => (h0 i hi).1)
  refine ⟨⟨fun i => if i < 6 then f i else 0, b⟩, fun i => ?_, ?_⟩
  · show -128 ≤ (if i < 6 then f i else 0) ∧ (if i < 6 then f i else 0) ≤ 127
    split
    · exact bounds_i8 (h0 i ‹_›).2
    · omega
  · have := piece (o := 0) e0 (piece (o := 0 + 6) e1 (drop_all hl))
    simpa using this
theorem op_sight (h : DataW.trod enc Tryz.prog w base spare held fuel 107 cs = some x) : ∃ s : Sg, SgW s ∧ cs = sgL s := by
  obtain ⟨xs, n, _, _, hl, hxl, hf⟩ := DataW.trod_struct Tryz.underlying107 h
  have hxl : xs.length = 5 := hxl
  rw [cellsSight] at hl
  have h0 := hf 0 _ rfl
  have h1 := hf 1 _ rfl
  have h2 := hf 2 _ rfl
  have h3 := hf 3 _ rfl
  have h4 := hf 4 _ rfl
  rw [List.getElem?_eq_getElem (by omega)] at h0 h1 h2 h3 h4
  simp only [List.getElem_toArray, List.getElem_cons_zero, List.getElem_cons_succ, cellsU8, cells2i8, cells2u8, cells3i8] at h0 h1 h2 h3 h4
  obtain ⟨k, e0, _, w0⟩ := DataW.trod_int Tryz.underlying5 h0
  obtain ⟨l1, f1, h1⟩ := op_ints Tryz.underlying23 Tryz.underlying22 cellsI8 cells2i8 h1
  obtain ⟨l2, f2, h2⟩ := op_ints Tryz.underlying104 Tryz.underlying5 cellsU8 cells2u8 h2
  obtain ⟨d, e3, _, w3⟩ := DataW.trod_int Tryz.underlying5 h3
  obtain ⟨l4, f4, h4⟩ := op_ints Tryz.underlying105 Tryz.underlying22 cellsI8 cells3i8 h4
  have e1 := list2 l1 (fun i hi => (h1 i hi).1)
  have e2 := list2 l2 (fun i hi => (h2 i hi).1)
  have e4 := list3 l4 (fun i hi => (h4 i hi).1)
  refine ⟨⟨k, f1 0, f1 1, f2 0, f2 1, d, f4 0, f4 1, f4 2⟩, ⟨bounds_u8 w0, bounds_i8 (h1 0 (by decide)).2, bounds_i8 (h1 1 (by decide)).2, bounds_u8 (h2 0 (by decide)).2, bounds_u8 (h2 1 (by decide)).2, bounds_u8 w3, bounds_i8 (h4 0 (by decide)).2, bounds_i8 (h4 1 (by decide)).2, bounds_i8 (h4 2 (by decide)).2⟩, ?_⟩
  have := piece (o := 0) e0 (piece (o := 0 + 1) e1 (piece (o := 0 + 1 + 2) e2 (piece (o := 0 + 1 + 2 + 2) e3 (piece (o := 0 + 1 + 2 + 2 + 1) e4 (drop_all hl)))))
  unfold sgL
  simpa using this
theorem op_sights (h : DataW.trod enc Tryz.prog w base spare held fuel 29 cs = some x) :
    ∃ (sa : Option Addr) (l : List Sg) (c : Nat), cs = [.slice sa l.length c] ∧ (∀ g ∈ l, SgW g) ∧ SgsIn w sa l ∧ l.length ≤ maxLen := by
  rcases open_slice Tryz.underlying29 h with ⟨rfl, _⟩ | ⟨a, len, cap, m, n, D, Pl, hcs, hb, hl, hm, hmm, hx, hi⟩
  · exact ⟨none, [], 0, rfl, fun g hg => by simp at hg, fun h => absurd rfl h, by unfold maxLen; simp⟩
  · have hlm : len ≤ m := by rw [hmm]; split <;> omega
    have hg : ∀ i, i < len → ∃ s : Sg, SgW s ∧ ∀ k u, (sgL s)[k]? = some u → w.cell? (a.add (i * 9 + k)) = some u := fun i hil => by
      obtain ⟨cs', hc, ht'⟩ := hi i (by omega)
      obtain ⟨s, hs, rfl⟩ := op_sight ht'
      refine ⟨s, hs, fun k u hk => ?_⟩
      obtain ⟨_, hcl, hat⟩ := World.cells?_some hc
      have hkl : k < (sgL s).length := (List.getElem?_eq_some_iff.1 hk).1
      rw [cellsSight] at hat
      have h9 : (sgL s).length = 9 := rfl
      have := hat k (by omega)
      rw [add_add] at this
      rw [this]; exact hk
    haveI : Inhabited Sg := ⟨⟨0, 0, 0, 0, 0, 0, 0, 0, 0⟩⟩
    obtain ⟨f, hf⟩ := choose_lt hg
    refine ⟨some a, (List.range len).map f, cap, by simpa using hcs, fun g hgm => ?_, fun hne => ?_, by simp; omega⟩
    · obtain ⟨i, hi1, rfl⟩ := List.mem_map.1 hgm
      exact (hf i (List.mem_range.1 hi1)).1
    · have h0 : 0 < len := by
        rcases Nat.eq_zero_or_pos len with h | h
        · subst h; exact absurd rfl hne
        · exact h
      obtain ⟨b, o, t⟩ := a
      have hc := (hf 0 h0).2 0 _ rfl
      have ht : t = none := by simpa [Addr.add] using World.cell?_spot hc
      subst ht
      refine ⟨b, o, rfl, fun i hil k u hu => ?_⟩
      simp only [List.length_map, List.length_range] at hil
      have hu' : (sgL (f i))[k]? = some u := by simpa using hu
      have := (hf i hil).2 k u hu'
      rw [Go.WideShapes.add_plain] at this
      rw [Nat.add_assoc]; exact this
/-- A plan. -/
theorem op_plan (h : DataW.trod enc Tryz.prog w base spare held fuel 31 cs = some x) :
    ∃ (s : Sh) (hh : Hts) (sa : Option Addr) (l : List Sg) (c : Nat), cs = plL s hh sa l.length c ∧ ShW s ∧ HtW hh ∧ (∀ g ∈ l, SgW g) ∧ SgsIn w sa l ∧ l.length ≤ maxLen := by
  obtain ⟨xs, n, _, _, hl, hxl, hf⟩ := DataW.trod_struct Tryz.underlying31 h
  have hxl : xs.length = 3 := hxl
  rw [cellsPlan] at hl
  have h0 := hf 0 _ rfl
  have h1 := hf 1 _ rfl
  have h2 := hf 2 _ rfl
  rw [List.getElem?_eq_getElem (by omega)] at h0 h1 h2
  simp only [List.getElem_toArray, List.getElem_cons_zero, List.getElem_cons_succ, cellsSheet, cellsHts, cellsSgs] at h0 h1 h2
  obtain ⟨s, hs, e0⟩ := op_sheet h0
  obtain ⟨hh, hhw, e1⟩ := op_hts h1
  obtain ⟨sa, l, c, e2, hlw, hin, hlm⟩ := op_sights h2
  refine ⟨s, hh, sa, l, c, ?_, hs, hhw, hlw, hin, hlm⟩
  have := piece (o := 0) e0 (piece (o := 0 + 4) e1 (piece (o := 0 + 4 + 7) e2 (drop_all hl)))
  unfold plL
  simpa using this
end
end Go.Proofs.YtbiffaciinppiaaGreatDoor
end
