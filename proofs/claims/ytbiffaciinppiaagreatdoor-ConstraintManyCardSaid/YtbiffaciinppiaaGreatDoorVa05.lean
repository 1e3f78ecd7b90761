/- Columns in memory; slices.IndexFunc at layers; column.at, column.layer, column.Check, column.Index. column.layer, column.Check, column.Index at a right column. A region whose first operations only read and whose last ones stand in one order, inside the widest fence: one walk (after the kit's law for a walk without a fence). No program. A map that the call makes, as a function from keys to values; no program. -/
import Derived.Test.YtbiffaciinppiaaGreatDoorVa04
import Derived.Deep.RegionHeld3
import Derived.StillTail
import Derived.StillTactics
import Derived.StillTailTactics
import Derived.OrdersIn
import Derived.TacticsIn
import Derived.Maps.Own
import Derived.Maps.OwnOps
import Derived.Maps.OwnSet
import Derived.Maps.Range
import Derived.Maps.RangeWalk
import Derived.Maps.Ext
set_option linter.unusedVariables false
set_option linter.unusedSimpArgs false
section
namespace Go.Proofs.YtbiffaciinppiaaGreatDoor
open Go.RowKit

/-- A layer: unit, least and greatest thickness. -/
structure Lay where
  unit : ByteArray
  min : Rat
  max : Option Rat
def mxT (m : Option Rat) : ByteArray := match m with | none => ⟨#[]⟩ | some q => tQ q
def layV (x : Lay) : Value := .agg #[.string x.unit, .string (tQ x.min), .string (mxT x.max)]
def LaysIn (w : World) (b o : Nat) (l : List Lay) : Prop := ∀ i (h : i < l.length), w.cell? ⟨b, o + i * 3, none⟩ = some (.string l[i].unit) ∧ w.cell? ⟨b, o + i * 3 + 1, none⟩ = some (.string (tQ l[i].min)) ∧ w.cell? ⟨b, o + i * 3 + 2, none⟩ = some (.string (mxT l[i].max))
theorem LaysIn.ext {w W : World} {b o : Nat} {l : List Lay} (h : LaysIn w b o l) (hx : Ext w W) : LaysIn W b o l := fun i hi => ⟨hx.cell (h i hi).1, hx.cell (h i hi).2.1, hx.cell (h i hi).2.2⟩
theorem LaysIn.take {w : World} {b o : Nat} {l : List Lay} (h : LaysIn w b o l) (k : Nat) : LaysIn w b o (l.take k) := fun i hi => by
  have h2 : i < l.length := by rw [List.length_take] at hi; omega
  rw [List.getElem_take]
  exact h i h2

/-- The first place at which a test holds, or -1. -/
def idxF {α : Type} (p : α → Bool) (l : List α) : Int := match l.findIdx? p with | some i => (i : Int) | none => -1
theorem idxF_hit {α : Type} {p : α → Bool} {l : List α} {k : Nat} (hk : k < l.length) (h : ∀ i (hi : i < k), p (l[i]'(by omega)) = false) (hp : p l[k] = true) : idxF p l = k := by
  unfold idxF
  have : l.findIdx? p = some k := by
    rw [List.findIdx?_eq_some_iff_getElem]
    exact ⟨hk, hp, fun j hj => by rw [h j hj]; simp⟩
  rw [this]
theorem idxF_none {α : Type} {p : α → Bool} {l : List α} (h : ∀ i (hi : i < l.length), p l[i] = false) : idxF p l = -1 := by
  unfold idxF
  have : l.findIdx? p = none := by
    rw [List.findIdx?_eq_none_iff]
    intro x hx
    obtain ⟨i, hi, rfl⟩ := List.mem_iff_getElem.1 hx
    exact h i hi
  rw [this]

set_option maxRecDepth 100000 in
set_option maxHeartbeats 1000000 in
theorem indexFunc_col (pv : Value) (l : List Lay) (b o c : Nat) (w : World) (hl : LaysIn w b o l) (hlen : l.length ≤ 1000) (p : Lay → Bool)
    (hp : ∀ i (h : i < l.length) W, Ext w W → Calls Tryz.prog 184 #[layV l[i], pv] W (Ret (.bool (p l[i])) W)) :
    Calls Tryz.prog 183 #[.slice (some ⟨b, o, none⟩) l.length c, .func (.func 184) #[] #[pv]] w (Ret (.int .i64 (idxF p l)) w) := by
  have HL := Lib.hid hl
  have HP := Lib.hid hp
  clear hl hp
  go_enter Tryz.func183, Tryz.ntmps183
  go_wp2_with fail
  go_loopw [8] (fun v wr => ∃ k : Nat, k ≤ l.length ∧ v = .int .i64 k ∧ Hid (∀ i (hi : i < l.length), i < k → p l[i] = false) ∧ Ext w wr) (fun v _ => l.length - (intOf v).toNat)
  case atStart => exact ⟨0, by omega, rfl, Lib.hid (fun i _ hi => absurd hi (Nat.not_lt_zero _)), Ext.refl _⟩
  case round =>
    obtain ⟨k, hk, rfl, hno, hx⟩ := hrel
    by_cases hlt : k < l.length
    · obtain ⟨d0, d1, d2⟩ := (HL.out.ext hx) k hlt
      have HK := Lib.hid (HP.out k hlt wr hx)
      have HR : Hid ((p l[k] = true → idxF p l = k) ∧ (p l[k] = false → ∀ i (hi : i < l.length), i < k + 1 → p l[i] = false)) := Lib.hid ⟨fun h => idxF_hit hlt (fun i hi => hno.out i (by omega) hi) h, fun h i hi h2 => by
        rcases Nat.lt_or_ge i k with h3 | h3
        · exact hno.out i hi h3
        · have : i = k := by omega
          subst this; exact h⟩
      have k1 : (k : Int) < l.length := by omega
      unfold layV at HK
      generalize l[k] = x at *
      generalize p x = t at *
      go_wp2_with fail
      refine HK.out.mono ?_
      rintro e w2 ⟨rfl, X2⟩
      cases t with
      | true =>
        go_wp2_with fail
        go_ret
        rw [HR.out.1 (by trivial)]
        exact ⟨rfl, Ext.trans hx X2⟩
      | false =>
        go_wp2_with fail
        exact ⟨⟨k + 1, hlt, by go_num, Lib.hid (HR.out.2 (by trivial)), Ext.trans hx X2⟩, by simp only [intOf]; omega⟩
    · have : k = l.length := by omega
      subst this
      have HR := Lib.hid (show idxF p l = -1 from idxF_none (fun i hi => hno.out i hi hi))
      go_wp2_with fail
      go_ret
      rw [HR.out]
      exact ⟨rfl, hx⟩

set_option maxRecDepth 100000 in
theorem colAt1_ok (x : Lay) (u : ByteArray) (b : Nat) (w : World) (hu : w.cell? ⟨b, 0, none⟩ = some (.string u)) :
    Calls Tryz.prog 184 #[layV x, .pointer (some ⟨b, 0, none⟩)] w (Ret (.bool (x.unit.toList == u.toList)) w) := by
  have hb : b < w.heap.size := World.block_lt_of_cell? w _ hu
  unfold layV
  go_enter Tryz.func184, Tryz.ntmps184
  go_wp2_with fail
  go_ret
  exact ⟨rfl, (Ext.refl w).alloc _⟩
set_option maxRecDepth 100000 in
theorem colAt_ok (l : List Lay) (u : ByteArray) (b o c : Nat) (w : World) (hl : LaysIn w b o l) (hlen : l.length ≤ 1000) :
    Calls Tryz.prog 132 #[.slice (some ⟨b, o, none⟩) l.length c, .string u] w (Ret (.int .i64 (idxF (fun x => x.unit.toList == u.toList) l)) w) := by
  have HI := Lib.hid (fun W (X : Ext w W) (hc : W.cell? ⟨w.heap.size, 0, none⟩ = some (.string u)) => indexFunc_col (.pointer (some ⟨w.heap.size, 0, none⟩)) l b o c W (hl.ext X) hlen (fun x => x.unit.toList == u.toList) (fun i h W2 X2 => colAt1_ok l[i] u w.heap.size W2 (X2.cell hc)))
  generalize idxF (fun x => x.unit.toList == u.toList) l = r at *
  clear hl
  go_enter Tryz.func132, Tryz.ntmps132
  go_wp2_with fail
  refine (HI.out _ ((Ext.refl w).alloc _) (by simp [go_sem])).mono ?_
  rintro e w2 ⟨rfl, X2⟩
  go_wp2_with fail
  go_ret
  exact ⟨rfl, ((Ext.refl w).alloc _).trans X2⟩
set_option maxRecDepth 100000 in
set_option maxHeartbeats 1000000 in
theorem indexFunc_fb (pv : Value) (l : List Lay) (b o c : Nat) (w : World) (hl : LaysIn w b o l) (hlen : l.length ≤ 1000) (p : Lay → Bool)
    (hp : ∀ i (h : i < l.length) W, Ext w W → Calls Tryz.prog 186 #[layV l[i], pv] W (Ret (.bool (p l[i])) W)) :
    Calls Tryz.prog 183 #[.slice (some ⟨b, o, none⟩) l.length c, .func (.func 186) #[] #[pv]] w (Ret (.int .i64 (idxF p l)) w) := by
  have HL := Lib.hid hl
  have HP := Lib.hid hp
  clear hl hp
  go_enter Tryz.func183, Tryz.ntmps183
  go_wp2_with fail
  go_loopw [8] (fun v wr => ∃ k : Nat, k ≤ l.length ∧ v = .int .i64 k ∧ Hid (∀ i (hi : i < l.length), i < k → p l[i] = false) ∧ Ext w wr) (fun v _ => l.length - (intOf v).toNat)
  case atStart => exact ⟨0, by omega, rfl, Lib.hid (fun i _ hi => absurd hi (Nat.not_lt_zero _)), Ext.refl _⟩
  case round =>
    obtain ⟨k, hk, rfl, hno, hx⟩ := hrel
    by_cases hlt : k < l.length
    · obtain ⟨d0, d1, d2⟩ := (HL.out.ext hx) k hlt
      have HK := Lib.hid (HP.out k hlt wr hx)
      have HR : Hid ((p l[k] = true → idxF p l = k) ∧ (p l[k] = false → ∀ i (hi : i < l.length), i < k + 1 → p l[i] = false)) := Lib.hid ⟨fun h => idxF_hit hlt (fun i hi => hno.out i (by omega) hi) h, fun h i hi h2 => by
        rcases Nat.lt_or_ge i k with h3 | h3
        · exact hno.out i hi h3
        · have : i = k := by omega
          subst this; exact h⟩
      have k1 : (k : Int) < l.length := by omega
      unfold layV at HK
      generalize l[k] = x at *
      generalize p x = t at *
      go_wp2_with fail
      refine HK.out.mono ?_
      rintro e w2 ⟨rfl, X2⟩
      cases t with
      | true =>
        go_wp2_with fail
        go_ret
        rw [HR.out.1 (by trivial)]
        exact ⟨rfl, Ext.trans hx X2⟩
      | false =>
        go_wp2_with fail
        exact ⟨⟨k + 1, hlt, by go_num, Lib.hid (HR.out.2 (by trivial)), Ext.trans hx X2⟩, by simp only [intOf]; omega⟩
    · have : k = l.length := by omega
      subst this
      have HR := Lib.hid (show idxF p l = -1 from idxF_none (fun i hi => hno.out i hi hi))
      go_wp2_with fail
      go_ret
      rw [HR.out]
      exact ⟨rfl, hx⟩

set_option maxRecDepth 100000 in
theorem fbIdx1_ok (x : Lay) (u : ByteArray) (b : Nat) (w : World) (hu : w.cell? ⟨b, 0, none⟩ = some (.string u)) :
    Calls Tryz.prog 186 #[layV x, .pointer (some ⟨b, 0, none⟩)] w (Ret (.bool (x.unit.toList == u.toList)) w) := by
  have hb : b < w.heap.size := World.block_lt_of_cell? w _ hu
  unfold layV
  go_enter Tryz.func186, Tryz.ntmps186
  go_wp2_with fail
  go_ret
  exact ⟨rfl, (Ext.refl w).alloc _⟩
set_option maxRecDepth 100000 in
theorem fbIdx_ok (l : List Lay) (u : ByteArray) (b o c : Nat) (w : World) (hl : LaysIn w b o l) (hlen : l.length ≤ 1000) :
    Calls Tryz.prog 135 #[.slice (some ⟨b, o, none⟩) l.length c, .string u] w (Ret (.int .i64 (idxF (fun x => x.unit.toList == u.toList) l)) w) := by
  have HI := Lib.hid (fun W (X : Ext w W) (hc : W.cell? ⟨w.heap.size, 0, none⟩ = some (.string u)) => indexFunc_fb (.pointer (some ⟨w.heap.size, 0, none⟩)) l b o c W (hl.ext X) hlen (fun x => x.unit.toList == u.toList) (fun i h W2 X2 => fbIdx1_ok l[i] u w.heap.size W2 (X2.cell hc)))
  generalize idxF (fun x => x.unit.toList == u.toList) l = r at *
  clear hl
  go_enter Tryz.func135, Tryz.ntmps135
  go_wp2_with fail
  refine (HI.out _ ((Ext.refl w).alloc _) (by simp [go_sem])).mono ?_
  rintro e w2 ⟨rfl, X2⟩
  go_wp2_with fail
  go_ret
  exact ⟨rfl, ((Ext.refl w).alloc _).trans X2⟩
end Go.Proofs.YtbiffaciinppiaaGreatDoor
end

section
namespace Go.Proofs.YtbiffaciinppiaaGreatDoor
open Go.RowKit

/-- A right layer. -/
structure LayOk (x : Lay) : Prop where
  nm : NameOk x.unit
  mn : Dg 9 x.min
  mp : ¬ x.min < 0
  mx : ∀ q, x.max = some q → Dg 9 q ∧ ¬ q < x.min
structure ColOk (l : List Lay) : Prop where
  ne : 0 < l.length
  le : l.length ≤ 60
  lay : ∀ x ∈ l, LayOk x
  nd : ∀ i j (hj : j < l.length) (h : i < j), l[i].unit ≠ l[j].unit

set_option maxRecDepth 100000 in
theorem layer_ok (x : Lay) (w : World) (g : Glob w) (hx : LayOk x) : Calls Tryz.prog 130 #[layV x] w (Ret (.int .i64 0) w) := by
  have H1 := Lib.hid (fun W (X : Ext w W) => rCheck x.min W (g.ext X) hx.mn)
  obtain ⟨u, mn, mx⟩ := x
  cases mx with
  | none =>
    simp only [layV, mxT] at *
    clear hx g
    go_enter Tryz.func130, Tryz.ntmps130
    go_wp2_with fail
    refine (H1.out _ ((Ext.refl w).alloc _)).mono ?_
    rintro e w1 ⟨rfl, X1⟩
    have k : w1.cell? ⟨w.heap.size, 2, none⟩ = some (.string ⟨#[]⟩) := X1.cell (by simp [go_sem])
    go_wp2_with fail
    go_ret
    exact ⟨rfl, ((Ext.refl w).alloc _).trans X1⟩
  | some q =>
    have H2 := Lib.hid (fun W (X : Ext w W) => rCheck q W (g.ext X) (hx.mx q rfl).1)
    have hne : ((tQ q).toList != []) = true := by rw [tQ_toList]; obtain ⟨b, r, e, _⟩ := qL_head q; rw [e]; rfl
    have hne2 : ((tQ q).toList == []) = false := by rw [tQ_toList]; obtain ⟨b, r, e, _⟩ := qL_head q; rw [e]; rfl
    simp only [layV, mxT] at *
    clear hx g
    go_enter Tryz.func130, Tryz.ntmps130
    go_wp2_with fail
    refine (H1.out _ ((Ext.refl w).alloc _)).mono ?_
    rintro e w1 ⟨rfl, X1⟩
    have k : w1.cell? ⟨w.heap.size, 2, none⟩ = some (.string (tQ q)) := X1.cell (by simp [go_sem])
    have XX := ((Ext.refl w).alloc (.cells #[.string u, .string (tQ mn), .string (tQ q)] 56)).trans X1
    go_wp2_with fail
    refine (H2.out _ XX).mono ?_
    rintro e w2 ⟨rfl, X2⟩
    go_wp2_with fail
    go_ret
    exact ⟨rfl, XX.trans X2⟩

def CS (n : Nat) (w0 : World) (c0 c1 c2 : Value) (w' : World) : Prop := w'.cell? ⟨n, 0, none⟩ = some c0 ∧ w'.cell? ⟨n, 1, none⟩ = some c1 ∧ w'.cell? ⟨n, 2, none⟩ = some c2 ∧ Below w0.heap.size w0 w'
theorem CS.step {n : Nat} {w0 : World} {c0 c1 c2 : Value} {a b : World} (h : CS n w0 c0 c1 c2 a) (hb : Ext a b) : CS n w0 c0 c1 c2 b := ⟨hb.cell h.1, hb.cell h.2.1, hb.cell h.2.2.1, Ext.trans h.2.2.2 hb⟩
theorem CS.drew {n : Nat} {w0 : World} {c0 c1 c2 : Value} {a : World} (h : CS n w0 c0 c1 c2 a) : CS n w0 c0 c1 c2 a.drew := ⟨h.1, h.2.1, h.2.2.1, Ext.drew h.2.2.2⟩
theorem CS.bel {n : Nat} {w0 : World} {c0 c1 c2 : Value} {a : World} (h : CS n w0 c0 c1 c2 a) : Ext w0 a := h.2.2.2

set_option maxRecDepth 100000 in
set_option maxHeartbeats 2000000 in
theorem colCheck_ok (l : List Lay) (b o c : Nat) (w : World) (g : Glob w) (hl : LaysIn w b o l) (hc : ColOk l) (hcap : l.length ≤ c) :
    Calls Tryz.prog 74 #[.slice (some ⟨b, o, none⟩) l.length c] w (Ret (.int .i64 0) w) := by
  have HL := Lib.hid hl
  have HC := Lib.hid hc
  have G := Lib.hid g
  have h1 := hc.ne
  have h2 := hc.le
  have h3 : ((l.length : Int) == 0) = false := beq_false_of_ne (by omega)
  clear hl hc g
  go_enter Tryz.func74, Tryz.ntmps74
  go_wp2_with fail
  go_loopw [16] (fun v wr => ∃ k : Nat, k ≤ l.length ∧ v = .int .i64 k ∧ Ext w wr) (fun v _ => l.length - (intOf v).toNat)
  case atStart => exact ⟨0, by omega, rfl, Ext.refl _⟩
  case round =>
    obtain ⟨k, hk, rfl, hx⟩ := hrel
    by_cases hlt : k < l.length
    · obtain ⟨d0, d1, d2⟩ := (HL.out.ext hx) k hlt
      have hok := HC.out.lay l[k] (List.getElem_mem _)
      have HLy := Lib.hid (fun W (X : Ext w W) => layer_ok l[k] W (G.out.ext X) hok)
      have HNm := Lib.hid (fun W => isName_ok l[k].unit W hok.nm)
      have htl : (l.take k).length = k := by rw [List.length_take]; omega
      have HAt := Lib.hid (fun W (X : Ext w W) => show Calls Tryz.prog 132 #[.slice (some ⟨b, o, none⟩) k c, .string l[k].unit] W (Ret (.int .i64 (-1)) W) from by
        have h := colAt_ok (l.take k) l[k].unit b o c W ((HL.out.ext X).take k) (by omega)
        rw [htl, idxF_none (fun i hi => ?_)] at h
        · exact h
        · rw [List.getElem_take, Lib.toList_data, Lib.toList_data]
          refine beq_false_of_ne (fun e => ?_)
          exact HC.out.nd i k hlt (by omega) (ba_ext e))
      have HSg := Lib.hid (fun W => rSign l[k].min W)
      have hsg : decide (sgnQ l[k].min < 0) = false := decide_eq_false (by
        rcases (show sgnQ l[k].min = 0 ∨ sgnQ l[k].min = 1 from by
          by_cases h0 : l[k].min = 0
          · left; rw [h0]; exact sgnQ_zero
          · right; exact sgnQ_pos h0 hok.mp) with h | h <;> omega)
      have hmx := Lib.hid (fun q (h : l[k].max = some q) W (X : Ext w W) => rCompare q l[k].min W (G.out.ext X) (hok.mx q h).1 hok.mn)
      have hmx2 := Lib.hid (fun q (h : l[k].max = some q) => show decide (cmpQ q l[k].min < 0) = false from decide_eq_false (by
        have h2 := (hok.mx q h).2
        unfold cmpQ
        split
        · omega
        · omega))
      clear hok htl
      generalize l[k] = x at *
      obtain ⟨u, mn, mx⟩ := x
      simp only [layV] at *
      generalize hS : sgnQ mn = sg at *
      clear hS
      have k1 : (k : Int) ≤ c := by omega
      have X0 := Ext.trans hx ((Ext.refl wr).alloc (.cells #[.string u, .string (tQ mn), .string (mxT mx)] 56))
      have C0 : CS wr.heap.size wr (.string u) (.string (tQ mn)) (.string (mxT mx)) (wr.alloc (.cells #[.string u, .string (tQ mn), .string (mxT mx)] 56)) := ⟨by simp [go_sem], by simp [go_sem], by simp [go_sem], (Ext.refl wr).alloc _⟩
      go_wp2_with fail
      refine (HLy.out _ X0).mono ?_
      rintro e w1 ⟨rfl, X1⟩
      have C1 := C0.step X1
      have z0 := C1.1
      clear HLy C0 X0
      go_wp2_with fail
      refine (HNm.out _).mono ?_
      rintro e w2 ⟨rfl, X2⟩
      have C2 := C1.step X2
      have P0 := C2.drew
      have z1 := C2.2.1
      have z2 := C2.2.2.1
      clear C1
      go_wp2_with fail
      go_region_held3 (fun w' => w'.cell? ⟨wr.heap.size, 0, none⟩ = some (.string u) ∧ w'.cell? ⟨wr.heap.size, 1, none⟩ = some (.string (tQ mn)) ∧ w'.cell? ⟨wr.heap.size, 2, none⟩ = some (.string (mxT mx)) ∧ Below wr.heap.size wr w')
        (first | exact P0 | exact CS.step (by assumption) hb | exact CS.drew (by assumption))
        (first | (go_at_call 132; refine (HAt.out _ (Ext.trans hx (CS.bel (by assumption)))).mono ?_; rintro e w' ⟨rfl, hb⟩))
      have C3 : CS wr.heap.size wr (.string u) (.string (tQ mn)) (.string (mxT mx)) w' := by assumption
      have z3 := C3.2.1
      go_wp2_with fail
      refine (HSg.out _).mono ?_
      rintro e w4 ⟨rfl, X4⟩
      have C4 := C3.step X4
      have z4 := C4.2.1
      have z5 := C4.2.2.1
      have XX := Ext.trans hx (CS.bel C4)
      clear C2 C3 z0 z1 z2 z3
      cases mx with
      | none =>
        simp only [mxT] at z5
        go_wp2_with fail
        exact ⟨⟨k + 1, hlt, by go_num, XX⟩, by simp only [intOf]; omega⟩
      | some q =>
        simp only [mxT] at z5
        have hne : ((tQ q).toList != []) = true := by rw [tQ_toList]; obtain ⟨b, r, e, _⟩ := qL_head q; rw [e]; rfl
        have hne2 : ((tQ q).toList == []) = false := by rw [tQ_toList]; obtain ⟨b, r, e, _⟩ := qL_head q; rw [e]; rfl
        have M1 := Lib.hid (hmx.out q rfl _ XX)
        have M2 := hmx2.out q rfl
        generalize cmpQ q mn = v at *
        go_wp2_with fail
        refine M1.out.mono ?_
        rintro e w5 ⟨rfl, X5⟩
        go_wp2_with fail
        exact ⟨⟨k + 1, hlt, by go_num, XX.trans X5⟩, by simp only [intOf]; omega⟩
    · have : k = l.length := by omega
      subst this
      go_wp2_with fail
      go_ret
      exact ⟨rfl, hx⟩

set_option maxRecDepth 100000 in
theorem colIndex_ok (l : List Lay) (u : ByteArray) (b o c : Nat) (w : World) (g : Glob w) (hl : LaysIn w b o l) (hc : ColOk l) (hcap : l.length ≤ c) (r : Nat) (hr : idxF (fun x => x.unit.toList == u.toList) l = r) :
    Calls Tryz.prog 88 #[.slice (some ⟨b, o, none⟩) l.length c, .string u] w (Ret (.tuple #[.int .i64 r, .bool true, .int .i64 0]) w) := by
  have H1 := Lib.hid (colCheck_ok l b o c w g hl hc hcap)
  have H2 := Lib.hid (fun W (X : Ext w W) => colAt_ok l u b o c W (hl.ext X) (by have := hc.le; omega))
  rw [hr] at H2
  have h1 := hc.le
  clear hl hc g hr
  go_enter Tryz.func88, Tryz.ntmps88
  go_wp2_with fail
  refine H1.out.mono ?_
  rintro e w1 ⟨rfl, X1⟩
  go_wp2_with fail
  refine (H2.out _ X1).mono ?_
  rintro e w2 ⟨rfl, X2⟩
  go_wp2_with fail
  go_ret3
  exact ⟨rfl, X1.trans X2⟩
end Go.Proofs.YtbiffaciinppiaaGreatDoor
end

section
namespace Go.Proofs.YtbiffaciinppiaaGreatDoor

section
variable {P : Program} {ops : Array Oper} {md : Region.Mode} {w : World} {n : Nat}

theorem wpIn_of_still {o : Oper} {a : Act} {K : Act → Prop} {K' : Act → World → Prop} {Q' : Exit → Act → World → Prop} (h : ∀ a, K a → K' a w) (hh : o.still P a w K) : o.wpIn Fence.wide n P a w K' Q' := by
  refine ⟨fun _ _ => trivial, ?_⟩
  unfold Oper.still at hh
  show o.uponIn Fence.wide n P a K' Q' ((execOp a.eval o).run P w)
  generalize (execOp a.eval o).run P w = r at *
  cases r with
  | ok n w' =>
    cases n <;> simp only [Oper.stillUpon] at hh <;> simp only [Oper.uponIn]
    case enter f args =>
      obtain ⟨rfl, v, hc, hn⟩ := hh
      exact ⟨fun hd => by simp [Fence.wide] at hd, (callsIn_wide.2 hc).mono fun e w'' ⟨he, hw⟩ => by subst he; subst hw; exact h _ hn⟩
    all_goals (obtain ⟨rfl, h2⟩ := hh; exact h _ h2)
  | halt x w' => simp only [Oper.stillUpon] at hh

theorem wpOpIn_of_stOp {i : Nat} {a : Act} {K : Act → Prop} {K' : Act → World → Prop} {Q' : Exit → Act → World → Prop} (h : ∀ a, K a → K' a w) (hh : stOp P ops w i K a) : wpOpIn Fence.wide n P ops Q' i K' a w := by
  unfold stOp at hh
  unfold wpOpIn
  split
  · rename_i ho; simp only [ho] at hh; exact h _ hh
  · rename_i o ho
    simp only [ho] at hh
    split
    · rename_i hw; simp only [hw, if_true] at hh; exact wpIn_of_still h hh
    · rename_i hw; simp only [hw] at hh; exact ⟨fun _ _ => trivial, h _ hh⟩

theorem wpAnyIn_of_head {m g : Nat} {L : Array Bool → Act → Prop} {Q' : Exit → Act → World → Prop} (hL : ∀ listed a, L listed a → wpAnyIn Fence.wide n P md ops Q' g listed a w) :
    ∀ (f : Nat) (listed : Array Bool) (a : Act), wpAnyL P md ops w m L f listed a → wpAnyIn Fence.wide n P md ops Q' (f + g) listed a w
  | 0, listed, a, h => by rw [Nat.zero_add]; exact hL _ _ h
  | f + 1, listed, a, h => by
    rw [show f + 1 + g = (f + g) + 1 by omega]
    exact ⟨fun h0 => absurd h0 h.1, fun i hi => wpOpIn_of_stOp (fun a' h' => wpAnyIn_of_head hL f _ a' h') (h.2 i hi).2⟩

theorem wpAnyIn_of_seq {Q' : Exit → Act → World → Prop} : ∀ (l : List Oper) (k : Nat) (listed : Array Bool) (a : Act) (w : World), (∀ j, l[j]? = ops[k + j]?) →
    Region.seqB md ops l.length k listed = true → wpListIn Fence.wide n P ops Q' l a w → wpAnyIn Fence.wide n P md ops Q' l.length listed a w
  | [], _, _, _, _, _, hB, h => ⟨by simpa [Region.seqB] using hB, h⟩
  | o :: l, k, listed, a, w, hl, hB, h => by
    have h0 : ops[k]? = some o := by simpa using (hl 0).symm
    simp only [List.length_cons, Region.seqB, Bool.and_eq_true, decide_eq_true_eq] at hB
    refine ⟨fun h1 => (by rw [hB.1] at h1; cases h1), fun i hi => ?_⟩
    rw [hB.1] at hi
    have hik : i = k := by simpa using hi
    subst hik
    have hw : wpOpIn Fence.wide n P ops Q' i (wpListIn Fence.wide n P ops Q' l) a w := by unfold wpOpIn; simp only [h0]; exact h
    exact wpOpIn_mono (fun a' w' h' => wpAnyIn_of_seq l (i + 1) _ a' w' (fun j => by have := hl (j + 1); simpa [Nat.add_assoc, Nat.add_comm 1 j] using this) hB.2 h') hw

theorem wpIn_region_still_tail {id : Nat} {Q : Exit → Act → World → Prop} {a : Act} {w : World} {l : List Oper} (m : Nat) (hm : P.follows .mixedOrders = true) (hB : Region.lexTailB .any l.toArray m = true)
    (h : wpStill P l.toArray { w with drawn := w.drawn + 1 } (fun a' => wpListIn Fence.wide n P l.toArray Q (l.drop m) a' { w with drawn := w.drawn + 1 }) (l.take m) a) : (Code.region id l.toArray true).wpIn Fence.wide n P Q a w := by
  simp only [Region.lexTailB, Bool.and_eq_true, decide_eq_true_eq] at hB
  obtain ⟨⟨⟨⟨hsel, hn⟩, hs⟩, hc⟩, hlex⟩ := hB
  have hn' : m < l.length := by simpa using hn
  have htl : (l.take m).length = m := by simp; omega
  have hdl : (l.drop m).length = l.toArray.size - m := by simp
  have inv0 : HeadInv .any l.toArray m (Array.replicate l.toArray.size false) :=
    ⟨by simp, fun j oj _ hl => (by rw [getD_replicate_false] at hl; cases hl), fun t _ ht => getD_in (by simpa using ht) (getD_replicate_false _ _)⟩
  have H := wpAnyL_lex (md := .any) (g := l.toArray.size - m) hsel hs hc hn (l.take m) 0 _ a (fun j hj => by
    have hj' : j < m := by rw [htl] at hj; exact hj
    simp [hj']) (by simpa using htl) inv0 (by rw [htl]; exact hlex) h
  refine wpIn_region_any hm ?_
  have := wpAnyIn_of_head (n := n) (Q' := Q) (g := l.toArray.size - m) (fun listed a' hL => by
    have := wpAnyIn_of_seq (n := n) (md := .any) (Q' := Q) (l.drop m) m listed a' { w with drawn := w.drawn + 1 } (fun j => by simp [List.getElem?_drop]) (by rw [hdl]; exact hL.1) hL.2
    rwa [hdl] at this) _ _ _ H
  rw [htl, show m + (l.toArray.size - m) = l.toArray.size by omega] at this
  exact this
end
end Go.Proofs.YtbiffaciinppiaaGreatDoor
end

section
namespace Go.Proofs.YtbiffaciinppiaaGreatDoor
open Go.Maps

section
variable {P : Program} {k e : TypeId} {w : World} {b n : Nat} {f : Value → Option Value}

/-- f with one key more, or another value there. -/
noncomputable def upd (f : Value → Option Value) (key val : Value) : Value → Option Value := fun x => open Classical in if x = key then some val else f x
theorem upd_same (f : Value → Option Value) (key val : Value) : upd f key val key = some val := by unfold upd; rw [if_pos rfl]
theorem upd_other {f : Value → Option Value} {key val x : Value} (h : x ≠ key) : upd f key val x = f x := by unfold upd; rw [if_neg h]

/-- What a datum of a map says, key by key. -/
def DataIs (P : Program) (k e : TypeId) (D : DataW Unit) (f : Value → Option Value) : Prop :=
  ∀ key kl, keyOf P k key = some kl → (f key = none → Maps.has D kl = false) ∧ (∀ v, f key = some v → Maps.has D kl = true ∧ ∃ d ps, plainElem (H := Unit) P e v = some (d, ps) ∧ ∀ z, D.atKey kl z = d)

/-- Block b is a map of at most n entries, which holds f. -/
def MapF (P : Program) (k e : TypeId) (w : World) (b n : Nat) (f : Value → Option Value) : Prop :=
  ∃ D : DataW Unit, w.ownsMap P k (plainElem P e) b n D ∧ DataIs P k e D f

theorem plainElem_one {v v' : Value} {d : DataW Unit} {ps ps' : List MemPlace} (h : plainElem P e v = some (d, ps)) (h' : plainElem P e v' = some (d, ps')) : v = v' := by
  unfold plainElem at h h'
  cases hu : P.underlying e with
  | none => simp [hu] at h
  | some t =>
    cases t <;> simp only [hu] at h h'
    case bool =>
      cases v <;> simp at h
      cases v' <;> simp at h'
      obtain ⟨h1, _⟩ := h
      obtain ⟨h2, _⟩ := h'
      rw [← h1] at h2
      simpa using h2.symm
    case int q =>
      cases v <;> simp at h
      cases v' <;> simp at h'
      obtain ⟨⟨rfl, _⟩, h1, _⟩ := h
      obtain ⟨⟨rfl, _⟩, h2, _⟩ := h'
      rw [← h1] at h2
      simp at h2
      simp [h2]
    case string =>
      cases v <;> simp at h
      cases v' <;> simp at h'
      obtain ⟨_, h1, _⟩ := h
      obtain ⟨_, h2, _⟩ := h'
      rw [← h1] at h2
      simp at h2
      rw [Value.string.injEq]; apply ByteArray.ext; first | exact h2 | exact h2.symm | exact Array.toList_inj.1 h2 | exact (Array.toList_inj.1 h2).symm
    all_goals (simp at h)

theorem MapF.made (w : World) (P : Program) (k e : TypeId) : MapF P k e (w.alloc (.map #[] 0)) w.heap.size 0 (fun _ => none) :=
  ⟨.map [], World.ownsMap_made w P k _, fun _ _ _ => ⟨fun _ => rfl, fun _ h => by cases h⟩⟩
theorem MapF.lt (h : MapF P k e w b n f) : b < w.heap.size := by obtain ⟨D, h, _⟩ := h; exact h.lt
theorem MapF.mono (h : MapF P k e w b n f) {n' : Nat} (hn : n ≤ n') : MapF P k e w b n' f := by obtain ⟨D, h, hD⟩ := h; exact ⟨D, h.mono hn, hD⟩
theorem MapF.kept {w' : World} {row : Option Nat} (h : MapF P k e w b n f) (hg : w.grownBy w' row) (hne : some b ≠ row) : MapF P k e w' b n f := by
  obtain ⟨D, h, hD⟩ := h; exact ⟨D, h.kept hg hne, hD⟩
theorem MapF.alloc (h : MapF P k e w b n f) (o : Obj) : MapF P k e (w.alloc o) b n f := by obtain ⟨D, h, hD⟩ := h; exact ⟨D, h.alloc o, hD⟩
theorem MapF.drew (h : MapF P k e w b n f) : MapF P k e w.drew b n f := by obtain ⟨D, h, hD⟩ := h; exact ⟨D, h.drew, hD⟩
theorem MapF.setCell (h : MapF P k e w b n f) {a : Addr} (ha : b ≠ a.block) (u : Value) : MapF P k e (w.setCell a u) b n f := by obtain ⟨D, h, hD⟩ := h; exact ⟨D, h.setCell ha u, hD⟩
theorem MapF.same {w' : World} (h : MapF P k e w b n f) (hb : w'.heap[b]? = w.heap[b]?) : MapF P k e w' b n f := by
  obtain ⟨D, ⟨es, clock, h1, F, hs, hD'⟩, hD⟩ := h
  exact ⟨D, ⟨es, clock, by rw [hb]; exact h1, F, hs, hD'⟩, hD⟩
theorem MapF.congr {g : Value → Option Value} (h : MapF P k e w b n f) (hfg : ∀ key kl, keyOf P k key = some kl → f key = g key) : MapF P k e w b n g := by
  obtain ⟨D, h, hD⟩ := h
  exact ⟨D, h, fun key kl hk => by rw [← hfg key kl hk]; exact hD key kl hk⟩

theorem DataIs.put {D : DataW Unit} (K : Keyed P k) (hD : DataIs P k e D f) (hm : IsMap D) {key val : Value} {kl : Lit} {d : DataW Unit} {ps : List MemPlace} (hk : keyOf P k key = some kl) (hv : plainElem P e val = some (d, ps)) : DataIs P k e (D.put kl d) (upd f key val) := by
  intro key' kl' hk'
  by_cases hx : key' = key
  · subst hx
    rw [hk] at hk'
    obtain rfl : kl = kl' := by simpa using hk'
    rw [upd_same]
    refine ⟨(fun h => by cases h), fun v hv' => ?_⟩
    obtain rfl : val = v := by simpa using hv'
    exact ⟨has_put_same hm (K.key hk) d, d, ps, hv, fun z => atKey_put_same hm (K.key hk) d z⟩
  · have hne : kl' ≠ kl := fun he => hx (K.inj hk' (by rw [he]; exact hk))
    rw [upd_other hx]
    obtain ⟨h1, h2⟩ := hD key' kl' hk'
    refine ⟨fun h => by rw [has_put_other hne]; exact h1 h, fun v hv' => ?_⟩
    obtain ⟨h3, d', ps', h4, h5⟩ := h2 v hv'
    exact ⟨by rw [has_put_other hne]; exact h3, d', ps', h4, fun z => by rw [atKey_put_other hne]; exact h5 z⟩

/-- 'm[k] = v'. -/
theorem MapF.update {t : TypeId} (h : MapF P k e w b n f) (K : Keyed P k) (ht : P.underlying t = some (.map k e)) (hn : n < maxLen) {key val : Value} {kl : Lit} {d : DataW Unit} {ps : List MemPlace}
    (hk : keyOf P k key = some kl) (hv : plainElem P e val = some (d, ps)) : ∃ w', (Instr.mapUpdate t (.map (some b)) key val).run P w = .ok () w' ∧ MapF P k e w' b (n + 1) (upd f key val) ∧ w.grownBy w' (some b) := by
  obtain ⟨D, h, hD⟩ := h
  obtain ⟨w', h1, h2, h3⟩ := h.update K ht hn hk hv
  exact ⟨w', h1, ⟨_, h2, hD.put K h.isMap hk hv⟩, h3⟩

/-- 'v, ok := m[k]', 'm[k]'. -/
theorem MapF.look_some {t : TypeId} (h : MapF P k e w b n f) (K : Keyed P k) (ht : P.underlying t = some (.map k e)) {z : Value} (hz : (zeroValue e).run P w = .ok z w) {zd : DataW Unit} {zp : List MemPlace} (hzd : plainElem P e z = some (zd, zp))
    {key v : Value} {kl : Lit} (hk : keyOf P k key = some kl) (hv : f key = some v) :
    (Instr.lookup t (.map (some b)) key true).run P w = .ok (.tuple #[v, .bool true]) w ∧ (Instr.lookup t (.map (some b)) key false).run P w = .ok v w := by
  obtain ⟨D, h, hD⟩ := h
  obtain ⟨h1, d, ps, h2, h3⟩ := (hD key kl hk).2 v hv
  obtain ⟨v1, p1, r1, q1⟩ := h.look_ok K ht hz hzd hk
  obtain ⟨v2, p2, r2, q2⟩ := h.lookup K ht hz hzd hk
  rw [h3] at q1 q2
  obtain rfl := plainElem_one h2 q1
  obtain rfl := plainElem_one h2 q2
  rw [h1] at r1
  exact ⟨r1, r2⟩
theorem MapF.look_none {t : TypeId} (h : MapF P k e w b n f) (K : Keyed P k) (ht : P.underlying t = some (.map k e)) {z : Value} (hz : (zeroValue e).run P w = .ok z w) {zd : DataW Unit} {zp : List MemPlace} (hzd : plainElem P e z = some (zd, zp))
    {key : Value} {kl : Lit} (hk : keyOf P k key = some kl) (hv : f key = none) :
    (Instr.lookup t (.map (some b)) key true).run P w = .ok (.tuple #[z, .bool false]) w ∧ (Instr.lookup t (.map (some b)) key false).run P w = .ok z w := by
  obtain ⟨D, h, hD⟩ := h
  have h1 := (hD key kl hk).1 hv
  obtain ⟨v1, p1, r1, q1⟩ := h.look_ok K ht hz hzd hk
  obtain ⟨v2, p2, r2, q2⟩ := h.lookup K ht hz hzd hk
  rw [atKey_of_not_has h1] at q1 q2
  obtain rfl := plainElem_one hzd q1
  obtain rfl := plainElem_one hzd q2
  rw [h1] at r1
  exact ⟨r1, r2⟩
end

section
variable {P : Program} {k e : TypeId} {w : World} {b n : Nat} {f : Value → Option Value}
/-- Block b is a map of just n entries, which holds f. -/
def MapE (P : Program) (k e : TypeId) (w : World) (b n : Nat) (f : Value → Option Value) : Prop :=
  ∃ D : DataW Unit, w.ownsMap P k (plainElem P e) b n D ∧ DataIs P k e D f ∧ Maps.size D = n
theorem MapE.toF (h : MapE P k e w b n f) : MapF P k e w b n f := by obtain ⟨D, h1, h2, _⟩ := h; exact ⟨D, h1, h2⟩
theorem MapE.made (w : World) (P : Program) (k e : TypeId) : MapE P k e (w.alloc (.map #[] 0)) w.heap.size 0 (fun _ => none) :=
  ⟨.map [], World.ownsMap_made w P k _, (fun _ _ _ => ⟨fun _ => rfl, fun _ h => by cases h⟩), rfl⟩
theorem MapE.lt (h : MapE P k e w b n f) : b < w.heap.size := h.toF.lt
theorem MapE.kept {w' : World} {row : Option Nat} (h : MapE P k e w b n f) (hg : w.grownBy w' row) (hne : some b ≠ row) : MapE P k e w' b n f := by
  obtain ⟨D, h, hD⟩ := h; exact ⟨D, h.kept hg hne, hD⟩
theorem MapE.alloc (h : MapE P k e w b n f) (o : Obj) : MapE P k e (w.alloc o) b n f := by obtain ⟨D, h, hD⟩ := h; exact ⟨D, h.alloc o, hD⟩
theorem MapE.drew (h : MapE P k e w b n f) : MapE P k e w.drew b n f := by obtain ⟨D, h, hD⟩ := h; exact ⟨D, h.drew, hD⟩
theorem MapE.setCell (h : MapE P k e w b n f) {a : Addr} (ha : b ≠ a.block) (u : Value) : MapE P k e (w.setCell a u) b n f := by obtain ⟨D, h, hD⟩ := h; exact ⟨D, h.setCell ha u, hD⟩
theorem MapE.same {w' : World} (h : MapE P k e w b n f) (hb : w'.heap[b]? = w.heap[b]?) : MapE P k e w' b n f := by
  obtain ⟨D, ⟨es, clock, h1, F, hs, hD'⟩, hD⟩ := h
  exact ⟨D, ⟨es, clock, by rw [hb]; exact h1, F, hs, hD'⟩, hD⟩
theorem ownsMap_shrink {D : DataW Unit} (h : w.ownsMap P k (plainElem P e) b n D) : w.ownsMap P k (plainElem P e) b (Maps.size D) D := by
  obtain ⟨es, clock, h1, F, hs, rfl⟩ := h
  refine ⟨es, clock, h1, F, ?_, rfl⟩
  rw [size_eq, length_sorted]; simp
theorem MapE.update_new {t : TypeId} (h : MapE P k e w b n f) (K : Keyed P k) (ht : P.underlying t = some (.map k e)) (hn : n < maxLen) {key val : Value} {kl : Lit} {d : DataW Unit} {ps : List MemPlace}
    (hk : keyOf P k key = some kl) (hv : plainElem P e val = some (d, ps)) (hno : f key = none) : ∃ w', (Instr.mapUpdate t (.map (some b)) key val).run P w = .ok () w' ∧ MapE P k e w' b (n + 1) (upd f key val) ∧ w.grownBy w' (some b) := by
  obtain ⟨D, h, hD, hs⟩ := h
  obtain ⟨w', h1, h2, h3⟩ := h.update K ht hn hk hv
  refine ⟨w', h1, ⟨_, h2, hD.put K h.isMap hk hv, ?_⟩, h3⟩
  rw [size_put (h.tidy K), (hD key kl hk).1 hno, hs]; simp
theorem MapE.update_old {t : TypeId} (h : MapE P k e w b n f) (K : Keyed P k) (ht : P.underlying t = some (.map k e)) (hn : n < maxLen) {key val old : Value} {kl : Lit} {d : DataW Unit} {ps : List MemPlace}
    (hk : keyOf P k key = some kl) (hv : plainElem P e val = some (d, ps)) (ho : f key = some old) : ∃ w', (Instr.mapUpdate t (.map (some b)) key val).run P w = .ok () w' ∧ MapE P k e w' b n (upd f key val) ∧ w.grownBy w' (some b) := by
  obtain ⟨D, h, hD, hs⟩ := h
  obtain ⟨w', h1, h2, h3⟩ := h.update K ht hn hk hv
  have hsz : Maps.size (D.put kl d) = n := by rw [size_put (h.tidy K), ((hD key kl hk).2 old ho).1, if_pos rfl, hs]
  refine ⟨w', h1, ⟨_, ?_, hD.put K h.isMap hk hv, hsz⟩, h3⟩
  have := ownsMap_shrink h2
  rwa [hsz] at this
theorem MapE.len {t : TypeId} (h : MapE P k e w b n f) (ht : P.underlying t = some (.map k e)) (ty : TypeId) : (Builtin.len_ #[t] ty #[.map (some b)]).run P w = .ok (.int .i64 n) w := by
  obtain ⟨D, h, _, hs⟩ := h
  have := h.len ht ty
  rwa [hs] at this

/-- A range over a map under way: the entries that are still to come. -/
def RangeF (P : Program) (k e : TypeId) (w : World) (b r n : Nat) (f : Value → Option Value) (left : Value → Bool) (cnt : Nat) : Prop :=
  ∃ (D : DataW Unit) (lf : Lit → Bool), w.ranges P k (plainElem P e) b r n D lf cnt ∧ DataIs P k e D f ∧ ∀ key kl, keyOf P k key = some kl → lf kl = left key
theorem RangeF.toF {r cnt : Nat} {left : Value → Bool} (h : RangeF P k e w b r n f left cnt) : MapF P k e w b n f := by obtain ⟨D, lf, h1, h2, _⟩ := h; exact ⟨D, h1.owns, h2⟩
theorem RangeF.kept {w' : World} {row : Option Nat} {r cnt : Nat} {left : Value → Bool} (h : RangeF P k e w b r n f left cnt) (hg : w.grownBy w' row) (hb : some b ≠ row) (hr : some r ≠ row) : RangeF P k e w' b r n f left cnt := by
  obtain ⟨D, lf, h1, h2⟩ := h; exact ⟨D, lf, h1.kept hg hb hr, h2⟩
theorem RangeF.lt {r cnt : Nat} {left : Value → Bool} (h : RangeF P k e w b r n f left cnt) : r < w.heap.size := by obtain ⟨D, lf, h1, _⟩ := h; exact h1.lt
theorem RangeF.left_eq {r cnt : Nat} {left : Value → Bool} (h : RangeF P k e w b r n f left cnt) : w.rangeLeft b r = cnt := by obtain ⟨D, lf, h1, _⟩ := h; exact h1.left_eq
theorem RangeF.ne {r cnt : Nat} {left : Value → Bool} (h : RangeF P k e w b r n f left cnt) : r ≠ b := by obtain ⟨D, lf, h1, _⟩ := h; exact h1.ne
end

section
variable {P : Program} {k e : TypeId} {ops : Array Oper} {rest : List Oper} {o : Oper} {a : Act} {Q : Exit → Act → World → Prop}

/-- 'range m' at the operation. -/
theorem wpList_rangeF (w : World) (hg : o.guard = none) (m : Operand) (t : TypeId) (hop : o.op = Op.range t m) (K : Keyed P k) (ht : P.underlying t = some (.map k e)) (b n : Nat) (f : Value → Option Value)
    (hm : a.eval m = .map (some b)) (h : MapF P k e w b n f)
    (hK : ∀ w' cnt, RangeF P k e w' b w.heap.size n f (fun x => (f x).isSome) cnt → cnt ≤ n → w.grownBy w' none → w'.heap.size = w.heap.size + 1 → wpList P ops Q rest (a.put o.dst (.pointer (some ⟨w.heap.size, 0, none⟩))) w') :
    wpList P ops Q (o :: rest) a w := by
  obtain ⟨D, h, hD⟩ := h
  refine wpList_range_own w hg m t hop k e K ht _ b n D hm h fun w' h1 h2 h3 => hK w' _ ⟨D, _, h1, hD, fun key kl hk => ?_⟩ h.size_le h2 h3
  obtain ⟨p1, p2⟩ := hD key kl hk
  cases hf : f key with
  | none => simp only [hf]; exact p1 hf
  | some v => simp only [hf]; exact (p2 v hf).1

/-- The step. -/
theorem wpList_nextF {α β : Type} (w : World) (hg : o.guard = none) (it : Operand) (hop : o.op = Op.next it false) (K : Keyed P k) (mkK : α → Value) (mkV : β → Value)
    (invK : ∀ key kl, keyOf P k key = some kl → ∃ x, key = mkK x) (invV : ∀ v y, plainElem (H := Unit) P e v = some y → ∃ c, v = mkV c) (b r n : Nat) (f : Value → Option Value) (left : Value → Bool) (cnt : Nat)
    (hit : a.eval it = .pointer (some ⟨r, 0, none⟩)) (h : RangeF P k e w b r n f left cnt)
    (hDone : (∀ key kl, keyOf P k key = some kl → left key = false) → wpList P ops Q rest (a.put o.dst (.tuple #[.bool false])) w)
    (hMore : ∀ (x : α) (c : β) (w' : World) (cnt' : Nat), (∃ kl, keyOf P k (mkK x) = some kl) → left (mkK x) = true → f (mkK x) = some (mkV c) → RangeF P k e w' b r n f (fun z => open Classical in left z && !decide (z = mkK x)) cnt' → cnt' < cnt →
      w.grownBy w' (some r) → w'.heap.size = w.heap.size → (Instr.entry (.pointer (some ⟨r, 0, none⟩))).run P w' = .ok (.tuple #[mkK x, mkV c]) w' → wpList P ops Q rest (a.put o.dst (.tuple #[.bool true, mkK x, mkV c])) w') :
    wpList P ops Q (o :: rest) a w := by
  obtain ⟨D, lf, h, hD, hl⟩ := h
  refine wpList_next_ranges w hg it hop k K _ mkK mkV invK invV b r n D lf cnt hit h (fun _ h0 => hDone fun key kl hk => by rw [← hl key kl hk]; exact h0 kl) ?_
  intro x c kl y w' cnt' hk hlk hv hat hrg hlt hgr hsz hen
  refine hMore x c w' cnt' ⟨kl, hk⟩ (by rw [← hl _ _ hk]; exact hlk) ?_ ⟨D, _, hrg, hD, fun key kl' hk' => ?_⟩ hlt hgr hsz hen
  · obtain ⟨p1, p2⟩ := hD _ kl hk
    cases hf : f (mkK x) with
    | none =>
      exfalso
      have := atKey_of_not_has (p1 hf) (.lit (.bool true))
      have e1 := hat (.lit (.bool true))
      have := atKey_of_not_has (p1 hf) (.lit (.bool false))
      have e2 := hat (.lit (.bool false))
      simp_all
    | some v =>
      obtain ⟨_, d, ps, q1, q2⟩ := p2 v hf
      have hd : d = y.1 := by rw [← q2 (.lit (.bool true)), hat]
      rw [plainElem_one q1 (by rw [hv, hd])]
  · rw [hl key kl' hk']
    by_cases hx : key = mkK x
    · subst hx
      rw [hk] at hk'
      obtain rfl : kl = kl' := by simpa using hk'
      simp [WideAt.sameKey_self (K.key hk)]
    · have hne : kl' ≠ kl := fun he => hx (K.inj hk' (by rw [he]; exact hk))
      simp [sameKey_ne hne, hx]
end

section
variable {P : Program} {k e : TypeId} {ops : Array Oper} {rest : List Oper} {o : Oper} {a : Act} {Q : Exit → Act → World → Prop}

/-- 'm[k] = v' at the operation. -/
theorem wpList_put (w : World) (hg : o.guard = none) (m x v : Operand) (t : TypeId) (hop : o.op = Op.mapUpdate t m x v) (K : Keyed P k) (ht : P.underlying t = some (.map k e)) (b n : Nat) (f : Value → Option Value)
    (hm : a.eval m = .map (some b)) (h : MapF P k e w b n f) (hn : n < maxLen) (key val : Value) (kl : Lit) (hx : a.eval x = key) (hv : a.eval v = val) (hkey : keyOf P k key = some kl)
    (d : DataW Unit) (ps : List MemPlace) (hval : plainElem P e val = some (d, ps))
    (hK : ∀ w', MapF P k e w' b (n + 1) (upd f key val) → w.grownBy w' (some b) → wpList P ops Q rest (a.put o.dst undef) w') : wpList P ops Q (o :: rest) a w := by
  refine wpList_plain hg fun K' hK' => ?_
  obtain ⟨w', hrun, r1, r2⟩ := h.update K ht hn hkey hval
  unfold Oper.wp
  simp [execOp, hop, hm, hx, hv, hrun, Result.andThen]
  exact hK' _ _ (hK w' r1 r2)
end
end Go.Proofs.YtbiffaciinppiaaGreatDoor
end
