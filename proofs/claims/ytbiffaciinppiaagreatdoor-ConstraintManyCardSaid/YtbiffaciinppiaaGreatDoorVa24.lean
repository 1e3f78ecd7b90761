/- constraint.row. constraint.rows: the closure that adds rows. Reads of a drawn region on which no last store waits: one condition for the whole region. No program. slices.Clone of numbers. -/
import Derived.Test.YtbiffaciinppiaaGreatDoorVa23
import Derived.Test.YtbiffaciinppiaaGreatDoorVa19
import Derived.Test.YtbiffaciinppiaaGreatDoorVa20
set_option linter.unusedVariables false
set_option linter.unusedSimpArgs false
section
namespace Go.Proofs.YtbiffaciinppiaaGreatDoor
open Go.RowKit Go.Maps
attribute [local irreducible] tQ
set_option linter.unusedSimpArgs false

theorem fm3_inv {k0 k1 k2 : Int} {v0 v1 v2 : Value} {x : Int} {v : Value} (h : fm3 k0 k1 k2 v0 v1 v2 (.int .i64 x) = some v) : (x = k0 ∧ v = v0) ∨ (x = k1 ∧ v = v1) ∨ (x = k2 ∧ v = v2) := by
  by_cases h2 : x = k2
  · subst h2
    rw [fm3_2] at h
    exact .inr (.inr ⟨rfl, (Option.some.inj h).symm⟩)
  · unfold fm3 at h
    rw [upd_other (by intro e; cases e; exact h2 rfl)] at h
    by_cases h1 : x = k1
    · subst h1
      unfold fm2 at h
      rw [upd_same] at h
      exact .inr (.inl ⟨rfl, (Option.some.inj h).symm⟩)
    · unfold fm2 at h
      rw [upd_other (by intro e; cases e; exact h1 rfl)] at h
      by_cases h0 : x = k0
      · subst h0
        unfold fm1 at h
        rw [upd_same] at h
        exact .inl ⟨rfl, (Option.some.inj h).symm⟩
      · unfold fm1 at h
        rw [upd_other (by intro e; cases e; exact h0 rfl)] at h
        cases h
theorem RangeF.same {P : Program} {k e : TypeId} {w W : World} {b r n cnt : Nat} {f : Value → Option Value} {left : Value → Bool} (h : RangeF P k e w b r n f left cnt) (hb : W.heap[b]? = w.heap[b]?) (hr : W.heap[r]? = w.heap[r]?) : RangeF P k e W b r n f left cnt := by
  obtain ⟨D, lf, ⟨es, clock, since, seen, c0, h1, F, hs, hD, h2, rest⟩, h3⟩ := h
  exact ⟨D, lf, ⟨es, clock, since, seen, c0, by rw [hb]; exact h1, F, hs, hD, by rw [hr]; exact h2, rest⟩, h3⟩
theorem RowOf.lt {G : Nat → Rat} {g n : Nat} {w : World} (h : RowOf G g n w) : g < w.heap.size := by
  obtain ⟨cur, h1, _⟩ := h
  exact (Array.getElem?_eq_some_iff.1 h1).1
def RwR (mb r q n o k0 k1 k2 : Nat) (f : Value → Option Value) (p0 p1 p2 : Rat) (w w4 : World) (_ : Value) (wr : World) : Prop :=
  ∃ (left : Value → Bool) (cnt : Nat), RangeF Tryz.prog 3 54 wr mb r 3 f left cnt ∧ RowOf (rowG o k0 k1 k2 p0 p1 p2 left) q n wr ∧ But2 q r w4 wr ∧ Ext w wr

set_option maxRecDepth 100000 in
set_option maxHeartbeats 2000000 in
theorem row_ok (s p u : Nat) (hs : s ≤ 60) (hp : p ≤ 60) (h0 : 0 < s * p) (h6 : s * p ≤ 60) (hu : u < s) (k0 k1 k2 : Nat) (hk : k0 < p ∧ k1 < p ∧ k2 < p) (hne : k0 ≠ k1 ∧ k0 ≠ k2 ∧ k1 ≠ k2) (q0 q1 q2 sg bd : Rat) (d0 : Dg 9 q0) (d1 : Dg 9 q1) (d2 : Dg 9 q2) (dS : Dg 9 sg) (dB : Dg 9 bd) (mb : Nat) (w : World) (g : Glob w)
    (hm : MapR w mb 3 (fm3 k0 k1 k2 (.string (tQ q0)) (.string (tQ q1)) (.string (tQ q2)))) :
    Calls Tryz.prog 87 #[shpV s p, .int .i64 u, .map (some mb), .string (tQ sg), .string (tQ bd)] w (fun e w' => ∃ q, e = .returned (.agg #[.slice (some ⟨q, 0, none⟩) (s * p) (s * p), .string (tQ (sg * bd))]) ∧ w.heap.size ≤ q ∧ RowOf (rowF (u * p) k0 k1 k2 (sg * q0) (sg * q1) (sg * q2)) q (s * p) w' ∧ Ext w w') := by
  have HZ := Lib.hid (fun W => zeros_ok s p hs hp h0 h6 W)
  have HM := Lib.hid (fun W (X : Ext w W) => rMul sg bd W (g.ext X) dS dB)
  have HA := Lib.hid (fun (x : Nat) (hx : x < p) W => sAt_ok s p u x hp (by omega) (by omega) W)
  have HN := Lib.hid (fun (x : Nat) (q : Rat) (h : (x = k0 ∧ q = q0) ∨ (x = k1 ∧ q = q1) ∨ (x = k2 ∧ q = q2)) W (X : Ext w W) => show Calls Tryz.prog 115 #[.string (tQ sg), .string (tQ q)] W (Ret (.string (tQ (sg * q))) W) from rMul sg q W (g.ext X) dS (by rcases h with ⟨_, rfl⟩ | ⟨_, rfl⟩ | ⟨_, rfl⟩ <;> assumption))
  have HP := Lib.hid (fun (x : Nat) (hx : x < p) => show u * p + x < s * p from by
    have : (u + 1) * p ≤ s * p := Nat.mul_le_mul_right p (by omega)
    rw [Nat.add_mul] at this; omega)
  generalize s * p = n at *
  simp only [shpV] at *
  go_enter Tryz.func87, Tryz.ntmps87
  go_wp2_with fail
  have X0 := ((Ext.refl w).alloc (.cells #[.int .i64 s, .int .i64 p] 109)).alloc (.cells #[.slice none 0 0, .string ⟨#[]⟩] 101)
  have a0 : Cells w.heap.size [.int .i64 s, .int .i64 p] ((w.alloc (.cells #[.int .i64 s, .int .i64 p] 109)).alloc (.cells #[.slice none 0 0, .string ⟨#[]⟩] 101)) := (Cells.new w [.int .i64 s, .int .i64 p] 109).ext ((Ext.refl _).alloc _)
  have a1 : Cells (w.heap.size + 1) [.slice none 0 0, .string ⟨#[]⟩] ((w.alloc (.cells #[.int .i64 s, .int .i64 p] 109)).alloc (.cells #[.slice none 0 0, .string ⟨#[]⟩] 101)) := by
    have := Cells.new (w.alloc (.cells #[.int .i64 s, .int .i64 p] 109)) [.slice none 0 0, .string ⟨#[]⟩] 101
    rw [World.size_alloc] at this
    exact this
  refine (HZ.out _).mono ?_
  rintro e w1 ⟨q, cur, rfl, hq, hrow, X1⟩
  have hsz0 : w.heap.size + 2 ≤ q := by simpa using hq
  have XX := X0.trans X1
  go_wp2_with fail
  refine (HM.out _ XX).mono ?_
  rintro e w2 ⟨rfl, X2⟩
  have XY := XX.trans X2
  go_upto_region 2 with fail
  have hW3 : ∃ W3, W3 = w2.alloc (.cells #[.slice (some ⟨q, 0, none⟩) n n, .string (tQ (sg * bd))] 101) := ⟨_, rfl⟩
  obtain ⟨W3, hW3⟩ := hW3
  rw [← hW3]
  have Z3 : Ext w2 W3 := by rw [hW3]; exact (Ext.refl w2).alloc _
  have b3 : Cells w2.heap.size [.slice (some ⟨q, 0, none⟩) n n, .string (tQ (sg * bd))] W3 := by rw [hW3]; exact Cells.new _ _ _
  have hs3 : w2.heap.size < W3.heap.size := by rw [hW3]; simp
  clear hW3
  have XW := XY.trans Z3
  have hm3 : MapR W3 mb 3 (fm3 k0 k1 k2 (.string (tQ q0)) (.string (tQ q1)) (.string (tQ q2))) := hm.same (XW.block mb hm.lt)
  go_wp2_with (at_range; refine wpList_rangeF _ rfl _ 164 rfl KInt Tryz.underlying164 mb 3 _ rfl hm3.toF ?_; intro w4 cnt0 hrg0 hcnt0 hg0 hs4)
  go_frame
  have Z4 : Ext W3 w4 := Below.grown (Ext.refl W3) hg0 (Nat.le_refl _) (fun k e => by cases e)
  have XV := XW.trans Z4
  have hqw : q < w1.heap.size := by
    rcases Nat.lt_or_ge q w1.heap.size with h | h
    · exact h
    · exfalso
      have := hrow.1
      rw [Array.getElem?_eq_none h] at this
      cases this
  have X12 : Ext w1 w4 := (X2.trans Z3).trans Z4
  have hrow4 : RowOf (fun _ => 0) q n w4 := (RowZ.of hrow).same (X12.block q hqw)
  have b4 := b3.ext Z4
  have c0 := a0.ext (X1.trans X12)
  have c1 := a1.ext (X1.trans X12)
  have hst : RwR mb W3.heap.size q n (u * p) k0 k1 k2 (fm3 k0 k1 k2 (.string (tQ q0)) (.string (tQ q1)) (.string (tQ q2))) (sg * q0) (sg * q1) (sg * q2) w w4 undef w4 := by
    refine ⟨_, _, hrg0, hrow4.congr fun j hj => ?_, But2.refl _ _ _, XV⟩
    unfold rowG
    have hneI : ((k0 : Int) ≠ k1 ∧ (k0 : Int) ≠ k2 ∧ (k1 : Int) ≠ k2) := ⟨by omega, by omega, by omega⟩
    have e0 : (fm3 k0 k1 k2 (.string (tQ q0)) (.string (tQ q1)) (.string (tQ q2)) (.int .i64 k0)).isSome = true := by rw [fm3_0 hneI]; rfl
    have e1 : (fm3 k0 k1 k2 (.string (tQ q0)) (.string (tQ q1)) (.string (tQ q2)) (.int .i64 k1)).isSome = true := by rw [fm3_1 hneI]; rfl
    have e2 : (fm3 k0 k1 k2 (.string (tQ q0)) (.string (tQ q1)) (.string (tQ q2)) (.int .i64 k2)).isSome = true := by rw [fm3_2]; rfl
    simp [e0, e1, e2]
  have hqq : q < w2.heap.size := Nat.lt_of_lt_of_le hqw X2.size
  have hX4 : W3.heap.size < w4.heap.size := hrg0.lt
  have hmb : mb < w.heap.size := hm.lt
  have hww : w.heap.size ≤ W3.heap.size := XW.size
  have HF : Hid (∀ x v, fm3 k0 k1 k2 (.string (tQ q0)) (.string (tQ q1)) (.string (tQ q2)) (.int .i64 x) = some v → ∃ (y : Nat) (q : Rat), x = y ∧ v = .string (tQ q) ∧ y < p ∧ ((y = k0 ∧ q = q0) ∨ (y = k1 ∧ q = q1) ∨ (y = k2 ∧ q = q2))) := by
    refine Lib.hid fun x v h => ?_
    rcases fm3_inv h with ⟨rfl, rfl⟩ | ⟨rfl, rfl⟩ | ⟨rfl, rfl⟩
    · exact ⟨k0, q0, rfl, rfl, hk.1, .inl ⟨rfl, rfl⟩⟩
    · exact ⟨k1, q1, rfl, rfl, hk.2.1, .inr (.inl ⟨rfl, rfl⟩)⟩
    · exact ⟨k2, q2, rfl, rfl, hk.2.2, .inr (.inr ⟨rfl, rfl⟩)⟩
  generalize fm3 k0 k1 k2 (.string (tQ q0)) (.string (tQ q1)) (.string (tQ q2)) = fm at *
  clear hrg0 hcnt0 hg0 hs4 hrow hrow4 hm hm3 X0 X1 X2 XX XY XW Z3 Z4 X12 HZ HM b3 hqw a0 a1 hq g XV
  have H4 := Lib.hid (And.intro hs3 (And.intro hsz0 (And.intro hqq (And.intro hX4 (And.intro hmb hww)))))
  clear hs3 hsz0 hqq hX4 hmb hww
  generalize W3.heap.size = r at *
  have HNE := Lib.hid hne
  have HK := Lib.hid hk
  clear hne hk h0 h6 hs hu
  go_loopw [12] (RwR mb r q n (u * p) k0 k1 k2 fm (sg * q0) (sg * q1) (sg * q2) w w4) (fun _ wr => wr.rangeLeft mb r)
  case atStart => exact hst
  case round =>
    obtain ⟨left, cnt, hrg, hrow, hbut, hx⟩ := hrel
    go_wp2_with (at_next; go_loud (refine wpList_nextF _ rfl _ rfl KInt (Value.int .i64) Value.string (fun key kl h => key_int_inv h) (fun v y h => by obtain ⟨s, h1, _⟩ := plainElem_string_inv Tryz.underlying54 h; exact ⟨s, h1⟩) mb r 3 fm left cnt rfl hrg (fun hdone => Hid.out ?_) (fun x cv w5 cnt1 hkp hlp hfp hrg1 hlt1 hg1 hs1 hen => Hid.out ?_)))
    · refine Lib.hid ?_
      have hl : ∀ k : Nat, k < p → left (.int .i64 k) = false := fun k hk => by
        obtain ⟨kl, hkl⟩ := key_int (a := (k : Int)) ⟨by omega, by omega⟩
        exact hdone _ kl hkl
      have hsc := H4.out
      have hkk := HK.out
      have hrr : RowOf (rowF (u * p) k0 k1 k2 (sg * q0) (sg * q1) (sg * q2)) q n wr := hrow.congr (fun j _ => rowG_end (hl k0 hkk.1) (hl k1 hkk.2.1) (hl k2 hkk.2.2) j)
      have hc1 := hbut.cells (b := w.heap.size + 1) (by omega) (by omega) c1
      have hb4 := hbut.cells (b := w2.heap.size) (by omega) (by omega) b4
      have m0 := (hb4.at 0 _ rfl).1
      have m1 := (hb4.at 1 _ rfl).1
      obtain ⟨a0, f0⟩ := hc1.at 0 _ rfl
      obtain ⟨a1, f1⟩ := hc1.at 1 _ rfl
      have hf := ((hc1.put 0 (by simp) (.slice (some ⟨q, 0, none⟩) n n)).put 1 (by simp) (.string (tQ (sg * bd))))
      have z0 := (hf.at 0 _ rfl).1
      have z1 := (hf.at 1 _ rfl).1
      have HE : Hid (w.heap.size ≤ q ∧ RowOf (rowF (u * p) k0 k1 k2 (sg * q0) (sg * q1) (sg * q2)) q n ((wr.setCell ⟨w.heap.size + 1, 0, none⟩ (.slice (some ⟨q, 0, none⟩) n n)).setCell ⟨w.heap.size + 1, 1, none⟩ (.string (tQ (sg * bd)))) ∧ Ext w ((wr.setCell ⟨w.heap.size + 1, 0, none⟩ (.slice (some ⟨q, 0, none⟩) n n)).setCell ⟨w.heap.size + 1, 1, none⟩ (.string (tQ (sg * bd))))) := by
        refine Lib.hid ⟨by omega, hrr.same ?_, (hx.setCell (p := ⟨w.heap.size + 1, 0, none⟩) (by show w.heap.size ≤ w.heap.size + 1; omega) _).setCell (p := ⟨w.heap.size + 1, 1, none⟩) (by show w.heap.size ≤ w.heap.size + 1; omega) _⟩
        rw [heap_set _ ⟨w.heap.size + 1, 1, none⟩ _ q (by show q ≠ w.heap.size + 1; omega), heap_set _ ⟨w.heap.size + 1, 0, none⟩ _ q (by show q ≠ w.heap.size + 1; omega)]
      clear hl hsc hkk hrr hc1 hb4 hf hdone hrg hrow hbut hx c0 c1 b4 hst
      go_wp2_with fail
      exact bodyPost_ret (v := .agg #[.slice (some ⟨q, 0, none⟩) n n, .string (tQ (sg * bd))]) (by simp [results, Tryz.results87, go_sem, z0, z1]) rfl ⟨q, rfl, HE.out.1, HE.out.2.1, HE.out.2.2⟩
    · refine Lib.hid ?_
      obtain ⟨y, qx, rfl, hcv, hyp, hyq⟩ := HF.out x _ hfp
      obtain rfl : cv = tQ qx := by simpa using hcv
      have hJ := HP.out y hyp
      have HA1 := Lib.hid (HA.out y hyp)
      have HN1 := Lib.hid (HN.out y qx hyq)
      have hsc := H4.out
      have g1 : w5.heap.size = wr.heap.size := hs1
      have hrl := hrg.lt
      have hB5 : But2 q r w4 w5 := hbut.grown hg1 hs1
      have hx5 : Ext w w5 := Below.grown hx hg1 (by omega) (fun k e => by cases e; omega)
      have hro5 : RowOf (rowG (u * p) k0 k1 k2 (sg * q0) (sg * q1) (sg * q2) left) q n w5 := hrow.same (hg1.block q hrow.lt (by intro e; cases e; omega))
      have hJ0 : (0 : Int) ≤ ((u * p + y : Nat) : Int) := by omega
      have hJ1 : ((u * p + y : Nat) : Int) < ((n : Nat) : Int) := by omega
      have hc0 := hB5.cells (b := w.heap.size) (by omega) (by omega) c0
      have hb4 := hB5.cells (b := w2.heap.size) (by omega) (by omega) b4
      have m0 := (hb4.at 0 _ rfl).1
      have m1 := (hc0.at 0 _ rfl).1
      have m2 := (hc0.at 1 _ rfl).1
      have l0 : w2.heap.size < w5.heap.size := by omega
      have l1 : w.heap.size < w5.heap.size := by omega
      have lq := hro5.lt
      have HS := Lib.hid (show ∀ V, Ext w5 V → RwR mb r q n (u * p) k0 k1 k2 fm (sg * q0) (sg * q1) (sg * q2) w w4 undef (V.setCell ⟨q, u * p + y, none⟩ (.string (tQ (sg * qx)))) ∧ (V.setCell ⟨q, u * p + y, none⟩ (.string (tQ (sg * qx)))).rangeLeft mb r < wr.rangeLeft mb r from fun V Y => by
        have hr2 : RangeF Tryz.prog 3 54 (V.setCell ⟨q, u * p + y, none⟩ (.string (tQ (sg * qx)))) mb r 3 fm _ cnt1 := hrg1.same
          ((heap_set V ⟨q, u * p + y, none⟩ _ mb (by show mb ≠ q; omega)).trans (Y.block mb (by omega)))
          ((heap_set V ⟨q, u * p + y, none⟩ _ r (by show r ≠ q; omega)).trans (Y.block r (by omega)))
        refine ⟨⟨_, _, hr2, ?_, (hB5.below (Below.mono Y (by have := hB5.1; omega))).set _ _, (hx5.trans Y).setCell (p := ⟨q, _, none⟩) (by show w.heap.size ≤ q; omega) _⟩, ?_⟩
        · exact ((hro5.same (Y.block q lq)).put (u * p + y) hJ (sg * qx)).congr fun j _ => rowG_step HNE.out y (sg * qx) (by rcases hyq with ⟨rfl, rfl⟩ | ⟨rfl, rfl⟩ | ⟨rfl, rfl⟩ <;> simp) j
        · rw [hr2.left_eq, hrg.left_eq]; exact hlt1)
      have HC := Lib.hid (show ∀ V, Ext w5 V → (∃ v, V.cell? ⟨q, u * p + y, none⟩ = some v) ∧ V.frozen? ⟨q, u * p + y, none⟩ = false from fun V Y => ⟨⟨_, (hro5.same (Y.block q lq)).cell hJ⟩, (hro5.same (Y.block q lq)).frozen _⟩)
      clear hJ hB5 hrg1 hrg hrow hbut hx hro5 hg1 hlt1 hkp hlp hfp hyq hcv c0 c1 b4 hst hc0 hb4 hsc hs1 g1 lq hrl
      generalize u * p + y = J at *
      go_upto_region 5 with fail
      refine wp_region_Z' (TE w5.heap.size w5) 10 (by kernel_rfl) ?_
      intro V0 hV0
      have Y0 : Ext w5 V0 := by rw [hV0]; exact (Ext.refl w5).drew
      have hT : TE w5.heap.size w5 false V0 := Y0
      clear hV0
      refine' wpAnyZ_take 10 (i := 0) (v := _) rfl rfl (by kernel_rfl) (by decide) (by kernel_rfl) (by kernel_rfl) (by kernel_rfl) (by kernel_rfl) (fun _ _ _ h => h.no.elim) hT (by rfl) ?hy ?_
      case hy => (intro w' hS; have q0 := hS.c l0 m0; have q1 := hS.c l1 m1; have q2 := hS.c l1 m2; clear hS; go_simp; rfl)
      try simp only [Act.put, List.getElem_toArray, List.getElem_cons_zero, List.getElem_cons_succ, List.setIfInBounds_toArray, List.set_cons_zero, List.set_cons_succ]
      refine' wpAnyZ_take 10 (i := 1) (v := _) rfl rfl (by kernel_rfl) (by decide) (by kernel_rfl) (by kernel_rfl) (by kernel_rfl) (by kernel_rfl) (fun _ _ _ h => h.no.elim) hT (by rfl) ?hy ?_
      case hy => (intro w' hS; have q0 := hS.c l0 m0; have q1 := hS.c l1 m1; have q2 := hS.c l1 m2; clear hS; go_simp; rfl)
      try simp only [Act.put, List.getElem_toArray, List.getElem_cons_zero, List.getElem_cons_succ, List.setIfInBounds_toArray, List.set_cons_zero, List.set_cons_succ]
      refine' wpAnyZ_take 10 (i := 2) (v := _) rfl rfl (by kernel_rfl) (by decide) (by kernel_rfl) (by kernel_rfl) (by kernel_rfl) (by kernel_rfl) (fun _ _ _ h => h.no.elim) hT (by rfl) ?hy ?_
      case hy => (intro w' hS; have q0 := hS.c l0 m0; have q1 := hS.c l1 m1; have q2 := hS.c l1 m2; clear hS; go_simp; rfl)
      try simp only [Act.put, List.getElem_toArray, List.getElem_cons_zero, List.getElem_cons_succ, List.setIfInBounds_toArray, List.set_cons_zero, List.set_cons_succ]
      refine' wpAnyZ_take 10 (i := 3) (v := _) rfl rfl (by kernel_rfl) (by decide) (by kernel_rfl) (by kernel_rfl) (by kernel_rfl) (by kernel_rfl) (fun _ _ _ h => h.no.elim) hT (by rfl) ?hy ?_
      case hy => (intro w' hS; have q0 := hS.c l0 m0; have q1 := hS.c l1 m1; have q2 := hS.c l1 m2; clear hS; go_simp; rfl)
      try simp only [Act.put, List.getElem_toArray, List.getElem_cons_zero, List.getElem_cons_succ, List.setIfInBounds_toArray, List.set_cons_zero, List.set_cons_succ]
      refine' wpAnyZ_take 10 (i := 4) (v := _) rfl rfl (by kernel_rfl) (by decide) (by kernel_rfl) (by kernel_rfl) (by kernel_rfl) (by kernel_rfl) (fun _ _ _ h => h.no.elim) hT (by rfl) ?hy ?_
      case hy => (intro w' hS; have q0 := hS.c l0 m0; have q1 := hS.c l1 m1; have q2 := hS.c l1 m2; clear hS; go_simp; rfl)
      try simp only [Act.put, List.getElem_toArray, List.getElem_cons_zero, List.getElem_cons_succ, List.setIfInBounds_toArray, List.set_cons_zero, List.set_cons_succ]
      refine' wpAnyZ_take 10 (i := 6) (v := _) rfl rfl (by kernel_rfl) (by decide) (by kernel_rfl) (by kernel_rfl) (by kernel_rfl) (by kernel_rfl) (fun _ _ _ h => h.no.elim) hT (by rfl) ?hy ?_
      case hy => (intro w' hS; have q0 := hS.c l0 m0; have q1 := hS.c l1 m1; have q2 := hS.c l1 m2; clear hS; go_simp; rfl)
      try simp only [Act.put, List.getElem_toArray, List.getElem_cons_zero, List.getElem_cons_succ, List.setIfInBounds_toArray, List.set_cons_zero, List.set_cons_succ]
      refine' wpAnyZ_take 10 (i := 7) (v := _) rfl rfl (by kernel_rfl) (by decide) (by kernel_rfl) (by kernel_rfl) (by kernel_rfl) (by kernel_rfl) (fun _ _ _ h => h.no.elim) hT (by rfl) ?hy ?_
      case hy => (intro w' hS; have q0 := hS.c l0 m0; have q1 := hS.c l1 m1; have q2 := hS.c l1 m2; clear hS; go_simp; rfl)
      try simp only [Act.put, List.getElem_toArray, List.getElem_cons_zero, List.getElem_cons_succ, List.setIfInBounds_toArray, List.set_cons_zero, List.set_cons_succ]
      refine wpAnyZ_one false (i := 5) (by kernel_rfl) (by kernel_rfl) rfl (fun K' hK => ?_)
      go_simp
      refine (HA1.out _).mono ?_
      rintro e V1 ⟨rfl, Z1⟩
      have Y1 := Y0.trans Z1
      refine hK.out _ _ Y1 ?_
      clear hK K'
      try simp only [Act.put, List.getElem_toArray, List.getElem_cons_zero, List.getElem_cons_succ, List.setIfInBounds_toArray, List.set_cons_zero, List.set_cons_succ]
      refine wpAnyZ_one false (i := 8) (by kernel_rfl) (by kernel_rfl) rfl (fun K' hK => ?_)
      go_simp
      refine (HN1.out _ (hx5.trans Y1)).mono ?_
      rintro e V2 ⟨rfl, Z2⟩
      have Y2 := Y1.trans Z2
      refine hK.out _ _ Y2 ?_
      clear hK K'
      try simp only [Act.put, List.getElem_toArray, List.getElem_cons_zero, List.getElem_cons_succ, List.setIfInBounds_toArray, List.set_cons_zero, List.set_cons_succ]
      obtain ⟨⟨v9, h9⟩, f9⟩ := HC.out V2 Y2
      have HE := Lib.hid (HS.out V2 Y2)
      refine wpAnyZ_one false (i := 9) (by kernel_rfl) (by kernel_rfl) rfl (fun K' hK => ?_)
      go_simp
      refine hK.out _ _ Y2 ?_
      clear hK K'
      try simp only [Act.put, List.getElem_toArray, List.getElem_cons_zero, List.getElem_cons_succ, List.setIfInBounds_toArray, List.set_cons_zero, List.set_cons_succ]
      refine wpAnyZ_one true (i := 10) (by kernel_rfl) (by kernel_rfl) rfl (fun K' hK => ?_)
      go_simp
      refine hK.out _ _ trivial ?_
      clear hK K'
      refine wpAnyZ_done (by kernel_rfl) ⟨rfl, ?_⟩ _
      go_wp2_with fail
      exact HE.out
end Go.Proofs.YtbiffaciinppiaaGreatDoor
end

section
namespace Go.Proofs.YtbiffaciinppiaaGreatDoor
open Go.RowKit Go.Maps
attribute [local irreducible] tQ
set_option linter.unusedSimpArgs false

/-- A row of a linear program: where its factors lie, what they are, its bound. -/
structure Rw where
  (q : Nat) (G : Nat → Rat) (b : Rat)
def encW (n : Nat) (r : Rw) : List Value := [.slice (some ⟨r.q, 0, none⟩) n n, .string (tQ r.b)]
def RowsIn (n base : Nat) (L : List Rw) (w : World) : Prop := ∀ r ∈ L, base ≤ r.q ∧ RowOf r.G r.q n w
def NotRow (w : World) (b : Nat) : Prop := ∀ cur f, w.heap[b]? ≠ some (.cells cur 101 f)
theorem RowOf.notRow {G : Nat → Rat} {q n : Nat} {w : World} (h : RowOf G q n w) : NotRow w q := fun cur f e => by
  obtain ⟨cur', h1, _⟩ := h
  rw [h1] at e
  exact absurd e (by intro e; cases e)
theorem MapE.notRow {P : Program} {k e : TypeId} {w : World} {b n : Nat} {f : Value → Option Value} (h : MapE P k e w b n f) : NotRow w b := fun cur fr e => by
  obtain ⟨D, ⟨es, clock, h1, _⟩, _⟩ := h
  rw [h1] at e
  cases e
/-- What the closure leaves as it was: all blocks but the list's cell, and but rows of the list. -/
structure KO (base oc : Nat) (W wr : World) : Prop where
  os : wr.os = W.os
  tape : wr.tape = W.tape
  output : wr.output = W.output
  size : W.heap.size ≤ wr.heap.size
  low : ∀ b, b < base → b ≠ oc → wr.heap[b]? = W.heap[b]?
  high : ∀ b, b < W.heap.size → b ≠ oc → NotRow W b → wr.heap[b]? = W.heap[b]?
theorem KO.refl (base oc : Nat) (W : World) : KO base oc W W := ⟨rfl, rfl, rfl, Nat.le_refl _, fun _ _ _ => rfl, fun _ _ _ _ => rfl⟩
theorem KO.trans {base oc : Nat} {a b c : World} (h : KO base oc a b) (k : KO base oc b c) : KO base oc a c :=
  ⟨k.os.trans h.os, k.tape.trans h.tape, k.output.trans h.output, Nat.le_trans h.size k.size, fun x hx hn => (k.low x hx hn).trans (h.low x hx hn),
   fun x hx hn hr => (k.high x (Nat.lt_of_lt_of_le hx h.size) hn (fun cur f e => hr cur f ((h.high x hx hn hr).symm.trans e))).trans (h.high x hx hn hr)⟩
theorem KO.ofExt {base oc : Nat} {a b : World} (hb : base ≤ a.heap.size) (h : Ext a b) : KO base oc a b :=
  ⟨h.os, h.tape, h.output, h.size, fun x hx _ => h.block x (Nat.lt_of_lt_of_le hx hb), fun x hx _ _ => h.block x hx⟩
theorem KO.ext {base oc : Nat} {a b c : World} (h : KO base oc a b) (hb : base ≤ a.heap.size) (k : Ext b c) : KO base oc a c := h.trans (KO.ofExt (Nat.le_trans hb h.size) k)
theorem KO.set {base oc : Nat} {a b : World} (h : KO base oc a b) (o : Nat) (u : Value) : KO base oc a (b.setCell ⟨oc, o, none⟩ u) := by
  have hB : Below oc b (b.setCell ⟨oc, o, none⟩ u) := (Below.refl oc b).setCell (p := ⟨oc, o, none⟩) (Nat.le_refl _) u
  exact ⟨hB.os.trans h.os, hB.tape.trans h.tape, hB.output.trans h.output, by simpa using h.size, fun x hx hn => (heap_set b ⟨oc, o, none⟩ u x hn).trans (h.low x hx hn), fun x hx hn hr => (heap_set b ⟨oc, o, none⟩ u x hn).trans (h.high x hx hn hr)⟩
theorem KO.push {base oc n : Nat} {a b c : World} {L : List Rw} {v : Value} (h : KO base oc a b) (hb : base ≤ a.heap.size) (hown : OwnL (encW n) 101 2 base L v b) (hB : Below base b c) (hg : b.grownBy c v.ownBlock) : KO base oc a c := by
  have hk : ∀ k, v.ownBlock = some k → base ≤ k ∧ ∃ cur f, b.heap[k]? = some (.cells cur 101 f) := fun k hk => by
    rcases hown.2.2 with ⟨h, _⟩ | ⟨q, c', cur, h, hb, hh, _⟩
    · rw [h] at hk; cases hk
    · rw [h] at hk
      simp only [Value.ownBlock, Option.some.injEq] at hk
      subst hk
      exact ⟨hb, _, _, hh⟩
  refine ⟨hB.os.trans h.os, hB.tape.trans h.tape, hB.output.trans h.output, Nat.le_trans h.size hB.size, fun x hx hn => (hB.block x hx).trans (h.low x hx hn), fun x hx hn hr => ?_⟩
  refine (hg.block x (Nat.lt_of_lt_of_le hx h.size) (fun e => ?_)).trans (h.high x hx hn hr)
  obtain ⟨_, cur, f, hh⟩ := hk x e.symm
  exact hr cur f ((h.high x hx hn hr).symm.trans hh)
theorem KO.row {base oc q n : Nat} {G : Nat → Rat} {a b : World} (h : KO base oc a b) (hq : q ≠ oc) (hr : RowOf G q n a) : RowOf G q n b := hr.same (h.high q hr.lt hq hr.notRow)
theorem KO.rows {base oc n : Nat} {L : List Rw} {a b : World} (h : KO base oc a b) (ho : oc < base) (hr : RowsIn n base L a) : RowsIn n base L b := fun r hm => ⟨(hr r hm).1, h.row (by have := (hr r hm).1; omega) (hr r hm).2⟩
theorem KO.map {base oc mb n : Nat} {f : Value → Option Value} {a b : World} (h : KO base oc a b) (hq : mb ≠ oc) (hm : MapR a mb n f) : MapR b mb n f := hm.same (h.high mb hm.lt hq hm.notRow)
theorem KO.cell {base oc b o : Nat} {u : Value} {W wr : World} (h : KO base oc W wr) (hb : b < base) (hn : b ≠ oc) (hc : W.cell? ⟨b, o, none⟩ = some u) : wr.cell? ⟨b, o, none⟩ = some u := by
  have := h.low b hb hn
  simp only [World.cell?] at hc ⊢
  rw [this]; exact hc
theorem KO.below {base oc B : Nat} {W wr : World} (h : KO base oc W wr) (hB : B ≤ base) (ho : B ≤ oc) : Below B W wr := ⟨h.os, h.tape, h.output, h.size, fun k hk => h.low k (by omega) (by omega)⟩
theorem KO.cells {base oc b : Nat} {vs : List Value} {W wr : World} (h : KO base oc W wr) (hb : b < base) (hn : b ≠ oc) (hc : Cells b vs W) : Cells b vs wr := fun i hi => by
  refine ⟨h.cell hb hn (hc i hi).1, ?_⟩
  have e := h.low b hb hn
  have := (hc i hi).2
  simp only [World.frozen?] at this ⊢
  rw [e]; exact this
theorem ERw : ElemOk Tryz.prog 57 101 2 40 := ⟨Tryz.underlying57, ⟨_, (by kernel_rfl : (Tryz.prog.info? 101).map (fun i => (i.zero, i.size, i.bytes)) = some (some (.agg #[.slice none 0 0, .string ⟨#[]⟩]), 2, 40)), rfl⟩, by omega, by omega⟩
def RoR (n base oc : Nat) (sgs : List Rat) (F : Rat → (Nat → Rat) × Rat) (L : List Rw) (w : World) (v14 : Value) (wr : World) : Prop :=
  ∃ (k : Nat) (v : Value) (N : List Rw), k ≤ sgs.length ∧ v14 = .int .i64 k ∧ Cells oc [v] wr ∧ OwnL (encW n) 101 2 base (L ++ N) v wr ∧ RowsIn n base (L ++ N) wr ∧ N.map (fun r => (r.G, r.b)) = (sgs.take k).map F ∧ KO base oc w wr

set_option maxRecDepth 100000 in
set_option maxHeartbeats 4000000 in
theorem rows1_ok (s p u : Nat) (hs : s ≤ 60) (hp : p ≤ 60) (h0 : 0 < s * p) (h6 : s * p ≤ 60) (hu : u < s) (k0 k1 k2 : Nat) (hk : k0 < p ∧ k1 < p ∧ k2 < p) (hne : k0 ≠ k1 ∧ k0 ≠ k2 ∧ k1 ≠ k2) (q0 q1 q2 bd : Rat) (d0 : Dg 9 q0) (d1 : Dg 9 q1) (d2 : Dg 9 q2) (dB : Dg 9 bd)
    (sgs : List Rat) (hsg : ∀ x ∈ sgs, Dg 9 x) (hsl : sgs.length ≤ 10) (mb oc sc sb base : Nat) (L : List Rw) (hL : L.length ≤ 1000) (v : Value) (w0 w : World) (g : Glob w0) (X : Ext w0 w)
    (hm : MapR w mb 3 (fm3 k0 k1 k2 (.string (tQ q0)) (.string (tQ q1)) (.string (tQ q2)))) (hc : Cells sc [.int .i64 s, .int .i64 p] w) (ho : Cells oc [v] w) (hown : OwnL (encW (s * p)) 101 2 base L v w) (hrows : RowsIn (s * p) base L w) (hsb : RowOf (fun j => sgs.getD j 0) sb sgs.length w)
    (hoc : oc < base) (hsc : sc < base) (hso : sc ≠ oc) (hmo : mb ≠ oc) (hbo : sb ≠ oc) (hw0 : w0.heap.size ≤ oc) (hb : base ≤ w.heap.size) :
    Calls Tryz.prog 86 #[.int .i64 u, .map (some mb), .string (tQ bd), .slice (some ⟨sb, 0, none⟩) sgs.length sgs.length, .pointer (some ⟨oc, 0, none⟩), .pointer (some ⟨sc, 0, none⟩)] w (fun e w' => ∃ (v' : Value) (N : List Rw), (∃ x, e = .returned x) ∧ Cells oc [v'] w' ∧ OwnL (encW (s * p)) 101 2 base (L ++ N) v' w' ∧ RowsIn (s * p) base (L ++ N) w' ∧ N.map (fun r => (r.G, r.b)) = sgs.map (fun x => (rowF (u * p) k0 k1 k2 (x * q0) (x * q1) (x * q2), x * bd)) ∧ KO base oc w w') := by
  have HR := Lib.hid (fun (k : Nat) (hk6 : k < sgs.length) W (XE : Ext w0 W) (hM : MapR W mb 3 (fm3 k0 k1 k2 (.string (tQ q0)) (.string (tQ q1)) (.string (tQ q2)))) => row_ok s p u hs hp h0 h6 hu k0 k1 k2 hk hne q0 q1 q2 sgs[k] bd d0 d1 d2 (hsg _ (List.getElem_mem hk6)) dB mb W (g.ext XE) hM)
  simp only [shpV] at HR
  have HF : ∃ F, F = (fun x : Rat => (rowF (u * p) k0 k1 k2 (x * q0) (x * q1) (x * q2), x * bd)) := ⟨_, rfl⟩
  obtain ⟨F, HF⟩ := HF
  rw [← HF]
  have HFx : Hid (∀ x, (rowF (u * p) k0 k1 k2 (x * q0) (x * q1) (x * q2), x * bd) = F x) := Lib.hid (fun x => by rw [HF])
  clear HF hs hp h0 h6 hu hk hne d0 d1 d2 dB hsg g
  generalize tQ bd = tb at *
  have hst : RoR (s * p) base oc sgs F L w (.int .i64 0) w := ⟨0, v, [], by omega, rfl, ho, by simpa using hown, by simpa using hrows, rfl, KO.refl _ _ _⟩
  have HM := Lib.hid (And.intro hm (And.intro hc (And.intro hsb X)))
  clear hm hc ho hown hrows hsb X
  have hsl2 : (sgs.length : Int) ≤ 10 := by omega
  go_enter Tryz.func86, Tryz.ntmps86
  go_wp2_with fail
  go_loopw [14] (RoR (s * p) base oc sgs F L w) (fun p _ => sgs.length - (intOf p).toNat)
  case atStart => exact hst
  case round =>
    obtain ⟨k, v, N, hk, rfl, ho, hown, hrows, hN, hB⟩ := hrel
    by_cases hlt : k < sgs.length
    · have kl : (k : Int) < sgs.length := by omega
      have kl0 : (0 : Int) ≤ (k : Int) := by omega
      obtain ⟨hm, hc, hsb, X⟩ := HM.out
      have hsr := hB.row hbo hsb
      have hcr := hB.cells hsc hso hc
      have hXr : Ext w0 wr := X.trans' (hB.below (by omega) hw0)
      have hmr := hB.map hmo hm
      have hbr : base ≤ wr.heap.size := Nat.le_trans hb hB.size
      have y0 := hsr.cell hlt
      rw [List.getD_eq_getElem?_getD, List.getElem?_eq_getElem hlt, Option.getD_some] at y0
      have m0 := (hcr.at 0 _ rfl).1
      have m1 := (hcr.at 1 _ rfl).1
      have n0 := (ho.at 0 _ rfl).1
      have HRk := Lib.hid (HR.out k hlt)
      have htk : Hid ((sgs.take (k + 1)).map F = (sgs.take k).map F ++ [F sgs[k]]) := Lib.hid (by rw [List.take_succ_eq_append_getElem hlt, List.map_append]; rfl)
      have hFk := Lib.hid (HFx.out sgs[k])
      have hNl : N.length = k := by
        have := congrArg List.length hN
        simpa [List.length_take, Nat.min_eq_left hk] using this
      have HNl := Lib.hid hNl
      clear hNl hc hsb X hm hcr hsr
      generalize sgs[k] = x at *
      go_wp2_with fail
      refine wp_region_Z' (TE base wr) 9 (by kernel_rfl) ?_
      intro V0 hV0
      have Y0 : Ext wr V0 := by rw [hV0]; exact (Ext.refl wr).drew
      have hT : TE base wr false V0 := Below.mono (show Below wr.heap.size wr V0 from Y0) hbr
      clear hV0
      refine' wpAnyZ_take 9 (i := 0) (v := _) rfl rfl (by kernel_rfl) (by decide) (by kernel_rfl) (by kernel_rfl) (by kernel_rfl) (by kernel_rfl) (fun _ _ _ h => h.no.elim) hT (by rfl) ?hy ?_
      case hy => (intro w' hS; have q0 := hS.c hsc m0; have q1 := hS.c hsc m1; have q2 := hS.c hoc n0; clear hS; go_simp; rfl)
      try simp only [Act.put, List.getElem_toArray, List.getElem_cons_zero, List.getElem_cons_succ, List.setIfInBounds_toArray, List.set_cons_zero, List.set_cons_succ]
      refine' wpAnyZ_take 9 (i := 1) (v := _) rfl rfl (by kernel_rfl) (by decide) (by kernel_rfl) (by kernel_rfl) (by kernel_rfl) (by kernel_rfl) (fun _ _ _ h => h.no.elim) hT (by rfl) ?hy ?_
      case hy => (intro w' hS; have q0 := hS.c hsc m0; have q1 := hS.c hsc m1; have q2 := hS.c hoc n0; clear hS; go_simp; rfl)
      try simp only [Act.put, List.getElem_toArray, List.getElem_cons_zero, List.getElem_cons_succ, List.setIfInBounds_toArray, List.set_cons_zero, List.set_cons_succ]
      refine' wpAnyZ_take 9 (i := 2) (v := _) rfl rfl (by kernel_rfl) (by decide) (by kernel_rfl) (by kernel_rfl) (by kernel_rfl) (by kernel_rfl) (fun _ _ _ h => h.no.elim) hT (by rfl) ?hy ?_
      case hy => (intro w' hS; have q0 := hS.c hsc m0; have q1 := hS.c hsc m1; have q2 := hS.c hoc n0; clear hS; go_simp; rfl)
      try simp only [Act.put, List.getElem_toArray, List.getElem_cons_zero, List.getElem_cons_succ, List.setIfInBounds_toArray, List.set_cons_zero, List.set_cons_succ]
      refine' wpAnyZ_take 9 (i := 3) (v := _) rfl rfl (by kernel_rfl) (by decide) (by kernel_rfl) (by kernel_rfl) (by kernel_rfl) (by kernel_rfl) (fun _ _ _ h => h.no.elim) hT (by rfl) ?hy ?_
      case hy => (intro w' hS; have q0 := hS.c hsc m0; have q1 := hS.c hsc m1; have q2 := hS.c hoc n0; clear hS; go_simp; rfl)
      try simp only [Act.put, List.getElem_toArray, List.getElem_cons_zero, List.getElem_cons_succ, List.setIfInBounds_toArray, List.set_cons_zero, List.set_cons_succ]
      refine' wpAnyZ_take 9 (i := 4) (v := _) rfl rfl (by kernel_rfl) (by decide) (by kernel_rfl) (by kernel_rfl) (by kernel_rfl) (by kernel_rfl) (fun _ _ _ h => h.no.elim) hT (by rfl) ?hy ?_
      case hy => (intro w' hS; have q0 := hS.c hsc m0; have q1 := hS.c hsc m1; have q2 := hS.c hoc n0; clear hS; go_simp; rfl)
      try simp only [Act.put, List.getElem_toArray, List.getElem_cons_zero, List.getElem_cons_succ, List.setIfInBounds_toArray, List.set_cons_zero, List.set_cons_succ]
      refine' wpAnyZ_take 9 (i := 5) (v := _) rfl rfl (by kernel_rfl) (by decide) (by kernel_rfl) (by kernel_rfl) (by kernel_rfl) (by kernel_rfl) (fun _ _ _ h => h.no.elim) hT (by rfl) ?hy ?_
      case hy => (intro w' hS; have q0 := hS.c hsc m0; have q1 := hS.c hsc m1; have q2 := hS.c hoc n0; clear hS; go_simp; rfl)
      try simp only [Act.put, List.getElem_toArray, List.getElem_cons_zero, List.getElem_cons_succ, List.setIfInBounds_toArray, List.set_cons_zero, List.set_cons_succ]
      clear m0 m1 n0 y0
      refine wpAnyZ_one false (i := 6) (by kernel_rfl) (by kernel_rfl) rfl (fun K' hK => ?_)
      go_simp
      refine (HRk.out _ (hXr.trans Y0) (hmr.same (Y0.block mb hmr.lt))).mono ?_
      rintro e V1 ⟨qq, rfl, hqq, hro, Z1⟩
      have Y1 := Y0.trans Z1
      refine hK.out _ _ (Below.mono (show Below wr.heap.size wr V1 from Y1) hbr) ?_
      clear hK K' hT
      try simp only [Act.put, List.getElem_toArray, List.getElem_cons_zero, List.getElem_cons_succ, List.setIfInBounds_toArray, List.set_cons_zero, List.set_cons_succ]
      refine wpAnyZ_one false (i := 7) (by kernel_rfl) (by kernel_rfl) rfl (fun K' hK => ?_)
      go_simp
      have Y2 : Ext wr (V1.alloc (.cells #[.slice (some ⟨qq, 0, none⟩) (s * p) (s * p), .string (tQ (x * bd))] 101)) := Y1.alloc _
      refine hK.out _ _ (Below.mono (show Below wr.heap.size wr _ from Y2) hbr) ?_
      clear hK K'
      try simp only [Act.put, List.getElem_toArray, List.getElem_cons_zero, List.getElem_cons_succ, List.setIfInBounds_toArray, List.set_cons_zero, List.set_cons_succ]
      have hown5 := hown.below Y2
      have hro2 : RowOf (rowF (u * p) k0 k1 k2 (x * q0) (x * q1) (x * q2)) qq (s * p) (V1.alloc (.cells #[.slice (some ⟨qq, 0, none⟩) (s * p) (s * p), .string (tQ (x * bd))] 101)) := hro.same (((Ext.refl V1).alloc _).block qq hro.lt)
      have hB2 := hB.ext hb Y2
      refine wpAnyZ_one false (i := 8) (by kernel_rfl) (by kernel_rfl) rfl (fun K' hK => ?_)
      refine step_push _ ERw rfl _ _ rfl (v := v) rfl hown5 (⟨qq, rowF (u * p) k0 k1 k2 (x * q0) (x * q1) (x * q2), x * bd⟩ : Rw) ⟨V1.heap.size, 0, none⟩ 1 rfl rfl ?_ ?_ ?_ ?_ ?_
      · intro uu huu
        simp only [encW, List.mem_cons, List.not_mem_nil, or_false] at huu
        rcases huu with rfl | rfl <;> rfl
      · intro j uu hj
        rw [addr0]
        exact cells_at (Cells.new V1 (encW (s * p) (⟨qq, rowF (u * p) k0 k1 k2 (x * q0) (x * q1) (x * q2), x * bd⟩ : Rw)) 101) j uu hj
      · have := HNl.out; rw [List.length_append]; omega
      · have := Y2.size; omega
      intro q' c' W6 hown6 hX6 hg6
      have Y6 : Below base wr W6 := hX6.out _ wr (Nat.le_refl _) hbr (Below.mono (show Below wr.heap.size wr _ from Y2) hbr)
      have Z6 : Below base (V1.alloc (.cells #[.slice (some ⟨qq, 0, none⟩) (s * p) (s * p), .string (tQ (x * bd))] 101)) W6 := hX6.out _ _ (Nat.le_refl _) (by have := Y2.size; omega) (Below.refl _ _)
      have hB6 := hB2.push hb hown5 Z6 hg6.out
      refine hK.out _ _ Y6 ?_
      clear hK K'
      try simp only [Act.put, List.getElem_toArray, List.getElem_cons_zero, List.getElem_cons_succ, List.setIfInBounds_toArray, List.set_cons_zero, List.set_cons_succ]
      have hKB : KO base oc (V1.alloc (.cells #[.slice (some ⟨qq, 0, none⟩) (s * p) (s * p), .string (tQ (x * bd))] 101)) W6 := (KO.refl base oc _).push (by have := Y2.size; omega) hown5 Z6 hg6.out
      have hKr : KO base oc wr W6 := (KO.ofExt hbr Y2).trans hKB
      have d6 : Cells oc [v] W6 := ho.block Y6 hoc
      have hy0 := Y0.size
      have hro6 := hKB.row (by omega) hro2
      have hrows6 := hKr.rows hoc hrows
      obtain ⟨f0, f2⟩ := d6.at 0 _ rfl
      have HE : Hid (RoR (s * p) base oc sgs F L w (.int .i64 ((k : Int) + 1)) (W6.setCell ⟨oc, 0, none⟩ (.slice (some ⟨q', 0, none⟩) (L.length + N.length + 1) c'))) := by
        rw [List.length_append] at hown6
        refine Lib.hid ⟨k + 1, _, N ++ [(⟨qq, rowF (u * p) k0 k1 k2 (x * q0) (x * q1) (x * q2), x * bd⟩ : Rw)], hlt, rfl, d6.put 0 (by simp) _, ?_, ?_, ?_, hB6.set _ _⟩
        · rw [← List.append_assoc]
          exact hown6.put (a := ⟨oc, 0, none⟩) hoc _
        · rw [← List.append_assoc]
          have hs2 := (KO.refl base oc W6).set 0 (.slice (some ⟨q', 0, none⟩) (L.length + N.length + 1) c')
          refine hs2.rows hoc fun r hr => ?_
          rcases List.mem_append.1 hr with h | h
          · exact hrows6 r h
          · rw [List.mem_singleton.1 h]
            exact ⟨by show base ≤ qq; have := Y0.size; omega, hro6⟩
        · rw [htk.out, List.map_append, hN, ← hFk.out]; rfl
      clear hown6 hX6 hg6 hown5 hown hB6 hB2 hKB hKr hro2 hro hro6 hrows6 hrows hB Z6 Y6 d6 ho hN hmr
      refine wpAnyZ_one true (i := 9) (by kernel_rfl) (by kernel_rfl) rfl (fun K' hK => ?_)
      go_simp
      refine hK.out _ _ trivial ?_
      clear hK K'
      refine wpAnyZ_done (by kernel_rfl) ⟨rfl, ?_⟩ _
      go_wp2_with fail
      exact ⟨HE.out, by simp only [intOf]; omega⟩
    · obtain rfl : k = sgs.length := by omega
      rw [List.take_length] at hN
      have HE := Lib.hid (And.intro ho (And.intro hown (And.intro hrows (And.intro hN hB))))
      clear ho hown hrows hN hB
      go_wp2_with fail
      refine bodyPost_end (results_none rfl _ _ _) rfl ?_
      obtain ⟨ho, hown, hrows, hN, hB⟩ := HE.out
      refine ⟨v, N, ⟨_, rfl⟩, ho, hown, hrows, ?_, hB⟩
      rw [hN]
end Go.Proofs.YtbiffaciinppiaaGreatDoor
end

section
namespace Go.Proofs.YtbiffaciinppiaaGreatDoor
open Go.RowKit

section
variable {P : Program} {ops : Array Oper} {Q : Exit → Act → World → Prop} {md : Region.Mode} {S : World → Prop} {z : Nat}
theorem wpAnyZ_const : ∀ (fuel : Nat) (listed : Array Bool) (a : Act) (w : World), wpAnyZ P md ops Q (fun _ => S) z fuel listed a w ↔ wpAnyH P md ops Q S fuel listed a w
  | 0, _, _, _ => Iff.rfl
  | fuel + 1, listed, a, w => by
    have ih := wpAnyZ_const fuel
    simp only [wpAnyZ, wpAnyH]
    exact ⟨fun h => ⟨h.1, fun i hi => wpOp_mono (fun a' w' h => ⟨h.1, (ih _ _ _).1 h.2⟩) (h.2 i hi)⟩, fun h => ⟨h.1, fun i hi => wpOp_mono (fun a' w' h => ⟨h.1, (ih _ _ _).2 h.2⟩) (h.2 i hi)⟩⟩
theorem wpAnyZ_hold (z : Nat) {i : Nat} {oi : Oper} {v : Value} {fuel : Nat} {listed : Array Bool} {a : Act} {w : World} (hi : ops[i]? = some oi)
    (hs : Region.noSelect ops = true) (hf : Region.free md ops listed i = true) (hr : (Region.ready md ops listed).contains i = true)
    (hQ : ∀ c a w, Q (.panic c) (a.put oi.dst v) w → Q (.panic c) a w) (hS : S w) (hw : Region.wanted oi (yielded ops a.tmps) = true) (hy : ∀ w, S w → (execOp a.eval oi).run P w = .ok (.value v) w)
    (h : wpAnyZ P md ops Q (fun _ => S) z fuel (listed.setIfInBounds i true) (a.put oi.dst v) w) : wpAnyZ P md ops Q (fun _ => S) z (fuel + 1) listed a w :=
  (wpAnyZ_const _ _ _ _).2 (wpAnyH_take hi hs hf hr hQ (.inl ⟨hw, hy⟩) hS ((wpAnyZ_const _ _ _ _).1 h))
end
end Go.Proofs.YtbiffaciinppiaaGreatDoor
end

section
namespace Go.Proofs.YtbiffaciinppiaaGreatDoor
open Go.RowKit
attribute [local irreducible] tQ

theorem flat_encQ (L : List Rat) : L.flatMap encQ = L.map (fun q => .string (tQ q)) := by
  induction L with
  | nil => rfl
  | cons x L ih => rw [List.flatMap_cons, ih]; rfl
set_option maxRecDepth 100000 in
set_option maxHeartbeats 1000000 in
theorem clone_ok (L : List Rat) (hn0 : 0 < L.length) (hn : L.length ≤ 60) (b c : Nat) (w : World) (hF : FldIn w b 0 L) :
    Calls Tryz.prog 144 #[.slice (some ⟨b, 0, none⟩) L.length c] w (fun e w' => ∃ v, e = .returned v ∧ OwnL encQ 54 1 w.heap.size L v w' ∧ Ext w w') := by
  obtain ⟨ti, hti, hti0, hti1, hti2⟩ := infoRat
  have howa := World.ownsRow_made (base := w.heap.size) (e := 54) (size := 1) w #[] 0 (Nat.le_refl _) (by unfold maxLen; omega) (by simp)
  have X1 := (Ext.refl w).alloc (.cells #[] 54)
  have hnews : ∀ j u, (L.map (fun q => Value.string (tQ q)))[j]? = some u → (w.alloc (.cells #[] 54)).cell? (Addr.add ⟨b, 0, none⟩ j) = some u := fun j u hu => by
    rw [addr0]
    rw [List.getElem?_map] at hu
    by_cases hj : j < L.length
    · rw [List.getElem?_eq_getElem hj] at hu
      simp only [Option.map_some, Option.some.injEq] at hu
      subst hu
      have := hF j hj
      rw [Nat.zero_add] at this
      exact X1.cell this
    · rw [List.getElem?_eq_none (by omega)] at hu; cases hu
  have hone : ∀ u ∈ L.map (fun q => Value.string (tQ q)), u.oneCell' = true := fun u hu => by
    obtain ⟨q, _, rfl⟩ := List.mem_map.1 hu
    rfl
  have hnil : (binOp .eql 38 (.slice (some ⟨b, 0, none⟩) L.length c) (.slice none 0 0)).run Tryz.prog w = .ok (.bool false) w := by first | rfl | kernel_rfl | simp [binOp, go_sem, Tryz.underlying38]
  go_enter Tryz.func144, Tryz.ntmps144
  go_wp2_with (at_builtin; go_loud (refine wpList_append_own _ rfl _ _ 38 rfl w.heap.size 54 ti (.string ⟨#[]⟩) 1 16 Tryz.underlying38 hti hti0 hti1 hti2 rfl (by decide) _ 0 [] rfl howa ⟨b, 0, none⟩ L.length c (L.map (fun q => Value.string (tQ q))) rfl (by simp) hnews hone (by unfold maxLen; omega) (by omega) (by simp) ?_); intro v' w' hown' hgrow hx; have HO := Lib.hid hown'; have HG := Lib.hid hgrow; clear hown' hgrow hx)
  go_ret
  refine ⟨_, rfl, ⟨fun q hq => ⟨rfl, fun u hu => ?_⟩, ?_⟩, ?_⟩
  · simp only [encQ, List.mem_singleton] at hu; rw [hu]; rfl
  · rw [flat_encQ]
    have := HO.out
    simpa using this
  · exact Below.grown X1 HG.out (by simp) (fun k e => by cases e; exact Nat.le_refl _)
end Go.Proofs.YtbiffaciinppiaaGreatDoor
end
