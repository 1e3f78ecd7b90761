/- klipperef01.Of, klipperef02.small, Fraction, Of; klipperef05.At, Of: short numbers. klippelaw13.Make over a planned mesh; planned meshes. -/
import Derived.Test.YtbiffaciinppiaaGreatDoorVa04
import Derived.Test.YtbiffaciinppiaaGreatDoorVa20
import Derived.Test.YtbiffaciinppiaaGreatDoorVa14
set_option linter.unusedVariables false
set_option linter.unusedSimpArgs false
section
namespace Go.Proofs.YtbiffaciinppiaaGreatDoor
open Go.RowKit
attribute [local irreducible] tQ

theorem atoi_tI (n : Int) : Lib.atoi (tI n).data.toList = some n := by have := atoi_itoa n; simpa [tI] using this
set_option maxRecDepth 100000 in
set_option maxHeartbeats 2000000 in
theorem refSmall (n : Int) (d : Nat) (w : World) (g : Glob w) (hn : n.natAbs < 10 ^ 17) (hd0 : 1 ≤ d) (hd1 : d < 10 ^ 17) :
    Calls Tryz.prog 148 #[.string (tI n), .string (tI d)] w (Ret (.string (tQ (mkRat n d))) w) := by
  have A1 := Lib.hid (atoi_tI n)
  have A2 := Lib.hid (atoi_tI (d : Int))
  have s1 : (tI n).size ≤ 18 := by
    rw [tI_size, itoa_len]
    have := (nDigits_le n.natAbs 17 (by omega)).2 hn
    split <;> omega
  have s2 : (tI (d : Int)).size ≤ 18 := by
    rw [tI_size, itoa_len]
    have := (nDigits_le (d : Int).natAbs 17 (by omega)).2 (by omega)
    split <;> omega
  have dl : decide ((d : Int) < 0) = false := decide_eq_false (by omega)
  go_enter Tryz.func148, Tryz.ntmps148
  go_wp2_with fail
  refine (Tryz.strconv_Atoi (tI n) n (by omega) A1.out w).mono ?_
  rintro e w1 ⟨rfl, t1, rfl⟩
  have X1 : Ext w (Lib.bytesWorld w 5 t1) := (Ext.refl w).bytes _ _
  generalize Lib.bytesWorld w 5 t1 = w1 at *
  go_wp2_with fail
  refine (Tryz.strconv_Atoi (tI d) d (by omega) A2.out w1).mono ?_
  rintro e w2 ⟨rfl, t2, rfl⟩
  have X2 : Ext w (Lib.bytesWorld w1 5 t2) := X1.bytes _ _
  generalize Lib.bytesWorld w1 5 t2 = w2 at *
  clear A1 A2 s1 s2
  have main : ∀ a : Nat, a = n.natAbs → True := fun _ _ => trivial
  clear main
  have HL := Lib.hid hn
  by_cases hneg : n < 0
  · have dn : decide (n < 0) = true := decide_eq_true hneg
    have en : -n = (n.natAbs : Int) := by omega
    go_wp2_with fail
    go_loopw [9, 10] (fun a b wr => ∃ x y : Nat, a = .int .i64 x ∧ b = .int .i64 y ∧ Hid (x < 10 ^ 17 ∧ y < 10 ^ 17) ∧ Hid (Nat.gcd x y = Nat.gcd n.natAbs d) ∧ Ext w wr) (fun _ b _ => (intOf b).natAbs)
    case atStart => exact ⟨n.natAbs, d, by rw [← en], rfl, Lib.hid ⟨hn, hd1⟩, Lib.hid rfl, X2⟩
    case round =>
      obtain ⟨x, y, rfl, rfl, hxy, hg, hb⟩ := hrel
      have hx := hxy.out.1
      have hy := hxy.out.2
      by_cases h0 : y = 0
      · subst h0
        have hgx : n.natAbs.gcd d = x := by have := hg.out; rw [Nat.gcd_zero_right] at this; exact this.symm
        have hG1 : 1 ≤ x := by rw [← hgx]; exact Nat.gcd_pos_of_pos_right _ hd0
        have hsn := small_nums n d hd0 hgx
        obtain ⟨q1, q2, q3, q4⟩ := hsn
        have hfr := Lib.hid (@tQ_frac (mkRat n d))
        have hin := Lib.hid (@tQ_int (mkRat n d))
        have hdp : 1 ≤ (mkRat n d).den := (mkRat n d).den_pos
        generalize hq : mkRat n d = q at q1 q2 q3 q4 hfr hin hdp
        have hb1 : -9223372036854775808 ≤ q.num := by omega
        have hb2 : q.num ≤ 9223372036854775807 := by omega
        have hb3 : (q.den : Int) ≤ 9223372036854775807 := by omega
        have hb4 : -9223372036854775808 ≤ (q.den : Int) := by omega
        have hs1 := tI_bound hb1 hb2
        have hs2 := tI_bound hb4 hb3
        have hx0 : ¬ x = 0 := by omega
        have hx1 : ((x : Int) == 0) = false := beq_false_of_ne (by omega)
        have Hq := Lib.hid hq
        have hN : ∃ N, N = q.num := ⟨_, rfl⟩
        obtain ⟨N, hN⟩ := hN
        have hD : ∃ D, D = q.den := ⟨_, rfl⟩
        obtain ⟨D, hD⟩ := hD
        rw [← hN] at q1 q3 hfr hin hb1 hb2 hs1
        rw [← hD] at q2 q4 hfr hin hb3 hb4 hs2 hdp
        have gg := g.ext hb
        clear hgx hq hg hN hD q3 q4 hxy HL
        go_wp2_with fail
        go_quiet (fail)
        by_cases h1 : D = 1
        · have hdb : ((D : Int) == 1) = true := by simp [h1]
          have Hin := Lib.hid (hin.out h1)
          clear h1
          go_wp2_with fail
          refine (iItoa _ _ (gg.drewN _) hb1 hb2).mono ?_
          rintro e w' ⟨rfl, hb'⟩
          go_wp2_with fail
          go_ret
          exact ⟨by rw [Hq.out, Hin.out]; rfl, (hb.drewN _).trans hb'⟩
        · have hdb : ((D : Int) == 1) = false := beq_false_of_ne (by omega)
          have Hin := Lib.hid (hfr.out h1)
          clear h1
          go_wp2_with fail
          refine (iItoa _ _ (gg.drewN _) hb1 hb2).mono ?_
          rintro e w1 ⟨rfl, hb1'⟩
          have gg1 := (gg.drewN nq).ext hb1'
          go_wp2_with fail
          refine (iItoa _ _ gg1 hb4 hb3).mono ?_
          rintro e w2 ⟨rfl, hb2'⟩
          go_wp2_with fail
          go_ret
          exact ⟨by rw [Hq.out, ← Hin.out]; rfl, ((hb.drewN _).trans hb1').trans hb2'⟩
      · have hyb : ((y : Int) != 0) = true := by simp [h0]
        have hyb2 : ((y : Int) == 0) = false := by simp [h0]
        have htm : (x : Int).tmod (y : Int) = ((x % y : Nat) : Int) := rfl
        have hlt := Nat.mod_lt x (by omega : 0 < y)
        have hgm := Lib.hid (show Nat.gcd y (x % y) = Nat.gcd n.natAbs d by rw [← hg.out, Nat.gcd_comm y (x % y), ← Nat.gcd_rec]; exact Nat.gcd_comm _ _)
        generalize x % y = r at *
        go_wp2_with fail
        go_quiet (fail)
        go_wp2_with fail
        exact ⟨⟨y, r, rfl, rfl, Lib.hid ⟨hy, by omega⟩, hgm, hb.drewN _⟩, by simpa [intOf] using hlt⟩
  · have dn : decide (n < 0) = false := decide_eq_false hneg
    go_wp2_with fail
    go_loopw [9, 10] (fun a b wr => ∃ x y : Nat, a = .int .i64 x ∧ b = .int .i64 y ∧ Hid (x < 10 ^ 17 ∧ y < 10 ^ 17) ∧ Hid (Nat.gcd x y = Nat.gcd n.natAbs d) ∧ Ext w wr) (fun _ b _ => (intOf b).natAbs)
    case atStart => exact ⟨n.natAbs, d, by rw [show (n.natAbs : Int) = n by omega], rfl, Lib.hid ⟨hn, hd1⟩, Lib.hid rfl, X2⟩
    case round =>
      obtain ⟨x, y, rfl, rfl, hxy, hg, hb⟩ := hrel
      have hx := hxy.out.1
      have hy := hxy.out.2
      by_cases h0 : y = 0
      · subst h0
        have hgx : n.natAbs.gcd d = x := by have := hg.out; rw [Nat.gcd_zero_right] at this; exact this.symm
        have hG1 : 1 ≤ x := by rw [← hgx]; exact Nat.gcd_pos_of_pos_right _ hd0
        have hsn := small_nums n d hd0 hgx
        obtain ⟨q1, q2, q3, q4⟩ := hsn
        have hfr := Lib.hid (@tQ_frac (mkRat n d))
        have hin := Lib.hid (@tQ_int (mkRat n d))
        have hdp : 1 ≤ (mkRat n d).den := (mkRat n d).den_pos
        generalize hq : mkRat n d = q at q1 q2 q3 q4 hfr hin hdp
        have hb1 : -9223372036854775808 ≤ q.num := by omega
        have hb2 : q.num ≤ 9223372036854775807 := by omega
        have hb3 : (q.den : Int) ≤ 9223372036854775807 := by omega
        have hb4 : -9223372036854775808 ≤ (q.den : Int) := by omega
        have hs1 := tI_bound hb1 hb2
        have hs2 := tI_bound hb4 hb3
        have hx0 : ¬ x = 0 := by omega
        have hx1 : ((x : Int) == 0) = false := beq_false_of_ne (by omega)
        have Hq := Lib.hid hq
        have hN : ∃ N, N = q.num := ⟨_, rfl⟩
        obtain ⟨N, hN⟩ := hN
        have hD : ∃ D, D = q.den := ⟨_, rfl⟩
        obtain ⟨D, hD⟩ := hD
        rw [← hN] at q1 q3 hfr hin hb1 hb2 hs1
        rw [← hD] at q2 q4 hfr hin hb3 hb4 hs2 hdp
        have gg := g.ext hb
        clear hgx hq hg hN hD q3 q4 hxy HL
        go_wp2_with fail
        go_quiet (fail)
        by_cases h1 : D = 1
        · have hdb : ((D : Int) == 1) = true := by simp [h1]
          have Hin := Lib.hid (hin.out h1)
          clear h1
          go_wp2_with fail
          refine (iItoa _ _ (gg.drewN _) hb1 hb2).mono ?_
          rintro e w' ⟨rfl, hb'⟩
          go_wp2_with fail
          go_ret
          exact ⟨by rw [Hq.out, Hin.out]; rfl, (hb.drewN _).trans hb'⟩
        · have hdb : ((D : Int) == 1) = false := beq_false_of_ne (by omega)
          have Hin := Lib.hid (hfr.out h1)
          clear h1
          go_wp2_with fail
          refine (iItoa _ _ (gg.drewN _) hb1 hb2).mono ?_
          rintro e w1 ⟨rfl, hb1'⟩
          have gg1 := (gg.drewN nq).ext hb1'
          go_wp2_with fail
          refine (iItoa _ _ gg1 hb4 hb3).mono ?_
          rintro e w2 ⟨rfl, hb2'⟩
          go_wp2_with fail
          go_ret
          exact ⟨by rw [Hq.out, ← Hin.out]; rfl, ((hb.drewN _).trans hb1').trans hb2'⟩
      · have hyb : ((y : Int) != 0) = true := by simp [h0]
        have hyb2 : ((y : Int) == 0) = false := by simp [h0]
        have htm : (x : Int).tmod (y : Int) = ((x % y : Nat) : Int) := rfl
        have hlt := Nat.mod_lt x (by omega : 0 < y)
        have hgm := Lib.hid (show Nat.gcd y (x % y) = Nat.gcd n.natAbs d by rw [← hg.out, Nat.gcd_comm y (x % y), ← Nat.gcd_rec]; exact Nat.gcd_comm _ _)
        generalize x % y = r at *
        go_wp2_with fail
        go_quiet (fail)
        go_wp2_with fail
        exact ⟨⟨y, r, rfl, rfl, Lib.hid ⟨hy, by omega⟩, hgm, hb.drewN _⟩, by simpa [intOf] using hlt⟩
set_option maxRecDepth 100000 in
theorem refIOf (n : Int) (w : World) (g : Glob w) (h0 : -9223372036854775808 ≤ n) (h1 : n ≤ 9223372036854775807) : Calls Tryz.prog 113 #[.int .i64 n] w (Ret (.string (tI n)) w) := by
  have H := Lib.hid (iItoa n w g h0 h1)
  clear g
  go_enter Tryz.func113, Tryz.ntmps113
  go_wp2_with fail
  refine H.out.mono ?_
  rintro e w1 ⟨rfl, X1⟩
  go_wp2_with fail
  go_ret
  exact ⟨rfl, X1⟩
set_option maxRecDepth 100000 in
theorem refFrac (n : Int) (d : Nat) (w : World) (g : Glob w) (hn : n.natAbs < 10 ^ 8) (hd0 : 1 ≤ d) (hd1 : d < 10 ^ 8) :
    Calls Tryz.prog 99 #[.string (tI n), .string (tI d)] w (Ret (.string (tQ (mkRat n d))) w) := by
  have H := Lib.hid (refSmall n d w g (by omega) hd0 (by omega))
  have s1 : (tI n).size ≤ 9 := by
    rw [tI_size, itoa_len]
    have := (nDigits_le n.natAbs 8 (by omega)).2 hn
    split <;> omega
  have s2 : (tI (d : Int)).size ≤ 9 := by
    rw [tI_size, itoa_len]
    have := (nDigits_le (d : Int).natAbs 8 (by omega)).2 (by omega)
    split <;> omega
  have e1 : decide (((tI n).size : Int) ≤ 9) = true := decide_eq_true (by omega)
  have e2 : decide (((tI (d : Int)).size : Int) ≤ 9) = true := decide_eq_true (by omega)
  clear g hn hd0 hd1
  go_enter Tryz.func99, Tryz.ntmps99
  go_wp2_with fail
  refine H.out.mono ?_
  rintro e w1 ⟨rfl, X1⟩
  go_wp2_with fail
  go_ret
  exact ⟨rfl, X1⟩
set_option maxRecDepth 100000 in
theorem refOf (n : Int) (d : Nat) (w : World) (g : Glob w) (hn : n.natAbs < 10 ^ 8) (hd0 : 1 ≤ d) (hd1 : d < 10 ^ 8) :
    Calls Tryz.prog 63 #[.int .i64 n, .int .i64 d] w (Ret (.string (tQ (mkRat n d))) w) := by
  have O1 := Lib.hid (fun W (X : Ext w W) => refIOf n W (g.ext X) (by omega) (by omega))
  have O2 := Lib.hid (fun W (X : Ext w W) => refIOf (d : Int) W (g.ext X) (by omega) (by omega))
  have H := Lib.hid (fun W (X : Ext w W) => refFrac n d W (g.ext X) hn hd0 hd1)
  clear g hn hd0 hd1
  go_enter Tryz.func63, Tryz.ntmps63
  go_wp2_with fail
  refine (O1.out _ (Ext.refl _)).mono ?_
  rintro e w1 ⟨rfl, X1⟩
  go_wp2_with fail
  refine (O2.out _ X1).mono ?_
  rintro e w2 ⟨rfl, X2⟩
  go_wp2_with fail
  refine (H.out _ (X1.trans X2)).mono ?_
  rintro e w3 ⟨rfl, X3⟩
  go_wp2_with fail
  go_ret
  exact ⟨rfl, (X1.trans X2).trans X3⟩
end Go.Proofs.YtbiffaciinppiaaGreatDoor
end

section
namespace Go.Proofs.YtbiffaciinppiaaGreatDoor
open Go.RowKit
attribute [local irreducible] tQ

/-- Heights. -/
structure Hts where
  v : Nat → Int
  half : Bool
def hsL (h : Hts) : List Value := [.int .i8 (h.v 0), .int .i8 (h.v 1), .int .i8 (h.v 2), .int .i8 (h.v 3), .int .i8 (h.v 4), .int .i8 (h.v 5), .bool h.half]
def hsV (h : Hts) : Value := .agg #[.int .i8 (h.v 0), .int .i8 (h.v 1), .int .i8 (h.v 2), .int .i8 (h.v 3), .int .i8 (h.v 4), .int .i8 (h.v 5), .bool h.half]
def HtW (h : Hts) : Prop := ∀ i, -128 ≤ h.v i ∧ h.v i ≤ 127
def htQ (h : Hts) (i : Nat) : Rat := mkRat ((h.v i).tmod 20) (hd h.half)
def hts (h : Hts) (n : Nat) : List Rat := (List.range n).map (htQ h)
theorem hts_len (h : Hts) (n : Nat) : (hts h n).length = n := by simp [hts]
theorem hts_succ (h : Hts) (n : Nat) : hts h (n + 1) = hts h n ++ [htQ h n] := by simp [hts, List.range_succ]
theorem mkRat_half (n : Int) (b : Bool) : ∃ k, Half k ∧ mkRat n (hd b) = (n : Rat) * k := by
  cases b
  · exact ⟨1, .inl rfl, by simp [hd, Rat.mkRat_one]⟩
  · refine ⟨1 / 2, .inr rfl, ?_⟩
    show mkRat n 2 = _
    rw [Rat.mkRat_eq_div, Rat.div_def, Rat.div_def, Rat.one_mul]; rfl
theorem htQ_gr (h : Hts) (i : Nat) : Gr 80 4 (htQ h i) := by
  unfold htQ
  have := tmod_lt (h.v i) 20 (by omega)
  obtain ⟨k, hk, e⟩ := mkRat_half ((h.v i).tmod 20) h.half
  rw [e]
  exact hk.gr (N := 20) (by omega)
theorem hts_gr (h : Hts) (n : Nat) : ∀ q ∈ hts h n, Gr 80 4 q := by
  intro q hq
  obtain ⟨i, _, rfl⟩ := List.mem_map.1 hq
  exact htQ_gr h i
def encQ (q : Rat) : List Value := [.string (tQ q)]
theorem EFl : ElemOk Tryz.prog 39 54 1 16 := ⟨Tryz.underlying39, ⟨_, (by kernel_rfl : (Tryz.prog.info? 54).map (fun i => (i.zero, i.size, i.bytes)) = some (some (.string ⟨#[]⟩), 1, 16)), rfl⟩, by omega, by omega⟩
theorem cell_one_newQ (w : World) (c : Value) : ∀ (j : Nat) (u : Value), [c][j]? = some u → (w.alloc (.cells #[c] 54)).cell? (Addr.add ⟨w.heap.size, 0, none⟩ j) = some u := by
  intro j u h
  rcases j with _ | j
  · simp only [List.getElem?_cons_zero, Option.some.injEq] at h
    subst h; simp [go_sem]
  · simp at h
def HtR (h : Hts) (n N : Nat) (W1 : World) (v5 v7 : Value) (wr : World) : Prop :=
  ∃ k : Nat, k ≤ n ∧ v7 = .int .i64 k ∧ OwnL encQ 54 1 N (hts h k) v5 wr ∧ Below N W1 wr

set_option maxRecDepth 100000 in
set_option maxHeartbeats 2000000 in
theorem l13make_ok (h : Hts) (hw : HtW h) (n : Nat) (hn0 : 0 < n) (hn : n ≤ 6) (pa ta : Option Addr) (pc tn tc : Nat) (w : World) (g : Glob w) :
    Calls Tryz.prog 30 #[.agg #[.slice pa n pc, .slice ta tn tc], hsV h] w (fun e w' => ∃ fb fc, e = .returned (.slice (some ⟨fb, 0, none⟩) n fc) ∧ FldIn w' fb 0 (hts h n) ∧ Ext w w') := by
  have hbd := Lib.hid (fun i => show -20 < (h.v i).tmod 20 ∧ (h.v i).tmod 20 < 20 from by have := tmod_lt (h.v i) 20 (by omega); omega)
  have H := Lib.hid (fun i W (X : Ext w W) => refOf ((h.v i).tmod 20) (hd h.half) W (g.ext X) (by have := hbd.out i; omega) (by unfold hd; split <;> omega) (by unfold hd; split <;> omega))
  have HS := Lib.hid (hts_succ h)
  have HL := Lib.hid (hts_len h)
  have HQ : ∀ i, mkRat ((h.v i).tmod 20) (hd h.half) = htQ h i := fun i => rfl
  simp only [HQ] at H
  have hsp := Lib.hid (show ∀ k, k < 6 → (hsL h)[k]? = some (.int .i8 (h.v k)) from fun k hk => by
    rcases (show k = 0 ∨ k = 1 ∨ k = 2 ∨ k = 3 ∨ k = 4 ∨ k = 5 by omega) with rfl | rfl | rfl | rfl | rfl | rfl <;> rfl)
  clear HQ
  have hw0 := Lib.hid (show ∀ i, (wrap64 (h.v i)).tmod 20 = (h.v i).tmod 20 from fun i => by have := hw i; rw [show wrap64 (h.v i) = h.v i from by simp only [wrap64]; omega])
  generalize hhh : h.half = half at *
  simp only [hsV]
  rw [hhh]
  have c0 : Cells (w.heap.size + 1) (hsL h) (((w.alloc (.cells #[.slice pa n pc, .slice ta tn tc] 37)).alloc (.cells #[.int .i8 (h.v 0), .int .i8 (h.v 1), .int .i8 (h.v 2), .int .i8 (h.v 3), .int .i8 (h.v 4), .int .i8 (h.v 5), .bool half] 28)).alloc (.cells #[] 54)) := by
    have := Cells.new (w.alloc (.cells #[.slice pa n pc, .slice ta tn tc] 37)) (hsL h) 28
    rw [World.size_alloc] at this
    rw [← hhh]
    exact this.ext ((Ext.refl _).alloc _)
  have hWW : ∃ W0, W0 = ((w.alloc (.cells #[.slice pa n pc, .slice ta tn tc] 37)).alloc (.cells #[.int .i8 (h.v 0), .int .i8 (h.v 1), .int .i8 (h.v 2), .int .i8 (h.v 3), .int .i8 (h.v 4), .int .i8 (h.v 5), .bool half] 28)).alloc (.cells #[] 54) := ⟨_, rfl⟩
  obtain ⟨W0, hW0⟩ := hWW
  rw [← hW0] at c0
  have X0 : Ext w W0 := by rw [hW0]; exact (((Ext.refl w).alloc _).alloc _).alloc _
  have hs0 : W0.heap.size = w.heap.size + 3 := by rw [hW0]; simp
  have k0 : W0.cell? ⟨w.heap.size, 0, none⟩ = some (.slice pa n pc) := by rw [hW0]; simp [go_sem]
  have o0 : OwnL encQ 54 1 (w.heap.size + 2) (hts h 0) (.slice (some ⟨w.heap.size + 2, 0, none⟩) 0 0) W0 := by
    refine ⟨fun x hx => by simp [hts] at hx, ?_⟩
    have := World.ownsRow_made (base := w.heap.size + 2) (e := 54) (size := 1) ((w.alloc (.cells #[.slice pa n pc, .slice ta tn tc] 37)).alloc (.cells #[.int .i8 (h.v 0), .int .i8 (h.v 1), .int .i8 (h.v 2), .int .i8 (h.v 3), .int .i8 (h.v 4), .int .i8 (h.v 5), .bool half] 28)) #[] 0 (by simp) (by unfold maxLen; omega) (by simp)
    rw [hW0]
    simpa [hts] using this
  have hhf := (c0.at 6 (.bool half) (by rw [← hhh]; rfl)).1
  clear g hhh hbd hw
  cases half with
  | false =>
    have HH : Hid (∀ i W, Ext w W → Calls Tryz.prog 63 #[.int .i64 ((wrap64 (h.v i)).tmod 20), .int .i64 1] W (Ret (.string (tQ (htQ h i))) W)) := Lib.hid (fun i W X => by rw [hw0.out i]; exact H.out i W X)
    go_enter Tryz.func30, Tryz.ntmps30
    go_wp2_with fail
    rw [← hW0]
    clear hW0 H hw0
    go_loopw [5, 7] (HtR h n (w.heap.size + 2) W0) (fun _ p _ => n - (intOf p).toNat)
    case atStart => exact ⟨0, by omega, rfl, o0, Below.refl _ _⟩
    case round =>
      obtain ⟨k, hk, rfl, hown, hB⟩ := hrel
      have hsz := hB.size
      have k0r : wr.cell? ⟨w.heap.size, 0, none⟩ = some (.slice pa n pc) := (hB.cell (p := ⟨w.heap.size, 0, none⟩) (by show w.heap.size < _; omega)).trans k0
      have XR : Ext w wr := Ext.trans' X0 (hB.mono (by omega))
      have hll := HL.out k
      by_cases hlt : k < n
      · have kl : (k : Int) < n := by omega
        have km : (k : Int).tmod 6 = k := by rw [Int.tmod_eq_emod_of_nonneg (by omega)]; omega
        have cv := (hB.cell (p := ⟨w.heap.size + 1, k, none⟩) (by show w.heap.size + 1 < _; omega)).trans (c0.at k _ (hsp.out k (by omega))).1
        have HS1 := Lib.hid (HS.out k)
        generalize hts h k = L at *
        have HHk := Lib.hid (HH.out k)
        clear HH
        go_wp2_with fail
        refine (HHk.out _ XR).mono ?_
        rintro e w1 ⟨rfl, Y1⟩
        have howa := (hown.below Y1).alloc (.cells #[.string (tQ (htQ h k))] 54)
        have hsz1 := Y1.size
        have hBa : Below (w.heap.size + 2) W0 (w1.alloc (.cells #[.string (tQ (htQ h k))] 54)) := (hB.trans (Y1.mono (by omega))).alloc (by omega) _
        have HE := Lib.hid (show ∀ q c' W3, OwnL encQ 54 1 (w.heap.size + 2) (L ++ [htQ h k]) (.slice (some ⟨q, 0, none⟩) (L.length + 1) c') W3 → Below (w.heap.size + 2) W0 W3 → HtR h n (w.heap.size + 2) W0 (.slice (some ⟨q, 0, none⟩) (L.length + 1) c') (.int .i64 (↑k + 1)) W3 from fun q c' W3 h1 h2 => ⟨k + 1, hlt, by simp, by rw [HS1.out]; exact h1, h2⟩)
        clear hown hB HS1 HHk Y1
        go_wp2_with (at_builtin; go_loud (refine wpList_push _ EFl rfl _ _ rfl (v := u5) rfl howa (htQ h k) ⟨w1.heap.size, 0, none⟩ 1 rfl rfl (by intro u hu; simp only [encQ, List.mem_singleton] at hu; rw [hu]; rfl) (cell_one_newQ _ _) (by omega) (by simp; omega) ?_); intro q c' W3 hown3 hX3 hg3; have HB3 := Lib.hid (HE.out q c' W3 hown3 (hX3.out _ _ (Nat.le_refl _) (by omega) hBa)); clear hown3 hX3 hg3)
        exact ⟨by rw [← hll]; simpa only [hll] using HB3.out, by simp only [intOf]; omega⟩
      · have : k = n := by omega
        subst this
        have hf := hown.form
        obtain ⟨va, vc, rfl, hv⟩ := hf
        have hq := hv (fun e => by rw [e] at hll; simp at hll; omega)
        obtain ⟨q, rfl, _, _⟩ := hq
        rw [hll] at hown ⊢
        have hcl := hown.cells.2.2
        have HF := Lib.hid (show FldIn wr q 0 (hts h k) from fun j hj => by have := hcl j hj 0 _ (by omega) rfl; simpa using this)
        clear hcl hown hv
        go_wp2_with fail
        go_ret
        exact ⟨q, vc, rfl, HF.out, XR⟩
  | true =>
    have HH : Hid (∀ i W, Ext w W → Calls Tryz.prog 63 #[.int .i64 ((wrap64 (h.v i)).tmod 20), .int .i64 2] W (Ret (.string (tQ (htQ h i))) W)) := Lib.hid (fun i W X => by rw [hw0.out i]; exact H.out i W X)
    go_enter Tryz.func30, Tryz.ntmps30
    go_wp2_with fail
    rw [← hW0]
    clear hW0 H hw0
    go_loopw [5, 7] (HtR h n (w.heap.size + 2) W0) (fun _ p _ => n - (intOf p).toNat)
    case atStart => exact ⟨0, by omega, rfl, o0, Below.refl _ _⟩
    case round =>
      obtain ⟨k, hk, rfl, hown, hB⟩ := hrel
      have hsz := hB.size
      have k0r : wr.cell? ⟨w.heap.size, 0, none⟩ = some (.slice pa n pc) := (hB.cell (p := ⟨w.heap.size, 0, none⟩) (by show w.heap.size < _; omega)).trans k0
      have XR : Ext w wr := Ext.trans' X0 (hB.mono (by omega))
      have hll := HL.out k
      by_cases hlt : k < n
      · have kl : (k : Int) < n := by omega
        have km : (k : Int).tmod 6 = k := by rw [Int.tmod_eq_emod_of_nonneg (by omega)]; omega
        have cv := (hB.cell (p := ⟨w.heap.size + 1, k, none⟩) (by show w.heap.size + 1 < _; omega)).trans (c0.at k _ (hsp.out k (by omega))).1
        have HS1 := Lib.hid (HS.out k)
        generalize hts h k = L at *
        have HHk := Lib.hid (HH.out k)
        clear HH
        go_wp2_with fail
        refine (HHk.out _ XR).mono ?_
        rintro e w1 ⟨rfl, Y1⟩
        have howa := (hown.below Y1).alloc (.cells #[.string (tQ (htQ h k))] 54)
        have hsz1 := Y1.size
        have hBa : Below (w.heap.size + 2) W0 (w1.alloc (.cells #[.string (tQ (htQ h k))] 54)) := (hB.trans (Y1.mono (by omega))).alloc (by omega) _
        have HE := Lib.hid (show ∀ q c' W3, OwnL encQ 54 1 (w.heap.size + 2) (L ++ [htQ h k]) (.slice (some ⟨q, 0, none⟩) (L.length + 1) c') W3 → Below (w.heap.size + 2) W0 W3 → HtR h n (w.heap.size + 2) W0 (.slice (some ⟨q, 0, none⟩) (L.length + 1) c') (.int .i64 (↑k + 1)) W3 from fun q c' W3 h1 h2 => ⟨k + 1, hlt, by simp, by rw [HS1.out]; exact h1, h2⟩)
        clear hown hB HS1 HHk Y1
        go_wp2_with (at_builtin; go_loud (refine wpList_push _ EFl rfl _ _ rfl (v := u5) rfl howa (htQ h k) ⟨w1.heap.size, 0, none⟩ 1 rfl rfl (by intro u hu; simp only [encQ, List.mem_singleton] at hu; rw [hu]; rfl) (cell_one_newQ _ _) (by omega) (by simp; omega) ?_); intro q c' W3 hown3 hX3 hg3; have HB3 := Lib.hid (HE.out q c' W3 hown3 (hX3.out _ _ (Nat.le_refl _) (by omega) hBa)); clear hown3 hX3 hg3)
        exact ⟨by rw [← hll]; simpa only [hll] using HB3.out, by simp only [intOf]; omega⟩
      · have : k = n := by omega
        subst this
        have hf := hown.form
        obtain ⟨va, vc, rfl, hv⟩ := hf
        have hq := hv (fun e => by rw [e] at hll; simp at hll; omega)
        obtain ⟨q, rfl, _, _⟩ := hq
        rw [hll] at hown ⊢
        have hcl := hown.cells.2.2
        have HF := Lib.hid (show FldIn wr q 0 (hts h k) from fun j hj => by have := hcl j hj 0 _ (by omega) rfl; simpa using this)
        clear hcl hown hv
        go_wp2_with fail
        go_ret
        exact ⟨q, vc, rfl, HF.out, XR⟩

/-- The points of a planned mesh lie on its grid. -/
theorem plP_PZ (s : Sh) (z : Int × Int) : ∃ k, Half k ∧ ∀ z : Int × Int, plP s z.1 z.2 1 = PZ (s.s0.tmod 8) (s.s1.tmod 8) k z := by
  have hk : ∃ k, Half k ∧ ∀ n : Int, mkRat n (hd s.half) = (n : Rat) * k := by
    cases s.half
    · exact ⟨1, .inl rfl, fun n => by simp [hd, Rat.mkRat_one]⟩
    · refine ⟨1 / 2, .inr rfl, fun n => ?_⟩
      show mkRat n 2 = _
      rw [Rat.mkRat_eq_div, Rat.div_def, Rat.div_def, Rat.one_mul]; rfl
  obtain ⟨k, hk, e⟩ := hk
  refine ⟨k, hk, fun z => ?_⟩
  unfold plP plQ PZ
  simp [e]
theorem mk_pm (s : Sh) (i : Nat) (hi : i < 8) : Pm (mkPts s i) (shpT i) (shpC i) := by
  obtain ⟨k, hk, e⟩ := plP_PZ s (0, 0)
  have : mkPts s i = (shpZ i).map (PZ (s.s0.tmod 8) (s.s1.tmod 8) k) := by
    unfold mkPts
    exact List.map_congr_left fun z _ => e z
  rw [this]
  have t0 := tmod_lt s.s0 8 (by omega)
  have t1 := tmod_lt s.s1 8 (by omega)
  have h := (shp_ok i hi).ok (s := s.s0.tmod 8) (t := s.s1.tmod 8) (k := k) (by omega) (by omega) hk
  exact ⟨h.1, h.2⟩
/-- Quarters of places. -/
theorem pl2_gr (s : Sh) (x y : Int) (hx : -128 ≤ x ∧ x ≤ 127) (hy : -128 ≤ y ∧ y ≤ 127) : GP 284 4 (plP s x y 2) := by
  have t0 := tmod_lt s.s0 8 (by omega)
  have t1 := tmod_lt s.s1 8 (by omega)
  have hq : ∀ n : Int, n.natAbs ≤ 142 → Gr 284 4 (mkRat n (hd s.half * 2)) := fun n hn => by
    cases s.half
    · refine ⟨by omega, n * 2, ?_, by omega⟩
      show mkRat n 2 * _ = _
      rw [Rat.mkRat_eq_div, Rat.intCast_mul]
      have : ((2 : Int) : Rat) ≠ 0 := by decide +kernel
      have h4 : ((4 : Nat) : Rat) = ((2 : Int) : Rat) * ((2 : Int) : Rat) := by decide +kernel
      rw [h4]
      grind
    · refine ⟨by omega, n, ?_, by omega⟩
      show mkRat n 4 * _ = _
      rw [Rat.mkRat_eq_div]
      have : ((4 : Int) : Rat) ≠ 0 := by decide +kernel
      have h4 : ((4 : Nat) : Rat) = ((4 : Int) : Rat) := by decide +kernel
      rw [h4]
      grind
  exact ⟨hq _ (by omega), hq _ (by omega)⟩
end Go.Proofs.YtbiffaciinppiaaGreatDoor
end
