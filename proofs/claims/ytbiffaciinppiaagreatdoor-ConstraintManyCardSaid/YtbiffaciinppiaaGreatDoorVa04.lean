/- integer.quick and integer.Gcd of short integers, integer.Check, rational.Check of short numbers. rational.Parts, join, Div, Check of short numbers. mesh.area and mesh.turn for places of a grid. vector.CheckPoint, vector.Check of short numbers. relation.IsName of a right name. -/
import Derived.Test.YtbiffaciinppiaaGreatDoorVa03
import Derived.Test.YtbiffaciinppiaaGreatDoorVa02
import Derived.Deep.RegionHeld3
import Derived.Test.YtbiffaciinppiaaGreatDoorVa01
set_option linter.unusedVariables false
set_option linter.unusedSimpArgs false
section
namespace Go.Proofs.YtbiffaciinppiaaGreatDoor
open Go.RowKit

set_option maxRecDepth 100000 in
set_option maxHeartbeats 1000000 in
theorem iQuick (n : Int) (m : Nat) (w : World) (hs : (tI n).size ≤ m) (hm : m ≤ 18) : Calls Tryz.prog 155 #[.string (tI n), .int .i64 m] w (Ret (.tuple #[.int .i64 n, .bool true]) w) := by
  have ha : Lib.atoi (tI n).data.toList = some n := by
    have := atoi_itoa n
    simpa [tI] using this
  have HA := Lib.hid ha
  clear ha
  have hd : decide (((tI n).size : Int) > (m : Int)) = false := decide_eq_false (by omega)
  have hd2 : decide ((m : Int) < ((tI n).size : Int)) = false := decide_eq_false (by omega)
  go_enter Tryz.func155, Tryz.ntmps155
  go_wp2_with fail
  refine (Tryz.strconv_Atoi (tI n) n (by omega) HA.out w).mono ?_
  rintro e w' ⟨rfl, t, rfl⟩
  go_wp2_with fail
  go_quiet (fail)
  go_wp2_with fail
  go_ret2
  exact ⟨rfl, ((Ext.refl w).bytes _ _).drewN _⟩

set_option maxRecDepth 100000 in
set_option maxHeartbeats 1000000 in
theorem iGcd (a b : Int) (w : World) (g : Glob w) (ha : (tI a).size ≤ 18) (hb : (tI b).size ≤ 18) : Calls Tryz.prog 104 #[.string (tI a), .string (tI b)] w (Ret (.string (tI (Nat.gcd a.natAbs b.natAbs))) w) := by
  have ha1 : a.natAbs < 10 ^ 18 := by
    have h1 := itoa_len a
    rw [← tI_size] at h1
    exact (nDigits_le _ 18 (by omega)).1 (by split at h1 <;> omega)
  have hb1 : b.natAbs < 10 ^ 18 := by
    have h1 := itoa_len b
    rw [← tI_size] at h1
    exact (nDigits_le _ 18 (by omega)).1 (by split at h1 <;> omega)
  have HA := Lib.hid ha
  have HB := Lib.hid hb
  clear ha hb
  go_enter Tryz.func104, Tryz.ntmps104
  go_wp2_with fail
  refine (iQuick a 18 w HA.out (by omega)).mono ?_
  rintro e w1 ⟨rfl, X1⟩
  go_wp2_with fail
  refine (iQuick b 18 w1 HB.out (by omega)).mono ?_
  rintro e w2 ⟨rfl, X2⟩
  have X := X1.trans X2
  go_wp2_with fail
  go_loopw [5, 7] (fun p q w' => ∃ x y : Int, p = .int .i64 x ∧ q = .int .i64 y ∧ -9223372036854775808 < x ∧ x ≤ 9223372036854775807 ∧ -9223372036854775808 < y ∧ y ≤ 9223372036854775807 ∧ Hid (Nat.gcd x.natAbs y.natAbs = Nat.gcd a.natAbs b.natAbs) ∧ Ext w w') (fun _ q _ => (intOf q).natAbs)
  case atStart => exact ⟨a, b, rfl, rfl, by omega, by omega, by omega, by omega, Lib.hid rfl, X⟩
  case round =>
    obtain ⟨x, y, rfl, rfl, hx0, hx1, hy0, hy1, hg, hb⟩ := hrel
    by_cases hy : y = 0
    · have hyb : (y != 0) = false := by simp [hy]
      have hgx : a.natAbs.gcd b.natAbs = x.natAbs := by have := hg.out; rw [hy] at this; simpa using this.symm
      have Hgx := Lib.hid hgx
      have gg := g.ext hb
      clear hgx hy hg
      have HM := Lib.hid (show max x (-x) = (x.natAbs : Int) by omega)
      go_wp2_with fail
      refine (iOf (max x (-x)) _ gg (by omega) (by omega)).mono ?_
      rintro e w3 ⟨rfl, X3⟩
      go_wp2_with fail
      go_ret
      exact ⟨by rw [Hgx.out, ← HM.out]; rfl, Ext.trans hb X3⟩
    · have hyb : (y != 0) = true := by simp [hy]
      have hyb2 : (y == 0) = false := by simp [hy]
      have hm1 := tmod_lo x y hy hy0 hy1
      have hm2 := tmod_hi x y hy hy0 hy1
      have hgm := Lib.hid (tmod_gcd x y hg.out)
      have hlt := tmod_lt x y hy
      have Hy := Lib.hid hy
      clear hy
      go_wp2_with fail
      go_quiet (fail)
      go_wp2_with fail
      exact ⟨⟨_, _, rfl, rfl, hy0, hy1, hm1, hm2, hgm, hb.drewN _⟩, by simpa [intOf] using hlt⟩

theorem tI_nat (m : Nat) : (tI m).data.toList = Lib.decDigits m := by rw [tI_data, itoa_pos (by omega)]; rfl
theorem tI_nsize (m : Nat) : (tI m).size = Lib.nDigits m := by rw [tI_size, itoa_len]; simp
theorem getElem_tI (m k : Nat) (h : k < (tI m).size) : (tI m)[k] = (Lib.decDigits m)[k]'(by rw [Lib.decDigits_length, ← tI_nsize]; exact h) := by
  have e : (tI m)[k] = (tI m).data.toList[k]'(by rw [← ByteArray.size_data, ← Array.length_toList] at h; exact h) := by simp [ByteArray.getElem_eq_getElem_data]
  rw [e]; simp only [tI_nat]
theorem tI_nbyte (m k : Nat) (hk : k < Lib.nDigits m) : ∃ C : Int, (∀ h : k < (tI m).size, (((tI m)[k]'h).toNat : Int) = C) ∧ 48 ≤ C ∧ C ≤ 57 := by
  have hl : k < (Lib.decDigits m).length := by rw [Lib.decDigits_length]; exact hk
  have hb := dig_bd m k hl
  exact ⟨((Lib.decDigits m)[k].toNat : Int), fun h => by rw [getElem_tI m k h], by omega, by omega⟩
theorem tI_nfirst (m : Nat) (hm : 1 ≤ m) : ∃ C : Int, (∀ h : 0 < (tI m).size, (((tI m)[0]'h).toNat : Int) = C) ∧ 49 ≤ C ∧ C ≤ 57 := by
  obtain ⟨b, r, e, h1, h2⟩ := decDigits_head m hm
  refine ⟨(b.toNat : Int), fun h => ?_, by omega, by omega⟩
  rw [getElem_tI m 0 h]
  simp only [e, List.getElem_cons_zero]

set_option maxRecDepth 100000 in
set_option maxHeartbeats 1000000 in
/-- An integer of at most 200 digits is right. -/
theorem iCheck (n : Int) (w : World) (hn : Lib.nDigits n.natAbs ≤ 200) : Calls Tryz.prog 102 #[.string (tI n)] w (Ret (.int .i64 0) w) := by
  have HP := Lib.hid (hasPre n)
  have HT := Lib.hid (trimPre n)
  have hsz := tI_nsize n.natAbs
  have hpos : 0 < (tI n.natAbs).size := by rw [tI_size]; exact List.length_pos_iff.2 (itoa_ne_nil _)
  have hne : ((tI n.natAbs).toList == []) = false := by rw [tI_toList]; exact beq_false_of_ne (itoa_ne_nil _)
  have HB := Lib.hid (tI_nbyte n.natAbs)
  have hc1 : decide (((tI n.natAbs).size : Int) > 200) = false := decide_eq_false (by omega)
  go_enter Tryz.func102, Tryz.ntmps102
  go_wp2_with fail
  refine (Tryz.strings_CutPrefix _ _ _).mono ?_
  rintro e w1 ⟨rfl, rfl⟩
  rw [show (⟨#[45]⟩ : ByteArray).data.toList = [45] from rfl, HT.out, HP.out]
  by_cases h0 : n = 0
  · subst h0
    rw [show tI ((Int.natAbs 0 : Nat) : Int) = ⟨#[48]⟩ from ba_ext (by rw [tI_data]; exact itoa_zero), show decide ((0 : Int) < 0) = false from rfl]
    clear hn HP HT hsz hpos hne HB hc1
    go_wp2_with fail
    go_loopw [33] (fun p wr => ∃ k : Nat, k ≤ 1 ∧ p = .int .i64 k ∧ wr = w1) (fun p _ => 1 - (intOf p).toNat)
    case atStart => exact ⟨0, by omega, rfl, rfl⟩
    case round =>
      obtain ⟨k, hk, rfl, rfl⟩ := hrel
      rcases (show k = 0 ∨ k = 1 by omega) with rfl | rfl
      · go_wp2_with fail
        exact ⟨⟨1, by omega, rfl, trivial⟩, by simp [intOf]⟩
      · go_wp2_with fail
        go_ret
        exact ⟨rfl, Ext.refl _⟩
  · obtain ⟨C, hC, hC1, hC2⟩ := tI_nfirst n.natAbs (by omega)
    have hC0 := hC hpos
    clear HT HP hC
    have hz : (C == 48) = false := beq_false_of_ne (by omega)
    go_wp2_with fail
    go_loopw [33] (fun p wr => ∃ k : Nat, k ≤ Lib.nDigits n.natAbs ∧ p = .int .i64 k ∧ wr = w1) (fun p _ => Lib.nDigits n.natAbs - (intOf p).toNat)
    case atStart => exact ⟨0, by omega, rfl, rfl⟩
    case round =>
      obtain ⟨k, hk, rfl, rfl⟩ := hrel
      rcases Nat.lt_or_ge k (Lib.nDigits n.natAbs) with hlt | hge
      · obtain ⟨E, hE, hE1, hE2⟩ := HB.out k hlt
        have hE0 := hE (by omega)
        have hq1 : decide (E < 48) = false := decide_eq_false (by omega)
        have hq2 : decide (E > 57) = false := decide_eq_false (by omega)
        have hq3 : decide (57 < E) = false := decide_eq_false (by omega)
        clear hE
        go_wp2_with fail
        exact ⟨⟨k + 1, by omega, by go_num, trivial⟩, by simp only [intOf]; omega⟩
      · have : k = Lib.nDigits n.natAbs := by omega
        subst this
        go_wp2_with fail
        go_ret
        exact ⟨rfl, Ext.refl _⟩
end Go.Proofs.YtbiffaciinppiaaGreatDoor
end

section
namespace Go.Proofs.YtbiffaciinppiaaGreatDoor
open Go.RowKit

theorem idx_none : ∀ (l : List UInt8), (∀ x ∈ l, x ≠ 47) → Lib.index l [47] = -1
  | [], _ => rfl
  | b :: l, h => by
    have hb : b ≠ 47 := h b (by simp)
    have ih := idx_none l (fun x hx => h x (by simp [hx]))
    unfold Lib.index
    have : List.isPrefixOf [47] (b :: l) = false := by simp [List.isPrefixOf]; exact fun e => hb e.symm
    rw [this, ih]; rfl
theorem idx_at : ∀ (l r : List UInt8), (∀ x ∈ l, x ≠ 47) → Lib.index (l ++ 47 :: r) [47] = l.length
  | [], r, _ => by
    show Lib.index (47 :: r) [47] = 0
    unfold Lib.index
    simp [List.isPrefixOf]
  | b :: l, r, h => by
    have hb : b ≠ 47 := h b (by simp)
    have ih := idx_at l r (fun x hx => h x (by simp [hx]))
    rw [List.cons_append]
    unfold Lib.index
    have : List.isPrefixOf [47] (b :: (l ++ 47 :: r)) = false := by simp [List.isPrefixOf]; exact fun e => hb e.symm
    have h2 : ((l.length : Int) == -1) = false := beq_false_of_ne (by omega)
    rw [this, ih, h2]; simp
theorem cut_int {q : Rat} (h : q.den = 1) : Lib.cut (tQ q).data.toList [47] = ((tQ q).data.toList, [], false) := by
  rw [tQ_data, qL_int h]
  unfold Lib.cut
  rw [idx_none _ (itoa_mem _)]; rfl
theorem cut_frac {q : Rat} (h : q.den ≠ 1) : Lib.cut (tQ q).data.toList [47] = ((tI q.num).data.toList, (tI q.den).data.toList, true) := by
  rw [tQ_data, qL_frac h, tI_data, tI_nat]
  unfold Lib.cut
  rw [idx_at _ _ (itoa_mem _)]
  simp [List.drop_append]
theorem ba_mk (s : ByteArray) : (⟨s.data.toList.toArray⟩ : ByteArray) = s := by simp

theorem rParts (q : Rat) (w : World) (g : Glob w) (hl : (tQ q).size < 4294967281) : Calls Tryz.prog 141 #[.string (tQ q)] w (Ret (.tuple #[.string (tI q.num), .string (tI q.den)]) w) := by
  obtain ⟨m, hm⟩ := g.len
  by_cases h : q.den = 1
  · have HC := Lib.hid (cut_int h)
    have HE := Lib.hid (show tQ q = tI q.num from tQ_int h)
    have HD := Lib.hid (show tI (q.den : Int) = ⟨#[49]⟩ from ba_ext (by rw [h, tI_data]; exact itoa_1))
    clear h
    go_enter Tryz.func141, Tryz.ntmps141
    go_wp2_with fail
    refine (Tryz.strings_Cut (tQ q) ⟨#[47]⟩ m w hl hm).mono ?_
    rintro e w1 ⟨rfl, n, rfl⟩
    rw [show (⟨#[47]⟩ : ByteArray).data.toList = [47] from rfl, HC.out]
    simp only [ba_mk]
    go_wp2_with fail
    go_ret2
    rw [HD.out, ← HE.out]
    exact ⟨rfl, (Ext.refl w).drewN _⟩
  · have HC := Lib.hid (cut_frac h)
    clear h
    go_enter Tryz.func141, Tryz.ntmps141
    go_wp2_with fail
    refine (Tryz.strings_Cut (tQ q) ⟨#[47]⟩ m w hl hm).mono ?_
    rintro e w1 ⟨rfl, n, rfl⟩
    rw [show (⟨#[47]⟩ : ByteArray).data.toList = [47] from rfl, HC.out]
    simp only [ba_mk]
    go_wp2_with fail
    go_ret2
    exact ⟨rfl, (Ext.refl w).drewN _⟩

theorem rJoin (q : Rat) (w : World) (hl : (tQ q).size ≤ 1000000000000) : Calls Tryz.prog 143 #[.string (tI q.num), .string (tI q.den)] w (Ret (.string (tQ q)) w) := by
  have h1 := tI_is1 q.den
  by_cases h : q.den = 1
  · rw [h] at h1
    have HE := Lib.hid (show tQ q = tI q.num from tQ_int h)
    have h2 : ((tI q.den).toList == [49]) = true := by rw [h]; exact h1
    clear h1 h
    go_enter Tryz.func143, Tryz.ntmps143
    go_wp2_with fail
    go_ret
    rw [HE.out]
    exact ⟨rfl, Ext.refl w⟩
  · have h2 : ((tI q.den).toList == [49]) = false := by rw [h1]; exact decide_eq_false (by omega)
    have HE := Lib.hid (tQ_frac h)
    have hs : (tI q.num).size + 1 + (tI q.den).size ≤ 1000000000000 := by
      have := tQ_len q
      rw [if_neg h] at this
      rw [tI_nsize, tI_size, itoa_len]
      unfold sg at this
      omega
    clear h1 h
    go_enter Tryz.func143, Tryz.ntmps143
    go_wp2_with fail
    go_ret
    rw [← HE.out]
    exact ⟨rfl, Ext.refl w⟩

theorem num_pos_of {b : Rat} (h0 : b ≠ 0) (h : ¬ b < 0) : 0 < b.num := by
  have h1 : ¬ b.num < 0 := fun e => h ((num_neg_iff b).1 e)
  have h2 : b.num ≠ 0 := fun e => h0 (Rat.num_eq_zero.1 e)
  omega
theorem inv_pos {b : Rat} (h0 : b ≠ 0) (h : ¬ b < 0) : (b⁻¹).num = b.den ∧ ((b⁻¹).den : Int) = b.num := by
  have hn := num_pos_of h0 h
  rw [Rat.num_inv, Rat.den_inv, Int.sign_eq_one_of_pos hn, if_neg (by omega)]
  omega
theorem inv_neg {b : Rat} (h : b < 0) : (b⁻¹).num = -b.den ∧ ((b⁻¹).den : Int) = -b.num := by
  have hn : b.num < 0 := (num_neg_iff b).2 h
  rw [Rat.num_inv, Rat.den_inv, Int.sign_eq_neg_one_of_neg hn, if_neg (by omega)]
  omega
theorem Dg.inv {k : Nat} {b : Rat} (h : Dg k b) (h0 : b ≠ 0) : Dg k b⁻¹ := by
  by_cases hn : b < 0
  · obtain ⟨h1, h2⟩ := inv_neg hn
    unfold Dg at *; omega
  · obtain ⟨h1, h2⟩ := inv_pos h0 hn
    unfold Dg at *; omega
theorem tI_dsize {k : Nat} {n : Int} (h : n.natAbs < 10 ^ k) (hk : 1 ≤ k) : (tI n).size ≤ k + 1 := by
  have h1 := itoa_len n
  have h2 := (nDigits_le n.natAbs k hk).2 h
  rw [tI_size]; split at h1 <;> omega

set_option maxHeartbeats 1000000 in
theorem rDiv (a b : Rat) (w : World) (g : Glob w) (ha : Dg 9 a) (hb : Dg 9 b) (h0 : b ≠ 0) : Calls Tryz.prog 90 #[.string (tQ a), .string (tQ b)] w (Ret (.tuple #[.string (tQ (a / b)), .int .i64 0]) w) := by
  have hz := tQ_pos b
  have b0 := tQ_is0 b
  have h1 := tQ_first b hz
  rw [decide_eq_false h0] at b0
  have hbs := hb.size
  have his := (hb.inv h0).size
  have HM := Lib.hid (fun W (X : Ext w W) => rMul a b⁻¹ W (g.ext X) ha (hb.inv h0))
  have HJ := Lib.hid (fun W => rJoin b⁻¹ W (by omega))
  have HR := Lib.hid (show a * b⁻¹ = a / b from (Rat.div_def a b).symm)
  by_cases hn : b < 0
  · rw [decide_eq_true hn] at h1
    obtain ⟨i1, i2⟩ := inv_neg hn
    rw [i1, i2] at HJ
    have s1 := tI_dsize hb.1 (by omega)
    have s2 : (tI b.den).size ≤ 10 := tI_dsize (by simpa using hb.2) (by omega)
    clear i1 i2 hn h0 ha hb
    go_enter Tryz.func90, Tryz.ntmps90
    go_wp2_with fail
    refine (rParts b w g (by omega)).mono ?_
    rintro e w1 ⟨rfl, X1⟩
    go_wp2_with fail
    refine (iNeg b.num w1 (by omega)).mono ?_
    rintro e w2 ⟨rfl, X2⟩
    go_wp2_with fail
    refine (iNeg b.den w2 (by omega)).mono ?_
    rintro e w3 ⟨rfl, X3⟩
    go_wp2_with fail
    refine (HJ.out w3).mono ?_
    rintro e w4 ⟨rfl, X4⟩
    have X := ((X1.trans X2).trans X3).trans X4
    go_wp2_with fail
    refine (HM.out w4 X).mono ?_
    rintro e w5 ⟨rfl, X5⟩
    go_wp2_with fail
    go_ret2
    rw [← HR.out]
    exact ⟨rfl, X.trans X5⟩
  · rw [decide_eq_false hn] at h1
    obtain ⟨i1, i2⟩ := inv_pos h0 hn
    rw [i1, i2] at HJ
    clear i1 i2 hn h0 ha hb
    go_enter Tryz.func90, Tryz.ntmps90
    go_wp2_with fail
    refine (rParts b w g (by omega)).mono ?_
    rintro e w1 ⟨rfl, X1⟩
    go_wp2_with fail
    refine (HJ.out w1).mono ?_
    rintro e w4 ⟨rfl, X4⟩
    have X := X1.trans X4
    go_wp2_with fail
    refine (HM.out w4 X).mono ?_
    rintro e w5 ⟨rfl, X5⟩
    go_wp2_with fail
    go_ret2
    rw [← HR.out]
    exact ⟨rfl, X.trans X5⟩

set_option maxHeartbeats 1000000 in
theorem iCmp1 (m : Nat) (w : World) (hm : 1 < m) (hs : (tI m).size ≤ 1000000) : Calls Tryz.prog 103 #[.string (tI m), .string ⟨#[49]⟩] w (Ret (.int .i64 1) w) := by
  have H1 : Hid (tI (1 : Int) = ⟨#[49]⟩) := Lib.hid (ba_ext (by rw [tI_data]; exact itoa_1))
  have hsz := tI_nsize m
  have hT := Lib.hid (trimPre m)
  have hT1 := Lib.hid (show (⟨(Lib.trimPrefix (⟨#[49]⟩ : ByteArray).data.toList [45]).toArray⟩ : ByteArray) = ⟨#[49]⟩ from rfl)
  have hsg : sgnI (m : Int) = 1 := by unfold sgnI; rw [if_neg (by omega), if_neg (by omega)]
  have hsg1 : sgnI (1 : Int) = 1 := rfl
  have Hsg := Lib.hid hsg
  have Hsg1 := Lib.hid hsg1
  have h1 : 1 ≤ Lib.nDigits m := by
    rcases Nat.eq_zero_or_pos (Lib.nDigits m) with h | h
    · have := tQ_pos (m : Rat)
      rw [show ((m : Nat) : Rat) = ((m : Int) : Rat) from rfl, tQ_ofInt, hsz, h] at this
      omega
    · exact h
  by_cases hd : Lib.nDigits m = 1
  · have hlt : m < 10 := by have := (nDigits_le m 1 (by omega)).1 (by omega); omega
    have hC : Lib.compareBytes (tI m).data.toList [49] = 1 := by
      rw [tI_nat, Lib.decDigits_one hlt]
      rcases (show m = 2 ∨ m = 3 ∨ m = 4 ∨ m = 5 ∨ m = 6 ∨ m = 7 ∨ m = 8 ∨ m = 9 by omega) with rfl | rfl | rfl | rfl | rfl | rfl | rfl | rfl <;> decide
    have HC := Lib.hid hC
    have hl : (tI m).size = 1 := by omega
    clear hsg hsg1 hC
    go_enter Tryz.func103, Tryz.ntmps103
    go_wp2_with fail
    refine (iSign m w).mono ?_
    rintro e w1 ⟨rfl, X1⟩
    rw [Hsg.out]
    go_wp2_with fail
    have HS := iSign 1 w1
    rw [H1.out, Hsg1.out] at HS
    refine HS.mono ?_
    clear HS
    rintro e w2 ⟨rfl, X2⟩
    go_wp2_with fail
    refine (Tryz.strings_TrimPrefix _ _ _).mono ?_
    rintro e w3 ⟨rfl, rfl⟩
    rw [show (⟨#[45]⟩ : ByteArray).data.toList = [45] from rfl, hT.out]
    go_wp2_with fail
    refine (Tryz.strings_TrimPrefix _ _ _).mono ?_
    rintro e w3 ⟨rfl, rfl⟩
    rw [show (⟨#[45]⟩ : ByteArray).data.toList = [45] from rfl, hT1.out]
    go_wp2_with fail
    refine (Tryz.strings_Compare _ _ _).mono ?_
    rintro e w4 ⟨rfl, rfl⟩
    rw [show (⟨#[49]⟩ : ByteArray).data.toList = [49] from rfl, HC.out]
    go_wp2_with fail
    go_ret
    exact ⟨rfl, X1.trans X2⟩
  · have hl : 2 ≤ (tI m).size := by omega
    have l1 : (((tI m).size : Int) != 1) = true := bne_iff_ne.2 (by omega)
    have l2 : decide (((tI m).size : Int) < 1) = false := decide_eq_false (by omega)
    clear hsg hsg1 hsz h1 hd
    go_enter Tryz.func103, Tryz.ntmps103
    go_wp2_with fail
    refine (iSign m w).mono ?_
    rintro e w1 ⟨rfl, X1⟩
    rw [Hsg.out]
    go_wp2_with fail
    have HS := iSign 1 w1
    rw [H1.out, Hsg1.out] at HS
    refine HS.mono ?_
    clear HS
    rintro e w2 ⟨rfl, X2⟩
    go_wp2_with fail
    refine (Tryz.strings_TrimPrefix _ _ _).mono ?_
    rintro e w3 ⟨rfl, rfl⟩
    rw [show (⟨#[45]⟩ : ByteArray).data.toList = [45] from rfl, hT.out]
    go_wp2_with fail
    refine (Tryz.strings_TrimPrefix _ _ _).mono ?_
    rintro e w3 ⟨rfl, rfl⟩
    rw [show (⟨#[45]⟩ : ByteArray).data.toList = [45] from rfl, hT1.out]
    go_wp2_with fail
    go_ret
    exact ⟨rfl, X1.trans X2⟩

set_option maxHeartbeats 1000000 in
/-- A canonical number with short parts is right. -/
theorem rCheck (q : Rat) (w : World) (g : Glob w) (hq : Dg 9 q) : Calls Tryz.prog 53 #[.string (tQ q)] w (Ret (.int .i64 0) w) := by
  obtain ⟨m, hm⟩ := g.len
  have hs := hq.size
  have k1 := iCheck q.num
  have hn1 : Lib.nDigits q.num.natAbs ≤ 200 := by have := (nDigits_le q.num.natAbs 9 (by omega)).2 hq.1; omega
  have hn2 : Lib.nDigits (q.den : Int).natAbs ≤ 200 := by have := (nDigits_le q.den 9 (by omega)).2 hq.2; simp; omega
  have HK1 := Lib.hid (fun W => iCheck q.num W hn1)
  have HK2 := Lib.hid (fun W => iCheck q.den W hn2)
  clear k1 hn1 hn2
  by_cases h : q.den = 1
  · have HC := Lib.hid (cut_int h)
    have HE := Lib.hid (show tQ q = tI q.num from tQ_int h)
    clear h
    go_enter Tryz.func53, Tryz.ntmps53
    go_wp2_with fail
    refine (Tryz.strings_Cut (tQ q) ⟨#[47]⟩ m w (by omega) hm).mono ?_
    rintro e w1 ⟨rfl, n, rfl⟩
    rw [show (⟨#[47]⟩ : ByteArray).data.toList = [47] from rfl, HC.out]
    simp only [ba_mk]
    go_wp2_with fail
    rw [HE.out]
    refine (HK1.out _).mono ?_
    rintro e w2 ⟨rfl, X2⟩
    go_wp2_with fail
    go_ret
    exact ⟨rfl, ((Ext.refl w).drewN _).trans X2⟩
  · have HC := Lib.hid (cut_frac h)
    have hd1 : 1 < q.den := by have := q.den_pos; omega
    have hnz : q.num ≠ 0 := fun e => h (by have := Rat.num_eq_zero.1 e; rw [this]; rfl)
    have h0 : ((tI q.num).toList == [48]) = false := by rw [tI_is0]; exact decide_eq_false hnz
    have s1 := tI_dsize hq.1 (by omega)
    have s2 : (tI q.den).size ≤ 10 := tI_dsize (by simpa using hq.2) (by omega)
    have hgc : Nat.gcd q.num.natAbs (q.den : Int).natAbs = 1 := by have := q.reduced; simpa [Nat.Coprime] using this
    have HG := Lib.hid hgc
    have H1 := Lib.hid (show tI ((1 : Nat) : Int) = ⟨#[49]⟩ from ba_ext (by rw [tI_data]; exact itoa_1))
    clear h hnz hgc
    go_enter Tryz.func53, Tryz.ntmps53
    go_wp2_with fail
    refine (Tryz.strings_Cut (tQ q) ⟨#[47]⟩ m w (by omega) hm).mono ?_
    rintro e w1 ⟨rfl, n, rfl⟩
    rw [show (⟨#[47]⟩ : ByteArray).data.toList = [47] from rfl, HC.out]
    simp only [ba_mk]
    go_wp2_with fail
    refine (HK1.out _).mono ?_
    rintro e w2 ⟨rfl, X2⟩
    go_wp2_with fail
    refine (HK2.out _).mono ?_
    rintro e w3 ⟨rfl, X3⟩
    go_wp2_with fail
    refine (iCmp1 q.den _ hd1 (by omega)).mono ?_
    rintro e w4 ⟨rfl, X4⟩
    have X := (((((Ext.refl w).drewN n)).trans X2).trans X3).trans X4
    go_wp2_with fail
    refine (iGcd q.num q.den _ (g.ext X) (by omega) (by omega)).mono ?_
    rintro e w5 ⟨rfl, X5⟩
    rw [HG.out, H1.out]
    go_wp2_with fail
    go_ret
    exact ⟨rfl, X.trans X5⟩
end Go.Proofs.YtbiffaciinppiaaGreatDoor
end

section
namespace Go.Proofs.YtbiffaciinppiaaGreatDoor
open Go.RowKit

/-- A number z / D with |z| at most N. -/
def Gr (N D : Nat) (q : Rat) : Prop := 0 < D ∧ ∃ z : Int, q * (D : Rat) = (z : Rat) ∧ z.natAbs ≤ N
theorem Gr.mono {N M D : Nat} {q : Rat} (h : Gr N D q) (hm : N ≤ M) : Gr M D q := ⟨h.1, h.2.choose, h.2.choose_spec.1, by have := h.2.choose_spec.2; omega⟩
theorem Gr.sub {N M D : Nat} {a b : Rat} (h : Gr N D a) (k : Gr M D b) : Gr (N + M) D (a - b) := by
  obtain ⟨h0, x, hx, hx2⟩ := h
  obtain ⟨_, y, hy, hy2⟩ := k
  refine ⟨h0, x - y, ?_, by omega⟩
  rw [Rat.intCast_sub, ← hx, ← hy]; grind
theorem Gr.add {N M D : Nat} {a b : Rat} (h : Gr N D a) (k : Gr M D b) : Gr (N + M) D (a + b) := by
  obtain ⟨h0, x, hx, hx2⟩ := h
  obtain ⟨_, y, hy, hy2⟩ := k
  refine ⟨h0, x + y, ?_, by omega⟩
  rw [Rat.intCast_add, ← hx, ← hy]; grind
theorem Gr.neg {N D : Nat} {a : Rat} (h : Gr N D a) : Gr N D (-a) := by
  obtain ⟨h0, x, hx, hx2⟩ := h
  refine ⟨h0, -x, ?_, by omega⟩
  rw [Rat.intCast_neg, ← hx]; grind
theorem Gr.mul {N M D E : Nat} {a b : Rat} (h : Gr N D a) (k : Gr M E b) : Gr (N * M) (D * E) (a * b) := by
  obtain ⟨h0, x, hx, hx2⟩ := h
  obtain ⟨k0, y, hy, hy2⟩ := k
  refine ⟨Nat.mul_pos h0 k0, x * y, ?_, by rw [Int.natAbs_mul]; exact Nat.mul_le_mul hx2 hy2⟩
  rw [Rat.intCast_mul, ← hx, ← hy, Rat.natCast_mul]; grind
theorem Gr.dg {N D k : Nat} {q : Rat} (h : Gr N D q) (hN : N < 10 ^ k) (hD : D < 10 ^ k) : Dg k q := by
  obtain ⟨h0, x, hx, hx2⟩ := h
  have hD0 : (D : Rat) ≠ 0 := by exact_mod_cast (by omega : D ≠ 0)
  have hq : q = mkRat x D := by
    rw [Rat.mkRat_eq_div]
    have : q = (x : Rat) / (D : Rat) := by rw [← hx]; grind
    exact this
  have h1 := mkRat_num x D (by omega)
  have h2 := mkRat_den x D (by omega)
  rw [← hq] at h1 h2
  refine ⟨?_, ?_⟩
  · rw [h1]
    have := Int.natAbs_ediv_le_natAbs x (x.natAbs.gcd D : Nat)
    omega
  · rw [h2]
    exact Nat.lt_of_le_of_lt (Nat.div_le_self _ _) hD

/-- Fine bounds for areas. -/
def Fine (N D : Nat) : Prop := 0 < D ∧ 8 * N * N < 10 ^ 9 ∧ D * D < 10 ^ 9
theorem Fine.n {N D : Nat} (h : Fine N D) : 2 * N < 10 ^ 9 ∧ D < 10 ^ 9 := by
  obtain ⟨h0, h1, h2⟩ := h
  constructor
  · rcases Nat.eq_zero_or_pos N with h | h
    · subst h; omega
    · have : N * 1 ≤ N * N := Nat.mul_le_mul_left _ h
      have e : 8 * N * N = 8 * (N * N) := Nat.mul_assoc _ _ _
      omega
  · have : D * 1 ≤ D * D := Nat.mul_le_mul_left _ h0
    omega
/-- The text of a place. -/
def ptV (p : Rat × Rat) : Value := .agg #[.string (tQ p.1), .string (tQ p.2)]
theorem fld_x (a b : ByteArray) (w : World) : (Instr.field 91 (.agg #[.string a, .string b]) 0).run Tryz.prog w = .ok (.string a) w := by kernel_rfl
theorem fld_y (a b : ByteArray) (w : World) : (Instr.field 91 (.agg #[.string a, .string b]) 1).run Tryz.prog w = .ok (.string b) w := by kernel_rfl
def GP (N D : Nat) (p : Rat × Rat) : Prop := Gr N D p.1 ∧ Gr N D p.2
def arQ (a b c : Rat × Rat) : Rat := (b.1 - a.1) * (c.2 - a.2) - (b.2 - a.2) * (c.1 - a.1)
theorem arQ_gr {N D : Nat} {a b c : Rat × Rat} (ha : GP N D a) (hb : GP N D b) (hc : GP N D c) : Gr (8 * N * N) (D * D) (arQ a b c) := by
  refine Gr.mono (((hb.1.sub ha.1).mul (hc.2.sub ha.2)).sub ((hb.2.sub ha.2).mul (hc.1.sub ha.1))) ?_
  have e : 8 * N * N = 8 * (N * N) := Nat.mul_assoc _ _ _
  have e2 : (N + N) * (N + N) = 4 * (N * N) := by rw [← Nat.two_mul, Nat.mul_mul_mul_comm]
  omega

def PtsS (n : Nat) (w0 : World) (ax ay bx bY cx cy : Value) (w : World) : Prop :=
  w.cell? ⟨n, 0, none⟩ = some ax ∧ w.cell? ⟨n, 1, none⟩ = some ay ∧ w.cell? ⟨n+1, 0, none⟩ = some bx ∧ w.cell? ⟨n+1, 1, none⟩ = some bY ∧ w.cell? ⟨n+1+1, 0, none⟩ = some cx ∧ w.cell? ⟨n+1+1, 1, none⟩ = some cy ∧ Below n w0 w ∧ n + 2 < w.heap.size
theorem PtsS.step {n w0 ax ay bx bY cx cy w w'} (h : PtsS n w0 ax ay bx bY cx cy w) (hb : Ext w w') : PtsS n w0 ax ay bx bY cx cy w' := by
  obtain ⟨a0, a1, b0, b1, c0, c1, hB, hz⟩ := h
  have hs := hb.size
  exact ⟨hb.cell a0, hb.cell a1, hb.cell b0, hb.cell b1, hb.cell c0, hb.cell c1, hB.trans (Below.mono hb (by omega)), by omega⟩
theorem PtsS.bel {w0 ax ay bx bY cx cy w} (h : PtsS w0.heap.size w0 ax ay bx bY cx cy w) : Ext w0 w := h.2.2.2.2.2.2.1
theorem PtsS.drew {n w0 ax ay bx bY cx cy w} (h : PtsS n w0 ax ay bx bY cx cy w) : PtsS n w0 ax ay bx bY cx cy w.drew := by
  obtain ⟨a0, a1, b0, b1, c0, c1, hB, hz⟩ := h
  exact ⟨a0, a1, b0, b1, c0, c1, hB.drew, hz⟩
theorem PtsS.mk0 (w : World) (ax ay bx bY cx cy : Value) : PtsS w.heap.size w ax ay bx bY cx cy (((w.alloc (Obj.cells #[ax, ay] 91)).alloc (Obj.cells #[bx, bY] 91)).alloc (Obj.cells #[cx, cy] 91)).drew := by
  refine ⟨by simp [go_sem], by simp [go_sem], by simp [go_sem], by simp [go_sem], by simp [go_sem], by simp [go_sem], ?_, by simp⟩
  exact ((((Below.refl _ _).alloc (Nat.le_refl _) _).alloc (by simp) _).alloc (by simp; omega) _).drew

set_option maxHeartbeats 1000000 in
set_option maxRecDepth 100000 in
theorem area_calls (N D : Nat) (hF : Fine N D) (a b c : Rat × Rat) (w : World) (g : Glob w) (ha : GP N D a) (hb : GP N D b) (hc : GP N D c) :
  Calls Tryz.prog 177 #[ptV a, ptV b, ptV c] w (Ret (.string (tQ (arQ a b c))) w) := by
  obtain ⟨f1, f2⟩ := hF.n
  have fN : N < 10 ^ 9 := by omega
  have f2N : N + N < 10 ^ 9 := by omega
  have f4 : (N + N) * (N + N) < 10 ^ 9 := by
    have e : 8 * N * N = 8 * (N * N) := Nat.mul_assoc _ _ _
    have e2 : (N + N) * (N + N) = 4 * (N * N) := by rw [← Nat.two_mul, Nat.mul_mul_mul_comm]
    have := hF.2.1
    omega
  have fD := hF.2.2
  have d1 : Dg 9 (b.1 - a.1) := (hb.1.sub ha.1).dg f2N f2
  have d2 : Dg 9 (c.2 - a.2) := (hc.2.sub ha.2).dg f2N f2
  have d3 : Dg 9 (b.2 - a.2) := (hb.2.sub ha.2).dg f2N f2
  have d4 : Dg 9 (c.1 - a.1) := (hc.1.sub ha.1).dg f2N f2
  have d5 : Dg 9 ((b.1 - a.1) * (c.2 - a.2)) := ((hb.1.sub ha.1).mul (hc.2.sub ha.2)).dg f4 fD
  have d6 : Dg 9 ((b.2 - a.2) * (c.1 - a.1)) := ((hb.2.sub ha.2).mul (hc.1.sub ha.1)).dg f4 fD
  have e1 : Dg 9 a.1 := ha.1.dg fN f2
  have e2 : Dg 9 a.2 := ha.2.dg fN f2
  have e3 : Dg 9 b.1 := hb.1.dg fN f2
  have e4 : Dg 9 b.2 := hb.2.dg fN f2
  have e5 : Dg 9 c.1 := hc.1.dg fN f2
  have e6 : Dg 9 c.2 := hc.2.dg fN f2
  have G := Lib.hid g
  clear ha hb hc hF f1 f2 fN f2N f4 fD g
  obtain ⟨ax, ay⟩ := a
  obtain ⟨bx, bY⟩ := b
  obtain ⟨cx, cy⟩ := c
  simp only [arQ, ptV] at *
  go_enter Tryz.func177, Tryz.ntmps177
  go_wp2_with fail
  have P0 := PtsS.mk0 w (.string (tQ ax)) (.string (tQ ay)) (.string (tQ bx)) (.string (tQ bY)) (.string (tQ cx)) (.string (tQ cy))
  go_region_held3 (fun w' => w'.cell? ⟨w.heap.size, 0, none⟩ = some (.string (tQ ax)) ∧ w'.cell? ⟨w.heap.size, 1, none⟩ = some (.string (tQ ay)) ∧ w'.cell? ⟨w.heap.size+1, 0, none⟩ = some (.string (tQ bx)) ∧ w'.cell? ⟨w.heap.size+1, 1, none⟩ = some (.string (tQ bY)) ∧ w'.cell? ⟨w.heap.size+1+1, 0, none⟩ = some (.string (tQ cx)) ∧ w'.cell? ⟨w.heap.size+1+1, 1, none⟩ = some (.string (tQ cy)) ∧ Below w.heap.size w w' ∧ w.heap.size + 2 < w'.heap.size)
    (first | exact P0 | exact PtsS.step (by assumption) hb | exact PtsS.drew (by assumption))
    (first | (go_at_call 146; refine (rSub _ _ _ (G.out.ext (PtsS.bel (by assumption))) (by assumption) (by assumption)).mono ?_; rintro e w' ⟨rfl, hb⟩) | (go_at_call 115; refine (rMul _ _ _ (G.out.ext (PtsS.bel (by assumption))) (by assumption) (by assumption)).mono ?_; rintro e w' ⟨rfl, hb⟩))
  go_wp2_with fail
  go_region_held3 (fun w' => w'.cell? ⟨w.heap.size, 0, none⟩ = some (.string (tQ ax)) ∧ w'.cell? ⟨w.heap.size, 1, none⟩ = some (.string (tQ ay)) ∧ w'.cell? ⟨w.heap.size+1, 0, none⟩ = some (.string (tQ bx)) ∧ w'.cell? ⟨w.heap.size+1, 1, none⟩ = some (.string (tQ bY)) ∧ w'.cell? ⟨w.heap.size+1+1, 0, none⟩ = some (.string (tQ cx)) ∧ w'.cell? ⟨w.heap.size+1+1, 1, none⟩ = some (.string (tQ cy)) ∧ Below w.heap.size w w' ∧ w.heap.size + 2 < w'.heap.size)
    (first | exact P0 | exact PtsS.step (by assumption) hb | exact PtsS.drew (by assumption))
    (first | (go_at_call 146; refine (rSub _ _ _ (G.out.ext (PtsS.bel (by assumption))) (by assumption) (by assumption)).mono ?_; rintro e w' ⟨rfl, hb⟩) | (go_at_call 115; refine (rMul _ _ _ (G.out.ext (PtsS.bel (by assumption))) (by assumption) (by assumption)).mono ?_; rintro e w' ⟨rfl, hb⟩))
  go_wp2_with fail
  go_ret
  exact ⟨rfl, (show PtsS _ _ _ _ _ _ _ _ _ by assumption).2.2.2.2.2.2.1⟩

theorem turn_calls (N D : Nat) (hF : Fine N D) (a b c : Rat × Rat) (w : World) (g : Glob w) (ha : GP N D a) (hb : GP N D b) (hc : GP N D c) :
  Calls Tryz.prog 127 #[ptV a, ptV b, ptV c] w (Ret (.int .i64 (sgnQ (arQ a b c))) w) := by
  have HA := Lib.hid (fun W (X : Ext w W) => area_calls N D hF a b c W (g.ext X) ha hb hc)
  clear ha hb hc hF g
  obtain ⟨ax, ay⟩ := a
  obtain ⟨bx, bY⟩ := b
  obtain ⟨cx, cy⟩ := c
  simp only [ptV] at *
  generalize arQ (ax, ay) (bx, bY) (cx, cy) = q at *
  go_enter Tryz.func127, Tryz.ntmps127
  go_wp2_with fail
  have X := (((Ext.refl w).alloc (Obj.cells #[.string (tQ ax), .string (tQ ay)] 91)).alloc (Obj.cells #[.string (tQ bx), .string (tQ bY)] 91)).alloc (Obj.cells #[.string (tQ cx), .string (tQ cy)] 91)
  refine (HA.out _ X).mono ?_
  rintro e w1 ⟨rfl, hb⟩
  go_wp2_with fail
  refine (rSign _ _).mono ?_
  rintro e w2 ⟨rfl, hb2⟩
  go_wp2_with fail
  go_ret
  exact ⟨rfl, (X.trans hb).trans hb2⟩
end Go.Proofs.YtbiffaciinppiaaGreatDoor
end

section
namespace Go.Proofs.YtbiffaciinppiaaGreatDoor
open Go.RowKit

set_option maxRecDepth 100000 in
theorem numbers_ok (b c : Nat) (l : List Rat) (w : World) (g : Glob w) (hl : l.length ≤ 1000) (hc : ∀ i (h : i < l.length), w.cell? ⟨b, i, none⟩ = some (.string (tQ l[i]))) (hd : ∀ q ∈ l, Dg 9 q) :
    Calls Tryz.prog 145 #[.slice (some ⟨b, 0, none⟩) l.length c] w (Ret (.int .i64 0) w) := by
  have HC := Lib.hid hc
  have HD := Lib.hid hd
  clear hc hd
  go_enter Tryz.func145, Tryz.ntmps145
  go_wp2_with fail
  go_loopw [8] (fun p wr => ∃ k : Nat, k ≤ l.length ∧ p = .int .i64 k ∧ Ext w wr) (fun p _ => l.length - (intOf p).toNat)
  case atStart => exact ⟨0, by omega, rfl, Ext.refl _⟩
  case round =>
    obtain ⟨k, hk, rfl, hx⟩ := hrel
    by_cases hlt : k < l.length
    · have hck := hx.cell (HC.out k hlt)
      have hdk := HD.out l[k] (List.getElem_mem _)
      generalize l[k] = q at *
      have HK := Lib.hid (rCheck q wr (g.ext hx) hdk)
      clear hdk
      go_wp2_with fail
      refine HK.out.mono ?_
      rintro e w2 ⟨rfl, X2⟩
      go_wp2_with fail
      exact ⟨⟨k + 1, hlt, by go_num, Ext.trans hx X2⟩, by simp only [intOf]; omega⟩
    · have : k = l.length := by omega
      subst this
      go_wp2_with fail
      go_ret
      exact ⟨rfl, hx⟩

theorem checkPoint_ok (p : Rat × Rat) (w : World) (g : Glob w) (h1 : Dg 9 p.1) (h2 : Dg 9 p.2) : Calls Tryz.prog 92 #[ptV p] w (Ret (.int .i64 0) w) := by
  obtain ⟨x, y⟩ := p
  simp only at h1 h2
  simp only [ptV]
  have HN := Lib.hid (fun b c W (X : Ext w W) (hc : ∀ i (h : i < [x, y].length), W.cell? ⟨b, i, none⟩ = some (.string (tQ [x, y][i]))) => numbers_ok b c [x, y] W (g.ext X) (by simp) hc (by intro q hq; simp only [List.mem_cons, List.not_mem_nil, or_false] at hq; rcases hq with rfl | rfl <;> assumption))
  clear h1 h2
  go_enter Tryz.func92, Tryz.ntmps92
  go_wp2_with fail
  have X := ((Ext.refl w).alloc (.cells #[.string (tQ x), .string (tQ y)] 91)).alloc (.cells #[.string (tQ x), .string (tQ y)] 54)
  refine (HN.out (w.heap.size + 1) 2 _ X (fun i hi => ?_)).mono ?_
  · simp only [List.length_cons, List.length_nil] at hi
    rcases (show i = 0 ∨ i = 1 by omega) with rfl | rfl <;> simp [go_sem]
  rintro e w2 ⟨rfl, X2⟩
  go_wp2_with fail
  go_ret
  exact ⟨rfl, X.trans X2⟩

/-- The text of a vector. -/
def vcV (p : Rat × Rat × Rat) : Value := .agg #[.string (tQ p.1), .string (tQ p.2.1), .string (tQ p.2.2)]
theorem checkVec_ok (p : Rat × Rat × Rat) (w : World) (g : Glob w) (h1 : Dg 9 p.1) (h2 : Dg 9 p.2.1) (h3 : Dg 9 p.2.2) : Calls Tryz.prog 185 #[vcV p] w (Ret (.int .i64 0) w) := by
  obtain ⟨x, y, z⟩ := p
  simp only at h1 h2 h3
  simp only [vcV]
  have HN := Lib.hid (fun b c W (X : Ext w W) (hc : ∀ i (h : i < [x, y, z].length), W.cell? ⟨b, i, none⟩ = some (.string (tQ [x, y, z][i]))) => numbers_ok b c [x, y, z] W (g.ext X) (by simp) hc (by intro q hq; simp only [List.mem_cons, List.not_mem_nil, or_false] at hq; rcases hq with rfl | rfl | rfl <;> assumption))
  clear h1 h2 h3
  go_enter Tryz.func185, Tryz.ntmps185
  go_wp2_with fail
  have X := ((Ext.refl w).alloc (.cells #[.string (tQ x), .string (tQ y), .string (tQ z)] 93)).alloc (.cells #[.string (tQ x), .string (tQ y), .string (tQ z)] 54)
  refine (HN.out (w.heap.size + 1) 3 _ X (fun i hi => ?_)).mono ?_
  · simp only [List.length_cons, List.length_nil] at hi
    rcases (show i = 0 ∨ i = 1 ∨ i = 2 by omega) with rfl | rfl | rfl <;> simp [go_sem]
  rintro e w2 ⟨rfl, X2⟩
  go_wp2_with fail
  go_ret
  exact ⟨rfl, X.trans X2⟩
end Go.Proofs.YtbiffaciinppiaaGreatDoor
end

section
namespace Go.Proofs.YtbiffaciinppiaaGreatDoor
open Go.RowKit

def letterB (c : Int) : Bool := (decide (97 ≤ c) && decide (c ≤ 122)) || (decide (65 ≤ c) && decide (c ≤ 90))
def digitB (c : Int) : Bool := (decide (48 ≤ c) && decide (c ≤ 57)) || (c == 95)
/-- A right name. -/
structure NameOk (s : ByteArray) : Prop where
  ne : 0 < s.size
  le : s.size ≤ 32
  ok : ∀ i (h : i < s.size), letterB (s[i].toNat : Int) = true ∨ (0 < i ∧ digitB (s[i].toNat : Int) = true)

theorem name_byte {s : ByteArray} (hs : NameOk s) (j : Nat) (hj : j < s.size) : ∃ C : Int, ((s.data.toList.getD j 0).toNat : Int) = C ∧ ((97 ≤ C ∧ C ≤ 122) ∨ (65 ≤ C ∧ C ≤ 90) ∨ (0 < j ∧ 48 ≤ C ∧ C ≤ 57) ∨ (0 < j ∧ C = 95)) := by
  have h := hs.ok j hj
  have e : s[j] = s.data.toList.getD j 0 := by
    rw [getElem_data, List.getD_eq_getElem?_getD, List.getElem?_eq_getElem, Option.getD_some]
  rw [e] at h
  refine ⟨_, rfl, ?_⟩
  simp only [letterB, digitB, Bool.or_eq_true, Bool.and_eq_true, decide_eq_true_eq, beq_iff_eq] at h
  omega

set_option maxRecDepth 100000 in
set_option maxHeartbeats 1000000 in
theorem isName_ok (s : ByteArray) (w : World) (hs : NameOk s) : Calls Tryz.prog 131 #[.string s] w (Ret (.bool true) w) := by
  have HS := Lib.hid (fun j hj => name_byte hs j hj)
  have h1 := hs.ne
  have h2 := hs.le
  have h3 : (s.toList == []) = false := by
    rw [Lib.toList_data]
    refine beq_false_of_ne (fun e => ?_)
    have e2 : s.data.toList.length = 0 := by rw [e]; rfl
    have e3 : s.size = s.data.toList.length := by rw [Array.length_toList]; rfl
    omega
  have h4 : decide ((s.size : Int) > 32) = false := decide_eq_false (by omega)
  have hcv := Lib.run_convert_string_bytes (P := Tryz.prog) w 9 53 5 s Tryz.underlying9 Tryz.underlying53 Tryz.underlying5
  have HB := Lib.hid (Lib.bytesWorld_cell w 5 s)
  have X := (Ext.refl w).bytes 5 s
  clear hs
  go_enter Tryz.func131, Tryz.ntmps131
  go_wp2_with fail
  clear hcv
  go_loopw [17] (fun p wr => ∃ k : Nat, k ≤ s.size ∧ p = .int .i64 k ∧ wr = Lib.bytesWorld w 5 s) (fun p _ => s.size - (intOf p).toNat)
  case atStart => exact ⟨0, by omega, rfl, rfl⟩
  case round =>
    obtain ⟨k, hk, rfl, rfl⟩ := hrel
    by_cases hlt : k < s.size
    · obtain ⟨C, hC, hcase⟩ := HS.out k hlt
      have hb := HB.out k hlt
      rw [hC] at hb
      have k1 : (k : Int) < s.size := by omega
      clear hC
      rcases hcase with ⟨c1, c2⟩ | ⟨c1, c2⟩ | ⟨c0, c1, c2⟩ | ⟨c0, rfl⟩
      · have d1 : decide ((97 : Int) ≤ C) = true := decide_eq_true c1
        have d2 : decide (C ≤ 122) = true := decide_eq_true c2
        have d3 : decide ((48 : Int) ≤ C) = true := decide_eq_true (by omega)
        have d4 : decide (C ≤ 57) = false := decide_eq_false (by omega)
        have d5 : (C == 95) = false := beq_false_of_ne (by omega)
        clear c1 c2
        go_wp2_with fail
        exact ⟨⟨k + 1, hlt, by go_num, trivial⟩, by simp only [intOf]; omega⟩
      · have d1 : decide ((97 : Int) ≤ C) = false := decide_eq_false (by omega)
        have d2 : decide ((65 : Int) ≤ C) = true := decide_eq_true c1
        have d6 : decide (C ≤ 90) = true := decide_eq_true c2
        have d3 : decide ((48 : Int) ≤ C) = true := decide_eq_true (by omega)
        have d4 : decide (C ≤ 57) = false := decide_eq_false (by omega)
        have d5 : (C == 95) = false := beq_false_of_ne (by omega)
        clear c1 c2
        go_wp2_with fail
        exact ⟨⟨k + 1, hlt, by go_num, trivial⟩, by simp only [intOf]; omega⟩
      · have d1 : decide ((97 : Int) ≤ C) = false := decide_eq_false (by omega)
        have d2 : decide ((65 : Int) ≤ C) = false := decide_eq_false (by omega)
        have d3 : decide ((48 : Int) ≤ C) = true := decide_eq_true (by omega)
        have d4 : decide (C ≤ 57) = true := decide_eq_true (by omega)
        have d7 : ((k : Int) == 0) = false := beq_false_of_ne (by omega)
        clear c1 c2 c0
        go_wp2_with fail
        exact ⟨⟨k + 1, hlt, by go_num, trivial⟩, by simp only [intOf]; omega⟩
      · have d7 : ((k : Int) == 0) = false := beq_false_of_ne (by omega)
        clear c0
        go_wp2_with fail
        exact ⟨⟨k + 1, hlt, by go_num, trivial⟩, by simp only [intOf]; omega⟩
    · have : k = s.size := by omega
      subst this
      go_wp2_with fail
      go_ret
      exact ⟨rfl, X⟩
end Go.Proofs.YtbiffaciinppiaaGreatDoor
end
