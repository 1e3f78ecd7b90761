/- Contracts of package integer for texts of integers: sign, opposite, magnitude, text of an int. Contract of rational.small: the fraction of two ints in lowest terms, as a text. Plain lemmas: the digits of a text, read one by one; no program. Contract of rational.quick: numerator and denominator of a short canonical number, as ints. Contracts of rational.Add, Sub and Mul for numbers of at most nine digits. Contract of rational.Compare for numbers of at most nine digits. -/
import Derived.Test.YtbiffaciinppiaaGreatDoorVa01
import Derived.Test.YtbiffaciinppiaaGreatDoorVa02
import Derived.LoopTactic
import Derived.Deep.LoopGhost
import Derived.Deep.QuietTactic
import Derived.BigQuiet
import Derived.RegionTactic
set_option linter.unusedVariables false
set_option linter.unusedSimpArgs false
section
namespace Go.Proofs.YtbiffaciinppiaaGreatDoor
open Go.RowKit

theorem hasPre (n : Int) : Lib.hasPrefix (tI n).data.toList [45] = decide (n < 0) := by
  obtain ⟨b, r, e, p1, p2, _⟩ := itoa_head n
  rw [tI_data, e]
  by_cases h : n < 0
  · rw [p1 h, decide_eq_true h]; rfl
  · rw [decide_eq_false h]
    have := p2 (by omega)
    unfold Lib.hasPrefix
    simp only [List.isPrefixOf, Bool.and_true]
    simp only [beq_eq_false_iff_ne]
    intro hb; rw [← hb] at this; revert this; decide
theorem trimPre (n : Int) : (⟨(Lib.trimPrefix (tI n).data.toList [45]).toArray⟩ : ByteArray) = tI n.natAbs := by
  apply ba_ext
  unfold Lib.trimPrefix
  rw [hasPre, tI_data, tI_data]
  by_cases h : n < 0
  · rw [decide_eq_true h, itoa_ng h, itoa_pos (by omega)]; simp
  · rw [decide_eq_false h, itoa_pos (by omega), itoa_pos (by omega)]
    simp; congr 1; omega
theorem tI_is0 (n : Int) : ((tI n).toList == [48]) = decide (n = 0) := by
  rw [tI_toList, Bool.eq_iff_iff, beq_iff_eq, decide_eq_true_iff]
  exact ⟨fun h => itoa_inj (by rw [h, itoa_zero]), fun h => by rw [h, itoa_zero]⟩
theorem tI_is1 (n : Int) : ((tI n).toList == [49]) = decide (n = 1) := by
  rw [tI_toList, Bool.eq_iff_iff, beq_iff_eq, decide_eq_true_iff]
  exact ⟨fun h => itoa_inj (by rw [h, itoa_1]), fun h => by rw [h, itoa_1]⟩

theorem iSign (n : Int) (w : World) : Calls Tryz.prog 152 #[.string (tI n)] w (Ret (.int .i64 (sgnI n)) w) := by
  have h0 := tI_is0 n
  have hp := hasPre n
  by_cases e0 : n = 0
  · have Hr := Lib.hid (show sgnI n = 0 by rw [e0]; rfl)
    rw [decide_eq_true e0] at h0
    clear hp e0
    go_enter Tryz.func152, Tryz.ntmps152
    go_wp2_with fail
    go_ret
    exact ⟨by rw [Hr.out]; rfl, Ext.refl _⟩
  · rw [decide_eq_false e0] at h0
    by_cases e1 : n < 0
    · have Hr := Lib.hid (show sgnI n = -1 by unfold sgnI; rw [if_neg e0, if_pos e1])
      rw [decide_eq_true e1] at hp
      clear e0 e1
      go_enter Tryz.func152, Tryz.ntmps152
      go_wp2_with (go_at_call 193; refine (Tryz.strings_HasPrefix _ _ _).mono ?_; rintro e w' ⟨rfl, rfl⟩)
      go_ret
      exact ⟨by rw [Hr.out]; rfl, Ext.refl _⟩
    · have Hr := Lib.hid (show sgnI n = 1 by unfold sgnI; rw [if_neg e0, if_neg e1])
      rw [decide_eq_false e1] at hp
      clear e0 e1
      go_enter Tryz.func152, Tryz.ntmps152
      go_wp2_with (go_at_call 193; refine (Tryz.strings_HasPrefix _ _ _).mono ?_; rintro e w' ⟨rfl, rfl⟩)
      go_ret
      exact ⟨by rw [Hr.out]; rfl, Ext.refl _⟩

theorem iNeg (n : Int) (w : World) (hl : (tI n).size ≤ 1000000000000) : Calls Tryz.prog 142 #[.string (tI n)] w (Ret (.string (tI (-n))) w) := by
  have hz : 0 < (tI n).size := by rw [tI_size]; exact List.length_pos_iff.2 (itoa_ne_nil n)
  by_cases e0 : n = 0
  · have Hr := Lib.hid (show tI (-n) = tI n by rw [e0]; rfl)
    have hs : sgnI n = 0 := by rw [e0]; rfl
    clear e0
    go_enter Tryz.func142, Tryz.ntmps142
    go_wp2_with (go_at_call 152; refine (iSign _ _).mono ?_; rintro e w' ⟨rfl, hb⟩)
    go_ret
    exact ⟨by rw [Hr.out]; rfl, by assumption⟩
  · by_cases e1 : n < 0
    · have Hr := Lib.hid (tI_neg_neg e1)
      have hs : sgnI n = -1 := by unfold sgnI; rw [if_neg e0, if_pos e1]
      clear e0 e1
      go_enter Tryz.func142, Tryz.ntmps142
      go_wp2_with (go_at_call 152; refine (iSign _ _).mono ?_; rintro e w' ⟨rfl, hb⟩)
      go_ret
      exact ⟨by rw [← Hr.out]; rfl, by assumption⟩
    · have Hr := Lib.hid (tI_neg_pos (n := n) (by omega))
      have hs : sgnI n = 1 := by unfold sgnI; rw [if_neg e0, if_neg e1]
      clear e0 e1
      go_enter Tryz.func142, Tryz.ntmps142
      go_wp2_with (go_at_call 152; refine (iSign _ _).mono ?_; rintro e w' ⟨rfl, hb⟩)
      go_ret
      exact ⟨by rw [← Hr.out]; rfl, by assumption⟩

theorem iItoa (n : Int) (w : World) (g : Glob w) (h0 : -9223372036854775808 ≤ n) (h1 : n ≤ 9223372036854775807) : Calls Tryz.prog 165 #[.int .i64 n] w (Ret (.string (tI n)) w) := by
  refine (Tryz.strconv_Itoa n h0 h1 w g.tab).mono ?_
  rintro e w' ⟨rfl, k, os, rfl⟩
  exact ⟨rfl, ((Ext.refl _).drewN _).grow _⟩

theorem iOf (n : Int) (w : World) (g : Glob w) (h0 : -9223372036854775808 ≤ n) (h1 : n ≤ 9223372036854775807) : Calls Tryz.prog 137 #[.int .i64 n] w (Ret (.string (tI n)) w) := by
  have B : Hid (_ ∧ _) := ⟨h0, h1⟩
  clear h0 h1
  go_enter Tryz.func137, Tryz.ntmps137
  go_wp2_with (go_at_call 165; refine (iItoa n _ g B.out.1 B.out.2).mono ?_; rintro e w' ⟨rfl, hb⟩)
  go_ret
  exact ⟨rfl, by assumption⟩

theorem rWhole (n : Int) (w : World) (g : Glob w) (h0 : -9223372036854775808 ≤ n) (h1 : n ≤ 9223372036854775807) : Calls Tryz.prog 82 #[.int .i64 n] w (Ret (.string (tQ n)) w) := by
  have C := Lib.hid (tQ_ofInt n)
  have B : Hid (_ ∧ _) := ⟨h0, h1⟩
  clear h0 h1
  go_enter Tryz.func82, Tryz.ntmps82
  go_wp2_with (go_at_call 137; refine (iOf n _ g B.out.1 B.out.2).mono ?_; rintro e w' ⟨rfl, hb⟩)
  go_ret
  exact ⟨by rw [C.out]; rfl, by assumption⟩

end Go.Proofs.YtbiffaciinppiaaGreatDoor
end

section
namespace Go.Proofs.YtbiffaciinppiaaGreatDoor
open Go.RowKit

theorem tmod_abs (x y : Int) : (x.tmod y).natAbs = x.natAbs % y.natAbs := Int.natAbs_tmod x y
theorem tmod_lt (x y : Int) (h : y ≠ 0) : (x.tmod y).natAbs < y.natAbs := by
  rw [tmod_abs]; exact Nat.mod_lt _ (by omega)
theorem tmod_lo (x y : Int) (h : y ≠ 0) (h0 : -9223372036854775808 < y) (h1 : y ≤ 9223372036854775807) : -9223372036854775808 < x.tmod y := by
  have := tmod_lt x y h; omega
theorem tmod_hi (x y : Int) (h : y ≠ 0) (h0 : -9223372036854775808 < y) (h1 : y ≤ 9223372036854775807) : x.tmod y ≤ 9223372036854775807 := by
  have := tmod_lt x y h; omega
theorem tmod_gcd (x y : Int) {k : Nat} (h : Nat.gcd x.natAbs y.natAbs = k) : Nat.gcd y.natAbs (x.tmod y).natAbs = k := by
  rw [tmod_abs, ← h, Nat.gcd_comm x.natAbs, Nat.gcd_comm y.natAbs, Nat.gcd_rec y.natAbs]

/-- What small divides by, and what comes of it. -/
theorem small_nums (n : Int) (d : Nat) (hd : 1 ≤ d) {G : Nat} (hG : n.natAbs.gcd d = G) : n.tdiv (G : Int) = (mkRat n d).num ∧ (d : Int) / (G : Int) = ((mkRat n d).den : Int) ∧ (mkRat n d).num.natAbs ≤ n.natAbs ∧ (mkRat n d).den ≤ d := by
  rw [mkRat_num n d (by omega), mkRat_den n d (by omega), hG]
  have hdvd : (G : Int) ∣ n := by
    rw [← hG]; exact Int.ofNat_dvd_left.2 (Nat.gcd_dvd_left _ _)
  refine ⟨Int.tdiv_eq_ediv_of_dvd hdvd, by simp, ?_, Nat.div_le_self _ _⟩
  rw [Int.natAbs_ediv_of_dvd hdvd]
  simpa using Nat.div_le_self _ _

theorem tQ_frac {q : Rat} (h : q.den ≠ 1) : tI q.num ++ (⟨#[47]⟩ : ByteArray) ++ tI (q.den : Int) = tQ q := by
  apply ba_ext
  rw [tQ_data, qL_frac h, ByteArray.data_append, ByteArray.data_append]
  simp [tI, Lib.itoa]

theorem tI_bound {n : Int} (h0 : -9223372036854775808 ≤ n) (h1 : n ≤ 9223372036854775807) : (tI n).size ≤ 20 := by
  rw [tI_size, itoa_len]
  have := (nDigits_le n.natAbs 19 (by omega)).2 (by omega)
  split <;> omega

set_option maxHeartbeats 1000000 in
theorem rSmall (n : Int) (d : Nat) (w : World) (g : Glob w) (hn0 : -9223372036854775808 < n) (hn1 : n ≤ 9223372036854775807) (hd0 : 1 ≤ d) (hd1 : d ≤ 9223372036854775807) :
    Calls Tryz.prog 167 #[.int .i64 n, .int .i64 d] w (Ret (.string (tQ (mkRat n d))) w) := by
  go_enter Tryz.func167, Tryz.ntmps167
  go_wp2_with fail
  go_loopw [5, 6] (fun a b w' => ∃ x y : Int, a = .int .i64 x ∧ b = .int .i64 y ∧ -9223372036854775808 < x ∧ x ≤ 9223372036854775807 ∧ -9223372036854775808 < y ∧ y ≤ 9223372036854775807 ∧ Hid (Nat.gcd x.natAbs y.natAbs = Nat.gcd n.natAbs d) ∧ Ext w w') (fun _ b _ => (intOf b).natAbs)
  case atStart => exact ⟨n, d, rfl, rfl, hn0, hn1, by omega, by omega, Lib.hid (by simp), Ext.refl _⟩
  case round =>
    obtain ⟨x, y, rfl, rfl, hx0, hx1, hy0, hy1, hg, hb⟩ := hrel
    by_cases hy : y = 0
    · have hyb : (y != 0) = false := by simp [hy]
      have hgx : n.natAbs.gcd d = x.natAbs := by have := hg.out; rw [hy] at this; simpa using this.symm
      have hG1 : 1 ≤ x.natAbs := by rw [← hgx]; exact Nat.gcd_pos_of_pos_right _ hd0
      obtain ⟨G, hG⟩ : ∃ G : Nat, x.natAbs = G := ⟨_, rfl⟩
      rw [hG] at hgx hG1
      obtain ⟨q1, q2, q3, q4⟩ := small_nums n d hd0 hgx
      have hfr := Lib.hid (@tQ_frac (mkRat n d))
      have hin := Lib.hid (@tQ_int (mkRat n d))
      have hdp : 1 ≤ (mkRat n d).den := (mkRat n d).den_pos
      generalize hq : mkRat n d = q at q1 q2 q3 q4 hfr hin hdp
      have hg1 : ((G : Int) == 0) = false := by simp; omega
      have hb1 : -9223372036854775808 ≤ q.num := by omega
      have hb2 : q.num ≤ 9223372036854775807 := by omega
      have hb3 : (q.den : Int) ≤ 9223372036854775807 := by omega
      have hb4 : -9223372036854775808 ≤ (q.den : Int) := by omega
      have hs1 := tI_bound hb1 hb2
      have hs2 := tI_bound hb4 hb3
      have Hq := Lib.hid hq
      have Hgx := Lib.hid hgx
      clear hgx hq hg
      obtain ⟨N, hN⟩ : ∃ N, N = q.num := ⟨_, rfl⟩
      obtain ⟨D, hD⟩ : ∃ D, D = q.den := ⟨_, rfl⟩
      rw [← hN] at q1 q3 hfr hin hb1 hb2 hs1
      rw [← hD] at q2 q4 hfr hin hb3 hb4 hs2 hdp
      have gg := g.ext hb
      rcases (show x = -(G : Int) ∨ x = (G : Int) by omega) with rfl | rfl
      all_goals clear hG hy q3 hN hD
      · have hlt : decide (-(G : Int) < 0) = true := by simp; omega
        go_wp2_with fail
        go_quiet (fail)
        by_cases h1 : D = 1
        · have hdb : ((D : Int) == 1) = true := by simp [h1]
          have Hin := Lib.hid (hin.out h1)
          clear h1
          go_wp2_with fail
          refine (iItoa _ _ (gg.drewN _) hb1 hb2).mono ?_
          rintro e w' ⟨rfl, hb'⟩
          go_wp2_with fail
          go_ret
          exact ⟨by rw [Hq.out, Hin.out]; rfl, (hb.drewN _).trans hb'⟩
        · have hdb : ((D : Int) == 1) = false := by simp; omega
          have Hin := Lib.hid (hfr.out h1)
          clear h1
          go_wp2_with fail
          refine (iItoa _ _ (gg.drewN _) hb1 hb2).mono ?_
          rintro e w1 ⟨rfl, hb1'⟩
          have gg1 := (gg.drewN nq).ext hb1'
          go_wp2_with fail
          refine (iItoa _ _ gg1 hb4 hb3).mono ?_
          rintro e w2 ⟨rfl, hb2'⟩
          go_wp2_with fail
          go_ret
          exact ⟨by rw [Hq.out, ← Hin.out]; rfl, ((hb.drewN _).trans hb1').trans hb2'⟩
      · have hlt : decide ((G : Int) < 0) = false := by simp
        go_wp2_with fail
        go_quiet (fail)
        by_cases h1 : D = 1
        · have hdb : ((D : Int) == 1) = true := by simp [h1]
          have Hin := Lib.hid (hin.out h1)
          clear h1
          go_wp2_with fail
          refine (iItoa _ _ (gg.drewN _) hb1 hb2).mono ?_
          rintro e w' ⟨rfl, hb'⟩
          go_wp2_with fail
          go_ret
          exact ⟨by rw [Hq.out, Hin.out]; rfl, (hb.drewN _).trans hb'⟩
        · have hdb : ((D : Int) == 1) = false := by simp; omega
          have Hin := Lib.hid (hfr.out h1)
          clear h1
          go_wp2_with fail
          refine (iItoa _ _ (gg.drewN _) hb1 hb2).mono ?_
          rintro e w1 ⟨rfl, hb1'⟩
          have gg1 := (gg.drewN nq).ext hb1'
          go_wp2_with fail
          refine (iItoa _ _ gg1 hb4 hb3).mono ?_
          rintro e w2 ⟨rfl, hb2'⟩
          go_wp2_with fail
          go_ret
          exact ⟨by rw [Hq.out, ← Hin.out]; rfl, ((hb.drewN _).trans hb1').trans hb2'⟩
    · have hyb : (y != 0) = true := by simp [hy]
      have hyb2 : (y == 0) = false := by simp [hy]
      have hm1 := tmod_lo x y hy hy0 hy1
      have hm2 := tmod_hi x y hy hy0 hy1
      have hgm := Lib.hid (tmod_gcd x y hg.out)
      have hlt := tmod_lt x y hy
      have Hy := Lib.hid hy
      clear hy
      go_wp2_with fail
      go_quiet (fail)
      go_wp2_with fail
      exact ⟨⟨_, _, rfl, rfl, hy0, hy1, hm1, hm2, hgm, hb.drewN _⟩, by simpa [intOf] using hlt⟩
end Go.Proofs.YtbiffaciinppiaaGreatDoor
end

section
namespace Go.Proofs.YtbiffaciinppiaaGreatDoor
open Go.Lib

/-- What a row of digits spells. -/
def pv (l : List UInt8) : Nat := l.foldl (fun a b => a * 10 + (b.toNat - 48)) 0
theorem pv_nil : pv [] = 0 := rfl
theorem pv_snoc (l : List UInt8) (b : UInt8) : pv (l ++ [b]) = pv l * 10 + (b.toNat - 48) := by simp [pv]
theorem pv_take (l : List UInt8) (k : Nat) (h : k < l.length) : pv (l.take (k + 1)) = pv (l.take k) * 10 + (l[k].toNat - 48) := by
  rw [List.take_succ_eq_append_getElem h, pv_snoc]
theorem pv_decDigits (u : Nat) : pv (decDigits u) = u := by
  induction u using Nat.strongRecOn with
  | _ u ih =>
    by_cases h : u < 10
    · rw [decDigits_one h]; simp [pv]; omega
    · rw [decDigits, dif_neg h, pv_snoc, ih (u / 10) (by omega)]
      have : (UInt8.ofNat (48 + u % 10)).toNat = 48 + u % 10 := by simp; omega
      rw [this]; omega
theorem pv_lt (l : List UInt8) (h : ∀ b ∈ l, 48 ≤ b.toNat ∧ b.toNat ≤ 57) : pv l < 10 ^ l.length := by
  have key : ∀ (l : List UInt8) (acc j : Nat), acc < 10 ^ j → (∀ b ∈ l, 48 ≤ b.toNat ∧ b.toNat ≤ 57) → l.foldl (fun a b => a * 10 + (b.toNat - 48)) acc < 10 ^ (j + l.length) := by
    intro l
    induction l with
    | nil => intro acc j ha _; simpa using ha
    | cons b l ih =>
      intro acc j ha hb
      have h2 := hb b (by simp)
      have := ih (acc * 10 + (b.toNat - 48)) (j + 1) (by rw [Nat.pow_succ]; omega) (fun c hc => hb c (by simp [hc]))
      rw [List.foldl_cons, List.length_cons, show j + (l.length + 1) = j + 1 + l.length by omega]
      exact this
  have := key l 0 0 (by simp) h
  simpa [pv] using this
theorem pv_take_lt (u k : Nat) (hk : k ≤ nDigits u) : pv ((decDigits u).take k) < 10 ^ k := by
  have := pv_lt ((decDigits u).take k) (fun b hb => decDigits_mem u b (List.mem_of_mem_take hb))
  rwa [List.length_take, decDigits_length, Nat.min_eq_left hk] at this

/-- The sign's length. -/
def sg (q : Rat) : Nat := if q.num < 0 then 1 else 0
theorem qL_parts (q : Rat) : qL q = (if q.num < 0 then [45] else []) ++ decDigits q.num.natAbs ++ (if q.den = 1 then [] else 47 :: decDigits q.den) := by
  unfold qL
  by_cases h : q.num < 0
  · rw [itoa_ng h, if_pos h]; simp
  · rw [itoa_pos (by omega), if_neg h, show q.num.toNat = q.num.natAbs by omega]; simp
theorem tQ_len (q : Rat) : (tQ q).size = sg q + nDigits q.num.natAbs + (if q.den = 1 then 0 else 1 + nDigits q.den) := by
  rw [tQ_size, qL_parts]
  unfold sg
  split <;> split <;> simp [decDigits_length] <;> omega
theorem getElem_tQ (q : Rat) (i : Nat) (h : i < (tQ q).size) : (tQ q)[i] = (qL q)[i]'(by rw [← tQ_size]; exact h) := by
  have e : (tQ q)[i] = (tQ q).data.toList[i]'(by simpa using h) := by simp [ByteArray.getElem_eq_getElem_data]
  rw [e]; simp only [tQ_data]
theorem tQ_digit (q : Rat) (k : Nat) (hk : k < nDigits q.num.natAbs) (h : sg q + k < (tQ q).size) : (tQ q)[sg q + k] = (decDigits q.num.natAbs)[k]'(by rw [decDigits_length]; exact hk) := by
  rw [getElem_tQ]
  have e := qL_parts q
  have : ∀ (l : List UInt8) (hl : sg q + k < l.length), l = (if q.num < 0 then [45] else []) ++ decDigits q.num.natAbs ++ (if q.den = 1 then [] else 47 :: decDigits q.den) → l[sg q + k] = (decDigits q.num.natAbs)[k]'(by rw [decDigits_length]; exact hk) := by
    intro l hl hh
    subst hh
    rw [List.getElem_append_left (by unfold sg; split <;> simp [decDigits_length] <;> omega)]
    unfold sg
    by_cases hn : q.num < 0
    · simp [hn, Nat.add_comm]
    · simp [hn]
  exact this _ _ e
theorem tQ_slash (q : Rat) (hd : q.den ≠ 1) (h : sg q + nDigits q.num.natAbs < (tQ q).size) : (tQ q)[sg q + nDigits q.num.natAbs] = 47 := by
  rw [getElem_tQ]
  have e := qL_parts q
  have : ∀ (l : List UInt8) (hl : sg q + nDigits q.num.natAbs < l.length), l = (if q.num < 0 then [45] else []) ++ decDigits q.num.natAbs ++ (if q.den = 1 then [] else 47 :: decDigits q.den) → l[sg q + nDigits q.num.natAbs] = 47 := by
    intro l hl hh
    subst hh
    rw [List.getElem_append_right (by unfold sg; split <;> simp [decDigits_length] <;> omega)]
    simp [hd]
    have : sg q + nDigits q.num.natAbs - ((if q.num < 0 then [(45 : UInt8)] else []).length + (decDigits q.num.natAbs).length) = 0 := by
      unfold sg; split <;> simp [decDigits_length] <;> omega
    simp [this]
  exact this _ _ e
theorem tQ_dendigit (q : Rat) (hd : q.den ≠ 1) (k : Nat) (hk : k < nDigits q.den) (h : sg q + nDigits q.num.natAbs + 1 + k < (tQ q).size) : (tQ q)[sg q + nDigits q.num.natAbs + 1 + k] = (decDigits q.den)[k]'(by rw [decDigits_length]; exact hk) := by
  rw [getElem_tQ]
  have e := qL_parts q
  have : ∀ (l : List UInt8) (hl : sg q + nDigits q.num.natAbs + 1 + k < l.length), l = (if q.num < 0 then [45] else []) ++ decDigits q.num.natAbs ++ (if q.den = 1 then [] else 47 :: decDigits q.den) → l[sg q + nDigits q.num.natAbs + 1 + k] = (decDigits q.den)[k]'(by rw [decDigits_length]; exact hk) := by
    intro l hl hh
    subst hh
    rw [List.getElem_append_right (by unfold sg; split <;> simp [decDigits_length] <;> omega)]
    have : sg q + nDigits q.num.natAbs + 1 + k - ((if q.num < 0 then [(45 : UInt8)] else []) ++ decDigits q.num.natAbs).length = k + 1 := by
      unfold sg; split <;> simp [decDigits_length] <;> omega
    simp only [if_neg hd, this]
    simp
  exact this _ _ e
theorem dig_bd (u k : Nat) (h : k < (decDigits u).length) : 48 ≤ (decDigits u)[k].toNat ∧ (decDigits u)[k].toNat ≤ 57 := decDigits_mem u _ (List.getElem_mem _)

end Go.Proofs.YtbiffaciinppiaaGreatDoor
end

section
namespace Go.Proofs.YtbiffaciinppiaaGreatDoor
open Go.RowKit

theorem num_byte (q : Rat) (k : Nat) (hk : k < Lib.nDigits q.num.natAbs) : ∃ C : Int, (∀ h : sg q + k < (tQ q).size, (((tQ q)[sg q + k]'h).toNat : Int) = C) ∧ 48 ≤ C ∧ C ≤ 57 ∧ (pv ((Lib.decDigits q.num.natAbs).take (k + 1)) : Int) = 10 * pv ((Lib.decDigits q.num.natAbs).take k) + (C - 48) := by
  have hl : k < (Lib.decDigits q.num.natAbs).length := by rw [Lib.decDigits_length]; exact hk
  have hb := dig_bd q.num.natAbs k hl
  refine ⟨((Lib.decDigits q.num.natAbs)[k].toNat : Int), fun h => by rw [tQ_digit q k hk h], by omega, by omega, ?_⟩
  rw [pv_take _ _ hl]
  omega
theorem den_byte (q : Rat) (hd : q.den ≠ 1) (k : Nat) (hk : k < Lib.nDigits q.den) : ∃ C : Int, (∀ h : sg q + Lib.nDigits q.num.natAbs + 1 + k < (tQ q).size, (((tQ q)[sg q + Lib.nDigits q.num.natAbs + 1 + k]'h).toNat : Int) = C) ∧ 48 ≤ C ∧ C ≤ 57 ∧ (pv ((Lib.decDigits q.den).take (k + 1)) : Int) = 10 * pv ((Lib.decDigits q.den).take k) + (C - 48) := by
  have hl : k < (Lib.decDigits q.den).length := by rw [Lib.decDigits_length]; exact hk
  have hb := dig_bd q.den k hl
  refine ⟨((Lib.decDigits q.den)[k].toNat : Int), fun h => by rw [tQ_dendigit q hd k hk h], by omega, by omega, ?_⟩
  rw [pv_take _ _ hl]
  omega

def QuickEnd (q : Rat) (w : World) (e : Ending) (w' : World) : Prop := e = .returned (.tuple #[.int .i64 q.num, .int .i64 q.den, .bool true]) ∧ Ext w w'

set_option maxHeartbeats 2000000 in
theorem rQuick_neg (q : Rat) (w : World) (hq : Dg 9 q) (e1 : q < 0) : Calls Tryz.prog 166 #[.string (tQ q)] w (QuickEnd q w) := by
  have hz := tQ_pos q
  have h1 := tQ_first q hz
  have hlen := tQ_len q
  rw [decide_eq_true e1] at h1
  have hsg : sg q = 1 := by unfold sg; rw [if_pos ((num_neg_iff q).2 e1)]
  have hm := (nDigits_le q.num.natAbs 9 (by omega)).2 hq.1
  have hm1 := Lib.nDigits_pos q.num.natAbs
  have hdm := (nDigits_le q.den 9 (by omega)).2 hq.2
  have hpv := Lib.hid (show pv ((Lib.decDigits q.num.natAbs).take (Lib.nDigits q.num.natAbs)) = q.num.natAbs by rw [← Lib.decDigits_length, List.take_length, pv_decDigits])
  have hpd := Lib.hid (show pv ((Lib.decDigits q.den).take (Lib.nDigits q.den)) = q.den by rw [← Lib.decDigits_length, List.take_length, pv_decDigits])
  have hq1 := hq.1
  have hq2 := hq.2
  have hsn : q.num < 0 := (num_neg_iff q).2 e1
  have hnum : q.num = -(q.num.natAbs : Int) := by omega
  rw [hsg] at hlen
  have H1 := Lib.hid hlen
  have nb := Lib.hid (num_byte q)
  have db := Lib.hid (den_byte q)
  have sl := Lib.hid (tQ_slash q)
  have E1 := Lib.hid e1
  have Hsg := Lib.hid hsg
  have Hnum := Lib.hid hnum
  clear hlen e1 hsg hnum hsn
  have HN : ∀ k, k < Lib.nDigits q.num.natAbs → 1 + k < (tQ q).size := by
    intro k hk; have := H1.out; omega
  have HNd := Lib.hid HN
  clear HN
  go_enter Tryz.func166, Tryz.ntmps166
  go_wp2_with fail
  go_loopw [2, 3, 5] (fun a c b w' => ∃ k : Nat, k ≤ Lib.nDigits q.num.natAbs ∧ a = .int .i64 (pv ((Lib.decDigits q.num.natAbs).take k)) ∧ c = .int .i64 0 ∧ b = .int .i64 ((1 + k : Nat) : Int) ∧ Ext w w') (fun _ _ b _ => ((tQ q).size - (intOf b).toNat))
  case atStart => exact ⟨0, by omega, rfl, rfl, rfl, Ext.refl _⟩
  case round =>
    obtain ⟨k, hk, rfl, rfl, rfl, hb⟩ := hrel
    by_cases hlt : k < Lib.nDigits q.num.natAbs
    · obtain ⟨C, hC, hC1, hC2, hC3⟩ := nb.out k hlt
      rw [Hsg.out] at hC
      have hv := pv_take_lt q.num.natAbs k (by omega)
      have hv2 : pv ((Lib.decDigits q.num.natAbs).take k) < 10 ^ 8 := Nat.lt_of_lt_of_le hv (Nat.pow_le_pow_right (by omega) (by omega))
      generalize pv ((Lib.decDigits q.num.natAbs).take k) = V at hC3 hv hv2 ⊢
      have HC3 := Lib.hid hC3
      have hi : 1 + k < (tQ q).size := HNd.out k hlt
      skip
      have hcb : (C != 47) = true := by simp; omega
      clear hC3
      go_wp2_with fail
      exact ⟨⟨k + 1, by omega, by rw [HC3.out], rfl, by go_num, hb⟩, by simp [intOf]; omega⟩
    · obtain rfl : k = Lib.nDigits q.num.natAbs := by omega
      rw [hpv.out]
      generalize hM : Lib.nDigits q.num.natAbs = M at *
      by_cases hd : q.den = 1
      · have hi : (1 + M : Nat) = (tQ q).size := by have := H1.out; rw [if_pos hd] at this; omega
        rw [hi]
        have Hd := Lib.hid hd
        clear hd hi
        go_wp2_with fail
        go_ret3
        exact ⟨by rw [Hd.out, ← Hnum.out]; rfl, hb⟩
      · have hi : 1 + M < (tQ q).size := by have := H1.out; rw [if_neg hd] at this; omega
        have hsl : ∀ h : 1 + M < (tQ q).size, (((tQ q)[1 + M]'h).toNat : Int) = 47 := by
          intro h
          have e := sl.out hd (by rw [Hsg.out]; exact hi)
          simp only [Hsg.out] at e
          rw [e]; rfl
        have hj : ∀ j, j ≤ Lib.nDigits q.den → 1 + M + 1 + j ≤ (tQ q).size := by
          intro j hj; have := H1.out; rw [if_neg hd] at this; omega
        have hj2 : 1 + M + 1 + Lib.nDigits q.den = (tQ q).size := by
          have := H1.out; rw [if_neg hd] at this; omega
        have Hj := Lib.hid hj
        have Hj2 := Lib.hid hj2
        have Hd := Lib.hid hd
        have hd1 := Lib.nDigits_pos q.den
        have hne : ((1 + M : Nat) : Int) ≠ (tQ q).size := by omega
        have hne2 : ((1 + (M : Int) : Int) == (tQ q).size) = false := by simp only [beq_eq_false_iff_ne]; omega
        clear hj hj2 hd hne
        skip
        have db2 := Lib.hid (db.out Hd.out)
        clear db sl nb HNd H1
        go_wp2_with fail
        go_loopw [2, 3, 5] (fun c a b w' => ∃ k : Nat, k ≤ Lib.nDigits q.den ∧ c = .int .i64 q.num ∧ a = .int .i64 (pv ((Lib.decDigits q.den).take k)) ∧ b = .int .i64 ((1 + M + 1 + k : Nat) : Int) ∧ Ext w w') (fun _ _ b _ => ((tQ q).size - (intOf b).toNat))
        case atStart => exact ⟨0, by omega, by rw [← Hnum.out], rfl, by go_num, hb⟩
        case round =>
          obtain ⟨k, hk2, rfl, rfl, rfl, hb2⟩ := hrel
          by_cases hlt2 : k < Lib.nDigits q.den
          · obtain ⟨C, hC, hC1, hC2, hC3⟩ := db2.out k hlt2
            rw [Hsg.out] at hC
            have hv := pv_take_lt q.den k (by omega)
            have hv2 : pv ((Lib.decDigits q.den).take k) < 10 ^ 8 := Nat.lt_of_lt_of_le hv (Nat.pow_le_pow_right (by omega) (by omega))
            generalize pv ((Lib.decDigits q.den).take k) = V at hC3 hv hv2 ⊢
            have HC3 := Lib.hid hC3
            have hi2 : 1 + M + 1 + k < (tQ q).size := by have := Hj2.out; omega
            skip
            clear hC3
            go_wp2_with fail
            exact ⟨⟨k + 1, by omega, rfl, by rw [HC3.out], by go_num, hb2⟩, by simp [intOf]; omega⟩
          · obtain rfl : k = Lib.nDigits q.den := by omega
            skip
            rw [hpd.out, Hj2.out]
            go_wp2_with fail
            go_ret3
            exact ⟨rfl, hb2⟩

set_option maxHeartbeats 2000000 in
theorem rQuick_nn (q : Rat) (w : World) (hq : Dg 9 q) (e1 : ¬ q < 0) : Calls Tryz.prog 166 #[.string (tQ q)] w (QuickEnd q w) := by
  have hz := tQ_pos q
  have h1 := tQ_first q hz
  have hlen := tQ_len q
  rw [decide_eq_false e1] at h1
  have hsg : sg q = 0 := by unfold sg; rw [if_neg (fun h => e1 ((num_neg_iff q).1 h))]
  have hm := (nDigits_le q.num.natAbs 9 (by omega)).2 hq.1
  have hm1 := Lib.nDigits_pos q.num.natAbs
  have hdm := (nDigits_le q.den 9 (by omega)).2 hq.2
  have hpv := Lib.hid (show pv ((Lib.decDigits q.num.natAbs).take (Lib.nDigits q.num.natAbs)) = q.num.natAbs by rw [← Lib.decDigits_length, List.take_length, pv_decDigits])
  have hpd := Lib.hid (show pv ((Lib.decDigits q.den).take (Lib.nDigits q.den)) = q.den by rw [← Lib.decDigits_length, List.take_length, pv_decDigits])
  have hq1 := hq.1
  have hq2 := hq.2
  have hsn : ¬ q.num < 0 := fun h => e1 ((num_neg_iff q).1 h)
  have hnum : q.num = (q.num.natAbs : Int) := by omega
  rw [hsg] at hlen
  have H1 := Lib.hid hlen
  have nb := Lib.hid (num_byte q)
  have db := Lib.hid (den_byte q)
  have sl := Lib.hid (tQ_slash q)
  have E1 := Lib.hid e1
  have Hsg := Lib.hid hsg
  have Hnum := Lib.hid hnum
  clear hlen e1 hsg hnum hsn
  have HN : ∀ k, k < Lib.nDigits q.num.natAbs → 0 + k < (tQ q).size := by
    intro k hk; have := H1.out; omega
  have HNd := Lib.hid HN
  clear HN
  go_enter Tryz.func166, Tryz.ntmps166
  go_wp2_with fail
  go_loopw [2, 3, 5] (fun a c b w' => ∃ k : Nat, k ≤ Lib.nDigits q.num.natAbs ∧ a = .int .i64 (pv ((Lib.decDigits q.num.natAbs).take k)) ∧ c = .int .i64 0 ∧ b = .int .i64 ((0 + k : Nat) : Int) ∧ Ext w w') (fun _ _ b _ => ((tQ q).size - (intOf b).toNat))
  case atStart => exact ⟨0, by omega, rfl, rfl, rfl, Ext.refl _⟩
  case round =>
    obtain ⟨k, hk, rfl, rfl, rfl, hb⟩ := hrel
    by_cases hlt : k < Lib.nDigits q.num.natAbs
    · obtain ⟨C, hC, hC1, hC2, hC3⟩ := nb.out k hlt
      rw [Hsg.out] at hC
      have hv := pv_take_lt q.num.natAbs k (by omega)
      have hv2 : pv ((Lib.decDigits q.num.natAbs).take k) < 10 ^ 8 := Nat.lt_of_lt_of_le hv (Nat.pow_le_pow_right (by omega) (by omega))
      generalize pv ((Lib.decDigits q.num.natAbs).take k) = V at hC3 hv hv2 ⊢
      have HC3 := Lib.hid hC3
      have hi : 0 + k < (tQ q).size := HNd.out k hlt
      simp only [Nat.zero_add] at hC hi ⊢
      have hcb : (C != 47) = true := by simp; omega
      clear hC3
      go_wp2_with fail
      exact ⟨⟨k + 1, by omega, by rw [HC3.out], rfl, by go_num, hb⟩, by simp [intOf]; omega⟩
    · obtain rfl : k = Lib.nDigits q.num.natAbs := by omega
      rw [hpv.out]
      generalize hM : Lib.nDigits q.num.natAbs = M at *
      by_cases hd : q.den = 1
      · have hi : (0 + M : Nat) = (tQ q).size := by have := H1.out; rw [if_pos hd] at this; omega
        rw [hi]
        have Hd := Lib.hid hd
        clear hd hi
        go_wp2_with fail
        go_ret3
        exact ⟨by rw [Hd.out, ← Hnum.out]; rfl, hb⟩
      · have hi : 0 + M < (tQ q).size := by have := H1.out; rw [if_neg hd] at this; omega
        have hsl : ∀ h : 0 + M < (tQ q).size, (((tQ q)[0 + M]'h).toNat : Int) = 47 := by
          intro h
          have e := sl.out hd (by rw [Hsg.out]; exact hi)
          simp only [Hsg.out] at e
          rw [e]; rfl
        have hj : ∀ j, j ≤ Lib.nDigits q.den → 0 + M + 1 + j ≤ (tQ q).size := by
          intro j hj; have := H1.out; rw [if_neg hd] at this; omega
        have hj2 : 0 + M + 1 + Lib.nDigits q.den = (tQ q).size := by
          have := H1.out; rw [if_neg hd] at this; omega
        have Hj := Lib.hid hj
        have Hj2 := Lib.hid hj2
        have Hd := Lib.hid hd
        have hd1 := Lib.nDigits_pos q.den
        have hne : ((0 + M : Nat) : Int) ≠ (tQ q).size := by omega
        have hne2 : (((M : Int) : Int) == (tQ q).size) = false := by simp only [beq_eq_false_iff_ne]; omega
        clear hj hj2 hd hne
        simp only [Nat.zero_add] at hsl hi Hj2 Hj ⊢
        have db2 := Lib.hid (db.out Hd.out)
        clear db sl nb HNd H1
        go_wp2_with fail
        go_loopw [2, 3, 5] (fun c a b w' => ∃ k : Nat, k ≤ Lib.nDigits q.den ∧ c = .int .i64 q.num ∧ a = .int .i64 (pv ((Lib.decDigits q.den).take k)) ∧ b = .int .i64 ((0 + M + 1 + k : Nat) : Int) ∧ Ext w w') (fun _ _ b _ => ((tQ q).size - (intOf b).toNat))
        case atStart => exact ⟨0, by omega, by rw [← Hnum.out], rfl, by go_num, hb⟩
        case round =>
          obtain ⟨k, hk2, rfl, rfl, rfl, hb2⟩ := hrel
          by_cases hlt2 : k < Lib.nDigits q.den
          · obtain ⟨C, hC, hC1, hC2, hC3⟩ := db2.out k hlt2
            rw [Hsg.out] at hC
            have hv := pv_take_lt q.den k (by omega)
            have hv2 : pv ((Lib.decDigits q.den).take k) < 10 ^ 8 := Nat.lt_of_lt_of_le hv (Nat.pow_le_pow_right (by omega) (by omega))
            generalize pv ((Lib.decDigits q.den).take k) = V at hC3 hv hv2 ⊢
            have HC3 := Lib.hid hC3
            have hi2 : 0 + M + 1 + k < (tQ q).size := by have := Hj2.out; omega
            simp only [Nat.zero_add] at hC hi2 ⊢
            clear hC3
            go_wp2_with fail
            exact ⟨⟨k + 1, by omega, rfl, by rw [HC3.out], by go_num, hb2⟩, by simp [intOf]; omega⟩
          · obtain rfl : k = Lib.nDigits q.den := by omega
            simp only [Nat.zero_add]
            rw [hpd.out, Hj2.out]
            go_wp2_with fail
            go_ret3
            exact ⟨rfl, hb2⟩

theorem rQuick_yes (q : Rat) (w : World) (hq : Dg 9 q) : Calls Tryz.prog 166 #[.string (tQ q)] w (QuickEnd q w) := by
  by_cases e : q < 0
  · exact rQuick_neg q w hq e
  · exact rQuick_nn q w hq e

end Go.Proofs.YtbiffaciinppiaaGreatDoor
end

section
namespace Go.Proofs.YtbiffaciinppiaaGreatDoor
open Go.RowKit

theorem prod_bd {a b : Rat} (ha : Dg 9 a) (hb : Dg 9 b) : (a.num * b.num).natAbs < 10 ^ 18 ∧ 1 ≤ a.den * b.den ∧ a.den * b.den < 10 ^ 18 ∧ (a.num * b.den).natAbs < 10 ^ 18 := by
  have key : ∀ x y : Nat, x < 10 ^ 9 → y < 10 ^ 9 → x * y < 10 ^ 18 := by
    intro x y hx hy
    have h1 : x * y ≤ (10 ^ 9 - 1) * (10 ^ 9 - 1) := Nat.mul_le_mul (by omega) (by omega)
    omega
  refine ⟨by rw [Int.natAbs_mul]; exact key _ _ ha.1 hb.1, Nat.mul_pos a.den_pos b.den_pos, key _ _ ha.2 hb.2, ?_⟩
  rw [Int.natAbs_mul, Int.natAbs_natCast]; exact key _ _ ha.1 hb.2

theorem rMul (a b : Rat) (w : World) (g : Glob w) (ha : Dg 9 a) (hb : Dg 9 b) : Calls Tryz.prog 115 #[.string (tQ a), .string (tQ b)] w (Ret (.string (tQ (a * b))) w) := by
  have a0 := tQ_is0 a
  have a1 := tQ_is1 a
  have b0 := tQ_is0 b
  have b1 := tQ_is1 b
  by_cases ea0 : a = 0
  · rw [decide_eq_true ea0] at a0
    have Hr := Lib.hid (show tQ (a * b) = ⟨#[48]⟩ by rw [ea0, Rat.zero_mul]; apply ba_ext; rw [tQ_data, qL_zero])
    clear a1 b0 b1 ea0
    go_enter Tryz.func115, Tryz.ntmps115
    go_wp2_with fail
    go_ret
    exact ⟨by rw [Hr.out]; rfl, Ext.refl _⟩
  by_cases eb0 : b = 0
  · rw [decide_eq_false ea0] at a0
    rw [decide_eq_true eb0] at b0
    have Hr := Lib.hid (show tQ (a * b) = ⟨#[48]⟩ by rw [eb0, Rat.mul_zero]; apply ba_ext; rw [tQ_data, qL_zero])
    clear a1 b1 ea0 eb0
    go_enter Tryz.func115, Tryz.ntmps115
    go_wp2_with fail
    go_ret
    exact ⟨by rw [Hr.out]; rfl, Ext.refl _⟩
  rw [decide_eq_false ea0] at a0
  rw [decide_eq_false eb0] at b0
  by_cases ea1 : a = 1
  · rw [decide_eq_true ea1] at a1
    have Hr := Lib.hid (show tQ (a * b) = tQ b by rw [ea1, Rat.one_mul])
    clear b1 ea0 eb0 ea1
    go_enter Tryz.func115, Tryz.ntmps115
    go_wp2_with fail
    go_ret
    exact ⟨by rw [Hr.out]; rfl, Ext.refl _⟩
  by_cases eb1 : b = 1
  · rw [decide_eq_false ea1] at a1
    rw [decide_eq_true eb1] at b1
    have Hr := Lib.hid (show tQ (a * b) = tQ a by rw [eb1, Rat.mul_one])
    clear ea0 eb0 ea1 eb1
    go_enter Tryz.func115, Tryz.ntmps115
    go_wp2_with fail
    go_ret
    exact ⟨by rw [Hr.out]; rfl, Ext.refl _⟩
  rw [decide_eq_false ea1] at a1
  rw [decide_eq_false eb1] at b1
  obtain ⟨p1, p2, p3, _⟩ := prod_bd ha hb
  have Hr := Lib.hid (mul_mkRat a b)
  clear ea0 eb0 ea1 eb1
  go_enter Tryz.func115, Tryz.ntmps115
  go_wp2_with fail
  refine (rQuick_yes a _ ha).mono ?_
  rintro e w1 ⟨rfl, hb1⟩
  go_wp2_with fail
  refine (rQuick_yes b _ hb).mono ?_
  rintro e w2 ⟨rfl, hb2⟩
  go_wp2_with fail
  rw [← Int.natCast_mul]
  refine (rSmall _ _ _ ((g.ext hb1).ext hb2) (by omega) (by omega) p2 (by omega)).mono ?_
  rintro e w3 ⟨rfl, hb3⟩
  go_wp2_with fail
  go_ret
  exact ⟨by rw [Hr.out]; rfl, (hb1.trans hb2).trans hb3⟩

theorem rAdd (a b : Rat) (w : World) (g : Glob w) (ha : Dg 9 a) (hb : Dg 9 b) : Calls Tryz.prog 114 #[.string (tQ a), .string (tQ b)] w (Ret (.string (tQ (a + b))) w) := by
  have a0 := tQ_is0 a
  have b0 := tQ_is0 b
  by_cases ea0 : a = 0
  · rw [decide_eq_true ea0] at a0
    have Hr := Lib.hid (show tQ (a + b) = tQ b by rw [ea0, Rat.zero_add])
    clear b0 ea0
    go_enter Tryz.func114, Tryz.ntmps114
    go_wp2_with fail
    go_ret
    exact ⟨by rw [Hr.out]; rfl, Ext.refl _⟩
  by_cases eb0 : b = 0
  · rw [decide_eq_false ea0] at a0
    rw [decide_eq_true eb0] at b0
    have Hr := Lib.hid (show tQ (a + b) = tQ a by rw [eb0, Rat.add_zero])
    clear ea0 eb0
    go_enter Tryz.func114, Tryz.ntmps114
    go_wp2_with fail
    go_ret
    exact ⟨by rw [Hr.out]; rfl, Ext.refl _⟩
  rw [decide_eq_false ea0] at a0
  rw [decide_eq_false eb0] at b0
  obtain ⟨_, p2, p3, p4⟩ := prod_bd ha hb
  obtain ⟨_, _, _, p5⟩ := prod_bd hb ha
  have Hr := Lib.hid (add_mkRat a b)
  clear ea0 eb0
  go_enter Tryz.func114, Tryz.ntmps114
  go_wp2_with fail
  refine (rQuick_yes a _ ha).mono ?_
  rintro e w1 ⟨rfl, hb1⟩
  go_wp2_with fail
  refine (rQuick_yes b _ hb).mono ?_
  rintro e w2 ⟨rfl, hb2⟩
  go_wp2_with fail
  rw [← Int.natCast_mul]
  refine (rSmall _ _ _ ((g.ext hb1).ext hb2) (by omega) (by omega) p2 (by omega)).mono ?_
  rintro e w3 ⟨rfl, hb3⟩
  go_wp2_with fail
  go_ret
  exact ⟨by rw [Hr.out]; rfl, (hb1.trans hb2).trans hb3⟩

theorem rSub (a b : Rat) (w : World) (g : Glob w) (ha : Dg 9 a) (hb : Dg 9 b) : Calls Tryz.prog 146 #[.string (tQ a), .string (tQ b)] w (Ret (.string (tQ (a - b))) w) := by
  have hs := hb.size
  have Hr := Lib.hid (Rat.sub_eq_add_neg a b)
  go_enter Tryz.func146, Tryz.ntmps146
  go_wp2_with fail
  refine (rNeg b _ (by omega)).mono ?_
  rintro e w1 ⟨rfl, hb1⟩
  go_wp2_with fail
  refine (rAdd a (-b) _ (g.ext hb1) ha hb.neg).mono ?_
  rintro e w2 ⟨rfl, hb2⟩
  go_wp2_with fail
  go_ret
  exact ⟨by rw [Hr.out]; rfl, hb1.trans hb2⟩

end Go.Proofs.YtbiffaciinppiaaGreatDoor
end

section
namespace Go.Proofs.YtbiffaciinppiaaGreatDoor
open Go.RowKit

def cmpQ (a b : Rat) : Int := if a = b then 0 else if a < b then -1 else 1

theorem tQ_eqb (a b : Rat) : ((tQ a).toList == (tQ b).toList) = decide (a = b) := by
  rw [tQ_toList, tQ_toList, Bool.eq_iff_iff, beq_iff_eq, decide_eq_true_iff]
  exact ⟨qL_inj, fun h => by rw [h]⟩

theorem rCompare (a b : Rat) (w : World) (_g : Glob w) (ha : Dg 9 a) (hb : Dg 9 b) : Calls Tryz.prog 116 #[.string (tQ a), .string (tQ b)] w (Ret (.int .i64 (cmpQ a b)) w) := by
  have h0 := tQ_eqb a b
  by_cases e0 : a = b
  · rw [decide_eq_true e0] at h0
    have Hr := Lib.hid (show cmpQ a b = 0 by unfold cmpQ; rw [if_pos e0])
    clear e0
    go_enter Tryz.func116, Tryz.ntmps116
    go_wp2_with fail
    go_ret
    exact ⟨by rw [Hr.out]; rfl, Ext.refl _⟩
  rw [decide_eq_false e0] at h0
  obtain ⟨_, _, _, p4⟩ := prod_bd ha hb
  obtain ⟨_, _, _, p5⟩ := prod_bd hb ha
  have hlt : a < b ↔ a.num * b.den < b.num * a.den := Rat.lt_iff a b
  have Hr := Lib.hid (show cmpQ a b = if a.num * b.den < b.num * a.den then -1 else 1 by
    unfold cmpQ; rw [if_neg e0]
    by_cases h : a < b
    · rw [if_pos h, if_pos (hlt.1 h)]
    · rw [if_neg h, if_neg (fun h2 => h (hlt.2 h2))])
  have hne : a.num * b.den ≠ b.num * a.den := fun h => e0 (Rat.eq_iff_mul_eq_mul.2 h)
  by_cases hl : a.num * b.den < b.num * a.den
  · rw [if_pos hl] at Hr
    have hd : decide (a.num * b.den < b.num * a.den) = true := decide_eq_true hl
    clear hlt e0 hne
    go_enter Tryz.func116, Tryz.ntmps116
    go_wp2_with fail
    refine (rQuick_yes a _ ha).mono ?_
    rintro e w1 ⟨rfl, hb1⟩
    go_wp2_with fail
    refine (rQuick_yes b _ hb).mono ?_
    rintro e w2 ⟨rfl, hb2⟩
    go_wp2_with fail
    go_ret
    exact ⟨by rw [Hr.out]; rfl, hb1.trans hb2⟩
  · rw [if_neg hl] at Hr
    have hd : decide (a.num * b.den < b.num * a.den) = false := decide_eq_false hl
    have hd2 : decide (b.num * a.den < a.num * b.den) = true := decide_eq_true (by omega)
    clear hlt e0 hne
    go_enter Tryz.func116, Tryz.ntmps116
    go_wp2_with fail
    refine (rQuick_yes a _ ha).mono ?_
    rintro e w1 ⟨rfl, hb1⟩
    go_wp2_with fail
    refine (rQuick_yes b _ hb).mono ?_
    rintro e w2 ⟨rfl, hb2⟩
    go_wp2_with fail
    go_ret
    exact ⟨by rw [Hr.out]; rfl, hb1.trans hb2⟩
end Go.Proofs.YtbiffaciinppiaaGreatDoor
end
