/- Plain lemmas: decimal texts of integers and of rational numbers; no program. The words that all walks of this seat use: what a call leaves as it was (Ext), what the listed variables hold (Glob), the end of a call that returns a value (Ret). Plain lemmas: sizes of numbers, opposites, fractions in lowest terms; no program. Contracts of the sign and of the opposite of integers and of rational numbers. -/
import Derived.Lib.ItoaNum
import Derived.Lib.ItoaMem
import Derived.Lib.Atoi
import Derived.Lib.Strings
import Derived.Test.YtbiffaciinppiaaGreatDoorProg
import Derived.Tactics
import Derived.Tactics2
import Derived.WalkKit
import Derived.WalkSpells
import Derived.StillTactics
import Derived.OwnWalk
import Derived.Below
import Derived.Outline
import Derived.WalkSmall
import Derived.Lib.Hide
import Derived.Lib.SmallJoins
import Derived.Lib.LaidTab
import Derived.Lib.AppendIntMem
import Derived.Sort.Grow
import Derived.KernelRfl
set_option linter.unusedVariables false
set_option linter.unusedSimpArgs false
section
namespace Go.Proofs.YtbiffaciinppiaaGreatDoor
open Go.Lib

theorem decFrom_append (l m : List UInt8) : ∀ acc, decFrom acc (l ++ m) = (decFrom acc l).bind fun a => decFrom a m := by
  induction l with
  | nil => intro acc; rfl
  | cons b r ih =>
    intro acc
    simp only [List.cons_append, decFrom]
    cases digitVal b with
    | none => rfl
    | some d => exact ih _

theorem digitVal_ofNat (d : Nat) (h : d < 10) : digitVal (UInt8.ofNat (48 + d)) = some d := by
  have : (UInt8.ofNat (48 + d)).toNat = 48 + d := by simp; omega
  unfold digitVal
  rw [this, if_pos (by omega)]
  simp

theorem decFrom_decDigits (u : Nat) : ∀ acc, decFrom acc (decDigits u) = some (acc * 10 ^ nDigits u + u) := by
  induction u using Nat.strongRecOn with
  | _ u ih =>
    intro acc
    by_cases h : u < 10
    · rw [decDigits_one h, nDigits_small h]
      simp only [decFrom, digitVal_ofNat u h]
    · rw [decDigits, dif_neg h, nDigits_big h, decFrom_append, ih (u / 10) (by omega) acc]
      simp only [Option.bind_some, decFrom, digitVal_ofNat (u % 10) (by omega)]
      congr 1
      rw [Nat.add_mul, Nat.pow_succ, ← Nat.mul_assoc]
      omega

theorem decDigits_ne_nil (u : Nat) : decDigits u ≠ [] := by
  intro h
  have := decDigits_length u
  have h2 := nDigits_pos u
  rw [h] at this; simp at this; omega

theorem decNat_decDigits (u : Nat) : decNat (decDigits u) = some u := by
  unfold decNat
  have : (decDigits u).isEmpty = false := by simp [decDigits_ne_nil]
  rw [this, decFrom_decDigits]
  simp

theorem decDigits_mem (u : Nat) : ∀ b ∈ decDigits u, 48 ≤ b.toNat ∧ b.toNat ≤ 57 := by
  induction u using Nat.strongRecOn with
  | _ u ih =>
    intro b hb
    by_cases h : u < 10
    · rw [decDigits_one h] at hb
      simp only [List.mem_singleton] at hb
      rw [hb]; simp; omega
    · rw [decDigits, dif_neg h] at hb
      rcases List.mem_append.1 hb with hb | hb
      · exact ih (u / 10) (by omega) b hb
      · simp only [List.mem_singleton] at hb
        rw [hb]; simp; omega

theorem decDigits_head (u : Nat) (h : 1 ≤ u) : ∃ b r, decDigits u = b :: r ∧ 49 ≤ b.toNat ∧ b.toNat ≤ 57 := by
  induction u using Nat.strongRecOn with
  | _ u ih =>
    by_cases h1 : u < 10
    · exact ⟨_, [], decDigits_one h1, by simp; omega, by simp; omega⟩
    · obtain ⟨b, r, e, p, q⟩ := ih (u / 10) (by omega) (by omega)
      rw [decDigits, dif_neg h1, e]
      exact ⟨b, _, rfl, p, q⟩

theorem decDigits_zero : decDigits 0 = [48] := by rw [decDigits_one (by omega)]; rfl
theorem decDigits_1 : decDigits 1 = [49] := by rw [decDigits_one (by omega)]; rfl

theorem decDigits_inj {u v : Nat} (h : decDigits u = decDigits v) : u = v := by
  have a := decNat_decDigits u
  rw [h, decNat_decDigits v] at a
  exact (Option.some.inj a).symm

theorem nDigits_le (u k : Nat) (hk : 1 ≤ k) : nDigits u ≤ k ↔ u < 10 ^ k := by
  constructor
  · intro h
    exact Nat.lt_of_lt_of_le (lt_pow_nDigits u) (Nat.pow_le_pow_right (by omega) h)
  · intro h
    by_cases h0 : u < 10
    · rw [nDigits_small h0]; exact hk
    · -- 10^(nDigits u - 1) ≤ u
      have lower : ∀ v : Nat, 1 ≤ v → 10 ^ (nDigits v - 1) ≤ v := by
        intro v
        induction v using Nat.strongRecOn with
        | _ v ih =>
          intro hv
          by_cases h1 : v < 10
          · rw [nDigits_small h1]; simpa using hv
          · rw [nDigits_big h1]
            have := ih (v / 10) (by omega) (by omega)
            have hp := nDigits_pos (v / 10)
            rw [show nDigits (v / 10) + 1 - 1 = (nDigits (v / 10) - 1) + 1 by omega, Nat.pow_succ]
            omega
      have l := lower u (by omega)
      have : 10 ^ (nDigits u - 1) < 10 ^ k := Nat.lt_of_le_of_lt l h
      have := (Nat.pow_lt_pow_iff_right (a := 10) (by omega)).1 this
      omega

/-! ### Integers -/

/-- The text of an integer. -/
def tI (n : Int) : ByteArray := ⟨(itoa n).toArray⟩
theorem tI_data (n : Int) : (tI n).data.toList = itoa n := by simp [tI]
theorem tI_toList (n : Int) : (tI n).toList = itoa n := by rw [toList_data, tI_data]
theorem tI_size (n : Int) : (tI n).size = (itoa n).length := by simp [tI, ByteArray.size]

theorem itoa_pos {n : Int} (h : 0 ≤ n) : itoa n = decDigits n.toNat := by unfold itoa; rw [if_neg (by omega)]
theorem itoa_ng {n : Int} (h : n < 0) : itoa n = 45 :: decDigits n.natAbs := by unfold itoa; rw [if_pos h]
theorem itoa_zero : itoa 0 = [48] := by rw [itoa_pos (by omega)]; exact decDigits_zero
theorem itoa_1 : itoa 1 = [49] := by rw [itoa_pos (by omega)]; exact decDigits_1
theorem itoa_ne_nil (n : Int) : itoa n ≠ [] := by
  unfold itoa
  split
  · simp
  · exact decDigits_ne_nil _

theorem atoi_itoa (n : Int) : atoi (itoa n) = some n := by
  by_cases h : n < 0
  · rw [itoa_ng h]
    simp only [atoi]
    rw [if_pos (by decide), decNat_decDigits]
    simp; omega
  · rw [itoa_pos (by omega)]
    by_cases h0 : n = 0
    · subst h0; rw [show (0 : Int).toNat = 0 from rfl, decDigits_zero]; rfl
    · obtain ⟨b, r, e, p, q⟩ := decDigits_head n.toNat (by omega)
      have hd := decNat_decDigits n.toNat
      rw [e] at hd ⊢
      simp only [atoi]
      have h45 : (b == 45) = false := by
        rw [beq_eq_false_iff_ne]; intro hb; rw [hb] at p; revert p; decide
      have h43 : (b == 43) = false := by
        rw [beq_eq_false_iff_ne]; intro hb; rw [hb] at p; revert p; decide
      rw [h45, h43, hd]
      simp; omega

theorem itoa_inj {n m : Int} (h : itoa n = itoa m) : n = m := by
  have a := atoi_itoa n
  rw [h, atoi_itoa m] at a
  exact (Option.some.inj a).symm
theorem tI_inj {n m : Int} (h : tI n = tI m) : n = m := itoa_inj (by rw [← tI_data, h, tI_data])

/-- The first byte: a minus sign, or a digit, which is 0 for 0 alone. -/
theorem itoa_head (n : Int) : ∃ b r, itoa n = b :: r ∧ (n < 0 → b = 45) ∧ (0 ≤ n → 48 ≤ b.toNat ∧ b.toNat ≤ 57) ∧ (1 ≤ n → b ≠ 48) := by
  by_cases h : n < 0
  · exact ⟨_, _, itoa_ng h, fun _ => rfl, fun _ => by omega, fun _ => by omega⟩
  · by_cases h0 : n = 0
    · subst h0; exact ⟨_, _, itoa_zero, fun _ => by omega, fun _ => by decide, fun _ => by omega⟩
    · obtain ⟨b, r, e, p, q⟩ := decDigits_head n.toNat (by omega)
      exact ⟨b, r, by rw [itoa_pos (by omega), e], fun _ => by omega, fun _ => ⟨by omega, q⟩, fun _ hb => by rw [hb] at p; revert p; decide⟩

theorem itoa_mem (n : Int) : ∀ b ∈ itoa n, b ≠ 47 := by
  intro b hb hq
  subst hq
  by_cases h : n < 0
  · rw [itoa_ng h] at hb
    rcases List.mem_cons.1 hb with hb | hb
    · revert hb; decide
    · have := (decDigits_mem _ _ hb).1; revert this; decide
  · rw [itoa_pos (by omega)] at hb
    have := (decDigits_mem _ _ hb).1; revert this; decide

theorem itoa_len (n : Int) : (itoa n).length = (if n < 0 then 1 else 0) + nDigits n.natAbs := by
  by_cases h : n < 0
  · rw [itoa_ng h, if_pos h]; simp [decDigits_length]; omega
  · rw [itoa_pos (by omega), if_neg h, decDigits_length, show n.toNat = n.natAbs by omega]; omega

/-! ### Rational numbers -/

/-- The canonical text of a rational number, as bytes. -/
def qL (q : Rat) : List UInt8 := itoa q.num ++ (if q.den = 1 then [] else 47 :: decDigits q.den)
def tQ (q : Rat) : ByteArray := ⟨(qL q).toArray⟩
theorem tQ_data (q : Rat) : (tQ q).data.toList = qL q := by simp [tQ]
theorem tQ_toList (q : Rat) : (tQ q).toList = qL q := by rw [toList_data, tQ_data]
theorem tQ_size (q : Rat) : (tQ q).size = (qL q).length := by simp [tQ, ByteArray.size]
theorem qL_int {q : Rat} (h : q.den = 1) : qL q = itoa q.num := by unfold qL; rw [if_pos h]; simp
theorem tQ_int {q : Rat} (h : q.den = 1) : tQ q = tI q.num := by unfold tQ tI; rw [qL_int h]
theorem qL_frac {q : Rat} (h : q.den ≠ 1) : qL q = itoa q.num ++ 47 :: decDigits q.den := by unfold qL; rw [if_neg h]
theorem tQ_ofInt (n : Int) : tQ (n : Rat) = tI n := by
  rw [tQ_int (Rat.den_intCast n), Rat.num_intCast]

theorem split47 {a b c d : List UInt8} (ha : ∀ x ∈ a, x ≠ 47) (hc : ∀ x ∈ c, x ≠ 47) (h : a ++ 47 :: b = c ++ 47 :: d) : a = c ∧ b = d := by
  induction a generalizing c with
  | nil =>
    cases c with
    | nil => simpa using h
    | cons y c => simp at h; exact absurd h.1.symm (hc y (by simp))
  | cons x a ih =>
    cases c with
    | nil => simp at h; exact absurd h.1 (ha x (by simp))
    | cons y c =>
      simp only [List.cons_append, List.cons.injEq] at h
      obtain ⟨e1, e2⟩ := ih (fun z hz => ha z (by simp [hz])) (fun z hz => hc z (by simp [hz])) h.2
      exact ⟨by rw [h.1, e1], e2⟩

theorem qL_inj {p q : Rat} (h : qL p = qL q) : p = q := by
  by_cases h1 : p.den = 1
  · by_cases h2 : q.den = 1
    · rw [qL_int h1, qL_int h2] at h
      exact Rat.ext (itoa_inj h) (by rw [h1, h2])
    · rw [qL_int h1, qL_frac h2] at h
      exact absurd rfl (itoa_mem p.num 47 (by rw [h]; simp))
  · by_cases h2 : q.den = 1
    · rw [qL_frac h1, qL_int h2] at h
      exact absurd rfl (itoa_mem q.num 47 (by rw [← h]; simp))
    · rw [qL_frac h1, qL_frac h2] at h
      obtain ⟨e1, e2⟩ := split47 (itoa_mem _) (itoa_mem _) h
      exact Rat.ext (itoa_inj e1) (decDigits_inj e2)
theorem tQ_inj {p q : Rat} (h : tQ p = tQ q) : p = q := qL_inj (by rw [← tQ_data, h, tQ_data])
theorem tQ_eq {p q : Rat} : tQ p = tQ q ↔ p = q := ⟨tQ_inj, fun h => by rw [h]⟩

theorem qL_zero : qL 0 = [48] := by rw [qL_int rfl]; exact itoa_zero
theorem qL_one : qL 1 = [49] := by rw [qL_int rfl]; exact itoa_1
theorem qL_eq_zero (q : Rat) : qL q = [48] ↔ q = 0 := ⟨fun h => qL_inj (by rw [h, qL_zero]), fun h => by rw [h, qL_zero]⟩
theorem qL_eq_one (q : Rat) : qL q = [49] ↔ q = 1 := ⟨fun h => qL_inj (by rw [h, qL_one]), fun h => by rw [h, qL_one]⟩

theorem num_neg_iff (q : Rat) : q.num < 0 ↔ q < 0 := by
  have h := Rat.num_nonneg (q := q)
  have h2 : ¬ (0 ≤ q) ↔ q < 0 := Rat.not_le
  rw [← h2, ← h]; omega
theorem qL_head (q : Rat) : ∃ b r, qL q = b :: r ∧ (q < 0 → b = 45) ∧ (0 ≤ q → 48 ≤ b.toNat ∧ b.toNat ≤ 57) := by
  obtain ⟨b, r, e, p1, p2, _⟩ := itoa_head q.num
  refine ⟨b, r ++ (if q.den = 1 then [] else 47 :: decDigits q.den), by unfold qL; rw [e]; rfl, fun h => p1 ((num_neg_iff q).2 h), fun h => p2 (Rat.num_nonneg.2 h)⟩

end Go.Proofs.YtbiffaciinppiaaGreatDoor
end

section
namespace Go.Proofs.YtbiffaciinppiaaGreatDoor
open Go.RowKit

/-- All that was there is as it was. -/
def Ext (w a : World) : Prop := Below w.heap.size w a

theorem Ext.refl (w : World) : Ext w w := Below.refl _ _
theorem Ext.size {w a : World} (h : Ext w a) : w.heap.size ≤ a.heap.size := Below.size h
theorem Ext.trans {w a b : World} (h : Ext w a) (k : Ext a b) : Ext w b := Below.trans h (Below.mono k h.size)
theorem Ext.alloc {w a : World} (h : Ext w a) (o : Obj) : Ext w (a.alloc o) := Below.alloc h h.size o
theorem Ext.drew {w a : World} (h : Ext w a) : Ext w a.drew := Below.drew h
theorem Ext.drewN {w a : World} (h : Ext w a) (n : Nat) : Ext w (a.drewN n) := below_drewN h n
theorem Ext.setCell {w a : World} (h : Ext w a) {p : Addr} (hp : w.heap.size ≤ p.block) (u : Value) : Ext w (a.setCell p u) := Below.setCell h hp u
theorem Ext.grow {w a : World} (h : Ext w a) (os : Array Obj) : Ext w (Sort.grow a os) := by
  refine Below.trans (b := a) h ⟨rfl, rfl, rfl, by simp [Sort.grow], fun k hk => ?_⟩
  have := h.size
  simp only [Sort.grow]
  rw [Array.getElem?_append_left (by omega)]
theorem Ext.bytes {w a : World} (h : Ext w a) (e : TypeId) (s : ByteArray) : Ext w (Lib.bytesWorld a e s) := Below.trans (b := a) h (Joins.below_bytesWorld _ _ _ _ h.size)
theorem Ext.cell {w a : World} (h : Ext w a) {b o : Nat} {v : Value} (hc : w.cell? ⟨b, o, none⟩ = some v) : a.cell? ⟨b, o, none⟩ = some v := by
  rw [← hc]; exact Below.cell h (p := ⟨b, o, none⟩) (World.block_lt_of_cell? w _ hc)
theorem Ext.cells {w a : World} (h : Ext w a) : (∀ b o, b < w.heap.size → a.cell? ⟨b, o, none⟩ = w.cell? ⟨b, o, none⟩) ∧ (∀ b o, b < w.heap.size → a.frozen? ⟨b, o, none⟩ = w.frozen? ⟨b, o, none⟩) :=
  ⟨fun b o hb => Below.cell h (p := ⟨b, o, none⟩) hb, fun b o hb => Below.frozen h (p := ⟨b, o, none⟩) hb⟩
theorem Ext.below {w a : World} (h : Ext w a) : Below w.heap.size w a := h
theorem Below.ext {w a : World} (h : Below w.heap.size w a) : Ext w a := h

/-- What the listed package-level variables hold. -/
structure Glob (w : World) : Prop where
  tab : Lib.TabIs Tryz.prog w "internal/strconv.uint64pow10" .u64 Lib.pow10Tab
  len : ∃ m, w.cell? ⟨0, 0, none⟩ = some (.int .i64 m)
  syn : ∃ ev, w.cell? ⟨1, 0, none⟩ = some ev ∧ (ev = .nilIface ∨ ∃ te pe, ev = .iface te pe)
  ran : ∃ ev, w.cell? ⟨2, 0, none⟩ = some ev ∧ (ev = .nilIface ∨ ∃ te pe, ev = .iface te pe)

theorem Glob.ext {w a : World} (g : Glob w) (h : Ext w a) : Glob a := by
  obtain ⟨m, hm⟩ := g.len
  obtain ⟨e1, h1, k1⟩ := g.syn
  obtain ⟨e2, h2, k2⟩ := g.ran
  exact ⟨Lib.tabBelow_of_tabIs g.tab a h, ⟨m, h.cell hm⟩, ⟨e1, h.cell h1, k1⟩, ⟨e2, h.cell h2, k2⟩⟩
theorem Glob.alloc {w : World} (g : Glob w) (o : Obj) : Glob (w.alloc o) := g.ext ((Ext.refl _).alloc _)
theorem Glob.drew {w : World} (g : Glob w) : Glob w.drew := g.ext ((Ext.refl _).drew)
theorem Glob.drewN {w : World} (g : Glob w) (n : Nat) : Glob (w.drewN n) := g.ext ((Ext.refl _).drewN n)

/-- The call returns a value, and all that was there is as it was. -/
def Ret (v : Value) (w : World) (e : Ending) (w' : World) : Prop := e = .returned v ∧ Ext w w'

end Go.Proofs.YtbiffaciinppiaaGreatDoor
end

section
namespace Go.Proofs.YtbiffaciinppiaaGreatDoor
open Go.Lib

/-- Numerator and denominator have at most k digits. -/
def Dg (k : Nat) (q : Rat) : Prop := q.num.natAbs < 10 ^ k ∧ q.den < 10 ^ k
theorem Dg.mono {j k : Nat} {q : Rat} (h : Dg j q) (hk : j ≤ k) : Dg k q :=
  ⟨Nat.lt_of_lt_of_le h.1 (Nat.pow_le_pow_right (by omega) hk), Nat.lt_of_lt_of_le h.2 (Nat.pow_le_pow_right (by omega) hk)⟩
theorem Dg.neg {k : Nat} {q : Rat} (h : Dg k q) : Dg k (-q) := by
  refine ⟨?_, ?_⟩
  · rw [Rat.neg_num]; have := h.1; omega
  · rw [Rat.neg_den]; exact h.2
theorem Dg.pos {k : Nat} {q : Rat} (h : Dg k q) : 1 ≤ k := by
  have h1 := h.2
  have h2 := q.den_pos
  cases k with
  | zero => simp at h1; omega
  | succ k => omega
theorem Dg.len {k : Nat} {q : Rat} (h : Dg k q) : (qL q).length ≤ 2 * k + 2 := by
  have hk := h.pos
  have h1 := (nDigits_le q.num.natAbs k hk).2 h.1
  have h2 := (nDigits_le q.den k hk).2 h.2
  unfold qL
  rw [List.length_append, itoa_len]
  split <;> split <;> simp [decDigits_length] <;> omega
theorem Dg.size {k : Nat} {q : Rat} (h : Dg k q) : (tQ q).size ≤ 2 * k + 2 := by rw [tQ_size]; exact h.len

theorem ba_ext {a b : ByteArray} (h : a.data.toList = b.data.toList) : a = b := by
  cases a; cases b; simp only [ByteArray.mk.injEq]; exact Array.toList_inj.1 h

theorem itoa_neg_pos {n : Int} (h : 0 < n) : itoa (-n) = 45 :: itoa n := by
  rw [itoa_ng (by omega), itoa_pos (by omega), Int.natAbs_neg, show n.natAbs = n.toNat by omega]
theorem qL_neg_pos {q : Rat} (h : 0 < q.num) : qL (-q) = 45 :: qL q := by
  unfold qL; rw [Rat.neg_num, Rat.neg_den, itoa_neg_pos h]; rfl
theorem qL_neg_neg {q : Rat} (h : q.num < 0) : qL q = 45 :: qL (-q) := by
  have := qL_neg_pos (q := -q) (by rw [Rat.neg_num]; omega)
  rwa [Rat.neg_neg] at this

theorem tI_neg_pos {n : Int} (h : 0 < n) : (⟨#[45]⟩ : ByteArray) ++ tI n = tI (-n) := by
  apply ba_ext; rw [tI_data, itoa_neg_pos h, ByteArray.data_append]; simp [tI]
theorem tQ_neg_pos {q : Rat} (h : 0 < q.num) : (⟨#[45]⟩ : ByteArray) ++ tQ q = tQ (-q) := by
  apply ba_ext; rw [tQ_data, qL_neg_pos h, ByteArray.data_append]; simp [tQ]
theorem tI_neg_neg {n : Int} (h : n < 0) : (tI n).extract 1 (tI n).size = tI (-n) := by
  have e := itoa_neg_pos (n := -n) (by omega)
  rw [Int.neg_neg] at e
  apply ba_ext; rw [extract_data, tI_size, tI_data, tI_data, e]
  simp
theorem tQ_neg_neg {q : Rat} (h : q.num < 0) : (tQ q).extract 1 (tQ q).size = tQ (-q) := by
  apply ba_ext; rw [extract_data, tQ_size, tQ_data, tQ_data, qL_neg_neg h]
  simp

/-! ### Fractions in lowest terms -/

theorem mkRat_num (n : Int) (d : Nat) (hd : d ≠ 0) : (mkRat n d).num = n / (Nat.gcd n.natAbs d : Int) := by
  rw [mkRat, dif_neg hd, Rat.normalize_eq]
theorem mkRat_den (n : Int) (d : Nat) (hd : d ≠ 0) : (mkRat n d).den = d / Nat.gcd n.natAbs d := by
  rw [mkRat, dif_neg hd, Rat.normalize_eq]
theorem add_mkRat (a b : Rat) : a + b = mkRat (a.num * b.den + b.num * a.den) (a.den * b.den) := by
  have h : a.den * b.den ≠ 0 := Nat.mul_ne_zero a.den_nz b.den_nz
  rw [mkRat, dif_neg h, Rat.add_def]
theorem mul_mkRat (a b : Rat) : a * b = mkRat (a.num * b.num) (a.den * b.den) := by
  have h : a.den * b.den ≠ 0 := Nat.mul_ne_zero a.den_nz b.den_nz
  rw [mkRat, dif_neg h, Rat.mul_def]

end Go.Proofs.YtbiffaciinppiaaGreatDoor
end

section
namespace Go.Proofs.YtbiffaciinppiaaGreatDoor
open Go.RowKit

def sgnI (n : Int) : Int := if n = 0 then 0 else if n < 0 then -1 else 1
def sgnQ (q : Rat) : Int := sgnI q.num

theorem sgnQ_zero : sgnQ 0 = 0 := by decide
theorem sgnQ_neg {q : Rat} (h : q < 0) : sgnQ q = -1 := by
  have := (num_neg_iff q).2 h
  unfold sgnQ sgnI; rw [if_neg (by omega), if_pos this]
theorem sgnQ_pos {q : Rat} (h0 : q ≠ 0) (h : ¬ q < 0) : sgnQ q = 1 := by
  have h1 := fun e => h ((num_neg_iff q).1 e)
  have h2 : q.num ≠ 0 := fun e => h0 (Rat.num_eq_zero.1 e)
  unfold sgnQ sgnI; rw [if_neg h2, if_neg h1]

theorem toList_beq {s : ByteArray} {l : List UInt8} (c : List UInt8) (h : s.data.toList = l) : (s.toList == c) = (l == c) := by rw [Lib.toList_data, h]
theorem tQ_is (q : Rat) (c : List UInt8) : ((tQ q).toList == c) = (qL q == c) := toList_beq c (tQ_data q)
theorem tQ_is0 (q : Rat) : ((tQ q).toList == [48]) = decide (q = 0) := by
  rw [tQ_toList, Bool.eq_iff_iff, beq_iff_eq, decide_eq_true_iff, qL_eq_zero]
theorem tQ_is1 (q : Rat) : ((tQ q).toList == [49]) = decide (q = 1) := by
  rw [tQ_toList, Bool.eq_iff_iff, beq_iff_eq, decide_eq_true_iff, qL_eq_one]
theorem tQ_pos (q : Rat) : 0 < (tQ q).size := by
  obtain ⟨b, r, e, _⟩ := qL_head q
  rw [tQ_size, e]; simp
theorem getElem_data (s : ByteArray) (i : Nat) (h : i < s.size) : s[i] = s.data.toList[i]'(by simpa using h) := by
  simp [ByteArray.getElem_eq_getElem_data]
theorem head_at {s : ByteArray} {b : UInt8} {r : List UInt8} (e : s.data.toList = b :: r) (h : 0 < s.size) : s[0] = b := by
  rw [getElem_data]; simp [e]
theorem tQ_first (q : Rat) (h : 0 < (tQ q).size) : (((tQ q)[0].toNat : Int) == 45) = decide (q < 0) := by
  obtain ⟨b, r, e, p1, p2⟩ := qL_head q
  rw [head_at (by rw [tQ_data, e]) h, Bool.eq_iff_iff, beq_iff_eq, decide_eq_true_iff]
  constructor
  · intro hb
    by_cases hq : q < 0
    · exact hq
    · have := p2 (Rat.not_lt.1 hq); omega
  · intro hq; rw [p1 hq]; rfl

theorem rSign (q : Rat) (w : World) : Calls Tryz.prog 133 #[.string (tQ q)] w (Ret (.int .i64 (sgnQ q)) w) := by
  have hz := tQ_pos q
  have h0 := tQ_is0 q
  have h1 := tQ_first q hz
  by_cases e0 : q = 0
  · have hr : sgnQ q = 0 := by rw [e0]; rfl
    rw [decide_eq_true e0] at h0
    have Hr := Lib.hid hr
    clear h1 hr e0
    go_enter Tryz.func133, Tryz.ntmps133
    go_wp2
    go_ret
    exact ⟨by rw [Hr.out]; rfl, Ext.refl _⟩
  · rw [decide_eq_false e0] at h0
    by_cases e1 : q < 0
    · have hr := sgnQ_neg e1
      rw [decide_eq_true e1] at h1
      have Hr := Lib.hid hr
      clear hr e0 e1
      go_enter Tryz.func133, Tryz.ntmps133
      go_wp2
      go_ret
      exact ⟨by rw [Hr.out]; rfl, Ext.refl _⟩
    · have hr := sgnQ_pos e0 e1
      rw [decide_eq_false e1] at h1
      have Hr := Lib.hid hr
      clear hr e0 e1
      go_enter Tryz.func133, Tryz.ntmps133
      go_wp2
      go_ret
      exact ⟨by rw [Hr.out]; rfl, Ext.refl _⟩

theorem rNeg (q : Rat) (w : World) (hl : (tQ q).size ≤ 1000000000000) : Calls Tryz.prog 84 #[.string (tQ q)] w (Ret (.string (tQ (-q))) w) := by
  have hz := tQ_pos q
  have h0 := tQ_is0 q
  have h1 := tQ_first q hz
  by_cases e0 : q = 0
  · have hr : tQ (-q) = tQ q := by rw [e0]; rfl
    rw [decide_eq_true e0] at h0
    have Hr := Lib.hid hr
    clear h1 hr e0
    go_enter Tryz.func84, Tryz.ntmps84
    go_wp2
    go_ret
    exact ⟨by rw [Hr.out]; rfl, Ext.refl _⟩
  · rw [decide_eq_false e0] at h0
    by_cases e1 : q < 0
    · have hr := tQ_neg_neg ((num_neg_iff q).2 e1)
      rw [decide_eq_true e1] at h1
      have Hr := Lib.hid hr
      clear hr e0 e1
      go_enter Tryz.func84, Tryz.ntmps84
      go_wp2
      go_ret
      exact ⟨by rw [← Hr.out]; rfl, Ext.refl _⟩
    · have hr := tQ_neg_pos (q := q) (by
        have h1 : ¬ q.num < 0 := fun e => e1 ((num_neg_iff q).1 e)
        have h2 : q.num ≠ 0 := fun e => e0 (Rat.num_eq_zero.1 e)
        omega)
      rw [decide_eq_false e1] at h1
      have Hr := Lib.hid hr
      clear hr e0 e1
      go_enter Tryz.func84, Tryz.ntmps84
      go_wp2
      go_ret
      exact ⟨by rw [← Hr.out]; rfl, Ext.refl _⟩

end Go.Proofs.YtbiffaciinppiaaGreatDoor
end
