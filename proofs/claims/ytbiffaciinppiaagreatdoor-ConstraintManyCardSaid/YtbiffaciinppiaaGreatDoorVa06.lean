/- The kinds of keys of the program's maps: pairs of ints, places, ints, strings. The iterator of mesh.sides: the three sides of a triangle. -/
import Derived.Test.YtbiffaciinppiaaGreatDoorVa01
import Derived.Test.YtbiffaciinppiaaGreatDoorVa05
import Derived.DeepKeys4
import Derived.WideKeyPair
import Derived.StringKeys
import Derived.RangeFuncNested
import Derived.RangeFuncBound
import Derived.RangeFuncCalls
import Derived.RangeFuncLeaves
import Derived.Shelf.Abstract
import Derived.Shelf.RegionOpen
import Derived.OwnWalkIn
import Derived.TacticsInMore
import Derived.LoopNIn
import Derived.LoopIn
import Derived.RegionIn
import Derived.Test.YtbiffaciinppiaaGreatDoorVa03
set_option linter.unusedVariables false
set_option linter.unusedSimpArgs false
section
namespace Go.Proofs.YtbiffaciinppiaaGreatDoor
open Go.Maps

theorem laidOut : laidOutB Tryz.prog = true := by kernel_rfl
theorem rowPair : (158 : TypeId) < Tryz.prog.types.size := of_decide_eq_true (by kernel_rfl)
set_option maxRecDepth 100000 in
theorem widePair : (match Tryz.prog.underlying 158 with | some (.array _ _) | some (.struct _) => true | _ => false) = true := by rw [Tryz.underlying158]
set_option maxRecDepth 1000000 in
theorem KPair : Keyed Tryz.prog 158 := Keyed.of_law (deep_law_laid laidOut (m := 2) (by omega) rowPair (by kernel_rfl) widePair)
theorem KInt : Keyed Tryz.prog 3 := int_keyed Tryz.underlying3
theorem KStr : Keyed Tryz.prog 9 := string_keyed Tryz.underlying9
theorem rowPt : (91 : TypeId) < Tryz.prog.types.size := of_decide_eq_true (by kernel_rfl)
set_option maxRecDepth 100000 in
theorem widePt : (match Tryz.prog.underlying 91 with | some (.array _ _) | some (.struct _) => true | _ => false) = true := by rw [Tryz.underlying91]
set_option maxRecDepth 1000000 in
theorem KPt : Keyed Tryz.prog 91 := Keyed.of_law (deep_law_laid laidOut (m := 2) (by omega) rowPt (by kernel_rfl) widePt)

theorem sizeTypes : ∃ m, Tryz.prog.types.size = m + 1 := ⟨Tryz.prog.types.size - 1, by
  have : 0 < Tryz.prog.types.size := of_decide_eq_true (by kernel_rfl)
  omega⟩
theorem arrPair : WideMaps.ArrKey Tryz.prog 158 3 2 := ⟨Tryz.underlying158, by kernel_rfl, by kernel_rfl, by kernel_rfl⟩

/-- An int that an int64 holds. -/
def I64 (n : Int) : Prop := -9223372036854775808 ≤ n ∧ n ≤ 9223372036854775807
theorem I64.wf {n : Int} (h : I64 n) : (Lit.int .i64 n).wf = true := WalkArith.wf_i64 h

theorem key_pair {a b : Int} (ha : I64 a) (hb : I64 b) : ∃ kl, keyOf Tryz.prog 158 (.agg #[.int .i64 a, .int .i64 b]) = some kl :=
  ⟨_, WideMaps.keyOf_pair arrPair Tryz.underlying3 sizeTypes ha.wf hb.wf⟩
theorem key_int {a : Int} (ha : I64 a) : ∃ kl, keyOf Tryz.prog 3 (.int .i64 a) = some kl :=
  ⟨_, keyOf_int_mk Tryz.underlying3 ha.wf⟩
theorem key_str {s : ByteArray} (hs : s.size ≤ maxLen) : ∃ kl, keyOf Tryz.prog 9 (.string s) = some kl :=
  ⟨_, WideMaps.keyOf_string_mk Tryz.underlying9 hs⟩
theorem keyTypePt : Tryz.prog.keyType 91 = true := by kernel_rfl
theorem cellsPt : Tryz.prog.cellsOf 91 = 2 := by kernel_rfl
theorem cellsRat : Tryz.prog.cellsOf 54 = 1 := by kernel_rfl
theorem key_pt {s t : ByteArray} (hs : s.size ≤ maxLen) (ht : t.size ≤ maxLen) : ∃ kl, keyOf Tryz.prog 91 (.agg #[.string s, .string t]) = some kl := by
  obtain ⟨m, hm⟩ := sizeTypes
  unfold keyOf
  simp only [Tryz.underlying91]
  rw [if_pos (by simp [keyTypePt, Value.formed, Tryz.underlying91, cellsPt]), hm]
  unfold Program.keyLits
  simp only [Tryz.underlying91, Value.cells]
  simp [cellsPt, cellsRat, Program.keyLits, Tryz.underlying54, hs, ht]

theorem key_int_inv {v : Value} {kl : Lit} (h : keyOf Tryz.prog 3 v = some kl) : ∃ x : Int, v = .int .i64 x := by
  obtain ⟨x, h1, _⟩ := Maps.keyOf_int_inv Tryz.underlying3 h
  exact ⟨x, h1⟩
theorem elem_int_inv {v : Value} {y : DataW Unit × List MemPlace} (h : plainElem Tryz.prog 3 v = some y) : ∃ c : Int, v = .int .i64 c := by
  obtain ⟨c, h1, _⟩ := plainElem_int_inv Tryz.underlying3 h
  exact ⟨c, h1⟩
theorem cellsPair : Tryz.prog.cellsOf 158 = 2 := by kernel_rfl
theorem cellsInt : Tryz.prog.cellsOf 3 = 1 := by kernel_rfl
set_option maxRecDepth 1000000 in
theorem key_pair_inv {v : Value} {kl : Lit} (h : keyOf Tryz.prog 158 v = some kl) : ∃ a b : Int, v = .agg #[.int .i64 a, .int .i64 b] ∧ I64 a ∧ I64 b := by
  obtain ⟨m, hm⟩ := sizeTypes
  unfold keyOf at h
  simp only [Tryz.underlying158] at h
  split at h
  · rename_i hc
    simp only [Bool.and_eq_true] at hc
    have hf := hc.2
    rw [hm] at h
    simp only [Option.map_eq_some_iff] at h
    obtain ⟨ls, hls, _⟩ := h
    cases v with
    | agg cs =>
      simp only [Program.keyLits, Tryz.underlying158, Value.cells] at hls
      split at hls
      · rename_i hlen
        rw [cellsPair] at hlen
        obtain ⟨l⟩ := cs
        match l, hlen with
        | [c0, c1], _ =>
          simp only [Option.map_eq_some_iff] at hls
          obtain ⟨xs, hx, _⟩ := hls
          rw [show List.range 2 = [0, 1] from rfl, List.mapM_cons, List.mapM_cons, List.mapM_nil] at hx
          simp only [bind, Option.bind_eq_some_iff, cellsInt] at hx
          obtain ⟨y0, h0, _, ⟨y1, h1, _⟩, _⟩ := hx
          cases m with
          | zero => have h9 : 1 < Tryz.prog.types.size := of_decide_eq_true (by kernel_rfl)
                    omega
          | succ m =>
            simp only [Program.keyLits, Tryz.underlying3] at h0 h1
            cases c0 <;> simp at h0
            cases c1 <;> simp at h1
            obtain ⟨⟨rfl, w0⟩, _⟩ := h0
            obtain ⟨⟨rfl, w1⟩, _⟩ := h1
            have b0 := bounds_i64 w0
            have b1 := bounds_i64 w1
            exact ⟨_, _, rfl, b0, b1⟩
      · cases hls
    | _ => simp [Value.formed, Tryz.underlying158] at hf
  · cases h

end Go.Proofs.YtbiffaciinppiaaGreatDoor
end

section
namespace Go.Proofs.YtbiffaciinppiaaGreatDoor
open Go.RowKit Go.Shelf
attribute [local go_sem] Oper.semAt_some

/-- A side: its number, and its two ends. -/
abbrev Sd := { x : Int × Int × Int // I64 x.2.1 ∧ I64 x.2.2 }
def encSd (x : Sd) : Array Value := #[.int .i64 x.1.1, .agg #[.int .i64 x.1.2.1, .int .i64 x.1.2.2]]
def sidesOf (a b c : Int) (ha : I64 a) (hb : I64 b) (hc : I64 c) : List Sd := [⟨(0, a, b), ha, hb⟩, ⟨(1, b, c), hb, hc⟩, ⟨(2, c, a), hc, ha⟩]

/-- Block Bn is as it was. -/
def KB (Bn : Nat) (W W' : World) : Prop := ∀ o, W'.cell? ⟨Bn, o, none⟩ = W.cell? ⟨Bn, o, none⟩
theorem KB.refl (Bn : Nat) (W : World) : KB Bn W W := fun _ => rfl
theorem KB.trans {Bn : Nat} {A B C : World} (h : KB Bn A B) (k : KB Bn B C) : KB Bn A C := fun o => (k o).trans (h o)

def yEnd (J Jx : List Sd → World → Prop) (n₀ : Nat) (xs : List Sd) (W : World) (e : Ending) (W' : World) : Prop :=
  ∃ bv : Bool, e = .returned (.bool bv) ∧ Hid (bv = true → J xs W' ∧ KB n₀ W W') ∧ Hid (bv = false → Jx xs W')

set_option maxRecDepth 100000 in
set_option maxHeartbeats 2000000 in
theorem sides1_in (n : Nat) (l Bn : Nat) (a b c : Int) (ha : I64 a) (hb0 : I64 b) (hc : I64 c) (J Jx : List Sd → World → Prop)
    (hY : ∀ pre x W, J pre W → pre.length < 3 → YieldAt Fence.wide (n - 1) Tryz.prog l (encSd x) W fun e W' =>
      (e = .returned (.bool true) ∧ J (pre ++ [x]) W' ∧ KB Bn W W') ∨ (e = .returned (.bool false) ∧ Jx (pre ++ [x]) W'))
    (W : World) (c0 : W.cell? ⟨Bn, 0, none⟩ = some (.int .i64 a)) (c1 : W.cell? ⟨Bn, 1, none⟩ = some (.int .i64 b)) (c2 : W.cell? ⟨Bn, 2, none⟩ = some (.int .i64 c)) (h0 : J [] W) (hJd : ∀ pre W, J pre W → J pre W.drew) :
    CallsIn Fence.wide n Tryz.prog 232 #[.func (.yield l) #[] #[], .pointer (some ⟨Bn, 0, none⟩)] W fun e W' => (∃ v, e = .returned v) ∧
      ((∃ ys, ys = sidesOf a b c ha hb0 hc ∧ J ys W') ∨ (∃ pre, pre <+: sidesOf a b c ha hb0 hc ∧ Jx pre W')) := by
  refine callsIn_of_wp Tryz.func232 rfl trivial ?_ rfl
  simp only [Tryz.ntmps232, List.size_toArray, List.length_cons, List.length_nil, Nat.reduceAdd, Nat.reduceSub, Array.replicate_succ, Array.replicate_zero, List.push_toArray, List.append_toArray, List.nil_append, List.cons_append]
  have HY := Lib.hid hY
  have HJd := Lib.hid hJd
  clear hY hJd
  gi_wp2
  gi_loopw [4] (fun p wr => ∃ k : Int, 0 ≤ k ∧ k ≤ 3 ∧ p = .int .i64 k ∧ J ((sidesOf a b c ha hb0 hc).take k.toNat) wr ∧ KB Bn W wr) (fun p _ => 3 - (intOf p).toNat)
  case atStart => exact ⟨0, by omega, by omega, rfl, h0, KB.refl _ _⟩
  case round =>
    obtain ⟨k, hk0, hk, rfl, hJ, hb⟩ := hrel
    have d0 : wr.cell? ⟨Bn, 0, none⟩ = some (.int .i64 a) := (hb 0).trans c0
    have d1 : wr.cell? ⟨Bn, 1, none⟩ = some (.int .i64 b) := (hb 1).trans c1
    have d2 : wr.cell? ⟨Bn, 2, none⟩ = some (.int .i64 c) := (hb 2).trans c2
    rcases (show k = 0 ∨ k = 1 ∨ k = 2 ∨ k = 3 by omega) with rfl | rfl | rfl | rfl
    · obtain ⟨fn, tmps, assign, body, hy, hR⟩ := HY.out [] ⟨(0, a, b), ha, hb0⟩ wr.drew (HJd.out _ _ hJ) (by simp)
      simp only [encSd] at hy
      have HR := Lib.hid (hR.mono (R' := yEnd J Jx Bn ([] ++ [⟨(0, a, b), ha, hb0⟩]) wr.drew) (fun e W' h => by
        rcases h with ⟨h1, h2⟩ | ⟨h1, h2⟩
        · exact ⟨true, h1, Lib.hid (fun _ => h2), Lib.hid (fun h => by cases h)⟩
        · exact ⟨false, h1, Lib.hid (fun h => by cases h), Lib.hid (fun _ => h2)⟩))
      clear hR
      have q1 : IntKind.i64.wrap 1 = 1 := rfl
      have q2 : (1 : Int).tmod 3 = 1 := rfl
      gi_wp2
      refine wpIn_region_still_tail 11 (by kernel_rfl) (by kernel_rfl) ?_
      simp only [List.take_succ_cons, List.take_zero, List.drop_succ_cons, List.drop_zero]
      change wpStill _ _ wr.drew (fun a' => wpListIn _ _ _ _ _ _ a' wr.drew) _ _
      have e0 : wr.drew.cell? ⟨Bn, 0, none⟩ = some (.int .i64 a) := d0
      have e1 : wr.drew.cell? ⟨Bn, 1, none⟩ = some (.int .i64 b) := d1
      have e2 : wr.drew.cell? ⟨Bn, 2, none⟩ = some (.int .i64 c) := d2
      have hb' : KB Bn W wr.drew := hb
      generalize wr.drew = wd at *
      repeat still_step
      refine wpStill_nil ?_
      gi_wp2
      refine ⟨fun hd => by simp [Fence.wide] at hd, HR.out.mono ?_⟩
      rintro e W3 ⟨bv, rfl, hbt, hbf⟩
      cases bv with
      | true =>
        obtain ⟨hJ3, hk3⟩ := hbt.out rfl
        gi_wp2
        exact ⟨⟨1, by omega, by omega, rfl, hJ3, hb'.trans hk3⟩, by simp [intOf]⟩
      | false =>
        have hJx3 := hbf.out rfl
        gi_wp2
        refine bodyPost_ret (results_none rfl _ _ _) rfl ?_
        exact ⟨⟨_, rfl⟩, .inr ⟨[] ++ [⟨(0, a, b), ha, hb0⟩], ⟨[⟨(1, b, c), hb0, hc⟩, ⟨(2, c, a), hc, ha⟩], rfl⟩, hJx3⟩⟩
    · obtain ⟨fn, tmps, assign, body, hy, hR⟩ := HY.out [⟨(0, a, b), ha, hb0⟩] ⟨(1, b, c), hb0, hc⟩ wr.drew (HJd.out _ _ hJ) (by simp)
      simp only [encSd] at hy
      have HR := Lib.hid (hR.mono (R' := yEnd J Jx Bn ([⟨(0, a, b), ha, hb0⟩] ++ [⟨(1, b, c), hb0, hc⟩]) wr.drew) (fun e W' h => by
        rcases h with ⟨h1, h2⟩ | ⟨h1, h2⟩
        · exact ⟨true, h1, Lib.hid (fun _ => h2), Lib.hid (fun h => by cases h)⟩
        · exact ⟨false, h1, Lib.hid (fun h => by cases h), Lib.hid (fun _ => h2)⟩))
      clear hR
      have q1 : IntKind.i64.wrap 2 = 2 := rfl
      have q2 : (2 : Int).tmod 3 = 2 := rfl
      gi_wp2
      refine wpIn_region_still_tail 11 (by kernel_rfl) (by kernel_rfl) ?_
      simp only [List.take_succ_cons, List.take_zero, List.drop_succ_cons, List.drop_zero]
      change wpStill _ _ wr.drew (fun a' => wpListIn _ _ _ _ _ _ a' wr.drew) _ _
      have e0 : wr.drew.cell? ⟨Bn, 0, none⟩ = some (.int .i64 a) := d0
      have e1 : wr.drew.cell? ⟨Bn, 1, none⟩ = some (.int .i64 b) := d1
      have e2 : wr.drew.cell? ⟨Bn, 2, none⟩ = some (.int .i64 c) := d2
      have hb' : KB Bn W wr.drew := hb
      generalize wr.drew = wd at *
      repeat still_step
      refine wpStill_nil ?_
      gi_wp2
      refine ⟨fun hd => by simp [Fence.wide] at hd, HR.out.mono ?_⟩
      rintro e W3 ⟨bv, rfl, hbt, hbf⟩
      cases bv with
      | true =>
        obtain ⟨hJ3, hk3⟩ := hbt.out rfl
        gi_wp2
        exact ⟨⟨2, by omega, by omega, rfl, hJ3, hb'.trans hk3⟩, by simp [intOf]⟩
      | false =>
        have hJx3 := hbf.out rfl
        gi_wp2
        refine bodyPost_ret (results_none rfl _ _ _) rfl ?_
        exact ⟨⟨_, rfl⟩, .inr ⟨[⟨(0, a, b), ha, hb0⟩] ++ [⟨(1, b, c), hb0, hc⟩], ⟨[⟨(2, c, a), hc, ha⟩], rfl⟩, hJx3⟩⟩
    · obtain ⟨fn, tmps, assign, body, hy, hR⟩ := HY.out [⟨(0, a, b), ha, hb0⟩, ⟨(1, b, c), hb0, hc⟩] ⟨(2, c, a), hc, ha⟩ wr.drew (HJd.out _ _ hJ) (by simp)
      simp only [encSd] at hy
      have HR := Lib.hid (hR.mono (R' := yEnd J Jx Bn ([⟨(0, a, b), ha, hb0⟩, ⟨(1, b, c), hb0, hc⟩] ++ [⟨(2, c, a), hc, ha⟩]) wr.drew) (fun e W' h => by
        rcases h with ⟨h1, h2⟩ | ⟨h1, h2⟩
        · exact ⟨true, h1, Lib.hid (fun _ => h2), Lib.hid (fun h => by cases h)⟩
        · exact ⟨false, h1, Lib.hid (fun h => by cases h), Lib.hid (fun _ => h2)⟩))
      clear hR
      have q1 : IntKind.i64.wrap 3 = 3 := rfl
      have q2 : (3 : Int).tmod 3 = 0 := rfl
      gi_wp2
      refine wpIn_region_still_tail 11 (by kernel_rfl) (by kernel_rfl) ?_
      simp only [List.take_succ_cons, List.take_zero, List.drop_succ_cons, List.drop_zero]
      change wpStill _ _ wr.drew (fun a' => wpListIn _ _ _ _ _ _ a' wr.drew) _ _
      have e0 : wr.drew.cell? ⟨Bn, 0, none⟩ = some (.int .i64 a) := d0
      have e1 : wr.drew.cell? ⟨Bn, 1, none⟩ = some (.int .i64 b) := d1
      have e2 : wr.drew.cell? ⟨Bn, 2, none⟩ = some (.int .i64 c) := d2
      have hb' : KB Bn W wr.drew := hb
      generalize wr.drew = wd at *
      repeat still_step
      refine wpStill_nil ?_
      gi_wp2
      refine ⟨fun hd => by simp [Fence.wide] at hd, HR.out.mono ?_⟩
      rintro e W3 ⟨bv, rfl, hbt, hbf⟩
      cases bv with
      | true =>
        obtain ⟨hJ3, hk3⟩ := hbt.out rfl
        gi_wp2
        exact ⟨⟨3, by omega, by omega, rfl, hJ3, hb'.trans hk3⟩, by simp [intOf]⟩
      | false =>
        have hJx3 := hbf.out rfl
        gi_wp2
        refine bodyPost_ret (results_none rfl _ _ _) rfl ?_
        exact ⟨⟨_, rfl⟩, .inr ⟨[⟨(0, a, b), ha, hb0⟩, ⟨(1, b, c), hb0, hc⟩] ++ [⟨(2, c, a), hc, ha⟩], ⟨[], rfl⟩, hJx3⟩⟩
    · gi_wp2
      go_end0
      exact ⟨⟨_, rfl⟩, .inl ⟨_, rfl, hJ⟩⟩
end Go.Proofs.YtbiffaciinppiaaGreatDoor
end
