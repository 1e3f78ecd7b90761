/- slices.Backward over one piece; integer.divide at short magnitudes. -/
import Derived.Test.YtbiffaciinppiaaGreatDoorVa14
import Derived.Test.YtbiffaciinppiaaGreatDoorVa07
import Derived.Test.YtbiffaciinppiaaGreatDoorVa15
import Derived.RangeFuncFrom
import Derived.Deep.RegionHeld3
set_option linter.unusedVariables false
set_option linter.unusedSimpArgs false
namespace Go.Proofs.YtbiffaciinppiaaGreatDoor
open Go.RowKit Go.Shelf
attribute [local go_sem] Oper.semAt_some

theorem cell_newl (W : World) (v : Value) (t : TypeId) : (W.alloc (.cells #[v] t)).cell? ⟨W.heap.size, 0, none⟩ = some v := by simp [go_sem]
def encB (x : Nat) : Unit → Array Value := fun _ => #[.int .i64 0, .int .u64 x]
theorem backward_calls (n : Nat) (v : Value) (a : Option Addr) (k c : Nat) (hv : v = .slice a k c) (w : World) :
    CallsIn Fence.wide n Tryz.prog 199 #[v] w fun e w' => e = .returned (.func (.func 228) #[] #[.pointer (some ⟨w.heap.size, 0, none⟩)]) ∧ w' = w.alloc (.cells #[v] 225) := by
  subst hv
  refine callsIn_wide.2 ?_
  go_enter Tryz.func199, Tryz.ntmps199
  go_wp2
  go_ret
  exact ⟨rfl, rfl⟩
set_option maxRecDepth 100000 in
set_option maxHeartbeats 2000000 in
theorem back1_in (n : Nat) (l Bn b c x : Nat) (J Jx : List Unit → World → Prop)
    (hY : ∀ pre y W, J pre W → pre.length < 1 → YieldAt Fence.wide (n - 1) Tryz.prog l (encB x y) W fun e W' =>
      (e = .returned (.bool true) ∧ J (pre ++ [y]) W' ∧ True) ∨ (e = .returned (.bool false) ∧ Jx (pre ++ [y]) W'))
    (W : World) (hc : W.cell? ⟨Bn, 0, none⟩ = some (.slice (some ⟨b, 0, none⟩) 1 c)) (hx : W.cell? ⟨b, 0, none⟩ = some (.int .u64 x)) (h0 : J [] W) :
    CallsIn Fence.wide n Tryz.prog 228 #[.func (.yield l) #[] #[], .pointer (some ⟨Bn, 0, none⟩)] W fun e W' => (∃ v, e = .returned v) ∧
      ((∃ ys, ys = [()] ∧ J ys W') ∨ (∃ pre, pre <+: [()] ∧ Jx pre W')) := by
  refine callsIn_of_wp Tryz.func228 rfl trivial ?_ rfl
  simp only [Tryz.ntmps228, List.size_toArray, List.length_cons, List.length_nil, Nat.reduceAdd, Nat.reduceSub, Array.replicate_succ, Array.replicate_zero, List.push_toArray, List.append_toArray, List.nil_append, List.cons_append]
  have HY := Lib.hid hY
  clear hY
  gi_wp2
  gi_loopw [3] (fun p wr => (p = .int .i64 0 ∧ wr = W) ∨ (p = .int .i64 (-1) ∧ J [()] wr)) (fun p _ => (intOf p + 1).toNat)
  case atStart => exact .inl ⟨rfl, rfl⟩
  case round =>
    rcases hrel with ⟨rfl, rfl⟩ | ⟨rfl, hJ⟩
    · obtain ⟨fn, tmps, assign, body, hy, hR⟩ := HY.out [] () wr h0 (by simp)
      simp only [encB] at hy
      gi_wp2
      refine ⟨fun hd => by simp [Fence.wide] at hd, hR.mono ?_⟩
      rintro e W3 (⟨rfl, hJ3, _⟩ | ⟨rfl, hJx3⟩)
      · gi_wp2
        exact ⟨.inr ⟨rfl, hJ3⟩, by simp [intOf]⟩
      · gi_wp2
        refine bodyPost_ret (results_none rfl _ _ _) rfl ?_
        exact ⟨⟨_, rfl⟩, .inr ⟨[] ++ [()], ⟨[], rfl⟩, hJx3⟩⟩
    · gi_wp2
      go_end0
      exact ⟨⟨_, rfl⟩, .inl ⟨_, rfl, hJ⟩⟩
theorem back_stops (n : Nat) (Bn b c x : Nat) (w : World) (hBn0 : Bn < w.heap.size) (hb : b < w.heap.size) (hc : w.cell? ⟨Bn, 0, none⟩ = some (.slice (some ⟨b, 0, none⟩) 1 c)) (hx : w.cell? ⟨b, 0, none⟩ = some (.int .u64 x)) :
    SeqStopsK Fence.wide n Tryz.prog 228 #[.pointer (some ⟨Bn, 0, none⟩)] (encB x) (fun _ _ => True) (fun ys => ys = [()]) (fun pre => pre <+: [()]) 1 w := fun l J Jx W hW _ _ hY h0 =>
  back1_in n l Bn b c x J Jx hY W ((Below.cell hW (p := ⟨Bn, 0, none⟩) (by show Bn < _; omega)).trans hc) ((Below.cell hW (p := ⟨b, 0, none⟩) (by show b < _; omega)).trans hx) h0

def DvI (n N vb : Nat) (vv : Value) (k r qv : Nat) (W : World) : Prop :=
  W.cell? ⟨n, 0, none⟩ = some vv ∧ W.cell? ⟨n + 1, 0, none⟩ = some (.slice (some ⟨N, 0, none⟩) 1 1) ∧ W.frozen? ⟨n + 1, 0, none⟩ = false ∧ W.cell? ⟨N, 0, none⟩ = some (.int .u64 qv) ∧ W.frozen? ⟨N, 0, none⟩ = false ∧ W.cell? ⟨N + 1, 0, none⟩ = some (.int .u64 r) ∧ W.frozen? ⟨N + 1, 0, none⟩ = false ∧ W.cell? ⟨vb, 0, none⟩ = some (.int .u64 k)
def DvT (n N vb : Nat) (vv : Value) (k m : Nat) : Bool → World → Prop
  | false, W => W.cell? ⟨n, 0, none⟩ = some vv ∧ W.cell? ⟨n + 1, 0, none⟩ = some (.slice (some ⟨N, 0, none⟩) 1 1) ∧ W.frozen? ⟨n + 1, 0, none⟩ = false ∧ (∃ q, W.cell? ⟨N, 0, none⟩ = some (.int .u64 q)) ∧ W.frozen? ⟨N, 0, none⟩ = false ∧ W.cell? ⟨N + 1, 0, none⟩ = some (.int .u64 m) ∧ W.frozen? ⟨N + 1, 0, none⟩ = false ∧ W.cell? ⟨vb, 0, none⟩ = some (.int .u64 k)
  | true, _ => True
theorem DvT.step {n N vb : Nat} {vv : Value} {k m : Nat} {q : Int} {W : World} (h : DvT n N vb vv k m false W) (h1 : n + 1 < N) (h2 : vb < N) :
    DvT n N vb vv k m false (W.setCell ⟨N, 0, none⟩ (.int .u64 q)) ∧ (W.setCell ⟨N, 0, none⟩ (.int .u64 q)).cell? ⟨N, 0, none⟩ = some (.int .u64 q) := by
  obtain ⟨g0, g1, g2, ⟨q0, g3⟩, g4, g5, g6, g7⟩ := h
  have j3 : (W.setCell ⟨N, 0, none⟩ (.int .u64 q)).cell? ⟨N, 0, none⟩ = some (.int .u64 q) := World.cell?_setCell_same _ _ _ g3
  exact ⟨⟨(World.cell?_setCell_other _ _ _ _ (by simp <;> omega)).trans g0, (World.cell?_setCell_other _ _ _ _ (by simp <;> omega)).trans g1, (World.frozen?_setCell _ _ _ _).trans g2, ⟨_, j3⟩, (World.frozen?_setCell _ _ _ _).trans g4,
    (World.cell?_setCell_other _ _ _ _ (by simp)).trans g5, (World.frozen?_setCell _ _ _ _).trans g6, (World.cell?_setCell_other _ _ _ _ (by simp <;> omega)).trans g7⟩, j3⟩
set_option maxRecDepth 100000 in
set_option maxHeartbeats 2000000 in
theorem divide_in (m k ub uc vb vc : Nat) (w : World) (hm : w.cell? ⟨ub, 0, none⟩ = some (.int .u64 m)) (hk : w.cell? ⟨vb, 0, none⟩ = some (.int .u64 k)) (hmk : k ≤ m) (h1 : 1 ≤ k) (hm9 : m < 10 ^ 9) :
    CallsIn Fence.wide 5 Tryz.prog 157 #[.slice (some ⟨ub, 0, none⟩) 1 uc, .slice (some ⟨vb, 0, none⟩) 1 vc] w (fun e w' => ∃ q r, e = .returned (.tuple #[q, r]) ∧ Mag (m / k) q w' ∧ Mag (m % k) r w' ∧ Ext w w') := by
  have HO := Lib.hid (fun W (X : Ext w W) => order_ok m k _ _ W (.inr ⟨by omega, ub, uc, rfl, X.cell hm⟩) (.inr ⟨by omega, vb, vc, rfl, X.cell hk⟩))
  have hcm : decide (cmpN m k < 0) = false := decide_eq_false (by unfold cmpN; rw [if_neg (by omega)]; split <;> omega)
  have hmk1 : ∀ w, (Instr.makeSlice 225 (.int .i64 1) (.int .i64 1)).run Tryz.prog w = .ok (.slice (some ⟨w.heap.size, 0, none⟩) 1 1) (w.alloc (.cells #[.int .u64 0] 267)) := fun _ => by kernel_rfl
  have hfo : Fence.wide.fn 198 := trivial
  have hfb : Fence.wide.fn 199 := trivial
  have hub := World.block_lt_of_cell? w _ hm
  have hvb := World.block_lt_of_cell? w _ hk
  simp only at hub hvb
  refine callsIn_of_wp_marks Tryz.func157 rfl trivial ?_ rfl
  simp only [Tryz.ntmps157, List.size_toArray, List.length_cons, List.length_nil, Nat.reduceAdd, Nat.reduceSub, Array.replicate_succ, Array.replicate_zero, List.push_toArray, List.append_toArray, List.nil_append, List.cons_append]
  generalize cmpN m k = cv at *
  gi_wp2
  obtain ⟨W0, hW0⟩ : ∃ W0, W0 = (w.alloc (.cells #[.slice (some ⟨vb, 0, none⟩) 1 vc] 225)).alloc (.cells #[.slice none 0 0] 225) := ⟨_, rfl⟩
  rw [← hW0]
  have X0 : Ext w W0 := by rw [hW0]; exact ((Ext.refl w).alloc _).alloc _
  have a0 : W0.cell? ⟨w.heap.size, 0, none⟩ = some (.slice (some ⟨vb, 0, none⟩) 1 vc) := by rw [hW0]; simp [go_sem]
  have a1 : W0.cell? ⟨w.heap.size + 1, 0, none⟩ = some (.slice none 0 0) := by rw [hW0]; simp [go_sem]
  have a2 : W0.frozen? ⟨w.heap.size + 1, 0, none⟩ = false := by rw [hW0]; simp [go_sem]
  clear hW0
  refine (callsIn_wide.2 (HO.out W0 X0)).mono ?_
  rintro e w1 ⟨rfl, Y1⟩
  have X1 := X0.trans Y1
  have b0 := Y1.cell a0
  have b1 := Y1.cell a1
  have b2 : w1.frozen? ⟨w.heap.size + 1, 0, none⟩ = false := (Y1.cells.2 _ _ (World.block_lt_of_cell? W0 _ a1)).trans a2
  have b3 := X1.cell hm
  have b4 := X1.cell hk
  have hl1 : w.heap.size + 1 < w1.heap.size := World.block_lt_of_cell? w1 _ b1
  clear a0 a1 a2 Y1 X0 HO
  gi_wp2_with (gi_at_call 199; refine (backward_calls _ _ _ _ _ rfl _).mono ?_; rintro e w' ⟨rfl, rfl⟩)
  obtain ⟨W2, hW2⟩ : ∃ W2, ((((w1.setCell ⟨w.heap.size + 1, 0, none⟩ (.slice (some ⟨w1.heap.size, 0, none⟩) 1 1)).alloc (.cells #[.int .u64 0] 267)).alloc (.cells #[.int .u64 0] 267)).alloc (.cells #[.slice (some ⟨ub, 0, none⟩) 1 uc] 225)) = W2 := ⟨_, rfl⟩
  rw [hW2]
  have hsz : W2.heap.size = w1.heap.size + 3 := by rw [← hW2]; simp
  have X2 : Ext w W2 := by
    rw [← hW2]; exact (((X1.setCell (by show w.heap.size ≤ w.heap.size + 1; omega) _).alloc _).alloc _).alloc _
  have E3 : Ext (w1.setCell ⟨w.heap.size + 1, 0, none⟩ (.slice (some ⟨w1.heap.size, 0, none⟩) 1 1)) W2 := by rw [← hW2]; exact (((Ext.refl _).alloc _).alloc _).alloc _
  have d0 : W2.cell? ⟨w.heap.size, 0, none⟩ = some (.slice (some ⟨vb, 0, none⟩) 1 vc) := E3.cell (by rw [World.cell?_setCell_other _ _ _ _ (by simp)]; exact b0)
  have d1 : W2.cell? ⟨w.heap.size + 1, 0, none⟩ = some (.slice (some ⟨w1.heap.size, 0, none⟩) 1 1) := E3.cell (World.cell?_setCell_same _ _ _ b1)
  have d2 : W2.frozen? ⟨w.heap.size + 1, 0, none⟩ = false := (E3.cells.2 _ _ (by rw [World.size_setCell]; omega)).trans (by rw [World.frozen?_setCell]; exact b2)
  have d3 : W2.cell? ⟨w1.heap.size, 0, none⟩ = some (.int .u64 0) := by rw [← hW2]; simp [go_sem]
  have d4 : W2.frozen? ⟨w1.heap.size, 0, none⟩ = false := by rw [← hW2]; simp [go_sem]
  have d5 : W2.cell? ⟨w1.heap.size + 1, 0, none⟩ = some (.int .u64 0) := by rw [← hW2]; simp [go_sem]
  have d6 : W2.frozen? ⟨w1.heap.size + 1, 0, none⟩ = false := by rw [← hW2]; simp [go_sem]
  have d7 : W2.cell? ⟨vb, 0, none⟩ = some (.int .u64 k) := X2.cell hk
  have d8 : W2.cell? ⟨ub, 0, none⟩ = some (.int .u64 m) := X2.cell hm
  have d9 : W2.cell? ⟨w1.heap.size + 1 + 1, 0, none⟩ = some (.slice (some ⟨ub, 0, none⟩) 1 uc) := by rw [← hW2]; simp [go_sem]
  clear hW2
  refine wpIn_rangeFunc_ownF rfl (by omega) (gf := 228) (lb := #[.pointer (some ⟨w1.heap.size + 1 + 1, 0, none⟩)]) rfl trivial (enters_of Tryz.func228 (by kernel_rfl) rfl)
    (back_stops 4 (w1.heap.size + 1 + 1) ub uc m W2 (by omega) (by omega) d9 d8) (fun _ _ => trivial) (fun _ _ _ _ _ _ _ _ => trivial) (Below.refl _ _) (fun _ => rfl)
    (fun pre W => DvI w.heap.size w1.heap.size vb (.slice (some ⟨vb, 0, none⟩) 1 vc) k (if pre = [] then 0 else m % k) (if pre = [] then 0 else m / k) W ∧ Below w.heap.size w W)
    (fun _ _ _ => False)
    (OwnFrom.and (Own.from (fun s A B row hs hg hr => ⟨cell_kept hs.1 hg hr, cell_kept hs.2.1 hg hr, (frozen_kept hs.2.1 hg hr).trans hs.2.2.1, cell_kept hs.2.2.2.1 hg hr, (frozen_kept hs.2.2.2.1 hg hr).trans hs.2.2.2.2.1, cell_kept hs.2.2.2.2.2.1 hg hr, (frozen_kept hs.2.2.2.2.2.1 hg hr).trans hs.2.2.2.2.2.2.1, cell_kept hs.2.2.2.2.2.2.2 hg hr⟩) _) (ownFrom_below (Nat.le_refl _) (by omega)))
    (fun _ _ _ _ _ hs _ _ => hs)
    ⟨⟨d0, d1, d2, d3, d4, d5, d6, d7⟩, X2⟩
    (fun x => { tmps := #[.slice (some ⟨ub, 0, none⟩) 1 uc, .slice (some ⟨vb, 0, none⟩) 1 vc, undef, .pointer (some ⟨w.heap.size, 0, none⟩), .pointer (some ⟨w.heap.size + 1, 0, none⟩), .slice none 0 0, .pointer (some ⟨w1.heap.size + 1, 0, none⟩), .int .i64 0, .int .u64 m, undef, undef, undef, undef, undef, .slice (some ⟨ub, 0, none⟩) 1 uc, .slice (some ⟨vb, 0, none⟩) 1 vc, .int .i64 cv, .bool false, undef, .slice (some ⟨vb, 0, none⟩) 1 vc, .int .i64 1, .bool true, .slice (some ⟨ub, 0, none⟩) 1 uc, .int .i64 1, .slice (some ⟨w1.heap.size, 0, none⟩) 1 1, .slice (some ⟨ub, 0, none⟩) 1 uc, .func (.func 228) #[] #[.pointer (some ⟨w1.heap.size + 1 + 1, 0, none⟩)], .int .i64 0, .int .u64 m, undef, undef, undef, undef, undef, undef, undef, undef, undef, undef, undef, undef, undef, undef, undef, undef, undef, undef, undef, undef, undef, undef, undef, undef, undef, undef, undef, undef, undef, undef, undef, undef, undef, undef, undef, undef, undef, undef, undef, undef, undef, undef, undef, undef, undef, undef, undef, undef, undef, undef, undef, undef, undef, undef, undef, undef, undef, undef, undef, undef, undef, undef, undef, undef, undef, undef, undef, undef, undef, undef, undef, undef, undef, undef, undef, undef, undef, undef, undef, undef, undef, undef, undef, undef, undef, undef, undef, undef, undef, undef, undef, undef, undef, undef, undef, undef, undef, undef, undef, undef, undef, undef, undef, undef, undef, undef, undef, undef, undef, undef, undef, undef, undef, undef, undef, undef, undef], defers := [] }) ?assign ?body ?done ?stop
  case assign =>
    intro l x W K hK
    simp only [encB]
    gi_wp2
    exact hK
  case body =>
    rintro l pre x W ⟨⟨e0, e1, e2, e3, e4, e5, e6, e7⟩, hB⟩ hlen
    obtain rfl : pre = [] := List.length_eq_zero_iff.1 (by omega)
    simp only [if_true] at e3 e5
    have e3 : W.cell? ⟨w1.heap.size, 0, none⟩ = some (.int .u64 0) := e3
    have e5 : W.cell? ⟨w1.heap.size + 1, 0, none⟩ = some (.int .u64 0) := e5
    have z1 : ¬ k = 0 := by omega
    have z2 : (m : Int).tdiv (k : Int) = ((m / k : Nat) : Int) := rfl
    have z3 : (m : Int).tmod (k : Int) = ((m % k : Nat) : Int) := rfl
    have hqq : m / k ≤ m := Nat.div_le_self _ _
    generalize m / k = qq at *
    generalize m % k = rr at *
    have hz := World.block_lt_of_cell? W _ e5
    gi_wp2
    have e8 : (W.setCell ⟨w1.heap.size + 1, 0, none⟩ (.int .u64 m)).cell? ⟨w1.heap.size + 1, 0, none⟩ = some (.int .u64 m) := World.cell?_setCell_same _ _ _ e5
    have hT : DvT w.heap.size w1.heap.size vb (.slice (some ⟨vb, 0, none⟩) 1 vc) k m false (W.setCell ⟨w1.heap.size + 1, 0, none⟩ (.int .u64 m)).drew :=
      ⟨(World.cell?_setCell_other _ _ _ _ (by simp <;> omega)).trans e0, (World.cell?_setCell_other _ _ _ _ (by simp <;> omega)).trans e1, (World.frozen?_setCell _ _ _ _).trans e2, ⟨0, (World.cell?_setCell_other _ _ _ _ (by simp)).trans e3⟩, (World.frozen?_setCell _ _ _ _).trans e4, e8, (World.frozen?_setCell _ _ _ _).trans e6, (World.cell?_setCell_other _ _ _ _ (by simp <;> omega)).trans e7⟩
    have hK5 : KeepsOthers W (W.setCell ⟨w1.heap.size + 1, 0, none⟩ (.int .u64 m)).drew := (KeepsOthers.setCell _ _ _).trans (KeepsOthers.drew _)
    have hB5 : Below w.heap.size w (W.setCell ⟨w1.heap.size + 1, 0, none⟩ (.int .u64 m)).drew := Below.drew (Below.setCell hB (by show w.heap.size ≤ w1.heap.size + 1; omega) _)
    refine wpIn_region_Z (Lets.round _ _ _) (DvT w.heap.size w1.heap.size vb (.slice (some ⟨vb, 0, none⟩) 1 vc) k m) 14 (by kernel_rfl) (by kernel_rfl) ?_
    generalize (W.setCell ⟨w1.heap.size + 1, 0, none⟩ (.int .u64 m)).drew = W5 at *
    clear e0 e1 e2 e3 e4 e5 e6 e7 e8
    refine wpAnyZ_take 14 (i := 0) (v := .slice (some ⟨w1.heap.size, 0, none⟩) 1 1) rfl rfl (by kernel_rfl) (by decide) (by kernel_rfl) (by kernel_rfl) (by kernel_rfl) (by kernel_rfl) (fun _ _ _ h => h.no.elim) hT (by rfl) ?hy ?_
    case hy => (intro w' hS; obtain ⟨g0, g1, g2, g3, g4, g5, g6, g7⟩ := hS; go_simp)
    try simp only [Act.put, List.setIfInBounds_toArray, List.set_cons_zero, List.set_cons_succ]
    refine wpAnyZ_take 14 (i := 1) (v := .int .i64 0) rfl rfl (by kernel_rfl) (by decide) (by kernel_rfl) (by kernel_rfl) (by kernel_rfl) (by kernel_rfl) (fun _ _ _ h => h.no.elim) hT (by rfl) ?hy ?_
    case hy => (intro w' hS; obtain ⟨g0, g1, g2, g3, g4, g5, g6, g7⟩ := hS; go_simp)
    try simp only [Act.put, List.setIfInBounds_toArray, List.set_cons_zero, List.set_cons_succ]
    refine wpAnyZ_take 14 (i := 2) (v := .int .u64 m) rfl rfl (by kernel_rfl) (by decide) (by kernel_rfl) (by kernel_rfl) (by kernel_rfl) (by kernel_rfl) (fun _ _ _ h => h.no.elim) hT (by rfl) ?hy ?_
    case hy => (intro w' hS; obtain ⟨g0, g1, g2, g3, g4, g5, g6, g7⟩ := hS; go_simp)
    try simp only [Act.put, List.setIfInBounds_toArray, List.set_cons_zero, List.set_cons_succ]
    refine wpAnyZ_take 14 (i := 3) (v := .slice (some ⟨vb, 0, none⟩) 1 vc) rfl rfl (by kernel_rfl) (by decide) (by kernel_rfl) (by kernel_rfl) (by kernel_rfl) (by kernel_rfl) (fun _ _ _ h => h.no.elim) hT (by rfl) ?hy ?_
    case hy => (intro w' hS; obtain ⟨g0, g1, g2, g3, g4, g5, g6, g7⟩ := hS; go_simp)
    try simp only [Act.put, List.setIfInBounds_toArray, List.set_cons_zero, List.set_cons_succ]
    refine wpAnyZ_take 14 (i := 4) (v := .pointer (some ⟨vb, 0, none⟩)) rfl rfl (by kernel_rfl) (by decide) (by kernel_rfl) (by kernel_rfl) (by kernel_rfl) (by kernel_rfl) (fun _ _ _ h => h.no.elim) hT (by rfl) ?hy ?_
    case hy => (intro w' hS; obtain ⟨g0, g1, g2, g3, g4, g5, g6, g7⟩ := hS; go_simp)
    try simp only [Act.put, List.setIfInBounds_toArray, List.set_cons_zero, List.set_cons_succ]
    refine wpAnyZ_take 14 (i := 5) (v := .int .u64 k) rfl rfl (by kernel_rfl) (by decide) (by kernel_rfl) (by kernel_rfl) (by kernel_rfl) (by kernel_rfl) (fun _ _ _ h => h.no.elim) hT (by rfl) ?hy ?_
    case hy => (intro w' hS; obtain ⟨g0, g1, g2, g3, g4, g5, g6, g7⟩ := hS; go_simp)
    try simp only [Act.put, List.setIfInBounds_toArray, List.set_cons_zero, List.set_cons_succ]
    refine wpAnyZ_take 14 (i := 6) (v := .int .u64 (IntKind.u64.wrap qq)) rfl rfl (by kernel_rfl) (by decide) (by kernel_rfl) (by kernel_rfl) (by kernel_rfl) (by kernel_rfl) (fun _ _ _ h => h.no.elim) hT (by rfl) ?hy ?_
    case hy => (intro w' hS; obtain ⟨g0, g1, g2, g3, g4, g5, g6, g7⟩ := hS; go_simp)
    try simp only [Act.put, List.setIfInBounds_toArray, List.set_cons_zero, List.set_cons_succ]
    refine wpAnyZ_take 14 (i := 7) (v := .int .u64 m) rfl rfl (by kernel_rfl) (by decide) (by kernel_rfl) (by kernel_rfl) (by kernel_rfl) (by kernel_rfl) (fun _ _ _ h => h.no.elim) hT (by rfl) ?hy ?_
    case hy => (intro w' hS; obtain ⟨g0, g1, g2, g3, g4, g5, g6, g7⟩ := hS; go_simp)
    try simp only [Act.put, List.setIfInBounds_toArray, List.set_cons_zero, List.set_cons_succ]
    refine wpAnyZ_take 14 (i := 8) (v := .slice (some ⟨vb, 0, none⟩) 1 vc) rfl rfl (by kernel_rfl) (by decide) (by kernel_rfl) (by kernel_rfl) (by kernel_rfl) (by kernel_rfl) (fun _ _ _ h => h.no.elim) hT (by rfl) ?hy ?_
    case hy => (intro w' hS; obtain ⟨g0, g1, g2, g3, g4, g5, g6, g7⟩ := hS; go_simp)
    try simp only [Act.put, List.setIfInBounds_toArray, List.set_cons_zero, List.set_cons_succ]
    refine wpAnyZ_take 14 (i := 9) (v := .pointer (some ⟨vb, 0, none⟩)) rfl rfl (by kernel_rfl) (by decide) (by kernel_rfl) (by kernel_rfl) (by kernel_rfl) (by kernel_rfl) (fun _ _ _ h => h.no.elim) hT (by rfl) ?hy ?_
    case hy => (intro w' hS; obtain ⟨g0, g1, g2, g3, g4, g5, g6, g7⟩ := hS; go_simp)
    try simp only [Act.put, List.setIfInBounds_toArray, List.set_cons_zero, List.set_cons_succ]
    refine wpAnyZ_take 14 (i := 10) (v := .int .u64 k) rfl rfl (by kernel_rfl) (by decide) (by kernel_rfl) (by kernel_rfl) (by kernel_rfl) (by kernel_rfl) (fun _ _ _ h => h.no.elim) hT (by rfl) ?hy ?_
    case hy => (intro w' hS; obtain ⟨g0, g1, g2, g3, g4, g5, g6, g7⟩ := hS; go_simp)
    try simp only [Act.put, List.setIfInBounds_toArray, List.set_cons_zero, List.set_cons_succ]
    refine wpAnyZ_take 14 (i := 11) (v := .int .u64 rr) rfl rfl (by kernel_rfl) (by decide) (by kernel_rfl) (by kernel_rfl) (by kernel_rfl) (by kernel_rfl) (fun _ _ _ h => h.no.elim) hT (by rfl) ?hy ?_
    case hy => (intro w' hS; obtain ⟨g0, g1, g2, g3, g4, g5, g6, g7⟩ := hS; go_simp)
    try simp only [Act.put, List.setIfInBounds_toArray, List.set_cons_zero, List.set_cons_succ]
    refine wpAnyZ_take 14 (i := 12) (v := .pointer (some ⟨w1.heap.size, 0, none⟩)) rfl rfl (by kernel_rfl) (by decide) (by kernel_rfl) (by kernel_rfl) (by kernel_rfl) (by kernel_rfl) (fun _ _ _ h => h.no.elim) hT (by rfl) ?hy ?_
    case hy => (intro w' hS; obtain ⟨g0, g1, g2, g3, g4, g5, g6, g7⟩ := hS; go_simp)
    try simp only [Act.put, List.setIfInBounds_toArray, List.set_cons_zero, List.set_cons_succ]
    have hT2 := hT
    obtain ⟨g0, g1, g2, ⟨q0, g3⟩, g4, g5, g6, g7⟩ := hT2
    refine wpAnyZ_one false (i := 13) (by kernel_rfl) (by kernel_rfl) rfl (fun K' hK => ?_)
    go_simp
    have hS6 := DvT.step (q := IntKind.u64.wrap qq) hT (by omega) (by omega)
    refine hK.out _ _ hS6.1 ?_
    clear hK K' g0 g1 g2 g3 g4 g5 g6 g7
    have g5 := hS6.1.2.2.2.2.2.1
    have g6 := hS6.1.2.2.2.2.2.2.1
    refine wpAnyZ_one true (i := 14) (by kernel_rfl) (by kernel_rfl) rfl (fun K' hK => ?_)
    go_simp
    refine hK.out _ _ trivial ?_
    clear hK K'
    refine wpAnyZ_done (by kernel_rfl) ⟨rfl, ?_⟩ _
    have hw : IntKind.u64.wrap (qq : Int) = qq := by rw [IntKind.wrap_u64]; omega
    rw [hw] at hS6 ⊢
    obtain ⟨⟨j0, j1, j2, j3, j4, j5, j6, j7⟩, jq⟩ := hS6
    have XK : KeepsOthers W ((W5.setCell ⟨w1.heap.size, 0, none⟩ (.int .u64 qq)).setCell ⟨w1.heap.size + 1, 0, none⟩ (.int .u64 rr)) := (hK5.trans (KeepsOthers.setCell _ _ _)).trans (KeepsOthers.setCell _ _ _)
    have XB : Below w.heap.size w ((W5.setCell ⟨w1.heap.size, 0, none⟩ (.int .u64 qq)).setCell ⟨w1.heap.size + 1, 0, none⟩ (.int .u64 rr)) := Below.setCell (Below.setCell hB5 (by show w.heap.size ≤ w1.heap.size; omega) _) (by show w.heap.size ≤ w1.heap.size + 1; omega) _
    have XI : DvI w.heap.size w1.heap.size vb (.slice (some ⟨vb, 0, none⟩) 1 vc) k rr qq ((W5.setCell ⟨w1.heap.size, 0, none⟩ (.int .u64 qq)).setCell ⟨w1.heap.size + 1, 0, none⟩ (.int .u64 rr)) :=
      ⟨(World.cell?_setCell_other _ _ _ _ (by simp <;> omega)).trans j0, (World.cell?_setCell_other _ _ _ _ (by simp <;> omega)).trans j1, (World.frozen?_setCell _ _ _ _).trans j2, (World.cell?_setCell_other _ _ _ _ (by simp)).trans jq, (World.frozen?_setCell _ _ _ _).trans j4,
        World.cell?_setCell_same _ _ _ j5, (World.frozen?_setCell _ _ _ _).trans j6, (World.cell?_setCell_other _ _ _ _ (by simp <;> omega)).trans j7⟩
    gi_wp2
    exact ⟨XK, trivial, XI, XB⟩
  case done =>
    rintro D ys W hD rfl ⟨⟨e0, e1, e2, e3, e4, e5, e6, e7⟩, hB⟩ hK
    simp only [List.cons_ne_nil, if_false] at e3 e5
    gi_wp2
    refine wpIn_wide.2 ?_
    have hz := World.block_lt_of_cell? W _ e5
    simp only at hz
    have hz1 : w.heap.size + 1 < W.heap.size := by omega
    have hz2 : w1.heap.size < W.heap.size := by omega
    have hK' : (((W.setCell ⟨w.heap.size + 1, 0, none⟩ (.slice (some ⟨w1.heap.size, 0, none⟩) (tr1 (m / k)) 1)).alloc (.cells #[.int .u64 ((m : Int) % (k : Int))] 267)).drew).heap[D]? = some (.deferred (some [])) :=
      (((KeepsOthers.setCell _ _ _).trans (KeepsOthers.alloc _ _)).trans (KeepsOthers.drew _)).2 D _ hK rfl
    have hc1 : (((W.setCell ⟨w.heap.size + 1, 0, none⟩ (.slice (some ⟨w1.heap.size, 0, none⟩) (tr1 (m / k)) 1)).alloc (.cells #[.int .u64 ((m : Int) % (k : Int))] 267)).drew).cell? ⟨w.heap.size + 1, 0, none⟩ = some (.slice (some ⟨w1.heap.size, 0, none⟩) (tr1 (m / k)) 1) :=
      ((Ext.refl _).alloc _).drew.cell (World.cell?_setCell_same _ _ _ e1)
    have hc2 : (((W.setCell ⟨w.heap.size + 1, 0, none⟩ (.slice (some ⟨w1.heap.size, 0, none⟩) (tr1 (m / k)) 1)).alloc (.cells #[.int .u64 ((m : Int) % (k : Int))] 267)).drew).cell? ⟨w1.heap.size, 0, none⟩ = some (.int .u64 ((m / k : Nat) : Int)) :=
      ((Ext.refl _).alloc _).drew.cell ((World.cell?_setCell_other _ _ _ _ (by simp <;> omega)).trans e3)
    have hc3 : (((W.setCell ⟨w.heap.size + 1, 0, none⟩ (.slice (some ⟨w1.heap.size, 0, none⟩) (tr1 (m / k)) 1)).alloc (.cells #[.int .u64 ((m : Int) % (k : Int))] 267)).drew).cell? ⟨W.heap.size, 0, none⟩ = some (.int .u64 ((m % k : Nat) : Int)) := by
      have := cell_newl (W.setCell ⟨w.heap.size + 1, 0, none⟩ (.slice (some ⟨w1.heap.size, 0, none⟩) (tr1 (m / k)) 1)) (.int .u64 ((m : Int) % (k : Int))) 267
      rw [World.size_setCell] at this
      exact this
    have hc4 : Below w.heap.size w (((W.setCell ⟨w.heap.size + 1, 0, none⟩ (.slice (some ⟨w1.heap.size, 0, none⟩) (tr1 (m / k)) 1)).alloc (.cells #[.int .u64 ((m : Int) % (k : Int))] 267)).drew) :=
      Below.drew (Below.alloc (Below.setCell hB (by show w.heap.size ≤ w.heap.size + 1; omega) _) (by rw [World.size_setCell]; exact hB.size) _)
    have hgp := grownBy_putObj' (((W.setCell ⟨w.heap.size + 1, 0, none⟩ (.slice (some ⟨w1.heap.size, 0, none⟩) (tr1 (m / k)) 1)).alloc (.cells #[.int .u64 ((m : Int) % (k : Int))] 267)).drew) D (.deferred none)
    have hd1 := cell_kept hc1 hgp (fun r e => by cases e; exact ⟨_, hK', rfl⟩)
    have hd2 := cell_kept hc2 hgp (fun r e => by cases e; exact ⟨_, hK', rfl⟩)
    have hd3 := cell_kept hc3 hgp (fun r e => by cases e; exact ⟨_, hK', rfl⟩)
    have hd4 := hc4.trans (belowPut _ D (by omega) hK')
    have HF := Lib.hid (And.intro (tr1_mag (c := 1) hd2) (And.intro (tr1_mag (c := 1) hd3) hd4))
    have HG := Lib.hid hd1
    have HKK := Lib.hid hK'
    clear hc1 hc2 hc3 hc4 hgp hd1 hd2 hd3 hd4 hK'
    refine wp_region_noPanic ?_
    go_region_with (first | (go_at_call 197; (with_reducible refine (trim1_eq w1.heap.size 1 (m / k) _ ?hc).mono ?_); (case hc => simp [go_sem, e3, hz2]); rintro e w' ⟨rfl, rfl⟩) | (go_at_call 197; (with_reducible refine (trim1_eq _ 1 (m % k) _ ?hc).mono ?_); (case hc => simp [go_sem]); rintro e w' ⟨rfl, rfl⟩))
    all_goals refine NoPanic.normal ?_
    all_goals go_wp2
    all_goals gi_wp2
    all_goals
      refine ⟨by simp, .inl ⟨D, _, rfl, run_takeDeferred HKK.out, ?_⟩⟩
      have hd1 := HG.out
      refine ⟨.tuple #[.slice (some ⟨w1.heap.size, 0, none⟩) (tr1 (m / k)) 1, .slice (some ⟨W.heap.size, 0, none⟩) (tr1 (m % k)) 1], by simp [results, Tryz.results157, go_sem, hd1], _, _, rfl, HF.out.1, HF.out.2.1, HF.out.2.2⟩
  case stop =>
    rintro D c pre W _ _ h _
    exact h.elim
end Go.Proofs.YtbiffaciinppiaaGreatDoor
