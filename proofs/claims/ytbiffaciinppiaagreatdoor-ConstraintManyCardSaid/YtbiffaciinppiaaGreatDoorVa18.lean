/- Plain: the eight planned meshes are right: checked on a grid of integers; no program. klippelaw12.Place. -/
import Derived.Test.YtbiffaciinppiaaGreatDoorVa14
import Derived.Test.YtbiffaciinppiaaGreatDoorVa17
import Derived.Test.YtbiffaciinppiaaGreatDoorVa13
import Derived.Test.YtbiffaciinppiaaGreatDoorVa10
set_option linter.unusedVariables false
set_option linter.unusedSimpArgs false
section
namespace Go.Proofs.YtbiffaciinppiaaGreatDoor

/-- A place of the grid, moved and made smaller. -/
def PZ (s t : Int) (k : Rat) (z : Int × Int) : Rat × Rat := (((z.1 + s : Int) : Rat) * k, ((z.2 + t : Int) : Rat) * k)
def arZ (a b c : Int × Int) : Int := (b.1 - a.1) * (c.2 - a.2) - (b.2 - a.2) * (c.1 - a.1)
theorem arQ_PZ (s t : Int) (k : Rat) (a b c : Int × Int) : arQ (PZ s t k a) (PZ s t k b) (PZ s t k c) = (arZ a b c : Rat) * (k * k) := by
  unfold arQ arZ PZ
  simp only [Rat.intCast_sub, Rat.intCast_mul, Rat.intCast_add]
  grind
theorem sgnQ_mul (n : Int) (q : Rat) (hq : 0 < q) : sgnQ ((n : Rat) * q) = sgnI n := by
  by_cases h0 : n = 0
  · subst h0
    have : ((0 : Int) : Rat) * q = 0 := by rw [Rat.intCast_zero, Rat.zero_mul]
    rw [this]; rfl
  · by_cases h : n < 0
    · rw [sgnQ_neg ((Rat.mul_neg_iff_of_pos_right hq).2 (Rat.intCast_neg_iff.2 h))]
      unfold sgnI; rw [if_neg h0, if_pos h]
    · have hp : 0 < (n : Rat) * q := (Rat.mul_pos_iff_of_pos_right hq).2 (Rat.intCast_pos.2 (by omega))
      rw [sgnQ_pos (fun e => by rw [e] at hp; exact absurd hp Rat.lt_irrefl) (fun e => absurd (Rat.le_of_lt hp) (Rat.not_le.2 e))]
      unfold sgnI; rw [if_neg h0, if_neg h]
def cmpZ (a b : Int) : Int := if a = b then 0 else if a < b then -1 else 1
theorem cmpQ_mul (a b s : Int) (k : Rat) (hk : 0 < k) : cmpQ (((a + s : Int) : Rat) * k) (((b + s : Int) : Rat) * k) = cmpZ a b := by
  have h1 : ((((a + s : Int) : Rat) * k) < (((b + s : Int) : Rat) * k)) ↔ a < b := by
    rw [Rat.mul_lt_mul_right hk, Rat.intCast_lt_intCast]; omega
  have h2 : ((((a + s : Int) : Rat) * k) = (((b + s : Int) : Rat) * k)) ↔ a = b := by
    constructor
    · intro e
      rcases Int.lt_trichotomy a b with h | h | h
      · have := h1.2 h; rw [e] at this; exact absurd this Rat.lt_irrefl
      · exact h
      · have h3 : ((((b + s : Int) : Rat) * k) < (((a + s : Int) : Rat) * k)) := by
          rw [Rat.mul_lt_mul_right hk, Rat.intCast_lt_intCast]; omega
        rw [e] at h3; exact absurd h3 Rat.lt_irrefl
    · rintro rfl; rfl
  unfold cmpQ cmpZ
  simp only [h1, h2]

def ptZ (zs : List (Int × Int)) (cyc : List Int) (i : Nat) : Int × Int := zs.getD (cyc.getD (i % cyc.length) 0).toNat (0, 0)
def upZ (a b : Int × Int) : Bool := decide (0 < cmpZ b.2 a.2) || (decide (cmpZ b.2 a.2 = 0) && decide (0 < cmpZ b.1 a.1))
def tnZ (zs : List (Int × Int)) (cyc : List Int) (i : Nat) : Int := sgnI (arZ (ptZ zs cyc i) (ptZ zs cyc (i + 1)) (ptZ zs cyc (i + 2)))
def upAtZ (zs : List (Int × Int)) (cyc : List Int) (i : Nat) : Bool := upZ (ptZ zs cyc i) (ptZ zs cyc (i + 1))
def roundsZ (zs : List (Int × Int)) (cyc : List Int) : Nat → Nat
  | 0 => 0
  | k + 1 => roundsZ zs cyc k + (if !upAtZ zs cyc k && upAtZ zs cyc (k + 1) then 1 else 0)
def onceZ (zs : List (Int × Int)) (cyc : List Int) : Bool := (List.range cyc.length).all (fun i => decide (0 ≤ tnZ zs cyc i)) && (roundsZ zs cyc cyc.length == 1)

theorem getD_PZ (s t : Int) (k : Rat) (zs : List (Int × Int)) (n : Nat) (h : n < zs.length) : (zs.map (PZ s t k)).getD n (0, 0) = PZ s t k (zs.getD n (0, 0)) := by
  rw [List.getD_eq_getElem?_getD, List.getD_eq_getElem?_getD, List.getElem?_map, List.getElem?_eq_getElem h]; rfl
section
variable {s t : Int} {k : Rat} {zs : List (Int × Int)} {cyc : List Int}
theorem ptAt_PZ (hn : 0 < cyc.length) (hin : ∀ c ∈ cyc, 0 ≤ c ∧ c < zs.length) (i : Nat) : ptAt (zs.map (PZ s t k)) cyc i = PZ s t k (ptZ zs cyc i) := by
  have hm : i % cyc.length < cyc.length := Nat.mod_lt _ hn
  unfold ptAt ptZ
  refine getD_PZ s t k zs _ ?_
  have : cyc.getD (i % cyc.length) 0 ∈ cyc := by
    rw [List.getD_eq_getElem?_getD, List.getElem?_eq_getElem hm]; exact List.getElem_mem _
  have := hin _ this
  omega
theorem once_PZ (hk : 0 < k) (hn : 0 < cyc.length) (hin : ∀ c ∈ cyc, 0 ≤ c ∧ c < zs.length) : onceB (zs.map (PZ s t k)) cyc = onceZ zs cyc := by
  have h1 : ∀ i, tnAt (zs.map (PZ s t k)) cyc i = tnZ zs cyc i := fun i => by
    unfold tnAt tnZ
    rw [ptAt_PZ hn hin, ptAt_PZ hn hin, ptAt_PZ hn hin, arQ_PZ, sgnQ_mul _ _ (Rat.mul_pos hk hk)]
  have h2 : ∀ i, upAt (zs.map (PZ s t k)) cyc i = upAtZ zs cyc i := fun i => by
    unfold upAt upAtZ
    rw [ptAt_PZ hn hin, ptAt_PZ hn hin]
    unfold upQ upZ PZ
    simp only [cmpQ_mul _ _ _ _ hk]
  have h3 : ∀ j, rounds (zs.map (PZ s t k)) cyc j = roundsZ zs cyc j := fun j => by
    induction j with
    | zero => rfl
    | succ j ih => unfold rounds roundsZ; rw [ih, h2, h2]
  unfold onceB onceZ
  simp only [h1, h3]
end

def cycP (cyc : List Int) : List (Int × Int) := (List.range cyc.length).map fun j => (cyc.getD j 0, cyc.getD ((j + 1) % cyc.length) 0)
/-- A mesh on the grid that is right. -/
def MZ (zs : List (Int × Int)) (tris : List Tri) (cyc : List Int) : Prop :=
  zs.Nodup ∧ (∀ z ∈ zs, (0 ≤ z.1 ∧ z.1 ≤ 6) ∧ (0 ≤ z.2 ∧ z.2 ≤ 6)) ∧ (∀ t ∈ tris, ∀ k ∈ triIdx t, 0 ≤ k ∧ k < zs.length) ∧ (0 < tris.length ∧ tris.length ≤ 4) ∧ zs.length ≤ 6 ∧
  (∀ t ∈ tris, 0 < arZ (zs.getD t.1.toNat (0, 0)) (zs.getD t.2.1.toNat (0, 0)) (zs.getD t.2.2.toNat (0, 0))) ∧ (allSides tris).Nodup ∧
  (∀ p ∈ allSides tris, ∀ q ∈ allSides tris, bnd (allSides tris) p → bnd (allSides tris) q → p.1 = q.1 → p = q) ∧ 0 < cyc.length ∧ cyc.Nodup ∧
  (∀ p ∈ allSides tris, bnd (allSides tris) p → p ∈ cycP cyc) ∧ (∀ p ∈ cycP cyc, bnd (allSides tris) p) ∧ (∀ c ∈ cyc, cyc.getD 0 0 ≤ c ∧ 0 ≤ c ∧ c < zs.length) ∧
  ((allSides tris).filter (fun p => decide (bnd (allSides tris) p))).length = cyc.length ∧ (usedOf tris).length = zs.length ∧ onceZ zs cyc = true
set_option synthInstance.maxHeartbeats 400000 in
set_option synthInstance.maxSize 1000 in
instance (zs : List (Int × Int)) (tris : List Tri) (cyc : List Int) : Decidable (MZ zs tris cyc) := by unfold MZ; infer_instance

theorem gr_int (n : Int) (N D : Nat) (hD : 0 < D) (h : n.natAbs ≤ N) : Gr (N * D) D (n : Rat) := by
  refine ⟨hD, n * D, by rw [Rat.intCast_mul]; rfl, by rw [Int.natAbs_mul]; exact Nat.mul_le_mul h (by omega)⟩
/-- What planned meshes are divided by. -/
def Half (k : Rat) : Prop := k = 1 ∨ k = 1 / 2
theorem Half.pos {k : Rat} (h : Half k) : 0 < k := by rcases h with rfl | rfl <;> decide +kernel
theorem Half.gr {k : Rat} (h : Half k) {n : Int} {N : Nat} (hn : n.natAbs ≤ N) : Gr (N * 4) 4 ((n : Rat) * k) := by
  rcases h with rfl | rfl
  · rw [Rat.mul_one]; exact gr_int n N 4 (by omega) hn
  · refine ⟨by omega, n * 2, ?_, by omega⟩
    rw [Rat.intCast_mul, Rat.mul_assoc]; congr 1; decide +kernel
theorem MZ.ok {zs : List (Int × Int)} {tris : List Tri} {cyc : List Int} (h : MZ zs tris cyc) {s t : Int} {k : Rat} (hs : s.natAbs ≤ 7) (ht : t.natAbs ≤ 7) (hk : Half k) : MeshOk 284 4 (zs.map (PZ s t k)) tris cyc ∧ ∀ p ∈ zs.map (PZ s t k), GP 52 4 p := by
  obtain ⟨h1, h2, h3, h4, h5, h6, h7, h8, h9, h10, h11, h12, h13, h14, h15, h16⟩ := h
  have hg : ∀ p ∈ zs.map (PZ s t k), GP 52 4 p := fun p hp => by
    obtain ⟨z, hz, rfl⟩ := List.mem_map.1 hp
    have := h2 z hz
    exact ⟨hk.gr (N := 13) (by omega), hk.gr (N := 13) (by omega)⟩
  have hp := hk.pos
  refine ⟨⟨⟨by omega, by omega, by omega⟩, fun p hp => ⟨(hg p hp).1.mono (by omega), (hg p hp).2.mono (by omega)⟩, ?_, h4.1, by omega, by rw [List.length_map]; omega, ?_, ?_, ⟨h7, ?_, ?_, ?_⟩, ⟨h9, h10, ?_, ?_, h14⟩, by rw [List.length_map]; exact h15, ?_⟩, hg⟩
  · intro t ht k hk
    rw [List.length_map]; exact h3 t ht k hk
  · rw [List.nodup_iff_pairwise_ne, List.pairwise_map]
    rw [List.nodup_iff_pairwise_ne] at h1
    refine h1.imp fun {a b} hab e => hab ?_
    unfold PZ at e
    have e1 := congrArg Prod.fst e
    have e2 := congrArg Prod.snd e
    simp only at e1 e2
    have c1 := cmpQ_mul a.1 b.1 s k hp
    have c2 := cmpQ_mul a.2 b.2 t k hp
    rw [e1] at c1
    rw [e2] at c2
    unfold cmpQ cmpZ at c1 c2
    rw [if_pos rfl] at c1 c2
    refine Prod.ext ?_ ?_
    · by_cases h : a.1 = b.1
      · exact h
      · rw [if_neg h] at c1; split at c1 <;> omega
    · by_cases h : a.2 = b.2
      · exact h
      · rw [if_neg h] at c2; split at c2 <;> omega
  · intro x hx
    have q0 := h3 x hx x.1 (by simp [triIdx])
    have q1 := h3 x hx x.2.1 (by simp [triIdx])
    have q2 := h3 x hx x.2.2 (by simp [triIdx])
    rw [getD_PZ _ _ _ _ _ (by omega), getD_PZ _ _ _ _ _ (by omega), getD_PZ _ _ _ _ _ (by omega), arQ_PZ]
    exact (Rat.mul_pos_iff_of_pos_right (Rat.mul_pos hp hp)).2 (Rat.intCast_pos.2 (h6 x hx))
  · exact fun p q hp hq e => h8 p hp.1 q hq.1 hp hq e
  · intro p hp
    obtain ⟨x, hx, p1, p2⟩ := allSides_mem hp
    exact ⟨(h3 x hx _ p1).1, (h3 x hx _ p2).1⟩
  · intro p hp
    obtain ⟨x, hx, p1, p2⟩ := allSides_mem hp
    have := h3 x hx _ p1
    have := h3 x hx _ p2
    exact ⟨⟨by omega, by omega⟩, ⟨by omega, by omega⟩⟩
  · have hc : ∀ j (hj : j < cyc.length), (cyc.getD j 0, cyc.getD ((j + 1) % cyc.length) 0) = (cyc[j], cyc[(j + 1) % cyc.length]'(Nat.mod_lt _ h9)) := fun j hj => by
      rw [List.getD_eq_getElem?_getD, List.getElem?_eq_getElem hj, List.getD_eq_getElem?_getD, List.getElem?_eq_getElem (Nat.mod_lt _ h9)]; rfl
    intro p
    constructor
    · intro hb
      obtain ⟨j, hj, e⟩ := List.mem_map.1 (h11 p hb.1 hb)
      have hj := List.mem_range.1 hj
      exact ⟨j, hj, by rw [← e]; exact hc j hj⟩
    · rintro ⟨j, hj, rfl⟩
      refine h12 _ (List.mem_map.2 ⟨j, List.mem_range.2 hj, hc j hj⟩)
  · intro c hc
    have := (h13 c hc).1
    rwa [List.getD_eq_getElem?_getD, List.getElem?_eq_getElem h9] at this
  · rw [once_PZ hp h9 (fun c hc => (h13 c hc).2), h16]

/-- The shapes. -/
def shpZ : Nat → List (Int × Int)
  | 0 => [(0, 0), (4, 0), (4, 4), (0, 4)]
  | 1 => [(0, 0), (4, 0), (4, 4), (0, 4)]
  | 2 => [(0, 0), (4, 0), (4, 4), (0, 4), (2, 1)]
  | 3 => [(0, 0), (6, 0), (0, 4)]
  | 4 => [(0, 0), (2, 0), (4, 0), (0, 2), (2, 2), (4, 2)]
  | 5 => [(1, 4), (5, 3), (4, 0), (0, 0)]
  | 6 => [(0, 0), (4, 0), (4, 4), (0, 4), (2, 0)]
  | _ => [(0, 0), (6, 0), (0, 6), (2, 2)]
def shpT : Nat → List Tri
  | 0 => [(0, 1, 2), (0, 2, 3)]
  | 1 => [(0, 1, 3), (1, 2, 3)]
  | 2 => [(0, 1, 4), (1, 2, 4), (2, 3, 4), (3, 0, 4)]
  | 3 => [(2, 0, 1)]
  | 4 => [(0, 1, 4), (0, 4, 3), (1, 2, 5), (1, 5, 4)]
  | 5 => [(3, 2, 1), (3, 1, 0)]
  | 6 => [(0, 4, 3), (4, 2, 3), (4, 1, 2)]
  | _ => [(0, 1, 3), (1, 2, 3), (2, 0, 3)]
def shpC : Nat → List Int
  | 0 => [0, 1, 2, 3]
  | 1 => [0, 1, 2, 3]
  | 2 => [0, 1, 2, 3]
  | 3 => [0, 1, 2]
  | 4 => [0, 1, 2, 5, 4, 3]
  | 5 => [0, 3, 2, 1]
  | 6 => [0, 4, 1, 2, 3]
  | _ => [0, 1, 2]
set_option maxRecDepth 100000 in
theorem shp_ok : ∀ i < 8, MZ (shpZ i) (shpT i) (shpC i) := by decide +kernel
set_option maxRecDepth 100000 in
theorem exa_ok : MZ [(0, 0), (6, 0), (0, 4)] [(0, 1, 2)] [0, 1, 2] := by decide +kernel
end Go.Proofs.YtbiffaciinppiaaGreatDoor
end

section
namespace Go.Proofs.YtbiffaciinppiaaGreatDoor
open Go.RowKit
attribute [local irreducible] tQ

/-- A sheet. -/
structure Sh where
  kind : Int
  s0 : Int
  s1 : Int
  half : Bool
def shL (s : Sh) : List Value := [.int .u8 s.kind, .int .i8 s.s0, .int .i8 s.s1, .bool s.half]
def shV (s : Sh) : Value := .agg #[.int .u8 s.kind, .int .i8 s.s0, .int .i8 s.s1, .bool s.half]
structure ShW (s : Sh) : Prop where
  k0 : 0 ≤ s.kind ∧ s.kind ≤ 255
  h0 : -128 ≤ s.s0 ∧ s.s0 ≤ 127
  h1 : -128 ≤ s.s1 ∧ s.s1 ≤ 127
def hd (h : Bool) : Nat := if h then 2 else 1
def plQ (h : Bool) (s x : Int) (k : Nat) : Rat := mkRat (x + s.tmod 8 * k) (hd h * k)
def plP (s : Sh) (x y : Int) (k : Nat) : Rat × Rat := (plQ s.half s.s0 x k, plQ s.half s.s1 y k)
set_option maxRecDepth 100000 in
set_option maxHeartbeats 1000000 in
theorem place_ok (s : Sh) (hs : ShW s) (x y : Int) (hx : -128 ≤ x ∧ x ≤ 127) (hy : -128 ≤ y ∧ y ≤ 127) (k : Nat) (hk : k = 1 ∨ k = 2) (w : World) (g : Glob w) :
    Calls Tryz.prog 79 #[shV s, .agg #[.int .i8 x, .int .i8 y], .int .i64 k] w (Ret (ptV (plP s x y k)) w) := by
  obtain ⟨kind, s0, s1, half⟩ := s
  obtain ⟨_, h0, h1⟩ := hs
  simp only [shV, plP, plQ, ptV] at *
  have t0 := tmod_lt s0 8 (by omega)
  have t1 := tmod_lt s1 8 (by omega)
  have e0 : wrap64 (x + wrap64 (wrap64 (s0.tmod 8) * k)) = x + s0.tmod 8 * k := by
    generalize s0.tmod 8 = m0 at *
    rcases hk with rfl | rfl <;> simp only [wrap64, IntKind.wrap_i64] <;> omega
  have e1 : wrap64 (y + wrap64 (wrap64 (s1.tmod 8) * k)) = y + s1.tmod 8 * k := by
    generalize s1.tmod 8 = m0 at *
    rcases hk with rfl | rfl <;> simp only [wrap64, IntKind.wrap_i64] <;> omega
  have H1 := Lib.hid (fun W (X : Ext w W) => rOf_ok (x + s0.tmod 8 * k) (hd half * k) W (g.ext X) (by unfold hd; split <;> omega) (by unfold hd; split <;> omega) (by generalize s0.tmod 8 = m0 at *; rcases hk with rfl | rfl <;> omega))
  have H2 := Lib.hid (fun W (X : Ext w W) => rOf_ok (y + s1.tmod 8 * k) (hd half * k) W (g.ext X) (by unfold hd; split <;> omega) (by unfold hd; split <;> omega) (by generalize s1.tmod 8 = m0 at *; rcases hk with rfl | rfl <;> omega))
  rw [← e0] at H1
  rw [← e1] at H2
  rw [← e0, ← e1]
  have hd2 : hd half * k = 1 * k ∨ hd half * k = 2 * k := by unfold hd; split <;> simp
  generalize mkRat (wrap64 (x + wrap64 (wrap64 (s0.tmod 8) * k))) (hd half * k) = qx at *
  generalize mkRat (wrap64 (y + wrap64 (wrap64 (s1.tmod 8) * k))) (hd half * k) = qy at *
  clear e0 e1 t0 t1 g hd2
  have X0 := (((Ext.refl w).alloc (.cells #[.int .u8 kind, .int .i8 s0, .int .i8 s1, .bool half] 25)).alloc (.cells #[.int .i8 x, .int .i8 y] 23)).alloc (.cells #[.string ⟨#[]⟩, .string ⟨#[]⟩] 91)
  have hW : ∃ W0, W0 = ((w.alloc (.cells #[.int .u8 kind, .int .i8 s0, .int .i8 s1, .bool half] 25)).alloc (.cells #[.int .i8 x, .int .i8 y] 23)).alloc (.cells #[.string ⟨#[]⟩, .string ⟨#[]⟩] 91) := ⟨_, rfl⟩
  obtain ⟨W0, hW0⟩ := hW
  rw [← hW0] at X0
  have a0 : Cells w.heap.size [.int .u8 kind, .int .i8 s0, .int .i8 s1, .bool half] W0 := by
    rw [hW0]; exact ((Cells.new w [.int .u8 kind, .int .i8 s0, .int .i8 s1, .bool half] 25).ext ((Ext.refl _).alloc _)).ext ((Ext.refl _).alloc _)
  have a1 : Cells (w.heap.size + 1) [.int .i8 x, .int .i8 y] W0 := by
    have := Cells.new (w.alloc (.cells #[.int .u8 kind, .int .i8 s0, .int .i8 s1, .bool half] 25)) [.int .i8 x, .int .i8 y] 23
    rw [World.size_alloc] at this
    rw [hW0]; exact this.ext ((Ext.refl _).alloc _)
  have a2 : Cells (w.heap.size + 1 + 1) [.string ⟨#[]⟩, .string ⟨#[]⟩] W0 := by
    have := Cells.new ((w.alloc (.cells #[.int .u8 kind, .int .i8 s0, .int .i8 s1, .bool half] 25)).alloc (.cells #[.int .i8 x, .int .i8 y] 23)) [.string ⟨#[]⟩, .string ⟨#[]⟩] 91
    rw [World.size_alloc, World.size_alloc] at this
    rw [hW0]; exact this
  cases half with
  | false =>
    have hdk : ((hd false * k : Nat) : Int) = k := by simp [hd]
    rw [hdk] at H1 H2
    clear hdk
    go_enter Tryz.func79, Tryz.ntmps79
    go_wp2_with fail
    rw [← hW0]
    clear hW0
    refine (H1.out _ X0).mono ?_
    rintro e w1 ⟨rfl, X1⟩
    have XX := X0.trans X1
    have b0 := a0.ext X1
    have b1 := a1.ext X1
    have b2 := a2.ext X1
    have c0 := (b0.at 2 _ rfl).1
    have c1 := (b1.at 1 _ rfl).1
    clear a0 a1 a2
    go_wp2_with fail
    refine (H2.out _ XX).mono ?_
    rintro e w2 ⟨rfl, X2⟩
    have d0 := ((b2.ext X2).at 0 _ rfl)
    have d1 := ((b2.ext X2).at 1 _ rfl)
    obtain ⟨d00, d01⟩ := d0
    obtain ⟨d10, d11⟩ := d1
    have hq2 := (((b2.ext X2).put 0 (by simp) (.string (tQ qx))).put 1 (by simp) (.string (tQ qy)))
    have q0 := (hq2.at 0 _ rfl).1
    have q1 := (hq2.at 1 _ rfl).1
    have XE := ((XX.trans X2).setCell (p := ⟨w.heap.size + 1 + 1, 0, none⟩) (by show w.heap.size ≤ w.heap.size + 1 + 1; omega) (.string (tQ qx))).setCell (p := ⟨w.heap.size + 1 + 1, 1, none⟩) (by show w.heap.size ≤ w.heap.size + 1 + 1; omega) (.string (tQ qy))
    go_wp2_with fail
    refine bodyPost_ret (v := .agg #[.string (tQ qx), .string (tQ qy)]) (by simp [results, Tryz.results79, go_sem, q0, q1]) rfl ⟨rfl, XE⟩
  | true =>
    have hdk : ((hd true * k : Nat) : Int) = 2 * k := by unfold hd; simp
    rw [hdk] at H1 H2
    clear hdk
    go_enter Tryz.func79, Tryz.ntmps79
    go_wp2_with fail
    rw [← hW0]
    clear hW0
    refine (H1.out _ X0).mono ?_
    rintro e w1 ⟨rfl, X1⟩
    have XX := X0.trans X1
    have b0 := a0.ext X1
    have b1 := a1.ext X1
    have b2 := a2.ext X1
    have c0 := (b0.at 2 _ rfl).1
    have c1 := (b1.at 1 _ rfl).1
    clear a0 a1 a2
    go_wp2_with fail
    refine (H2.out _ XX).mono ?_
    rintro e w2 ⟨rfl, X2⟩
    have d0 := ((b2.ext X2).at 0 _ rfl)
    have d1 := ((b2.ext X2).at 1 _ rfl)
    obtain ⟨d00, d01⟩ := d0
    obtain ⟨d10, d11⟩ := d1
    have hq2 := (((b2.ext X2).put 0 (by simp) (.string (tQ qx))).put 1 (by simp) (.string (tQ qy)))
    have q0 := (hq2.at 0 _ rfl).1
    have q1 := (hq2.at 1 _ rfl).1
    have XE := ((XX.trans X2).setCell (p := ⟨w.heap.size + 1 + 1, 0, none⟩) (by show w.heap.size ≤ w.heap.size + 1 + 1; omega) (.string (tQ qx))).setCell (p := ⟨w.heap.size + 1 + 1, 1, none⟩) (by show w.heap.size ≤ w.heap.size + 1 + 1; omega) (.string (tQ qy))
    go_wp2_with fail
    refine bodyPost_ret (v := .agg #[.string (tQ qx), .string (tQ qy)]) (by simp [results, Tryz.results79, go_sem, q0, q1]) rfl ⟨rfl, XE⟩
end Go.Proofs.YtbiffaciinppiaaGreatDoor
end
