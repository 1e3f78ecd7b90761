/- constraint.bounded at short numbers. constraint.rows at a contact. -/
import Derived.Test.YtbiffaciinppiaaGreatDoorVa24
set_option linter.unusedVariables false
set_option linter.unusedSimpArgs false
section
namespace Go.Proofs.YtbiffaciinppiaaGreatDoor
open Go.RowKit Go.Maps
attribute [local irreducible] tQ
set_option linter.unusedSimpArgs false

theorem ERat : ElemOk Tryz.prog 38 54 1 16 := ⟨Tryz.underlying38, ⟨_, (by kernel_rfl : (Tryz.prog.info? 54).map (fun i => (i.zero, i.size, i.bytes)) = some (some (.string ⟨#[]⟩), 1, 16)), rfl⟩, by omega, by omega⟩
def rowL (G : Nat → Rat) (n : Nat) : List Rat := (List.range n).map G
theorem rowL_len (G : Nat → Rat) (n : Nat) : (rowL G n).length = n := by unfold rowL; simp
theorem RowOf.fld {G : Nat → Rat} {q n : Nat} {w : World} (h : RowOf G q n w) : FldIn w q 0 (rowL G n) := fun i hi => by
  have hn : i < n := by rw [rowL_len] at hi; exact hi
  rw [Nat.zero_add, h.cell hn, show (rowL G n)[i] = G i by simp [rowL]]
def BdR (m : Nat) (w : World) (v10 : Value) (wr : World) : Prop := ∃ k : Nat, k ≤ m ∧ v10 = .int .i64 k ∧ Ext w wr
def intO (v : Value) : Nat := (intOf v).toNat

set_option maxRecDepth 100000 in
set_option maxHeartbeats 4000000 in
theorem bounded_ok (n : Nat) (hn0 : 0 < n) (hn : n ≤ 60) (L : List Rw) (hL : L.length ≤ 1000) (base : Nat) (v : Value) (w : World) (g : Glob w) (hown : OwnL (encW n) 101 2 base L v w) (hrows : RowsIn n base L w)
    (hd : ∀ r ∈ L, Dg 9 r.b ∧ ∀ j, j < n → Dg 9 (r.G j)) : Calls Tryz.prog 91 #[v] w (Ret (.tuple #[v, .int .i64 0]) w) := by
  have HC := Lib.hid (fun (k : Nat) (hk : k < L.length) W (X : Ext w W) => by
    have h1 := (hrows L[k] (List.getElem_mem hk)).2
    have h2 := clone_ok (rowL L[k].G n) (by rw [rowL_len]; exact hn0) (by rw [rowL_len]; exact hn) L[k].q n W ((h1.same (X.block _ h1.lt)).fld)
    rw [rowL_len] at h2
    exact h2)
  have HK := Lib.hid (fun (q : Rat) (hq : Dg 9 q) W (X : Ext w W) => rCheck q W (g.ext X) hq)
  have HD := Lib.hid (fun (k : Nat) (hk : k < L.length) => show ∀ q ∈ rowL L[k].G n ++ [L[k].b], Dg 9 q from fun q hq => by
    obtain ⟨h1, h2⟩ := hd L[k] (List.getElem_mem hk)
    rcases List.mem_append.1 hq with h | h
    · unfold rowL at h
      obtain ⟨j, hj, rfl⟩ := List.mem_map.1 h
      exact h2 j (List.mem_range.1 hj)
    · rw [List.mem_singleton.1 h]; exact h1)
  obtain ⟨va, vc, rfl, hf⟩ := hown.form
  have HO := Lib.hid hown
  have HF := Lib.hid hf
  clear hown hf hd hrows g
  have hll : (L.length : Int) ≤ 1000 := by omega
  go_enter Tryz.func91, Tryz.ntmps91
  go_wp2_with fail
  go_loopw [10] (BdR L.length w) (fun p _ => L.length - intO p)
  case atStart => exact ⟨0, by omega, rfl, Ext.refl w⟩
  case round =>
    obtain ⟨k, hk, rfl, hX⟩ := hrel
    by_cases hlt : k < L.length
    · have kl : (k : Int) < L.length := by omega
      have kl0 : (0 : Int) ≤ (k : Int) := by omega
      obtain ⟨gb, rfl, hgb, hgl⟩ := HF.out (fun e => by rw [e] at hlt; simp at hlt)
      obtain ⟨_, _, hcl⟩ := HO.out.cells
      have y0 := hX.cell (hcl k hlt 0 _ (by omega) rfl)
      have y1 := hX.cell (hcl k hlt 1 _ (by omega) rfl)
      have HCk := Lib.hid (HC.out k hlt)
      have HDk := Lib.hid (HD.out k hlt)
      have HLn := Lib.hid (rowL_len L[k].G n)
      clear hcl HC HD
      generalize rowL L[k].G n = R at *
      generalize L[k].b = bd at *
      generalize L[k].q = qq at *
      rw [Nat.add_zero] at y0
      go_upto_region 4 with fail
      have hW3 : ∃ W3, W3 = wr.alloc (.cells #[.slice (some ⟨qq, 0, none⟩) n n, .string (tQ bd)] 101) := ⟨_, rfl⟩
      obtain ⟨W3, hW3⟩ := hW3
      rw [← hW3]
      have Z3 : Ext wr W3 := by rw [hW3]; exact (Ext.refl wr).alloc _
      have b3 : Cells wr.heap.size [.slice (some ⟨qq, 0, none⟩) n n, .string (tQ bd)] W3 := by rw [hW3]; exact Cells.new _ _ _
      have hs3 : wr.heap.size < W3.heap.size := by rw [hW3]; simp
      clear hW3
      have X3 := hX.trans Z3
      have m0 := (b3.at 0 _ rfl).1
      have m1 := (b3.at 1 _ rfl).1
      clear y0 y1 b3
      go_cut [20, 21, 22] (fun s20 s21 s22 wx => ∃ q c, s20 = .slice (some ⟨q, 0, none⟩) (n + 1) c ∧ s21 = .int .i64 ((n + 1 : Nat) : Int) ∧ s22 = .int .i64 0 ∧ FldIn wx q 0 (R ++ [bd]) ∧ Ext W3 wx)
      case first =>
        refine wp_region_Z' (fun _ => TE W3.heap.size W3 false) 99 (by kernel_rfl) ?_
        intro V0 hV0
        have Y0 : Ext W3 V0 := by rw [hV0]; exact (Ext.refl W3).drew
        have hT : TE W3.heap.size W3 false V0 := Y0
        clear hV0
        refine' wpAnyZ_hold 99 (i := 0) (v := _) rfl (by kernel_rfl) (by kernel_rfl) (by kernel_rfl) (fun _ _ _ h => h.no.elim) hT (by rfl) ?hy ?_
        case hy => (intro w' hS; have q0 := TE.c hS hs3 m0; have q1 := TE.c hS hs3 m1; clear hS; go_simp; rfl)
        try simp only [Act.put, List.getElem_toArray, List.getElem_cons_zero, List.getElem_cons_succ, List.setIfInBounds_toArray, List.set_cons_zero, List.set_cons_succ]
        refine' wpAnyZ_hold 99 (i := 1) (v := _) rfl (by kernel_rfl) (by kernel_rfl) (by kernel_rfl) (fun _ _ _ h => h.no.elim) hT (by rfl) ?hy ?_
        case hy => (intro w' hS; have q0 := TE.c hS hs3 m0; have q1 := TE.c hS hs3 m1; clear hS; go_simp; rfl)
        try simp only [Act.put, List.getElem_toArray, List.getElem_cons_zero, List.getElem_cons_succ, List.setIfInBounds_toArray, List.set_cons_zero, List.set_cons_succ]
        refine' wpAnyZ_hold 99 (i := 3) (v := _) rfl (by kernel_rfl) (by kernel_rfl) (by kernel_rfl) (fun _ _ _ h => h.no.elim) hT (by rfl) ?hy ?_
        case hy => (intro w' hS; have q0 := TE.c hS hs3 m0; have q1 := TE.c hS hs3 m1; clear hS; go_simp; rfl)
        try simp only [Act.put, List.getElem_toArray, List.getElem_cons_zero, List.getElem_cons_succ, List.setIfInBounds_toArray, List.set_cons_zero, List.set_cons_succ]
        refine' wpAnyZ_hold 99 (i := 4) (v := _) rfl (by kernel_rfl) (by kernel_rfl) (by kernel_rfl) (fun _ _ _ h => h.no.elim) hT (by rfl) ?hy ?_
        case hy => (intro w' hS; have q0 := TE.c hS hs3 m0; have q1 := TE.c hS hs3 m1; clear hS; go_simp; rfl)
        try simp only [Act.put, List.getElem_toArray, List.getElem_cons_zero, List.getElem_cons_succ, List.setIfInBounds_toArray, List.set_cons_zero, List.set_cons_succ]
        refine' wpAnyZ_hold 99 (i := 8) (v := _) rfl (by kernel_rfl) (by kernel_rfl) (by kernel_rfl) (fun _ _ _ h => h.no.elim) hT (by rfl) ?hy ?_
        case hy => (intro w' hS; have q0 := TE.c hS hs3 m0; have q1 := TE.c hS hs3 m1; clear hS; go_simp; rfl)
        try simp only [Act.put, List.getElem_toArray, List.getElem_cons_zero, List.getElem_cons_succ, List.setIfInBounds_toArray, List.set_cons_zero, List.set_cons_succ]
        clear m0 m1
        refine wpAnyZ_alt (r := 2) (rs := [5]) (by kernel_rfl) ?_
        refine AltR.cons true (by kernel_rfl) rfl (fun K' hK => ?_) ?_
        ·
          go_simp
          refine (HCk.out _ (X3.trans Y0)).mono ?_
          rintro e V1 ⟨v2, rfl, ho2, Z1⟩
          have Y1 := Y0.trans Z1
          refine hK.out _ _ Y1 ?_
          clear hK K'
          try simp only [Act.put, List.getElem_toArray, List.getElem_cons_zero, List.getElem_cons_succ, List.setIfInBounds_toArray, List.set_cons_zero, List.set_cons_succ]
          refine wpAnyZ_one true (i := 5) (by kernel_rfl) (by kernel_rfl) rfl (fun K' hK => ?_)
          go_simp
          have Y2 : Ext W3 (V1.alloc (.cells #[.string (tQ bd)] 54)) := Y1.alloc _
          refine hK.out _ _ Y2 ?_
          clear hK K'
          refine wpAnyZ_gen ?_
          intro V2 hV
          rw [← hV] at Y2
          have Z2 : Ext V1 V2 := by rw [hV]; exact (Ext.refl _).alloc _
          have f5 : Cells V1.heap.size [.string (tQ bd)] V2 := by rw [hV]; exact Cells.new _ _ _
          clear hV
          try simp only [Act.put, List.getElem_toArray, List.getElem_cons_zero, List.getElem_cons_succ, List.setIfInBounds_toArray, List.set_cons_zero, List.set_cons_succ]
          have ho3 := ho2.below Z2
          have hb0 : W3.heap.size ≤ V0.heap.size := Y0.size
          have hb1 : V0.heap.size ≤ V2.heap.size := (Z1.trans Z2).size
          refine wpAnyZ_one true (i := 6) (by kernel_rfl) (by kernel_rfl) rfl (fun K' hK => ?_)
          refine step_push _ ERat rfl _ _ rfl (v := v2) rfl ho3 bd ⟨V1.heap.size, 0, none⟩ 1 rfl rfl ?_ ?_ ?_ ?_ ?_
          · intro u hu
            simp only [encQ, List.mem_cons, List.not_mem_nil, or_false] at hu
            rcases hu with rfl
            rfl
          · intro j u hj
            rw [addr0]
            exact cells_at f5 j u hj
          · have := HLn.out; omega
          · exact hb1
          intro q' c' W6 hown6 hX6 hg6
          have Y6 : Ext W3 W6 := hX6.out _ W3 hb0 (Nat.le_refl _) Y2
          refine hK.out _ _ Y6 ?_
          clear hK K' hX6 hg6 hT
          rw [HLn.out] at hown6 ⊢
          try simp only [Act.put, List.getElem_toArray, List.getElem_cons_zero, List.getElem_cons_succ, List.setIfInBounds_toArray, List.set_cons_zero, List.set_cons_succ]
          have hcl6 := hown6.cells
          have HFL : Hid (FldIn W6 q' 0 (R ++ [bd])) := Lib.hid (fun i hi => by
            have := hcl6.2.2 i hi 0 _ (by omega) rfl
            rw [Nat.zero_add]; simpa using this)
          clear hcl6 hown6
          refine wpAnyZ_one true (i := 7) (by kernel_rfl) (by kernel_rfl) rfl (fun K' hK => ?_)
          go_simp
          refine hK.out _ _ Y6 ?_
          clear hK K'
          try simp only [Act.put, List.getElem_toArray, List.getElem_cons_zero, List.getElem_cons_succ, List.setIfInBounds_toArray, List.set_cons_zero, List.set_cons_succ]
          refine wpAnyZ_done (by kernel_rfl) ⟨rfl, ?_⟩ _
          go_wp2_with fail
          go_meet
          exact ⟨_, _, rfl, by simp, rfl, HFL.out, Y6⟩
        refine AltR.cons true (by kernel_rfl) rfl (fun K' hK => ?_) ?_
        ·
          go_simp
          have Y3 : Ext W3 (V0.alloc (.cells #[.string (tQ bd)] 54)) := Y0.alloc _
          refine hK.out _ _ Y3 ?_
          clear hK K'
          refine wpAnyZ_gen ?_
          intro V3 hV
          rw [← hV] at Y3
          have Z3 : Ext V0 V3 := by rw [hV]; exact (Ext.refl _).alloc _
          have f5 : Cells V0.heap.size [.string (tQ bd)] V3 := by rw [hV]; exact Cells.new _ _ _
          clear hV
          try simp only [Act.put, List.getElem_toArray, List.getElem_cons_zero, List.getElem_cons_succ, List.setIfInBounds_toArray, List.set_cons_zero, List.set_cons_succ]
          refine wpAnyZ_one true (i := 2) (by kernel_rfl) (by kernel_rfl) rfl (fun K' hK => ?_)
          go_simp
          refine (HCk.out _ (X3.trans Y3)).mono ?_
          rintro e V4 ⟨v2, rfl, ho2, Z4⟩
          have Y4 := Y3.trans Z4
          refine hK.out _ _ Y4 ?_
          clear hK K'
          try simp only [Act.put, List.getElem_toArray, List.getElem_cons_zero, List.getElem_cons_succ, List.setIfInBounds_toArray, List.set_cons_zero, List.set_cons_succ]
          have f6 := f5.ext Z4
          have hb0 : W3.heap.size ≤ V3.heap.size := Y3.size
          have hb1 : V3.heap.size ≤ V4.heap.size := Z4.size
          refine wpAnyZ_one true (i := 6) (by kernel_rfl) (by kernel_rfl) rfl (fun K' hK => ?_)
          refine step_push _ ERat rfl _ _ rfl (v := v2) rfl ho2 bd ⟨V0.heap.size, 0, none⟩ 1 rfl rfl ?_ ?_ ?_ ?_ ?_
          · intro u hu
            simp only [encQ, List.mem_cons, List.not_mem_nil, or_false] at hu
            rcases hu with rfl
            rfl
          · intro j u hj
            rw [addr0]
            exact cells_at f6 j u hj
          · have := HLn.out; omega
          · exact hb1
          intro q' c' W6 hown6 hX6 hg6
          have Y6 : Ext W3 W6 := hX6.out _ W3 hb0 (Nat.le_refl _) Y4
          refine hK.out _ _ Y6 ?_
          clear hK K' hX6 hg6 hT
          rw [HLn.out] at hown6 ⊢
          try simp only [Act.put, List.getElem_toArray, List.getElem_cons_zero, List.getElem_cons_succ, List.setIfInBounds_toArray, List.set_cons_zero, List.set_cons_succ]
          have hcl6 := hown6.cells
          have HFL : Hid (FldIn W6 q' 0 (R ++ [bd])) := Lib.hid (fun i hi => by
            have := hcl6.2.2 i hi 0 _ (by omega) rfl
            rw [Nat.zero_add]; simpa using this)
          clear hcl6 hown6
          refine wpAnyZ_one true (i := 7) (by kernel_rfl) (by kernel_rfl) rfl (fun K' hK => ?_)
          go_simp
          refine hK.out _ _ Y6 ?_
          clear hK K'
          try simp only [Act.put, List.getElem_toArray, List.getElem_cons_zero, List.getElem_cons_succ, List.setIfInBounds_toArray, List.set_cons_zero, List.set_cons_succ]
          refine wpAnyZ_done (by kernel_rfl) ⟨rfl, ?_⟩ _
          go_wp2_with fail
          go_meet
          exact ⟨_, _, rfl, by simp, rfl, HFL.out, Y6⟩
        exact AltR.nil
      case rest =>
        obtain ⟨q, c, rfl, rfl, rfl, hFL, XO⟩ := hcut
        have XC := X3.trans XO
        have HFL := Lib.hid hFL
        have hRl : (R ++ [bd]).length = n + 1 := by rw [List.length_append, HLn.out]; rfl
        have HRl := Lib.hid hRl
        clear hFL m0 m1 X3 Z3 hX XO hRl
        have hn1 : ((n + 1 : Nat) : Int) ≤ 61 := by omega
        go_wp2_with fail
        go_loopw [22] (BdR (n + 1) wc) (fun p _ => n + 1 - intO p)
        case atStart => exact ⟨0, by omega, rfl, Ext.refl wc⟩
        case round =>
          obtain ⟨j, hj, rfl, hXj⟩ := hrel
          have HXj := Lib.hid (XC.trans hXj)
          by_cases hjl : j < n + 1
          · have jl : (j : Int) < ((n + 1 : Nat) : Int) := by omega
            have jl0 : (0 : Int) ≤ (j : Int) := by omega
            have hjl2 : j < (R ++ [bd]).length := by rw [HRl.out]; exact hjl
            have y := hXj.cell (HFL.out j hjl2)
            have HKj := Lib.hid (HK.out _ (HDk.out _ (List.getElem_mem hjl2)))
            rw [Nat.zero_add] at y
            generalize (R ++ [bd])[j] = x at *
            go_wp2_with fail
            refine (HKj.out _ HXj.out).mono ?_
            rintro e w6 ⟨rfl, Z6⟩
            have HZ := Lib.hid (hXj.trans Z6)
            clear Z6 hXj y
            go_wp2_with fail
            exact ⟨⟨j + 1, hjl, by simp, HZ.out⟩, by simp only [intO, intOf]; omega⟩
          · obtain rfl : j = n + 1 := by omega
            go_wp2_with fail
            exact ⟨⟨k + 1, hlt, by simp, HXj.out⟩, by simp only [intO, intOf]; omega⟩
    · obtain rfl : k = L.length := by omega
      have HX := Lib.hid hX
      clear hX
      go_wp2_with fail
      go_ret2
      exact ⟨rfl, HX.out⟩
end Go.Proofs.YtbiffaciinppiaaGreatDoor
end

section
namespace Go.Proofs.YtbiffaciinppiaaGreatDoor
open Go.RowKit Go.Maps
attribute [local irreducible] tQ
set_option linter.unusedSimpArgs false

theorem tQ_m1 : tQ (-1) = ⟨#[45, 49]⟩ := by decide +kernel
theorem tQ_p1 : tQ 1 = ⟨#[49]⟩ := by decide +kernel
/-- The two rows that say that a sum is a bound. -/
def rowsX (p k0 k1 k2 : Nat) (q0 q1 q2 bd : Rat) (u : Nat) : List ((Nat → Rat) × Rat) := [1, -1].map (fun x : Rat => (rowF (u * p) k0 k1 k2 (x * q0) (x * q1) (x * q2), x * bd))
def rowsX2 (p k0 k1 k2 : Nat) (q0 q1 q2 bd r0 r1 r2 bd2 : Rat) (u : Nat) : List ((Nat → Rat) × Rat) := rowsX p k0 k1 k2 q0 q1 q2 bd u ++ rowsX p k0 k1 k2 r0 r1 r2 bd2 u
structure InvR (n base oc : Nat) (W5 : World) (v : Value) (N : List Rw) (wr : World) : Prop where
  c : Cells oc [v] wr
  own : OwnL (encW n) 101 2 base N v wr
  rows : RowsIn n base N wr
  kb : KO base oc W5 wr
def RsR {s : Nat} (n base oc : Nat) (l : List Nat) (F : Nat → List ((Nat → Rat) × Rat)) (W5 : World) (vk : Value) (wr : World) : Prop :=
  ∃ (k : Nat) (v : Value) (N : List Rw), k ≤ l.length ∧ vk = .int .i64 k ∧ InvR n base oc W5 v N wr ∧ N.map (fun r => (r.G, r.b)) = (l.take k).flatMap F
theorem rowsX_len {p k0 k1 k2 : Nat} {q0 q1 q2 bd : Rat} (l : List Nat) : (l.flatMap (rowsX p k0 k1 k2 q0 q1 q2 bd)).length = 2 * l.length := by
  induction l with
  | nil => rfl
  | cons a l ih => rw [List.flatMap_cons, List.length_append, ih]; simp [rowsX]; omega
theorem rowsX2_len {p k0 k1 k2 : Nat} {q0 q1 q2 bd r0 r1 r2 bd2 : Rat} (l : List Nat) : (l.flatMap (rowsX2 p k0 k1 k2 q0 q1 q2 bd r0 r1 r2 bd2)).length = 4 * l.length := by
  induction l with
  | nil => rfl
  | cons a l ih => rw [List.flatMap_cons, List.length_append, ih]; simp [rowsX2, rowsX]; omega
theorem rowsX_step {F : Nat → List ((Nat → Rat) × Rat)} {l : List Nat} {k : Nat} {N : List Rw} (hlt : k < l.length) (hN : N.map (fun r => (r.G, r.b)) = (l.take k).flatMap F) : ∀ N' : List Rw, N'.map (fun r => (r.G, r.b)) = F l[k] → (N ++ N').map (fun r => (r.G, r.b)) = (l.take (k + 1)).flatMap F := fun N' h => by
  rw [List.take_succ_eq_append_getElem hlt, List.flatMap_append, List.map_append, hN, h]
  simp
theorem dg_0 : Dg 9 0 := (gr_int 0 1 1 (by omega) (by decide)).dg (by omega) (by omega)
theorem dg_1 : Dg 9 1 := (gr_int 1 1 1 (by omega) (by decide)).dg (by omega) (by omega)
theorem rowF_dg {o k0 k1 k2 j : Nat} {q0 q1 q2 : Rat} (d0 : Dg 9 q0) (d1 : Dg 9 q1) (d2 : Dg 9 q2) : Dg 9 (rowF o k0 k1 k2 q0 q1 q2 j) := by
  unfold rowF
  split
  · exact d0
  · split
    · exact d1
    · split
      · exact d2
      · exact dg_0
def DgP (x : (Nat → Rat) × Rat) : Prop := Dg 9 x.2 ∧ ∀ j, Dg 9 (x.1 j)
theorem rowsX_dg {p k0 k1 k2 : Nat} {q0 q1 q2 bd : Rat} (d0 : Dg 9 q0) (d1 : Dg 9 q1) (d2 : Dg 9 q2) (db : Dg 9 bd) (u : Nat) : ∀ x ∈ rowsX p k0 k1 k2 q0 q1 q2 bd u, DgP x := by
  have h1 : ∀ q : Rat, Dg 9 q → Dg 9 (1 * q) := fun q h => by rw [Rat.one_mul]; exact h
  have h2 : ∀ q : Rat, Dg 9 q → Dg 9 (-1 * q) := fun q h => by rw [show (-1 : Rat) * q = -q by grind]; exact h.neg
  intro x hx
  simp only [rowsX, List.map_cons, List.map_nil, List.mem_cons, List.not_mem_nil, or_false] at hx
  rcases hx with rfl | rfl
  · exact ⟨h1 _ db, fun j => rowF_dg (h1 _ d0) (h1 _ d1) (h1 _ d2)⟩
  · exact ⟨h2 _ db, fun j => rowF_dg (h2 _ d0) (h2 _ d1) (h2 _ d2)⟩
theorem rowsX2_dg {p k0 k1 k2 : Nat} {q0 q1 q2 bd r0 r1 r2 bd2 : Rat} (d0 : Dg 9 q0) (d1 : Dg 9 q1) (d2 : Dg 9 q2) (db : Dg 9 bd) (e0 : Dg 9 r0) (e1 : Dg 9 r1) (e2 : Dg 9 r2) (eb : Dg 9 bd2) (u : Nat) : ∀ x ∈ rowsX2 p k0 k1 k2 q0 q1 q2 bd r0 r1 r2 bd2 u, DgP x := by
  intro x hx
  rcases List.mem_append.1 hx with h | h
  · exact rowsX_dg d0 d1 d2 db u x h
  · exact rowsX_dg e0 e1 e2 eb u x h
theorem dg_of {F : Nat → List ((Nat → Rat) × Rat)} {l : List Nat} {N : List Rw} {n : Nat} (hN : N.map (fun r => (r.G, r.b)) = l.flatMap F) (hF : ∀ u, ∀ x ∈ F u, DgP x) : ∀ r ∈ N, Dg 9 r.b ∧ ∀ j, j < n → Dg 9 (r.G j) := fun r hr => by
  have h1 : (r.G, r.b) ∈ N.map (fun r => (r.G, r.b)) := List.mem_map.2 ⟨r, hr, rfl⟩
  rw [hN] at h1
  obtain ⟨u, _, hx⟩ := List.mem_flatMap.1 h1
  have := hF u _ hx
  exact ⟨this.1, fun j _ => this.2 j⟩
theorem sgs_row (wr : World) : RowOf (fun j => ([1, -1] : List Rat).getD j 0) wr.heap.size 2 (wr.alloc (.cells #[.string ⟨#[49]⟩, .string ⟨#[45, 49]⟩] 54)) := by
  refine ⟨#[.string ⟨#[49]⟩, .string ⟨#[45, 49]⟩], (MapKept.heap_alloc wr _).1, rfl, fun j hj => ?_⟩
  rcases (show j = 0 ∨ j = 1 by omega) with rfl | rfl
  · show some (Value.string ⟨#[49]⟩) = some (.string (tQ 1)); rw [tQ_p1]
  · show some (Value.string ⟨#[45, 49]⟩) = some (.string (tQ (-1))); rw [tQ_m1]
theorem add_ok (s p u : Nat) (hs : s ≤ 60) (hp : p ≤ 60) (h0 : 0 < s * p) (h6 : s * p ≤ 60) (hu : u < s) (k0 k1 k2 : Nat) (hk : k0 < p ∧ k1 < p ∧ k2 < p) (hne : k0 ≠ k1 ∧ k0 ≠ k2 ∧ k1 ≠ k2) (q0 q1 q2 bd : Rat) (d0 : Dg 9 q0) (d1 : Dg 9 q1) (d2 : Dg 9 q2) (dB : Dg 9 bd)
    (mb oc sc base : Nat) (N : List Rw) (hN : N.length ≤ 990) (v : Value) (w W5 wr : World) (g : Glob w) (X5 : Ext w W5) (hm : MapR W5 mb 3 (fm3 k0 k1 k2 (.string (tQ q0)) (.string (tQ q1)) (.string (tQ q2)))) (hc : Cells sc [.int .i64 s, .int .i64 p] W5)
    (hoc : oc < base) (hsc : sc < base) (hso : sc ≠ oc) (hmo : mb ≠ oc) (hw0 : w.heap.size ≤ oc) (hb : base ≤ W5.heap.size) (hI : InvR (s * p) base oc W5 v N wr) :
    Calls Tryz.prog 86 #[.int .i64 u, .map (some mb), .string (tQ bd), .slice (some ⟨wr.heap.size, 0, none⟩) 2 2, .pointer (some ⟨oc, 0, none⟩), .pointer (some ⟨sc, 0, none⟩)] (wr.alloc (.cells #[.string ⟨#[49]⟩, .string ⟨#[45, 49]⟩] 54))
      (fun e w' => ∃ (v' : Value) (N' : List Rw), (∃ x, e = .returned x) ∧ InvR (s * p) base oc W5 v' (N ++ N') w' ∧ N'.map (fun r => (r.G, r.b)) = rowsX p k0 k1 k2 q0 q1 q2 bd u) := by
  have hone : ∀ x ∈ ([1, -1] : List Rat), Dg 9 x := fun x hx => by
    simp only [List.mem_cons, List.not_mem_nil, or_false] at hx
    rcases hx with rfl | rfl
    · exact dg_1
    · exact dg_1.neg
  have hbr := Nat.le_trans hb hI.kb.size
  have Za : Ext wr (wr.alloc (.cells #[.string ⟨#[49]⟩, .string ⟨#[45, 49]⟩] 54)) := (Ext.refl wr).alloc _
  have Xr : Ext w wr := X5.trans' (hI.kb.below (by omega) hw0)
  have hKa := KO.ofExt (oc := oc) hbr Za
  have h := rows1_ok s p u hs hp h0 h6 hu k0 k1 k2 hk hne q0 q1 q2 bd d0 d1 d2 dB [1, -1] hone (by simp) mb oc sc wr.heap.size base N (by omega) v w (wr.alloc (.cells #[.string ⟨#[49]⟩, .string ⟨#[45, 49]⟩] 54)) g (Xr.trans Za)
    (hKa.map hmo (hI.kb.map hmo hm)) (hKa.cells hsc hso (hI.kb.cells hsc hso hc)) (hI.c.ext Za) (hI.own.below Za) (hKa.rows hoc hI.rows) (sgs_row wr) hoc hsc hso hmo (by omega) hw0 (by have := Za.size; omega)
  refine h.mono ?_
  rintro e w' ⟨v', N', hx, hc', hown', hrows', hN', hkb⟩
  exact ⟨v', N', hx, ⟨hc', hown', hrows', (hI.kb.trans hKa).trans hkb⟩, hN'⟩
set_option maxRecDepth 100000 in
set_option maxHeartbeats 4000000 in
theorem rows_con (s p : Nat) (hs : s ≤ 60) (hp : p ≤ 60) (h0 : 0 < s * p) (h6 : s * p ≤ 60) (k0 k1 k2 : Nat) (hk : k0 < p ∧ k1 < p ∧ k2 < p) (hne : k0 ≠ k1 ∧ k0 ≠ k2 ∧ k1 ≠ k2)
    (pb po pc tb tO tc fb fo fc lb lo lc bb oo oc np nt nf nl no : Nat) (i : Nat) (hi : i < no) (hno : no ≤ 100) (nm tx ty td up low : ByteArray) (w : World) (g : Glob w) (hq : ∀ k u, ([.int .i64 2, .string nm, .string tx, .string ty, .string td, .string up, .string low, .string ⟨#[]⟩, .string ⟨#[]⟩, .string ⟨#[]⟩] : List Value)[k]? = some u → w.cell? ⟨bb, oo + i * 10 + k, none⟩ = some u)
    (ti : Nat) (l : List Nat) (hl : l.length ≤ 60) (hls : ∀ u ∈ l, u < s) (q0 q1 q2 z : Rat) (d0 : Dg 9 q0) (d1 : Dg 9 q1) (d2 : Dg 9 q2) (dz9 : Dg 9 z)
    (HH : ∀ W, Ext w W → Calls Tryz.prog 85 #[.agg #[.slice (some ⟨pb, po, none⟩) np pc, .slice (some ⟨tb, tO, none⟩) nt tc], .agg #[.string tx, .string ty]] W (fun e w' => ∃ mb, e = .returned (.tuple #[.map (some mb), .int .i64 ti, .int .i64 0]) ∧ W.heap.size ≤ mb ∧ MapR w' mb 3 (fm3 k0 k1 k2 (.string (tQ q0)) (.string (tQ q1)) (.string (tQ q2))) ∧ Ext W w'))
    (HZ : ∀ W, Ext w W → Calls Tryz.prog 47 #[.agg #[.slice (some ⟨pb, po, none⟩) np pc, .slice (some ⟨tb, tO, none⟩) nt tc, .slice (some ⟨fb, fo, none⟩) nf fc, .slice (some ⟨lb, lo, none⟩) nl lc, .slice (some ⟨bb, oo, none⟩) no oc], .int .i64 i] W (Ret (.tuple #[.string (tQ z), .int .i64 0]) W))
    (HS : ∀ W, Ext w W → Calls Tryz.prog 48 #[.agg #[.slice (some ⟨pb, po, none⟩) np pc, .slice (some ⟨tb, tO, none⟩) nt tc, .slice (some ⟨fb, fo, none⟩) nf fc, .slice (some ⟨lb, lo, none⟩) nl lc, .slice (some ⟨bb, oo, none⟩) no oc], .int .i64 i] W (fun e w' => ∃ v, e = .returned (.tuple #[v, .int .i64 0]) ∧ IntsV l v w' ∧ Ext W w'))
    : Calls Tryz.prog 45 #[shpV s p, .agg #[.slice (some ⟨pb, po, none⟩) np pc, .slice (some ⟨tb, tO, none⟩) nt tc, .slice (some ⟨fb, fo, none⟩) nf fc, .slice (some ⟨lb, lo, none⟩) nl lc, .slice (some ⟨bb, oo, none⟩) no oc], .int .i64 i] w (fun e w' => ∃ (v : Value) (N : List Rw) (base : Nat), e = .returned (.tuple #[v, .int .i64 0]) ∧ w.heap.size ≤ base ∧ OwnL (encW (s * p)) 101 2 base N v w' ∧ RowsIn (s * p) base N w' ∧ N.map (fun r => (r.G, r.b)) = l.flatMap (rowsX p k0 k1 k2 q0 q1 q2 z) ∧ Ext w w') := by
  have HHd := Lib.hid HH
  have HZd := Lib.hid HZ
  have HSd := Lib.hid HS
  have HA := Lib.hid (fun (u : Nat) (hu : u < s) (mb oc' base : Nat) (N : List Rw) (hN : N.length ≤ 990) (v : Value) (W5 wr : World) (X5 : Ext w W5) (hm : MapR W5 mb 3 (fm3 k0 k1 k2 (.string (tQ q0)) (.string (tQ q1)) (.string (tQ q2)))) (hc : Cells w.heap.size [.int .i64 s, .int .i64 p] W5) (hoc : oc' < base) (hso : w.heap.size < oc') (hmo : mb ≠ oc') (hbs : base ≤ W5.heap.size) (hI : InvR (s * p) base oc' W5 v N wr) => add_ok s p u hs hp h0 h6 hu k0 k1 k2 hk hne q0 q1 q2 z d0 d1 d2 dz9 mb oc' w.heap.size base N hN v w W5 wr g X5 hm hc hoc (by omega) (by omega) hmo (by omega) hbs hI)
  have HBd := Lib.hid (fun (N : List Rw) (hN : N.map (fun r => (r.G, r.b)) = l.flatMap (rowsX p k0 k1 k2 q0 q1 q2 z)) (hNl : N.length ≤ 1000) (base : Nat) (v : Value) (W : World) (X : Ext w W) (hown : OwnL (encW (s * p)) 101 2 base N v W) (hr : RowsIn (s * p) base N W) => bounded_ok (s * p) h0 h6 N hNl base v W (g.ext X) hown hr (dg_of hN (rowsX_dg d0 d1 d2 dz9)))
  have HLS := Lib.hid hls
  clear HH HZ HS hs hp h0 h6 hk hne d0 d1 d2 dz9 hls g
  generalize s * p = n at *
  have i1 : (i : Int) < no := by omega
  have i0 : (0 : Int) ≤ (i : Int) := by omega
  have e0 := hq 0 _ rfl
  rw [Nat.add_zero] at e0
  have e1 := hq 1 _ rfl
  have e2 := hq 2 _ rfl
  have e3 := hq 3 _ rfl
  have e4 := hq 4 _ rfl
  have e5 := hq 5 _ rfl
  have e6 := hq 6 _ rfl
  have e7 := hq 7 _ rfl
  have e8 := hq 8 _ rfl
  have e9 := hq 9 _ rfl
  clear hq
  simp only [shpV] at *
  go_enter Tryz.func45, Tryz.ntmps45
  go_upto_region 1 with fail
  have hV : ∃ W0, W0 = (w.alloc (.cells #[.int .i64 s, .int .i64 p] 109)).alloc (.cells #[.slice (some ⟨pb, po, none⟩) np pc, .slice (some ⟨tb, tO, none⟩) nt tc, .slice (some ⟨fb, fo, none⟩) nf fc, .slice (some ⟨lb, lo, none⟩) nl lc, .slice (some ⟨bb, oo, none⟩) no oc] 43) := ⟨_, rfl⟩
  obtain ⟨W0, hV⟩ := hV
  rw [← hV]
  have V0 : Ext w W0 := by rw [hV]; exact ((Ext.refl w).alloc _).alloc _
  have hV0 : W0.heap.size = w.heap.size + 1 + 1 := by rw [hV]; simp
  have vB := (five (show Cells (w.heap.size + 1) [.slice (some ⟨pb, po, none⟩) np pc, .slice (some ⟨tb, tO, none⟩) nt tc, .slice (some ⟨fb, fo, none⟩) nf fc, .slice (some ⟨lb, lo, none⟩) nl lc, .slice (some ⟨bb, oo, none⟩) no oc] W0 from by
    have := Cells.new (w.alloc (.cells #[.int .i64 s, .int .i64 p] 109)) [.slice (some ⟨pb, po, none⟩) np pc, .slice (some ⟨tb, tO, none⟩) nt tc, .slice (some ⟨fb, fo, none⟩) nf fc, .slice (some ⟨lb, lo, none⟩) nl lc, .slice (some ⟨bb, oo, none⟩) no oc] 43
    rw [World.size_alloc] at this
    rw [hV]; exact this)).2.2.2.2
  have HV := Lib.hid (And.intro hV hV0)
  clear hV hV0
  replace e0 := V0.cell e0
  replace e1 := V0.cell e1
  replace e2 := V0.cell e2
  replace e3 := V0.cell e3
  replace e4 := V0.cell e4
  replace e5 := V0.cell e5
  replace e6 := V0.cell e6
  replace e7 := V0.cell e7
  replace e8 := V0.cell e8
  replace e9 := V0.cell e9
  go_upto_region 2 with fail
  have hW : ∃ W1, W1 = W0.alloc (.cells #[.int .i64 2, .string nm, .string tx, .string ty, .string td, .string up, .string low, .string ⟨#[]⟩, .string ⟨#[]⟩, .string ⟨#[]⟩] 95) := ⟨_, rfl⟩
  obtain ⟨W1, hW⟩ := hW
  rw [← hW]
  rw [HV.out.1] at hW
  have hV2 : W0.heap.size = w.heap.size + 1 + 1 := HV.out.2
  rw [hV2]
  clear HV vB V0 hV2
  have X1 : Ext w W1 := by rw [hW]; exact (((Ext.refl w).alloc _).alloc _).alloc _
  have cS : Cells w.heap.size [.int .i64 s, .int .i64 p] W1 := by rw [hW]; exact (Cells.new w [.int .i64 s, .int .i64 p] 109).ext (((Ext.refl _).alloc _).alloc _)
  have cB : Cells (w.heap.size + 1) [.slice (some ⟨pb, po, none⟩) np pc, .slice (some ⟨tb, tO, none⟩) nt tc, .slice (some ⟨fb, fo, none⟩) nf fc, .slice (some ⟨lb, lo, none⟩) nl lc, .slice (some ⟨bb, oo, none⟩) no oc] W1 := by
    have := Cells.new (w.alloc (.cells #[.int .i64 s, .int .i64 p] 109)) [.slice (some ⟨pb, po, none⟩) np pc, .slice (some ⟨tb, tO, none⟩) nt tc, .slice (some ⟨fb, fo, none⟩) nf fc, .slice (some ⟨lb, lo, none⟩) nl lc, .slice (some ⟨bb, oo, none⟩) no oc] 43
    rw [World.size_alloc] at this
    rw [hW]; exact this.ext ((Ext.refl _).alloc _)
  have cO : Cells (w.heap.size + 1 + 1) [.int .i64 2, .string nm, .string tx, .string ty, .string td, .string up, .string low, .string ⟨#[]⟩, .string ⟨#[]⟩, .string ⟨#[]⟩] W1 := by
    have := Cells.new ((w.alloc (.cells #[.int .i64 s, .int .i64 p] 109)).alloc (.cells #[.slice (some ⟨pb, po, none⟩) np pc, .slice (some ⟨tb, tO, none⟩) nt tc, .slice (some ⟨fb, fo, none⟩) nf fc, .slice (some ⟨lb, lo, none⟩) nl lc, .slice (some ⟨bb, oo, none⟩) no oc] 43)) [.int .i64 2, .string nm, .string tx, .string ty, .string td, .string up, .string low, .string ⟨#[]⟩, .string ⟨#[]⟩, .string ⟨#[]⟩] 95
    rw [World.size_alloc, World.size_alloc] at this
    rw [hW]; exact this
  clear hW e0 e1 e2 e3 e4 e5 e6 e7 e8 e9 i0 i1
  have hBn := Lib.hid (Nat.succ_le_of_lt (World.block_lt_of_cell? W1 _ (cO.at 0 _ rfl).1))
  obtain ⟨b0, b1, b2, b3, b4⟩ := five cB
  have o2 := (cO.at 2 _ rfl).1
  have o3 := (cO.at 3 _ rfl).1
  go_wp2_with fail
  refine (HHd.out W1 X1).mono ?_
  rintro e w2 ⟨mb, rfl, hmb, hM, X2⟩
  have XA := X1.trans X2
  clear b0 b1 b2 b3 b4 o2 o3
  obtain ⟨b0, b1, b2, b3, b4⟩ := five (cB.ext X2)
  go_wp2_with fail
  refine (HZd.out w2 XA).mono ?_
  rintro e w3 ⟨rfl, X3⟩
  have XB := XA.trans X3
  have X23 := X2.trans X3
  clear b0 b1 b2 b3 b4
  obtain ⟨b0, b1, b2, b3, b4⟩ := five (cB.ext X23)
  go_wp2_with fail
  refine (HSd.out w3 XB).mono ?_
  rintro e w4 ⟨v, rfl, ⟨va, vc, rfl, hv⟩, X4⟩
  have XC := XB.trans X4
  have X14 := X23.trans X4
  clear b0 b1 b2 b3 b4 XA XB HHd HZd HSd
  have cO4 := cO.ext X14
  go_upto_region 12 with fail
  have hW5 : ∃ W5, W5 = w4.alloc (.cells #[.slice none 0 0] 57) := ⟨_, rfl⟩
  obtain ⟨W5, hW5⟩ := hW5
  rw [← hW5]
  have Z5 : Ext w4 W5 := by rw [hW5]; exact (Ext.refl _).alloc _
  have c5 : Cells w4.heap.size [.slice none 0 0] W5 := by rw [hW5]; exact Cells.new _ _ _
  have hs5 : W5.heap.size = w4.heap.size + 1 := by rw [hW5]; simp
  clear hW5
  have o0 := ((cO4.ext Z5).at 0 _ rfl).1
  have X5 := XC.trans Z5
  have hM5 : MapR W5 mb 3 (fm3 k0 k1 k2 (.string (tQ q0)) (.string (tQ q1)) (.string (tQ q2))) := hM.same (((X3.trans X4).trans Z5).block mb hM.lt)
  have cS5 := cS.ext (X14.trans Z5)
  have hmlt : mb < w4.heap.size := Nat.lt_of_lt_of_le hM.lt (X3.trans X4).size
  have hv5 : IntsV l (.slice va l.length vc) W5 := (show IntsV l (.slice va l.length vc) w4 from ⟨va, vc, rfl, hv⟩).ext Z5
  have hgl : Hid (l ≠ [] → ∃ g, va = some ⟨g, 0, none⟩ ∧ g < w4.heap.size) := Lib.hid (fun hne => by
    obtain ⟨g, h1, h2⟩ := hv hne
    exact ⟨g, h1, World.block_lt_of_cell? w4 _ (h2 0 (List.length_pos_iff.2 hne))⟩)
  have hst : RsR (s := s) n W5.heap.size w4.heap.size l (rowsX p k0 k1 k2 q0 q1 q2 z) W5 (.int .i64 0) W5 := ⟨0, .slice none 0 0, [], by omega, rfl, ⟨c5, OwnL.nil _, fun r hr => by simp at hr, KO.refl _ _ _⟩, rfl⟩
  have HM := Lib.hid (And.intro hM5 (And.intro cS5 (And.intro hv5 X5)))
  have HW := Lib.hid (And.intro hs5 (And.intro hmlt (And.intro hmb (And.intro X1.size (And.intro X14.size hBn.out)))))
  clear hM hM5 cS cS5 hv hv5 X5 cB cO cO4 c5 X1 X2 X3 X4 X14 X23 XC Z5 hs5 hmlt hmb hBn
  have hl2 : (l.length : Int) ≤ 60 := by omega
  go_wp2_with fail
  go_loopw [157] (RsR (s := s) n W5.heap.size w4.heap.size l (rowsX p k0 k1 k2 q0 q1 q2 z) W5) (fun p _ => l.length - (intOf p).toNat)
  case atStart => exact hst
  case round =>
    obtain ⟨k, v, N, hk, rfl, hI, hN⟩ := hrel
    obtain ⟨hsz, hmlt, hmb, s1, s14, hb1⟩ := HW.out
    obtain ⟨hM5, cS5, hv5, X5⟩ := HM.out
    have hNl : N.length = 2 * k := by
      have := congrArg List.length hN
      rw [List.length_map, rowsX_len, List.length_take, Nat.min_eq_left hk] at this
      exact this
    by_cases hlt : k < l.length
    · have kl : (k : Int) < l.length := by omega
      have kl0 : (0 : Int) ≤ (k : Int) := by omega
      obtain ⟨gl, rfl, hgl1⟩ := hgl.out (fun e => by rw [e] at hlt; simp at hlt)
      obtain ⟨va', vc', hve, hvv⟩ := hv5
      simp only [Value.slice.injEq] at hve
      obtain ⟨g2, hg2, hgc⟩ := hvv (fun e => by rw [e] at hlt; simp at hlt)
      obtain ⟨rfl, _, rfl⟩ := hve
      simp only [Option.some.injEq, Addr.mk.injEq] at hg2
      obtain ⟨rfl, _, _⟩ := hg2
      have y0 := hI.kb.cell (b := gl) (by omega) (by omega) (hgc k hlt)
      have HA1 := Lib.hid (HA.out l[k] (HLS.out _ (List.getElem_mem hlt)) mb w4.heap.size W5.heap.size N (by omega) v W5 wr X5 hM5 cS5 (by omega) (by omega) (by omega) (Nat.le_refl _) hI)
      have HT := Lib.hid (rowsX_step hlt hN)
      have HI := Lib.hid hI
      clear hgc hvv hsz hmlt hmb s1 s14 hb1 hM5 cS5 X5 hI hgl1 hNl
      generalize l[k] = u at *
      go_wp2_with fail
      refine HA1.out.mono ?_
      rintro e w6 ⟨v', N', ⟨x, rfl⟩, hI6, hN6⟩
      have HE : Hid (RsR (s := s) n W5.heap.size w4.heap.size l (rowsX p k0 k1 k2 q0 q1 q2 z) W5 (.int .i64 (k + 1 : Nat)) w6) := Lib.hid ⟨k + 1, v', N ++ N', hlt, rfl, hI6, HT.out N' hN6⟩
      clear hI6 hN6 y0
      go_wp2_with fail
      exact ⟨HE.out, by simp only [intOf]; omega⟩
    · obtain rfl : k = l.length := by omega
      rw [List.take_length] at hN
      have hc0 := (hI.c.at 0 _ rfl).1
      have Xr : Ext w wr := X5.trans' (hI.kb.below (by omega) (by omega))
      have HB1 := Lib.hid (HBd.out N hN (by omega) W5.heap.size v wr Xr hI.own hI.rows)
      have HE := Lib.hid (And.intro hI (And.intro hN (And.intro Xr (show w.heap.size ≤ W5.heap.size by omega))))
      clear hI hN Xr hM5 cS5 hv5 X5 hsz hmlt hmb s1 s14 hb1 hNl
      go_wp2_with fail
      refine HB1.out.mono ?_
      rintro e w7 ⟨rfl, X7⟩
      have HX := Lib.hid X7
      clear X7 hc0
      go_wp2_with fail
      go_ret2
      obtain ⟨hI, hN, Xr, hbs⟩ := HE.out
      exact ⟨v, N, W5.heap.size, rfl, hbs, hI.own.below HX.out, fun r hr => ⟨(hI.rows r hr).1, (hI.rows r hr).2.same (HX.out.block _ (hI.rows r hr).2.lt)⟩, hN, Xr.trans HX.out⟩
end Go.Proofs.YtbiffaciinppiaaGreatDoor
end
