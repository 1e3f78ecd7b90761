/- constraint.shape.thickness (columns without greatest thicknesses). -/
import Derived.Test.YtbiffaciinppiaaGreatDoorVa38
import Derived.Test.YtbiffaciinppiaaGreatDoorVa28
set_option linter.unusedVariables false
set_option linter.unusedSimpArgs false
namespace Go.Proofs.YtbiffaciinppiaaGreatDoor
open Go.RowKit Go.Maps
attribute [local irreducible] tQ
set_option linter.unusedSimpArgs false

set_option maxRecDepth 100000 in
set_option maxHeartbeats 4000000 in
theorem thick_ok (s P : Nat) (col : List Lay) (hs : col.length = s + 1) (hs2 : s ≤ 60) (hp0 : 0 < P) (hp : P ≤ 60) (h6 : s * P ≤ 60) (hmx : ∀ x ∈ col, x.max = none) (hmn : ∀ x ∈ col, Dg 9 x.min) (lb lo lc : Nat) (w : World) (hI : LaysIn w lb lo col) :
    Calls Tryz.prog 42 #[shpV s P, .slice (some ⟨lb, lo, none⟩) col.length lc] w (RowsT (s * P) (thkL P col (s - 1) 0) w) := by
  have HZ := Lib.hid (fun (h0 : 0 < s * P) W => zeros_ok s P hs2 hp h0 h6 W)
  have HN := Lib.hid (fun (q : Rat) (hq : Dg 9 q) W => rNeg q W (by have := hq.size; omega))
  have HA := Lib.hid (fun (i j : Nat) (hi : i ≤ 60) (hj : j ≤ 60) W => sAt_ok s P i j hp hi hj W)
  have HL := Lib.hid hI
  have HD := Lib.hid hmn
  have HX := Lib.hid hmx
  have HS := Lib.hid (And.intro hs (And.intro hs2 (And.intro hp0 (And.intro hp h6))))
  clear hs hs2 hp0 hp h6 hI hmn hmx
  simp only [shpV] at *
  have hn : ∃ n, n = s * P := ⟨_, rfl⟩
  obtain ⟨n, hn⟩ := hn
  rw [← hn] at HZ HS ⊢
  have HNN := Lib.hid hn
  have h6n : Hid (n ≤ 60) := Lib.hid HS.out.2.2.2.2
  clear hn
  have hC : ∃ C, C = col.length := ⟨_, rfl⟩
  obtain ⟨C, hC⟩ := hC
  rw [← hC] at HS ⊢
  have HCC := Lib.hid hC
  clear hC
  go_enter Tryz.func42, Tryz.ntmps42
  go_upto_region 1 with fail
  have hW : ∃ W0, W0 = w.alloc (.cells #[.int .i64 s, .int .i64 P] 109) := ⟨_, rfl⟩
  obtain ⟨W0, hW⟩ := hW
  rw [← hW]
  have X0 : Ext w W0 := by rw [hW]; exact (Ext.refl w).alloc _
  have c0 : Cells w.heap.size [.int .i64 s, .int .i64 P] W0 := by rw [hW]; exact Cells.new w [.int .i64 s, .int .i64 P] 109
  have hs0 : Hid (w.heap.size < W0.heap.size) := Lib.hid (by rw [hW]; simp)
  clear hW
  have hl0 : OutR P (s - 1) col n W0.heap.size W0 (.slice none 0 0) (.int .i64 1) W0 := ⟨0, by omega, rfl, [], ⟨OwnL.nil _, fun r hr => by simp at hr, KP.refl _ _⟩, rfl⟩
  go_wp2_with fail
  have hcb : (C : Int) ≤ 61 := by have := HS.out; omega
  have hpb : (P : Int) ≤ 60 := by have := HS.out; omega
  go_loopw [5, 6] (OutR P (s - 1) col n W0.heap.size W0) (fun _ p _ => s + 1 - (intOf p).toNat)
  case atStart => exact hl0
  case round =>
    obtain ⟨K, hK, rfl, N, hI, hN⟩ := hrel
    have cr := hI.kp.cells hs0.out c0
    have hKb : (K : Int) ≤ 60 := by have := HS.out; omega
    by_cases hlt : K + 1 < s
    · have d1 : (K : Int) + 1 + 1 < C := by have := HS.out; omega
      have HE := Lib.hid (show InR P col K n W0.heap.size W0 u5 (.int .i64 0) wr from ⟨0, by omega, rfl, N, hI, hN⟩)
      have b1 := (cr.at 1 _ rfl).1
      clear hI hN cr
      go_wp2_with fail
      clear b1
      go_loopw [5, 20] (InR P col K n W0.heap.size W0) (fun _ p _ => P - (intOf p).toNat)
      case atStart => exact HE.out
      case round =>
        obtain ⟨p, hp, rfl, N, hI, hN⟩ := hrel
        have cr := hI.kp.cells hs0.out c0
        have hpI : (p : Int) ≤ 60 := by omega
        by_cases hlt2 : p < P
        · have d2 : (p : Int) < P := by omega
          obtain ⟨hs, hs2, hp0, hp6, h6⟩ := HS.out
          have hJ1 : (K + 1) * P + p < n := by
            have h1 : (K + 2) * P ≤ s * P := Nat.mul_le_mul_right P (by omega)
            have h2 := HNN.out
            have h3 : (K + 2) * P = (K + 1) * P + P := by rw [show K + 2 = (K + 1) + 1 by omega, Nat.succ_mul]
            omega
          have hAB : (K + 1) * P = K * P + P := Nat.succ_mul K P
          have hJ0 : K * P + p < n := by omega
          have hJn : K * P + p ≠ (K + 1) * P + p := by omega
          have hKl : K + 1 < col.length := by rw [← HCC.out]; omega
          have hKi : (K : Int) + 1 < (C : Int) := by omega
          have hlay := HL.out (K + 1) hKl
          have hmx := HX.out _ (List.getElem_mem hKl)
          have hmn := HD.out _ (List.getElem_mem hKl)
          have hgd : col.getD (K + 1) default = col[K + 1] := by rw [List.getD_eq_getElem?_getD, List.getElem?_eq_getElem hKl]; rfl
          have HGD := Lib.hid hgd
          have HZ1 := Lib.hid (HZ.out (by have := HNN.out; omega))
          have HN1 := Lib.hid (HN.out _ hmn)
          have HA0 := Lib.hid (HA.out K p (by omega) (by omega))
          have HA1 := Lib.hid (fun W => show Calls Tryz.prog 41 #[.agg #[.int .i64 s, .int .i64 P], .int .i64 ((K : Int) + 1), .int .i64 p] W (Ret (.int .i64 (((K + 1) * P + p : Nat) : Int)) W) from HA.out (K + 1) p (by omega) (by omega) W)
          have hw0 : IntKind.i64.wrap (K : Int) = K := by simp only [IntKind.wrap_i64]; omega
          rw [hmx] at hlay
          have l1 := hlay.2.1
          have l2 := hlay.2.2
          clear hlay hmx hmn hgd hAB hs hs2 hp0 hp6 h6
          generalize hmE : col[K + 1].min = mn at *
          have HME := Lib.hid hmE
          clear hmE
          have hJ : ∃ J0 J1 : Nat, J0 = K * P + p ∧ J1 = (K + 1) * P + p := ⟨_, _, rfl, rfl⟩
          obtain ⟨J0, J1, e0, e1⟩ := hJ
          rw [← e0] at hJ0 hJn HA0
          rw [← e1] at hJ1 hJn HA1
          have HJ := Lib.hid (And.intro e0 e1)
          clear e0 e1
          have i0 : (J0 : Int) < n := by omega
          have i1 : (J1 : Int) < n := by omega
          have b0 := (cr.at 0 _ rfl).1
          have b1 := (cr.at 1 _ rfl).1
          have lw : w.heap.size < wr.heap.size := Nat.lt_of_lt_of_le hs0.out hI.kp.size
          go_upto_region 8 with fail
          refine wp_region_Z' (TE wr.heap.size wr) 10 (by kernel_rfl) ?_
          intro V0 hV0
          have Y0 : Ext wr V0 := by rw [hV0]; exact (Ext.refl wr).drew
          have hT : TE wr.heap.size wr false V0 := Y0
          clear hV0
          refine' wpAnyZ_take 10 (i := 0) (v := _) rfl rfl (by kernel_rfl) (by decide) (by kernel_rfl) (by kernel_rfl) (by kernel_rfl) (by kernel_rfl) (fun _ _ _ h => h.no.elim) hT (by rfl) ?hy ?_
          case hy => (intro w' hS; have q0 := hS.c lw b0; have q1 := hS.c lw b1; clear hS; go_simp; rfl)
          try simp only [Act.put, List.getElem_toArray, List.getElem_cons_zero, List.getElem_cons_succ, List.setIfInBounds_toArray, List.set_cons_zero, List.set_cons_succ]
          refine' wpAnyZ_take 10 (i := 1) (v := _) rfl rfl (by kernel_rfl) (by decide) (by kernel_rfl) (by kernel_rfl) (by kernel_rfl) (by kernel_rfl) (fun _ _ _ h => h.no.elim) hT (by rfl) ?hy ?_
          case hy => (intro w' hS; have q0 := hS.c lw b0; have q1 := hS.c lw b1; clear hS; go_simp; rfl)
          try simp only [Act.put, List.getElem_toArray, List.getElem_cons_zero, List.getElem_cons_succ, List.setIfInBounds_toArray, List.set_cons_zero, List.set_cons_succ]
          refine' wpAnyZ_take 10 (i := 2) (v := _) rfl rfl (by kernel_rfl) (by decide) (by kernel_rfl) (by kernel_rfl) (by kernel_rfl) (by kernel_rfl) (fun _ _ _ h => h.no.elim) hT (by rfl) ?hy ?_
          case hy => (intro w' hS; have q0 := hS.c lw b0; have q1 := hS.c lw b1; clear hS; go_simp; rfl)
          try simp only [Act.put, List.getElem_toArray, List.getElem_cons_zero, List.getElem_cons_succ, List.setIfInBounds_toArray, List.set_cons_zero, List.set_cons_succ]
          refine' wpAnyZ_take 10 (i := 3) (v := _) rfl rfl (by kernel_rfl) (by decide) (by kernel_rfl) (by kernel_rfl) (by kernel_rfl) (by kernel_rfl) (fun _ _ _ h => h.no.elim) hT (by rfl) ?hy ?_
          case hy => (intro w' hS; have q0 := hS.c lw b0; have q1 := hS.c lw b1; clear hS; go_simp; rfl)
          try simp only [Act.put, List.getElem_toArray, List.getElem_cons_zero, List.getElem_cons_succ, List.setIfInBounds_toArray, List.set_cons_zero, List.set_cons_succ]
          refine' wpAnyZ_take 10 (i := 5) (v := _) rfl rfl (by kernel_rfl) (by decide) (by kernel_rfl) (by kernel_rfl) (by kernel_rfl) (by kernel_rfl) (fun _ _ _ h => h.no.elim) hT (by rfl) ?hy ?_
          case hy => (intro w' hS; have q0 := hS.c lw b0; have q1 := hS.c lw b1; clear hS; go_simp; rfl)
          try simp only [Act.put, List.getElem_toArray, List.getElem_cons_zero, List.getElem_cons_succ, List.setIfInBounds_toArray, List.set_cons_zero, List.set_cons_succ]
          refine' wpAnyZ_take 10 (i := 6) (v := _) rfl rfl (by kernel_rfl) (by decide) (by kernel_rfl) (by kernel_rfl) (by kernel_rfl) (by kernel_rfl) (fun _ _ _ h => h.no.elim) hT (by rfl) ?hy ?_
          case hy => (intro w' hS; have q0 := hS.c lw b0; have q1 := hS.c lw b1; clear hS; go_simp; rfl)
          try simp only [Act.put, List.getElem_toArray, List.getElem_cons_zero, List.getElem_cons_succ, List.setIfInBounds_toArray, List.set_cons_zero, List.set_cons_succ]
          refine' wpAnyZ_take 10 (i := 7) (v := _) rfl rfl (by kernel_rfl) (by decide) (by kernel_rfl) (by kernel_rfl) (by kernel_rfl) (by kernel_rfl) (fun _ _ _ h => h.no.elim) hT (by rfl) ?hy ?_
          case hy => (intro w' hS; have q0 := hS.c lw b0; have q1 := hS.c lw b1; clear hS; go_simp; rfl)
          try simp only [Act.put, List.getElem_toArray, List.getElem_cons_zero, List.getElem_cons_succ, List.setIfInBounds_toArray, List.set_cons_zero, List.set_cons_succ]
          refine wpAnyZ_one false (i := 4) (by kernel_rfl) (by kernel_rfl) rfl (fun K' hK => ?_)
          go_simp
          refine (HA0.out _).mono ?_
          rintro e V1 ⟨rfl, Z1⟩
          have Y1 := Y0.trans Z1
          refine hK.out _ _ Y1 ?_
          clear hK K'
          try simp only [Act.put, List.getElem_toArray, List.getElem_cons_zero, List.getElem_cons_succ, List.setIfInBounds_toArray, List.set_cons_zero, List.set_cons_succ]
          refine wpAnyZ_one false (i := 8) (by kernel_rfl) (by kernel_rfl) rfl (fun K' hK => ?_)
          go_simp
          refine (HA1.out _).mono ?_
          rintro e V2 ⟨rfl, Z2⟩
          have Y2 := Y1.trans Z2
          refine hK.out _ _ Y2 ?_
          clear hK K' hT
          try simp only [Act.put, List.getElem_toArray, List.getElem_cons_zero, List.getElem_cons_succ, List.setIfInBounds_toArray, List.set_cons_zero, List.set_cons_succ]
          refine wpAnyZ_one false (i := 9) (by kernel_rfl) (by kernel_rfl) rfl (fun K' hK => ?_)
          go_simp
          refine hK.out _ _ Y2 ?_
          clear hK K'
          try simp only [Act.put, List.getElem_toArray, List.getElem_cons_zero, List.getElem_cons_succ, List.setIfInBounds_toArray, List.set_cons_zero, List.set_cons_succ]
          refine wpAnyZ_one true (i := 10) (by kernel_rfl) (by kernel_rfl) rfl (fun K' hK => ?_)
          go_simp
          refine hK.out _ _ trivial ?_
          clear hK K'
          try simp only [Act.put, List.getElem_toArray, List.getElem_cons_zero, List.getElem_cons_succ, List.setIfInBounds_toArray, List.set_cons_zero, List.set_cons_succ]
          refine wpAnyZ_done (by kernel_rfl) ⟨rfl, ?_⟩ _
          clear b0 b1 lw Z1 Z2 Y0 Y1 hw0 HA0 HA1
          have XW := Lib.hid (X0.trans (show Ext W0 wr from hI.kp.below (Nat.le_refl _)))
          have l1' := (XW.out.trans Y2).cell l1
          have lv := World.block_lt_of_cell? V2 _ l1'
          have cr2 := cr.ext Y2
          have b0 := (cr2.at 0 _ rfl).1
          have b1 := (cr2.at 1 _ rfl).1
          have lw := World.block_lt_of_cell? V2 _ b0
          go_upto_region 9 with fail
          go_cut [10] (fun s10 wx => ∃ rb q, s10 = .pointer (some ⟨rb, 0, none⟩) ∧ V2.heap.size ≤ rb ∧ V2.heap.size ≤ q ∧ Cells rb [.slice (some ⟨q, 0, none⟩) n n, .string (tQ (-mn))] wx ∧ RowC (fun _ => 0) q n wx ∧ Ext V2 wx)
          case first =>
            refine wp_region_Z' (TE V2.heap.size V2) 10 (by kernel_rfl) ?_
            intro U0 hU0
            have T0 : Ext V2 U0 := by rw [hU0]; exact (Ext.refl V2).drew
            have hT : TE V2.heap.size V2 false U0 := T0
            clear hU0
            refine' wpAnyZ_take 10 (i := 0) (v := _) rfl rfl (by kernel_rfl) (by decide) (by kernel_rfl) (by kernel_rfl) (by kernel_rfl) (by kernel_rfl) (fun _ _ _ h => h.no.elim) hT (by rfl) ?hy ?_
            case hy => (intro w' hS; have q0 := hS.c lw b0; have q1 := hS.c lw b1; have q2 := hS.c lv l1'; clear hS; go_simp; rfl)
            try simp only [Act.put, List.getElem_toArray, List.getElem_cons_zero, List.getElem_cons_succ, List.setIfInBounds_toArray, List.set_cons_zero, List.set_cons_succ]
            refine' wpAnyZ_take 10 (i := 2) (v := _) rfl rfl (by kernel_rfl) (by decide) (by kernel_rfl) (by kernel_rfl) (by kernel_rfl) (by kernel_rfl) (fun _ _ _ h => h.no.elim) hT (by rfl) ?hy ?_
            case hy => (intro w' hS; have q0 := hS.c lw b0; have q1 := hS.c lw b1; have q2 := hS.c lv l1'; clear hS; go_simp; rfl)
            try simp only [Act.put, List.getElem_toArray, List.getElem_cons_zero, List.getElem_cons_succ, List.setIfInBounds_toArray, List.set_cons_zero, List.set_cons_succ]
            refine' wpAnyZ_take 10 (i := 3) (v := _) rfl rfl (by kernel_rfl) (by decide) (by kernel_rfl) (by kernel_rfl) (by kernel_rfl) (by kernel_rfl) (fun _ _ _ h => h.no.elim) hT (by rfl) ?hy ?_
            case hy => (intro w' hS; have q0 := hS.c lw b0; have q1 := hS.c lw b1; have q2 := hS.c lv l1'; clear hS; go_simp; rfl)
            try simp only [Act.put, List.getElem_toArray, List.getElem_cons_zero, List.getElem_cons_succ, List.setIfInBounds_toArray, List.set_cons_zero, List.set_cons_succ]
            refine' wpAnyZ_take 10 (i := 4) (v := _) rfl rfl (by kernel_rfl) (by decide) (by kernel_rfl) (by kernel_rfl) (by kernel_rfl) (by kernel_rfl) (fun _ _ _ h => h.no.elim) hT (by rfl) ?hy ?_
            case hy => (intro w' hS; have q0 := hS.c lw b0; have q1 := hS.c lw b1; have q2 := hS.c lv l1'; clear hS; go_simp; rfl)
            try simp only [Act.put, List.getElem_toArray, List.getElem_cons_zero, List.getElem_cons_succ, List.setIfInBounds_toArray, List.set_cons_zero, List.set_cons_succ]
            refine' wpAnyZ_take 10 (i := 5) (v := _) rfl rfl (by kernel_rfl) (by decide) (by kernel_rfl) (by kernel_rfl) (by kernel_rfl) (by kernel_rfl) (fun _ _ _ h => h.no.elim) hT (by rfl) ?hy ?_
            case hy => (intro w' hS; have q0 := hS.c lw b0; have q1 := hS.c lw b1; have q2 := hS.c lv l1'; clear hS; go_simp; rfl)
            try simp only [Act.put, List.getElem_toArray, List.getElem_cons_zero, List.getElem_cons_succ, List.setIfInBounds_toArray, List.set_cons_zero, List.set_cons_succ]
            refine' wpAnyZ_take 10 (i := 6) (v := _) rfl rfl (by kernel_rfl) (by decide) (by kernel_rfl) (by kernel_rfl) (by kernel_rfl) (by kernel_rfl) (fun _ _ _ h => h.no.elim) hT (by rfl) ?hy ?_
            case hy => (intro w' hS; have q0 := hS.c lw b0; have q1 := hS.c lw b1; have q2 := hS.c lv l1'; clear hS; go_simp; rfl)
            try simp only [Act.put, List.getElem_toArray, List.getElem_cons_zero, List.getElem_cons_succ, List.setIfInBounds_toArray, List.set_cons_zero, List.set_cons_succ]
            refine wpAnyZ_alt (r := 1) (rs := [9]) (by kernel_rfl) ?_
            refine AltR.cons false (by kernel_rfl) rfl (fun K' hK => ?_) ?_
            ·
              go_simp
              refine (HZ1.out _).mono ?_
              rintro e U1 ⟨q, cur, rfl, hq, hrow, R1⟩
              have T1 : Ext V2 U1 := T0.trans R1
              have hqV : V2.heap.size ≤ q := Nat.le_trans T0.size hq
              have hro : RowC (fun _ => 0) q n U1 := (RowZ.of hrow).toC
              clear hrow hq
              refine hK.out _ _ T1 ?_
              clear hK K'
              try simp only [Act.put, List.getElem_toArray, List.getElem_cons_zero, List.getElem_cons_succ, List.setIfInBounds_toArray, List.set_cons_zero, List.set_cons_succ]
              refine wpAnyZ_alt (r := 7) (rs := [9]) (by kernel_rfl) ?_
              refine AltR.cons false (by kernel_rfl) rfl (fun K' hK => ?_) ?_
              ·
                go_simp
                refine (HN1.out _).mono ?_
                rintro e U2 ⟨rfl, R2⟩
                have T2 : Ext V2 U2 := T1.trans R2
                replace hro := hro.ext R2
                refine hK.out _ _ T2 ?_
                clear hK K'
                try simp only [Act.put, List.getElem_toArray, List.getElem_cons_zero, List.getElem_cons_succ, List.setIfInBounds_toArray, List.set_cons_zero, List.set_cons_succ]
                refine wpAnyZ_alt (r := 8) (rs := [9]) (by kernel_rfl) ?_
                refine AltR.cons false (by kernel_rfl) rfl (fun K' hK => ?_) ?_
                ·
                  go_simp
                  refine hK.out _ _ T2 ?_
                  clear hK K'
                  try simp only [Act.put, List.getElem_toArray, List.getElem_cons_zero, List.getElem_cons_succ, List.setIfInBounds_toArray, List.set_cons_zero, List.set_cons_succ]
                  refine wpAnyZ_one false (i := 9) (by kernel_rfl) (by kernel_rfl) rfl (fun K' hK => ?_)
                  go_simp
                  have T4 : Ext V2 (U2.alloc (.cells #[.slice none 0 0, .string ⟨#[]⟩] 101)) := T2.alloc _
                  refine hK.out _ _ T4 ?_
                  clear hK K'
                  refine wpAnyZ_gen ?_
                  intro U4 hU
                  rw [← hU] at T4
                  have R4 : Ext U2 U4 := by rw [hU]; exact (Ext.refl _).alloc _
                  have fr : Cells U2.heap.size [.slice none 0 0, .string ⟨#[]⟩] U4 := by rw [hU]; exact Cells.new _ _ _
                  have hrb : V2.heap.size ≤ U2.heap.size := T2.size
                  clear hU
                  replace hro := hro.ext R4
                  try simp only [Act.put, List.getElem_toArray, List.getElem_cons_zero, List.getElem_cons_succ, List.setIfInBounds_toArray, List.set_cons_zero, List.set_cons_succ]
                  refine wpAnyZ_one true (i := 10) (by kernel_rfl) (by kernel_rfl) rfl (fun K' hK => ?_)
                  obtain ⟨x0, y0⟩ := fr.at 0 _ rfl
                  obtain ⟨x1, y1⟩ := fr.at 1 _ rfl
                  have hf := (fr.put 0 (by simp) (.slice (some ⟨q, 0, none⟩) n n)).put 1 (by simp) (.string (tQ (-mn)))
                  have hX := (T4.setCell (p := ⟨_, 0, none⟩) hrb (.slice (some ⟨q, 0, none⟩) n n)).setCell (p := ⟨_, 1, none⟩) hrb (.string (tQ (-mn)))
                  have hqr : q ≠ U2.heap.size := by
                    intro e
                    have h1 := hro.cell hJ0
                    rw [e] at h1
                    obtain ⟨cur, h2, h3, h4⟩ := hro
                    have h5 := h4 0 (by omega)
                    have h6 := (fr.at 0 _ rfl).1
                    rw [← e] at h6
                    simp only [World.cell?, h2, h5] at h6
                    simp at h6
                  have hro3 : RowC (fun _ => 0) q n ((U4.setCell ⟨U2.heap.size, 0, none⟩ (.slice (some ⟨q, 0, none⟩) n n)).setCell ⟨U2.heap.size, 1, none⟩ (.string (tQ (-mn)))) := hro.same ((heap_set _ ⟨U2.heap.size, 1, none⟩ _ q hqr).trans (heap_set _ ⟨U2.heap.size, 0, none⟩ _ q hqr))
                  have HF := Lib.hid (And.intro hf (And.intro hro3 hX))
                  clear hf hX hro3
                  go_simp
                  refine hK.out _ _ trivial ?_
                  clear hK K'
                  refine wpAnyZ_done (by kernel_rfl) ⟨rfl, ?_⟩ _
                  go_wp2_with fail
                  go_meet
                  exact ⟨_, _, rfl, hrb, hqV, HF.out.1, HF.out.2.1, HF.out.2.2⟩
                refine AltR.cons false (by kernel_rfl) rfl (fun K' hK => ?_) ?_
                ·
                  go_simp
                  have T6 : Ext V2 (U2.alloc (.cells #[.slice none 0 0, .string ⟨#[]⟩] 101)) := T2.alloc _
                  refine hK.out _ _ T6 ?_
                  clear hK K'
                  refine wpAnyZ_gen ?_
                  intro U6 hU
                  rw [← hU] at T6
                  have R6 : Ext U2 U6 := by rw [hU]; exact (Ext.refl _).alloc _
                  have fr : Cells U2.heap.size [.slice none 0 0, .string ⟨#[]⟩] U6 := by rw [hU]; exact Cells.new _ _ _
                  have hrb : V2.heap.size ≤ U2.heap.size := T2.size
                  clear hU
                  replace hro := hro.ext R6
                  try simp only [Act.put, List.getElem_toArray, List.getElem_cons_zero, List.getElem_cons_succ, List.setIfInBounds_toArray, List.set_cons_zero, List.set_cons_succ]
                  refine wpAnyZ_one false (i := 8) (by kernel_rfl) (by kernel_rfl) rfl (fun K' hK => ?_)
                  go_simp
                  refine hK.out _ _ T6 ?_
                  clear hK K'
                  try simp only [Act.put, List.getElem_toArray, List.getElem_cons_zero, List.getElem_cons_succ, List.setIfInBounds_toArray, List.set_cons_zero, List.set_cons_succ]
                  refine wpAnyZ_one true (i := 10) (by kernel_rfl) (by kernel_rfl) rfl (fun K' hK => ?_)
                  obtain ⟨x0, y0⟩ := fr.at 0 _ rfl
                  obtain ⟨x1, y1⟩ := fr.at 1 _ rfl
                  have hf := (fr.put 0 (by simp) (.slice (some ⟨q, 0, none⟩) n n)).put 1 (by simp) (.string (tQ (-mn)))
                  have hX := (T6.setCell (p := ⟨_, 0, none⟩) hrb (.slice (some ⟨q, 0, none⟩) n n)).setCell (p := ⟨_, 1, none⟩) hrb (.string (tQ (-mn)))
                  have hqr : q ≠ U2.heap.size := by
                    intro e
                    have h1 := hro.cell hJ0
                    rw [e] at h1
                    obtain ⟨cur, h2, h3, h4⟩ := hro
                    have h5 := h4 0 (by omega)
                    have h6 := (fr.at 0 _ rfl).1
                    rw [← e] at h6
                    simp only [World.cell?, h2, h5] at h6
                    simp at h6
                  have hro3 : RowC (fun _ => 0) q n ((U6.setCell ⟨U2.heap.size, 0, none⟩ (.slice (some ⟨q, 0, none⟩) n n)).setCell ⟨U2.heap.size, 1, none⟩ (.string (tQ (-mn)))) := hro.same ((heap_set _ ⟨U2.heap.size, 1, none⟩ _ q hqr).trans (heap_set _ ⟨U2.heap.size, 0, none⟩ _ q hqr))
                  have HF := Lib.hid (And.intro hf (And.intro hro3 hX))
                  clear hf hX hro3
                  go_simp
                  refine hK.out _ _ trivial ?_
                  clear hK K'
                  refine wpAnyZ_done (by kernel_rfl) ⟨rfl, ?_⟩ _
                  go_wp2_with fail
                  go_meet
                  exact ⟨_, _, rfl, hrb, hqV, HF.out.1, HF.out.2.1, HF.out.2.2⟩
                exact AltR.nil
              refine AltR.cons false (by kernel_rfl) rfl (fun K' hK => ?_) ?_
              ·
                go_simp
                have T9 : Ext V2 (U1.alloc (.cells #[.slice none 0 0, .string ⟨#[]⟩] 101)) := T1.alloc _
                refine hK.out _ _ T9 ?_
                clear hK K'
                refine wpAnyZ_gen ?_
                intro U9 hU
                rw [← hU] at T9
                have R9 : Ext U1 U9 := by rw [hU]; exact (Ext.refl _).alloc _
                have fr : Cells U1.heap.size [.slice none 0 0, .string ⟨#[]⟩] U9 := by rw [hU]; exact Cells.new _ _ _
                have hrb : V2.heap.size ≤ U1.heap.size := T1.size
                clear hU
                replace hro := hro.ext R9
                try simp only [Act.put, List.getElem_toArray, List.getElem_cons_zero, List.getElem_cons_succ, List.setIfInBounds_toArray, List.set_cons_zero, List.set_cons_succ]
                refine wpAnyZ_one false (i := 7) (by kernel_rfl) (by kernel_rfl) rfl (fun K' hK => ?_)
                go_simp
                refine (HN1.out _).mono ?_
                rintro e U10 ⟨rfl, R10⟩
                have T10 : Ext V2 U10 := T9.trans R10
                replace hro := hro.ext R10
                replace fr := fr.ext R10
                refine hK.out _ _ T10 ?_
                clear hK K'
                try simp only [Act.put, List.getElem_toArray, List.getElem_cons_zero, List.getElem_cons_succ, List.setIfInBounds_toArray, List.set_cons_zero, List.set_cons_succ]
                refine wpAnyZ_one false (i := 8) (by kernel_rfl) (by kernel_rfl) rfl (fun K' hK => ?_)
                go_simp
                refine hK.out _ _ T10 ?_
                clear hK K'
                try simp only [Act.put, List.getElem_toArray, List.getElem_cons_zero, List.getElem_cons_succ, List.setIfInBounds_toArray, List.set_cons_zero, List.set_cons_succ]
                refine wpAnyZ_one true (i := 10) (by kernel_rfl) (by kernel_rfl) rfl (fun K' hK => ?_)
                obtain ⟨x0, y0⟩ := fr.at 0 _ rfl
                obtain ⟨x1, y1⟩ := fr.at 1 _ rfl
                have hf := (fr.put 0 (by simp) (.slice (some ⟨q, 0, none⟩) n n)).put 1 (by simp) (.string (tQ (-mn)))
                have hX := (T10.setCell (p := ⟨_, 0, none⟩) hrb (.slice (some ⟨q, 0, none⟩) n n)).setCell (p := ⟨_, 1, none⟩) hrb (.string (tQ (-mn)))
                have hqr : q ≠ U1.heap.size := by
                  intro e
                  have h1 := hro.cell hJ0
                  rw [e] at h1
                  obtain ⟨cur, h2, h3, h4⟩ := hro
                  have h5 := h4 0 (by omega)
                  have h6 := (fr.at 0 _ rfl).1
                  rw [← e] at h6
                  simp only [World.cell?, h2, h5] at h6
                  simp at h6
                have hro3 : RowC (fun _ => 0) q n ((U10.setCell ⟨U1.heap.size, 0, none⟩ (.slice (some ⟨q, 0, none⟩) n n)).setCell ⟨U1.heap.size, 1, none⟩ (.string (tQ (-mn)))) := hro.same ((heap_set _ ⟨U1.heap.size, 1, none⟩ _ q hqr).trans (heap_set _ ⟨U1.heap.size, 0, none⟩ _ q hqr))
                have HF := Lib.hid (And.intro hf (And.intro hro3 hX))
                clear hf hX hro3
                go_simp
                refine hK.out _ _ trivial ?_
                clear hK K'
                refine wpAnyZ_done (by kernel_rfl) ⟨rfl, ?_⟩ _
                go_wp2_with fail
                go_meet
                exact ⟨_, _, rfl, hrb, hqV, HF.out.1, HF.out.2.1, HF.out.2.2⟩
              exact AltR.nil
            refine AltR.cons false (by kernel_rfl) rfl (fun K' hK => ?_) ?_
            ·
              go_simp
              have T13 : Ext V2 (U0.alloc (.cells #[.slice none 0 0, .string ⟨#[]⟩] 101)) := T0.alloc _
              refine hK.out _ _ T13 ?_
              clear hK K'
              refine wpAnyZ_gen ?_
              intro U13 hU
              rw [← hU] at T13
              have R13 : Ext U0 U13 := by rw [hU]; exact (Ext.refl _).alloc _
              have fr : Cells U0.heap.size [.slice none 0 0, .string ⟨#[]⟩] U13 := by rw [hU]; exact Cells.new _ _ _
              have hrb : V2.heap.size ≤ U0.heap.size := T0.size
              clear hU
              try simp only [Act.put, List.getElem_toArray, List.getElem_cons_zero, List.getElem_cons_succ, List.setIfInBounds_toArray, List.set_cons_zero, List.set_cons_succ]
              refine wpAnyZ_one false (i := 1) (by kernel_rfl) (by kernel_rfl) rfl (fun K' hK => ?_)
              go_simp
              refine (HZ1.out _).mono ?_
              rintro e U14 ⟨q, cur, rfl, hq, hrow, R14⟩
              have T14 : Ext V2 U14 := T13.trans R14
              have hqV : V2.heap.size ≤ q := Nat.le_trans T13.size hq
              have hro : RowC (fun _ => 0) q n U14 := (RowZ.of hrow).toC
              clear hrow hq
              replace fr := fr.ext R14
              refine hK.out _ _ T14 ?_
              clear hK K'
              try simp only [Act.put, List.getElem_toArray, List.getElem_cons_zero, List.getElem_cons_succ, List.setIfInBounds_toArray, List.set_cons_zero, List.set_cons_succ]
              refine wpAnyZ_one false (i := 7) (by kernel_rfl) (by kernel_rfl) rfl (fun K' hK => ?_)
              go_simp
              refine (HN1.out _).mono ?_
              rintro e U15 ⟨rfl, R15⟩
              have T15 : Ext V2 U15 := T14.trans R15
              replace hro := hro.ext R15
              replace fr := fr.ext R15
              refine hK.out _ _ T15 ?_
              clear hK K'
              try simp only [Act.put, List.getElem_toArray, List.getElem_cons_zero, List.getElem_cons_succ, List.setIfInBounds_toArray, List.set_cons_zero, List.set_cons_succ]
              refine wpAnyZ_one false (i := 8) (by kernel_rfl) (by kernel_rfl) rfl (fun K' hK => ?_)
              go_simp
              refine hK.out _ _ T15 ?_
              clear hK K'
              try simp only [Act.put, List.getElem_toArray, List.getElem_cons_zero, List.getElem_cons_succ, List.setIfInBounds_toArray, List.set_cons_zero, List.set_cons_succ]
              refine wpAnyZ_one true (i := 10) (by kernel_rfl) (by kernel_rfl) rfl (fun K' hK => ?_)
              obtain ⟨x0, y0⟩ := fr.at 0 _ rfl
              obtain ⟨x1, y1⟩ := fr.at 1 _ rfl
              have hf := (fr.put 0 (by simp) (.slice (some ⟨q, 0, none⟩) n n)).put 1 (by simp) (.string (tQ (-mn)))
              have hX := (T15.setCell (p := ⟨_, 0, none⟩) hrb (.slice (some ⟨q, 0, none⟩) n n)).setCell (p := ⟨_, 1, none⟩) hrb (.string (tQ (-mn)))
              have hqr : q ≠ U0.heap.size := by
                intro e
                have h1 := hro.cell hJ0
                rw [e] at h1
                obtain ⟨cur, h2, h3, h4⟩ := hro
                have h5 := h4 0 (by omega)
                have h6 := (fr.at 0 _ rfl).1
                rw [← e] at h6
                simp only [World.cell?, h2, h5] at h6
                simp at h6
              have hro3 : RowC (fun _ => 0) q n ((U15.setCell ⟨U0.heap.size, 0, none⟩ (.slice (some ⟨q, 0, none⟩) n n)).setCell ⟨U0.heap.size, 1, none⟩ (.string (tQ (-mn)))) := hro.same ((heap_set _ ⟨U0.heap.size, 1, none⟩ _ q hqr).trans (heap_set _ ⟨U0.heap.size, 0, none⟩ _ q hqr))
              have HF := Lib.hid (And.intro hf (And.intro hro3 hX))
              clear hf hX hro3
              go_simp
              refine hK.out _ _ trivial ?_
              clear hK K'
              refine wpAnyZ_done (by kernel_rfl) ⟨rfl, ?_⟩ _
              go_wp2_with fail
              go_meet
              exact ⟨_, _, rfl, hrb, hqV, HF.out.1, HF.out.2.1, HF.out.2.2⟩
            exact AltR.nil
          case rest =>
            obtain ⟨rb, q, rfl, hrb, hq, hcr, hro, XO⟩ := hcut
            have Y3 := Y2.trans XO
            have hqV : wr.heap.size ≤ q := Nat.le_trans Y2.size hq
            have hnb0 := (hcr.at 0 _ rfl).1
            have hnb1 := (hcr.at 1 _ rfl).1
            have hqrb : q ≠ rb := by
              intro e
              obtain ⟨cur, h2, h3, h4⟩ := hro
              have h5 := h4 0 (by omega)
              rw [← e] at hnb0
              simp only [World.cell?, h2, h5] at hnb0
              simp at hnb0
            have HQ := Lib.hid (And.intro hqV hqrb)
            clear hrb hq b0 b1 lw lv l1' cr2 HN1 HZ1 hqV hqrb
            go_upto_region 10 with fail
            refine wp_region_Z' (TN rb 0 1 (.slice (some ⟨q, 0, none⟩) n n) (.string (tQ (-mn)))) 9 (by kernel_rfl) ?_
            intro G0 hG0
            have E0 : Ext wc G0 := by rw [hG0]; exact (Ext.refl wc).drew
            have hT : TN rb 0 1 (.slice (some ⟨q, 0, none⟩) n n) (.string (tQ (-mn))) false G0 := ⟨E0.cell hnb0, E0.cell hnb1⟩
            clear hG0
            refine' wpAnyZ_take 9 (i := 0) (v := _) rfl rfl (by kernel_rfl) (by decide) (by kernel_rfl) (by kernel_rfl) (by kernel_rfl) (by kernel_rfl) (fun _ _ _ h => h.no.elim) hT (by rfl) ?hy ?_
            case hy => (intro w' hS; obtain ⟨q0, q1⟩ := hS.c; clear hS; go_simp; rfl)
            try simp only [Act.put, List.getElem_toArray, List.getElem_cons_zero, List.getElem_cons_succ, List.setIfInBounds_toArray, List.set_cons_zero, List.set_cons_succ]
            refine' wpAnyZ_take 9 (i := 1) (v := _) rfl rfl (by kernel_rfl) (by decide) (by kernel_rfl) (by kernel_rfl) (by kernel_rfl) (by kernel_rfl) (fun _ _ _ h => h.no.elim) hT (by rfl) ?hy ?_
            case hy => (intro w' hS; obtain ⟨q0, q1⟩ := hS.c; clear hS; go_simp; rfl)
            try simp only [Act.put, List.getElem_toArray, List.getElem_cons_zero, List.getElem_cons_succ, List.setIfInBounds_toArray, List.set_cons_zero, List.set_cons_succ]
            refine' wpAnyZ_take 9 (i := 2) (v := _) rfl rfl (by kernel_rfl) (by decide) (by kernel_rfl) (by kernel_rfl) (by kernel_rfl) (by kernel_rfl) (fun _ _ _ h => h.no.elim) hT (by rfl) ?hy ?_
            case hy => (intro w' hS; obtain ⟨q0, q1⟩ := hS.c; clear hS; go_simp; rfl)
            try simp only [Act.put, List.getElem_toArray, List.getElem_cons_zero, List.getElem_cons_succ, List.setIfInBounds_toArray, List.set_cons_zero, List.set_cons_succ]
            refine' wpAnyZ_take 9 (i := 3) (v := _) rfl rfl (by kernel_rfl) (by decide) (by kernel_rfl) (by kernel_rfl) (by kernel_rfl) (by kernel_rfl) (fun _ _ _ h => h.no.elim) hT (by rfl) ?hy ?_
            case hy => (intro w' hS; obtain ⟨q0, q1⟩ := hS.c; clear hS; go_simp; rfl)
            try simp only [Act.put, List.getElem_toArray, List.getElem_cons_zero, List.getElem_cons_succ, List.setIfInBounds_toArray, List.set_cons_zero, List.set_cons_succ]
            refine' wpAnyZ_take 9 (i := 4) (v := _) rfl rfl (by kernel_rfl) (by decide) (by kernel_rfl) (by kernel_rfl) (by kernel_rfl) (by kernel_rfl) (fun _ _ _ h => h.no.elim) hT (by rfl) ?hy ?_
            case hy => (intro w' hS; obtain ⟨q0, q1⟩ := hS.c; clear hS; go_simp; rfl)
            try simp only [Act.put, List.getElem_toArray, List.getElem_cons_zero, List.getElem_cons_succ, List.setIfInBounds_toArray, List.set_cons_zero, List.set_cons_succ]
            refine' wpAnyZ_take 9 (i := 5) (v := _) rfl rfl (by kernel_rfl) (by decide) (by kernel_rfl) (by kernel_rfl) (by kernel_rfl) (by kernel_rfl) (fun _ _ _ h => h.no.elim) hT (by rfl) ?hy ?_
            case hy => (intro w' hS; obtain ⟨q0, q1⟩ := hS.c; clear hS; go_simp; rfl)
            try simp only [Act.put, List.getElem_toArray, List.getElem_cons_zero, List.getElem_cons_succ, List.setIfInBounds_toArray, List.set_cons_zero, List.set_cons_succ]
            have hro0 := hro.ext E0
            have y0 := hro0.cell hJ0
            have f0 := hro0.frozen J0
            have hro1 := hro0.put J0 hJ0 1
            rw [tQ_p1'] at hro1
            have y1 := hro1.cell hJ1
            have f1 := hro1.frozen J1
            have hro2 := hro1.put J1 hJ1 (-1)
            rw [tQ_m1'] at hro2
            have hcr0 := hcr.ext E0
            have hcr1 := hcr0.setOther (a := ⟨q, J0, none⟩) (fun e => HQ.out.2 e.symm) (.string ⟨#[49]⟩)
            have hcr2 := hcr1.setOther (a := ⟨q, J1, none⟩) (fun e => HQ.out.2 e.symm) (.string ⟨#[45, 49]⟩)
            have Y5 : Ext wr ((G0.setCell ⟨q, J0, none⟩ (.string ⟨#[49]⟩)).setCell ⟨q, J1, none⟩ (.string ⟨#[45, 49]⟩)) := ((Y3.trans E0).setCell (p := ⟨q, J0, none⟩) HQ.out.1 _).setCell (p := ⟨q, J1, none⟩) HQ.out.1 _
            have hT1 : TN rb 0 1 (.slice (some ⟨q, 0, none⟩) n n) (.string (tQ (-mn))) false (G0.setCell ⟨q, J0, none⟩ (.string ⟨#[49]⟩)) := ⟨(hcr1.at 0 _ rfl).1, (hcr1.at 1 _ rfl).1⟩
            refine wpAnyZ_one false (i := 6) (by kernel_rfl) (by kernel_rfl) rfl (fun K' hK => ?_)
            go_simp
            refine hK.out _ _ hT ?_
            clear hK K'
            try simp only [Act.put, List.getElem_toArray, List.getElem_cons_zero, List.getElem_cons_succ, List.setIfInBounds_toArray, List.set_cons_zero, List.set_cons_succ]
            refine wpAnyZ_one false (i := 7) (by kernel_rfl) (by kernel_rfl) rfl (fun K' hK => ?_)
            go_simp
            refine hK.out _ _ hT1 ?_
            clear hK K'
            try simp only [Act.put, List.getElem_toArray, List.getElem_cons_zero, List.getElem_cons_succ, List.setIfInBounds_toArray, List.set_cons_zero, List.set_cons_succ]
            refine wpAnyZ_one false (i := 8) (by kernel_rfl) (by kernel_rfl) rfl (fun K' hK => ?_)
            go_simp
            refine hK.out _ _ hT1 ?_
            clear hK K'
            try simp only [Act.put, List.getElem_toArray, List.getElem_cons_zero, List.getElem_cons_succ, List.setIfInBounds_toArray, List.set_cons_zero, List.set_cons_succ]
            refine wpAnyZ_one true (i := 9) (by kernel_rfl) (by kernel_rfl) rfl (fun K' hK => ?_)
            go_simp
            refine hK.out _ _ trivial ?_
            clear hK K'
            try simp only [Act.put, List.getElem_toArray, List.getElem_cons_zero, List.getElem_cons_succ, List.setIfInBounds_toArray, List.set_cons_zero, List.set_cons_succ]
            refine wpAnyZ_done (by kernel_rfl) ⟨rfl, ?_⟩ _
            have hW2 : ∃ W2, W2 = (G0.setCell ⟨q, J0, none⟩ (.string ⟨#[49]⟩)).setCell ⟨q, J1, none⟩ (.string ⟨#[45, 49]⟩) := ⟨_, rfl⟩
            obtain ⟨W2, hW2⟩ := hW2
            rw [← hW2] at hro2 Y5 hcr2 ⊢
            clear hW2 y0 f0 y1 f1 hro0 hro1 hcr0 hcr1 hcr hro E0 hT hT1 XO Y3 Y2 hnb0 hnb1
            have k0 := (hcr2.at 0 _ rfl).1
            have k1 := (hcr2.at 1 _ rfl).1
            have Y4 : Ext wr (W2.alloc (.cells #[.slice (some ⟨q, 0, none⟩) n n, .string (tQ (-mn))] 101)) := Y5.alloc _
            have howa := hI.own.below Y4
            have hro4 := hro2.ext ((Ext.refl W2).alloc (.cells #[.slice (some ⟨q, 0, none⟩) n n, .string (tQ (-mn))] 101))
            have hcn := encV_new W2 n q n (pairF (K * P + p) ((K + 1) * P + p)) (-mn)
            have hNl := thkL_N hN
            have hb6 := Y4.size
            have hbr := hI.kp.size
            have hlen : N.length ≤ 1000000 := by have := HJ.out; have := h6n.out; omega
            have HE := Lib.hid (show ∀ q' c' W6, OwnL (encV n) 101 2 W0.heap.size (N ++ [⟨q, n, pairF (K * P + p) ((K + 1) * P + p), -mn⟩]) (.slice (some ⟨q', 0, none⟩) (N.length + 1) c') W6 → Below W0.heap.size (W2.alloc (.cells #[.slice (some ⟨q, 0, none⟩) n n, .string (tQ (-mn))] 101)) W6 → (W2.alloc (.cells #[.slice (some ⟨q, 0, none⟩) n n, .string (tQ (-mn))] 101)).grownBy W6 u5.ownBlock →
                Hid (InR P col K n W0.heap.size W0 (.slice (some ⟨q', 0, none⟩) (N.length + 1) c') (.int .i64 ((p : Int) + 1)) W6) ∧ W6.cell? ⟨lb, lo + (K + 1) * 3 + 2, none⟩ = some (.string (mxT none)) from fun q' c' W6 h1 h2 h3 => by
              have h4 := LkR.push hI hN (Nat.le_refl _) Y4 q n _ hro4 (fun j hj => by
                have := HJ.out
                rw [← this.1, ← this.2]
                exact pair_put (fun _ _ => rfl) j hj) (by have := HQ.out; omega) (-mn) (by rw [HGD.out, HME.out]) h1 h2 h3
              exact ⟨Lib.hid ⟨p + 1, hlt2, by push_cast; rfl, h4.1⟩, h4.2.cell (Nat.lt_trans (World.block_lt_of_cell? w _ l2) hs0.out) (XW.out.cell l2)⟩)
            clear hI hN cr Y4 Y5 hro2 hro4 hNl hJ0 hJ1 hJn i0 i1 hcr2
            go_wp2_with (at_builtin; go_loud (refine wpList_push _ ERw rfl _ _ rfl (v := u5) rfl howa (⟨q, n, pairF (K * P + p) ((K + 1) * P + p), -mn⟩ : Rv) ⟨W2.heap.size, 0, none⟩ 1 rfl rfl (by intro uu huu; simp only [encV, List.mem_cons, List.not_mem_nil, or_false] at huu; rcases huu with rfl | rfl <;> rfl) hcn hlen (by omega) ?_); intro q' c' W6 hown6 hX6 hg6; obtain ⟨HR, hmx⟩ := HE.out q' c' W6 hown6 (hX6.out _ _ (Nat.le_refl _) (by omega) (Below.refl _ _)) hg6.out; simp only [mxT] at hmx; clear hown6 hX6 hg6 HE howa hcn k0 k1)
            exact ⟨HR.out, by simp only [intOf]; omega⟩
        · obtain rfl : p = P := by omega
          have HE := Lib.hid (show OutR p (s - 1) col n W0.heap.size W0 u5 (.int .i64 ((K : Int) + 1 + 1)) wr from ⟨K + 1, by omega, by push_cast; rfl, N, hI, by rw [hN, thkL_row]⟩)
          clear hI hN cr
          go_wp2_with fail
          exact ⟨HE.out, by simp only [intOf]; omega⟩
    · have d1 : (C : Int) ≤ (K : Int) + 1 + 1 := by have := HS.out; omega
      have hKs : K = s - 1 := by omega
      have HE := Lib.hid (And.intro hI (And.intro hN hKs))
      clear hI hN hKs cr
      go_wp2_with fail
      go_ret
      obtain ⟨hI, hN, hKs⟩ := HE.out
      rw [hKs] at hN
      exact ⟨u5, N, W0.heap.size, rfl, X0.size, hI.own, hI.rows, hN, X0.trans (show Ext W0 wr from hI.kp.below (Nat.le_refl _))⟩
end Go.Proofs.YtbiffaciinppiaaGreatDoor
