/- slices.Repeat of one number. constraint.of, count, at, Count, Variable, Place; klippelaw25.count. constraint.zeros. constraint.row: what the row holds. (In work.) -/
import Derived.Test.YtbiffaciinppiaaGreatDoorVa22
import Derived.Test.YtbiffaciinppiaaGreatDoorVa20
import Derived.Laws.CopyRow
import Derived.Laws.CopyOwn
import Derived.Laws.MakeOwn
import Derived.Test.YtbiffaciinppiaaGreatDoorVa14
import Derived.Deep.QuietTactic
import Derived.BigQuiet
import Derived.Test.YtbiffaciinppiaaGreatDoorVa21
set_option linter.unusedVariables false
set_option linter.unusedSimpArgs false
section
namespace Go.Proofs.YtbiffaciinppiaaGreatDoor
open Go.RowKit
attribute [local irreducible] tQ
set_option linter.unusedSimpArgs false

theorem infoRat : ∃ i, Tryz.prog.info? 54 = some i ∧ i.zero = some (.string ⟨#[]⟩) ∧ i.size = 1 ∧ i.bytes = 16 := by
  have h : (Tryz.prog.info? 54).map (fun i => (i.zero, i.size, i.bytes)) = some (some (.string ⟨#[]⟩), 1, 16) := by kernel_rfl
  obtain ⟨i, hi, h2⟩ := Option.map_eq_some_iff.1 h
  simp only [Prod.mk.injEq] at h2
  exact ⟨i, hi, h2.1, h2.2.1, h2.2.2⟩
theorem sizeRat : (Tryz.prog.info? 54).map (·.size) = some 1 := by
  obtain ⟨i, hi, _, h, _⟩ := infoRat
  rw [hi]; simp [h]
/-- The first k cells of a row are z. -/
def RowZ (z : Value) (g n k : Nat) (cur : Array Value) (w : World) : Prop := w.heap[g]? = some (.cells cur 54 (0, 0)) ∧ cur.size = n ∧ ∀ j, j < k → cur[j]? = some z
theorem RowZ.cell {z : Value} {g n k : Nat} {cur : Array Value} {w : World} (h : RowZ z g n k cur w) {j : Nat} (hj : j < k) : w.cell? ⟨g, j, none⟩ = some z := by
  have := h.2.2 j hj
  simp [World.cell?, h.1, this]
theorem copy_rep (z : Value) (hz : z.oneCell' = true) (g n k m : Nat) (cur : Array Value) (w : World) (t : TypeId) (ht : Tryz.prog.underlying t = some (.slice 54)) (ty : TypeId) (h : RowZ z g n k cur w) (hk : k ≤ n) (a : Addr) (sLen sCap : Nat)
    (hm : m = Nat.min sLen (n - k)) (hs : ∀ j, j < m → w.cell? (a.add j) = some z) (dCap : Nat) :
    ∃ w' cur', (Builtin.copy_ #[t, t] ty #[.slice (some ⟨g, k, none⟩) (n - k) dCap, .slice (some a) sLen sCap]).run Tryz.prog w = .ok (goInt m) w' ∧ RowZ z g n (k + m) cur' w' ∧ Below g w w' := by
  have hmk : m ≤ n - k := by rw [hm]; exact Nat.min_le_right _ _
  have hr := run_copy_row Tryz.prog w t t ty 54 g k (n - k) dCap a sLen sCap cur 54 (List.replicate m z) ht sizeRat h.1 (by rw [List.length_replicate, hm]) (fun j v hv => by
      rw [List.getElem?_replicate] at hv
      split at hv
      · rename_i hj; simp only [Option.some.injEq] at hv; subst hv; exact hs j hj
      · cases hv) (by rw [List.length_replicate, h.2.1]; omega) (fun v hv => by rw [(List.mem_replicate.1 hv).2]; exact hz)
  rw [List.length_replicate] at hr
  refine ⟨_, (cur.toList.take k ++ List.replicate m z ++ cur.toList.drop (k + m)).toArray, hr, ⟨?_, ?_, ?_⟩, ?_⟩
  · exact setRow_heap w g cur _ _ _ h.1
  · have := h.2.1
    simp; omega
  · intro j hj
    have := h.2.1
    simp only [List.getElem?_toArray]
    by_cases h1 : j < k
    · rw [List.getElem?_append_left (by simp; omega), List.getElem?_append_left (by simp; omega), List.getElem?_take, if_pos h1, Array.getElem?_toList]
      exact h.2.2 j h1
    · rw [List.getElem?_append_left (by simp; omega), List.getElem?_append_right (by simp; omega), List.getElem?_replicate]
      simp
      omega
  · exact below_setRow (Below.refl g w) (Nat.le_refl g) _

def RpR (z : Value) (g n : Nat) (W1 : World) (v8 : Value) (wr : World) : Prop := ∃ (k : Nat) (cur : Array Value), 1 ≤ k ∧ k ≤ n ∧ v8 = .int .i64 k ∧ RowZ z g n k cur wr ∧ Below g W1 wr

set_option maxRecDepth 100000 in
set_option maxHeartbeats 2000000 in
theorem rep1 (z : Value) (hz : z.oneCell' = true) (xb n : Nat) (hn0 : 0 < n) (hn : n ≤ 60) (w : World) (hx : w.cell? ⟨xb, 0, none⟩ = some z) :
    Calls Tryz.prog 138 #[.slice (some ⟨xb, 0, none⟩) 1 1, .int .i64 n] w (fun e w' => ∃ q cur, e = .returned (.slice (some ⟨q, 0, none⟩) n n) ∧ w.heap.size ≤ q ∧ RowZ z q n n cur w' ∧ Ext w w') := by
  have HM := Lib.hid (fun W => Tryz.bits_Mul 1 n (by omega) (by omega) W)
  have m0 : ((1 * n / 18446744073709551616 : Nat) : Int) = 0 := by omega
  have m1 : ((1 * n % 18446744073709551616 : Nat) : Int) = n := by omega
  rw [m0, m1] at HM
  clear m0 m1
  have hu1 : IntKind.u64.wrap 1 = 1 := by rfl
  have hun : IntKind.u64.wrap (n : Int) = n := by simp only [IntKind.wrap_u64]; omega
  have hin : IntKind.i64.wrap (n : Int) = n := by simp only [IntKind.wrap_i64]; omega
  have d0 : decide ((n : Int) < 0) = false := decide_eq_false (by omega)
  have d1 : decide ((n : Int) > 9223372036854775807) = false := decide_eq_false (by omega)
  obtain ⟨ti, hti, hti0, hti1, hti2⟩ := infoRat
  have HMK := Lib.hid (fun (W : World) => show (Instr.makeSlice 38 (.int .i64 n) (.int .i64 n)).run Tryz.prog W = .ok (.slice (some ⟨W.heap.size, 0, none⟩) n n) (W.alloc (.cells (madeCells (Value.string ⟨#[]⟩).cells n) 54)) from by
    have := run_make W 38 54 ti (.string ⟨#[]⟩) Tryz.underlying38 hti hti0 .i64 .i64 n n (by omega) (Int.le_refl _) (by rw [hti2]; omega) (by omega)
    rw [hti1] at this
    simpa using this)
  clear hti hti0 hti1 hti2 ti
  have hmc : ∃ mc : Array Value, mc = madeCells (Value.string ⟨#[]⟩).cells n := ⟨_, rfl⟩
  obtain ⟨mc, hmc⟩ := hmc
  have hms : Hid (mc.size = n) := Lib.hid (by rw [hmc]; exact size_madeCells _ _)
  rw [← hmc] at HMK
  clear hmc
  go_enter Tryz.func138, Tryz.ntmps138
  go_wp2_with fail
  refine (HM.out _).mono ?_
  rintro e w1 ⟨rfl, rfl⟩
  have hmk := HMK.out w1
  have hxl := World.block_lt_of_cell? w1 _ hx
  have X1 : Ext w1 (w1.alloc (.cells mc 54)) := (Ext.refl w1).alloc _
  have hc1 := copy_rep z hz w1.heap.size n 0 1 mc (w1.alloc (.cells mc 54)) 38 Tryz.underlying38 3 ⟨heap_alloc_new w1 _, hms.out, fun j hj => by omega⟩ (by omega) ⟨xb, 0, none⟩ 1 1 (by simp only [Nat.sub_zero]; show 1 = min 1 n; omega) (fun j hj => by (rw [show j = 0 from by omega, addr0]; exact X1.cell hx)) n
  obtain ⟨w2, cur2, hcp, hrow2, hB2⟩ := hc1
  simp only [Nat.sub_zero, Nat.zero_add] at hcp hrow2
  have hsz2 := hB2.size
  have hsa : (w1.alloc (.cells mc 54)).heap.size = w1.heap.size + 1 := by simp
  have XB : Below w1.heap.size w1 w2 := Below.trans X1 hB2
  have hcp' : (Builtin.copy_ #[38, 38] 3 #[.slice (some ⟨w1.heap.size, 0, none⟩) n n, .slice (some ⟨xb, 0, none⟩) 1 1]).run Tryz.prog (w1.alloc (.cells mc 54)) = .ok (.int .i64 1) w2 := hcp
  clear hcp hB2 hsa hsz2
  clear HMK HM hms X1
  go_wp2_with fail
  go_loopw [8] (RpR z w1.heap.size n w1) (fun p _ => n - (intOf p).toNat)
  case atStart => exact ⟨1, cur2, Nat.le_refl _, hn0, rfl, hrow2, XB⟩
  case round =>
    obtain ⟨k, cur, hk1, hkn, rfl, hrow, hB⟩ := hrel
    by_cases hlt : k < n
    · have kl : (k : Int) < n := by omega
      have k0 : (0 : Int) ≤ k := by omega
      have kn : (k : Int) ≤ n := by omega
      have hnk : n ≠ k := by omega
      go_wp2_with fail
      refine wp_region_Z' (fun _ _ => True) 9 (by kernel_rfl) ?_
      intro V0 hV0
      have hrow0 : RowZ z w1.heap.size n k cur V0 := by rw [hV0]; exact hrow
      have hB0 : Below w1.heap.size w1 V0 := by rw [hV0]; exact Below.drew hB
      have hT : (fun (_ : Bool) (_ : World) => True) false V0 := trivial
      clear hV0 hrow hB
      refine' wpAnyZ_take 9 (i := 0) (v := _) rfl rfl (by kernel_rfl) (by decide) (by kernel_rfl) (by kernel_rfl) (by kernel_rfl) (by kernel_rfl) (fun _ _ _ h => h.no.elim) hT (by rfl) ?hy ?_
      case hy => (intro w' hS; clear hS; go_simp; rfl)
      try simp only [Act.put, List.getElem_toArray, List.getElem_cons_zero, List.getElem_cons_succ, List.setIfInBounds_toArray, List.set_cons_zero, List.set_cons_succ]
      refine' wpAnyZ_take 9 (i := 1) (v := _) rfl rfl (by kernel_rfl) (by decide) (by kernel_rfl) (by kernel_rfl) (by kernel_rfl) (by kernel_rfl) (fun _ _ _ h => h.no.elim) hT (by rfl) ?hy ?_
      case hy => (intro w' hS; clear hS; go_simp; rfl)
      try simp only [Act.put, List.getElem_toArray, List.getElem_cons_zero, List.getElem_cons_succ, List.setIfInBounds_toArray, List.set_cons_zero, List.set_cons_succ]
      refine' wpAnyZ_take 9 (i := 2) (v := _) rfl rfl (by kernel_rfl) (by decide) (by kernel_rfl) (by kernel_rfl) (by kernel_rfl) (by kernel_rfl) (fun _ _ _ h => h.no.elim) hT (by rfl) ?hy ?_
      case hy => (intro w' hS; clear hS; go_simp; rfl)
      try simp only [Act.put, List.getElem_toArray, List.getElem_cons_zero, List.getElem_cons_succ, List.setIfInBounds_toArray, List.set_cons_zero, List.set_cons_succ]
      refine' wpAnyZ_take 9 (i := 3) (v := _) rfl rfl (by kernel_rfl) (by decide) (by kernel_rfl) (by kernel_rfl) (by kernel_rfl) (by kernel_rfl) (fun _ _ _ h => h.no.elim) hT (by rfl) ?hy ?_
      case hy => (intro w' hS; clear hS; go_simp; rfl)
      try simp only [Act.put, List.getElem_toArray, List.getElem_cons_zero, List.getElem_cons_succ, List.setIfInBounds_toArray, List.set_cons_zero, List.set_cons_succ]
      refine' wpAnyZ_take 9 (i := 4) (v := _) rfl rfl (by kernel_rfl) (by decide) (by kernel_rfl) (by kernel_rfl) (by kernel_rfl) (by kernel_rfl) (fun _ _ _ h => h.no.elim) hT (by rfl) ?hy ?_
      case hy => (intro w' hS; clear hS; go_simp; rfl)
      try simp only [Act.put, List.getElem_toArray, List.getElem_cons_zero, List.getElem_cons_succ, List.setIfInBounds_toArray, List.set_cons_zero, List.set_cons_succ]
      refine' wpAnyZ_take 9 (i := 5) (v := _) rfl rfl (by kernel_rfl) (by decide) (by kernel_rfl) (by kernel_rfl) (by kernel_rfl) (by kernel_rfl) (fun _ _ _ h => h.no.elim) hT (by rfl) ?hy ?_
      case hy => (intro w' hS; clear hS; go_simp; rfl)
      try simp only [Act.put, List.getElem_toArray, List.getElem_cons_zero, List.getElem_cons_succ, List.setIfInBounds_toArray, List.set_cons_zero, List.set_cons_succ]
      refine' wpAnyZ_take 9 (i := 6) (v := _) rfl rfl (by kernel_rfl) (by decide) (by kernel_rfl) (by kernel_rfl) (by kernel_rfl) (by kernel_rfl) (fun _ _ _ h => h.no.elim) hT (by rfl) ?hy ?_
      case hy => (intro w' hS; clear hS; go_simp; rfl)
      try simp only [Act.put, List.getElem_toArray, List.getElem_cons_zero, List.getElem_cons_succ, List.setIfInBounds_toArray, List.set_cons_zero, List.set_cons_succ]
      have hm1 : Nat.min k (n - k) ≤ n - k := Nat.min_le_right _ _
      have hm2 : 1 ≤ Nat.min k (n - k) := Nat.le_min.2 ⟨hk1, by omega⟩
      have hm3 : Nat.min k (n - k) ≤ k := Nat.min_le_left _ _
      have hc2 := copy_rep z hz w1.heap.size n k (Nat.min k (n - k)) cur V0 38 Tryz.underlying38 3 hrow0 hkn ⟨w1.heap.size, 0, none⟩ k n rfl (fun j hj => by (rw [addr0]; exact hrow0.cell (by omega))) (n - k)
      generalize Nat.min k (n - k) = m at *
      obtain ⟨V1, cur3, hcp3, hrow3, hB3⟩ := hc2
      have hcp3' : (Builtin.copy_ #[38, 38] 3 #[.slice (some ⟨w1.heap.size, k, none⟩) (n - k) (n - k), .slice (some ⟨w1.heap.size, 0, none⟩) k n]).run Tryz.prog V0 = .ok (.int .i64 m) V1 := hcp3
      have hwm : IntKind.i64.wrap ((k : Int) + m) = ((k + m : Nat) : Int) := by simp only [IntKind.wrap_i64]; omega
      clear hcp3 hrow0
      refine wpAnyZ_one false (i := 7) (by kernel_rfl) (by kernel_rfl) rfl (fun K' hK => ?_)
      go_simp
      refine hK.out _ _ trivial ?_
      clear hK K' hcp3'
      try simp only [Act.put, List.getElem_toArray, List.getElem_cons_zero, List.getElem_cons_succ, List.setIfInBounds_toArray, List.set_cons_zero, List.set_cons_succ]
      refine wpAnyZ_one false (i := 8) (by kernel_rfl) (by kernel_rfl) rfl (fun K' hK => ?_)
      go_simp
      refine hK.out _ _ trivial ?_
      clear hK K'
      try simp only [Act.put, List.getElem_toArray, List.getElem_cons_zero, List.getElem_cons_succ, List.setIfInBounds_toArray, List.set_cons_zero, List.set_cons_succ]
      refine wpAnyZ_one true (i := 9) (by kernel_rfl) (by kernel_rfl) rfl (fun K' hK => ?_)
      go_simp
      refine hK.out _ _ trivial ?_
      clear hK K'
      refine wpAnyZ_done (by kernel_rfl) ⟨rfl, ?_⟩ _
      go_wp2_with fail
      exact ⟨⟨k + m, cur3, by omega, by omega, by first | rfl | simp, hrow3, Below.trans hB0 hB3⟩, by simp only [intOf]; omega⟩
    · have hkk : k = n := by omega
      subst hkk
      have kl : decide ((k : Int) < k) = false := decide_eq_false (by omega)
      go_wp2_with fail
      go_ret
      exact ⟨_, cur, rfl, Nat.le_refl _, hrow, hB⟩

set_option maxRecDepth 100000 in
set_option maxHeartbeats 2000000 in
theorem rep2 (z : Value) (hz : z.oneCell' = true) (xb n : Nat) (hn0 : 0 < n) (hn : n ≤ 60) (w : World) (hx : w.cell? ⟨xb, 0, none⟩ = some z) :
    Calls Tryz.prog 140 #[.slice (some ⟨xb, 0, none⟩) 1 1, .int .i64 n] w (fun e w' => ∃ q cur, e = .returned (.slice (some ⟨q, 0, none⟩) n n) ∧ w.heap.size ≤ q ∧ RowZ z q n n cur w' ∧ Ext w w') := by
  have HM := Lib.hid (fun W => Tryz.bits_Mul 1 n (by omega) (by omega) W)
  have m0 : ((1 * n / 18446744073709551616 : Nat) : Int) = 0 := by omega
  have m1 : ((1 * n % 18446744073709551616 : Nat) : Int) = n := by omega
  rw [m0, m1] at HM
  clear m0 m1
  have hu1 : IntKind.u64.wrap 1 = 1 := by rfl
  have hun : IntKind.u64.wrap (n : Int) = n := by simp only [IntKind.wrap_u64]; omega
  have hin : IntKind.i64.wrap (n : Int) = n := by simp only [IntKind.wrap_i64]; omega
  have d0 : decide ((n : Int) < 0) = false := decide_eq_false (by omega)
  have d1 : decide ((n : Int) > 9223372036854775807) = false := decide_eq_false (by omega)
  obtain ⟨ti, hti, hti0, hti1, hti2⟩ := infoRat
  have HMK := Lib.hid (fun (W : World) => show (Instr.makeSlice 39 (.int .i64 n) (.int .i64 n)).run Tryz.prog W = .ok (.slice (some ⟨W.heap.size, 0, none⟩) n n) (W.alloc (.cells (madeCells (Value.string ⟨#[]⟩).cells n) 54)) from by
    have := run_make W 39 54 ti (.string ⟨#[]⟩) Tryz.underlying39 hti hti0 .i64 .i64 n n (by omega) (Int.le_refl _) (by rw [hti2]; omega) (by omega)
    rw [hti1] at this
    simpa using this)
  clear hti hti0 hti1 hti2 ti
  have hmc : ∃ mc : Array Value, mc = madeCells (Value.string ⟨#[]⟩).cells n := ⟨_, rfl⟩
  obtain ⟨mc, hmc⟩ := hmc
  have hms : Hid (mc.size = n) := Lib.hid (by rw [hmc]; exact size_madeCells _ _)
  rw [← hmc] at HMK
  clear hmc
  go_enter Tryz.func140, Tryz.ntmps140
  go_wp2_with fail
  refine (HM.out _).mono ?_
  rintro e w1 ⟨rfl, rfl⟩
  have hmk := HMK.out w1
  have hxl := World.block_lt_of_cell? w1 _ hx
  have X1 : Ext w1 (w1.alloc (.cells mc 54)) := (Ext.refl w1).alloc _
  have hc1 := copy_rep z hz w1.heap.size n 0 1 mc (w1.alloc (.cells mc 54)) 39 Tryz.underlying39 3 ⟨heap_alloc_new w1 _, hms.out, fun j hj => by omega⟩ (by omega) ⟨xb, 0, none⟩ 1 1 (by simp only [Nat.sub_zero]; show 1 = min 1 n; omega) (fun j hj => by (rw [show j = 0 from by omega, addr0]; exact X1.cell hx)) n
  obtain ⟨w2, cur2, hcp, hrow2, hB2⟩ := hc1
  simp only [Nat.sub_zero, Nat.zero_add] at hcp hrow2
  have hsz2 := hB2.size
  have hsa : (w1.alloc (.cells mc 54)).heap.size = w1.heap.size + 1 := by simp
  have XB : Below w1.heap.size w1 w2 := Below.trans X1 hB2
  have hcp' : (Builtin.copy_ #[39, 39] 3 #[.slice (some ⟨w1.heap.size, 0, none⟩) n n, .slice (some ⟨xb, 0, none⟩) 1 1]).run Tryz.prog (w1.alloc (.cells mc 54)) = .ok (.int .i64 1) w2 := hcp
  clear hcp hB2 hsa hsz2
  clear HMK HM hms X1
  go_wp2_with fail
  go_loopw [8] (RpR z w1.heap.size n w1) (fun p _ => n - (intOf p).toNat)
  case atStart => exact ⟨1, cur2, Nat.le_refl _, hn0, rfl, hrow2, XB⟩
  case round =>
    obtain ⟨k, cur, hk1, hkn, rfl, hrow, hB⟩ := hrel
    by_cases hlt : k < n
    · have kl : (k : Int) < n := by omega
      have k0 : (0 : Int) ≤ k := by omega
      have kn : (k : Int) ≤ n := by omega
      have hnk : n ≠ k := by omega
      go_wp2_with fail
      refine wp_region_Z' (fun _ _ => True) 9 (by kernel_rfl) ?_
      intro V0 hV0
      have hrow0 : RowZ z w1.heap.size n k cur V0 := by rw [hV0]; exact hrow
      have hB0 : Below w1.heap.size w1 V0 := by rw [hV0]; exact Below.drew hB
      have hT : (fun (_ : Bool) (_ : World) => True) false V0 := trivial
      clear hV0 hrow hB
      refine' wpAnyZ_take 9 (i := 0) (v := _) rfl rfl (by kernel_rfl) (by decide) (by kernel_rfl) (by kernel_rfl) (by kernel_rfl) (by kernel_rfl) (fun _ _ _ h => h.no.elim) hT (by rfl) ?hy ?_
      case hy => (intro w' hS; clear hS; go_simp; rfl)
      try simp only [Act.put, List.getElem_toArray, List.getElem_cons_zero, List.getElem_cons_succ, List.setIfInBounds_toArray, List.set_cons_zero, List.set_cons_succ]
      refine' wpAnyZ_take 9 (i := 1) (v := _) rfl rfl (by kernel_rfl) (by decide) (by kernel_rfl) (by kernel_rfl) (by kernel_rfl) (by kernel_rfl) (fun _ _ _ h => h.no.elim) hT (by rfl) ?hy ?_
      case hy => (intro w' hS; clear hS; go_simp; rfl)
      try simp only [Act.put, List.getElem_toArray, List.getElem_cons_zero, List.getElem_cons_succ, List.setIfInBounds_toArray, List.set_cons_zero, List.set_cons_succ]
      refine' wpAnyZ_take 9 (i := 2) (v := _) rfl rfl (by kernel_rfl) (by decide) (by kernel_rfl) (by kernel_rfl) (by kernel_rfl) (by kernel_rfl) (fun _ _ _ h => h.no.elim) hT (by rfl) ?hy ?_
      case hy => (intro w' hS; clear hS; go_simp; rfl)
      try simp only [Act.put, List.getElem_toArray, List.getElem_cons_zero, List.getElem_cons_succ, List.setIfInBounds_toArray, List.set_cons_zero, List.set_cons_succ]
      refine' wpAnyZ_take 9 (i := 3) (v := _) rfl rfl (by kernel_rfl) (by decide) (by kernel_rfl) (by kernel_rfl) (by kernel_rfl) (by kernel_rfl) (fun _ _ _ h => h.no.elim) hT (by rfl) ?hy ?_
      case hy => (intro w' hS; clear hS; go_simp; rfl)
      try simp only [Act.put, List.getElem_toArray, List.getElem_cons_zero, List.getElem_cons_succ, List.setIfInBounds_toArray, List.set_cons_zero, List.set_cons_succ]
      refine' wpAnyZ_take 9 (i := 4) (v := _) rfl rfl (by kernel_rfl) (by decide) (by kernel_rfl) (by kernel_rfl) (by kernel_rfl) (by kernel_rfl) (fun _ _ _ h => h.no.elim) hT (by rfl) ?hy ?_
      case hy => (intro w' hS; clear hS; go_simp; rfl)
      try simp only [Act.put, List.getElem_toArray, List.getElem_cons_zero, List.getElem_cons_succ, List.setIfInBounds_toArray, List.set_cons_zero, List.set_cons_succ]
      refine' wpAnyZ_take 9 (i := 5) (v := _) rfl rfl (by kernel_rfl) (by decide) (by kernel_rfl) (by kernel_rfl) (by kernel_rfl) (by kernel_rfl) (fun _ _ _ h => h.no.elim) hT (by rfl) ?hy ?_
      case hy => (intro w' hS; clear hS; go_simp; rfl)
      try simp only [Act.put, List.getElem_toArray, List.getElem_cons_zero, List.getElem_cons_succ, List.setIfInBounds_toArray, List.set_cons_zero, List.set_cons_succ]
      refine' wpAnyZ_take 9 (i := 6) (v := _) rfl rfl (by kernel_rfl) (by decide) (by kernel_rfl) (by kernel_rfl) (by kernel_rfl) (by kernel_rfl) (fun _ _ _ h => h.no.elim) hT (by rfl) ?hy ?_
      case hy => (intro w' hS; clear hS; go_simp; rfl)
      try simp only [Act.put, List.getElem_toArray, List.getElem_cons_zero, List.getElem_cons_succ, List.setIfInBounds_toArray, List.set_cons_zero, List.set_cons_succ]
      have hm1 : Nat.min k (n - k) ≤ n - k := Nat.min_le_right _ _
      have hm2 : 1 ≤ Nat.min k (n - k) := Nat.le_min.2 ⟨hk1, by omega⟩
      have hm3 : Nat.min k (n - k) ≤ k := Nat.min_le_left _ _
      have hc2 := copy_rep z hz w1.heap.size n k (Nat.min k (n - k)) cur V0 39 Tryz.underlying39 3 hrow0 hkn ⟨w1.heap.size, 0, none⟩ k n rfl (fun j hj => by (rw [addr0]; exact hrow0.cell (by omega))) (n - k)
      generalize Nat.min k (n - k) = m at *
      obtain ⟨V1, cur3, hcp3, hrow3, hB3⟩ := hc2
      have hcp3' : (Builtin.copy_ #[39, 39] 3 #[.slice (some ⟨w1.heap.size, k, none⟩) (n - k) (n - k), .slice (some ⟨w1.heap.size, 0, none⟩) k n]).run Tryz.prog V0 = .ok (.int .i64 m) V1 := hcp3
      have hwm : IntKind.i64.wrap ((k : Int) + m) = ((k + m : Nat) : Int) := by simp only [IntKind.wrap_i64]; omega
      clear hcp3 hrow0
      refine wpAnyZ_one false (i := 7) (by kernel_rfl) (by kernel_rfl) rfl (fun K' hK => ?_)
      go_simp
      refine hK.out _ _ trivial ?_
      clear hK K' hcp3'
      try simp only [Act.put, List.getElem_toArray, List.getElem_cons_zero, List.getElem_cons_succ, List.setIfInBounds_toArray, List.set_cons_zero, List.set_cons_succ]
      refine wpAnyZ_one false (i := 8) (by kernel_rfl) (by kernel_rfl) rfl (fun K' hK => ?_)
      go_simp
      refine hK.out _ _ trivial ?_
      clear hK K'
      try simp only [Act.put, List.getElem_toArray, List.getElem_cons_zero, List.getElem_cons_succ, List.setIfInBounds_toArray, List.set_cons_zero, List.set_cons_succ]
      refine wpAnyZ_one true (i := 9) (by kernel_rfl) (by kernel_rfl) rfl (fun K' hK => ?_)
      go_simp
      refine hK.out _ _ trivial ?_
      clear hK K'
      refine wpAnyZ_done (by kernel_rfl) ⟨rfl, ?_⟩ _
      go_wp2_with fail
      exact ⟨⟨k + m, cur3, by omega, by omega, by first | rfl | simp, hrow3, Below.trans hB0 hB3⟩, by simp only [intOf]; omega⟩
    · have hkk : k = n := by omega
      subst hkk
      have kl : decide ((k : Int) < k) = false := decide_eq_false (by omega)
      go_wp2_with fail
      go_ret
      exact ⟨_, cur, rfl, Nat.le_refl _, hrow, hB⟩

end Go.Proofs.YtbiffaciinppiaaGreatDoor
end

section
namespace Go.Proofs.YtbiffaciinppiaaGreatDoor
open Go.RowKit
attribute [local irreducible] tQ

def shpV (s p : Nat) : Value := .agg #[.int .i64 s, .int .i64 p]
theorem mul_nat (s p : Nat) (hs : s ≤ 60) (hp : p ≤ 60) : s * p ≤ 3600 := Nat.mul_le_mul hs hp
set_option maxRecDepth 100000 in
theorem sCount_ok (s p : Nat) (hs : s ≤ 60) (hp : p ≤ 60) (w : World) : Calls Tryz.prog 40 #[shpV s p] w (Ret (.int .i64 ((s * p : Nat) : Int)) w) := by
  have hm := mul_nat s p hs hp
  have h1 : IntKind.i64.wrap ((s : Int) * (p : Int)) = ((s * p : Nat) : Int) := by
    rw [← Int.natCast_mul]; simp only [IntKind.wrap_i64]; omega
  simp only [shpV]
  clear hs hp hm
  go_enter Tryz.func40, Tryz.ntmps40
  go_wp2_with fail
  go_ret
  first
    | exact ⟨rfl, (Ext.refl w).alloc _⟩
    | exact ⟨by simp [h1], (Ext.refl w).alloc _⟩
set_option maxRecDepth 100000 in
theorem sAt_ok (s p i j : Nat) (hp : p ≤ 60) (hi : i ≤ 60) (hj : j ≤ 60) (w : World) : Calls Tryz.prog 41 #[shpV s p, .int .i64 i, .int .i64 j] w (Ret (.int .i64 ((i * p + j : Nat) : Int)) w) := by
  have hm := mul_nat i p hi hp
  have h1 : IntKind.i64.wrap ((i : Int) * (p : Int)) = ((i * p : Nat) : Int) := by
    rw [← Int.natCast_mul]; simp only [IntKind.wrap_i64]; omega
  have h2 : IntKind.i64.wrap (((i * p : Nat) : Int) + (j : Int)) = ((i * p + j : Nat) : Int) := by
    simp only [IntKind.wrap_i64]; omega
  simp only [shpV]
  clear hp hi hj hm
  generalize i * p = ip at *
  go_enter Tryz.func41, Tryz.ntmps41
  go_wp2_with fail
  go_ret
  first
    | exact ⟨rfl, (Ext.refl w).alloc _⟩
    | exact ⟨by simp [h1, h2], (Ext.refl w).alloc _⟩
set_option maxRecDepth 100000 in
set_option maxHeartbeats 1000000 in
theorem cOf_ok (N D : Nat) (b : Bk) (cyc : List Int) (hb : BkOk N D b cyc) (s : Nat) (hs : b.col.length = s + 1) (hc : s * b.pts.length ≤ 60) (hp : b.pts.length ≤ 60) (a : BkA) (w : World) (g : Glob w) (hI : BkIn w a b) :
    Calls Tryz.prog 39 #[bkV a b] w (Ret (.tuple #[shpV s b.pts.length, .int .i64 0]) w) := by
  have H := Lib.hid (fun W (X : Ext w W) => checkAll_ok N D b cyc hb a W (g.ext X) (hI.ext X))
  have hcol := hb.col.le
  have HC := Lib.hid (fun W => sCount_ok s b.pts.length (by omega) hp W)
  clear hb g hI
  obtain ⟨pts, tris, ter, col, obs⟩ := b
  obtain ⟨pb, po, pc, tb, tO, tc, fb, fo, fc, lb, lo, lc, oc, oa⟩ := a
  simp only [bkV, shpV] at *
  have h1 : IntKind.i64.wrap ((col.length : Int) - 1) = (s : Int) := by simp only [IntKind.wrap_i64]; omega
  have h2 : decide (((s * pts.length : Nat) : Int) > 60) = false := decide_eq_false (by omega)
  clear hs hc hp hcol
  generalize s * pts.length = sp at *
  go_enter Tryz.func39, Tryz.ntmps39
  go_wp2_with fail
  have hW : ∃ W0, W0 = (w.alloc (.cells #[.slice (some ⟨pb, po, none⟩) pts.length pc, .slice (some ⟨tb, tO, none⟩) tris.length tc, .slice (some ⟨fb, fo, none⟩) pts.length fc, .slice (some ⟨lb, lo, none⟩) col.length lc, .slice oa obs.length oc] 43)).alloc (.cells #[.int .i64 0, .int .i64 0] 109) := ⟨_, rfl⟩
  obtain ⟨W0, hW0⟩ := hW
  rw [← hW0]
  have X0 : Ext w W0 := by rw [hW0]; exact ((Ext.refl w).alloc _).alloc _
  have c0 : Cells w.heap.size [.slice (some ⟨pb, po, none⟩) pts.length pc, .slice (some ⟨tb, tO, none⟩) tris.length tc, .slice (some ⟨fb, fo, none⟩) pts.length fc, .slice (some ⟨lb, lo, none⟩) col.length lc, .slice oa obs.length oc] W0 := by
    rw [hW0]; exact (Cells.new w [.slice (some ⟨pb, po, none⟩) pts.length pc, .slice (some ⟨tb, tO, none⟩) tris.length tc, .slice (some ⟨fb, fo, none⟩) pts.length fc, .slice (some ⟨lb, lo, none⟩) col.length lc, .slice oa obs.length oc] 43).ext ((Ext.refl _).alloc _)
  have c1 : Cells (w.heap.size + 1) [.int .i64 0, .int .i64 0] W0 := by
    have := Cells.new (w.alloc (.cells #[.slice (some ⟨pb, po, none⟩) pts.length pc, .slice (some ⟨tb, tO, none⟩) tris.length tc, .slice (some ⟨fb, fo, none⟩) pts.length fc, .slice (some ⟨lb, lo, none⟩) col.length lc, .slice oa obs.length oc] 43)) [.int .i64 0, .int .i64 0] 109
    rw [World.size_alloc] at this
    rw [hW0]; exact this
  clear hW0
  refine (H.out W0 X0).mono ?_
  rintro e w1 ⟨rfl, X1⟩
  have X01 := X0.trans X1
  obtain ⟨k0, k1, k2, k3, k4⟩ := five (c0.ext X1)
  have d1 := c1.ext X1
  go_wp2_with fail
  have X2 := X01.alloc (.cells #[.int .i64 s, .int .i64 pts.length] 109)
  have d2 := d1.ext ((Ext.refl w1).alloc (.cells #[.int .i64 s, .int .i64 pts.length] 109))
  have e2 := Cells.new w1 [.int .i64 s, .int .i64 pts.length] 109
  refine (HC.out _).mono ?_
  rintro e w2 ⟨rfl, X3⟩
  have X4 := X2.trans X3
  have d3 := d2.ext X3
  have e3 := e2.ext X3
  obtain ⟨y0, x0⟩ := d3.at 0 _ rfl
  obtain ⟨y1, x1⟩ := d3.at 1 _ rfl
  have q0 := (e3.at 0 _ rfl).1
  have q1 := (e3.at 1 _ rfl).1
  have hf := (d3.put 0 (by simp) (.int .i64 s)).put 1 (by simp) (.int .i64 pts.length)
  have z0 := (hf.at 0 _ rfl).1
  have z1 := (hf.at 1 _ rfl).1
  have HX := Lib.hid ((X4.setCell (p := ⟨w.heap.size + 1, 0, none⟩) (by show w.heap.size ≤ w.heap.size + 1; omega) (.int .i64 s)).setCell (p := ⟨w.heap.size + 1, 1, none⟩) (by show w.heap.size ≤ w.heap.size + 1; omega) (.int .i64 pts.length))
  go_wp2_with fail
  refine bodyPost_ret (v := .tuple #[.agg #[.int .i64 s, .int .i64 pts.length], .int .i64 0]) (by simp [results, Tryz.results39, go_sem, z0, z1]) rfl ⟨rfl, HX.out⟩
end Go.Proofs.YtbiffaciinppiaaGreatDoor
end

section
namespace Go.Proofs.YtbiffaciinppiaaGreatDoor
open Go.RowKit
attribute [local irreducible] tQ

def z48 : Value := .string ⟨#[48]⟩
set_option maxRecDepth 100000 in
set_option maxHeartbeats 1000000 in
theorem zeros_ok (s p : Nat) (hs : s ≤ 60) (hp : p ≤ 60) (h0 : 0 < s * p) (h6 : s * p ≤ 60) (w : World) :
    Calls Tryz.prog 83 #[shpV s p] w (fun e w' => ∃ q cur, e = .returned (.slice (some ⟨q, 0, none⟩) (s * p) (s * p)) ∧ w.heap.size ≤ q ∧ RowZ z48 q (s * p) (s * p) cur w' ∧ Ext w w') := by
  have HC := Lib.hid (fun W => sCount_ok s p hs hp W)
  generalize s * p = n at *
  have HR := Lib.hid (fun xb W hx => rep1 z48 rfl xb n h0 h6 W hx)
  clear hs hp h0 h6
  simp only [shpV] at *
  go_enter Tryz.func83, Tryz.ntmps83
  go_wp2_with fail
  have X0 := ((Ext.refl w).alloc (.cells #[.int .i64 s, .int .i64 p] 109)).alloc (.cells #[.string ⟨#[48]⟩] 54)
  have c0 := cell_newl (w.alloc (.cells #[.int .i64 s, .int .i64 p] 109)) (.string ⟨#[48]⟩) 54
  have hsz := X0.size
  rw [World.size_alloc] at c0
  refine (HC.out _).mono ?_
  rintro e w1 ⟨rfl, X1⟩
  have c1 := X1.cell c0
  go_wp2_with fail
  refine (HR.out _ _ c1).mono ?_
  rintro e w2 ⟨q, cur, rfl, hq, hrow, X2⟩
  have hs1 := X1.size
  have XX := (X0.trans X1).trans X2
  clear HC HR c0 c1
  go_wp2_with fail
  go_ret
  exact ⟨q, cur, rfl, by omega, hrow, XX⟩
end Go.Proofs.YtbiffaciinppiaaGreatDoor
end

section
namespace Go.Proofs.YtbiffaciinppiaaGreatDoor
open Go.RowKit Go.Maps
attribute [local irreducible] tQ
set_option linter.unusedSimpArgs false

/-- The factors of a row: at three places numbers, elsewhere 0. -/
def rowF (o k0 k1 k2 : Nat) (q0 q1 q2 : Rat) (j : Nat) : Rat := if j = o + k0 then q0 else if j = o + k1 then q1 else if j = o + k2 then q2 else 0
/-- The same, as far as the map has been gone through. -/
noncomputable def rowG (o k0 k1 k2 : Nat) (q0 q1 q2 : Rat) (left : Value → Bool) (j : Nat) : Rat :=
  if j = o + k0 then (if left (.int .i64 k0) then 0 else q0) else if j = o + k1 then (if left (.int .i64 k1) then 0 else q1) else if j = o + k2 then (if left (.int .i64 k2) then 0 else q2) else 0
theorem rowG_end {o k0 k1 k2 : Nat} {q0 q1 q2 : Rat} {left : Value → Bool} (h0 : left (.int .i64 k0) = false) (h1 : left (.int .i64 k1) = false) (h2 : left (.int .i64 k2) = false) (j : Nat) : rowG o k0 k1 k2 q0 q1 q2 left j = rowF o k0 k1 k2 q0 q1 q2 j := by
  unfold rowG rowF
  rw [h0, h1, h2]
  simp
/-- A row whose j-th cell is the text of G j. -/
def RowOf (G : Nat → Rat) (g n : Nat) (w : World) : Prop := ∃ cur, w.heap[g]? = some (.cells cur 54 (0, 0)) ∧ cur.size = n ∧ ∀ j, j < n → cur[j]? = some (.string (tQ (G j)))
theorem RowOf.cell {G : Nat → Rat} {g n : Nat} {w : World} (h : RowOf G g n w) {j : Nat} (hj : j < n) : w.cell? ⟨g, j, none⟩ = some (.string (tQ (G j))) := by
  obtain ⟨cur, h1, _, h3⟩ := h
  simp [World.cell?, h1, h3 j hj]
theorem RowOf.frozen {G : Nat → Rat} {g n : Nat} {w : World} (h : RowOf G g n w) (j : Nat) : w.frozen? ⟨g, j, none⟩ = false := by
  obtain ⟨cur, h1, _, _⟩ := h
  simp [World.frozen?, h1]
theorem tQ_zero : tQ 0 = ⟨#[48]⟩ := by decide +kernel
theorem RowZ.of {g n : Nat} {cur : Array Value} {w : World} (h : RowZ z48 g n n cur w) : RowOf (fun _ => 0) g n w := ⟨cur, h.1, h.2.1, fun j hj => by rw [h.2.2 j hj]; unfold z48; rw [tQ_zero]⟩
theorem RowOf.same {G : Nat → Rat} {g n : Nat} {w W : World} (h : RowOf G g n w) (e : W.heap[g]? = w.heap[g]?) : RowOf G g n W := by
  obtain ⟨cur, h1, h2⟩ := h
  exact ⟨cur, by rw [e]; exact h1, h2⟩
theorem RowOf.congr {G H : Nat → Rat} {g n : Nat} {w : World} (h : RowOf G g n w) (e : ∀ j, j < n → G j = H j) : RowOf H g n w := by
  obtain ⟨cur, h1, h2, h3⟩ := h
  exact ⟨cur, h1, h2, fun j hj => by rw [h3 j hj, e j hj]⟩
theorem RowOf.put {G : Nat → Rat} {g n : Nat} {w : World} (h : RowOf G g n w) (j : Nat) (hj : j < n) (q : Rat) : RowOf (fun i => if i = j then q else G i) g n (w.setCell ⟨g, j, none⟩ (.string (tQ q))) := by
  obtain ⟨cur, h1, h2, h3⟩ := h
  refine ⟨cur.setIfInBounds j (.string (tQ q)), ?_, by simpa using h2, fun i hi => ?_⟩
  · rw [setCell_eq_setRow w g j cur _ (0, 0) _ h1]
    exact setRow_heap w g cur _ _ _ h1
  · by_cases e : i = j
    · subst e
      simp [h2, hj]
    · rw [Array.getElem?_setIfInBounds_ne (Ne.symm e), h3 i hi]
      simp only [if_neg e]
theorem rowG_step {o k0 k1 k2 : Nat} {q0 q1 q2 : Rat} {left : Value → Bool} (hne : k0 ≠ k1 ∧ k0 ≠ k2 ∧ k1 ≠ k2) (x : Nat) (q : Rat) (hx : (x = k0 ∧ q = q0) ∨ (x = k1 ∧ q = q1) ∨ (x = k2 ∧ q = q2)) (j : Nat) :
    (if j = o + x then q else rowG o k0 k1 k2 q0 q1 q2 left j) = rowG o k0 k1 k2 q0 q1 q2 (fun z => open Classical in left z && !decide (z = .int .i64 x)) j := by
  have hk : ∀ a b : Nat, (Value.int .i64 (a : Int) = Value.int .i64 (b : Int)) ↔ a = b := fun a b => ⟨fun h => by simp only [Value.int.injEq, true_and] at h; exact Int.ofNat.inj h, fun h => by rw [h]⟩
  unfold rowG
  simp only [hk]
  rcases hx with ⟨rfl, rfl⟩ | ⟨rfl, rfl⟩ | ⟨rfl, rfl⟩
  · by_cases h : j = o + x
    · simp [h]
    · have n1 : k1 ≠ x := fun e => hne.1 e.symm
      have n2 : k2 ≠ x := fun e => hne.2.1 e.symm
      simp [h, n1, n2]
  · by_cases h : j = o + x
    · have h2 : ¬ j = o + k0 := by omega
      simp [h, h2, hne.1, Ne.symm hne.1]
    · have n1 : k0 ≠ x := hne.1
      have n2 : k2 ≠ x := fun e => hne.2.2 e.symm
      simp [h, n1, n2]
  · by_cases h : j = o + x
    · have h2 : ¬ j = o + k0 := by omega
      have h3 : ¬ j = o + k1 := by omega
      simp [h, h2, h3, Ne.symm hne.2.1, Ne.symm hne.2.2]
    · have n1 : k0 ≠ x := hne.2.1
      have n2 : k1 ≠ x := hne.2.2
      simp [h, n1, n2]
/-- All blocks but two are as they were. -/
def But2 (q r : Nat) (W wr : World) : Prop := W.heap.size ≤ wr.heap.size ∧ ∀ b, b ≠ q → b ≠ r → b < W.heap.size → wr.heap[b]? = W.heap[b]?
theorem But2.refl (q r : Nat) (W : World) : But2 q r W W := ⟨Nat.le_refl _, fun _ _ _ _ => rfl⟩
theorem But2.below {q r : Nat} {W wr w2 : World} (h : But2 q r W wr) (hb : Below W.heap.size wr w2) : But2 q r W w2 :=
  ⟨Nat.le_trans h.1 hb.size, fun b h1 h2 hl => (hb.block b hl).trans (h.2 b h1 h2 hl)⟩
theorem But2.grown {q r : Nat} {W wr w2 : World} (h : But2 q r W wr) (hg : wr.grownBy w2 (some r)) (hs : w2.heap.size = wr.heap.size) : But2 q r W w2 :=
  ⟨by rw [hs]; exact h.1, fun b h1 h2 hl => (hg.block b (Nat.lt_of_lt_of_le hl h.1) (by intro e; cases e; exact h2 rfl)).trans (h.2 b h1 h2 hl)⟩
theorem But2.set {q r : Nat} {W wr : World} (h : But2 q r W wr) (o : Nat) (u : Value) : But2 q r W (wr.setCell ⟨q, o, none⟩ u) :=
  ⟨by simpa using h.1, fun b h1 h2 hl => (heap_set wr ⟨q, o, none⟩ u b h1).trans (h.2 b h1 h2 hl)⟩
theorem But2.cells {q r b : Nat} {W wr : World} {vs : List Value} (h : But2 q r W wr) (h1 : b ≠ q) (h2 : b ≠ r) (hc : Cells b vs W) : Cells b vs wr := fun i hi => by
  have hb := World.block_lt_of_cell? W _ (hc i hi).1
  have he := h.2 b h1 h2 hb
  refine ⟨?_, ?_⟩
  · have := (hc i hi).1
    simp only [World.cell?] at this ⊢
    rw [he]; exact this
  · have := (hc i hi).2
    simp only [World.frozen?] at this ⊢
    rw [he]; exact this
theorem fm3_0 {k0 k1 k2 : Int} (hne : k0 ≠ k1 ∧ k0 ≠ k2 ∧ k1 ≠ k2) (v0 v1 v2 : Value) : fm3 k0 k1 k2 v0 v1 v2 (.int .i64 k0) = some v0 := by
  unfold fm3 fm2 fm1
  rw [upd_other (by intro e; cases e; exact hne.2.1 rfl), upd_other (by intro e; cases e; exact hne.1 rfl), upd_same]
theorem fm3_1 {k0 k1 k2 : Int} (hne : k0 ≠ k1 ∧ k0 ≠ k2 ∧ k1 ≠ k2) (v0 v1 v2 : Value) : fm3 k0 k1 k2 v0 v1 v2 (.int .i64 k1) = some v1 := by
  unfold fm3 fm2
  rw [upd_other (by intro e; cases e; exact hne.2.2 rfl), upd_same]
theorem fm3_2 {k0 k1 k2 : Int} (v0 v1 v2 : Value) : fm3 k0 k1 k2 v0 v1 v2 (.int .i64 k2) = some v2 := by
  unfold fm3
  rw [upd_same]
end Go.Proofs.YtbiffaciinppiaaGreatDoor
end
