/- mesh.once: a cycle turns to the left, or not, at each point, and goes around once. A map that is a set: all its entries hold one value. mesh.whole at a mesh that is right. mesh.Check at a mesh that is right. -/
import Derived.Test.YtbiffaciinppiaaGreatDoorVa08
import Derived.Laws.EntriesVeiled
import Derived.Test.YtbiffaciinppiaaGreatDoorVa06
import Derived.Test.YtbiffaciinppiaaGreatDoorVa04
set_option linter.unusedVariables false
set_option linter.unusedSimpArgs false
section
namespace Go.Proofs.YtbiffaciinppiaaGreatDoor
open Go.RowKit
attribute [local go_sem] fld_x fld_y

/-- The sign of the turn at a place of a cycle. -/
def tnAt (pts : List (Rat × Rat)) (cyc : List Int) (i : Nat) : Int := sgnQ (arQ (ptAt pts cyc i) (ptAt pts cyc (i + 1)) (ptAt pts cyc (i + 2)))
def upAt (pts : List (Rat × Rat)) (cyc : List Int) (i : Nat) : Bool := upQ (ptAt pts cyc i) (ptAt pts cyc (i + 1))
/-- How often a cycle begins to go up, in the first k places. -/
def rounds (pts : List (Rat × Rat)) (cyc : List Int) : Nat → Nat
  | 0 => 0
  | k + 1 => rounds pts cyc k + (if !upAt pts cyc k && upAt pts cyc (k + 1) then 1 else 0)
theorem rounds_le (pts : List (Rat × Rat)) (cyc : List Int) : ∀ k, rounds pts cyc k ≤ k
  | 0 => Nat.le_refl _
  | k + 1 => by have := rounds_le pts cyc k; unfold rounds; split <;> omega
def onceB (pts : List (Rat × Rat)) (cyc : List Int) : Bool := (List.range cyc.length).all (fun i => decide (0 ≤ tnAt pts cyc i)) && (rounds pts cyc cyc.length == 1)

def OR (pts : List (Rat × Rat)) (cyc : List Int) (w : World) (v8 v15 : Value) (wr : World) : Prop :=
  ∃ k : Nat, k ≤ cyc.length ∧ v15 = .int .i64 k ∧ v8 = .int .i64 (rounds pts cyc k) ∧ Hid (∀ i < k, 0 ≤ tnAt pts cyc i) ∧ Ext w wr
def fPt (n : Nat) : Value := .func (.func 214) #[] #[.pointer (some ⟨n, 0, none⟩), .pointer (some ⟨n + 1, 0, none⟩), .pointer (some ⟨n + 1 + 1, 0, none⟩)]

set_option maxRecDepth 100000 in
set_option maxHeartbeats 2000000 in
theorem once_ok (N D : Nat) (hF : Fine N D) (pb po pc tb tO tn tc qb qc : Nat) (pts : List (Rat × Rat)) (cyc : List Int) (w : World) (g : Glob w) (hp : PtsIn w pb po pts) (hcy : ∀ j (h : j < cyc.length), w.cell? ⟨qb, j, none⟩ = some (.int .i64 cyc[j]))
    (hn : 0 < cyc.length) (hl : cyc.length ≤ 1000000) (hin : ∀ c ∈ cyc, 0 ≤ c ∧ c < pts.length) (hg : ∀ p ∈ pts, GP N D p) :
    Calls Tryz.prog 180 #[.agg #[.slice (some ⟨pb, po, none⟩) pts.length pc, .slice (some ⟨tb, tO, none⟩) tn tc], .slice (some ⟨qb, 0, none⟩) cyc.length qc] w (Ret (.bool (onceB pts cyc)) w) := by
  have HW : ∃ Wl, Wl = ((((w.alloc (Obj.cells #[.slice (some ⟨pb, po, none⟩) pts.length pc, .slice (some ⟨tb, tO, none⟩) tn tc] 37)).alloc (Obj.cells #[.slice (some ⟨qb, 0, none⟩) cyc.length qc] 74)).alloc (Obj.cells #[.int .i64 cyc.length] 3)).alloc (Obj.cells #[fPt w.heap.size] 291)) := ⟨_, rfl⟩
  obtain ⟨Wl, hW⟩ := HW
  have X : Ext w Wl := by rw [hW]; exact (((((Ext.refl w).alloc _).alloc _).alloc _).alloc _)
  have hu : Wl.cell? ⟨w.heap.size + 1 + 1 + 1, 0, none⟩ = some (fPt w.heap.size) := by rw [hW]; simp [go_sem]
  have hc5 : Wl.cell? ⟨w.heap.size + 1 + 1, 0, none⟩ = some (.int .i64 cyc.length) := by rw [hW]; simp [go_sem]
  have hC : Cap Wl w.heap.size (w.heap.size + 1) (w.heap.size + 1 + 1) pts cyc := by
    refine ⟨⟨pb, po, pc, ?_, hp.ext X⟩, ⟨qb, qc, ?_, fun j hj => X.cell (hcy j hj)⟩, hc5⟩
    · rw [hW]; simp [go_sem]
    · rw [hW]; simp [go_sem]
  have G := Lib.hid (g.ext X)
  have HP := Lib.hid (fun (j : Nat) (z : Int) (hz : z = (j : Int)) (hj : j ≤ 2000000) W (X : Ext Wl W) => show Calls Tryz.prog 214 #[.int .i64 z, .pointer (some ⟨w.heap.size, 0, none⟩), .pointer (some ⟨w.heap.size + 1, 0, none⟩), .pointer (some ⟨w.heap.size + 1 + 1, 0, none⟩)] W (Ret (ptV (ptAt pts cyc j)) W) from hz ▸ point_calls pts cyc j _ _ _ W (hC.ext X) hj hn hl hin)
  have HU := Lib.hid (fun (j : Nat) (z : Int) (hz : z = (j : Int)) (hj : j ≤ 1999990) W (X : Ext Wl W) => show Calls Tryz.prog 215 #[.int .i64 z, .pointer (some ⟨w.heap.size + 1 + 1 + 1, 0, none⟩)] W (Ret (.bool (upAt pts cyc j)) W) from hz ▸ upper_calls N D hF pts cyc j _ _ _ _ W (G.out.ext X) (hC.ext X) hj hn hl hin hg (X.cell hu))
  have HT := Lib.hid (fun (j : Nat) W (X : Ext Wl W) => show Calls Tryz.prog 127 #[ptV (ptAt pts cyc j), ptV (ptAt pts cyc (j + 1)), ptV (ptAt pts cyc (j + 2))] W (Ret (.int .i64 (tnAt pts cyc j)) W) from turn_calls N D hF _ _ _ W (G.out.ext X) (ptAt_gp hg hn hin _) (ptAt_gp hg hn hin _) (ptAt_gp hg hn hin _))
  have HX := Lib.hid X
  clear X hC hg hin hcy hp g G hF
  simp only [fPt] at hW hu
  go_enter Tryz.func180, Tryz.ntmps180
  go_wp2_with fail
  rw [← hW]
  clear hW
  go_loopw [8, 15] (OR pts cyc Wl) (fun _ p _ => cyc.length - (intOf p).toNat)
  case atStart => exact ⟨0, by omega, rfl, rfl, Lib.hid (fun i hi => absurd hi (Nat.not_lt_zero _)), Ext.refl _⟩
  case round =>
    obtain ⟨k, hk, rfl, rfl, hall, hx⟩ := hrel
    have hr := rounds_le pts cyc k
    rcases Nat.lt_or_ge k cyc.length with hlt | hge
    · have H0 := Lib.hid (fun W X => HP.out k _ rfl (by omega) W X)
      have H1 := Lib.hid (fun W X => HP.out (k + 1) (IntKind.i64.wrap (↑k + 1)) (by rw [IntKind.wrap_i64]; omega) (by omega) W X)
      have H2 := Lib.hid (fun W X => HP.out (k + 2) (IntKind.i64.wrap (↑k + 2)) (by rw [IntKind.wrap_i64]; omega) (by omega) W X)
      have HT0 := Lib.hid (HT.out k)
      have HU0 := Lib.hid (fun W X => HU.out k _ rfl (by omega) W X)
      have HU1 := Lib.hid (fun W X => HU.out (k + 1) (↑k + 1) (by omega) (by omega) W X)
      have hal := hall.out
      have hun : onceB pts cyc = false ∨ 0 ≤ tnAt pts cyc k := by
        rcases Int.lt_or_le (tnAt pts cyc k) 0 with h | h
        · left
          unfold onceB
          rw [Bool.and_eq_false_iff]
          left
          rw [List.all_eq_false]
          exact ⟨k, List.mem_range.2 hlt, by simpa using h⟩
        · exact .inr h
      have hrs : rounds pts cyc (k + 1) = rounds pts cyc k + (if !upAt pts cyc k && upAt pts cyc (k + 1) then 1 else 0) := rfl
      have hU0 : US (w.heap.size + 1 + 1 + 1) (fPt w.heap.size) Wl wr.drew := ⟨(hx.drew).cell hu, hx.drew⟩
      have hro : tnAt pts cyc k < 0 ∧ onceB pts cyc = false ∨ 0 ≤ tnAt pts cyc k ∧ Hid (∀ i < k + 1, 0 ≤ tnAt pts cyc i) := by
        rcases Int.lt_or_le (tnAt pts cyc k) 0 with h | h
        · exact .inl ⟨h, hun.resolve_right (by omega)⟩
        · refine .inr ⟨h, Lib.hid (fun i hi => ?_)⟩
          rcases Nat.lt_or_ge i k with h2 | h2
          · exact hal i h2
          · have : i = k := by omega
            rw [this]; exact h
      clear hun hal hall HP HU HT
      generalize ptAt pts cyc k = p0 at *
      generalize ptAt pts cyc (k + 1) = p1 at *
      generalize ptAt pts cyc (k + 2) = p2 at *
      generalize hR1 : rounds pts cyc k = r0 at *
      generalize hup0 : upAt pts cyc k = u0 at *
      generalize hup1 : upAt pts cyc (k + 1) = u1 at *
      have HRS := Lib.hid hrs
      have HL := Lib.hid hk
      clear hrs hk hR1 hup0 hup1
      rcases hro with ⟨ht, hone⟩ | ⟨ht, hall1⟩
      · have HON := Lib.hid hone
        generalize tnAt pts cyc k = tk at *
        have hd : decide (tk < 0) = true := decide_eq_true ht
        clear hone ht
        go_wp2_with fail
        go_region_held3 (fun w' => w'.cell? ⟨w.heap.size + 1 + 1 + 1, 0, none⟩ = some (.func (.func 214) #[] #[.pointer (some ⟨w.heap.size, 0, none⟩), .pointer (some ⟨w.heap.size + 1, 0, none⟩), .pointer (some ⟨w.heap.size + 1 + 1, 0, none⟩)]) ∧ Below Wl.heap.size Wl w')
          (first | exact hU0 | exact US.step (by assumption) hb | exact US.drew (by assumption))
          (first | (go_at_call 214; (with_reducible refine (H0.out _ ?hx).mono ?_); (case hx => exact US.bel (by assumption)); rintro e w' ⟨rfl, hb⟩) | (go_at_call 214; (with_reducible refine (H1.out _ ?hx).mono ?_); (case hx => exact US.bel (by assumption)); rintro e w' ⟨rfl, hb⟩) | (go_at_call 214; (with_reducible refine (H2.out _ ?hx).mono ?_); (case hx => exact US.bel (by assumption)); rintro e w' ⟨rfl, hb⟩) | (go_at_call 127; (with_reducible refine (HT0.out _ ?hx).mono ?_); (case hx => exact US.bel (by assumption)); rintro e w' ⟨rfl, hb⟩))
        go_wp2_with fail
        go_ret
        rw [HON.out]
        exact ⟨rfl, Ext.trans HX.out (US.bel (by assumption))⟩
      · generalize tnAt pts cyc k = tk at *
        have hd : decide (tk < 0) = false := decide_eq_false (by omega)
        clear ht
        go_wp2_with fail
        go_region_held3 (fun w' => w'.cell? ⟨w.heap.size + 1 + 1 + 1, 0, none⟩ = some (.func (.func 214) #[] #[.pointer (some ⟨w.heap.size, 0, none⟩), .pointer (some ⟨w.heap.size + 1, 0, none⟩), .pointer (some ⟨w.heap.size + 1 + 1, 0, none⟩)]) ∧ Below Wl.heap.size Wl w')
          (first | exact hU0 | exact US.step (by assumption) hb | exact US.drew (by assumption))
          (first | (go_at_call 214; (with_reducible refine (H0.out _ ?hx).mono ?_); (case hx => exact US.bel (by assumption)); rintro e w' ⟨rfl, hb⟩) | (go_at_call 214; (with_reducible refine (H1.out _ ?hx).mono ?_); (case hx => exact US.bel (by assumption)); rintro e w' ⟨rfl, hb⟩) | (go_at_call 214; (with_reducible refine (H2.out _ ?hx).mono ?_); (case hx => exact US.bel (by assumption)); rintro e w' ⟨rfl, hb⟩) | (go_at_call 127; (with_reducible refine (HT0.out _ ?hx).mono ?_); (case hx => exact US.bel (by assumption)); rintro e w' ⟨rfl, hb⟩))
        go_wp2_with fail
        have hz := US.bel (by assumption)
        refine (HU0.out _ hz).mono ?_
        rintro e w2 ⟨rfl, hb2⟩
        have hz2 := Ext.trans hz hb2
        cases u0
        · go_wp2_with fail
          refine (HU1.out _ hz2).mono ?_
          rintro e w3 ⟨rfl, hb3⟩
          have hz3 := Ext.trans hz2 hb3
          cases u1
          · go_wp2_with fail
            refine ⟨⟨k + 1, hlt, by go_num, ?_, hall1, hz3⟩, by simp only [intOf]; omega⟩
            rw [HRS.out]; simp
          · go_wp2_with fail
            refine ⟨⟨k + 1, hlt, by go_num, ?_, hall1, hz3⟩, by simp only [intOf]; omega⟩
            rw [HRS.out]; simp
        · go_wp2_with fail
          refine ⟨⟨k + 1, hlt, by go_num, ?_, hall1, hz2⟩, by simp only [intOf]; omega⟩
          rw [HRS.out]; simp
    · have hke : k = cyc.length := by omega
      subst hke
      have ho : onceB pts cyc = ((rounds pts cyc cyc.length : Int) == 1) := by
        unfold onceB
        rw [show (List.range cyc.length).all (fun i => decide (0 ≤ tnAt pts cyc i)) = true from List.all_eq_true.2 (fun i hi => decide_eq_true (hall.out i (List.mem_range.1 hi))), Bool.true_and]
        rw [Bool.eq_iff_iff, beq_iff_eq, beq_iff_eq]
        omega
      have HO := Lib.hid ho
      generalize rounds pts cyc cyc.length = r0 at *
      clear ho hall HP HU HT
      go_wp2_with fail
      go_ret
      rw [HO.out]
      exact ⟨rfl, Ext.trans HX.out hx⟩
end Go.Proofs.YtbiffaciinppiaaGreatDoor
end

section
namespace Go.Proofs.YtbiffaciinppiaaGreatDoor
open Go.RowKit Go.Maps

noncomputable def ind (L : List Value) (v : Value) : Value → Option Value := fun x => open Classical in if x ∈ L then some v else none
theorem ind_yes {L : List Value} {v x : Value} (h : x ∈ L) : ind L v x = some v := by unfold ind; rw [if_pos h]
theorem ind_no {L : List Value} {v x : Value} (h : x ∉ L) : ind L v x = none := by unfold ind; rw [if_neg h]
/-- A list with one more element, if it was not in it. -/
def insG {α : Type} [DecidableEq α] (U : List α) (x : α) : List α := if x ∈ U then U else x :: U
theorem insG_len {α : Type} [DecidableEq α] (U : List α) (x : α) : (insG U x).length ≤ U.length + 1 := by unfold insG; split <;> simp
theorem mem_insG {α : Type} [DecidableEq α] (U : List α) (x y : α) : y ∈ insG U x ↔ y = x ∨ y ∈ U := by
  unfold insG; split
  · constructor
    · exact .inr
    · rintro (rfl | h); · assumption
      · exact h
  · simp

section
variable {α : Type} {P : Program} {k e : TypeId} {enc : α → Value} {v : Value} {w : World} {b : Nat} {U : List α}
def SetG (P : Program) (k e : TypeId) (enc : α → Value) (v : Value) (w : World) (b : Nat) (U : List α) : Prop := MapE P k e w b U.length (ind (U.map enc) v)
theorem SetG.made (w : World) (P : Program) (k e : TypeId) (enc : α → Value) (v : Value) : SetG P k e enc v (w.alloc (.map #[] 0)) w.heap.size [] := by
  have := MapE.made w P k e
  unfold SetG
  rwa [show ind (List.map enc []) v = fun _ => none from funext fun x => ind_no (by simp)]
theorem SetG.lt (h : SetG P k e enc v w b U) : b < w.heap.size := MapE.lt h
theorem SetG.alloc (h : SetG P k e enc v w b U) (o : Obj) : SetG P k e enc v (w.alloc o) b U := MapE.alloc h o
theorem SetG.drew (h : SetG P k e enc v w b U) : SetG P k e enc v w.drew b U := MapE.drew h
theorem SetG.kept {w' : World} {row : Option Nat} (h : SetG P k e enc v w b U) (hg : w.grownBy w' row) (hne : some b ≠ row) : SetG P k e enc v w' b U := MapE.kept h hg hne
theorem SetG.setCell (h : SetG P k e enc v w b U) {a : Addr} (ha : b ≠ a.block) (u : Value) : SetG P k e enc v (w.setCell a u) b U := MapE.setCell h ha u
theorem SetG.same {w' : World} (h : SetG P k e enc v w b U) (hb : w'.heap[b]? = w.heap[b]?) : SetG P k e enc v w' b U := MapE.same h hb
theorem SetG.ext {w' : World} (h : SetG P k e enc v w b U) (hx : Below w.heap.size w w') : SetG P k e enc v w' b U := h.same (hx.block _ h.lt)
variable [DecidableEq α]
omit [DecidableEq α] in
theorem upd_ind_old {x : Value} {L : List Value} (h : x ∈ L) : upd (ind L v) x v = ind L v := funext fun y => by
  by_cases hy : y = x
  · rw [hy, upd_same, ind_yes h]
  · rw [upd_other hy]
omit [DecidableEq α] in
theorem upd_ind_new {x : Value} {L : List Value} : upd (ind L v) x v = ind (x :: L) v := funext fun y => by
  by_cases hy : y = x
  · rw [hy, upd_same, ind_yes (by simp)]
  · rw [upd_other hy]
    by_cases hL : y ∈ L
    · rw [ind_yes hL, ind_yes (by simp [hL])]
    · rw [ind_no hL, ind_no (by simp [hL, hy])]
theorem SetG.add {t : TypeId} (h : SetG P k e enc v w b U) (K : Keyed P k) (ht : P.underlying t = some (.map k e)) (hn : U.length < maxLen) (hinj : ∀ x y, enc x = enc y → x = y) (x : α) {kl : Lit} {d : DataW Unit} {ps : List MemPlace}
    (hk : keyOf P k (enc x) = some kl) (hv : plainElem P e v = some (d, ps)) : ∃ w', (Instr.mapUpdate t (.map (some b)) (enc x) v).run P w = .ok () w' ∧ SetG P k e enc v w' b (insG U x) ∧ w.grownBy w' (some b) := by
  have hm : enc x ∈ U.map enc ↔ x ∈ U := by
    rw [List.mem_map]
    exact ⟨fun ⟨y, h1, h2⟩ => by rw [← hinj _ _ h2]; exact h1, fun h => ⟨x, h, rfl⟩⟩
  by_cases hx : x ∈ U
  · obtain ⟨w', h1, h2, h3⟩ := MapE.update_old h K ht hn hk hv (ind_yes (hm.2 hx))
    refine ⟨w', h1, ?_, h3⟩
    rw [upd_ind_old (hm.2 hx)] at h2
    unfold SetG insG; rw [if_pos hx]; exact h2
  · obtain ⟨w', h1, h2, h3⟩ := MapE.update_new h K ht hn hk hv (ind_no (fun h => hx (hm.1 h)))
    refine ⟨w', h1, ?_, h3⟩
    rw [upd_ind_new] at h2
    unfold SetG insG; rw [if_neg hx]; simpa using h2
theorem SetG.look {t : TypeId} (h : SetG P k e enc v w b U) (K : Keyed P k) (ht : P.underlying t = some (.map k e)) (hinj : ∀ x y, enc x = enc y → x = y) {z : Value} (hz : (zeroValue e).run P w = .ok z w) {zd : DataW Unit} {zp : List MemPlace} (hzd : plainElem P e z = some (zd, zp)) (x : α) {kl : Lit}
    (hk : keyOf P k (enc x) = some kl) : (Instr.lookup t (.map (some b)) (enc x) false).run P w = .ok (if x ∈ U then v else z) w := by
  have hm : enc x ∈ U.map enc ↔ x ∈ U := by
    rw [List.mem_map]
    exact ⟨fun ⟨y, h1, h2⟩ => by rw [← hinj _ _ h2]; exact h1, fun h => ⟨x, h, rfl⟩⟩
  by_cases hx : x ∈ U
  · rw [if_pos hx]
    exact (MapF.look_some (MapE.toF h) K ht hz hzd hk (ind_yes (hm.2 hx))).2
  · rw [if_neg hx]
    exact (MapF.look_none (MapE.toF h) K ht hz hzd hk (ind_no (fun h => hx (hm.1 h)))).2
omit [DecidableEq α] in
theorem SetG.len {t : TypeId} (h : SetG P k e enc v w b U) (ht : P.underlying t = some (.map k e)) (ty : TypeId) : (Builtin.len_ #[t] ty #[.map (some b)]).run P w = .ok (.int .i64 U.length) w := MapE.len h ht ty
end
end Go.Proofs.YtbiffaciinppiaaGreatDoor
end

section
namespace Go.Proofs.YtbiffaciinppiaaGreatDoor
open Go.RowKit Go.Maps

def triIdx (t : Tri) : List Int := [t.1, t.2.1, t.2.2]
/-- The numbers of points that triangles use, each once. -/
def usedOf (l : List Tri) : List Int := (l.flatMap triIdx).foldl insG []
theorem usedOf_take (l : List Tri) (i : Nat) (h : i < l.length) : usedOf (l.take (i + 1)) = insG (insG (insG (usedOf (l.take i)) l[i].1) l[i].2.1) l[i].2.2 := by
  unfold usedOf
  rw [List.take_succ_eq_append_getElem h, List.flatMap_append, List.foldl_append]
  simp [triIdx]
theorem foldl_insG_len : ∀ (xs : List Int) (U : List Int), (xs.foldl insG U).length ≤ U.length + xs.length
  | [], U => by simp
  | x :: xs, U => by
    have h1 := foldl_insG_len xs (insG U x)
    have h2 := insG_len U x
    simp only [List.foldl_cons, List.length_cons]; omega
theorem usedOf_len (l : List Tri) : (usedOf l).length ≤ 3 * l.length := by
  have h := foldl_insG_len (l.flatMap triIdx) []
  have h2 : ∀ l : List Tri, (l.flatMap triIdx).length = 3 * l.length := by
    intro l
    induction l with
    | nil => rfl
    | cons t l ih => rw [List.flatMap_cons, List.length_append, ih]; simp [triIdx]; omega
  have h3 := h2 l
  unfold usedOf
  rw [h3] at h
  simpa using h

/-- A mesh that is right, without its memory. -/
structure MeshOk (N D : Nat) (pts : List (Rat × Rat)) (tris : List Tri) (cyc : List Int) : Prop where
  fine : Fine N D
  gp : ∀ p ∈ pts, GP N D p
  ix : ∀ t ∈ tris, ∀ k ∈ triIdx t, 0 ≤ k ∧ k < pts.length
  tne : 0 < tris.length
  tlen : tris.length ≤ 800
  plen : pts.length ≤ 400
  pnd : pts.Nodup
  turn : ∀ t ∈ tris, 0 < arQ (pts.getD t.1.toNat (0, 0)) (pts.getD t.2.1.toNat (0, 0)) (pts.getD t.2.2.toNat (0, 0))
  bd : Bd (allSides tris)
  cy : Cyc (allSides tris) cyc
  used : (usedOf tris).length = pts.length
  once : onceB pts cyc = true

abbrev UsedM (w : World) (b : Nat) (U : List Int) : Prop := SetG Tryz.prog 3 4 (Value.int .i64) (.bool true) w b U
theorem UsedM.add' {w : World} {b : Nat} {U : List Int} (h : UsedM w b U) (hn : U.length ≤ 1000000) (x : Int) (hx : I64 x) :
    ∃ w', (Instr.mapUpdate 249 (.map (some b)) (.int .i64 x) (.bool true)).run Tryz.prog w = .ok () w' ∧ UsedM w' b (insG U x) ∧ w.grownBy w' (some b) := by
  obtain ⟨kl, hk⟩ := key_int hx
  exact h.add KInt Tryz.underlying249 (by unfold maxLen; omega) (fun x y e => by cases e; rfl) x hk (plainElem_bool Tryz.underlying4 _)
theorem UsedM.len' {w : World} {b : Nat} {U : List Int} (h : UsedM w b U) : (Builtin.len_ #[249] 3 #[.map (some b)]).run Tryz.prog w = .ok (.int .i64 U.length) w := SetG.len h Tryz.underlying249 3

theorem allSides_mem {l : List Tri} {p : Int × Int} (h : p ∈ allSides l) : ∃ t ∈ l, p.1 ∈ triIdx t ∧ p.2 ∈ triIdx t := by
  unfold allSides at h
  obtain ⟨t, ht, hp⟩ := List.mem_flatMap.1 h
  refine ⟨t, ht, ?_⟩
  unfold triSides at hp
  unfold triIdx
  simp only [List.mem_cons, List.not_mem_nil, or_false] at hp
  rcases hp with rfl | rfl | rfl <;> simp
theorem MeshOk.cin {N D : Nat} {pts : List (Rat × Rat)} {tris : List Tri} {cyc : List Int} (h : MeshOk N D pts tris cyc) : ∀ c ∈ cyc, 0 ≤ c ∧ c < pts.length := fun c hc => by
  obtain ⟨j, hj, e⟩ := List.mem_iff_getElem.1 hc
  have hb : bnd (allSides tris) (cyc[j], cyc[(j + 1) % cyc.length]'(Nat.mod_lt _ h.cy.ne)) := (h.cy.all _).2 ⟨j, hj, rfl⟩
  obtain ⟨t, ht, h1, _⟩ := allSides_mem hb.1
  rw [← e]
  exact h.ix t ht _ h1
theorem MeshOk.clen {N D : Nat} {pts : List (Rat × Rat)} {tris : List Tri} {cyc : List Int} (h : MeshOk N D pts tris cyc) : cyc.length ≤ 2400 := by
  rw [← h.cy.len]
  have := List.length_filter_le (fun p => decide (bnd (allSides tris) p)) (allSides tris)
  have h2 := allSides_len tris
  have := h.tlen
  omega

theorem ixT0 (a b c : Int) (w : World) : (Instr.index 121 (.agg #[.int .i64 a, .int .i64 b, .int .i64 c]) (.int .i64 0)).run Tryz.prog w = .ok (.int .i64 a) w := by kernel_rfl
theorem ixT1 (a b c : Int) (w : World) : (Instr.index 121 (.agg #[.int .i64 a, .int .i64 b, .int .i64 c]) (.int .i64 1)).run Tryz.prog w = .ok (.int .i64 b) w := by kernel_rfl
theorem ixT2 (a b c : Int) (w : World) : (Instr.index 121 (.agg #[.int .i64 a, .int .i64 b, .int .i64 c]) (.int .i64 2)).run Tryz.prog w = .ok (.int .i64 c) w := by kernel_rfl
attribute [local go_sem] ixT0 ixT1 ixT2

/-- A mesh in memory. -/
structure MeshIn (w : World) (pb po tb tO : Nat) (pts : List (Rat × Rat)) (tris : List Tri) : Prop where
  p : PtsIn w pb po pts
  t : TrisIn w tb tO tris
theorem MeshIn.ext {w W : World} {pb po tb tO : Nat} {pts : List (Rat × Rat)} {tris : List Tri} (h : MeshIn w pb po tb tO pts tris) (hx : Ext w W) : MeshIn W pb po tb tO pts tris := ⟨h.p.ext hx, h.t.ext hx⟩
def mV (pb po pc tb tO tc : Nat) (pts : List (Rat × Rat)) (tris : List Tri) : Value := .agg #[.slice (some ⟨pb, po, none⟩) pts.length pc, .slice (some ⟨tb, tO, none⟩) tris.length tc]

def WR (n : Nat) (tris : List Tri) (Wo : World) (v23 : Value) (wr : World) : Prop :=
  ∃ i : Nat, i ≤ n ∧ v23 = .int .i64 i ∧ UsedM wr Wo.heap.size (usedOf (tris.take i)) ∧ Ext Wo wr
def WI (U : List Int) (a b c : Int) (Wo : World) (v28 : Value) (wr : World) : Prop :=
  ∃ j : Nat, j ≤ 3 ∧ v28 = .int .i64 j ∧ UsedM wr Wo.heap.size (([a, b, c].take j).foldl insG U) ∧ Ext Wo wr

set_option maxRecDepth 100000 in
set_option maxHeartbeats 2000000 in
theorem whole_ok (N D : Nat) (pts : List (Rat × Rat)) (tris : List Tri) (cyc : List Int) (hM : MeshOk N D pts tris cyc) (pb po pc tb tO tc : Nat) (w : World) (g : Glob w) (hI : MeshIn w pb po tb tO pts tris) :
    Calls Tryz.prog 128 #[mV pb po pc tb tO tc pts tris] w (Ret (.bool true) w) := by
  have HM := Lib.hid hM
  have HI := Lib.hid hI
  have G := Lib.hid g
  have hmm := @run_makeMap Tryz.prog
  have hpl := hM.plen
  have htl := hM.tlen
  clear hM hI g
  unfold mV
  go_enter Tryz.func128, Tryz.ntmps128
  have X1 := (Ext.refl w).alloc (.cells #[.slice (some ⟨pb, po, none⟩) pts.length pc, .slice (some ⟨tb, tO, none⟩) tris.length tc] 37)
  have b0 : (w.alloc (.cells #[.slice (some ⟨pb, po, none⟩) pts.length pc, .slice (some ⟨tb, tO, none⟩) tris.length tc] 37)).cell? ⟨w.heap.size, 0, none⟩ = some (.slice (some ⟨pb, po, none⟩) pts.length pc) := by simp [go_sem]
  have b1 : (w.alloc (.cells #[.slice (some ⟨pb, po, none⟩) pts.length pc, .slice (some ⟨tb, tO, none⟩) tris.length tc] 37)).cell? ⟨w.heap.size, 1, none⟩ = some (.slice (some ⟨tb, tO, none⟩) tris.length tc) := by simp [go_sem]
  go_wp2_with fail
  have hI64 : ∀ t ∈ tris, I64 t.1 ∧ I64 t.2.1 ∧ I64 t.2.2 := fun t ht => by
    have h1 := HM.out.ix t ht t.1 (by simp [triIdx])
    have h2 := HM.out.ix t ht t.2.1 (by simp [triIdx])
    have h3 := HM.out.ix t ht t.2.2 (by simp [triIdx])
    unfold I64; omega
  have HI64 := Lib.hid hI64
  refine (callsIn_wide.1 (owners_ok _ rfl tb tO tc tris _ (by omega) (HI.out.t.ext X1) hI64 HM.out.bd.nd)).mono ?_
  rintro e Wo ⟨ob, f, rfl, hob, hmf, hsf, X2⟩
  have HMF := Lib.hid hmf
  have HSF := Lib.hid hsf
  have XO := Ext.trans X1 X2
  have b0' := X2.cell b0
  have b1' := X2.cell b1
  have hob2 := hmf.lt
  have hws : w.heap.size < Wo.heap.size := World.block_lt_of_cell? Wo _ b0'
  clear hmf hsf b0 b1 hob hI64 X1 X2
  go_wp2_with fail
  have hs0 : UsedM (Wo.alloc (.map #[] 0)) Wo.heap.size [] := SetG.made _ _ _ _ _ _
  have X3 := (Ext.refl Wo).alloc (.map #[] 0)
  have HL := Lib.hid (usedOf_len tris)
  go_loopw [23] (WR tris.length tris Wo) (fun p _ => tris.length - (intOf p).toNat)
  case atStart => exact ⟨0, by omega, rfl, by simpa [usedOf] using hs0, X3⟩
  case round =>
    obtain ⟨i, hi, rfl, hU, X4⟩ := hrel
    by_cases hlt : i < tris.length
    · obtain ⟨d0, d1, d2⟩ := (HI.out.t.ext (Ext.trans XO X4)) i hlt
      have HS := Lib.hid (usedOf_take tris i hlt)
      have hIi := HI64.out tris[i] (List.getElem_mem _)
      have hle := usedOf_len (tris.take i)
      rw [List.length_take] at hle
      generalize usedOf (tris.take i) = U at *
      obtain ⟨A, hA⟩ : ∃ A, A = tris[i].1 := ⟨_, rfl⟩
      obtain ⟨B, hB⟩ : ∃ B, B = tris[i].2.1 := ⟨_, rfl⟩
      obtain ⟨C, hC⟩ : ∃ C, C = tris[i].2.2 := ⟨_, rfl⟩
      rw [← hA, ← hB, ← hC] at HS hIi
      rw [← hA] at d0
      rw [← hB] at d1
      rw [← hC] at d2
      have HIi := Lib.hid hIi
      clear hA hB hC hIi
      have X5 := X4.alloc (.cells #[.int .i64 A, .int .i64 B, .int .i64 C] 121)
      have hU5 := SetG.alloc hU (.cells #[.int .i64 A, .int .i64 B, .int .i64 C] 121)
      have hsz := X4.size
      have hle2 : U.length ≤ 2400 := by omega
      clear hle
      go_wp2_with fail
      go_loopw [28] (WI U A B C Wo) (fun p _ => 3 - (intOf p).toNat)
      case atStart => exact ⟨0, by omega, rfl, hU5, X5⟩
      case round =>
        obtain ⟨j, hj, rfl, hU6, X6⟩ := hrel
        have hadd : ∀ (x : Int) (V : List Int), V.length ≤ 2410 → I64 x → UsedM wr Wo.heap.size V → ∃ w1, (Instr.mapUpdate 249 (.map (some Wo.heap.size)) (.int .i64 x) (.bool true)).run Tryz.prog wr = .ok () w1 ∧ UsedM w1 Wo.heap.size (insG V x) ∧ Ext Wo w1 := fun x V hV hx hu => by
          obtain ⟨w1, h1, h2, h3⟩ := hu.add' (by omega) x hx
          exact ⟨w1, h1, h2, Below.grown X6 h3 X6.size (fun k e => by cases e; omega)⟩
        have l1 := insG_len U A
        have l2 := insG_len (insG U A) B
        rcases (show j = 0 ∨ j = 1 ∨ j = 2 ∨ j = 3 by omega) with rfl | rfl | rfl | rfl
        · obtain ⟨w1, hup, hU7, X7⟩ := hadd A U (by omega) HIi.out.1 hU6
          clear hadd
          go_wp2_with fail
          exact ⟨⟨1, by omega, rfl, hU7, X7⟩, by simp [intOf]⟩
        · obtain ⟨w1, hup, hU7, X7⟩ := hadd B (insG U A) (by omega) HIi.out.2.1 hU6
          clear hadd
          go_wp2_with fail
          exact ⟨⟨2, by omega, rfl, hU7, X7⟩, by simp [intOf]⟩
        · obtain ⟨w1, hup, hU7, X7⟩ := hadd C (insG (insG U A) B) (by omega) HIi.out.2.2 hU6
          clear hadd
          go_wp2_with fail
          exact ⟨⟨3, by omega, rfl, hU7, X7⟩, by simp [intOf]⟩
        · clear hadd
          go_wp2_with fail
          refine ⟨⟨i + 1, hlt, by go_num, ?_, X6⟩, by simp only [intOf]; omega⟩
          rw [HS.out]; exact hU6
    · have hin : i = tris.length := by omega
      subst hin
      rw [List.take_length] at hU
      have hlen := hU.len'
      rw [HM.out.used] at hlen
      have hmf2 : MapF Tryz.prog 158 3 wr ob (allSides tris).length f := HMF.out.same (Below.block X4 _ hob2)
      have b0'' := X4.cell b0'
      have b1'' := X4.cell b1'
      have HA := Lib.hid (allSides_len tris)
      go_wp2_with fail
      refine (outer_ok _ _ ob _ f (allSides tris) cyc wr (by rw [HA.out]; omega) (by rw [HA.out]; omega) hmf2 HSF.out HM.out.bd HM.out.cy).mono ?_
      rintro e wq ⟨qb, qc, rfl, hqb, hcy, X5⟩
      have HCY := Lib.hid hcy
      clear hcy
      have hlen' : (Builtin.len_ #[249] 3 #[.map (some Wo.heap.size)]).run Tryz.prog wq = .ok (.int .i64 pts.length) wq := by
        have := UsedM.len' (SetG.ext hU X5)
        rw [HM.out.used] at this
        exact this
      have c0 := X5.cell b0''
      have c1 := X5.cell b1''
      clear hlen
      go_wp2_with fail
      have XQ := Ext.trans (Ext.trans XO X4) X5
      refine (once_ok N D HM.out.fine pb po pc tb tO tris.length tc qb qc pts cyc wq (G.out.ext XQ) (HI.out.p.ext XQ) HCY.out HM.out.cy.ne (by have := HM.out.clen; omega) HM.out.cin HM.out.gp).mono ?_
      rintro e wz ⟨rfl, XZ⟩
      rw [HM.out.once]
      go_wp2_with fail
      go_ret
      exact ⟨rfl, Ext.trans XQ XZ⟩
end Go.Proofs.YtbiffaciinppiaaGreatDoor
end

section
namespace Go.Proofs.YtbiffaciinppiaaGreatDoor
open Go.RowKit Go.Maps
attribute [local go_sem] ixT0 ixT1 ixT2 fld_x fld_y

theorem ptV_inj (p q : Rat × Rat) (h : ptV p = ptV q) : p = q := by
  unfold ptV at h
  simp only [Value.agg.injEq, Array.mk.injEq, List.cons.injEq, Value.string.injEq, and_true] at h
  exact Prod.ext (tQ_inj h.1) (tQ_inj h.2)
abbrev MetM (w : World) (b : Nat) (U : List (Rat × Rat)) : Prop := SetG Tryz.prog 91 4 ptV (.bool true) w b U
theorem MetM.key {p : Rat × Rat} (h1 : Dg 9 p.1) (h2 : Dg 9 p.2) : ∃ kl, keyOf Tryz.prog 91 (ptV p) = some kl := by
  have := h1.size
  have := h2.size
  exact key_pt (by unfold maxLen; omega) (by unfold maxLen; omega)
theorem MetM.add' {w : World} {b : Nat} {U : List (Rat × Rat)} (h : MetM w b U) (hn : U.length ≤ 1000000) (p : Rat × Rat) (h1 : Dg 9 p.1) (h2 : Dg 9 p.2) :
    ∃ w', (Instr.mapUpdate 202 (.map (some b)) (ptV p) (.bool true)).run Tryz.prog w = .ok () w' ∧ MetM w' b (insG U p) ∧ w.grownBy w' (some b) := by
  obtain ⟨kl, hk⟩ := MetM.key h1 h2
  exact h.add KPt Tryz.underlying202 (by unfold maxLen; omega) ptV_inj p hk (plainElem_bool Tryz.underlying4 _)
theorem MetM.look' {w : World} {b : Nat} {U : List (Rat × Rat)} (h : MetM w b U) (p : Rat × Rat) (h1 : Dg 9 p.1) (h2 : Dg 9 p.2) (hn : p ∉ U) :
    (Instr.lookup 202 (.map (some b)) (ptV p) false).run Tryz.prog w = .ok (.bool false) w := by
  obtain ⟨kl, hk⟩ := MetM.key h1 h2
  have := SetG.look h KPt Tryz.underlying202 ptV_inj (Tryz.zeroValue4 w) (plainElem_bool Tryz.underlying4 _) p hk
  rwa [if_neg hn] at this

def MR (pts : List (Rat × Rat)) (w W0 : World) (v32 : Value) (wr : World) : Prop :=
  ∃ (i : Nat) (U : List (Rat × Rat)), i ≤ pts.length ∧ v32 = .int .i64 i ∧ Hid (∀ p, p ∈ U ↔ p ∈ pts.take i) ∧ U.length ≤ i ∧ MetM wr (w.heap.size + 1) U ∧ Ext W0 wr

set_option maxRecDepth 100000 in
set_option maxHeartbeats 2000000 in
theorem check_ok (N D : Nat) (pts : List (Rat × Rat)) (tris : List Tri) (cyc : List Int) (hM : MeshOk N D pts tris cyc) (pb po pc tb tO tc : Nat) (w : World) (g : Glob w) (hI : MeshIn w pb po tb tO pts tris) :
    Calls Tryz.prog 72 #[mV pb po pc tb tO tc pts tris] w (Ret (.int .i64 0) w) := by
  have HM := Lib.hid hM
  have HI := Lib.hid hI
  have G := Lib.hid g
  have hmm := @run_makeMap Tryz.prog
  have hpl := hM.plen
  have htl := hM.tlen
  have ht0 : ((tris.length : Int) == 0) = false := beq_false_of_ne (by have := hM.tne; omega)
  clear hM hI g
  unfold mV
  obtain ⟨W0, hW0⟩ : ∃ W0, W0 = w.alloc (.cells #[.slice (some ⟨pb, po, none⟩) pts.length pc, .slice (some ⟨tb, tO, none⟩) tris.length tc] 37) := ⟨_, rfl⟩
  have X0 : Ext w W0 := by rw [hW0]; exact (Ext.refl w).alloc _
  have hs0 : W0.heap.size = w.heap.size + 1 := by rw [hW0]; simp
  have b0 : W0.cell? ⟨w.heap.size, 0, none⟩ = some (.slice (some ⟨pb, po, none⟩) pts.length pc) := by rw [hW0]; simp [go_sem]
  have b1 : W0.cell? ⟨w.heap.size, 1, none⟩ = some (.slice (some ⟨tb, tO, none⟩) tris.length tc) := by rw [hW0]; simp [go_sem]
  go_enter Tryz.func72, Tryz.ntmps72
  go_wp2_with fail
  rw [← hW0]
  have hm0 : MetM (W0.alloc (.map #[] 0)) (w.heap.size + 1) [] := by rw [← hs0]; exact SetG.made _ _ _ _ _ _
  have X1 := (Ext.refl W0).alloc (.map #[] 0)
  clear hW0
  go_loopw [32] (MR pts w W0) (fun p _ => pts.length - (intOf p).toNat)
  case atStart => exact ⟨0, [], by omega, rfl, Lib.hid (by simp), by simp, hm0, X1⟩
  case round =>
    obtain ⟨i, U, hi, rfl, hU, hUl, hmet, X2⟩ := hrel
    have c0 := X2.cell b0
    have c1 := X2.cell b1
    have hsz := X2.size
    by_cases hlt : i < pts.length
    · obtain ⟨d0, d1⟩ := (HI.out.p.ext (X0.trans X2)) i hlt
      have hgp := HM.out.gp pts[i] (List.getElem_mem _)
      have hf := HM.out.fine.n
      have g1 : Dg 9 pts[i].1 := hgp.1.dg (by omega) hf.2
      have g2 : Dg 9 pts[i].2 := hgp.2.dg (by omega) hf.2
      have hno : pts[i] ∉ U := by
        rw [hU.out]
        intro hin
        obtain ⟨j, hj, e⟩ := List.mem_iff_getElem.1 hin
        rw [List.getElem_take] at e
        rw [List.length_take] at hj
        have := (List.getElem_inj HM.out.pnd).1 e
        omega
      have HU1 := Lib.hid (show ∀ p, p ∈ insG U pts[i] ↔ p ∈ pts.take (i + 1) from fun p => by
        rw [mem_insG, List.take_succ_eq_append_getElem hlt, List.mem_append, List.mem_singleton, hU.out, or_comm])
      have hl1 := insG_len U pts[i]
      have hNO := Lib.hid hno
      clear hgp hf hno
      generalize pts[i] = p at *
      have X3 := X2.alloc (.cells #[.string (tQ p.1), .string (tQ p.2)] 91)
      have hmet3 := SetG.alloc hmet (.cells #[.string (tQ p.1), .string (tQ p.2)] 91)
      have HCP := Lib.hid (fun W (X : Ext W0 W) => checkPoint_ok p W (G.out.ext (X0.trans X)) g1 g2)
      unfold ptV at HCP
      go_wp2_with fail
      refine (HCP.out _ X3).mono ?_
      rintro e w3 ⟨rfl, X4⟩
      have hmet4 := SetG.ext hmet3 X4
      have e0 : w3.cell? ⟨wr.heap.size, 0, none⟩ = some (.string (tQ p.1)) := X4.cell (by simp [go_sem])
      have e1 : w3.cell? ⟨wr.heap.size, 1, none⟩ = some (.string (tQ p.2)) := X4.cell (by simp [go_sem])
      have hlk := MetM.look' hmet4 p g1 g2 hNO.out
      obtain ⟨w4, hup, hmet5, hg5⟩ := MetM.add' hmet4 (by omega) p g1 g2
      have X5 := X3.trans X4
      have X6 : Ext W0 w4 := Below.grown X5 hg5 X5.size (fun k e => by cases e; omega)
      unfold ptV at hlk hup
      clear X4
      go_wp2_with fail
      exact ⟨⟨i + 1, _, hlt, by go_num, HU1, by omega, hmet5, X6⟩, by simp only [intOf]; omega⟩
    · have : i = pts.length := by omega
      subst this
      clear hU hUl hmet hmm hm0
      go_wp2_with fail
      go_loopw [48] (fun p wq => ∃ k : Nat, k ≤ tris.length ∧ p = .int .i64 k ∧ Ext W0 wq) (fun p _ => tris.length - (intOf p).toNat)
      case atStart => exact ⟨0, by omega, rfl, X2⟩
      case round =>
        obtain ⟨k, hk, rfl, X3⟩ := hrel
        have c0 := X3.cell b0
        have c1 := X3.cell b1
        have hsz := X3.size
        by_cases hkt : k < tris.length
        · obtain ⟨d0, d1, d2⟩ := (HI.out.t.ext (X0.trans X3)) k hkt
          have hmem := List.getElem_mem hkt
          have q1 := HM.out.ix tris[k] hmem tris[k].1 (by simp [triIdx])
          have q2 := HM.out.ix tris[k] hmem tris[k].2.1 (by simp [triIdx])
          have q3 := HM.out.ix tris[k] hmem tris[k].2.2 (by simp [triIdx])
          have htn := HM.out.turn tris[k] hmem
          obtain ⟨A, hA⟩ : ∃ A : Nat, tris[k].1 = A := ⟨_, (Int.toNat_of_nonneg q1.1).symm⟩
          obtain ⟨B, hB⟩ : ∃ B : Nat, tris[k].2.1 = B := ⟨_, (Int.toNat_of_nonneg q2.1).symm⟩
          obtain ⟨C, hC⟩ : ∃ C : Nat, tris[k].2.2 = C := ⟨_, (Int.toNat_of_nonneg q3.1).symm⟩
          rw [hA] at d0 q1
          rw [hB] at d1 q2
          rw [hC] at d2 q3
          rw [hA, hB, hC, Int.toNat_natCast, Int.toNat_natCast, Int.toNat_natCast] at htn
          have rA : A < pts.length := by omega
          have rB : B < pts.length := by omega
          have rC : C < pts.length := by omega
          rw [List.getD_eq_getElem?_getD, List.getD_eq_getElem?_getD, List.getD_eq_getElem?_getD, List.getElem?_eq_getElem rA, List.getElem?_eq_getElem rB, List.getElem?_eq_getElem rC, Option.getD_some, Option.getD_some, Option.getD_some] at htn
          have HX : ∀ W, Ext wr W → MeshIn W pb po tb tO pts tris := fun W X => HI.out.ext ((X0.trans X3).trans X)
          have gA := HM.out.gp pts[A] (List.getElem_mem _)
          have gB := HM.out.gp pts[B] (List.getElem_mem _)
          have gC := HM.out.gp pts[C] (List.getElem_mem _)
          have eA := HI.out.p A rA
          have eB := HI.out.p B rB
          have eC := HI.out.p C rC
          clear hA hB hC hmem q1 q2 q3 HX
          generalize pts[A] = pA at *
          generalize pts[B] = pB at *
          generalize pts[C] = pC at *
          have hsg : sgnQ (arQ pA pB pC) = 1 := sgnQ_pos (by intro e; rw [e] at htn; exact absurd htn (by decide)) (by grind)
          have HT := Lib.hid (fun W (X : Ext w W) => turn_calls N D HM.out.fine pA pB pC W (G.out.ext X) gA gB gC)
          rw [hsg] at HT
          have hwl : w.heap.size < wr.heap.size := by omega
          have i1 : (A : Int) < pts.length := by omega
          have i2 : (B : Int) < pts.length := by omega
          have i3 : (C : Int) < pts.length := by omega
          have iA : ¬ (A : Int) < 0 := by omega
          have iB : ¬ (B : Int) < 0 := by omega
          have iC : ¬ (C : Int) < 0 := by omega
          clear hsg htn gA gB gC
          unfold ptV at HT
          go_wp2_with fail
          go_loopw [53] (fun p wq => ∃ j : Nat, j ≤ 3 ∧ p = .int .i64 j ∧ wq = wr.alloc (.cells #[.int .i64 A, .int .i64 B, .int .i64 C] 121)) (fun p _ => 3 - (intOf p).toNat)
          case atStart => exact ⟨0, by omega, rfl, rfl⟩
          case round =>
            obtain ⟨j, hj, rfl, rfl⟩ := hrel
            rcases (show j = 0 ∨ j = 1 ∨ j = 2 ∨ j = 3 by omega) with rfl | rfl | rfl | rfl
            · go_wp2_with fail
              exact ⟨⟨1, by omega, rfl, trivial⟩, by simp [intOf]⟩
            · go_wp2_with fail
              exact ⟨⟨2, by omega, rfl, trivial⟩, by simp [intOf]⟩
            · go_wp2_with fail
              exact ⟨⟨3, by omega, rfl, trivial⟩, by simp [intOf]⟩
            · go_wp2_with fail
              refine wp_region_still_tail 18 (by kernel_rfl) (by kernel_rfl) ?_
              simp only [List.take_succ_cons, List.take_zero, List.drop_succ_cons, List.drop_zero]
              change wpStill _ _ (World.drew (wr.alloc (.cells #[.int .i64 A, .int .i64 B, .int .i64 C] 121))) (fun a' => wpList _ _ _ _ a' (World.drew (wr.alloc (.cells #[.int .i64 A, .int .i64 B, .int .i64 C] 121)))) _ _
              have X4 : Ext wr (World.drew (wr.alloc (.cells #[.int .i64 A, .int .i64 B, .int .i64 C] 121))) := ((Ext.refl wr).alloc _).drew
              have XW := (X0.trans X3).trans X4
              have m0 := X4.cell c0
              have t0 : (World.drew (wr.alloc (.cells #[.int .i64 A, .int .i64 B, .int .i64 C] 121))).cell? ⟨wr.heap.size, 0, none⟩ = some (.int .i64 A) := by simp [go_sem]
              have t1 : (World.drew (wr.alloc (.cells #[.int .i64 A, .int .i64 B, .int .i64 C] 121))).cell? ⟨wr.heap.size, 1, none⟩ = some (.int .i64 B) := by simp [go_sem]
              have t2 : (World.drew (wr.alloc (.cells #[.int .i64 A, .int .i64 B, .int .i64 C] 121))).cell? ⟨wr.heap.size, 2, none⟩ = some (.int .i64 C) := by simp [go_sem]
              have n0 := XW.cell eA.1
              have n1 := XW.cell eA.2
              have n2 := XW.cell eB.1
              have n3 := XW.cell eB.2
              have n4 := XW.cell eC.1
              have n5 := XW.cell eC.2
              generalize World.drew (wr.alloc (.cells #[.int .i64 A, .int .i64 B, .int .i64 C] 121)) = wd at *
              clear c0 c1 eA eB eC d0 d1 d2
              repeat still_step
              refine wpStill_nil ?_
              go_wp2_with fail
              refine (HT.out wd XW).mono ?_
              rintro e w5 ⟨rfl, X5⟩
              go_wp2_with fail
              exact ⟨⟨k + 1, hkt, by go_num, (X3.trans X4).trans X5⟩, by simp only [intOf]; omega⟩
        · have : k = tris.length := by omega
          subst this
          go_wp2_with fail
          refine (whole_ok N D pts tris cyc HM.out pb po pc tb tO tc wr (G.out.ext (X0.trans X3)) (HI.out.ext (X0.trans X3))).mono ?_
          rintro e w4 ⟨rfl, X4⟩
          go_wp2_with fail
          go_ret
          exact ⟨rfl, (X0.trans X3).trans X4⟩
end Go.Proofs.YtbiffaciinppiaaGreatDoor
end
