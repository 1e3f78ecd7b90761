/- mesh.sides and mesh.owners: the map of the sides of a mesh. -/
import Derived.Test.YtbiffaciinppiaaGreatDoorVa06
import Derived.Maps.OwnIn
set_option linter.unusedVariables false
set_option linter.unusedSimpArgs false
namespace Go.Proofs.YtbiffaciinppiaaGreatDoor
open Go.RowKit Go.Shelf
attribute [local go_sem] Oper.semAt_some

theorem sides_calls (n : Nat) (a b c : Int) (w : World) :
    CallsIn Fence.wide n Tryz.prog 213 #[.agg #[.int .i64 a, .int .i64 b, .int .i64 c]] w fun e w' => e = .returned (.func (.func 232) #[] #[.pointer (some ⟨w.heap.size, 0, none⟩)]) ∧ w' = w.alloc (.cells #[.int .i64 a, .int .i64 b, .int .i64 c] 121) := by
  refine callsIn_wide.2 ?_
  go_enter Tryz.func213, Tryz.ntmps213
  go_wp2
  go_ret
  exact ⟨rfl, rfl⟩

theorem sides_stops (n : Nat) (Bn : Nat) (a b c : Int) (ha : I64 a) (hb0 : I64 b) (hc : I64 c) (w : World) (hBn0 : Bn < w.heap.size)
    (c0 : w.cell? ⟨Bn, 0, none⟩ = some (.int .i64 a)) (c1 : w.cell? ⟨Bn, 1, none⟩ = some (.int .i64 b)) (c2 : w.cell? ⟨Bn, 2, none⟩ = some (.int .i64 c)) :
    SeqStopsK Fence.wide n Tryz.prog 232 #[.pointer (some ⟨Bn, 0, none⟩)] encSd (KB Bn) (fun ys => ys = sidesOf a b c ha hb0 hc) (fun pre => pre <+: sidesOf a b c ha hb0 hc) 3 w := fun l J Jx W hW hJ _ hY h0 =>
  sides1_in n l Bn a b c ha hb0 hc J Jx hY W ((Below.cell hW (p := ⟨Bn, 0, none⟩) (by show Bn < _; omega)).trans c0) ((Below.cell hW (p := ⟨Bn, 1, none⟩) (by show Bn < _; omega)).trans c1) ((Below.cell hW (p := ⟨Bn, 2, none⟩) (by show Bn < _; omega)).trans c2) h0
    (fun pre W' h => hJ pre W' W'.drew none h ⟨rfl, rfl, rfl, Nat.le_refl _, fun _ _ _ => rfl⟩ (fun r e => by cases e))

/-- The marks of the loops that are over. -/
def markOf (D : Nat) : Deferred := { target := .collected D, args := #[] }
def Marks (B : Nat) (ds : List Nat) (W : World) : Prop := ds.Nodup ∧ ∀ D ∈ ds, B ≤ D ∧ W.heap[D]? = some (.deferred (some []))

theorem belowPut {B : Nat} (W : World) (D : Nat) (hB : B ≤ D) {o : Obj} (hK : W.heap[D]? = some o) (o' : Obj := .deferred none) : Below B W (W.putObj D o') := by
  have hg := grownBy_putObj' W D o'
  exact ⟨hg.os, hg.tape, hg.output, hg.size, fun k hk => by
    by_cases h : k < W.heap.size
    · exact hg.block k h (fun e => by have := Option.some.inj e; omega)
    · have := (Array.getElem?_eq_some_iff.1 hK).1; omega⟩
theorem leaves_marks {n : Nat} {fn : Func} {tmps : Array Value} {R : Ending → World → Prop} (B : Nat) : ∀ (ds : List Nat) (W : World), Marks B ds W → (∀ W', Below B W W' → LeavesInM Fence.wide n Tryz.prog fn tmps R [] .returning W') →
    LeavesInM Fence.wide n Tryz.prog fn tmps R (ds.map markOf) .returning W := by
  intro ds
  induction ds with
  | nil => intro W _ h; exact h W (Below.refl _ _)
  | cons D ds ih =>
    intro W hm h
    obtain ⟨hnd, hall⟩ := hm
    obtain ⟨hB, hK⟩ := hall D (by simp)
    have hg := grownBy_putObj' W D (.deferred none)
    refine ⟨by simp, .inl ⟨D, _, rfl, run_takeDeferred hK, ih _ ⟨(List.nodup_cons.1 hnd).2, fun E hE => ⟨(hall E (by simp [hE])).1, ?_⟩⟩ (fun W' hb => h W' (Below.trans (belowPut W D hB hK) hb))⟩⟩
    exact (hg.block E (Array.getElem?_eq_some_iff.1 (hall E (by simp [hE])).2).1 (fun e => by have := Option.some.inj e; subst this; exact (List.nodup_cons.1 hnd).1 hE)).trans (hall E (by simp [hE])).2

/-- A side as a key. -/
def sk (p : Int × Int) : Value := .agg #[.int .i64 p.1, .int .i64 p.2]
theorem sk_inj {p q : Int × Int} (h : sk p = sk q) : p = q := by
  simp only [sk, Value.agg.injEq] at h
  have h1 : (#[Value.int .i64 p.1, Value.int .i64 p.2]).toList = (#[Value.int .i64 q.1, Value.int .i64 q.2]).toList := by rw [h]
  simp at h1
  exact Prod.ext h1.1 h1.2
/-- f is a map whose keys are the sides S. -/
def SidesF (S : List (Int × Int)) (f : Value → Option Value) : Prop :=
  (∀ x, (∀ p ∈ S, x ≠ sk p) → f x = none) ∧ ∀ p ∈ S, ∃ i : Int, f (sk p) = some (.int .i64 i)
theorem SidesF.nil : SidesF [] (fun _ => none) := ⟨fun _ _ => rfl, fun p h => by cases h⟩
theorem SidesF.snoc {S : List (Int × Int)} {f : Value → Option Value} (h : SidesF S f) (p : Int × Int) (i : Int) : SidesF (S ++ [p]) (upd f (sk p) (.int .i64 i)) := by
  refine ⟨fun x hx => ?_, fun q hq => ?_⟩
  · rw [upd_other (hx p (by simp))]; exact h.1 x (fun q hq => hx q (by simp [hq]))
  · by_cases e : q = p
    · subst e; exact ⟨i, upd_same _ _ _⟩
    · rw [upd_other (fun e2 => e (sk_inj e2))]
      rcases List.mem_append.1 hq with h1 | h1
      · exact h.2 q h1
      · simp at h1; exact absurd h1 e

/-- What holds between two rounds. -/
structure OI (w : World) (S : List (Int × Int)) (W : World) : Prop where
  r1 : Boxed W (w.heap.size + 1) 246 (.map none)
  r2 : Boxed W (w.heap.size + 2) 4 (.bool false)
  out : Boxed W (w.heap.size + 4) 246 (.map (some (w.heap.size + 3)))
  map : ∃ f, MapF Tryz.prog 158 3 W (w.heap.size + 3) S.length f ∧ SidesF S f
  ext : Ext w W
theorem OI.kept {w W W' : World} {S : List (Int × Int)} {row : Option Nat} (h : OI w S W) (hg : W.grownBy W' row) (hr : ∀ r, row = some r → w.heap.size + 5 ≤ r) : OI w S W' := by
  have ne : ∀ k, k < w.heap.size + 5 → some k ≠ row := fun k hk e => by have := hr k e.symm; omega
  obtain ⟨f, hm, hf⟩ := h.map
  exact ⟨h.r1.kept hg (ne _ (by omega)), h.r2.kept hg (ne _ (by omega)), h.out.kept hg (ne _ (by omega)), ⟨f, hm.kept hg (ne _ (by omega)), hf⟩,
    Below.grown h.ext hg h.ext.size (fun k e => by have := hr k e; omega)⟩
theorem OI.start (w : World) (o : Obj) : OI w [] (((((w.alloc o).alloc (.cells #[.map none] 246)).alloc (.cells #[.bool false] 4)).alloc (.map #[] 0)).alloc (.cells #[.map (some (w.heap.size + 1 + 1 + 1))] 246)) := by
  refine ⟨?_, ?_, ?_, ⟨fun _ => none, ?_, SidesF.nil⟩, (((((Ext.refl w).alloc _).alloc _).alloc _).alloc _).alloc _⟩
  · have := (((Boxed.new (w.alloc o) 246 (.map none)).alloc (.cells #[.bool false] 4)).alloc (.map #[] 0)).alloc (.cells #[.map (some (w.heap.size + 1 + 1 + 1))] 246)
    simpa using this
  · have := ((Boxed.new ((w.alloc o).alloc (.cells #[.map none] 246)) 4 (.bool false)).alloc (.map #[] 0)).alloc (.cells #[.map (some (w.heap.size + 1 + 1 + 1))] 246)
    simpa using this
  · have := Boxed.new ((((w.alloc o).alloc (.cells #[.map none] 246)).alloc (.cells #[.bool false] 4)).alloc (.map #[] 0)) 246 (.map (some (w.heap.size + 1 + 1 + 1)))
    simpa using this
  · have := (MapF.made (((w.alloc o).alloc (.cells #[.map none] 246)).alloc (.cells #[.bool false] 4)) Tryz.prog 158 3).alloc (.cells #[.map (some (w.heap.size + 1 + 1 + 1))] 246)
    simpa using this
theorem OI.size {w W : World} {S : List (Int × Int)} (h : OI w S W) : w.heap.size + 5 ≤ W.heap.size := by have := h.out.lt; omega
theorem Marks.kept {B : Nat} {ds : List Nat} {W W' : World} {row : Option Nat} (h : Marks B ds W) (hg : W.grownBy W' row) (hr : ∀ r, row = some r → r ∉ ds) : Marks B ds W' :=
  ⟨h.1, fun D hD => ⟨(h.2 D hD).1, (hg.block D (Array.getElem?_eq_some_iff.1 (h.2 D hD).2).1 (fun e => hr D e.symm hD)).trans (h.2 D hD).2⟩⟩
theorem Marks.lt {B : Nat} {ds : List Nat} {W : World} (h : Marks B ds W) {D : Nat} (hD : D ∈ ds) : D < W.heap.size := (Array.getElem?_eq_some_iff.1 (h.2 D hD).2).1

/-- The sides of triangles. -/
abbrev Tri := Int × Int × Int
def triSides (t : Tri) : List (Int × Int) := [(t.1, t.2.1), (t.2.1, t.2.2), (t.2.2, t.1)]
def allSides (l : List Tri) : List (Int × Int) := l.flatMap triSides
theorem allSides_len (l : List Tri) : (allSides l).length = 3 * l.length := by
  induction l with
  | nil => rfl
  | cons t l ih => simp only [allSides, List.flatMap_cons, List.length_append] at ih ⊢; rw [ih]; simp [triSides]; omega
theorem allSides_take (l : List Tri) (i : Nat) (h : i < l.length) : allSides (l.take (i + 1)) = allSides (l.take i) ++ triSides l[i] := by
  unfold allSides; rw [List.take_succ_eq_append_getElem h, List.flatMap_append]; simp
/-- The triangles of a mesh in memory. -/
def TrisIn (w : World) (b o : Nat) (l : List Tri) : Prop := ∀ i (h : i < l.length), w.cell? ⟨b, o + i * 3, none⟩ = some (.int .i64 l[i].1) ∧ w.cell? ⟨b, o + i * 3 + 1, none⟩ = some (.int .i64 l[i].2.1) ∧ w.cell? ⟨b, o + i * 3 + 2, none⟩ = some (.int .i64 l[i].2.2)
theorem TrisIn.ext {w W : World} {b o : Nat} {l : List Tri} (h : TrisIn w b o l) (hx : Ext w W) : TrisIn W b o l := fun i hi => ⟨hx.cell (h i hi).1, hx.cell (h i hi).2.1, hx.cell (h i hi).2.2⟩

/-- The box of a loop's side. -/
def BoxP (W : World) (B : Nat) (x : Sd) : Prop := W.heap[B]? = some (.cells #[.int .i64 x.1.2.1, .int .i64 x.1.2.2] 158 (0, 0))
theorem BoxP.kept {W W' : World} {B : Nat} {x : Sd} {row : Option Nat} (h : BoxP W B x) (hg : W.grownBy W' row) (hr : ∀ r, row = some r → ∃ o : Obj, W.heap[r]? = some o ∧ o.isCells = false) : BoxP W' B x :=
  (hg.block B (Array.getElem?_eq_some_iff.1 h).1 (fun e => by obtain ⟨o, h1, h2⟩ := hr B e.symm; rw [show W.heap[B]? = _ from h] at h1; cases h1; cases h2)).trans h
theorem BoxP.c0 {W : World} {B : Nat} {x : Sd} (h : BoxP W B x) : W.cell? ⟨B, 0, none⟩ = some (.int .i64 x.1.2.1) := by simp [World.cell?, show W.heap[B]? = _ from h]
theorem BoxP.c1 {W : World} {B : Nat} {x : Sd} (h : BoxP W B x) : W.cell? ⟨B, 1, none⟩ = some (.int .i64 x.1.2.2) := by simp [World.cell?, show W.heap[B]? = _ from h]

def OwnersEnd (l : List Tri) (w : World) (e : Ending) (w' : World) : Prop :=
  ∃ b f, e = .returned (.tuple #[.map (some b), .bool true]) ∧ w.heap.size ≤ b ∧ MapF Tryz.prog 158 3 w' b (allSides l).length f ∧ SidesF (allSides l) f ∧ Ext w w'

set_option maxRecDepth 100000 in
set_option maxHeartbeats 1000000 in
theorem owners_ok (pv : Value) (_hp1 : pv.cells = #[pv]) (tb to tc : Nat) (l : List Tri) (w : World) (hlen : l.length ≤ 1000000) (ht : TrisIn w tb to l) (hI : ∀ t ∈ l, I64 t.1 ∧ I64 t.2.1 ∧ I64 t.2.2) (hnd : (allSides l).Nodup) :
    CallsIn Fence.wide 5 Tryz.prog 178 #[.agg #[pv, .slice (some ⟨tb, to, none⟩) l.length tc]] w (OwnersEnd l w) := by
  have HT := Lib.hid ht
  have HI := Lib.hid hI
  have HN := Lib.hid hnd
  clear ht hI hnd
  refine callsIn_of_wp_marks Tryz.func178 rfl trivial ?_ rfl
  simp only [Tryz.ntmps178, List.size_toArray, List.length_cons, List.length_nil, Nat.reduceAdd, Nat.reduceSub, Array.replicate_succ, Array.replicate_zero, List.push_toArray, List.append_toArray, List.nil_append, List.cons_append]
  have hmm := @run_makeMap Tryz.prog
  gi_wp2
  refine wpIn_loop (fun a wr => ∃ (i : Nat) (u5 u6 u7 u8 u9 u10 u12 u16 u17 u18 u19 u20 u21 u22 u23 u24 u25 u26 u27 u28 u29 u30 u31 u32 u33 u34 u35 : Value) (ds : List Nat),
      a = { tmps := #[.agg #[pv, .slice (some ⟨tb, to, none⟩) l.length tc], .pointer (some ⟨w.heap.size, 0, none⟩), .pointer (some ⟨w.heap.size + 1, 0, none⟩), .pointer (some ⟨w.heap.size + 1 + 1, 0, none⟩), .pointer (some ⟨w.heap.size + 1 + 1 + 1 + 1, 0, none⟩), u5, u6, u7, u8, u9, u10, .map (some (w.heap.size + 1 + 1 + 1)), u12, .slice (some ⟨tb, to, none⟩) l.length tc, .int .i64 l.length, .int .i64 i, u16, u17, u18, u19, u20, u21, u22, u23, u24, u25, u26, u27, u28, u29, u30, u31, u32, u33, u34, u35], defers := ds.map markOf } ∧
      i ≤ l.length ∧ OI w (allSides (l.take i)) wr ∧ Marks (w.heap.size + 5) ds wr) (fun a _ => l.length - (intOf (a.tmps.getD 15 undef)).toNat) ?_ ?_
  · refine ⟨0, _, _, _, _, _, _, _, _, _, _, _, _, _, _, _, _, _, _, _, _, _, _, _, _, _, _, _, [], rfl, by omega, ?_, ⟨List.nodup_nil, fun D h => by cases h⟩⟩
    exact OI.start w _
  · rintro a wr ⟨i, u5, u6, u7, u8, u9, u10, u12, u16, u17, u18, u19, u20, u21, u22, u23, u24, u25, u26, u27, u28, u29, u30, u31, u32, u33, u34, u35, ds, rfl, hi, hoi, hmk⟩
    by_cases hlt : i < l.length
    · obtain ⟨d0, d1, d2⟩ := (HT.out.ext hoi.ext) i hlt
      have HS := Lib.hid (allSides_take l i hlt)
      have hIi := HI.out l[i] (List.getElem_mem _)
      obtain ⟨A, hA⟩ : ∃ A, A = l[i].1 := ⟨_, rfl⟩
      obtain ⟨B, hB⟩ : ∃ B, B = l[i].2.1 := ⟨_, rfl⟩
      obtain ⟨C, hC⟩ : ∃ C, C = l[i].2.2 := ⟨_, rfl⟩
      have hts := Lib.hid (show triSides l[i] = [(A, B), (B, C), (C, A)] by unfold triSides; rw [hA, hB, hC])
      rw [← hA] at d0 hIi
      rw [← hB] at d1 hIi
      rw [← hC] at d2 hIi
      have HIi := Lib.hid hIi
      clear hA hB hC hIi
      have hsz := hoi.size
      have hfn : Fence.wide.fn 213 := trivial
      gi_wp2_with (gi_at_call 213; refine (sides_calls _ _ _ _ _).mono ?_; rintro e w' ⟨rfl, rfl⟩)
      have bI := ((Boxed.new wr 3 (.int .i64 i)).alloc (.cells #[.int .i64 A, .int .i64 B, .int .i64 C] 121)).alloc (.cells #[.int .i64 A, .int .i64 B, .int .i64 C] 121)
      have g1 := ((World.grownBy_alloc wr (.cells #[.int .i64 i] 3) none).trans (World.grownBy_alloc _ (.cells #[.int .i64 A, .int .i64 B, .int .i64 C] 121) none)).trans (World.grownBy_alloc _ (.cells #[.int .i64 A, .int .i64 B, .int .i64 C] 121) none)
      have hoi0 := hoi.kept g1 (fun r e => by cases e)
      have hmk0 := hmk.kept g1 (fun r e => by cases e)
      have hsz0 : (((wr.alloc (.cells #[.int .i64 i] 3)).alloc (.cells #[.int .i64 A, .int .i64 B, .int .i64 C] 121)).alloc (.cells #[.int .i64 A, .int .i64 B, .int .i64 C] 121)).heap.size = wr.heap.size + 3 := by simp
      have hlt0 : ∀ D ∈ ds, D < wr.heap.size := fun D hD => hmk.lt hD
      obtain ⟨W0, hW0⟩ : ∃ W0, ((wr.alloc (.cells #[.int .i64 i] 3)).alloc (.cells #[.int .i64 A, .int .i64 B, .int .i64 C] 121)).alloc (.cells #[.int .i64 A, .int .i64 B, .int .i64 C] 121) = W0 := ⟨_, rfl⟩
      have e0 : W0.cell? ⟨wr.heap.size + 1 + 1, 0, none⟩ = some (.int .i64 A) := by rw [← hW0]; simp [go_sem]
      have e1 : W0.cell? ⟨wr.heap.size + 1 + 1, 1, none⟩ = some (.int .i64 B) := by rw [← hW0]; simp [go_sem]
      have e2 : W0.cell? ⟨wr.heap.size + 1 + 1, 2, none⟩ = some (.int .i64 C) := by rw [← hW0]; simp [go_sem]
      rw [hW0] at bI hoi0 hmk0 hsz0 ⊢
      clear hW0 g1
      refine wpIn_rangeFunc_ownH rfl (by omega) (gf := 232) (lb := #[.pointer (some ⟨wr.heap.size + 1 + 1, 0, none⟩)]) rfl trivial (enters_of Tryz.func232 (by kernel_rfl) rfl)
        (sides_stops 4 (wr.heap.size + 1 + 1) A B C HIi.out.1 HIi.out.2.1 HIi.out.2.2 W0 (by omega) e0 e1 e2) (fun h k => h.trans k)
        (fun W l o o' hl ho hc hw => by
          intro j
          have hg := grownBy_putObj' W l o'
          have hlt3 := (Array.getElem?_eq_some_iff.1 ho).1
          exact World.cell?_of_block (w := W) (a := ⟨wr.heap.size + 1 + 1, j, none⟩) (hg.block (wr.heap.size + 1 + 1) (by omega) (fun e => by have := Option.some.inj e; omega))) (Below.refl _ _) (fun _ => rfl)
        (fun pre W => (OI w (allSides (l.take i) ++ pre.map (·.1.2)) W ∧ Marks (w.heap.size + 5) ds W) ∧ (Boxed W wr.heap.size 3 (.int .i64 i) ∧ W0.heap.size ≤ W.heap.size))
        (fun _ pre _ => ¬ (allSides (l.take i) ++ pre.map (·.1.2)).Nodup)
        (fun s X Y row h hg hr => ⟨⟨h.1.1.kept hg (fun r e => by have := (hr r e).1; omega), h.1.2.kept hg (fun r e hD => by have := (hr r e).1; have := hlt0 r hD; omega)⟩, h.2.1.kept hg (fun e => by have := (hr _ e.symm).1; omega), Nat.le_trans h.2.2 hg.size⟩)
        (fun _ _ _ _ _ hs _ _ => hs)
        ⟨⟨by simpa using hoi0, hmk0⟩, bI, Nat.le_refl _⟩
        (fun x a' W => ∃ Bx, W0.heap.size ≤ Bx ∧ BoxP W Bx x ∧ a' = { tmps := #[.agg #[pv, .slice (some ⟨tb, to, none⟩) l.length tc], .pointer (some ⟨w.heap.size, 0, none⟩), .pointer (some ⟨w.heap.size + 1, 0, none⟩), .pointer (some ⟨w.heap.size + 1 + 1, 0, none⟩), .pointer (some ⟨w.heap.size + 1 + 1 + 1 + 1, 0, none⟩), .pointer (some ⟨wr.heap.size, 0, none⟩), .pointer (some ⟨wr.heap.size + 1, 0, none⟩), u7, .pointer (some ⟨Bx, 0, none⟩), u9, u10, .map (some (w.heap.size + 1 + 1 + 1)), u12, .slice (some ⟨tb, to, none⟩) l.length tc, .int .i64 l.length, .int .i64 i, .bool true, .int .i64 i, .pointer (some ⟨tb, to + i * 3, none⟩), .agg #[.int .i64 A, .int .i64 B, .int .i64 C], .agg #[.int .i64 A, .int .i64 B, .int .i64 C], .func (.func 232) #[] #[.pointer (some ⟨wr.heap.size + 1 + 1, 0, none⟩)], .int .i64 x.1.1, sk x.1.2, u24, u25, u26, u27, u28, u29, u30, u31, u32, u33, u34, u35], defers := [] })
        (fun x a' s X Y row h hg hr => by
          obtain ⟨Bx, h1, h2, h3⟩ := h
          exact ⟨Bx, h1, h2.kept hg (fun r e => (hr r e).2), h3⟩)
        ?assign ?body ?done ?stop
      case assign =>
        rintro k pre x W K hi hK
        simp only [encSd]
        gi_wp2
        exact hK _ _ ((KeepsOthers.alloc _ _).from _) (fun j => Below.cell (p := ⟨wr.heap.size + 1 + 1, j, none⟩) (((Below.refl W.heap.size W).alloc (Nat.le_refl _) _)) (by show wr.heap.size + 1 + 1 < W.heap.size; have := hi.2.2; omega))
          ⟨⟨hi.1.1.kept (World.grownBy_alloc _ _ none) (fun r e => by cases e), hi.1.2.kept (World.grownBy_alloc _ _ none) (fun r e => by cases e)⟩, hi.2.1.alloc _, by have := hi.2.2; simp; omega⟩
          ⟨W.heap.size, hi.2.2, World.alloc_heap_new W _, rfl⟩
      case body =>
        rintro k pre x a' W hl ⟨r, hr⟩ hi ⟨Bx, hBx, bX, rfl⟩ hlt2
        obtain ⟨⟨hoi1, hmk1⟩, bI1, hs1⟩ := hi
        have q4 : W.cell? ⟨w.heap.size + 1 + 1 + 1 + 1, 0, none⟩ = some (.map (some (w.heap.size + 1 + 1 + 1))) := hoi1.out.cell
        have x0 := bX.c0
        have x1 := bX.c1
        have i0 := bI1.cell
        obtain ⟨f, hm, hf⟩ := hoi1.map
        obtain ⟨kl, hkl⟩ := key_pair x.2.1 x.2.2
        by_cases hp : x.1.2 ∈ allSides (l.take i) ++ pre.map (·.1.2)
        · obtain ⟨jj, hj⟩ := hf.2 _ hp
          have hlk := (hm.look_some KPair Tryz.underlying246 (Tryz.zeroValue3 W) (plainElem_int Tryz.underlying3 (by decide)) hkl hj).1
          have hlk' : (Instr.lookup 246 (.map (some (w.heap.size + 1 + 1 + 1))) (.agg #[.int .i64 x.1.2.1, .int .i64 x.1.2.2]) true).run Tryz.prog W = .ok (.tuple #[.int .i64 jj, .bool true]) W := hlk
          have r1 := hoi1.r1.cell
          have r1f := hoi1.r1.frozen
          have r2 : W.cell? ⟨w.heap.size + 1 + 1, 0, none⟩ = some (.bool false) := hoi1.r2.cell
          have r2f : W.frozen? ⟨w.heap.size + 1 + 1, 0, none⟩ = false := hoi1.r2.frozen
          clear hlk
          gi_wp2
          refine ⟨((KeepsOthers.setCell _ _ _).trans (KeepsOthers.setCell _ _ _)).from _, ?_⟩
          intro hnd
          rw [List.map_append, ← List.append_assoc] at hnd
          have := (List.nodup_append.1 hnd).2.2 x.1.2 hp x.1.2 (by simp)
          exact this rfl
        · have hno := hf.1 (sk x.1.2) (fun p hp2 e => hp (by rw [sk_inj e]; exact hp2))
          have hlk := (hm.look_none KPair Tryz.underlying246 (Tryz.zeroValue3 W) (plainElem_int Tryz.underlying3 (by decide)) hkl hno).1
          obtain ⟨w1, hup, hm1, hg1⟩ := hm.update KPair Tryz.underlying246 (val := .int .i64 i) (by rw [List.length_append, allSides_len, List.length_take, List.length_map]; unfold maxLen; omega) hkl (plainElem_int Tryz.underlying3 (I64.wf ⟨by omega, by omega⟩))
          have hlk' : (Instr.lookup 246 (.map (some (w.heap.size + 1 + 1 + 1))) (.agg #[.int .i64 x.1.2.1, .int .i64 x.1.2.2]) true).run Tryz.prog W = .ok (.tuple #[.int .i64 0, .bool false]) W := hlk
          have hup' : (Instr.mapUpdate 246 (.map (some (w.heap.size + 1 + 1 + 1))) (.agg #[.int .i64 x.1.2.1, .int .i64 x.1.2.2]) (.int .i64 i)).run Tryz.prog W = .ok () w1 := hup
          clear hlk hup
          gi_wp2
          refine ⟨KeepsFrom.of_grownBy hg1 (fun j e => by have := Option.some.inj e; omega), fun j => ?_, ⟨⟨?_, hmk1.kept hg1 (fun r e hD => by have := Option.some.inj e; have := (hmk1.2 _ hD).1; omega)⟩, bI1.kept hg1 (fun e => by have := Option.some.inj e; omega), Nat.le_trans hs1 hg1.size⟩⟩
          · exact World.cell?_of_block (w := W) (a := ⟨wr.heap.size + 1 + 1, j, none⟩) (hg1.block (wr.heap.size + 1 + 1) (by omega) (fun e => by have := Option.some.inj e; omega))
          · refine ⟨hoi1.r1.kept hg1 (fun e => by have := Option.some.inj e; omega), hoi1.r2.kept hg1 (fun e => by have := Option.some.inj e; omega), hoi1.out.kept hg1 (fun e => by have := Option.some.inj e; omega), ⟨upd f (sk x.1.2) (.int .i64 i), ?_, ?_⟩, Below.grown hoi1.ext hg1 hoi1.ext.size (fun k e => by have := Option.some.inj e; omega)⟩
            · rw [List.map_append, ← List.append_assoc, List.length_append]; exact hm1
            · rw [List.map_append, ← List.append_assoc]; exact hf.snoc _ _
      case done =>
        rintro D ys W hD rfl ⟨⟨hoi1, hmk1⟩, bI1, hs1⟩ hK
        gi_wp2
        refine ⟨⟨i + 1, _, _, _, _, _, _, _, _, _, _, _, _, _, _, _, _, _, _, _, _, _, _, _, _, _, _, _, D :: ds, rfl, by omega, ?_, ?_⟩, by simp [intOf]; omega⟩
        · rw [HS.out, hts.out]; exact hoi1
        · exact ⟨List.nodup_cons.2 ⟨fun h => by have := hlt0 D h; omega, hmk1.1⟩, fun E hE => by
            rcases List.mem_cons.1 hE with rfl | h
            · exact ⟨by omega, hK⟩
            · exact hmk1.2 E h⟩
      case stop =>
        rintro D c pre W hD ⟨suf, hsuf⟩ hIx hK
        exfalso
        refine hIx ?_
        have h1 : (allSides (l.take i) ++ (sidesOf A B C HIi.out.1 HIi.out.2.1 HIi.out.2.2).map (·.1.2)).Nodup := by
          have h2 : (allSides (l.take (i + 1))).Nodup := by
            have h3 := HN.out
            have h4 : allSides l = allSides (l.take (i + 1)) ++ allSides (l.drop (i + 1)) := by
              unfold allSides; rw [← List.flatMap_append, List.take_append_drop]
            rw [h4] at h3
            exact (List.nodup_append.1 h3).1
          rw [HS.out, hts.out] at h2
          exact h2
        rw [← hsuf, List.map_append, ← List.append_assoc] at h1
        exact (List.nodup_append.1 h1).1
    · obtain rfl : i = l.length := by omega
      rw [List.take_length] at hoi
      have q4 : wr.cell? ⟨w.heap.size + 1 + 1 + 1 + 1, 0, none⟩ = some (.map (some (w.heap.size + 1 + 1 + 1))) := hoi.out.cell
      have r1 := hoi.r1.cell
      have r1f := hoi.r1.frozen
      have r2 : wr.cell? ⟨w.heap.size + 1 + 1, 0, none⟩ = some (.bool false) := hoi.r2.cell
      have r2f : wr.frozen? ⟨w.heap.size + 1 + 1, 0, none⟩ = false := hoi.r2.frozen
      gi_wp2
      refine leaves_marks (w.heap.size + 5) ds _ ?_ ?_
      · exact (hmk.kept (grownBy_setCell' wr (w.heap.size + 1) _) (fun r e hD => by have := Option.some.inj e; have := (hmk.2 _ hD).1; omega)).kept (grownBy_setCell' _ (w.heap.size + 1 + 1) _) (fun r e hD => by have := Option.some.inj e; have := (hmk.2 _ hD).1; omega)
      · intro W' hb
        obtain ⟨f, hm, hf⟩ := hoi.map
        have b1 := (hoi.r1.set (.map (some (w.heap.size + 1 + 1 + 1))))
        have b2 := ((show Boxed wr (w.heap.size + 1 + 1) 4 (.bool false) from hoi.r2).kept (grownBy_setCell' wr (w.heap.size + 1) (.map (some (w.heap.size + 1 + 1 + 1)))) (fun e => by have := Option.some.inj e; omega)).set (.bool true)
        have b1' := b1.kept (grownBy_setCell' _ (w.heap.size + 1 + 1) (.bool true)) (fun e => by have := Option.some.inj e; omega)
        have k1 : W'.cell? ⟨w.heap.size + 1, 0, none⟩ = some (.map (some (w.heap.size + 1 + 1 + 1))) := (hb.cell (p := ⟨w.heap.size + 1, 0, none⟩) (by show w.heap.size + 1 < w.heap.size + 5; omega)).trans b1'.cell
        have k2 : W'.cell? ⟨w.heap.size + 1 + 1, 0, none⟩ = some (.bool true) := (hb.cell (p := ⟨w.heap.size + 1 + 1, 0, none⟩) (by show w.heap.size + 1 + 1 < w.heap.size + 5; omega)).trans b2.cell
        refine ⟨.tuple #[.map (some (w.heap.size + 1 + 1 + 1)), .bool true], by simp [results, Tryz.results178, go_sem, k1, k2], ?_⟩
        refine ⟨w.heap.size + 3, f, rfl, by omega, ?_, hf, ?_⟩
        · refine MapF.same (w := wr) hm ?_
          have hl := hm.lt
          rw [hb.block _ (by omega), (grownBy_setCell' _ (w.heap.size + 1 + 1) (.bool true)).block _ (by simpa using hl) (fun e => by have := Option.some.inj e; omega), (grownBy_setCell' wr (w.heap.size + 1) _).block _ hl (fun e => by have := Option.some.inj e; omega)]
        · have h1 : Ext w ((wr.setCell ⟨w.heap.size + 1, 0, none⟩ (.map (some (w.heap.size + 1 + 1 + 1)))).setCell ⟨w.heap.size + 1 + 1, 0, none⟩ (.bool true)) := (hoi.ext.setCell (by show w.heap.size ≤ w.heap.size + 1; omega) _).setCell (by show w.heap.size ≤ w.heap.size + 1 + 1; omega) _
          exact Below.trans (b := _) h1 (Below.mono hb (by omega))
end Go.Proofs.YtbiffaciinppiaaGreatDoor
