/- Rows of a column without greatest thicknesses: what they hold. No walk. klipperef02.Neg, klippelaw25.zeros and thickness (columns without greatest thicknesses). -/
import Derived.Test.YtbiffaciinppiaaGreatDoorVa25
import Derived.Test.YtbiffaciinppiaaGreatDoorVa27
set_option linter.unusedVariables false
set_option linter.unusedSimpArgs false
section
namespace Go.Proofs.YtbiffaciinppiaaGreatDoor
open Go.RowKit Go.Maps
attribute [local irreducible] tQ
set_option linter.unusedSimpArgs false

/-- A row of a linear program whose factors may have room behind them. -/
structure Rv where
  (q c : Nat) (G : Nat → Rat) (b : Rat)
def encV (n : Nat) (r : Rv) : List Value := [.slice (some ⟨r.q, 0, none⟩) n r.c, .string (tQ r.b)]
def RowC (G : Nat → Rat) (g n : Nat) (w : World) : Prop := ∃ cur, w.heap[g]? = some (.cells cur 54 (0, 0)) ∧ n ≤ cur.size ∧ ∀ j, j < n → cur[j]? = some (.string (tQ (G j)))
theorem RowOf.toC {G : Nat → Rat} {g n : Nat} {w : World} (h : RowOf G g n w) : RowC G g n w := by
  obtain ⟨cur, h1, h2, h3⟩ := h
  exact ⟨cur, h1, by omega, h3⟩
theorem RowC.cell {G : Nat → Rat} {g n : Nat} {w : World} (h : RowC G g n w) {j : Nat} (hj : j < n) : w.cell? ⟨g, j, none⟩ = some (.string (tQ (G j))) := by
  obtain ⟨cur, h1, _, h3⟩ := h
  simp [World.cell?, h1, h3 j hj]
theorem RowC.frozen {G : Nat → Rat} {g n : Nat} {w : World} (h : RowC G g n w) (j : Nat) : w.frozen? ⟨g, j, none⟩ = false := by
  obtain ⟨cur, h1, _, _⟩ := h
  simp [World.frozen?, h1]
theorem RowC.lt {G : Nat → Rat} {g n : Nat} {w : World} (h : RowC G g n w) : g < w.heap.size := by
  obtain ⟨cur, h1, _⟩ := h
  exact (Array.getElem?_eq_some_iff.1 h1).1
theorem RowC.same {G : Nat → Rat} {g n : Nat} {w W : World} (h : RowC G g n w) (e : W.heap[g]? = w.heap[g]?) : RowC G g n W := by
  obtain ⟨cur, h1, h2⟩ := h
  exact ⟨cur, by rw [e]; exact h1, h2⟩
theorem RowC.ext {G : Nat → Rat} {g n : Nat} {w W : World} (h : RowC G g n w) (X : Ext w W) : RowC G g n W := h.same (X.block g h.lt)
theorem RowC.congr {G H : Nat → Rat} {g n : Nat} {w : World} (h : RowC G g n w) (e : ∀ j, j < n → G j = H j) : RowC H g n w := by
  obtain ⟨cur, h1, h2, h3⟩ := h
  exact ⟨cur, h1, h2, fun j hj => by rw [h3 j hj, e j hj]⟩
theorem RowC.put {G : Nat → Rat} {g n : Nat} {w : World} (h : RowC G g n w) (j : Nat) (hj : j < n) (q : Rat) : RowC (fun i => if i = j then q else G i) g n (w.setCell ⟨g, j, none⟩ (.string (tQ q))) := by
  obtain ⟨cur, h1, h2, h3⟩ := h
  refine ⟨cur.setIfInBounds j (.string (tQ q)), ?_, by simpa using h2, fun i hi => ?_⟩
  · rw [setCell_eq_setRow w g j cur _ (0, 0) _ h1]
    exact setRow_heap w g cur _ _ _ h1
  · by_cases e : i = j
    · subst e
      have : i < cur.size := by omega
      simp [this]
    · rw [Array.getElem?_setIfInBounds_ne (Ne.symm e), h3 i hi]
      simp only [if_neg e]
theorem RowC.notRow {G : Nat → Rat} {q n : Nat} {w : World} (h : RowC G q n w) : NotRow w q := fun cur f e => by
  obtain ⟨cur', h1, _⟩ := h
  rw [h1] at e
  exact absurd e (by intro e; cases e)
theorem RowC.fld {G : Nat → Rat} {q n : Nat} {w : World} (h : RowC G q n w) : FldIn w q 0 (rowL G n) := fun i hi => by
  have hn : i < n := by rw [rowL_len] at hi; exact hi
  rw [Nat.zero_add, h.cell hn, show (rowL G n)[i] = G i by simp [rowL]]
def RowsV (n base : Nat) (L : List Rv) (w : World) : Prop := ∀ r ∈ L, base ≤ r.q ∧ RowC r.G r.q n w
/-- As KO, with no block left out. -/
def KP (base : Nat) (W wr : World) : Prop := ∀ oc, KO base oc W wr
theorem KP.refl (base : Nat) (W : World) : KP base W W := fun oc => KO.refl base oc W
theorem KP.trans {base : Nat} {a b c : World} (h : KP base a b) (k : KP base b c) : KP base a c := fun oc => (h oc).trans (k oc)
theorem KP.ofExt {base : Nat} {a b : World} (hb : base ≤ a.heap.size) (h : Ext a b) : KP base a b := fun oc => KO.ofExt hb h
theorem KP.size {base : Nat} {a b : World} (h : KP base a b) : a.heap.size ≤ b.heap.size := (h 0).size
theorem KP.below {base B : Nat} {W wr : World} (h : KP base W wr) (hB : B ≤ base) : Below B W wr := (h B).below hB (Nat.le_refl _)
theorem KP.cell {base b o : Nat} {u : Value} {W wr : World} (h : KP base W wr) (hb : b < base) (hc : W.cell? ⟨b, o, none⟩ = some u) : wr.cell? ⟨b, o, none⟩ = some u := (h (b + 1)).cell hb (by omega) hc
theorem KP.cells {base b : Nat} {vs : List Value} {W wr : World} (h : KP base W wr) (hb : b < base) (hc : Cells b vs W) : Cells b vs wr := (h (b + 1)).cells hb (by omega) hc
theorem KP.row {base q n : Nat} {G : Nat → Rat} {a b : World} (h : KP base a b) (hr : RowC G q n a) : RowC G q n b := hr.same ((h (q + 1)).high q hr.lt (by omega) hr.notRow)
theorem KP.push {α : Type} {enc : α → List Value} {size base : Nat} {b c : World} {L : List α} {v : Value} (hb : base ≤ b.heap.size) (hown : OwnL enc 101 size base L v b) (hB : Below base b c) (hg : b.grownBy c v.ownBlock) : KP base b c := fun oc => by
  have hk : ∀ k, v.ownBlock = some k → base ≤ k ∧ ∃ cur f, b.heap[k]? = some (.cells cur 101 f) := fun k hk => by
    rcases hown.2.2 with ⟨h, _⟩ | ⟨q, c', cur, h, hb, hh, _⟩
    · rw [h] at hk; cases hk
    · rw [h] at hk
      simp only [Value.ownBlock, Option.some.injEq] at hk
      subst hk
      exact ⟨hb, _, _, hh⟩
  refine ⟨hB.os, hB.tape, hB.output, hB.size, fun x hx hn => hB.block x hx, fun x hx hn hr => ?_⟩
  refine hg.block x hx (fun e => ?_)
  obtain ⟨_, cur, f, hh⟩ := hk x e.symm
  exact hr cur f hh
structure InvV (n base : Nat) (W5 : World) (v : Value) (N : List Rv) (wr : World) : Prop where
  own : OwnL (encV n) 101 2 base N v wr
  rows : RowsV n base N wr
  kp : KP base W5 wr
theorem InvV.push {n base : Nat} {W5 wr W2 W6 : World} {v v' : Value} {N : List Rv} (h : InvV n base W5 v N wr) (hb : base ≤ W5.heap.size) (Y : Ext wr W2) (q c : Nat) (G : Nat → Rat) (b : Rat) (hro : RowC G q n W2) (hq : base ≤ q)
    (hown6 : OwnL (encV n) 101 2 base (N ++ [⟨q, c, G, b⟩]) v' W6) (Z6 : Below base W2 W6) (hg : W2.grownBy W6 v.ownBlock) : InvV n base W5 v' (N ++ [⟨q, c, G, b⟩]) W6 ∧ KP base wr W6 := by
  have hbr : base ≤ wr.heap.size := Nat.le_trans hb h.kp.size
  have h2 : KP base wr W2 := KP.ofExt hbr Y
  have h3 : KP base W2 W6 := KP.push (Nat.le_trans hbr Y.size) (h.own.below Y) Z6 hg
  have h4 := h2.trans h3
  refine ⟨⟨hown6, fun r hr => ?_, h.kp.trans h4⟩, h4⟩
  rcases List.mem_append.1 hr with hm | hm
  · exact ⟨(h.rows r hm).1, h4.row (h.rows r hm).2⟩
  · rw [List.mem_singleton.1 hm]
    exact ⟨hq, h3.row hro⟩
instance : Inhabited Lay := ⟨⟨⟨#[]⟩, 0, none⟩⟩
/-- 1 at one place, -1 at another. -/
def pairF (a b j : Nat) : Rat := if j = b then -1 else if j = a then 1 else 0
def thkF (P : Nat) (col : List Lay) (k p : Nat) : (Nat → Rat) × Rat := (pairF (k * P + p) ((k + 1) * P + p), -(col.getD (k + 1) default).min)
def thkL (P : Nat) (col : List Lay) (K p : Nat) : List ((Nat → Rat) × Rat) := (List.range K).flatMap (fun k => (List.range P).map (thkF P col k)) ++ (List.range p).map (thkF P col K)
theorem thkL_len (P : Nat) (col : List Lay) (K p : Nat) : (thkL P col K p).length = K * P + p := by
  unfold thkL
  rw [List.length_append, List.length_map, List.length_range]
  congr 1
  induction K with
  | zero => simp
  | succ K ih => rw [List.range_succ, List.flatMap_append, List.length_append, ih]; simp [Nat.succ_mul]
theorem thkL_step (P : Nat) (col : List Lay) (K p : Nat) : thkL P col K (p + 1) = thkL P col K p ++ [thkF P col K p] := by
  unfold thkL
  rw [List.range_succ, List.map_append, ← List.append_assoc]
  rfl
theorem thkL_row (P : Nat) (col : List Lay) (K : Nat) : thkL P col K P = thkL P col (K + 1) 0 := by
  unfold thkL
  rw [List.range_succ, List.flatMap_append]
  simp
theorem pair_put {G : Nat → Rat} {a b n : Nat} (hG : ∀ j, j < n → G j = 0) (j : Nat) (hj : j < n) : (fun i => if i = b then (-1 : Rat) else (fun i => if i = a then (1 : Rat) else G i) i) j = pairF a b j := by
  unfold pairF
  show (if j = b then (-1 : Rat) else if j = a then 1 else G j) = _
  rw [hG j hj]
def LkR (P : Nat) (col : List Lay) (K : Nat) (n base : Nat) (W5 : World) (p : Nat) (v : Value) (wr : World) : Prop := ∃ N : List Rv, InvV n base W5 v N wr ∧ N.map (fun r => (r.G, r.b)) = thkL P col K p
theorem thkL_N {P : Nat} {col : List Lay} {K p : Nat} {N : List Rv} (h : N.map (fun r => (r.G, r.b)) = thkL P col K p) : N.length = K * P + p := by
  have := congrArg List.length h
  rw [List.length_map, thkL_len] at this
  exact this
/-- A row more. -/
theorem LkR.push {P : Nat} {col : List Lay} {K n base p : Nat} {W5 wr W2 W6 : World} {v v' : Value} {N : List Rv} (hI : InvV n base W5 v N wr) (hN : N.map (fun r => (r.G, r.b)) = thkL P col K p) (hb : base ≤ W5.heap.size) (Y : Ext wr W2) (q c : Nat) (G : Nat → Rat)
    (hro : RowC G q n W2) (hG : ∀ j, j < n → G j = pairF (K * P + p) ((K + 1) * P + p) j) (hq : base ≤ q) (m : Rat) (hm : m = -(col.getD (K + 1) default).min)
    (hown6 : OwnL (encV n) 101 2 base (N ++ [⟨q, c, pairF (K * P + p) ((K + 1) * P + p), m⟩]) v' W6) (Z6 : Below base W2 W6) (hg : W2.grownBy W6 v.ownBlock) : LkR P col K n base W5 (p + 1) v' W6 ∧ KP base wr W6 := by
  have h := hI.push hb Y q c (pairF (K * P + p) ((K + 1) * P + p)) m (hro.congr hG) hq hown6 Z6 hg
  refine ⟨⟨_, h.1, ?_⟩, h.2⟩
  rw [List.map_append, hN, thkL_step, hm]
  rfl
end Go.Proofs.YtbiffaciinppiaaGreatDoor
end

section
namespace Go.Proofs.YtbiffaciinppiaaGreatDoor
open Go.RowKit Go.Maps
attribute [local irreducible] tQ
set_option linter.unusedSimpArgs false

theorem refNeg (q : Rat) (w : World) (hl : (tQ q).size ≤ 1000000000000) : Calls Tryz.prog 44 #[.string (tQ q)] w (Ret (.string (tQ (-q))) w) := by
  have hz := tQ_pos q
  have h0 := tQ_is0 q
  have h1 := tQ_first q hz
  by_cases e0 : q = 0
  · have hr : tQ (-q) = tQ q := by rw [e0]; rfl
    rw [decide_eq_true e0] at h0
    have Hr := Lib.hid hr
    clear h1 hr e0
    go_enter Tryz.func44, Tryz.ntmps44
    go_wp2
    go_ret
    exact ⟨by rw [Hr.out]; rfl, Ext.refl _⟩
  · rw [decide_eq_false e0] at h0
    by_cases e1 : q < 0
    · have hr := tQ_neg_neg ((num_neg_iff q).2 e1)
      rw [decide_eq_true e1] at h1
      have Hr := Lib.hid hr
      clear hr e0 e1
      go_enter Tryz.func44, Tryz.ntmps44
      go_wp2
      go_ret
      exact ⟨by rw [← Hr.out]; rfl, Ext.refl _⟩
    · have hr := tQ_neg_pos (q := q) (by
        have h1 : ¬ q.num < 0 := fun e => e1 ((num_neg_iff q).1 e)
        have h2 : q.num ≠ 0 := fun e => e0 (Rat.num_eq_zero.1 e)
        omega)
      rw [decide_eq_false e1] at h1
      have Hr := Lib.hid hr
      clear hr e0 e1
      go_enter Tryz.func44, Tryz.ntmps44
      go_wp2
      go_ret
      exact ⟨by rw [← Hr.out]; rfl, Ext.refl _⟩
theorem OwnL.rowC {base g n c : Nat} {l : List Rat} {w : World} (h : OwnL encQ 54 1 base l (.slice (some ⟨g, 0, none⟩) n c) w) : n = l.length ∧ base ≤ g ∧ RowC (fun j => l.getD j 0) g l.length w := by
  obtain ⟨h1, h2, h3⟩ := h.cells
  refine ⟨h1, h2, ?_⟩
  rcases h.2.2 with ⟨h4, _⟩ | ⟨q, c', cur, h4, hb, hh, _⟩
  · cases h4
  · simp only [Value.slice.injEq, Option.some.injEq, Addr.mk.injEq] at h4
    obtain ⟨⟨rfl, _, _⟩, _, _⟩ := h4
    have hc : ∀ j, j < l.length → cur[j]? = some (.string (tQ (l.getD j 0))) := fun j hj => by
      have := h3 j hj 0 _ (by omega) rfl
      rw [Nat.mul_one, Nat.add_zero] at this
      simp only [World.cell?, hh] at this
      rw [List.getD_eq_getElem?_getD, List.getElem?_eq_getElem hj, Option.getD_some]
      simpa using this
    refine ⟨cur, hh, ?_, hc⟩
    rcases Nat.eq_zero_or_pos l.length with h0 | h0
    · omega
    · have := hc (l.length - 1) (by omega)
      have := (Array.getElem?_eq_some_iff.1 this).1
      omega
def ZlR (n base : Nat) (w : World) (v3 v4 : Value) (wr : World) : Prop := ∃ k : Nat, k ≤ n ∧ v4 = .int .i64 k ∧ OwnL encQ 54 1 base (List.replicate k 0) v3 wr ∧ Below base w wr
set_option maxRecDepth 100000 in
set_option maxHeartbeats 2000000 in
theorem lzeros_ok (b : Bk) (s : Nat) (hs : b.col.length = s + 1) (hs2 : s ≤ 60) (hp : b.pts.length ≤ 60) (h0 : 0 < s * b.pts.length) (h6 : s * b.pts.length ≤ 60) (a : BkA) (w : World) :
    Calls Tryz.prog 43 #[bkV a b] w (fun e w' => ∃ q c, e = .returned (.slice (some ⟨q, 0, none⟩) (s * b.pts.length) c) ∧ w.heap.size ≤ q ∧ RowC (fun _ => 0) q (s * b.pts.length) w' ∧ Ext w w') := by
  have HC := Lib.hid (fun W => lcount_ok b s hs hs2 hp a W)
  clear hs hs2 hp
  obtain ⟨pts, tris, ter, col, obs⟩ := b
  obtain ⟨pb, po, pc, tb, tO, tc, fb, fo, fc, lb, lo, lc, oc, oa⟩ := a
  simp only [bkV] at *
  generalize s * pts.length = n at *
  generalize pts.length = P at *
  generalize tris.length = T at *
  generalize col.length = C at *
  generalize obs.length = O at *
  have HN := Lib.hid (And.intro h0 h6)
  clear h0 h6
  go_enter Tryz.func43, Tryz.ntmps43
  go_upto_region 1 with fail
  have hW : ∃ W0, W0 = w.alloc (.cells #[.slice (some ⟨pb, po, none⟩) P pc, .slice (some ⟨tb, tO, none⟩) T tc, .slice (some ⟨fb, fo, none⟩) P fc, .slice (some ⟨lb, lo, none⟩) C lc, .slice oa O oc] 43) := ⟨_, rfl⟩
  obtain ⟨W0, hW⟩ := hW
  rw [← hW]
  have X0 : Ext w W0 := by rw [hW]; exact (Ext.refl w).alloc _
  have c0 : Cells w.heap.size [.slice (some ⟨pb, po, none⟩) P pc, .slice (some ⟨tb, tO, none⟩) T tc, .slice (some ⟨fb, fo, none⟩) P fc, .slice (some ⟨lb, lo, none⟩) C lc, .slice oa O oc] W0 := by rw [hW]; exact Cells.new w [.slice (some ⟨pb, po, none⟩) P pc, .slice (some ⟨tb, tO, none⟩) T tc, .slice (some ⟨fb, fo, none⟩) P fc, .slice (some ⟨lb, lo, none⟩) C lc, .slice oa O oc] 43
  have hs0 : Hid (w.heap.size < W0.heap.size) := Lib.hid (by rw [hW]; simp)
  clear hW
  have hn6 : (n : Int) ≤ 60 := by have := HN.out; omega
  go_wp2_with fail
  go_loopw [3, 4] (ZlR n W0.heap.size W0) (fun _ p _ => n - (intOf p).toNat)
  case atStart => exact ⟨0, by omega, rfl, OwnL.nil _, Below.refl _ _⟩
  case round =>
    obtain ⟨k, hk, rfl, hown, hB⟩ := hrel
    have cr := c0.block hB hs0.out
    have hbr := hB.size
    obtain ⟨b0, b1, b2, b3, b4⟩ := five cr
    go_wp2_with fail
    refine (HC.out wr).mono ?_
    rintro e w1 ⟨rfl, X1⟩
    have hown1 := hown.below X1
    have hB1 : Below W0.heap.size W0 w1 := hB.trans (Below.mono X1 hbr)
    have hb1 := X1.size
    clear b0 b1 b2 b3 b4 cr hown hB
    by_cases hlt : k < n
    · have kl : (k : Int) < n := by omega
      have hn := HN.out
      have howa := hown1.alloc (.cells #[.string ⟨#[48]⟩] 54)
      have HE := Lib.hid (show ∀ q c' W3, OwnL encQ 54 1 W0.heap.size (List.replicate k 0 ++ [0]) (.slice (some ⟨q, 0, none⟩) (k + 1) c') W3 → Below W0.heap.size W0 W3 → ZlR n W0.heap.size W0 (.slice (some ⟨q, 0, none⟩) (k + 1) c') (.int .i64 ((k : Int) + 1)) W3 from fun q c' W3 h1 h2 =>
        ⟨k + 1, hlt, rfl, by rw [← List.replicate_succ'] at h1; exact h1, h2⟩)
      have hBa : Below W0.heap.size W0 (w1.alloc (.cells #[.string ⟨#[48]⟩] 54)) := Below.alloc hB1 (by omega) _
      have hlr : (List.replicate k (0 : Rat)).length = k := List.length_replicate
      have hcn : ∀ j u, (encQ (0 : Rat))[j]? = some u → (w1.alloc (.cells #[.string ⟨#[48]⟩] 54)).cell? (Addr.add ⟨w1.heap.size, 0, none⟩ j) = some u := fun j u hu => by
        rw [addr0]
        refine cells_at (Cells.new w1 [.string ⟨#[48]⟩] 54) j u ?_
        unfold encQ at hu
        rw [tQ_zero] at hu
        exact hu
      clear hown1 hB1
      go_wp2_with (at_builtin; go_loud (refine wpList_push _ ERat rfl _ _ rfl (v := u3) rfl howa (0 : Rat) ⟨w1.heap.size, 0, none⟩ 1 rfl rfl (by intro u hu; simp only [encQ, List.mem_singleton] at hu; rw [hu]; rfl) hcn (by omega) (by simp; omega) ?_); intro q c' W3 hown3 hX3 hg3; rw [hlr] at hown3 ⊢; have HB3 := Lib.hid (HE.out q c' W3 hown3 (hX3.out _ _ (Nat.le_refl _) (by omega) hBa)); clear hown3 hX3 hg3)
      exact ⟨HB3.out, by simp only [intOf]; omega⟩
    · obtain rfl : k = n := by omega
      have hn := HN.out
      obtain ⟨va, vc, rfl, hf⟩ := hown1.form
      obtain ⟨g, rfl, hg1, hg2⟩ := hf (by intro e; have := congrArg List.length e; simp at this; omega)
      have hr := hown1.rowC
      have HE := Lib.hid (And.intro hr (X0.trans (show Ext W0 w1 from hB1)))
      clear hown1 hB1 hr hf
      simp only [List.length_replicate] at *
      go_wp2_with fail
      go_ret
      obtain ⟨⟨_, _, hr⟩, X⟩ := HE.out
      refine ⟨g, vc, rfl, by have := hs0.out; omega, hr.congr fun j hj => ?_, X⟩
      rw [List.getD_eq_getElem?_getD, List.getElem?_replicate, if_pos hj]
      rfl

theorem tQ_p1' : tQ 1 = ⟨#[49]⟩ := by decide +kernel
theorem tQ_m1' : tQ (-1) = ⟨#[45, 49]⟩ := by decide +kernel
/-- What a list of rows is, between rounds over the points. -/
def InR (P : Nat) (col : List Lay) (K n base : Nat) (W5 : World) (v3 v6 : Value) (wr : World) : Prop := ∃ p : Nat, p ≤ P ∧ v6 = .int .i64 p ∧ LkR P col K n base W5 p v3 wr
def OutR (P S : Nat) (col : List Lay) (n base : Nat) (W5 : World) (v3 v5 : Value) (wr : World) : Prop := ∃ K : Nat, K ≤ S ∧ v5 = .int .i64 ((K : Int) + 1) ∧ LkR P col K n base W5 0 v3 wr
def RowsT (n : Nat) (R : List ((Nat → Rat) × Rat)) (w : World) (e : Ending) (w' : World) : Prop :=
  ∃ (v : Value) (N : List Rv) (base : Nat), e = .returned v ∧ w.heap.size ≤ base ∧ OwnL (encV n) 101 2 base N v w' ∧ RowsV n base N w' ∧ N.map (fun r => (r.G, r.b)) = R ∧ Ext w w'
theorem encV_new (W : World) (n q c : Nat) (G : Nat → Rat) (m : Rat) : ∀ j u, (encV n (⟨q, c, G, m⟩ : Rv))[j]? = some u → (W.alloc (.cells #[.slice (some ⟨q, 0, none⟩) n c, .string (tQ m)] 101)).cell? (Addr.add ⟨W.heap.size, 0, none⟩ j) = some u := fun j u hu => by
  rw [addr0]
  exact cells_at (Cells.new W (encV n (⟨q, c, G, m⟩ : Rv)) 101) j u hu
set_option maxRecDepth 100000 in
set_option maxHeartbeats 4000000 in
theorem lthick_ok (b : Bk) (s : Nat) (hs : b.col.length = s + 1) (hs2 : s ≤ 60) (hp0 : 0 < b.pts.length) (hp : b.pts.length ≤ 60) (h6 : s * b.pts.length ≤ 60) (hmx : ∀ x ∈ b.col, x.max = none) (hmn : ∀ x ∈ b.col, Dg 9 x.min) (a : BkA) (w : World) (hI : LaysIn w a.lb a.lo b.col) :
    Calls Tryz.prog 19 #[bkV a b] w (RowsT (s * b.pts.length) (thkL b.pts.length b.col (s - 1) 0) w) := by
  have HZ := Lib.hid (fun (h0 : 0 < s * b.pts.length) W => lzeros_ok b s hs hs2 hp h0 h6 a W)
  have HN := Lib.hid (fun (q : Rat) (hq : Dg 9 q) W => refNeg q W (by have := hq.size; omega))
  have HL := Lib.hid hI
  have HD := Lib.hid hmn
  have HX := Lib.hid hmx
  have HS := Lib.hid (And.intro hs (And.intro hs2 (And.intro hp0 (And.intro hp h6))))
  clear hs hs2 hp0 hp h6 hI hmn hmx
  obtain ⟨pts, tris, ter, col, obs⟩ := b
  obtain ⟨pb, po, pc, tb, tO, tc, fb, fo, fc, lb, lo, lc, oc, oa⟩ := a
  simp only [bkV] at *
  generalize pts.length = P at *
  generalize tris.length = T at *
  generalize obs.length = O at *
  have hn : ∃ n, n = s * P := ⟨_, rfl⟩
  obtain ⟨n, hn⟩ := hn
  rw [← hn] at HZ HS ⊢
  have HNN := Lib.hid hn
  have h6n : Hid (n ≤ 60) := Lib.hid HS.out.2.2.2.2
  clear hn
  have hC : ∃ C, C = col.length := ⟨_, rfl⟩
  obtain ⟨C, hC⟩ := hC
  rw [← hC] at HZ HS ⊢
  have HCC := Lib.hid hC
  clear hC
  go_enter Tryz.func19, Tryz.ntmps19
  go_upto_region 1 with fail
  have hW : ∃ W0, W0 = w.alloc (.cells #[.slice (some ⟨pb, po, none⟩) P pc, .slice (some ⟨tb, tO, none⟩) T tc, .slice (some ⟨fb, fo, none⟩) P fc, .slice (some ⟨lb, lo, none⟩) C lc, .slice oa O oc] 43) := ⟨_, rfl⟩
  obtain ⟨W0, hW⟩ := hW
  rw [← hW]
  have X0 : Ext w W0 := by rw [hW]; exact (Ext.refl w).alloc _
  have c0 : Cells w.heap.size [.slice (some ⟨pb, po, none⟩) P pc, .slice (some ⟨tb, tO, none⟩) T tc, .slice (some ⟨fb, fo, none⟩) P fc, .slice (some ⟨lb, lo, none⟩) C lc, .slice oa O oc] W0 := by rw [hW]; exact Cells.new w [.slice (some ⟨pb, po, none⟩) P pc, .slice (some ⟨tb, tO, none⟩) T tc, .slice (some ⟨fb, fo, none⟩) P fc, .slice (some ⟨lb, lo, none⟩) C lc, .slice oa O oc] 43
  have hs0 : Hid (w.heap.size < W0.heap.size) := Lib.hid (by rw [hW]; simp)
  clear hW
  obtain ⟨b0, b1, b2, b3, b4⟩ := five c0
  have hl0 : OutR P (s - 1) col n W0.heap.size W0 (.slice none 0 0) (.int .i64 1) W0 := ⟨0, by omega, rfl, [], ⟨OwnL.nil _, fun r hr => by simp at hr, KP.refl _ _⟩, rfl⟩
  go_wp2_with fail
  clear b0 b1 b2 b3 b4
  have hcb : (C : Int) ≤ 61 := by have := HS.out; omega
  have hpb : (P : Int) ≤ 60 := by have := HS.out; omega
  go_loopw [3, 5] (OutR P (s - 1) col n W0.heap.size W0) (fun _ p _ => s + 1 - (intOf p).toNat)
  case atStart => exact hl0
  case round =>
    obtain ⟨K, hK, rfl, N, hI, hN⟩ := hrel
    have cr := hI.kp.cells hs0.out c0
    obtain ⟨b0, b1, b2, b3, b4⟩ := five cr
    have hKb : (K : Int) ≤ 60 := by have := HS.out; omega
    by_cases hlt : K + 1 < s
    · have d1 : (K : Int) + 1 + 1 < C := by have := HS.out; omega
      have HE := Lib.hid (show InR P col K n W0.heap.size W0 u3 (.int .i64 0) wr from ⟨0, by omega, rfl, N, hI, hN⟩)
      clear hI hN cr
      go_wp2_with fail
      clear b0 b1 b2 b3 b4
      go_loopw [3, 6] (InR P col K n W0.heap.size W0) (fun _ p _ => P - (intOf p).toNat)
      case atStart => exact HE.out
      case round =>
        obtain ⟨p, hp, rfl, N, hI, hN⟩ := hrel
        have cr := hI.kp.cells hs0.out c0
        obtain ⟨b0, b1, b2, b3, b4⟩ := five cr
        have hpI : (p : Int) ≤ 60 := by omega
        by_cases hlt2 : p < P
        · have d2 : (p : Int) < P := by omega
          obtain ⟨hs, hs2, hp0, hp6, h6⟩ := HS.out
          have hJ1 : (K + 1) * P + p < n := by
            have h1 : (K + 2) * P ≤ s * P := Nat.mul_le_mul_right P (by omega)
            have h2 := HNN.out
            have h3 : (K + 2) * P = (K + 1) * P + P := by rw [show K + 2 = (K + 1) + 1 by omega, Nat.succ_mul]
            omega
          have hAB : (K + 1) * P = K * P + P := Nat.succ_mul K P
          have hJ0 : K * P + p < n := by omega
          have hJn : K * P + p ≠ (K + 1) * P + p := by omega
          have hKl : K + 1 < col.length := by rw [← HCC.out]; omega
          have hlay := HL.out (K + 1) hKl
          have hmx := HX.out _ (List.getElem_mem hKl)
          have hmn := HD.out _ (List.getElem_mem hKl)
          have hgd : col.getD (K + 1) default = col[K + 1] := by rw [List.getD_eq_getElem?_getD, List.getElem?_eq_getElem hKl]; rfl
          have HGD := Lib.hid hgd
          have HZ1 := Lib.hid (HZ.out (by have := HNN.out; omega))
          have HN1 := Lib.hid (HN.out _ hmn)
          have hw0 : IntKind.i64.wrap (K : Int) = K := by simp only [IntKind.wrap_i64]; omega
          have hw1 : IntKind.i64.wrap ((K : Int) * (P : Int)) = ((K * P : Nat) : Int) := by
            rw [← Int.natCast_mul]; simp only [IntKind.wrap_i64]; omega
          have hw2 : IntKind.i64.wrap (((K : Int) + 1) * (P : Int)) = (((K + 1) * P : Nat) : Int) := by
            rw [show ((K : Int) + 1) * (P : Int) = (((K + 1) * P : Nat) : Int) by push_cast; rfl]; simp only [IntKind.wrap_i64]; omega
          rw [hmx] at hlay
          have l1 := hlay.2.1
          have l2 := hlay.2.2
          clear hlay hmx hmn hgd hAB hs hs2 hp0 hp6 h6
          generalize hmE : col[K + 1].min = mn at *
          have HME := Lib.hid hmE
          clear hmE
          have hA : ∃ A B : Nat, A = K * P ∧ B = (K + 1) * P := ⟨_, _, rfl, rfl⟩
          obtain ⟨A, B, hA, hB⟩ := hA
          rw [← hA] at hJ0 hJn hw1
          rw [← hB] at hJ1 hJn hw2
          have HAB := Lib.hid (And.intro hA hB)
          clear hA hB
          have hw3 : IntKind.i64.wrap ((A : Int) + (p : Int)) = ((A + p : Nat) : Int) := by simp only [IntKind.wrap_i64]; have := h6n.out; omega
          have hw4 : IntKind.i64.wrap ((B : Int) + (p : Int)) = ((B + p : Nat) : Int) := by simp only [IntKind.wrap_i64]; have := h6n.out; omega
          have hJ : ∃ J0 J1 : Nat, J0 = A + p ∧ J1 = B + p := ⟨_, _, rfl, rfl⟩
          obtain ⟨J0, J1, e0, e1⟩ := hJ
          rw [← e0] at hJ0 hJn hw3
          rw [← e1] at hJ1 hJn hw4
          have HJ := Lib.hid (And.intro e0 e1)
          clear e0 e1
          have i0 : (J0 : Int) < n := by omega
          have i1 : (J1 : Int) < n := by omega
          go_wp2_with fail
          refine (HZ1.out wr).mono ?_
          rintro e w1 ⟨q, c, rfl, hq, hro, X1⟩
          have y0 := hro.cell hJ0
          have f0 := hro.frozen J0
          have hro1 := hro.put J0 hJ0 1
          rw [tQ_p1'] at hro1
          have y1 := hro1.cell hJ1
          have f1 := hro1.frozen J1
          have hro2 := hro1.put J1 hJ1 (-1)
          rw [tQ_m1'] at hro2
          have Y2 : Ext wr ((w1.setCell ⟨q, J0, none⟩ (.string ⟨#[49]⟩)).setCell ⟨q, J1, none⟩ (.string ⟨#[45, 49]⟩)) := (X1.setCell (p := ⟨q, J0, none⟩) hq _).setCell (p := ⟨q, J1, none⟩) hq _
          clear b0 b1 b2 b3 b4 hro hro1
          go_upto_region 11 with fail
          have hW2 : ∃ W2, W2 = (w1.setCell ⟨q, J0, none⟩ (.string ⟨#[49]⟩)).setCell ⟨q, J1, none⟩ (.string ⟨#[45, 49]⟩) := ⟨_, rfl⟩
          obtain ⟨W2, hW2⟩ := hW2
          rw [← hW2] at hro2 Y2 ⊢
          clear hW2 y0 f0 y1 f1 X1
          have XW := Lib.hid (X0.trans (show Ext W0 wr from hI.kp.below (Nat.le_refl _)))
          have XW2 := XW.out.trans Y2
          have m1 := XW2.cell l1
          obtain ⟨b0, b1, b2, b3, b4⟩ := five (cr.ext Y2)
          clear XW2
          go_wp2_with fail
          refine (HN1.out W2).mono ?_
          rintro e w3 ⟨rfl, X3⟩
          have Y3 := Y2.trans X3
          have Y4 : Ext wr (w3.alloc (.cells #[.slice (some ⟨q, 0, none⟩) n c, .string (tQ (-mn))] 101)) := Y3.alloc _
          have howa := hI.own.below Y4
          have hro4 := (hro2.ext X3).ext ((Ext.refl w3).alloc (.cells #[.slice (some ⟨q, 0, none⟩) n c, .string (tQ (-mn))] 101))
          have hcn := encV_new w3 n q c (pairF (K * P + p) ((K + 1) * P + p)) (-mn)
          have hNl := thkL_N hN
          have hb6 := Y4.size
          have hbr := hI.kp.size
          have hlen : N.length ≤ 1000000 := by have := HAB.out; have := HJ.out; have := h6n.out; omega
          have HE := Lib.hid (show ∀ q' c' W6, OwnL (encV n) 101 2 W0.heap.size (N ++ [⟨q, c, pairF (K * P + p) ((K + 1) * P + p), -mn⟩]) (.slice (some ⟨q', 0, none⟩) (N.length + 1) c') W6 → Below W0.heap.size (w3.alloc (.cells #[.slice (some ⟨q, 0, none⟩) n c, .string (tQ (-mn))] 101)) W6 → (w3.alloc (.cells #[.slice (some ⟨q, 0, none⟩) n c, .string (tQ (-mn))] 101)).grownBy W6 u3.ownBlock →
              Hid (InR P col K n W0.heap.size W0 (.slice (some ⟨q', 0, none⟩) (N.length + 1) c') (.int .i64 ((p : Int) + 1)) W6) ∧ Cells w.heap.size [.slice (some ⟨pb, po, none⟩) P pc, .slice (some ⟨tb, tO, none⟩) T tc, .slice (some ⟨fb, fo, none⟩) P fc, .slice (some ⟨lb, lo, none⟩) C lc, .slice oa O oc] W6 ∧ W6.cell? ⟨lb, lo + (K + 1) * 3 + 2, none⟩ = some (.string (mxT none)) from fun q' c' W6 h1 h2 h3 => by
            have h4 := LkR.push hI hN (Nat.le_refl _) Y4 q c _ hro4 (fun j hj => by
              have := HAB.out
              have := HJ.out
              rw [show K * P + p = J0 by omega, show (K + 1) * P + p = J1 by omega]
              exact pair_put (fun _ _ => rfl) j hj) (by omega) (-mn) (by rw [HGD.out, HME.out]) h1 h2 h3
            exact ⟨Lib.hid ⟨p + 1, hlt2, by push_cast; rfl, h4.1⟩, h4.2.cells hs0.out cr, h4.2.cell (Nat.lt_trans (World.block_lt_of_cell? w _ l2) hs0.out) (XW.out.cell l2)⟩)
          clear hI hN cr Y2 Y3 Y4 hro2 hro4 X3 b0 b1 b2 b3 b4 hNl hJ0 hJ1 hJn hw0 hw1 hw2 hw3 hw4 i0 i1 m1
          go_wp2_with (at_builtin; go_loud (refine wpList_push _ ERw rfl _ _ rfl (v := u3) rfl howa (⟨q, c, pairF (K * P + p) ((K + 1) * P + p), -mn⟩ : Rv) ⟨w3.heap.size, 0, none⟩ 1 rfl rfl (by intro uu huu; simp only [encV, List.mem_cons, List.not_mem_nil, or_false] at huu; rcases huu with rfl | rfl <;> rfl) hcn hlen (by omega) ?_); intro q' c' W6 hown6 hX6 hg6; obtain ⟨HR, hcB, hmx⟩ := HE.out q' c' W6 hown6 (hX6.out _ _ (Nat.le_refl _) (by omega) (Below.refl _ _)) hg6.out; obtain ⟨b0, b1, b2, b3, b4⟩ := five hcB; simp only [mxT] at hmx; clear hown6 hX6 hg6 hcB HE howa hcn)
          exact ⟨HR.out, by simp only [intOf]; omega⟩
        · obtain rfl : p = P := by omega
          have HE := Lib.hid (show OutR p (s - 1) col n W0.heap.size W0 u3 (.int .i64 ((K : Int) + 1 + 1)) wr from ⟨K + 1, by omega, by push_cast; rfl, N, hI, by rw [hN, thkL_row]⟩)
          clear hI hN cr
          go_wp2_with fail
          exact ⟨HE.out, by simp only [intOf]; omega⟩
    · have d1 : (C : Int) ≤ (K : Int) + 1 + 1 := by have := HS.out; omega
      have hKs : K = s - 1 := by omega
      have HE := Lib.hid (And.intro hI (And.intro hN hKs))
      clear hI hN hKs cr
      go_wp2_with fail
      go_ret
      obtain ⟨hI, hN, hKs⟩ := HE.out
      rw [hKs] at hN
      exact ⟨u3, N, W0.heap.size, rfl, X0.size, hI.own, hI.rows, hN, X0.trans (show Ext W0 wr from hI.kp.below (Nat.le_refl _))⟩

end Go.Proofs.YtbiffaciinppiaaGreatDoor
end
