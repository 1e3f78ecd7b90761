/- Plain lemmas for mesh.outer: the border of a set of sides; no program. mesh.outer: the border of a mesh as a cycle. mesh.once: a cycle turns to the left, or not, at each point, and goes around once. The two functions inside it first. -/
import Derived.Test.YtbiffaciinppiaaGreatDoorVa07
import Derived.LoopTactic
import Derived.Maps.AppendAt
import Derived.Laws.OwnMore
import Derived.Deep.DeepCutAuto
import Derived.Test.YtbiffaciinppiaaGreatDoorVa04
import Derived.StillTailTactics
set_option linter.unusedVariables false
set_option linter.unusedSimpArgs false
section
namespace Go.Proofs.YtbiffaciinppiaaGreatDoor

/-- A side without its opposite. -/
def bnd (S : List (Int × Int)) (p : Int × Int) : Prop := p ∈ S ∧ (p.2, p.1) ∉ S
instance (S : List (Int × Int)) (p : Int × Int) : Decidable (bnd S p) := inferInstanceAs (Decidable (_ ∧ _))
/-- What has been done when the entries of 'left' are still to come. -/
def donep (S : List (Int × Int)) (left : Value → Bool) (p : Int × Int) : Prop := bnd S p ∧ left (sk p) = false
structure P1 (S : List (Int × Int)) (left : Value → Bool) (first : Int) (g : Value → Option Value) (c : Nat) : Prop where
  yes : ∀ p, donep S left p → g (.int .i64 p.1) = some (.int .i64 p.2)
  no : ∀ x, (∀ p, donep S left p → x ≠ .int .i64 p.1) → g x = none
  least : (first = -1 ∧ ∀ p, ¬ donep S left p) ∨ ((∃ p, donep S left p ∧ first = p.1) ∧ ∀ p, donep S left p → first ≤ p.1)
  cnt : c = ((S.filter (fun p => decide (bnd S p))).filter (fun p => !left (sk p))).length
  keys : ∀ x, left x = true → ∃ p ∈ S, x = sk p
/-- No two sides of the border begin at one point; no index is negative. -/
structure Bd (S : List (Int × Int)) : Prop where
  nd : S.Nodup
  one : ∀ p q, bnd S p → bnd S q → p.1 = q.1 → p = q
  nn : ∀ p ∈ S, 0 ≤ p.1 ∧ 0 ≤ p.2
  i64 : ∀ p ∈ S, I64 p.1 ∧ I64 p.2

open Classical in
noncomputable def strike (left : Value → Bool) (p : Int × Int) : Value → Bool := fun z => left z && !decide (z = sk p)
theorem strike_self (left : Value → Bool) (p : Int × Int) : strike left p (sk p) = false := by simp [strike]
theorem strike_other (left : Value → Bool) {p q : Int × Int} (h : q ≠ p) : strike left p (sk q) = left (sk q) := by
  have : sk q ≠ sk p := fun e => h (sk_inj e)
  simp [strike, this]

theorem P1.start (S : List (Int × Int)) {f : Value → Option Value} (hf : SidesF S f) : P1 S (fun x => (f x).isSome) (-1) (fun _ => none) 0 := by
  have hl : ∀ p ∈ S, (f (sk p)).isSome = true := fun p hp => by obtain ⟨i, hi⟩ := hf.2 p hp; rw [hi]; rfl
  refine ⟨fun p hp => ?_, fun _ _ => rfl, .inl ⟨rfl, fun p hp => ?_⟩, ?_, fun x hx => ?_⟩
  · exact absurd (show (f (sk p)).isSome = false from hp.2) (by rw [hl p hp.1.1]; simp)
  · exact absurd (show (f (sk p)).isSome = false from hp.2) (by rw [hl p hp.1.1]; simp)
  · symm
    rw [List.length_eq_zero_iff, List.filter_eq_nil_iff]
    intro p hp
    rw [List.mem_filter] at hp
    simp [hl p hp.1]
  · by_cases h : ∃ p ∈ S, x = sk p
    · exact h
    · have := hf.1 x (fun p hp e => h ⟨p, hp, e⟩)
      simp [this] at hx

theorem done_strike {S : List (Int × Int)} {left : Value → Bool} {p q : Int × Int} (hp : left (sk p) = true) : donep S (strike left p) q ↔ donep S left q ∨ (q = p ∧ bnd S p) := by
  unfold donep
  by_cases h : q = p
  · subst h; rw [strike_self, hp]; simp
  · rw [strike_other left h]; simp [h]
theorem filter_strike_in {left : Value → Bool} {p : Int × Int} (hp : left (sk p) = true) : ∀ (l : List (Int × Int)), l.Nodup → p ∈ l → (l.filter (fun q => !strike left p (sk q))).length = (l.filter (fun q => !left (sk q))).length + 1 := by
  intro l
  induction l with
  | nil => intro _ h; cases h
  | cons a l ih =>
    intro hn hm
    rw [List.nodup_cons] at hn
    by_cases ha : a = p
    · subst ha
      have e : l.filter (fun q => !strike left a (sk q)) = l.filter (fun q => !left (sk q)) := List.filter_congr fun q hq => by
        have hne : q ≠ a := fun e => hn.1 (by rw [← e]; exact hq)
        rw [strike_other left hne]
      rw [List.filter_cons_of_pos (by simp [strike_self]), List.filter_cons_of_neg (by simp [hp]), e]; simp
    · have hm' : p ∈ l := by rcases List.mem_cons.1 hm with h | h; exact absurd h.symm ha; exact h
      have := ih hn.2 hm'
      by_cases hl : left (sk a) = true
      · rw [List.filter_cons_of_neg (by simp [strike_other left ha, hl]), List.filter_cons_of_neg (by simp [hl]), this]
      · rw [List.filter_cons_of_pos (by simp [strike_other left ha, hl]), List.filter_cons_of_pos (by simp [hl])]; simp [this]
theorem filter_strike_out {left : Value → Bool} {p : Int × Int} (l : List (Int × Int)) (hm : p ∉ l) : (l.filter (fun q => !strike left p (sk q))) = l.filter (fun q => !left (sk q)) :=
  List.filter_congr fun q hq => by 
    have hne : q ≠ p := fun e => hm (by rw [← e]; exact hq)
    rw [strike_other left hne]

/-- A side whose opposite is there. -/
theorem P1.skip {S : List (Int × Int)} {left : Value → Bool} {first : Int} {g : Value → Option Value} {c : Nat} (h : P1 S left first g c) {p : Int × Int} (hp : left (sk p) = true) (hb : ¬ bnd S p) : P1 S (strike left p) first g c := by
  have hd : ∀ q, donep S (strike left p) q ↔ donep S left q := fun q => by rw [done_strike hp]; simp [hb]
  refine ⟨fun q hq => h.yes q ((hd q).1 hq), fun x hx => h.no x (fun q hq => hx q ((hd q).2 hq)), ?_, ?_, fun x hx => h.keys x (by simp only [strike, Bool.and_eq_true] at hx; exact hx.1)⟩
  · rcases h.least with ⟨e, h1⟩ | ⟨⟨q, hq, e⟩, h1⟩
    · exact .inl ⟨e, fun q hq => h1 q ((hd q).1 hq)⟩
    · exact .inr ⟨⟨q, (hd q).2 hq, e⟩, fun r hr => h1 r ((hd r).1 hr)⟩
  · rw [filter_strike_out _ (by rw [List.mem_filter]; simp [hb])]; exact h.cnt
/-- A side of the border. -/
theorem P1.take {S : List (Int × Int)} (B : Bd S) {left : Value → Bool} {first : Int} {g : Value → Option Value} {c : Nat} (h : P1 S left first g c) {p : Int × Int} (hp : left (sk p) = true) (hb : bnd S p) :
    g (.int .i64 p.1) = none ∧ P1 S (strike left p) (if first < 0 ∨ p.1 < first then p.1 else first) (upd g (.int .i64 p.1) (.int .i64 p.2)) (c + 1) := by
  have hd : ∀ q, donep S (strike left p) q ↔ donep S left q ∨ q = p := fun q => by rw [done_strike hp]; simp [hb]
  have hnot : ¬ donep S left p := fun h2 => by have := h2.2; rw [hp] at this; cases this
  have hno : g (.int .i64 p.1) = none := h.no _ (fun q hq e => by
    have e1 : p.1 = q.1 := by simpa using e
    have := B.one p q hb hq.1 e1
    subst this; exact hnot hq)
  refine ⟨hno, ⟨fun q hq => ?_, fun x hx => ?_, ?_, ?_, fun x hx => h.keys x (by simp only [strike, Bool.and_eq_true] at hx; exact hx.1)⟩⟩
  · by_cases e : q = p
    · subst e; exact upd_same _ _ _
    · rcases (hd q).1 hq with h1 | h1
      · rw [upd_other (fun e2 => e (B.one q p h1.1 hb (by simpa using e2)))]; exact h.yes q h1
      · exact absurd h1 e
  · rw [upd_other (hx p ((hd p).2 (.inr rfl)))]
    exact h.no x (fun q hq => hx q ((hd q).2 (.inl hq)))
  · have n0 := (B.nn p hb.1).1
    refine .inr ?_
    rcases h.least with ⟨e, h1⟩ | ⟨⟨q, hq, e⟩, h1⟩
    · rw [if_pos (.inl (by omega))]
      refine ⟨⟨p, (hd p).2 (.inr rfl), rfl⟩, fun r hr => ?_⟩
      rcases (hd r).1 hr with h2 | h2
      · exact absurd h2 (h1 r)
      · rw [h2]; exact Int.le_refl _
    · have nq := (B.nn q hq.1.1).1
      by_cases hlt : first < 0 ∨ p.1 < first
      · rw [if_pos hlt]
        refine ⟨⟨p, (hd p).2 (.inr rfl), rfl⟩, fun r hr => ?_⟩
        rcases (hd r).1 hr with h2 | h2
        · have := h1 r h2; omega
        · rw [h2]; exact Int.le_refl _
      · rw [if_neg hlt]
        refine ⟨⟨q, (hd q).2 (.inl hq), e⟩, fun r hr => ?_⟩
        rcases (hd r).1 hr with h2 | h2
        · exact h1 r h2
        · rw [h2]; omega
  · rw [filter_strike_in hp _ (B.nd.filter _) (by rw [List.mem_filter]; exact ⟨hb.1, by simp [hb]⟩), h.cnt]

theorem nodup_inj {l : List Int} (h : l.Nodup) {i j : Nat} (hi : i < l.length) (hj : j < l.length) (e : l[i] = l[j]) : i = j := by
  rcases Nat.lt_trichotomy i j with h1 | h1 | h1
  · exact absurd e (List.pairwise_iff_getElem.1 h i j hi hj h1)
  · exact h1
  · exact absurd e.symm (List.pairwise_iff_getElem.1 h j i hj hi h1)
/-- The border as a cycle, from its least index on. -/
structure Cyc (S : List (Int × Int)) (cyc : List Int) : Prop where
  ne : 0 < cyc.length
  nd : cyc.Nodup
  all : ∀ p, bnd S p ↔ ∃ j, ∃ h : j < cyc.length, p = (cyc[j], cyc[(j + 1) % cyc.length]'(Nat.mod_lt _ ne))
  least : ∀ c ∈ cyc, cyc[0] ≤ c
  len : (S.filter (fun p => decide (bnd S p))).length = cyc.length

/-- Behind the first loop. -/
theorem P1.over {S : List (Int × Int)} {cyc : List Int} (C : Cyc S cyc) {left : Value → Bool} {first : Int} {g : Value → Option Value} {c : Nat} (h : P1 S left first g c) (hl : ∀ p ∈ S, left (sk p) = false) :
    first = cyc[0]'C.ne ∧ c = cyc.length ∧ (∀ j (hj : j < cyc.length), g (.int .i64 cyc[j]) = some (.int .i64 (cyc[(j + 1) % cyc.length]'(Nat.mod_lt _ C.ne)))) := by
  have hd : ∀ p, donep S left p ↔ bnd S p := fun p => ⟨fun h => h.1, fun h => ⟨h, hl p h.1⟩⟩
  have b0 : bnd S (cyc[0]'C.ne, cyc[(0 + 1) % cyc.length]'(Nat.mod_lt _ C.ne)) := (C.all _).2 ⟨0, C.ne, rfl⟩
  refine ⟨?_, ?_, fun j hj => ?_⟩
  · rcases h.least with ⟨_, h1⟩ | ⟨⟨q, hq, e⟩, h1⟩
    · exact absurd ((hd _).2 b0) (h1 _)
    · have h2 := h1 _ ((hd _).2 b0)
      obtain ⟨j, hj, e2⟩ := (C.all q).1 hq.1
      have h3 := C.least cyc[j] (List.getElem_mem _)
      have e3 : q.1 = cyc[j] := by rw [e2]
      simp only at h2
      omega
  · rw [h.cnt, ← C.len]
    congr 1
    rw [List.filter_eq_self]
    intro p hp
    rw [List.mem_filter] at hp
    simp [hl p hp.1]
  · exact h.yes (cyc[j], cyc[(j + 1) % cyc.length]'(Nat.mod_lt _ C.ne)) ((hd _).2 ((C.all _).2 ⟨j, hj, rfl⟩))

end Go.Proofs.YtbiffaciinppiaaGreatDoor
end

section
namespace Go.Proofs.YtbiffaciinppiaaGreatDoor
open Go.RowKit

/-- Between two rounds of the first loop. -/
def R1 (S : List (Int × Int)) (w : World) (ob N : Nat) (f : Value → Option Value) (v7 : Value) (wr : World) : Prop :=
  ∃ (left : Value → Bool) (cnt c : Nat) (first : Int) (g : Value → Option Value), v7 = .int .i64 first ∧ I64 first ∧ RangeF Tryz.prog 158 3 wr ob (w.heap.size + 1 + 1) N f left cnt ∧ MapE Tryz.prog 3 3 wr (w.heap.size + 1) c g ∧ Ext w wr ∧ Hid (P1 S left first g c)

theorem info_int : (Tryz.prog.info? 3).map (fun i => (i.zero, i.size, i.bytes)) = some (some (.int .i64 0), 1, 8) := by kernel_rfl
theorem own_cells {w : World} {base e n cap g : Nat} {xs : List Value} (h : w.ownsRow base e 1 (.slice (some ⟨g, 0, none⟩) n cap) n xs) : base ≤ g ∧ ∀ j (hj : j < xs.length), w.cell? ⟨g, j, none⟩ = some xs[j] := by
  obtain ⟨hl, h⟩ := h
  rcases h with ⟨h, _⟩ | ⟨g', cap', cur, h, hb, hh, hn, _, hs, ht⟩
  · cases h
  · simp only [Value.slice.injEq, Option.some.injEq, Addr.mk.injEq] at h
    obtain ⟨⟨rfl, _, _⟩, _, rfl⟩ := h
    refine ⟨hb, fun j hj => ?_⟩
    have e1 : cur[j]? = some xs[j] := by
      have : (cur.toList.take (n * 1))[j]? = some xs[j] := by rw [ht]; exact List.getElem?_eq_getElem hj
      rw [List.getElem?_take_of_lt (by omega)] at this
      simpa using this
    simp [World.cell?, hh, e1]
/-- Between two rounds of the second loop. -/
def R2 (cyc : List Int) (hne : 0 < cyc.length) (w : World) (g : Value → Option Value) (v13 v14 : Value) (wr : World) : Prop :=
  ∃ (j : Nat) (a : Option Addr) (cap : Nat), j ≤ cyc.length ∧ v13 = .slice a j cap ∧ v14 = .int .i64 (cyc[j % cyc.length]'(Nat.mod_lt _ hne)) ∧ wr.ownsRow (w.heap.size + 1 + 1 + 1) 3 1 (.slice a j cap) j ((cyc.take j).map (Value.int .i64)) ∧ MapE Tryz.prog 3 3 wr (w.heap.size + 1) cyc.length g ∧ Ext w wr ∧ w.heap.size + 1 + 1 < wr.heap.size
def lenV : Value → Nat
  | .slice _ n _ => n
  | _ => 0

def OuterEnd (cyc : List Int) (w : World) (e : Ending) (w' : World) : Prop :=
  ∃ b cap, e = .returned (.tuple #[.slice (some ⟨b, 0, none⟩) cyc.length cap, .bool true]) ∧ w.heap.size ≤ b ∧ (∀ j (h : j < cyc.length), w'.cell? ⟨b, j, none⟩ = some (.int .i64 cyc[j])) ∧ Ext w w'

set_option maxRecDepth 100000 in
set_option maxHeartbeats 2000000 in
theorem outer_ok (pv tv : Value) (ob N : Nat) (f : Value → Option Value) (S : List (Int × Int)) (cyc : List Int) (w : World) (hN : N ≤ 1000000) (hSl : S.length ≤ 1000000) (hm : MapF Tryz.prog 158 3 w ob N f) (hf : SidesF S f) (hB : Bd S) (hC : Cyc S cyc) :
    Calls Tryz.prog 179 #[.agg #[pv, tv], .map (some ob)] w (OuterEnd cyc w) := by
  have HB := Lib.hid hB
  have HC := Lib.hid hC
  have HF := Lib.hid hf
  have hob := hm.lt
  have HM := Lib.hid hm
  clear hB hC hf hm
  have hmm := @run_makeMap Tryz.prog
  go_enter Tryz.func179, Tryz.ntmps179
  go_wp2_with (at_range; refine wpList_rangeF _ rfl _ 246 rfl KPair Tryz.underlying246 ob N f rfl ((HM.out.alloc _).alloc _) ?_; intro w0 cnt0 hrg0 hcnt0 hg0 hs0)
  go_frame
  simp only [World.size_alloc]
  have hmE0 : MapE Tryz.prog 3 3 w0 (w.heap.size + 1) 0 (fun _ => none) := by
    have h1 := MapE.made (w.alloc (.cells #[pv, tv] 37)) Tryz.prog 3 3
    rw [World.size_alloc] at h1
    exact h1.kept hg0 (fun e => by cases e)
  have hx0 : Ext w w0 := Below.grown (((Ext.refl w).alloc (.cells #[pv, tv] 37)).alloc (.map #[] 0)) hg0 (by simp; omega) (fun k e => by cases e)
  have hrg0' : RangeF Tryz.prog 158 3 w0 ob (w.heap.size + 1 + 1) N f (fun x => (f x).isSome) cnt0 := by simpa using hrg0
  have hR0 : R1 S w ob N f (.int .i64 (-1)) w0 := ⟨_, _, _, _, _, rfl, ⟨by omega, by omega⟩, hrg0', hmE0, hx0, Lib.hid (P1.start S HF.out)⟩
  clear hrg0 hrg0' hmE0 hg0 hs0
  go_loopw [7] (R1 S w ob N f) (fun _ wr => wr.rangeLeft ob (w.heap.size + 1 + 1))
  case atStart => exact hR0
  case round =>
    obtain ⟨left, cnt, c, first, g, rfl, hfi, hrg, hmE, hx, hP⟩ := hrel
    have hsz : w.heap.size + 1 + 1 < wr.heap.size := hrg.lt
    go_wp2_with (at_next; go_loud (refine wpList_nextF _ rfl _ rfl KPair (fun p : Int × Int => Value.agg #[.int .i64 p.1, .int .i64 p.2]) (Value.int .i64) (fun key kl h => by obtain ⟨a, b, h1, _⟩ := key_pair_inv h; exact ⟨(a, b), h1⟩) (fun v y h => elem_int_inv h) ob (w.heap.size + 1 + 1) N f left cnt rfl hrg (fun hdone => Hid.out ?_) (fun p cv w1 cnt1 hkp hlp hfp hrg1 hlt1 hg1 hs1 hen => Hid.out ?_)))
    · refine Lib.hid ?_
      have hl : ∀ p ∈ S, left (sk p) = false := fun p hp => by
        obtain ⟨h1, h2⟩ := HB.out.i64 p hp
        obtain ⟨kl, hk⟩ := key_pair h1 h2
        exact hdone _ kl hk
      obtain ⟨rfl, rfl, hnx⟩ := hP.out.over HC.out hl
      have HNX := Lib.hid hnx
      have hne := HC.out.ne
      have hcy : ∀ c ∈ cyc, I64 c := fun c hc => by
        obtain ⟨j, hj, e⟩ := List.mem_iff_getElem.1 hc
        have hb : bnd S (cyc[j], cyc[(j + 1) % cyc.length]'(Nat.mod_lt _ hne)) := (HC.out.all _).2 ⟨j, hj, rfl⟩
        have := (HB.out.i64 _ hb.1).1
        rw [← e]; exact this
      have HCY := Lib.hid hcy
      have hcl : cyc.length ≤ 1000000 := by rw [← HC.out.len]; exact Nat.le_trans (List.length_filter_le _ _) hSl
      have hR0 : R2 cyc hne w g (.slice none 0 0) (.int .i64 (cyc[0]'hne)) wr := ⟨0, none, 0, by omega, rfl, by simp, ⟨by simp, .inl ⟨rfl, rfl⟩⟩, hmE, hx, hsz⟩
      clear hrg hmE hx hsz hP hl hnx hcy hdone hfi
      generalize hF : cyc[0]'hne = F at *
      have HF2 := Lib.hid hF
      clear hF
      obtain ⟨i0, hi0, hz0, hz1, hz2⟩ := info_parts info_int
      go_wp2_with fail
      go_loopw [13, 14] (R2 cyc hne w g) (fun v _ _ => cyc.length - lenV v)
      case atStart => exact hR0
      case round =>
        obtain ⟨j, a, cap, hj, rfl, rfl, hown, hmE, hx, hsz⟩ := hrel
        have hlen : (Builtin.len_ #[290] 3 #[.map (some (w.heap.size + 1))]).run Tryz.prog wr = .ok (.int .i64 cyc.length) wr := hmE.len Tryz.underlying290 3
        by_cases hlt : j < cyc.length
        · have hmod : j % cyc.length = j := Nat.mod_eq_of_lt hlt
          have hA : cyc[j % cyc.length]'(Nat.mod_lt _ hne) = cyc[j] := by simp only [hmod]
          rw [hA]
          have hg := HNX.out j hlt
          have hI := HCY.out _ (List.getElem_mem hlt)
          have hI2 := HCY.out _ (List.getElem_mem (Nat.mod_lt (j + 1) hne))
          have htk := Lib.hid (show (cyc.take (j + 1)).map (Value.int .i64) = (cyc.take j).map (Value.int .i64) ++ [.int .i64 cyc[j]] by rw [List.take_succ_eq_append_getElem hlt, List.map_append]; rfl)
          have hAF : 0 < j → cyc[j] ≠ F := fun h0 e => by
            have h1 : cyc[j] = cyc[0]'hne := e.trans HF2.out.symm
            have := nodup_inj HC.out.nd hlt hne h1
            omega
          have hAF0 : j = 0 → cyc[j] = F := fun h0 => by subst h0; exact HF2.out
          generalize hB2 : cyc[(j + 1) % cyc.length]'(Nat.mod_lt _ hne) = B at *
          generalize cyc[j] = A at *
          obtain ⟨ka, hka⟩ := key_int hI
          have hl1 : (Instr.lookup 290 (.map (some (w.heap.size + 1))) (.int .i64 A) true).run Tryz.prog wr = .ok (.tuple #[.int .i64 B, .bool true]) wr :=
            (hmE.toF.look_some KInt Tryz.underlying290 (Tryz.zeroValue3 _) (plainElem_int Tryz.underlying3 (by decide)) hka hg).1
          have HB3 := Lib.hid hB2
          have HI := Lib.hid hI
          have HRL : ∀ (v' : Value) (w' : World), w'.ownsRow (w.heap.size + 1 + 1 + 1) 3 1 v' (j + 1) ((cyc.take j).map (Value.int .i64) ++ [.int .i64 A]) → (wr.alloc (.cells #[.int .i64 A] 3)).grownBy w' (Value.slice a j cap).ownBlock →
              (∃ q c', v' = .slice (some ⟨q, 0, none⟩) (j + 1) c') ∧ (Instr.lookup 290 (.map (some (w.heap.size + 1))) (.int .i64 A) false).run Tryz.prog w' = .ok (.int .i64 B) w' ∧ R2 cyc hne w g v' (.int .i64 B) w' ∧ lenV v' = j + 1 := by
            intro v' w' h1 h2
            have hv : ∃ q c', v' = .slice (some ⟨q, 0, none⟩) (j + 1) c' := by
              rcases h1.2 with ⟨_, h⟩ | ⟨q, c', cur, h, _⟩
              · omega
              · exact ⟨q, c', h⟩
            have hbl : ∀ k, (Value.slice a j cap).ownBlock = some k → w.heap.size + 1 + 1 + 1 ≤ k := fun k hk => by
              rcases hown.2 with ⟨h, _⟩ | ⟨q, c', cur, h, hb, _⟩
              · rw [h] at hk; cases hk
              · rw [h] at hk; simp only [Value.ownBlock, Option.some.injEq] at hk; omega
            have hE : MapE Tryz.prog 3 3 w' (w.heap.size + 1) cyc.length g := (hmE.alloc _).kept h2 (fun e => by have := hbl _ e.symm; omega)
            have hX : Ext w w' := Below.grown (hx.alloc _) h2 (hx.alloc _).size (fun k e => by have := hbl k e; omega)
            refine ⟨hv, (hE.toF.look_some KInt Tryz.underlying290 (Tryz.zeroValue3 _) (plainElem_int Tryz.underlying3 (by decide)) hka hg).2, ?_, ?_⟩
            · obtain ⟨q, c', rfl⟩ := hv
              refine ⟨j + 1, some ⟨q, 0, none⟩, c', hlt, rfl, by rw [hB2], ?_, hE, hX, ?_⟩
              · rw [htk.out]; exact h1
              · have := h2.size; simp at this; omega
            · obtain ⟨q, c', rfl⟩ := hv; rfl
          have HRL2 := Lib.hid HRL
          have howa := hown.alloc (.cells #[.int .i64 A] 3)
          have hob2 := Lib.hid hob
          clear hB2 hmod hA hI hI2 hg HRL hmE hown hob
          by_cases h0 : j = 0
          · have hAF1 : (A == F) = true := by rw [hAF0 h0]; simp
            subst h0
            clear hAF hAF0
            go_wp2_with (at_builtin; go_loud (refine wpList_append_own _ rfl _ _ 74 rfl (w.heap.size + 1 + 1 + 1) 3 i0 (.int .i64 0) 1 8 Tryz.underlying74 hi0 hz0 hz1 hz2 rfl (by decide) _ _ _ rfl howa ⟨wr.heap.size, 0, none⟩ 1 1 [.int .i64 A] rfl rfl (cell_one_new _ _ _) (by simp [Value.oneCell']) (by unfold maxLen; omega) (by omega) (by simp; omega) ?_); intro v' w' hown' hgrow _; obtain ⟨⟨q, c', rfl⟩, hl2, hR, hlv⟩ := HRL2.out v' w' hown' hgrow; have HRr := Lib.hid hR; clear hR hown' hgrow hlv)
            exact ⟨HRr.out, by simp only [lenV]; omega⟩
          · have hAF1 : (A == F) = false := by simpa using hAF (by omega)
            clear hAF hAF0
            go_wp2_with (at_builtin; go_loud (refine wpList_append_own _ rfl _ _ 74 rfl (w.heap.size + 1 + 1 + 1) 3 i0 (.int .i64 0) 1 8 Tryz.underlying74 hi0 hz0 hz1 hz2 rfl (by decide) _ _ _ rfl howa ⟨wr.heap.size, 0, none⟩ 1 1 [.int .i64 A] rfl rfl (cell_one_new _ _ _) (by simp [Value.oneCell']) (by unfold maxLen; omega) (by omega) (by simp; omega) ?_); intro v' w' hown' hgrow _; obtain ⟨⟨q, c', rfl⟩, hl2, hR, hlv⟩ := HRL2.out v' w' hown' hgrow; have HRr := Lib.hid hR; clear hR hown' hgrow hlv)
            exact ⟨HRr.out, by simp only [lenV]; omega⟩
        · obtain rfl : j = cyc.length := by omega
          obtain ⟨q, rfl⟩ : ∃ q, a = some ⟨q, 0, none⟩ := by
            rcases hown.2 with ⟨h, _⟩ | ⟨q, cap', cur, h, _⟩
            · have h2 : cyc.length = 0 := by simp only [Value.slice.injEq] at h; exact h.2.1
              omega
            · simp only [Value.slice.injEq] at h; exact ⟨q, h.1⟩
          have ho := own_cells hown
          rw [List.take_length] at ho
          have HO := Lib.hid ho
          clear ho hown hmE hlt
          go_wp2
          go_ret2
          refine ⟨q, cap, rfl, ?_, fun j hj => ?_, hx⟩
          · have := HO.out.1; omega
          · have := HO.out.2 j (by simpa using hj)
            simpa using this
    · refine Lib.hid ?_
      clear hs1
      obtain ⟨kl, hkl⟩ := hkp
      have hpi : I64 p.1 ∧ I64 p.2 := by
        obtain ⟨a, b, h1, h2, h3⟩ := key_pair_inv hkl
        have := sk_inj (p := p) (q := (a, b)) h1
        rw [this]; exact ⟨h2, h3⟩
      obtain ⟨pa, pb⟩ := p
      have hmE1 := hmE.kept hg1 (fun e => by have := Option.some.inj e; omega)
      have hx1 : Ext w w1 := Below.grown hx hg1 hx.size (fun k e => by have := Option.some.inj e; omega)
      have hl1 := hrg1.left_eq
      have hl0 := hrg.left_eq
      have hpS : (pa, pb) ∈ S := by
        obtain ⟨q, hq, e⟩ := hP.out.keys _ hlp
        rw [show (pa, pb) = q from sk_inj e]; exact hq
      have hsz1 : w.heap.size + 1 + 1 < w1.heap.size := hrg1.lt
      have hcb : c ≤ S.length := by
        rw [hP.out.cnt]; exact Nat.le_trans (List.length_filter_le _ _) (List.length_filter_le _ _)
      obtain ⟨kr, hkr⟩ := key_pair hpi.2 hpi.1
      obtain ⟨ka, hka⟩ := key_int hpi.1
      have hobw : ob < w1.heap.size := by have := hrg1.toF.lt; omega
      have hM2 := hrg1.toF.alloc (.cells #[.int .i64 pa, .int .i64 pb] 158)
      have hE2 := hmE1.alloc (.cells #[.int .i64 pa, .int .i64 pb] 158)
      by_cases hin : (pb, pa) ∈ S
      · obtain ⟨jj, hj⟩ := HF.out.2 _ hin
        have hlk : (Instr.lookup 246 (.map (some ob)) (.agg #[.int .i64 pb, .int .i64 pa]) true).run Tryz.prog (w1.alloc (.cells #[.int .i64 pa, .int .i64 pb] 158)) = .ok (.tuple #[.int .i64 jj, .bool true]) (w1.alloc (.cells #[.int .i64 pa, .int .i64 pb] 158)) :=
          (hM2.look_some KPair Tryz.underlying246 (Tryz.zeroValue3 _) (plainElem_int Tryz.underlying3 (by decide)) hkr hj).1
        have HR : Hid (R1 S w ob N f (.int .i64 first) (w1.alloc (.cells #[.int .i64 pa, .int .i64 pb] 158)) ∧ (w1.alloc (.cells #[.int .i64 pa, .int .i64 pb] 158)).rangeLeft ob (w.heap.size + 1 + 1) < wr.rangeLeft ob (w.heap.size + 1 + 1)) := by
          have hk := hrg1.kept (World.grownBy_alloc w1 (.cells #[.int .i64 pa, .int .i64 pb] 158) none) (by simp) (by simp)
          exact ⟨⟨_, _, _, _, _, rfl, hfi, hk, hE2, hx1.alloc _, Lib.hid (hP.out.skip hlp (fun hb => hb.2 hin))⟩, by rw [hk.left_eq, hl0]; exact hlt1⟩
        clear hM2 hE2 hP hrg1 hrg hmE hmE1 hfp
        go_wp2
        exact HR.out
      · have hbn : bnd S (pa, pb) := ⟨hpS, hin⟩
        obtain ⟨hno, hP2⟩ := hP.out.take HB.out hlp hbn
        have hlk : (Instr.lookup 246 (.map (some ob)) (.agg #[.int .i64 pb, .int .i64 pa]) true).run Tryz.prog (w1.alloc (.cells #[.int .i64 pa, .int .i64 pb] 158)) = .ok (.tuple #[.int .i64 0, .bool false]) (w1.alloc (.cells #[.int .i64 pa, .int .i64 pb] 158)) :=
          (hM2.look_none KPair Tryz.underlying246 (Tryz.zeroValue3 _) (plainElem_int Tryz.underlying3 (by decide)) hkr (HF.out.1 (sk (pb, pa)) (fun q hq e => hin (by rw [sk_inj e]; exact hq)))).1
        have hlk2 : (Instr.lookup 290 (.map (some (w.heap.size + 1))) (.int .i64 pa) true).run Tryz.prog (w1.alloc (.cells #[.int .i64 pa, .int .i64 pb] 158)) = .ok (.tuple #[.int .i64 0, .bool false]) (w1.alloc (.cells #[.int .i64 pa, .int .i64 pb] 158)) :=
          (hE2.toF.look_none KInt Tryz.underlying290 (Tryz.zeroValue3 _) (plainElem_int Tryz.underlying3 (by decide)) hka hno).1
        obtain ⟨w2, hup, hE3, hg2⟩ := hE2.update_new KInt Tryz.underlying290 (val := .int .i64 pb) (by unfold maxLen; omega) hka (plainElem_int Tryz.underlying3 hpi.2.wf) hno
        have hbx : w2.heap[w1.heap.size]? = some (.cells #[.int .i64 pa, .int .i64 pb] 158) := by
          rw [hg2.block w1.heap.size (by simp) (fun e => by have := Option.some.inj e; omega)]
          exact World.alloc_heap_new w1 _
        have b0 : w2.cell? ⟨w1.heap.size, 0, none⟩ = some (.int .i64 pa) := by simp [World.cell?, hbx]
        have b1 : w2.cell? ⟨w1.heap.size, 1, none⟩ = some (.int .i64 pb) := by simp [World.cell?, hbx]
        have HR : ∀ fst, fst = (if first < 0 ∨ pa < first then pa else first) → I64 fst → R1 S w ob N f (.int .i64 fst) w2 ∧ w2.rangeLeft ob (w.heap.size + 1 + 1) < wr.rangeLeft ob (w.heap.size + 1 + 1) := by
          intro fst hfst hfi
          have hk := (hrg1.kept (World.grownBy_alloc w1 (.cells #[.int .i64 pa, .int .i64 pb] 158) none) (by simp) (by simp)).kept hg2 (fun e => by have := Option.some.inj e; omega) (fun e => by have := Option.some.inj e; omega)
          refine ⟨⟨_, _, _, _, _, rfl, hfi, hk, hE3, Below.grown (hx1.alloc _) hg2 (hx1.alloc _).size (fun k e => by have := Option.some.inj e; omega), Lib.hid ?_⟩, by rw [hk.left_eq, hl0]; exact hlt1⟩
          rw [hfst]; exact hP2
        have HRh := Lib.hid HR
        have hpi1 := hpi.1
        have hf0 := hfi.1
        have hf1 := hfi.2
        have HI1 := Lib.hid hpi
        have HI2 := Lib.hid hfi
        clear HR hM2 hE2 hE3 hP2 hP hrg1 hrg hmE hmE1 hfp hno hbx hpi hpi1 hfi hl0 hl1
        by_cases c1 : first < 0
        · have d1 : decide (first < 0) = true := decide_eq_true c1
          have HR2 := Lib.hid (HRh.out pa (by rw [if_pos (.inl c1)]) HI1.out.1)
          clear c1 HRh
          go_wp2
          exact HR2.out
        · have d1 : decide (first < 0) = false := decide_eq_false c1
          by_cases c2 : pa < first
          · have d2 : decide (pa < first) = true := decide_eq_true c2
            have HR2 := Lib.hid (HRh.out pa (by rw [if_pos (.inr c2)]) HI1.out.1)
            clear c1 c2 HRh
            go_wp2
            exact HR2.out
          · have d2 : decide (pa < first) = false := decide_eq_false c2
            have HR2 := Lib.hid (HRh.out first (by rw [if_neg (by omega)]) HI2.out)
            clear c1 c2 HRh
            go_wp2
            exact HR2.out
end Go.Proofs.YtbiffaciinppiaaGreatDoor
end

section
namespace Go.Proofs.YtbiffaciinppiaaGreatDoor
open Go.RowKit
attribute [local go_sem] fld_x fld_y

/-- The points of a mesh in memory. -/
def PtsIn (w : World) (b o : Nat) (l : List (Rat × Rat)) : Prop := ∀ i (h : i < l.length), w.cell? ⟨b, o + i * 2, none⟩ = some (.string (tQ l[i].1)) ∧ w.cell? ⟨b, o + i * 2 + 1, none⟩ = some (.string (tQ l[i].2))
theorem PtsIn.ext {w W : World} {b o : Nat} {l : List (Rat × Rat)} (h : PtsIn w b o l) (hx : Ext w W) : PtsIn W b o l := fun i hi => ⟨hx.cell (h i hi).1, hx.cell (h i hi).2⟩

/-- The captured variables of point: the mesh, the cycle, and its length. -/
structure Cap (w : World) (mb cb nb : Nat) (pts : List (Rat × Rat)) (cyc : List Int) : Prop where
  m : ∃ pb po pc, w.cell? ⟨mb, 0, none⟩ = some (.slice (some ⟨pb, po, none⟩) pts.length pc) ∧ PtsIn w pb po pts
  c : ∃ qb qc, w.cell? ⟨cb, 0, none⟩ = some (.slice (some ⟨qb, 0, none⟩) cyc.length qc) ∧ ∀ j (h : j < cyc.length), w.cell? ⟨qb, j, none⟩ = some (.int .i64 cyc[j])
  n : w.cell? ⟨nb, 0, none⟩ = some (.int .i64 cyc.length)
theorem Cap.ext {w W : World} {mb cb nb : Nat} {pts : List (Rat × Rat)} {cyc : List Int} (h : Cap w mb cb nb pts cyc) (hx : Ext w W) : Cap W mb cb nb pts cyc := by
  obtain ⟨pb, po, pc, h1, h2⟩ := h.m
  obtain ⟨qb, qc, h3, h4⟩ := h.c
  exact ⟨⟨pb, po, pc, hx.cell h1, h2.ext hx⟩, ⟨qb, qc, hx.cell h3, fun j hj => hx.cell (h4 j hj)⟩, hx.cell h.n⟩

/-- The point of a place of a cycle. -/
def ptAt (pts : List (Rat × Rat)) (cyc : List Int) (i : Nat) : Rat × Rat := pts.getD (cyc.getD (i % cyc.length) 0).toNat (0, 0)

/-- The second place lies above the first, or beside it to the right. -/
def upQ (a b : Rat × Rat) : Bool := decide (0 < cmpQ b.2 a.2) || (decide (cmpQ b.2 a.2 = 0) && decide (0 < cmpQ b.1 a.1))
theorem ptAt_gp {N D : Nat} {pts : List (Rat × Rat)} {cyc : List Int} (hg : ∀ p ∈ pts, GP N D p) (hn : 0 < cyc.length) (hin : ∀ c ∈ cyc, 0 ≤ c ∧ c < pts.length) (i : Nat) : GP N D (ptAt pts cyc i) := by
  have hm : i % cyc.length < cyc.length := Nat.mod_lt _ hn
  obtain ⟨q1, q2⟩ := hin _ (List.getElem_mem hm)
  obtain ⟨k, hk⟩ : ∃ k : Nat, cyc[i % cyc.length] = k := ⟨_, (Int.toNat_of_nonneg q1).symm⟩
  rw [hk] at q2
  have hk2 : k < pts.length := by omega
  have : ptAt pts cyc i = pts[k] := by
    unfold ptAt
    rw [List.getD_eq_getElem?_getD (l := cyc), List.getElem?_eq_getElem hm, Option.getD_some, hk]
    simp [hk2]
  rw [this]
  exact hg _ (List.getElem_mem hk2)

set_option maxRecDepth 100000 in
set_option maxHeartbeats 1000000 in
theorem point_calls (pts : List (Rat × Rat)) (cyc : List Int) (i : Nat) (mb cb nb : Nat) (w : World) (hc : Cap w mb cb nb pts cyc) (_hi : i ≤ 2000000) (hn : 0 < cyc.length) (hl : cyc.length ≤ 1000000) (hin : ∀ c ∈ cyc, 0 ≤ c ∧ c < pts.length) :
    Calls Tryz.prog 214 #[.int .i64 i, .pointer (some ⟨mb, 0, none⟩), .pointer (some ⟨cb, 0, none⟩), .pointer (some ⟨nb, 0, none⟩)] w (Ret (ptV (ptAt pts cyc i)) w) := by
  obtain ⟨pb, po, pc, h1, h2⟩ := hc.m
  obtain ⟨qb, qc, h3, h4⟩ := hc.c
  have h5 := hc.n
  have hm : i % cyc.length < cyc.length := Nat.mod_lt _ hn
  have h6 := h4 _ hm
  obtain ⟨q1, q2⟩ := hin _ (List.getElem_mem hm)
  obtain ⟨k, hk⟩ : ∃ k : Nat, cyc[i % cyc.length] = k := ⟨_, (Int.toNat_of_nonneg q1).symm⟩
  rw [hk] at h6 q2
  have hk2 : k < pts.length := by omega
  obtain ⟨h7, h8⟩ := h2 k hk2
  have hval : ptAt pts cyc i = pts[k] := by
    unfold ptAt
    rw [List.getD_eq_getElem?_getD (l := cyc), List.getElem?_eq_getElem hm, Option.getD_some, hk]
    simp [hk2]
  rw [hval]
  generalize pts[k] = pq at *
  have HC := Lib.hid hc
  obtain ⟨n, hN⟩ : ∃ n, n = cyc.length := ⟨_, rfl⟩
  obtain ⟨M, hM⟩ : ∃ M, M = pts.length := ⟨_, rfl⟩
  obtain ⟨r, hr⟩ : ∃ r, r = i % cyc.length := ⟨_, rfl⟩
  rw [← hr] at h6
  rw [← hN] at h3 h5 hl hn hr
  rw [← hM] at h1 hk2
  have hrn : r < n := by rw [hr]; exact Nat.mod_lt _ hn
  have z1 : ¬ n = 0 := by omega
  have htm : (i : Int).tmod (n : Int) = (r : Int) := by rw [hr]; rfl
  clear hval hk h2 h4 hm hin q1 q2 hc hN hM hr
  go_enter Tryz.func214, Tryz.ntmps214
  go_wp2
  refine wp_region_still_tail 10 (by kernel_rfl) (by kernel_rfl) ?_
  simp only [List.take_succ_cons, List.take_zero, List.drop_succ_cons, List.drop_zero]
  change wpStill _ _ (World.drew (w.alloc (.cells #[.string ⟨#[]⟩, .string ⟨#[]⟩] 91))) (fun a' => wpList _ _ _ _ a' (World.drew (w.alloc (.cells #[.string ⟨#[]⟩, .string ⟨#[]⟩] 91)))) _ _
  have X : Ext w (World.drew (w.alloc (.cells #[.string ⟨#[]⟩, .string ⟨#[]⟩] 91))) := ((Ext.refl w).alloc _).drew
  have k1 := X.cell h1
  have k3 := X.cell h3
  have k5 := X.cell h5
  have k6 := X.cell h6
  have k7 := X.cell h7
  have k8 := X.cell h8
  have r0 : (World.drew (w.alloc (.cells #[.string ⟨#[]⟩, .string ⟨#[]⟩] 91))).cell? ⟨w.heap.size, 0, none⟩ = some (.string ⟨#[]⟩) := by simp [go_sem]
  have r1 : (World.drew (w.alloc (.cells #[.string ⟨#[]⟩, .string ⟨#[]⟩] 91))).cell? ⟨w.heap.size, 1, none⟩ = some (.string ⟨#[]⟩) := by simp [go_sem]
  have f0 : (World.drew (w.alloc (.cells #[.string ⟨#[]⟩, .string ⟨#[]⟩] 91))).frozen? ⟨w.heap.size, 0, none⟩ = false := by simp [go_sem]
  have f1 : (World.drew (w.alloc (.cells #[.string ⟨#[]⟩, .string ⟨#[]⟩] 91))).frozen? ⟨w.heap.size, 1, none⟩ = false := by simp [go_sem]
  have hb : (World.drew (w.alloc (.cells #[.string ⟨#[]⟩, .string ⟨#[]⟩] 91))).heap[w.heap.size]? = some (.cells #[.string ⟨#[]⟩, .string ⟨#[]⟩] 91) := World.alloc_heap_new w _
  generalize World.drew (w.alloc (.cells #[.string ⟨#[]⟩, .string ⟨#[]⟩] 91)) = wd at *
  clear h1 h3 h5 h6 h7 h8
  repeat still_step
  refine wpStill_nil ?_
  go_wp2
  have s0 : wd.heap[w.heap.size]? = some (.cells #[.string ⟨#[]⟩, .string ⟨#[]⟩] 91) := hb
  refine bodyPost_ret (v := ptV pq) ?_ rfl ⟨rfl, ?_⟩
  · have z0 : (wd.setCell ⟨w.heap.size, 0, none⟩ (.string (tQ pq.1))).cell? ⟨w.heap.size, 1, none⟩ = some (.string ⟨#[]⟩) := by rw [World.cell?_setCell_other _ _ _ _ (by simp)]; exact r1
    have z1 : ((wd.setCell ⟨w.heap.size, 0, none⟩ (.string (tQ pq.1))).setCell ⟨w.heap.size, 1, none⟩ (.string (tQ pq.2))).cell? ⟨w.heap.size, 0, none⟩ = some (.string (tQ pq.1)) := by
      rw [World.cell?_setCell_other _ _ _ _ (by simp)]; exact World.cell?_setCell_same _ _ _ r0
    have z2 := World.cell?_setCell_same _ _ (.string (tQ pq.2)) z0
    simp [results, Tryz.results214, go_sem, ptV, z1, z2]
  · exact (X.setCell (by show w.heap.size ≤ w.heap.size; omega) _).setCell (by show w.heap.size ≤ w.heap.size; omega) _

theorem cmpQ_cases (a b : Rat) : cmpQ a b = 1 ∨ cmpQ a b = 0 ∨ cmpQ a b = -1 := by unfold cmpQ; split; · simp
                                                                                   split <;> simp
def US (ub : Nat) (u : Value) (w w' : World) : Prop := w'.cell? ⟨ub, 0, none⟩ = some u ∧ Below w.heap.size w w'
theorem US.start {ub : Nat} {u : Value} {w : World} (h : w.cell? ⟨ub, 0, none⟩ = some u) : US ub u w w.drew := ⟨h, (Ext.refl w).drew⟩
theorem US.step {ub : Nat} {u : Value} {w a b : World} (h : US ub u w a) (hb : Ext a b) : US ub u w b := ⟨hb.cell h.1, Ext.trans h.2 hb⟩
theorem US.drew {ub : Nat} {u : Value} {w a : World} (h : US ub u w a) : US ub u w a.drew := ⟨h.1, Ext.drew h.2⟩
theorem US.bel {ub : Nat} {u : Value} {w a : World} (h : US ub u w a) : Ext w a := h.2

set_option maxRecDepth 100000 in
set_option maxHeartbeats 1000000 in
theorem upper_calls (N D : Nat) (hF : Fine N D) (pts : List (Rat × Rat)) (cyc : List Int) (i : Nat) (ub mb cb nb : Nat) (w : World) (g : Glob w) (hc : Cap w mb cb nb pts cyc) (hi : i ≤ 1999990) (hn : 0 < cyc.length) (hl : cyc.length ≤ 1000000) (hin : ∀ c ∈ cyc, 0 ≤ c ∧ c < pts.length) 
    (hg : ∀ p ∈ pts, GP N D p) (hu : w.cell? ⟨ub, 0, none⟩ = some (.func (.func 214) #[] #[.pointer (some ⟨mb, 0, none⟩), .pointer (some ⟨cb, 0, none⟩), .pointer (some ⟨nb, 0, none⟩)])) :
    Calls Tryz.prog 215 #[.int .i64 i, .pointer (some ⟨ub, 0, none⟩)] w (Ret (.bool (upQ (ptAt pts cyc i) (ptAt pts cyc (i + 1)))) w) := by
  have HP := Lib.hid (fun (j : Nat) (z : Int) (hz : z = (j : Int)) (hj : j ≤ 2000000) W (X : Ext w W) => show Calls Tryz.prog 214 #[.int .i64 z, .pointer (some ⟨mb, 0, none⟩), .pointer (some ⟨cb, 0, none⟩), .pointer (some ⟨nb, 0, none⟩)] W _ from hz ▸ point_calls pts cyc j mb cb nb W (hc.ext X) hj hn hl hin)
  have H1 := Lib.hid (fun W (X : Ext w W) => HP.out i _ rfl (by omega) W X)
  have H2 := Lib.hid (fun W (X : Ext w W) => HP.out (i + 1) (IntKind.i64.wrap (↑i + 1)) (by rw [IntKind.wrap_i64]; omega) (by omega) W X)
  have P1 := ptAt_gp hg hn hin i
  have P2 := ptAt_gp hg hn hin (i + 1)
  have d1 := P1.1.dg (by have := hF.n; omega) hF.n.2
  have d2 := P1.2.dg (by have := hF.n; omega) hF.n.2
  have d3 := P2.1.dg (by have := hF.n; omega) hF.n.2
  have d4 := P2.2.dg (by have := hF.n; omega) hF.n.2
  generalize ptAt pts cyc i = a at *
  generalize ptAt pts cyc (i + 1) = b at *
  clear HP P1 P2 hg hin hc hF
  obtain ⟨ax, ay⟩ := a
  obtain ⟨bx, bY⟩ := b
  simp only [ptV, upQ] at *
  have HC1 := Lib.hid (fun W (X : Ext w W) => rCompare bY ay W (g.ext X) d4 d2)
  have HC2 := Lib.hid (fun W (X : Ext w W) => rCompare bx ax W (g.ext X) d3 d1)
  generalize cmpQ bx ax = v2 at *
  have hv := cmpQ_cases bY ay
  generalize cmpQ bY ay = v at *
  clear g d1 d2 d3 d4
  rcases hv with rfl | rfl | rfl
  · go_enter Tryz.func215, Tryz.ntmps215
    go_wp2_with fail
    go_region_held3 (fun w' => w'.cell? ⟨ub, 0, none⟩ = some (.func (.func 214) #[] #[.pointer (some ⟨mb, 0, none⟩), .pointer (some ⟨cb, 0, none⟩), .pointer (some ⟨nb, 0, none⟩)]) ∧ Below w.heap.size w w')
      (first | exact US.start hu | exact US.step (by assumption) hb | exact US.drew (by assumption))
      (first | (go_at_call 214; (with_reducible refine (H1.out _ ?hx).mono ?_); (case hx => exact US.bel (by assumption)); rintro e w' ⟨rfl, hb⟩) | (go_at_call 214; (with_reducible refine (H2.out _ ?hx).mono ?_); (case hx => exact US.bel (by assumption)); rintro e w' ⟨rfl, hb⟩) | (go_at_call 116; (with_reducible refine (HC1.out _ ?hx).mono ?_); (case hx => exact US.bel (by assumption)); rintro e w' ⟨rfl, hb⟩) | (go_at_call 116; (with_reducible refine (HC2.out _ ?hx).mono ?_); (case hx => exact US.bel (by assumption)); rintro e w' ⟨rfl, hb⟩))
    go_wp2_with fail
    go_quiet (fail)
    go_wp2_with fail
    go_ret
    exact ⟨rfl, Ext.drewN (US.bel (by assumption)) _⟩
  · go_enter Tryz.func215, Tryz.ntmps215
    go_wp2_with fail
    go_region_held3 (fun w' => w'.cell? ⟨ub, 0, none⟩ = some (.func (.func 214) #[] #[.pointer (some ⟨mb, 0, none⟩), .pointer (some ⟨cb, 0, none⟩), .pointer (some ⟨nb, 0, none⟩)]) ∧ Below w.heap.size w w')
      (first | exact US.start hu | exact US.step (by assumption) hb | exact US.drew (by assumption))
      (first | (go_at_call 214; (with_reducible refine (H1.out _ ?hx).mono ?_); (case hx => exact US.bel (by assumption)); rintro e w' ⟨rfl, hb⟩) | (go_at_call 214; (with_reducible refine (H2.out _ ?hx).mono ?_); (case hx => exact US.bel (by assumption)); rintro e w' ⟨rfl, hb⟩) | (go_at_call 116; (with_reducible refine (HC1.out _ ?hx).mono ?_); (case hx => exact US.bel (by assumption)); rintro e w' ⟨rfl, hb⟩) | (go_at_call 116; (with_reducible refine (HC2.out _ ?hx).mono ?_); (case hx => exact US.bel (by assumption)); rintro e w' ⟨rfl, hb⟩))
    go_wp2_with fail
    go_region_held3 (fun w' => w'.cell? ⟨ub, 0, none⟩ = some (.func (.func 214) #[] #[.pointer (some ⟨mb, 0, none⟩), .pointer (some ⟨cb, 0, none⟩), .pointer (some ⟨nb, 0, none⟩)]) ∧ Below w.heap.size w w')
      (first | exact US.start hu | exact US.step (by assumption) hb | exact US.drew (by assumption))
      (first | (go_at_call 214; (with_reducible refine (H1.out _ ?hx).mono ?_); (case hx => exact US.bel (by assumption)); rintro e w' ⟨rfl, hb⟩) | (go_at_call 214; (with_reducible refine (H2.out _ ?hx).mono ?_); (case hx => exact US.bel (by assumption)); rintro e w' ⟨rfl, hb⟩) | (go_at_call 116; (with_reducible refine (HC1.out _ ?hx).mono ?_); (case hx => exact US.bel (by assumption)); rintro e w' ⟨rfl, hb⟩) | (go_at_call 116; (with_reducible refine (HC2.out _ ?hx).mono ?_); (case hx => exact US.bel (by assumption)); rintro e w' ⟨rfl, hb⟩))
    go_wp2_with fail
    go_ret
    exact ⟨rfl, US.bel (by assumption)⟩
  · go_enter Tryz.func215, Tryz.ntmps215
    go_wp2_with fail
    go_region_held3 (fun w' => w'.cell? ⟨ub, 0, none⟩ = some (.func (.func 214) #[] #[.pointer (some ⟨mb, 0, none⟩), .pointer (some ⟨cb, 0, none⟩), .pointer (some ⟨nb, 0, none⟩)]) ∧ Below w.heap.size w w')
      (first | exact US.start hu | exact US.step (by assumption) hb | exact US.drew (by assumption))
      (first | (go_at_call 214; (with_reducible refine (H1.out _ ?hx).mono ?_); (case hx => exact US.bel (by assumption)); rintro e w' ⟨rfl, hb⟩) | (go_at_call 214; (with_reducible refine (H2.out _ ?hx).mono ?_); (case hx => exact US.bel (by assumption)); rintro e w' ⟨rfl, hb⟩) | (go_at_call 116; (with_reducible refine (HC1.out _ ?hx).mono ?_); (case hx => exact US.bel (by assumption)); rintro e w' ⟨rfl, hb⟩) | (go_at_call 116; (with_reducible refine (HC2.out _ ?hx).mono ?_); (case hx => exact US.bel (by assumption)); rintro e w' ⟨rfl, hb⟩))
    go_wp2_with fail
    go_quiet (fail)
    go_wp2_with fail
    go_ret
    exact ⟨rfl, Ext.drewN (US.bel (by assumption)) _⟩
end Go.Proofs.YtbiffaciinppiaaGreatDoor
end
