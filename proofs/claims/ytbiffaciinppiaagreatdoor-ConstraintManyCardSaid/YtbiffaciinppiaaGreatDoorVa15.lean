/- A region whose first operations only read and whose last ones stand in one order, inside a fence that lets everything by, in a round of a loop over a function too: one walk (after the kit's law for a walk without a fence). No program. A region in a round of a loop over a function: its loads may be taken first though its last operation writes what they read (after the kit's OrdersHeld, with a condition that ends at that operation). No program. -/
import Derived.StillTail
import Derived.RangeFuncCalls
import Derived.StillTactics
import Derived.StillTailTactics
import Derived.OrdersIn
import Derived.TacticsIn
import Derived.OrdersHeld
import Derived.RegionTactic
import Derived.Lib.Hide
set_option linter.unusedVariables false
set_option linter.unusedSimpArgs false
section
namespace Go.Proofs.YtbiffaciinppiaaGreatDoor

section
variable {P : Program} {ops : Array Oper} {md : Region.Mode} {w : World} {n : Nat} {F : Fence}

/-- A fence that lets everything by. -/
structure Lets (F : Fence) (P : Program) (n : Nat) : Prop where
  fn : ∀ f, F.fn f
  depth : F.depth = none
  calls : ∀ f args w R, Calls P f args w R → CallsIn F (n - 1) P f args w R
theorem Lets.round (P : Program) (n l : Nat) : Lets (Fence.wide.inRound l) P n := ⟨fun _ => trivial, rfl, fun _ _ _ _ h => CallsIn.inRound l (callsIn_wide.2 h)⟩
theorem still_no_defer {o : Oper} {a : Act} {K : Act → Prop} (hh : o.still P a w K) : ∀ c, o.op ≠ .defer c := by
  intro c hc
  unfold Oper.still at hh
  simp [execOp, hc] at hh
  cases hr : (resolve a.eval c o.type).run P w <;> simp [hr, Result.andThen, Oper.stillUpon] at hh

theorem wpIn_of_still2 (L : Lets F P n) {o : Oper} {a : Act} {K : Act → Prop} {K' : Act → World → Prop} {Q' : Exit → Act → World → Prop} (h : ∀ a, K a → K' a w) (hh : o.still P a w K) : o.wpIn F n P a w K' Q' := by
  refine ⟨fun f _ => L.fn f, ?_⟩
  have hnd := still_no_defer hh
  unfold Oper.still at hh
  rw [Oper.semAt_eq _ _ _ hnd]
  generalize (execOp a.eval o).run P w = r at *
  cases r with
  | ok n w' =>
    cases n <;> simp only [Oper.stillUpon] at hh <;> simp only [Oper.uponIn]
    case enter f args =>
      obtain ⟨rfl, v, hc, hn⟩ := hh
      exact ⟨fun hd => (by rw [L.depth] at hd; cases hd), (L.calls _ _ _ _ hc).mono fun e w'' ⟨he, hw⟩ => by subst he; subst hw; exact h _ hn⟩
    all_goals (obtain ⟨rfl, h2⟩ := hh; exact h _ h2)
  | halt x w' => simp only [Oper.stillUpon] at hh

theorem wpOpIn_of_stOp2 (L : Lets F P n) {i : Nat} {a : Act} {K : Act → Prop} {K' : Act → World → Prop} {Q' : Exit → Act → World → Prop} (h : ∀ a, K a → K' a w) (hh : stOp P ops w i K a) : wpOpIn F n P ops Q' i K' a w := by
  unfold stOp at hh
  unfold wpOpIn
  split
  · rename_i ho; simp only [ho] at hh; exact h _ hh
  · rename_i o ho
    simp only [ho] at hh
    split
    · rename_i hw; simp only [hw, if_true] at hh; exact wpIn_of_still2 L h hh
    · rename_i hw; simp only [hw] at hh; exact ⟨fun f _ => L.fn f, h _ hh⟩

theorem wpAnyIn_of_head2 (L0 : Lets F P n) {m g : Nat} {L : Array Bool → Act → Prop} {Q' : Exit → Act → World → Prop} (hL : ∀ listed a, L listed a → wpAnyIn F n P md ops Q' g listed a w) :
    ∀ (f : Nat) (listed : Array Bool) (a : Act), wpAnyL P md ops w m L f listed a → wpAnyIn F n P md ops Q' (f + g) listed a w
  | 0, listed, a, h => by rw [Nat.zero_add]; exact hL _ _ h
  | f + 1, listed, a, h => by
    rw [show f + 1 + g = (f + g) + 1 by omega]
    exact ⟨fun h0 => absurd h0 h.1, fun i hi => wpOpIn_of_stOp2 L0 (fun a' h' => wpAnyIn_of_head2 L0 hL f _ a' h') (h.2 i hi).2⟩

theorem wpAnyIn_of_seq2 (L : Lets F P n) {Q' : Exit → Act → World → Prop} : ∀ (l : List Oper) (k : Nat) (listed : Array Bool) (a : Act) (w : World), (∀ j, l[j]? = ops[k + j]?) →
    Region.seqB md ops l.length k listed = true → wpListIn F n P ops Q' l a w → wpAnyIn F n P md ops Q' l.length listed a w
  | [], _, _, _, _, _, hB, h => ⟨by simpa [Region.seqB] using hB, h⟩
  | o :: l, k, listed, a, w, hl, hB, h => by
    have h0 : ops[k]? = some o := by simpa using (hl 0).symm
    simp only [List.length_cons, Region.seqB, Bool.and_eq_true, decide_eq_true_eq] at hB
    refine ⟨fun h1 => (by rw [hB.1] at h1; cases h1), fun i hi => ?_⟩
    rw [hB.1] at hi
    have hik : i = k := by simpa using hi
    subst hik
    have hw : wpOpIn F n P ops Q' i (wpListIn F n P ops Q' l) a w := by unfold wpOpIn; simp only [h0]; exact h
    exact wpOpIn_mono (fun a' w' h' => wpAnyIn_of_seq2 L l (i + 1) _ a' w' (fun j => by have := hl (j + 1); simpa [Nat.add_assoc, Nat.add_comm 1 j] using this) hB.2 h') hw

theorem wpIn_region_still_tail2 (L : Lets F P n) {id : Nat} {Q : Exit → Act → World → Prop} {a : Act} {w : World} {l : List Oper} (m : Nat) (hm : P.follows .mixedOrders = true) (hB : Region.lexTailB .any l.toArray m = true)
    (h : wpStill P l.toArray { w with drawn := w.drawn + 1 } (fun a' => wpListIn F n P l.toArray Q (l.drop m) a' { w with drawn := w.drawn + 1 }) (l.take m) a) : (Code.region id l.toArray true).wpIn F n P Q a w := by
  simp only [Region.lexTailB, Bool.and_eq_true, decide_eq_true_eq] at hB
  obtain ⟨⟨⟨⟨hsel, hn⟩, hs⟩, hc⟩, hlex⟩ := hB
  have hn' : m < l.length := by simpa using hn
  have htl : (l.take m).length = m := by simp; omega
  have hdl : (l.drop m).length = l.toArray.size - m := by simp
  have inv0 : HeadInv .any l.toArray m (Array.replicate l.toArray.size false) :=
    ⟨by simp, fun j oj _ hl => (by rw [getD_replicate_false] at hl; cases hl), fun t _ ht => getD_in (by simpa using ht) (getD_replicate_false _ _)⟩
  have H := wpAnyL_lex (md := .any) (g := l.toArray.size - m) hsel hs hc hn (l.take m) 0 _ a (fun j hj => by
    have hj' : j < m := by rw [htl] at hj; exact hj
    simp [hj']) (by simpa using htl) inv0 (by rw [htl]; exact hlex) h
  refine wpIn_region_any hm ?_
  have := wpAnyIn_of_head2 L (n := n) (Q' := Q) (g := l.toArray.size - m) (fun listed a' hL => by
    have := wpAnyIn_of_seq2 L (n := n) (md := .any) (Q' := Q) (l.drop m) m listed a' { w with drawn := w.drawn + 1 } (fun j => by simp [List.getElem?_drop]) (by rw [hdl]; exact hL.1) hL.2
    rwa [hdl] at this) _ _ _ H
  rw [htl, show m + (l.toArray.size - m) = l.toArray.size by omega] at this
  exact this
end
end Go.Proofs.YtbiffaciinppiaaGreatDoor
end

section
namespace Go.Proofs.YtbiffaciinppiaaGreatDoor
open Go.RowKit

section
variable {P : Program} {ops : Array Oper} {Q : Exit → Act → World → Prop} {md : Region.Mode} {T : Bool → World → Prop} {z : Nat}

/-- Whatever order is picked from here on; T false holds till operation z, T true behind it. -/
def wpAnyZ (P : Program) (md : Region.Mode) (ops : Array Oper) (Q : Exit → Act → World → Prop) (T : Bool → World → Prop) (z : Nat) : Nat → Array Bool → Act → World → Prop
  | 0, listed, a, w => Region.ready md ops listed = [] ∧ Q .normal a w
  | fuel + 1, listed, a, w =>
    (Region.ready md ops listed = [] → Q .normal a w) ∧
    ∀ i ∈ Region.ready md ops listed, wpOp P ops Q i (fun a' w' => T ((listed.setIfInBounds i true).getD z true) w' ∧ wpAnyZ P md ops Q T z fuel (listed.setIfInBounds i true) a' w') a w
theorem wpAny_of_Z : ∀ (fuel : Nat) (listed : Array Bool) (a : Act) (w : World), wpAnyZ P md ops Q T z fuel listed a w → wpAny P md ops Q fuel listed a w
  | 0, _, _, _, h => h
  | fuel + 1, _, _, _, h => ⟨h.1, fun i hi => wpOp_mono (fun a' w' h' => wpAny_of_Z fuel _ a' w' h'.2) (h.2 i hi)⟩
theorem wpAnyZ_first {i : Nat} {oi : Oper} {v : Value} (hi : ops[i]? = some oi) (hsel : ∀ (j : Nat) (o : Oper) cs b, ops[j]? = some o → o.op ≠ .select cs b)
    (hQ : ∀ c a w, Q (.panic c) (a.put oi.dst v) w → Q (.panic c) a w) {oz : Oper} (hoz : ops[z]? = some oz) (hwz : ∃ e ∈ oz.after, Region.binds md e = true ∧ e.on = i) (hiz : i ≠ z) :
    ∀ (fuel : Nat) (listed : Array Bool) (a : Act) (w : World),
      (∀ j oj, ops[j]? = some oj → j ≠ i → listed.getD j true = false → (∀ e ∈ oj.after, Region.binds md e = true → e.on ≠ i) → oi.apart ops oj = true) →
      listed.getD z true = false → i ∈ Region.ready md ops listed → YieldsIf P ops (T false) oi v a → T false w →
      wpAnyZ P md ops Q T z fuel (listed.setIfInBounds i true) (a.put oi.dst v) w → wpAnyZ P md ops Q T z (fuel + 1) listed a w := by
  intro fuel
  induction fuel with
  | zero =>
    intro listed a w _ hz hr hy hS H
    refine ⟨fun h => (by rw [h] at hr; cases hr), fun j hj => ?_⟩
    by_cases hji : j = i
    · subst hji; exact hy.wpOp hi hS ⟨by rw [getD_set_ne true hiz, hz]; exact hS, H⟩
    · have := ready_mono hj hji
      rw [H.1] at this
      cases this
  | succ fuel ih =>
    intro listed a w hfree hz hr hy hS H
    refine ⟨fun h => (by rw [h] at hr; cases hr), fun j hj => ?_⟩
    by_cases hji : j = i
    · subst hji; exact hy.wpOp hi hS ⟨by rw [getD_set_ne true hiz, hz]; exact hS, H⟩
    · have h1 := H.2 j (ready_mono hj hji)
      obtain ⟨hjun, oj, hoj, hall⟩ := mem_ready.1 hj
      have hnot : ∀ e ∈ oj.after, Region.binds md e = true → e.on ≠ i := fun e he hb heq => by
        have h1 := hall e he hb
        have h0 := (mem_ready.1 hr).1
        rw [heq] at h1
        rcases Nat.lt_or_ge i listed.size with h' | h'
        · simp [h'] at h0 h1; rw [h0] at h1; cases h1
        · simp [Array.getElem?_eq_none h'] at h1
      have hjz : j ≠ z := by
        rintro rfl
        obtain ⟨e, he, hb, he2⟩ := hwz
        rw [hoz] at hoj
        obtain rfl : oz = oj := by simpa using hoj
        exact hnot e he hb he2
      have h2 := wpOp_putIf hoj (hfree j oj hoj hji hjun hnot) (fun cs b => hsel i oi cs b hi) (fun cs b => hsel j oj cs b hoj) hQ hy h1
      have hfree' : ∀ k ok, ops[k]? = some ok → k ≠ i → (listed.setIfInBounds j true).getD k true = false →
          (∀ e ∈ ok.after, Region.binds md e = true → e.on ≠ i) → oi.apart ops ok = true := fun k ok hk hki hun hno => by
        refine hfree k ok hk hki ?_ hno
        by_cases hjk : j = k
        · subst hjk; exact hjun
        · rw [getD_set_ne true hjk] at hun; exact hun
      have hz' : (listed.setIfInBounds j true).getD z true = false := by rw [getD_set_ne true hjz]; exact hz
      refine wpOp_mono (fun a' w' h3 => ?_) h2
      have h4 : T false w' := by
        have := h3.2.1
        rw [Array.setIfInBounds_comm _ _ (Ne.symm hji), getD_set_ne true hiz, hz'] at this
        exact this
      refine ⟨by rw [hz']; exact h4, ih (listed.setIfInBounds j true) a' w' hfree' hz' (ready_mono hr (Ne.symm hji)) h3.1 h4 ?_⟩
      rw [Array.setIfInBounds_comm _ _ hji]
      exact h3.2.2
theorem wpAnyZ_take (z : Nat) {i : Nat} {oi oz : Oper} {v : Value} {fuel : Nat} {listed : Array Bool} {a : Act} {w : World} (hi : ops[i]? = some oi) (hoz : ops[z]? = some oz)
    (hwz : (oz.after.any fun e => Region.binds md e && e.on == i) = true) (hiz : i ≠ z) (hz : listed.getD z true = false)
    (hs : Region.noSelect ops = true) (hf : Region.free md ops listed i = true) (hr : (Region.ready md ops listed).contains i = true)
    (hQ : ∀ c a w, Q (.panic c) (a.put oi.dst v) w → Q (.panic c) a w) (hS : T false w) (hw : Region.wanted oi (yielded ops a.tmps) = true) (hy : ∀ w, T false w → (execOp a.eval oi).run P w = .ok (.value v) w)
    (h : wpAnyZ P md ops Q T z fuel (listed.setIfInBounds i true) (a.put oi.dst v) w) : wpAnyZ P md ops Q T z (fuel + 1) listed a w :=
  wpAnyZ_first hi (Region.noSelect_spec hs) hQ hoz (by
    obtain ⟨e, he, h⟩ := Array.any_iff_exists.1 hwz |> fun ⟨k, hk, _, _, h⟩ => (⟨_, Array.getElem_mem hk, h⟩ : ∃ e ∈ oz.after, (Region.binds md e && e.on == i) = true)
    simp only [Bool.and_eq_true, beq_iff_eq] at h
    exact ⟨e, he, h.1, h.2⟩) hiz fuel listed a w (Region.free_spec hi hf) hz (by simpa using hr) (.inl ⟨hw, hy⟩) hS h
theorem wpAnyZ_one (b : Bool) {i : Nat} {o : Oper} {fuel : Nat} {listed : Array Bool} {a : Act} {w : World} (hr : Region.ready md ops listed = [i]) (hb : (listed.setIfInBounds i true).getD z true = b) (ho : ops[i]? = some o)
    (h : ∀ K' : Act → World → Prop, Hid (∀ a w, T b w → wpAnyZ P md ops Q T z fuel (listed.setIfInBounds i true) a w → K' a w) → if Region.wanted o (yielded ops a.tmps) = true then Oper.wp P o a w K' Q else K' (a.put o.dst undef) w) :
    wpAnyZ P md ops Q T z (fuel + 1) listed a w := by
  refine ⟨fun h0 => (by rw [hr] at h0; cases h0), fun j hj => ?_⟩
  rw [hr] at hj
  obtain rfl : j = i := by simpa using hj
  exact wpOp_step ho (fun K' hK => h K' (Lib.hid (fun a w h1 h2 => hK a w ⟨by rw [hb]; exact h1, h2⟩)))
theorem wpAnyZ_done {listed : Array Bool} {a : Act} {w : World} (hr : Region.ready md ops listed = []) (h : Q .normal a w) : ∀ fuel, wpAnyZ P md ops Q T z fuel listed a w
  | 0 => ⟨hr, h⟩
  | _ + 1 => ⟨fun _ => h, by rw [hr]; simp⟩

/-- Q at a normal end, and nothing else. -/
def NormalOnly (Q : Exit → Act → World → Prop) : Exit → Act → World → Prop := fun e a w => e = .normal ∧ Q .normal a w
theorem NormalOnly.no {c : List PanicEntry} {a : Act} {w : World} (h : NormalOnly Q (.panic c) a w) : False := by cases h.1
theorem wpIn_of_wp {F : Fence} {n : Nat} (L : Lets F P n) {o : Oper} (hnd : ∀ c, o.op ≠ .defer c) {a : Act} {w : World} {K : Act → World → Prop} (hnr : ∀ row args w', (execOp a.eval o).run P w ≠ .ok (.row row args) w') (h : o.wp P a w K (NormalOnly Q)) : o.wpIn F n P a w K Q := by
  refine ⟨fun f _ => L.fn f, ?_⟩
  rw [Oper.semAt_eq _ _ _ hnd]
  unfold Oper.wp at h
  revert hnr
  generalize (execOp a.eval o).run P w = r at *
  intro hnr
  cases r with
  | ok nx w' =>
    cases nx <;> simp only [Oper.upon] at h <;> simp only [Oper.uponIn]
    case value v => exact h
    case skip => exact h
    case defer d => exact h
    case enter f args =>
      refine ⟨fun hd => (by rw [L.depth] at hd; cases hd), (L.calls _ _ _ _ h).mono fun e w'' he => ?_⟩
      cases e with
      | returned v => exact he
      | panicked c => cases he.1
      | outgrown => obtain ⟨_, _, h, _⟩ := he; cases h
    case row row args => exact absurd rfl (hnr row args w')
  | halt x w' =>
    cases x <;> simp only [Oper.upon] at h <;> simp only [Oper.uponIn]
    case panic v => cases h.1
/-- Operations that neither call nor defer. -/
def Oper.isPlain (o : Oper) : Bool := match o.op with
  | .move _ | .assign _ | .load _ _ | .store _ _ _ | .binOp _ _ _ _ _ | .fieldAddr _ _ _ | .indexAddr _ _ _ => true
  | _ => false
theorem plain_no_defer {o : Oper} (h : Oper.isPlain o = true) : ∀ c, o.op ≠ .defer c := by
  intro c hc
  unfold Oper.isPlain at h
  rw [hc] at h
  cases h
theorem plain_no_row {o : Oper} (h : Oper.isPlain o = true) (a : Act) (w : World) : ∀ row args w', (execOp a.eval o).run P w ≠ .ok (.row row args) w' := by
  intro row args w' he
  unfold Oper.isPlain at h
  cases ho : o.op <;> simp only [ho, Bool.false_eq_true] at h
  all_goals simp [execOp, ho] at he
  case load t x => cases hr : (Instr.loadAt t (a.eval x)).run P w <;> simp [hr, Result.andThen] at he
  case store t x y => cases hr : (Instr.storeAt t (a.eval x) (a.eval y)).run P w <;> simp [hr, Result.andThen] at he
  case fieldAddr t x y => cases hr : (Instr.fieldAt t (a.eval x) y).run P w <;> simp [hr, Result.andThen] at he
  case indexAddr t x y => cases hr : (Instr.indexAt t (a.eval x) (a.eval y)).run P w <;> simp [hr, Result.andThen] at he
  case binOp op t x y t2 =>
    cases hr : (eqGuard op t x y (a.eval x) (a.eval y)).run P w with
    | ok u w1 =>
      simp [hr, Result.andThen] at he
      cases hr2 : (binOp op t (a.eval x) (a.eval y)).run P w1 <;> simp [hr2] at he
    | halt u w1 => simp [hr, Result.andThen] at he
theorem wpAnyIn_of_any {F : Fence} {n : Nat} (L : Lets F P n) (hp : ops.all Oper.isPlain = true) : ∀ (fuel : Nat) (listed : Array Bool) (a : Act) (w : World), wpAny P md ops (NormalOnly Q) fuel listed a w → wpAnyIn F n P md ops Q fuel listed a w
  | 0, _, _, _, h => ⟨h.1, h.2.2⟩
  | fuel + 1, listed, a, w, h => by
    refine ⟨fun h0 => (h.1 h0).2, fun i hi => ?_⟩
    have h2 := h.2 i hi
    unfold wpOp at h2
    unfold wpOpIn
    cases ho : ops[i]? with
    | none => simp only [ho] at h2; exact wpAnyIn_of_any L hp fuel _ _ _ h2
    | some o =>
      simp only [ho] at h2 ⊢
      have hpo : Oper.isPlain o = true := by
        obtain ⟨hlt, he⟩ := Array.getElem?_eq_some_iff.1 ho
        rw [← he]; exact (Array.all_eq_true.1 hp) i hlt
      split
      · rename_i hw
        simp only [hw, if_true] at h2
        rcases h2 with h2 | ⟨_, _, _, h3, _⟩
        · exact Oper.wpIn_mono (fun a' w' h' => wpAnyIn_of_any L hp fuel _ a' w' h') (wpIn_of_wp L (plain_no_defer hpo) (plain_no_row hpo a w) h2)
        · cases h3
      · rename_i hw
        simp only [hw] at h2
        exact ⟨fun f _ => L.fn f, wpAnyIn_of_any L hp fuel _ _ _ h2⟩
/-- The beginning. -/
theorem wpIn_region_Z {F : Fence} {n : Nat} (L : Lets F P n) (T : Bool → World → Prop) (z : Nat) {id : Nat} {a : Act} {w : World} (hp : ops.all Oper.isPlain = true) (hm : P.follows .mixedOrders = true)
    (h : wpAnyZ P .any ops (NormalOnly Q) T z ops.size (Array.replicate ops.size false) a w.drew) : (Code.region id ops true).wpIn F n P Q a w :=
  wpIn_region_any hm (wpAnyIn_of_any L hp _ _ _ _ (wpAny_of_Z _ _ _ _ h))
theorem wp_region_Z (T : Bool → World → Prop) (z : Nat) {id : Nat} {a : Act} {w : World} (hm : P.follows .mixedOrders = true)
    (h : wpAnyZ P .any ops (NormalOnly Q) T z ops.size (Array.replicate ops.size false) a w.drew) : (Code.region id ops true).wp P Q a w :=
  wp_mono (wp_region_any hm (wpAny_of_Z _ _ _ _ h)) (fun e a w h => by obtain ⟨rfl, h⟩ := h; exact h)
end
end Go.Proofs.YtbiffaciinppiaaGreatDoor
end
