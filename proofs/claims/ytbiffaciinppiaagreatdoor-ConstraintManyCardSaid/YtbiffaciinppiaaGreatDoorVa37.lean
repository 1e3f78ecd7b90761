/- ConstraintVariables returns true for every plan of a book and every three numbers, and leaves its arguments as they were (the card, tied to the program's text by the given tie). -/
import Derived.Test.YtbiffaciinppiaaGreatDoorVa33
import Derived.Test.YtbiffaciinppiaaGreatDoorVa36
import Derived.Deep.DeepWitnessRowRef
set_option linter.unusedVariables false
set_option linter.unusedSimpArgs false
namespace Go.Proofs.YtbiffaciinppiaaGreatDoor
open Go.ChangeShapes Go.WideShapes Go.ChangeAt Go.RowKit

section
variable {H : Type} {enc : TypeId × Value → H} {P : Program}
theorem okWide_array {w : World} {r : Reach} {base : Nat} {t : TypeId} {v : Value} {n : Nat} {e : TypeId} (ht : P.underlying t = some (.array n e)) (h : Value.okWide P w r base t v) : ∃ cs, v = .agg cs ∧ cs.size = P.cellsOf t := by
  simp only [Value.okWide, ht] at h
  obtain ⟨cs, h1, h2, _⟩ := h
  exact ⟨cs, h1, h2⟩
set_option maxRecDepth 100000 in
/-- A plan, by value. -/
theorem open_plan {w : World} {base b0 : Nat} {r : Reach} {spare : Nat → Bool} {held : Bool} {v : Value} {d : DataW H} {p : List MemPlace} (hv : Value.okWide Tryz.prog w r b0 31 v) (h : DataW.Trod enc Tryz.prog w base spare held 31 v d p) :
    ∃ (s : Sh) (hh : Hts) (sa : Option Addr) (l : List Sg) (c : Nat), v = plV s hh sa l.length c ∧ ShW s ∧ HtW hh ∧ (∀ g ∈ l, SgW g) ∧ SgsIn w sa l ∧ l.length ≤ maxLen := by
  obtain ⟨cs, rfl, _⟩ := okWide_struct Tryz.underlying31 hv
  obtain ⟨fuel, hf⟩ := h
  obtain ⟨s, hh, sa, l, c, he, h1, h2, h3, h4, h5⟩ := op_plan hf
  refine ⟨s, hh, sa, l, c, ?_, h1, h2, h3, h4, h5⟩
  have : cs.toList = plL s hh sa l.length c := he
  rw [show cs = (plL s hh sa l.length c).toArray by rw [← this]]
  rfl
set_option maxRecDepth 100000 in
theorem open_int3 {w : World} {base b0 : Nat} {r : Reach} {spare : Nat → Bool} {held : Bool} {v : Value} {d : DataW H} {p : List MemPlace} (hv : Value.okWide Tryz.prog w r b0 32 v) (h : DataW.Trod enc Tryz.prog w base spare held 32 v d p) :
    ∃ x0 x1 x2 : Int, v = .agg #[.int .i64 x0, .int .i64 x1, .int .i64 x2] := by
  obtain ⟨cs, rfl, _⟩ := okWide_array Tryz.underlying32 hv
  obtain ⟨fuel, hf⟩ := h
  obtain ⟨hl, f, hi⟩ := op_ints Tryz.underlying32 Tryz.underlying3 cellsI cells3i hf
  have := list3 hl (fun i h => (hi i h).1)
  have h2 : cs.toList = [.int .i64 (f 0), .int .i64 (f 1), .int .i64 (f 2)] := this
  exact ⟨f 0, f 1, f 2, by rw [show cs = [Value.int .i64 (f 0), .int .i64 (f 1), .int .i64 (f 2)].toArray by rw [← h2]]⟩
end

/-- The witness's world: the settled one with two blocks more (the errors' structs), the five listed variables holding what their initialisers lay. -/
noncomputable def laidWorld (os : Os) : World :=
  let N := (World.settled Tryz.prog os).heap.size
  let w0 := World.holding Tryz.prog os ⟨#[
    .cells #[.string ⟨#[118, 97, 108, 117, 101, 32, 111, 117, 116, 32, 111, 102, 32, 114, 97, 110, 103, 101]⟩] 331, .cells #[.string ⟨#[105, 110, 118, 97, 108, 105, 100, 32, 115, 121, 110, 116, 97, 120]⟩] 331], #[], []⟩
  let put (h : Array Obj) (g : Nat) (cs : Array Value) : Array Obj := h.modify g fun
    | .cells _ t frozen => .cells cs t frozen
    | o => o
  let ints (k : IntKind) (d : DataW Unit) : Array Value := match d with
    | .agg l => (l.map fun | .lit (.int _ z) => Value.int k z | _ => undef).toArray
    | _ => #[]
  let h0 := put w0.heap 2 #[.iface 329 (.pointer (some ⟨N, 0, none⟩))]
  let h1 := put h0 1 #[.iface 329 (.pointer (some ⟨N + 1, 0, none⟩))]
  let h2 := put h1 3 (ints .u64 Rows.laid_internal_strconv_uint64pow10)
  let h3 := put h2 4 (ints .u8 Rows.laid_math_bits_deBruijn32tab)
  let h4 := put h3 5 (ints .u8 Rows.laid_math_bits_deBruijn64tab)
  { w0 with heap := h4 }
def plan0 : Value := .agg #[.int .u8 0, .int .i8 0, .int .i8 0, .bool false, .int .i8 0, .int .i8 0, .int .i8 0, .int .i8 0, .int .i8 0, .int .i8 0, .bool false, .slice none 0 0]
def three0 : Value := .agg #[.int .i64 0, .int .i64 0, .int .i64 0]
def plan0D {H : Type} : DataW H := .agg [.agg [.lit (.int .u8 0), .agg [.lit (.int .i8 0), .lit (.int .i8 0)], .lit (.bool false)], .agg [.agg [.lit (.int .i8 0), .lit (.int .i8 0), .lit (.int .i8 0), .lit (.int .i8 0), .lit (.int .i8 0), .lit (.int .i8 0)], .lit (.bool false)], .nil]

namespace constraintVariables
theorem laid_met (os : Os) : laidMet Tryz.prog Rows.constraintVariablesRow.laid ((laidWorld os).forCall (fun _ _ => 0) ⟨#[], #[plan0, three0], []⟩).memory :=
  laidMet_of_run' 8 (by kernel_rfl) (by kernel_rfl)
theorem witness_row (os : Os) {H : Type} (enc : TypeId × Value → H) :
    (OpenSpec.ofChange Rows.constraintVariablesSpec).preRow enc Tryz.prog Tryz.f3 Rows.constraintVariablesRow.domain false Rows.constraintVariablesRow.laid ((laidWorld os).forCall (fun _ _ => 0) ⟨#[], #[plan0, three0], []⟩).memory #[plan0, three0] := by
  have hw : (DataW.whole enc Tryz.prog ((laidWorld os).forCall (fun _ _ => 0) ⟨#[], #[plan0, three0], []⟩).memory Tryz.f3.params.toList (OpenSpec.ofChange Rows.constraintVariablesSpec).vars false #[plan0, three0].toList 8).map (fun x => (x.1, x.2.1)) =
      some ([plan0D, .agg [.lit (.int .i64 0), .lit (.int .i64 0), .lit (.int .i64 0)]], []) := by kernel_rfl
  obtain ⟨⟨x1, x2, x3⟩, hx, hx1⟩ := Option.map_eq_some_iff.1 hw
  simp only [Prod.mk.injEq] at hx1
  obtain ⟨rfl, rfl⟩ := hx1
  exact OpenSpec.preRow_of_cond 8 hx (by kernel_rfl) (fun k hk => by cases hk) (by kernel_rfl) (laid_met os)

set_option maxRecDepth 100000 in
theorem contract (H : Type) (enc : TypeId × Value → H) (W : World) (base : Nat) (args : Array Value) (ds gs : List (DataW H)) (before : List MemPlace)
    (hval : ∀ (j : Nat) t v, Tryz.f3.params[j]? = some t → args[j]? = some v → Value.okWide Tryz.prog W .any base t v)
    (hW : DataW.Whole enc Tryz.prog Tryz.f3.params.toList Rows.constraintVariablesSpec.vars false W args.toList ds gs before) (hL : laidMetH Tryz.prog Rows.constraintVariablesRow.laid W) (hsh : W.ShapedOpen Tryz.prog) :
    Calls Tryz.prog 3 args W fun e W' => ∃ v, e = .returned v ∧ Rows.constraintVariablesSpec.post enc Tryz.prog Tryz.f3 false true false false W args v W' := by
  have hW' := hW
  obtain ⟨p, q, hA0, hV, rfl, hfz, hnd⟩ := hW
  have hA : DataW.TrodAll enc Tryz.prog W 0 (fun _ => true) true Tryz.f3.params.toList args.toList ds p := hA0
  rw [Tryz.params3] at hA hval
  obtain ⟨v0, v1, d0, d1, p0, p1, rfl, rfl, rfl, h0, h1⟩ := trodAll_two hA
  obtain ⟨rfl, rfl⟩ := trodVars_none hV
  obtain ⟨s, hh, sa, l, c, hv0, hs, hhw, hlw, hin, _⟩ := open_plan (hval 0 _ v0 rfl rfl) h0
  obtain ⟨x0, x1, x2, hv1⟩ := open_int3 (hval 1 _ v1 rfl rfl) h1
  have hlt : ∀ x ∈ p0 ++ p1, x.block < W.heap.size := fun x hx => hW'.lt x (by simpa using hx)
  have walk := cv_ok s hs hh hhw l hlw sa c x0 x1 x2 W (glob_of hL hsh) hin
  rw [← hv0, ← hv1] at walk
  refine walk.mono ?_
  rintro e W' ⟨rfl, hX⟩
  refine ⟨_, rfl, _, _, _, [], p0 ++ p1, [], hW', trodAll_cons_mk (shut_bool Tryz.underlying4 _) trodAll_mk0, ?_, rfl, hX.frame _, fun h => by cases h⟩
  exact trodAll_mk2
    (Below.trod laidOut (by kernel_rfl) (of_decide_eq_true (by kernel_rfl)) h0 hX (fun x hx => hlt x (List.mem_append_left _ hx)))
    (Below.trod laidOut (by kernel_rfl) (of_decide_eq_true (by kernel_rfl)) h1 hX (fun x hx => hlt x (List.mem_append_right _ hx)))

set_option maxRecDepth 100000 in
theorem lifted (os : Os) (started : os.Started) (H : Type) (enc : TypeId × Value → H) (F : Stop.Interp) :
    ReturnsInHanded {} Tryz.checked os 3 .any ((OpenSpec.ofChange Rows.constraintVariablesSpec).preRow enc Tryz.prog Tryz.f3 Rows.constraintVariablesRow.domain false Rows.constraintVariablesRow.laid) (((OpenSpec.ofChange Rows.constraintVariablesSpec).at F).post enc Tryz.prog Tryz.f3 false true false false) := by
  refine returnsInHanded_of_row (C := Tryz.checked) (s := OpenSpec.ofChange Rows.constraintVariablesSpec) own started (by kernel_rfl) Tryz.func3
    (witness_row_atRef (enc := enc) (C := Tryz.checked) false (laidWorld os) #[plan0, three0] rfl (by kernel_rfl) (by kernel_rfl) (by kernel_rfl) (witness_row os enc)) ?_
  intro W base args ds gs before hval hW _ _ _ hL hsh _
  exact contract H enc W base args ds gs before hval hW hL hsh

theorem said : Rows.ConstraintVariablesSaid :=
  OpenClaim.holds_of_cond 3 Tryz.f3 rfl rfl rfl rfl rfl rfl rfl ⟨rfl, rfl, rfl, rfl, rfl⟩ rfl rfl rfl rfl rfl (by kernel_rfl) Tryz.func3 closed
    (of_decide_eq_true (by kernel_rfl)) (by unfold Func.isWrapper; first | (rw [if_pos (by decide +kernel)]; kernel_rfl) | (rw [if_neg (by decide +kernel)]; exact ⟨rfl, rfl⟩))
    (fun os started H enc _ F => by rw [OpenClaim.pre_eq_preRow]; exact lifted os started H enc F)

theorem plain (f : FuncId) (fn : Func) (hf : Tryz.pinned.checked.prog.funcNamed "klippe/klippelaw25.ConstraintVariables" = some f) (hfn : Tryz.pinned.checked.prog.funcs[f]? = some fn) :
    true = Tryz.pinned.checked.prog.looks [] ∧ ∀ (j : Nat) t, fn.params[j]? = some t → Tryz.pinned.checked.prog.wantsStandIn t = false := by
  obtain rfl : f = 3 := Option.some.inj ((show Tryz.prog.funcNamed "klippe/klippelaw25.ConstraintVariables" = some 3 by kernel_rfl).symm.trans hf) |>.symm
  obtain rfl : fn = Tryz.f3 := (Option.some.inj (Tryz.func3.symm.trans hfn)).symm
  refine ⟨by kernel_rfl, fun j t ht => ?_⟩
  rw [Tryz.params3] at ht
  have := Array.mem_of_getElem? ht
  simp only [List.mem_toArray, List.mem_cons, List.not_mem_nil, or_false] at this
  rcases this with rfl | rfl
  · exact (show Tryz.prog.wantsStandIn 31 = false by kernel_rfl)
  · exact (show Tryz.prog.wantsStandIn 32 = false by kernel_rfl)

theorem card : Rows.ConstraintVariablesCardSaid :=
  Claim7.holds_tied_plain_at .later [] _ _ _ _ said (fun _ h => by cases h) (by kernel_rfl) (fun _ h => by cases h) constraintVariables_row_tie rfl ⟨rfl, rfl⟩ (by kernel_rfl) rfl plain (by kernel_rfl)
end constraintVariables
end Go.Proofs.YtbiffaciinppiaaGreatDoor
