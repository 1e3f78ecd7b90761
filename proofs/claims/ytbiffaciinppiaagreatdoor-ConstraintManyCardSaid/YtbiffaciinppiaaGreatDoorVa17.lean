/- strings.Builder's WriteByte and WriteString at this dump, strconv.FormatUint below 100. integer.number.close at short magnitudes. integer.DivMod at short exact quotients; rational.lowest, New, Of. -/
import Derived.Test.YtbiffaciinppiaaGreatDoorVa14
import Derived.Lib.Builder
import Derived.Lib.AppendStr
import Derived.Laws.Externs
import Derived.RangeFuncCalls
import Derived.RangeFuncOwn
import Derived.Test.YtbiffaciinppiaaGreatDoorVa16
set_option linter.unusedVariables false
set_option linter.unusedSimpArgs false
section
namespace Go.Proofs.YtbiffaciinppiaaGreatDoor
open Go.RowKit

theorem bldSize : (Tryz.prog.info? 279).map (·.size) = some 2 := by kernel_rfl
theorem bldLies : (match Tryz.prog.info? 279 with | some _ => true | none => false) = true := by kernel_rfl
set_option maxRecDepth 100000 in
set_option maxHeartbeats 1000000 in
theorem copyCheck_used (b : Nat) (w : World) (h0 : w.cell? ⟨b, 0, none⟩ = some (.pointer (some ⟨b, 0, none⟩))) :
    Calls Tryz.prog 229 #[.pointer (some ⟨b, 0, none⟩)] w fun e w' => e = .returned (.tuple #[]) ∧ w' = w := by
  obtain ⟨j, hj, _⟩ := Option.map_eq_some_iff.1 bldSize
  go_enter Tryz.func229, Tryz.ntmps229
  go_wp2
  rw [Lib.run_neq_ptr_same w _ Tryz.underlying277 hj]
  go_wp2
  go_end0
  exact ⟨rfl, rfl⟩
set_option maxRecDepth 100000 in
set_option maxHeartbeats 1000000 in
theorem copyCheck_fresh (b : Nat) (w : World) (h0 : w.cell? ⟨b, 0, none⟩ = some (.pointer none)) (hsh : w.shape? b = some (279, 2)) (hfz : w.frozen? ⟨b, 0, none⟩ = false) :
    Calls Tryz.prog 229 #[.pointer (some ⟨b, 0, none⟩)] w fun e w' => e = .returned (.tuple #[]) ∧ w' = w.setCell ⟨b, 0, none⟩ (.pointer (some ⟨b, 0, none⟩)) := by
  obtain ⟨j, hj, hjs⟩ := Option.map_eq_some_iff.1 bldSize
  go_enter Tryz.func229, Tryz.ntmps229
  go_wp2
  rw [Lib.run_to_unsafe w ⟨b, 0, none⟩ Tryz.underlying277 Tryz.underlying314 hj (by rw [hjs]; decide) hsh (Nat.zero_lt_succ 1)]
  simp only [Result.andThen]
  rw [Oper.upon_value]
  go_wp2
  rw [run_callFunc_extern Tryz.func241 (by kernel_rfl) (by kernel_rfl) (by kernel_rfl) (e := Extern.AbiNoEscape.same) (by kernel_rfl)]
  rw [Lib.run_noEscape]
  simp only [Result.andThen]
  rw [Oper.upon_value]
  go_wp2
  rw [Lib.run_from_unsafe w ⟨b, 0, none⟩ Tryz.underlying314 Tryz.underlying277 hj hsh (by kernel_rfl)]
  simp only [Result.andThen]
  rw [Oper.upon_value]
  go_wp2
  go_end0
  exact ⟨rfl, rfl⟩
abbrev IsBld (B b : Nat) (bs : List Value) (w : World) : Prop := Lib.IsBuilder 279 5 B b bs w
abbrev BldAt (B b : Nat) (p : Value) (bs : List Value) (w : World) : Prop := Lib.BuilderAt 279 5 B b p bs w
theorem copyCheck_ok (B b : Nat) (bs : List Value) (w : World) (h : IsBld B b bs w) :
    Calls Tryz.prog 229 #[.pointer (some ⟨b, 0, none⟩)] w fun e w' => e = .returned (.tuple #[]) ∧ BldAt B b (.pointer (some ⟨b, 0, none⟩)) bs w' ∧ Below B w w' ∧ KeepsOthers w w' := by
  rcases h with h | h
  · exact (copyCheck_fresh b w h.cell0 h.shape h.frozen0).mono fun e w' ⟨he, hw⟩ => by subst hw; exact ⟨he, h.used _, (Below.refl B w).setCell (p := ⟨b, 0, none⟩) h.1 _, KeepsOthers.setCell _ _ _⟩
  · exact (copyCheck_used b w h.cell0).mono fun e w' ⟨he, hw⟩ => by subst hw; exact ⟨he, h, Below.refl B _, KeepsOthers.refl _⟩
theorem cell_one_newB (w : World) (c : Value) : ∀ (j : Nat) (u : Value), [c][j]? = some u → (w.alloc (.cells #[c] 5)).cell? (Addr.add ⟨w.heap.size, 0, none⟩ j) = some u := by
  intro j u hj
  cases j with
  | zero => simp at hj; subst hj; simp [Addr.add, go_sem]
  | succ j => simp at hj
theorem ownForm {B e k n : Nat} {v : Value} {xs : List Value} {w : World} (h : w.ownsRow B e k v n xs) : ∃ ao n' cap, v = .slice ao n' cap := by
  rcases h.2 with ⟨hv, _⟩ | ⟨g, cap, cur, hv, _⟩
  · exact ⟨_, _, _, hv⟩
  · exact ⟨_, _, _, hv⟩
theorem ownCells {B e k n : Nat} {v : Value} {xs : List Value} {w : World} (h : w.ownsRow B e k v n xs) : ∀ (j : Nat) (o : Obj), v.ownBlock = some j → w.heap[j]? = some o → o.isCells = true := by
  intro j o hj ho
  rcases h.2 with ⟨hv, _⟩ | ⟨g, cap, cur, hv, _, hg, _⟩
  · rw [hv] at hj; cases hj
  · rw [hv] at hj
    simp only [Value.ownBlock, Option.some.injEq] at hj
    subst hj
    rw [hg] at ho
    cases ho; rfl
theorem ownKept {B e k n : Nat} {v : Value} {xs : List Value} {A W : World} {row : Option Nat} (h : A.ownsRow B e k v n xs) (hg : A.grownBy W row) (hr : ∀ r, row = some r → ∃ o : Obj, A.heap[r]? = some o ∧ o.isCells = false) : W.ownsRow B e k v n xs := by
  refine ⟨h.1, ?_⟩
  rcases h.2 with h1 | ⟨g, cap, cur, hv, h2, h3, h4⟩
  · exact .inl h1
  · refine .inr ⟨g, cap, cur, hv, h2, ?_, h4⟩
    rw [hg.block g (Array.getElem?_eq_some_iff.1 h3).1 (fun e => by obtain ⟨o, h5, h6⟩ := hr g e.symm; rw [h3] at h5; cases h5; cases h6)]
    exact h3
theorem BldAt.kept {B b : Nat} {p : Value} {bs : List Value} {A W : World} {row : Option Nat} (h : BldAt B b p bs A) (hg : A.grownBy W row) (hr : ∀ r, row = some r → ∃ o : Obj, A.heap[r]? = some o ∧ o.isCells = false) : BldAt B b p bs W := by
  obtain ⟨h1, v, h2, h3, h4⟩ := h
  refine ⟨h1, v, ?_, ownKept h3 hg hr, h4⟩
  rw [hg.block b (Array.getElem?_eq_some_iff.1 h2).1 (fun e => by obtain ⟨o, h5, h6⟩ := hr b e.symm; rw [h2] at h5; cases h5; cases h6)]
  exact h2
theorem IsBld.kept {B b : Nat} {bs : List Value} {A W : World} {row : Option Nat} (h : IsBld B b bs A) (hg : A.grownBy W row) (hr : ∀ r, row = some r → ∃ o : Obj, A.heap[r]? = some o ∧ o.isCells = false) : IsBld B b bs W := by
  rcases h with h | h
  · exact .inl (BldAt.kept h hg hr)
  · exact .inr (BldAt.kept h hg hr)
theorem infoByte : (Tryz.prog.info? 5).map (fun i => (i.zero, i.size, i.bytes)) = some (some (.int .u8 0), 1, 1) := by kernel_rfl
set_option maxRecDepth 100000 in
set_option maxHeartbeats 2000000 in
theorem writeByte_ok (B b : Nat) (bs : List Value) (c : Int) (w : World) (h : IsBld B b bs w) (hlen : bs.length ≤ 1000) (hBw : B ≤ w.heap.size) :
    Calls Tryz.prog 202 #[.pointer (some ⟨b, 0, none⟩), .int .u8 c] w fun e w' => e = .returned .nilIface ∧ BldAt B b (.pointer (some ⟨b, 0, none⟩)) (bs ++ [.int .u8 c]) w' ∧ Below B w w' ∧ KeepsOthers w w' := by
  obtain ⟨i0, hi, hz0, hz1, hz2⟩ := info_parts infoByte
  go_enter Tryz.func202, Tryz.ntmps202
  go_wp2_with fail
  refine (copyCheck_ok B b bs _ h).mono ?_
  rintro e w1 ⟨rfl, h1, hb1, hk1⟩
  obtain ⟨hB, v, hbk, hown, hne⟩ := h1
  have c0 : w1.cell? ⟨b, 0, none⟩ = some (.pointer (some ⟨b, 0, none⟩)) := by rw [Lib.cell_of_heap hbk]; rfl
  have c1 : w1.cell? ⟨b, 1, none⟩ = some v := by rw [Lib.cell_of_heap hbk]; rfl
  go_wp2_with (at_builtin; refine wpList_append_own _ rfl _ _ 53 rfl B 5 i0 (.int .u8 0) 1 1 Tryz.underlying53 hi hz0 hz1 hz2 rfl (by decide) _ _ _ rfl (hown.alloc _) ⟨w1.heap.size, 0, none⟩ 1 1 [.int .u8 c] rfl rfl ?c1 ?c2 ?c3 ?c4 ?c5 ?_)
  case c1 => exact cell_one_newB w1 _
  case c2 => intro u hu; rw [List.mem_singleton.1 hu]; rfl
  case c3 => unfold maxLen; omega
  case c4 => omega
  case c5 => have := hb1.size; simp; omega
  intro v' w2 hown' hgrow _
  have hlt : b < w1.heap.size := (Array.getElem?_eq_some_iff.1 hbk).1
  have hb2 : w2.heap[b]? = some (.cells #[.pointer (some ⟨b, 0, none⟩), v] 279 (0, 0)) :=
    (hgrow.block b (by simp; omega) (fun e => hne e.symm)).trans ((Lib.alloc_old w1 _ b hlt).trans hbk)
  have d0 : w2.cell? ⟨b, 0, none⟩ = some (.pointer (some ⟨b, 0, none⟩)) := by rw [Lib.cell_of_heap hb2]; rfl
  have d1 : w2.cell? ⟨b, 1, none⟩ = some v := by rw [Lib.cell_of_heap hb2]; rfl
  have f1 : w2.frozen? ⟨b, 1, none⟩ = false := Lib.frozen_of_heap hb2 1
  have hform := ownForm hown'
  obtain ⟨ao, n', cap, rfl⟩ := hform
  go_wp2
  go_ret
  exact ⟨rfl, Lib.BuilderAt.put (T := 279) (e := 5) hB hb2 (bs' := bs ++ [.int .u8 c]) (by simpa using hown') (by decide),
    ((hb1.alloc (by have := hb1.size; omega) _).grown hgrow (by have := hb1.size; simp; omega) (fun k hk => (hown.lt k hk).1)).setCell (p := ⟨b, 1, none⟩) hB _, ((hk1.trans (KeepsOthers.alloc _ _)).trans (KeepsOthers.of_grownBy hgrow (ownCells (hown.alloc _)))).trans (KeepsOthers.setCell _ _ _)⟩
set_option maxRecDepth 100000 in
set_option maxHeartbeats 2000000 in
theorem writeString_ok (B b : Nat) (bs : List Value) (s : ByteArray) (w : World) (h : IsBld B b bs w) (hlen : bs.length + s.size ≤ 1000) (hBw : B ≤ w.heap.size) :
    Calls Tryz.prog 204 #[.pointer (some ⟨b, 0, none⟩), .string s] w fun e w' => e = .returned (.tuple #[.int .i64 s.size, .nilIface]) ∧ BldAt B b (.pointer (some ⟨b, 0, none⟩)) (bs ++ Lib.strCells s) w' ∧ Below B w w' ∧ KeepsOthers w w' := by
  obtain ⟨i0, hi, hz0, hz1, hz2⟩ := info_parts infoByte
  go_enter Tryz.func204, Tryz.ntmps204
  go_wp2_with fail
  refine (copyCheck_ok B b bs _ h).mono ?_
  rintro e w1 ⟨rfl, h1, hb1, hk1⟩
  obtain ⟨hB, v, hbk, hown, hne⟩ := h1
  have c0 : w1.cell? ⟨b, 0, none⟩ = some (.pointer (some ⟨b, 0, none⟩)) := by rw [Lib.cell_of_heap hbk]; rfl
  have c1 : w1.cell? ⟨b, 1, none⟩ = some v := by rw [Lib.cell_of_heap hbk]; rfl
  go_wp2_with (at_builtin; refine Lib.wpList_append_own_string _ rfl _ _ 53 9 rfl B 5 i0 Tryz.underlying53 Tryz.underlying9 hi hz0 hz1 hz2 _ _ _ rfl hown s rfl ?c3 ?c4 ?c5 ?_)
  case c3 => unfold maxLen; omega
  case c4 => omega
  case c5 => have := hb1.size; omega
  intro v' w2 hown' hgrow _
  have hlt : b < w1.heap.size := (Array.getElem?_eq_some_iff.1 hbk).1
  have hb2 : w2.heap[b]? = some (.cells #[.pointer (some ⟨b, 0, none⟩), v] 279 (0, 0)) :=
    (hgrow.block b hlt (fun e => hne e.symm)).trans hbk
  have d0 : w2.cell? ⟨b, 0, none⟩ = some (.pointer (some ⟨b, 0, none⟩)) := by rw [Lib.cell_of_heap hb2]; rfl
  have d1 : w2.cell? ⟨b, 1, none⟩ = some v := by rw [Lib.cell_of_heap hb2]; rfl
  have f1 : w2.frozen? ⟨b, 1, none⟩ = false := Lib.frozen_of_heap hb2 1
  have hform := ownForm hown'
  obtain ⟨ao, n', cap, rfl⟩ := hform
  go_wp2
  go_ret2
  exact ⟨rfl, Lib.BuilderAt.put (T := 279) (e := 5) hB hb2 (bs' := bs ++ Lib.strCells s) (by simpa [Lib.strCells_length] using hown') (by decide),
    (hb1.grown hgrow (by have := hb1.size; omega) (fun k hk => (hown.lt k hk).1)).setCell (p := ⟨b, 1, none⟩) hB _, (hk1.trans (KeepsOthers.of_grownBy hgrow (ownCells hown))).trans (KeepsOthers.setCell _ _ _)⟩
theorem keeps_freeze (w : World) (p : Addr) (n : Nat) : KeepsOthers w (w.freeze p n) := by
  refine ⟨(Lib.below_freeze (Below.refl 0 w) (Nat.zero_le _) n).size, fun k o hk ho => ?_⟩
  unfold World.freeze
  split
  · exact hk
  · simp only [Array.getElem?_modify]
    split
    · rw [hk]; cases o <;> first | rfl | cases ho
    · exact hk
set_option maxRecDepth 100000 in
set_option maxHeartbeats 2000000 in
theorem string_ok (B b : Nat) (l : List UInt8) (w : World) (h : IsBld B b (Lib.byteCells l) w) (h0 : l ≠ []) :
    Calls Tryz.prog 205 #[.pointer (some ⟨b, 0, none⟩)] w fun e w' => e = .returned (.string ⟨l.toArray⟩) ∧ Below B w w' ∧ KeepsOthers w w' := by
  have hp : ∃ p, BldAt B b p (Lib.byteCells l) w := by
    rcases h with h | h
    · exact ⟨_, h⟩
    · exact ⟨_, h⟩
  obtain ⟨p, hB, v, hbk, hown, hne⟩ := hp
  have hl0 : l.length ≠ 0 := by simpa using h0
  rw [Lib.byteCells_length] at hown
  have hv : ∃ g cap cur, v = .slice (some ⟨g, 0, none⟩) l.length cap ∧ B ≤ g ∧ w.heap[g]? = some (.cells cur 5 (0, 0)) ∧ l.length ≤ cap ∧ cap ≤ maxLen ∧ cur.size = cap * 1 := by
    rcases hown.2 with ⟨_, hz⟩ | ⟨g, cap, cur, h1, h2, h3, h4, h5, h6, _⟩
    · exact absurd hz hl0
    · exact ⟨g, cap, cur, h1, h2, h3, h4, h5, h6⟩
  obtain ⟨g, cap, cur, rfl, hbg, hg, hnc, hcm, hcs⟩ := hv
  have c1 : w.drew.cell? ⟨b, 1, none⟩ = some (.slice (some ⟨g, 0, none⟩) l.length cap) := by
    have : w.drew.heap[b]? = some (.cells #[p, .slice (some ⟨g, 0, none⟩) l.length cap] 279 (0, 0)) := hbk
    rw [Lib.cell_of_heap this]; rfl
  have hSD : (Builtin.unsafeSliceData_ #[53] 303 #[.slice (some ⟨g, 0, none⟩) l.length cap]).run Tryz.prog w.drew = .ok (.pointer (some ⟨g, 0, none⟩)) w.drew :=
    Lib.run_unsafeSliceData_row _ _ _ _ _ _ (by omega)
  have hUS : (Builtin.unsafeString_ #[303, 3] 9 #[.pointer (some ⟨g, 0, none⟩), .int .i64 l.length]).run Tryz.prog w.drew = .ok (.string ⟨l.toArray⟩) (w.drew.freeze ⟨g, 0, none⟩ l.length) := by
    refine Lib.run_unsafeString_row w.drew 303 3 9 5 Tryz.underlying303 (by kernel_rfl) g cur.size (by have hg' : w.drew.heap[g]? = some (.cells cur 5 (0, 0)) := hg; simp [World.shape?, hg']) l h0 (by omega) (by unfold maxLen at hcm; omega) ?_
    intro j x hx
    exact hown.cells (g := g) rfl j (.int .u8 x.toNat) (by simp [Lib.byteCells, hx])
  have HZ := Lib.hid (And.intro (Lib.below_freeze (Below.drew (Below.refl B w)) (p := ⟨g, 0, none⟩) hbg l.length) ((KeepsOthers.drew w).trans (keeps_freeze w.drew ⟨g, 0, none⟩ l.length)))
  go_enter Tryz.func205, Tryz.ntmps205
  go_wp2
  go_region
  all_goals (go_wp2; go_ret; exact ⟨rfl, HZ.out.1, HZ.out.2⟩)
set_option maxRecDepth 100000 in
theorem formatUint_ok (i : Nat) (h : i < 100) (w : World) : Calls Tryz.prog 203 #[.int .u64 i, .int .i64 10] w fun e w' => e = .returned (.string (tI i)) ∧ w' = w := by
  have hI : Calls Tryz.prog 230 #[.int .u64 i, .int .i64 10] w fun e w' => e = .returned (.string (tI i)) ∧ w' = w := by
    have hs : (⟨(Lib.decDigits i).toArray⟩ : ByteArray) = tI i := ba_ext (by rw [tI_nat])
    have h1 : decide ((i : Int) < 100) = true := decide_eq_true (by omega)
    go_enter Tryz.func230, Tryz.ntmps230
    go_wp2_with fail
    refine (Tryz.internal_strconv_small i h w).mono ?_
    rintro e w' ⟨rfl, rfl⟩
    rw [hs]
    go_wp2_with fail
    go_ret
    exact ⟨rfl, rfl⟩
  go_enter Tryz.func203, Tryz.ntmps203
  go_wp2_with fail
  refine hI.mono ?_
  rintro e w' ⟨rfl, rfl⟩
  go_wp2_with fail
  go_ret
  exact ⟨rfl, rfl⟩
end Go.Proofs.YtbiffaciinppiaaGreatDoor
end

section
namespace Go.Proofs.YtbiffaciinppiaaGreatDoor
open Go.RowKit Go.Shelf
attribute [local go_sem] Oper.semAt_some

def sgB (s : Bool) : List UInt8 := if s then [45] else []
theorem close0 (s : Bool) (a : Option Addr) (c : Nat) (w : World) : Calls Tryz.prog 158 #[.agg #[.bool s, .slice a 0 c]] w (Ret (.string ⟨#[48]⟩) w) := by
  go_enter Tryz.func158, Tryz.ntmps158
  go_wp2_with fail
  go_ret
  exact ⟨rfl, (Ext.refl _).alloc _⟩
theorem strCells_tI (m : Nat) : Lib.strCells (tI m) = Lib.byteCells (Lib.decDigits m) := by
  rw [← tI_nat]; rfl
set_option maxRecDepth 100000 in
set_option maxHeartbeats 4000000 in
theorem close_false (m pb pc : Nat) (hm2 : m < 100) (w : World) (hx : w.cell? ⟨pb, 0, none⟩ = some (.int .u64 m)) :
    CallsIn Fence.wide 5 Tryz.prog 158 #[.agg #[.bool false, .slice (some ⟨pb, 0, none⟩) 1 pc]] w (Ret (.string ⟨(sgB false ++ Lib.decDigits m).toArray⟩) w) := by
  have hfb : Fence.wide.fn 199 := trivial
  have hpb := World.block_lt_of_cell? w _ hx
  simp only at hpb
  have hsz := tI_nsize m
  have hd8 : Lib.nDigits m ≤ 2 := (nDigits_le _ _ (by omega)).2 hm2
  have hsm : (tI m).size ≤ 2 := by omega
  clear hsz hd8
  refine callsIn_of_wp_marks Tryz.func158 rfl trivial ?_ rfl
  simp only [Tryz.ntmps158, List.size_toArray, List.length_cons, List.length_nil, Nat.reduceAdd, Nat.reduceSub, Array.replicate_succ, Array.replicate_zero, List.push_toArray, List.append_toArray, List.nil_append, List.cons_append]
  gi_wp2
  obtain ⟨W1, hW1⟩ : ∃ W1, W1 = (w.alloc (.cells #[.bool false, .slice (some ⟨pb, 0, none⟩) 1 pc] 227)).alloc (.cells #[.pointer none, .slice none 0 0] 279) := ⟨_, rfl⟩
  rw [← hW1]
  have hX0 : Ext w W1 := by rw [hW1]; exact ((Ext.refl w).alloc _).alloc _
  have hb0 : W1.cell? ⟨w.heap.size, 0, none⟩ = some (.bool false) := by rw [hW1]; simp [go_sem]
  have hb1 : W1.cell? ⟨w.heap.size, 1, none⟩ = some (.slice (some ⟨pb, 0, none⟩) 1 pc) := by rw [hW1]; simp [go_sem]
  have hbl : IsBld (w.heap.size + 1) (w.heap.size + 1) (Lib.byteCells (sgB false)) W1 := by
    have := Lib.fresh_isBuilder 279 5 (w.alloc (.cells #[.bool false, .slice (some ⟨pb, 0, none⟩) 1 pc] 227))
    rw [World.size_alloc] at this
    rw [hW1]; exact this
  have hsz0 : w.heap.size + 2 ≤ W1.heap.size := by rw [hW1]; simp
  have hB1 : Below (w.heap.size + 1) W1 W1 := Below.refl _ _
  clear hW1
  have hb0 : W1.cell? ⟨w.heap.size, 0, none⟩ = some (.bool false) := (hB1.cell (p := ⟨w.heap.size, 0, none⟩) (by show w.heap.size < w.heap.size + 1; omega)).trans hb0
  have hb1 : W1.cell? ⟨w.heap.size, 1, none⟩ = some (.slice (some ⟨pb, 0, none⟩) 1 pc) := (hB1.cell (p := ⟨w.heap.size, 1, none⟩) (by show w.heap.size < w.heap.size + 1; omega)).trans hb1
  have hsz1 : w.heap.size + 2 ≤ W1.heap.size := by have := hB1.size; omega
  have hX1 : Ext w W1 := Below.trans (show Below w.heap.size w _ from hX0) (Below.mono hB1 (by omega))
  clear hB1 hX0 hsz0
  gi_wp2_with (gi_at_call 199; refine (backward_calls _ _ _ _ _ rfl _).mono ?_; rintro e w' ⟨rfl, rfl⟩)
  have hx2 : (W1.alloc (.cells #[.slice (some ⟨pb, 0, none⟩) 1 pc] 225)).cell? ⟨pb, 0, none⟩ = some (.int .u64 m) := (hX1.alloc _).cell hx
  have hc2 := cell_newl W1 (.slice (some ⟨pb, 0, none⟩) 1 pc) 225
  have hd0 := ((Ext.refl W1).alloc (.cells #[.slice (some ⟨pb, 0, none⟩) 1 pc] 225)).cell hb0
  have hd1 := ((Ext.refl W1).alloc (.cells #[.slice (some ⟨pb, 0, none⟩) 1 pc] 225)).cell hb1
  have hX2 := hX1.alloc (.cells #[.slice (some ⟨pb, 0, none⟩) 1 pc] 225)
  have hbl2 : IsBld (w.heap.size + 1) (w.heap.size + 1) (Lib.byteCells (sgB false)) (W1.alloc (.cells #[.slice (some ⟨pb, 0, none⟩) 1 pc] 225)) :=
    IsBld.kept hbl (World.grownBy_alloc W1 _ none) (fun r e => by cases e)
  have hsz2 : (W1.alloc (.cells #[.slice (some ⟨pb, 0, none⟩) 1 pc] 225)).heap.size = W1.heap.size + 1 := by simp
  refine wpIn_rangeFunc_ownF rfl (by omega) (gf := 228) (lb := #[.pointer (some ⟨W1.heap.size, 0, none⟩)]) rfl trivial (enters_of Tryz.func228 (by kernel_rfl) rfl)
    (back_stops 4 W1.heap.size pb pc m (W1.alloc (.cells #[.slice (some ⟨pb, 0, none⟩) 1 pc] 225)) (by rw [hsz2]; omega) (by rw [hsz2]; omega) hc2 hx2) (fun _ _ => trivial) (fun _ _ _ _ _ _ _ _ => trivial) (Below.refl _ _) (fun _ => rfl)
    (fun pre W => (IsBld (w.heap.size + 1) (w.heap.size + 1) (Lib.byteCells (sgB false ++ if pre = [] then [] else Lib.decDigits m)) W ∧ W.cell? ⟨w.heap.size, 0, none⟩ = some (.bool false) ∧ W.cell? ⟨w.heap.size, 1, none⟩ = some (.slice (some ⟨pb, 0, none⟩) 1 pc) ∧ w.heap.size + 2 ≤ W.heap.size) ∧ Below w.heap.size w W)
    (fun _ _ _ => False)
    (OwnFrom.and (Own.from (fun s A B row hs hg hr => ⟨IsBld.kept hs.1 hg hr, cell_kept hs.2.1 hg hr, cell_kept hs.2.2.1 hg hr, Nat.le_trans hs.2.2.2 hg.size⟩) _) (ownFrom_below (Nat.le_refl _) (by rw [hsz2]; omega)))
    (fun _ _ _ _ _ hs _ _ => hs)
    ⟨⟨by simpa using hbl2, hd0, hd1, by rw [hsz2]; omega⟩, hX2⟩
    (fun x => { tmps := #[.agg #[.bool false, .slice (some ⟨pb, 0, none⟩) 1 pc], .pointer (some ⟨w.heap.size, 0, none⟩), .string ⟨#[]⟩, .pointer (some ⟨w.heap.size + 1, 0, none⟩), .int .i64 0, .int .u64 m, undef, .pointer (some ⟨w.heap.size, 1, none⟩), .slice (some ⟨pb, 0, none⟩) 1 pc, .int .i64 1, .bool false, .pointer (some ⟨w.heap.size, 0, none⟩), .bool false, undef, .pointer (some ⟨w.heap.size, 1, none⟩), .slice (some ⟨pb, 0, none⟩) 1 pc, .func (.func 228) #[] #[.pointer (some ⟨W1.heap.size, 0, none⟩)], .int .i64 0, .int .u64 m, undef, undef, undef, undef, undef, undef, undef, undef, undef, undef, undef, undef, undef, undef, undef], defers := [] }) ?assign ?body ?done ?stop
  case assign =>
    intro l x W K hK
    simp only [encB]
    gi_wp2
    exact hK
  case body =>
    rintro l pre x W ⟨⟨e0, e1, e2, e3⟩, hB⟩ hlen
    obtain rfl : pre = [] := List.length_eq_zero_iff.1 (by omega)
    simp only [if_true, List.append_nil] at e0
    have hf1 : Fence.wide.fn 203 := trivial
    have hf2 : Fence.wide.fn 204 := trivial
    have hFU := CallsIn.inRound l (callsIn_wide (n := 5 - 1 - 1 - 1).2 (formatUint_ok m hm2 W))
    have hWS := CallsIn.inRound l (callsIn_wide (n := 5 - 1 - 1 - 1).2 (writeString_ok _ _ _ (tI m) W e0 (by simp [Lib.byteCells, sgB]; omega) (by omega)))
    gi_wp2_with (first | (gi_at_call 203; refine hFU.mono ?_; clear hFU; rintro e w' ⟨rfl, rfl⟩) | (gi_at_call 204; refine hWS.mono ?_; clear hWS; rintro e w' ⟨rfl, hA, hBB, hKO⟩))
    have hA2 : IsBld (w.heap.size + 1) (w.heap.size + 1) (Lib.byteCells (sgB false ++ if ([] ++ [x] : List Unit) = [] then [] else Lib.decDigits m)) w' := by
      rw [if_neg (by simp), Lib.byteCells_append, ← strCells_tI]; exact .inr hA
    exact ⟨hKO, trivial, ⟨hA2, (hBB.cell (p := ⟨w.heap.size, 0, none⟩) (by show w.heap.size < w.heap.size + 1; omega)).trans e1, (hBB.cell (p := ⟨w.heap.size, 1, none⟩) (by show w.heap.size < w.heap.size + 1; omega)).trans e2, Nat.le_trans e3 hBB.size⟩, hB.trans (Below.mono hBB (by omega))⟩
  case done =>
    rintro D ys W hD rfl ⟨⟨e0, e1, e2, e3⟩, hB⟩ hK
    simp only [List.cons_ne_nil, if_false] at e0
    have hf3 : Fence.wide.fn 205 := trivial
    have hST := callsIn_wide (n := 5 - 1).2 (string_ok _ _ (sgB false ++ Lib.decDigits m) W e0 (by simp [decDigits_ne_nil]))
    gi_wp2_with (gi_at_call 205; refine hST.mono ?_; clear hST; rintro e w' ⟨rfl, hBB, hKO⟩)
    have hK2 := hKO.same D _ hK rfl
    refine ⟨by simp, .inl ⟨_, _, rfl, run_takeDeferred hK2, ?_⟩⟩
    rw [hsz2] at hD
    exact ⟨_, results_tmp rfl _ _ _, rfl, (hB.trans (Below.mono hBB (by omega))).trans (belowPut _ D (by omega) hK2)⟩
  case stop =>
    rintro D c pre W _ _ h _
    exact h.elim
set_option maxRecDepth 100000 in
set_option maxHeartbeats 4000000 in
theorem close_true (m pb pc : Nat) (hm2 : m < 100) (w : World) (hx : w.cell? ⟨pb, 0, none⟩ = some (.int .u64 m)) :
    CallsIn Fence.wide 5 Tryz.prog 158 #[.agg #[.bool true, .slice (some ⟨pb, 0, none⟩) 1 pc]] w (Ret (.string ⟨(sgB true ++ Lib.decDigits m).toArray⟩) w) := by
  have hfb : Fence.wide.fn 199 := trivial
  have hpb := World.block_lt_of_cell? w _ hx
  simp only at hpb
  have hsz := tI_nsize m
  have hd8 : Lib.nDigits m ≤ 2 := (nDigits_le _ _ (by omega)).2 hm2
  have hsm : (tI m).size ≤ 2 := by omega
  clear hsz hd8
  refine callsIn_of_wp_marks Tryz.func158 rfl trivial ?_ rfl
  simp only [Tryz.ntmps158, List.size_toArray, List.length_cons, List.length_nil, Nat.reduceAdd, Nat.reduceSub, Array.replicate_succ, Array.replicate_zero, List.push_toArray, List.append_toArray, List.nil_append, List.cons_append]
  have hfw : Fence.wide.fn 202 := trivial
  obtain ⟨W0, hW0⟩ : ∃ W0, W0 = (w.alloc (.cells #[.bool true, .slice (some ⟨pb, 0, none⟩) 1 pc] 227)).alloc (.cells #[.pointer none, .slice none 0 0] 279) := ⟨_, rfl⟩
  have hX0 : Ext w W0 := by rw [hW0]; exact ((Ext.refl w).alloc _).alloc _
  have hb0 : W0.cell? ⟨w.heap.size, 0, none⟩ = some (.bool true) := by rw [hW0]; simp [go_sem]
  have hb1 : W0.cell? ⟨w.heap.size, 1, none⟩ = some (.slice (some ⟨pb, 0, none⟩) 1 pc) := by rw [hW0]; simp [go_sem]
  have hbl0 : IsBld (w.heap.size + 1) (w.heap.size + 1) [] W0 := by
    have := Lib.fresh_isBuilder 279 5 (w.alloc (.cells #[.bool true, .slice (some ⟨pb, 0, none⟩) 1 pc] 227))
    rw [World.size_alloc] at this
    rw [hW0]; exact this
  have hsz0 : w.heap.size + 2 ≤ W0.heap.size := by rw [hW0]; simp
  gi_wp2
  rw [← hW0]
  clear hW0
  refine (callsIn_wide.2 (writeByte_ok _ _ _ 45 W0 hbl0 (by simp) (by omega))).mono ?_
  rintro e W1 ⟨rfl, hbl, hB1, _⟩
  have hbl : IsBld (w.heap.size + 1) (w.heap.size + 1) (Lib.byteCells (sgB true)) W1 := .inr hbl
  have hb0 : W1.cell? ⟨w.heap.size, 0, none⟩ = some (.bool true) := (hB1.cell (p := ⟨w.heap.size, 0, none⟩) (by show w.heap.size < w.heap.size + 1; omega)).trans hb0
  have hb1 : W1.cell? ⟨w.heap.size, 1, none⟩ = some (.slice (some ⟨pb, 0, none⟩) 1 pc) := (hB1.cell (p := ⟨w.heap.size, 1, none⟩) (by show w.heap.size < w.heap.size + 1; omega)).trans hb1
  have hsz1 : w.heap.size + 2 ≤ W1.heap.size := by have := hB1.size; omega
  have hX1 : Ext w W1 := Below.trans (show Below w.heap.size w _ from hX0) (Below.mono hB1 (by omega))
  clear hB1 hX0 hsz0
  gi_wp2_with (gi_at_call 199; refine (backward_calls _ _ _ _ _ rfl _).mono ?_; rintro e w' ⟨rfl, rfl⟩)
  have hx2 : (W1.alloc (.cells #[.slice (some ⟨pb, 0, none⟩) 1 pc] 225)).cell? ⟨pb, 0, none⟩ = some (.int .u64 m) := (hX1.alloc _).cell hx
  have hc2 := cell_newl W1 (.slice (some ⟨pb, 0, none⟩) 1 pc) 225
  have hd0 := ((Ext.refl W1).alloc (.cells #[.slice (some ⟨pb, 0, none⟩) 1 pc] 225)).cell hb0
  have hd1 := ((Ext.refl W1).alloc (.cells #[.slice (some ⟨pb, 0, none⟩) 1 pc] 225)).cell hb1
  have hX2 := hX1.alloc (.cells #[.slice (some ⟨pb, 0, none⟩) 1 pc] 225)
  have hbl2 : IsBld (w.heap.size + 1) (w.heap.size + 1) (Lib.byteCells (sgB true)) (W1.alloc (.cells #[.slice (some ⟨pb, 0, none⟩) 1 pc] 225)) :=
    IsBld.kept hbl (World.grownBy_alloc W1 _ none) (fun r e => by cases e)
  have hsz2 : (W1.alloc (.cells #[.slice (some ⟨pb, 0, none⟩) 1 pc] 225)).heap.size = W1.heap.size + 1 := by simp
  refine wpIn_rangeFunc_ownF rfl (by omega) (gf := 228) (lb := #[.pointer (some ⟨W1.heap.size, 0, none⟩)]) rfl trivial (enters_of Tryz.func228 (by kernel_rfl) rfl)
    (back_stops 4 W1.heap.size pb pc m (W1.alloc (.cells #[.slice (some ⟨pb, 0, none⟩) 1 pc] 225)) (by rw [hsz2]; omega) (by rw [hsz2]; omega) hc2 hx2) (fun _ _ => trivial) (fun _ _ _ _ _ _ _ _ => trivial) (Below.refl _ _) (fun _ => rfl)
    (fun pre W => (IsBld (w.heap.size + 1) (w.heap.size + 1) (Lib.byteCells (sgB true ++ if pre = [] then [] else Lib.decDigits m)) W ∧ W.cell? ⟨w.heap.size, 0, none⟩ = some (.bool true) ∧ W.cell? ⟨w.heap.size, 1, none⟩ = some (.slice (some ⟨pb, 0, none⟩) 1 pc) ∧ w.heap.size + 2 ≤ W.heap.size) ∧ Below w.heap.size w W)
    (fun _ _ _ => False)
    (OwnFrom.and (Own.from (fun s A B row hs hg hr => ⟨IsBld.kept hs.1 hg hr, cell_kept hs.2.1 hg hr, cell_kept hs.2.2.1 hg hr, Nat.le_trans hs.2.2.2 hg.size⟩) _) (ownFrom_below (Nat.le_refl _) (by rw [hsz2]; omega)))
    (fun _ _ _ _ _ hs _ _ => hs)
    ⟨⟨by simpa using hbl2, hd0, hd1, by rw [hsz2]; omega⟩, hX2⟩
    (fun x => { tmps := #[.agg #[.bool true, .slice (some ⟨pb, 0, none⟩) 1 pc], .pointer (some ⟨w.heap.size, 0, none⟩), .string ⟨#[]⟩, .pointer (some ⟨w.heap.size + 1, 0, none⟩), .int .i64 0, .int .u64 m, undef, .pointer (some ⟨w.heap.size, 1, none⟩), .slice (some ⟨pb, 0, none⟩) 1 pc, .int .i64 1, .bool false, .pointer (some ⟨w.heap.size, 0, none⟩), .bool true, .nilIface, .pointer (some ⟨w.heap.size, 1, none⟩), .slice (some ⟨pb, 0, none⟩) 1 pc, .func (.func 228) #[] #[.pointer (some ⟨W1.heap.size, 0, none⟩)], .int .i64 0, .int .u64 m, undef, undef, undef, undef, undef, undef, undef, undef, undef, undef, undef, undef, undef, undef, undef], defers := [] }) ?assign ?body ?done ?stop
  case assign =>
    intro l x W K hK
    simp only [encB]
    gi_wp2
    exact hK
  case body =>
    rintro l pre x W ⟨⟨e0, e1, e2, e3⟩, hB⟩ hlen
    obtain rfl : pre = [] := List.length_eq_zero_iff.1 (by omega)
    simp only [if_true, List.append_nil] at e0
    have hf1 : Fence.wide.fn 203 := trivial
    have hf2 : Fence.wide.fn 204 := trivial
    have hFU := CallsIn.inRound l (callsIn_wide (n := 5 - 1 - 1 - 1).2 (formatUint_ok m hm2 W))
    have hWS := CallsIn.inRound l (callsIn_wide (n := 5 - 1 - 1 - 1).2 (writeString_ok _ _ _ (tI m) W e0 (by simp [Lib.byteCells, sgB]; omega) (by omega)))
    gi_wp2_with (first | (gi_at_call 203; refine hFU.mono ?_; clear hFU; rintro e w' ⟨rfl, rfl⟩) | (gi_at_call 204; refine hWS.mono ?_; clear hWS; rintro e w' ⟨rfl, hA, hBB, hKO⟩))
    have hA2 : IsBld (w.heap.size + 1) (w.heap.size + 1) (Lib.byteCells (sgB true ++ if ([] ++ [x] : List Unit) = [] then [] else Lib.decDigits m)) w' := by
      rw [if_neg (by simp), Lib.byteCells_append, ← strCells_tI]; exact .inr hA
    exact ⟨hKO, trivial, ⟨hA2, (hBB.cell (p := ⟨w.heap.size, 0, none⟩) (by show w.heap.size < w.heap.size + 1; omega)).trans e1, (hBB.cell (p := ⟨w.heap.size, 1, none⟩) (by show w.heap.size < w.heap.size + 1; omega)).trans e2, Nat.le_trans e3 hBB.size⟩, hB.trans (Below.mono hBB (by omega))⟩
  case done =>
    rintro D ys W hD rfl ⟨⟨e0, e1, e2, e3⟩, hB⟩ hK
    simp only [List.cons_ne_nil, if_false] at e0
    have hf3 : Fence.wide.fn 205 := trivial
    have hST := callsIn_wide (n := 5 - 1).2 (string_ok _ _ (sgB true ++ Lib.decDigits m) W e0 (by simp [decDigits_ne_nil]))
    gi_wp2_with (gi_at_call 205; refine hST.mono ?_; clear hST; rintro e w' ⟨rfl, hBB, hKO⟩)
    have hK2 := hKO.same D _ hK rfl
    refine ⟨by simp, .inl ⟨_, _, rfl, run_takeDeferred hK2, ?_⟩⟩
    rw [hsz2] at hD
    exact ⟨_, results_tmp rfl _ _ _, rfl, (hB.trans (Below.mono hBB (by omega))).trans (belowPut _ D (by omega) hK2)⟩
  case stop =>
    rintro D c pre W _ _ h _
    exact h.elim
end Go.Proofs.YtbiffaciinppiaaGreatDoor
end

section
namespace Go.Proofs.YtbiffaciinppiaaGreatDoor
open Go.RowKit
attribute [local irreducible] tQ

theorem divide0 (a : Option Addr) (c k : Nat) (v : Value) (hk : 1 ≤ k) (w : World) (hv : Mag k v w) :
    Calls Tryz.prog 157 #[.slice a 0 c, v] w (Ret (.tuple #[.slice none 0 0, .slice a 0 c]) w) := by
  have HO := Lib.hid (fun W (X : Ext w W) => order_ok 0 k (.slice a 0 c) v W (.inl ⟨rfl, a, c, rfl⟩) (hv.ext X))
  have hc : cmpN 0 k = -1 := by unfold cmpN; rw [if_pos (by omega)]
  rw [hc] at HO
  obtain ⟨va, vk, vc, rfl⟩ := hv.form
  clear hv hc
  go_enter Tryz.func157, Tryz.ntmps157
  go_wp2_with fail
  have X0 := ((Ext.refl w).alloc (.cells #[.slice va vk vc] 225)).alloc (.cells #[.slice none 0 0] 225)
  refine (HO.out _ X0).mono ?_
  rintro e w1 ⟨rfl, X1⟩
  have k1 : w1.cell? ⟨w.heap.size + 1, 0, none⟩ = some (.slice none 0 0) := X1.cell (by simp [go_sem])
  have k2 : w1.frozen? ⟨w.heap.size + 1, 0, none⟩ = false := (X1.cells.2 _ _ (by simp)).trans (by simp [go_sem])
  go_wp2_with fail
  have k3 := World.cell?_setCell_same _ _ (.slice none 0 0) k1
  refine bodyPost_ret (v := .tuple #[.slice none 0 0, .slice a 0 c]) (by simp [results, Tryz.results157, go_sem, k3]) rfl ⟨rfl, ?_⟩
  exact (X0.trans X1).setCell (by show w.heap.size ≤ w.heap.size + 1; omega) _
theorem divide_ok (m k : Nat) (u v : Value) (w : World) (hu : Mag m u w) (hv : Mag k v w) (h1 : 1 ≤ k) (hm9 : m < 10 ^ 9) (hd : m % k = 0) :
    Calls Tryz.prog 157 #[u, v] w (fun e w' => ∃ q r, e = .returned (.tuple #[q, r]) ∧ Mag (m / k) q w' ∧ Mag 0 r w' ∧ Ext w w') := by
  rcases hu with ⟨rfl, a, c, rfl⟩ | ⟨hm, b, c, rfl, hb⟩
  · refine (divide0 a c k v h1 w hv).mono fun e w' ⟨he, hx⟩ => ⟨_, _, he, .inl ⟨Nat.zero_div _, _, _, rfl⟩, .inl ⟨rfl, _, _, rfl⟩, hx⟩
  · rcases hv with ⟨rfl, _⟩ | ⟨hk, b2, c2, rfl, hb2⟩
    · omega
    · have hle : k ≤ m := by
        rcases Nat.lt_or_ge m k with h | h
        · rw [Nat.mod_eq_of_lt h] at hd; omega
        · exact h
      refine (callsIn_wide.1 (divide_in m k b c b2 c2 w hb hb2 hle h1 hm9)).mono fun e w' ⟨q, r, he, hq, hr, hx⟩ => ⟨q, r, he, hq, by rw [hd] at hr; exact hr, hx⟩
theorem close_ok (s : Bool) (m : Nat) (v : Value) (w : World) (hv : Mag m v w) (hm : m < 100) (n : Int) (hn : n = if s then -(m : Int) else m) :
    Calls Tryz.prog 158 #[.agg #[.bool s, v]] w (Ret (.string (tI n)) w) := by
  rcases hv with ⟨rfl, a, c, rfl⟩ | ⟨h0, b, c, rfl, hb⟩
  · have : tI n = ⟨#[48]⟩ := by
      have : n = 0 := by rw [hn]; cases s <;> rfl
      rw [this]; exact ba_ext (by rw [tI_data]; exact itoa_zero)
    rw [this]
    exact close0 s a c w
  · have ht : ∀ s : Bool, n = (if s then -(m : Int) else m) → (⟨(sgB s ++ Lib.decDigits m).toArray⟩ : ByteArray) = tI n := fun s hn => by
      apply ba_ext
      rw [tI_data]
      cases s with
      | true =>
        simp only [if_true] at hn
        rw [itoa_ng (by omega), show n.natAbs = m by omega]; rfl
      | false =>
        simp only [Bool.false_eq_true, if_false] at hn
        rw [itoa_pos (by omega), show n.toNat = m by omega]; rfl
    rw [← ht s hn]
    cases s with
    | true => exact callsIn_wide.1 (close_true m b c hm w hb)
    | false => exact callsIn_wide.1 (close_false m b c hm w hb)
set_option maxRecDepth 100000 in
set_option maxHeartbeats 1000000 in
theorem divMod_ok (n : Int) (k : Nat) (w : World) (h1 : 1 ≤ k) (hk8 : k < 10 ^ 8) (hn8 : n.natAbs < 10 ^ 8) (hd : n.natAbs % k = 0) (hq : n.natAbs / k < 100) (q : Int) (hqq : q = if n < 0 then -((n.natAbs / k : Nat) : Int) else ((n.natAbs / k : Nat) : Int)) :
    Calls Tryz.prog 210 #[.string (tI n), .string (tI k)] w (Ret (.tuple #[.string (tI q), .string (tI 0), .int .i64 0]) w) := by
  have H1 := Lib.hid (fun W => open_ok' n n.natAbs (decide (n < 0)) W rfl rfl hn8)
  have H2 := Lib.hid (fun W => open_ok' (k : Int) k false W (by omega) (by simp) hk8)
  have H3 := Lib.hid (fun u v W hu hv => divide_ok n.natAbs k u v W hu hv h1 (by omega) hd)
  have H4 := Lib.hid (fun v W hv => close_ok (decide (n < 0)) (n.natAbs / k) v W hv hq q (by rw [hqq]; by_cases h : n < 0 <;> simp [h]))
  have H5 := Lib.hid (fun v W hv => close_ok false 0 v W hv (by omega) 0 rfl)
  have hk0 : ((tI k).toList == [48]) = false := by rw [tI_is0]; exact decide_eq_false (by omega)
  generalize decide (n < 0) = sg at *
  generalize n.natAbs / k = qn at *
  generalize n.natAbs = m at *
  clear hqq hd hq hn8 hk8 h1
  go_enter Tryz.func210, Tryz.ntmps210
  go_wp2_with fail
  refine (H1.out _).mono ?_
  rintro e w1 ⟨u, rfl, hu, X1⟩
  obtain ⟨ua, uk, uc, rfl⟩ := hu.form
  go_wp2_with fail
  refine (H2.out _).mono ?_
  rintro e w2 ⟨v, rfl, hv, X2⟩
  obtain ⟨va, vk, vc, rfl⟩ := hv.form
  have X02 := X1.trans X2
  go_wp2_with fail
  obtain ⟨W3, hW3⟩ : ∃ W3, W3 = (w2.alloc (.cells #[.bool sg, .slice ua uk uc] 227)).alloc (.cells #[.bool false, .slice va vk vc] 227) := ⟨_, rfl⟩
  rw [← hW3]
  have X23 : Ext w2 W3 := by rw [hW3]; exact ((Ext.refl w2).alloc _).alloc _
  have a0 : W3.cell? ⟨w2.heap.size, 0, none⟩ = some (.bool sg) := by rw [hW3]; simp [go_sem]
  have a1 : W3.cell? ⟨w2.heap.size + 1, 0, none⟩ = some (.bool false) := by rw [hW3]; simp [go_sem]
  clear hW3
  refine (H3.out _ _ W3 (hu.ext (X2.trans X23)) (hv.ext X23)).mono ?_
  rintro e w4 ⟨dq, dr, rfl, hq, hr, X4⟩
  have hqf := hq.form
  obtain ⟨qa, qk, qc, rfl⟩ := hqf
  have hrf : ∃ a c, dr = .slice a 0 c := by
    rcases hr with ⟨_, a, c, h⟩ | ⟨h, _⟩
    · exact ⟨a, c, h⟩
    · exact absurd rfl h
  obtain ⟨ra, rc, rfl⟩ := hrf
  have b0 := X4.cell a0
  have b1 := X4.cell a1
  have X04 := (X02.trans X23).trans X4
  clear H1 H2 H3 hu hv X1 X2 X02 X23 X4 a0 a1
  cases sg with
  | false =>
    go_wp2_with fail
    refine (H4.out _ w4 hq).mono ?_
    rintro e w5 ⟨rfl, X5⟩
    go_wp2_with fail
    refine (H5.out _ w5 (hr.ext X5)).mono ?_
    rintro e w6 ⟨rfl, X6⟩
    go_wp2_with fail
    go_ret3
    exact ⟨rfl, (X04.trans X5).trans X6⟩
  | true =>
    go_wp2_with fail
    refine (H4.out _ w4 hq).mono ?_
    rintro e w5 ⟨rfl, X5⟩
    go_wp2_with fail
    refine (H5.out _ w5 (hr.ext X5)).mono ?_
    rintro e w6 ⟨rfl, X6⟩
    go_wp2_with fail
    go_ret3
    exact ⟨rfl, (X04.trans X5).trans X6⟩
set_option maxRecDepth 100000 in
set_option maxHeartbeats 1000000 in
/-- rational.lowest at a short quotient. -/
theorem lowest_ok (n : Int) (d : Nat) (w : World) (g : Glob w) (hd : 1 ≤ d) (hd8 : d < 100) (hn8 : n.natAbs < 200) :
    Calls Tryz.prog 168 #[.string (tI n), .string (tI d)] w (Ret (.string (tQ (mkRat n d))) w) := by
  have hG0 : 1 ≤ Nat.gcd n.natAbs d := Nat.gcd_pos_of_pos_right _ hd
  have h1 := mkRat_num n d (by omega)
  have h2 := mkRat_den n d (by omega)
  have hGd : Nat.gcd n.natAbs d ∣ d := Nat.gcd_dvd_right _ _
  have hGn : Nat.gcd n.natAbs d ∣ n.natAbs := Nat.gcd_dvd_left _ _
  have hGle : Nat.gcd n.natAbs d ≤ d := Nat.le_of_dvd hd hGd
  have hsn : (tI n).size ≤ 18 := by
    rw [tI_size, itoa_len]
    have := (nDigits_le n.natAbs 3 (by omega)).2 (by omega)
    split <;> omega
  have hsd : (tI (d : Int)).size ≤ 18 := by
    rw [tI_size, itoa_len]
    have := (nDigits_le (d : Int).natAbs 3 (by omega)).2 (by omega)
    split <;> omega
  have S := Lib.hid (fun W => iSign (d : Int) W)
  have hsg : decide (sgnI (d : Int) < 0) = false := by unfold sgnI; rw [if_neg (by omega), if_neg (by omega)]; rfl
  have Gc := Lib.hid (fun W (X : Ext w W) => iGcd n d W (g.ext X) hsn hsd)
  have hgcd : Nat.gcd n.natAbs ((d : Int).natAbs) = Nat.gcd n.natAbs d := by rw [Int.natAbs_natCast]
  rw [hgcd] at Gc
  have J := Lib.hid (fun W => rJoin (mkRat n d) W (by
    have : (tQ (mkRat n d)).size ≤ 2 * 9 + 2 := Dg.size (k := 9) ⟨by rw [h1]; have := Int.natAbs_ediv_le_natAbs n (Nat.gcd n.natAbs d : Nat); omega, by rw [h2]; exact Nat.lt_of_le_of_lt (Nat.div_le_self _ _) (by omega)⟩
    omega))
  obtain ⟨G, hG⟩ : ∃ G, G = Nat.gcd n.natAbs d := ⟨_, rfl⟩
  rw [← hG] at hG0 h1 h2 hGd hGn hGle Gc
  by_cases hg1 : G = 1
  · subst hg1
    have e1 : (mkRat n d).num = n := by rw [h1]; simp
    have e2 : (mkRat n d).den = d := by rw [h2]; simp
    rw [e1, e2] at J
    have hne : ((tI 1).toList == [49]) = true := by
      rw [tI_is1]; rfl
    clear h1 h2 hGd hGn hGle hsn hsd hgcd hG e1 e2 g hG0
    go_enter Tryz.func168, Tryz.ntmps168
    go_wp2_with fail
    refine (S.out _).mono ?_
    rintro e w1 ⟨rfl, X1⟩
    go_wp2_with fail
    refine (Gc.out _ X1).mono ?_
    rintro e w2 ⟨rfl, X2⟩
    go_wp2_with fail
    refine (J.out _).mono ?_
    rintro e w3 ⟨rfl, X3⟩
    go_wp2_with fail
    go_ret
    exact ⟨rfl, (X1.trans X2).trans X3⟩
  · have hG2 : 2 ≤ G := by omega
    have hq1 : n.natAbs / G < 100 := by
      have : n.natAbs / G ≤ n.natAbs / 2 := Nat.div_le_div_left hG2 (by omega)
      omega
    have hq2 : d / G < 100 := Nat.lt_of_le_of_lt (Nat.div_le_self _ _) hd8
    have hm1 : n.natAbs % G = 0 := Nat.mod_eq_zero_of_dvd hGn
    have hm2 : d % G = 0 := Nat.mod_eq_zero_of_dvd hGd
    have e1 : (mkRat n d).num = if n < 0 then -((n.natAbs / G : Nat) : Int) else ((n.natAbs / G : Nat) : Int) := by
      rw [h1]
      obtain ⟨c, hc⟩ := hGn
      have hd0 : n.natAbs / G = c := by rw [hc]; exact Nat.mul_div_cancel_left _ (by omega)
      rw [hd0]
      by_cases hneg : n < 0
      · rw [if_pos hneg, show n = -((G * c : Nat) : Int) by omega, Int.natCast_mul, ← Int.mul_neg, Int.mul_ediv_cancel_left _ (by omega)]
      · rw [if_neg hneg, show n = ((G * c : Nat) : Int) by omega, Int.natCast_mul, Int.mul_ediv_cancel_left _ (by omega)]
    have D1 := Lib.hid (fun W => divMod_ok n G W (by omega) (by omega) (by omega) hm1 hq1 _ e1)
    have D2 := Lib.hid (fun W => divMod_ok (d : Int) G W (by omega) (by omega) (by omega) (by simpa using hm2) (by simpa using hq2) ((mkRat n d).den : Int) (by rw [h2, if_neg (by omega)]; simp))
    have hne : ((tI (G : Int)).toList == [49]) = false := by
      rw [tI_is1, decide_eq_false (by omega)]
    clear e1 hm1 hm2 hq1 hq2 hG2 h1 h2 hGd hGn hGle hsn hsd hgcd hG g hG0
    generalize (mkRat n d).num = qn at *
    go_enter Tryz.func168, Tryz.ntmps168
    go_wp2_with fail
    refine (S.out _).mono ?_
    rintro e w1 ⟨rfl, X1⟩
    go_wp2_with fail
    refine (Gc.out _ X1).mono ?_
    rintro e w2 ⟨rfl, X2⟩
    go_wp2_with fail
    refine (D1.out _).mono ?_
    rintro e w3 ⟨rfl, X3⟩
    go_wp2_with fail
    refine (D2.out _).mono ?_
    rintro e w4 ⟨rfl, X4⟩
    go_wp2_with fail
    refine (J.out _).mono ?_
    rintro e w5 ⟨rfl, X5⟩
    go_wp2_with fail
    go_ret
    exact ⟨rfl, (((X1.trans X2).trans X3).trans X4).trans X5⟩
set_option maxRecDepth 100000 in
theorem rOf_ok (n : Int) (d : Nat) (w : World) (g : Glob w) (hd : 1 ≤ d) (hd8 : d < 100) (hn8 : n.natAbs < 200) :
    Calls Tryz.prog 81 #[.int .i64 n, .int .i64 d] w (Ret (.tuple #[.string (tQ (mkRat n d)), .int .i64 0]) w) := by
  have O1 := Lib.hid (fun W (X : Ext w W) => iOf n W (g.ext X) (by omega) (by omega))
  have O2 := Lib.hid (fun W (X : Ext w W) => iOf (d : Int) W (g.ext X) (by omega) (by omega))
  have S := Lib.hid (fun W => iSign (d : Int) W)
  have hsg : (sgnI (d : Int) == 0) = false := by unfold sgnI; rw [if_neg (by omega), if_neg (by omega)]; rfl
  have HL := Lib.hid (fun W (X : Ext w W) => lowest_ok n d W (g.ext X) hd hd8 hn8)
  have HN : ∀ W, Ext w W → Calls Tryz.prog 136 #[.string (tI n), .string (tI d)] W (Ret (.tuple #[.string (tQ (mkRat n d)), .int .i64 0]) W) := by
    intro W X
    go_enter Tryz.func136, Tryz.ntmps136
    go_wp2_with fail
    refine (S.out _).mono ?_
    rintro e w1 ⟨rfl, X1⟩
    go_wp2_with fail
    refine (HL.out _ (X.trans X1)).mono ?_
    rintro e w2 ⟨rfl, X2⟩
    go_wp2_with fail
    go_ret2
    exact ⟨rfl, X1.trans X2⟩
  have HNH := Lib.hid HN
  clear HN g hd hd8 hn8
  go_enter Tryz.func81, Tryz.ntmps81
  go_wp2_with fail
  refine (O1.out _ (Ext.refl _)).mono ?_
  rintro e w1 ⟨rfl, X1⟩
  go_wp2_with fail
  refine (O2.out _ X1).mono ?_
  rintro e w2 ⟨rfl, X2⟩
  go_wp2_with fail
  refine (HNH.out _ (X1.trans X2)).mono ?_
  rintro e w3 ⟨rfl, X3⟩
  go_wp2_with fail
  go_ret2
  exact ⟨rfl, (X1.trans X2).trans X3⟩
end Go.Proofs.YtbiffaciinppiaaGreatDoor
end
