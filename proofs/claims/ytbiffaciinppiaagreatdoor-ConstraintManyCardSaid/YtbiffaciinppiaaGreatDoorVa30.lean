/- Planned books are right. No program. klipperef05.At, Of; klippelaw25.example. klippelaw25.example. The example's book is right. No program. The numbers of the example's rows. No walk. -/
import Derived.Test.YtbiffaciinppiaaGreatDoorVa29
import Derived.Test.YtbiffaciinppiaaGreatDoorVa22
import Derived.Test.YtbiffaciinppiaaGreatDoorVa14
set_option linter.unusedVariables false
set_option linter.unusedSimpArgs false
section
namespace Go.Proofs.YtbiffaciinppiaaGreatDoor
open Go.RowKit
attribute [local irreducible] tQ

theorem mk_eq (s : Sh) (i : Nat) : ∃ k, Half k ∧ mkPts s i = (shpZ i).map (PZ (s.s0.tmod 8) (s.s1.tmod 8) k) := by
  obtain ⟨k, hk, e⟩ := plP_PZ s (0, 0)
  refine ⟨k, hk, ?_⟩
  unfold mkPts
  exact List.map_congr_left fun z _ => e z
def insZ (a b c p : Int × Int) : Bool := decide (0 ≤ sgnI (arZ a b p)) && decide (0 ≤ sgnI (arZ b c p)) && decide (0 ≤ sgnI (arZ c a p))
theorem insB_PZ {s t : Int} {k : Rat} (hk : 0 < k) (a b c p : Int × Int) : insB (PZ s t k a) (PZ s t k b) (PZ s t k c) (PZ s t k p) = insZ a b c p := by
  unfold insB insZ
  rw [arQ_PZ, arQ_PZ, arQ_PZ, sgnQ_mul _ _ (Rat.mul_pos hk hk), sgnQ_mul _ _ (Rat.mul_pos hk hk), sgnQ_mul _ _ (Rat.mul_pos hk hk)]
def ziZ (zs : List (Int × Int)) (n : Int) : Int × Int := zs.getD n.toNat (0, 0)
def somZ (zs : List (Int × Int)) (ts : List Tri) : Bool := (List.range zs.length).all fun j => (List.range ts.length).any fun i => insZ (ziZ zs (ts.getD i (0, 0, 0)).1) (ziZ zs (ts.getD i (0, 0, 0)).2.1) (ziZ zs (ts.getD i (0, 0, 0)).2.2) (zs.getD j (0, 0))
theorem somZ_ok : ∀ i < 8, somZ (shpZ i) (shpT i) = true := by decide +kernel
theorem cor_map (s t : Int) (k : Rat) (zs : List (Int × Int)) (n : Int) (h0 : 0 ≤ n) (h1 : n < zs.length) : cor (zs.map (PZ s t k)) n = PZ s t k (ziZ zs n) := by
  obtain ⟨A, hA, rfl, e⟩ := cor_nat (pts := zs.map (PZ s t k)) h0 (by rw [List.length_map]; exact h1)
  rw [e]
  simp only [List.getElem_map]
  unfold ziZ
  have : A < zs.length := by omega
  rw [Int.toNat_natCast, List.getD_eq_getElem?_getD, List.getElem?_eq_getElem this]; rfl
/-- Each point of a planned mesh lies in a triangle. -/
theorem mk_in (s : Sh) (i : Nat) (hi : i < 8) (j : Nat) (hj : j < (mkPts s i).length) : 0 < (locd (mkPts s i) (shpT i) ((mkPts s i).getD j (0, 0)) (shpT i).length).length := by
  obtain ⟨k, hk, e⟩ := mk_eq s i
  have hl : (mkPts s i).length = (shpZ i).length := by unfold mkPts; rw [List.length_map]
  rw [hl] at hj
  have h1 := somZ_ok i hi
  unfold somZ at h1
  rw [List.all_eq_true] at h1
  have h2 := h1 j (List.mem_range.2 hj)
  rw [List.any_eq_true] at h2
  obtain ⟨t, ht, h3⟩ := h2
  have ht := List.mem_range.1 ht
  have hp : (mkPts s i).getD j (0, 0) = PZ (s.s0.tmod 8) (s.s1.tmod 8) k ((shpZ i).getD j (0, 0)) := by rw [e, getD_PZ _ _ _ _ _ hj]
  rw [hp]
  unfold locd
  have hmz := shp_ok i hi
  have hix := hmz.2.2.1
  have htt : (shpT i).getD t (0, 0, 0) = (shpT i)[t] := by rw [List.getD_eq_getElem?_getD, List.getElem?_eq_getElem ht]; rfl
  rw [htt] at h3
  have hm : t ∈ (List.range (shpT i).length).filter (insAt (mkPts s i) (shpT i) (PZ (s.s0.tmod 8) (s.s1.tmod 8) k ((shpZ i).getD j (0, 0)))) := by
    refine List.mem_filter.2 ⟨List.mem_range.2 ht, ?_⟩
    rw [insAt_lt ht, e]
    have q := hix _ (List.getElem_mem ht)
    have q0 := q (shpT i)[t].1 (by simp [triIdx])
    have q1 := q (shpT i)[t].2.1 (by simp [triIdx])
    have q2 := q (shpT i)[t].2.2 (by simp [triIdx])
    rw [cor_map _ _ _ _ _ q0.1 q0.2, cor_map _ _ _ _ _ q1.1 q1.2, cor_map _ _ _ _ _ q2.1 q2.2, insB_PZ hk.pos]
    exact h3
  exact List.length_pos_of_mem hm
theorem nmA_ok (j : Nat) : NameOk (nmA j) := by
  unfold nmA
  split
  · exact ⟨by decide, by decide, by decide⟩
  · exact ⟨by decide, by decide, by decide⟩
  · exact ⟨by decide, by decide, by decide⟩
theorem obNm_ok (k : Nat) (h : k < 6) : NameOk (obNm k) := by
  rcases (show k = 0 ∨ k = 1 ∨ k = 2 ∨ k = 3 ∨ k = 4 ∨ k = 5 by omega) with rfl | rfl | rfl | rfl | rfl | rfl <;> exact ⟨by decide, by decide, by decide⟩
theorem obNm_ne (i j : Nat) (h : i < j) (hj : j < 6) : obNm i ≠ obNm j := by
  intro e
  have h0 : (obNm i).data = (obNm j).data := congrArg ByteArray.data e
  unfold obNm at h0
  simp only [Array.mk.injEq, List.cons.injEq, and_true, true_and] at h0
  have h1 := congrArg UInt8.toNat h0
  rw [UInt8.toNat_ofNat', UInt8.toNat_ofNat'] at h1
  omega
theorem idx_nm : ∀ j < 3, idxU colABC (nmA j) = j := by decide +kernel
theorem colABC_ok : ColOk colABC := by
  refine ⟨by decide, by decide, ?_, ?_⟩
  · intro x hx
    simp only [colABC, List.mem_cons, List.not_mem_nil, or_false] at hx
    have g0 : Dg 9 0 := (gr_int 0 1 1 (by omega) (by decide)).dg (by omega) (by omega)
    have g1 : Dg 9 1 := (gr_int 1 1 1 (by omega) (by decide)).dg (by omega) (by omega)
    have g5 : Dg 9 5 := (gr_int 5 5 1 (by omega) (by decide)).dg (by omega) (by omega)
    rcases hx with rfl | rfl | rfl
    · exact ⟨nmA_ok 0, g0, by decide +kernel, by simp⟩
    · refine ⟨nmA_ok 1, g0, by decide +kernel, fun q hq => ?_⟩
      simp only [Option.some.injEq] at hq
      subst hq
      exact ⟨g5, by decide +kernel⟩
    · exact ⟨nmA_ok 2, g1, by decide +kernel, by simp⟩
  · intro i j hj h
    have hj : j < 3 := hj
    rcases (show (i = 0 ∧ j = 1) ∨ (i = 0 ∧ j = 2) ∨ (i = 1 ∧ j = 2) by omega) with ⟨rfl, rfl⟩ | ⟨rfl, rfl⟩ | ⟨rfl, rfl⟩
    · show (⟨#[65]⟩ : ByteArray) ≠ ⟨#[66]⟩; decide
    · show (⟨#[65]⟩ : ByteArray) ≠ ⟨#[67]⟩; decide
    · show (⟨#[66]⟩ : ByteArray) ≠ ⟨#[67]⟩; decide
theorem mk2 (n : Int) : mkRat n 2 = (n : Rat) * (1 / 2) := by rw [Rat.mkRat_eq_div, Rat.div_def, Rat.div_def, Rat.one_mul]; rfl
theorem luA_ok (g : Sg) : (luA g).1 < 3 ∧ (luA g).2 < 3 ∧ (luA g).1 ≠ (luA g).2 := by
  unfold luA
  split <;> simp only <;> omega
theorem obsOf_ok (s : Sh) (i : Nat) (hi : i < 8) (g : Sg) (hg : SgW g) (k : Nat) (hk : k < 6) : OvOk 284 4 (mkPts s i) (shpT i) colABC (obsOf (mkPts s i) (shpT i) s g k) := by
  have hpm := mk_pm s i hi
  have hp0 : 0 < (mkPts s i).length := by unfold mkPts; rw [List.length_map]; exact shp_pos i
  have hj : g.d.toNat % (mkPts s i).length < (mkPts s i).length := Nat.mod_lt _ hp0
  have hpt : GP 284 4 (obPt (mkPts s i) (shpT i) s g) ∧ 0 < (locd (mkPts s i) (shpT i) (obPt (mkPts s i) (shpT i) s g) (shpT i).length).length := by
    unfold obPt
    split
    · rename_i hin
      exact ⟨pl2_gr s g.p0 g.p1 hg.p0 hg.p1, hin⟩
    · refine ⟨?_, mk_in s i hi _ hj⟩
      have : (mkPts s i).getD (g.d.toNat % (mkPts s i).length) (0, 0) ∈ mkPts s i := by
        rw [List.getD_eq_getElem?_getD, List.getElem?_eq_getElem hj]; exact List.getElem_mem _
      have h := hpm.gp _ this
      exact ⟨h.1.mono (by omega), h.2.mono (by omega)⟩
  obtain ⟨hgp, hin⟩ := hpt
  have hd1 : Dg 9 (obPt (mkPts s i) (shpT i) s g).1 := hgp.1.dg (by omega) (by omega)
  have hd2 : Dg 9 (obPt (mkPts s i) (shpT i) s g).2 := hgp.2.dg (by omega) (by omega)
  obtain ⟨l1, l2, l3⟩ := luA_ok g
  have hdep : Dg 9 (mkRat (g.d % 12) 2) ∧ ¬ mkRat (g.d % 12) 2 < 0 := by
    rw [mk2]
    refine ⟨((show Half (1 / 2) from .inr rfl).gr (n := g.d % 12) (N := 12) (by omega)).dg (by omega) (by omega), ?_⟩
    rw [Rat.not_lt]
    exact Rat.mul_nonneg (Rat.intCast_nonneg.2 (by omega)) (by decide +kernel)
  have hint : ∀ n : Int, n.natAbs ≤ 5 → Dg 9 (n : Rat) := fun n hn => (gr_int n 5 1 (by omega) hn).dg (by omega) (by omega)
  have t0 := tmod_lt g.n0 5 (by omega)
  have t1 := tmod_lt g.n1 5 (by omega)
  have t2 := tmod_lt g.n2 5 (by omega)
  have hnz : nzA g ≠ 0 ∧ (nzA g).natAbs ≤ 5 := by unfold nzA; split <;> omega
  have hu1 : g.u1.toNat % 3 < 3 := Nat.mod_lt _ (by omega)
  unfold obsOf
  by_cases h0 : g.kd % 3 = 0
  · rw [if_pos h0]
    exact ⟨⟨obNm_ok k hk, nmA_ok _, hd1, hd2, rfl⟩, hgp, hin, by show 0 ≤ idxU colABC (nmA (g.u1.toNat % 3)); rw [idx_nm _ hu1]; omega, trivial⟩
  · rw [if_neg h0]
    have e1 := idx_nm (max (luA g).1 (luA g).2) (by omega)
    have e2 := idx_nm (min (luA g).1 (luA g).2) (by omega)
    by_cases h1 : g.kd % 3 = 1
    · rw [if_pos h1]
      refine ⟨⟨obNm_ok k hk, nmA_ok _, hd1, hd2, nmA_ok _, hdep.1⟩, hgp, hin, ?_, ?_⟩
      · show 0 ≤ idxU colABC (nmA (max (luA g).1 (luA g).2)); rw [e1]; omega
      · show 0 ≤ idxU colABC (nmA (min (luA g).1 (luA g).2)) ∧ idxU colABC (nmA (min (luA g).1 (luA g).2)) < idxU colABC (nmA (max (luA g).1 (luA g).2)) ∧ _
        rw [e1, e2]
        exact ⟨by omega, by omega, hdep.2⟩
    · rw [if_neg h1]
      refine ⟨⟨obNm_ok k hk, nmA_ok _, hd1, hd2, nmA_ok _, hint _ (by omega), hint _ (by omega), hint _ hnz.2⟩, hgp, hin, ?_, ?_⟩
      · show 0 ≤ idxU colABC (nmA (max (luA g).1 (luA g).2)); rw [e1]; omega
      · show 0 ≤ idxU colABC (nmA (min (luA g).1 (luA g).2)) ∧ idxU colABC (nmA (min (luA g).1 (luA g).2)) < idxU colABC (nmA (max (luA g).1 (luA g).2)) ∧ _
        rw [e1, e2]
        refine ⟨by omega, by omega, fun e => hnz.1 ?_⟩
        exact_mod_cast e
theorem obsOf_name (pts : List (Rat × Rat)) (tris : List Tri) (s : Sh) (g : Sg) (k : Nat) : (obsOf pts tris s g k).name = obNm k := by
  unfold obsOf; split <;> rfl
theorem obsAll_name (pts : List (Rat × Rat)) (tris : List Tri) (s : Sh) (l : List Sg) (a : Nat) (ha : a < (obsAll pts tris s l).length) : (obsAll pts tris s l)[a].name = obNm a := by
  simp only [obsAll, List.getElem_map, List.getElem_range, obsOf_name]
theorem bkOf_ok (s : Sh) (hs : ShW s) (hh : Hts) (l : List Sg) (hl : l.length ≤ 6) (hlw : ∀ g ∈ l, SgW g) : BkOk 284 4 (bkOf s hh l) (shpC (s.kind % 8).toNat) := by
  have hi : (s.kind % 8).toNat < 8 := by have := hs.k0; omega
  refine ⟨(mk_pm s _ hi).ok, hts_len _ _, fun q hq => (hts_gr hh _ q hq).dg (by omega) (by omega), colABC_ok, by show (obsAll _ _ _ _).length ≤ 100; rw [obsAll_len]; omega, ?_, ?_⟩
  · intro o ho
    have ho : o ∈ obsAll _ _ s l := ho
    unfold obsAll at ho
    obtain ⟨k, hk, rfl⟩ := List.mem_map.1 ho
    have hk := List.mem_range.1 hk
    refine obsOf_ok s _ hi _ (hlw _ ?_) k (by omega)
    rw [List.getD_eq_getElem?_getD, List.getElem?_eq_getElem hk]; exact List.getElem_mem _
  · intro i j hj h
    have hj2 : j < l.length := by have : j < (obsAll _ _ s l).length := hj; rwa [obsAll_len] at this
    have hn : ∀ a (ha : a < (bkOf s hh l).obs.length), (bkOf s hh l).obs[a].name = obNm a := fun a ha => obsAll_name _ _ s l a ha
    rw [hn, hn]
    exact obNm_ne i j h (by omega)
end Go.Proofs.YtbiffaciinppiaaGreatDoor
end

section
namespace Go.Proofs.YtbiffaciinppiaaGreatDoor
open Go.RowKit
attribute [local irreducible] tQ

theorem refInt (n : Int) (w : World) (g : Glob w) (hn : n.natAbs < 1000) : Calls Tryz.prog 63 #[.int .i64 n, .int .i64 1] w (Ret (.string (tQ (n : Rat))) w) := by
  have := refOf n 1 w g (by omega) (by omega) (by omega)
  rw [Rat.mkRat_one] at this
  exact this
set_option maxRecDepth 100000 in
theorem at_ok (x y : Int) (w : World) (g : Glob w) (hx : x.natAbs < 1000) (hy : y.natAbs < 1000) : Calls Tryz.prog 76 #[.int .i64 x, .int .i64 y] w (Ret (.agg #[.string (tQ (x : Rat)), .string (tQ (y : Rat))]) w) := by
  have H1 := Lib.hid (fun W (X : Ext w W) => refInt x W (g.ext X) hx)
  have H2 := Lib.hid (fun W (X : Ext w W) => refInt y W (g.ext X) hy)
  clear g
  generalize tQ (x : Rat) = tx at *
  generalize tQ (y : Rat) = ty at *
  go_enter Tryz.func76, Tryz.ntmps76
  go_wp2_with fail
  have X0 := (Ext.refl w).alloc (.cells #[.string ⟨#[]⟩, .string ⟨#[]⟩] 91)
  have c0 := Cells.new w [.string ⟨#[]⟩, .string ⟨#[]⟩] 91
  refine (H1.out _ X0).mono ?_
  rintro e w1 ⟨rfl, X1⟩
  go_wp2_with fail
  refine (H2.out _ (X0.trans X1)).mono ?_
  rintro e w2 ⟨rfl, X2⟩
  have XX := (X0.trans X1).trans X2
  have c2 := (c0.ext X1).ext X2
  obtain ⟨a0, f0⟩ := c2.at 0 _ rfl
  obtain ⟨a1, f1⟩ := c2.at 1 _ rfl
  have hf := (c2.put 0 (by simp) (.string tx)).put 1 (by simp) (.string ty)
  have z0 := (hf.at 0 _ rfl).1
  have z1 := (hf.at 1 _ rfl).1
  have HX := Lib.hid ((XX.setCell (p := ⟨w.heap.size, 0, none⟩) (Nat.le_refl _) (.string tx)).setCell (p := ⟨w.heap.size, 1, none⟩) (Nat.le_refl _) (.string ty))
  go_wp2_with fail
  refine bodyPost_ret (v := .agg #[.string tx, .string ty]) (by simp [results, Tryz.results76, go_sem, z0, z1]) rfl ⟨rfl, HX.out⟩
set_option maxRecDepth 100000 in
theorem of3_ok (x y z : Int) (w : World) (g : Glob w) (hx : x.natAbs < 1000) (hy : y.natAbs < 1000) (hz : z.natAbs < 1000) : Calls Tryz.prog 77 #[.int .i64 x, .int .i64 y, .int .i64 z] w (Ret (.agg #[.string (tQ (x : Rat)), .string (tQ (y : Rat)), .string (tQ (z : Rat))]) w) := by
  have H1 := Lib.hid (fun W (X : Ext w W) => refInt x W (g.ext X) hx)
  have H2 := Lib.hid (fun W (X : Ext w W) => refInt y W (g.ext X) hy)
  have H3 := Lib.hid (fun W (X : Ext w W) => refInt z W (g.ext X) hz)
  clear g
  generalize tQ (x : Rat) = tx at *
  generalize tQ (y : Rat) = ty at *
  generalize tQ (z : Rat) = tz at *
  go_enter Tryz.func77, Tryz.ntmps77
  go_wp2_with fail
  have X0 := (Ext.refl w).alloc (.cells #[.string ⟨#[]⟩, .string ⟨#[]⟩, .string ⟨#[]⟩] 93)
  have c0 := Cells.new w [.string ⟨#[]⟩, .string ⟨#[]⟩, .string ⟨#[]⟩] 93
  refine (H1.out _ X0).mono ?_
  rintro e w1 ⟨rfl, X1⟩
  go_wp2_with fail
  refine (H2.out _ (X0.trans X1)).mono ?_
  rintro e w2 ⟨rfl, X2⟩
  go_wp2_with fail
  refine (H3.out _ ((X0.trans X1).trans X2)).mono ?_
  rintro e w3 ⟨rfl, X3⟩
  have XX := ((X0.trans X1).trans X2).trans X3
  have c2 := ((c0.ext X1).ext X2).ext X3
  obtain ⟨a0, f0⟩ := c2.at 0 _ rfl
  obtain ⟨a1, f1⟩ := c2.at 1 _ rfl
  obtain ⟨a2, f2⟩ := c2.at 2 _ rfl
  have hf := ((c2.put 0 (by simp) (.string tx)).put 1 (by simp) (.string ty)).put 2 (by simp) (.string tz)
  have z0 := (hf.at 0 _ rfl).1
  have z1 := (hf.at 1 _ rfl).1
  have z2 := (hf.at 2 _ rfl).1
  have HX := Lib.hid (((XX.setCell (p := ⟨w.heap.size, 0, none⟩) (Nat.le_refl _) (.string tx)).setCell (p := ⟨w.heap.size, 1, none⟩) (Nat.le_refl _) (.string ty)).setCell (p := ⟨w.heap.size, 2, none⟩) (Nat.le_refl _) (.string tz))
  go_wp2_with fail
  refine bodyPost_ret (v := .agg #[.string tx, .string ty, .string tz]) (by simp [results, Tryz.results77, go_sem, z0, z1, z2]) rfl ⟨rfl, HX.out⟩
end Go.Proofs.YtbiffaciinppiaaGreatDoor
end

section
namespace Go.Proofs.YtbiffaciinppiaaGreatDoor
open Go.RowKit
attribute [local irreducible] tQ

theorem tQ_4 : tQ 4 = ⟨#[52]⟩ := by decide +kernel
theorem tQ_10 : tQ 10 = ⟨#[49, 48]⟩ := by decide +kernel
def exPts : List (Rat × Rat) := [(0, 0), (6, 0), (0, 4)]
def exTris : List Tri := [(0, 1, 2)]
def exTer : List Rat := [10, 10, 10]
def exCol : List Lay := [⟨⟨#[65]⟩, 0, none⟩, ⟨⟨#[66]⟩, 0, none⟩]
def exO0 : Ob := ⟨.contact 4, ⟨#[99]⟩, (3, 0), ⟨#[66]⟩, ⟨#[65]⟩⟩
def exO1 : Ob := ⟨.dip (-1) 0 2, ⟨#[100]⟩, (3, 0), ⟨#[66]⟩, ⟨#[65]⟩⟩
def exB : Bk := ⟨exPts, exTris, exTer, exCol, [exO0, exO1]⟩
theorem atq (x y : Int) (a b : Rat) (ha : (x : Rat) = a) (hb : (y : Rat) = b) (w : World) (g : Glob w) (hx : x.natAbs < 1000) (hy : y.natAbs < 1000) : Calls Tryz.prog 76 #[.int .i64 x, .int .i64 y] w (Ret (.agg #[.string (tQ a), .string (tQ b)]) w) := by
  rw [← ha, ← hb]; exact at_ok x y w g hx hy
theorem of3q (x y z : Int) (a b c : Rat) (ha : (x : Rat) = a) (hb : (y : Rat) = b) (hc : (z : Rat) = c) (w : World) (g : Glob w) (hx : x.natAbs < 1000) (hy : y.natAbs < 1000) (hz : z.natAbs < 1000) : Calls Tryz.prog 77 #[.int .i64 x, .int .i64 y, .int .i64 z] w (Ret (.agg #[.string (tQ a), .string (tQ b), .string (tQ c)]) w) := by
  rw [← ha, ← hb, ← hc]; exact of3_ok x y z w g hx hy hz
def exPL : List Value := [.string (tQ 0), .string (tQ 0), .string (tQ 6), .string (tQ 0), .string (tQ 0), .string (tQ 4)]
def exTL : List Value := [.int .i64 0, .int .i64 1, .int .i64 2]
def exFL : List Value := [.string ⟨#[49, 48]⟩, .string ⟨#[49, 48]⟩, .string ⟨#[49, 48]⟩]
def exLL : List Value := [.string ⟨#[65]⟩, .string ⟨#[48]⟩, .string ⟨#[]⟩, .string ⟨#[66]⟩, .string ⟨#[48]⟩, .string ⟨#[]⟩]
def exOL : List Value := [.int .i64 2, .string ⟨#[99]⟩, .string (tQ 3), .string (tQ 0), .string ⟨#[52]⟩, .string ⟨#[66]⟩, .string ⟨#[65]⟩, .string ⟨#[]⟩, .string ⟨#[]⟩, .string ⟨#[]⟩, .int .i64 3, .string ⟨#[100]⟩, .string (tQ 3), .string (tQ 0), .string ⟨#[]⟩, .string ⟨#[66]⟩, .string ⟨#[65]⟩, .string (tQ (-1)), .string (tQ 0), .string (tQ 2)]
theorem set5_cells {V : World} {m b : Nat} {vs : List Value} (h : Cells b vs V) (hb : b ≠ m) (u0 u1 u2 u3 u4 : Value) :
    Cells b vs (((((V.setCell ⟨m, 0, none⟩ u0).setCell ⟨m, 1, none⟩ u1).setCell ⟨m, 2, none⟩ u2).setCell ⟨m, 3, none⟩ u3).setCell ⟨m, 4, none⟩ u4) :=
  ((((h.setOther (a := ⟨m, 0, none⟩) hb u0).setOther (a := ⟨m, 1, none⟩) hb u1).setOther (a := ⟨m, 2, none⟩) hb u2).setOther (a := ⟨m, 3, none⟩) hb u3).setOther (a := ⟨m, 4, none⟩) hb u4
theorem exIn {W : World} {pb tb fb lb ob : Nat} (hp : Cells pb exPL W) (ht : Cells tb exTL W) (hf : Cells fb exFL W) (hl : Cells lb exLL W) (ho : Cells ob exOL W) :
    BkIn W ⟨pb, 0, 3, tb, 0, 1, fb, 0, 3, lb, 0, 2, 2, some ⟨ob, 0, none⟩⟩ exB := by
  refine ⟨⟨?_, ?_⟩, ?_, ?_, ?_, Nat.le_refl _⟩
  · intro i hi
    have hi : i < 3 := hi
    rcases (show i = 0 ∨ i = 1 ∨ i = 2 by omega) with rfl | rfl | rfl
    · exact ⟨(hp.at 0 _ rfl).1, (hp.at 1 _ rfl).1⟩
    · exact ⟨(hp.at 2 _ rfl).1, (hp.at 3 _ rfl).1⟩
    · exact ⟨(hp.at 4 _ rfl).1, (hp.at 5 _ rfl).1⟩
  · intro i hi
    have hi : i < 1 := hi
    obtain rfl : i = 0 := by omega
    exact ⟨(ht.at 0 _ rfl).1, (ht.at 1 _ rfl).1, (ht.at 2 _ rfl).1⟩
  · intro i hi
    have hi : i < 3 := hi
    rcases (show i = 0 ∨ i = 1 ∨ i = 2 by omega) with rfl | rfl | rfl
    · show W.cell? _ = some (.string (tQ 10)); rw [tQ_10]; exact (hf.at 0 _ rfl).1
    · show W.cell? _ = some (.string (tQ 10)); rw [tQ_10]; exact (hf.at 1 _ rfl).1
    · show W.cell? _ = some (.string (tQ 10)); rw [tQ_10]; exact (hf.at 2 _ rfl).1
  · intro i hi
    have hi : i < 2 := hi
    rcases (show i = 0 ∨ i = 1 by omega) with rfl | rfl
    · refine ⟨(hl.at 0 _ rfl).1, ?_, (hl.at 2 _ rfl).1⟩
      show W.cell? _ = some (.string (tQ 0)); rw [tQ_0]; exact (hl.at 1 _ rfl).1
    · refine ⟨(hl.at 3 _ rfl).1, ?_, (hl.at 5 _ rfl).1⟩
      show W.cell? _ = some (.string (tQ 0)); rw [tQ_0]; exact (hl.at 4 _ rfl).1
  · intro _
    refine ⟨ob, 0, rfl, fun i hi k u hu => ?_⟩
    have hi : i < 2 := hi
    rcases (show i = 0 ∨ i = 1 by omega) with rfl | rfl
    · have hu : (obL exO0)[k]? = some u := hu
      have e : (obL exO0)[k]? = exOL[k]? ∨ (obL exO0)[k]? = none := by
        have he : obL exO0 = exOL.take 10 := by
          simp only [obL, exO0, Kd.num, Kd.depth, Kd.n0, Kd.n1, Kd.n2, tQ_4]; rfl
        rw [he, List.getElem?_take]
        split
        · exact .inl rfl
        · exact .inr rfl
      rcases e with e | e
      · rw [e] at hu
        have := (ho.at k u hu).1
        simpa using this
      · rw [e] at hu; cases hu
    · have hu : (obL exO1)[k]? = some u := hu
      have he : obL exO1 = exOL.drop 10 := by
        simp only [obL, exO1, Kd.num, Kd.depth, Kd.n0, Kd.n1, Kd.n2]; rfl
      rw [he, List.getElem?_drop] at hu
      have := (ho.at (10 + k) u hu).1
      simpa using this
set_option maxRecDepth 100000 in
set_option maxHeartbeats 4000000 in
theorem example_ok (w : World) (g : Glob w) : Calls Tryz.prog 35 #[] w (fun e w' => ∃ a : BkA, e = .returned (bkV a exB) ∧ BkIn w' a exB ∧ Ext w w') := by
  have H1 := Lib.hid (fun W (X : Ext w W) => atq 0 0 0 0 (by decide +kernel) (by decide +kernel) W (g.ext X) (by decide) (by decide))
  have H2 := Lib.hid (fun W (X : Ext w W) => atq 6 0 6 0 (by decide +kernel) (by decide +kernel) W (g.ext X) (by decide) (by decide))
  have H3 := Lib.hid (fun W (X : Ext w W) => atq 0 4 0 4 (by decide +kernel) (by decide +kernel) W (g.ext X) (by decide) (by decide))
  have H4 := Lib.hid (fun W (X : Ext w W) => atq 3 0 3 0 (by decide +kernel) (by decide +kernel) W (g.ext X) (by decide) (by decide))
  have H5 := Lib.hid (fun W (X : Ext w W) => of3q (-1) 0 2 (-1) 0 2 (by decide +kernel) (by decide +kernel) (by decide +kernel) W (g.ext X) (by decide) (by decide) (by decide))
  clear g
  go_enter Tryz.func35, Tryz.ntmps35
  go_wp2_with fail
  have c0 := Cells.new w [.slice none 0 0, .slice none 0 0, .slice none 0 0, .slice none 0 0, .slice none 0 0] 43
  have X0 := (Ext.refl w).alloc (.cells #[.slice none 0 0, .slice none 0 0, .slice none 0 0, .slice none 0 0, .slice none 0 0] 43)
  refine (H1.out _ X0).mono ?_
  rintro e w1 ⟨rfl, X1⟩
  have Y1 := X0.trans X1
  go_wp2_with fail
  refine (H2.out _ Y1).mono ?_
  rintro e w2 ⟨rfl, X2⟩
  have Y2 := Y1.trans X2
  go_wp2_with fail
  refine (H3.out _ Y2).mono ?_
  rintro e w3 ⟨rfl, X3⟩
  have Y3 := Y2.trans X3
  have c3 := ((c0.ext X1).ext X2).ext X3
  clear c0 X0 X1 Y1 X2 Y2 X3 H1 H2 H3
  go_wp2_with fail
  have hW : ∃ W4, W4 = (((w3.alloc (.cells #[.string (tQ 0), .string (tQ 0), .string (tQ 6), .string (tQ 0), .string (tQ 0), .string (tQ 4)] 91)).alloc (.cells #[.int .i64 0, .int .i64 1, .int .i64 2] 121)).alloc (.cells #[.string ⟨#[49, 48]⟩, .string ⟨#[49, 48]⟩, .string ⟨#[49, 48]⟩] 54)).alloc (.cells #[.string ⟨#[65]⟩, .string ⟨#[48]⟩, .string ⟨#[]⟩, .string ⟨#[66]⟩, .string ⟨#[48]⟩, .string ⟨#[]⟩] 56) := ⟨_, rfl⟩
  obtain ⟨W4, hW4⟩ := hW
  rw [← hW4]
  have Y4 : Ext w W4 := by rw [hW4]; exact (((Y3.alloc _).alloc _).alloc _).alloc _
  have Z4 : Ext w3 W4 := by rw [hW4]; exact ((((Ext.refl w3).alloc _).alloc _).alloc _).alloc _
  have c4 := c3.ext Z4
  have fp : Cells w3.heap.size exPL W4 := by rw [hW4]; exact ((((Cells.new w3 exPL 91).ext ((Ext.refl _).alloc _)).ext ((Ext.refl _).alloc _)).ext ((Ext.refl _).alloc _))
  have ft : Cells (w3.heap.size + 1) exTL W4 := by
    have := Cells.new (w3.alloc (.cells exPL.toArray 91)) exTL 121
    rw [World.size_alloc] at this
    rw [hW4]; exact (this.ext ((Ext.refl _).alloc _)).ext ((Ext.refl _).alloc _)
  have ff : Cells (w3.heap.size + 1 + 1) exFL W4 := by
    have := Cells.new ((w3.alloc (.cells exPL.toArray 91)).alloc (.cells exTL.toArray 121)) exFL 54
    rw [World.size_alloc, World.size_alloc] at this
    rw [hW4]; exact this.ext ((Ext.refl _).alloc _)
  have fl : Cells (w3.heap.size + 1 + 1 + 1) exLL W4 := by
    have := Cells.new (((w3.alloc (.cells exPL.toArray 91)).alloc (.cells exTL.toArray 121)).alloc (.cells exFL.toArray 54)) exLL 56
    rw [World.size_alloc, World.size_alloc, World.size_alloc] at this
    rw [hW4]; exact this
  have lt3 := World.block_lt_of_cell? w3 _ (c3.at 0 _ rfl).1
  clear hW4 c3 Y3 Z4
  refine (H4.out _ Y4).mono ?_
  rintro e w5 ⟨rfl, X5⟩
  have Y5 := Y4.trans X5
  go_wp2_with fail
  refine (H4.out _ Y5).mono ?_
  rintro e w6 ⟨rfl, X6⟩
  have Y6 := Y5.trans X6
  go_wp2_with fail
  refine (H5.out _ Y6).mono ?_
  rintro e w7 ⟨rfl, X7⟩
  have Y7 := Y6.trans X7
  replace c4 := ((c4.ext X5).ext X6).ext X7
  replace fp := ((fp.ext X5).ext X6).ext X7
  replace ft := ((ft.ext X5).ext X6).ext X7
  replace ff := ((ff.ext X5).ext X6).ext X7
  replace fl := ((fl.ext X5).ext X6).ext X7
  have A8 := (Ext.refl w7).alloc (.cells exOL.toArray 95)
  have c8 := c4.ext A8
  have p8 := fp.ext A8
  have t8 := ft.ext A8
  have f8 := ff.ext A8
  have l8 := fl.ext A8
  have o8 := Cells.new w7 exOL 95
  have Y8 := Y7.alloc (.cells exOL.toArray 95)
  have HEX : ∃ W8, W8 = w7.alloc (.cells exOL.toArray 95) := ⟨_, rfl⟩
  obtain ⟨W8, hW8⟩ := HEX
  rw [← hW8] at c8 p8 t8 f8 l8 o8 Y8
  have lt7 : w3.heap.size + 1 + 1 + 1 < w7.heap.size := World.block_lt_of_cell? w7 _ (fl.at 0 _ rfl).1
  have HF := Lib.hid (show ∀ u0 u1 u2 u3 u4, _ from fun u0 u1 u2 u3 u4 => exIn (set5_cells p8 (show w3.heap.size ≠ w.heap.size by omega) u0 u1 u2 u3 u4) (set5_cells t8 (show w3.heap.size + 1 ≠ w.heap.size by omega) u0 u1 u2 u3 u4) (set5_cells f8 (show w3.heap.size + 1 + 1 ≠ w.heap.size by omega) u0 u1 u2 u3 u4) (set5_cells l8 (show w3.heap.size + 1 + 1 + 1 ≠ w.heap.size by omega) u0 u1 u2 u3 u4) (set5_cells o8 (show w7.heap.size ≠ w.heap.size by omega) u0 u1 u2 u3 u4))
  have HP := Lib.hid (fun u0 u1 u2 u3 u4 => put5 c8 u0 u1 u2 u3 u4 Y8 (Nat.le_refl _) (show w3.heap.size ≠ w.heap.size by omega) (show FldIn W8 _ 0 [] from fun i hi => by simp at hi) (show w3.heap.size ≠ w.heap.size by omega) (show Cells _ [] W8 from fun i hi => by simp at hi))
  obtain ⟨a0, b0⟩ := c8.at 0 _ rfl
  obtain ⟨a1, b1⟩ := c8.at 1 _ rfl
  obtain ⟨a2, b2⟩ := c8.at 2 _ rfl
  obtain ⟨a3, b3⟩ := c8.at 3 _ rfl
  obtain ⟨a4, b4⟩ := c8.at 4 _ rfl
  unfold exOL at hW8
  rw [hW8] at a0 b0 a1 b1 a2 b2 a3 b3 a4 b4
  clear H4 H5 Y4 X5 Y5 X6 Y6 X7 Y7 c4 fp ft ff fl A8
  go_wp2_with fail
  have z0 := ((HP.out (.slice (some ⟨w3.heap.size, 0, none⟩) 3 3) (.slice (some ⟨w3.heap.size + 1, 0, none⟩) 1 1) (.slice (some ⟨w3.heap.size + 1 + 1, 0, none⟩) 3 3) (.slice (some ⟨w3.heap.size + 1 + 1 + 1, 0, none⟩) 2 2) (.slice (some ⟨w7.heap.size, 0, none⟩) 2 2)))
  have q0 := (z0.1.at 0 _ rfl).1
  have q1 := (z0.1.at 1 _ rfl).1
  have q2 := (z0.1.at 2 _ rfl).1
  have q3 := (z0.1.at 3 _ rfl).1
  have q4 := (z0.1.at 4 _ rfl).1
  have hx := z0.2.2.2
  have hin := HF.out (.slice (some ⟨w3.heap.size, 0, none⟩) 3 3) (.slice (some ⟨w3.heap.size + 1, 0, none⟩) 1 1) (.slice (some ⟨w3.heap.size + 1 + 1, 0, none⟩) 3 3) (.slice (some ⟨w3.heap.size + 1 + 1 + 1, 0, none⟩) 2 2) (.slice (some ⟨w7.heap.size, 0, none⟩) 2 2)
  clear z0 HP HF
  rw [← hW8]
  refine bodyPost_ret (v := .agg #[.slice (some ⟨w3.heap.size, 0, none⟩) 3 3, .slice (some ⟨w3.heap.size + 1, 0, none⟩) 1 1, .slice (some ⟨w3.heap.size + 1 + 1, 0, none⟩) 3 3, .slice (some ⟨w3.heap.size + 1 + 1 + 1, 0, none⟩) 2 2, .slice (some ⟨w7.heap.size, 0, none⟩) 2 2]) (by simp [results, Tryz.results35, go_sem, q0, q1, q2, q3, q4]) rfl ⟨_, rfl, hin, hx⟩
end Go.Proofs.YtbiffaciinppiaaGreatDoor
end

section
namespace Go.Proofs.YtbiffaciinppiaaGreatDoor
open Go.RowKit
attribute [local irreducible] tQ

theorem exPts_eq : exPts = [(0, 0), (6, 0), (0, 4)].map (PZ 0 0 1) := by decide +kernel
theorem exPm : Pm exPts exTris [0, 1, 2] := by
  rw [exPts_eq]
  have h := exa_ok.ok (s := 0) (t := 0) (k := 1) (by decide) (by decide) (.inl rfl)
  exact ⟨h.1, h.2⟩
theorem ex_in : locd exPts exTris (3, 0) 1 = [0] := by decide +kernel
theorem exCol_ok : ColOk exCol := by
  refine ⟨by decide, by decide, ?_, ?_⟩
  · intro x hx
    simp only [exCol, List.mem_cons, List.not_mem_nil, or_false] at hx
    have g0 : Dg 9 0 := (gr_int 0 1 1 (by omega) (by decide)).dg (by omega) (by omega)
    rcases hx with rfl | rfl
    · exact ⟨nmA_ok 0, g0, by decide +kernel, by simp⟩
    · exact ⟨nmA_ok 1, g0, by decide +kernel, by simp⟩
  · intro i j hj h
    have hj : j < 2 := hj
    rcases (show i = 0 ∧ j = 1 by omega) with ⟨rfl, rfl⟩
    show (⟨#[65]⟩ : ByteArray) ≠ ⟨#[66]⟩; decide
theorem exIdx0 : idxU exCol ⟨#[65]⟩ = 0 := by decide +kernel
theorem exIdx1 : idxU exCol ⟨#[66]⟩ = 1 := by decide +kernel
theorem gp30 : GP 284 4 (3, 0) := ⟨⟨by omega, 12, by decide +kernel, by decide⟩, ⟨by omega, 0, by decide +kernel, by decide⟩⟩
theorem exB_ok : BkOk 284 4 exB [0, 1, 2] := by
  have hint : ∀ n : Int, n.natAbs ≤ 10 → Dg 9 (n : Rat) := fun n hn => (gr_int n 10 1 (by omega) hn).dg (by omega) (by omega)
  have d3 : Dg 9 3 := hint 3 (by decide)
  have d0 : Dg 9 0 := hint 0 (by decide)
  have d4 : Dg 9 4 := hint 4 (by decide)
  have d2 : Dg 9 2 := hint 2 (by decide)
  have d10 : Dg 9 10 := hint 10 (by decide)
  have dm : Dg 9 (-1) := by have := hint (-1) (by decide); exact_mod_cast this
  have hin : 0 < (locd exPts exTris (3, 0) exTris.length).length := by
    show 0 < (locd exPts exTris (3, 0) 1).length
    rw [ex_in]; decide
  have n99 : NameOk ⟨#[99]⟩ := ⟨by decide, by decide, by decide⟩
  have n100 : NameOk ⟨#[100]⟩ := ⟨by decide, by decide, by decide⟩
  refine ⟨exPm.ok, rfl, ?_, exCol_ok, by decide, ?_, ?_⟩
  · intro q hq
    have hq : q ∈ exTer := hq
    simp only [exTer, List.mem_cons, List.not_mem_nil, or_false] at hq
    rcases hq with rfl | rfl | rfl <;> exact d10
  · intro o ho
    have ho : o ∈ [exO0, exO1] := ho
    simp only [List.mem_cons, List.not_mem_nil, or_false] at ho
    rcases ho with rfl | rfl
    · refine ⟨⟨n99, nmA_ok 1, d3, d0, nmA_ok 0, d4⟩, gp30, hin, ?_, ?_⟩
      · show 0 ≤ idxU exCol ⟨#[66]⟩; rw [exIdx1]; decide
      · show 0 ≤ idxU exCol ⟨#[65]⟩ ∧ idxU exCol ⟨#[65]⟩ < idxU exCol ⟨#[66]⟩ ∧ ¬ (4 : Rat) < 0
        rw [exIdx0, exIdx1]; exact ⟨by decide, by decide, by decide +kernel⟩
    · refine ⟨⟨n100, nmA_ok 1, d3, d0, nmA_ok 0, dm, d0, d2⟩, gp30, hin, ?_, ?_⟩
      · show 0 ≤ idxU exCol ⟨#[66]⟩; rw [exIdx1]; decide
      · show 0 ≤ idxU exCol ⟨#[65]⟩ ∧ idxU exCol ⟨#[65]⟩ < idxU exCol ⟨#[66]⟩ ∧ (2 : Rat) ≠ 0
        rw [exIdx0, exIdx1]; exact ⟨by decide, by decide, by decide +kernel⟩
  · intro i j hj h
    have hj : j < 2 := hj
    rcases (show i = 0 ∧ j = 1 by omega) with ⟨rfl, rfl⟩
    show (⟨#[99]⟩ : ByteArray) ≠ ⟨#[100]⟩; decide
end Go.Proofs.YtbiffaciinppiaaGreatDoor
end

section
namespace Go.Proofs.YtbiffaciinppiaaGreatDoor
open Go.RowKit
attribute [local irreducible] tQ

/-- The field that is 1 at one point, and 0 elsewhere. -/
def unitL (n k : Nat) : List Rat := (List.range n).map fun j => if j = k then 1 else 0
theorem unitL_len (n k : Nat) : (unitL n k).length = n := by unfold unitL; simp
theorem unitL_gr (n k : Nat) : ∀ q ∈ unitL n k, Gr 80 4 q := fun q hq => by
  unfold unitL at hq
  obtain ⟨j, _, rfl⟩ := List.mem_map.1 hq
  split
  · exact ⟨by omega, 4, by decide +kernel, by decide⟩
  · exact ⟨by omega, 0, by decide +kernel, by decide⟩
theorem exW0 : shr (cor exPts 0) (cor exPts 1) (cor exPts 2) (3, 0) 0 = 1 / 2 := by decide +kernel
theorem exW1 : shr (cor exPts 0) (cor exPts 1) (cor exPts 2) (3, 0) 1 = 1 / 2 := by decide +kernel
theorem exW2 : shr (cor exPts 0) (cor exPts 1) (cor exPts 2) (3, 0) 2 = 0 := by decide +kernel
theorem exE0 : slxQ exPts (unitL 3 0) (0, 1, 2) = -1 / 6 := by decide +kernel
theorem exE1 : slxQ exPts (unitL 3 1) (0, 1, 2) = 1 / 6 := by decide +kernel
theorem exE2 : slxQ exPts (unitL 3 2) (0, 1, 2) = 0 := by decide +kernel
theorem exN0 : slyQ exPts (unitL 3 0) (0, 1, 2) = -1 / 4 := by decide +kernel
theorem exN1 : slyQ exPts (unitL 3 1) (0, 1, 2) = 0 := by decide +kernel
theorem exN2 : slyQ exPts (unitL 3 2) (0, 1, 2) = 1 / 4 := by decide +kernel
theorem exVal : valQ exPts exTris exTer (3, 0) = 10 := by decide +kernel
theorem exHgt0 : hgt exO0.kd 10 = 6 := by decide +kernel
theorem exHgt1 : hgt exO1.kd 10 = 10 := by decide +kernel
end Go.Proofs.YtbiffaciinppiaaGreatDoor
end
