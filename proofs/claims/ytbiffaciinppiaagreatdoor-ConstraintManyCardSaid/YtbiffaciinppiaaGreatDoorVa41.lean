/- klippelaw25.ConstraintMany returns true. -/
import Derived.Test.YtbiffaciinppiaaGreatDoorVa40
import Derived.Test.YtbiffaciinppiaaGreatDoorVa33
set_option linter.unusedVariables false
set_option linter.unusedSimpArgs false
namespace Go.Proofs.YtbiffaciinppiaaGreatDoor
open Go.RowKit
attribute [local irreducible] tQ
set_option linter.unusedSimpArgs false

def nmT (k : Nat) : ByteArray := ⟨#[UInt8.ofNat (97 + k % 26), UInt8.ofNat (97 + k / 26)]⟩
theorem nmT_eq (k : Nat) : strOfNums [97 + ((k % 26 : Nat) : Int), 97 + ((k / 26 : Nat) : Int)] = nmT k := by
  unfold strOfNums nmT
  simp only [List.map_cons, List.map_nil, show (97 + ((k % 26 : Nat) : Int)).toNat = 97 + k % 26 by omega, show (97 + ((k / 26 : Nat) : Int)).toNat = 97 + k / 26 by omega]
theorem conv_t (k b : Nat) (W : World) (h0 : W.cell? ⟨b, 0, none⟩ = some (.int .u8 (97 + ((k % 26 : Nat) : Int)))) (h1 : W.cell? ⟨b, 1, none⟩ = some (.int .u8 (97 + ((k / 26 : Nat) : Int)))) :
    (convert 53 9 (.slice (some ⟨b, 0, none⟩) 2 2)).run Tryz.prog W = .ok (.string (nmT k)) W := by
  rw [← nmT_eq]
  refine run_convert_bytes_arg W _ 5 Tryz.underlying53 Tryz.underlying5 b 0 2 2 [97 + ((k % 26 : Nat) : Int), 97 + ((k / 26 : Nat) : Int)] rfl ?_ _ Tryz.underlying9
  intro i hi
  rcases (show i = 0 ∨ i = 1 by omega) with rfl | rfl
  · exact h0
  · exact h1
theorem nm_cat (k : Nat) : (⟨#[117]⟩ : ByteArray) ++ nmT k = unN k := by
  unfold nmT unN
  apply ByteArray.ext
  simp
def MyR (m bb : Nat) (u0 u1 u2 : Value) (w W4 : World) (v6 : Value) (wr : World) : Prop :=
  ∃ (k : Nat) (v : Value), k ≤ m ∧ v6 = .int .i64 k ∧ OwnL layL 56 3 W4.heap.size (colN k) v wr ∧ Cells bb [u0, u1, u2, v, .slice none 0 0] wr ∧ But bb W4 wr ∧ Ext w wr
set_option maxRecDepth 100000 in
set_option maxHeartbeats 4000000 in
theorem my_ok (s : Sh) (hs : ShW s) (hh : Hts) (hhw : HtW hh) (l : List Sg) (hlw : ∀ g ∈ l, SgW g) (sa : Option Addr) (sc : Nat) (x : Int) (hx : 0 ≤ x ∧ x ≤ 255) (w : World) (g : Glob w) (hin : SgsIn w sa l) :
    Calls Tryz.prog 4 #[plV s hh sa l.length sc, .int .u8 x] w (Ret (.bool true) w) := by
  have HK := Lib.hid (fun W (X : Ext w W) => known_ok W (g.ext X))
  have HMk := Lib.hid (fun (h6 : l.length ≤ 6) W (X : Ext w W) => l24make_ok s hs hh hhw l h6 hlw sa sc W (g.ext X) (hin.ext X))
  have HB := Lib.hid (fun (h6 : l.length ≤ 6) => bkOf_ok s hs hh l h6 hlw)
  have HP := Lib.hid (bkOf_pts s hs hh l)
  have HG := Lib.hid g
  clear hin hlw g hhw hs
  simp only [plV] at *
  go_enter Tryz.func4, Tryz.ntmps4
  go_upto_region 1 with fail
  have hW : ∃ W0, W0 = w.alloc (.cells (plL s hh sa l.length sc).toArray 31) := ⟨_, rfl⟩
  obtain ⟨W0, hW⟩ := hW
  have X0 : Ext w W0 := by rw [hW]; exact (Ext.refl w).alloc _
  have cP : Cells w.heap.size (plL s hh sa l.length sc) W0 := by rw [hW]; exact Cells.new w (plL s hh sa l.length sc) 31
  unfold plL at hW
  rw [← hW]
  clear hW
  by_cases h6 : 6 < l.length
  · have d6 : decide ((l.length : Int) > 6) = true := decide_eq_true (by omega)
    have c6 : (6 : Int) < l.length := by omega
    clear h6 HMk HB HP HG
    go_wp2_with fail
    refine (HK.out W0 X0).mono ?_
    rintro e w1 ⟨rfl, X1⟩
    have X2 := X0.trans X1
    have p11 := ((cP.ext X1).at 11 _ rfl).1
    clear X1 X0 cP
    go_wp2_with fail
    refine (HK.out w1 X2).mono ?_
    rintro e w2 ⟨rfl, X3⟩
    have HX := Lib.hid (X2.trans X3)
    clear X2 X3 p11
    go_wp2_with fail
    go_ret
    exact ⟨rfl, HX.out⟩
  have h6' : l.length ≤ 6 := by omega
  have d6 : decide ((l.length : Int) > 6) = false := decide_eq_false (by omega)
  have c6 : (l.length : Int) ≤ 6 := by omega
  have HMk2 := Lib.hid (HMk.out h6')
  have HB2 := Lib.hid (HB.out h6')
  clear h6 HMk HB h6'
  go_wp2_with fail
  refine (HK.out W0 X0).mono ?_
  rintro e w1 ⟨rfl, X1⟩
  have XX := X0.trans X1
  have cP1 := cP.ext X1
  clear cP X0 X1 HK
  have p0 := (cP1.at 0 _ rfl).1
  have p1 := (cP1.at 1 _ rfl).1
  have p2 := (cP1.at 2 _ rfl).1
  have p3 := (cP1.at 3 _ rfl).1
  have p4 := (cP1.at 4 _ rfl).1
  have p5 := (cP1.at 5 _ rfl).1
  have p6 := (cP1.at 6 _ rfl).1
  have p7 := (cP1.at 7 _ rfl).1
  have p8 := (cP1.at 8 _ rfl).1
  have p9 := (cP1.at 9 _ rfl).1
  have p10 := (cP1.at 10 _ rfl).1
  have p11 := (cP1.at 11 _ rfl).1
  go_wp2_with fail
  refine (HMk2.out w1 XX).mono ?_
  rintro e w2 ⟨a, rfl, hI, X2⟩
  have XY := XX.trans X2
  have hbok := HB2.out
  have hpp := HP.out
  have hg2 := HG.out.ext XY
  clear p0 p1 p2 p3 p4 p5 p6 p7 p8 p9 p10 p11 cP1 XX X2 HMk2 HB2 HP HG d6 c6
  generalize bkOf s hh l = b at *
  have hM := hI.m
  have hF := hI.f
  have HBK := Lib.hid hbok
  have HPP := Lib.hid hpp
  have HG2 := Lib.hid hg2
  clear hI hg2
  obtain ⟨pts, tris, ter, col, obs⟩ := b
  obtain ⟨pb, po, pc, tb, tO, tc, fb, fo, fc, lb, lo, lc, oc, oa⟩ := a
  simp only at hM hF hpp
  have hterl : ter.length = pts.length := hbok.flen
  have hmt := hbok.mesh.tne
  clear hbok
  simp only [bkV]
  go_upto_region 4 with fail
  have hW : ∃ W3, W3 = w2.alloc (.cells #[.slice (some ⟨pb, po, none⟩) pts.length pc, .slice (some ⟨tb, tO, none⟩) tris.length tc, .slice (some ⟨fb, fo, none⟩) pts.length fc, .slice (some ⟨lb, lo, none⟩) col.length lc, .slice oa obs.length oc] 43) := ⟨_, rfl⟩
  obtain ⟨W3, hW⟩ := hW
  rw [← hW]
  have X3 : Ext w2 W3 := by rw [hW]; exact (Ext.refl w2).alloc _
  have cB : Cells w2.heap.size [.slice (some ⟨pb, po, none⟩) pts.length pc, .slice (some ⟨tb, tO, none⟩) tris.length tc, .slice (some ⟨fb, fo, none⟩) pts.length fc, .slice (some ⟨lb, lo, none⟩) col.length lc, .slice oa obs.length oc] W3 := by rw [hW]; exact Cells.new _ _ _
  have hs3 : W3.heap.size = w2.heap.size + 1 := by rw [hW]; simp
  clear hW
  have y3 := (cB.at 3 _ rfl)
  have y4 := (cB.at 4 _ rfl)
  obtain ⟨y3, f3⟩ := y3
  obtain ⟨y4, f4⟩ := y4
  have cB4 := (cB.put 4 (by simp) (.slice none 0 0)).put 3 (by simp) (.slice none 0 0)
  have X4 : Ext w2 ((W3.setCell ⟨w2.heap.size, 4, none⟩ (.slice none 0 0)).setCell ⟨w2.heap.size, 3, none⟩ (.slice none 0 0)) := (X3.setCell (p := ⟨w2.heap.size, 4, none⟩) (Nat.le_refl _) _).setCell (p := ⟨w2.heap.size, 3, none⟩) (Nat.le_refl _) _
  have hs4 : Hid (w2.heap.size < ((W3.setCell ⟨w2.heap.size, 4, none⟩ (.slice none 0 0)).setCell ⟨w2.heap.size, 3, none⟩ (.slice none 0 0)).heap.size) := Lib.hid (by simp; omega)
  clear hs3
  go_upto_region 5 with fail
  have hW4 : ∃ W4, W4 = (W3.setCell ⟨w2.heap.size, 4, none⟩ (.slice none 0 0)).setCell ⟨w2.heap.size, 3, none⟩ (.slice none 0 0) := ⟨_, rfl⟩
  obtain ⟨W4, hW4⟩ := hW4
  rw [← hW4] at cB4 X4 hs4 ⊢
  clear hW4 y3 f3 y4 f4 cB X3
  have hPl : ∃ P, P = pts.length := ⟨_, rfl⟩
  obtain ⟨P, hPl⟩ := hPl
  have hTl : ∃ T, T = tris.length := ⟨_, rfl⟩
  obtain ⟨T, hTl⟩ := hTl
  rw [← hPl, ← hTl] at cB4
  rw [← hPl] at hpp
  rw [← hPl, ← hTl]
  have HPl := Lib.hid (And.intro hPl hTl)
  clear hPl hTl hterl hmt
  have hSx : ∃ S : Nat, x.tmod 30 = (S : Int) ∧ S ≤ 29 := by
    rw [Int.tmod_eq_emod_of_nonneg hx.1]
    exact ⟨(x % 30).toNat, by omega, by omega⟩
  obtain ⟨S, hS1, hS2⟩ := hSx
  have hS3 : IntKind.u8.wrap (S : Int) = S := by simp only [IntKind.wrap_u8]; omega
  have hS4 : IntKind.i64.wrap (S : Int) = S := by simp only [IntKind.wrap_i64]; omega
  have hS5 : IntKind.i64.wrap (1 + (S : Int)) = 1 + S := by simp only [IntKind.wrap_i64]; omega
  have hst : MyR (S + 1) w2.heap.size (.slice (some ⟨pb, po, none⟩) P pc) (.slice (some ⟨tb, tO, none⟩) T tc) (.slice (some ⟨fb, fo, none⟩) P fc) w2 W4 (.int .i64 0) W4 := ⟨0, .slice none 0 0, by omega, rfl, OwnL.nil _, cB4, But.refl _ _, X4⟩
  have HPP2 := Lib.hid hpp
  have HMF := Lib.hid (And.intro hM hF)
  clear hM hF hpp cB4 X4 HPP
  go_wp2_with fail
  go_loopw [6] (MyR (S + 1) w2.heap.size (.slice (some ⟨pb, po, none⟩) P pc) (.slice (some ⟨tb, tO, none⟩) T tc) (.slice (some ⟨fb, fo, none⟩) P fc) w2 W4) (fun p _ => S + 1 - (intOf p).toNat)
  case atStart => exact hst
  case round =>
    obtain ⟨k, v, hk, rfl, hown, hc, hB, XR⟩ := hrel
    by_cases hlt : k < S + 1
    · have kl : (k : Int) < 1 + (S : Int) := by omega
      have hr1 : (k : Int).tmod 26 = ((k % 26 : Nat) : Int) := by rw [Int.tmod_eq_emod_of_nonneg (by omega)]; exact (Int.natCast_emod _ _).symm
      have hd1 : (k : Int).tdiv 26 = ((k / 26 : Nat) : Int) := by rw [Int.tdiv_eq_ediv_of_nonneg (by omega)]; exact (Int.natCast_ediv _ _).symm
      have hcv := conv_t k wr.heap.size (wr.alloc (.cells #[.int .u8 (97 + ((k % 26 : Nat) : Int)), .int .u8 (97 + ((k / 26 : Nat) : Int))] 5)) (Cells.new wr [.int .u8 (97 + ((k % 26 : Nat) : Int)), .int .u8 (97 + ((k / 26 : Nat) : Int))] 5 0 (by simp)).1 (Cells.new wr [.int .u8 (97 + ((k % 26 : Nat) : Int)), .int .u8 (97 + ((k / 26 : Nat) : Int))] 5 1 (by simp)).1
      have hcat := nm_cat k
      have hnz : (nmT k).size = 2 := rfl
      have hr : k % 26 < 26 := Nat.mod_lt _ (by omega)
      have hd : k / 26 < 26 := by omega
      have n0 := (hc.at 3 _ rfl).1
      have XA : Ext wr ((wr.alloc (.cells #[.int .u8 (97 + ((k % 26 : Nat) : Int)), .int .u8 (97 + ((k / 26 : Nat) : Int))] 5)).alloc (.cells #[.string (unN k), .string ⟨#[49]⟩, .string ⟨#[]⟩] 56)) := ((Ext.refl wr).alloc _).alloc _
      have howa := hown.below XA
      have hbs := hB.1
      have hlen := colN_len k
      have hcn : ∀ j u, (layL (layN k))[j]? = some u → ((wr.alloc (.cells #[.int .u8 (97 + ((k % 26 : Nat) : Int)), .int .u8 (97 + ((k / 26 : Nat) : Int))] 5)).alloc (.cells #[.string (unN k), .string ⟨#[49]⟩, .string ⟨#[]⟩] 56)).cell? (Addr.add ⟨wr.heap.size + 1, 0, none⟩ j) = some u := fun j u hu => by
        rw [addr0]
        have := Cells.new (wr.alloc (.cells #[.int .u8 (97 + ((k % 26 : Nat) : Int)), .int .u8 (97 + ((k / 26 : Nat) : Int))] 5)) [.string (unN k), .string ⟨#[49]⟩, .string ⟨#[]⟩] 56
        rw [World.size_alloc] at this
        refine cells_at this j u ?_
        unfold layL layN at hu
        simp only [mxT, tQ_1] at hu
        exact hu
      have hbN : w2.heap.size < W4.heap.size := hs4.out
      have HE := Lib.hid (show ∀ q c' W6, OwnL layL 56 3 W4.heap.size (colN k ++ [layN k]) (.slice (some ⟨q, 0, none⟩) (k + 1) c') W6 → Below W4.heap.size wr W6 → Cells w2.heap.size [.slice (some ⟨pb, po, none⟩) P pc, .slice (some ⟨tb, tO, none⟩) T tc, .slice (some ⟨fb, fo, none⟩) P fc, v, .slice none 0 0] W6 ∧ Hid (MyR (S + 1) w2.heap.size (.slice (some ⟨pb, po, none⟩) P pc) (.slice (some ⟨tb, tO, none⟩) T tc) (.slice (some ⟨fb, fo, none⟩) P fc) w2 W4 (.int .i64 ((k : Int) + 1)) (W6.setCell ⟨w2.heap.size, 3, none⟩ (.slice (some ⟨q, 0, none⟩) (k + 1) c'))) from fun q c' W6 h1 h2 => by
        have d6 := hc.block h2 hbN
        refine ⟨d6, Lib.hid ⟨k + 1, _, hlt, by push_cast; rfl, ?_, d6.put 3 (by simp) _, (hB.below h2).set _ _, (Ext.trans' XR (Below.mono h2 (by omega))).setCell (p := ⟨w2.heap.size, 3, none⟩) (Nat.le_refl _) _⟩⟩
        rw [colN_succ]
        exact h1.put (a := ⟨w2.heap.size, 3, none⟩) hbN _)
      have hBa : Below W4.heap.size wr ((wr.alloc (.cells #[.int .u8 (97 + ((k % 26 : Nat) : Int)), .int .u8 (97 + ((k / 26 : Nat) : Int))] 5)).alloc (.cells #[.string (unN k), .string ⟨#[49]⟩, .string ⟨#[]⟩] 56)) := Below.mono XA hbs
      have hsz2 := XA.size
      have HLn := Lib.hid hlen
      clear hown hc hB XR XA hbN hlen
      generalize k % 26 = r at *
      generalize k / 26 = d at *
      generalize nmT k = nm at *
      generalize unN k = un at *
      have hr2 : IntKind.i64.wrap (97 + (r : Int)) = 97 + r := by simp only [IntKind.wrap_i64]; omega
      have hr3 : IntKind.u8.wrap (97 + (r : Int)) = 97 + r := by simp only [IntKind.wrap_u8]; omega
      have hd2 : IntKind.i64.wrap (97 + (d : Int)) = 97 + d := by simp only [IntKind.wrap_i64]; omega
      have hd3 : IntKind.u8.wrap (97 + (d : Int)) = 97 + d := by simp only [IntKind.wrap_u8]; omega
      have hd4 : IntKind.i64.wrap (d : Int) = d := by simp only [IntKind.wrap_i64]; omega
      go_wp2_with (at_builtin; go_loud (refine wpList_push _ ELay rfl _ _ rfl (v := v) rfl howa (layN k) ⟨wr.heap.size + 1, 0, none⟩ 1 rfl rfl (by intro uu huu; simp only [layL, List.mem_cons, List.not_mem_nil, or_false] at huu; rcases huu with rfl | rfl | rfl <;> rfl) hcn (by have := HLn.out; omega) (by omega) ?_); intro q' c' W6 hown6 hX6 hg6; rw [HLn.out] at hown6 ⊢; obtain ⟨d6, HR⟩ := HE.out q' c' W6 hown6 (hX6.out _ wr (Nat.le_refl _) hbs hBa); obtain ⟨z3, f3⟩ := d6.at 3 _ rfl; clear hown6 hX6 hg6 HE howa hcn d6)
      exact ⟨HR.out, by simp only [intOf]; omega⟩
    · obtain rfl : k = S + 1 := by omega
      have hcap : ∃ g4 vc, v = .slice (some ⟨g4, 0, none⟩) (S + 1) vc ∧ S + 1 ≤ vc := by
        rcases hown.2.2 with ⟨h1, h2⟩ | ⟨g, cap, cur, h1, _, _, h2, _⟩
        · rw [colN_len] at h2; omega
        · rw [colN_len] at h1 h2
          exact ⟨g, cap, h1, h2⟩
      obtain ⟨g4, vc, rfl, hvc⟩ := hcap
      have hlay := hown.lays
      have hbk : BkOk 284 4 ⟨pts, tris, ter, colN (S + 1), []⟩ (shpC (s.kind % 8).toNat) := ⟨HBK.out.mesh, HBK.out.flen, HBK.out.fdg, colN_ok (S + 1) (by omega) (by omega), by simp, fun o ho => by simp at ho, fun i j hj => by simp at hj⟩
      have hin : BkIn wr ⟨pb, po, pc, tb, tO, tc, fb, fo, fc, g4, 0, vc, 0, none⟩ ⟨pts, tris, ter, colN (S + 1), []⟩ :=
        ⟨HMF.out.1.ext XR, HMF.out.2.ext XR, hlay, fun h => absurd rfl h, by show (colN (S + 1)).length ≤ vc; rw [colN_len]; exact hvc⟩
      have hgl := HG2.out.ext XR
      have hbv : bkV ⟨pb, po, pc, tb, tO, tc, fb, fo, fc, g4, 0, vc, 0, none⟩ ⟨pts, tris, ter, colN (S + 1), []⟩ = .agg #[.slice (some ⟨pb, po, none⟩) P pc, .slice (some ⟨tb, tO, none⟩) T tc, .slice (some ⟨fb, fo, none⟩) P fc, .slice (some ⟨g4, 0, none⟩) (S + 1) vc, .slice none 0 0] := by
        unfold bkV
        rw [colN_len, HPl.out.1, HPl.out.2]
        rfl
      have hpl := HPl.out.1
      have hpp := HPP2.out
      have hp1 : 0 < pts.length ∧ pts.length ≤ 6 := by rw [← hpl]; exact hpp
      have hLc : ∀ W, Ext wr W → Calls Tryz.prog 16 #[bkV ⟨pb, po, pc, tb, tO, tc, fb, fo, fc, g4, 0, vc, 0, none⟩ ⟨pts, tris, ter, colN (S + 1), []⟩] W (Ret (.int .i64 ((S * pts.length : Nat) : Int)) W) := fun W _ => lcount_ok ⟨pts, tris, ter, colN (S + 1), []⟩ S (colN_len _) (by omega) (by show pts.length ≤ 60; omega) _ W
      have XZ := Lib.hid (XY.trans XR)
      by_cases hlim : 60 < S * pts.length
      · have hCl : ∀ W, Ext wr W → Calls Tryz.prog 13 #[bkV ⟨pb, po, pc, tb, tO, tc, fb, fo, fc, g4, 0, vc, 0, none⟩ ⟨pts, tris, ter, colN (S + 1), []⟩] W (Ret (.tuple #[.int .i64 0, .int .i64 4]) W) := fun W X => count_lim 284 4 _ _ hbk S (colN_len _) hlim (by show pts.length ≤ 60; omega) _ W (hgl.ext X) (hin.ext X)
        have d60 : decide (((S * pts.length : Nat) : Int) > 60) = true := decide_eq_true (by omega)
        have c60 : (60 : Int) < ((S * pts.length : Nat) : Int) := by omega
        rw [hbv] at hLc hCl
        have HC := Lib.hid hCl
        have HL := Lib.hid hLc
        have c0 := hc
        clear hCl hLc hbv hbk hin hgl hlay hown hB hpl hpp hp1 hlim hvc hc
        generalize S * pts.length = sp at *
        obtain ⟨b0, b1, b2, b3, b4⟩ := five c0
        go_wp2_with fail
        refine (HC.out wr (Ext.refl wr)).mono ?_
        rintro e w5 ⟨rfl, X5⟩
        clear b0 b1 b2 b3 b4
        obtain ⟨b0, b1, b2, b3, b4⟩ := five (c0.ext X5)
        go_wp2_with fail
        refine (HL.out w5 X5).mono ?_
        rintro e w6 ⟨rfl, X6⟩
        have HX := Lib.hid (XZ.out.trans (X5.trans X6))
        clear b0 b1 b2 b3 b4 X5 X6 c0
        go_wp2_with fail
        go_ret
        exact ⟨rfl, HX.out⟩
      · have hCo : ∀ W, Ext wr W → Calls Tryz.prog 13 #[bkV ⟨pb, po, pc, tb, tO, tc, fb, fo, fc, g4, 0, vc, 0, none⟩ ⟨pts, tris, ter, colN (S + 1), []⟩] W (Ret (.tuple #[.int .i64 ((S * pts.length : Nat) : Int), .int .i64 0]) W) := fun W X => count_ok 284 4 _ _ hbk S (colN_len _) (by show S * pts.length ≤ 60; omega) (by show pts.length ≤ 60; omega) _ W (hgl.ext X) (hin.ext X)
        have hTh : ∀ W, Ext wr W → Calls Tryz.prog 17 #[bkV ⟨pb, po, pc, tb, tO, tc, fb, fo, fc, g4, 0, vc, 0, none⟩ ⟨pts, tris, ter, colN (S + 1), []⟩] W (RowsT2 (S * pts.length) (thkL pts.length (colN (S + 1)) (S - 1) 0) W) := fun W X => thickness_ok 284 4 _ _ hbk S (colN_len _) (by show S * pts.length ≤ 60; omega) hp1.1 (by show pts.length ≤ 60; omega) (colN_mx _) _ W (hgl.ext X) (hin.ext X)
        have hLt : ∀ W, Ext wr W → Calls Tryz.prog 19 #[bkV ⟨pb, po, pc, tb, tO, tc, fb, fo, fc, g4, 0, vc, 0, none⟩ ⟨pts, tris, ter, colN (S + 1), []⟩] W (RowsT (S * pts.length) (thkL pts.length (colN (S + 1)) (S - 1) 0) W) := fun W X => lthick_ok ⟨pts, tris, ter, colN (S + 1), []⟩ S (colN_len _) (by omega) hp1.1 (by show pts.length ≤ 60; omega) (by show S * pts.length ≤ 60; omega) (colN_mx _) (fun x hx => (hbk.col.lay x hx).mn) _ W (hin.ext X).l
        have d60 : decide (((S * pts.length : Nat) : Int) > 60) = false := decide_eq_false (by omega)
        have c60 : ((S * pts.length : Nat) : Int) ≤ 60 := by omega
        rw [hbv] at hLc hCo hTh hLt
        have HC := Lib.hid hCo
        have HL := Lib.hid hLc
        have HTh := Lib.hid hTh
        have HLt := Lib.hid hLt
        have hRl : (thkL pts.length (colN (S + 1)) (S - 1) 0).length ≤ 1000 := by
          rw [thkL_len]
          have : (S - 1) * pts.length ≤ S * pts.length := Nat.mul_le_mul_right _ (by omega)
          omega
        have HRl := Lib.hid hRl
        have c0 := hc
        clear hCo hLc hTh hLt hbv hbk hin hgl hlay hown hB hpl hpp hp1 hlim hvc hc hRl
        generalize thkL pts.length (colN (S + 1)) (S - 1) 0 = R at *
        generalize S * pts.length = sp at *
        obtain ⟨b0, b1, b2, b3, b4⟩ := five c0
        go_wp2_with fail
        refine (HC.out wr (Ext.refl wr)).mono ?_
        rintro e w5 ⟨rfl, X5⟩
        clear b0 b1 b2 b3 b4
        obtain ⟨b0, b1, b2, b3, b4⟩ := five (c0.ext X5)
        go_wp2_with fail
        refine (HL.out w5 X5).mono ?_
        rintro e w6 ⟨rfl, X6⟩
        have Y6 := X5.trans X6
        clear b0 b1 b2 b3 b4
        obtain ⟨b0, b1, b2, b3, b4⟩ := five (c0.ext Y6)
        go_wp2_with fail
        refine (HTh.out w6 Y6).mono ?_
        rintro e w7 ⟨v1, N1, B1, rfl, _, ho1, hr1, hN1, X7⟩
        have Y7 := Y6.trans X7
        clear b0 b1 b2 b3 b4
        obtain ⟨b0, b1, b2, b3, b4⟩ := five (c0.ext Y7)
        go_wp2_with fail
        refine (HL.out w7 Y7).mono ?_
        rintro e w8 ⟨rfl, X8⟩
        have Y8 := Y7.trans X8
        clear b0 b1 b2 b3 b4
        obtain ⟨b0, b1, b2, b3, b4⟩ := five (c0.ext Y8)
        go_wp2_with fail
        refine (HLt.out w8 Y8).mono ?_
        rintro e w9 ⟨v2, N2, B2, rfl, _, ho2, hr2, hN2, X9⟩
        have X79 := X8.trans X9
        have HSm := Lib.hid (sameRows_ok sp (by omega) N1 N2 (by rw [hN1, hN2]) (by have := congrArg List.length hN1; rw [List.length_map] at this; have := HRl.out; omega) B1 B2 v1 v2 w9 (ho1.below X79) ho2 (fun r hr => ⟨(hr1 r hr).1, (hr1 r hr).2.ext X79⟩) hr2)
        have HY := Lib.hid (Y8.trans X9)
        clear b0 b1 b2 b3 b4 c0 ho1 hr1 hN1 ho2 hr2 hN2 X5 X6 Y6 X7 Y7 X8 Y8 X9 X79
        go_wp2_with fail
        refine HSm.out.mono ?_
        rintro e w10 ⟨rfl, X10⟩
        have HX := Lib.hid (XZ.out.trans (HY.out.trans X10))
        clear X10
        go_wp2_with fail
        go_ret
        exact ⟨rfl, HX.out⟩
end Go.Proofs.YtbiffaciinppiaaGreatDoor
