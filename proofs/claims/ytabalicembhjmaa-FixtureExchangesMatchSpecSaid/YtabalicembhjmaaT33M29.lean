/- What the reference's Exchange needs beyond XExchKeep. No walk in it. The reference's ParamOf. (printed by wip/gen/gen_find.py) The reference's CheckSettings. (printed by wip/gen/gen_rckstg.py) level.Octet. (printed by wip/gen/gen_octet.py) -/
import Derived.Test.YtabalicembhjmaaT33M26
import Derived.Test.YtabalicembhjmaaT33M15
import Derived.Test.YtabalicembhjmaaT33M25
import Derived.Test.YtabalicembhjmaaT33M18
import Derived.Test.YtabalicembhjmaaT33M23
import Derived.Test.YtabalicembhjmaaT33M02
import Derived.Test.YtabalicembhjmaaT33M03

namespace Go.Proofs.Ytabalicembhjmaa
open Go.RowKit
set_option linter.unusedVariables false
set_option linter.unusedSimpArgs false

theorem fits_free' {x : Rig} (hx : chkRig x = 0) (U a s but : Int) (hs : 1 ≤ s) : fitsV x U a s but = freeAt (usBut x but) U a s := by
  by_cases h2 : a + s - 1 ≤ 512
  · exact (fits_free hx U a s but hs h2).symm
  · have h3 : freeAt (usBut x but) U a s = false := by
      cases c : freeAt (usBut x but) U a s
      · rfl
      · unfold freeAt at c
        rw [freeN_iff] at c
        have := (c (a + s - 1) (by omega) (by omega)).1
        omega
    rw [h3]
    unfold fitsV
    rw [decide_eq_false h2]
    rfl
/-- the argument's box with new units -/
theorem RigBox.setPar {w W : World} {lv uv : Value} (h : RigBox w lv uv W) (nuv : Value) : RigBox w lv nuv (W.setCell ⟨w.heap.size, 1, none⟩ nuv) := by
  have hz := h.size
  have p := h.par.set 1 nuv
  simp only [List.setIfInBounds_toArray, List.set_cons_succ, List.set_cons_zero] at p
  have r : TBox (W.setCell ⟨w.heap.size, 1, none⟩ nuv) (w.heap.size + 1) 25 #[.slice none 0 0, .slice none 0 0] := h.res.setOther (by omega) nuv
  have p' := (RigBox.start w lv nuv).par
  have r' := (RigBox.start w lv nuv).res
  have hA := h.bel.setCell (p := ⟨w.heap.size, 1, none⟩) (Nat.le_refl _) nuv
  have hB := (RigBox.start w lv nuv).bel
  refine ⟨hA.os.trans hB.os.symm, hA.tape.trans hB.tape.symm, hA.output.trans hB.output.symm, ?_, fun b hb => ?_⟩
  · have := Below.size h; simpa using this
  · by_cases h1 : b = w.heap.size
    · subst h1; exact p.trans p'.symm
    · by_cases h2 : b = w.heap.size + 1
      · subst h2; exact r.trans r'.symm
      · have hb3 : b < w.heap.size := by omega
        exact ((h.bel.setCell (p := ⟨w.heap.size, 1, none⟩) (Nat.le_refl _) nuv).block b hb3).trans ((RigBox.start w lv nuv).bel.block b hb3).symm
/-- no library of one's own -/
theorem OwnL.none (base : Nat) (w : World) : OwnL base w (.slice none 0 0) [] := OwnL.nil base w
end Go.Proofs.Ytabalicembhjmaa

namespace Go.Proofs.Ytabalicembhjmaa
open Go.RowKit
set_option linter.unusedVariables false
set_option linter.unusedSimpArgs false

set_option maxRecDepth 100000 in
set_option maxHeartbeats 16000000 in
theorem rfind_any (x : Rig) (lv uv : Value) (B : Nat) (n : Int) (nm : ByteArray) (w : World) (hBw : B ≤ w.heap.size) (h : RigAt B w x lv uv) (hx : chkRig x = 0) (hn : I64 n) :
    Calls Try.prog 82 #[rigV lv uv, .agg #[.int .i64 n, .string nm]] w fun e w' => ∃ xv, e = .returned (.tuple #[xv, .bool (findO x n nm.data.toList).isSome]) ∧ ParR B w' (findO x n nm.data.toList) xv ∧ Below w.heap.size w w' := by
  have CU := Lib.hid (fun W (hb : Below w.heap.size w W) => runit_any x lv uv n W ((h.below (hb.mono hBw)).more (Nat.le_trans hBw hb.size)))
  have CP := Lib.hid (fun (nm : ByteArray) W (hb : Below w.heap.size w W) => rprofile_base B lv x.lib nm W (Nat.le_trans hBw hb.size) (h.lib.below (hb.mono hBw)))
  have HG := Lib.hid (UntS.get h.units)
  obtain ⟨uo, ucap, rfl, _⟩ := CellsS.shape h.units
  obtain ⟨lo, lcap, rfl⟩ := prfS_shape h.lib
  have hcp := untS_cap h.units
  have HNO := Lib.hid (fun (h : hasU x.units n = false) => findO_no h nm.data.toList)
  have HYE := Lib.hid (fun (h : hasU x.units n = true) => findO_yes hx h nm.data.toList)
  have HRN := Lib.hid (fun u (hu : u ∈ x.units) => num_range hx hu)
  have HIX := Lib.hid (idxU_has (asc_units hx) n)
  unfold rigV at *
  clear h hx
  generalize findO x n nm.data.toList = RES at *
  have KC := Lib.hid (show ∀ W, Below (w.heap.size + 3) (((w.alloc (.cells #[.slice lo x.lib.length lcap, .slice uo x.units.length ucap] 25)).alloc (.cells #[.int .i64 n, .string nm] 33)).alloc (.cells #[.string ⟨#[]⟩, .int .i64 0, .int .i64 0, .int .i64 0, .int .i64 0, .bool false, .slice none 0 0] 42)) W → (Below w.heap.size w W ∧ w.heap.size + 1 + 1 < W.heap.size ∧ W.cell? ⟨w.heap.size, 0, none⟩ = some (.slice lo x.lib.length lcap) ∧ W.cell? ⟨w.heap.size, 1, none⟩ = some (.slice uo x.units.length ucap) ∧ W.cell? ⟨w.heap.size + 1, 0, none⟩ = some (.int .i64 n) ∧ W.cell? ⟨w.heap.size + 1, 1, none⟩ = some (.string nm) ∧ W.cell? ⟨w.heap.size + 1 + 1, 0, none⟩ = some (.string ⟨#[]⟩) ∧ W.cell? ⟨w.heap.size + 1 + 1, 1, none⟩ = some (.int .i64 0) ∧ W.cell? ⟨w.heap.size + 1 + 1, 2, none⟩ = some (.int .i64 0) ∧ W.cell? ⟨w.heap.size + 1 + 1, 3, none⟩ = some (.int .i64 0) ∧ W.cell? ⟨w.heap.size + 1 + 1, 4, none⟩ = some (.int .i64 0) ∧ W.cell? ⟨w.heap.size + 1 + 1, 5, none⟩ = some (.bool false) ∧ W.cell? ⟨w.heap.size + 1 + 1, 6, none⟩ = some (.slice none 0 0) ∧ W.frozen? ⟨w.heap.size + 1 + 1, 0, none⟩ = false ∧ W.frozen? ⟨w.heap.size + 1 + 1, 1, none⟩ = false ∧ W.frozen? ⟨w.heap.size + 1 + 1, 2, none⟩ = false ∧ W.frozen? ⟨w.heap.size + 1 + 1, 3, none⟩ = false ∧ W.frozen? ⟨w.heap.size + 1 + 1, 4, none⟩ = false ∧ W.frozen? ⟨w.heap.size + 1 + 1, 5, none⟩ = false ∧ W.frozen? ⟨w.heap.size + 1 + 1, 6, none⟩ = false) from fun W hW => by
    have hz := hW.size
    simp at hz
    exact ⟨((((Below.refl _ _).alloc (Nat.le_refl _) _).alloc (by simp) _).alloc (by simp; try omega) _).trans (hW.mono (by omega)), by omega, (hW.cell (p := ⟨w.heap.size, 0, none⟩) (by simp; try omega)).trans (by simp [go_sem, World.cell?_alloc_past]), (hW.cell (p := ⟨w.heap.size, 1, none⟩) (by simp; try omega)).trans (by simp [go_sem, World.cell?_alloc_past]), (hW.cell (p := ⟨w.heap.size + 1, 0, none⟩) (by simp; try omega)).trans (by simp [go_sem, World.cell?_alloc_past]), (hW.cell (p := ⟨w.heap.size + 1, 1, none⟩) (by simp; try omega)).trans (by simp [go_sem, World.cell?_alloc_past]), (hW.cell (p := ⟨w.heap.size + 1 + 1, 0, none⟩) (by simp; try omega)).trans (by simp [go_sem, World.cell?_alloc_past]), (hW.cell (p := ⟨w.heap.size + 1 + 1, 1, none⟩) (by simp; try omega)).trans (by simp [go_sem, World.cell?_alloc_past]), (hW.cell (p := ⟨w.heap.size + 1 + 1, 2, none⟩) (by simp; try omega)).trans (by simp [go_sem, World.cell?_alloc_past]), (hW.cell (p := ⟨w.heap.size + 1 + 1, 3, none⟩) (by simp; try omega)).trans (by simp [go_sem, World.cell?_alloc_past]), (hW.cell (p := ⟨w.heap.size + 1 + 1, 4, none⟩) (by simp; try omega)).trans (by simp [go_sem, World.cell?_alloc_past]), (hW.cell (p := ⟨w.heap.size + 1 + 1, 5, none⟩) (by simp; try omega)).trans (by simp [go_sem, World.cell?_alloc_past]), (hW.cell (p := ⟨w.heap.size + 1 + 1, 6, none⟩) (by simp; try omega)).trans (by simp [go_sem, World.cell?_alloc_past]), (hW.frozen (p := ⟨w.heap.size + 1 + 1, 0, none⟩) (by simp; try omega)).trans (by simp [go_sem]), (hW.frozen (p := ⟨w.heap.size + 1 + 1, 1, none⟩) (by simp; try omega)).trans (by simp [go_sem]), (hW.frozen (p := ⟨w.heap.size + 1 + 1, 2, none⟩) (by simp; try omega)).trans (by simp [go_sem]), (hW.frozen (p := ⟨w.heap.size + 1 + 1, 3, none⟩) (by simp; try omega)).trans (by simp [go_sem]), (hW.frozen (p := ⟨w.heap.size + 1 + 1, 4, none⟩) (by simp; try omega)).trans (by simp [go_sem]), (hW.frozen (p := ⟨w.heap.size + 1 + 1, 5, none⟩) (by simp; try omega)).trans (by simp [go_sem]), (hW.frozen (p := ⟨w.heap.size + 1 + 1, 6, none⟩) (by simp; try omega)).trans (by simp [go_sem])⟩)
  have KM := Lib.hid (show ∀ W W1, Below (w.heap.size + 3) (((w.alloc (.cells #[.slice lo x.lib.length lcap, .slice uo x.units.length ucap] 25)).alloc (.cells #[.int .i64 n, .string nm] 33)).alloc (.cells #[.string ⟨#[]⟩, .int .i64 0, .int .i64 0, .int .i64 0, .int .i64 0, .bool false, .slice none 0 0] 42)) W → Below W.heap.size W W1 → Below (w.heap.size + 3) (((w.alloc (.cells #[.slice lo x.lib.length lcap, .slice uo x.units.length ucap] 25)).alloc (.cells #[.int .i64 n, .string nm] 33)).alloc (.cells #[.string ⟨#[]⟩, .int .i64 0, .int .i64 0, .int .i64 0, .int .i64 0, .bool false, .slice none 0 0] 42)) W1 from fun W W1 h1 h2 => h1.trans (h2.mono (by have := h1.size; simp at this; omega)))
  have KA := Lib.hid (show ∀ W o, Below (w.heap.size + 3) (((w.alloc (.cells #[.slice lo x.lib.length lcap, .slice uo x.units.length ucap] 25)).alloc (.cells #[.int .i64 n, .string nm] 33)).alloc (.cells #[.string ⟨#[]⟩, .int .i64 0, .int .i64 0, .int .i64 0, .int .i64 0, .bool false, .slice none 0 0] 42)) W → Below (w.heap.size + 3) (((w.alloc (.cells #[.slice lo x.lib.length lcap, .slice uo x.units.length ucap] 25)).alloc (.cells #[.int .i64 n, .string nm] 33)).alloc (.cells #[.string ⟨#[]⟩, .int .i64 0, .int .i64 0, .int .i64 0, .int .i64 0, .bool false, .slice none 0 0] 42)) (W.alloc o) from fun W o h => h.alloc (by have := h.size; simp at this; omega) o)
  have KSB := Lib.hid (show ∀ W, Below w.heap.size w W → ∀ u0 u1 u2 u3 u4 u5 u6, Below w.heap.size w (((((((W.setCell ⟨w.heap.size + 1 + 1, 0, none⟩ u0).setCell ⟨w.heap.size + 1 + 1, 1, none⟩ u1).setCell ⟨w.heap.size + 1 + 1, 2, none⟩ u2).setCell ⟨w.heap.size + 1 + 1, 3, none⟩ u3).setCell ⟨w.heap.size + 1 + 1, 4, none⟩ u4).setCell ⟨w.heap.size + 1 + 1, 5, none⟩ u5).setCell ⟨w.heap.size + 1 + 1, 6, none⟩ u6) from fun W hW u0 u1 u2 u3 u4 u5 u6 => (((((((hW.setCell (p := ⟨w.heap.size + 1 + 1, 0, none⟩) (by show w.heap.size ≤ w.heap.size + 1 + 1; omega) u0).setCell (p := ⟨w.heap.size + 1 + 1, 1, none⟩) (by show w.heap.size ≤ w.heap.size + 1 + 1; omega) u1).setCell (p := ⟨w.heap.size + 1 + 1, 2, none⟩) (by show w.heap.size ≤ w.heap.size + 1 + 1; omega) u2).setCell (p := ⟨w.heap.size + 1 + 1, 3, none⟩) (by show w.heap.size ≤ w.heap.size + 1 + 1; omega) u3).setCell (p := ⟨w.heap.size + 1 + 1, 4, none⟩) (by show w.heap.size ≤ w.heap.size + 1 + 1; omega) u4).setCell (p := ⟨w.heap.size + 1 + 1, 5, none⟩) (by show w.heap.size ≤ w.heap.size + 1 + 1; omega) u5).setCell (p := ⟨w.heap.size + 1 + 1, 6, none⟩) (by show w.heap.size ≤ w.heap.size + 1 + 1; omega) u6))
  have KST := Lib.hid (show ∀ W u0 u1 u2 u3 u4 u5 u6 {o : Option Par} {v : Value}, ParR B W o v → ParR B (((((((W.setCell ⟨w.heap.size + 1 + 1, 0, none⟩ u0).setCell ⟨w.heap.size + 1 + 1, 1, none⟩ u1).setCell ⟨w.heap.size + 1 + 1, 2, none⟩ u2).setCell ⟨w.heap.size + 1 + 1, 3, none⟩ u3).setCell ⟨w.heap.size + 1 + 1, 4, none⟩ u4).setCell ⟨w.heap.size + 1 + 1, 5, none⟩ u5).setCell ⟨w.heap.size + 1 + 1, 6, none⟩ u6) o v from fun W u0 u1 u2 u3 u4 u5 u6 _ _ h => h.below ((((((((Below.refl B W).setCell (p := ⟨w.heap.size + 1 + 1, 0, none⟩) (by show B ≤ w.heap.size + 1 + 1; omega) u0).setCell (p := ⟨w.heap.size + 1 + 1, 1, none⟩) (by show B ≤ w.heap.size + 1 + 1; omega) u1).setCell (p := ⟨w.heap.size + 1 + 1, 2, none⟩) (by show B ≤ w.heap.size + 1 + 1; omega) u2).setCell (p := ⟨w.heap.size + 1 + 1, 3, none⟩) (by show B ≤ w.heap.size + 1 + 1; omega) u3).setCell (p := ⟨w.heap.size + 1 + 1, 4, none⟩) (by show B ≤ w.heap.size + 1 + 1; omega) u4).setCell (p := ⟨w.heap.size + 1 + 1, 5, none⟩) (by show B ≤ w.heap.size + 1 + 1; omega) u5).setCell (p := ⟨w.heap.size + 1 + 1, 6, none⟩) (by show B ≤ w.heap.size + 1 + 1; omega) u6))
  have HK0 := Lib.hid (Below.refl (w.heap.size + 3) (((w.alloc (.cells #[.slice lo x.lib.length lcap, .slice uo x.units.length ucap] 25)).alloc (.cells #[.int .i64 n, .string nm] 33)).alloc (.cells #[.string ⟨#[]⟩, .int .i64 0, .int .i64 0, .int .i64 0, .int .i64 0, .bool false, .slice none 0 0] 42)))
  have CU1 := Lib.hid (CU.out _ (KC.out _ HK0.out).1)
  clear CU
  go_enter Try.func82, Try.ntmps82
  go_wp2_with fail
  refine CU1.out.mono ?_
  rintro e w1 ⟨rfl, hb⟩
  have HB1 := Lib.hid (KM.out _ _ HK0.out hb)
  clear hb CU1
  obtain ⟨hB1, hz1, r0, r1, k0, k1, z0, z1, z2, z3, z4, z5, z6, y0, y1, y2, y3, y4, y5, y6⟩ := KC.out _ HB1.out
  have HBB := Lib.hid hB1
  cases hH : hasU x.units n with
  | false =>
    have HV := Lib.hid (HNO.out hH)
    rw [HIX.out.2 hH]
    clear hB1
    go_wp2_with fail
    exact bodyPost_ret (v := .tuple #[.agg #[.string ⟨#[]⟩, .int .i64 0, .int .i64 0, .int .i64 0, .int .i64 0, .bool false, .slice none 0 0], .bool false]) (by simp [results, Try.results82, go_sem, z0, z1, z2, z3, z4, z5, z6]) rfl ⟨_, by rw [HV.out] <;> rfl, by rw [HV.out]; rfl, KSB.out _ HBB.out _ _ _ _ _ _ _⟩
  | true =>
    obtain ⟨hpl, p, hun, hpo, hfo⟩ := HYE.out hH
    have hrg := HRN.out _ (List.getElem_mem hpl)
    have HFO := Lib.hid hfo
    rw [HIX.out.1 hH]
    obtain ⟨b, off, cap', hsl, hbb, _, hc⟩ := HG.out (by omega)
    injection hsl with hs1 hs2 hs3
    subst hs1 hs3
    have HCC := Lib.hid (fun W (hW : Below B w W) => (hc _ hpl W hW).2.1)
    have hpu : (x.units[posU x.units n]'hpl).nm = (x.units[posU x.units n]'hpl).prof.data.toList := rfl
    rw [hpu] at hpo
    have hbr : b < w1.heap.size := by have := hB1.size; omega
    generalize (x.units[posU x.units n]'hpl).prof = up at *
    have CP1 := Lib.hid (fun W (hb : Below w.heap.size w W) => by have := CP.out up W hb; rw [hpo] at this; exact this)
    have hi2 : posU x.units n < x.units.length := hpl
    clear hc hpu hun hrg hfo HG HYE HNO HRN CP hpl hH
    generalize posU x.units n = pi at *
    have hi1 : (pi : Int) < (x.units.length : Int) := by omega
    obtain ⟨pn, pz, pl⟩ := p
    simp only at *
    have d1 := HCC.out _ (hB1.mono hBw)
    clear hB1
    go_upto_region 4 with fail
    go_cut [7] (fun s wx => ∃ g pv, s = .pointer (some ⟨g, 0, none⟩) ∧ TBox wx g 70 #[.string pn, .int .i64 pz, pv] ∧ ParS B wx pv pl ∧ Below (w.heap.size + 3) (((w.alloc (.cells #[.slice lo x.lib.length lcap, .slice (some ⟨b, off, none⟩) x.units.length ucap] 25)).alloc (.cells #[.int .i64 n, .string nm] 33)).alloc (.cells #[.string ⟨#[]⟩, .int .i64 0, .int .i64 0, .int .i64 0, .int .i64 0, .bool false, .slice none 0 0] 42)) wx)
    case first =>
      have hw0 := HB1.out
      have hw1 := HB1.out.drew
      have hzB : w.heap.size + 3 ≤ w1.heap.size := by omega
      have KZ := Lib.hid (show ∀ W W1, Below (w1.heap.size + 1) (w1.alloc (.cells #[.string ⟨#[]⟩, .int .i64 0, .slice none 0 0] 70)) W → Below W.heap.size W W1 → Below (w1.heap.size + 1) (w1.alloc (.cells #[.string ⟨#[]⟩, .int .i64 0, .slice none 0 0] 70)) W1 from fun W W1 h1 h2 => h1.trans (h2.mono (by have := h1.size; simp at this; omega)))
      have HQ := Lib.hid (show ∀ W, Below (w1.heap.size + 1) (w1.alloc (.cells #[.string ⟨#[]⟩, .int .i64 0, .slice none 0 0] 70)) W → TBox W w1.heap.size 70 #[.string ⟨#[]⟩, .int .i64 0, .slice none 0 0] ∧ W.cell? ⟨w1.heap.size, 0, none⟩ = some (.string ⟨#[]⟩) ∧ W.cell? ⟨w1.heap.size, 1, none⟩ = some (.int .i64 0) ∧ W.cell? ⟨w1.heap.size, 2, none⟩ = some (.slice none 0 0) ∧ W.frozen? ⟨w1.heap.size, 0, none⟩ = false ∧ W.frozen? ⟨w1.heap.size, 1, none⟩ = false ∧ W.frozen? ⟨w1.heap.size, 2, none⟩ = false from fun W hW => by
        have ht : TBox W w1.heap.size 70 #[.string ⟨#[]⟩, .int .i64 0, .slice none 0 0] := (hW.block w1.heap.size (by omega)).trans (TBox.new w1 _ _)
        exact ⟨ht, ht.cell rfl, ht.cell rfl, ht.cell rfl, (hW.frozen (p := ⟨w1.heap.size, 0, none⟩) (by simp)).trans (by simp [go_sem]), (hW.frozen (p := ⟨w1.heap.size, 1, none⟩) (by simp)).trans (by simp [go_sem]), (hW.frozen (p := ⟨w1.heap.size, 2, none⟩) (by simp)).trans (by simp [go_sem])⟩)
      have KS3 := Lib.hid (show ∀ W u0 u1 u2, Below (w.heap.size + 3) (((w.alloc (.cells #[.slice lo x.lib.length lcap, .slice (some ⟨b, off, none⟩) x.units.length ucap] 25)).alloc (.cells #[.int .i64 n, .string nm] 33)).alloc (.cells #[.string ⟨#[]⟩, .int .i64 0, .int .i64 0, .int .i64 0, .int .i64 0, .bool false, .slice none 0 0] 42)) W → Below (w.heap.size + 3) (((w.alloc (.cells #[.slice lo x.lib.length lcap, .slice (some ⟨b, off, none⟩) x.units.length ucap] 25)).alloc (.cells #[.int .i64 n, .string nm] 33)).alloc (.cells #[.string ⟨#[]⟩, .int .i64 0, .int .i64 0, .int .i64 0, .int .i64 0, .bool false, .slice none 0 0] 42)) (((W.setCell ⟨w1.heap.size, 0, none⟩ u0).setCell ⟨w1.heap.size, 1, none⟩ u1).setCell ⟨w1.heap.size, 2, none⟩ u2) from fun W u0 u1 u2 h => ((h.setCell (p := ⟨w1.heap.size, 0, none⟩) hzB u0).setCell (p := ⟨w1.heap.size, 1, none⟩) hzB u1).setCell (p := ⟨w1.heap.size, 2, none⟩) hzB u2)
      have KCC := Lib.hid (show ∀ W, Below (w.heap.size + 3) (((w.alloc (.cells #[.slice lo x.lib.length lcap, .slice (some ⟨b, off, none⟩) x.units.length ucap] 25)).alloc (.cells #[.int .i64 n, .string nm] 33)).alloc (.cells #[.string ⟨#[]⟩, .int .i64 0, .int .i64 0, .int .i64 0, .int .i64 0, .bool false, .slice none 0 0] 42)) W → W.cell? ⟨w.heap.size, 0, none⟩ = some (.slice lo x.lib.length lcap) ∧ W.cell? ⟨w.heap.size, 1, none⟩ = some (.slice (some ⟨b, off, none⟩) x.units.length ucap) ∧ W.cell? ⟨b, off + pi * 4 + 1, none⟩ = some (.string up) from fun W hW => ⟨(KC.out _ hW).2.2.1, (KC.out _ hW).2.2.2.1, HCC.out _ ((KC.out _ hW).1.mono hBw)⟩)
      have hz0 := KA.out _ (.cells #[.string ⟨#[]⟩, .int .i64 0, .slice none 0 0] 70) hw0
      have hz2 := (KA.out _ (.cells #[.string ⟨#[]⟩, .int .i64 0, .slice none 0 0] 70) hw0).drew
      go_region_held3 (fun W => W.cell? ⟨w.heap.size, 0, none⟩ = some (.slice lo x.lib.length lcap) ∧ W.cell? ⟨w.heap.size, 1, none⟩ = some (.slice (some ⟨b, off, none⟩) x.units.length ucap) ∧ W.cell? ⟨b, off + pi * 4 + 1, none⟩ = some (.string up))
        (with_reducible exact KCC.out _ (by first | assumption | exact Below.drew (by assumption) | exact KA.out _ _ (by assumption) | exact Below.drew (KA.out _ _ (by assumption)) | exact KA.out _ _ (Below.drew (by assumption)) | exact KS3.out _ _ _ _ (by assumption) | exact KS3.out _ _ _ _ (Below.drew (by assumption)) | exact Below.drew (KS3.out _ _ _ _ (by assumption))))
        (first
          | (go_at_call 34; (with_reducible refine (CP1.out _ (KC.out _ (by first | assumption | exact Below.drew (by assumption) | exact KA.out _ _ (by assumption) | exact Below.drew (KA.out _ _ (by assumption)) | exact KA.out _ _ (Below.drew (by assumption)) | exact KS3.out _ _ _ _ (by assumption) | exact KS3.out _ _ _ _ (Below.drew (by assumption)) | exact Below.drew (KS3.out _ _ _ _ (by assumption)))).1).mono ?_); rintro e WC ⟨pv0, rfl, ⟨qv, rfl, hps⟩, hbC⟩; have hwC := KM.out _ _ (by first | assumption | exact Below.drew (by assumption) | exact KA.out _ _ (by assumption) | exact Below.drew (KA.out _ _ (by assumption)) | exact KA.out _ _ (Below.drew (by assumption)) | exact KS3.out _ _ _ _ (by assumption) | exact KS3.out _ _ _ _ (Below.drew (by assumption)) | exact Below.drew (KS3.out _ _ _ _ (by assumption))) hbC; obtain ⟨po, pcap, rfl⟩ := parS_shape hps; first | (have hZ := KZ.out _ _ (by first | exact Below.refl _ _ | exact Below.drew (Below.refl _ _)) hbC; obtain ⟨tz, e0, e1, e2, f0, f1, f2⟩ := HQ.out _ hZ; clear hbC) | clear hbC)
          | fail)
      all_goals go_wp2_with fail
      all_goals go_meet
      all_goals first
        | exact ⟨_, _, rfl, TBox.new _ _ _, hps.below ((Below.refl _ _).alloc (by have := (KC.out _ hwC).1.size; omega) _), KA.out _ _ hwC⟩
        | exact ⟨_, _, rfl, TBox.new _ _ _, hps.below (((Below.refl _ _).alloc (by have := (KC.out _ hwC).1.size; omega) _).drew), (KA.out _ _ hwC).drew⟩
        | exact ⟨_, _, rfl, TBox.new _ _ _, hps.below (((Below.refl _ _).drew.alloc (by have := (KC.out _ hwC).1.size; simp; omega) _)), KA.out _ _ hwC.drew⟩
        | exact ⟨_, _, rfl, tz.set3, hps.below ((((Below.refl B WC).setCell (p := ⟨w1.heap.size, 0, none⟩) (by show B ≤ w1.heap.size; omega) _).setCell (p := ⟨w1.heap.size, 1, none⟩) (by show B ≤ w1.heap.size; omega) _).setCell (p := ⟨w1.heap.size, 2, none⟩) (by show B ≤ w1.heap.size; omega) _), KS3.out _ _ _ _ hwC⟩
    case rest =>
      obtain ⟨g, pv, rfl, htb, hps, hbx⟩ := hcut
      obtain ⟨w2, rfl⟩ : ∃ x, x = wc := ⟨_, rfl⟩
      have HB2 := Lib.hid hbx
      clear hbx HB1 HBB r0 r1 k0 k1 z0 z1 z2 z3 z4 z5 z6 y0 y1 y2 y3 y4 y5 y6
      obtain ⟨hB2, hz2, r0, r1, k0, k1, z0, z1, z2, z3, z4, z5, z6, y0, y1, y2, y3, y4, y5, y6⟩ := KC.out _ HB2.out
      have g0 := htb.cell (i := 0) rfl
      have g1 := htb.cell (i := 1) rfl
      have g2 := htb.cell (i := 2) rfl
      have CX := Lib.hid (rparam_any B pn pz pv pl nm w2 (by have := hB2.size; omega) hps)
      rw [← HFO.out] at CX
      clear htb hps hB2
      go_wp2_with fail
      refine CX.out.mono ?_
      rintro e w3 ⟨xv, rfl, hxr, hb⟩
      obtain ⟨qn, qg, qs, qf, qd, qb, qo, ql, qc, rfl⟩ := parR_shape hxr
      have HB3 := Lib.hid (KM.out _ _ HB2.out hb)
      have HXR := Lib.hid hxr
      clear hb hxr CX z0 z1 z2 z3 z4 z5 z6 y0 y1 y2 y3 y4 y5 y6 r0 r1 k0 k1 g0 g1 g2
      obtain ⟨hB3, hz3, r0, r1, k0, k1, z0, z1, z2, z3, z4, z5, z6, y0, y1, y2, y3, y4, y5, y6⟩ := KC.out _ HB3.out
      have HBB := Lib.hid hB3
      clear hB3 HFO
      obtain ⟨IS, hIS⟩ : ∃ b, RES.isSome = b := ⟨_, rfl⟩
      rw [hIS]
      have HIS := Lib.hid hIS
      clear hIS
      go_wp2_with fail
      exact bodyPost_ret (v := .tuple #[.agg #[.string qn, .int .i64 qg, .int .i64 qs, .int .i64 qf, .int .i64 qd, .bool qb, .slice qo ql qc], .bool IS]) (by simp [results, Try.results82, go_sem, z0, z1, z2, z3, z4, z5, z6]) rfl ⟨_, by rw [HIS.out] <;> rfl, KST.out _ _ _ _ _ _ _ _ HXR.out, KSB.out _ HBB.out _ _ _ _ _ _ _⟩
end Go.Proofs.Ytabalicembhjmaa

namespace Go.Proofs.Ytabalicembhjmaa
open Go.RowKit
set_option linter.unusedVariables false
set_option linter.unusedSimpArgs false

set_option maxRecDepth 100000 in
set_option maxHeartbeats 16000000 in
theorem rckStgs_any (x : Rig) (lv uv : Value) (l : List Stg) (sv : Value) (w : World) (h : RigAt w.heap.size w x lv uv) (hx : chkRig x = 0) (hS : StgS w.heap.size w sv l) (hs : ∀ s ∈ l, StgFit s) :
    Calls Try.prog 52 #[rigV lv uv, sv] w fun e w' => e = .returned (.int .i64 (chkStgs x l)) ∧ Below w.heap.size w w' := by
  have CF := Lib.hid (fun (n : Int) (nm : ByteArray) W (hb : Below w.heap.size w W) (hn : I64 n) => rfind_any x lv uv w.heap.size n nm W hb.size (h.below hb) hx hn)
  have HG := Lib.hid (StgS.get hS)
  have hml := CellsS.len hS
  unfold maxLen at hml
  have HSF := Lib.hid hs
  obtain ⟨uo, ucap, rfl, _⟩ := CellsS.shape h.units
  obtain ⟨lo, lcap, rfl⟩ := prfS_shape h.lib
  obtain ⟨so, scap, rfl, hsc, hsm⟩ := CellsS.shape hS
  unfold maxLen at hsm
  unfold rigV at *
  have HC := Lib.hid (show chkStgs x l = scanF (stgF x) l 0 from rfl)
  clear h hS hs hx
  generalize chkStgs x l = RES at *
  have KC := Lib.hid (show ∀ W, Below (w.heap.size + 1) (w.alloc (.cells #[.slice lo x.lib.length lcap, .slice uo x.units.length ucap] 25)) W → (Below w.heap.size w W ∧ w.heap.size < W.heap.size ∧ W.cell? ⟨w.heap.size, 0, none⟩ = some (.slice lo x.lib.length lcap) ∧ W.cell? ⟨w.heap.size, 1, none⟩ = some (.slice uo x.units.length ucap)) from fun W hW => by
    have hz := hW.size
    simp at hz
    exact ⟨((Below.refl _ _).alloc (Nat.le_refl _) _).trans (hW.mono (by omega)), by omega, (hW.cell (p := ⟨w.heap.size, 0, none⟩) (by simp)).trans (by simp [go_sem]), (hW.cell (p := ⟨w.heap.size, 1, none⟩) (by simp)).trans (by simp [go_sem])⟩)
  have KM := Lib.hid (show ∀ W W1, Below (w.heap.size + 1) (w.alloc (.cells #[.slice lo x.lib.length lcap, .slice uo x.units.length ucap] 25)) W → Below W.heap.size W W1 → Below (w.heap.size + 1) (w.alloc (.cells #[.slice lo x.lib.length lcap, .slice uo x.units.length ucap] 25)) W1 from fun W W1 h1 h2 => h1.trans (h2.mono (by have := h1.size; simp at this; omega)))
  have KA := Lib.hid (show ∀ W o, Below (w.heap.size + 1) (w.alloc (.cells #[.slice lo x.lib.length lcap, .slice uo x.units.length ucap] 25)) W → Below (w.heap.size + 1) (w.alloc (.cells #[.slice lo x.lib.length lcap, .slice uo x.units.length ucap] 25)) (W.alloc o) from fun W o h => h.alloc (by have := h.size; simp at this; omega) o)
  have HB0 := Lib.hid (Below.refl (w.heap.size + 1) (w.alloc (.cells #[.slice lo x.lib.length lcap, .slice uo x.units.length ucap] 25)))
  go_enter Try.func52, Try.ntmps52
  go_wp2_with fail
  go_loopw [13] (fun i wx => ∃ k : Nat, k ≤ l.length ∧ i = .int .i64 k ∧ Hid (RES = scanF (stgF x) l k) ∧ Hid (Below (w.heap.size + 1) (w.alloc (.cells #[.slice lo x.lib.length lcap, .slice uo x.units.length ucap] 25)) wx)) (fun i _ => l.length - (intOf i).toNat)
  case atStart => exact ⟨0, Nat.zero_le _, rfl, HC, HB0⟩
  case round =>
    clear HC HB0
    obtain ⟨k, hk, rfl, HRF, HBW⟩ := hrel
    obtain ⟨wo, rfl⟩ : ∃ wo : World, wo = wr := ⟨_, rfl⟩
    obtain ⟨hB, hz, p0, p1⟩ := KC.out wo HBW.out
    by_cases hlt : k < l.length
    · obtain ⟨b, off, cap', hsl, hb, _, hc⟩ := HG.out (by omega)
      injection hsl with hs1 hs2 hs3
      subst hs1 hs3
      obtain ⟨d0, d1, d2⟩ := hc k hlt wo hB
      have HRW := Lib.hid hc
      have hbr : b < wo.heap.size := by have := hB.size; omega
      have HUI := Lib.hid (HSF.out _ (List.getElem_mem hlt)).1
      have HSG := Lib.hid (scanF_good (stgF x) l k hlt)
      have HSB := Lib.hid (scanF_bad (stgF x) l k hlt)
      have HFD := Lib.hid (show stgF x (l.take k) l[k] = if (findO x l[k].unit l[k].par.data.toList).isNone then 8 else if !inR l[k].lv 0 65535 then 1 else if (l.take k).any (isK (l[k].unit, l[k].par)) then 6 else 0 from rfl)
      generalize stgF x (l.take k) l[k] = FF at *
      clear hc hB
      generalize hrk : l[k] = rk at *
      clear hrk
      obtain ⟨su, sp, sl⟩ := rk
      simp only at *
      have HBX := Lib.hid (KA.out _ (.cells #[.int .i64 su, .string sp, .int .i64 sl] 35) HBW.out)
      have CX := Lib.hid (CF.out su sp _ (KC.out _ HBX.out).1 HUI.out)
      generalize findO x su sp.data.toList = PO at *
      go_wp2_with fail
      refine CX.out.mono ?_
      rintro e w5 ⟨xv, rfl, hxr, hb5⟩
      obtain ⟨qn, qg, qs, qf, qd, qb, qo, ql, qc, rfl⟩ := parR_shape hxr
      have hz5 := hb5.size
      simp only [World.size_alloc] at hz5
      have hwr5 : wo.heap.size < w5.heap.size := by omega
      have HB5 := Lib.hid (KM.out _ _ HBX.out hb5)
      have KU5 := Lib.hid (show ∀ W, Below w5.heap.size w5 W → W.cell? ⟨wo.heap.size, 0, none⟩ = some (.int .i64 su) ∧ W.cell? ⟨wo.heap.size, 1, none⟩ = some (.string sp) ∧ W.cell? ⟨wo.heap.size, 2, none⟩ = some (.int .i64 sl) from fun W hW => by
        have h := hb5.trans (hW.mono (by simp; omega))
        exact ⟨(h.cell (p := ⟨wo.heap.size, 0, none⟩) (by simp)).trans (by simp [go_sem]), (h.cell (p := ⟨wo.heap.size, 1, none⟩) (by simp)).trans (by simp [go_sem]), (h.cell (p := ⟨wo.heap.size, 2, none⟩) (by simp)).trans (by simp [go_sem])⟩)
      obtain ⟨f0, f1, f2⟩ := KU5.out _ (Below.refl _ _)
      have hnI : PO.isNone = !PO.isSome := by cases PO <;> rfl
      rw [hnI] at HFD
      generalize PO.isSome = IS at *
      clear hb5 hxr CX HBX HBW hnI p0 p1 d0 d1 d2 hz
      have HB6 := Lib.hid (KA.out _ (.cells #[.string qn, .int .i64 qg, .int .i64 qs, .int .i64 qf, .int .i64 qd, .bool qb, .slice qo ql qc] 42) HB5.out)
      have hs6 : wo.heap.size < (w5.alloc (.cells #[.string qn, .int .i64 qg, .int .i64 qs, .int .i64 qf, .int .i64 qd, .bool qb, .slice qo ql qc] 42)).heap.size := by simp; omega
      have KU6 := Lib.hid (show ∀ W, Below (w5.alloc (.cells #[.string qn, .int .i64 qg, .int .i64 qs, .int .i64 qf, .int .i64 qd, .bool qb, .slice qo ql qc] 42)).heap.size (w5.alloc (.cells #[.string qn, .int .i64 qg, .int .i64 qs, .int .i64 qf, .int .i64 qd, .bool qb, .slice qo ql qc] 42)) W → W.cell? ⟨wo.heap.size, 0, none⟩ = some (.int .i64 su) ∧ W.cell? ⟨wo.heap.size, 1, none⟩ = some (.string sp) from fun W hW => by
        have h := KU5.out W (((Below.refl _ _).alloc (Nat.le_refl _) _).trans (hW.mono (by simp)))
        exact ⟨h.1, h.2.1⟩)
      clear HB5 KU5
      cases IS
      · skip
        have HE : FF = 8 := by rw [HFD.out]; rfl
        have HV := Lib.hid (show RES = 8 by rw [HRF.out, HSB.out (by rw [HE]; decide), HE])
        clear HE
        go_wp2_with fail
        go_ret
        exact ⟨by rw [HV.out] <;> rfl, (KC.out _ HB6.out).1⟩
      rcases Bool.eq_false_or_eq_true (inR sl 0 65535) with k0 | k0
      rotate_left
      · skip
        have HE : FF = 1 := by rw [HFD.out]; simp [k0]
        have HV := Lib.hid (show RES = 1 by rw [HRF.out, HSB.out (by rw [HE]; decide), HE])
        clear HE
        go_wp2_with (first | (go_at_call 83; ((with_reducible refine (rLevel_R _ _).mono ?_); rintro e w' ⟨rfl, rfl⟩)) | fail)
        go_ret
        exact ⟨by rw [HV.out] <;> rfl, (KC.out _ HB6.out).1⟩
      have HFX := Lib.hid (show FF = if (l.take k).any (isK (su, sp)) then 6 else 0 by rw [HFD.out]; simp [k0])
      clear HFD
      have HFD := HFX
      clear HFX
      have hi1 : (0 : Int) ≤ (k : Int) := by omega
      have hi2 : (k : Int) ≤ (scap : Int) := by omega
      have hi3 : k ≤ scap := by omega
      go_wp2_with (first | (go_at_call 83; ((with_reducible refine (rLevel_R _ _).mono ?_); rintro e w' ⟨rfl, rfl⟩)) | fail)
      clear k0 f0 f1 f2
      generalize hW6 : w5.alloc (.cells #[.string qn, .int .i64 qg, .int .i64 qs, .int .i64 qf, .int .i64 qd, .bool qb, .slice qo ql qc] 42) = wd at *
      clear hW6
      go_loopw [35] (fun i wx => ∃ j : Nat, j ≤ k ∧ i = .int .i64 j ∧ Hid ((l.take j).any (isK (su, sp)) = false) ∧ Hid (Below wd.heap.size wd wx)) (fun i _ => k - (intOf i).toNat)
      case atStart => exact ⟨0, Nat.zero_le _, rfl, Lib.hid (by simp), Lib.hid (Below.refl _ _)⟩
      case round =>
        obtain ⟨j, hj, rfl, HNI, HBI⟩ := hrel
        have hzi := HBI.out.size
        obtain ⟨e0, e1⟩ := KU6.out wr HBI.out
        have HBN := Lib.hid (KM.out _ _ HB6.out HBI.out)
        have hor : wo.heap.size < wr.heap.size := by omega
        have hbi : b < wr.heap.size := by omega
        by_cases hjlt : j < k
        · have hjl : j < l.length := by omega
          obtain ⟨d0, d1, d2⟩ := HRW.out j hjl wr (KC.out _ HBN.out).1
          have HCN := Lib.hid (any_snoc (isK (su, sp)) l j hjl)
          have HCX := Lib.hid (any_at (isK (su, sp)) l k j hjl hjlt)
          have HCD := Lib.hid (show isK (su, sp) l[j] = decide ((l[j].unit, l[j].par) = (su, sp)) from rfl)
          generalize isK (su, sp) l[j] = CJ at *
          generalize hrk : l[j] = rk at *
          clear hrk
          obtain ⟨yu, yp, yl⟩ := rk
          simp only at *
          have HBX := Lib.hid (HBI.out.alloc hzi (.cells #[.int .i64 yu, .string yp, .int .i64 yl] 35))
          have HBY := Lib.hid (KA.out _ (.cells #[.int .i64 yu, .string yp, .int .i64 yl] 35) HBN.out)
          by_cases h1 : yu = su
          · by_cases h2 : yp = sp
            · have HCJ := Lib.hid (show CJ = true by rw [HCD.out, h1, h2]; simp)
              have HE : FF = 6 := by rw [HFD.out]; rw [HCX.out HCJ.out]; rfl
              have HV := Lib.hid (show RES = 6 by rw [HRF.out, HSB.out (by rw [HE]; decide), HE])
              clear HE
              have h1' := Eq.symm h1
              have h2' := Eq.symm h2
              clear h1 h2
              subst h1' h2'
              have h3 : (sp.toList == sp.toList) = true := by simp
              have HBZ := Lib.hid (KC.out _ HBY.out).1
              go_wp2_with fail
              go_ret
              exact ⟨by rw [HV.out] <;> rfl, HBZ.out⟩
            · have HCJ := Lib.hid (show CJ = false by rw [HCD.out]; simp [h2])
              have h3 : ¬ yp.toList = sp.toList := fun h => h2 (ByteArray.ext (Array.toList_inj.1 (by rw [← Lib.toList_data, ← Lib.toList_data]; exact h)))
              have h4 : (yp.toList == sp.toList) = false := beq_eq_false_iff_ne.2 h3
              have h5 : ¬ sp.toList = yp.toList := fun h => h3 h.symm
              have h6 : (sp.toList == yp.toList) = false := beq_eq_false_iff_ne.2 h5
              have h1' := Eq.symm h1
              clear h1 h2
              subst h1'
              have HV := Lib.hid (show (l.take (j + 1)).any (isK (su, sp)) = false by rw [HCN.out, HNI.out, HCJ.out]; rfl)
              go_wp2_with fail
              go_roundw
              case rel => exact ⟨j + 1, by omega, by go_num, HV, HBX⟩
              case measure => simp [intOf]; omega
          · have HCJ := Lib.hid (show CJ = false by rw [HCD.out]; simp [h1])
            have h7 : (yu == su) = false := by simpa using h1
            have HV := Lib.hid (show (l.take (j + 1)).any (isK (su, sp)) = false by rw [HCN.out, HNI.out, HCJ.out]; rfl)
            go_wp2_with fail
            go_roundw
            case rel => exact ⟨j + 1, by omega, by go_num, HV, HBX⟩
            case measure => simp [intOf]; omega
        · have hjk : j = k := by omega
          subst hjk
          have HE : FF = 0 := by rw [HFD.out, HNI.out]; rfl
          have HV := Lib.hid (show RES = scanF (stgF x) l (j + 1) by rw [HRF.out, HSG.out HE])
          clear HE HNI
          go_wp2_with fail
          go_roundw
          case rel => exact ⟨j + 1, by omega, by go_num, HV, HBN⟩
          case measure => simp [intOf]; omega
    · have HV := Lib.hid (show RES = 0 by rw [HRF.out, scanF_end (stgF x) l k (by omega)])
      have HBO := Lib.hid hB
      have hkk : k = l.length := by omega
      clear hB
      subst hkk
      go_wp2_with fail
      go_ret
      exact ⟨by rw [HV.out] <;> rfl, HBO.out⟩
end Go.Proofs.Ytabalicembhjmaa

namespace Go.Proofs.Ytabalicembhjmaa
open Go.RowKit
set_option linter.unusedVariables false
set_option linter.unusedSimpArgs false
def LvIn (a : Int) : Prop := 0 ≤ a ∧ a ≤ 65535
instance (a : Int) : Decidable (LvIn a) := by unfold LvIn; infer_instance
def octR (n : Int) : Int := if LvIn n then rnd (n * 255) 65535 else 0
def octE (n : Int) : Int := if LvIn n then 0 else 1
theorem oct_byte {n : Int} (h : LvIn n) : 0 ≤ rnd (n * 255) 65535 ∧ rnd (n * 255) 65535 ≤ 255 := by
  unfold LvIn at h
  unfold rnd
  omega
set_option maxHeartbeats 1000000 in
theorem Octet_any (n : Int) (w : World) :
    Calls Try.prog 37 #[.int .i64 n] w fun e w' => e = .returned (.tuple #[.int .u8 (octR n), .int .i64 (octE n)]) ∧ w = w' := by
  by_cases h : LvIn n
  · have HV := Lib.hid (show octR n = rnd (n * 255) 65535 from if_pos h)
    have HF := Lib.hid (show octE n = 0 from if_pos h)
    obtain ⟨o0, o1⟩ := oct_byte h
    unfold LvIn at h
    have HR := Lib.hid (fun W => round_any (n * 255) 65535 W (by omega) (by omega) (by omega) (by omega))
    generalize rnd (n * 255) 65535 = r at *
    go_enter Try.func37, Try.ntmps37
    go_wp2_with (first | (go_at_call 72; refine (isLevel_yes _ _ h).mono ?_; rintro e w' ⟨rfl, rfl⟩) | (go_at_call 73; refine (HR.out _).mono ?_; rintro e w' ⟨rfl, rfl⟩))
    go_ret2
    exact ⟨by rw [HV.out, HF.out]; rfl, rfl⟩
  · have HV := Lib.hid (show octR n = 0 from if_neg h)
    have HF := Lib.hid (show octE n = 1 from if_neg h)
    have h2 : n < 0 ∨ 65535 < n := by unfold LvIn at h; omega
    have H2 := Lib.hid h2
    clear h h2
    go_enter Try.func37, Try.ntmps37
    go_wp2_with (first | (go_at_call 72; refine (isLevel_no _ _ H2.out).mono ?_; rintro e w' ⟨rfl, rfl⟩))
    go_ret2
    exact ⟨by rw [HV.out, HF.out]; rfl, rfl⟩

end Go.Proofs.Ytabalicembhjmaa
