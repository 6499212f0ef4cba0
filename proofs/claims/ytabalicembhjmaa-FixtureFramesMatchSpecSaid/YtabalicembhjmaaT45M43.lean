/- The reference's ParamOf. (printed by wip/gen/gen_find.py) -/
import Derived.Test.YtabalicembhjmaaT45M15

namespace Go.Proofs.Ytabalicembhjmaa
open Go.RowKit
set_option linter.unusedVariables false
set_option linter.unusedSimpArgs false

set_option maxRecDepth 100000 in
set_option maxHeartbeats 16000000 in
theorem rfind_any (x : Rig) (lv uv : Value) (B : Nat) (n : Int) (nm : ByteArray) (w : World) (hBw : B ≤ w.heap.size) (h : RigAt B w x lv uv) (hx : chkRig x = 0) (hn : I64 n) :
    Calls Try.prog 82 #[rigV lv uv, .agg #[.int .i64 n, .string nm]] w fun e w' => ∃ xv, e = .returned (.tuple #[xv, .bool (findO x n nm.data.toList).isSome]) ∧ ParR B w' (findO x n nm.data.toList) xv ∧ Below w.heap.size w w' := by
  have CU := Lib.hid (fun W (hb : Below w.heap.size w W) => runit_any x lv uv n W ((h.below (hb.mono hBw)).more (Nat.le_trans hBw hb.size)))
  have CP := Lib.hid (fun (nm : ByteArray) W (hb : Below w.heap.size w W) => rprofile_base B lv x.lib nm W (Nat.le_trans hBw hb.size) (h.lib.below (hb.mono hBw)))
  have HG := Lib.hid (UntS.get h.units)
  obtain ⟨uo, ucap, rfl, _⟩ := CellsS.shape h.units
  obtain ⟨lo, lcap, rfl⟩ := prfS_shape h.lib
  have hcp := untS_cap h.units
  have HNO := Lib.hid (fun (h : hasU x.units n = false) => findO_no h nm.data.toList)
  have HYE := Lib.hid (fun (h : hasU x.units n = true) => findO_yes hx h nm.data.toList)
  have HRN := Lib.hid (fun u (hu : u ∈ x.units) => num_range hx hu)
  have HIX := Lib.hid (idxU_has (asc_units hx) n)
  unfold rigV at *
  clear h hx
  generalize findO x n nm.data.toList = RES at *
  have KC := Lib.hid (show ∀ W, Below (w.heap.size + 3) (((w.alloc (.cells #[.slice lo x.lib.length lcap, .slice uo x.units.length ucap] 25)).alloc (.cells #[.int .i64 n, .string nm] 33)).alloc (.cells #[.string ⟨#[]⟩, .int .i64 0, .int .i64 0, .int .i64 0, .int .i64 0, .bool false, .slice none 0 0] 42)) W → (Below w.heap.size w W ∧ w.heap.size + 1 + 1 < W.heap.size ∧ W.cell? ⟨w.heap.size, 0, none⟩ = some (.slice lo x.lib.length lcap) ∧ W.cell? ⟨w.heap.size, 1, none⟩ = some (.slice uo x.units.length ucap) ∧ W.cell? ⟨w.heap.size + 1, 0, none⟩ = some (.int .i64 n) ∧ W.cell? ⟨w.heap.size + 1, 1, none⟩ = some (.string nm) ∧ W.cell? ⟨w.heap.size + 1 + 1, 0, none⟩ = some (.string ⟨#[]⟩) ∧ W.cell? ⟨w.heap.size + 1 + 1, 1, none⟩ = some (.int .i64 0) ∧ W.cell? ⟨w.heap.size + 1 + 1, 2, none⟩ = some (.int .i64 0) ∧ W.cell? ⟨w.heap.size + 1 + 1, 3, none⟩ = some (.int .i64 0) ∧ W.cell? ⟨w.heap.size + 1 + 1, 4, none⟩ = some (.int .i64 0) ∧ W.cell? ⟨w.heap.size + 1 + 1, 5, none⟩ = some (.bool false) ∧ W.cell? ⟨w.heap.size + 1 + 1, 6, none⟩ = some (.slice none 0 0) ∧ W.frozen? ⟨w.heap.size + 1 + 1, 0, none⟩ = false ∧ W.frozen? ⟨w.heap.size + 1 + 1, 1, none⟩ = false ∧ W.frozen? ⟨w.heap.size + 1 + 1, 2, none⟩ = false ∧ W.frozen? ⟨w.heap.size + 1 + 1, 3, none⟩ = false ∧ W.frozen? ⟨w.heap.size + 1 + 1, 4, none⟩ = false ∧ W.frozen? ⟨w.heap.size + 1 + 1, 5, none⟩ = false ∧ W.frozen? ⟨w.heap.size + 1 + 1, 6, none⟩ = false) from fun W hW => by
    have hz := hW.size
    simp at hz
    exact ⟨((((Below.refl _ _).alloc (Nat.le_refl _) _).alloc (by simp) _).alloc (by simp; try omega) _).trans (hW.mono (by omega)), by omega, (hW.cell (p := ⟨w.heap.size, 0, none⟩) (by simp; try omega)).trans (by simp [go_sem, World.cell?_alloc_past]), (hW.cell (p := ⟨w.heap.size, 1, none⟩) (by simp; try omega)).trans (by simp [go_sem, World.cell?_alloc_past]), (hW.cell (p := ⟨w.heap.size + 1, 0, none⟩) (by simp; try omega)).trans (by simp [go_sem, World.cell?_alloc_past]), (hW.cell (p := ⟨w.heap.size + 1, 1, none⟩) (by simp; try omega)).trans (by simp [go_sem, World.cell?_alloc_past]), (hW.cell (p := ⟨w.heap.size + 1 + 1, 0, none⟩) (by simp; try omega)).trans (by simp [go_sem, World.cell?_alloc_past]), (hW.cell (p := ⟨w.heap.size + 1 + 1, 1, none⟩) (by simp; try omega)).trans (by simp [go_sem, World.cell?_alloc_past]), (hW.cell (p := ⟨w.heap.size + 1 + 1, 2, none⟩) (by simp; try omega)).trans (by simp [go_sem, World.cell?_alloc_past]), (hW.cell (p := ⟨w.heap.size + 1 + 1, 3, none⟩) (by simp; try omega)).trans (by simp [go_sem, World.cell?_alloc_past]), (hW.cell (p := ⟨w.heap.size + 1 + 1, 4, none⟩) (by simp; try omega)).trans (by simp [go_sem, World.cell?_alloc_past]), (hW.cell (p := ⟨w.heap.size + 1 + 1, 5, none⟩) (by simp; try omega)).trans (by simp [go_sem, World.cell?_alloc_past]), (hW.cell (p := ⟨w.heap.size + 1 + 1, 6, none⟩) (by simp; try omega)).trans (by simp [go_sem, World.cell?_alloc_past]), (hW.frozen (p := ⟨w.heap.size + 1 + 1, 0, none⟩) (by simp; try omega)).trans (by simp [go_sem]), (hW.frozen (p := ⟨w.heap.size + 1 + 1, 1, none⟩) (by simp; try omega)).trans (by simp [go_sem]), (hW.frozen (p := ⟨w.heap.size + 1 + 1, 2, none⟩) (by simp; try omega)).trans (by simp [go_sem]), (hW.frozen (p := ⟨w.heap.size + 1 + 1, 3, none⟩) (by simp; try omega)).trans (by simp [go_sem]), (hW.frozen (p := ⟨w.heap.size + 1 + 1, 4, none⟩) (by simp; try omega)).trans (by simp [go_sem]), (hW.frozen (p := ⟨w.heap.size + 1 + 1, 5, none⟩) (by simp; try omega)).trans (by simp [go_sem]), (hW.frozen (p := ⟨w.heap.size + 1 + 1, 6, none⟩) (by simp; try omega)).trans (by simp [go_sem])⟩)
  have KM := Lib.hid (show ∀ W W1, Below (w.heap.size + 3) (((w.alloc (.cells #[.slice lo x.lib.length lcap, .slice uo x.units.length ucap] 25)).alloc (.cells #[.int .i64 n, .string nm] 33)).alloc (.cells #[.string ⟨#[]⟩, .int .i64 0, .int .i64 0, .int .i64 0, .int .i64 0, .bool false, .slice none 0 0] 42)) W → Below W.heap.size W W1 → Below (w.heap.size + 3) (((w.alloc (.cells #[.slice lo x.lib.length lcap, .slice uo x.units.length ucap] 25)).alloc (.cells #[.int .i64 n, .string nm] 33)).alloc (.cells #[.string ⟨#[]⟩, .int .i64 0, .int .i64 0, .int .i64 0, .int .i64 0, .bool false, .slice none 0 0] 42)) W1 from fun W W1 h1 h2 => h1.trans (h2.mono (by have := h1.size; simp at this; omega)))
  have KA := Lib.hid (show ∀ W o, Below (w.heap.size + 3) (((w.alloc (.cells #[.slice lo x.lib.length lcap, .slice uo x.units.length ucap] 25)).alloc (.cells #[.int .i64 n, .string nm] 33)).alloc (.cells #[.string ⟨#[]⟩, .int .i64 0, .int .i64 0, .int .i64 0, .int .i64 0, .bool false, .slice none 0 0] 42)) W → Below (w.heap.size + 3) (((w.alloc (.cells #[.slice lo x.lib.length lcap, .slice uo x.units.length ucap] 25)).alloc (.cells #[.int .i64 n, .string nm] 33)).alloc (.cells #[.string ⟨#[]⟩, .int .i64 0, .int .i64 0, .int .i64 0, .int .i64 0, .bool false, .slice none 0 0] 42)) (W.alloc o) from fun W o h => h.alloc (by have := h.size; simp at this; omega) o)
  have KSB := Lib.hid (show ∀ W, Below w.heap.size w W → ∀ u0 u1 u2 u3 u4 u5 u6, Below w.heap.size w (((((((W.setCell ⟨w.heap.size + 1 + 1, 0, none⟩ u0).setCell ⟨w.heap.size + 1 + 1, 1, none⟩ u1).setCell ⟨w.heap.size + 1 + 1, 2, none⟩ u2).setCell ⟨w.heap.size + 1 + 1, 3, none⟩ u3).setCell ⟨w.heap.size + 1 + 1, 4, none⟩ u4).setCell ⟨w.heap.size + 1 + 1, 5, none⟩ u5).setCell ⟨w.heap.size + 1 + 1, 6, none⟩ u6) from fun W hW u0 u1 u2 u3 u4 u5 u6 => (((((((hW.setCell (p := ⟨w.heap.size + 1 + 1, 0, none⟩) (by show w.heap.size ≤ w.heap.size + 1 + 1; omega) u0).setCell (p := ⟨w.heap.size + 1 + 1, 1, none⟩) (by show w.heap.size ≤ w.heap.size + 1 + 1; omega) u1).setCell (p := ⟨w.heap.size + 1 + 1, 2, none⟩) (by show w.heap.size ≤ w.heap.size + 1 + 1; omega) u2).setCell (p := ⟨w.heap.size + 1 + 1, 3, none⟩) (by show w.heap.size ≤ w.heap.size + 1 + 1; omega) u3).setCell (p := ⟨w.heap.size + 1 + 1, 4, none⟩) (by show w.heap.size ≤ w.heap.size + 1 + 1; omega) u4).setCell (p := ⟨w.heap.size + 1 + 1, 5, none⟩) (by show w.heap.size ≤ w.heap.size + 1 + 1; omega) u5).setCell (p := ⟨w.heap.size + 1 + 1, 6, none⟩) (by show w.heap.size ≤ w.heap.size + 1 + 1; omega) u6))
  have KST := Lib.hid (show ∀ W u0 u1 u2 u3 u4 u5 u6 {o : Option Par} {v : Value}, ParR B W o v → ParR B (((((((W.setCell ⟨w.heap.size + 1 + 1, 0, none⟩ u0).setCell ⟨w.heap.size + 1 + 1, 1, none⟩ u1).setCell ⟨w.heap.size + 1 + 1, 2, none⟩ u2).setCell ⟨w.heap.size + 1 + 1, 3, none⟩ u3).setCell ⟨w.heap.size + 1 + 1, 4, none⟩ u4).setCell ⟨w.heap.size + 1 + 1, 5, none⟩ u5).setCell ⟨w.heap.size + 1 + 1, 6, none⟩ u6) o v from fun W u0 u1 u2 u3 u4 u5 u6 _ _ h => h.below ((((((((Below.refl B W).setCell (p := ⟨w.heap.size + 1 + 1, 0, none⟩) (by show B ≤ w.heap.size + 1 + 1; omega) u0).setCell (p := ⟨w.heap.size + 1 + 1, 1, none⟩) (by show B ≤ w.heap.size + 1 + 1; omega) u1).setCell (p := ⟨w.heap.size + 1 + 1, 2, none⟩) (by show B ≤ w.heap.size + 1 + 1; omega) u2).setCell (p := ⟨w.heap.size + 1 + 1, 3, none⟩) (by show B ≤ w.heap.size + 1 + 1; omega) u3).setCell (p := ⟨w.heap.size + 1 + 1, 4, none⟩) (by show B ≤ w.heap.size + 1 + 1; omega) u4).setCell (p := ⟨w.heap.size + 1 + 1, 5, none⟩) (by show B ≤ w.heap.size + 1 + 1; omega) u5).setCell (p := ⟨w.heap.size + 1 + 1, 6, none⟩) (by show B ≤ w.heap.size + 1 + 1; omega) u6))
  have HK0 := Lib.hid (Below.refl (w.heap.size + 3) (((w.alloc (.cells #[.slice lo x.lib.length lcap, .slice uo x.units.length ucap] 25)).alloc (.cells #[.int .i64 n, .string nm] 33)).alloc (.cells #[.string ⟨#[]⟩, .int .i64 0, .int .i64 0, .int .i64 0, .int .i64 0, .bool false, .slice none 0 0] 42)))
  have CU1 := Lib.hid (CU.out _ (KC.out _ HK0.out).1)
  clear CU
  go_enter Try.func82, Try.ntmps82
  go_wp2_with fail
  refine CU1.out.mono ?_
  rintro e w1 ⟨rfl, hb⟩
  have HB1 := Lib.hid (KM.out _ _ HK0.out hb)
  clear hb CU1
  obtain ⟨hB1, hz1, r0, r1, k0, k1, z0, z1, z2, z3, z4, z5, z6, y0, y1, y2, y3, y4, y5, y6⟩ := KC.out _ HB1.out
  have HBB := Lib.hid hB1
  cases hH : hasU x.units n with
  | false =>
    have HV := Lib.hid (HNO.out hH)
    rw [HIX.out.2 hH]
    clear hB1
    go_wp2_with fail
    exact bodyPost_ret (v := .tuple #[.agg #[.string ⟨#[]⟩, .int .i64 0, .int .i64 0, .int .i64 0, .int .i64 0, .bool false, .slice none 0 0], .bool false]) (by simp [results, Try.results82, go_sem, z0, z1, z2, z3, z4, z5, z6]) rfl ⟨_, by rw [HV.out] <;> rfl, by rw [HV.out]; rfl, KSB.out _ HBB.out _ _ _ _ _ _ _⟩
  | true =>
    obtain ⟨hpl, p, hun, hpo, hfo⟩ := HYE.out hH
    have hrg := HRN.out _ (List.getElem_mem hpl)
    have HFO := Lib.hid hfo
    rw [HIX.out.1 hH]
    obtain ⟨b, off, cap', hsl, hbb, _, hc⟩ := HG.out (by omega)
    injection hsl with hs1 hs2 hs3
    subst hs1 hs3
    have HCC := Lib.hid (fun W (hW : Below B w W) => (hc _ hpl W hW).2.1)
    have hpu : (x.units[posU x.units n]'hpl).nm = (x.units[posU x.units n]'hpl).prof.data.toList := rfl
    rw [hpu] at hpo
    have hbr : b < w1.heap.size := by have := hB1.size; omega
    generalize (x.units[posU x.units n]'hpl).prof = up at *
    have CP1 := Lib.hid (fun W (hb : Below w.heap.size w W) => by have := CP.out up W hb; rw [hpo] at this; exact this)
    have hi2 : posU x.units n < x.units.length := hpl
    clear hc hpu hun hrg hfo HG HYE HNO HRN CP hpl hH
    generalize posU x.units n = pi at *
    have hi1 : (pi : Int) < (x.units.length : Int) := by omega
    obtain ⟨pn, pz, pl⟩ := p
    simp only at *
    have d1 := HCC.out _ (hB1.mono hBw)
    clear hB1
    go_upto_region 4 with fail
    go_cut [7] (fun s wx => ∃ g pv, s = .pointer (some ⟨g, 0, none⟩) ∧ TBox wx g 70 #[.string pn, .int .i64 pz, pv] ∧ ParS B wx pv pl ∧ Below (w.heap.size + 3) (((w.alloc (.cells #[.slice lo x.lib.length lcap, .slice (some ⟨b, off, none⟩) x.units.length ucap] 25)).alloc (.cells #[.int .i64 n, .string nm] 33)).alloc (.cells #[.string ⟨#[]⟩, .int .i64 0, .int .i64 0, .int .i64 0, .int .i64 0, .bool false, .slice none 0 0] 42)) wx)
    case first =>
      have hw0 := HB1.out
      have hw1 := HB1.out.drew
      have hzB : w.heap.size + 3 ≤ w1.heap.size := by omega
      have KZ := Lib.hid (show ∀ W W1, Below (w1.heap.size + 1) (w1.alloc (.cells #[.string ⟨#[]⟩, .int .i64 0, .slice none 0 0] 70)) W → Below W.heap.size W W1 → Below (w1.heap.size + 1) (w1.alloc (.cells #[.string ⟨#[]⟩, .int .i64 0, .slice none 0 0] 70)) W1 from fun W W1 h1 h2 => h1.trans (h2.mono (by have := h1.size; simp at this; omega)))
      have HQ := Lib.hid (show ∀ W, Below (w1.heap.size + 1) (w1.alloc (.cells #[.string ⟨#[]⟩, .int .i64 0, .slice none 0 0] 70)) W → TBox W w1.heap.size 70 #[.string ⟨#[]⟩, .int .i64 0, .slice none 0 0] ∧ W.cell? ⟨w1.heap.size, 0, none⟩ = some (.string ⟨#[]⟩) ∧ W.cell? ⟨w1.heap.size, 1, none⟩ = some (.int .i64 0) ∧ W.cell? ⟨w1.heap.size, 2, none⟩ = some (.slice none 0 0) ∧ W.frozen? ⟨w1.heap.size, 0, none⟩ = false ∧ W.frozen? ⟨w1.heap.size, 1, none⟩ = false ∧ W.frozen? ⟨w1.heap.size, 2, none⟩ = false from fun W hW => by
        have ht : TBox W w1.heap.size 70 #[.string ⟨#[]⟩, .int .i64 0, .slice none 0 0] := (hW.block w1.heap.size (by omega)).trans (TBox.new w1 _ _)
        exact ⟨ht, ht.cell rfl, ht.cell rfl, ht.cell rfl, (hW.frozen (p := ⟨w1.heap.size, 0, none⟩) (by simp)).trans (by simp [go_sem]), (hW.frozen (p := ⟨w1.heap.size, 1, none⟩) (by simp)).trans (by simp [go_sem]), (hW.frozen (p := ⟨w1.heap.size, 2, none⟩) (by simp)).trans (by simp [go_sem])⟩)
      have KS3 := Lib.hid (show ∀ W u0 u1 u2, Below (w.heap.size + 3) (((w.alloc (.cells #[.slice lo x.lib.length lcap, .slice (some ⟨b, off, none⟩) x.units.length ucap] 25)).alloc (.cells #[.int .i64 n, .string nm] 33)).alloc (.cells #[.string ⟨#[]⟩, .int .i64 0, .int .i64 0, .int .i64 0, .int .i64 0, .bool false, .slice none 0 0] 42)) W → Below (w.heap.size + 3) (((w.alloc (.cells #[.slice lo x.lib.length lcap, .slice (some ⟨b, off, none⟩) x.units.length ucap] 25)).alloc (.cells #[.int .i64 n, .string nm] 33)).alloc (.cells #[.string ⟨#[]⟩, .int .i64 0, .int .i64 0, .int .i64 0, .int .i64 0, .bool false, .slice none 0 0] 42)) (((W.setCell ⟨w1.heap.size, 0, none⟩ u0).setCell ⟨w1.heap.size, 1, none⟩ u1).setCell ⟨w1.heap.size, 2, none⟩ u2) from fun W u0 u1 u2 h => ((h.setCell (p := ⟨w1.heap.size, 0, none⟩) hzB u0).setCell (p := ⟨w1.heap.size, 1, none⟩) hzB u1).setCell (p := ⟨w1.heap.size, 2, none⟩) hzB u2)
      have KCC := Lib.hid (show ∀ W, Below (w.heap.size + 3) (((w.alloc (.cells #[.slice lo x.lib.length lcap, .slice (some ⟨b, off, none⟩) x.units.length ucap] 25)).alloc (.cells #[.int .i64 n, .string nm] 33)).alloc (.cells #[.string ⟨#[]⟩, .int .i64 0, .int .i64 0, .int .i64 0, .int .i64 0, .bool false, .slice none 0 0] 42)) W → W.cell? ⟨w.heap.size, 0, none⟩ = some (.slice lo x.lib.length lcap) ∧ W.cell? ⟨w.heap.size, 1, none⟩ = some (.slice (some ⟨b, off, none⟩) x.units.length ucap) ∧ W.cell? ⟨b, off + pi * 4 + 1, none⟩ = some (.string up) from fun W hW => ⟨(KC.out _ hW).2.2.1, (KC.out _ hW).2.2.2.1, HCC.out _ ((KC.out _ hW).1.mono hBw)⟩)
      have hz0 := KA.out _ (.cells #[.string ⟨#[]⟩, .int .i64 0, .slice none 0 0] 70) hw0
      have hz2 := (KA.out _ (.cells #[.string ⟨#[]⟩, .int .i64 0, .slice none 0 0] 70) hw0).drew
      go_region_held3 (fun W => W.cell? ⟨w.heap.size, 0, none⟩ = some (.slice lo x.lib.length lcap) ∧ W.cell? ⟨w.heap.size, 1, none⟩ = some (.slice (some ⟨b, off, none⟩) x.units.length ucap) ∧ W.cell? ⟨b, off + pi * 4 + 1, none⟩ = some (.string up))
        (with_reducible exact KCC.out _ (by first | assumption | exact Below.drew (by assumption) | exact KA.out _ _ (by assumption) | exact Below.drew (KA.out _ _ (by assumption)) | exact KA.out _ _ (Below.drew (by assumption)) | exact KS3.out _ _ _ _ (by assumption) | exact KS3.out _ _ _ _ (Below.drew (by assumption)) | exact Below.drew (KS3.out _ _ _ _ (by assumption))))
        (first
          | (go_at_call 34; (with_reducible refine (CP1.out _ (KC.out _ (by first | assumption | exact Below.drew (by assumption) | exact KA.out _ _ (by assumption) | exact Below.drew (KA.out _ _ (by assumption)) | exact KA.out _ _ (Below.drew (by assumption)) | exact KS3.out _ _ _ _ (by assumption) | exact KS3.out _ _ _ _ (Below.drew (by assumption)) | exact Below.drew (KS3.out _ _ _ _ (by assumption)))).1).mono ?_); rintro e WC ⟨pv0, rfl, ⟨qv, rfl, hps⟩, hbC⟩; have hwC := KM.out _ _ (by first | assumption | exact Below.drew (by assumption) | exact KA.out _ _ (by assumption) | exact Below.drew (KA.out _ _ (by assumption)) | exact KA.out _ _ (Below.drew (by assumption)) | exact KS3.out _ _ _ _ (by assumption) | exact KS3.out _ _ _ _ (Below.drew (by assumption)) | exact Below.drew (KS3.out _ _ _ _ (by assumption))) hbC; obtain ⟨po, pcap, rfl⟩ := parS_shape hps; first | (have hZ := KZ.out _ _ (by first | exact Below.refl _ _ | exact Below.drew (Below.refl _ _)) hbC; obtain ⟨tz, e0, e1, e2, f0, f1, f2⟩ := HQ.out _ hZ; clear hbC) | clear hbC)
          | fail)
      all_goals go_wp2_with fail
      all_goals go_meet
      all_goals first
        | exact ⟨_, _, rfl, TBox.new _ _ _, hps.below ((Below.refl _ _).alloc (by have := (KC.out _ hwC).1.size; omega) _), KA.out _ _ hwC⟩
        | exact ⟨_, _, rfl, TBox.new _ _ _, hps.below (((Below.refl _ _).alloc (by have := (KC.out _ hwC).1.size; omega) _).drew), (KA.out _ _ hwC).drew⟩
        | exact ⟨_, _, rfl, TBox.new _ _ _, hps.below (((Below.refl _ _).drew.alloc (by have := (KC.out _ hwC).1.size; simp; omega) _)), KA.out _ _ hwC.drew⟩
        | exact ⟨_, _, rfl, tz.set3, hps.below ((((Below.refl B WC).setCell (p := ⟨w1.heap.size, 0, none⟩) (by show B ≤ w1.heap.size; omega) _).setCell (p := ⟨w1.heap.size, 1, none⟩) (by show B ≤ w1.heap.size; omega) _).setCell (p := ⟨w1.heap.size, 2, none⟩) (by show B ≤ w1.heap.size; omega) _), KS3.out _ _ _ _ hwC⟩
    case rest =>
      obtain ⟨g, pv, rfl, htb, hps, hbx⟩ := hcut
      obtain ⟨w2, rfl⟩ : ∃ x, x = wc := ⟨_, rfl⟩
      have HB2 := Lib.hid hbx
      clear hbx HB1 HBB r0 r1 k0 k1 z0 z1 z2 z3 z4 z5 z6 y0 y1 y2 y3 y4 y5 y6
      obtain ⟨hB2, hz2, r0, r1, k0, k1, z0, z1, z2, z3, z4, z5, z6, y0, y1, y2, y3, y4, y5, y6⟩ := KC.out _ HB2.out
      have g0 := htb.cell (i := 0) rfl
      have g1 := htb.cell (i := 1) rfl
      have g2 := htb.cell (i := 2) rfl
      have CX := Lib.hid (rparam_any B pn pz pv pl nm w2 (by have := hB2.size; omega) hps)
      rw [← HFO.out] at CX
      clear htb hps hB2
      go_wp2_with fail
      refine CX.out.mono ?_
      rintro e w3 ⟨xv, rfl, hxr, hb⟩
      obtain ⟨qn, qg, qs, qf, qd, qb, qo, ql, qc, rfl⟩ := parR_shape hxr
      have HB3 := Lib.hid (KM.out _ _ HB2.out hb)
      have HXR := Lib.hid hxr
      clear hb hxr CX z0 z1 z2 z3 z4 z5 z6 y0 y1 y2 y3 y4 y5 y6 r0 r1 k0 k1 g0 g1 g2
      obtain ⟨hB3, hz3, r0, r1, k0, k1, z0, z1, z2, z3, z4, z5, z6, y0, y1, y2, y3, y4, y5, y6⟩ := KC.out _ HB3.out
      have HBB := Lib.hid hB3
      clear hB3 HFO
      obtain ⟨IS, hIS⟩ : ∃ b, RES.isSome = b := ⟨_, rfl⟩
      rw [hIS]
      have HIS := Lib.hid hIS
      clear hIS
      go_wp2_with fail
      exact bodyPost_ret (v := .tuple #[.agg #[.string qn, .int .i64 qg, .int .i64 qs, .int .i64 qf, .int .i64 qd, .bool qb, .slice qo ql qc], .bool IS]) (by simp [results, Try.results82, go_sem, z0, z1, z2, z3, z4, z5, z6]) rfl ⟨_, by rw [HIS.out] <;> rfl, KST.out _ _ _ _ _ _ _ _ HXR.out, KSB.out _ HBB.out _ _ _ _ _ _ _⟩
end Go.Proofs.Ytabalicembhjmaa
