/- fixture.find. (printed by wip/gen/gen_find.py) fixture.checkSettings. (printed by wip/gen/gen_ckstg.py) The words of Place. (printed by wip/gen/gen_place.py) -/
import Derived.Test.YtabalicembhjmaaT33M18
import Derived.Test.YtabalicembhjmaaT33M07
import Derived.Test.YtabalicembhjmaaT33M25
import Derived.StillTailTactics

namespace Go.Proofs.Ytabalicembhjmaa
open Go.RowKit
set_option linter.unusedVariables false
set_option linter.unusedSimpArgs false

set_option maxRecDepth 100000 in
set_option maxHeartbeats 16000000 in
theorem find_any (x : Rig) (lv uv : Value) (B : Nat) (n : Int) (nm : ByteArray) (w : World) (hBw : B ≤ w.heap.size) (h : RigAt B w x lv uv) (hx : chkRig x = 0) (hn : I64 n) :
    Calls Try.prog 40 #[rigV lv uv, .agg #[.int .i64 n, .string nm]] w fun e w' => ∃ xv, e = .returned (.tuple #[xv, .bool (findO x n nm.data.toList).isSome]) ∧ ParR B w' (findO x n nm.data.toList) xv ∧ Below w.heap.size w w' := by
  have CU := Lib.hid (fun W (hb : Below w.heap.size w W) => unit_any x lv uv n W ((h.below (hb.mono hBw)).more (Nat.le_trans hBw hb.size)) hx hn)
  have CP := Lib.hid (fun (nm : ByteArray) W (hb : Below w.heap.size w W) => profile_base B lv x.lib nm W (Nat.le_trans hBw hb.size) (h.lib.below (hb.mono hBw)))
  have HG := Lib.hid (UntS.get h.units)
  obtain ⟨uo, ucap, rfl, _⟩ := CellsS.shape h.units
  obtain ⟨lo, lcap, rfl⟩ := prfS_shape h.lib
  have hcp := untS_cap h.units
  have HNO := Lib.hid (fun (h : hasU x.units n = false) => findO_no h nm.data.toList)
  have HYE := Lib.hid (fun (h : hasU x.units n = true) => findO_yes hx h nm.data.toList)
  have HRN := Lib.hid (fun u (hu : u ∈ x.units) => num_range hx hu)
  
  unfold rigV at *
  clear h hx
  generalize findO x n nm.data.toList = RES at *
  have KC := Lib.hid (show ∀ W, Below (w.heap.size + 3) (((w.alloc (.cells #[.slice lo x.lib.length lcap, .slice uo x.units.length ucap] 25)).alloc (.cells #[.int .i64 n, .string nm] 33)).alloc (.cells #[.string ⟨#[]⟩, .int .i64 0, .int .i64 0, .int .i64 0, .int .i64 0, .bool false, .slice none 0 0] 42)) W → (Below w.heap.size w W ∧ w.heap.size + 1 + 1 < W.heap.size ∧ W.cell? ⟨w.heap.size, 0, none⟩ = some (.slice lo x.lib.length lcap) ∧ W.cell? ⟨w.heap.size, 1, none⟩ = some (.slice uo x.units.length ucap) ∧ W.cell? ⟨w.heap.size + 1, 0, none⟩ = some (.int .i64 n) ∧ W.cell? ⟨w.heap.size + 1, 1, none⟩ = some (.string nm) ∧ W.cell? ⟨w.heap.size + 1 + 1, 0, none⟩ = some (.string ⟨#[]⟩) ∧ W.cell? ⟨w.heap.size + 1 + 1, 1, none⟩ = some (.int .i64 0) ∧ W.cell? ⟨w.heap.size + 1 + 1, 2, none⟩ = some (.int .i64 0) ∧ W.cell? ⟨w.heap.size + 1 + 1, 3, none⟩ = some (.int .i64 0) ∧ W.cell? ⟨w.heap.size + 1 + 1, 4, none⟩ = some (.int .i64 0) ∧ W.cell? ⟨w.heap.size + 1 + 1, 5, none⟩ = some (.bool false) ∧ W.cell? ⟨w.heap.size + 1 + 1, 6, none⟩ = some (.slice none 0 0) ∧ W.frozen? ⟨w.heap.size + 1 + 1, 0, none⟩ = false ∧ W.frozen? ⟨w.heap.size + 1 + 1, 1, none⟩ = false ∧ W.frozen? ⟨w.heap.size + 1 + 1, 2, none⟩ = false ∧ W.frozen? ⟨w.heap.size + 1 + 1, 3, none⟩ = false ∧ W.frozen? ⟨w.heap.size + 1 + 1, 4, none⟩ = false ∧ W.frozen? ⟨w.heap.size + 1 + 1, 5, none⟩ = false ∧ W.frozen? ⟨w.heap.size + 1 + 1, 6, none⟩ = false) from fun W hW => by
    have hz := hW.size
    simp at hz
    exact ⟨((((Below.refl _ _).alloc (Nat.le_refl _) _).alloc (by simp) _).alloc (by simp; try omega) _).trans (hW.mono (by omega)), by omega, (hW.cell (p := ⟨w.heap.size, 0, none⟩) (by simp; try omega)).trans (by simp [go_sem, World.cell?_alloc_past]), (hW.cell (p := ⟨w.heap.size, 1, none⟩) (by simp; try omega)).trans (by simp [go_sem, World.cell?_alloc_past]), (hW.cell (p := ⟨w.heap.size + 1, 0, none⟩) (by simp; try omega)).trans (by simp [go_sem, World.cell?_alloc_past]), (hW.cell (p := ⟨w.heap.size + 1, 1, none⟩) (by simp; try omega)).trans (by simp [go_sem, World.cell?_alloc_past]), (hW.cell (p := ⟨w.heap.size + 1 + 1, 0, none⟩) (by simp; try omega)).trans (by simp [go_sem, World.cell?_alloc_past]), (hW.cell (p := ⟨w.heap.size + 1 + 1, 1, none⟩) (by simp; try omega)).trans (by simp [go_sem, World.cell?_alloc_past]), (hW.cell (p := ⟨w.heap.size + 1 + 1, 2, none⟩) (by simp; try omega)).trans (by simp [go_sem, World.cell?_alloc_past]), (hW.cell (p := ⟨w.heap.size + 1 + 1, 3, none⟩) (by simp; try omega)).trans (by simp [go_sem, World.cell?_alloc_past]), (hW.cell (p := ⟨w.heap.size + 1 + 1, 4, none⟩) (by simp; try omega)).trans (by simp [go_sem, World.cell?_alloc_past]), (hW.cell (p := ⟨w.heap.size + 1 + 1, 5, none⟩) (by simp; try omega)).trans (by simp [go_sem, World.cell?_alloc_past]), (hW.cell (p := ⟨w.heap.size + 1 + 1, 6, none⟩) (by simp; try omega)).trans (by simp [go_sem, World.cell?_alloc_past]), (hW.frozen (p := ⟨w.heap.size + 1 + 1, 0, none⟩) (by simp; try omega)).trans (by simp [go_sem]), (hW.frozen (p := ⟨w.heap.size + 1 + 1, 1, none⟩) (by simp; try omega)).trans (by simp [go_sem]), (hW.frozen (p := ⟨w.heap.size + 1 + 1, 2, none⟩) (by simp; try omega)).trans (by simp [go_sem]), (hW.frozen (p := ⟨w.heap.size + 1 + 1, 3, none⟩) (by simp; try omega)).trans (by simp [go_sem]), (hW.frozen (p := ⟨w.heap.size + 1 + 1, 4, none⟩) (by simp; try omega)).trans (by simp [go_sem]), (hW.frozen (p := ⟨w.heap.size + 1 + 1, 5, none⟩) (by simp; try omega)).trans (by simp [go_sem]), (hW.frozen (p := ⟨w.heap.size + 1 + 1, 6, none⟩) (by simp; try omega)).trans (by simp [go_sem])⟩)
  have KM := Lib.hid (show ∀ W W1, Below (w.heap.size + 3) (((w.alloc (.cells #[.slice lo x.lib.length lcap, .slice uo x.units.length ucap] 25)).alloc (.cells #[.int .i64 n, .string nm] 33)).alloc (.cells #[.string ⟨#[]⟩, .int .i64 0, .int .i64 0, .int .i64 0, .int .i64 0, .bool false, .slice none 0 0] 42)) W → Below W.heap.size W W1 → Below (w.heap.size + 3) (((w.alloc (.cells #[.slice lo x.lib.length lcap, .slice uo x.units.length ucap] 25)).alloc (.cells #[.int .i64 n, .string nm] 33)).alloc (.cells #[.string ⟨#[]⟩, .int .i64 0, .int .i64 0, .int .i64 0, .int .i64 0, .bool false, .slice none 0 0] 42)) W1 from fun W W1 h1 h2 => h1.trans (h2.mono (by have := h1.size; simp at this; omega)))
  have KA := Lib.hid (show ∀ W o, Below (w.heap.size + 3) (((w.alloc (.cells #[.slice lo x.lib.length lcap, .slice uo x.units.length ucap] 25)).alloc (.cells #[.int .i64 n, .string nm] 33)).alloc (.cells #[.string ⟨#[]⟩, .int .i64 0, .int .i64 0, .int .i64 0, .int .i64 0, .bool false, .slice none 0 0] 42)) W → Below (w.heap.size + 3) (((w.alloc (.cells #[.slice lo x.lib.length lcap, .slice uo x.units.length ucap] 25)).alloc (.cells #[.int .i64 n, .string nm] 33)).alloc (.cells #[.string ⟨#[]⟩, .int .i64 0, .int .i64 0, .int .i64 0, .int .i64 0, .bool false, .slice none 0 0] 42)) (W.alloc o) from fun W o h => h.alloc (by have := h.size; simp at this; omega) o)
  have KSB := Lib.hid (show ∀ W, Below w.heap.size w W → ∀ u0 u1 u2 u3 u4 u5 u6, Below w.heap.size w (((((((W.setCell ⟨w.heap.size + 1 + 1, 0, none⟩ u0).setCell ⟨w.heap.size + 1 + 1, 1, none⟩ u1).setCell ⟨w.heap.size + 1 + 1, 2, none⟩ u2).setCell ⟨w.heap.size + 1 + 1, 3, none⟩ u3).setCell ⟨w.heap.size + 1 + 1, 4, none⟩ u4).setCell ⟨w.heap.size + 1 + 1, 5, none⟩ u5).setCell ⟨w.heap.size + 1 + 1, 6, none⟩ u6) from fun W hW u0 u1 u2 u3 u4 u5 u6 => (((((((hW.setCell (p := ⟨w.heap.size + 1 + 1, 0, none⟩) (by show w.heap.size ≤ w.heap.size + 1 + 1; omega) u0).setCell (p := ⟨w.heap.size + 1 + 1, 1, none⟩) (by show w.heap.size ≤ w.heap.size + 1 + 1; omega) u1).setCell (p := ⟨w.heap.size + 1 + 1, 2, none⟩) (by show w.heap.size ≤ w.heap.size + 1 + 1; omega) u2).setCell (p := ⟨w.heap.size + 1 + 1, 3, none⟩) (by show w.heap.size ≤ w.heap.size + 1 + 1; omega) u3).setCell (p := ⟨w.heap.size + 1 + 1, 4, none⟩) (by show w.heap.size ≤ w.heap.size + 1 + 1; omega) u4).setCell (p := ⟨w.heap.size + 1 + 1, 5, none⟩) (by show w.heap.size ≤ w.heap.size + 1 + 1; omega) u5).setCell (p := ⟨w.heap.size + 1 + 1, 6, none⟩) (by show w.heap.size ≤ w.heap.size + 1 + 1; omega) u6))
  have KST := Lib.hid (show ∀ W u0 u1 u2 u3 u4 u5 u6 {o : Option Par} {v : Value}, ParR B W o v → ParR B (((((((W.setCell ⟨w.heap.size + 1 + 1, 0, none⟩ u0).setCell ⟨w.heap.size + 1 + 1, 1, none⟩ u1).setCell ⟨w.heap.size + 1 + 1, 2, none⟩ u2).setCell ⟨w.heap.size + 1 + 1, 3, none⟩ u3).setCell ⟨w.heap.size + 1 + 1, 4, none⟩ u4).setCell ⟨w.heap.size + 1 + 1, 5, none⟩ u5).setCell ⟨w.heap.size + 1 + 1, 6, none⟩ u6) o v from fun W u0 u1 u2 u3 u4 u5 u6 _ _ h => h.below ((((((((Below.refl B W).setCell (p := ⟨w.heap.size + 1 + 1, 0, none⟩) (by show B ≤ w.heap.size + 1 + 1; omega) u0).setCell (p := ⟨w.heap.size + 1 + 1, 1, none⟩) (by show B ≤ w.heap.size + 1 + 1; omega) u1).setCell (p := ⟨w.heap.size + 1 + 1, 2, none⟩) (by show B ≤ w.heap.size + 1 + 1; omega) u2).setCell (p := ⟨w.heap.size + 1 + 1, 3, none⟩) (by show B ≤ w.heap.size + 1 + 1; omega) u3).setCell (p := ⟨w.heap.size + 1 + 1, 4, none⟩) (by show B ≤ w.heap.size + 1 + 1; omega) u4).setCell (p := ⟨w.heap.size + 1 + 1, 5, none⟩) (by show B ≤ w.heap.size + 1 + 1; omega) u5).setCell (p := ⟨w.heap.size + 1 + 1, 6, none⟩) (by show B ≤ w.heap.size + 1 + 1; omega) u6))
  have HK0 := Lib.hid (Below.refl (w.heap.size + 3) (((w.alloc (.cells #[.slice lo x.lib.length lcap, .slice uo x.units.length ucap] 25)).alloc (.cells #[.int .i64 n, .string nm] 33)).alloc (.cells #[.string ⟨#[]⟩, .int .i64 0, .int .i64 0, .int .i64 0, .int .i64 0, .bool false, .slice none 0 0] 42)))
  have CU1 := Lib.hid (CU.out _ (KC.out _ HK0.out).1)
  clear CU
  go_enter Try.func40, Try.ntmps40
  go_wp2_with fail
  refine CU1.out.mono ?_
  rintro e w1 ⟨p0, rfl, hp0, hq0, hb⟩
  have HB1 := Lib.hid (KM.out _ _ HK0.out hb)
  clear hb CU1
  obtain ⟨hB1, hz1, r0, r1, k0, k1, z0, z1, z2, z3, z4, z5, z6, y0, y1, y2, y3, y4, y5, y6⟩ := KC.out _ HB1.out
  have HBB := Lib.hid hB1
  cases hH : hasU x.units n with
  | false =>
    have HV := Lib.hid (HNO.out hH)
    skip
    clear hB1
    go_wp2_with fail
    exact bodyPost_ret (v := .tuple #[.agg #[.string ⟨#[]⟩, .int .i64 0, .int .i64 0, .int .i64 0, .int .i64 0, .bool false, .slice none 0 0], .bool false]) (by simp [results, Try.results40, go_sem, z0, z1, z2, z3, z4, z5, z6]) rfl ⟨_, by rw [HV.out] <;> rfl, by rw [HV.out]; rfl, KSB.out _ HBB.out _ _ _ _ _ _ _⟩
  | true =>
    obtain ⟨hpl, p, hun, hpo, hfo⟩ := HYE.out hH
    have hrg := HRN.out _ (List.getElem_mem hpl)
    have HFO := Lib.hid hfo
    have hp1 := hq0 (by omega) (by omega)
    subst hp1
    obtain ⟨b, off, cap', hsl, hbb, _, hc⟩ := HG.out (by omega)
    injection hsl with hs1 hs2 hs3
    subst hs1 hs3
    have HCC := Lib.hid (fun W (hW : Below B w W) => (hc _ hpl W hW).2.1)
    have hpu : (x.units[posU x.units n]'hpl).nm = (x.units[posU x.units n]'hpl).prof.data.toList := rfl
    rw [hpu] at hpo
    have hbr : b < w1.heap.size := by have := hB1.size; omega
    generalize (x.units[posU x.units n]'hpl).prof = up at *
    have CP1 := Lib.hid (fun W (hb : Below w.heap.size w W) => by have := CP.out up W hb; rw [hpo] at this; exact this)
    have hi2 : posU x.units n < x.units.length := hpl
    clear hc hpu hun hrg hfo HG HYE HNO HRN CP hpl hH
    generalize posU x.units n = pi at *
    have hi1 : (pi : Int) < (x.units.length : Int) := by omega
    obtain ⟨pn, pz, pl⟩ := p
    simp only at *
    have d1 := HCC.out _ (hB1.mono hBw)
    clear hB1
    go_upto_region 4 with fail
    go_cut [8] (fun s wx => ∃ g pv, s = .pointer (some ⟨g, 0, none⟩) ∧ TBox wx g 70 #[.string pn, .int .i64 pz, pv] ∧ ParS B wx pv pl ∧ Below (w.heap.size + 3) (((w.alloc (.cells #[.slice lo x.lib.length lcap, .slice (some ⟨b, off, none⟩) x.units.length ucap] 25)).alloc (.cells #[.int .i64 n, .string nm] 33)).alloc (.cells #[.string ⟨#[]⟩, .int .i64 0, .int .i64 0, .int .i64 0, .int .i64 0, .bool false, .slice none 0 0] 42)) wx)
    case first =>
      have hw0 := HB1.out
      have hw1 := HB1.out.drew
      have hzB : w.heap.size + 3 ≤ w1.heap.size := by omega
      have KZ := Lib.hid (show ∀ W W1, Below (w1.heap.size + 1) (w1.alloc (.cells #[.string ⟨#[]⟩, .int .i64 0, .slice none 0 0] 70)) W → Below W.heap.size W W1 → Below (w1.heap.size + 1) (w1.alloc (.cells #[.string ⟨#[]⟩, .int .i64 0, .slice none 0 0] 70)) W1 from fun W W1 h1 h2 => h1.trans (h2.mono (by have := h1.size; simp at this; omega)))
      have HQ := Lib.hid (show ∀ W, Below (w1.heap.size + 1) (w1.alloc (.cells #[.string ⟨#[]⟩, .int .i64 0, .slice none 0 0] 70)) W → TBox W w1.heap.size 70 #[.string ⟨#[]⟩, .int .i64 0, .slice none 0 0] ∧ W.cell? ⟨w1.heap.size, 0, none⟩ = some (.string ⟨#[]⟩) ∧ W.cell? ⟨w1.heap.size, 1, none⟩ = some (.int .i64 0) ∧ W.cell? ⟨w1.heap.size, 2, none⟩ = some (.slice none 0 0) ∧ W.frozen? ⟨w1.heap.size, 0, none⟩ = false ∧ W.frozen? ⟨w1.heap.size, 1, none⟩ = false ∧ W.frozen? ⟨w1.heap.size, 2, none⟩ = false from fun W hW => by
        have ht : TBox W w1.heap.size 70 #[.string ⟨#[]⟩, .int .i64 0, .slice none 0 0] := (hW.block w1.heap.size (by omega)).trans (TBox.new w1 _ _)
        exact ⟨ht, ht.cell rfl, ht.cell rfl, ht.cell rfl, (hW.frozen (p := ⟨w1.heap.size, 0, none⟩) (by simp)).trans (by simp [go_sem]), (hW.frozen (p := ⟨w1.heap.size, 1, none⟩) (by simp)).trans (by simp [go_sem]), (hW.frozen (p := ⟨w1.heap.size, 2, none⟩) (by simp)).trans (by simp [go_sem])⟩)
      have KS3 := Lib.hid (show ∀ W u0 u1 u2, Below (w.heap.size + 3) (((w.alloc (.cells #[.slice lo x.lib.length lcap, .slice (some ⟨b, off, none⟩) x.units.length ucap] 25)).alloc (.cells #[.int .i64 n, .string nm] 33)).alloc (.cells #[.string ⟨#[]⟩, .int .i64 0, .int .i64 0, .int .i64 0, .int .i64 0, .bool false, .slice none 0 0] 42)) W → Below (w.heap.size + 3) (((w.alloc (.cells #[.slice lo x.lib.length lcap, .slice (some ⟨b, off, none⟩) x.units.length ucap] 25)).alloc (.cells #[.int .i64 n, .string nm] 33)).alloc (.cells #[.string ⟨#[]⟩, .int .i64 0, .int .i64 0, .int .i64 0, .int .i64 0, .bool false, .slice none 0 0] 42)) (((W.setCell ⟨w1.heap.size, 0, none⟩ u0).setCell ⟨w1.heap.size, 1, none⟩ u1).setCell ⟨w1.heap.size, 2, none⟩ u2) from fun W u0 u1 u2 h => ((h.setCell (p := ⟨w1.heap.size, 0, none⟩) hzB u0).setCell (p := ⟨w1.heap.size, 1, none⟩) hzB u1).setCell (p := ⟨w1.heap.size, 2, none⟩) hzB u2)
      have KCC := Lib.hid (show ∀ W, Below (w.heap.size + 3) (((w.alloc (.cells #[.slice lo x.lib.length lcap, .slice (some ⟨b, off, none⟩) x.units.length ucap] 25)).alloc (.cells #[.int .i64 n, .string nm] 33)).alloc (.cells #[.string ⟨#[]⟩, .int .i64 0, .int .i64 0, .int .i64 0, .int .i64 0, .bool false, .slice none 0 0] 42)) W → W.cell? ⟨w.heap.size, 0, none⟩ = some (.slice lo x.lib.length lcap) ∧ W.cell? ⟨w.heap.size, 1, none⟩ = some (.slice (some ⟨b, off, none⟩) x.units.length ucap) ∧ W.cell? ⟨b, off + pi * 4 + 1, none⟩ = some (.string up) from fun W hW => ⟨(KC.out _ hW).2.2.1, (KC.out _ hW).2.2.2.1, HCC.out _ ((KC.out _ hW).1.mono hBw)⟩)
      have hz0 := KA.out _ (.cells #[.string ⟨#[]⟩, .int .i64 0, .slice none 0 0] 70) hw0
      have hz2 := (KA.out _ (.cells #[.string ⟨#[]⟩, .int .i64 0, .slice none 0 0] 70) hw0).drew
      go_region_held3 (fun W => W.cell? ⟨w.heap.size, 0, none⟩ = some (.slice lo x.lib.length lcap) ∧ W.cell? ⟨w.heap.size, 1, none⟩ = some (.slice (some ⟨b, off, none⟩) x.units.length ucap) ∧ W.cell? ⟨b, off + pi * 4 + 1, none⟩ = some (.string up))
        (with_reducible exact KCC.out _ (by first | assumption | exact Below.drew (by assumption) | exact KA.out _ _ (by assumption) | exact Below.drew (KA.out _ _ (by assumption)) | exact KA.out _ _ (Below.drew (by assumption)) | exact KS3.out _ _ _ _ (by assumption) | exact KS3.out _ _ _ _ (Below.drew (by assumption)) | exact Below.drew (KS3.out _ _ _ _ (by assumption))))
        (first
          | (go_at_call 30; (with_reducible refine (CP1.out _ (KC.out _ (by first | assumption | exact Below.drew (by assumption) | exact KA.out _ _ (by assumption) | exact Below.drew (KA.out _ _ (by assumption)) | exact KA.out _ _ (Below.drew (by assumption)) | exact KS3.out _ _ _ _ (by assumption) | exact KS3.out _ _ _ _ (Below.drew (by assumption)) | exact Below.drew (KS3.out _ _ _ _ (by assumption)))).1).mono ?_); rintro e WC ⟨pv0, rfl, ⟨qv, rfl, hps⟩, hbC⟩; have hwC := KM.out _ _ (by first | assumption | exact Below.drew (by assumption) | exact KA.out _ _ (by assumption) | exact Below.drew (KA.out _ _ (by assumption)) | exact KA.out _ _ (Below.drew (by assumption)) | exact KS3.out _ _ _ _ (by assumption) | exact KS3.out _ _ _ _ (Below.drew (by assumption)) | exact Below.drew (KS3.out _ _ _ _ (by assumption))) hbC; obtain ⟨po, pcap, rfl⟩ := parS_shape hps; first | (have hZ := KZ.out _ _ (by first | exact Below.refl _ _ | exact Below.drew (Below.refl _ _)) hbC; obtain ⟨tz, e0, e1, e2, f0, f1, f2⟩ := HQ.out _ hZ; clear hbC) | clear hbC)
          | fail)
      all_goals go_wp2_with fail
      all_goals go_meet
      all_goals first
        | exact ⟨_, _, rfl, TBox.new _ _ _, hps.below ((Below.refl _ _).alloc (by have := (KC.out _ hwC).1.size; omega) _), KA.out _ _ hwC⟩
        | exact ⟨_, _, rfl, TBox.new _ _ _, hps.below (((Below.refl _ _).alloc (by have := (KC.out _ hwC).1.size; omega) _).drew), (KA.out _ _ hwC).drew⟩
        | exact ⟨_, _, rfl, TBox.new _ _ _, hps.below (((Below.refl _ _).drew.alloc (by have := (KC.out _ hwC).1.size; simp; omega) _)), KA.out _ _ hwC.drew⟩
        | exact ⟨_, _, rfl, tz.set3, hps.below ((((Below.refl B WC).setCell (p := ⟨w1.heap.size, 0, none⟩) (by show B ≤ w1.heap.size; omega) _).setCell (p := ⟨w1.heap.size, 1, none⟩) (by show B ≤ w1.heap.size; omega) _).setCell (p := ⟨w1.heap.size, 2, none⟩) (by show B ≤ w1.heap.size; omega) _), KS3.out _ _ _ _ hwC⟩
    case rest =>
      obtain ⟨g, pv, rfl, htb, hps, hbx⟩ := hcut
      obtain ⟨w2, rfl⟩ : ∃ x, x = wc := ⟨_, rfl⟩
      have HB2 := Lib.hid hbx
      clear hbx HB1 HBB r0 r1 k0 k1 z0 z1 z2 z3 z4 z5 z6 y0 y1 y2 y3 y4 y5 y6
      obtain ⟨hB2, hz2, r0, r1, k0, k1, z0, z1, z2, z3, z4, z5, z6, y0, y1, y2, y3, y4, y5, y6⟩ := KC.out _ HB2.out
      have g0 := htb.cell (i := 0) rfl
      have g1 := htb.cell (i := 1) rfl
      have g2 := htb.cell (i := 2) rfl
      have CX := Lib.hid (parameter_any B pn pz pv pl nm w2 (by have := hB2.size; omega) hps)
      rw [← HFO.out] at CX
      clear htb hps hB2
      go_wp2_with fail
      refine CX.out.mono ?_
      rintro e w3 ⟨xv, rfl, hxr, hb⟩
      obtain ⟨qn, qg, qs, qf, qd, qb, qo, ql, qc, rfl⟩ := parR_shape hxr
      have HB3 := Lib.hid (KM.out _ _ HB2.out hb)
      have HXR := Lib.hid hxr
      clear hb hxr CX z0 z1 z2 z3 z4 z5 z6 y0 y1 y2 y3 y4 y5 y6 r0 r1 k0 k1 g0 g1 g2
      obtain ⟨hB3, hz3, r0, r1, k0, k1, z0, z1, z2, z3, z4, z5, z6, y0, y1, y2, y3, y4, y5, y6⟩ := KC.out _ HB3.out
      have HBB := Lib.hid hB3
      clear hB3 HFO
      obtain ⟨IS, hIS⟩ : ∃ b, RES.isSome = b := ⟨_, rfl⟩
      rw [hIS]
      have HIS := Lib.hid hIS
      clear hIS
      go_wp2_with fail
      exact bodyPost_ret (v := .tuple #[.agg #[.string qn, .int .i64 qg, .int .i64 qs, .int .i64 qf, .int .i64 qd, .bool qb, .slice qo ql qc], .bool IS]) (by simp [results, Try.results40, go_sem, z0, z1, z2, z3, z4, z5, z6]) rfl ⟨_, by rw [HIS.out] <;> rfl, KST.out _ _ _ _ _ _ _ _ HXR.out, KSB.out _ HBB.out _ _ _ _ _ _ _⟩
end Go.Proofs.Ytabalicembhjmaa

namespace Go.Proofs.Ytabalicembhjmaa
open Go.RowKit
set_option linter.unusedVariables false
set_option linter.unusedSimpArgs false

set_option maxRecDepth 100000 in
set_option maxHeartbeats 16000000 in
theorem ckStgs_any (x : Rig) (lv uv : Value) (l : List Stg) (sv : Value) (w : World) (h : RigAt w.heap.size w x lv uv) (hx : chkRig x = 0) (hS : StgS w.heap.size w sv l) (hs : ∀ s ∈ l, StgFit s) :
    Calls Try.prog 36 #[rigV lv uv, sv] w fun e w' => ∃ mv, e = .returned (.tuple #[mv, .int .i64 (chkStgs x l)]) ∧ (chkStgs x l = 0 → ∃ (mb n : Nat) (f : Lit → Option Value), mv = .map (some mb) ∧ w.heap.size ≤ mb ∧ mb < w'.heap.size ∧ n ≤ l.length ∧ MapM w' Try.prog 33 mb n f ∧ ∀ k, KeyFit k → f (keyL k) = (l.reverse.find? (isK k)).map lvV) ∧ Below w.heap.size w w' := by
  have CF := Lib.hid (fun (n : Int) (nm : ByteArray) W (hb : Below w.heap.size w W) (hn : I64 n) => find_any x lv uv w.heap.size n nm W hb.size (h.below hb) hx hn)
  have HG := Lib.hid (StgS.get hS)
  have hml := CellsS.len hS
  unfold maxLen at hml
  have HSF := Lib.hid hs
  obtain ⟨uo, ucap, rfl, _⟩ := CellsS.shape h.units
  obtain ⟨lo, lcap, rfl⟩ := prfS_shape h.lib
  obtain ⟨so, scap, rfl, _⟩ := CellsS.shape hS
  unfold rigV at *
  have HC := Lib.hid (show chkStgs x l = scanF (stgF x) l 0 from rfl)
  clear h hS hs hx
  generalize chkStgs x l = RES at *
  have KC := Lib.hid (show ∀ W, Below (w.heap.size + 1) (w.alloc (.cells #[.slice lo x.lib.length lcap, .slice uo x.units.length ucap] 25)) W → (Below w.heap.size w W ∧ w.heap.size < W.heap.size ∧ W.cell? ⟨w.heap.size, 0, none⟩ = some (.slice lo x.lib.length lcap) ∧ W.cell? ⟨w.heap.size, 1, none⟩ = some (.slice uo x.units.length ucap)) from fun W hW => by
    have hz := hW.size
    simp at hz
    exact ⟨((Below.refl _ _).alloc (Nat.le_refl _) _).trans (hW.mono (by omega)), by omega, (hW.cell (p := ⟨w.heap.size, 0, none⟩) (by simp)).trans (by simp [go_sem]), (hW.cell (p := ⟨w.heap.size, 1, none⟩) (by simp)).trans (by simp [go_sem])⟩)
  have KM := Lib.hid (show ∀ W W1, Below (w.heap.size + 1) (w.alloc (.cells #[.slice lo x.lib.length lcap, .slice uo x.units.length ucap] 25)) W → Below W.heap.size W W1 → Below (w.heap.size + 1) (w.alloc (.cells #[.slice lo x.lib.length lcap, .slice uo x.units.length ucap] 25)) W1 from fun W W1 h1 h2 => h1.trans (h2.mono (by have := h1.size; simp at this; omega)))
  have KA := Lib.hid (show ∀ W o, Below (w.heap.size + 1) (w.alloc (.cells #[.slice lo x.lib.length lcap, .slice uo x.units.length ucap] 25)) W → Below (w.heap.size + 1) (w.alloc (.cells #[.slice lo x.lib.length lcap, .slice uo x.units.length ucap] 25)) (W.alloc o) from fun W o h => h.alloc (by have := h.size; simp at this; omega) o)
  have HBM := Lib.hid (KA.out _ (.map #[] 0) (Below.refl (w.heap.size + 1) (w.alloc (.cells #[.slice lo x.lib.length lcap, .slice uo x.units.length ucap] 25))))
  go_enter Try.func36, Try.ntmps36
  have hmm := @run_makeMap Try.prog
  go_wp2_with fail
  clear hmm
  go_loopw [16] (fun i wx => ∃ k : Nat, k ≤ l.length ∧ i = .int .i64 k ∧ Hid (RES = scanF (stgF x) l k) ∧ Hid (Below (w.heap.size + 1) (w.alloc (.cells #[.slice lo x.lib.length lcap, .slice uo x.units.length ucap] 25)) wx) ∧ (∃ f, Hid (MapM wx Try.prog 33 (w.heap.size + 1) k f) ∧ Hid (∀ k', KeyFit k' → f (keyL k') = ((l.take k).reverse.find? (isK k')).map lvV)) ∧ w.heap.size + 1 < wx.heap.size) (fun i _ => l.length - (intOf i).toNat)
  case atStart => exact ⟨0, Nat.zero_le _, rfl, HC, HBM, ⟨_, Lib.hid (by simpa using mapM_made (w.alloc (.cells #[.slice lo x.lib.length lcap, .slice uo x.units.length ucap] 25)) Try.prog 33), Lib.hid (fun k' _ => by simp)⟩, by simp⟩
  case round =>
    clear HC HBM
    obtain ⟨k, hk, rfl, HRF, HBW, ⟨f, HM, HMF⟩, hlw⟩ := hrel
    obtain ⟨hB, hz, p0, p1⟩ := KC.out wr HBW.out
    by_cases hlt : k < l.length
    · obtain ⟨b, off, cap', hsl, hb, _, hc⟩ := HG.out (by omega)
      injection hsl with hs1 hs2 hs3
      subst hs1 hs3
      obtain ⟨d0, d1, d2⟩ := hc k hlt wr hB
      have hbr : b < wr.heap.size := by have := hB.size; omega
      have hfit := HSF.out _ (List.getElem_mem hlt)
      have HSG := Lib.hid (scanF_good (stgF x) l k hlt)
      have HSB := Lib.hid (scanF_bad (stgF x) l k hlt)
      have HFD := Lib.hid (show stgF x (l.take k) l[k] = if (findO x l[k].unit l[k].par.data.toList).isNone then 8 else if !inR l[k].lv 0 65535 then 1 else if (l.take k).any (isK l[k].k) then 6 else 0 from rfl)
      have HNF := Lib.hid (put_key hlt HSF.out HMF.out)
      have HLK := Lib.hid (HMF.out _ (keyS_fit hfit))
      have HRI := Lib.hid (rev_some_iff (l.take k) l[k].k)
      have HKEY := Lib.hid (keyOf_key (keyS_fit hfit))
      have HUI := Lib.hid hfit.1
      generalize stgF x (l.take k) l[k] = FF at *
      clear hc hfit HMF
      have hkv : l[k].k = (l[k].unit, l[k].par) := rfl
      have hlv : lvV l[k] = .int .i64 l[k].lv := rfl
      rw [hkv] at HFD HLK HRI HKEY
      rw [hkv, hlv] at HNF
      clear hkv hlv
      generalize (l.take k).reverse.find? (isK (l[k].unit, l[k].par)) = FO at *
      generalize (l.take k).any (isK (l[k].unit, l[k].par)) = SN at *
      generalize hrk : l[k] = rk at *
      clear hrk
      obtain ⟨su, sp, sl⟩ := rk
      simp only at *
      unfold keyV at HKEY
      simp only at HKEY
      have HBX := Lib.hid (KA.out _ (.cells #[.int .i64 su, .string sp, .int .i64 sl] 35) HBW.out)
      have HMX := Lib.hid (HM.out.below (((Below.refl wr.heap.size wr).alloc (Nat.le_refl _) (.cells #[.int .i64 su, .string sp, .int .i64 sl] 35))) hlw)
      have CX := Lib.hid (CF.out su sp _ (KC.out _ HBX.out).1 HUI.out)
      clear hB HM
      generalize findO x su sp.data.toList = PO at *
      go_wp2_with fail
      refine CX.out.mono ?_
      rintro e w5 ⟨xv, rfl, hxr, hb5⟩
      obtain ⟨qn, qg, qs, qf, qd, qb, qo, ql, qc, rfl⟩ := parR_shape hxr
      have hz5 := hb5.size
      simp only [World.size_alloc] at hz5
      have hwr5 : wr.heap.size < w5.heap.size := by omega
      have HB5 := Lib.hid (KM.out _ _ HBX.out hb5)
      have HM5 := Lib.hid (HMX.out.below hb5 (by simp; omega))
      have f0 : w5.cell? ⟨wr.heap.size, 0, none⟩ = some (.int .i64 su) := (hb5.cell (p := ⟨wr.heap.size, 0, none⟩) (by simp)).trans (by simp [go_sem])
      have f1 : w5.cell? ⟨wr.heap.size, 1, none⟩ = some (.string sp) := (hb5.cell (p := ⟨wr.heap.size, 1, none⟩) (by simp)).trans (by simp [go_sem])
      have f2 : w5.cell? ⟨wr.heap.size, 2, none⟩ = some (.int .i64 sl) := (hb5.cell (p := ⟨wr.heap.size, 2, none⟩) (by simp)).trans (by simp [go_sem])
      have hnI : PO.isNone = !PO.isSome := by cases PO <;> rfl
      rw [hnI] at HFD
      generalize PO.isSome = IS at *
      clear hb5 hxr CX HBX HMX HBW hnI p0 p1 d0 d1 d2 hz
      have HB6 := Lib.hid (KA.out _ (.cells #[.string qn, .int .i64 qg, .int .i64 qs, .int .i64 qf, .int .i64 qd, .bool qb, .slice qo ql qc] 42) HB5.out)
      have HM6 := Lib.hid (HM5.out.below (((Below.refl w5.heap.size w5).alloc (Nat.le_refl _) (.cells #[.string qn, .int .i64 qg, .int .i64 qs, .int .i64 qf, .int .i64 qd, .bool qb, .slice qo ql qc] 42))) (by omega))
      clear HB5 HM5
      cases IS
      · skip
        have HE : FF = 8 := by rw [HFD.out]; rfl
        have HV := Lib.hid (show RES = 8 by rw [HRF.out, HSB.out (by rw [HE]; decide), HE])
        clear HE
        go_wp2_with fail
        exact bodyPost_ret (v := .tuple #[.map none, .int .i64 8]) (by simp [results, Try.results36, go_sem]) rfl ⟨.map none, by rw [HV.out] <;> rfl, (fun h => by rw [HV.out] at h; cases h), (KC.out _ HB6.out).1⟩
      rcases Bool.eq_false_or_eq_true (inR sl 0 65535) with k0 | k0
      rotate_left
      · skip
        have HE : FF = 1 := by rw [HFD.out]; simp [k0]
        have HV := Lib.hid (show RES = 1 by rw [HRF.out, HSB.out (by rw [HE]; decide), HE])
        clear HE
        go_wp2_with (first | (go_at_call 71; ((with_reducible refine (fLevel_R _ _).mono ?_); rintro e w' ⟨rfl, rfl⟩)) | fail)
        exact bodyPost_ret (v := .tuple #[.map none, .int .i64 1]) (by simp [results, Try.results36, go_sem]) rfl ⟨.map none, by rw [HV.out] <;> rfl, (fun h => by rw [HV.out] at h; cases h), (KC.out _ HB6.out).1⟩
      have HFX := Lib.hid (show FF = if SN then 6 else 0 by rw [HFD.out]; simp [k0])
      clear HFD
      have HFD := HFX
      clear HFX
      have hq := HM6.out.look true keyed_ (t := 74) Try.underlying74 (zeroI_ _) HKEY.out
      rw [HLK.out] at hq
      cases SN
      rotate_left
      · have hso := HRI.out
        obtain ⟨s0, hs0⟩ := Option.isSome_iff_exists.1 hso
        rw [hs0] at hq
        simp only [Option.map_some, Option.getD_some, Option.isSome_some, if_true, lvV] at hq
        clear hso hs0 HRI HLK
        have HE : FF = 6 := by rw [HFD.out]; rfl
        have HV := Lib.hid (show RES = 6 by rw [HRF.out, HSB.out (by rw [HE]; decide), HE])
        clear HE
        go_wp2_with (first | (go_at_call 71; ((with_reducible refine (fLevel_R _ _).mono ?_); rintro e w' ⟨rfl, rfl⟩)) | fail)
        exact bodyPost_ret (v := .tuple #[.map none, .int .i64 6]) (by simp [results, Try.results36, go_sem]) rfl ⟨.map none, by rw [HV.out] <;> rfl, (fun h => by rw [HV.out] at h; cases h), (KC.out _ HB6.out).1⟩
      · have hso : FO = none := by
          cases FO with
          | none => rfl
          | some s => have := HRI.out; cases this
        rw [hso] at hq
        simp only [Option.map_none, Option.getD_none, Option.isSome_none, if_true] at hq
        have HE : FF = 0 := by rw [HFD.out]; rfl
        have HV := Lib.hid (show RES = scanF (stgF x) l (k + 1) by rw [HRF.out, HSG.out HE])
        obtain ⟨wz, rz, sz, gz⟩ := HM6.out.update keyed_ (t := 74) Try.underlying74 (by unfold maxLen; omega) HKEY.out (val := .int .i64 sl)
        have HBZ := Lib.hid (HB6.out.grown gz (by simp; omega) (fun j hj => by cases hj; omega))
        have HSZ := Lib.hid sz
        have hzz := gz.size
        simp only [World.size_alloc] at hzz
        clear HE HM6 gz sz hso HRI HLK HB6
        go_wp2_with (first | (go_at_call 71; ((with_reducible refine (fLevel_R _ _).mono ?_); rintro e w' ⟨rfl, rfl⟩)) | fail)
        go_roundw
        case rel => exact ⟨k + 1, by omega, by first | rfl | go_num, HV, HBZ, ⟨_, HSZ, HNF⟩, by omega⟩
        case measure => simp [intOf]; omega
    · have HV := Lib.hid (show RES = 0 by rw [HRF.out, scanF_end (stgF x) l k (by omega)])
      have HBO := Lib.hid hB
      have hkk : k = l.length := by omega
      clear hB
      subst hkk
      have HMN := Lib.hid (show ∀ k', KeyFit k' → f (keyL k') = (l.reverse.find? (isK k')).map lvV from fun k' h => by have := HMF.out k' h; rwa [List.take_length] at this)
      go_wp2_with fail
      exact bodyPost_ret (v := .tuple #[.map (some (w.heap.size + 1)), .int .i64 0]) (by simp [results, Try.results36, go_sem]) rfl ⟨.map (some (w.heap.size + 1)), by rw [HV.out] <;> rfl, (fun _ => ⟨_, _, f, rfl, by omega, hlw, Nat.le_refl _, HM.out, HMN.out⟩), HBO.out⟩
end Go.Proofs.Ytabalicembhjmaa

namespace Go.Proofs.Ytabalicembhjmaa
open Go.RowKit
set_option linter.unusedVariables false
set_option linter.unusedSimpArgs false

def pf4 (a b c d : Int) : Int := if a = 0 then (if b = 0 then (if c = 0 then d else c) else b) else a
theorem pf4_eq (a b c d : Int) : firstF [a, b, c, d] = pf4 a b c d := by
  unfold pf4
  by_cases h1 : a = 0 <;> by_cases h2 : b = 0 <;> by_cases h3 : c = 0 <;> by_cases h4 : d = 0 <;> simp [firstF, *]
theorem first4p (b : Nat) (x y z u r : Int) (W : World) (hr : pf4 x y z u = r) (h1 : W.cell? ⟨b, 0, none⟩ = some (.int .i64 x)) (h2 : W.cell? ⟨b, 1, none⟩ = some (.int .i64 y)) (h3 : W.cell? ⟨b, 2, none⟩ = some (.int .i64 z)) (h4 : W.cell? ⟨b, 3, none⟩ = some (.int .i64 u)) :
    Calls Try.prog 60 #[.slice (some ⟨b, 0, none⟩) 4 4] W fun e w' => e = .returned (.int .i64 r) ∧ W = w' := by
  rw [← hr, ← pf4_eq]
  refine first_any b 0 4 [x, y, z, u] W (by simp) ?_
  intro i h
  match i, h with
  | 0, _ => simpa using h1
  | 1, _ => simpa using h2
  | 2, _ => simpa using h3
  | 3, _ => simpa using h4
/-- the fault of Place where the profile is there, but for the room -/
def placeE (x : Rig) (n : Int) : Int := pf4 (whenW (!true) 5) (whenW (!inR n 1 9999) 1) (whenW (hasU x.units n) 6) (whenW ((x.units.length : Int) == 400) 2)
theorem placeF_E {x : Rig} {nm : ByteArray} {n : Int} {p : Prf} (h : chkRig x = 0) (hp : profOf x.lib nm.data.toList = some p) : placeF x nm n = if placeE x n = 0 then (if (roomO (usBut x 0) p.size).isNone then 13 else 0) else placeE x n := by
  rw [placeF_some h hp]
  unfold placeE pf4 whenW
  have e : ((x.units.length : Int) == 400) = decide (x.units.length = 400) := by
    by_cases c : x.units.length = 400
    · rw [c]; rfl
    · have c' : ¬ (x.units.length : Int) = 400 := by omega
      simp [c, c']
  rw [e]
  cases h2 : inR n 1 9999 <;> cases h3 : hasU x.units n <;> by_cases h4 : x.units.length = 400 <;> simp [h4]
theorem placeE_zero {x : Rig} {n : Int} (h : placeE x n = 0) : (1 ≤ n ∧ n ≤ 9999) ∧ hasU x.units n = false ∧ x.units.length ≠ 400 := by
  unfold placeE pf4 whenW at h
  cases h2 : inR n 1 9999
  · simp [h2] at h
  cases h3 : hasU x.units n
  rotate_left
  · simp [h2, h3] at h
  refine ⟨inR_true h2, rfl, fun c => ?_⟩
  have : ((x.units.length : Int) == 400) = true := by rw [c]; rfl
  rw [h2, h3, this] at h
  simp at h
theorem still_of {f : FuncId} {args : Array Value} {w : World} {v : Value} (h : Calls Try.prog f args w fun e w' => e = .returned v ∧ w = w') : Calls Try.prog f args w fun e w'' => e = .returned v ∧ w'' = w := h.mono fun _ _ ⟨a, b⟩ => ⟨a, b.symm⟩
theorem pf4_name (b c d : Int) : pf4 (whenW (!false) 5) b c d = 5 := rfl
theorem placeR_no {x : Rig} {nm : ByteArray} {n e : Int} (h : placeF x nm n = e) (he : e ≠ 0) : placeF x nm n = e ∧ placeR x nm n = noRig := ⟨h, placeR_bad (by rw [h]; exact he)⟩
theorem unt_cells (W : World) (y : Unt) (T : TypeId) : (W.alloc (.cells #[.int .i64 y.num, .string y.prof, .int .i64 y.univ, .int .i64 y.addr] T)).heap[W.heap.size]? = some (.cells #[.int .i64 y.num, .string y.prof, .int .i64 y.univ, .int .i64 y.addr] T (0, 0)) := heap_alloc_new W _
end Go.Proofs.Ytabalicembhjmaa
