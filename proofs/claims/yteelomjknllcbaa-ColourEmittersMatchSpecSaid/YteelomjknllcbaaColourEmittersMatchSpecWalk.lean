/- The walk of cycloramalaw3.ColourEmittersMatchSpec: for any emitters, levels and colour it returns true. (printed by wip/gen/gen_emwalk.py) -/
import Derived.Test.YteelomjknllcbaaGiven2
import Derived.Test.YteelomjknllcbaaColOpens
namespace Go.Proofs.Yteelomjknllcbaa.colourEmittersMatchSpec
open Go.RowKit
set_option linter.unusedVariables false
set_option linter.unusedSimpArgs false

theorem givV_shape (l : List Emi) (zs : List Int) : ∃ a b c : Int, givV l zs = .agg #[.int .i64 a, .int .i64 b, .int .i64 c] := by
  unfold givV
  split
  · exact ⟨_, _, _, rfl⟩
  · exact ⟨_, _, _, rfl⟩
set_option maxRecDepth 100000 in
set_option maxHeartbeats 16000000 in
theorem walk (a0 a1 a2 : Value) (w : World) (w0 : ∃ l, EmS w.heap.size w a0 l) (w1 : ∃ zs, IntS w.heap.size w a1 zs) (w2 : TriV a2) :
    Calls Try.prog 6 #[a0, a1, a2] w fun e w' => e = .returned (.bool true) ∧ Below w.heap.size w w' := by
  obtain ⟨l, he⟩ := w0
  obtain ⟨zs, hz⟩ := w1
  obtain ⟨r, g, b, rfl, _, _, _⟩ := w2
  have G1 := Lib.hid (fun W (hb : Below w.heap.size w W) => Given_any a0 a1 l zs W ((he.below hb).more hb.size) ((hz.below hb).more hb.size))
  have G2 := Lib.hid (fun W (hb : Below w.heap.size w W) => rGiven_any a0 a1 l zs W ((he.below hb).more hb.size) ((hz.below hb).more hb.size))
  have C1 := Lib.hid (fun W (hb : Below w.heap.size w W) => emCheck_any a0 l W ((he.below hb).more hb.size))
  have C2 := Lib.hid (fun W (hb : Below w.heap.size w W) => remCheck_any a0 l W ((he.below hb).more hb.size))
  have D1 := Lib.hid (fun W (hb : Below w.heap.size w W) => drive_any a0 l r g b W ((he.below hb).more hb.size))
  have D2 := Lib.hid (fun W (hb : Below w.heap.size w W) => rdrive_any a0 l r g b W ((he.below hb).more hb.size))
  obtain ⟨x, y, z, hxyz⟩ := givV_shape l zs
  rw [hxyz] at G1 G2
  clear hxyz
  generalize givE l zs = ge at *
  obtain ⟨ao, cap, rfl, -, -, -⟩ := he
  obtain ⟨bo, zcap, rfl, -, -, -⟩ := hz
  have KC := Lib.hid (show ∀ W, Below (w.heap.size + 1) (w.alloc (.cells #[.int .i64 r, .int .i64 g, .int .i64 b] 23)) W → (Below w.heap.size w W ∧ w.heap.size < W.heap.size ∧ W.cell? ⟨w.heap.size, 0, none⟩ = some (.int .i64 r) ∧ W.cell? ⟨w.heap.size, 1, none⟩ = some (.int .i64 g) ∧ W.cell? ⟨w.heap.size, 2, none⟩ = some (.int .i64 b)) from fun W hW => by
    have hz := hW.size
    simp at hz
    exact ⟨((Below.refl _ _).alloc (Nat.le_refl _) _).trans (hW.mono (by omega)), by omega, (hW.cell (p := ⟨w.heap.size, 0, none⟩) (by simp)).trans (by simp [go_sem]), (hW.cell (p := ⟨w.heap.size, 1, none⟩) (by simp)).trans (by simp [go_sem]), (hW.cell (p := ⟨w.heap.size, 2, none⟩) (by simp)).trans (by simp [go_sem])⟩)
  have KM := Lib.hid (show ∀ W W', Below (w.heap.size + 1) (w.alloc (.cells #[.int .i64 r, .int .i64 g, .int .i64 b] 23)) W → Below W.heap.size W W' → Below (w.heap.size + 1) (w.alloc (.cells #[.int .i64 r, .int .i64 g, .int .i64 b] 23)) W' from fun W W' h1 h2 => h1.trans (h2.mono (by have := h1.size; simp at this; omega)))
  have KA := Lib.hid (show ∀ W o, Below (w.heap.size + 1) (w.alloc (.cells #[.int .i64 r, .int .i64 g, .int .i64 b] 23)) W → Below (w.heap.size + 1) (w.alloc (.cells #[.int .i64 r, .int .i64 g, .int .i64 b] 23)) (W.alloc o) from fun W o h => h.alloc (by have := h.size; simp at this; omega) o)
  have hw0 : Below (w.heap.size + 1) (w.alloc (.cells #[.int .i64 r, .int .i64 g, .int .i64 b] 23)) (w.alloc (.cells #[.int .i64 r, .int .i64 g, .int .i64 b] 23)) := Below.refl _ _
  go_enter Try.func6, Try.ntmps6
  go_wp2_with fail
  refine (G1.out _ (KC.out _ hw0).1).mono ?_
  rintro e wA ⟨rfl, hb⟩
  have hwA := KM.out _ _ hw0 hb
  clear hb
  go_wp2_with fail
  refine (G2.out _ (KC.out _ (KA.out _ _ hwA)).1).mono ?_
  rintro e wB ⟨rfl, hb⟩
  have hwB := KM.out _ _ (KA.out _ _ hwA) hb
  obtain ⟨X1, lB⟩ := pre1 hb
  have HX1 := Lib.hid X1
  clear hb X1
  go_wp2_with fail
  refine (C1.out _ (KC.out _ (KA.out _ _ hwB)).1).mono ?_
  rintro e wC ⟨rfl, hb⟩
  have hwC := KM.out _ _ (KA.out _ _ hwB) hb
  obtain ⟨X2, lC⟩ := pre1 hb
  have HX2 := Lib.hid X2
  have HX3 := Lib.hid (bx_below hb (by simp; omega) (bx_alloc lB HX1.out))
  have lAC : wA.heap.size < wC.heap.size := by have := hb.size; simp at this; omega
  clear hb X2
  go_wp2_with fail
  refine (C2.out _ (KC.out _ hwC).1).mono ?_
  rintro e wD ⟨rfl, hb⟩
  have hwD := KM.out _ _ hwC hb
  obtain ⟨x0, x1, x2, x3, x4, x5⟩ := bx_below hb lAC HX3.out
  obtain ⟨y0, y1, y2, y3, y4, y5⟩ := bx_below hb lC HX2.out
  have lAD : wA.heap.size < wD.heap.size := by have := hb.size; omega
  have lBD : wB.heap.size < wD.heap.size := by have := hb.size; omega
  obtain ⟨-, lW, e0, e1, e2⟩ := KC.out _ hwD
  clear hb
  go_wp2_with fail
  refine (D1.out _ (KC.out _ hwD).1).mono ?_
  rintro e wE ⟨hb, hp1⟩
  have hwE := KM.out _ _ hwD hb
  clear hb x0 x1 x2 x3 x4 x5 y0 y1 y2 y3 y4 y5 e0 e1 e2
  obtain ⟨-, lWE, e0, e1, e2⟩ := KC.out _ hwE
  rcases hp1 with ⟨hE, rfl⟩ | ⟨hE, v1, rfl, hI1⟩
  · go_wp2_with fail
    refine (D2.out _ (KC.out _ (KA.out _ _ hwE)).1).mono ?_
    rintro e wF ⟨hb, hp2⟩
    rcases hp2 with ⟨-, rfl⟩ | ⟨hE2, -⟩
    rotate_left
    · exact absurd hE2 hE
    have hwF := KM.out _ _ (KA.out _ _ hwE) hb
    obtain ⟨⟨y0, y1, y2, y3, y4, y5⟩, lF⟩ := pre1 hb
    have HEQ := Lib.hid (fun W => equalI 0 0 (.slice none 0 0) (.slice none 0 0) [] W ⟨none, 0, rfl, Nat.le_refl _, by omega, fun h => absurd h (Nat.lt_irrefl _)⟩ ⟨none, 0, rfl, Nat.le_refl _, by omega, fun h => absurd h (Nat.lt_irrefl _)⟩)
    have HF := Lib.hid (KC.out _ (KA.out _ (.cells #[.int .i64 0, .int .i64 0, .int .i64 0] 23) hwF)).1
    generalize firstE (chkEm l) (chkC r g b) = E at *
    clear hb hE e0 e1 e2
    go_wp2_with fail
    refine (HEQ.out _).mono ?_
    rintro e w' ⟨rfl, n, rfl⟩
    go_wp2
    go_ret
    exact ⟨by simp, ⟨HF.out.os, HF.out.tape, HF.out.output, HF.out.size, HF.out.block⟩⟩
  · obtain ⟨vo, vcap, rfl, -⟩ := id hI1
    have HI1 := Lib.hid hI1
    clear hI1
    go_wp2_with fail
    refine (D2.out _ (KC.out _ (KA.out _ _ hwE)).1).mono ?_
    rintro e wF ⟨hb, hp2⟩
    rcases hp2 with ⟨hE2, -⟩ | ⟨-, v2, rfl, hI2⟩
    · exact absurd hE hE2
    have hwF := KM.out _ _ (KA.out _ _ hwE) hb
    obtain ⟨⟨y0, y1, y2, y3, y4, y5⟩, lF⟩ := pre1 hb
    have hI3 : IntS wE.heap.size wF (.slice vo (drvL l r g b l.length).length vcap) (drvL l r g b l.length) := (HI1.out.below ((Below.refl _ _).alloc (Nat.le_refl _) _)).below (hb.mono (by simp))
    obtain ⟨uo, ucap, rfl, -⟩ := id hI2
    have HEQ := Lib.hid (fun o n => equalI wE.heap.size wF.heap.size _ _ _ ((wF.alloc o).drewN n) (hI3.below (w' := (wF.alloc o).drewN n) ⟨rfl, rfl, rfl, by simp <;> omega, fun i hi => by show (wF.alloc o).heap[i]? = _; exact (((Below.refl wE.heap.size wF).alloc (by omega) o).block i hi)⟩) (hI2.below (w' := (wF.alloc o).drewN n) ⟨rfl, rfl, rfl, by simp, fun i hi => by show (wF.alloc o).heap[i]? = _; exact (((Below.refl wF.heap.size wF).alloc (Nat.le_refl _) o).block i hi)⟩))
    have HEQ0 := Lib.hid (fun o => equalI wE.heap.size wF.heap.size _ _ _ (wF.alloc o) (hI3.below ((Below.refl _ _).alloc (by omega) o)) (hI2.below ((Below.refl _ _).alloc (Nat.le_refl _) o)))
    have HEQ1 := Lib.hid (fun o => equalI wE.heap.size wF.heap.size _ _ _ (wF.alloc o).drew (hI3.below ((Below.refl _ _).alloc (by omega) o).drew) (hI2.below ((Below.refl _ _).alloc (Nat.le_refl _) o).drew))
    have HF1 := Lib.hid (show ∀ (o : Obj) (n : Nat), Below w.heap.size w ((wF.alloc o).drewN n) from fun o n => by
      have HF := (KC.out _ (KA.out _ o hwF)).1
      exact ⟨HF.os, HF.tape, HF.output, HF.size, HF.block⟩)
    have HF2 := Lib.hid (show ∀ (o : Obj) (n : Nat), Below w.heap.size w ((wF.alloc o).drew.drewN n) from fun o n => by
      have HF := (KC.out _ (KA.out _ o hwF)).1
      exact ⟨HF.os, HF.tape, HF.output, HF.size, HF.block⟩)
    have HF3 := Lib.hid (show ∀ (o : Obj) (n m : Nat), Below w.heap.size w (((wF.alloc o).drewN m).drewN n) from fun o n m => by
      have HF := (KC.out _ (KA.out _ o hwF)).1
      exact ⟨HF.os, HF.tape, HF.output, HF.size, HF.block⟩)
    generalize endV (gsum Emi.r l (drvL l r g b l.length) l.length) = gA at *
    generalize endV (gsum Emi.g l (drvL l r g b l.length) l.length) = gB at *
    generalize endV (gsum Emi.b l (drvL l r g b l.length) l.length) = gC at *
    generalize drvL l r g b l.length = zz at *
    clear hb hE hI2 hI3 e0 e1 e2
    go_wp2_with fail
    first
      | (refine (HEQ0.out _).mono ?_)
      | (refine (HEQ1.out _).mono ?_)
      | (refine (HEQ.out _ _).mono ?_)
    rintro e w' ⟨rfl, n, rfl⟩
    go_wp2
    go_ret
    first
      | exact ⟨by simp, HF1.out _ _⟩
      | exact ⟨by simp, HF2.out _ _⟩
      | exact ⟨by simp, HF3.out _ _ _⟩
end Go.Proofs.Yteelomjknllcbaa.colourEmittersMatchSpec
