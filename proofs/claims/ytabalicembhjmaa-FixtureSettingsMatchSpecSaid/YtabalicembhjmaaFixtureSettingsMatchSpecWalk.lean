/- The walk of cycloramalaw2.FixtureSettingsMatchSpec. (printed by wip/gen/gen_setwalk.py) -/
import Derived.Test.YtabalicembhjmaaSettings
import Derived.Test.YtabalicembhjmaaRSettings
import Derived.Test.YtabalicembhjmaaFrmOpen
namespace Go.Proofs.Ytabalicembhjmaa.fixtureSettingsMatchSpec
open Go.RowKit
set_option linter.unusedVariables false
set_option linter.unusedSimpArgs false

set_option maxRecDepth 100000 in
set_option maxHeartbeats 16000000 in
theorem walk (a0 a1 : Value) (w : World) (w0 : RigW w a0) (w1 : FrmW w a1) :
    Calls Try.prog 3 #[a0, a1] w fun e w' => e = .returned (.bool true) ∧ Below w.heap.size w w' := by
  obtain ⟨x, lv, uv, rfl, hx, hf⟩ := w0
  obtain ⟨l, hl, hfl⟩ := w1
  have C1 := Lib.hid (fun W (hb : Below w.heap.size w W) => settings_any x lv uv l a1 W ((hx.below hb).more hb.size) hf ((hl.below hb).more hb.size) hfl)
  have C2 := Lib.hid (fun W (hb : Below w.heap.size w W) => rsettings_any x lv uv l a1 W ((hx.below hb).more hb.size) hf ((hl.below hb).more hb.size) hfl)
  obtain ⟨uo, ucap, rfl, _⟩ := CellsS.shape hx.units
  obtain ⟨lo, lcap, rfl⟩ := prfS_shape hx.lib
  obtain ⟨fo, fcap, rfl⟩ := frmS_shape hl
  clear hx hf hl hfl
  simp only [rigV] at *
  generalize chkSet x l = RES at *
  generalize setsV x l = SV at *
  have KC := Lib.hid (show ∀ W, Below (w.heap.size + 1) (w.alloc (.cells #[.slice lo x.lib.length lcap, .slice uo x.units.length ucap] 25)) W → (Below w.heap.size w W ∧ w.heap.size < W.heap.size ∧ W.cell? ⟨w.heap.size, 0, none⟩ = some (.slice lo x.lib.length lcap) ∧ W.cell? ⟨w.heap.size, 1, none⟩ = some (.slice uo x.units.length ucap)) from fun W hW => by
    have hz := hW.size
    simp at hz
    exact ⟨((Below.refl _ _).alloc (Nat.le_refl _) _).trans (hW.mono (by omega)), by omega, (hW.cell (p := ⟨w.heap.size, 0, none⟩) (by simp)).trans (by simp [go_sem]), (hW.cell (p := ⟨w.heap.size, 1, none⟩) (by simp)).trans (by simp [go_sem])⟩)
  have KM := Lib.hid (show ∀ W W1, Below (w.heap.size + 1) (w.alloc (.cells #[.slice lo x.lib.length lcap, .slice uo x.units.length ucap] 25)) W → Below W.heap.size W W1 → Below (w.heap.size + 1) (w.alloc (.cells #[.slice lo x.lib.length lcap, .slice uo x.units.length ucap] 25)) W1 from fun W W1 h1 h2 => h1.trans (h2.mono (by have := h1.size; simp at this; omega)))
  have HK0 := Lib.hid (Below.refl (w.heap.size + 1) (w.alloc (.cells #[.slice lo x.lib.length lcap, .slice uo x.units.length ucap] 25)))
  have C1 := Lib.hid (C1.out _ (KC.out _ HK0.out).1)
  go_enter Try.func3, Try.ntmps3
  go_wp2_with fail
  refine C1.out.mono ?_
  rintro e wA ⟨sv, rfl, hs, hb⟩
  have HBA := Lib.hid (KM.out _ _ HK0.out hb)
  have HS := Lib.hid hs
  clear hb hs C1
  obtain ⟨hB, hz, p0, p1⟩ := KC.out _ HBA.out
  have C2 := Lib.hid (C2.out _ hB)
  clear hB
  go_wp2_with fail
  refine C2.out.mono ?_
  rintro e wB ⟨rv, rfl, hr, hb⟩
  have HBB := Lib.hid (KM.out _ _ HBA.out hb)
  have HE := Lib.hid (settings_equal sv rv SV wB ((HS.out.below hb).more hb.size) hr)
  clear hb hr HS C2 p0 p1 hz
  go_wp2_with fail
  refine HE.out.mono ?_
  rintro e wC ⟨rfl, hb⟩
  have HBC := Lib.hid (KC.out _ (KM.out _ _ HBB.out hb)).1
  clear hb HE
  go_wp2_with fail
  go_ret
  exact ⟨by simp, HBC.out⟩
end Go.Proofs.Ytabalicembhjmaa.fixtureSettingsMatchSpec
