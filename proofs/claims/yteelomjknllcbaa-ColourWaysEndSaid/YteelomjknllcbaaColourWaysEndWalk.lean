/- The walk of cycloramalaw3.ColourWaysEnd: for any two colours, way and whole it returns true. -/
import Derived.Test.YteelomjknllcbaaBetween
import Derived.Test.YteelomjknllcbaaOpens
namespace Go.Proofs.Yteelomjknllcbaa
open Go.ChangeShapes Go.WideShapes Go.RowKit Go.Deep
set_option linter.unusedSimpArgs false
/-- a colour as an argument -/
def ColV (v : Value) : Prop := ∃ r g b : Int, v = .agg #[.int .i64 r, .int .i64 g, .int .i64 b] ∧ I64 r ∧ I64 g ∧ I64 b
section
variable {H : Type} {enc : TypeId × Value → H} {w : World} {held : Bool}
set_option maxRecDepth 100000 in
theorem open_colour {r : Reach} {b0 : Nat} {v : Value} {d : DataW H} {p : List MemPlace} (hv : Value.okWide Try.prog w r b0 23 v) (h : DataW.Trod enc Try.prog w 0 (fun _ => true) held 23 v d p) :
    ∃ a : Value, v = a ∧ ColV a := by
  obtain ⟨cs, n, rfl, hl, hf⟩ := open_struct1 Try.underlying23 (by kernel_rfl) (by kernel_rfl) hv h
  obtain ⟨u, v, x, rfl⟩ := list3 hl
  obtain ⟨u', y0, q0, k0⟩ := hf 0 _ rfl
  obtain ⟨v', y1, q1, k1⟩ := hf 1 _ rfl
  obtain ⟨x', y2, q2, k2⟩ := hf 2 _ rfl
  simp at q0 q1 q2
  subst q0; subst q1; subst q2
  obtain ⟨a0, rfl, w0⟩ := field_int Try.underlying3 k0
  obtain ⟨a1, rfl, w1⟩ := field_int Try.underlying3 k1
  obtain ⟨a2, rfl, w2⟩ := field_int Try.underlying3 k2
  exact ⟨_, rfl, a0, a1, a2, rfl, i64_of_wf w0, i64_of_wf w1, i64_of_wf w2⟩
end
end Go.Proofs.Yteelomjknllcbaa
namespace Go.Proofs.Yteelomjknllcbaa.colourWaysEnd
open Go.RowKit
set_option linter.unusedSimpArgs false

set_option maxHeartbeats 2000000 in
theorem walk (a0 a1 : Value) (a2 a3 : Int) (w : World) (w0 : ColV a0) (w1 : ColV a1) (_w2 : (Lit.int .i64 a2).wf = true) (_w3 : (Lit.int .i64 a3).wf = true) :
    Calls Try.prog 7 #[a0, a1, .int .i64 a2, .int .i64 a3] w fun e w' => e = .returned (.bool true) ∧ Below w.heap.size w w' := by
  obtain ⟨r1, g1, b1, rfl, _, _, _⟩ := w0
  obtain ⟨r2, g2, b2, rfl, _, _, _⟩ := w1
  clear _w2 _w3
  have BS := Lib.hid (between_start r1 g1 b1 r2 g2 b2 a2 a3)
  have BE := Lib.hid (between_end r1 g1 b1 r2 g2 b2 a2 a3)
  by_cases hE : endF r1 g1 b1 r2 g2 b2 a2 a3 = 0
  · rw [if_pos hE, hE] at BS BE
    clear hE
    go_enter Try.func7, Try.ntmps7
    go_wp2_with fail
    refine (BS.out _).mono ?_; rintro e w1 ⟨rfl, B1⟩
    have c100 : w1.cell? ⟨w.heap.size, 0, none⟩ = some (.int .i64 r1) := (B1.cell (p := ⟨w.heap.size, 0, none⟩) (by simp <;> omega)).trans (by simp [go_sem, World.cell?_alloc_past, *])
    have c101 : w1.cell? ⟨w.heap.size, 1, none⟩ = some (.int .i64 g1) := (B1.cell (p := ⟨w.heap.size, 1, none⟩) (by simp <;> omega)).trans (by simp [go_sem, World.cell?_alloc_past, *])
    have c102 : w1.cell? ⟨w.heap.size, 2, none⟩ = some (.int .i64 b1) := (B1.cell (p := ⟨w.heap.size, 2, none⟩) (by simp <;> omega)).trans (by simp [go_sem, World.cell?_alloc_past, *])
    have c110 : w1.cell? ⟨w.heap.size + 1, 0, none⟩ = some (.int .i64 r2) := (B1.cell (p := ⟨w.heap.size + 1, 0, none⟩) (by simp <;> omega)).trans (by simp [go_sem, World.cell?_alloc_past, *])
    have c111 : w1.cell? ⟨w.heap.size + 1, 1, none⟩ = some (.int .i64 g2) := (B1.cell (p := ⟨w.heap.size + 1, 1, none⟩) (by simp <;> omega)).trans (by simp [go_sem, World.cell?_alloc_past, *])
    have c112 : w1.cell? ⟨w.heap.size + 1, 2, none⟩ = some (.int .i64 b2) := (B1.cell (p := ⟨w.heap.size + 1, 2, none⟩) (by simp <;> omega)).trans (by simp [go_sem, World.cell?_alloc_past, *])
    have hz1 := B1.size
    simp at hz1
    have z1 : w.heap.size < w1.heap.size := by omega
    have z2 : w.heap.size + 1 < w1.heap.size := by omega
    have Bw1 : Below w.heap.size w w1 := (show Below w.heap.size w _ by repeat' first | exact Below.refl _ _ | apply Below.drew | refine Below.alloc ?_ (by simp <;> omega) _).trans (B1.mono (by simp <;> omega))
    clear B1
    go_wp2_with fail
    refine (BE.out _).mono ?_; rintro e w2 ⟨rfl, B2⟩
    have c200 : w2.cell? ⟨w.heap.size, 0, none⟩ = some (.int .i64 r1) := (B2.cell (p := ⟨w.heap.size, 0, none⟩) (by simp <;> omega)).trans (by simp [go_sem, World.cell?_alloc_past, *])
    have c201 : w2.cell? ⟨w.heap.size, 1, none⟩ = some (.int .i64 g1) := (B2.cell (p := ⟨w.heap.size, 1, none⟩) (by simp <;> omega)).trans (by simp [go_sem, World.cell?_alloc_past, *])
    have c202 : w2.cell? ⟨w.heap.size, 2, none⟩ = some (.int .i64 b1) := (B2.cell (p := ⟨w.heap.size, 2, none⟩) (by simp <;> omega)).trans (by simp [go_sem, World.cell?_alloc_past, *])
    have c210 : w2.cell? ⟨w.heap.size + 1, 0, none⟩ = some (.int .i64 r2) := (B2.cell (p := ⟨w.heap.size + 1, 0, none⟩) (by simp <;> omega)).trans (by simp [go_sem, World.cell?_alloc_past, *])
    have c211 : w2.cell? ⟨w.heap.size + 1, 1, none⟩ = some (.int .i64 g2) := (B2.cell (p := ⟨w.heap.size + 1, 1, none⟩) (by simp <;> omega)).trans (by simp [go_sem, World.cell?_alloc_past, *])
    have c212 : w2.cell? ⟨w.heap.size + 1, 2, none⟩ = some (.int .i64 b2) := (B2.cell (p := ⟨w.heap.size + 1, 2, none⟩) (by simp <;> omega)).trans (by simp [go_sem, World.cell?_alloc_past, *])
    have c220 : w2.cell? ⟨w1.heap.size, 0, none⟩ = some (.int .i64 r1) := (B2.cell (p := ⟨w1.heap.size, 0, none⟩) (by simp <;> omega)).trans (by simp [go_sem, World.cell?_alloc_past, *])
    have c221 : w2.cell? ⟨w1.heap.size, 1, none⟩ = some (.int .i64 g1) := (B2.cell (p := ⟨w1.heap.size, 1, none⟩) (by simp <;> omega)).trans (by simp [go_sem, World.cell?_alloc_past, *])
    have c222 : w2.cell? ⟨w1.heap.size, 2, none⟩ = some (.int .i64 b1) := (B2.cell (p := ⟨w1.heap.size, 2, none⟩) (by simp <;> omega)).trans (by simp [go_sem, World.cell?_alloc_past, *])
    have hz2 := B2.size
    simp at hz2
    have z3 : w.heap.size < w2.heap.size := by omega
    have z4 : w.heap.size + 1 < w2.heap.size := by omega
    have z5 : w1.heap.size < w2.heap.size := by omega
    have Bw2 : Below w.heap.size w w2 := (show Below w.heap.size w _ by repeat' first | exact Bw1 | apply Below.drew | refine Below.alloc ?_ (by first | omega | (simp <;> omega)) _).trans (B2.mono (by simp <;> omega))
    clear B2 c100 c101 c102 c110 c111 c112 z1 z2
    go_wp2_with fail
    go_ret
    exact ⟨rfl, by repeat' first | exact Bw2 | apply Below.drew | refine Below.alloc ?_ (by first | omega | (simp <;> omega)) _⟩
  · rw [if_neg hE] at BS BE
    generalize endF r1 g1 b1 r2 g2 b2 a2 a3 = E at *
    have hb : (E != 0) = true := by simp [hE]
    have hb2 : decide (E ≠ 0) = true := by simp [hE]
    clear hE
    go_enter Try.func7, Try.ntmps7
    go_wp2_with fail
    refine (BS.out _).mono ?_; rintro e w1 ⟨rfl, B1⟩
    have c100 : w1.cell? ⟨w.heap.size, 0, none⟩ = some (.int .i64 r1) := (B1.cell (p := ⟨w.heap.size, 0, none⟩) (by simp <;> omega)).trans (by simp [go_sem, World.cell?_alloc_past, *])
    have c101 : w1.cell? ⟨w.heap.size, 1, none⟩ = some (.int .i64 g1) := (B1.cell (p := ⟨w.heap.size, 1, none⟩) (by simp <;> omega)).trans (by simp [go_sem, World.cell?_alloc_past, *])
    have c102 : w1.cell? ⟨w.heap.size, 2, none⟩ = some (.int .i64 b1) := (B1.cell (p := ⟨w.heap.size, 2, none⟩) (by simp <;> omega)).trans (by simp [go_sem, World.cell?_alloc_past, *])
    have c110 : w1.cell? ⟨w.heap.size + 1, 0, none⟩ = some (.int .i64 r2) := (B1.cell (p := ⟨w.heap.size + 1, 0, none⟩) (by simp <;> omega)).trans (by simp [go_sem, World.cell?_alloc_past, *])
    have c111 : w1.cell? ⟨w.heap.size + 1, 1, none⟩ = some (.int .i64 g2) := (B1.cell (p := ⟨w.heap.size + 1, 1, none⟩) (by simp <;> omega)).trans (by simp [go_sem, World.cell?_alloc_past, *])
    have c112 : w1.cell? ⟨w.heap.size + 1, 2, none⟩ = some (.int .i64 b2) := (B1.cell (p := ⟨w.heap.size + 1, 2, none⟩) (by simp <;> omega)).trans (by simp [go_sem, World.cell?_alloc_past, *])
    have hz1 := B1.size
    simp at hz1
    have z1 : w.heap.size < w1.heap.size := by omega
    have z2 : w.heap.size + 1 < w1.heap.size := by omega
    have Bw1 : Below w.heap.size w w1 := (show Below w.heap.size w _ by repeat' first | exact Below.refl _ _ | apply Below.drew | refine Below.alloc ?_ (by simp <;> omega) _).trans (B1.mono (by simp <;> omega))
    clear B1
    go_wp2_with fail
    refine (BE.out _).mono ?_; rintro e w2 ⟨rfl, B2⟩
    have c200 : w2.cell? ⟨w.heap.size, 0, none⟩ = some (.int .i64 r1) := (B2.cell (p := ⟨w.heap.size, 0, none⟩) (by simp <;> omega)).trans (by simp [go_sem, World.cell?_alloc_past, *])
    have c201 : w2.cell? ⟨w.heap.size, 1, none⟩ = some (.int .i64 g1) := (B2.cell (p := ⟨w.heap.size, 1, none⟩) (by simp <;> omega)).trans (by simp [go_sem, World.cell?_alloc_past, *])
    have c202 : w2.cell? ⟨w.heap.size, 2, none⟩ = some (.int .i64 b1) := (B2.cell (p := ⟨w.heap.size, 2, none⟩) (by simp <;> omega)).trans (by simp [go_sem, World.cell?_alloc_past, *])
    have c210 : w2.cell? ⟨w.heap.size + 1, 0, none⟩ = some (.int .i64 r2) := (B2.cell (p := ⟨w.heap.size + 1, 0, none⟩) (by simp <;> omega)).trans (by simp [go_sem, World.cell?_alloc_past, *])
    have c211 : w2.cell? ⟨w.heap.size + 1, 1, none⟩ = some (.int .i64 g2) := (B2.cell (p := ⟨w.heap.size + 1, 1, none⟩) (by simp <;> omega)).trans (by simp [go_sem, World.cell?_alloc_past, *])
    have c212 : w2.cell? ⟨w.heap.size + 1, 2, none⟩ = some (.int .i64 b2) := (B2.cell (p := ⟨w.heap.size + 1, 2, none⟩) (by simp <;> omega)).trans (by simp [go_sem, World.cell?_alloc_past, *])
    have c220 : w2.cell? ⟨w1.heap.size, 0, none⟩ = some (.int .i64 0) := (B2.cell (p := ⟨w1.heap.size, 0, none⟩) (by simp <;> omega)).trans (by simp [go_sem, World.cell?_alloc_past, *])
    have c221 : w2.cell? ⟨w1.heap.size, 1, none⟩ = some (.int .i64 0) := (B2.cell (p := ⟨w1.heap.size, 1, none⟩) (by simp <;> omega)).trans (by simp [go_sem, World.cell?_alloc_past, *])
    have c222 : w2.cell? ⟨w1.heap.size, 2, none⟩ = some (.int .i64 0) := (B2.cell (p := ⟨w1.heap.size, 2, none⟩) (by simp <;> omega)).trans (by simp [go_sem, World.cell?_alloc_past, *])
    have hz2 := B2.size
    simp at hz2
    have z3 : w.heap.size < w2.heap.size := by omega
    have z4 : w.heap.size + 1 < w2.heap.size := by omega
    have z5 : w1.heap.size < w2.heap.size := by omega
    have Bw2 : Below w.heap.size w w2 := (show Below w.heap.size w _ by repeat' first | exact Bw1 | apply Below.drew | refine Below.alloc ?_ (by first | omega | (simp <;> omega)) _).trans (B2.mono (by simp <;> omega))
    clear B2 c100 c101 c102 c110 c111 c112 z1 z2
    go_wp2_with fail
    go_ret
    exact ⟨rfl, by repeat' first | exact Bw2 | apply Below.drew | refine Below.alloc ?_ (by first | omega | (simp <;> omega)) _⟩
end Go.Proofs.Yteelomjknllcbaa.colourWaysEnd
