/- The walk of cycloramalaw1.LevelFadesGoOneWay: for every fade and any two times it returns true. -/
import Derived.Test.YthoiamaomhggiaaAt
namespace Go.Proofs.Ythoiamaomhggiaa.levelFadesGoOneWay
open Go.RowKit

theorem way_up (f : Fd) (m M : Int) (hf : RightF f) (hm : m ≤ M) : atV f (f.start + f.delay + f.time) = f.to ∧ (f.fr ≤ f.to → f.fr ≤ atV f m ∧ atV f m ≤ atV f M ∧ atV f M ≤ f.to) ∧ (f.to ≤ f.fr → atV f m ≤ f.fr ∧ atV f M ≤ atV f m ∧ f.to ≤ atV f M) := by
  have r1 := at_range f hf m
  have r2 := at_range f hf M
  have r3 := at_mono f hf m M hm
  exact ⟨if_pos (Int.le_refl _), fun h => ⟨(r1.1 h).1, r3.1 h, (r2.1 h).2⟩, fun h => ⟨(r1.2 h).2, r3.2 h, (r2.2 h).1⟩⟩

set_option maxHeartbeats 1000000 in
theorem walk (a0 : Value) (a1 : Int) (a2 : Int) (w : World) (w0 : ∃ f, FdV w a0 f ∧ FdFit f) (_w1 : (Lit.int .i64 a1).wf = true) (_w2 : (Lit.int .i64 a2).wf = true) :
    Calls Try.prog 9 #[a0, .int .i64 a1, .int .i64 a2] w fun e w' => e = .returned (.bool true) ∧ Below w.heap.size w w' := by
  obtain ⟨f, hv, _⟩ := w0
  have AA := Lib.hid (fun t W (hW : Below w.heap.size w W) => At_any a0 f t W (fdV_below hv hW))
  have EN := Lib.hid (fun W (hW : Below w.heap.size w W) => Ends_any a0 f W (fdV_below hv hW))
  obtain ⟨p, rfl, hp⟩ := hv
  clear hp
  have hmM : min a1 a2 ≤ max a1 a2 := by omega
  generalize hm : min a1 a2 = m at *
  generalize hM : max a1 a2 = M at *
  have HMIN := Lib.hid hm
  have HMAX := Lib.hid hM
  clear hm hM
  have E1 := Lib.hid (atE_ok f m)
  have E2 := Lib.hid (atE_ok f M)
  have R1 : Hid (atR f m = if atE f m = 0 then atV f m else 0) := rfl
  have R2 : Hid (atR f M = if atE f M = 0 then atV f M else 0) := rfl
  by_cases hok : atE f m = 0 ∧ atE f M = 0
  · obtain ⟨h1, h2⟩ := hok
    have hf := (E1.out.1 h1).1
    have hw := way_up f m M hf hmM
    have hc : checkF f = 0 := (checkF_right f).2 hf
    have hv : endsV f = f.start + f.delay + f.time := if_pos hc
    have he3 : atE f (f.start + f.delay + f.time) = 0 := (atE_ok f _).2 ⟨hf, hf.2.2.2.2.2.1⟩
    have hr3 : atR f (f.start + f.delay + f.time) = f.to := by unfold atR; rw [if_pos he3]; exact hw.1
    have hr1 : atR f m = atV f m := by rw [R1.out, if_pos h1]
    have hr2 : atR f M = atV f M := by rw [R2.out, if_pos h2]
    rw [← hr1, ← hr2] at hw
    have HC := Lib.hid hc
    have HV := Lib.hid hv
    have HE3 := Lib.hid he3
    have HR3 := Lib.hid hr3
    clear hr1 hr2 he3 hr3 hc hv hf E1 E2 R1 R2
    generalize hx1 : atE f m = x1 at *
    generalize hx2 : atE f M = x2 at *
    generalize hy1 : atR f m = r1 at *
    generalize hy2 : atR f M = r2 at *
    have HX1 := Lib.hid hx1
    have HX2 := Lib.hid hx2
    have HY1 := Lib.hid hy1
    have HY2 := Lib.hid hy2
    clear hx1 hx2 hy1 hy2
    subst h1
    subst h2
    by_cases hft : f.fr ≤ f.to
    · obtain ⟨u1, u2, u3⟩ := hw.2.1 hft
      clear hw
      go_enter Try.func9, Try.ntmps9
      go_wp2_with fail
      rw [HMIN.out]
      refine (AA.out m _ below1).mono ?_
      rintro e w1 ⟨rfl, hb1⟩
      rw [HX1.out, HY1.out]
      have hs1 : w.heap.size < w1.heap.size := by have := hb1.size; simp at this; omega
      have hbw1 := bt below1 hb1
      have e0 := boxAt hb1 0 rfl
      have e1 := boxAt hb1 1 rfl
      have e2 := boxAt hb1 2 rfl
      have e3 := boxAt hb1 3 rfl
      have e4 := boxAt hb1 4 rfl
      have e5 := boxAt hb1 5 rfl
      have e6 := boxAt hb1 6 rfl
      clear hb1
      go_wp2_with fail
      rw [HMAX.out]
      refine (AA.out M _ hbw1).mono ?_
      rintro e w2 ⟨rfl, hb2⟩
      rw [HX2.out, HY2.out]
      have hs2 : w.heap.size < w2.heap.size := Nat.lt_of_lt_of_le hs1 hb2.size
      have hbw2 := bt hbw1 hb2
      have g0 := (hb2.cell (p := ⟨w.heap.size, 0, none⟩) (by show w.heap.size < _; omega)).trans e0
      have g1 := (hb2.cell (p := ⟨w.heap.size, 1, none⟩) (by show w.heap.size < _; omega)).trans e1
      have g2 := (hb2.cell (p := ⟨w.heap.size, 2, none⟩) (by show w.heap.size < _; omega)).trans e2
      have g3 := (hb2.cell (p := ⟨w.heap.size, 3, none⟩) (by show w.heap.size < _; omega)).trans e3
      have g4 := (hb2.cell (p := ⟨w.heap.size, 4, none⟩) (by show w.heap.size < _; omega)).trans e4
      have g5 := (hb2.cell (p := ⟨w.heap.size, 5, none⟩) (by show w.heap.size < _; omega)).trans e5
      have g6 := (hb2.cell (p := ⟨w.heap.size, 6, none⟩) (by show w.heap.size < _; omega)).trans e6
      clear hb2 e0 e1 e2 e3 e4 e5 e6
      go_wp2_with fail
      refine (EN.out _ hbw2).mono ?_
      rintro e w3 ⟨rfl, hb3⟩
      have hs3 : w.heap.size < w3.heap.size := Nat.lt_of_lt_of_le hs2 hb3.size
      have hbw3 := bt hbw2 hb3
      have k0 := (hb3.cell (p := ⟨w.heap.size, 0, none⟩) (by show w.heap.size < _; omega)).trans g0
      have k1 := (hb3.cell (p := ⟨w.heap.size, 1, none⟩) (by show w.heap.size < _; omega)).trans g1
      have k2 := (hb3.cell (p := ⟨w.heap.size, 2, none⟩) (by show w.heap.size < _; omega)).trans g2
      have k3 := (hb3.cell (p := ⟨w.heap.size, 3, none⟩) (by show w.heap.size < _; omega)).trans g3
      have k4 := (hb3.cell (p := ⟨w.heap.size, 4, none⟩) (by show w.heap.size < _; omega)).trans g4
      have k5 := (hb3.cell (p := ⟨w.heap.size, 5, none⟩) (by show w.heap.size < _; omega)).trans g5
      have k6 := (hb3.cell (p := ⟨w.heap.size, 6, none⟩) (by show w.heap.size < _; omega)).trans g6
      clear hb3 g0 g1 g2 g3 g4 g5 g6
      rw [HV.out, HC.out]
      go_wp2_with fail
      refine (AA.out _ _ hbw3).mono ?_
      rintro e w4 ⟨rfl, hb4⟩
      have hs4 : w.heap.size < w4.heap.size := Nat.lt_of_lt_of_le hs3 hb4.size
      have hbw4 := bt hbw3 hb4
      have l0 := (hb4.cell (p := ⟨w.heap.size, 0, none⟩) (by show w.heap.size < _; omega)).trans k0
      have l1 := (hb4.cell (p := ⟨w.heap.size, 1, none⟩) (by show w.heap.size < _; omega)).trans k1
      have l2 := (hb4.cell (p := ⟨w.heap.size, 2, none⟩) (by show w.heap.size < _; omega)).trans k2
      have l3 := (hb4.cell (p := ⟨w.heap.size, 3, none⟩) (by show w.heap.size < _; omega)).trans k3
      have l4 := (hb4.cell (p := ⟨w.heap.size, 4, none⟩) (by show w.heap.size < _; omega)).trans k4
      have l5 := (hb4.cell (p := ⟨w.heap.size, 5, none⟩) (by show w.heap.size < _; omega)).trans k5
      have l6 := (hb4.cell (p := ⟨w.heap.size, 6, none⟩) (by show w.heap.size < _; omega)).trans k6
      clear hb4 k0 k1 k2 k3 k4 k5 k6
      rw [HE3.out, HR3.out]
      go_wp2
      go_ret
      exact ⟨rfl, hbw4⟩
    · obtain ⟨u1, u2, u3⟩ := hw.2.2 (by omega)
      clear hw
      go_enter Try.func9, Try.ntmps9
      go_wp2_with fail
      rw [HMIN.out]
      refine (AA.out m _ below1).mono ?_
      rintro e w1 ⟨rfl, hb1⟩
      rw [HX1.out, HY1.out]
      have hs1 : w.heap.size < w1.heap.size := by have := hb1.size; simp at this; omega
      have hbw1 := bt below1 hb1
      have e0 := boxAt hb1 0 rfl
      have e1 := boxAt hb1 1 rfl
      have e2 := boxAt hb1 2 rfl
      have e3 := boxAt hb1 3 rfl
      have e4 := boxAt hb1 4 rfl
      have e5 := boxAt hb1 5 rfl
      have e6 := boxAt hb1 6 rfl
      clear hb1
      go_wp2_with fail
      rw [HMAX.out]
      refine (AA.out M _ hbw1).mono ?_
      rintro e w2 ⟨rfl, hb2⟩
      rw [HX2.out, HY2.out]
      have hs2 : w.heap.size < w2.heap.size := Nat.lt_of_lt_of_le hs1 hb2.size
      have hbw2 := bt hbw1 hb2
      have g0 := (hb2.cell (p := ⟨w.heap.size, 0, none⟩) (by show w.heap.size < _; omega)).trans e0
      have g1 := (hb2.cell (p := ⟨w.heap.size, 1, none⟩) (by show w.heap.size < _; omega)).trans e1
      have g2 := (hb2.cell (p := ⟨w.heap.size, 2, none⟩) (by show w.heap.size < _; omega)).trans e2
      have g3 := (hb2.cell (p := ⟨w.heap.size, 3, none⟩) (by show w.heap.size < _; omega)).trans e3
      have g4 := (hb2.cell (p := ⟨w.heap.size, 4, none⟩) (by show w.heap.size < _; omega)).trans e4
      have g5 := (hb2.cell (p := ⟨w.heap.size, 5, none⟩) (by show w.heap.size < _; omega)).trans e5
      have g6 := (hb2.cell (p := ⟨w.heap.size, 6, none⟩) (by show w.heap.size < _; omega)).trans e6
      clear hb2 e0 e1 e2 e3 e4 e5 e6
      go_wp2_with fail
      refine (EN.out _ hbw2).mono ?_
      rintro e w3 ⟨rfl, hb3⟩
      have hs3 : w.heap.size < w3.heap.size := Nat.lt_of_lt_of_le hs2 hb3.size
      have hbw3 := bt hbw2 hb3
      have k0 := (hb3.cell (p := ⟨w.heap.size, 0, none⟩) (by show w.heap.size < _; omega)).trans g0
      have k1 := (hb3.cell (p := ⟨w.heap.size, 1, none⟩) (by show w.heap.size < _; omega)).trans g1
      have k2 := (hb3.cell (p := ⟨w.heap.size, 2, none⟩) (by show w.heap.size < _; omega)).trans g2
      have k3 := (hb3.cell (p := ⟨w.heap.size, 3, none⟩) (by show w.heap.size < _; omega)).trans g3
      have k4 := (hb3.cell (p := ⟨w.heap.size, 4, none⟩) (by show w.heap.size < _; omega)).trans g4
      have k5 := (hb3.cell (p := ⟨w.heap.size, 5, none⟩) (by show w.heap.size < _; omega)).trans g5
      have k6 := (hb3.cell (p := ⟨w.heap.size, 6, none⟩) (by show w.heap.size < _; omega)).trans g6
      clear hb3 g0 g1 g2 g3 g4 g5 g6
      rw [HV.out, HC.out]
      go_wp2_with fail
      refine (AA.out _ _ hbw3).mono ?_
      rintro e w4 ⟨rfl, hb4⟩
      have hs4 : w.heap.size < w4.heap.size := Nat.lt_of_lt_of_le hs3 hb4.size
      have hbw4 := bt hbw3 hb4
      have l0 := (hb4.cell (p := ⟨w.heap.size, 0, none⟩) (by show w.heap.size < _; omega)).trans k0
      have l1 := (hb4.cell (p := ⟨w.heap.size, 1, none⟩) (by show w.heap.size < _; omega)).trans k1
      have l2 := (hb4.cell (p := ⟨w.heap.size, 2, none⟩) (by show w.heap.size < _; omega)).trans k2
      have l3 := (hb4.cell (p := ⟨w.heap.size, 3, none⟩) (by show w.heap.size < _; omega)).trans k3
      have l4 := (hb4.cell (p := ⟨w.heap.size, 4, none⟩) (by show w.heap.size < _; omega)).trans k4
      have l5 := (hb4.cell (p := ⟨w.heap.size, 5, none⟩) (by show w.heap.size < _; omega)).trans k5
      have l6 := (hb4.cell (p := ⟨w.heap.size, 6, none⟩) (by show w.heap.size < _; omega)).trans k6
      clear hb4 k0 k1 k2 k3 k4 k5 k6
      rw [HE3.out, HR3.out]
      go_wp2
      go_ret
      exact ⟨rfl, hbw4⟩
  · clear hmM E1 E2 EN
    generalize hx1 : atE f m = x1 at *
    generalize hx2 : atE f M = x2 at *
    generalize hy1 : atR f m = r1 at *
    generalize hy2 : atR f M = r2 at *
    have HX1 := Lib.hid hx1
    have HX2 := Lib.hid hx2
    have HY1 := Lib.hid hy1
    have HY2 := Lib.hid hy2
    clear hx1 hx2 hy1 hy2
    by_cases h1 : x1 = 0
    · subst h1
      have h2 : x2 ≠ 0 := fun h => hok ⟨rfl, h⟩
      have hr2 : r2 = 0 := by rw [R2.out, if_neg h2]
      have h2b : (x2 != 0) = true := by simpa using h2
      subst hr2
      clear h2 hok R1 R2
      go_enter Try.func9, Try.ntmps9
      go_wp2_with fail
      rw [HMIN.out]
      refine (AA.out m _ below1).mono ?_
      rintro e w1 ⟨rfl, hb1⟩
      rw [HX1.out, HY1.out]
      have hs1 : w.heap.size < w1.heap.size := by have := hb1.size; simp at this; omega
      have hbw1 := bt below1 hb1
      have e0 := boxAt hb1 0 rfl
      have e1 := boxAt hb1 1 rfl
      have e2 := boxAt hb1 2 rfl
      have e3 := boxAt hb1 3 rfl
      have e4 := boxAt hb1 4 rfl
      have e5 := boxAt hb1 5 rfl
      have e6 := boxAt hb1 6 rfl
      clear hb1
      go_wp2_with fail
      rw [HMAX.out]
      refine (AA.out M _ hbw1).mono ?_
      rintro e w2 ⟨rfl, hb2⟩
      rw [HX2.out, HY2.out]
      have hs2 : w.heap.size < w2.heap.size := Nat.lt_of_lt_of_le hs1 hb2.size
      have hbw2 := bt hbw1 hb2
      have g0 := (hb2.cell (p := ⟨w.heap.size, 0, none⟩) (by show w.heap.size < _; omega)).trans e0
      have g1 := (hb2.cell (p := ⟨w.heap.size, 1, none⟩) (by show w.heap.size < _; omega)).trans e1
      have g2 := (hb2.cell (p := ⟨w.heap.size, 2, none⟩) (by show w.heap.size < _; omega)).trans e2
      have g3 := (hb2.cell (p := ⟨w.heap.size, 3, none⟩) (by show w.heap.size < _; omega)).trans e3
      have g4 := (hb2.cell (p := ⟨w.heap.size, 4, none⟩) (by show w.heap.size < _; omega)).trans e4
      have g5 := (hb2.cell (p := ⟨w.heap.size, 5, none⟩) (by show w.heap.size < _; omega)).trans e5
      have g6 := (hb2.cell (p := ⟨w.heap.size, 6, none⟩) (by show w.heap.size < _; omega)).trans e6
      clear hb2 e0 e1 e2 e3 e4 e5 e6
      go_wp2
      go_ret
      exact ⟨rfl, hbw2⟩
    · have hr1 : r1 = 0 := by rw [R1.out, if_neg h1]
      have h1b : (x1 != 0) = true := by simpa using h1
      subst hr1
      clear h1 hok R1 R2
      go_enter Try.func9, Try.ntmps9
      go_wp2_with fail
      rw [HMIN.out]
      refine (AA.out m _ below1).mono ?_
      rintro e w1 ⟨rfl, hb1⟩
      rw [HX1.out, HY1.out]
      have hs1 : w.heap.size < w1.heap.size := by have := hb1.size; simp at this; omega
      have hbw1 := bt below1 hb1
      have e0 := boxAt hb1 0 rfl
      have e1 := boxAt hb1 1 rfl
      have e2 := boxAt hb1 2 rfl
      have e3 := boxAt hb1 3 rfl
      have e4 := boxAt hb1 4 rfl
      have e5 := boxAt hb1 5 rfl
      have e6 := boxAt hb1 6 rfl
      clear hb1
      go_wp2_with fail
      rw [HMAX.out]
      refine (AA.out M _ hbw1).mono ?_
      rintro e w2 ⟨rfl, hb2⟩
      rw [HX2.out, HY2.out]
      have hs2 : w.heap.size < w2.heap.size := Nat.lt_of_lt_of_le hs1 hb2.size
      have hbw2 := bt hbw1 hb2
      have g0 := (hb2.cell (p := ⟨w.heap.size, 0, none⟩) (by show w.heap.size < _; omega)).trans e0
      have g1 := (hb2.cell (p := ⟨w.heap.size, 1, none⟩) (by show w.heap.size < _; omega)).trans e1
      have g2 := (hb2.cell (p := ⟨w.heap.size, 2, none⟩) (by show w.heap.size < _; omega)).trans e2
      have g3 := (hb2.cell (p := ⟨w.heap.size, 3, none⟩) (by show w.heap.size < _; omega)).trans e3
      have g4 := (hb2.cell (p := ⟨w.heap.size, 4, none⟩) (by show w.heap.size < _; omega)).trans e4
      have g5 := (hb2.cell (p := ⟨w.heap.size, 5, none⟩) (by show w.heap.size < _; omega)).trans e5
      have g6 := (hb2.cell (p := ⟨w.heap.size, 6, none⟩) (by show w.heap.size < _; omega)).trans e6
      clear hb2 e0 e1 e2 e3 e4 e5 e6
      go_wp2
      go_ret
      exact ⟨rfl, hbw2⟩
end Go.Proofs.Ythoiamaomhggiaa.levelFadesGoOneWay
