/- effect.where: the place of a unit in its cycle. (printed by wip/gen/gen_where.py) -/
import Derived.Test.YtopmdeefcjdadaaT29M07
import Derived.Test.YtopmdeefcjdadaaT29M11

namespace Go.Proofs.Ytopmdeefcjdadaa
open Go.RowKit
set_option linter.unusedVariables false
set_option linter.unusedSimpArgs false

theorem stepsAt_up {w W : World} {ao : Option Addr} {l : List Stp} (h : StepsAt w.heap.size w ao l) (hb : Below w.heap.size w W) : StepsAt W.heap.size W ao l := fun hne => by
  obtain ⟨b, off, rfl, h1, h2⟩ := h hne
  refine ⟨b, off, rfl, Nat.lt_of_lt_of_le h1 hb.size, fun i hi => ?_⟩
  obtain ⟨c0, c1, c2⟩ := h2 i hi
  exact ⟨(hb.cell (p := ⟨b, off + i * 3, none⟩) h1).trans c0, (hb.cell (p := ⟨b, off + i * 3 + 1, none⟩) h1).trans c1, (hb.cell (p := ⟨b, off + i * 3 + 2, none⟩) h1).trans c2⟩
/-- the place in the cycle, from the time y and the length d of a cycle -/
def whN (back : Bool) (y d : Int) : Int := if back = true ∧ 0 < y % d then d - y % d else y % d
def whD (c count : Int) : Int := 100 * c * 1000 * count
def whY (c spread index count clock : Int) : Int := clock * 1000 * count - spread * index * 100 * c
theorem whN_range (back : Bool) (y : Int) {d : Int} (h : 0 < d) : 0 ≤ whN back y d ∧ whN back y d ≤ d := by
  have h1 := Int.emod_nonneg y (show d ≠ 0 by omega)
  have h2 := Int.emod_lt_of_pos y h
  unfold whN
  split <;> omega
theorem mul_both {a b A B : Int} (h1 : 0 ≤ a) (h2 : 0 ≤ b) (h3 : a ≤ A) (h4 : b ≤ B) : 0 ≤ a * b ∧ a * b ≤ A * B :=
  ⟨Int.mul_nonneg h1 h2, Int.le_trans (Int.mul_le_mul_of_nonneg_right h3 h2) (Int.mul_le_mul_of_nonneg_left h4 (by omega))⟩
theorem mul_abs {a b A B : Int} (h1 : -A ≤ a) (h2 : a ≤ A) (h3 : 0 ≤ b) (h4 : b ≤ B) : -(A * B) ≤ a * b ∧ a * b ≤ A * B := by
  have k1 : a * b ≤ A * b := Int.mul_le_mul_of_nonneg_right h2 h3
  have k2 : -A * b ≤ a * b := Int.mul_le_mul_of_nonneg_right h1 h3
  have k3 : A * b ≤ A * B := Int.mul_le_mul_of_nonneg_left h4 (by omega)
  rw [Int.neg_mul] at k2
  omega
theorem whD_range {c count : Int} (c0 : 1 ≤ c) (c1 : c ≤ 3600000) (n0 : 1 ≤ count) (n1 : count ≤ 400) : 1 ≤ whD c count ∧ whD c count ≤ 144000000000000 := by
  unfold whD
  have h1 := mul_both (a := 100 * c * 1000) (b := count) (A := 360000000000) (B := 400) (by omega) (by omega) (by omega) n1
  have h2 : 100 * c * 1000 * 1 ≤ 100 * c * 1000 * count := Int.mul_le_mul_of_nonneg_left n0 (by omega)
  omega
set_option maxRecDepth 100000 in
set_option maxHeartbeats 8000000 in
theorem where_any (form low high cycle width spread : Int) (back rel : Bool) (ao : Option Addr) (cap : Nat) (l : List Stp) (index count clock c : Int) (w : World) (hs : StepsAt w.heap.size w ao l) (hl : l.length ≤ 50) (hall : l.all stpB = true) (hc : 0 ≤ cycle ∧ cycle ≤ 3600000)
    (hcc : cycle + sumS l = c) (c0 : 1 ≤ c) (c1 : c ≤ 3600000) (n0 : 1 ≤ count) (n1 : count ≤ 400) (i0 : 0 ≤ index) (i1 : index ≤ 400) (k0 : 0 ≤ clock) (k1 : clock ≤ 36360000000) (s0 : -10000 ≤ spread) (s1 : spread ≤ 10000) :
    Calls Try.prog 75 #[.agg #[.int .i64 form, .int .i64 low, .int .i64 high, .int .i64 cycle, .int .i64 width, .int .i64 spread, .bool back, .bool rel, .slice ao l.length cap], .int .i64 index, .int .i64 count, .int .i64 clock] w fun e w' => e = .returned (.agg #[.int .i64 (whN back (whY c spread index count clock) (whD c count)), .int .i64 (whD c count), .int .i64 (whY c spread index count clock / whD c count), .int .i64 index]) ∧ Below w.heap.size w w' := by
  have CC := Lib.hid (fun (W : World) (hb : Below w.heap.size w W) => cycle_any form low high cycle width spread back rel ao cap l W (stepsAt_up hs hb) hl hall hc)
  rw [hcc] at CC
  have HR := Lib.hid (show ∀ D Y : Int, whN back Y D = if back = true ∧ 0 < Y % D then D - Y % D else Y % D from fun _ _ => rfl)
  obtain ⟨d0, d1⟩ := whD_range c0 c1 n0 n1
  have b1 := mul_both (a := clock * 1000) (b := count) (A := 36360000000000) (B := 400) (by omega) (by omega) (by omega) n1
  have b2 := mul_abs (a := spread) (b := index) (A := 10000) (B := 400) s0 s1 i0 i1
  have b3 := mul_abs (a := spread * index * 100) (b := c) (A := 400000000) (B := 3600000) (by omega) (by omega) (by omega) c1
  have hD : 100 * c * 1000 * count = whD c count := rfl
  have hY : clock * 1000 * count - spread * index * 100 * c = whY c spread index count clock := rfl
  have e1 : IntKind.i64.wrap (100 * c) = 100 * c := IntWalk.i64_in _ (by omega)
  have e2 : IntKind.i64.wrap (100 * c * 1000) = 100 * c * 1000 := IntWalk.i64_in _ (by omega)
  have e3 : IntKind.i64.wrap (100 * c * 1000 * count) = whD c count := by rw [hD]; exact IntWalk.i64_in _ (by omega)
  have e4 : IntKind.i64.wrap (clock * 1000) = clock * 1000 := IntWalk.i64_in _ (by omega)
  have e5 : IntKind.i64.wrap (clock * 1000 * count) = clock * 1000 * count := IntWalk.i64_in _ (by omega)
  have e6 : IntKind.i64.wrap (spread * index) = spread * index := IntWalk.i64_in _ (by omega)
  have e7 : IntKind.i64.wrap (spread * index * 100) = spread * index * 100 := IntWalk.i64_in _ (by omega)
  have e8 : IntKind.i64.wrap (spread * index * 100 * c) = spread * index * 100 * c := IntWalk.i64_in _ (by omega)
  have e9 : IntKind.i64.wrap (clock * 1000 * count - spread * index * 100 * c) = whY c spread index count clock := by rw [hY]; exact IntWalk.i64_in _ (by omega)
  have hyr : -20000000000000000 ≤ whY c spread index count clock ∧ whY c spread index count clock ≤ 20000000000000000 := by omega
  clear hY hD b1 b3
  generalize whY c spread index count clock = Y at *
  generalize whD c count = D at *
  have hm := Int.emod_add_mul_ediv Y D
  have hm1 := Int.emod_nonneg Y (show D ≠ 0 by omega)
  have hm2 := Int.emod_lt_of_pos Y (show 0 < D by omega)
  have hq1 : Y / D ≤ 20000000000000000 := Int.le_trans (Int.ediv_le_ediv (by omega) hyr.2) (Int.ediv_le_self _ (by omega))
  have hq0 : -20000000000000001 ≤ Y / D := by
    rw [Int.le_ediv_iff_mul_le (by omega)]
    omega
  have HFL := Lib.hid (fun W => floor_any Y D W (by omega) (by omega) (by omega) (by omega))
  have hqd : D * (Y / D) = Y - Y % D := by omega
  have hqc : Y / D * D = Y - Y % D := by rw [Int.mul_comm]; exact hqd
  generalize Y / D = q at *
  generalize hrr : Y % D = r at *
  have e10 : IntKind.i64.wrap (q * D) = q * D := by rw [hqc]; exact IntWalk.i64_in _ (by omega)
  have e11 : IntKind.i64.wrap (Y - q * D) = r := by rw [hqc, show Y - (Y - r) = r by omega]; exact IntWalk.i64_in _ (by omega)
  have e12 : IntKind.i64.wrap (D - r) = D - r := IntWalk.i64_in _ (by omega)
  clear hm hqd hqc
  have HT := Lib.hid (show TBox ((w.alloc (.cells #[.int .i64 form, .int .i64 low, .int .i64 high, .int .i64 cycle, .int .i64 width, .int .i64 spread, .bool back, .bool rel, .slice ao l.length cap] 24)).alloc (.cells #[.int .i64 0, .int .i64 0, .int .i64 0, .int .i64 0] 119)) w.heap.size 24 #[.int .i64 form, .int .i64 low, .int .i64 high, .int .i64 cycle, .int .i64 width, .int .i64 spread, .bool back, .bool rel, .slice ao l.length cap] from (TBox.new w _ _).alloc _)
  have HP := Lib.hid (show TBox ((w.alloc (.cells #[.int .i64 form, .int .i64 low, .int .i64 high, .int .i64 cycle, .int .i64 width, .int .i64 spread, .bool back, .bool rel, .slice ao l.length cap] 24)).alloc (.cells #[.int .i64 0, .int .i64 0, .int .i64 0, .int .i64 0] 119)) (w.heap.size + 1) 119 #[.int .i64 0, .int .i64 0, .int .i64 0, .int .i64 0] from by
    have h := TBox.new (w.alloc (.cells #[.int .i64 form, .int .i64 low, .int .i64 high, .int .i64 cycle, .int .i64 width, .int .i64 spread, .bool back, .bool rel, .slice ao l.length cap] 24)) #[.int .i64 0, .int .i64 0, .int .i64 0, .int .i64 0] 119
    simpa only [World.size_alloc] using h)
  have HB := Lib.hid (show Below w.heap.size w ((w.alloc (.cells #[.int .i64 form, .int .i64 low, .int .i64 high, .int .i64 cycle, .int .i64 width, .int .i64 spread, .bool back, .bool rel, .slice ao l.length cap] 24)).alloc (.cells #[.int .i64 0, .int .i64 0, .int .i64 0, .int .i64 0] 119)) from ((Below.refl _ _).alloc (Nat.le_refl _) _).alloc (by simp) _)
  have CC1 := Lib.hid (CC.out _ HB.out)
  clear CC hs hall
  go_enter Try.func75, Try.ntmps75
  go_wp2_with fail
  refine CC1.out.mono ?_
  rintro e w2 ⟨rfl, hb⟩
  have hsz : w.heap.size + 2 ≤ w2.heap.size := by have := hb.size; simp at this; omega
  have hlt1 : w.heap.size < w2.heap.size := by omega
  have hlt2 : w.heap.size + 1 < w2.heap.size := by omega
  have HT2 := Lib.hid (HT.out.below hb)
  have HP2 := Lib.hid (HP.out.below hb)
  have HB2 := Lib.hid (HB.out.trans (hb.mono (by simp; omega)))
  clear CC1 hb HT HP HB
  have f5 := HT2.out.cell (i := 5) rfl
  have f6 := HT2.out.cell (i := 6) rfl
  have r0 := HP2.out.cell (i := 0) rfl
  have r1 := HP2.out.cell (i := 1) rfl
  have r2 := HP2.out.cell (i := 2) rfl
  have r3 := HP2.out.cell (i := 3) rfl
  have rf0 := HP2.out.frozen 0
  have rf1 := HP2.out.frozen 1
  have rf2 := HP2.out.frozen 2
  have rf3 := HP2.out.frozen 3
  go_wp2_with fail
  refine (HFL.out _).mono ?_
  rintro e wz ⟨rfl, rfl⟩
  cases back
  · have HV := Lib.hid (show whN false Y D = r by rw [HR.out, if_neg (by simp), hrr])
    clear hrr
    go_wp2_with fail
    exact bodyPost_ret (v := .agg #[.int .i64 r, .int .i64 D, .int .i64 q, .int .i64 index]) (by simp [results, Try.results75, go_sem, r0, r1, r2, r3, hlt2, World.cell?_alloc_past]) rfl ⟨by rw [HV.out], by repeat (first | exact HB2.out | refine Below.setCell ?_ (by simp; try omega) _ | refine Below.alloc ?_ (by simp; try omega) _)⟩
  · by_cases hr0 : 0 < r
    · have HV := Lib.hid (show whN true Y D = D - r by rw [HR.out, hrr, if_pos ⟨rfl, hr0⟩])
      clear hrr
      go_wp2_with fail
      exact bodyPost_ret (v := .agg #[.int .i64 (D - r), .int .i64 D, .int .i64 q, .int .i64 index]) (by simp [results, Try.results75, go_sem, r0, r1, r2, r3, hlt2, World.cell?_alloc_past]) rfl ⟨by rw [HV.out], by repeat (first | exact HB2.out | refine Below.setCell ?_ (by simp; try omega) _ | refine Below.alloc ?_ (by simp; try omega) _)⟩
    · have HV := Lib.hid (show whN true Y D = r by rw [HR.out, hrr, if_neg (fun h => hr0 h.2)])
      have hr1 : decide (0 < r) = false := by simpa using hr0
      clear hrr
      go_wp2_with fail
      exact bodyPost_ret (v := .agg #[.int .i64 r, .int .i64 D, .int .i64 q, .int .i64 index]) (by simp [results, Try.results75, go_sem, r0, r1, r2, r3, hlt2, World.cell?_alloc_past]) rfl ⟨by rw [HV.out], by repeat (first | exact HB2.out | refine Below.setCell ?_ (by simp; try omega) _ | refine Below.alloc ?_ (by simp; try omega) _)⟩
end Go.Proofs.Ytopmdeefcjdadaa
