/- The contract of the reference's give. -/
import Derived.Test.YteelomjknllcbaaNatTake
namespace Go.Proofs.Yteelomjknllcbaa
open Go.RowKit
set_option linter.unusedVariables false
set_option linter.unusedSimpArgs false

/-- what give leaves -/
def giveX (Z y j n : Nat) : Nat := lowHigh Z ((Z / BB ^ j + y) % BB ^ n) j
theorem giveX_start (Z y j n T : Nat) : mcells (giveX Z y j n) Z j T = dcells Z T := by
  refine mcells_eq fun p hp => ?_
  by_cases h : p < j
  · rw [mixd_low h]; exact lowHigh_dg_low _ _ h
  · exact mixd_high (by omega)
theorem giveX_end {Z y j n T : Nat} (hW : Z / BB ^ j < BB ^ n) : mcells (giveX Z y j n) Z (j + n) T = dcells (giveX Z y j n) T := by
  refine mcells_eq fun p hp => ?_
  by_cases h : p < j + n
  · exact mixd_low h
  · rw [mixd_high (by omega)]
    obtain ⟨k, rfl⟩ : ∃ k, p = j + k := ⟨p - j, by omega⟩
    unfold giveX
    rw [lowHigh_dg_high, ← dg_div, dg_zero_of_lt (lt_pow hW (by omega)), dg_zero_of_lt (lt_pow (Nat.mod_lt _ (BBp n)) (by omega))]
theorem giveX_dg {Z y j n i : Nat} (hi : i < n) : dg (giveX Z y j n) (j + i) = dg (Z / BB ^ j + y) i := by
  unfold giveX
  rw [lowHigh_dg_high, dg_mod hi]

def GiveP (base Z y j n g T cx : Nat) (w : World) (e : Ending) (w' : World) : Prop :=
  (∃ v, e = .returned v) ∧ Row base w' g T cx (dcells (giveX Z y j n) T) ∧ w.grownBy w' (some g)

set_option maxHeartbeats 8000000 in
set_option maxRecDepth 100000 in
theorem give_any (base Z y j N T g h cx cy : Nat) (w : World) (hW : Z / BB ^ j < BB ^ (N + 1)) (hy : y < BB ^ N) (hj : j + N < T) (hT : T ≤ 100) (hne : h ≠ g) (hh : h < w.heap.size)
    (hrow : Row base w g T cx (dcells Z T)) (hcy : ∀ i, i < N → w.cell? ⟨h, i, none⟩ = some (.int .i64 (dg y i : Nat))) :
    Calls Try.prog 120 #[.slice (some ⟨g, 0, none⟩) T cx, .slice (some ⟨h, 0, none⟩) N cy, .int .i64 j] w (GiveP base Z y j (N + 1) g T cx w) := by
  have HR0 := Lib.hid (show Row base w g T cx (mcells (giveX Z y j (N + 1)) Z (j + 0) T) by show Row _ _ _ _ _ (mcells _ _ j T); rw [giveX_start]; exact hrow)
  have HE := Lib.hid (giveX_end (y := y) (T := T) hW)
  have HY := Lib.hid hcy
  have Hyz := Lib.hid (show dg y N = 0 from dg_zero_of_lt hy)
  have Hne := Lib.hid hne
  clear hrow hcy hW hy hne
  go_enter Try.func120, Try.ntmps120
  go_wp2
  go_loopw [6, 7] (fun cc ii wr => ∃ i : Nat, i ≤ N + 1 ∧ ii = .int .i64 i ∧ cc = .int .i64 (carryP (Z / BB ^ j) y i : Nat) ∧ Row base wr g T cx (mcells (giveX Z y j (N + 1)) Z (j + i) T) ∧ w.grownBy wr (some g)) (fun _ ii _ => N + 1 - (intOf ii).toNat)
  case atStart => exact ⟨0, by omega, rfl, by rw [carryP_zero]; rfl, HR0.out, World.grownBy.refl _ _⟩
  case round =>
    obtain ⟨i, hi, rfl, rfl, hrow, hg⟩ := hrel
    have HR := Lib.hid hrow
    have HG := Lib.hid hg
    clear hrow hg HR0
    by_cases hiN : i < N + 1
    · have hTn : j + i < T := by omega
      have hco := HR.out.at hTn
      rw [mixd_high (Nat.le_refl _), ← dg_div] at hco
      have hfo := HR.out.free (j + i)
      obtain ⟨J, hJ⟩ : ∃ J : Nat, J = j + i := ⟨_, rfl⟩
      have HJ := Lib.hid hJ
      rw [← hJ] at hco hfo hTn
      have hJi : (i : Int) + (j : Int) = (J : Int) := by omega
      have HXD := Lib.hid (giveX_dg (Z := Z) (y := y) (j := j) hiN)
      have HD := Lib.hid (plus_dg (Z / BB ^ j) y i)
      have HC := Lib.hid (plus_carry (Z / BB ^ j) y i)
      have hc1 := carryP_le (Z / BB ^ j) y i
      have hx9 := dg_le9 (Z / BB ^ j) i
      clear hJ
      generalize hcn : carryP (Z / BB ^ j) y (i + 1) = cn at *
      have HCN := Lib.hid hcn
      generalize carryP (Z / BB ^ j) y i = c at *
      generalize dg (Z / BB ^ j) i = x at *
      generalize dg (Z / BB ^ j + y) i = d at *
      clear hcn
      by_cases hin : i < N
      · have hcy := (grown_cell (o := i) HG.out hh (by intro e; injection e with e; exact Hne.out e)).trans (HY.out i hin)
        have hy9 := dg_le9 y i
        generalize dg y i = yd at *
        obtain ⟨s, hs⟩ : ∃ s : Nat, (x : Int) + (c : Int) + (yd : Int) = (s : Int) := ⟨x + c + yd, by omega⟩
        have hs9 : (s : Int) ≤ 2999999999 := by omega
        have hsn : c + x + yd = s := by omega
        rw [hsn] at HD HC
        have HM := Lib.hid (dig_emod HD.out)
        have HV := Lib.hid (dig_ediv HC.out)
        clear HD HC hsn
        go_wp2
        rw [HM.out, HV.out]
        exact ⟨⟨i + 1, by omega, by go_num, by rw [HCN.out], by rw [HJ.out, ← HXD.out]; exact HR.out.up (by omega), grown_trans1 HG.out (grown_set1 _ _ _ _)⟩, by simp [intOf] <;> omega⟩
      · obtain rfl : i = N := by omega
        have hy0 := Hyz.out
        rw [hy0, Nat.add_zero] at HD HC
        obtain ⟨s, hs⟩ : ∃ s : Nat, (x : Int) + (c : Int) = (s : Int) := ⟨x + c, by omega⟩
        have hs9 : (s : Int) ≤ 2999999999 := by omega
        have hsn : c + x = s := by omega
        rw [hsn] at HD HC
        have HM := Lib.hid (dig_emod HD.out)
        have HV := Lib.hid (dig_ediv HC.out)
        clear HD HC hsn hy0
        go_wp2
        rw [HM.out, HV.out]
        exact ⟨⟨i + 1, by omega, by go_num, by rw [HCN.out], by rw [HJ.out, ← HXD.out]; exact HR.out.up (by omega), grown_trans1 HG.out (grown_set1 _ _ _ _)⟩, by simp [intOf] <;> omega⟩
    · obtain rfl : i = N + 1 := by omega
      have HRE := Lib.hid (show Row base _ g T cx (dcells (giveX Z y j (N + 1)) T) by rw [← HE.out]; exact HR.out)
      generalize carryP (Z / BB ^ j) y (N + 1) = b at *
      clear HE HR
      go_wp2
      go_end0
      exact ⟨⟨_, rfl⟩, HRE.out, HG.out⟩
end Go.Proofs.Yteelomjknllcbaa
