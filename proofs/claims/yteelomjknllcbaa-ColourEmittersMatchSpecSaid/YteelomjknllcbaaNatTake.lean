/- The contracts of the reference's take and give. -/
import Derived.Test.YteelomjknllcbaaNatGuess
namespace Go.Proofs.Yteelomjknllcbaa
open Go.RowKit
set_option linter.unusedVariables false
set_option linter.unusedSimpArgs false

/-- what take borrows at place i -/
def borT (W y q i : Nat) : Nat := (-cryT W y q i).toNat
theorem borT_int (W y q i : Nat) : ((borT W y q i : Nat) : Int) = -cryT W y q i := by
  unfold borT
  have := cryT_le W y q i
  omega
theorem borT_zero (W y q : Nat) : borT W y q 0 = 0 := by unfold borT; rw [cryT_zero]; rfl
theorem borT_le (W y q i : Nat) : borT W y q i ≤ q := by
  have := cryT_ge W y q i
  have := borT_int W y q i
  omega
/-- is q times y more than the window? -/
def overB (W y q : Nat) : Bool := decide (W < q * y)
theorem overB_yes {W y q : Nat} (h : W < q * y) : overB W y q = true := decide_eq_true h
theorem overB_no {W y q : Nat} (h : q * y ≤ W) : overB W y q = false := decide_eq_false (by omega)
theorem borT_end {W y q n : Nat} (hW : W < BB ^ n) (hy : y < BB ^ n) (hq : q * y ≤ W + y) : decide (0 < borT W y q n) = overB W y q := by
  obtain ⟨_, _, h⟩ := takeV_dg hW hy hq
  have h2 := borT_int W y q n
  rw [h] at h2
  by_cases hc : q * y ≤ W
  · rw [if_pos hc] at h2
    rw [overB_no hc, show borT W y q n = 0 by omega]
    rfl
  · rw [if_neg hc] at h2
    rw [overB_yes (by omega), show borT W y q n = 1 by omega]
    rfl
/-- a round of take -/
theorem take_pos {W y q n i : Nat} {s : Int} (hW : W < BB ^ n) (hy : y < BB ^ n) (hq : q * y ≤ W + y) (hi : i < n) (hs : s = (dg W i : Int) - (borT W y q i : Int) - ((q * dg y i : Nat) : Int)) (h0 : 0 ≤ s) :
    s = (dg (takeV W y q n) i : Nat) ∧ borT W y q (i + 1) = 0 := by
  obtain ⟨_, h, _⟩ := takeV_dg hW hy hq
  have h1 := h i hi
  unfold dgT at h1
  have h2 := borT_int W y q i
  have h3 := borT_int W y q (i + 1)
  rw [cryT_succ] at h3
  have h4 := dg_lt W i
  rw [Int.natCast_mul] at hs
  have hs' : (dg W i : Int) + cryT W y q i - (q : Int) * (dg y i : Int) = s := by omega
  rw [hs'] at h1 h3
  have h5 : (0 : Int) ≤ (q : Int) * (dg y i : Int) := Int.mul_nonneg (by omega) (by omega)
  have hb : s < (BB : Int) := by omega
  rw [Int.emod_eq_of_lt h0 hb] at h1
  rw [Int.ediv_eq_zero_of_lt h0 hb] at h3
  exact ⟨h1, by omega⟩
theorem take_neg {W y q n i s : Nat} (hW : W < BB ^ n) (hy : y < BB ^ n) (hq : q * y ≤ W + y) (hi : i < n) (hs : -(s : Int) = (dg W i : Int) - (borT W y q i : Int) - ((q * dg y i : Nat) : Int)) (h0 : 0 < s) :
    borT W y q (i + 1) = (s + 999999999) / 1000000000 ∧ -(s : Int) + (borT W y q (i + 1) : Int) * 1000000000 = (dg (takeV W y q n) i : Nat) := by
  obtain ⟨_, h, _⟩ := takeV_dg hW hy hq
  have h1 := h i hi
  unfold dgT at h1
  have h2 := borT_int W y q i
  have h3 := borT_int W y q (i + 1)
  rw [cryT_succ] at h3
  rw [Int.natCast_mul] at hs
  have hs' : (dg W i : Int) + cryT W y q i - (q : Int) * (dg y i : Int) = -(s : Int) := by omega
  rw [hs'] at h1 h3
  have e : (BB : Int) = 1000000000 := rfl
  rw [e] at h1 h3
  clear hs hs' h e
  constructor
  · omega
  · omega
/-- what take leaves -/
def takeX (X y q j n : Nat) : Nat := lowHigh X (takeV (X / BB ^ j) y q n) j
theorem takeX_start (X y q j n T : Nat) : mcells (takeX X y q j n) X j T = dcells X T := by
  refine mcells_eq fun p hp => ?_
  by_cases h : p < j
  · rw [mixd_low h]; exact lowHigh_dg_low _ _ h
  · exact mixd_high (by omega)
theorem takeX_end {X y q j n T : Nat} (hW : X / BB ^ j < BB ^ n) (hy : y < BB ^ n) (hq : q * y ≤ X / BB ^ j + y) : mcells (takeX X y q j n) X (j + n) T = dcells (takeX X y q j n) T := by
  refine mcells_eq fun p hp => ?_
  by_cases h : p < j + n
  · exact mixd_low h
  · rw [mixd_high (by omega)]
    obtain ⟨k, rfl⟩ : ∃ k, p = j + k := ⟨p - j, by omega⟩
    unfold takeX
    rw [lowHigh_dg_high, ← dg_div, dg_zero_of_lt (lt_pow hW (by omega)), dg_zero_of_lt (lt_pow (takeV_dg hW hy hq).1 (by omega))]
theorem takeX_dg (X y q j n i : Nat) : dg (takeX X y q j n) (j + i) = dg (takeV (X / BB ^ j) y q n) i := lowHigh_dg_high _ _ _ _
theorem prod_q (q d : Nat) (hq : (q : Int) ≤ 1000000000) (hd : (d : Int) ≤ 999999999) : ∃ p : Nat, q * d = p ∧ (q : Int) * (d : Int) = (p : Int) ∧ (p : Int) ≤ 1000000000000000000 := by
  refine ⟨q * d, rfl, (Int.natCast_mul q d).symm, ?_⟩
  have h1 : q ≤ 1000000000 := by omega
  have h2 : d ≤ 999999999 := by omega
  have := Nat.mul_le_mul h1 h2
  omega

def NTakeP (base X y q j n g T cx : Nat) (w : World) (e : Ending) (w' : World) : Prop :=
  e = .returned (.bool (overB (X / BB ^ j) y q)) ∧ Row base w' g T cx (dcells (takeX X y q j n) T) ∧ w.grownBy w' (some g)

set_option maxHeartbeats 8000000 in
set_option maxRecDepth 100000 in
theorem ntake_any (base X y q j N T g h cx cy : Nat) (w : World) (hW : X / BB ^ j < BB ^ (N + 1)) (hy : y < BB ^ N) (hq : q * y ≤ X / BB ^ j + y) (hq9 : (q : Int) ≤ 1000000000) (hj : j + N < T) (hT : T ≤ 100) (hne : h ≠ g) (hh : h < w.heap.size)
    (hrow : Row base w g T cx (dcells X T)) (hcy : ∀ i, i < N → w.cell? ⟨h, i, none⟩ = some (.int .i64 (dg y i : Nat))) :
    Calls Try.prog 119 #[.slice (some ⟨g, 0, none⟩) T cx, .slice (some ⟨h, 0, none⟩) N cy, .int .i64 j, .int .i64 q] w (NTakeP base X y q j (N + 1) g T cx w) := by
  have hy' : y < BB ^ (N + 1) := lt_pow hy (by omega)
  have HR0 := Lib.hid (show Row base w g T cx (mcells (takeX X y q j (N + 1)) X (j + 0) T) by show Row _ _ _ _ _ (mcells _ _ j T); rw [takeX_start]; exact hrow)
  have HE := Lib.hid (takeX_end (T := T) hW hy' hq)
  have HO := Lib.hid (borT_end hW hy' hq)
  have HY := Lib.hid hcy
  have HP := Lib.hid (fun i (hi : i < N + 1) s => take_pos (s := s) hW hy' hq hi)
  have HN := Lib.hid (fun i (hi : i < N + 1) s => take_neg (s := s) hW hy' hq hi)
  have Hyz := Lib.hid (show dg y N = 0 from dg_zero_of_lt hy)
  have Hne := Lib.hid hne
  clear hrow hcy hW hy hy' hq hne
  go_enter Try.func119, Try.ntmps119
  go_wp2
  go_loopw [9, 10] (fun bb ii wr => ∃ i : Nat, i ≤ N + 1 ∧ ii = .int .i64 i ∧ bb = .int .i64 (borT (X / BB ^ j) y q i : Nat) ∧ Row base wr g T cx (mcells (takeX X y q j (N + 1)) X (j + i) T) ∧ w.grownBy wr (some g)) (fun _ ii _ => N + 1 - (intOf ii).toNat)
  case atStart => exact ⟨0, by omega, rfl, by rw [borT_zero]; rfl, HR0.out, World.grownBy.refl _ _⟩
  case round =>
    obtain ⟨i, hi, rfl, rfl, hrow, hg⟩ := hrel
    have HR := Lib.hid hrow
    have HG := Lib.hid hg
    clear hrow hg HR0
    by_cases hiN : i < N + 1
    · have hTn : j + i < T := by omega
      have hco := HR.out.at hTn
      rw [mixd_high (Nat.le_refl _), ← dg_div] at hco
      have hfo := HR.out.free (j + i)
      obtain ⟨J, hJ⟩ : ∃ J : Nat, J = j + i := ⟨_, rfl⟩
      have HJ := Lib.hid hJ
      rw [← hJ] at hco hfo hTn
      have hJi : (i : Int) + (j : Int) = (J : Int) := by omega
      have HXD := Lib.hid (takeX_dg X y q j (N + 1) i)
      have hb9 := borT_le (X / BB ^ j) y q i
      have hx9 := dg_le9 (X / BB ^ j) i
      have P := HP.out i hiN
      have HDV := Lib.hid (dg_le9 (takeV (X / BB ^ j) y q (N + 1)) i)
      have M := HN.out i hiN
      clear hJ HP HN
      generalize hbn : borT (X / BB ^ j) y q (i + 1) = bn at *
      have HBN := Lib.hid hbn
      generalize borT (X / BB ^ j) y q i = b at *
      generalize dg (X / BB ^ j) i = x at *
      generalize dg (takeV (X / BB ^ j) y q (N + 1)) i = d at *
      clear hbn
      by_cases hin : i < N
      · have hcy := (grown_cell (o := i) HG.out hh (by intro e; injection e with e; exact Hne.out e)).trans (HY.out i hin)
        have hy9 := dg_le9 y i
        generalize dg y i = yd at *
        obtain ⟨p, hp0, hp, hp9⟩ := prod_q q yd hq9 hy9
        rw [hp0] at P M
        obtain ⟨S, hS⟩ : ∃ S : Int, (x : Int) - (b : Int) - (p : Int) = S := ⟨_, rfl⟩
        by_cases hneg : S < 0
        · obtain ⟨s, rfl⟩ : ∃ s : Nat, S = -(s : Int) := ⟨(-S).toNat, by omega⟩
          obtain ⟨e1, e2⟩ := M s hS.symm (by omega)
          have hd9 : (d : Int) ≤ 999999999 := by have := HDV.out; omega
          have hs9 : (s : Int) ≤ 1000000001000000000 := by omega
          obtain ⟨s2, hs12⟩ : ∃ s2 : Nat, (s : Int) + 1000000000 = (s2 : Int) := ⟨s + 1000000000, by omega⟩
          obtain ⟨s1, hs1⟩ : ∃ s1 : Nat, (s2 : Int) - 1 = (s1 : Int) := ⟨s2 - 1, by omega⟩
          have hs2 : (s1 : Int) / 1000000000 = (bn : Int) := by omega
          have hs3 : (s1 : Int).tdiv 1000000000 = (bn : Int) := by rw [Int.tdiv_eq_ediv_of_nonneg (by omega)]; exact hs2
          have hbn9 : (bn : Int) ≤ 1000000002 := by omega
          have hs4 : (bn : Int) * 1000000000 ≤ 1000000002000000000 := by omega
          clear P M e1 hp0
          go_wp2
          exact ⟨⟨i + 1, by omega, by go_num, by rw [HBN.out], by rw [HJ.out, ← HXD.out]; exact HR.out.up (by omega), grown_trans1 HG.out (grown_set1 _ _ _ _)⟩, by simp [intOf] <;> omega⟩
        · have hs_ : True := trivial
          obtain ⟨s, rfl⟩ : ∃ s : Nat, S = (s : Int) := ⟨S.toNat, by omega⟩
          obtain ⟨e1, e2⟩ := P s hS.symm (by omega)
          have e3 : s = d := by omega
          subst e3
          have HBZ := Lib.hid (HBN.out.trans e2)
          have hs0 : decide ((s : Int) < 0) = false := by simp
          clear P M e1 hp0 hs_
          go_wp2
          exact ⟨⟨i + 1, by omega, by go_num, by rw [HBZ.out]; rfl, by rw [HJ.out, ← HXD.out]; exact HR.out.up (by omega), grown_trans1 HG.out (grown_set1 _ _ _ _)⟩, by simp [intOf] <;> omega⟩
      · obtain rfl : i = N := by omega
        have hy0 := Hyz.out
        rw [hy0, Nat.mul_zero] at P M
        obtain ⟨S, hS⟩ : ∃ S : Int, (x : Int) - (b : Int) = S := ⟨_, rfl⟩
        by_cases hneg : S < 0
        · obtain ⟨s, rfl⟩ : ∃ s : Nat, S = -(s : Int) := ⟨(-S).toNat, by omega⟩
          obtain ⟨e1, e2⟩ := M s (by omega) (by omega)
          have hd9 : (d : Int) ≤ 999999999 := by have := HDV.out; omega
          have hs9 : (s : Int) ≤ 1000000001000000000 := by omega
          obtain ⟨s2, hs12⟩ : ∃ s2 : Nat, (s : Int) + 1000000000 = (s2 : Int) := ⟨s + 1000000000, by omega⟩
          obtain ⟨s1, hs1⟩ : ∃ s1 : Nat, (s2 : Int) - 1 = (s1 : Int) := ⟨s2 - 1, by omega⟩
          have hs2 : (s1 : Int) / 1000000000 = (bn : Int) := by omega
          have hs3 : (s1 : Int).tdiv 1000000000 = (bn : Int) := by rw [Int.tdiv_eq_ediv_of_nonneg (by omega)]; exact hs2
          have hbn9 : (bn : Int) ≤ 1000000002 := by omega
          have hs4 : (bn : Int) * 1000000000 ≤ 1000000002000000000 := by omega
          clear P M e1 hy0
          go_wp2
          exact ⟨⟨i + 1, by omega, by go_num, by rw [HBN.out], by rw [HJ.out, ← HXD.out]; exact HR.out.up (by omega), grown_trans1 HG.out (grown_set1 _ _ _ _)⟩, by simp [intOf] <;> omega⟩
        · have hs_ : True := trivial
          obtain ⟨s, rfl⟩ : ∃ s : Nat, S = (s : Int) := ⟨S.toNat, by omega⟩
          obtain ⟨e1, e2⟩ := P s (by omega) (by omega)
          have e3 : s = d := by omega
          subst e3
          have HBZ := Lib.hid (HBN.out.trans e2)
          have hs0 : decide ((s : Int) < 0) = false := by simp
          clear P M e1 hy0 hs_
          go_wp2
          exact ⟨⟨i + 1, by omega, by go_num, by rw [HBZ.out]; rfl, by rw [HJ.out, ← HXD.out]; exact HR.out.up (by omega), grown_trans1 HG.out (grown_set1 _ _ _ _)⟩, by simp [intOf] <;> omega⟩
    · obtain rfl : i = N + 1 := by omega
      have HRE := Lib.hid (show Row base _ g T cx (dcells (takeX X y q j (N + 1)) T) by rw [← HE.out]; exact HR.out)
      generalize borT (X / BB ^ j) y q (N + 1) = b at *
      have HO2 := HO
      clear HO
      clear HE HP HN HR
      go_wp2
      go_ret
      exact ⟨by rw [← HO2.out]; rfl, HRE.out, HG.out⟩
end Go.Proofs.Yteelomjknllcbaa
