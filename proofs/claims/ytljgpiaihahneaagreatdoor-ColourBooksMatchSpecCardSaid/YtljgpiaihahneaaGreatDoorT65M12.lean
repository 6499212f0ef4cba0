/- strconv.ParseUint at base 16, at texts of at most four hex digits. -/
import Derived.Test.YtljgpiaihahneaaGreatDoorT65M11
import Derived.Lib.ConvBytes
import Derived.Lib.AtoiErrMem
import Derived.Lib.AppendIntMem
import Derived.Lib.Strings
import Derived.Lib.Slices

namespace Go.Proofs.YtljgpiaihahneaaGreatDoor
open Go.RowKit
set_option linter.unusedVariables false
set_option linter.unusedSimpArgs false

/-- the value of a row of hex digits -/
def hexL (l : List UInt8) : Nat := l.foldl (fun a c => 16 * a + hexV c) 0
def hexS (s : ByteArray) : Nat := hexL s.data.toList
theorem hexL_take (l : List UInt8) (k : Nat) (h : k < l.length) : hexL (l.take (k + 1)) = 16 * hexL (l.take k) + hexV l[k] := by
  unfold hexL
  rw [List.take_succ_eq_append_getElem h, List.foldl_append]
  rfl
theorem hexL_lt : ∀ (l : List UInt8) (k : Nat), (∀ c ∈ l, IsHex c) → hexL (l.take k) < 16 ^ k ∨ l.length < k := by
  intro l k hh
  rcases Nat.lt_or_ge l.length k with h | h
  · exact .inr h
  · left
    induction k with
    | zero => simp [hexL]
    | succ k ih =>
      have hk : k < l.length := by omega
      rw [hexL_take l k hk, Nat.pow_succ]
      have := ih (by omega)
      have := hexV_lt (hh _ (List.getElem_mem hk))
      omega
/-- a letter made small -/
def lowV (x : Nat) : Nat := if x ≤ 70 then x + 32 else x
theorem or32 (x : Nat) (h : (65 ≤ x ∧ x ≤ 70) ∨ (97 ≤ x ∧ x ≤ 102)) : bits .or .u8 (x : Int) 32 = (lowV x : Nat) := by
  have : x = 65 ∨ x = 66 ∨ x = 67 ∨ x = 68 ∨ x = 69 ∨ x = 70 ∨ x = 97 ∨ x = 98 ∨ x = 99 ∨ x = 100 ∨ x = 101 ∨ x = 102 := by omega
  rcases this with rfl | rfl | rfl | rfl | rfl | rfl | rfl | rfl | rfl | rfl | rfl | rfl <;> decide
theorem lower_hex (x : Nat) (w : World) (h : (65 ≤ x ∧ x ≤ 70) ∨ (97 ≤ x ∧ x ≤ 102)) :
    Calls Tryz.prog 82 #[.int .u8 x] w fun e w' => e = .returned (.int .u8 (lowV x : Nat)) ∧ w = w' := by
  have e1 := or32 x h
  clear h
  go_enter Tryz.func82, Tryz.ntmps82
  go_wp2
  go_ret
  exact ⟨rfl, rfl⟩

set_option maxHeartbeats 8000000 in
set_option maxRecDepth 100000 in
theorem parse16 (s : ByteArray) (w : World) (h0 : 0 < s.size) (h4 : s.size ≤ 4) (hh : AllHex s) :
    Calls Tryz.prog 62 #[.string s, .int .i64 16, .int .i64 32] w fun e w' => e = .returned (.tuple #[.int .u64 (hexS s), .nilIface]) ∧ Below w.heap.size w w' := by
  have hl : s.data.toList.length = s.size := by rw [Array.length_toList]; rfl
  have HM : Hid (∀ c ∈ s.data.toList, IsHex c) := fun c hc => by
    obtain ⟨i, hi, rfl⟩ := List.mem_iff_getElem.1 hc
    have hi' : i < s.size := by omega
    have := hh i hi'
    rwa [show s.data.toList[i] = s[i] by simp; rfl]
  have HN := Lib.hid (show hexS s = hexL (s.data.toList.take s.size) by rw [← hl, List.take_length]; rfl)
  have kcv := fun W => Lib.run_convert_string_bytes (P := Tryz.prog) W 9 36 5 s Tryz.underlying9 Tryz.underlying36 Tryz.underlying5
  have HC := Lib.hid (fun j (hj : j < s.size) => Lib.bytesWorld_cell w 5 s j hj)
  have HB := Lib.hid (Lib.bytesWorld_below w 5 s)
  have hne : s.toList.isEmpty = false := by
    cases hc : s.toList with
    | nil =>
      rw [Lib.toList_data] at hc
      have : s.data.toList.length = 0 := by rw [hc]; rfl
      omega
    | cons a t => rfl
  have hne2 : ¬ s.toList = [] := by intro e; rw [e] at hne; cases hne
  rw [HN.out]
  clear hh
  go_enter Tryz.func62, Tryz.ntmps62
  go_wp2_with fail
  go_loop [12, 13, 101] (fun us n i => us = .bool false ∧ ∃ k : Nat, k ≤ s.size ∧ i = .int .i64 k ∧ n = .int .u64 (hexL (s.data.toList.take k) : Nat)) (fun _ _ i => s.size - (intOf i).toNat)
  case atStart => exact ⟨rfl, 0, Nat.zero_le _, rfl, rfl⟩
  case round =>
    obtain ⟨rfl, k, hk, rfl, rfl⟩ := hrel
    by_cases hlt : k < s.size
    · have hcell := HC.out k hlt
      have hkl : k < s.data.toList.length := by omega
      have HT := Lib.hid (hexL_take s.data.toList k hkl)
      have hb : hexL (s.data.toList.take k) < 4096 := by
        rcases hexL_lt s.data.toList k HM.out with h | h
        · have : 16 ^ k ≤ 16 ^ 3 := Nat.pow_le_pow_right (by decide) (by omega)
          omega
        · omega
      have hc : IsHex s.data.toList[k] := HM.out _ (List.getElem_mem hkl)
      rw [show s.data.toList.getD k 0 = s.data.toList[k] by rw [List.getD_eq_getElem?_getD, List.getElem?_eq_getElem hkl]; rfl] at hcell
      have hv := hexV_lt hc
      have HV := Lib.hid (show hexV s.data.toList[k] = if s.data.toList[k].toNat ≤ 57 then s.data.toList[k].toNat - 48 else if s.data.toList[k].toNat ≤ 70 then s.data.toList[k].toNat - 55 else s.data.toList[k].toNat - 87 from rfl)
      generalize hexV s.data.toList[k] = v at *
      unfold IsHex at hc
      generalize s.data.toList[k].toNat = x at *
      generalize hexL (s.data.toList.take k) = n at *
      have q1 : IntKind.u64.wrap ((n : Int) * 16) = n * 16 := IntWalk.u64_in _ (by omega)
      have g1 : ((1152921504606846976 : Int) ≤ (n : Int)) = False := eq_false (by omega)
      have g2 : ((n : Int) < 1152921504606846976) = True := eq_true (by omega)
      have q2 : IntKind.u64.wrap ((n : Int) * 16 + v) = n * 16 + v := IntWalk.u64_in _ (by omega)
      have g3 : ((4294967295 : Int) < (n : Int) * 16 + v) = False := eq_false (by omega)
      have g4 : ((n : Int) * 16 + v < n * 16) = False := eq_false (by omega)
      rcases hc with hc | hc
      · have hx : x = v + 48 := by rw [HV.out, if_pos hc.2]; omega
        clear HV
        subst hx
        go_wp2
        go_round
        case rel => exact ⟨rfl, k + 1, by omega, by go_num, by rw [HT.out]; go_num⟩
        case measure => simp [intOf]; omega
      · have hx : lowV x = v + 87 := by
          rw [HV.out]
          unfold lowV
          rcases hc with hc | hc
          · have a1 : ¬ x ≤ 57 := by omega
            have a2 : ¬ x ≤ 70 := by omega
            simp only [a1, a2, if_false]; omega
          · have a1 : ¬ x ≤ 57 := by omega
            have a2 : x ≤ 70 := by omega
            simp only [a1, a2, if_false, if_true]; omega
        clear HV
        have hlw : 97 ≤ lowV x ∧ lowV x ≤ 102 := by unfold lowV; rcases hc with hc | hc <;> split <;> omega
        have CL := Lib.hid (fun W => lower_hex x W hc.symm)
        have hxx : 58 ≤ x := by omega
        generalize lowV x = y at *
        subst hx
        have w1 : 10 ≤ v := by omega
        go_wp2_with fail
        refine (CL.out _).mono ?_
        rintro e w' ⟨rfl, rfl⟩
        go_wp2_with fail
        refine (CL.out _).mono ?_
        rintro e w' ⟨rfl, rfl⟩
        go_wp2_with fail
        refine (CL.out _).mono ?_
        rintro e w' ⟨rfl, rfl⟩
        go_wp2
        go_round
        case rel => exact ⟨rfl, k + 1, by omega, by go_num, by rw [HT.out]; go_num⟩
        case measure => simp [intOf]; omega
    · have hkk : k = s.size := by omega
      subst hkk
      go_wp2
      go_ret2
      exact ⟨rfl, HB.out⟩
end Go.Proofs.YtljgpiaihahneaaGreatDoor
