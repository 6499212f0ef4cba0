/- Given of both sides. -/
import Derived.Test.YteelomjknllcbaaRDriveP
namespace Go.Proofs.Yteelomjknllcbaa
open Go.RowKit
set_option linter.unusedVariables false
set_option linter.unusedSimpArgs false

def badL (zs : List Int) : Bool := zs.any (fun z => !inB z 0 65535)
noncomputable def givE (l : List Emi) (zs : List Int) : Int := if chkEm l = 0 then (if zs.length = l.length then (if badL zs = true then 1 else 0) else 3) else chkEm l
theorem badL_next (zs : List Int) (k : Nat) (h : k < zs.length) : badL (zs.take (k + 1)) = (badL (zs.take k) || !inB zs[k] 0 65535) := by
  unfold badL
  rw [List.take_succ_eq_append_getElem h, List.any_append]
  simp
theorem badL_yes (zs : List Int) (k : Nat) (h : k < zs.length) (hs : inB zs[k] 0 65535 = false) : badL zs = true := by
  unfold badL
  rw [List.any_eq_true]
  exact ⟨zs[k], List.getElem_mem h, by rw [hs]; rfl⟩
theorem badL_no {zs : List Int} (h : badL zs = false) (k : Nat) (hk : k < zs.length) : LvOkC (zs.getD k 0) := by
  rw [List.getD_eq_getElem?_getD, List.getElem?_eq_getElem hk]
  unfold badL at h
  rw [List.any_eq_false] at h
  have := h zs[k] (List.getElem_mem hk)
  simpa [inB, LvOkC] using this
theorem lev_B (n : Int) (w : World) : Calls Try.prog 38 #[.int .i64 n] w fun e w' => e = .returned (.bool (inB n 0 65535)) ∧ w = w' := by
  by_cases h : LvOkC n
  · rw [show inB n 0 65535 = true from decide_eq_true h]; exact cLevel_yes n w h
  · rw [show inB n 0 65535 = false from decide_eq_false h]; exact cLevel_no n w h
theorem rlev_B (n : Int) (w : World) : Calls Try.prog 41 #[.int .i64 n] w fun e w' => e = .returned (.bool (inB n 0 65535)) ∧ w = w' := by
  by_cases h : LvOkC n
  · rw [show inB n 0 65535 = true from decide_eq_true h]; exact rlev_yes n w h
  · rw [show inB n 0 65535 = false from decide_eq_false h]; exact rlev_no n w h
set_option maxHeartbeats 1000000 in
theorem gvFn_any (n : Int) (w : World) : Calls Try.prog 47 #[.int .i64 n] w fun e w' => e = .returned (.bool (!inB n 0 65535)) ∧ w = w' := by
  go_enter Try.func47, Try.ntmps47
  go_wp2_with (go_at_call 38; refine (lev_B _ _).mono ?_; rintro e w' ⟨rfl, rfl⟩)
  go_ret
  exact ⟨rfl, rfl⟩
set_option maxHeartbeats 2000000 in
theorem ixInt_any (b off cap : Nat) (zs : List Int) (w : World) (hl : zs.length ≤ 12) (hb : b < w.heap.size) (hr : RowAt .i64 w b off zs) :
    Calls Try.prog 84 #[.slice (some ⟨b, off, none⟩) zs.length cap, .func (.func 47) #[] #[]] w fun e w' => (∃ k : Int, e = .returned (.int .i64 k) ∧ decide (0 ≤ k) = badL zs) ∧ w = w' := by
  have HR := Lib.hid hr
  have HY := Lib.hid (fun k (hk : k < zs.length) hs => badL_yes zs k hk hs)
  have HN := Lib.hid (fun k (hk : k < zs.length) => badL_next zs k hk)
  have HE := Lib.hid (show zs.take zs.length = zs from List.take_length)
  clear hr
  go_enter Try.func84, Try.ntmps84
  go_wp2_with fail
  go_loop [8] (fun i => ∃ k : Nat, k ≤ zs.length ∧ i = .int .i64 k ∧ Hid (badL (zs.take k) = false)) (fun i => zs.length - (intOf i).toNat)
  case atStart => exact ⟨0, Nat.zero_le _, rfl, Lib.hid (by simp [badL])⟩
  case round =>
    obtain ⟨k, hk, rfl, HK⟩ := hrel
    by_cases hlt : k < zs.length
    · have d0 : w.cell? ⟨b, off + k, none⟩ = some (.int .i64 zs[k]) := HR.out k hlt
      have HYk := Lib.hid (HY.out k hlt)
      have HNk := Lib.hid (HN.out k hlt)
      generalize zs[k] = z at *
      have HF := Lib.hid (gvFn_any z)
      generalize inB z 0 65535 = q at *
      cases q
      · have HQ := Lib.hid (show badL zs = true from HYk.out rfl)
        go_wp2_with fail
        refine (HF.out _).mono ?_
        rintro e w2 ⟨rfl, rfl⟩
        go_wp2_with fail
        go_ret
        exact ⟨⟨_, rfl, by rw [HQ.out]; simp⟩, rfl⟩
      · have HQ := Lib.hid (show badL (zs.take (k + 1)) = false by rw [HNk.out, HK.out]; rfl)
        go_wp2_with fail
        refine (HF.out _).mono ?_
        rintro e w2 ⟨rfl, rfl⟩
        go_wp2_with fail
        go_round
        case rel => exact ⟨k + 1, by omega, by go_num, HQ⟩
        case measure => simp [intOf]; omega
    · have hkk : k = zs.length := by omega
      have HQ := Lib.hid (show badL zs = false by have h := HK.out; rw [hkk, HE.out] at h; exact h)
      go_wp2_with fail
      go_ret
      exact ⟨⟨-1, rfl, by rw [HQ.out]; rfl⟩, rfl⟩
set_option maxHeartbeats 1000000 in
theorem hasInt_any (b off cap : Nat) (zs : List Int) (w : World) (hl : zs.length ≤ 12) (hb : b < w.heap.size) (hr : RowAt .i64 w b off zs) :
    Calls Try.prog 46 #[.slice (some ⟨b, off, none⟩) zs.length cap, .func (.func 47) #[] #[]] w fun e w' => e = .returned (.bool (badL zs)) ∧ w = w' := by
  have HI := Lib.hid (ixInt_any b off cap zs w hl hb hr)
  clear hr hb
  go_enter Try.func46, Try.ntmps46
  go_wp2_with fail
  refine HI.out.mono ?_
  rintro e w2 ⟨⟨k, rfl, hk⟩, rfl⟩
  have HK := Lib.hid hk
  clear hk
  go_wp2_with fail
  go_ret
  exact ⟨by rw [← HK.out]; rfl, rfl⟩
end Go.Proofs.Yteelomjknllcbaa
