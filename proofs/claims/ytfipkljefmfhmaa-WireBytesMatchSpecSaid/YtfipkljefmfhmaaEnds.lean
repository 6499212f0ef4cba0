/- The end of bytes that are read: end, ends; and the beginning as the reference has it: begins. -/
import Derived.Test.YtfipkljefmfhmaaBegins
namespace Go.Proofs.Ytfipkljefmfhmaa
open Go.RowKit
set_option linter.unusedVariables false
set_option linter.unusedSimpArgs false

def EndP (k : Bool) (l : List UInt8) (rb : Nat) (s : RSt) (w : World) (e : Ending) (w' : World) : Prop :=
  e = .returned (.int .i64 (endF l (tkS k 2 s) (numB (tkB k 2 s)))) ∧ w.grownBy w' (some rb)

set_option maxHeartbeats 2000000 in
theorem end_any (B rb : Nat) (v : Value) (l : List UInt8) (s : RSt) (w : World) (hB : B ≤ rb) (h : Rd 169 B w rb s) (hv : ByS B w v l) (hl : 2 ≤ l.length) :
    Calls Try.prog 62 #[.pointer (some ⟨rb, 0, none⟩), v] w (EndP true l rb s w) := by
  have hlt : rb < w.heap.size := by obtain ⟨v, hb, _⟩ := h; exact block_lt hb
  have TK := Lib.hid (number_any B rb s 2 w hB (by omega) h)
  clear h
  obtain ⟨ao, cap, rfl, k1, k2, hx⟩ := id hv
  clear hx
  have HV := Lib.hid hv
  clear hv
  have hm : numB (tkB true 2 s) ≤ 65535 := numB_two_lt _ (by rw [tkB_len]; omega)
  go_enter Try.func62, Try.ntmps62
  go_wp2_with fail
  refine TK.out.mono ?_
  rintro e w1 ⟨rfl, hr, hg⟩
  have HG := Lib.hid hg
  have HV1 := HV.out.grown hg hB (by omega)
  have hsz := hg.size
  clear hg TK
  generalize hS : tkS true 2 s = t at *
  have HS := Lib.hid hS
  clear hS
  generalize hM : numB (tkB true 2 s) = m at *
  have HM := Lib.hid hM
  clear hM
  obtain ⟨r, sh⟩ := t
  obtain ⟨u, hb, hu⟩ := hr
  dsimp only at hb hu
  obtain ⟨ao2, cap2, rfl, j1, j2, hx⟩ := id hu
  clear hx hu
  have c0 : w1.cell? ⟨rb, 0, none⟩ = some (.slice ao2 r.length cap2) := by rw [cell_of_row w1 rb 0 _ _ (0, 0) hb]; rfl
  have c1 : w1.cell? ⟨rb, 1, none⟩ = some (.bool sh) := by rw [cell_of_row w1 rb 1 _ _ (0, 0) hb]; rfl
  clear hb
  cases sh with
  | true =>
    have HE := Lib.hid (show endF l (r, true) m = 9 from if_pos (Or.inl rfl))
    clear HV1
    generalize l.length = L at *
    go_wp2
    go_ret
    exact ⟨by rw [HS.out, HM.out, HE.out]; rfl, HG.out⟩
  | false =>
    by_cases hr0 : r = []
    · subst hr0
      have hcc : endF l ([], false) m = if m ≠ crc (l.take (l.length - 2)) then 15 else 0 := if_neg (by simp)
      have SM := Lib.hid (sumV _ _ w1 ((HV1.front (n := l.length - 2) (by omega)).bytesV (by omega)))
      have hci := crc_lt (l.take (l.length - 2))
      have HE := Lib.hid hcc
      have hcp : l.length - 2 ≤ cap := by omega
      clear HV1 hcc HV
      generalize crc (l.take (l.length - 2)) = c at *
      generalize hL : l.length = L at *
      clear hL
      by_cases hmc : m = c
      · subst hmc
        have d : ((m : Int) != (m : Int)) = false := by simp
        go_wp2_with (first | (go_at_call 14; (with_reducible refine SM.out.mono ?_); rintro e w' ⟨rfl, rfl⟩) | (go_at_call 73; refine (when_B _ _ _).mono ?_; rintro e w' ⟨rfl, rfl⟩))
        go_ret
        exact ⟨by rw [HS.out, HM.out, HE.out]; simp, HG.out⟩
      · have d : ((m : Int) != (c : Int)) = true := by rw [bne_iff_ne]; omega
        have HN := Lib.hid hmc
        clear hmc
        go_wp2_with (first | (go_at_call 14; (with_reducible refine SM.out.mono ?_); rintro e w' ⟨rfl, rfl⟩) | (go_at_call 73; refine (when_B _ _ _).mono ?_; rintro e w' ⟨rfl, rfl⟩))
        go_ret
        exact ⟨by rw [HS.out, HM.out, HE.out, if_pos HN.out]; rfl, HG.out⟩
    · have HE := Lib.hid (show endF l (r, false) m = 9 from if_pos (Or.inr hr0))
      have hp := List.length_pos_iff.2 hr0
      have d : decide ((0 : Int) < (r.length : Int)) = true := by simp; omega
      clear HV1
      generalize l.length = L at *
      generalize r.length = R at *
      go_wp2
      go_ret
      exact ⟨by rw [HS.out, HM.out, HE.out]; rfl, HG.out⟩
set_option maxHeartbeats 2000000 in
theorem ends_any (B rb : Nat) (v : Value) (l : List UInt8) (s : RSt) (w : World) (hB : B ≤ rb) (h : Rd 108 B w rb s) (hv : ByS B w v l) (hl : 2 ≤ l.length) :
    Calls Try.prog 65 #[.pointer (some ⟨rb, 0, none⟩), v] w (EndP false l rb s w) := by
  have hlt : rb < w.heap.size := by obtain ⟨v, hb, _⟩ := h; exact block_lt hb
  have TK := Lib.hid (two_any B rb s w hB h)
  clear h
  obtain ⟨ao, cap, rfl, k1, k2, hx⟩ := id hv
  clear hx
  have HV := Lib.hid hv
  clear hv
  have hm : numB (tkB false 2 s) ≤ 65535 := numB_two_lt _ (by rw [tkB_len]; omega)
  go_enter Try.func65, Try.ntmps65
  go_wp2_with fail
  refine TK.out.mono ?_
  rintro e w1 ⟨rfl, hr, hg⟩
  have HG := Lib.hid hg
  have HV1 := HV.out.grown hg hB (by omega)
  have hsz := hg.size
  clear hg TK
  generalize hS : tkS false 2 s = t at *
  have HS := Lib.hid hS
  clear hS
  generalize hM : numB (tkB false 2 s) = m at *
  have HM := Lib.hid hM
  clear hM
  obtain ⟨r, sh⟩ := t
  obtain ⟨u, hb, hu⟩ := hr
  dsimp only at hb hu
  obtain ⟨ao2, cap2, rfl, j1, j2, hx⟩ := id hu
  clear hx hu
  have c0 : w1.cell? ⟨rb, 0, none⟩ = some (.slice ao2 r.length cap2) := by rw [cell_of_row w1 rb 0 _ _ (0, 0) hb]; rfl
  have c1 : w1.cell? ⟨rb, 1, none⟩ = some (.bool sh) := by rw [cell_of_row w1 rb 1 _ _ (0, 0) hb]; rfl
  clear hb
  cases sh with
  | true =>
    have HE := Lib.hid (show endF l (r, true) m = 9 from if_pos (Or.inl rfl))
    clear HV1
    generalize l.length = L at *
    go_wp2
    go_ret
    exact ⟨by rw [HS.out, HM.out, HE.out]; rfl, HG.out⟩
  | false =>
    by_cases hr0 : r = []
    · subst hr0
      have hcc : endF l ([], false) m = if m ≠ crc (l.take (l.length - 2)) then 15 else 0 := if_neg (by simp)
      have SM := Lib.hid (refSumV _ _ w1 ((HV1.front (n := l.length - 2) (by omega)).bytesV (by omega)))
      have hci := crc_lt (l.take (l.length - 2))
      have HE := Lib.hid hcc
      have hcp : l.length - 2 ≤ cap := by omega
      clear HV1 hcc HV
      generalize crc (l.take (l.length - 2)) = c at *
      generalize hL : l.length = L at *
      clear hL
      by_cases hmc : m = c
      · subst hmc
        have d : ((m : Int) != (m : Int)) = false := by simp
        go_wp2_with (first | (go_at_call 15; (with_reducible refine SM.out.mono ?_); rintro e w' ⟨rfl, rfl⟩) | (go_at_call 73; refine (when_B _ _ _).mono ?_; rintro e w' ⟨rfl, rfl⟩))
        go_ret
        exact ⟨by rw [HS.out, HM.out, HE.out]; simp, HG.out⟩
      · have d : ((m : Int) != (c : Int)) = true := by rw [bne_iff_ne]; omega
        have HN := Lib.hid hmc
        clear hmc
        go_wp2_with (first | (go_at_call 15; (with_reducible refine SM.out.mono ?_); rintro e w' ⟨rfl, rfl⟩) | (go_at_call 73; refine (when_B _ _ _).mono ?_; rintro e w' ⟨rfl, rfl⟩))
        go_ret
        exact ⟨by rw [HS.out, HM.out, HE.out, if_pos HN.out]; rfl, HG.out⟩
    · have HE := Lib.hid (show endF l (r, false) m = 9 from if_pos (Or.inr hr0))
      have hp := List.length_pos_iff.2 hr0
      have d : decide ((0 : Int) < (r.length : Int)) = true := by simp; omega
      clear HV1
      generalize l.length = L at *
      generalize r.length = R at *
      go_wp2
      go_ret
      exact ⟨by rw [HS.out, HM.out, HE.out]; rfl, HG.out⟩

set_option maxHeartbeats 2000000 in
theorem begins_any (B : Nat) (v : Value) (l : List UInt8) (k : Nat) (w : World) (hk : k ≤ 255) (h : ByS B w v l) :
    Calls Try.prog 63 #[v, .int .i64 k] w fun e w' => e = .returned (.int .i64 (begF l k)) ∧ w = w' := by
  obtain ⟨ao, cap, rfl, k1, k2, hx⟩ := id h
  clear hx
  by_cases h6 : 600 < l.length
  · have HB := Lib.hid (show begF l k = 2 from if_pos h6)
    have d : decide ((600 : Int) < (l.length : Int)) = true := by simp; omega
    clear h
    generalize l.length = L at *
    go_enter Try.func63, Try.ntmps63
    go_wp2
    go_ret
    exact ⟨by rw [HB.out]; rfl, rfl⟩
  · have d : decide ((600 : Int) < (l.length : Int)) = false := by simp; omega
    by_cases h5 : l.length < 5
    · have HB := Lib.hid (show begF l k = 9 by unfold begF; rw [if_neg h6, if_pos (Or.inl h5)])
      have d5 : decide ((l.length : Int) < 5) = true := by simp; omega
      clear h
      generalize l.length = L at *
      go_enter Try.func63, Try.ntmps63
      go_wp2
      go_ret
      exact ⟨by rw [HB.out]; rfl, rfl⟩
    · have d5 : decide ((l.length : Int) < 5) = false := by simp; omega
      have hcv := conv_bytes (h.front (n := 4) (by omega))
      have hcap4 : 4 ≤ cap := by omega
      by_cases hp : l.take 4 = headB
      · rcases h.cases with ⟨rfl, _⟩ | ⟨b, off, cap', e, g1, g2, g3, g4, hc⟩
        · simp at h5
        · injection e with e1 e2 e3
          subst e1 e3
          have c4 : w.cell? ⟨b, off + 4, none⟩ = some (.int .u8 ((l.getD 4 0).toNat : Int)) := by
            rw [hc 4 (by omega), List.getD_eq_getElem?_getD, List.getElem?_eq_getElem (by omega)]; rfl
          have hb4 := (l.getD 4 0).toNat_lt
          rw [hp] at hcv
          have hcv' : (convert 22 9 (.slice (some ⟨b, off, none⟩) 4 cap)).run Try.prog w = .ok (.string { data := #[67, 89, 67, 49] }) w := hcv
          clear hcv
          by_cases hk4 : (l.getD 4 0).toNat = k
          · have HB := Lib.hid (show begF l k = 0 by unfold begF; rw [if_neg h6, if_neg (by rintro (e | e); exact h5 e; exact e hp), if_neg (by simpa using hk4)])
            rw [hk4] at c4
            have d6 : ((k : Int) != (k : Int)) = false := by simp
            clear h hp hk4 hb4 hc
            generalize l.length = L at *
            go_enter Try.func63, Try.ntmps63
            go_wp2
            go_ret
            exact ⟨by rw [HB.out]; rfl, rfl⟩
          · have HB := Lib.hid (show begF l k = 4 by unfold begF; rw [if_neg h6, if_neg (by rintro (e | e); exact h5 e; exact e hp), if_pos hk4])
            have d6 : (((l.getD 4 0).toNat : Int) != (k : Int)) = true := by rw [bne_iff_ne]; omega
            clear h hp hc
            generalize (l.getD 4 0).toNat = x at *
            generalize l.length = L at *
            go_enter Try.func63, Try.ntmps63
            go_wp2
            go_ret
            exact ⟨by rw [HB.out]; rfl, rfl⟩
      · have HB := Lib.hid (show begF l k = 9 by unfold begF; rw [if_neg h6, if_pos (Or.inr hp)])
        have d7 : (l.take 4 != [67, 89, 67, 49]) = true := by rw [bne_iff_ne]; exact hp
        have d8 : (l.take 4 == [67, 89, 67, 49]) = false := by rw [beq_eq_false_iff_ne]; exact hp
        generalize l.take 4 = l4 at *
        clear h hp
        generalize l.length = L at *
        go_enter Try.func63, Try.ntmps63
        go_wp2
        go_ret
        exact ⟨by rw [HB.out]; rfl, rfl⟩
end Go.Proofs.Ytfipkljefmfhmaa
