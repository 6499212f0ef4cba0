/- check of the program and CheckPacket of the reference. -/
import Derived.Test.YtfipkljefmfhmaaName
import Derived.Test.YtfipkljefmfhmaaREncSync
namespace Go.Proofs.Ytfipkljefmfhmaa
open Go.RowKit
set_option linter.unusedVariables false
set_option linter.unusedSimpArgs false

def inB (n lo hi : Int) : Bool := decide (lo ≤ n ∧ n ≤ hi)
theorem within_B (n lo hi : Int) (w : World) :
    Calls Try.prog 66 #[.int .i64 n, .int .i64 lo, .int .i64 hi] w fun e w' => e = .returned (.bool (inB n lo hi)) ∧ w = w' := by
  by_cases h : lo ≤ n ∧ n ≤ hi
  · rw [show inB n lo hi = true from decide_eq_true h]; exact within_yes n lo hi w h
  · rw [show inB n lo hi = false from decide_eq_false h]; exact within_no n lo hi w (by omega)
theorem rwithin_B (n lo hi : Int) (w : World) :
    Calls Try.prog 57 #[.int .i64 n, .int .i64 lo, .int .i64 hi] w fun e w' => e = .returned (.bool (inB n lo hi)) ∧ w = w' := by
  by_cases h : lo ≤ n ∧ n ≤ hi
  · rw [show inB n lo hi = true from decide_eq_true h]; exact rwithin_yes n lo hi w h
  · rw [show inB n lo hi = false from decide_eq_false h]; exact rwithin_no n lo hi w (by omega)

/-- the numbers of a packet are in range -/
def rngB (src pri seq uni syn : Int) : Bool := inB src 1 65535 && inB pri 0 100 && inB seq 0 255 && inB uni 1 64 && inB syn 0 65535
/-- the fault of a packet -/
def chkP (src pri seq uni syn : Int) (nm : List UInt8) (en : Bool) (n : Nat) : Int :=
  if rngB src pri seq uni syn = false then 1 else if nameB nm = false then 5 else if 512 < n then 2 else if en ≠ (n == 0) then 3 else 0
/-- a packet as a value -/
abbrev pkV (src : Int) (nm : ByteArray) (pri seq uni syn : Int) (en : Bool) (sl : Value) : Value := .agg #[.int .i64 src, .string nm, .int .i64 pri, .int .i64 seq, .int .i64 uni, .int .i64 syn, .bool en, sl]
abbrev pkW (w : World) (src : Int) (nm : ByteArray) (pri seq uni syn : Int) (en : Bool) (sl : Value) : World := w.alloc (.cells #[.int .i64 src, .string nm, .int .i64 pri, .int .i64 seq, .int .i64 uni, .int .i64 syn, .bool en, sl] 35)

set_option maxHeartbeats 4000000 in
set_option maxRecDepth 100000 in
theorem check_any (src pri seq uni syn : Int) (nm : ByteArray) (en : Bool) (ao : Option Addr) (n cap : Nat) (w : World) (hn : nm.size ≤ maxLen) (hc : n ≤ 9223372036854775807) :
    Calls Try.prog 69 #[pkV src nm pri seq uni syn en (.slice ao n cap)] w fun e w' => e = .returned (.int .i64 (chkP src pri seq uni syn nm.data.toList en n)) ∧ pkW w src nm pri seq uni syn en (.slice ao n cap) = w' := by
  have NM := Lib.hid (fun W => name_any nm W hn)
  clear hn
  by_cases h1 : inB src 1 65535 = true
  · have W1 := Lib.hid (fun W => within_B src 1 65535 W)
    rw [h1] at W1
    by_cases h2 : inB pri 0 100 = true
    · have W2 := Lib.hid (fun W => within_B pri 0 100 W)
      rw [h2] at W2
      by_cases h3 : inB seq 0 255 = true
      · have W3 := Lib.hid (fun W => within_B seq 0 255 W)
        rw [h3] at W3
        by_cases h4 : inB uni 1 64 = true
        · have W4 := Lib.hid (fun W => within_B uni 1 64 W)
          rw [h4] at W4
          by_cases h5 : inB syn 0 65535 = true
          · have W5 := Lib.hid (fun W => within_B syn 0 65535 W)
            rw [h5] at W5
            have hr : ¬ (rngB src pri seq uni syn = false) := by simp [rngB, h1, h2, h3, h4, h5]
            clear h1 h2 h3 h4 h5
            by_cases hm : nameB nm.data.toList = false
            · have HV := Lib.hid (show chkP src pri seq uni syn nm.data.toList en n = 5 by unfold chkP; rw [if_neg hr, if_pos hm])
              rw [hm] at NM
              clear hr hm
              go_enter Try.func69, Try.ntmps69
              go_wp2_with (first | (go_at_call 66; (with_reducible refine (W1.out _).mono ?_); rintro e w' ⟨rfl, rfl⟩) | (go_at_call 66; (with_reducible refine (W2.out _).mono ?_); rintro e w' ⟨rfl, rfl⟩) | (go_at_call 66; (with_reducible refine (W3.out _).mono ?_); rintro e w' ⟨rfl, rfl⟩) | (go_at_call 66; (with_reducible refine (W4.out _).mono ?_); rintro e w' ⟨rfl, rfl⟩) | (go_at_call 66; (with_reducible refine (W5.out _).mono ?_); rintro e w' ⟨rfl, rfl⟩) | (go_at_call 113; (with_reducible refine (NM.out _).mono ?_); rintro e w' ⟨rfl, rfl⟩))
              go_ret
              exact ⟨by rw [HV.out]; rfl, rfl⟩
            · have hm2 : nameB nm.data.toList = true := by simpa using hm
              rw [hm2] at NM
              by_cases h6 : 512 < n
              · have HV := Lib.hid (show chkP src pri seq uni syn nm.data.toList en n = 2 by unfold chkP; rw [if_neg hr, if_neg hm, if_pos h6])
                have d : decide ((512 : Int) < (n : Int)) = true := by simp; omega
                clear hr hm hm2
                go_enter Try.func69, Try.ntmps69
                go_wp2_with (first | (go_at_call 66; (with_reducible refine (W1.out _).mono ?_); rintro e w' ⟨rfl, rfl⟩) | (go_at_call 66; (with_reducible refine (W2.out _).mono ?_); rintro e w' ⟨rfl, rfl⟩) | (go_at_call 66; (with_reducible refine (W3.out _).mono ?_); rintro e w' ⟨rfl, rfl⟩) | (go_at_call 66; (with_reducible refine (W4.out _).mono ?_); rintro e w' ⟨rfl, rfl⟩) | (go_at_call 66; (with_reducible refine (W5.out _).mono ?_); rintro e w' ⟨rfl, rfl⟩) | (go_at_call 113; (with_reducible refine (NM.out _).mono ?_); rintro e w' ⟨rfl, rfl⟩))
                go_ret
                exact ⟨by rw [HV.out]; rfl, rfl⟩
              · have d : decide ((512 : Int) < (n : Int)) = false := by simp; omega
                have HC := Lib.hid (show chkP src pri seq uni syn nm.data.toList en n = if en ≠ (n == 0) then 3 else 0 by unfold chkP; rw [if_neg hr, if_neg hm, if_neg h6])
                clear hr hm hm2
                by_cases h0 : n = 0
                · subst h0
                  cases en
                  · have HV := Lib.hid (show chkP src pri seq uni syn nm.data.toList false 0 = 3 by rw [HC.out]; rfl)
                    go_enter Try.func69, Try.ntmps69
                    go_wp2_with (first | (go_at_call 66; (with_reducible refine (W1.out _).mono ?_); rintro e w' ⟨rfl, rfl⟩) | (go_at_call 66; (with_reducible refine (W2.out _).mono ?_); rintro e w' ⟨rfl, rfl⟩) | (go_at_call 66; (with_reducible refine (W3.out _).mono ?_); rintro e w' ⟨rfl, rfl⟩) | (go_at_call 66; (with_reducible refine (W4.out _).mono ?_); rintro e w' ⟨rfl, rfl⟩) | (go_at_call 66; (with_reducible refine (W5.out _).mono ?_); rintro e w' ⟨rfl, rfl⟩) | (go_at_call 113; (with_reducible refine (NM.out _).mono ?_); rintro e w' ⟨rfl, rfl⟩))
                    go_ret
                    exact ⟨by rw [HV.out]; rfl, rfl⟩
                  · have HV := Lib.hid (show chkP src pri seq uni syn nm.data.toList true 0 = 0 by rw [HC.out]; rfl)
                    go_enter Try.func69, Try.ntmps69
                    go_wp2_with (first | (go_at_call 66; (with_reducible refine (W1.out _).mono ?_); rintro e w' ⟨rfl, rfl⟩) | (go_at_call 66; (with_reducible refine (W2.out _).mono ?_); rintro e w' ⟨rfl, rfl⟩) | (go_at_call 66; (with_reducible refine (W3.out _).mono ?_); rintro e w' ⟨rfl, rfl⟩) | (go_at_call 66; (with_reducible refine (W4.out _).mono ?_); rintro e w' ⟨rfl, rfl⟩) | (go_at_call 66; (with_reducible refine (W5.out _).mono ?_); rintro e w' ⟨rfl, rfl⟩) | (go_at_call 113; (with_reducible refine (NM.out _).mono ?_); rintro e w' ⟨rfl, rfl⟩))
                    go_ret
                    exact ⟨by rw [HV.out]; rfl, rfl⟩
                · have d0 : ((n : Int) == 0) = false := by rw [beq_eq_false_iff_ne]; omega
                  have d00 : (n == 0) = false := by rw [beq_eq_false_iff_ne]; exact h0
                  cases en
                  · have HV := Lib.hid (show chkP src pri seq uni syn nm.data.toList false n = 0 by rw [HC.out, d00]; rfl)
                    clear h0 d00
                    go_enter Try.func69, Try.ntmps69
                    go_wp2_with (first | (go_at_call 66; (with_reducible refine (W1.out _).mono ?_); rintro e w' ⟨rfl, rfl⟩) | (go_at_call 66; (with_reducible refine (W2.out _).mono ?_); rintro e w' ⟨rfl, rfl⟩) | (go_at_call 66; (with_reducible refine (W3.out _).mono ?_); rintro e w' ⟨rfl, rfl⟩) | (go_at_call 66; (with_reducible refine (W4.out _).mono ?_); rintro e w' ⟨rfl, rfl⟩) | (go_at_call 66; (with_reducible refine (W5.out _).mono ?_); rintro e w' ⟨rfl, rfl⟩) | (go_at_call 113; (with_reducible refine (NM.out _).mono ?_); rintro e w' ⟨rfl, rfl⟩))
                    go_ret
                    exact ⟨by rw [HV.out]; rfl, rfl⟩
                  · have HV := Lib.hid (show chkP src pri seq uni syn nm.data.toList true n = 3 by rw [HC.out, d00]; rfl)
                    clear h0 d00
                    go_enter Try.func69, Try.ntmps69
                    go_wp2_with (first | (go_at_call 66; (with_reducible refine (W1.out _).mono ?_); rintro e w' ⟨rfl, rfl⟩) | (go_at_call 66; (with_reducible refine (W2.out _).mono ?_); rintro e w' ⟨rfl, rfl⟩) | (go_at_call 66; (with_reducible refine (W3.out _).mono ?_); rintro e w' ⟨rfl, rfl⟩) | (go_at_call 66; (with_reducible refine (W4.out _).mono ?_); rintro e w' ⟨rfl, rfl⟩) | (go_at_call 66; (with_reducible refine (W5.out _).mono ?_); rintro e w' ⟨rfl, rfl⟩) | (go_at_call 113; (with_reducible refine (NM.out _).mono ?_); rintro e w' ⟨rfl, rfl⟩))
                    go_ret
                    exact ⟨by rw [HV.out]; rfl, rfl⟩
          · have W5 := Lib.hid (fun W => within_B syn 0 65535 W)
            rw [show inB syn 0 65535 = false by simpa using h5] at W5
            have HV := Lib.hid (show chkP src pri seq uni syn nm.data.toList en n = 1 from if_pos (by unfold rngB; simp [h5]))
            clear h1 h2 h3 h4 h5
            go_enter Try.func69, Try.ntmps69
            go_wp2_with (first | (go_at_call 66; (with_reducible refine (W1.out _).mono ?_); rintro e w' ⟨rfl, rfl⟩) | (go_at_call 66; (with_reducible refine (W2.out _).mono ?_); rintro e w' ⟨rfl, rfl⟩) | (go_at_call 66; (with_reducible refine (W3.out _).mono ?_); rintro e w' ⟨rfl, rfl⟩) | (go_at_call 66; (with_reducible refine (W4.out _).mono ?_); rintro e w' ⟨rfl, rfl⟩) | (go_at_call 66; (with_reducible refine (W5.out _).mono ?_); rintro e w' ⟨rfl, rfl⟩))
            go_ret
            exact ⟨by rw [HV.out]; rfl, rfl⟩
        · have W4 := Lib.hid (fun W => within_B uni 1 64 W)
          rw [show inB uni 1 64 = false by simpa using h4] at W4
          have HV := Lib.hid (show chkP src pri seq uni syn nm.data.toList en n = 1 from if_pos (by unfold rngB; simp [h4]))
          clear h1 h2 h3 h4
          go_enter Try.func69, Try.ntmps69
          go_wp2_with (first | (go_at_call 66; (with_reducible refine (W1.out _).mono ?_); rintro e w' ⟨rfl, rfl⟩) | (go_at_call 66; (with_reducible refine (W2.out _).mono ?_); rintro e w' ⟨rfl, rfl⟩) | (go_at_call 66; (with_reducible refine (W3.out _).mono ?_); rintro e w' ⟨rfl, rfl⟩) | (go_at_call 66; (with_reducible refine (W4.out _).mono ?_); rintro e w' ⟨rfl, rfl⟩))
          go_ret
          exact ⟨by rw [HV.out]; rfl, rfl⟩
      · have W3 := Lib.hid (fun W => within_B seq 0 255 W)
        rw [show inB seq 0 255 = false by simpa using h3] at W3
        have HV := Lib.hid (show chkP src pri seq uni syn nm.data.toList en n = 1 from if_pos (by unfold rngB; simp [h3]))
        clear h1 h2 h3
        go_enter Try.func69, Try.ntmps69
        go_wp2_with (first | (go_at_call 66; (with_reducible refine (W1.out _).mono ?_); rintro e w' ⟨rfl, rfl⟩) | (go_at_call 66; (with_reducible refine (W2.out _).mono ?_); rintro e w' ⟨rfl, rfl⟩) | (go_at_call 66; (with_reducible refine (W3.out _).mono ?_); rintro e w' ⟨rfl, rfl⟩))
        go_ret
        exact ⟨by rw [HV.out]; rfl, rfl⟩
    · have W2 := Lib.hid (fun W => within_B pri 0 100 W)
      rw [show inB pri 0 100 = false by simpa using h2] at W2
      have HV := Lib.hid (show chkP src pri seq uni syn nm.data.toList en n = 1 from if_pos (by unfold rngB; simp [h2]))
      clear h1 h2
      go_enter Try.func69, Try.ntmps69
      go_wp2_with (first | (go_at_call 66; (with_reducible refine (W1.out _).mono ?_); rintro e w' ⟨rfl, rfl⟩) | (go_at_call 66; (with_reducible refine (W2.out _).mono ?_); rintro e w' ⟨rfl, rfl⟩))
      go_ret
      exact ⟨by rw [HV.out]; rfl, rfl⟩
  · have W1 := Lib.hid (fun W => within_B src 1 65535 W)
    rw [show inB src 1 65535 = false by simpa using h1] at W1
    have HV := Lib.hid (show chkP src pri seq uni syn nm.data.toList en n = 1 from if_pos (by unfold rngB; simp [h1]))
    clear h1
    go_enter Try.func69, Try.ntmps69
    go_wp2_with (first | (go_at_call 66; (with_reducible refine (W1.out _).mono ?_); rintro e w' ⟨rfl, rfl⟩))
    go_ret
    exact ⟨by rw [HV.out]; rfl, rfl⟩

set_option maxHeartbeats 4000000 in
set_option maxRecDepth 100000 in
theorem rcheck_any (src pri seq uni syn : Int) (nm : ByteArray) (en : Bool) (ao : Option Addr) (n cap : Nat) (w : World) (hn : nm.size ≤ maxLen) (hc : n ≤ 9223372036854775807) :
    Calls Try.prog 74 #[pkV src nm pri seq uni syn en (.slice ao n cap)] w fun e w' => e = .returned (.int .i64 (chkP src pri seq uni syn nm.data.toList en n)) ∧ pkW w src nm pri seq uni syn en (.slice ao n cap) = w' := by
  have NM := Lib.hid (fun W => isName_any nm W hn)
  clear hn
  by_cases h1 : inB src 1 65535 = true
  · have W1 := Lib.hid (fun W => rwithin_B src 1 65535 W)
    rw [h1] at W1
    by_cases h2 : inB pri 0 100 = true
    · have W2 := Lib.hid (fun W => rwithin_B pri 0 100 W)
      rw [h2] at W2
      by_cases h3 : inB seq 0 255 = true
      · have W3 := Lib.hid (fun W => rwithin_B seq 0 255 W)
        rw [h3] at W3
        by_cases h4 : inB uni 1 64 = true
        · have W4 := Lib.hid (fun W => rwithin_B uni 1 64 W)
          rw [h4] at W4
          by_cases h5 : inB syn 0 65535 = true
          · have W5 := Lib.hid (fun W => rwithin_B syn 0 65535 W)
            rw [h5] at W5
            have hr : ¬ (rngB src pri seq uni syn = false) := by simp [rngB, h1, h2, h3, h4, h5]
            clear h1 h2 h3 h4 h5
            by_cases hm : nameB nm.data.toList = false
            · have HV := Lib.hid (show chkP src pri seq uni syn nm.data.toList en n = 5 by unfold chkP; rw [if_neg hr, if_pos hm])
              rw [hm] at NM
              clear hr hm
              go_enter Try.func74, Try.ntmps74
              go_wp2_with (first | (go_at_call 57; (with_reducible refine (W1.out _).mono ?_); rintro e w' ⟨rfl, rfl⟩) | (go_at_call 57; (with_reducible refine (W2.out _).mono ?_); rintro e w' ⟨rfl, rfl⟩) | (go_at_call 57; (with_reducible refine (W3.out _).mono ?_); rintro e w' ⟨rfl, rfl⟩) | (go_at_call 57; (with_reducible refine (W4.out _).mono ?_); rintro e w' ⟨rfl, rfl⟩) | (go_at_call 57; (with_reducible refine (W5.out _).mono ?_); rintro e w' ⟨rfl, rfl⟩) | (go_at_call 114; (with_reducible refine (NM.out _).mono ?_); rintro e w' ⟨rfl, rfl⟩))
              go_ret
              exact ⟨by rw [HV.out]; rfl, rfl⟩
            · have hm2 : nameB nm.data.toList = true := by simpa using hm
              rw [hm2] at NM
              by_cases h6 : 512 < n
              · have HV := Lib.hid (show chkP src pri seq uni syn nm.data.toList en n = 2 by unfold chkP; rw [if_neg hr, if_neg hm, if_pos h6])
                have d : decide ((512 : Int) < (n : Int)) = true := by simp; omega
                clear hr hm hm2
                go_enter Try.func74, Try.ntmps74
                go_wp2_with (first | (go_at_call 57; (with_reducible refine (W1.out _).mono ?_); rintro e w' ⟨rfl, rfl⟩) | (go_at_call 57; (with_reducible refine (W2.out _).mono ?_); rintro e w' ⟨rfl, rfl⟩) | (go_at_call 57; (with_reducible refine (W3.out _).mono ?_); rintro e w' ⟨rfl, rfl⟩) | (go_at_call 57; (with_reducible refine (W4.out _).mono ?_); rintro e w' ⟨rfl, rfl⟩) | (go_at_call 57; (with_reducible refine (W5.out _).mono ?_); rintro e w' ⟨rfl, rfl⟩) | (go_at_call 114; (with_reducible refine (NM.out _).mono ?_); rintro e w' ⟨rfl, rfl⟩))
                go_ret
                exact ⟨by rw [HV.out]; rfl, rfl⟩
              · have d : decide ((512 : Int) < (n : Int)) = false := by simp; omega
                have HC := Lib.hid (show chkP src pri seq uni syn nm.data.toList en n = if en ≠ (n == 0) then 3 else 0 by unfold chkP; rw [if_neg hr, if_neg hm, if_neg h6])
                clear hr hm hm2
                by_cases h0 : n = 0
                · subst h0
                  cases en
                  · have HV := Lib.hid (show chkP src pri seq uni syn nm.data.toList false 0 = 3 by rw [HC.out]; rfl)
                    go_enter Try.func74, Try.ntmps74
                    go_wp2_with (first | (go_at_call 57; (with_reducible refine (W1.out _).mono ?_); rintro e w' ⟨rfl, rfl⟩) | (go_at_call 57; (with_reducible refine (W2.out _).mono ?_); rintro e w' ⟨rfl, rfl⟩) | (go_at_call 57; (with_reducible refine (W3.out _).mono ?_); rintro e w' ⟨rfl, rfl⟩) | (go_at_call 57; (with_reducible refine (W4.out _).mono ?_); rintro e w' ⟨rfl, rfl⟩) | (go_at_call 57; (with_reducible refine (W5.out _).mono ?_); rintro e w' ⟨rfl, rfl⟩) | (go_at_call 114; (with_reducible refine (NM.out _).mono ?_); rintro e w' ⟨rfl, rfl⟩))
                    go_ret
                    exact ⟨by rw [HV.out]; rfl, rfl⟩
                  · have HV := Lib.hid (show chkP src pri seq uni syn nm.data.toList true 0 = 0 by rw [HC.out]; rfl)
                    go_enter Try.func74, Try.ntmps74
                    go_wp2_with (first | (go_at_call 57; (with_reducible refine (W1.out _).mono ?_); rintro e w' ⟨rfl, rfl⟩) | (go_at_call 57; (with_reducible refine (W2.out _).mono ?_); rintro e w' ⟨rfl, rfl⟩) | (go_at_call 57; (with_reducible refine (W3.out _).mono ?_); rintro e w' ⟨rfl, rfl⟩) | (go_at_call 57; (with_reducible refine (W4.out _).mono ?_); rintro e w' ⟨rfl, rfl⟩) | (go_at_call 57; (with_reducible refine (W5.out _).mono ?_); rintro e w' ⟨rfl, rfl⟩) | (go_at_call 114; (with_reducible refine (NM.out _).mono ?_); rintro e w' ⟨rfl, rfl⟩))
                    go_ret
                    exact ⟨by rw [HV.out]; rfl, rfl⟩
                · have d0 : ((n : Int) == 0) = false := by rw [beq_eq_false_iff_ne]; omega
                  have d00 : (n == 0) = false := by rw [beq_eq_false_iff_ne]; exact h0
                  cases en
                  · have HV := Lib.hid (show chkP src pri seq uni syn nm.data.toList false n = 0 by rw [HC.out, d00]; rfl)
                    clear h0 d00
                    go_enter Try.func74, Try.ntmps74
                    go_wp2_with (first | (go_at_call 57; (with_reducible refine (W1.out _).mono ?_); rintro e w' ⟨rfl, rfl⟩) | (go_at_call 57; (with_reducible refine (W2.out _).mono ?_); rintro e w' ⟨rfl, rfl⟩) | (go_at_call 57; (with_reducible refine (W3.out _).mono ?_); rintro e w' ⟨rfl, rfl⟩) | (go_at_call 57; (with_reducible refine (W4.out _).mono ?_); rintro e w' ⟨rfl, rfl⟩) | (go_at_call 57; (with_reducible refine (W5.out _).mono ?_); rintro e w' ⟨rfl, rfl⟩) | (go_at_call 114; (with_reducible refine (NM.out _).mono ?_); rintro e w' ⟨rfl, rfl⟩))
                    go_ret
                    exact ⟨by rw [HV.out]; rfl, rfl⟩
                  · have HV := Lib.hid (show chkP src pri seq uni syn nm.data.toList true n = 3 by rw [HC.out, d00]; rfl)
                    clear h0 d00
                    go_enter Try.func74, Try.ntmps74
                    go_wp2_with (first | (go_at_call 57; (with_reducible refine (W1.out _).mono ?_); rintro e w' ⟨rfl, rfl⟩) | (go_at_call 57; (with_reducible refine (W2.out _).mono ?_); rintro e w' ⟨rfl, rfl⟩) | (go_at_call 57; (with_reducible refine (W3.out _).mono ?_); rintro e w' ⟨rfl, rfl⟩) | (go_at_call 57; (with_reducible refine (W4.out _).mono ?_); rintro e w' ⟨rfl, rfl⟩) | (go_at_call 57; (with_reducible refine (W5.out _).mono ?_); rintro e w' ⟨rfl, rfl⟩) | (go_at_call 114; (with_reducible refine (NM.out _).mono ?_); rintro e w' ⟨rfl, rfl⟩))
                    go_ret
                    exact ⟨by rw [HV.out]; rfl, rfl⟩
          · have W5 := Lib.hid (fun W => rwithin_B syn 0 65535 W)
            rw [show inB syn 0 65535 = false by simpa using h5] at W5
            have HV := Lib.hid (show chkP src pri seq uni syn nm.data.toList en n = 1 from if_pos (by unfold rngB; simp [h5]))
            clear h1 h2 h3 h4 h5
            go_enter Try.func74, Try.ntmps74
            go_wp2_with (first | (go_at_call 57; (with_reducible refine (W1.out _).mono ?_); rintro e w' ⟨rfl, rfl⟩) | (go_at_call 57; (with_reducible refine (W2.out _).mono ?_); rintro e w' ⟨rfl, rfl⟩) | (go_at_call 57; (with_reducible refine (W3.out _).mono ?_); rintro e w' ⟨rfl, rfl⟩) | (go_at_call 57; (with_reducible refine (W4.out _).mono ?_); rintro e w' ⟨rfl, rfl⟩) | (go_at_call 57; (with_reducible refine (W5.out _).mono ?_); rintro e w' ⟨rfl, rfl⟩))
            go_ret
            exact ⟨by rw [HV.out]; rfl, rfl⟩
        · have W4 := Lib.hid (fun W => rwithin_B uni 1 64 W)
          rw [show inB uni 1 64 = false by simpa using h4] at W4
          have HV := Lib.hid (show chkP src pri seq uni syn nm.data.toList en n = 1 from if_pos (by unfold rngB; simp [h4]))
          clear h1 h2 h3 h4
          go_enter Try.func74, Try.ntmps74
          go_wp2_with (first | (go_at_call 57; (with_reducible refine (W1.out _).mono ?_); rintro e w' ⟨rfl, rfl⟩) | (go_at_call 57; (with_reducible refine (W2.out _).mono ?_); rintro e w' ⟨rfl, rfl⟩) | (go_at_call 57; (with_reducible refine (W3.out _).mono ?_); rintro e w' ⟨rfl, rfl⟩) | (go_at_call 57; (with_reducible refine (W4.out _).mono ?_); rintro e w' ⟨rfl, rfl⟩))
          go_ret
          exact ⟨by rw [HV.out]; rfl, rfl⟩
      · have W3 := Lib.hid (fun W => rwithin_B seq 0 255 W)
        rw [show inB seq 0 255 = false by simpa using h3] at W3
        have HV := Lib.hid (show chkP src pri seq uni syn nm.data.toList en n = 1 from if_pos (by unfold rngB; simp [h3]))
        clear h1 h2 h3
        go_enter Try.func74, Try.ntmps74
        go_wp2_with (first | (go_at_call 57; (with_reducible refine (W1.out _).mono ?_); rintro e w' ⟨rfl, rfl⟩) | (go_at_call 57; (with_reducible refine (W2.out _).mono ?_); rintro e w' ⟨rfl, rfl⟩) | (go_at_call 57; (with_reducible refine (W3.out _).mono ?_); rintro e w' ⟨rfl, rfl⟩))
        go_ret
        exact ⟨by rw [HV.out]; rfl, rfl⟩
    · have W2 := Lib.hid (fun W => rwithin_B pri 0 100 W)
      rw [show inB pri 0 100 = false by simpa using h2] at W2
      have HV := Lib.hid (show chkP src pri seq uni syn nm.data.toList en n = 1 from if_pos (by unfold rngB; simp [h2]))
      clear h1 h2
      go_enter Try.func74, Try.ntmps74
      go_wp2_with (first | (go_at_call 57; (with_reducible refine (W1.out _).mono ?_); rintro e w' ⟨rfl, rfl⟩) | (go_at_call 57; (with_reducible refine (W2.out _).mono ?_); rintro e w' ⟨rfl, rfl⟩))
      go_ret
      exact ⟨by rw [HV.out]; rfl, rfl⟩
  · have W1 := Lib.hid (fun W => rwithin_B src 1 65535 W)
    rw [show inB src 1 65535 = false by simpa using h1] at W1
    have HV := Lib.hid (show chkP src pri seq uni syn nm.data.toList en n = 1 from if_pos (by unfold rngB; simp [h1]))
    clear h1
    go_enter Try.func74, Try.ntmps74
    go_wp2_with (first | (go_at_call 57; (with_reducible refine (W1.out _).mono ?_); rintro e w' ⟨rfl, rfl⟩))
    go_ret
    exact ⟨by rw [HV.out]; rfl, rfl⟩
end Go.Proofs.Ytfipkljefmfhmaa
