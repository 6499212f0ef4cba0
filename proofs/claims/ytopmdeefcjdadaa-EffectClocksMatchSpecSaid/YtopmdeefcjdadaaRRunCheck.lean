/- The reference's checkTimes, checkKeys without a rig, checkAlone. (printed by wip/gen/gen_rruncheck.py) -/
import Derived.Test.YtopmdeefcjdadaaRunBox
import Derived.Test.YtopmdeefcjdadaaKeyFns
import Derived.Test.YtopmdeefcjdadaaREfCheck
import Derived.Deep.DeepCutAuto
import Derived.Deep.RegionWith
namespace Go.Proofs.Ytopmdeefcjdadaa
open Go.RowKit
set_option linter.unusedVariables false
set_option linter.unusedSimpArgs false

set_option maxRecDepth 100000 in
set_option maxHeartbeats 16000000 in
theorem rcheckTimes_any (form low high cycle width spread start tin tend tout : Int) (back rel : Bool) (so ko ro : Option Addr) (scap kcap rcap : Nat) (st : List Stp) (keys : List (Int × ByteArray)) (rates : List (Int × Int)) (w : World) (hx : RateS w.heap.size w (.slice ro rates.length rcap) rates) :
    Calls Try.prog 71 #[(.agg #[.int .i64 form, .int .i64 low, .int .i64 high, .int .i64 cycle, .int .i64 width, .int .i64 spread, .bool back, .bool rel, .slice so st.length scap, .slice ko keys.length kcap, .int .i64 start, .slice ro rates.length rcap, .int .i64 tin, .int .i64 tend, .int .i64 tout])] w fun e w' => e = .returned (.int .i64 (chkTm start tin tend tout rates)) ∧ Below w.heap.size w w' := by
  have HR := Lib.hid (fun k (h : k < rates.length) => rates_get hx k h)
  have hr2 : rates.length ≤ maxLen := by
    obtain ⟨_, _, _, h1, h2, _⟩ := hx
    omega
  unfold maxLen at hr2
  clear hx
  have HC1 := Lib.hid (show chkTm start tin tend tout rates = (if bad1 start tin tend tout then 1 else if decide (tend = -1) && decide (tout ≠ 0) then 3 else if 50 < rates.length then 2 else rF start none rates) from rfl)
  have HB1 := Lib.hid (show bad1 start tin tend tout = (!inR start 0 36000000 || !inR tin 0 36000000 || !inR tout 0 36000000 || (decide (tend ≠ -1) && !inR tend start 36000000)) from rfl)
  generalize chkTm start tin tend tout rates = RES at *
  have KC := Lib.hid (run_below w (.int .i64 form) (.int .i64 low) (.int .i64 high) (.int .i64 cycle) (.int .i64 width) (.int .i64 spread) (.bool back) (.bool rel) (.slice so st.length scap) (.slice ko keys.length kcap) (.int .i64 start) (.slice ro rates.length rcap) (.int .i64 tin) (.int .i64 tend) (.int .i64 tout) 28)
  have KA := Lib.hid (show ∀ W o, Below (w.heap.size + 1) (w.alloc (.cells #[.int .i64 form, .int .i64 low, .int .i64 high, .int .i64 cycle, .int .i64 width, .int .i64 spread, .bool back, .bool rel, .slice so st.length scap, .slice ko keys.length kcap, .int .i64 start, .slice ro rates.length rcap, .int .i64 tin, .int .i64 tend, .int .i64 tout] 28)) W → Below (w.heap.size + 1) (w.alloc (.cells #[.int .i64 form, .int .i64 low, .int .i64 high, .int .i64 cycle, .int .i64 width, .int .i64 spread, .bool back, .bool rel, .slice so st.length scap, .slice ko keys.length kcap, .int .i64 start, .slice ro rates.length rcap, .int .i64 tin, .int .i64 tend, .int .i64 tout] 28)) (W.alloc o) from fun W o h => h.alloc (by have := h.size; simp at this; omega) o)
  go_enter Try.func71, Try.ntmps71
  go_upto_region 1 with fail
  have HBW0 : Below (w.heap.size + 1) (w.alloc (.cells #[.int .i64 form, .int .i64 low, .int .i64 high, .int .i64 cycle, .int .i64 width, .int .i64 spread, .bool back, .bool rel, .slice so st.length scap, .slice ko keys.length kcap, .int .i64 start, .slice ro rates.length rcap, .int .i64 tin, .int .i64 tend, .int .i64 tout] 28)) (w.alloc (.cells #[.int .i64 form, .int .i64 low, .int .i64 high, .int .i64 cycle, .int .i64 width, .int .i64 spread, .bool back, .bool rel, .slice so st.length scap, .slice ko keys.length kcap, .int .i64 start, .slice ro rates.length rcap, .int .i64 tin, .int .i64 tend, .int .i64 tout] 28)) := Below.refl _ _
  generalize hwr : (w.alloc (.cells #[.int .i64 form, .int .i64 low, .int .i64 high, .int .i64 cycle, .int .i64 width, .int .i64 spread, .bool back, .bool rel, .slice so st.length scap, .slice ko keys.length kcap, .int .i64 start, .slice ro rates.length rcap, .int .i64 tin, .int .i64 tend, .int .i64 tout] 28)) = wr
  have HBW := Lib.hid (show Below (w.heap.size + 1) (w.alloc (.cells #[.int .i64 form, .int .i64 low, .int .i64 high, .int .i64 cycle, .int .i64 width, .int .i64 spread, .bool back, .bool rel, .slice so st.length scap, .slice ko keys.length kcap, .int .i64 start, .slice ro rates.length rcap, .int .i64 tin, .int .i64 tend, .int .i64 tout] 28)) wr by rw [← hwr]; exact HBW0)
  clear hwr HBW0
  obtain ⟨hB2, hz3, q0, q1, q2, q3, q4, q5, q6, q7, q8, q9, q10, q11, q12, q13, q14⟩ := KC.out _ HBW.out
  go_cut [33] (fun s33 wx => s33 = .bool (bad1 start tin tend tout) ∧ wr = wx)
  case first =>
    rcases Bool.eq_false_or_eq_true (inR start 0 36000000) with k0 | k0
    rotate_left
    · skip
      have HV := Lib.hid (show bad1 start tin tend tout = true by rw [HB1.out]; simp [*])
      go_wp2_with (first | (go_at_call 36; ((with_reducible refine (rTime_R _ _).mono ?_); rintro e w' ⟨rfl, rfl⟩)) | (go_at_call 38; ((with_reducible refine (rwithin_R _ _ _ _).mono ?_); rintro e w' ⟨rfl, rfl⟩)) | fail)
      all_goals go_meet
      all_goals exact ⟨by rw [HV.out] <;> rfl, rfl⟩
    rcases Bool.eq_false_or_eq_true (inR tin 0 36000000) with k1 | k1
    rotate_left
    · skip
      have HV := Lib.hid (show bad1 start tin tend tout = true by rw [HB1.out]; simp [*])
      go_wp2_with (first | (go_at_call 36; ((with_reducible refine (rTime_R _ _).mono ?_); rintro e w' ⟨rfl, rfl⟩)) | (go_at_call 38; ((with_reducible refine (rwithin_R _ _ _ _).mono ?_); rintro e w' ⟨rfl, rfl⟩)) | fail)
      all_goals go_meet
      all_goals exact ⟨by rw [HV.out] <;> rfl, rfl⟩
    rcases Bool.eq_false_or_eq_true (inR tout 0 36000000) with k2 | k2
    rotate_left
    · skip
      have HV := Lib.hid (show bad1 start tin tend tout = true by rw [HB1.out]; simp [*])
      go_wp2_with (first | (go_at_call 36; ((with_reducible refine (rTime_R _ _).mono ?_); rintro e w' ⟨rfl, rfl⟩)) | (go_at_call 38; ((with_reducible refine (rwithin_R _ _ _ _).mono ?_); rintro e w' ⟨rfl, rfl⟩)) | fail)
      all_goals go_meet
      all_goals exact ⟨by rw [HV.out] <;> rfl, rfl⟩
    by_cases ht : tend = -1
    · subst ht
      have HV := Lib.hid (show bad1 start tin (-1) tout = false by rw [HB1.out]; simp [*])
      go_wp2_with (first | (go_at_call 36; ((with_reducible refine (rTime_R _ _).mono ?_); rintro e w' ⟨rfl, rfl⟩)) | (go_at_call 38; ((with_reducible refine (rwithin_R _ _ _ _).mono ?_); rintro e w' ⟨rfl, rfl⟩)) | fail)
      all_goals go_meet
      all_goals exact ⟨by rw [HV.out] <;> rfl, rfl⟩
    have ht1 : (tend != -1) = true := by simp [ht]
    rcases Bool.eq_false_or_eq_true (inR tend start 36000000) with k3 | k3
    rotate_left
    · skip
      have HV := Lib.hid (show bad1 start tin tend tout = true by rw [HB1.out]; simp [*])
      go_wp2_with (first | (go_at_call 36; ((with_reducible refine (rTime_R _ _).mono ?_); rintro e w' ⟨rfl, rfl⟩)) | (go_at_call 38; ((with_reducible refine (rwithin_R _ _ _ _).mono ?_); rintro e w' ⟨rfl, rfl⟩)) | fail)
      all_goals go_meet
      all_goals exact ⟨by rw [HV.out] <;> rfl, rfl⟩
    have HV := Lib.hid (show bad1 start tin tend tout = false by rw [HB1.out]; simp [*])
    go_wp2_with (first | (go_at_call 36; ((with_reducible refine (rTime_R _ _).mono ?_); rintro e w' ⟨rfl, rfl⟩)) | (go_at_call 38; ((with_reducible refine (rwithin_R _ _ _ _).mono ?_); rintro e w' ⟨rfl, rfl⟩)) | fail)
    all_goals go_meet
    all_goals exact ⟨by rw [HV.out] <;> rfl, rfl⟩
  case rest =>
    obtain ⟨rfl, rfl⟩ := hcut
    generalize bad1 start tin tend tout = B1 at *
    have HB2 := Lib.hid hB2
    clear hB2
    cases B1
    rotate_left
    · skip
      have HV := Lib.hid (show RES = 1 by rw [HC1.out]; rfl)
      go_wp2_with (first | (go_at_call 36; ((with_reducible refine (rTime_R _ _).mono ?_); rintro e w' ⟨rfl, rfl⟩)) | (go_at_call 38; ((with_reducible refine (rwithin_R _ _ _ _).mono ?_); rintro e w' ⟨rfl, rfl⟩)) | fail)
      all_goals go_ret
      all_goals exact ⟨by rw [HV.out] <;> rfl, HB2.out⟩
    go_upto_region 3 with fail
    go_cut [41] (fun s41 wx => s41 = .bool (decide (tend = -1) && decide (tout ≠ 0)) ∧ wr = wx)
    case first =>
      by_cases ht : tend = -1
      · by_cases hu : tout = 0
        · go_wp2_with fail
          all_goals go_meet
          all_goals exact ⟨by simp [ht, hu], rfl⟩
        · go_wp2_with fail
          all_goals go_meet
          all_goals exact ⟨by simp [ht, hu], rfl⟩
      · go_wp2_with fail
        all_goals go_meet
        all_goals exact ⟨by simp [ht], rfl⟩
    case rest =>
      obtain ⟨rfl, rfl⟩ := hcut
      generalize (decide (tend = -1) && decide (tout ≠ 0)) = B2 at *
      cases B2
      rotate_left
      · skip
        have HV := Lib.hid (show RES = 3 by rw [HC1.out]; rfl)
        go_wp2_with (first | (go_at_call 36; ((with_reducible refine (rTime_R _ _).mono ?_); rintro e w' ⟨rfl, rfl⟩)) | (go_at_call 38; ((with_reducible refine (rwithin_R _ _ _ _).mono ?_); rintro e w' ⟨rfl, rfl⟩)) | fail)
        all_goals go_ret
        all_goals exact ⟨by rw [HV.out] <;> rfl, HB2.out⟩
      by_cases h50 : 50 < rates.length
      · skip
        have HV := Lib.hid (show RES = 2 by rw [HC1.out]; simp [h50])
        go_wp2_with (first | (go_at_call 36; ((with_reducible refine (rTime_R _ _).mono ?_); rintro e w' ⟨rfl, rfl⟩)) | (go_at_call 38; ((with_reducible refine (rwithin_R _ _ _ _).mono ?_); rintro e w' ⟨rfl, rfl⟩)) | fail)
        all_goals go_ret
        all_goals exact ⟨by rw [HV.out] <;> rfl, HB2.out⟩
      have HC2 := Lib.hid (show RES = rF start none rates by rw [HC1.out]; simp [h50])
      have h51 : rates.length ≤ 50 := by omega
      clear h50 HC1 HB1
      go_wp2_with fail
      go_loopw [49] (fun i wx => ∃ k : Nat, k ≤ rates.length ∧ i = .int .i64 k ∧ Hid (RES = rF start (prevT rates k) (rates.drop k)) ∧ Hid (Below (w.heap.size + 1) (w.alloc (.cells #[.int .i64 form, .int .i64 low, .int .i64 high, .int .i64 cycle, .int .i64 width, .int .i64 spread, .bool back, .bool rel, .slice so st.length scap, .slice ko keys.length kcap, .int .i64 start, .slice ro rates.length rcap, .int .i64 tin, .int .i64 tend, .int .i64 tout] 28)) wx)) (fun i _ => rates.length - (intOf i).toNat)
      case atStart => exact ⟨0, Nat.zero_le _, rfl, Lib.hid HC2.out, HBW⟩
      case round =>
        clear HBW HB2 hz3 q9 q10 q11 q12 q13 q14
        obtain ⟨k, hk2, rfl, HRF, HBX⟩ := hrel
        obtain ⟨hB3, hz4, q0, q1, q2, q3, q4, q5, q6, q7, q8, q9, q10, q11, q12, q13, q14⟩ := KC.out _ HBX.out
        by_cases hlt2 : k < rates.length
        · have HST := Lib.hid (HRF.out.trans (rF_step start rates k hlt2))
          obtain ⟨b, off, rfl, hbb, hc⟩ := HR.out k hlt2
          obtain ⟨d0, d1⟩ := hc _ hB3
          have hbr := Nat.lt_of_lt_of_le hbb hB3.size
          have HB4 := Lib.hid hB3
          clear hB3 HRF hc
          have HPV := Lib.hid (fun h0 => prevT_pos rates k h0 hlt2)
          have HPR := Lib.hid (fun (h0 : 0 < k) => show (∀ W, Below w.heap.size w W → W.cell? ⟨b, off + (k - 1) * 2, none⟩ = some (.int .i64 (rates[k - 1]'(by omega)).1)) from by
            obtain ⟨b', off', e1, _, h3⟩ := HR.out (k - 1) (by omega)
            injection e1 with e1
            injection e1 with e2 e3
            subst e2 e3
            exact fun W hW => (h3 W hW).1)
          generalize rates[k] = rk at *
          obtain ⟨rt, rp⟩ := rk
          simp only at d0 d1
          rcases Bool.eq_false_or_eq_true (inR rt start 36000000) with k0 | k0
          rotate_left
          · skip
            have HV := Lib.hid (show RES = 1 by rw [HST.out]; simp [k0])
            go_wp2_with (first | (go_at_call 36; ((with_reducible refine (rTime_R _ _).mono ?_); rintro e w' ⟨rfl, rfl⟩)) | (go_at_call 38; ((with_reducible refine (rwithin_R _ _ _ _).mono ?_); rintro e w' ⟨rfl, rfl⟩)) | fail)
            all_goals go_ret
            all_goals exact ⟨by rw [HV.out] <;> rfl, (KC.out _ (KA.out _ _ HBX.out)).1⟩
          rcases Bool.eq_false_or_eq_true (inR rp 0 1000) with k1 | k1
          rotate_left
          · skip
            have HV := Lib.hid (show RES = 1 by rw [HST.out]; simp [k0, k1])
            go_wp2_with (first | (go_at_call 36; ((with_reducible refine (rTime_R _ _).mono ?_); rintro e w' ⟨rfl, rfl⟩)) | (go_at_call 38; ((with_reducible refine (rwithin_R _ _ _ _).mono ?_); rintro e w' ⟨rfl, rfl⟩)) | fail)
            all_goals go_ret
            all_goals exact ⟨by rw [HV.out] <;> rfl, (KC.out _ (KA.out _ _ HBX.out)).1⟩
          by_cases h0 : k = 0
          · subst h0
            simp only [Nat.zero_mul, Nat.add_zero, Nat.zero_add] at d0 d1
            have HNX := Lib.hid (show RES = rF start (prevT rates (0 + 1)) (rates.drop (0 + 1)) by rw [HST.out]; simp [k0, k1, prevT])
            go_wp2_with (first | (go_at_call 36; ((with_reducible refine (rTime_R _ _).mono ?_); rintro e w' ⟨rfl, rfl⟩)) | (go_at_call 38; ((with_reducible refine (rwithin_R _ _ _ _).mono ?_); rintro e w' ⟨rfl, rfl⟩)) | fail)
            go_quiet (fail)
            go_wp2_with fail
            go_roundw
            case rel => exact ⟨1, by omega, rfl, HNX, Lib.hid (bel_drewN (KA.out _ _ HBX.out) _)⟩
            case measure => simp [intOf]; omega
          · have HPP := Lib.hid (HPV.out (by omega))
            have d2 := HPR.out (by omega) _ HB4.out
            clear HPV HPR
            generalize (rates[k - 1]'(by omega)) = rj at *
            obtain ⟨jt, jp⟩ := rj
            simp only at d2
            obtain ⟨j, rfl⟩ : ∃ j, k = j + 1 := ⟨k - 1, by omega⟩
            simp only [Nat.add_sub_cancel] at d2
            have hji : ((j + 1 : Nat) : Int) - 1 = (j : Int) := by omega
            by_cases hle : rt ≤ jt
            · skip
              have HV := Lib.hid (show RES = 7 by rw [HST.out, HPP.out]; simp [k0, k1, hle])
              go_wp2_with (first | (go_at_call 36; ((with_reducible refine (rTime_R _ _).mono ?_); rintro e w' ⟨rfl, rfl⟩)) | (go_at_call 38; ((with_reducible refine (rwithin_R _ _ _ _).mono ?_); rintro e w' ⟨rfl, rfl⟩)) | fail)
              go_quiet (fail)
              go_wp2_with fail
              go_ret
              exact ⟨by rw [HV.out] <;> rfl, bel_drewN (KC.out _ (KA.out _ _ HBX.out)).1 _⟩
            · have HNX := Lib.hid (show RES = rF start (prevT rates (j + 1 + 1)) (rates.drop (j + 1 + 1)) by rw [HST.out, HPP.out]; simp [k0, k1, hle])
              have hled : decide (rt ≤ jt) = false := by simpa using hle
              go_wp2_with (first | (go_at_call 36; ((with_reducible refine (rTime_R _ _).mono ?_); rintro e w' ⟨rfl, rfl⟩)) | (go_at_call 38; ((with_reducible refine (rwithin_R _ _ _ _).mono ?_); rintro e w' ⟨rfl, rfl⟩)) | fail)
              go_quiet (fail)
              go_wp2_with fail
              go_roundw
              case rel => exact ⟨j + 1 + 1, by omega, by go_num, HNX, Lib.hid (bel_drewN (KA.out _ _ HBX.out) _)⟩
              case measure => simp [intOf]; omega
        · have HV := Lib.hid (show RES = 0 by rw [HRF.out, List.drop_of_length_le (by omega)]; rfl)
          have HB4 := Lib.hid hB3
          clear hB3
          go_wp2_with (first | (go_at_call 36; ((with_reducible refine (rTime_R _ _).mono ?_); rintro e w' ⟨rfl, rfl⟩)) | (go_at_call 38; ((with_reducible refine (rwithin_R _ _ _ _).mono ?_); rintro e w' ⟨rfl, rfl⟩)) | fail)
          go_ret
          exact ⟨by rw [HV.out] <;> rfl, HB4.out⟩


/-! ### keys, with no rig -/
set_option maxHeartbeats 1000000 in
theorem runit_nil (n : Int) (w : World) : Calls Try.prog 118 #[(.agg #[.slice none 0 0, .slice none 0 0]), .int .i64 n] w fun e w' => e = .returned (.int .i64 (-1)) ∧ Below w.heap.size w w' := by
  go_enter Try.func118, Try.ntmps118
  go_wp2
  refine wp_loop_rounds 1 ?_
  rw [rounds_succ]
  go_wp2
  go_ret
  exact ⟨rfl, (Below.refl _ _).alloc (Nat.le_refl _) _⟩
theorem rowC_take {B : Nat} {w : World} {b off cap : Nat} {l : List (Int × ByteArray)} (k : Nat) (hk : k ≤ l.length) (hb : b < B) (h : ∀ j u, (kCells l)[j]? = some u → w.cell? ⟨b, off + j, none⟩ = some u) : RowC B w (.slice (some ⟨b, off, none⟩) (l.take k).length cap) (l.take k).length (kCells (l.take k)) := by
  refine ⟨_, _, rfl, fun _ => ⟨b, off, rfl, hb, fun j u hu => h j u ?_⟩⟩
  unfold kCells at hu ⊢
  rw [← cells2_take] at hu
  rw [List.getElem?_take] at hu
  split at hu
  · exact hu
  · cases hu
/-- a parameter's box -/
structure Box7p (W : World) (g : Nat) : Prop where
  c0 : W.cell? ⟨g, 0, none⟩ = some (.string ⟨#[]⟩)
  c1 : W.cell? ⟨g, 1, none⟩ = some (.int .i64 0)
  c2 : W.cell? ⟨g, 2, none⟩ = some (.int .i64 0)
  c3 : W.cell? ⟨g, 3, none⟩ = some (.int .i64 0)
  c4 : W.cell? ⟨g, 4, none⟩ = some (.int .i64 0)
  c5 : W.cell? ⟨g, 5, none⟩ = some (.bool false)
  c6 : W.cell? ⟨g, 6, none⟩ = some (.slice none 0 0)
  f0 : W.frozen? ⟨g, 0, none⟩ = false
  f1 : W.frozen? ⟨g, 1, none⟩ = false
  f2 : W.frozen? ⟨g, 2, none⟩ = false
  f3 : W.frozen? ⟨g, 3, none⟩ = false
  f4 : W.frozen? ⟨g, 4, none⟩ = false
  f5 : W.frozen? ⟨g, 5, none⟩ = false
  f6 : W.frozen? ⟨g, 6, none⟩ = false
theorem box7p_new (w : World) (T : TypeId) : Box7p (w.alloc (.cells #[(.string ⟨#[]⟩), (.int .i64 0), (.int .i64 0), (.int .i64 0), (.int .i64 0), (.bool false), (.slice none 0 0)] T)) w.heap.size := ⟨by simp [go_sem], by simp [go_sem], by simp [go_sem], by simp [go_sem], by simp [go_sem], by simp [go_sem], by simp [go_sem], by simp [go_sem], by simp [go_sem], by simp [go_sem], by simp [go_sem], by simp [go_sem], by simp [go_sem], by simp [go_sem]⟩
theorem Box7p.below {w W : World} {B g : Nat} (h : Box7p w g) (hb : Below B w W) (hg : g < B) : Box7p W g :=
  ⟨(hb.cell (p := ⟨g, 0, none⟩) hg).trans h.c0, (hb.cell (p := ⟨g, 1, none⟩) hg).trans h.c1, (hb.cell (p := ⟨g, 2, none⟩) hg).trans h.c2, (hb.cell (p := ⟨g, 3, none⟩) hg).trans h.c3, (hb.cell (p := ⟨g, 4, none⟩) hg).trans h.c4, (hb.cell (p := ⟨g, 5, none⟩) hg).trans h.c5, (hb.cell (p := ⟨g, 6, none⟩) hg).trans h.c6, (hb.frozen (p := ⟨g, 0, none⟩) hg).trans h.f0, (hb.frozen (p := ⟨g, 1, none⟩) hg).trans h.f1, (hb.frozen (p := ⟨g, 2, none⟩) hg).trans h.f2, (hb.frozen (p := ⟨g, 3, none⟩) hg).trans h.f3, (hb.frozen (p := ⟨g, 4, none⟩) hg).trans h.f4, (hb.frozen (p := ⟨g, 5, none⟩) hg).trans h.f5, (hb.frozen (p := ⟨g, 6, none⟩) hg).trans h.f6⟩
abbrev set7p (W : World) (g : Nat) : World := ((((((W.setCell ⟨g, 0, none⟩ (.string ⟨#[]⟩)).setCell ⟨g, 1, none⟩ (.int .i64 0)).setCell ⟨g, 2, none⟩ (.int .i64 0)).setCell ⟨g, 3, none⟩ (.int .i64 0)).setCell ⟨g, 4, none⟩ (.int .i64 0)).setCell ⟨g, 5, none⟩ (.bool false)).setCell ⟨g, 6, none⟩ (.slice none 0 0)
theorem Box7p.put {W : World} {g : Nat} (h : Box7p W g) : Box7p (set7p W g) g := by
  obtain ⟨a0, a1, a2, a3, a4, a5, a6, b0, b1, b2, b3, b4, b5, b6⟩ := h
  unfold set7p
  exact ⟨by simp [go_sem, a0, a1, a2, a3, a4, a5, a6], by simp [go_sem, a0, a1, a2, a3, a4, a5, a6], by simp [go_sem, a0, a1, a2, a3, a4, a5, a6], by simp [go_sem, a0, a1, a2, a3, a4, a5, a6], by simp [go_sem, a0, a1, a2, a3, a4, a5, a6], by simp [go_sem, a0, a1, a2, a3, a4, a5, a6], by simp [go_sem, a0, a1, a2, a3, a4, a5, a6], by simp [go_sem, b0, b1, b2, b3, b4, b5, b6], by simp [go_sem, b0, b1, b2, b3, b4, b5, b6], by simp [go_sem, b0, b1, b2, b3, b4, b5, b6], by simp [go_sem, b0, b1, b2, b3, b4, b5, b6], by simp [go_sem, b0, b1, b2, b3, b4, b5, b6], by simp [go_sem, b0, b1, b2, b3, b4, b5, b6], by simp [go_sem, b0, b1, b2, b3, b4, b5, b6]⟩
theorem below_set7p {B g : Nat} {w W : World} (h : Below B w W) (hg : B ≤ g) : Below B w (set7p W g) := ((((((h.setCell hg _).setCell hg _).setCell hg _).setCell hg _).setCell hg _).setCell hg _).setCell hg _
set_option maxRecDepth 100000 in
set_option maxHeartbeats 2000000 in
theorem rparamOf_nil (k : Int) (s : ByteArray) (w : World) : Calls Try.prog 100 #[(.agg #[.slice none 0 0, .slice none 0 0]), .agg #[.int .i64 k, .string s]] w fun e w' => e = .returned (.tuple #[.agg #[.string ⟨#[]⟩, .int .i64 0, .int .i64 0, .int .i64 0, .int .i64 0, .bool false, .slice none 0 0], .bool false]) ∧ Below w.heap.size w w' := by
  go_enter Try.func100, Try.ntmps100
  go_wp2_with fail
  refine (runit_nil k _).mono ?_
  rintro e w1 ⟨rfl, hb1⟩
  have hbx : Box7p w1 (w.heap.size + 1 + 1) := by
    have h := (box7p_new ((w.alloc (.cells #[.slice none 0 0, .slice none 0 0] 42)).alloc (.cells #[.int .i64 k, .string s] 47)) 147).below hb1 (by simp)
    simpa using h
  have HBEL := Lib.hid (below_set7p (g := w.heap.size + 1 + 1) (show Below w.heap.size w w1 from ((((Below.refl _ _).alloc (Nat.le_refl _) _).alloc (by simp) _).alloc (by simp; omega) _).trans (hb1.mono (by simp; omega))) (by omega))
  have HPUT := Lib.hid hbx.put
  obtain ⟨a0, a1, a2, a3, a4, a5, a6, b0, b1, b2, b3, b4, b5, b6⟩ := hbx
  clear hb1
  go_wp2_with fail
  change bodyPost _ _ _ _ _ (set7p w1 (w.heap.size + 1 + 1))
  have hcc := HPUT.out
  have hbel := HBEL.out
  generalize set7p w1 (w.heap.size + 1 + 1) = w3 at *
  obtain ⟨x0, x1, x2, x3, x4, x5, x6, _, _, _, _, _, _, _⟩ := hcc
  exact bodyPost_ret (v := .tuple #[.agg #[.string ⟨#[]⟩, .int .i64 0, .int .i64 0, .int .i64 0, .int .i64 0, .bool false, .slice none 0 0], .bool false]) (by simp [results, Try.results100, go_sem, x0, x1, x2, x3, x4, x5, x6]) rfl ⟨rfl, hbel⟩

/-- the fault of keys -/
def kyF (keys : List (Int × ByteArray)) : Int := if keys.length = 0 then 8 else if 400 < keys.length then 2 else if ¬ keys.Nodup then 6 else 0
theorem chkRun_eq (x : Run) : chkRun x = if chkEf x.ef ≠ 0 then chkEf x.ef else if kyF x.keys ≠ 0 then kyF x.keys else chkTm x.start x.tin x.tend x.tout x.rates := by
  unfold chkRun chkKy kyF fi3 fi2 whenW
  by_cases h1 : chkEf x.ef = 0
  · by_cases h2 : x.keys.length = 0
    · simp [h1, h2]
    · by_cases h3 : 400 < x.keys.length
      · simp [h1, h2, h3]
      · by_cases h4 : x.keys.Nodup
        · simp [h1, h2, h3, h4]
        · simp [h1, h2, h3, h4]
  · simp [h1]
set_option maxRecDepth 100000 in
set_option maxHeartbeats 4000000 in
theorem rcheckKeys_nil (kv : Value) (keys : List (Int × ByteArray)) (w : World) (hx : KeyS w.heap.size w kv keys) :
    Calls Try.prog 70 #[(.agg #[.slice none 0 0, .slice none 0 0]), .bool false, kv] w fun e w' => e = .returned (.int .i64 (kyF keys)) ∧ Below w.heap.size w w' := by
  have HG := Lib.hid (fun (h : 0 < keys.length) => rowC_get (RowC.of_cells hx) h)
  obtain ⟨ao, cap, rfl, hk1, hk2, _⟩ := hx
  unfold maxLen at hk2
  have BX := Lib.hid (show ∀ W, Below (w.heap.size + 1) (w.alloc (.cells #[.slice none 0 0, .slice none 0 0] 42)) W → Below w.heap.size w W ∧ w.heap.size < W.heap.size ∧ W.cell? ⟨w.heap.size, 0, none⟩ = some (.slice none 0 0) ∧ W.cell? ⟨w.heap.size, 1, none⟩ = some (.slice none 0 0) from fun W hW => by
    have hz := hW.size
    simp at hz
    exact ⟨((Below.refl _ _).alloc (Nat.le_refl _) _).trans (hW.mono (by omega)), by omega, (hW.cell (p := ⟨w.heap.size, 0, none⟩) (by simp)).trans (by simp [go_sem]), (hW.cell (p := ⟨w.heap.size, 1, none⟩) (by simp)).trans (by simp [go_sem])⟩)
  have HV0 := Lib.hid (show keys.length = 0 → kyF keys = 8 from fun h => if_pos h)
  have HV1 := Lib.hid (show ¬ keys.length = 0 → 400 < keys.length → kyF keys = 2 from fun h h' => by unfold kyF; rw [if_neg h, if_pos h'])
  have HV2 := Lib.hid (show ¬ keys.length = 0 → ¬ 400 < keys.length → kyF keys = if ¬ keys.Nodup then 6 else 0 from fun h h' => by unfold kyF; rw [if_neg h, if_neg h'])
  generalize kyF keys = RES at *
  by_cases h0 : keys.length = 0
  · have HV := Lib.hid (HV0.out h0)
    have hq0 : ((keys.length : Int) == 0) = true := by rw [h0]; rfl
    clear h0
    go_enter Try.func70, Try.ntmps70
    go_wp2_with fail
    go_ret
    exact ⟨by rw [HV.out] <;> rfl, (Below.refl _ _).alloc (Nat.le_refl _) _⟩
  · by_cases h4 : 400 < keys.length
    · have HV := Lib.hid (HV1.out h0 h4)
      have hq0 : ((keys.length : Int) == 0) = false := by simpa using h0
      go_enter Try.func70, Try.ntmps70
      go_wp2_with fail
      go_ret
      exact ⟨by rw [HV.out] <;> rfl, (Below.refl _ _).alloc (Nat.le_refl _) _⟩
    · have HV := Lib.hid (HV2.out h0 h4)
      have hq0 : ((keys.length : Int) == 0) = false := by simpa using h0
      have hl4 : keys.length ≤ 400 := by omega
      clear HV0 HV1 HV2
      go_enter Try.func70, Try.ntmps70
      go_wp2_with fail
      go_loopw [21] (fun i wr => ∃ k : Nat, k ≤ keys.length ∧ i = .int .i64 k ∧ Hid ((keys.take k).Nodup) ∧ Hid (Below (w.heap.size + 1) (w.alloc (.cells #[.slice none 0 0, .slice none 0 0] 42)) wr)) (fun i _ => keys.length - (intOf i).toNat)
      case atStart => exact ⟨0, Nat.zero_le _, rfl, Lib.hid (by simp), Lib.hid (Below.refl _ _)⟩
      case round =>
        obtain ⟨k, hk, rfl, HND, HBW⟩ := hrel
        obtain ⟨hB, hz, r0, r1⟩ := BX.out _ HBW.out
        by_cases hlt : k < keys.length
        · obtain ⟨b, off, _, e0, hbb, hc⟩ := HG.out (by omega)
          injection e0 with e1 _ e3
          subst e1 e3
          obtain ⟨g1, g2⟩ := kCells_get keys k hlt
          have d0 := hc wr hB _ _ g1
          have d1 := hc wr hB (k * 2 + 1) _ g2
          rw [← Nat.add_assoc] at d1
          have hbr := Nat.lt_of_lt_of_le hbb hB.size
          have HND2 := Lib.hid (nodup_take_succ keys k hlt)
          have HNO := Lib.hid (not_nodup_of keys k hlt)
          have CT := Lib.hid (fun (m : Int) (s : ByteArray) W (hb : Below w.heap.size w W) => keys_contains (some ⟨b, off, none⟩) cap (keys.take k) m s W (rowC_take k hk (Nat.lt_of_lt_of_le hbb hb.size) (hc W hb)) (by rw [List.length_take]; omega))
          rw [show (keys.take k).length = k by rw [List.length_take]; omega] at CT
          have HB := Lib.hid hB
          clear hc hB g1 g2
          generalize keys[k] = kk at *
          obtain ⟨k1, k2⟩ := kk
          simp only at d0 d1
          go_wp2_with fail
          refine (rparamOf_nil k1 k2 _).mono ?_
          rintro e w2 ⟨rfl, hb2⟩
          have HW2 := Lib.hid (up_below (up_alloc HBW.out (by simp) (.cells #[.int .i64 k1, .string k2] 47)) (by simp) hb2)
          have e0 : w2.cell? ⟨wr.heap.size, 0, none⟩ = some (.int .i64 k1) := (hb2.cell (p := ⟨wr.heap.size, 0, none⟩) (by simp)).trans (by simp [go_sem])
          have e1 : w2.cell? ⟨wr.heap.size, 1, none⟩ = some (.string k2) := (hb2.cell (p := ⟨wr.heap.size, 1, none⟩) (by simp)).trans (by simp [go_sem])
          have hz2 : wr.heap.size < w2.heap.size := by have := hb2.size; simp at this; omega
          clear hb2
          have HW3 := Lib.hid (up_alloc HW2.out (by simp) (.cells #[(.string ⟨#[]⟩), (.int .i64 0), (.int .i64 0), (.int .i64 0), (.int .i64 0), (.bool false), (.slice none 0 0)] 147))
          go_upto_region 11 with fail
          go_cut [41] (fun s41 wx => ∃ bb : Bool, s41 = .bool bb ∧ Hid (bb = true ↔ (k1, k2) ∈ keys.take k) ∧ Hid (Below (w.heap.size + 1) (w.alloc (.cells #[.slice none 0 0, .slice none 0 0] 42)) wx))
          case first =>
            have hwd := HW3.out.drew
            have hkc : ¬ cap < k := by omega
            go_region_with (first | (go_at_call 23; ((with_reducible refine (CT.out _ _ _ (BX.out _ hwd).1).mono ?_); rintro e w4 ⟨⟨bb, rfl, hbb2⟩, hb4⟩; have HBB := Lib.hid hbb2; have HW4 := Lib.hid (up_below hwd (by simp) hb4); clear hbb2 hb4)) | fail)
            all_goals go_wp2_with fail
            all_goals go_meet
            all_goals exact ⟨_, rfl, HBB, HW4⟩
          case rest =>
            obtain ⟨bb, rfl, HBB, HW5⟩ := hcut
            have HB5 := Lib.hid (BX.out _ HW5.out).1
            cases bb
            · have HND3 := Lib.hid (HND2.out.2 ⟨HND.out, fun h => by have := HBB.out.2 h; cases this⟩)
              go_wp2_with fail
              go_roundw
              case rel => exact ⟨k + 1, by omega, by go_num, HND3, HW5⟩
              case measure => simp [intOf]; omega
            · have HR6 := Lib.hid (show RES = 6 by rw [HV.out, if_pos (HNO.out (HBB.out.1 rfl))])
              go_wp2_with fail
              go_ret
              exact ⟨by rw [HR6.out] <;> rfl, HB5.out⟩
        · have HR0 := Lib.hid (show RES = 0 by
            have h := HND.out
            rw [List.take_of_length_le (by omega)] at h
            rw [HV.out, if_neg (by simpa using h)])
          have HB5 := Lib.hid hB
          go_wp2_with fail
          go_ret
          exact ⟨by rw [HR0.out] <;> rfl, HB5.out⟩
set_option maxRecDepth 100000 in
set_option maxHeartbeats 4000000 in
theorem rcheckAlone_any (x : Run) (sv kv rv : Value) (w : World) (hx : RunAt w.heap.size w x sv kv rv) (hf : RunFit x) :
    Calls Try.prog 35 #[runV x sv kv rv] w fun e w' => e = .returned (.int .i64 (chkRun x)) ∧ Below w.heap.size w w' := by
  have CE := Lib.hid (fun W (hb : Below w.heap.size w W) => fun ao cap (hsv : sv = .slice ao x.ef.steps.length cap) => refCheck_any x.ef.form x.ef.low x.ef.high x.ef.cycle x.ef.width x.ef.spread x.ef.back x.ef.rel ao cap x.ef.steps W (stepsAt_of (by rw [← hsv]; exact (hx.steps.below hb).more hb.size)) (by obtain ⟨_, _, _, h, _⟩ := hx.steps; exact h))
  have CK := Lib.hid (fun W (hb : Below w.heap.size w W) => rcheckKeys_nil kv x.keys W (CellsS.more (CellsS.below hx.keys hb) hb.size))
  have CT := Lib.hid (fun W (hb : Below w.heap.size w W) => fun so ko ro scap kcap rcap (h : rv = .slice ro x.rates.length rcap) => rcheckTimes_any x.ef.form x.ef.low x.ef.high x.ef.cycle x.ef.width x.ef.spread x.start x.tin x.tend x.tout x.ef.back x.ef.rel so ko ro scap kcap rcap x.ef.steps x.keys x.rates W (by rw [← h]; exact CellsS.more (CellsS.below hx.rates hb) hb.size))
  have HEQ := Lib.hid (chkRun_eq x)
  obtain ⟨⟨form, low, high, cycle, width, spread, back, rel, st⟩, keys, start, rates, tin, tend, tout⟩ := x
  obtain ⟨⟨so, scap, rfl, _, _⟩, ⟨ko, kcap, rfl, _, _⟩, ⟨ro, rcap, rfl, _, _⟩⟩ := hx
  have CE := Lib.hid (fun W (hb : Below w.heap.size w W) => CE.out W hb _ _ rfl)
  have CT := Lib.hid (fun W (hb : Below w.heap.size w W) => CT.out W hb so ko ro scap kcap rcap rfl)
  simp only [runV, chkEf] at *
  generalize chkRun ⟨⟨form, low, high, cycle, width, spread, back, rel, st⟩, keys, start, rates, tin, tend, tout⟩ = RES at *
  generalize chkF form low high cycle width spread st = ce at *
  generalize kyF keys = ky at *
  generalize chkTm start tin tend tout rates = tm at *
  clear hf
  have KC := Lib.hid (run_below w (.int .i64 form) (.int .i64 low) (.int .i64 high) (.int .i64 cycle) (.int .i64 width) (.int .i64 spread) (.bool back) (.bool rel) (.slice so st.length scap) (.slice ko keys.length kcap) (.int .i64 start) (.slice ro rates.length rcap) (.int .i64 tin) (.int .i64 tend) (.int .i64 tout) 28)
  have KR : Below (w.heap.size + 1) (w.alloc (.cells #[.int .i64 form, .int .i64 low, .int .i64 high, .int .i64 cycle, .int .i64 width, .int .i64 spread, .bool back, .bool rel, .slice so st.length scap, .slice ko keys.length kcap, .int .i64 start, .slice ro rates.length rcap, .int .i64 tin, .int .i64 tend, .int .i64 tout] 28)) (w.alloc (.cells #[.int .i64 form, .int .i64 low, .int .i64 high, .int .i64 cycle, .int .i64 width, .int .i64 spread, .bool back, .bool rel, .slice so st.length scap, .slice ko keys.length kcap, .int .i64 start, .slice ro rates.length rcap, .int .i64 tin, .int .i64 tend, .int .i64 tout] 28)) := Below.refl _ _
  go_enter Try.func35, Try.ntmps35
  go_wp2_with fail
  refine (CE.out _ (KC.out _ KR).1).mono ?_
  rintro e w1 ⟨rfl, hb1⟩
  have HW1 := Lib.hid (up_below KR (by simp) hb1)
  clear hb1 KR
  obtain ⟨hB, hz, q0, q1, q2, q3, q4, q5, q6, q7, q8, q9, q10, q11, q12, q13, q14⟩ := KC.out _ HW1.out
  have HB1 := Lib.hid hB
  clear hB
  by_cases h1 : ce = 0
  rotate_left
  · have HV := Lib.hid (show RES = ce by rw [HEQ.out, if_pos h1])
    go_wp2_with fail
    go_ret
    exact ⟨by rw [HV.out] <;> rfl, HB1.out⟩
  · have HEQ2 := Lib.hid (show RES = if ky ≠ 0 then ky else tm by rw [HEQ.out, if_neg (fun h => h h1)])
    clear HEQ
    subst h1
    go_wp2_with fail
    refine (CK.out _ HB1.out).mono ?_
    rintro e w2 ⟨rfl, hb2⟩
    have HW2 := Lib.hid (up_below HW1.out (by simp) hb2)
    clear hb2 q0 q1 q2 q3 q4 q5 q6 q7 q8 q9 q10 q11 q12 q13 q14 hz
    obtain ⟨hB, hz, q0, q1, q2, q3, q4, q5, q6, q7, q8, q9, q10, q11, q12, q13, q14⟩ := KC.out _ HW2.out
    have HB2 := Lib.hid hB
    clear hB
    by_cases h2 : ky = 0
    rotate_left
    · have HV := Lib.hid (show RES = ky by rw [HEQ2.out, if_pos h2])
      go_wp2_with fail
      go_ret
      exact ⟨by rw [HV.out] <;> rfl, HB2.out⟩
    · have HV := Lib.hid (show RES = tm by rw [HEQ2.out, if_neg (fun h => h h2)])
      subst h2
      go_wp2_with fail
      refine (CT.out _ HB2.out).mono ?_
      rintro e w3 ⟨rfl, hb3⟩
      have HB3 := Lib.hid (HB2.out.trans (hb3.mono HB2.out.size))
      clear hb3
      go_wp2_with fail
      go_ret
      exact ⟨by rw [HV.out] <;> rfl, HB3.out⟩
end Go.Proofs.Ytopmdeefcjdadaa
