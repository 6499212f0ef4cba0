/- effect.check of a running effect, with a map of the keys that there are. (printed by wip/gen/gen_aprun.py, turned from XRunCheck) -/
import Derived.Test.YtopmdeefcjdadaaT43M22
import Derived.Test.YtopmdeefcjdadaaT43M19

namespace Go.Proofs.Ytopmdeefcjdadaa
open Go.RowKit
set_option linter.unusedVariables false
set_option linter.unusedSimpArgs false
set_option maxRecDepth 100000 in
set_option maxHeartbeats 16000000 in
theorem check_has (r : Rig) (x : Run) (sv kv rv : Value) (mb m : Nat) (w : World) (hM : HasM w mb m (dfO r)) (hx : RunAt w.heap.size w x sv kv rv) (hf : RunFit x) :
    Calls Try.prog 27 #[runV x sv kv rv, .map (some mb)] w fun e w' => e = .returned (.int .i64 (chkRunR r x)) ∧ Below w.heap.size w w' := by
  have HMK := Lib.hid (show mb < w.heap.size ∧ ∀ W, Below w.heap.size w W → HasM W mb m (dfO r) from ⟨hM.lt, fun W hb => hM.below hb⟩)
  clear hM
  have CE := Lib.hid (fun W (hb : Below w.heap.size w W) => fun ao cap (hsv : sv = .slice ao x.ef.steps.length cap) => efCheck_any x.ef.form x.ef.low x.ef.high x.ef.cycle x.ef.width x.ef.spread x.ef.back x.ef.rel ao cap x.ef.steps W (stepsAt_of (by rw [← hsv]; exact (hx.steps.below hb).more hb.size)) (by obtain ⟨_, _, _, h, _⟩ := hx.steps; exact h))
  have HKF := Lib.hid hf.2.1
  obtain ⟨⟨form, low, high, cycle, width, spread, back, rel, st⟩, keys, start, rates, tin, tend, tout⟩ := x
  obtain ⟨hsv, hkv, hrv⟩ := hx
  simp only [runV] at *
  obtain ⟨so, scap, rfl, _, _⟩ := hsv
  obtain ⟨ko, kcap, rfl, hk1, hk2, hk3⟩ := hkv
  obtain ⟨ro, rcap, rfl, hr1, hr2, hr3⟩ := hrv
  unfold maxLen at hk2 hr2
  have CE := Lib.hid (fun W (hb : Below w.heap.size w W) => CE.out W hb _ _ rfl)
  have HK := Lib.hid (show ∀ k (h : k < keys.length), ∃ b off, ko = some ⟨b, off, none⟩ ∧ b < w.heap.size ∧ ∀ W, Below w.heap.size w W → W.cell? ⟨b, off + k * 2, none⟩ = some (.int .i64 keys[k].1) ∧ W.cell? ⟨b, off + k * 2 + 1, none⟩ = some (.string keys[k].2) from fun k h => by
    obtain ⟨b, off, h1, h2, h3⟩ := hk3 (by omega)
    have hg := cells2_get (fun k : Int × ByteArray => Value.int .i64 k.1) (fun k => .string k.2) keys k h
    exact ⟨b, off, h1, h2, fun W hb => ⟨(hb.cell (p := ⟨b, off + k * 2, none⟩) h2).trans (h3 _ _ hg.1), (hb.cell (p := ⟨b, off + k * 2 + 1, none⟩) h2).trans (h3 (k * 2 + 1) _ hg.2)⟩⟩)
  have HR := Lib.hid (show ∀ k (h : k < rates.length), ∃ b off, ro = some ⟨b, off, none⟩ ∧ b < w.heap.size ∧ ∀ W, Below w.heap.size w W → W.cell? ⟨b, off + k * 2, none⟩ = some (.int .i64 rates[k].1) ∧ W.cell? ⟨b, off + k * 2 + 1, none⟩ = some (.int .i64 rates[k].2) from fun k h => by
    obtain ⟨b, off, h1, h2, h3⟩ := hr3 (by omega)
    have hg := cells2_get (fun k : Int × Int => Value.int .i64 k.1) (fun k => .int .i64 k.2) rates k h
    exact ⟨b, off, h1, h2, fun W hb => ⟨(hb.cell (p := ⟨b, off + k * 2, none⟩) h2).trans (h3 _ _ hg.1), (hb.cell (p := ⟨b, off + k * 2 + 1, none⟩) h2).trans (h3 (k * 2 + 1) _ hg.2)⟩⟩)
  clear hk3 hr3 hf
  have HC0 := Lib.hid (show chkRunR r ⟨⟨form, low, high, cycle, width, spread, back, rel, st⟩, keys, start, rates, tin, tend, tout⟩ = (if chkKy (chkF form low high cycle width spread st) keys ≠ 0 then chkKy (chkF form low high cycle width spread st) keys else if scanF (keyFR r) keys 0 ≠ 0 then scanF (keyFR r) keys 0 else chkTm start tin tend tout rates) from rfl)
  have HFE := Lib.hid (show chkKy (chkF form low high cycle width spread st) keys = fi3 (chkF form low high cycle width spread st) (whenW (decide (keys.length = 0)) 8) (whenW (decide (400 < keys.length)) 2) from rfl)
  have HLEN := Lib.hid (show chkKy (chkF form low high cycle width spread st) keys = 0 → 0 < keys.length ∧ keys.length ≤ 400 from fun h => by
    unfold chkKy fi3 fi2 whenW at h
    by_cases c : keys.length = 0
    · simp [c] at h
      split at h <;> simp_all
    · by_cases d : 400 < keys.length
      · simp [c, d] at h
        split at h <;> simp_all
      · omega)
  generalize chkRunR r ⟨⟨form, low, high, cycle, width, spread, back, rel, st⟩, keys, start, rates, tin, tend, tout⟩ = RES at *
  generalize chkKy (chkF form low high cycle width spread st) keys = E1 at *
  generalize chkF form low high cycle width spread st = ce at *
  have KC := Lib.hid (show ∀ W, Below (w.heap.size + 1) (w.alloc (.cells #[.int .i64 form, .int .i64 low, .int .i64 high, .int .i64 cycle, .int .i64 width, .int .i64 spread, .bool back, .bool rel, .slice so st.length scap, .slice ko keys.length kcap, .int .i64 start, .slice ro rates.length rcap, .int .i64 tin, .int .i64 tend, .int .i64 tout] 28)) W → (Below w.heap.size w W ∧ w.heap.size < W.heap.size ∧ (W.cell? ⟨w.heap.size, 0, none⟩ = some (.int .i64 form) ∧ W.cell? ⟨w.heap.size, 1, none⟩ = some (.int .i64 low) ∧ W.cell? ⟨w.heap.size, 2, none⟩ = some (.int .i64 high) ∧ W.cell? ⟨w.heap.size, 3, none⟩ = some (.int .i64 cycle) ∧ W.cell? ⟨w.heap.size, 4, none⟩ = some (.int .i64 width) ∧ W.cell? ⟨w.heap.size, 5, none⟩ = some (.int .i64 spread) ∧ W.cell? ⟨w.heap.size, 6, none⟩ = some (.bool back) ∧ W.cell? ⟨w.heap.size, 7, none⟩ = some (.bool rel) ∧ W.cell? ⟨w.heap.size, 8, none⟩ = some (.slice so st.length scap) ∧ W.cell? ⟨w.heap.size, 9, none⟩ = some (.slice ko keys.length kcap) ∧ W.cell? ⟨w.heap.size, 10, none⟩ = some (.int .i64 start) ∧ W.cell? ⟨w.heap.size, 11, none⟩ = some (.slice ro rates.length rcap) ∧ W.cell? ⟨w.heap.size, 12, none⟩ = some (.int .i64 tin) ∧ W.cell? ⟨w.heap.size, 13, none⟩ = some (.int .i64 tend) ∧ W.cell? ⟨w.heap.size, 14, none⟩ = some (.int .i64 tout))) from fun W hW => by
    have hz := hW.size
    simp at hz
    exact ⟨((Below.refl _ _).alloc (Nat.le_refl _) _).trans (hW.mono (by omega)), by omega, (hW.cell (p := ⟨w.heap.size, 0, none⟩) (by simp)).trans (by simp [go_sem]), (hW.cell (p := ⟨w.heap.size, 1, none⟩) (by simp)).trans (by simp [go_sem]), (hW.cell (p := ⟨w.heap.size, 2, none⟩) (by simp)).trans (by simp [go_sem]), (hW.cell (p := ⟨w.heap.size, 3, none⟩) (by simp)).trans (by simp [go_sem]), (hW.cell (p := ⟨w.heap.size, 4, none⟩) (by simp)).trans (by simp [go_sem]), (hW.cell (p := ⟨w.heap.size, 5, none⟩) (by simp)).trans (by simp [go_sem]), (hW.cell (p := ⟨w.heap.size, 6, none⟩) (by simp)).trans (by simp [go_sem]), (hW.cell (p := ⟨w.heap.size, 7, none⟩) (by simp)).trans (by simp [go_sem]), (hW.cell (p := ⟨w.heap.size, 8, none⟩) (by simp)).trans (by simp [go_sem]), (hW.cell (p := ⟨w.heap.size, 9, none⟩) (by simp)).trans (by simp [go_sem]), (hW.cell (p := ⟨w.heap.size, 10, none⟩) (by simp)).trans (by simp [go_sem]), (hW.cell (p := ⟨w.heap.size, 11, none⟩) (by simp)).trans (by simp [go_sem]), (hW.cell (p := ⟨w.heap.size, 12, none⟩) (by simp)).trans (by simp [go_sem]), (hW.cell (p := ⟨w.heap.size, 13, none⟩) (by simp)).trans (by simp [go_sem]), (hW.cell (p := ⟨w.heap.size, 14, none⟩) (by simp)).trans (by simp [go_sem])⟩)
  have KA := Lib.hid (show ∀ W o, Below (w.heap.size + 1) (w.alloc (.cells #[.int .i64 form, .int .i64 low, .int .i64 high, .int .i64 cycle, .int .i64 width, .int .i64 spread, .bool back, .bool rel, .slice so st.length scap, .slice ko keys.length kcap, .int .i64 start, .slice ro rates.length rcap, .int .i64 tin, .int .i64 tend, .int .i64 tout] 28)) W → Below (w.heap.size + 1) (w.alloc (.cells #[.int .i64 form, .int .i64 low, .int .i64 high, .int .i64 cycle, .int .i64 width, .int .i64 spread, .bool back, .bool rel, .slice so st.length scap, .slice ko keys.length kcap, .int .i64 start, .slice ro rates.length rcap, .int .i64 tin, .int .i64 tend, .int .i64 tout] 28)) (W.alloc o) from fun W o h => h.alloc (by have := h.size; simp at this; omega) o)
  have KM := Lib.hid (show ∀ W W', Below (w.heap.size + 1) (w.alloc (.cells #[.int .i64 form, .int .i64 low, .int .i64 high, .int .i64 cycle, .int .i64 width, .int .i64 spread, .bool back, .bool rel, .slice so st.length scap, .slice ko keys.length kcap, .int .i64 start, .slice ro rates.length rcap, .int .i64 tin, .int .i64 tend, .int .i64 tout] 28)) W → Below W.heap.size W W' → Below (w.heap.size + 1) (w.alloc (.cells #[.int .i64 form, .int .i64 low, .int .i64 high, .int .i64 cycle, .int .i64 width, .int .i64 spread, .bool back, .bool rel, .slice so st.length scap, .slice ko keys.length kcap, .int .i64 start, .slice ro rates.length rcap, .int .i64 tin, .int .i64 tend, .int .i64 tout] 28)) W' from fun W W' h1 h2 => h1.trans (h2.mono (by have := h1.size; simp at this; omega)))
  have hq0 : ((keys.length : Int) == 0) = decide (keys.length = 0) := by
    by_cases c : keys.length = 0
    · simp [c]
    · simp [c]
  have hq1 : (decide ((keys.length : Int) > 400)) = decide (400 < keys.length) := by congr 1; exact propext ⟨fun h => by omega, fun h => by omega⟩
  go_enter Try.func27, Try.ntmps27
  go_upto_region 1 with fail
  go_cut [5] (fun s5 wx => s5 = .int .i64 E1 ∧ Below (w.heap.size + 1) (w.alloc (.cells #[.int .i64 form, .int .i64 low, .int .i64 high, .int .i64 cycle, .int .i64 width, .int .i64 spread, .bool back, .bool rel, .slice so st.length scap, .slice ko keys.length kcap, .int .i64 start, .slice ro rates.length rcap, .int .i64 tin, .int .i64 tend, .int .i64 tout] 28)) wx)
  case first =>
    have hw0 : Below (w.heap.size + 1) (w.alloc (.cells #[.int .i64 form, .int .i64 low, .int .i64 high, .int .i64 cycle, .int .i64 width, .int .i64 spread, .bool back, .bool rel, .slice so st.length scap, .slice ko keys.length kcap, .int .i64 start, .slice ro rates.length rcap, .int .i64 tin, .int .i64 tend, .int .i64 tout] 28)) (w.alloc (.cells #[.int .i64 form, .int .i64 low, .int .i64 high, .int .i64 cycle, .int .i64 width, .int .i64 spread, .bool back, .bool rel, .slice so st.length scap, .slice ko keys.length kcap, .int .i64 start, .slice ro rates.length rcap, .int .i64 tin, .int .i64 tend, .int .i64 tout] 28)) := Below.refl _ _
    have hw1 : Below (w.heap.size + 1) (w.alloc (.cells #[.int .i64 form, .int .i64 low, .int .i64 high, .int .i64 cycle, .int .i64 width, .int .i64 spread, .bool back, .bool rel, .slice so st.length scap, .slice ko keys.length kcap, .int .i64 start, .slice ro rates.length rcap, .int .i64 tin, .int .i64 tend, .int .i64 tout] 28)) (World.drew (w.alloc (.cells #[.int .i64 form, .int .i64 low, .int .i64 high, .int .i64 cycle, .int .i64 width, .int .i64 spread, .bool back, .bool rel, .slice so st.length scap, .slice ko keys.length kcap, .int .i64 start, .slice ro rates.length rcap, .int .i64 tin, .int .i64 tend, .int .i64 tout] 28))) := (Below.refl _ _).drew
    go_region_held3 (fun W => W.cell? ⟨w.heap.size, 0, none⟩ = some (.int .i64 form) ∧ W.cell? ⟨w.heap.size, 1, none⟩ = some (.int .i64 low) ∧ W.cell? ⟨w.heap.size, 2, none⟩ = some (.int .i64 high) ∧ W.cell? ⟨w.heap.size, 3, none⟩ = some (.int .i64 cycle) ∧ W.cell? ⟨w.heap.size, 4, none⟩ = some (.int .i64 width) ∧ W.cell? ⟨w.heap.size, 5, none⟩ = some (.int .i64 spread) ∧ W.cell? ⟨w.heap.size, 6, none⟩ = some (.bool back) ∧ W.cell? ⟨w.heap.size, 7, none⟩ = some (.bool rel) ∧ W.cell? ⟨w.heap.size, 8, none⟩ = some (.slice so st.length scap) ∧ W.cell? ⟨w.heap.size, 9, none⟩ = some (.slice ko keys.length kcap) ∧ W.cell? ⟨w.heap.size, 10, none⟩ = some (.int .i64 start) ∧ W.cell? ⟨w.heap.size, 11, none⟩ = some (.slice ro rates.length rcap) ∧ W.cell? ⟨w.heap.size, 12, none⟩ = some (.int .i64 tin) ∧ W.cell? ⟨w.heap.size, 13, none⟩ = some (.int .i64 tend) ∧ W.cell? ⟨w.heap.size, 14, none⟩ = some (.int .i64 tout))
      (with_reducible first | exact (KC.out _ (by assumption)).2.2 | exact (KC.out _ (KA.out _ _ (by assumption))).2.2)
      (first
        | (go_at_call 43; (with_reducible refine (CE.out _ (KC.out _ (by assumption)).1).mono ?_); rintro e WC ⟨rfl, hbC⟩; have hwC := KM.out _ _ (by assumption) hbC; clear hbC)
        | (go_at_call 28; (with_reducible refine (when_R _ _ _).mono ?_); rintro e w' ⟨rfl, rfl⟩)
        | (go_at_call 26; refine (first_3 _ ce (whenW (decide (keys.length = 0)) 8) (whenW (decide (400 < keys.length)) 2) _ (by simp [go_sem, hq0, hq1]) (by simp [go_sem, hq0, hq1]) (by simp [go_sem, hq0, hq1])).mono ?_; rw [← HFE.out]; rintro e w' ⟨rfl, rfl⟩)
        | fail)
    all_goals go_wp2_with fail
    all_goals go_meet
    all_goals exact ⟨rfl, by with_reducible first | assumption | exact KA.out _ _ (by assumption)⟩
  case rest =>
    obtain ⟨rfl, hb2⟩ := hcut
    obtain ⟨w2, rfl⟩ : ∃ x, x = wc := ⟨wc, rfl⟩
    by_cases hE : E1 = 0
    rotate_left
    · have HV := Lib.hid (show RES = E1 by rw [HC0.out, if_pos hE])
      have HB := Lib.hid (KC.out _ hb2).1
      clear hb2
      go_wp2_with fail
      go_ret
      exact ⟨by rw [HV.out] <;> rfl, HB.out⟩
    · obtain ⟨hl0, hl1⟩ := HLEN.out hE
      have HC := Lib.hid (show RES = if scanF (keyFR r) keys 0 ≠ 0 then scanF (keyFR r) keys 0 else chkTm start tin tend tout rates by rw [HC0.out, if_neg (by simp [hE])])
      subst hE
      clear HC0 HFE HLEN hq0 hq1
      obtain ⟨hB2, hz2, q0, q1, q2, q3, q4, q5, q6, q7, q8, q9, q10, q11, q12, q13, q14⟩ := KC.out w2 hb2
      have HBM := Lib.hid (KA.out _ (.map #[] 0) hb2)
      clear hB2
      have hmm := @run_makeMap Try.prog
      go_wp2_with fail
      clear hmm

      go_loopw [35] (fun i wr => ∃ k : Nat, k ≤ keys.length ∧ i = .int .i64 k ∧ Hid (RES = if scanF (keyFR r) keys k ≠ 0 then scanF (keyFR r) keys k else chkTm start tin tend tout rates) ∧ Hid (Below (w.heap.size + 1) (w.alloc (.cells #[.int .i64 form, .int .i64 low, .int .i64 high, .int .i64 cycle, .int .i64 width, .int .i64 spread, .bool back, .bool rel, .slice so st.length scap, .slice ko keys.length kcap, .int .i64 start, .slice ro rates.length rcap, .int .i64 tin, .int .i64 tend, .int .i64 tout] 28)) wr) ∧ Hid (SeenM wr Try.prog 47 4 w2.heap.size k ((keys.take k).map keyL)) ∧ w2.heap.size < wr.heap.size) (fun i _ => keys.length - (intOf i).toNat)
      case atStart => exact ⟨0, Nat.zero_le _, rfl, HC, HBM, Lib.hid (by simpa using seen_made w2 _ _ _), by simp⟩
      case round =>
        obtain ⟨k, hk, rfl, HND, HBW, HSE, hlw⟩ := hrel
        have hmbl := HMK.out.1
        obtain ⟨hB2, hz3, q0, q1, q2, q3, q4, q5, q6, q7, q8, q9, q10, q11, q12, q13, q14⟩ := KC.out wr HBW.out
        by_cases hlt : k < keys.length
        · obtain ⟨b, off, rfl, hbb, hc⟩ := HK.out k hlt
          obtain ⟨d0, d1⟩ := hc wr hB2
          have hbr : b < wr.heap.size := by omega
          have HKK := Lib.hid (HKF.out _ (List.getElem_mem hlt))
          have hkey := Lib.hid (keyOf_key HKK.out)
          have HIN := Lib.hid (show keyL keys[k] ∈ (keys.take k).map keyL ↔ keys[k] ∈ keys.take k from ⟨fun h => by
            obtain ⟨y, hy, he⟩ := List.mem_map.1 h
            have := keyL_inj (HKF.out _ (List.mem_of_mem_take hy)) HKK.out he
            rwa [← this], fun h => List.mem_map.2 ⟨_, h, rfl⟩⟩)
          have HSG := Lib.hid (scanF_good (keyFR r) keys k hlt)
          have HSB := Lib.hid (scanF_bad (keyFR r) keys k hlt)
          have HFD := Lib.hid (show keyFR r (keys.take k) keys[k] = if (dfO r keys[k]).isNone then 8 else if (keys.take k).any (fun y => decide (y = keys[k])) then 6 else 0 from rfl)
          have HAI := Lib.hid (show (keys.take k).any (fun y => decide (y = keys[k])) = true ↔ keys[k] ∈ keys.take k by rw [List.any_eq_true]; exact ⟨fun ⟨y, hy, e⟩ => by simp at e; rwa [← e], fun h => ⟨_, h, by simp⟩⟩)
          generalize keyFR r (keys.take k) keys[k] = FF at *
          have HTK := Lib.hid (show (keys.take (k + 1)).map keyL = (keys.take k).map keyL ++ [keyL keys[k]] by rw [List.take_succ_eq_append_getElem hlt, List.map_append]; rfl)
          have HKV := Lib.hid (show ∀ o, SeenM (wr.alloc o) Try.prog 47 4 w2.heap.size k ((keys.take k).map keyL) from fun o => HSE.out.kept (World.grownBy_alloc _ _ none) (by simp))
          generalize (keys.take k).map keyL = S at *
          generalize keys[k] = kk at *
          obtain ⟨ku, ks⟩ := kk
          obtain ⟨DO, hDO⟩ : ∃ o, dfO r (ku, ks) = o := ⟨_, rfl⟩
          have hq := ((HMK.out.2 wr hB2).alloc (.cells #[.int .i64 ku, .string ks] 47)).look2 HKK.out hDO
          rw [hDO] at HFD
          have hmq : (some mb : Option Nat).isNone = false := rfl
          clear hc hB2
          have qmap : ∀ (w : World) (m : Option Nat), (binOp .neq 94 (.map m) (.map none)).run Try.prog w = .ok (.bool (!m.isNone)) w := fun w m => run_neq_map_nil w _ _ _ m Try.underlying94
          cases DO with
          | none =>
            have HE : FF = 8 := by rw [HFD.out]; rfl
            have HV := Lib.hid (show RES = 8 by rw [HND.out, HSB.out (by rw [HE]; decide), HE]; rfl)
            clear HE
            simp only [Option.getD_none, Option.isSome_none] at hq
            go_wp2_with fail
            go_ret
            exact ⟨by rw [HV.out] <;> rfl, (KC.out _ (KA.out _ _ HBW.out)).1⟩
          | some dv =>
          simp only [Option.getD_some, Option.isSome_some] at hq
          by_cases hin : (ku, ks) ∈ keys.take k
          · have HE : FF = 6 := by rw [HFD.out, HAI.out.2 hin]; rfl
            have HV := Lib.hid (show RES = 6 by rw [HND.out, HSB.out (by rw [HE]; decide), HE]; rfl)
            clear HE
            go_wp2_with (first | (at_lookup; refine wpList_seen _ rfl _ _ 105 rfl 47 4 keyed_ Try.underlying105 Try.underlying4 (zeroBool_ _) w2.heap.size k S rfl (HKV.out _) (keyV (ku, ks)) (keyL (ku, ks)) rfl hkey.out ?_; intro c hc; obtain rfl : c = true := hc.2 (HIN.out.2 hin); clear hc) | fail)
            go_ret
            exact ⟨by rw [HV.out] <;> rfl, (KC.out _ (KA.out _ _ HBW.out)).1⟩
          · have HE : FF = 0 := by rw [HFD.out, if_neg (by simp), if_neg (fun h => hin (HAI.out.1 h))]
            have HND2 := Lib.hid (show RES = if scanF (keyFR r) keys (k + 1) ≠ 0 then scanF (keyFR r) keys (k + 1) else chkTm start tin tend tout rates by rw [← HSG.out HE]; exact HND.out)
            clear HE
            go_wp2_with (first | (at_lookup; refine wpList_seen _ rfl _ _ 105 rfl 47 4 keyed_ Try.underlying105 Try.underlying4 (zeroBool_ _) w2.heap.size k S rfl (HKV.out _) (keyV (ku, ks)) (keyL (ku, ks)) rfl hkey.out ?_; intro c hc; obtain rfl : c = false := (by cases c; rfl; exact absurd (HIN.out.1 (hc.1 rfl)) hin); clear hc) | (at_mapUpdate; refine wpList_seen_put _ rfl _ _ _ 105 rfl 47 4 keyed_ Try.underlying105 Try.underlying4 w2.heap.size k S rfl (HKV.out _) (by unfold maxLen; omega) (keyV (ku, ks)) (keyL (ku, ks)) rfl rfl hkey.out ?_; intro w3 hown3 hgrow3) | fail)
            refine ⟨⟨k + 1, by omega, by first | rfl | go_num, HND2, Lib.hid ((KA.out _ _ HBW.out).grown hgrow3 (by simp; omega) (fun j hj => by cases hj; omega)), Lib.hid (by rw [HTK.out]; exact hown3), hown3.lt⟩, ?_⟩
            simp [intOf]; omega
        · have hkk : k = keys.length := by omega
          have HC1 := Lib.hid (show RES = (if bad1 start tin tend tout then 1 else if decide (tend = -1) && decide (tout ≠ 0) then 3 else if 50 < rates.length then 2 else rF start none rates) by
            have h0 := scanF_end (keyFR r) keys k (by omega)
            rw [HND.out, if_neg (by rw [h0]; simp)]; rfl)
          have HB1 := Lib.hid (show bad1 start tin tend tout = (!inR start 0 36000000 || !inR tin 0 36000000 || !inR tout 0 36000000 || (decide (tend ≠ -1) && !inR tend start 36000000)) from rfl)
          clear HC HSE HND
          subst hkk
          clear hlt hk
          go_upto_region 15 with (first | (go_at_call 29; ((with_reducible refine (eTime_R _ _).mono ?_); rintro e w' ⟨rfl, rfl⟩)) | (go_at_call 30; ((with_reducible refine (within_R _ _ _ _).mono ?_); rintro e w' ⟨rfl, rfl⟩)) | fail)
          go_cut [57] (fun s57 wx => s57 = .bool (bad1 start tin tend tout) ∧ wr = wx)
          case first =>
            rcases Bool.eq_false_or_eq_true (inR start 0 36000000) with k0 | k0
            rotate_left
            · skip
              have HV := Lib.hid (show bad1 start tin tend tout = true by rw [HB1.out]; simp [*])
              go_wp2_with (first | (go_at_call 29; ((with_reducible refine (eTime_R _ _).mono ?_); rintro e w' ⟨rfl, rfl⟩)) | (go_at_call 30; ((with_reducible refine (within_R _ _ _ _).mono ?_); rintro e w' ⟨rfl, rfl⟩)) | fail)
              all_goals go_meet
              all_goals exact ⟨by rw [HV.out] <;> rfl, rfl⟩
            rcases Bool.eq_false_or_eq_true (inR tin 0 36000000) with k1 | k1
            rotate_left
            · skip
              have HV := Lib.hid (show bad1 start tin tend tout = true by rw [HB1.out]; simp [*])
              go_wp2_with (first | (go_at_call 29; ((with_reducible refine (eTime_R _ _).mono ?_); rintro e w' ⟨rfl, rfl⟩)) | (go_at_call 30; ((with_reducible refine (within_R _ _ _ _).mono ?_); rintro e w' ⟨rfl, rfl⟩)) | fail)
              all_goals go_meet
              all_goals exact ⟨by rw [HV.out] <;> rfl, rfl⟩
            rcases Bool.eq_false_or_eq_true (inR tout 0 36000000) with k2 | k2
            rotate_left
            · skip
              have HV := Lib.hid (show bad1 start tin tend tout = true by rw [HB1.out]; simp [*])
              go_wp2_with (first | (go_at_call 29; ((with_reducible refine (eTime_R _ _).mono ?_); rintro e w' ⟨rfl, rfl⟩)) | (go_at_call 30; ((with_reducible refine (within_R _ _ _ _).mono ?_); rintro e w' ⟨rfl, rfl⟩)) | fail)
              all_goals go_meet
              all_goals exact ⟨by rw [HV.out] <;> rfl, rfl⟩
            by_cases ht : tend = -1
            · subst ht
              have HV := Lib.hid (show bad1 start tin (-1) tout = false by rw [HB1.out]; simp [*])
              go_wp2_with (first | (go_at_call 29; ((with_reducible refine (eTime_R _ _).mono ?_); rintro e w' ⟨rfl, rfl⟩)) | (go_at_call 30; ((with_reducible refine (within_R _ _ _ _).mono ?_); rintro e w' ⟨rfl, rfl⟩)) | fail)
              all_goals go_meet
              all_goals exact ⟨by rw [HV.out] <;> rfl, rfl⟩
            have ht1 : (tend != -1) = true := by simp [ht]
            rcases Bool.eq_false_or_eq_true (inR tend start 36000000) with k3 | k3
            rotate_left
            · skip
              have HV := Lib.hid (show bad1 start tin tend tout = true by rw [HB1.out]; simp [*])
              go_wp2_with (first | (go_at_call 29; ((with_reducible refine (eTime_R _ _).mono ?_); rintro e w' ⟨rfl, rfl⟩)) | (go_at_call 30; ((with_reducible refine (within_R _ _ _ _).mono ?_); rintro e w' ⟨rfl, rfl⟩)) | fail)
              all_goals go_meet
              all_goals exact ⟨by rw [HV.out] <;> rfl, rfl⟩
            have HV := Lib.hid (show bad1 start tin tend tout = false by rw [HB1.out]; simp [*])
            go_wp2_with (first | (go_at_call 29; ((with_reducible refine (eTime_R _ _).mono ?_); rintro e w' ⟨rfl, rfl⟩)) | (go_at_call 30; ((with_reducible refine (within_R _ _ _ _).mono ?_); rintro e w' ⟨rfl, rfl⟩)) | fail)
            all_goals go_meet
            all_goals exact ⟨by rw [HV.out] <;> rfl, rfl⟩
          case rest =>
            obtain ⟨rfl, rfl⟩ := hcut
            generalize bad1 start tin tend tout = B1 at *
            have HB2 := Lib.hid hB2
            clear hB2
            cases B1
            rotate_left
            · skip
              have HV := Lib.hid (show RES = 1 by rw [HC1.out]; rfl)
              go_wp2_with (first | (go_at_call 29; ((with_reducible refine (eTime_R _ _).mono ?_); rintro e w' ⟨rfl, rfl⟩)) | (go_at_call 30; ((with_reducible refine (within_R _ _ _ _).mono ?_); rintro e w' ⟨rfl, rfl⟩)) | fail)
              all_goals go_ret
              all_goals exact ⟨by rw [HV.out] <;> rfl, HB2.out⟩
            go_upto_region 17 with fail
            go_cut [87] (fun s87 wx => s87 = .bool (decide (tend = -1) && decide (tout ≠ 0)) ∧ wr = wx)
            case first =>
              by_cases ht : tend = -1
              · by_cases hu : tout = 0
                · go_wp2_with fail
                  all_goals go_meet
                  all_goals exact ⟨by simp [ht, hu], rfl⟩
                · go_wp2_with fail
                  all_goals go_meet
                  all_goals exact ⟨by simp [ht, hu], rfl⟩
              · go_wp2_with fail
                all_goals go_meet
                all_goals exact ⟨by simp [ht], rfl⟩
            case rest =>
              obtain ⟨rfl, rfl⟩ := hcut
              generalize (decide (tend = -1) && decide (tout ≠ 0)) = B2 at *
              cases B2
              rotate_left
              · skip
                have HV := Lib.hid (show RES = 3 by rw [HC1.out]; rfl)
                go_wp2_with (first | (go_at_call 29; ((with_reducible refine (eTime_R _ _).mono ?_); rintro e w' ⟨rfl, rfl⟩)) | (go_at_call 30; ((with_reducible refine (within_R _ _ _ _).mono ?_); rintro e w' ⟨rfl, rfl⟩)) | fail)
                all_goals go_ret
                all_goals exact ⟨by rw [HV.out] <;> rfl, HB2.out⟩
              by_cases h50 : 50 < rates.length
              · skip
                have HV := Lib.hid (show RES = 2 by rw [HC1.out]; simp [h50])
                go_wp2_with (first | (go_at_call 29; ((with_reducible refine (eTime_R _ _).mono ?_); rintro e w' ⟨rfl, rfl⟩)) | (go_at_call 30; ((with_reducible refine (within_R _ _ _ _).mono ?_); rintro e w' ⟨rfl, rfl⟩)) | fail)
                all_goals go_ret
                all_goals exact ⟨by rw [HV.out] <;> rfl, HB2.out⟩
              have HC2 := Lib.hid (show RES = rF start none rates by rw [HC1.out]; simp [h50])
              have h51 : rates.length ≤ 50 := by omega
              clear h50 HC1 HB1
              go_wp2_with fail
              go_loopw [104] (fun i wx => ∃ k : Nat, k ≤ rates.length ∧ i = .int .i64 k ∧ Hid (RES = rF start (prevT rates k) (rates.drop k)) ∧ Hid (Below (w.heap.size + 1) (w.alloc (.cells #[.int .i64 form, .int .i64 low, .int .i64 high, .int .i64 cycle, .int .i64 width, .int .i64 spread, .bool back, .bool rel, .slice so st.length scap, .slice ko keys.length kcap, .int .i64 start, .slice ro rates.length rcap, .int .i64 tin, .int .i64 tend, .int .i64 tout] 28)) wx)) (fun i _ => rates.length - (intOf i).toNat)
              case atStart => exact ⟨0, Nat.zero_le _, rfl, Lib.hid HC2.out, HBW⟩
              case round =>
                clear HBW HB2 hlw hz3 q9 q10 q11 q12 q13 q14
                obtain ⟨k, hk2, rfl, HRF, HBX⟩ := hrel
                obtain ⟨hB3, hz4, q0, q1, q2, q3, q4, q5, q6, q7, q8, q9, q10, q11, q12, q13, q14⟩ := KC.out _ HBX.out
                by_cases hlt2 : k < rates.length
                · have HST := Lib.hid (HRF.out.trans (rF_step start rates k hlt2))
                  obtain ⟨b, off, rfl, hbb, hc⟩ := HR.out k hlt2
                  obtain ⟨d0, d1⟩ := hc _ hB3
                  have hbr := Nat.lt_of_lt_of_le hbb hB3.size
                  have HB4 := Lib.hid hB3
                  clear hB3 HRF hc
                  have HPV := Lib.hid (fun h0 => prevT_pos rates k h0 hlt2)
                  have HPR := Lib.hid (fun (h0 : 0 < k) => show (∀ W, Below w.heap.size w W → W.cell? ⟨b, off + (k - 1) * 2, none⟩ = some (.int .i64 (rates[k - 1]'(by omega)).1)) from by
                    obtain ⟨b', off', e1, _, h3⟩ := HR.out (k - 1) (by omega)
                    injection e1 with e1
                    injection e1 with e2 e3
                    subst e2 e3
                    exact fun W hW => (h3 W hW).1)
                  generalize rates[k] = rk at *
                  obtain ⟨rt, rp⟩ := rk
                  simp only at d0 d1
                  rcases Bool.eq_false_or_eq_true (inR rt start 36000000) with k0 | k0
                  rotate_left
                  · skip
                    have HV := Lib.hid (show RES = 1 by rw [HST.out]; simp [k0])
                    go_wp2_with (first | (go_at_call 29; ((with_reducible refine (eTime_R _ _).mono ?_); rintro e w' ⟨rfl, rfl⟩)) | (go_at_call 30; ((with_reducible refine (within_R _ _ _ _).mono ?_); rintro e w' ⟨rfl, rfl⟩)) | fail)
                    all_goals go_ret
                    all_goals exact ⟨by rw [HV.out] <;> rfl, (KC.out _ (KA.out _ _ HBX.out)).1⟩
                  rcases Bool.eq_false_or_eq_true (inR rp 0 1000) with k1 | k1
                  rotate_left
                  · skip
                    have HV := Lib.hid (show RES = 1 by rw [HST.out]; simp [k0, k1])
                    go_wp2_with (first | (go_at_call 29; ((with_reducible refine (eTime_R _ _).mono ?_); rintro e w' ⟨rfl, rfl⟩)) | (go_at_call 30; ((with_reducible refine (within_R _ _ _ _).mono ?_); rintro e w' ⟨rfl, rfl⟩)) | fail)
                    all_goals go_ret
                    all_goals exact ⟨by rw [HV.out] <;> rfl, (KC.out _ (KA.out _ _ HBX.out)).1⟩
                  by_cases h0 : k = 0
                  · subst h0
                    simp only [Nat.zero_mul, Nat.add_zero, Nat.zero_add] at d0 d1
                    have HNX := Lib.hid (show RES = rF start (prevT rates (0 + 1)) (rates.drop (0 + 1)) by rw [HST.out]; simp [k0, k1, prevT])
                    go_wp2_with (first | (go_at_call 29; ((with_reducible refine (eTime_R _ _).mono ?_); rintro e w' ⟨rfl, rfl⟩)) | (go_at_call 30; ((with_reducible refine (within_R _ _ _ _).mono ?_); rintro e w' ⟨rfl, rfl⟩)) | fail)
                    go_quiet (fail)
                    go_wp2_with fail
                    go_roundw
                    case rel => exact ⟨1, by omega, rfl, HNX, Lib.hid (bel_drewN (KA.out _ _ HBX.out) _)⟩
                    case measure => simp [intOf]; omega
                  · have HPP := Lib.hid (HPV.out (by omega))
                    have d2 := HPR.out (by omega) _ HB4.out
                    clear HPV HPR
                    generalize (rates[k - 1]'(by omega)) = rj at *
                    obtain ⟨jt, jp⟩ := rj
                    simp only at d2
                    obtain ⟨j, rfl⟩ : ∃ j, k = j + 1 := ⟨k - 1, by omega⟩
                    simp only [Nat.add_sub_cancel] at d2
                    have hji : ((j + 1 : Nat) : Int) - 1 = (j : Int) := by omega
                    by_cases hle : rt ≤ jt
                    · skip
                      have HV := Lib.hid (show RES = 7 by rw [HST.out, HPP.out]; simp [k0, k1, hle])
                      go_wp2_with (first | (go_at_call 29; ((with_reducible refine (eTime_R _ _).mono ?_); rintro e w' ⟨rfl, rfl⟩)) | (go_at_call 30; ((with_reducible refine (within_R _ _ _ _).mono ?_); rintro e w' ⟨rfl, rfl⟩)) | fail)
                      go_quiet (fail)
                      go_wp2_with fail
                      go_ret
                      exact ⟨by rw [HV.out] <;> rfl, bel_drewN (KC.out _ (KA.out _ _ HBX.out)).1 _⟩
                    · have HNX := Lib.hid (show RES = rF start (prevT rates (j + 1 + 1)) (rates.drop (j + 1 + 1)) by rw [HST.out, HPP.out]; simp [k0, k1, hle])
                      have hled : decide (rt ≤ jt) = false := by simpa using hle
                      go_wp2_with (first | (go_at_call 29; ((with_reducible refine (eTime_R _ _).mono ?_); rintro e w' ⟨rfl, rfl⟩)) | (go_at_call 30; ((with_reducible refine (within_R _ _ _ _).mono ?_); rintro e w' ⟨rfl, rfl⟩)) | fail)
                      go_quiet (fail)
                      go_wp2_with fail
                      go_roundw
                      case rel => exact ⟨j + 1 + 1, by omega, by go_num, HNX, Lib.hid (bel_drewN (KA.out _ _ HBX.out) _)⟩
                      case measure => simp [intOf]; omega
                · have HV := Lib.hid (show RES = 0 by rw [HRF.out, List.drop_of_length_le (by omega)]; rfl)
                  have HB4 := Lib.hid hB3
                  clear hB3
                  go_wp2_with (first | (go_at_call 29; ((with_reducible refine (eTime_R _ _).mono ?_); rintro e w' ⟨rfl, rfl⟩)) | (go_at_call 30; ((with_reducible refine (within_R _ _ _ _).mono ?_); rintro e w' ⟨rfl, rfl⟩)) | fail)
                  go_ret
                  exact ⟨by rw [HV.out] <;> rfl, HB4.out⟩
end Go.Proofs.Ytopmdeefcjdadaa
