/- The reference's CheckFade, LevelAt, At, Ends. (printed by wip/gen/gen_rfade.py) -/
import Derived.Test.YthoiamaomhggiaaREase
namespace Go.Proofs.Ythoiamaomhggiaa
open Go.RowKit
set_option linter.unusedVariables false
set_option linter.unusedSimpArgs false

set_option maxHeartbeats 400000 in
theorem rIsTime_yes (n : Int) (w : World) (h : IsTm n) :
    Calls Try.prog 70 #[.int .i64 n] w fun e w' => e = .returned (.bool true) ∧ w = w' := by
  go_enter Try.func70, Try.ntmps70
  go_wp2_with (go_at_call 53; refine (r1within_yes _ _ _ _ h).mono ?_; rintro e w' ⟨rfl, rfl⟩)
  go_ret
  exact ⟨rfl, rfl⟩
set_option maxHeartbeats 400000 in
theorem rIsTime_no (n : Int) (w : World) (h : ¬ IsTm n) :
    Calls Try.prog 70 #[.int .i64 n] w fun e w' => e = .returned (.bool false) ∧ w = w' := by
  have H := Lib.hid (show n < 0 ∨ 36000000 < n by unfold IsTm at h; omega)
  clear h
  go_enter Try.func70, Try.ntmps70
  go_wp2_with (go_at_call 53; refine (r1within_no _ _ _ _ H.out).mono ?_; rintro e w' ⟨rfl, rfl⟩)
  go_ret
  exact ⟨rfl, rfl⟩
theorem rLv_yes (n : Int) (w : World) (h : LvOk n) : Calls Try.prog 47 #[.int .i64 n] w fun e w' => e = .returned (.bool true) ∧ w = w' := rIsLevel_yes n w h
theorem rLv_no (n : Int) (w : World) (h : ¬ LvOk n) : Calls Try.prog 47 #[.int .i64 n] w fun e w' => e = .returned (.bool false) ∧ w = w' := rIsLevel_no n w (by unfold LvOk at h; omega)
theorem checkF_no {f : Fd} (h : ¬ ((LvOk f.fr ∧ LvOk f.to) ∧ IsTm f.start ∧ IsTm f.delay ∧ IsTm f.time ∧ IsTm (f.start + f.delay + f.time))) : checkF f = 1 := by
  unfold checkF
  by_cases h1 : LvOk f.fr ∧ LvOk f.to
  · rw [if_neg (by simpa using h1), if_pos (fun k => h ⟨h1, k⟩)]
  · rw [if_pos h1]
theorem checkF_yes {f : Fd} (h1 : LvOk f.fr ∧ LvOk f.to) (h2 : IsTm f.start ∧ IsTm f.delay ∧ IsTm f.time ∧ IsTm (f.start + f.delay + f.time)) : checkF f = checkC f.curve := by
  unfold checkF
  rw [if_neg (by simpa using h1), if_neg (by simpa using h2)]

set_option maxHeartbeats 4000000 in
theorem rcheckFade_any (v : Value) (f : Fd) (w : World) (hv : FdV w v f) :
    Calls Try.prog 40 #[v] w fun e w' => e = .returned (.int .i64 (checkF f)) ∧ Below w.heap.size w w' := by
  obtain ⟨p, rfl, hp⟩ := hv
  have CC := Lib.hid (fun W (hW : Below w.heap.size w W) => rcheckCurve_any (.agg #[.int .i64 f.curve.kind, p]) f.curve W ⟨p, rfl, ptsV_below hp hW⟩)
  clear hp
  by_cases a1 : LvOk f.fr
  · skip
    by_cases a2 : LvOk f.to
    · skip
      by_cases b1 : IsTm f.start
      · skip
        by_cases b2 : IsTm f.delay
        · skip
          by_cases b3 : IsTm f.time
          · skip
            by_cases b4 : IsTm (f.start + f.delay + f.time)
            · skip
              have HF := Lib.hid (checkF_yes ⟨a1, a2⟩ ⟨b1, b2, b3, b4⟩)
              have Ha1 := Lib.hid a1
              have Ha2 := Lib.hid a2
              have Hb1 := Lib.hid b1
              have Hb2 := Lib.hid b2
              have Hb3 := Lib.hid b3
              have Hb4 := Lib.hid b4
              have gb1 := b1
              have gb2 := b2
              have gb3 := b3
              have gb4 := b4
              unfold IsTm at gb1 gb2 gb3 gb4
              clear a1 a2 b1 b2 b3 b4
              go_enter Try.func40, Try.ntmps40
              go_wp2_with fail
              refine (rLv_yes _ _ Ha1.out).mono ?_
              rintro e w' ⟨rfl, rfl⟩
              go_wp2_with fail
              refine (rLv_yes _ _ Ha2.out).mono ?_
              rintro e w' ⟨rfl, rfl⟩
              go_wp2_with fail
              refine (rIsTime_yes _ _ Hb1.out).mono ?_
              rintro e w' ⟨rfl, rfl⟩
              go_wp2_with fail
              refine (rIsTime_yes _ _ Hb2.out).mono ?_
              rintro e w' ⟨rfl, rfl⟩
              go_wp2_with fail
              refine (rIsTime_yes _ _ Hb3.out).mono ?_
              rintro e w' ⟨rfl, rfl⟩
              go_wp2_with fail
              refine (rIsTime_yes _ _ Hb4.out).mono ?_
              rintro e w' ⟨rfl, rfl⟩
              go_wp2_with fail
              refine (CC.out _ below1).mono ?_
              rintro e w' ⟨rfl, hb⟩
              go_wp2
              go_ret
              exact ⟨by rw [HF.out]; rfl, bt below1 hb⟩
            · have HF := Lib.hid (checkF_no (f := f) (fun h => b4 h.2.2.2.2))
              have Ha1 := Lib.hid a1
              have Ha2 := Lib.hid a2
              have Hb1 := Lib.hid b1
              have Hb2 := Lib.hid b2
              have Hb3 := Lib.hid b3
              have Hb4 := Lib.hid b4
              have gb1 := b1
              have gb2 := b2
              have gb3 := b3
              unfold IsTm at gb1 gb2 gb3
              clear a1 a2 b1 b2 b3 b4
              go_enter Try.func40, Try.ntmps40
              go_wp2_with fail
              refine (rLv_yes _ _ Ha1.out).mono ?_
              rintro e w' ⟨rfl, rfl⟩
              go_wp2_with fail
              refine (rLv_yes _ _ Ha2.out).mono ?_
              rintro e w' ⟨rfl, rfl⟩
              go_wp2_with fail
              refine (rIsTime_yes _ _ Hb1.out).mono ?_
              rintro e w' ⟨rfl, rfl⟩
              go_wp2_with fail
              refine (rIsTime_yes _ _ Hb2.out).mono ?_
              rintro e w' ⟨rfl, rfl⟩
              go_wp2_with fail
              refine (rIsTime_yes _ _ Hb3.out).mono ?_
              rintro e w' ⟨rfl, rfl⟩
              go_wp2_with fail
              refine (rIsTime_no _ _ Hb4.out).mono ?_
              rintro e w' ⟨rfl, rfl⟩
              go_wp2
              go_ret
              exact ⟨by rw [HF.out]; rfl, below1⟩
          · have HF := Lib.hid (checkF_no (f := f) (fun h => b3 h.2.2.2.1))
            have Ha1 := Lib.hid a1
            have Ha2 := Lib.hid a2
            have Hb1 := Lib.hid b1
            have Hb2 := Lib.hid b2
            have Hb3 := Lib.hid b3
            have gb1 := b1
            have gb2 := b2
            unfold IsTm at gb1 gb2
            clear a1 a2 b1 b2 b3
            go_enter Try.func40, Try.ntmps40
            go_wp2_with fail
            refine (rLv_yes _ _ Ha1.out).mono ?_
            rintro e w' ⟨rfl, rfl⟩
            go_wp2_with fail
            refine (rLv_yes _ _ Ha2.out).mono ?_
            rintro e w' ⟨rfl, rfl⟩
            go_wp2_with fail
            refine (rIsTime_yes _ _ Hb1.out).mono ?_
            rintro e w' ⟨rfl, rfl⟩
            go_wp2_with fail
            refine (rIsTime_yes _ _ Hb2.out).mono ?_
            rintro e w' ⟨rfl, rfl⟩
            go_wp2_with fail
            refine (rIsTime_no _ _ Hb3.out).mono ?_
            rintro e w' ⟨rfl, rfl⟩
            go_wp2
            go_ret
            exact ⟨by rw [HF.out]; rfl, below1⟩
        · have HF := Lib.hid (checkF_no (f := f) (fun h => b2 h.2.2.1))
          have Ha1 := Lib.hid a1
          have Ha2 := Lib.hid a2
          have Hb1 := Lib.hid b1
          have Hb2 := Lib.hid b2
          have gb1 := b1
          unfold IsTm at gb1
          clear a1 a2 b1 b2
          go_enter Try.func40, Try.ntmps40
          go_wp2_with fail
          refine (rLv_yes _ _ Ha1.out).mono ?_
          rintro e w' ⟨rfl, rfl⟩
          go_wp2_with fail
          refine (rLv_yes _ _ Ha2.out).mono ?_
          rintro e w' ⟨rfl, rfl⟩
          go_wp2_with fail
          refine (rIsTime_yes _ _ Hb1.out).mono ?_
          rintro e w' ⟨rfl, rfl⟩
          go_wp2_with fail
          refine (rIsTime_no _ _ Hb2.out).mono ?_
          rintro e w' ⟨rfl, rfl⟩
          go_wp2
          go_ret
          exact ⟨by rw [HF.out]; rfl, below1⟩
      · have HF := Lib.hid (checkF_no (f := f) (fun h => b1 h.2.1))
        have Ha1 := Lib.hid a1
        have Ha2 := Lib.hid a2
        have Hb1 := Lib.hid b1
        clear a1 a2 b1
        go_enter Try.func40, Try.ntmps40
        go_wp2_with fail
        refine (rLv_yes _ _ Ha1.out).mono ?_
        rintro e w' ⟨rfl, rfl⟩
        go_wp2_with fail
        refine (rLv_yes _ _ Ha2.out).mono ?_
        rintro e w' ⟨rfl, rfl⟩
        go_wp2_with fail
        refine (rIsTime_no _ _ Hb1.out).mono ?_
        rintro e w' ⟨rfl, rfl⟩
        go_wp2
        go_ret
        exact ⟨by rw [HF.out]; rfl, below1⟩
    · have HF := Lib.hid (checkF_no (f := f) (fun h => a2 h.1.2))
      have Ha1 := Lib.hid a1
      have Ha2 := Lib.hid a2
      clear a1 a2
      go_enter Try.func40, Try.ntmps40
      go_wp2_with fail
      refine (rLv_yes _ _ Ha1.out).mono ?_
      rintro e w' ⟨rfl, rfl⟩
      go_wp2_with fail
      refine (rLv_no _ _ Ha2.out).mono ?_
      rintro e w' ⟨rfl, rfl⟩
      go_wp2
      go_ret
      exact ⟨by rw [HF.out]; rfl, below1⟩
  · have HF := Lib.hid (checkF_no (f := f) (fun h => a1 h.1.1))
    have Ha1 := Lib.hid a1
    clear a1
    go_enter Try.func40, Try.ntmps40
    go_wp2_with fail
    refine (rLv_no _ _ Ha1.out).mono ?_
    rintro e w' ⟨rfl, rfl⟩
    go_wp2
    go_ret
    exact ⟨by rw [HF.out]; rfl, below1⟩

set_option maxHeartbeats 4000000 in
theorem rLevelAt_any (v : Value) (f : Fd) (t : Int) (w : World) (hv : FdV w v f) (hf : RightF f) (ht : IsTm t) :
    Calls Try.prog 68 #[v, .int .i64 t] w fun e w' => e = .returned (.int .i64 (atV f t)) ∧ Below w.heap.size w w' := by
  have HV := Lib.hid hv
  obtain ⟨p, rfl, hp⟩ := hv
  obtain ⟨a1, a2, b1, b2, b3, b4, hc⟩ := hf
  unfold IsTm at ht b1 b2 b3 b4
  by_cases h1 : f.start + f.delay + f.time ≤ t
  · have HF := Lib.hid (show atV f t = f.to from if_pos h1)
    have h1' : f.time ≤ t - (f.start + f.delay) := by omega
    clear hc hp a1 a2
    go_enter Try.func68, Try.ntmps68
    go_wp2
    go_ret
    exact ⟨by rw [HF.out]; rfl, below1⟩
  · have h1' : ¬ f.time ≤ t - (f.start + f.delay) := by omega
    by_cases h2 : t ≤ f.start + f.delay
    · have HF := Lib.hid (show atV f t = f.fr by unfold atV; rw [if_neg h1, if_pos h2])
      have h2' : t - (f.start + f.delay) ≤ 0 := by omega
      clear hc hp a1 a2
      go_enter Try.func68, Try.ntmps68
      go_wp2
      go_ret
      exact ⟨by rw [HF.out]; rfl, below1⟩
    · have h2' : ¬ t - (f.start + f.delay) ≤ 0 := by omega
      have HF := Lib.hid (show atV f t = f.fr + rnd ((f.to - f.fr) * wayN f.curve (t - (f.start + f.delay)) f.time) (wayD f.curve (t - (f.start + f.delay)) f.time) by unfold atV; rw [if_neg h1, if_neg h2])
      obtain ⟨a, ha⟩ : ∃ a : Nat, t - (f.start + f.delay) = (a : Int) := ⟨(t - (f.start + f.delay)).toNat, by omega⟩
      obtain ⟨b, hb⟩ : ∃ b : Nat, f.time = (b : Int) := ⟨f.time.toNat, by omega⟩
      rw [ha, hb] at HF
      have hPQ : PQ a b := ⟨by omega, by omega, by omega⟩
      have hD := (way_range f.curve hc a b (by omega) (by omega) (by omega)).1
      have HP := Lib.hid (fun W => show Calls Try.prog 48 #[.int .i64 (t - (f.start + f.delay)), .int .i64 f.time] W (NewQ (a : Int) b W) from by rw [ha, hb]; exact part_any a b W (by omega) (by omega))
      have HW := Lib.hid (fun (W : World) (u : Value) (hW : Below w.heap.size w W) (hu : IsQ W.heap.size W u (a : Int) b) => rWay_any W.heap.size a b (.agg #[.int .i64 f.curve.kind, p]) u f.curve W (Nat.le_refl _) hPQ hu ⟨p, rfl, ptsV_below hp hW⟩ hc)
      have HM := Lib.hid (fun (W : World) (u : Value) (n : Int) (d : Nat) (hu : Unit1 n d) (he : n * wayD f.curve a b = wayN f.curve a b * (d : Int)) (hq : IsQ W.heap.size W u n d) => mixWay W.heap.size f.fr f.to n d a b f.curve u W (Nat.le_refl _) a1 a2 hu hD he hq)
      rw [rnd_add _ _ _ hD, ← HF.out] at HM
      clear hPQ hD HF hp a1 a2 hc ha hb HV
      generalize atV f t = rv at *
      go_enter Try.func68, Try.ntmps68
      go_upto_region 6 with fail
      have KP := Lib.hid (show ∀ W, Below (w.heap.size + 1) (w.alloc (.cells #[.int .i64 f.fr, .int .i64 f.to, .int .i64 f.start, .int .i64 f.delay, .int .i64 f.time, .int .i64 f.curve.kind, p] 46)) W → (W.cell? ⟨w.heap.size, 0, none⟩ = some (.int .i64 f.fr) ∧ W.cell? ⟨w.heap.size, 1, none⟩ = some (.int .i64 f.to) ∧ W.cell? ⟨w.heap.size, 4, none⟩ = some (.int .i64 f.time) ∧ W.cell? ⟨w.heap.size, 5, none⟩ = some (.int .i64 f.curve.kind) ∧ W.cell? ⟨w.heap.size, 6, none⟩ = some p) from fun W hW => by
        have hW' : Below (w.alloc (.cells #[.int .i64 f.fr, .int .i64 f.to, .int .i64 f.start, .int .i64 f.delay, .int .i64 f.time, .int .i64 f.curve.kind, p] 46)).heap.size _ W := hW.mono (by simp)
        exact ⟨boxAt hW' 0 rfl, boxAt hW' 1 rfl, boxAt hW' 4 rfl, boxAt hW' 5 rfl, boxAt hW' 6 rfl⟩)
      have KB := Lib.hid (show ∀ W, Below (w.heap.size + 1) (w.alloc (.cells #[.int .i64 f.fr, .int .i64 f.to, .int .i64 f.start, .int .i64 f.delay, .int .i64 f.time, .int .i64 f.curve.kind, p] 46)) W → Below w.heap.size w W from fun W hW => below1.trans (hW.mono (by omega)))
      have KZ := Lib.hid (show ∀ W, Below (w.heap.size + 1) (w.alloc (.cells #[.int .i64 f.fr, .int .i64 f.to, .int .i64 f.start, .int .i64 f.delay, .int .i64 f.time, .int .i64 f.curve.kind, p] 46)) W → w.heap.size + 1 ≤ W.heap.size from fun W hW => by
        have := hW.size
        simpa using this)
      have KT := Lib.hid (show ∀ W W', Below (w.heap.size + 1) (w.alloc (.cells #[.int .i64 f.fr, .int .i64 f.to, .int .i64 f.start, .int .i64 f.delay, .int .i64 f.time, .int .i64 f.curve.kind, p] 46)) W → Below W.heap.size W W' → Below (w.heap.size + 1) (w.alloc (.cells #[.int .i64 f.fr, .int .i64 f.to, .int .i64 f.start, .int .i64 f.delay, .int .i64 f.time, .int .i64 f.curve.kind, p] 46)) W' from fun W W' h1 h2 => h1.trans (h2.mono (KZ.out W h1)))
      have hw0 : Below (w.heap.size + 1) (w.alloc (.cells #[.int .i64 f.fr, .int .i64 f.to, .int .i64 f.start, .int .i64 f.delay, .int .i64 f.time, .int .i64 f.curve.kind, p] 46)) (World.drew (w.alloc (.cells #[.int .i64 f.fr, .int .i64 f.to, .int .i64 f.start, .int .i64 f.delay, .int .i64 f.time, .int .i64 f.curve.kind, p] 46))) := (Below.refl _ _).drew
      go_region_held3 (fun W => W.cell? ⟨w.heap.size, 0, none⟩ = some (.int .i64 f.fr) ∧ W.cell? ⟨w.heap.size, 1, none⟩ = some (.int .i64 f.to) ∧ W.cell? ⟨w.heap.size, 4, none⟩ = some (.int .i64 f.time) ∧ W.cell? ⟨w.heap.size, 5, none⟩ = some (.int .i64 f.curve.kind) ∧ W.cell? ⟨w.heap.size, 6, none⟩ = some p)
        (exact KP.out _ (by assumption))
        (first
          | (go_at_call 48; ((with_reducible refine (HP.out _).mono ?_); rintro e WP ⟨vP, rfl, hq, hnv, hb⟩; have hwP := KT.out _ _ (by assumption) hb; have HQP := Lib.hid hq; clear hq hnv hb))
          | (go_at_call 61; ((with_reducible refine (HW.out _ _ (KB.out _ hwP) HQP.out).mono ?_); rintro e WW ⟨n, d, ⟨vW, rfl, hq, hb⟩, hu, he⟩; have hwW := KT.out _ _ hwP hb; have HQW := Lib.hid hq; have HU := Lib.hid hu; have HN := Lib.hid he; clear hq hb hu he))
          | (go_at_call 54; ((with_reducible refine (HM.out _ _ _ _ HU.out HN.out HQW.out).mono ?_); rintro e WM ⟨rfl, hb⟩; have hwM := KT.out _ _ hwW hb; clear hb))
          | fail)
      all_goals
        have HZ := Lib.hid (KB.out _ hwM)
        go_wp2
        go_ret
        exact ⟨rfl, HZ.out⟩

set_option maxHeartbeats 1000000 in
theorem rAt_any (v : Value) (f : Fd) (t : Int) (w : World) (hv : FdV w v f) :
    Calls Try.prog 38 #[v, .int .i64 t] w fun e w' => e = .returned (.tuple #[.int .i64 (atR f t), .int .i64 (atE f t)]) ∧ Below w.heap.size w w' := by
  have CF := Lib.hid (fun W (hW : Below w.heap.size w W) => rcheckFade_any v f W (fdV_below hv hW))
  have AT := Lib.hid (fun (hf : RightF f) (ht : IsTm t) W (hW : Below w.heap.size w W) => rLevelAt_any v f t W (fdV_below hv hW) hf ht)
  have CR := Lib.hid (checkF_right f)
  have EE : Hid (atE f t = firstE (checkF f) (if IsTm t then 0 else 1)) := rfl
  have ER : Hid (atR f t = if atE f t = 0 then atV f t else 0) := rfl
  obtain ⟨p, rfl, hp⟩ := hv
  clear hp
  generalize hc : checkF f = c at *
  generalize atE f t = ev at *
  generalize atR f t = rv at *
  by_cases h0 : c = 0
  · subst h0
    have HF := Lib.hid (CR.out.1 rfl)
    by_cases ht : IsTm t
    · have hev : ev = 0 := by rw [EE.out, firstE, if_pos rfl, if_pos ht]
      have hrv : rv = atV f t := by rw [ER.out, if_pos hev]
      have HT := Lib.hid ht
      have HE := Lib.hid hev
      have HR := Lib.hid hrv
      clear hev hrv ht hc EE ER
      go_enter Try.func38, Try.ntmps38
      go_wp2_with fail
      refine (CF.out _ below1).mono ?_
      rintro e w1 ⟨rfl, hb1⟩
      have hbw := bt below1 hb1
      have e0 := boxAt hb1 0 rfl
      have e1 := boxAt hb1 1 rfl
      have e2 := boxAt hb1 2 rfl
      have e3 := boxAt hb1 3 rfl
      have e4 := boxAt hb1 4 rfl
      have e5 := boxAt hb1 5 rfl
      have e6 := boxAt hb1 6 rfl
      clear hb1
      go_wp2_with fail
      refine (rIsTime_yes _ _ HT.out).mono ?_
      rintro e w' ⟨rfl, rfl⟩
      go_wp2_with fail
      refine (AT.out HF.out HT.out _ hbw).mono ?_
      rintro e w2 ⟨rfl, hb2⟩
      go_wp2
      go_ret2
      exact ⟨by rw [HE.out, HR.out]; rfl, bt hbw hb2⟩
    · have hev : ev = 1 := by rw [EE.out, firstE, if_pos rfl, if_neg ht]
      have hrv : rv = 0 := by rw [ER.out, if_neg (by omega)]
      have HT := Lib.hid ht
      have HE := Lib.hid hev
      have HR := Lib.hid hrv
      clear hev hrv ht hc EE ER
      go_enter Try.func38, Try.ntmps38
      go_wp2_with fail
      refine (CF.out _ below1).mono ?_
      rintro e w1 ⟨rfl, hb1⟩
      have hbw := bt below1 hb1
      clear hb1
      go_wp2_with fail
      refine (rIsTime_no _ _ HT.out).mono ?_
      rintro e w' ⟨rfl, rfl⟩
      go_wp2
      go_ret2
      exact ⟨by rw [HE.out, HR.out]; rfl, hbw⟩
  · have hev : ev = c := by rw [EE.out, firstE, if_neg h0]
    have hrv : rv = 0 := by rw [ER.out, if_neg (by omega)]
    have HE := Lib.hid hev
    have HR := Lib.hid hrv
    have hcb : (c != 0) = true := by simpa using h0
    clear hev hrv hc EE ER
    go_enter Try.func38, Try.ntmps38
    go_wp2_with fail
    refine (CF.out _ below1).mono ?_
    rintro e w1 ⟨rfl, hb1⟩
    have hbw := bt below1 hb1
    clear hb1
    go_wp2
    go_ret2
    exact ⟨by rw [HE.out, HR.out]; rfl, hbw⟩

set_option maxHeartbeats 1000000 in
theorem rEnds_any (v : Value) (f : Fd) (w : World) (hv : FdV w v f) :
    Calls Try.prog 41 #[v] w fun e w' => e = .returned (.tuple #[.int .i64 (endsV f), .int .i64 (checkF f)]) ∧ Below w.heap.size w w' := by
  have CF := Lib.hid (fun W (hW : Below w.heap.size w W) => rcheckFade_any v f W (fdV_below hv hW))
  have CR := Lib.hid (checkF_right f)
  have ER : Hid (endsV f = if checkF f = 0 then f.start + f.delay + f.time else 0) := rfl
  obtain ⟨p, rfl, hp⟩ := hv
  clear hp
  generalize checkF f = c at *
  generalize endsV f = rv at *
  by_cases h0 : c = 0
  · subst h0
    have hrv : rv = f.start + f.delay + f.time := by rw [ER.out, if_pos rfl]
    have HR := Lib.hid hrv
    obtain ⟨_, _, b1, b2, b3, b4, _⟩ := CR.out.1 rfl
    unfold IsTm at b1 b2 b3 b4
    clear hrv
    go_enter Try.func41, Try.ntmps41
    go_wp2_with fail
    refine (CF.out _ below1).mono ?_
    rintro e w1 ⟨rfl, hb1⟩
    have hbw := bt below1 hb1
    have e0 := boxAt hb1 0 rfl
    have e1 := boxAt hb1 1 rfl
    have e2 := boxAt hb1 2 rfl
    have e3 := boxAt hb1 3 rfl
    have e4 := boxAt hb1 4 rfl
    have e5 := boxAt hb1 5 rfl
    have e6 := boxAt hb1 6 rfl
    go_wp2
    go_ret2
    exact ⟨by rw [HR.out]; rfl, hbw⟩
  · have hrv : rv = 0 := by rw [ER.out, if_neg h0]
    have HR := Lib.hid hrv
    have hcb : (c != 0) = true := by simpa using h0
    clear hrv
    go_enter Try.func41, Try.ntmps41
    go_wp2_with fail
    refine (CF.out _ below1).mono ?_
    rintro e w1 ⟨rfl, hb1⟩
    have hbw := bt below1 hb1
    go_wp2
    go_ret2
    exact ⟨by rw [HR.out]; rfl, hbw⟩
end Go.Proofs.Ythoiamaomhggiaa
