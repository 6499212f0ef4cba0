/- Contracts of level.At, Ends, Ease. -/
import Derived.Test.YtdicoggpcobbpaaDoorFadeFns
namespace Go.Proofs.YtdicoggpcobbpaaDoor
open Go.RowKit

def firstE (x y : Int) : Int := if x = 0 then y else x
noncomputable def atE (f : Fd) (t : Int) : Int := firstE (checkF f) (if IsTm t then 0 else 1)
noncomputable def atR (f : Fd) (t : Int) : Int := if atE f t = 0 then atV f t else 0

theorem atE_ok (f : Fd) (t : Int) : atE f t = 0 ↔ RightF f ∧ IsTm t := by
  unfold atE firstE
  rw [← checkF_right]
  by_cases h : checkF f = 0
  · rw [if_pos h]
    by_cases k : IsTm t
    · rw [if_pos k]; exact ⟨fun _ => ⟨h, k⟩, fun _ => rfl⟩
    · rw [if_neg k]; exact ⟨fun e => by omega, fun e => absurd e.2 k⟩
  · rw [if_neg h]; exact ⟨fun e => absurd e h, fun e => absurd e.1 h⟩

/-- the cells of a variable that was laid ahead of a call -/
theorem boxAt {w w1 : World} {cs : Array Value} {T : TypeId} (hb : Below (w.alloc (.cells cs T)).heap.size (w.alloc (.cells cs T)) w1) (i : Nat) {v : Value} (h : cs[i]? = some v) : w1.cell? ⟨w.heap.size, i, none⟩ = some v :=
  (hb.cell (by simp)).trans ((World.cell?_alloc_new w cs T i).trans h)

set_option maxHeartbeats 1000000 in
theorem At_any (v : Value) (f : Fd) (t : Int) (w : World) (hv : FdV w v f) :
    Calls Tryd.prog 31 #[v, .int .i64 t] w fun e w' => e = .returned (.tuple #[.int .i64 (atR f t), .int .i64 (atE f t)]) ∧ Below w.heap.size w w' := by
  have CF := Lib.hid (fun W (hW : Below w.heap.size w W) => checkFade_any v f W (fdV_below hv hW))
  have AT := Lib.hid (fun (hf : RightF f) (ht : IsTm t) W (hW : Below w.heap.size w W) => at_any v f t W (fdV_below hv hW) hf ht)
  have OK := Lib.hid (atE_ok f t)
  have CR := Lib.hid (checkF_right f)
  have EE : Hid (atE f t = firstE (checkF f) (if IsTm t then 0 else 1)) := rfl
  have ER : Hid (atR f t = if atE f t = 0 then atV f t else 0) := rfl
  obtain ⟨p, rfl, hp⟩ := hv
  clear hp
  generalize hc : checkF f = c at *
  generalize atE f t = ev at *
  generalize atR f t = rv at *
  have hcase : (c = 0 ∧ IsTm t) ∨ (c = 0 ∧ ¬ IsTm t) ∨ (c ≠ 0 ∧ IsTm t) ∨ (c ≠ 0 ∧ ¬ IsTm t) := by
    by_cases h1 : c = 0 <;> by_cases h2 : IsTm t <;> simp [h1, h2]
  rcases hcase with ⟨h0, ht⟩ | ⟨h0, ht⟩ | ⟨h0, ht⟩ | ⟨h0, ht⟩
  · subst h0
    have hev : ev = 0 := by rw [EE.out, firstE, if_pos rfl, if_pos ht]
    have hrv : rv = atV f t := by rw [ER.out, if_pos hev]
    have HT := Lib.hid ht
    have HE := Lib.hid hev
    have HR := Lib.hid hrv
    have HF := Lib.hid (CR.out.1 rfl)
    clear hev hrv ht hc
    go_enter Tryd.func31, Tryd.ntmps31
    go_wp2_with fail
    refine (CF.out _ below1).mono ?_
    rintro e w1 ⟨rfl, hb1⟩
    have hs1 : w.heap.size < w1.heap.size := by have := hb1.size; simp at this; omega
    have hs2 : w.heap.size < w1.heap.size + 1 := by omega
    have hbw := bt below1 hb1
    have e0 := boxAt hb1 0 rfl
    have e1 := boxAt hb1 1 rfl
    have e2 := boxAt hb1 2 rfl
    have e3 := boxAt hb1 3 rfl
    have e4 := boxAt hb1 4 rfl
    have e5 := boxAt hb1 5 rfl
    have e6 := boxAt hb1 6 rfl
    clear hb1
    go_wp2_with (first
      | (go_at_call 42; refine (isTime_yes _ _ HT.out).mono ?_; rintro e w' ⟨rfl, rfl⟩)
      | (go_at_call 55; refine (when_no _ _).mono ?_; rintro e w' ⟨rfl, rfl⟩)
      | (go_at_call 62; refine (first2c _ 0 0 _ (by simp) (by simp)).mono ?_; rintro e w' ⟨rfl, rfl⟩))
    refine (AT.out HF.out HT.out _ (bt hbw below1)).mono ?_
    rintro e w2 ⟨rfl, hb2⟩
    go_wp2
    go_ret2
    exact ⟨by rw [HE.out, HR.out]; rfl, bt (bt hbw below1) hb2⟩
  · subst h0
    have hev : ev = 1 := by rw [EE.out, firstE, if_pos rfl, if_neg ht]
    have hrv : rv = 0 := by rw [ER.out, if_neg (by omega)]
    have HT := Lib.hid (show t < 0 ∨ 36000000 < t by unfold IsTm at ht; omega)
    have HE := Lib.hid hev
    have HR := Lib.hid hrv
    clear hev hrv ht hc
    go_enter Tryd.func31, Tryd.ntmps31
    go_wp2_with fail
    refine (CF.out _ below1).mono ?_
    rintro e w1 ⟨rfl, hb1⟩
    have hs1 : w.heap.size < w1.heap.size := by have := hb1.size; simp at this; omega
    have hs2 : w.heap.size < w1.heap.size + 1 := by omega
    have hbw := bt below1 hb1
    have e0 := boxAt hb1 0 rfl
    have e1 := boxAt hb1 1 rfl
    have e2 := boxAt hb1 2 rfl
    have e3 := boxAt hb1 3 rfl
    have e4 := boxAt hb1 4 rfl
    have e5 := boxAt hb1 5 rfl
    have e6 := boxAt hb1 6 rfl
    clear hb1
    go_wp2_with (first
      | (go_at_call 42; refine (isTime_no _ _ HT.out).mono ?_; rintro e w' ⟨rfl, rfl⟩)
      | (go_at_call 55; refine (when_yes _ _).mono ?_; rintro e w' ⟨rfl, rfl⟩)
      | (go_at_call 62; refine (first2c _ 0 1 _ (by simp) (by simp)).mono ?_; rintro e w' ⟨rfl, rfl⟩))
    go_ret2
    exact ⟨by rw [HE.out, HR.out]; rfl, bt hbw below1⟩
  · have hev : ev = c := by rw [EE.out, firstE, if_neg h0]
    have hrv : rv = 0 := by rw [ER.out, if_neg (by omega)]
    have HT := Lib.hid ht
    have HE := Lib.hid hev
    have HR := Lib.hid hrv
    have hcb : (c != 0) = true := by simpa using h0
    clear hev hrv ht hc
    go_enter Tryd.func31, Tryd.ntmps31
    go_wp2_with fail
    refine (CF.out _ below1).mono ?_
    rintro e w1 ⟨rfl, hb1⟩
    have hs1 : w.heap.size < w1.heap.size := by have := hb1.size; simp at this; omega
    have hs2 : w.heap.size < w1.heap.size + 1 := by omega
    have hbw := bt below1 hb1
    have e0 := boxAt hb1 0 rfl
    have e1 := boxAt hb1 1 rfl
    have e2 := boxAt hb1 2 rfl
    have e3 := boxAt hb1 3 rfl
    have e4 := boxAt hb1 4 rfl
    have e5 := boxAt hb1 5 rfl
    have e6 := boxAt hb1 6 rfl
    clear hb1
    go_wp2_with (first
      | (go_at_call 42; refine (isTime_yes _ _ HT.out).mono ?_; rintro e w' ⟨rfl, rfl⟩)
      | (go_at_call 55; refine (when_no _ _).mono ?_; rintro e w' ⟨rfl, rfl⟩)
      | (go_at_call 62; refine (first2c _ c 0 _ (by simp) (by simp)).mono ?_; rintro e w' ⟨rfl, rfl⟩))
    go_ret2
    exact ⟨by rw [HE.out, HR.out]; rfl, bt hbw below1⟩
  · have hev : ev = c := by rw [EE.out, firstE, if_neg h0]
    have hrv : rv = 0 := by rw [ER.out, if_neg (by omega)]
    have HT := Lib.hid (show t < 0 ∨ 36000000 < t by unfold IsTm at ht; omega)
    have HE := Lib.hid hev
    have HR := Lib.hid hrv
    have hcb : (c != 0) = true := by simpa using h0
    clear hev hrv ht hc
    go_enter Tryd.func31, Tryd.ntmps31
    go_wp2_with fail
    refine (CF.out _ below1).mono ?_
    rintro e w1 ⟨rfl, hb1⟩
    have hs1 : w.heap.size < w1.heap.size := by have := hb1.size; simp at this; omega
    have hs2 : w.heap.size < w1.heap.size + 1 := by omega
    have hbw := bt below1 hb1
    have e0 := boxAt hb1 0 rfl
    have e1 := boxAt hb1 1 rfl
    have e2 := boxAt hb1 2 rfl
    have e3 := boxAt hb1 3 rfl
    have e4 := boxAt hb1 4 rfl
    have e5 := boxAt hb1 5 rfl
    have e6 := boxAt hb1 6 rfl
    clear hb1
    go_wp2_with (first
      | (go_at_call 42; refine (isTime_no _ _ HT.out).mono ?_; rintro e w' ⟨rfl, rfl⟩)
      | (go_at_call 55; refine (when_yes _ _).mono ?_; rintro e w' ⟨rfl, rfl⟩)
      | (go_at_call 62; refine (first2c _ c 1 _ (by simp) (by simp)).mono ?_; rintro e w' ⟨rfl, rfl⟩))
    go_ret2
    exact ⟨by rw [HE.out, HR.out]; rfl, bt hbw below1⟩

noncomputable def endsV (f : Fd) : Int := if checkF f = 0 then f.start + f.delay + f.time else 0

end Go.Proofs.YtdicoggpcobbpaaDoor
