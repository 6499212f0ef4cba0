/- The reference's Reach; the closure of level.Reach. -/
import Derived.Test.YthoiamaomhggiaaLFirst
namespace Go.Proofs.Ythoiamaomhggiaa
open Go.RowKit
set_option linter.unusedVariables false
set_option linter.unusedSimpArgs false

noncomputable def rchE (f : Fd) (k : Int) : Int := firstE (checkF f) (if LvOk k then 0 else 1)
noncomputable def rchB (f : Fd) (k : Int) : Bool := if rchE f k = 0 then reachB f f.to k else false
noncomputable def rchT (f : Fd) (k : Int) : Int := if rchB f k = true then bsV (fun t => reachB f (atV f t) k) f.start (f.start + f.delay + f.time) else 0

set_option maxHeartbeats 4000000 in
theorem rReach_any (v : Value) (f : Fd) (k : Int) (w : World) (hv : FdV w v f) :
    Calls Try.prog 43 #[v, .int .i64 k] w fun e w' => e = .returned (.tuple #[.int .i64 (rchT f k), .bool (rchB f k), .int .i64 (rchE f k)]) ∧ Below w.heap.size w w' := by
  have CF := Lib.hid (fun W (hW : Below w.heap.size w W) => rcheckFade_any v f W (fdV_below hv hW))
  have CH := Lib.hid (fun W (hW : Below w.heap.size w W) => reached_any v f f.to k W (fdV_below hv hW))
  have CS := Lib.hid (fun (hf : RightF f) (h0 : 0 ≤ f.start) (h1 : f.start ≤ f.start + f.delay + f.time) (h2 : f.start + f.delay + f.time ≤ 36000000) W (hW : Below w.heap.size w W) => rfirst_any v f f.start (f.start + f.delay + f.time) k W (fdV_below hv hW) hf h0 h1 h2)
  have CR := Lib.hid (checkF_right f)
  have EE : Hid (rchE f k = firstE (checkF f) (if LvOk k then 0 else 1)) := rfl
  have EB : Hid (rchB f k = if rchE f k = 0 then reachB f f.to k else false) := rfl
  have ET : Hid (rchT f k = if rchB f k = true then bsV (fun t => reachB f (atV f t) k) f.start (f.start + f.delay + f.time) else 0) := rfl
  obtain ⟨p, rfl, hp⟩ := hv
  clear hp
  generalize hc : checkF f = c at *
  generalize rchE f k = ev at *
  generalize rchB f k = bv at *
  generalize rchT f k = tv at *
  generalize bsV (fun t => reachB f (atV f t) k) f.start (f.start + f.delay + f.time) = sv at *
  generalize hrb : reachB f f.to k = rb at *
  clear hrb
  by_cases h0 : c = 0
  · subst h0
    have HF := Lib.hid (CR.out.1 rfl)
    by_cases hk : LvOk k
    · have he : ev = 0 := by rw [EE.out, firstE, if_pos rfl, if_pos hk]
      have hbv : bv = rb := by rw [EB.out, if_pos he]
      have HK := Lib.hid hk
      obtain ⟨_, _, b1, b2, b3, b4, _⟩ := HF.out
      unfold IsTm at b1 b2 b3 b4
      have CS2 := Lib.hid (CS.out HF.out b1.1 (by omega) b4.2)
      cases rb
      · have ht : tv = 0 := by rw [ET.out, hbv]; rfl
        have HE := Lib.hid he
        have HB := Lib.hid hbv
        have HT := Lib.hid ht
        clear he hbv ht hk EE EB ET hc
        go_enter Try.func43, Try.ntmps43
        go_wp2_with fail
        refine (CF.out _ below1).mono ?_
        rintro e w1 ⟨rfl, hb1⟩
        have HW := Lib.hid (bt below1 hb1)
        have e0 := boxAt hb1 0 rfl
        have e1 := boxAt hb1 1 rfl
        have e2 := boxAt hb1 2 rfl
        have e3 := boxAt hb1 3 rfl
        have e4 := boxAt hb1 4 rfl
        have e5 := boxAt hb1 5 rfl
        have e6 := boxAt hb1 6 rfl
        clear hb1
        go_wp2_with fail
        refine (rLv_yes _ _ HK.out).mono ?_
        rintro e w' ⟨rfl, rfl⟩
        go_wp2_with fail
        refine (CH.out _ HW.out).mono ?_
        rintro e w2 ⟨rfl, hb2⟩
        have HW2 := Lib.hid (bt HW.out hb2)
        clear hb2
        go_wp2
        exact bodyPost_ret (v := .tuple #[.int .i64 0, .bool false, .int .i64 0]) (by simp [results, Try.results43, go_sem]) rfl ⟨by rw [HE.out, HB.out, HT.out], HW2.out⟩
      · have ht : tv = sv := by rw [ET.out, hbv]; rfl
        have HE := Lib.hid he
        have HB := Lib.hid hbv
        have HT := Lib.hid ht
        clear he hbv ht hk EE EB ET hc
        go_enter Try.func43, Try.ntmps43
        go_wp2_with fail
        refine (CF.out _ below1).mono ?_
        rintro e w1 ⟨rfl, hb1⟩
        have HW := Lib.hid (bt below1 hb1)
        have hs1 : w.heap.size < w1.heap.size := by have := hb1.size; simp at this; omega
        have e0 := boxAt hb1 0 rfl
        have e1 := boxAt hb1 1 rfl
        have e2 := boxAt hb1 2 rfl
        have e3 := boxAt hb1 3 rfl
        have e4 := boxAt hb1 4 rfl
        have e5 := boxAt hb1 5 rfl
        have e6 := boxAt hb1 6 rfl
        clear hb1
        go_wp2_with fail
        refine (rLv_yes _ _ HK.out).mono ?_
        rintro e w' ⟨rfl, rfl⟩
        go_wp2_with fail
        refine (CH.out _ HW.out).mono ?_
        rintro e w2 ⟨rfl, hb2⟩
        have HW2 := Lib.hid (bt HW.out hb2)
        have d0 := (hb2.cell (p := ⟨w.heap.size, 0, none⟩) hs1).trans e0
        have d1 := (hb2.cell (p := ⟨w.heap.size, 1, none⟩) hs1).trans e1
        have d2 := (hb2.cell (p := ⟨w.heap.size, 2, none⟩) hs1).trans e2
        have d3 := (hb2.cell (p := ⟨w.heap.size, 3, none⟩) hs1).trans e3
        have d4 := (hb2.cell (p := ⟨w.heap.size, 4, none⟩) hs1).trans e4
        have d5 := (hb2.cell (p := ⟨w.heap.size, 5, none⟩) hs1).trans e5
        have d6 := (hb2.cell (p := ⟨w.heap.size, 6, none⟩) hs1).trans e6
        clear hb2 e0 e1 e2 e3 e4 e5 e6
        go_wp2_with fail
        refine (CS2.out _ HW2.out).mono ?_
        rintro e w3 ⟨rfl, hb3⟩
        have HW3 := Lib.hid (bt HW2.out hb3)
        clear hb3
        go_wp2
        exact bodyPost_ret (v := .tuple #[.int .i64 sv, .bool true, .int .i64 0]) (by simp [results, Try.results43, go_sem]) rfl ⟨by rw [HE.out, HB.out, HT.out], HW3.out⟩
    · have he : ev = 1 := by rw [EE.out, firstE, if_pos rfl, if_neg hk]
      have hbv : bv = false := by rw [EB.out, if_neg (by omega)]
      have ht : tv = 0 := by rw [ET.out, hbv]; rfl
      have HK := Lib.hid hk
      have HE := Lib.hid he
      have HB := Lib.hid hbv
      have HT := Lib.hid ht
      clear he hbv ht hk EE EB ET hc
      go_enter Try.func43, Try.ntmps43
      go_wp2_with fail
      refine (CF.out _ below1).mono ?_
      rintro e w1 ⟨rfl, hb1⟩
      have HW := Lib.hid (bt below1 hb1)
      clear hb1
      go_wp2_with fail
      refine (rLv_no _ _ HK.out).mono ?_
      rintro e w' ⟨rfl, rfl⟩
      go_wp2
      exact bodyPost_ret (v := .tuple #[.int .i64 0, .bool false, .int .i64 1]) (by simp [results, Try.results43, go_sem]) rfl ⟨by rw [HE.out, HB.out, HT.out], HW.out⟩
  · have he : ev = c := by rw [EE.out, firstE, if_neg h0]
    have hbv : bv = false := by rw [EB.out, if_neg (by omega)]
    have ht : tv = 0 := by rw [ET.out, hbv]; rfl
    have HE := Lib.hid he
    have HB := Lib.hid hbv
    have HT := Lib.hid ht
    have hcb : (c != 0) = true := by simpa using h0
    clear he hbv ht EE EB ET hc
    go_enter Try.func43, Try.ntmps43
    go_wp2_with fail
    refine (CF.out _ below1).mono ?_
    rintro e w1 ⟨rfl, hb1⟩
    have HW := Lib.hid (bt below1 hb1)
    clear hb1
    go_wp2
    exact bodyPost_ret (v := .tuple #[.int .i64 0, .bool false, .int .i64 c]) (by simp [results, Try.results43, go_sem]) rfl ⟨by rw [HE.out, HB.out, HT.out], HW.out⟩
end Go.Proofs.Ythoiamaomhggiaa
