/- Given of both sides. (printed by wip/gen/gen_given2.py) -/
import Derived.Test.YteelomjknllcbaaGivenTop
namespace Go.Proofs.Yteelomjknllcbaa
open Go.RowKit
set_option linter.unusedVariables false
set_option linter.unusedSimpArgs false

/-- what Given gives -/
noncomputable def givV (l : List Emi) (zs : List Int) : Value := if givE l zs = 0 then .agg #[.int .i64 (endV (gsum Emi.r l zs l.length)), .int .i64 (endV (gsum Emi.g l zs l.length)), .int .i64 (endV (gsum Emi.b l zs l.length))] else .agg #[.int .i64 0, .int .i64 0, .int .i64 0]
set_option maxRecDepth 100000 in
set_option maxHeartbeats 8000000 in
theorem Given_any (ev zv : Value) (l : List Emi) (zs : List Int) (w : World) (he : EmS w.heap.size w ev l) (hz : IntS w.heap.size w zv zs) :
    Calls Try.prog 19 #[ev, zv] w fun e w' => e = .returned (.tuple #[givV l zs, .int .i64 (givE l zs)]) ∧ Below w.heap.size w w' := by
  have HEM := Lib.hid (fun W (hb : Below w.heap.size w W) => (he.below hb).more hb.size)
  have HIZ := Lib.hid (fun W (hb : Below w.heap.size w W) => (hz.below hb).more hb.size)
  have HGE := Lib.hid (show givE l zs = if chkEm l = 0 then (if zs.length = l.length then (if badL zs = true then 1 else 0) else 3) else chkEm l from rfl)
  have HGZ := Lib.hid (show givE l zs ≠ 0 → givV l zs = .agg #[.int .i64 0, .int .i64 0, .int .i64 0] from fun h => if_neg h)
  have HGV := Lib.hid (show givE l zs = 0 → givV l zs = .agg #[.int .i64 (endV (gsum Emi.r l zs l.length)), .int .i64 (endV (gsum Emi.g l zs l.length)), .int .i64 (endV (gsum Emi.b l zs l.length))] from fun h => if_pos h)
  obtain ⟨ao, cap, rfl, ⟨hcap, hmax⟩, hcl, hfit⟩ := he
  obtain ⟨bo, zcap, rfl, hz1, hz2, hz3⟩ := hz
  unfold maxLen at hmax
  have CE := Lib.hid (fun W (hb : Below w.heap.size w W) => emCheck_any _ l W (HEM.out W hb))
  have KC := Lib.hid (show ∀ W, Below (w.heap.size + 1) (w.alloc (.cells #[.int .i64 0, .int .i64 0, .int .i64 0] 23)) W → (Below w.heap.size w W ∧ w.heap.size < W.heap.size ∧ Box3 W w.heap.size (.int .i64 0) (.int .i64 0) (.int .i64 0)) from fun W hW => by
    have hz := hW.size
    simp at hz
    exact ⟨((Below.refl _ _).alloc (Nat.le_refl _) _).trans (hW.mono (by omega)), by omega, bx_below hW (by omega) (bx_new rfl)⟩)
  have KM := Lib.hid (show ∀ W W', Below (w.heap.size + 1) (w.alloc (.cells #[.int .i64 0, .int .i64 0, .int .i64 0] 23)) W → Below W.heap.size W W' → Below (w.heap.size + 1) (w.alloc (.cells #[.int .i64 0, .int .i64 0, .int .i64 0] 23)) W' from fun W W' h1 h2 => h1.trans (h2.mono (by have := h1.size; simp at this; omega)))
  have KA := Lib.hid (show ∀ W o, Below (w.heap.size + 1) (w.alloc (.cells #[.int .i64 0, .int .i64 0, .int .i64 0] 23)) W → Below (w.heap.size + 1) (w.alloc (.cells #[.int .i64 0, .int .i64 0, .int .i64 0] 23)) (W.alloc o) from fun W o h => h.alloc (by have := h.size; simp at this; omega) o)
  obtain ⟨nb, hnb⟩ : ∃ nb : Bool, ((zs.length : Int) != (l.length : Int)) = nb := ⟨_, rfl⟩
  have HNB := Lib.hid hnb
  obtain ⟨F, hF⟩ : ∃ F, (if chkEm l = 0 then whenV nb 3 else chkEm l) = F := ⟨_, rfl⟩
  have HF := Lib.hid hF
  clear hF
  generalize hce : chkEm l = ce at *
  have HCE := Lib.hid hce
  clear hce
  generalize givV l zs = gv at *
  generalize givE l zs = ge at *
  go_enter Try.func19, Try.ntmps19
  go_upto_region 1 with fail
  go_cut [6] (fun s6 wx => s6 = .int .i64 F ∧ Below (w.heap.size + 1) (w.alloc (.cells #[.int .i64 0, .int .i64 0, .int .i64 0] 23)) wx)
  case first =>
    have hw0 : Below (w.heap.size + 1) (w.alloc (.cells #[.int .i64 0, .int .i64 0, .int .i64 0] 23)) (w.alloc (.cells #[.int .i64 0, .int .i64 0, .int .i64 0] 23)) := Below.refl _ _
    go_wp2_with fail
    refine (CE.out _ (KC.out _ hw0).1).mono ?_
    rintro e WC ⟨rfl, hbC⟩
    have hwC := KM.out _ _ hw0 hbC
    clear hbC
    go_wp2_with fail
    refine (when_B _ 3 _).mono ?_
    rintro e w' ⟨rfl, rfl⟩
    go_wp2_with fail
    refine (first2c _ ce (whenV nb 3) _ (by simp [go_sem]) (by simp [go_sem])).mono ?_
    rw [HF.out]
    rintro e w' ⟨rfl, rfl⟩
    go_wp2_with fail
    all_goals go_meet
    all_goals exact ⟨rfl, by with_reducible first | assumption | exact KA.out _ _ (by assumption)⟩
  case rest =>
    obtain ⟨rfl, hb2⟩ := hcut
    obtain ⟨w2, rfl⟩ : ∃ x, x = wc := ⟨wc, rfl⟩
    obtain ⟨hB2, hz9, t0, t1, t2, t3, t4, t5⟩ := KC.out w2 hb2
    have HB2 := Lib.hid hB2
    clear hB2 hnb
    by_cases hce0 : ce = 0
    rotate_left
    · have hFe : F = ce := by rw [← HF.out, if_neg hce0]
      have HGe := Lib.hid (show ge = ce by rw [HGE.out, if_neg hce0])
      have HV := Lib.hid (HGZ.out (by rw [HGe.out]; exact hce0))
      have hb0 : (ce != 0) = true := by simp [hce0]
      subst hFe
      clear hce0 hcl hfit hz3 CE
      go_wp2
      refine bodyPost_ret (v := .tuple #[.agg #[.int .i64 0, .int .i64 0, .int .i64 0], .int .i64 F]) (by simp [results, Try.results19, go_sem, *]) rfl ⟨by rw [HV.out, HGe.out], below_set3 HB2.out (by omega)⟩
    obtain ⟨hl0, h12, hcol, -⟩ := chkEm_zero (HCE.out.trans hce0)
    by_cases hlen : zs.length = l.length
    rotate_left
    · have hnb1 : nb = true := by rw [← HNB.out, bne_iff_ne]; omega
      have hFe : F = 3 := by rw [← HF.out, if_pos hce0, hnb1]; rfl
      have HGe := Lib.hid (show ge = 3 by rw [HGE.out, if_pos hce0, if_neg hlen])
      have HV := Lib.hid (HGZ.out (by rw [HGe.out]; decide))
      subst hFe
      clear hce0 hcl hfit hz3 CE hlen hnb1
      go_wp2
      refine bodyPost_ret (v := .tuple #[.agg #[.int .i64 0, .int .i64 0, .int .i64 0], .int .i64 3]) (by simp [results, Try.results19, go_sem, *]) rfl ⟨by rw [HV.out, HGe.out], below_set3 HB2.out (by omega)⟩
    have hnb0 : nb = false := by rw [← HNB.out, bne_eq_false_iff_eq]; omega
    have hFe : F = 0 := by rw [← HF.out, if_pos hce0, hnb0]; rfl
    obtain ⟨zb, zoff, rfl, hzb, hrow⟩ := hz3 (by omega)
    have HCT := Lib.hid (hasInt_any zb zoff zcap zs w2 (by omega) (Nat.lt_of_lt_of_le hzb HB2.out.size) (fun i hi => (HB2.out.cell (p := ⟨zb, zoff + i, none⟩) hzb).trans (hrow i hi)))
    cases hbd : badL zs
    rotate_left
    · have HGe := Lib.hid (show ge = 1 by rw [HGE.out, if_pos hce0, if_pos hlen, if_pos hbd])
      have HV := Lib.hid (HGZ.out (by rw [HGe.out]; decide))
      rw [hbd] at HCT
      subst hFe
      clear hce0 hcl hfit CE hrow hlen hcol hbd
      go_wp2_with fail
      refine HCT.out.mono ?_
      rintro e w' ⟨rfl, rfl⟩
      go_wp2
      refine bodyPost_ret (v := .tuple #[.agg #[.int .i64 0, .int .i64 0, .int .i64 0], .int .i64 1]) (by simp [results, Try.results19, go_sem, *]) rfl ⟨by rw [HV.out, HGe.out], below_set3 HB2.out (by omega)⟩
    · have HGe := Lib.hid (show ge = 0 by rw [HGE.out, if_pos hce0, if_pos hlen, hbd]; rfl)
      have HV := Lib.hid (HGV.out HGe.out)
      have HOK := Lib.hid (show GvOk l zs from ⟨hlen, h12, hcol, fun k hk => badL_no hbd k (by omega)⟩)
      rw [hbd] at HCT
      have hlen' : (zs.length : Int) = (l.length : Int) := by omega
      obtain ⟨gA, hgA⟩ : ∃ x, endV (gsum Emi.r l zs l.length) = x := ⟨_, rfl⟩
      obtain ⟨gB, hgB⟩ : ∃ x, endV (gsum Emi.g l zs l.length) = x := ⟨_, rfl⟩
      obtain ⟨gC, hgC⟩ : ∃ x, endV (gsum Emi.b l zs l.length) = x := ⟨_, rfl⟩
      have HGD := Lib.hid (fun W (hb : Below w.heap.size w W) => given_any _ _ l zs W hl0 (HEM.out W hb) (HIZ.out W hb) HOK.out)
      rw [hgA, hgB, hgC] at HGD HV
      clear hgA hgB hgC
      subst hFe
      clear hce0 hcl hfit CE hrow hcol hbd hlen hlen'
      go_wp2_with fail
      refine HCT.out.mono ?_
      rintro e w' ⟨rfl, rfl⟩
      go_wp2_with fail
      refine (HGD.out _ HB2.out).mono ?_
      rintro e w5 ⟨rfl, hb5⟩
      have hw5 := KM.out _ _ hb2 hb5
      clear t0 t1 t2 t3 t4 t5 hb5
      obtain ⟨hB5, hz5, t0, t1, t2, t3, t4, t5⟩ := KC.out w5 hw5
      have HB5 := Lib.hid hB5
      clear hB5 hw5
      go_wp2
      refine bodyPost_ret (v := .tuple #[.agg #[.int .i64 gA, .int .i64 gB, .int .i64 gC], .int .i64 0]) (by simp [results, Try.results19, go_sem, *]) rfl ⟨by rw [HV.out, HGe.out], below_set3 HB5.out (by omega)⟩

set_option maxRecDepth 100000 in
set_option maxHeartbeats 8000000 in
theorem rGiven_any (ev zv : Value) (l : List Emi) (zs : List Int) (w : World) (he : EmS w.heap.size w ev l) (hz : IntS w.heap.size w zv zs) :
    Calls Try.prog 20 #[ev, zv] w fun e w' => e = .returned (.tuple #[givV l zs, .int .i64 (givE l zs)]) ∧ Below w.heap.size w w' := by
  have HEM := Lib.hid (fun W (hb : Below w.heap.size w W) => (he.below hb).more hb.size)
  have HIZ := Lib.hid (fun W (hb : Below w.heap.size w W) => (hz.below hb).more hb.size)
  have HGE := Lib.hid (show givE l zs = if chkEm l = 0 then (if zs.length = l.length then (if badL zs = true then 1 else 0) else 3) else chkEm l from rfl)
  have HGZ := Lib.hid (show givE l zs ≠ 0 → givV l zs = .agg #[.int .i64 0, .int .i64 0, .int .i64 0] from fun h => if_neg h)
  have HGV := Lib.hid (show givE l zs = 0 → givV l zs = .agg #[.int .i64 (endV (gsum Emi.r l zs l.length)), .int .i64 (endV (gsum Emi.g l zs l.length)), .int .i64 (endV (gsum Emi.b l zs l.length))] from fun h => if_pos h)
  obtain ⟨ao, cap, rfl, ⟨hcap, hmax⟩, hcl, hfit⟩ := he
  obtain ⟨bo, zcap, rfl, hz1, hz2, hz3⟩ := hz
  unfold maxLen at hmax
  have CE := Lib.hid (fun W (hb : Below w.heap.size w W) => remCheck_any _ l W (HEM.out W hb))
  have KC := Lib.hid (show ∀ W, Below (w.heap.size + 1) (w.alloc (.cells #[.int .i64 0, .int .i64 0, .int .i64 0] 23)) W → (Below w.heap.size w W ∧ w.heap.size < W.heap.size ∧ Box3 W w.heap.size (.int .i64 0) (.int .i64 0) (.int .i64 0)) from fun W hW => by
    have hz := hW.size
    simp at hz
    exact ⟨((Below.refl _ _).alloc (Nat.le_refl _) _).trans (hW.mono (by omega)), by omega, bx_below hW (by omega) (bx_new rfl)⟩)
  have KM := Lib.hid (show ∀ W W', Below (w.heap.size + 1) (w.alloc (.cells #[.int .i64 0, .int .i64 0, .int .i64 0] 23)) W → Below W.heap.size W W' → Below (w.heap.size + 1) (w.alloc (.cells #[.int .i64 0, .int .i64 0, .int .i64 0] 23)) W' from fun W W' h1 h2 => h1.trans (h2.mono (by have := h1.size; simp at this; omega)))
  have KA := Lib.hid (show ∀ W o, Below (w.heap.size + 1) (w.alloc (.cells #[.int .i64 0, .int .i64 0, .int .i64 0] 23)) W → Below (w.heap.size + 1) (w.alloc (.cells #[.int .i64 0, .int .i64 0, .int .i64 0] 23)) (W.alloc o) from fun W o h => h.alloc (by have := h.size; simp at this; omega) o)
  generalize hce : chkEm l = ce at *
  have HCE := Lib.hid hce
  clear hce
  generalize givV l zs = gv at *
  generalize givE l zs = ge at *
  have hw0 : Below (w.heap.size + 1) (w.alloc (.cells #[.int .i64 0, .int .i64 0, .int .i64 0] 23)) (w.alloc (.cells #[.int .i64 0, .int .i64 0, .int .i64 0] 23)) := Below.refl _ _
  go_enter Try.func20, Try.ntmps20
  go_wp2_with fail
  refine (CE.out _ (KC.out _ hw0).1).mono ?_
  rintro e w2 ⟨rfl, hb⟩
  have hb2 := KM.out _ _ hw0 hb
  clear hb
  obtain ⟨hB2, hz9, t0, t1, t2, t3, t4, t5⟩ := KC.out w2 hb2
  have HB2 := Lib.hid hB2
  clear hB2
  by_cases hce0 : ce = 0
  rotate_left
  · have HGe := Lib.hid (show ge = ce by rw [HGE.out, if_neg hce0])
    have HV := Lib.hid (HGZ.out (by rw [HGe.out]; exact hce0))
    have hb0 : (ce != 0) = true := by simp [hce0]
    clear hce0 hcl hfit hz3 CE
    go_wp2
    refine bodyPost_ret (v := .tuple #[.agg #[.int .i64 0, .int .i64 0, .int .i64 0], .int .i64 ce]) (by simp [results, Try.results20, go_sem, *]) rfl ⟨by rw [HV.out, HGe.out], below_set3 HB2.out (by omega)⟩
  obtain ⟨hl0, h12, hcol, -⟩ := chkEm_zero (HCE.out.trans hce0)
  by_cases hlen : zs.length = l.length
  rotate_left
  · have hnb1 : ((zs.length : Int) != (l.length : Int)) = true := by rw [bne_iff_ne]; omega
    have HGe := Lib.hid (show ge = 3 by rw [HGE.out, if_pos hce0, if_neg hlen])
    have HV := Lib.hid (HGZ.out (by rw [HGe.out]; decide))
    subst hce0
    clear hcl hfit hz3 CE hlen
    go_wp2
    refine bodyPost_ret (v := .tuple #[.agg #[.int .i64 0, .int .i64 0, .int .i64 0], .int .i64 3]) (by simp [results, Try.results20, go_sem, *]) rfl ⟨by rw [HV.out, HGe.out], below_set3 HB2.out (by omega)⟩
  have hnb0 : ((zs.length : Int) != (l.length : Int)) = false := by rw [bne_eq_false_iff_eq]; omega
  obtain ⟨zb, zoff, rfl, hzb, hrow⟩ := hz3 (by omega)
  have HRW := Lib.hid (fun k (hk : k < zs.length) => (HB2.out.cell (p := ⟨zb, zoff + k, none⟩) hzb).trans (hrow k hk))
  have HY := Lib.hid (fun k (hk : k < zs.length) hs => badL_yes zs k hk hs)
  have HN := Lib.hid (fun k (hk : k < zs.length) => badL_next zs k hk)
  have HTL := Lib.hid (show zs.take zs.length = zs from List.take_length)
  have HG1 := Lib.hid (show badL zs = true → ge = 1 from fun h => by rw [HGE.out, if_pos hce0, if_pos hlen, if_pos h])
  have HG0 := Lib.hid (show badL zs = false → ge = 0 from fun h => by rw [HGE.out, if_pos hce0, if_pos hlen, h]; rfl)
  have HLN := Lib.hid hlen
  have HCO := Lib.hid hcol
  have hz12 : zs.length ≤ 12 := by omega
  have hzw2 : zb < w2.heap.size := Nat.lt_of_lt_of_le hzb HB2.out.size
  subst hce0
  clear hcl hfit hrow hlen hcol CE HGE
  go_wp2_with fail
  go_loop [23] (fun i => ∃ k : Nat, k ≤ zs.length ∧ i = .int .i64 k ∧ Hid (badL (zs.take k) = false)) (fun i => zs.length - (intOf i).toNat)
  case atStart => exact ⟨0, Nat.zero_le _, rfl, Lib.hid (by simp [badL])⟩
  case round =>
    obtain ⟨k, hk, rfl, HK⟩ := hrel
    by_cases hlt : k < zs.length
    · have d0 := HRW.out k hlt
      have HYk := Lib.hid (HY.out k hlt)
      have HNk := Lib.hid (HN.out k hlt)
      generalize zs[k] = z at *
      have HF := Lib.hid (rlev_B z)
      generalize inB z 0 65535 = q at *
      cases q
      · have HGe := Lib.hid (HG1.out (HYk.out rfl))
        have HV := Lib.hid (HGZ.out (by rw [HGe.out]; decide))
        go_wp2_with fail
        refine (HF.out _).mono ?_
        rintro e w' ⟨rfl, rfl⟩
        go_wp2
        refine bodyPost_ret (v := .tuple #[.agg #[.int .i64 0, .int .i64 0, .int .i64 0], .int .i64 1]) (by simp [results, Try.results20, go_sem, *]) rfl ⟨by rw [HV.out, HGe.out], below_set3 HB2.out (by omega)⟩
      · have HQ := Lib.hid (show badL (zs.take (k + 1)) = false by rw [HNk.out, HK.out]; rfl)
        clear t0 t1 t2 t3 t4 t5
        go_wp2_with fail
        refine (HF.out _).mono ?_
        rintro e w' ⟨rfl, rfl⟩
        go_wp2_with fail
        go_round
        case rel => exact ⟨k + 1, by omega, by go_num, HQ⟩
        case measure => simp [intOf]; omega
    · have hkk : k = zs.length := by omega
      have hbd : badL zs = false := by have h := HK.out; rw [hkk, HTL.out] at h; exact h
      have HGe := Lib.hid (HG0.out hbd)
      have HV := Lib.hid (HGV.out HGe.out)
      have hlen := HLN.out
      have HOK := Lib.hid (show GvOk l zs from ⟨hlen, h12, HCO.out, fun k hk => badL_no hbd k (by omega)⟩)
      have hlen' : (zs.length : Int) = (l.length : Int) := by omega
      obtain ⟨gA, hgA⟩ : ∃ x, endV (gsum Emi.r l zs l.length) = x := ⟨_, rfl⟩
      obtain ⟨gB, hgB⟩ : ∃ x, endV (gsum Emi.g l zs l.length) = x := ⟨_, rfl⟩
      obtain ⟨gC, hgC⟩ : ∃ x, endV (gsum Emi.b l zs l.length) = x := ⟨_, rfl⟩
      have HGD := Lib.hid (fun W (hb : Below w.heap.size w W) => rgiven_any _ _ l zs W hl0 (HEM.out W hb) (HIZ.out W hb) HOK.out)
      rw [hgA, hgB, hgC] at HGD HV
      clear hgA hgB hgC
      clear hbd hlen hlen' hkk
      go_wp2_with fail
      refine (HGD.out _ HB2.out).mono ?_
      rintro e w5 ⟨rfl, hb5⟩
      have hw5 := KM.out _ _ hb2 hb5
      clear t0 t1 t2 t3 t4 t5 hb5
      obtain ⟨hB5, hz5, t0, t1, t2, t3, t4, t5⟩ := KC.out w5 hw5
      have HB5 := Lib.hid hB5
      clear hB5 hw5
      go_wp2
      refine bodyPost_ret (v := .tuple #[.agg #[.int .i64 gA, .int .i64 gB, .int .i64 gC], .int .i64 0]) (by simp [results, Try.results20, go_sem, *]) rfl ⟨by rw [HV.out, HGe.out], below_set3 HB5.out (by omega)⟩
end Go.Proofs.Yteelomjknllcbaa
