/- The reference's checkParam. (printed by wip/gen/gen_rckpar.py) -/
import Derived.Test.YtppbagllhmeenaaGreatDoorT68M40
import Derived.Test.YtppbagllhmeenaaGreatDoorT68M35

namespace Go.Proofs.YtppbagllhmeenaaGreatDoor
open Go.RowKit
set_option linter.unusedVariables false
set_option linter.unusedSimpArgs false

theorem slotsP_len (p : Par) : (slotsP p).length ≤ 2 := by unfold slotsP; split <;> simp
theorem not_used_snoc (SL : List Int) (l : List Par) (k : Nat) (h : k < l.length) (h1 : ∀ s ∈ SL, s ∉ usedS (l.take k)) (h2 : ∀ s ∈ SL, s ∉ slotsP l[k]) : ∀ s ∈ SL, s ∉ usedS (l.take (k + 1)) := by
  intro s hs
  rw [used_snoc l k h, List.mem_append]
  rintro (h3 | h3)
  · exact h1 s hs h3
  · exact h2 s hs h3
theorem mem_take_at {α : Type} (f : α → List UInt8) (l : List α) (k j : Nat) (h : j < l.length) (hj : j < k) (x : List UInt8) (h2 : f l[j] = x) : x ∈ (l.take k).map f := by
  refine List.mem_map.2 ⟨l[j], ?_, h2⟩
  have h3 : j < (l.take k).length := by rw [List.length_take]; omega
  have h4 : (l.take k)[j] = l[j] := List.getElem_take
  rw [← h4]; exact List.getElem_mem h3
theorem used_at (l : List Par) (k : Nat) (h : k < l.length) (s : Int) (hs : s ∈ slotsP l[k]) : s ∈ usedS l := List.mem_flatMap.2 ⟨_, List.getElem_mem h, hs⟩
set_option maxRecDepth 100000 in
set_option maxHeartbeats 16000000 in
theorem rckParam_any (size : Int) (pre : List Par) (x : Par) (po : Option Addr) (pcap : Nat) (ro : Option Addr) (rcap : Nat) (w : World) (hp : ParS w.heap.size w (.slice po pre.length pcap) pre) (hpl : pre.length ≤ 100) (hpf : ∀ q ∈ pre, 0 ≤ q.fine ∧ q.name.size ≤ maxLen)
    (hr : RngS w.heap.size w (.slice ro x.rngs.length rcap) x.rngs) (hf : ParFit x) :
    Calls Tryz.prog 80 #[.agg #[.string x.name, .int .i64 x.grp, .int .i64 x.sl, .int .i64 x.fine, .int .i64 x.dflt, .bool x.snap, .slice ro x.rngs.length rcap], .slice po pre.length pcap, .int .i64 size] w fun e w' => e = .returned (.int .i64 (parF size pre x)) ∧ Below w.heap.size w w' := by
  have HG := Lib.hid (ParS.get hp)
  have HRG := Lib.hid (RngS.get hr)
  have HPF := Lib.hid hpf
  have hrl := CellsS.len hr
  unfold maxLen at hrl
  have hrc : x.rngs.length ≤ rcap ∧ rcap ≤ 9223372036854775807 := by
    obtain ⟨ao', cap', e, h1, h2, _⟩ := hr
    injection e with _ _ e3
    subst e3
    unfold maxLen at h2
    exact ⟨h1, by omega⟩
  clear hp hr hpf
  obtain ⟨xn, xg, xs, xf, xd, xb, rl⟩ := x
  obtain ⟨g0, g1, g2, g3, hns, hfr⟩ := hf
  have HFR := Lib.hid hfr
  have HNS := Lib.hid hns
  have HFD := Lib.hid (show parF size pre ⟨xn, xg, xs, xf, xd, xb, rl⟩ = if !nameB xn.data.toList then 5 else if xn.data.toList ∈ pre.map Par.nm then 6 else if !inR xg 1 4 then 4 else if parBad size ⟨xn, xg, xs, xf, xd, xb, rl⟩ then 1 else if parClash pre ⟨xn, xg, xs, xf, xd, xb, rl⟩ then 12 else chkRngs rl from rfl)
  have HBD := Lib.hid (show parBad size ⟨xn, xg, xs, xf, xd, xb, rl⟩ = (!inR xs 1 size || !inR xf 0 size || !inR xd 0 65535) from rfl)
  have HBF := Lib.hid (show parBad size ⟨xn, xg, xs, xf, xd, xb, rl⟩ = false → 0 ≤ xf from fun h => (parBad_false h).2.1.1)
  have HCL := Lib.hid (show parClash pre ⟨xn, xg, xs, xf, xd, xb, rl⟩ = (decide (xs = xf) || decide (xs ∈ usedS pre) || (decide (0 < xf) && decide (xf ∈ usedS pre))) from rfl)
  have HSL := Lib.hid (show slotsP ⟨xn, xg, xs, xf, xd, xb, rl⟩ = if 0 < xf then [xs, xf] else [xs] from rfl)
  have HRS := Lib.hid (fun W (h : 0 ≤ xf) => rslots_any ⟨xn, xg, xs, xf, xd, xb, rl⟩ ro rl.length rcap W h)
  simp only at *
  clear g0 g1 g2 g3 hfr hns
  generalize parF size pre ⟨xn, xg, xs, xf, xd, xb, rl⟩ = RES at *
  generalize parBad size ⟨xn, xg, xs, xf, xd, xb, rl⟩ = BD at *
  generalize parClash pre ⟨xn, xg, xs, xf, xd, xb, rl⟩ = CL at *
  generalize slotsP ⟨xn, xg, xs, xf, xd, xb, rl⟩ = SL at *
  have KC := Lib.hid (show ∀ W, Below (w.heap.size + 1) (w.alloc (.cells #[.string xn, .int .i64 xg, .int .i64 xs, .int .i64 xf, .int .i64 xd, .bool xb, .slice ro rl.length rcap] 73)) W → (Below w.heap.size w W ∧ w.heap.size < W.heap.size ∧ W.cell? ⟨w.heap.size, 0, none⟩ = some (.string xn) ∧ W.cell? ⟨w.heap.size, 1, none⟩ = some (.int .i64 xg) ∧ W.cell? ⟨w.heap.size, 2, none⟩ = some (.int .i64 xs) ∧ W.cell? ⟨w.heap.size, 3, none⟩ = some (.int .i64 xf) ∧ W.cell? ⟨w.heap.size, 4, none⟩ = some (.int .i64 xd) ∧ W.cell? ⟨w.heap.size, 5, none⟩ = some (.bool xb) ∧ W.cell? ⟨w.heap.size, 6, none⟩ = some (.slice ro rl.length rcap)) from fun W hW => by
    have hz := hW.size
    simp at hz
    exact ⟨((Below.refl _ _).alloc (Nat.le_refl _) _).trans (hW.mono (by omega)), by omega, (hW.cell (p := ⟨w.heap.size, 0, none⟩) (by simp)).trans (by simp [go_sem]), (hW.cell (p := ⟨w.heap.size, 1, none⟩) (by simp)).trans (by simp [go_sem]), (hW.cell (p := ⟨w.heap.size, 2, none⟩) (by simp)).trans (by simp [go_sem]), (hW.cell (p := ⟨w.heap.size, 3, none⟩) (by simp)).trans (by simp [go_sem]), (hW.cell (p := ⟨w.heap.size, 4, none⟩) (by simp)).trans (by simp [go_sem]), (hW.cell (p := ⟨w.heap.size, 5, none⟩) (by simp)).trans (by simp [go_sem]), (hW.cell (p := ⟨w.heap.size, 6, none⟩) (by simp)).trans (by simp [go_sem])⟩)
  have KA := Lib.hid (show ∀ W o, Below (w.heap.size + 1) (w.alloc (.cells #[.string xn, .int .i64 xg, .int .i64 xs, .int .i64 xf, .int .i64 xd, .bool xb, .slice ro rl.length rcap] 73)) W → Below (w.heap.size + 1) (w.alloc (.cells #[.string xn, .int .i64 xg, .int .i64 xs, .int .i64 xf, .int .i64 xd, .bool xb, .slice ro rl.length rcap] 73)) (W.alloc o) from fun W o h => h.alloc (by have := h.size; simp at this; omega) o)
  have KM := Lib.hid (show ∀ W W1, Below (w.heap.size + 1) (w.alloc (.cells #[.string xn, .int .i64 xg, .int .i64 xs, .int .i64 xf, .int .i64 xd, .bool xb, .slice ro rl.length rcap] 73)) W → Below W.heap.size W W1 → Below (w.heap.size + 1) (w.alloc (.cells #[.string xn, .int .i64 xg, .int .i64 xs, .int .i64 xf, .int .i64 xd, .bool xb, .slice ro rl.length rcap] 73)) W1 from fun W W1 h1 h2 => h1.trans (h2.mono (by have := h1.size; simp at this; omega)))
  have HB0 := Lib.hid (Below.refl (w.heap.size + 1) (w.alloc (.cells #[.string xn, .int .i64 xg, .int .i64 xs, .int .i64 xf, .int .i64 xd, .bool xb, .slice ro rl.length rcap] 73)))
  go_enter Tryz.func80, Tryz.ntmps80
  rcases Bool.eq_false_or_eq_true (nameB xn.data.toList) with k0 | k0
  rotate_left
  · skip
    have HV := Lib.hid (show RES = 5 by rw [HFD.out]; simp [k0])
    go_wp2_with (first | (go_at_call 103; ((with_reducible refine (rLevel_R _ _).mono ?_); rintro e w' ⟨rfl, rfl⟩)) | (go_at_call 56; ((with_reducible refine (rwithin_R _ _ _ _).mono ?_); rintro e w' ⟨rfl, rfl⟩)) | (go_at_call 79; ((with_reducible refine (isName_any _ _ (by first | exact HNS.out | exact hns)).mono ?_); rintro e w' ⟨rfl, rfl⟩)) | fail)
    go_ret
    exact ⟨by rw [HV.out] <;> rfl, (KC.out _ HB0.out).1⟩
  have HF1 := Lib.hid (show RES = if xn.data.toList ∈ pre.map Par.nm then 6 else if !inR xg 1 4 then 4 else if BD then 1 else if CL then 12 else chkRngs rl by rw [HFD.out]; simp [k0])
  clear HFD
  go_wp2_with (first | (go_at_call 103; ((with_reducible refine (rLevel_R _ _).mono ?_); rintro e w' ⟨rfl, rfl⟩)) | (go_at_call 56; ((with_reducible refine (rwithin_R _ _ _ _).mono ?_); rintro e w' ⟨rfl, rfl⟩)) | (go_at_call 79; ((with_reducible refine (isName_any _ _ (by first | exact HNS.out | exact hns)).mono ?_); rintro e w' ⟨rfl, rfl⟩)) | fail)
  clear k0
  go_loopw [23] (fun i wx => ∃ k : Nat, k ≤ pre.length ∧ i = .int .i64 k ∧ Hid (xn.data.toList ∉ (pre.take k).map Par.nm) ∧ Hid (Below (w.heap.size + 1) (w.alloc (.cells #[.string xn, .int .i64 xg, .int .i64 xs, .int .i64 xf, .int .i64 xd, .bool xb, .slice ro rl.length rcap] 73)) wx)) (fun i _ => pre.length - (intOf i).toNat)
  case atStart => exact ⟨0, Nat.zero_le _, rfl, Lib.hid (by simp), HB0⟩
  case round =>
    obtain ⟨k, hk, rfl, HNI, HBW⟩ := hrel
    obtain ⟨hB, hz, p0, p1, p2, p3, p4, p5, p6⟩ := KC.out wr HBW.out
    by_cases hlt : k < pre.length
    · obtain ⟨b, off, cap', hsl, hb, _, hc⟩ := HG.out (by omega)
      injection hsl with hs1 hs2 hs3
      subst hs1 hs3
      obtain ⟨rv, hrv, hcc⟩ := hc k hlt
      obtain ⟨d0, d1, d2, d3, d4, d5, d6⟩ := hcc wr hB
      obtain ⟨yo, ycap, rfl, _⟩ := CellsS.shape hrv
      have hbr : b < wr.heap.size := by have := hB.size; omega
      have HMA := Lib.hid (mem_at Par.nm pre k hlt xn.data.toList)
      have HNM := Lib.hid (not_mem_snoc Par.nm pre k hlt xn.data.toList HNI.out)
      have hnm : pre[k].nm = pre[k].name.data.toList := rfl
      rw [hnm] at HMA HNM
      clear hnm hc hcc hrv hB p1 p2 p3 p4 p5 p6
      generalize hrk : pre[k] = rk at *
      clear hrk
      obtain ⟨yn, yg, ys, yf, yd, yb, yl⟩ := rk
      simp only at *
      have HBX := Lib.hid (KA.out _ (.cells #[.string yn, .int .i64 yg, .int .i64 ys, .int .i64 yf, .int .i64 yd, .bool yb, .slice yo yl.length ycap] 73) HBW.out)
      by_cases he : yn.data.toList = xn.data.toList
      · have hin := HMA.out he
        have h2 : (yn.toList == xn.toList) = true := by rw [Lib.toList_data, Lib.toList_data]; simpa using he
        have HV := Lib.hid (show RES = 6 by rw [HF1.out, if_pos hin])
        go_wp2_with fail
        go_ret
        exact ⟨by rw [HV.out] <;> rfl, (KC.out _ HBX.out).1⟩
      · have h2 : (yn.toList == xn.toList) = false := by rw [Lib.toList_data, Lib.toList_data]; simpa using he
        have HV := Lib.hid (HNM.out he)
        clear he HMA HNM
        go_wp2_with fail
        go_roundw
        case rel => exact ⟨k + 1, by omega, by go_num, HV, HBX⟩
        case measure => simp [intOf]; omega
    · have hkk : k = pre.length := by omega
      have HF2 := Lib.hid (show RES = if !inR xg 1 4 then 4 else if BD then 1 else if CL then 12 else chkRngs rl by
        have h := HNI.out
        rw [hkk, List.take_length] at h
        rw [HF1.out, if_neg h])
      subst hkk
      clear HNI HF1 hB hk hlt
      rcases Bool.eq_false_or_eq_true (inR xg 1 4) with k1 | k1
      rotate_left
      · skip
        have HV := Lib.hid (show RES = 4 by rw [HF2.out]; simp [k1])
        go_wp2_with (first | (go_at_call 103; ((with_reducible refine (rLevel_R _ _).mono ?_); rintro e w' ⟨rfl, rfl⟩)) | (go_at_call 56; ((with_reducible refine (rwithin_R _ _ _ _).mono ?_); rintro e w' ⟨rfl, rfl⟩)) | (go_at_call 79; ((with_reducible refine (isName_any _ _ (by first | exact HNS.out | exact hns)).mono ?_); rintro e w' ⟨rfl, rfl⟩)) | fail)
        go_ret
        exact ⟨by rw [HV.out] <;> rfl, (KC.out _ HBW.out).1⟩
      have HF3 := Lib.hid (show RES = if BD then 1 else if CL then 12 else chkRngs rl by rw [HF2.out]; simp [k1])
      go_upto_region 11 with (first | (go_at_call 103; ((with_reducible refine (rLevel_R _ _).mono ?_); rintro e w' ⟨rfl, rfl⟩)) | (go_at_call 56; ((with_reducible refine (rwithin_R _ _ _ _).mono ?_); rintro e w' ⟨rfl, rfl⟩)) | (go_at_call 79; ((with_reducible refine (isName_any _ _ (by first | exact HNS.out | exact hns)).mono ?_); rintro e w' ⟨rfl, rfl⟩)) | fail)
      clear HF2 k1 p0 p1
      go_cut [38] (fun s38 wx => s38 = .bool BD ∧ wx = wr)
      case first =>
        rcases Bool.eq_false_or_eq_true (inR xs 1 size) with j0 | j0
        rotate_left
        · skip
          have HV := Lib.hid (show BD = true by rw [HBD.out]; simp [j0])
          go_wp2_with (first | (go_at_call 103; ((with_reducible refine (rLevel_R _ _).mono ?_); rintro e w' ⟨rfl, rfl⟩)) | (go_at_call 56; ((with_reducible refine (rwithin_R _ _ _ _).mono ?_); rintro e w' ⟨rfl, rfl⟩)) | (go_at_call 79; ((with_reducible refine (isName_any _ _ (by first | exact HNS.out | exact hns)).mono ?_); rintro e w' ⟨rfl, rfl⟩)) | fail)
          all_goals go_meet
          all_goals exact ⟨by rw [HV.out] <;> rfl, rfl⟩
        rcases Bool.eq_false_or_eq_true (inR xf 0 size) with j1 | j1
        rotate_left
        · skip
          have HV := Lib.hid (show BD = true by rw [HBD.out]; simp [j0, j1])
          go_wp2_with (first | (go_at_call 103; ((with_reducible refine (rLevel_R _ _).mono ?_); rintro e w' ⟨rfl, rfl⟩)) | (go_at_call 56; ((with_reducible refine (rwithin_R _ _ _ _).mono ?_); rintro e w' ⟨rfl, rfl⟩)) | (go_at_call 79; ((with_reducible refine (isName_any _ _ (by first | exact HNS.out | exact hns)).mono ?_); rintro e w' ⟨rfl, rfl⟩)) | fail)
          all_goals go_meet
          all_goals exact ⟨by rw [HV.out] <;> rfl, rfl⟩
        rcases Bool.eq_false_or_eq_true (inR xd 0 65535) with j2 | j2
        rotate_left
        · skip
          have HV := Lib.hid (show BD = true by rw [HBD.out]; simp [j0, j1, j2])
          go_wp2_with (first | (go_at_call 103; ((with_reducible refine (rLevel_R _ _).mono ?_); rintro e w' ⟨rfl, rfl⟩)) | (go_at_call 56; ((with_reducible refine (rwithin_R _ _ _ _).mono ?_); rintro e w' ⟨rfl, rfl⟩)) | (go_at_call 79; ((with_reducible refine (isName_any _ _ (by first | exact HNS.out | exact hns)).mono ?_); rintro e w' ⟨rfl, rfl⟩)) | fail)
          all_goals go_meet
          all_goals exact ⟨by rw [HV.out] <;> rfl, rfl⟩
        · skip
          have HV := Lib.hid (show BD = false by rw [HBD.out]; simp [j0, j1, j2])
          go_wp2_with (first | (go_at_call 103; ((with_reducible refine (rLevel_R _ _).mono ?_); rintro e w' ⟨rfl, rfl⟩)) | (go_at_call 56; ((with_reducible refine (rwithin_R _ _ _ _).mono ?_); rintro e w' ⟨rfl, rfl⟩)) | (go_at_call 79; ((with_reducible refine (isName_any _ _ (by first | exact HNS.out | exact hns)).mono ?_); rintro e w' ⟨rfl, rfl⟩)) | fail)
          all_goals go_meet
          all_goals exact ⟨by rw [HV.out] <;> rfl, rfl⟩
      case rest =>
        obtain ⟨rfl, rfl⟩ := hcut
        cases BD
        rotate_left
        · skip
          have HV := Lib.hid (show RES = 1 by rw [HF3.out]; rfl)
          go_wp2_with fail
          go_ret
          exact ⟨by rw [HV.out] <;> rfl, (KC.out _ HBW.out).1⟩
        have hf0 := HBF.out rfl
        have HF4 := Lib.hid (show RES = if CL then 12 else chkRngs rl by rw [HF3.out]; rfl)
        have HRX := Lib.hid (fun W => HRS.out W hf0)
        clear HF3 HBD HBF HRS
        by_cases j0 : xs = xf
        · have j1 : (xs == xf) = true := by simpa using j0
          have HV := Lib.hid (show RES = 12 by rw [HF4.out, HCL.out]; simp [j0])
          go_wp2_with fail
          go_ret
          exact ⟨by rw [HV.out] <;> rfl, (KC.out _ HBW.out).1⟩
        have j1 : (xs == xf) = false := by simpa using j0
        have HCX := Lib.hid (show CL = (decide (xs ∈ usedS pre) || (decide (0 < xf) && decide (xf ∈ usedS pre))) by rw [HCL.out]; simp [j0])
        have HCY := Lib.hid (show CL = true ↔ ∃ s ∈ SL, s ∈ usedS pre by
          rw [HCX.out, HSL.out]
          by_cases c : 0 < xf
          · simp [c]
          · simp [c])
        have HSLN := Lib.hid (show SL.length ≤ 2 by rw [HSL.out]; split <;> simp)
        clear HCL HCX HSL
        go_wp2_with fail
        clear j0 j1 p2 p3 p4 p5 p6 hz
        go_loopw [65] (fun i wx => ∃ k : Nat, k ≤ pre.length ∧ i = .int .i64 k ∧ Hid (∀ s ∈ SL, s ∉ usedS (pre.take k)) ∧ Hid (Below (w.heap.size + 1) (w.alloc (.cells #[.string xn, .int .i64 xg, .int .i64 xs, .int .i64 xf, .int .i64 xd, .bool xb, .slice ro rl.length rcap] 73)) wx)) (fun i _ => pre.length - (intOf i).toNat)
        case atStart => exact ⟨0, Nat.zero_le _, rfl, Lib.hid (by simp [usedS]), HBW⟩
        case round =>
          clear HBW
          obtain ⟨k, hk, rfl, HNI, HBW⟩ := hrel
          obtain ⟨wo, rfl⟩ : ∃ wo : World, wo = wr := ⟨_, rfl⟩
          obtain ⟨hB, hz, p0, p1, p2, p3, p4, p5, p6⟩ := KC.out wo HBW.out
          by_cases hlt : k < pre.length
          · obtain ⟨b, off, cap', hsl, hb, _, hc⟩ := HG.out (by omega)
            injection hsl with hs1 hs2 hs3
            subst hs1 hs3
            obtain ⟨rv, hrv, hcc⟩ := hc k hlt
            obtain ⟨d0, d1, d2, d3, d4, d5, d6⟩ := hcc wo hB
            obtain ⟨yo, ycap, rfl, _⟩ := CellsS.shape hrv
            have hbr : b < wo.heap.size := by have := hB.size; omega
            have HUA := Lib.hid (used_at pre k hlt)
            have HNU := Lib.hid (not_used_snoc SL pre k hlt HNI.out)
            have HYS := Lib.hid (fun W => rslots_any pre[k] yo pre[k].rngs.length ycap W (HPF.out _ (List.getElem_mem hlt)).1)
            have HYL := Lib.hid (slotsP_len pre[k])
            clear hc hcc hrv hB
            generalize slotsP pre[k] = YS at *
            generalize hrk : pre[k] = rk at *
            clear hrk
            obtain ⟨yn, yg, ys, yf, yd, yb, yl⟩ := rk
            simp only at *
            have HBX := Lib.hid (KA.out _ (.cells #[.string yn, .int .i64 yg, .int .i64 ys, .int .i64 yf, .int .i64 yd, .bool yb, .slice yo yl.length ycap] 73) HBW.out)
            clear HNI
            go_wp2_with fail
            refine (HRX.out _).mono ?_
            rintro e w3 ⟨g, rfl, hg, hgl, hcs, hb3⟩
            simp only [World.size_alloc] at hgl hb3
            have hz3 := hb3.size
            simp only [World.size_alloc] at hz3
            have HB3 := Lib.hid (KM.out _ w3 HBX.out (hb3.mono (by simp)))
            have KY := Lib.hid (show ∀ W, Below w3.heap.size w3 W → W.cell? ⟨wo.heap.size, 0, none⟩ = some (.string yn) ∧ W.cell? ⟨wo.heap.size, 1, none⟩ = some (.int .i64 yg) ∧ W.cell? ⟨wo.heap.size, 2, none⟩ = some (.int .i64 ys) ∧ W.cell? ⟨wo.heap.size, 3, none⟩ = some (.int .i64 yf) ∧ W.cell? ⟨wo.heap.size, 4, none⟩ = some (.int .i64 yd) ∧ W.cell? ⟨wo.heap.size, 5, none⟩ = some (.bool yb) ∧ W.cell? ⟨wo.heap.size, 6, none⟩ = some (.slice yo yl.length ycap) from fun W hW => by
              have h := (hb3.trans (hW.mono (by omega)))
              exact ⟨(h.cell (p := ⟨wo.heap.size, 0, none⟩) (by simp)).trans (by simp [go_sem]), (h.cell (p := ⟨wo.heap.size, 1, none⟩) (by simp)).trans (by simp [go_sem]), (h.cell (p := ⟨wo.heap.size, 2, none⟩) (by simp)).trans (by simp [go_sem]), (h.cell (p := ⟨wo.heap.size, 3, none⟩) (by simp)).trans (by simp [go_sem]), (h.cell (p := ⟨wo.heap.size, 4, none⟩) (by simp)).trans (by simp [go_sem]), (h.cell (p := ⟨wo.heap.size, 5, none⟩) (by simp)).trans (by simp [go_sem]), (h.cell (p := ⟨wo.heap.size, 6, none⟩) (by simp)).trans (by simp [go_sem])⟩)
            have KG := Lib.hid (show ∀ W, Below w3.heap.size w3 W → ∀ i (h : i < SL.length), W.cell? ⟨g, i, none⟩ = some (.int .i64 SL[i]) from fun W hW i h => (hW.cell (p := ⟨g, i, none⟩) hg).trans (hcs i h))
            clear hb3 hcs d0 d1 d2 d3 d4 d5 d6 p0 p1 p2 p3 p4 p5 p6
            have hsl2 := HSLN.out
            go_wp2_with fail
            go_loopw [72] (fun i wx => ∃ i' : Nat, i' ≤ SL.length ∧ i = .int .i64 i' ∧ Hid (∀ j (h : j < SL.length), j < i' → SL[j] ∉ YS) ∧ Hid (Below w3.heap.size w3 wx)) (fun i _ => SL.length - (intOf i).toNat)
            case atStart => exact ⟨0, Nat.zero_le _, rfl, Lib.hid (fun j _ h => absurd h (Nat.not_lt_zero _)), Lib.hid (Below.refl _ _)⟩
            case round =>
              obtain ⟨i, hi, rfl, HNJ, HBI⟩ := hrel
              have hzi := HBI.out.size
              by_cases hilt : i < SL.length
              · obtain ⟨y0, y1, y2, y3, y4, y5, y6⟩ := KY.out wr HBI.out
                have e0 := KG.out wr HBI.out i hilt
                have hgr : g < wr.heap.size := by omega
                have hor : wo.heap.size < wr.heap.size := by omega
                have HIS := Lib.hid (List.getElem_mem hilt)
                have HNN := Lib.hid (show SL[i] ∉ YS → ∀ j (h : j < SL.length), j < i + 1 → SL[j] ∉ YS from fun h j hj hji => by
                  by_cases c : j = i
                  · subst c; exact h
                  · exact HNJ.out j hj (by omega))
                generalize SL[i] = si at *
                go_wp2_with fail
                refine (HYS.out _).mono ?_
                rintro e w5 ⟨g5, rfl, hg5, hgl5, hcs5, hb5⟩
                have HC5 := Lib.hid (contains_row g5 YS si w5 (by have := HYL.out; omega) hcs5)
                have HB5 := Lib.hid (HBI.out.trans (hb5.mono HBI.out.size))
                clear hcs5 hb5 y0 y1 y2 y3 y4 y5 y6 e0 HNJ
                by_cases hin : si ∈ YS
                · have hd : decide (si ∈ YS) = true := by simpa using hin
                  rw [hd] at HC5
                  have HV := Lib.hid (show RES = 12 by rw [HF4.out, HCY.out.2 ⟨si, HIS.out, HUA.out si hin⟩]; rfl)
                  clear hd hin
                  go_wp2_with fail
                  refine HC5.out.mono ?_
                  rintro e w' ⟨rfl, rfl⟩
                  go_wp2_with fail
                  go_ret
                  exact ⟨by rw [HV.out] <;> rfl, (KC.out _ (KM.out _ _ HB3.out HB5.out)).1⟩
                · have hd : decide (si ∈ YS) = false := by simpa using hin
                  rw [hd] at HC5
                  have HV := Lib.hid (HNN.out hin)
                  clear hd hin HNN
                  go_wp2_with fail
                  refine HC5.out.mono ?_
                  rintro e w' ⟨rfl, rfl⟩
                  go_wp2_with fail
                  go_roundw
                  case rel => exact ⟨i + 1, by omega, by go_num, HV, HB5⟩
                  case measure => simp [intOf]; omega
              · have hii : i = SL.length := by omega
                have HV := Lib.hid (HNU.out (fun s hs => by
                  obtain ⟨j, hj, rfl⟩ := List.getElem_of_mem hs
                  exact HNJ.out j hj (by omega)))
                have HBN := Lib.hid (KM.out _ _ HB3.out HBI.out)
                subst hii
                clear HNJ HNU KY KG
                go_wp2_with fail
                go_roundw
                case rel => exact ⟨k + 1, by omega, by go_num, HV, HBN⟩
                case measure => simp [intOf]; omega
          · have hkk : k = pre.length := by omega
            have HF5 := Lib.hid (show RES = chkRngs rl by
              have h := HNI.out
              rw [hkk, List.take_length] at h
              have h2 : CL = false := by
                cases hc : CL
                · rfl
                · obtain ⟨s, hs1, hs2⟩ := HCY.out.1 hc
                  exact absurd hs2 (h s hs1)
              rw [HF4.out, h2]; rfl)
            have HBO := Lib.hid hB
            subst hkk
            clear HNI HF4 hB hk hlt HCY HRX HG HPF HSLN
            by_cases h30 : 30 < rl.length
            · have HV := Lib.hid (show RES = 2 by rw [HF5.out]; unfold chkRngs; rw [if_pos h30])
              go_wp2_with fail
              go_ret
              exact ⟨by rw [HV.out] <;> rfl, HBO.out⟩
            have HC := Lib.hid (show RES = scanF rngF rl 0 by rw [HF5.out]; unfold chkRngs; rw [if_neg h30])
            have h31 : rl.length ≤ 30 := by omega
            clear HF5 h30
            go_wp2_with fail
            clear HBO p0 p1 p2 p3 p4 p5 p6 hz
            go_loopw [89] (fun i wx => ∃ k : Nat, k ≤ rl.length ∧ i = .int .i64 k ∧ Hid (RES = scanF rngF rl k) ∧ Hid (Below (w.heap.size + 1) (w.alloc (.cells #[.string xn, .int .i64 xg, .int .i64 xs, .int .i64 xf, .int .i64 xd, .bool xb, .slice ro rl.length rcap] 73)) wx)) (fun i _ => rl.length - (intOf i).toNat)
            case atStart => exact ⟨0, Nat.zero_le _, rfl, HC, HBW⟩
            case round =>
              clear HBW HC
              obtain ⟨k, hk, rfl, HRF, HBW⟩ := hrel
              obtain ⟨wo, rfl⟩ : ∃ wo : World, wo = wr := ⟨_, rfl⟩
              obtain ⟨hB, hz, p0, p1, p2, p3, p4, p5, p6⟩ := KC.out wo HBW.out
              by_cases hlt : k < rl.length
              · obtain ⟨b, off, cap', hsl, hb, _, hc⟩ := HRG.out (by omega)
                injection hsl with hs1 hs2 hs3
                subst hs1 hs3
                obtain ⟨d0, d1, d2⟩ := hc k hlt wo hB
                have HRW := Lib.hid hc
                have HPR := Lib.hid (fun (h0 : 0 < k) => hc (k - 1) (by omega) wo hB)
                have hbr : b < wo.heap.size := by have := hB.size; omega
                have hbw := hb
                obtain ⟨g0, g1, hns⟩ := HFR.out _ (List.getElem_mem hlt)
                have HSG := Lib.hid (scanF_good rngF rl k hlt)
                have HSB := Lib.hid (scanF_bad rngF rl k hlt)
                have HFD := Lib.hid (show rngF (rl.take k) rl[k] = if rngBad rl[k] then 1 else if rngLow (rl.take k) rl[k] then 7 else if !nameB rl[k].nm then 5 else if rl[k].nm ∈ (rl.take k).map Rng.nm then 6 else 0 from rfl)
                have HLW0 := Lib.hid (show k = 0 → rngLow (rl.take k) rl[k] = false from fun h0 => by subst h0; rfl)
                have HLW := Lib.hid (show ∀ h0 : 0 < k, rngLow (rl.take k) rl[k] = decide (rl[k].low ≤ (rl[k - 1]'(by omega)).high) from fun h0 => by unfold rngLow; rw [last_take rl k hlt h0]; rfl)
                have HBD := Lib.hid (show rngBad rl[k] = (!inR rl[k].low 0 65535 || !inR rl[k].high 0 65535 || decide (rl[k].high < rl[k].low)) from rfl)
                generalize rngLow (rl.take k) rl[k] = LW at *
                generalize rngBad rl[k] = BD at *
                generalize rngF (rl.take k) rl[k] = FF at *
                have hnm : rl[k].nm = rl[k].name.data.toList := rfl
                rw [hnm] at HFD
                clear hnm hc g0 g1 hB HRG
                generalize hrk : rl[k] = rk at *
                clear hrk
                obtain ⟨rlo, rhi, rnm⟩ := rk
                simp only at d0 d1 d2 hns HFD HBD HLW
                have HBA := Lib.hid (KA.out _ (.cells #[.int .i64 rlo, .int .i64 rhi, .string rnm] 75) HBW.out)
                go_upto_region 30 with fail
                go_cut [94] (fun s94 wx => s94 = .bool BD ∧ wx = wo.alloc (.cells #[.int .i64 rlo, .int .i64 rhi, .string rnm] 75))
                case first =>
                  rcases Bool.eq_false_or_eq_true (inR rlo 0 65535) with k0 | k0
                  rotate_left
                  · skip
                    have HV := Lib.hid (show BD = true by rw [HBD.out]; simp [k0])
                    go_wp2_with (first | (go_at_call 103; ((with_reducible refine (rLevel_R _ _).mono ?_); rintro e w' ⟨rfl, rfl⟩)) | (go_at_call 56; ((with_reducible refine (rwithin_R _ _ _ _).mono ?_); rintro e w' ⟨rfl, rfl⟩)) | (go_at_call 79; ((with_reducible refine (isName_any _ _ (by first | exact HNS.out | exact hns)).mono ?_); rintro e w' ⟨rfl, rfl⟩)) | fail)
                    all_goals go_meet
                    all_goals exact ⟨by rw [HV.out] <;> rfl, rfl⟩
                  rcases Bool.eq_false_or_eq_true (inR rhi 0 65535) with k1 | k1
                  rotate_left
                  · skip
                    have HV := Lib.hid (show BD = true by rw [HBD.out]; simp [k0, k1])
                    go_wp2_with (first | (go_at_call 103; ((with_reducible refine (rLevel_R _ _).mono ?_); rintro e w' ⟨rfl, rfl⟩)) | (go_at_call 56; ((with_reducible refine (rwithin_R _ _ _ _).mono ?_); rintro e w' ⟨rfl, rfl⟩)) | (go_at_call 79; ((with_reducible refine (isName_any _ _ (by first | exact HNS.out | exact hns)).mono ?_); rintro e w' ⟨rfl, rfl⟩)) | fail)
                    all_goals go_meet
                    all_goals exact ⟨by rw [HV.out] <;> rfl, rfl⟩
                  by_cases k2 : rhi < rlo
                  · skip
                    have HV := Lib.hid (show BD = true by rw [HBD.out]; simp [k0, k1, k2])
                    go_wp2_with (first | (go_at_call 103; ((with_reducible refine (rLevel_R _ _).mono ?_); rintro e w' ⟨rfl, rfl⟩)) | (go_at_call 56; ((with_reducible refine (rwithin_R _ _ _ _).mono ?_); rintro e w' ⟨rfl, rfl⟩)) | (go_at_call 79; ((with_reducible refine (isName_any _ _ (by first | exact HNS.out | exact hns)).mono ?_); rintro e w' ⟨rfl, rfl⟩)) | fail)
                    all_goals go_meet
                    all_goals exact ⟨by rw [HV.out] <;> rfl, rfl⟩
                  · skip
                    have HV := Lib.hid (show BD = false by rw [HBD.out]; simp [k0, k1]; omega)
                    have k3 : decide (rhi < rlo) = false := by simpa using k2
                    go_wp2_with (first | (go_at_call 103; ((with_reducible refine (rLevel_R _ _).mono ?_); rintro e w' ⟨rfl, rfl⟩)) | (go_at_call 56; ((with_reducible refine (rwithin_R _ _ _ _).mono ?_); rintro e w' ⟨rfl, rfl⟩)) | (go_at_call 79; ((with_reducible refine (isName_any _ _ (by first | exact HNS.out | exact hns)).mono ?_); rintro e w' ⟨rfl, rfl⟩)) | fail)
                    all_goals go_meet
                    all_goals exact ⟨by rw [HV.out] <;> rfl, rfl⟩
                case rest =>
                  obtain ⟨rfl, rfl⟩ := hcut
                  cases BD
                  rotate_left
                  · have HE : FF = 1 := by rw [HFD.out]; rfl
                    have HV := Lib.hid (show RES = 1 by rw [HRF.out, HSB.out (by rw [HE]; decide), HE])
                    clear HE
                    go_wp2_with fail
                    go_ret
                    exact ⟨by rw [HV.out] <;> rfl, (KC.out _ HBA.out).1⟩
                  have HFE := Lib.hid (show FF = if LW then 7 else if !nameB rnm.data.toList then 5 else if rnm.data.toList ∈ (rl.take k).map Rng.nm then 6 else 0 by rw [HFD.out]; rfl)
                  clear HFD HBD
                  go_upto_region 32 with fail
                  go_cut [112] (fun s112 wx => s112 = .bool LW ∧ Below wx.heap.size (wo.alloc (.cells #[.int .i64 rlo, .int .i64 rhi, .string rnm] 75)) wx ∧ wx.heap.size = wo.heap.size + 1)
                  case first =>
                    by_cases h0 : k = 0
                    · subst h0
                      have HV := Lib.hid (HLW0.out rfl)
                      clear HPR HLW HLW0
                      go_quiet (fail)
                      go_wp2_with fail
                      all_goals go_meet
                      all_goals exact ⟨by rw [HV.out] <;> rfl, bel_drewF (Below.refl _ _) _, by simp⟩
                    · obtain ⟨j, rfl⟩ : ∃ j, k = j + 1 := ⟨k - 1, by omega⟩
                      have HLX := Lib.hid (HLW.out (by omega))
                      obtain ⟨_, d4, _⟩ := HPR.out (by omega)
                      clear HPR HLW HLW0
                      simp only [Nat.add_sub_cancel] at d4
                      have hlow : (rl[j + 1 - 1]'(by omega)) = rl[j] := by simp
                      rw [hlow] at HLX
                      clear hlow
                      generalize rl[j] = rj at *
                      obtain ⟨jl, jh, jn⟩ := rj
                      simp only at d4
                      have hji : ((j + 1 : Nat) : Int) - 1 = (j : Int) := by omega
                      by_cases hle : rlo ≤ jh
                      · skip
                        have HV := Lib.hid (show LW = true by rw [HLX.out]; simpa using hle)
                        clear HLX
                        go_quiet (fail)
                        go_wp2_with fail
                        all_goals go_meet
                        all_goals exact ⟨by rw [HV.out] <;> rfl, bel_drewF (Below.refl _ _) _, by simp⟩
                      · skip
                        have HV := Lib.hid (show LW = false by rw [HLX.out]; simpa using hle)
                        clear HLX
                        have hled : decide (rlo ≤ jh) = false := by simpa using hle
                        go_quiet (fail)
                        go_wp2_with fail
                        all_goals go_meet
                        all_goals exact ⟨by rw [HV.out] <;> rfl, bel_drewF (Below.refl _ _) _, by simp⟩
                  case rest =>
                    obtain ⟨rfl, hb3, hz3⟩ := hcut
                    have HBC := Lib.hid (KM.out _ wc HBA.out (hb3.mono (by simp; omega)))
                    have e2 : wc.cell? ⟨wo.heap.size, 2, none⟩ = some (.string rnm) := (hb3.cell (p := ⟨wo.heap.size, 2, none⟩) (by simp; omega)).trans (by simp [go_sem])
                    clear hb3 d0 d1 d2 HLW HLW0 HPR HBA HBW p0 p1 p2 p3 p4 p5 p6
                    obtain ⟨hBc, _, p0, p1, p2, p3, p4, p5, p6⟩ := KC.out wc HBC.out
                    clear hBc p0 p1 p2 p3 p4 p5
                    cases LW
                    rotate_left
                    · skip
                      have HE : FF = 7 := by rw [HFE.out]; rfl
                      have HV := Lib.hid (show RES = 7 by rw [HRF.out, HSB.out (by rw [HE]; decide), HE])
                      clear HE
                      go_wp2_with fail
                      go_ret
                      exact ⟨by rw [HV.out] <;> rfl, (KC.out _ HBC.out).1⟩
                    rcases Bool.eq_false_or_eq_true (nameB rnm.data.toList) with k0 | k0
                    rotate_left
                    · skip
                      have HE : FF = 5 := by rw [HFE.out]; simp [k0]
                      have HV := Lib.hid (show RES = 5 by rw [HRF.out, HSB.out (by rw [HE]; decide), HE])
                      clear HE
                      go_wp2_with (first | (go_at_call 103; ((with_reducible refine (rLevel_R _ _).mono ?_); rintro e w' ⟨rfl, rfl⟩)) | (go_at_call 56; ((with_reducible refine (rwithin_R _ _ _ _).mono ?_); rintro e w' ⟨rfl, rfl⟩)) | (go_at_call 79; ((with_reducible refine (isName_any _ _ (by first | exact HNS.out | exact hns)).mono ?_); rintro e w' ⟨rfl, rfl⟩)) | fail)
                      go_ret
                      exact ⟨by rw [HV.out] <;> rfl, (KC.out _ HBC.out).1⟩
                    have HFG := Lib.hid (show FF = if rnm.data.toList ∈ (rl.take k).map Rng.nm then 6 else 0 by rw [HFE.out]; simp [k0])
                    clear HFE
                    go_wp2_with (first | (go_at_call 103; ((with_reducible refine (rLevel_R _ _).mono ?_); rintro e w' ⟨rfl, rfl⟩)) | (go_at_call 56; ((with_reducible refine (rwithin_R _ _ _ _).mono ?_); rintro e w' ⟨rfl, rfl⟩)) | (go_at_call 79; ((with_reducible refine (isName_any _ _ (by first | exact HNS.out | exact hns)).mono ?_); rintro e w' ⟨rfl, rfl⟩)) | fail)
                    clear k0
                    generalize hnl : rnm.data.toList = nl at *
                    go_loopw [137] (fun i wx => ∃ j : Nat, j ≤ k ∧ i = .int .i64 j ∧ Hid (nl ∉ (rl.take j).map Rng.nm) ∧ Hid (Below wc.heap.size wc wx)) (fun i _ => k - (intOf i).toNat)
                    case atStart => exact ⟨0, Nat.zero_le _, rfl, Lib.hid (by simp), Lib.hid (Below.refl _ _)⟩
                    case round =>
                      obtain ⟨j, hj, rfl, HNI, HBI⟩ := hrel
                      have hzi := HBI.out.size
                      have e3 : wr.cell? ⟨wo.heap.size, 2, none⟩ = some (.string rnm) := (HBI.out.cell (p := ⟨wo.heap.size, 2, none⟩) (by simp; omega)).trans e2
                      have hbi : b < wr.heap.size := by omega
                      have hor : wo.heap.size < wr.heap.size := by omega
                      by_cases hjlt : j < k
                      · obtain ⟨d0, d1, d2⟩ := HRW.out j (by omega) wr (KC.out _ (KM.out _ _ HBC.out HBI.out)).1
                        have HMA := Lib.hid (mem_take_at Rng.nm rl k j (by omega) hjlt nl)
                        have HNM := Lib.hid (not_mem_snoc Rng.nm rl j (by omega) nl HNI.out)
                        have hnm : rl[j].nm = rl[j].name.data.toList := rfl
                        rw [hnm] at HMA HNM
                        clear hnm HNI
                        generalize hrk : rl[j]'(by omega) = rk at *
                        clear hrk
                        obtain ⟨jl, jh, jn⟩ := rk
                        simp only at *
                        have HBX := Lib.hid (HBI.out.alloc hzi (.cells #[.int .i64 jl, .int .i64 jh, .string jn] 75))
                        by_cases he : jn.data.toList = nl
                        · have hin := HMA.out he
                          have h2 : (jn.toList == rnm.toList) = true := by rw [Lib.toList_data, Lib.toList_data, hnl]; simpa using he
                          have HE : FF = 6 := by rw [HFG.out, if_pos hin]
                          have HV := Lib.hid (show RES = 6 by rw [HRF.out, HSB.out (by rw [HE]; decide), HE])
                          clear HE
                          go_wp2_with fail
                          go_ret
                          exact ⟨by rw [HV.out] <;> rfl, (KC.out _ (KM.out _ _ HBC.out HBX.out)).1⟩
                        · have h2 : (jn.toList == rnm.toList) = false := by rw [Lib.toList_data, Lib.toList_data, hnl]; simpa using he
                          have HV := Lib.hid (HNM.out he)
                          clear he HMA HNM
                          go_wp2_with fail
                          go_roundw
                          case rel => exact ⟨j + 1, by omega, by go_num, HV, HBX⟩
                          case measure => simp [intOf]; omega
                      · have hjk : j = k := by omega
                        subst hjk
                        have HE : FF = 0 := by rw [HFG.out, if_neg HNI.out]
                        have HV := Lib.hid (show RES = scanF rngF rl (j + 1) by rw [HRF.out, HSG.out HE])
                        have HBN := Lib.hid (KM.out _ _ HBC.out HBI.out)
                        clear HE HNI
                        go_wp2_with fail
                        go_roundw
                        case rel => exact ⟨j + 1, by omega, by go_num, HV, HBN⟩
                        case measure => simp [intOf]; omega
              · have HV := Lib.hid (show RES = 0 by rw [HRF.out, scanF_end rngF rl k (by omega)])
                have HBO := Lib.hid hB
                have hkk : k = rl.length := by omega
                clear hB
                subst hkk
                go_wp2_with fail
                go_ret
                exact ⟨by rw [HV.out] <;> rfl, HBO.out⟩
end Go.Proofs.YtppbagllhmeenaaGreatDoor
