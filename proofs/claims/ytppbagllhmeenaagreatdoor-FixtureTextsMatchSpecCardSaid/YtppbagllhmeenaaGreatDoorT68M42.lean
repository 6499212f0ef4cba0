/- The reference's CheckProfile, CheckLibrary. (printed by wip/gen/gen_rckprf.py) -/
import Derived.Test.YtppbagllhmeenaaGreatDoorT68M41

namespace Go.Proofs.YtppbagllhmeenaaGreatDoor
open Go.RowKit
set_option linter.unusedVariables false
set_option linter.unusedSimpArgs false

theorem rngS_cap {B : Nat} {w : World} {ao : Option Addr} {cap : Nat} {l : List Rng} (h : RngS B w (.slice ao l.length cap) l) : l.length ≤ cap ∧ cap ≤ 9223372036854775807 := by
  obtain ⟨ao', cap', e, h1, h2, _⟩ := h
  injection e with _ _ e3
  subst e3
  unfold maxLen at h2
  exact ⟨h1, by omega⟩
theorem untS_cap {B : Nat} {w : World} {ao : Option Addr} {cap : Nat} {l : List Unt} (h : UntS B w (.slice ao l.length cap) l) : l.length ≤ cap ∧ cap ≤ 9223372036854775807 := by
  obtain ⟨ao', cap', e, h1, h2, _⟩ := h
  injection e with _ _ e3
  subst e3
  unfold maxLen at h2
  exact ⟨h1, by omega⟩
theorem parS_cap {B : Nat} {w : World} {ao : Option Addr} {cap : Nat} {l : List Par} (h : ParS B w (.slice ao l.length cap) l) : l.length ≤ cap ∧ cap ≤ 9223372036854775807 := by
  obtain ⟨lv, rfl, h, _⟩ := h
  obtain ⟨ao', cap', e, h1, h2, _⟩ := h
  injection e with _ _ e3
  subst e3
  unfold maxLen at h2
  exact ⟨by simpa using h1, by omega⟩
theorem prfS_cap {B : Nat} {w : World} {ao : Option Addr} {cap : Nat} {l : List Prf} (h : PrfS B w (.slice ao l.length cap) l) : l.length ≤ cap ∧ cap ≤ 9223372036854775807 := by
  obtain ⟨lv, rfl, h, _⟩ := h
  obtain ⟨ao', cap', e, h1, h2, _⟩ := h
  injection e with _ _ e3
  subst e3
  unfold maxLen at h2
  exact ⟨by simpa using h1, by omega⟩
theorem rckParam_k (size : Int) (pre : List Par) (x : Par) (n : Nat) (hn : n = pre.length) (po : Option Addr) (pcap : Nat) (ro : Option Addr) (rcap : Nat) (w : World) (hp : ParS w.heap.size w (.slice po n pcap) pre) (hpl : n ≤ 100) (hpf : ∀ q ∈ pre, 0 ≤ q.fine ∧ q.name.size ≤ maxLen)
    (hr : RngS w.heap.size w (.slice ro x.rngs.length rcap) x.rngs) (hf : ParFit x) :
    Calls Tryz.prog 80 #[.agg #[.string x.name, .int .i64 x.grp, .int .i64 x.sl, .int .i64 x.fine, .int .i64 x.dflt, .bool x.snap, .slice ro x.rngs.length rcap], .slice po n pcap, .int .i64 size] w fun e w' => e = .returned (.int .i64 (parF size pre x)) ∧ Below w.heap.size w w' := by
  subst hn
  exact rckParam_any size pre x po pcap ro rcap w hp hpl hpf hr hf
theorem take_good {size : Int} {l : List Par} {k : Nat} (h : ∀ j (hj : j < l.length), j < k → parF size (l.take j) l[j] = 0) (hf : ∀ x ∈ l, ParFit x) : ∀ q ∈ l.take k, 0 ≤ q.fine ∧ q.name.size ≤ maxLen := by
  intro q hq
  obtain ⟨j, hj, rfl⟩ := List.getElem_of_mem hq
  rw [List.length_take] at hj
  rw [List.getElem_take]
  have h1 := h j (by omega) (by omega)
  exact ⟨(parBad_false (parF_zero h1).2.2.2.1).2.1.1, (hf _ (List.getElem_mem _)).2.2.2.2.1⟩
set_option maxRecDepth 100000 in
set_option maxHeartbeats 16000000 in
theorem rckProfile_any (p : Prf) (pv : Value) (w : World) (h : ParS w.heap.size w pv p.pars) (hf : PrfFit p) :
    Calls Tryz.prog 52 #[.agg #[.string p.name, .int .i64 p.size, pv]] w fun e w' => e = .returned (.int .i64 (chkPrf p)) ∧ Below w.heap.size w w' := by
  obtain ⟨pn, pz, pl⟩ := p
  obtain ⟨ao, cap, rfl⟩ := parS_shape h
  simp only at *
  have HG := Lib.hid (ParS.get h)
  have hcp := parS_cap h
  have HPS := Lib.hid (fun W (hb : Below w.heap.size w W) => (h.below hb).more hb.size)
  have HF := Lib.hid hf.2.2
  have HNS := Lib.hid hf.2.1
  have HFD := Lib.hid (show chkPrf ⟨pn, pz, pl⟩ = if !nameB pn.data.toList then 5 else if !inR pz 1 512 then 1 else if pl.length = 0 then 8 else if 40 < pl.length then 2 else scanF (parF pz) pl 0 from rfl)
  clear h hf
  generalize chkPrf ⟨pn, pz, pl⟩ = RES at *
  have KC := Lib.hid (show ∀ W, Below (w.heap.size + 1) (w.alloc (.cells #[.string pn, .int .i64 pz, .slice ao pl.length cap] 70)) W → (Below w.heap.size w W ∧ w.heap.size < W.heap.size ∧ W.cell? ⟨w.heap.size, 0, none⟩ = some (.string pn) ∧ W.cell? ⟨w.heap.size, 1, none⟩ = some (.int .i64 pz) ∧ W.cell? ⟨w.heap.size, 2, none⟩ = some (.slice ao pl.length cap)) from fun W hW => by
    have hz := hW.size
    simp at hz
    exact ⟨((Below.refl _ _).alloc (Nat.le_refl _) _).trans (hW.mono (by omega)), by omega, (hW.cell (p := ⟨w.heap.size, 0, none⟩) (by simp)).trans (by simp [go_sem]), (hW.cell (p := ⟨w.heap.size, 1, none⟩) (by simp)).trans (by simp [go_sem]), (hW.cell (p := ⟨w.heap.size, 2, none⟩) (by simp)).trans (by simp [go_sem])⟩)
  have KA := Lib.hid (show ∀ W o, Below (w.heap.size + 1) (w.alloc (.cells #[.string pn, .int .i64 pz, .slice ao pl.length cap] 70)) W → Below (w.heap.size + 1) (w.alloc (.cells #[.string pn, .int .i64 pz, .slice ao pl.length cap] 70)) (W.alloc o) from fun W o h => h.alloc (by have := h.size; simp at this; omega) o)
  have KM := Lib.hid (show ∀ W W1, Below (w.heap.size + 1) (w.alloc (.cells #[.string pn, .int .i64 pz, .slice ao pl.length cap] 70)) W → Below W.heap.size W W1 → Below (w.heap.size + 1) (w.alloc (.cells #[.string pn, .int .i64 pz, .slice ao pl.length cap] 70)) W1 from fun W W1 h1 h2 => h1.trans (h2.mono (by have := h1.size; simp at this; omega)))
  have HB0 := Lib.hid (Below.refl (w.heap.size + 1) (w.alloc (.cells #[.string pn, .int .i64 pz, .slice ao pl.length cap] 70)))
  go_enter Tryz.func52, Tryz.ntmps52
  rcases Bool.eq_false_or_eq_true (nameB pn.data.toList) with k0 | k0
  rotate_left
  · skip
    have HV := Lib.hid (show RES = 5 by rw [HFD.out]; simp [k0])
    go_wp2_with (first | (go_at_call 56; ((with_reducible refine (rwithin_R _ _ _ _).mono ?_); rintro e w' ⟨rfl, rfl⟩)) | (go_at_call 79; ((with_reducible refine (isName_any _ _ (by exact HNS.out)).mono ?_); rintro e w' ⟨rfl, rfl⟩)) | fail)
    go_ret
    exact ⟨by rw [HV.out] <;> rfl, (KC.out _ HB0.out).1⟩
  rcases Bool.eq_false_or_eq_true (inR pz 1 512) with k1 | k1
  rotate_left
  · skip
    have HV := Lib.hid (show RES = 1 by rw [HFD.out]; simp [k0, k1])
    go_wp2_with (first | (go_at_call 56; ((with_reducible refine (rwithin_R _ _ _ _).mono ?_); rintro e w' ⟨rfl, rfl⟩)) | (go_at_call 79; ((with_reducible refine (isName_any _ _ (by exact HNS.out)).mono ?_); rintro e w' ⟨rfl, rfl⟩)) | fail)
    go_ret
    exact ⟨by rw [HV.out] <;> rfl, (KC.out _ HB0.out).1⟩
  by_cases k2 : pl.length = 0
  · have k4 : (pl.length == 0) = true := by simpa using k2
    have k5 : ((pl.length : Int) == 0) = true := by simpa using k2
    have HV := Lib.hid (show RES = 8 by rw [HFD.out, if_pos k2]; simp [k0, k1])
    go_wp2_with (first | (go_at_call 56; ((with_reducible refine (rwithin_R _ _ _ _).mono ?_); rintro e w' ⟨rfl, rfl⟩)) | (go_at_call 79; ((with_reducible refine (isName_any _ _ (by exact HNS.out)).mono ?_); rintro e w' ⟨rfl, rfl⟩)) | fail)
    go_ret
    exact ⟨by rw [HV.out] <;> rfl, by have h := (KC.out _ HB0.out).1; simp only [k2] at h; exact h⟩
  have k4 : (pl.length == 0) = false := by simpa using k2
  have k5 : ((pl.length : Int) == 0) = false := by simpa using k2
  by_cases k3 : 40 < pl.length
  · skip
    have HV := Lib.hid (show RES = 2 by rw [HFD.out, if_neg k2, if_pos k3]; simp [k0, k1])
    go_wp2_with (first | (go_at_call 56; ((with_reducible refine (rwithin_R _ _ _ _).mono ?_); rintro e w' ⟨rfl, rfl⟩)) | (go_at_call 79; ((with_reducible refine (isName_any _ _ (by exact HNS.out)).mono ?_); rintro e w' ⟨rfl, rfl⟩)) | fail)
    go_ret
    exact ⟨by rw [HV.out] <;> rfl, (KC.out _ HB0.out).1⟩
  have HC := Lib.hid (show RES = scanF (parF pz) pl 0 by rw [HFD.out, if_neg k2, if_neg k3]; simp [k0, k1])
  go_wp2_with (first | (go_at_call 56; ((with_reducible refine (rwithin_R _ _ _ _).mono ?_); rintro e w' ⟨rfl, rfl⟩)) | (go_at_call 79; ((with_reducible refine (isName_any _ _ (by exact HNS.out)).mono ?_); rintro e w' ⟨rfl, rfl⟩)) | fail)
  clear HFD k0 k1 k2 k4 k5
  go_loopw [29] (fun i wx => ∃ k : Nat, k ≤ pl.length ∧ i = .int .i64 k ∧ Hid (RES = scanF (parF pz) pl k) ∧ Hid (∀ j (hj : j < pl.length), j < k → parF pz (pl.take j) pl[j] = 0) ∧ Hid (Below (w.heap.size + 1) (w.alloc (.cells #[.string pn, .int .i64 pz, .slice ao pl.length cap] 70)) wx)) (fun i _ => pl.length - (intOf i).toNat)
  case atStart => exact ⟨0, Nat.zero_le _, rfl, HC, Lib.hid (fun j _ h => absurd h (Nat.not_lt_zero _)), HB0⟩
  case round =>
    clear HC HB0
    obtain ⟨k, hk, rfl, HRF, HPK, HBW⟩ := hrel
    obtain ⟨hB, hz, p0, p1, p2⟩ := KC.out wr HBW.out
    by_cases hlt : k < pl.length
    · obtain ⟨b, off, cap', hsl, hb, _, hc⟩ := HG.out (by omega)
      injection hsl with hs1 hs2 hs3
      subst hs1 hs3
      obtain ⟨rv, hrv, hcc⟩ := hc k hlt
      obtain ⟨d0, d1, d2, d3, d4, d5, d6⟩ := hcc wr hB
      obtain ⟨ro, rcap, rfl, _⟩ := CellsS.shape hrv
      have hbr : b < wr.heap.size := by have := hB.size; omega
      have hfit := HF.out _ (List.getElem_mem hlt)
      have HCX := Lib.hid (fun W (hb : Below w.heap.size w W) => rckParam_k pz (pl.take k) pl[k] k (by rw [List.length_take]; omega) (some ⟨b, off, none⟩) cap ro rcap W ((HPS.out W hb).take k (by omega)) (by omega) (take_good HPK.out HF.out) ((hrv.below hb).more hb.size) hfit)
      have HSG := Lib.hid (scanF_good (parF pz) pl k hlt)
      have HSB := Lib.hid (scanF_bad (parF pz) pl k hlt)
      have HPK2 := Lib.hid (show parF pz (pl.take k) pl[k] = 0 → ∀ j (hj : j < pl.length), j < k + 1 → parF pz (pl.take j) pl[j] = 0 from fun h j hj hjk => by
        by_cases c : j = k
        · subst c; exact h
        · exact HPK.out j hj (by omega))
      generalize parF pz (pl.take k) pl[k] = FF at *
      clear hc hcc hrv hfit HPK hB
      generalize hrk : pl[k] = rk at *
      clear hrk
      obtain ⟨xn, xg, xs, xf, xd, xb, xl⟩ := rk
      simp only at *
      have HBX := Lib.hid (KA.out _ (.cells #[.string xn, .int .i64 xg, .int .i64 xs, .int .i64 xf, .int .i64 xd, .bool xb, .slice ro xl.length rcap] 73) HBW.out)
      have KX := Lib.hid (show ∀ W, Below (wr.heap.size + 1) (wr.alloc (.cells #[.string xn, .int .i64 xg, .int .i64 xs, .int .i64 xf, .int .i64 xd, .bool xb, .slice ro xl.length rcap] 73)) W → W.cell? ⟨wr.heap.size, 0, none⟩ = some (.string xn) ∧ W.cell? ⟨wr.heap.size, 1, none⟩ = some (.int .i64 xg) ∧ W.cell? ⟨wr.heap.size, 2, none⟩ = some (.int .i64 xs) ∧ W.cell? ⟨wr.heap.size, 3, none⟩ = some (.int .i64 xf) ∧ W.cell? ⟨wr.heap.size, 4, none⟩ = some (.int .i64 xd) ∧ W.cell? ⟨wr.heap.size, 5, none⟩ = some (.bool xb) ∧ W.cell? ⟨wr.heap.size, 6, none⟩ = some (.slice ro xl.length rcap) from fun W hW => ⟨(hW.cell (p := ⟨wr.heap.size, 0, none⟩) (by simp)).trans (by simp [go_sem]), (hW.cell (p := ⟨wr.heap.size, 1, none⟩) (by simp)).trans (by simp [go_sem]), (hW.cell (p := ⟨wr.heap.size, 2, none⟩) (by simp)).trans (by simp [go_sem]), (hW.cell (p := ⟨wr.heap.size, 3, none⟩) (by simp)).trans (by simp [go_sem]), (hW.cell (p := ⟨wr.heap.size, 4, none⟩) (by simp)).trans (by simp [go_sem]), (hW.cell (p := ⟨wr.heap.size, 5, none⟩) (by simp)).trans (by simp [go_sem]), (hW.cell (p := ⟨wr.heap.size, 6, none⟩) (by simp)).trans (by simp [go_sem])⟩)
      have KXM := Lib.hid (show ∀ W W1, Below (wr.heap.size + 1) (wr.alloc (.cells #[.string xn, .int .i64 xg, .int .i64 xs, .int .i64 xf, .int .i64 xd, .bool xb, .slice ro xl.length rcap] 73)) W → Below W.heap.size W W1 → Below (wr.heap.size + 1) (wr.alloc (.cells #[.string xn, .int .i64 xg, .int .i64 xs, .int .i64 xf, .int .i64 xd, .bool xb, .slice ro xl.length rcap] 73)) W1 from fun W W1 h1 h2 => h1.trans (h2.mono (by have := h1.size; simp at this; omega)))
      go_upto_region 12 with fail
      obtain ⟨_, hz0, q0, q1, q2⟩ := KC.out _ HBX.out
      go_cut [5] (fun s5 wx => s5 = .int .i64 FF ∧ Below (w.heap.size + 1) (w.alloc (.cells #[.string pn, .int .i64 pz, .slice (some ⟨b, off, none⟩) pl.length cap] 70)) wx)
      case first =>
        have hw0 : Below (wr.heap.size + 1) (wr.alloc (.cells #[.string xn, .int .i64 xg, .int .i64 xs, .int .i64 xf, .int .i64 xd, .bool xb, .slice ro xl.length rcap] 73)) (wr.alloc (.cells #[.string xn, .int .i64 xg, .int .i64 xs, .int .i64 xf, .int .i64 xd, .bool xb, .slice ro xl.length rcap] 73)) := Below.refl _ _
        have hw1 : Below (wr.heap.size + 1) (wr.alloc (.cells #[.string xn, .int .i64 xg, .int .i64 xs, .int .i64 xf, .int .i64 xd, .bool xb, .slice ro xl.length rcap] 73)) (wr.alloc (.cells #[.string xn, .int .i64 xg, .int .i64 xs, .int .i64 xf, .int .i64 xd, .bool xb, .slice ro xl.length rcap] 73)).drew := (Below.refl _ _).drew
        have hx0 := HBX.out
        have hx1 : Below (w.heap.size + 1) (w.alloc (.cells #[.string pn, .int .i64 pz, .slice (some ⟨b, off, none⟩) pl.length cap] 70)) (wr.alloc (.cells #[.string xn, .int .i64 xg, .int .i64 xs, .int .i64 xf, .int .i64 xd, .bool xb, .slice ro xl.length rcap] 73)).drew := HBX.out.drew
        have hi1 : (0 : Int) ≤ (k : Int) := by omega
        have hi2 : (k : Int) ≤ (cap : Int) := by omega
        have hi3 : k ≤ cap := by omega
        obtain ⟨_, hzd, qd0, qd1, qd2⟩ := KC.out _ hx1
        go_region_held3 (fun W => (W.cell? ⟨wr.heap.size, 0, none⟩ = some (.string xn) ∧ W.cell? ⟨wr.heap.size, 1, none⟩ = some (.int .i64 xg) ∧ W.cell? ⟨wr.heap.size, 2, none⟩ = some (.int .i64 xs) ∧ W.cell? ⟨wr.heap.size, 3, none⟩ = some (.int .i64 xf) ∧ W.cell? ⟨wr.heap.size, 4, none⟩ = some (.int .i64 xd) ∧ W.cell? ⟨wr.heap.size, 5, none⟩ = some (.bool xb) ∧ W.cell? ⟨wr.heap.size, 6, none⟩ = some (.slice ro xl.length rcap)) ∧ W.cell? ⟨w.heap.size, 1, none⟩ = some (.int .i64 pz) ∧ W.cell? ⟨w.heap.size, 2, none⟩ = some (.slice (some ⟨b, off, none⟩) pl.length cap))
          (first | exact ⟨KX.out _ (by assumption), q1, q2⟩ | exact ⟨KX.out _ (by assumption), qd1, qd2⟩ | exact ⟨KX.out _ (by assumption), (KC.out _ (by assumption)).2.2.2⟩)
          (first
            | (go_at_call 80; (with_reducible refine (HCX.out _ (KC.out _ (by assumption)).1).mono ?_); rintro e WC ⟨rfl, hbC⟩; have hwC := KM.out _ _ (by assumption) hbC; have hwX := KXM.out _ _ (by assumption) hbC; clear hbC)
            | fail)
        all_goals go_wp2_with fail
        all_goals go_meet
        all_goals exact ⟨rfl, by assumption⟩
      case rest =>
        obtain ⟨rfl, hbc⟩ := hcut
        have HBC := Lib.hid hbc
        clear hbc HCX KXM q0 q1 q2 d0 d1 d2 d3 d4 d5 d6 p0 p1 p2 KX
        by_cases hE : FF = 0
        · have HV := Lib.hid (show RES = scanF (parF pz) pl (k + 1) by rw [HRF.out, HSG.out hE])
          have HPN := Lib.hid (HPK2.out hE)
          clear HPK2 HSG HSB HBX HBW
          subst hE
          go_wp2_with fail
          go_roundw
          case rel => exact ⟨k + 1, by omega, by go_num, HV, HPN, HBC⟩
          case measure => simp [intOf]; omega
        · have HV := Lib.hid (show RES = FF by rw [HRF.out, HSB.out hE])
          clear HPK2 HSG HSB HBX HBW
          go_wp2_with fail
          go_ret
          exact ⟨by rw [HV.out] <;> rfl, (KC.out _ HBC.out).1⟩
    · have HV := Lib.hid (show RES = 0 by rw [HRF.out, scanF_end (parF pz) pl k (by omega)])
      have HBO := Lib.hid hB
      have hkk : k = pl.length := by omega
      clear hB
      subst hkk
      go_wp2_with fail
      go_ret
      exact ⟨by rw [HV.out] <;> rfl, HBO.out⟩
set_option maxRecDepth 100000 in
set_option maxHeartbeats 16000000 in
theorem rckLibrary_any (v : Value) (l : List Prf) (w : World) (h : PrfS w.heap.size w v l) (hf : ∀ p ∈ l, PrfFit p) :
    Calls Tryz.prog 25 #[v] w fun e w' => e = .returned (.int .i64 (chkLib l)) ∧ Below w.heap.size w w' := by
  have HG := Lib.hid (PrfS.get h)
  have HF := Lib.hid hf
  obtain ⟨ao, cap, rfl⟩ := prfS_shape h
  have hcp := prfS_cap h
  clear h hf
  have HC0 := Lib.hid (show chkLib l = if 60 < l.length then 2 else scanF prfF l 0 from rfl)
  generalize chkLib l = RES at *
  go_enter Tryz.func25, Tryz.ntmps25
  by_cases h30 : 60 < l.length
  · have HV := Lib.hid (show RES = 2 by rw [HC0.out, if_pos h30])
    go_wp2_with fail
    go_ret
    exact ⟨by rw [HV.out] <;> rfl, Below.refl _ _⟩
  have HC := Lib.hid (show RES = scanF prfF l 0 by rw [HC0.out, if_neg h30])
  have h31 : l.length ≤ 60 := by omega
  clear HC0 h30
  go_wp2_with fail
  go_loopw [13] (fun i wx => ∃ k : Nat, k ≤ l.length ∧ i = .int .i64 k ∧ Hid (RES = scanF prfF l k) ∧ Hid (Below w.heap.size w wx)) (fun i _ => l.length - (intOf i).toNat)
  case atStart => exact ⟨0, Nat.zero_le _, rfl, HC, Lib.hid (Below.refl _ _)⟩
  case round =>
    clear HC
    obtain ⟨k, hk, rfl, HRF, HBW⟩ := hrel
    obtain ⟨wo, rfl⟩ : ∃ wo : World, wo = wr := ⟨_, rfl⟩
    have hzw := HBW.out.size
    by_cases hlt : k < l.length
    · obtain ⟨b, off, cap', hsl, hb, _, hc⟩ := HG.out (by omega)
      injection hsl with hs1 hs2 hs3
      subst hs1 hs3
      obtain ⟨pv, hpv, hcc⟩ := hc k hlt
      obtain ⟨d0, d1, d2⟩ := hcc wo HBW.out
      have HRW := Lib.hid hc
      have hbr : b < wo.heap.size := by omega
      have hfit := HF.out _ (List.getElem_mem hlt)
      have HCP := Lib.hid (fun W (hW : Below w.heap.size w W) => rckProfile_any l[k] pv W ((hpv.below hW).more hW.size) hfit)
      have HSG := Lib.hid (scanF_good prfF l k hlt)
      have HSB := Lib.hid (scanF_bad prfF l k hlt)
      have HFD := Lib.hid (show prfF (l.take k) l[k] = if chkPrf l[k] ≠ 0 then chkPrf l[k] else if l[k].nm ∈ (l.take k).map Prf.nm then 6 else 0 from rfl)
      generalize prfF (l.take k) l[k] = FF at *
      generalize chkPrf l[k] = E at *
      have hnm : l[k].nm = l[k].name.data.toList := rfl
      rw [hnm] at HFD
      obtain ⟨po, pcap, rfl⟩ := parS_shape hpv
      clear hnm hc hcc hfit hpv HG
      generalize hrk : l[k] = rk at *
      clear hrk
      obtain ⟨pn, pz, pl⟩ := rk
      simp only at *
      have HBX := Lib.hid (HBW.out.alloc hzw (.cells #[.string pn, .int .i64 pz, .slice po pl.length pcap] 70))
      have HCX := Lib.hid (HCP.out _ HBX.out)
      clear HCP
      go_wp2_with fail
      refine HCX.out.mono ?_
      rintro e wc ⟨rfl, hbc⟩
      simp only [World.size_alloc] at hbc
      have hzc := hbc.size
      simp only [World.size_alloc] at hzc
      have HBC := Lib.hid (HBX.out.trans (hbc.mono (by omega)))
      have e0 : wc.cell? ⟨wo.heap.size, 0, none⟩ = some (.string pn) := (hbc.cell (p := ⟨wo.heap.size, 0, none⟩) (by simp)).trans (by simp [go_sem])
      have hw6 : w.heap.size < wc.heap.size := by omega
      clear hbc HCX d0 d1 d2 HBX HBW
      by_cases hE : E = 0
      rotate_left
      · skip
        have HE : FF = E := by rw [HFD.out]; simp [hE]
        have HV := Lib.hid (show RES = E by rw [HRF.out, HSB.out (by rw [HE]; first | decide | exact hE), HE])
        clear HE
        go_wp2_with fail
        go_ret
        exact ⟨by rw [HV.out] <;> rfl, HBC.out⟩
      have HFG := Lib.hid (show FF = if pn.data.toList ∈ (l.take k).map Prf.nm then 6 else 0 by rw [HFD.out, hE]; rfl)
      clear HFD
      subst hE
      go_wp2_with fail
      generalize hnl : pn.data.toList = nl at *
      go_loopw [27] (fun i wx => ∃ j : Nat, j ≤ k ∧ i = .int .i64 j ∧ Hid (nl ∉ (l.take j).map Prf.nm) ∧ Hid (Below wc.heap.size wc wx)) (fun i _ => k - (intOf i).toNat)
      case atStart => exact ⟨0, Nat.zero_le _, rfl, Lib.hid (by simp), Lib.hid (Below.refl _ _)⟩
      case round =>
        obtain ⟨j, hj, rfl, HNI, HBI⟩ := hrel
        have hzi := HBI.out.size
        have e3 : wr.cell? ⟨wo.heap.size, 0, none⟩ = some (.string pn) := (HBI.out.cell (p := ⟨wo.heap.size, 0, none⟩) (by simp; omega)).trans e0
        have hbi : b < wr.heap.size := by omega
        have hor : wo.heap.size < wr.heap.size := by omega
        have hwB : Below w.heap.size w wr := HBC.out.trans (HBI.out.mono (by omega))
        by_cases hjlt : j < k
        · obtain ⟨rv, hrv, hcc⟩ := HRW.out j (by omega)
          obtain ⟨d0, d1, d2⟩ := hcc wr hwB
          obtain ⟨yo, ycap, rfl⟩ := parS_shape hrv
          have HMA := Lib.hid (mem_take_at Prf.nm l k j (by omega) hjlt nl)
          have HNM := Lib.hid (not_mem_snoc Prf.nm l j (by omega) nl HNI.out)
          have hnm : l[j].nm = l[j].name.data.toList := rfl
          rw [hnm] at HMA HNM
          have HWB := Lib.hid hwB
          clear hnm HNI hcc hrv hwB
          generalize hrk : l[j]'(by omega) = rk at *
          clear hrk
          obtain ⟨yn, yz, yl⟩ := rk
          simp only at *
          have HBX := Lib.hid (HBI.out.alloc hzi (.cells #[.string yn, .int .i64 yz, .slice yo yl.length ycap] 70))
          by_cases he : yn.data.toList = nl
          · have hin := HMA.out he
            have h2 : (yn.toList == pn.toList) = true := by rw [Lib.toList_data, Lib.toList_data, hnl]; simpa using he
            have HE : FF = 6 := by rw [HFG.out, if_pos hin]
            have HV := Lib.hid (show RES = 6 by rw [HRF.out, HSB.out (by rw [HE]; decide), HE])
            have HWC := Lib.hid (HBC.out.trans (HBX.out.mono (by omega)))
            clear HE
            go_wp2_with fail
            go_ret
            exact ⟨by rw [HV.out] <;> rfl, HWC.out⟩
          · have h2 : (yn.toList == pn.toList) = false := by rw [Lib.toList_data, Lib.toList_data, hnl]; simpa using he
            have HV := Lib.hid (HNM.out he)
            clear he HMA HNM
            go_wp2_with fail
            go_roundw
            case rel => exact ⟨j + 1, by omega, by go_num, HV, HBX⟩
            case measure => simp [intOf]; omega
        · have hjk : j = k := by omega
          subst hjk
          have HE : FF = 0 := by rw [HFG.out, if_neg HNI.out]
          have HV := Lib.hid (show RES = scanF prfF l (j + 1) by rw [HRF.out, HSG.out HE])
          have HBN := Lib.hid hwB
          clear HE HNI hwB
          go_wp2_with fail
          go_roundw
          case rel => exact ⟨j + 1, by omega, by go_num, HV, HBN⟩
          case measure => simp [intOf]; omega
    · have HV := Lib.hid (show RES = 0 by rw [HRF.out, scanF_end prfF l k (by omega)])
      have hkk : k = l.length := by omega
      subst hkk
      go_wp2_with fail
      go_ret
      exact ⟨by rw [HV.out] <;> rfl, HBW.out⟩
end Go.Proofs.YtppbagllhmeenaaGreatDoor
