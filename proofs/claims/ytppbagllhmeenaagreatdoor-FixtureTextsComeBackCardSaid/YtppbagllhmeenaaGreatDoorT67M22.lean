/- fixture.Text. (printed by wip/gen/gen_plibtext.py) -/
import Derived.Test.YtppbagllhmeenaaGreatDoorT67M20
import Derived.Test.YtppbagllhmeenaaGreatDoorT67M21
import Derived.Test.YtppbagllhmeenaaGreatDoorT67M19
import Derived.Deep.RegionHeld3
import Derived.Deep.DeepCutAuto

namespace Go.Proofs.YtppbagllhmeenaaGreatDoor
open Go.RowKit
set_option linter.unusedVariables false
set_option linter.unusedSimpArgs false

set_option maxRecDepth 100000 in
set_option maxHeartbeats 32000000 in
theorem libText_any (v : Value) (l : List Prf) (w : World) (hT : TextW w) (h : PrfS w.heap.size w v l) (hf : ∀ p ∈ l, PrfFit p) :
    Calls Tryz.prog 11 #[v] w fun e w' => e = .returned (.tuple #[.string (libT l).1, .int .i64 (libT l).2]) ∧ Below w.heap.size w w' := by
  have CC := Lib.hid (ckLibrary_any v l w h hf)
  have HG := Lib.hid (PrfS.get h)
  have HVB := Lib.hid (fun (h : ¬ chkLib l = 0) => libT_bad h)
  have HVL := Lib.hid (fun (h : chkLib l = 0) => libT_long h)
  have HVO := Lib.hid (fun (h : chkLib l = 0) => libT_ok h)
  have HOK := Lib.hid (fun (h : chkLib l = 0) => libOk_of h)
  have HTK := Lib.hid (libB_take l)
  have HT := Lib.hid hT
  obtain ⟨lo, lcap, rfl⟩ := prfS_shape h
  have hcp := prfS_cap h
  clear h hf hT
  generalize libT l = RES at *
  generalize chkLib l = E at *
  go_enter Tryz.func11, Tryz.ntmps11
  go_wp2_with fail
  refine CC.out.mono ?_
  rintro e w1 ⟨rfl, hb⟩
  have HB1 := Lib.hid hb
  clear hb CC
  by_cases hE : E = 0
  rotate_left
  · have HV := Lib.hid (HVB.out hE)
    go_wp2_with fail
    exact bodyPost_ret (v := .tuple #[.string ⟨#[]⟩, .int .i64 E]) (by simp [results, Tryz.results11, go_sem]) rfl ⟨by rw [HV.out], HB1.out⟩
  subst hE
  have HV1 := Lib.hid (HVL.out rfl)
  have HV2 := Lib.hid (HVO.out rfl)
  have HLO := Lib.hid (HOK.out rfl)
  have hl60 := HLO.out.len
  have HLE := Lib.hid (libB_le HLO.out)
  clear HVB HVL HVO HOK
  have ha := (Below.refl w1.heap.size w1).alloc (Nat.le_refl _) (.cells #[.pointer none, .slice none 0 0] 60)
  have HB2 := Lib.hid ha
  have HBI := Lib.hid (isB_new w1 w1.heap.size (Nat.le_refl _))
  have hw1 := HB1.out.size
  clear ha
  go_upto_region 5 with fail
  obtain ⟨w2, hw2⟩ : ∃ w2 : World, w2 = w1.alloc (.cells #[.pointer none, .slice none 0 0] 60) := ⟨_, rfl⟩
  rw [← hw2] at HB2 HBI ⊢
  clear hw2
  have KB := Lib.hid (show ∀ W, Below w1.heap.size w1 W → Below w.heap.size w W from fun W hW => HB1.out.trans (hW.mono hw1))
  go_wp2_with fail
  go_loopw [19] (fun i wx => ∃ k : Nat, k ≤ l.length ∧ i = .int .i64 k ∧ Hid (Below w1.heap.size w1 wx) ∧ Hid (Lib.IsBuilder 60 5 w1.heap.size w1.heap.size (Lib.strCells (libB (l.take k))) wx)) (fun i _ => l.length - (intOf i).toNat)
  case atStart => exact ⟨0, Nat.zero_le _, rfl, HB2, HBI⟩
  case round =>
    obtain ⟨k, hk, rfl, HWR, HBI⟩ := hrel
    obtain ⟨wo, rfl⟩ : ∃ x, x = wr := ⟨wr, rfl⟩
    have hzr := HWR.out.size
    by_cases hlt : k < l.length
    · skip
      have hle := HLE.out k hk
      obtain ⟨b, off, cap', hsl, hb, _, hc⟩ := HG.out (by omega)
      injection hsl with hs1 hs2 hs3
      subst hs1
      subst hs3
      obtain ⟨pv, hpv, hcc⟩ := hc k hlt
      have hbw := KB.out _ HWR.out
      obtain ⟨d0, d1, d2⟩ := hcc wo hbw
      have hbr : b < wo.heap.size := by have := hbw.size; omega
      have HPO := Lib.hid (HLO.out.prfs _ (List.getElem_mem hlt))
      have HS := Lib.hid (HTK.out k hlt)
      have HPG := Lib.hid (ParS.get hpv)
      obtain ⟨po, pcap, rfl⟩ := parS_shape hpv
      have hpc := parS_cap hpv
      have PC := Lib.hid (show prfHd l[k] = (((((⟨#[112, 114, 111, 102, 105, 108, 101, 32]⟩ : ByteArray) ++ l[k].name) ++ (⟨#[32]⟩ : ByteArray)) ++ itT l[k].size) ++ (⟨#[10]⟩ : ByteArray)) from rfl)
      have PE := Lib.hid (show prfA (libB (l.take k)) l[k] = parsA (libB (l.take k) ++ prfHd l[k]) l[k].pars from rfl)
      rw [PE.out, PC.out] at HS
      clear hc hcc hpv PC PE
      generalize hX1 : libB (l.take (k + 1)) = XN at *
      have HXN := Lib.hid hX1
      clear hX1
      generalize libB (l.take k) = X at *
      generalize hrk : l[k] = rk at *
      clear hrk
      obtain ⟨p1, p2, p3, p4⟩ := HPO.out
      obtain ⟨pn, pz, pl⟩ := rk
      simp only at *
      have HP4 := Lib.hid p4
      clear p4
      have HTW := Lib.hid (HT.out.below hbw)
      have l1 := itT_le pz (by omega) (by omega)
      have hA := (Below.refl wo.heap.size wo).alloc (Nat.le_refl _) (.cells #[.string pn, .int .i64 pz, .slice po pl.length pcap] 70)
      have HTU := Lib.hid (TBox.new wo #[.string pn, .int .i64 pz, .slice po pl.length pcap] 70)
      have HA := Lib.hid hA
      clear hA hbw
      go_upto_region 8 with fail
      obtain ⟨w3, hw3⟩ : ∃ w3 : World, w3 = wo.alloc (.cells #[.string pn, .int .i64 pz, .slice po pl.length pcap] 70) := ⟨_, rfl⟩
      rw [← hw3] at HTU HA ⊢
      clear hw3
      have KM := Lib.hid (show ∀ W W1, Below w3.heap.size w3 W → Below W.heap.size W W1 → Below w3.heap.size w3 W1 from fun W W1 h1 h2 => h1.trans (h2.mono h1.size))
      have KP := Lib.hid (show ∀ W, Below w3.heap.size w3 W → (W.cell? ⟨wo.heap.size, 0, none⟩ = some (.string pn) ∧ W.cell? ⟨wo.heap.size, 1, none⟩ = some (.int .i64 pz)) from fun W hW => ⟨(HTU.out.below hW).cell rfl, (HTU.out.below hW).cell rfl⟩)
      have C1 := Lib.hid (show ∀ W, Below w3.heap.size w3 W → Calls Tryz.prog 31 #[.int .i64 pz] W fun e w' => e = .returned (.string (itT pz)) ∧ Below W.heap.size W w' from fun W h => itoa_int pz W (by omega) (by omega) ((HTW.out.below HA.out).below h))
      generalize itT pz = ty at *
      obtain ⟨z1, q1⟩ : ∃ z, (⟨#[112, 114, 111, 102, 105, 108, 101, 32]⟩ : ByteArray) ++ pn = z := ⟨_, rfl⟩
      have s1 : z1.size = 8 + pn.size := by rw [← q1, ByteArray.size_append, show (⟨#[112, 114, 111, 102, 105, 108, 101, 32]⟩ : ByteArray).size = 8 from rfl]
      obtain ⟨z2, q2⟩ : ∃ z, z1 ++ (⟨#[32]⟩ : ByteArray) = z := ⟨_, rfl⟩
      have s2 : z2.size = z1.size + 1 := by rw [← q2, ByteArray.size_append, show (⟨#[32]⟩ : ByteArray).size = 1 from rfl]
      obtain ⟨z3, q3⟩ : ∃ z, z2 ++ ty = z := ⟨_, rfl⟩
      have s3 : z3.size = z2.size + ty.size := by rw [← q3, ByteArray.size_append]
      obtain ⟨z4, q4⟩ : ∃ z, z3 ++ (⟨#[10]⟩ : ByteArray) = z := ⟨_, rfl⟩
      have s4 : z4.size = z3.size + 1 := by rw [← q4, ByteArray.size_append, show (⟨#[10]⟩ : ByteArray).size = 1 from rfl]
      rw [q1, q2, q3, q4] at HS
      have hz9 : z4.size ≤ 60 := by omega
      have c1 : (9223372036854775807 < 8 + pn.size) = False := eq_false (by omega)
      have ca1 : (9223372036854775799 < pn.size) = False := eq_false (by omega)
      have cb1 : (9223372036854775799 ≤ pn.size) = False := eq_false (by omega)
      have cd1 : (9223372036854775800 ≤ pn.size) = False := eq_false (by omega)
      have c2 : (9223372036854775807 < z1.size + 1) = False := eq_false (by omega)
      have ca2 : (9223372036854775806 < z1.size) = False := eq_false (by omega)
      have cb2 : (9223372036854775806 ≤ z1.size) = False := eq_false (by omega)
      have cd2 : (9223372036854775807 ≤ z1.size) = False := eq_false (by omega)
      have c3 : (9223372036854775807 < z2.size + ty.size) = False := eq_false (by omega)
      have c4 : (9223372036854775807 < z3.size + 1) = False := eq_false (by omega)
      have ca4 : (9223372036854775806 < z3.size) = False := eq_false (by omega)
      have cb4 : (9223372036854775806 ≤ z3.size) = False := eq_false (by omega)
      have cd4 : (9223372036854775807 ≤ z3.size) = False := eq_false (by omega)
      have CW := Lib.hid (show ∀ W, Below w3.heap.size w3 W → Calls Tryz.prog 30 #[.pointer (some ⟨w1.heap.size, 0, none⟩), .string z4] W fun e w' => e = .returned (.tuple #[.int .i64 z4.size, .nilIface]) ∧ Lib.IsBuilder 60 5 w1.heap.size w1.heap.size (Lib.strCells X ++ Lib.strCells z4) w' ∧ Below w1.heap.size W w' ∧ TBox w' wo.heap.size 70 #[.string pn, .int .i64 pz, .slice po pl.length pcap] from fun W h => (writeString_any w1.heap.size w1.heap.size (Lib.strCells X) z4 W (isB_below (isB_below HBI.out HA.out) h) (by rw [Lib.strCells_length]; omega) (by have := h.size; have := HA.out.size; omega)).mono (by
        rintro e w' ⟨h1, h2, h3, h4⟩
        exact ⟨h1, h2, h3, h4 wo.heap.size 70 _ (by decide) (by decide) (HTU.out.below h)⟩))
      have CW := Lib.hid (show ∀ W, Below w3.heap.size w3 W → Calls Tryz.prog 30 #[.pointer (some ⟨w1.heap.size, 0, none⟩), .string z4] W fun e w' => e = .returned (.tuple #[.int .i64 z4.size, .nilIface]) ∧ Lib.IsBuilder 60 5 w1.heap.size w1.heap.size (Lib.strCells X ++ Lib.strCells z4) w' ∧ Below w1.heap.size W w' ∧ (w'.cell? ⟨wo.heap.size, 0, none⟩ = some (.string pn) ∧ w'.cell? ⟨wo.heap.size, 1, none⟩ = some (.int .i64 pz)) ∧ Hid (TBox w' wo.heap.size 70 #[.string pn, .int .i64 pz, .slice po pl.length pcap]) from fun W h => (CW.out W h).mono fun e w' h => ⟨h.1, h.2.1, h.2.2.1, ⟨h.2.2.2.cell rfl, h.2.2.2.cell rfl⟩, Lib.hid h.2.2.2⟩)
      clear s1 s2 s3 s4 l1
      have hw0 := Below.refl w3.heap.size w3
      have hw1' := (Below.refl w3.heap.size w3).drew
      go_region_held3 (fun W => W.cell? ⟨wo.heap.size, 0, none⟩ = some (.string pn) ∧ W.cell? ⟨wo.heap.size, 1, none⟩ = some (.int .i64 pz))
        (with_reducible first | assumption | exact KP.out _ (by assumption) | exact KP.out _ (Below.drew (by assumption)))
        (first
          | (go_at_call 31; (with_reducible refine (C1.out _ (by with_reducible first | assumption | exact Below.drew (by assumption))).mono ?_); rintro e W1 ⟨rfl, hb1⟩; have hA1 := KM.out _ _ (by with_reducible first | assumption | exact Below.drew (by assumption)) hb1; clear hb1)
          | (go_at_call 30; (with_reducible refine (CW.out _ (by with_reducible first | assumption | exact Below.drew (by assumption))).mono ?_); rintro e W4 ⟨rfl, hib4, hbl4, hc4, HTB⟩)
          | fail)
      have HIB := Lib.hid (show Lib.IsBuilder 60 5 w1.heap.size w1.heap.size (Lib.strCells (X ++ z4)) W4 by rw [cells_app]; exact hib4)
      have HBW := Lib.hid (show Below w1.heap.size w1 W4 from (HWR.out.trans (HA.out.mono hzr)).trans ((Below.mono hA1 (by have := HA.out.size; omega)).trans hbl4))
      have c2 := HTB.out.cell (i := 2) rfl
      have hlt4 := HTB.out.lt
      have HXY := Lib.hid (show (X ++ z4).size ≤ 3300000 by rw [ByteArray.size_append]; omega)
      clear hib4 hbl4 hc4 hA1 CW C1 KP KM HA HTU hw0 hw1'
      generalize X ++ z4 = Y at *
      have HPL := Lib.hid (parsA_le Y pl HP4.out)
      have HPT := Lib.hid (parsA_take Y pl)
      go_wp2_with fail
      go_loopw [36] (fun i wx => ∃ j : Nat, j ≤ pl.length ∧ i = .int .i64 j ∧ Hid (Below w1.heap.size w1 wx) ∧ Hid (Lib.IsBuilder 60 5 w1.heap.size w1.heap.size (Lib.strCells (parsA Y (pl.take j))) wx)) (fun i _ => pl.length - (intOf i).toNat)
      case atStart => exact ⟨0, Nat.zero_le _, rfl, HBW, HIB⟩
      case round =>
        obtain ⟨j, hj, rfl, HWS, HBJ⟩ := hrel
        have hzs := HWS.out.size
        clear c2 hlt4
        have hlj := HPL.out j hj
        have hY := HXY.out
        by_cases hlu : j < pl.length
        · skip
          obtain ⟨b2, off2, cap2, hsl, hb2, _, hc⟩ := HPG.out (by omega)
          injection hsl with hs1 hs2 hs3
          subst hs1
          subst hs3
          obtain ⟨rv, hrv, hcc⟩ := hc j hlu
          have hbw := KB.out _ HWS.out
          obtain ⟨f0, f1, f2, f3, f4, f5, f6⟩ := hcc wr hbw
          have hbr2 : b2 < wr.heap.size := by have := hbw.size; omega
          have HXO := Lib.hid (HP4.out _ (List.getElem_mem hlu))
          have HST := Lib.hid (HPT.out j hlu)
          obtain ⟨wm, rfl⟩ : ∃ x, x = wr := ⟨wr, rfl⟩
          have HRG := Lib.hid (RngS.get hrv)
          have hrl := HXO.out.len
          obtain ⟨ro, rcap, rfl⟩ := rngS_shape hrv
          have E1 := Lib.hid (show parA (parsA Y (pl.take j)) pl[j] = rngA (nlA (snapA pl[j] (dfltA pl[j] (fineA pl[j] (parsA Y (pl.take j) ++ parHd pl[j]))))) pl[j].rngs from rfl)
          have HF0 := Lib.hid (show parHd pl[j] = ((((((⟨#[32, 32]⟩ : ByteArray) ++ grpT pl[j].grp) ++ (⟨#[32]⟩ : ByteArray)) ++ pl[j].name) ++ (⟨#[32, 97, 116, 32]⟩ : ByteArray)) ++ itT pl[j].sl) from rfl)
          have HYF := Lib.hid (fun s : ByteArray => show fineA pl[j] s = if 0 < pl[j].fine then s ++ ((⟨#[32, 102, 105, 110, 101, 32]⟩ : ByteArray) ++ itT pl[j].fine) else s from rfl)
          have HYD := Lib.hid (fun s : ByteArray => show dfltA pl[j] s = if 0 < pl[j].dflt then s ++ ((⟨#[32, 100, 101, 102, 97, 117, 108, 116, 32]⟩ : ByteArray) ++ showT pl[j].dflt) else s from rfl)
          have HYS := Lib.hid (fun s : ByteArray => show snapA pl[j] s = if pl[j].snap = true then s ++ (⟨#[32, 115, 110, 97, 112]⟩ : ByteArray) else s from rfl)
          have HYN := Lib.hid (fun s : ByteArray => show nlA s = s ++ (⟨#[10]⟩ : ByteArray) from rfl)
          have hh0 := parHd_le HXO.out
          have n1 := fineA_le HXO.out (parsA Y (pl.take j) ++ parHd pl[j])
          have n2 := dfltA_le HXO.out (fineA pl[j] (parsA Y (pl.take j) ++ parHd pl[j]))
          have n3 := snapA_le pl[j] (dfltA pl[j] (fineA pl[j] (parsA Y (pl.take j) ++ parHd pl[j])))
          have n4 := nlA_le (snapA pl[j] (dfltA pl[j] (fineA pl[j] (parsA Y (pl.take j) ++ parHd pl[j]))))
          rw [ByteArray.size_append] at n1
          obtain ⟨x1, x2, x3, x4, x5, x6, x7⟩ := HXO.out
          have HR7 := Lib.hid x7
          have HT4 := Lib.hid (fun (q : Nat) (hq : q < pl[j].rngs.length) => rngA_take (nlA (snapA pl[j] (dfltA pl[j] (fineA pl[j] (parsA Y (pl.take j) ++ parHd pl[j]))))) pl[j].rngs q hq)
          have HL4 := Lib.hid (fun (q : Nat) (hq : q ≤ pl[j].rngs.length) => rngA_le (nlA (snapA pl[j] (dfltA pl[j] (fineA pl[j] (parsA Y (pl.take j) ++ parHd pl[j]))))) pl[j].rngs x7 q hq)
          clear hc hcc hrv x7 HXO
          generalize hX1 : parsA Y (pl.take (j + 1)) = ZN at *
          have HZN := Lib.hid hX1
          clear hX1
          generalize parsA Y (pl.take j) = Z at *
          have HI0 := Lib.hid (HYF.out (Z ++ parHd pl[j]))
          have HI1 := Lib.hid (HYD.out (fineA pl[j] (Z ++ parHd pl[j])))
          have HI2 := Lib.hid (HYS.out (dfltA pl[j] (fineA pl[j] (Z ++ parHd pl[j]))))
          have HI3 := Lib.hid (HYN.out (snapA pl[j] (dfltA pl[j] (fineA pl[j] (Z ++ parHd pl[j])))))
          clear HYF HYD HYS HYN
          generalize nlA (snapA pl[j] (dfltA pl[j] (fineA pl[j] (Z ++ parHd pl[j])))) = Y4 at *
          generalize snapA pl[j] (dfltA pl[j] (fineA pl[j] (Z ++ parHd pl[j]))) = Y3 at *
          generalize dfltA pl[j] (fineA pl[j] (Z ++ parHd pl[j])) = Y2 at *
          generalize fineA pl[j] (Z ++ parHd pl[j]) = Y1 at *
          obtain ⟨Y0, hY0⟩ : ∃ Y0, Z ++ parHd pl[j] = Y0 := ⟨_, rfl⟩
          rw [hY0] at HI0
          have hs0 : Y0.size = Z.size + (parHd pl[j]).size := by rw [← hY0, ByteArray.size_append]
          have HY0 := Lib.hid hY0
          clear hY0
          rw [E1.out] at HST
          generalize parHd pl[j] = hd at *
          generalize hrk : pl[j] = rk at *
          clear hrk E1
          obtain ⟨xn, xg, xs, xf, xd, xb, rngs⟩ := rk
          simp only at *
          have hgt := grpT_le xg
          have hi1 := itT_le xs (by omega) (by omega)
          have hi2 := itT_le xf (by omega) (by omega)
          have hi3 := showT_le xd x4.1 x4.2
          have hZ : Z.size ≤ 3353000 := by omega
          have m0 : Y0.size ≤ 3354000 := by omega
          have m1 : Y1.size ≤ 3355000 := by omega
          have m2 : Y2.size ≤ 3356000 := by omega
          have m3 : Y3.size ≤ 3357000 := by omega
          have m4 : Y4.size ≤ 3358000 := by omega
          clear n1 n2 n3 n4 hs0 hlj hh0
          have KT := Lib.hid (show ∀ W, Below w1.heap.size w1 W → TextW W from fun W hW => HT.out.below (KB.out W hW))
          have HTU := Lib.hid (TBox.new wm #[.string xn, .int .i64 xg, .int .i64 xs, .int .i64 xf, .int .i64 xd, .bool xb, .slice ro rngs.length rcap] 73)
          have hA := (Below.refl wm.heap.size wm).alloc (Nat.le_refl _) (.cells #[.string xn, .int .i64 xg, .int .i64 xs, .int .i64 xf, .int .i64 xd, .bool xb, .slice ro rngs.length rcap] 73)
          have HA := Lib.hid hA
          have HWA := Lib.hid (HWS.out.trans (hA.mono hzs))
          clear hA hbw
          go_upto_region 12 with fail
          obtain ⟨w3', hw3'⟩ : ∃ w3' : World, w3' = wm.alloc (.cells #[.string xn, .int .i64 xg, .int .i64 xs, .int .i64 xf, .int .i64 xd, .bool xb, .slice ro rngs.length rcap] 73) := ⟨_, rfl⟩
          rw [← hw3'] at HTU HA HWA ⊢
          clear hw3'
          have KP := Lib.hid (show ∀ W, Below w3'.heap.size w3' W → (W.cell? ⟨wm.heap.size, 1, none⟩ = some (.int .i64 xg) ∧ W.cell? ⟨wm.heap.size, 0, none⟩ = some (.string xn) ∧ W.cell? ⟨wm.heap.size, 2, none⟩ = some (.int .i64 xs)) from fun W hW => ⟨(HTU.out.below hW).cell rfl, (HTU.out.below hW).cell rfl, (HTU.out.below hW).cell rfl⟩)
          have KM := Lib.hid (show ∀ W W1, Below w3'.heap.size w3' W → Below W.heap.size W W1 → Below w3'.heap.size w3' W1 from fun W W1 h1 h2 => h1.trans (h2.mono h1.size))
          have hz3 := HWA.out.size
          have KW := Lib.hid (show ∀ W, Below w3'.heap.size w3' W → Below w1.heap.size w1 W from fun W h => HWA.out.trans (h.mono hz3))
          have CG := Lib.hid (fun W => groupWord_any xg W x2.1 x2.2)
          have C1 := Lib.hid (fun W (h : Below w3'.heap.size w3' W) => itoa_int xs W (by omega) (by omega) (KT.out _ (KW.out W h)))
          have C2 := Lib.hid (fun W (h : Below w1.heap.size w1 W) => itoa_int xf W (by omega) (by omega) (KT.out W h))
          have C3 := Lib.hid (fun W (h : Below w1.heap.size w1 W) => fshow_any xd W (KT.out W h) x4.1 x4.2)
          generalize grpT xg = yg at *
          generalize itT xs = y1 at *
          generalize itT xf = y2 at *
          generalize showT xd = y3 at *
          go_cut [] (fun wx => Below w1.heap.size w1 wx ∧ Lib.IsBuilder 60 5 w1.heap.size w1.heap.size (Lib.strCells (Y0)) wx ∧ TBox wx wm.heap.size 73 #[.string xn, .int .i64 xg, .int .i64 xs, .int .i64 xf, .int .i64 xd, .bool xb, .slice ro rngs.length rcap])
          case first =>
            have HX := HF0.out
            obtain ⟨z1, q1⟩ : ∃ z, (⟨#[32, 32]⟩ : ByteArray) ++ yg = z := ⟨_, rfl⟩
            have s1 : z1.size = 2 + yg.size := by rw [← q1, ByteArray.size_append, show (⟨#[32, 32]⟩ : ByteArray).size = 2 from rfl]
            obtain ⟨z2, q2⟩ : ∃ z, z1 ++ (⟨#[32]⟩ : ByteArray) = z := ⟨_, rfl⟩
            have s2 : z2.size = z1.size + 1 := by rw [← q2, ByteArray.size_append, show (⟨#[32]⟩ : ByteArray).size = 1 from rfl]
            obtain ⟨z3, q3⟩ : ∃ z, z2 ++ xn = z := ⟨_, rfl⟩
            have s3 : z3.size = z2.size + xn.size := by rw [← q3, ByteArray.size_append]
            obtain ⟨z4, q4⟩ : ∃ z, z3 ++ (⟨#[32, 97, 116, 32]⟩ : ByteArray) = z := ⟨_, rfl⟩
            have s4 : z4.size = z3.size + 4 := by rw [← q4, ByteArray.size_append, show (⟨#[32, 97, 116, 32]⟩ : ByteArray).size = 4 from rfl]
            obtain ⟨z5, q5⟩ : ∃ z, z4 ++ y1 = z := ⟨_, rfl⟩
            have s5 : z5.size = z4.size + y1.size := by rw [← q5, ByteArray.size_append]
            rw [q1, q2, q3, q4, q5] at HX
            have HY1 := Lib.hid (show Z ++ z5 = Y0 by rw [← HX, HY0.out])
            have hz9 : z5.size ≤ 80 := by omega
            have c1 : (9223372036854775807 < 2 + yg.size) = False := eq_false (by omega)
            have ca1 : (9223372036854775805 < yg.size) = False := eq_false (by omega)
            have cb1 : (9223372036854775805 ≤ yg.size) = False := eq_false (by omega)
            have cd1 : (9223372036854775806 ≤ yg.size) = False := eq_false (by omega)
            have c2 : (9223372036854775807 < z1.size + 1) = False := eq_false (by omega)
            have ca2 : (9223372036854775806 < z1.size) = False := eq_false (by omega)
            have cb2 : (9223372036854775806 ≤ z1.size) = False := eq_false (by omega)
            have cd2 : (9223372036854775807 ≤ z1.size) = False := eq_false (by omega)
            have c3 : (9223372036854775807 < z2.size + xn.size) = False := eq_false (by omega)
            have c4 : (9223372036854775807 < z3.size + 4) = False := eq_false (by omega)
            have ca4 : (9223372036854775803 < z3.size) = False := eq_false (by omega)
            have cb4 : (9223372036854775803 ≤ z3.size) = False := eq_false (by omega)
            have cd4 : (9223372036854775804 ≤ z3.size) = False := eq_false (by omega)
            have c5 : (9223372036854775807 < z4.size + y1.size) = False := eq_false (by omega)
            clear HX s1 s2 s3 s4 s5
            have CW := Lib.hid (show ∀ W, Below w3'.heap.size w3' W → Calls Tryz.prog 30 #[.pointer (some ⟨w1.heap.size, 0, none⟩), .string z5] W fun e w' => e = .returned (.tuple #[.int .i64 z5.size, .nilIface]) ∧ Lib.IsBuilder 60 5 w1.heap.size w1.heap.size (Lib.strCells Z ++ Lib.strCells z5) w' ∧ Below w1.heap.size W w' ∧ (w'.cell? ⟨wm.heap.size, 1, none⟩ = some (.int .i64 xg) ∧ w'.cell? ⟨wm.heap.size, 0, none⟩ = some (.string xn) ∧ w'.cell? ⟨wm.heap.size, 2, none⟩ = some (.int .i64 xs)) ∧ Hid (TBox w' wm.heap.size 73 #[.string xn, .int .i64 xg, .int .i64 xs, .int .i64 xf, .int .i64 xd, .bool xb, .slice ro rngs.length rcap]) from fun W h => (writeString_any w1.heap.size w1.heap.size (Lib.strCells Z) z5 W (isB_below (isB_below HBJ.out HA.out) h) (by rw [Lib.strCells_length]; omega) (KW.out W h).size).mono (by
              rintro e w' ⟨h1, h2, h3, h4⟩
              have h5 := h4 wm.heap.size 73 _ (by decide) (by decide) (HTU.out.below h)
              exact ⟨h1, h2, h3, ⟨h5.cell rfl, h5.cell rfl, h5.cell rfl⟩, Lib.hid h5⟩))
            have hw0 := Below.refl w3'.heap.size w3'
            have hw1' := (Below.refl w3'.heap.size w3').drew
            go_region_held3 (fun W => W.cell? ⟨wm.heap.size, 1, none⟩ = some (.int .i64 xg) ∧ W.cell? ⟨wm.heap.size, 0, none⟩ = some (.string xn) ∧ W.cell? ⟨wm.heap.size, 2, none⟩ = some (.int .i64 xs))
              (with_reducible first | assumption | exact KP.out _ (by assumption) | exact KP.out _ (Below.drew (by assumption)))
              (first
                | (go_at_call 34; (with_reducible refine (CG.out _).mono ?_); rintro e W0 ⟨rfl, rfl⟩)
                | (go_at_call 31; (with_reducible refine (C1.out _ (by with_reducible first | assumption | exact Below.drew (by assumption))).mono ?_); rintro e W1 ⟨rfl, hb1⟩; have hA1 := KM.out _ _ (by with_reducible first | assumption | exact Below.drew (by assumption)) hb1; clear hb1)
                | (go_at_call 30; (with_reducible refine (CW.out _ (by with_reducible first | assumption | exact Below.drew (by assumption))).mono ?_); rintro e W4 ⟨rfl, hib4, hbl4, hc4, HTB⟩)
                | fail)
            all_goals
              have HBW2 := Lib.hid ((KW.out _ hA1).trans hbl4)
              rw [← cells_app, HY1.out] at hib4
              have HIB2 := Lib.hid hib4
              clear hib4 hbl4 hc4
              go_wp2_with fail
              go_meet
              exact ⟨HBW2.out, HIB2.out, HTB.out⟩
          
          case rest =>
            obtain ⟨hb, hib, htb⟩ := hcut
            obtain ⟨wq, rfl⟩ : ∃ x, x = wc := ⟨wc, rfl⟩
            have HBQ := Lib.hid hb
            have HIQ := Lib.hid hib
            have HTQ := Lib.hid htb
            have z3 := htb.cell (i := 3) rfl
            have z4 := htb.cell (i := 4) rfl
            have z5 := htb.cell (i := 5) rfl
            have z6 := htb.cell (i := 6) rfl
            have hzq := htb.lt
            have hzb := hb.size
            clear hb hib htb
            go_upto_if 56 with fail
            go_cut [] (fun wx => Below w1.heap.size w1 wx ∧ Lib.IsBuilder 60 5 w1.heap.size w1.heap.size (Lib.strCells (Y1)) wx ∧ TBox wx wm.heap.size 73 #[.string xn, .int .i64 xg, .int .i64 xs, .int .i64 xf, .int .i64 xd, .bool xb, .slice ro rngs.length rcap])
            case first =>
              by_cases hc : 0 < xf
              · skip
                have HE := Lib.hid (show Y1 = Y0 ++ ((⟨#[32, 102, 105, 110, 101, 32]⟩ : ByteArray) ++ y2) by rw [HI0.out, if_pos hc])
                have hd1 : decide ((0 : Int) < xf) = true := by simpa using hc
                go_wp2_with fail
                refine (C2.out _ HBQ.out).mono ?_
                rintro e wI ⟨rfl, hbI⟩
                have HBI2 := Lib.hid hbI
                have hzI := hbI.size
                clear hbI
                go_wp2_with fail
                have k3 : ((⟨#[32, 102, 105, 110, 101, 32]⟩ : ByteArray) ++ y2).size ≤ 40 := by rw [ByteArray.size_append, show (⟨#[32, 102, 105, 110, 101, 32]⟩ : ByteArray).size = 6 from rfl]; omega
                generalize hzz : (⟨#[32, 102, 105, 110, 101, 32]⟩ : ByteArray) ++ y2 = zz at *
                have HZ := Lib.hid hzz
                clear hzz
                have CW := Lib.hid (writeString_any w1.heap.size w1.heap.size _ zz wI (isB_below HIQ.out HBI2.out) (by rw [Lib.strCells_length]; omega) (by omega))
                refine CW.out.mono ?_
                rintro e w8 ⟨rfl, hib, hbl, hot⟩
                rw [← cells_app, ← HE.out] at hib
                have HB8 := Lib.hid (HBQ.out.trans ((HBI2.out.mono hzb).trans hbl))
                have HT8 := Lib.hid (hot wm.heap.size 73 _ (by decide) (by decide) (HTQ.out.below HBI2.out))
                have HI8 := Lib.hid hib
                clear hib hbl hot
                go_wp2_with fail
                all_goals go_meet
                all_goals exact ⟨HB8.out, HI8.out, HT8.out⟩
              · skip
                have HE := Lib.hid (show Y1 = Y0 by rw [HI0.out, if_neg hc])
                have hd1 : decide ((0 : Int) < xf) = false := by simpa using hc
                go_wp2_with fail
                all_goals go_meet
                all_goals exact ⟨HBQ.out, by rw [HE.out]; exact HIQ.out, HTQ.out⟩
            case rest =>
              clear HBQ HIQ HTQ z3 z4 z5 z6 hzq hzb
              obtain ⟨hb, hib, htb⟩ := hcut
              obtain ⟨wq, rfl⟩ : ∃ x, x = wc := ⟨wc, rfl⟩
              have HBQ := Lib.hid hb
              have HIQ := Lib.hid hib
              have HTQ := Lib.hid htb
              have z3 := htb.cell (i := 3) rfl
              have z4 := htb.cell (i := 4) rfl
              have z5 := htb.cell (i := 5) rfl
              have z6 := htb.cell (i := 6) rfl
              have hzq := htb.lt
              have hzb := hb.size
              clear hb hib htb
              go_upto_if 64 with fail
              go_cut [] (fun wx => Below w1.heap.size w1 wx ∧ Lib.IsBuilder 60 5 w1.heap.size w1.heap.size (Lib.strCells (Y2)) wx ∧ TBox wx wm.heap.size 73 #[.string xn, .int .i64 xg, .int .i64 xs, .int .i64 xf, .int .i64 xd, .bool xb, .slice ro rngs.length rcap])
              case first =>
                by_cases hc : 0 < xd
                · skip
                  have HE := Lib.hid (show Y2 = Y1 ++ ((⟨#[32, 100, 101, 102, 97, 117, 108, 116, 32]⟩ : ByteArray) ++ y3) by rw [HI1.out, if_pos hc])
                  have hd1 : decide ((0 : Int) < xd) = true := by simpa using hc
                  go_wp2_with fail
                  refine (C3.out _ HBQ.out).mono ?_
                  rintro e wI ⟨rfl, hbI⟩
                  have HBI2 := Lib.hid hbI
                  have hzI := hbI.size
                  clear hbI
                  go_wp2_with fail
                  have k3 : ((⟨#[32, 100, 101, 102, 97, 117, 108, 116, 32]⟩ : ByteArray) ++ y3).size ≤ 40 := by rw [ByteArray.size_append, show (⟨#[32, 100, 101, 102, 97, 117, 108, 116, 32]⟩ : ByteArray).size = 9 from rfl]; omega
                  generalize hzz : (⟨#[32, 100, 101, 102, 97, 117, 108, 116, 32]⟩ : ByteArray) ++ y3 = zz at *
                  have HZ := Lib.hid hzz
                  clear hzz
                  have CW := Lib.hid (writeString_any w1.heap.size w1.heap.size _ zz wI (isB_below HIQ.out HBI2.out) (by rw [Lib.strCells_length]; omega) (by omega))
                  refine CW.out.mono ?_
                  rintro e w8 ⟨rfl, hib, hbl, hot⟩
                  rw [← cells_app, ← HE.out] at hib
                  have HB8 := Lib.hid (HBQ.out.trans ((HBI2.out.mono hzb).trans hbl))
                  have HT8 := Lib.hid (hot wm.heap.size 73 _ (by decide) (by decide) (HTQ.out.below HBI2.out))
                  have HI8 := Lib.hid hib
                  clear hib hbl hot
                  go_wp2_with fail
                  all_goals go_meet
                  all_goals exact ⟨HB8.out, HI8.out, HT8.out⟩
                · skip
                  have HE := Lib.hid (show Y2 = Y1 by rw [HI1.out, if_neg hc])
                  have hd1 : decide ((0 : Int) < xd) = false := by simpa using hc
                  go_wp2_with fail
                  all_goals go_meet
                  all_goals exact ⟨HBQ.out, by rw [HE.out]; exact HIQ.out, HTQ.out⟩
              case rest =>
                clear HBQ HIQ HTQ z3 z4 z5 z6 hzq hzb
                obtain ⟨hb, hib, htb⟩ := hcut
                obtain ⟨wq, rfl⟩ : ∃ x, x = wc := ⟨wc, rfl⟩
                have HBQ := Lib.hid hb
                have HIQ := Lib.hid hib
                have HTQ := Lib.hid htb
                have z3 := htb.cell (i := 3) rfl
                have z4 := htb.cell (i := 4) rfl
                have z5 := htb.cell (i := 5) rfl
                have z6 := htb.cell (i := 6) rfl
                have hzq := htb.lt
                have hzb := hb.size
                clear hb hib htb
                go_upto_if 71 with fail
                go_cut [] (fun wx => Below w1.heap.size w1 wx ∧ Lib.IsBuilder 60 5 w1.heap.size w1.heap.size (Lib.strCells (Y3)) wx ∧ TBox wx wm.heap.size 73 #[.string xn, .int .i64 xg, .int .i64 xs, .int .i64 xf, .int .i64 xd, .bool xb, .slice ro rngs.length rcap])
                case first =>
                  cases xb
                  · have HE := Lib.hid (show Y3 = Y2 by rw [HI2.out]; rfl)
                    go_wp2_with fail
                    all_goals go_meet
                    all_goals exact ⟨HBQ.out, by rw [HE.out]; exact HIQ.out, HTQ.out⟩
                  · have HE := Lib.hid (show Y3 = Y2 ++ (⟨#[32, 115, 110, 97, 112]⟩ : ByteArray) by rw [HI2.out]; rfl)
                    have CW := Lib.hid (writeString_any w1.heap.size w1.heap.size _ (⟨#[32, 115, 110, 97, 112]⟩ : ByteArray) wq HIQ.out (by rw [Lib.strCells_length, show (⟨#[32, 115, 110, 97, 112]⟩ : ByteArray).size = 5 from rfl]; omega) (by omega))
                    go_wp2_with fail
                    refine CW.out.mono ?_
                    rintro e w8 ⟨rfl, hib, hbl, hot⟩
                    rw [← cells_app, ← HE.out] at hib
                    have HB8 := Lib.hid (HBQ.out.trans hbl)
                    have HT8 := Lib.hid (hot wm.heap.size 73 _ (by decide) (by decide) HTQ.out)
                    have HI8 := Lib.hid hib
                    clear hib hbl hot
                    go_wp2_with fail
                    all_goals go_meet
                    all_goals exact ⟨HB8.out, HI8.out, HT8.out⟩
                case rest =>
                  clear HBQ HIQ HTQ z3 z4 z5 z6 hzq hzb
                  obtain ⟨hb, hib, htb⟩ := hcut
                  obtain ⟨wq, rfl⟩ : ∃ x, x = wc := ⟨wc, rfl⟩
                  have HBQ := Lib.hid hb
                  have HIQ := Lib.hid hib
                  have HTQ := Lib.hid htb
                  have hzb := hb.size
                  clear hb hib htb
                  have CW := Lib.hid (writeString_any w1.heap.size w1.heap.size _ (⟨#[10]⟩ : ByteArray) wq HIQ.out (by rw [Lib.strCells_length, show (⟨#[10]⟩ : ByteArray).size = 1 from rfl]; omega) (by omega))
                  go_wp2_with fail
                  refine CW.out.mono ?_
                  rintro e w8 ⟨rfl, hib, hbl, hot⟩
                  rw [← cells_app, ← HI3.out] at hib
                  have HB8 := Lib.hid (HBQ.out.trans hbl)
                  have ht8 := hot wm.heap.size 73 _ (by decide) (by decide) HTQ.out
                  have HI8 := Lib.hid hib
                  have z6 := ht8.cell (i := 6) rfl
                  have hzq := ht8.lt
                  clear hib hbl hot ht8 HBQ HIQ HTQ CW HI0 HI1 HI2 HI3 hzb
                  go_wp2_with fail
                  go_loopw [77] (fun i wx => ∃ q : Nat, q ≤ rngs.length ∧ i = .int .i64 q ∧ Hid (Below w1.heap.size w1 wx) ∧ Hid (Lib.IsBuilder 60 5 w1.heap.size w1.heap.size (Lib.strCells (rngA Y4 (rngs.take q))) wx)) (fun i _ => rngs.length - (intOf i).toNat)
                  case atStart => exact ⟨0, Nat.zero_le _, rfl, HB8, HI8⟩
                  case round =>
                    obtain ⟨q, hq, rfl, HWT, HBK⟩ := hrel
                    obtain ⟨wt, rfl⟩ : ∃ x, x = wr := ⟨wr, rfl⟩
                    have hzt := HWT.out.size
                    clear z6 hzq
                    have hlq := HL4.out q hq
                    by_cases hlw : q < rngs.length
                    · skip
                      obtain ⟨b3, off3, cap3, hsl, hb3, _, hc⟩ := HRG.out (by omega)
                      injection hsl with hs1 hs2 hs3
                      subst hs1
                      subst hs3
                      have hbw := KB.out _ HWT.out
                      obtain ⟨d0, d1, d2⟩ := hc q hlw wt hbw
                      have hbr3 : b3 < wt.heap.size := by have := hbw.size; omega
                      have HOK3 := Lib.hid (HR7.out _ (List.getElem_mem hlw))
                      have HS3 := Lib.hid (HT4.out q hlw)
                      have PC3 := Lib.hid (show rngT rngs[q] = (((((((⟨#[32, 32, 32, 32]⟩ : ByteArray) ++ showT rngs[q].low) ++ (⟨#[32]⟩ : ByteArray)) ++ showT rngs[q].high) ++ (⟨#[32]⟩ : ByteArray)) ++ rngs[q].name) ++ (⟨#[10]⟩ : ByteArray)) from rfl)
                      rw [PC3.out] at HS3
                      clear hc PC3
                      generalize hX1 : rngA Y4 (rngs.take (q + 1)) = RN at *
                      have HRN := Lib.hid hX1
                      clear hX1
                      generalize rngA Y4 (rngs.take q) = R at *
                      generalize hrk : rngs[q] = rk at *
                      clear hrk
                      obtain ⟨⟨l1, l2⟩, ⟨l3, l4⟩, l5⟩ := HOK3.out
                      obtain ⟨rl, rh, rn⟩ := rk
                      simp only at *
                      have t1 := showT_le rl l1 l2
                      have t2 := showT_le rh l3 l4
                      have hA := (Below.refl wt.heap.size wt).alloc (Nat.le_refl _) (.cells #[.int .i64 rl, .int .i64 rh, .string rn] 75)
                      have HTR := Lib.hid (TBox.new wt #[.int .i64 rl, .int .i64 rh, .string rn] 75)
                      have HA3 := Lib.hid hA
                      have HWB := Lib.hid (HWT.out.trans (hA.mono hzt))
                      clear hA hbw
                      go_upto_region 23 with fail
                      obtain ⟨w5, hw5⟩ : ∃ w5 : World, w5 = wt.alloc (.cells #[.int .i64 rl, .int .i64 rh, .string rn] 75) := ⟨_, rfl⟩
                      rw [← hw5] at HTR HA3 HWB ⊢
                      clear hw5
                      have hz5 := HWB.out.size
                      have KP3 := Lib.hid (show ∀ W, Below w5.heap.size w5 W → (W.cell? ⟨wt.heap.size, 0, none⟩ = some (.int .i64 rl) ∧ W.cell? ⟨wt.heap.size, 1, none⟩ = some (.int .i64 rh) ∧ W.cell? ⟨wt.heap.size, 2, none⟩ = some (.string rn)) from fun W hW => ⟨(HTR.out.below hW).cell rfl, (HTR.out.below hW).cell rfl, (HTR.out.below hW).cell rfl⟩)
                      have KN := Lib.hid (show ∀ W W1, Below w5.heap.size w5 W → Below W.heap.size W W1 → Below w5.heap.size w5 W1 from fun W W1 h1 h2 => h1.trans (h2.mono h1.size))
                      have KV := Lib.hid (show ∀ W, Below w5.heap.size w5 W → Below w1.heap.size w1 W from fun W h => HWB.out.trans (h.mono hz5))
                      have S1 := Lib.hid (fun W (hW : Below w5.heap.size w5 W) => fshow_any rl W (KT.out _ (KV.out W hW)) l1 l2)
                      have S2 := Lib.hid (fun W (hW : Below w5.heap.size w5 W) => fshow_any rh W (KT.out _ (KV.out W hW)) l3 l4)
                      generalize showT rl = v1 at *
                      generalize showT rh = v2 at *
                      obtain ⟨g1, qg1⟩ : ∃ z, (⟨#[32, 32, 32, 32]⟩ : ByteArray) ++ v1 = z := ⟨_, rfl⟩
                      have sg1 : g1.size = 4 + v1.size := by rw [← qg1, ByteArray.size_append, show (⟨#[32, 32, 32, 32]⟩ : ByteArray).size = 4 from rfl]
                      obtain ⟨g2, qg2⟩ : ∃ z, g1 ++ (⟨#[32]⟩ : ByteArray) = z := ⟨_, rfl⟩
                      have sg2 : g2.size = g1.size + 1 := by rw [← qg2, ByteArray.size_append, show (⟨#[32]⟩ : ByteArray).size = 1 from rfl]
                      obtain ⟨g3, qg3⟩ : ∃ z, g2 ++ v2 = z := ⟨_, rfl⟩
                      have sg3 : g3.size = g2.size + v2.size := by rw [← qg3, ByteArray.size_append]
                      obtain ⟨g4, qg4⟩ : ∃ z, g3 ++ (⟨#[32]⟩ : ByteArray) = z := ⟨_, rfl⟩
                      have sg4 : g4.size = g3.size + 1 := by rw [← qg4, ByteArray.size_append, show (⟨#[32]⟩ : ByteArray).size = 1 from rfl]
                      obtain ⟨g5, qg5⟩ : ∃ z, g4 ++ rn = z := ⟨_, rfl⟩
                      have sg5 : g5.size = g4.size + rn.size := by rw [← qg5, ByteArray.size_append]
                      obtain ⟨g6, qg6⟩ : ∃ z, g5 ++ (⟨#[10]⟩ : ByteArray) = z := ⟨_, rfl⟩
                      have sg6 : g6.size = g5.size + 1 := by rw [← qg6, ByteArray.size_append, show (⟨#[10]⟩ : ByteArray).size = 1 from rfl]
                      rw [qg1, qg2, qg3, qg4, qg5, qg6] at HS3
                      have hg9 : g6.size ≤ 60 := by omega
                      have cg1 : (9223372036854775807 < 4 + v1.size) = False := eq_false (by omega)
                      have cga1 : (9223372036854775803 < v1.size) = False := eq_false (by omega)
                      have cgb1 : (9223372036854775803 ≤ v1.size) = False := eq_false (by omega)
                      have cgd1 : (9223372036854775804 ≤ v1.size) = False := eq_false (by omega)
                      have cg2 : (9223372036854775807 < g1.size + 1) = False := eq_false (by omega)
                      have cga2 : (9223372036854775806 < g1.size) = False := eq_false (by omega)
                      have cgb2 : (9223372036854775806 ≤ g1.size) = False := eq_false (by omega)
                      have cgd2 : (9223372036854775807 ≤ g1.size) = False := eq_false (by omega)
                      have cg3 : (9223372036854775807 < g2.size + v2.size) = False := eq_false (by omega)
                      have cg4 : (9223372036854775807 < g3.size + 1) = False := eq_false (by omega)
                      have cga4 : (9223372036854775806 < g3.size) = False := eq_false (by omega)
                      have cgb4 : (9223372036854775806 ≤ g3.size) = False := eq_false (by omega)
                      have cgd4 : (9223372036854775807 ≤ g3.size) = False := eq_false (by omega)
                      have cg5 : (9223372036854775807 < g4.size + rn.size) = False := eq_false (by omega)
                      have cg6 : (9223372036854775807 < g5.size + 1) = False := eq_false (by omega)
                      have cga6 : (9223372036854775806 < g5.size) = False := eq_false (by omega)
                      have cgb6 : (9223372036854775806 ≤ g5.size) = False := eq_false (by omega)
                      have cgd6 : (9223372036854775807 ≤ g5.size) = False := eq_false (by omega)
                      clear sg1 sg2 sg3 sg4 sg5 sg6
                      have CW3 := Lib.hid (show ∀ W, Below w5.heap.size w5 W → Calls Tryz.prog 30 #[.pointer (some ⟨w1.heap.size, 0, none⟩), .string g6] W fun e w' => e = .returned (.tuple #[.int .i64 g6.size, .nilIface]) ∧ Lib.IsBuilder 60 5 w1.heap.size w1.heap.size (Lib.strCells R ++ Lib.strCells g6) w' ∧ Below w1.heap.size W w' ∧ (w'.cell? ⟨wt.heap.size, 0, none⟩ = some (.int .i64 rl) ∧ w'.cell? ⟨wt.heap.size, 1, none⟩ = some (.int .i64 rh) ∧ w'.cell? ⟨wt.heap.size, 2, none⟩ = some (.string rn)) from fun W h => (writeString_any w1.heap.size w1.heap.size (Lib.strCells R) g6 W (isB_below (isB_below HBK.out HA3.out) h) (by rw [Lib.strCells_length]; omega) (KV.out W h).size).mono (by
                        rintro e w' ⟨h1, h2, h3, h4⟩
                        have h5 := h4 wt.heap.size 75 _ (by decide) (by decide) (HTR.out.below h)
                        exact ⟨h1, h2, h3, h5.cell rfl, h5.cell rfl, h5.cell rfl⟩))
                      have hw0 := Below.refl w5.heap.size w5
                      have hw1' := (Below.refl w5.heap.size w5).drew
                      go_region_held3 (fun W => W.cell? ⟨wt.heap.size, 0, none⟩ = some (.int .i64 rl) ∧ W.cell? ⟨wt.heap.size, 1, none⟩ = some (.int .i64 rh) ∧ W.cell? ⟨wt.heap.size, 2, none⟩ = some (.string rn))
                        (with_reducible first | assumption | exact KP3.out _ (by assumption) | exact KP3.out _ (Below.drew (by assumption)))
                        (first
                          | (go_at_call 35; (with_reducible refine (S1.out _ (by with_reducible first | assumption | exact Below.drew (by assumption))).mono ?_); rintro e W1 ⟨rfl, hb1⟩; have hA1 := KN.out _ _ (by with_reducible first | assumption | exact Below.drew (by assumption)) hb1; clear hb1)
                          | (go_at_call 35; (with_reducible refine (S2.out _ (by with_reducible first | assumption | exact Below.drew (by assumption))).mono ?_); rintro e W2 ⟨rfl, hb2⟩; have hA2 := KN.out _ _ (by with_reducible first | assumption | exact Below.drew (by assumption)) hb2; clear hb2)
                          | (go_at_call 30; (with_reducible refine (CW3.out _ (by with_reducible first | assumption | exact Below.drew (by assumption))).mono ?_); rintro e W4 ⟨rfl, hib4, hbl4, hc4⟩)
                          | fail)
                      all_goals
                        have HBN := Lib.hid ((KV.out _ (by first | exact hA2 | exact hA1)).trans hbl4)
                        rw [← cells_app, ← HS3.out, ← HRN.out] at hib4
                        have HIN := Lib.hid hib4
                        clear hib4 hbl4 hc4
                        go_wp2_with fail
                        go_roundw
                        case rel => first | exact ⟨q + 1, by omega, by first | rfl | go_num, HBN, HIN⟩ | ((repeat apply Exists.intro); refine ⟨⟨q + 1, by omega, by first | rfl | go_num, HBN, HIN⟩, ?_⟩; rfl)
                        case measure => simp [intOf]; omega
                    · have hqq : q = rngs.length := by omega
                      subst hqq
                      rw [List.take_length] at HBK
                      have HIN := Lib.hid (show Lib.IsBuilder 60 5 w1.heap.size w1.heap.size (Lib.strCells (parsA Y (pl.take (j + 1)))) wt by rw [HZN.out, HST.out]; exact HBK.out)
                      have HBN := HWT
                      clear HBK
                      go_wp2_with fail
                      go_roundw
                      case rel => first | exact ⟨j + 1, by omega, by first | rfl | go_num, HBN, HIN⟩ | ((repeat apply Exists.intro); refine ⟨⟨j + 1, by omega, by first | rfl | go_num, HBN, HIN⟩, ?_⟩; rfl)
                      case measure => simp [intOf]; omega
        · have hjj : j = pl.length := by omega
          subst hjj
          rw [List.take_length] at HBJ
          have HIN := Lib.hid (show Lib.IsBuilder 60 5 w1.heap.size w1.heap.size (Lib.strCells (libB (l.take (k + 1)))) wr by rw [HXN.out, HS.out]; exact HBJ.out)
          have HBN := HWS
          clear HBJ
          go_wp2_with fail
          go_roundw
          case rel => first | exact ⟨k + 1, by omega, by first | rfl | go_num, HBN, HIN⟩ | ((repeat apply Exists.intro); refine ⟨⟨k + 1, by omega, by first | rfl | go_num, HBN, HIN⟩, ?_⟩; rfl)
          case measure => simp [intOf]; omega
    · have hkk : k = l.length := by omega
      subst hkk
      rw [List.take_length] at HBI
      have hsz : (libB l).size ≤ 52700 * l.length := by have := HLE.out l.length (Nat.le_refl _); rwa [List.take_length] at this
      have CLN := Lib.hid (Tryz.Builder_Len w1.heap.size w1.heap.size _ wo HBI.out)
      rw [Lib.strCells_length] at CLN
      have CST := Lib.hid (Tryz.Builder_String_any w1.heap.size w1.heap.size (libB l).data.toList wo HBI.out hzr)
      have HBB := Lib.hid (KB.out _ HWR.out)
      clear HBI
      by_cases hlong : 200000 < (libB l).size
      · have HV := Lib.hid (HV1.out hlong)
        have hgt : decide ((200000 : Int) < ((libB l).size : Int)) = true := by simp; omega
        have hgt2 : ((200000 : Int) < ((libB l).size : Int)) := by omega
        clear hlong
        go_wp2_with fail
        refine CLN.out.mono ?_
        rintro e w' ⟨rfl, rfl⟩
        go_wp2_with fail
        exact bodyPost_ret (v := .tuple #[.string ⟨#[]⟩, .int .i64 2]) (by simp [results, Tryz.results11, go_sem]) rfl ⟨by rw [HV.out], HBB.out⟩
      · have HV := Lib.hid (HV2.out hlong)
        have hgt : decide ((200000 : Int) < ((libB l).size : Int)) = false := by simp; omega
        have hgt2 : ¬ ((200000 : Int) < ((libB l).size : Int)) := by omega
        clear hlong
        go_wp2_with fail
        refine CLN.out.mono ?_
        rintro e w' ⟨rfl, rfl⟩
        go_wp2_with fail
        refine CST.out.mono ?_
        rintro e w5 ⟨rfl, hb⟩
        have HBF := Lib.hid (KB.out _ (HWR.out.trans hb))
        clear hb CLN CST HBB
        go_wp2_with fail
        exact bodyPost_ret (v := .tuple #[.string ⟨(libB l).data.toList.toArray⟩, .int .i64 0]) (by simp [results, Tryz.results11, go_sem]) rfl ⟨by rw [HV.out], HBF.out⟩
end Go.Proofs.YtppbagllhmeenaaGreatDoor
