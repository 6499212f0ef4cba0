/- The reference's Text. (printed by wip/gen/gen_rlibtext.py) -/
import Derived.Test.YtabalicembhjmaaDoorT37M38
import Derived.Test.YtabalicembhjmaaDoorT37M31
import Derived.Test.YtabalicembhjmaaDoorT37M27
import Derived.Deep.RegionHeld3

namespace Go.Proofs.YtabalicembhjmaaDoor
open Go.RowKit
set_option linter.unusedVariables false
set_option linter.unusedSimpArgs false

set_option maxRecDepth 100000 in
set_option maxHeartbeats 32000000 in
theorem rlibText_any (v : Value) (l : List Prf) (w : World) (hT : TextW w) (h : PrfS w.heap.size w v l) (hf : ∀ p ∈ l, PrfFit p) :
    Calls Tryd.prog 6 #[v] w fun e w' => e = .returned (.tuple #[.string (libT l).1, .int .i64 (libT l).2]) ∧ Below w.heap.size w w' := by
  have CC := Lib.hid (rckLibrary_any v l w h hf)
  have HG := Lib.hid (PrfS.get h)
  have HVB := Lib.hid (fun (h : ¬ chkLib l = 0) => libT_bad h)
  have HVL := Lib.hid (fun (h : chkLib l = 0) => libT_long h)
  have HVO := Lib.hid (fun (h : chkLib l = 0) => libT_ok h)
  have HOK := Lib.hid (fun (h : chkLib l = 0) => libOk_of h)
  have HTK := Lib.hid (libB_take l)
  have HT := Lib.hid hT
  obtain ⟨lo, lcap, rfl⟩ := prfS_shape h
  have hcp := prfS_cap h
  clear h hf hT
  generalize libT l = RES at *
  generalize chkLib l = E at *
  go_enter Tryd.func6, Tryd.ntmps6
  go_wp2_with fail
  refine CC.out.mono ?_
  rintro e w1 ⟨rfl, hb⟩
  have HB1 := Lib.hid hb
  clear hb CC
  by_cases hE : E = 0
  rotate_left
  · have HV := Lib.hid (HVB.out hE)
    go_wp2_with fail
    exact bodyPost_ret (v := .tuple #[.string ⟨#[]⟩, .int .i64 E]) (by simp [results, Tryd.results6, go_sem]) rfl ⟨by rw [HV.out], HB1.out⟩
  subst hE
  have HV1 := Lib.hid (HVL.out rfl)
  have HV2 := Lib.hid (HVO.out rfl)
  have HLO := Lib.hid (HOK.out rfl)
  have hl60 := HLO.out.len
  have HLE := Lib.hid (libB_le HLO.out)
  clear HVB HVL HVO HOK
  have ha := (Below.refl w1.heap.size w1).alloc (Nat.le_refl _) (.cells #[.pointer none, .slice none 0 0] 55)
  have HB2 := Lib.hid ha
  have HBI := Lib.hid (isB_new w1 w1.heap.size (Nat.le_refl _))
  have hw1 := HB1.out.size
  clear ha
  go_upto_region 5 with fail
  obtain ⟨w2, hw2⟩ : ∃ w2 : World, w2 = w1.alloc (.cells #[.pointer none, .slice none 0 0] 55) := ⟨_, rfl⟩
  rw [← hw2] at HB2 HBI ⊢
  clear hw2
  have KB := Lib.hid (show ∀ W, Below w1.heap.size w1 W → Below w.heap.size w W from fun W hW => HB1.out.trans (hW.mono hw1))
  go_wp2_with fail
  go_loopw [17] (fun i wx => ∃ k : Nat, k ≤ l.length ∧ i = .int .i64 k ∧ Hid (Below w1.heap.size w1 wx) ∧ Hid (Lib.IsBuilder 55 5 w1.heap.size w1.heap.size (Lib.strCells (libB (l.take k))) wx)) (fun i _ => l.length - (intOf i).toNat)
  case atStart => exact ⟨0, Nat.zero_le _, rfl, HB2, HBI⟩
  case round =>
    obtain ⟨k, hk, rfl, HWR, HBI⟩ := hrel
    obtain ⟨wo, rfl⟩ : ∃ x, x = wr := ⟨wr, rfl⟩
    have hzr := HWR.out.size
    by_cases hlt : k < l.length
    · skip
      have hle := HLE.out k hk
      obtain ⟨b, off, cap', hsl, hb, _, hc⟩ := HG.out (by omega)
      injection hsl with hs1 hs2 hs3
      subst hs1
      subst hs3
      obtain ⟨pv, hpv, hcc⟩ := hc k hlt
      have hbw := KB.out _ HWR.out
      obtain ⟨d0, d1, d2⟩ := hcc wo hbw
      have hbr : b < wo.heap.size := by have := hbw.size; omega
      have HPO := Lib.hid (HLO.out.prfs _ (List.getElem_mem hlt))
      have HS := Lib.hid (HTK.out k hlt)
      have HPG := Lib.hid (ParS.get hpv)
      obtain ⟨po, pcap, rfl⟩ := parS_shape hpv
      have hpc := parS_cap hpv
      have PC := Lib.hid (show prfHd l[k] = (((((⟨#[112, 114, 111, 102, 105, 108, 101, 32]⟩ : ByteArray) ++ l[k].name) ++ (⟨#[32]⟩ : ByteArray)) ++ itT l[k].size) ++ (⟨#[10]⟩ : ByteArray)) from rfl)
      have PE := Lib.hid (show prfA (libB (l.take k)) l[k] = parsA (libB (l.take k) ++ prfHd l[k]) l[k].pars from rfl)
      rw [PE.out, PC.out] at HS
      clear hc hcc hpv PC PE
      generalize hX1 : libB (l.take (k + 1)) = XN at *
      have HXN := Lib.hid hX1
      clear hX1
      generalize libB (l.take k) = X at *
      generalize hrk : l[k] = rk at *
      clear hrk
      obtain ⟨p1, p2, p3, p4⟩ := HPO.out
      obtain ⟨pn, pz, pl⟩ := rk
      simp only at *
      have HP4 := Lib.hid p4
      clear p4
      have HTW := Lib.hid (HT.out.below hbw)
      have l1 := itT_le pz (by omega) (by omega)
      have hA := (Below.refl wo.heap.size wo).alloc (Nat.le_refl _) (.cells #[.string pn, .int .i64 pz, .slice po pl.length pcap] 29)
      have HTU := Lib.hid (TBox.new wo #[.string pn, .int .i64 pz, .slice po pl.length pcap] 29)
      have HA := Lib.hid hA
      clear hA hbw
      go_upto_region 8 with fail
      obtain ⟨w3, hw3⟩ : ∃ w3 : World, w3 = wo.alloc (.cells #[.string pn, .int .i64 pz, .slice po pl.length pcap] 29) := ⟨_, rfl⟩
      rw [← hw3] at HTU HA ⊢
      clear hw3
      have KM := Lib.hid (show ∀ W W1, Below w3.heap.size w3 W → Below W.heap.size W W1 → Below w3.heap.size w3 W1 from fun W W1 h1 h2 => h1.trans (h2.mono h1.size))
      have KP := Lib.hid (show ∀ W, Below w3.heap.size w3 W → (W.cell? ⟨wo.heap.size, 0, none⟩ = some (.string pn) ∧ W.cell? ⟨wo.heap.size, 1, none⟩ = some (.int .i64 pz)) from fun W hW => ⟨(HTU.out.below hW).cell rfl, (HTU.out.below hW).cell rfl⟩)
      have C1 := Lib.hid (show ∀ W, Below w3.heap.size w3 W → Calls Tryd.prog 24 #[.int .i64 pz] W fun e w' => e = .returned (.string (itT pz)) ∧ Below W.heap.size W w' from fun W h => itoa_int pz W (by omega) (by omega) ((HTW.out.below HA.out).below h))
      generalize itT pz = ty at *
      obtain ⟨z1, q1⟩ : ∃ z, (⟨#[112, 114, 111, 102, 105, 108, 101, 32]⟩ : ByteArray) ++ pn = z := ⟨_, rfl⟩
      have s1 : z1.size = 8 + pn.size := by rw [← q1, ByteArray.size_append, show (⟨#[112, 114, 111, 102, 105, 108, 101, 32]⟩ : ByteArray).size = 8 from rfl]
      obtain ⟨z2, q2⟩ : ∃ z, z1 ++ (⟨#[32]⟩ : ByteArray) = z := ⟨_, rfl⟩
      have s2 : z2.size = z1.size + 1 := by rw [← q2, ByteArray.size_append, show (⟨#[32]⟩ : ByteArray).size = 1 from rfl]
      obtain ⟨z3, q3⟩ : ∃ z, z2 ++ ty = z := ⟨_, rfl⟩
      have s3 : z3.size = z2.size + ty.size := by rw [← q3, ByteArray.size_append]
      obtain ⟨z4, q4⟩ : ∃ z, z3 ++ (⟨#[10]⟩ : ByteArray) = z := ⟨_, rfl⟩
      have s4 : z4.size = z3.size + 1 := by rw [← q4, ByteArray.size_append, show (⟨#[10]⟩ : ByteArray).size = 1 from rfl]
      rw [q1, q2, q3, q4] at HS
      have hz9 : z4.size ≤ 60 := by omega
      have c1 : (9223372036854775807 < 8 + pn.size) = False := eq_false (by omega)
      have ca1 : (9223372036854775799 < pn.size) = False := eq_false (by omega)
      have cb1 : (9223372036854775799 ≤ pn.size) = False := eq_false (by omega)
      have cd1 : (9223372036854775800 ≤ pn.size) = False := eq_false (by omega)
      have c2 : (9223372036854775807 < z1.size + 1) = False := eq_false (by omega)
      have ca2 : (9223372036854775806 < z1.size) = False := eq_false (by omega)
      have cb2 : (9223372036854775806 ≤ z1.size) = False := eq_false (by omega)
      have cd2 : (9223372036854775807 ≤ z1.size) = False := eq_false (by omega)
      have c3 : (9223372036854775807 < z2.size + ty.size) = False := eq_false (by omega)
      have c4 : (9223372036854775807 < z3.size + 1) = False := eq_false (by omega)
      have ca4 : (9223372036854775806 < z3.size) = False := eq_false (by omega)
      have cb4 : (9223372036854775806 ≤ z3.size) = False := eq_false (by omega)
      have cd4 : (9223372036854775807 ≤ z3.size) = False := eq_false (by omega)
      have CW := Lib.hid (show ∀ W, Below w3.heap.size w3 W → Calls Tryd.prog 23 #[.pointer (some ⟨w1.heap.size, 0, none⟩), .string z4] W fun e w' => e = .returned (.tuple #[.int .i64 z4.size, .nilIface]) ∧ Lib.IsBuilder 55 5 w1.heap.size w1.heap.size (Lib.strCells X ++ Lib.strCells z4) w' ∧ Below w1.heap.size W w' ∧ TBox w' wo.heap.size 29 #[.string pn, .int .i64 pz, .slice po pl.length pcap] from fun W h => (writeString_any w1.heap.size w1.heap.size (Lib.strCells X) z4 W (isB_below (isB_below HBI.out HA.out) h) (by rw [Lib.strCells_length]; omega) (by have := h.size; have := HA.out.size; omega)).mono (by
        rintro e w' ⟨h1, h2, h3, h4⟩
        exact ⟨h1, h2, h3, h4 wo.heap.size 29 _ (by decide) (by decide) (HTU.out.below h)⟩))
      have CW := Lib.hid (show ∀ W, Below w3.heap.size w3 W → Calls Tryd.prog 23 #[.pointer (some ⟨w1.heap.size, 0, none⟩), .string z4] W fun e w' => e = .returned (.tuple #[.int .i64 z4.size, .nilIface]) ∧ Lib.IsBuilder 55 5 w1.heap.size w1.heap.size (Lib.strCells X ++ Lib.strCells z4) w' ∧ Below w1.heap.size W w' ∧ (w'.cell? ⟨wo.heap.size, 0, none⟩ = some (.string pn) ∧ w'.cell? ⟨wo.heap.size, 1, none⟩ = some (.int .i64 pz)) ∧ Hid (TBox w' wo.heap.size 29 #[.string pn, .int .i64 pz, .slice po pl.length pcap]) from fun W h => (CW.out W h).mono fun e w' h => ⟨h.1, h.2.1, h.2.2.1, ⟨h.2.2.2.cell rfl, h.2.2.2.cell rfl⟩, Lib.hid h.2.2.2⟩)
      clear s1 s2 s3 s4 l1
      have hw0 := Below.refl w3.heap.size w3
      have hw1' := (Below.refl w3.heap.size w3).drew
      go_region_held3 (fun W => W.cell? ⟨wo.heap.size, 0, none⟩ = some (.string pn) ∧ W.cell? ⟨wo.heap.size, 1, none⟩ = some (.int .i64 pz))
        (with_reducible first | assumption | exact KP.out _ (by assumption) | exact KP.out _ (Below.drew (by assumption)))
        (first
          | (go_at_call 24; (with_reducible refine (C1.out _ (by with_reducible first | assumption | exact Below.drew (by assumption))).mono ?_); rintro e W1 ⟨rfl, hb1⟩; have hA1 := KM.out _ _ (by with_reducible first | assumption | exact Below.drew (by assumption)) hb1; clear hb1)
          | (go_at_call 23; (with_reducible refine (CW.out _ (by with_reducible first | assumption | exact Below.drew (by assumption))).mono ?_); rintro e W4 ⟨rfl, hib4, hbl4, hc4, HTB⟩)
          | fail)
      have HIB := Lib.hid (show Lib.IsBuilder 55 5 w1.heap.size w1.heap.size (Lib.strCells (X ++ z4)) W4 by rw [cells_app]; exact hib4)
      have HBW := Lib.hid (show Below w1.heap.size w1 W4 from (HWR.out.trans (HA.out.mono hzr)).trans ((Below.mono hA1 (by have := HA.out.size; omega)).trans hbl4))
      have c2 := HTB.out.cell (i := 2) rfl
      have hlt4 := HTB.out.lt
      have HXY := Lib.hid (show (X ++ z4).size ≤ 3300000 by rw [ByteArray.size_append]; omega)
      clear hib4 hbl4 hc4 hA1 CW C1 KP KM HA HTU hw0 hw1'
      generalize X ++ z4 = Y at *
      have HPL := Lib.hid (parsA_le Y pl HP4.out)
      have HPT := Lib.hid (parsA_take Y pl)
      go_wp2_with fail
      go_loopw [34] (fun i wx => ∃ j : Nat, j ≤ pl.length ∧ i = .int .i64 j ∧ Hid (Below w1.heap.size w1 wx) ∧ Hid (Lib.IsBuilder 55 5 w1.heap.size w1.heap.size (Lib.strCells (parsA Y (pl.take j))) wx)) (fun i _ => pl.length - (intOf i).toNat)
      case atStart => exact ⟨0, Nat.zero_le _, rfl, HBW, HIB⟩
      case round =>
        obtain ⟨j, hj, rfl, HWS, HBJ⟩ := hrel
        have hzs := HWS.out.size
        clear c2 hlt4
        have hlj := HPL.out j hj
        have hY := HXY.out
        by_cases hlu : j < pl.length
        · skip
          obtain ⟨b2, off2, cap2, hsl, hb2, _, hc⟩ := HPG.out (by omega)
          injection hsl with hs1 hs2 hs3
          subst hs1
          subst hs3
          obtain ⟨rv, hrv, hcc⟩ := hc j hlu
          have hbw := KB.out _ HWS.out
          obtain ⟨f0, f1, f2, f3, f4, f5, f6⟩ := hcc wr hbw
          have hbr2 : b2 < wr.heap.size := by have := hbw.size; omega
          have HXO := Lib.hid (HP4.out _ (List.getElem_mem hlu))
          have HST := Lib.hid (HPT.out j hlu)
          rw [parA_eq] at HST
          have HCT := Lib.hid (fun W (hW : Below wr.heap.size wr W) => rparText_any pl[j] rv W (HT.out.below (hbw.trans (hW.mono hbw.size))) ((hrv.below (hbw.trans (hW.mono hbw.size))).more (Nat.le_trans hbw.size hW.size)) HXO.out)
          have hpt := parT_le HXO.out
          obtain ⟨ro, rcap, rfl⟩ := rngS_shape hrv
          clear hc hcc hrv hbw
          generalize hX1 : parsA Y (pl.take (j + 1)) = ZN at *
          have HZN := Lib.hid hX1
          clear hX1
          generalize parsA Y (pl.take j) = Z at *
          generalize parT pl[j] = pt at *
          generalize hrk : pl[j] = rk at *
          clear hrk
          obtain ⟨xn, xg, xs, xf, xd, xb, rngs⟩ := rk
          simp only at *
          have hA := (Below.refl wr.heap.size wr).alloc (Nat.le_refl _) (.cells #[.string xn, .int .i64 xg, .int .i64 xs, .int .i64 xf, .int .i64 xd, .bool xb, .slice ro rngs.length rcap] 46)
          have CP := Lib.hid (HCT.out _ hA)
          have HAA := Lib.hid hA
          clear hA HCT
          go_wp2_with fail
          refine CP.out.mono ?_
          rintro e w6 ⟨rfl, hb⟩
          have HB6 := Lib.hid (HAA.out.trans (hb.mono (by simp)))
          have hz6 := HB6.out.size
          have CW := Lib.hid (writeString_any w1.heap.size w1.heap.size (Lib.strCells Z) pt w6 (isB_below HBJ.out HB6.out) (by rw [Lib.strCells_length]; omega) (by omega))
          clear hb CP HAA
          go_wp2_with fail
          refine CW.out.mono ?_
          rintro e w7 ⟨rfl, hib, hbl, _⟩
          have HBN := Lib.hid (HWS.out.trans ((HB6.out.mono hzs).trans hbl))
          have HIN := Lib.hid (show Lib.IsBuilder 55 5 w1.heap.size w1.heap.size (Lib.strCells (parsA Y (pl.take (j + 1)))) w7 by rw [HZN.out, HST.out, cells_app]; exact hib)
          clear hib hbl CW
          go_wp2_with fail
          go_roundw
          case rel => first | exact ⟨j + 1, by omega, by first | rfl | go_num, HBN, HIN⟩ | ((repeat apply Exists.intro); refine ⟨⟨j + 1, by omega, by first | rfl | go_num, HBN, HIN⟩, ?_⟩; rfl)
          case measure => simp [intOf]; omega
        · have hjj : j = pl.length := by omega
          subst hjj
          rw [List.take_length] at HBJ
          have HIN := Lib.hid (show Lib.IsBuilder 55 5 w1.heap.size w1.heap.size (Lib.strCells (libB (l.take (k + 1)))) wr by rw [HXN.out, HS.out]; exact HBJ.out)
          have HBN := HWS
          clear HBJ
          go_wp2_with fail
          go_roundw
          case rel => first | exact ⟨k + 1, by omega, by first | rfl | go_num, HBN, HIN⟩ | ((repeat apply Exists.intro); refine ⟨⟨k + 1, by omega, by first | rfl | go_num, HBN, HIN⟩, ?_⟩; rfl)
          case measure => simp [intOf]; omega
    · have hkk : k = l.length := by omega
      subst hkk
      rw [List.take_length] at HBI
      have hsz : (libB l).size ≤ 52700 * l.length := by have := HLE.out l.length (Nat.le_refl _); rwa [List.take_length] at this
      have CLN := Lib.hid (Tryd.Builder_Len w1.heap.size w1.heap.size _ wo HBI.out)
      rw [Lib.strCells_length] at CLN
      have CST := Lib.hid (Tryd.Builder_String_any w1.heap.size w1.heap.size (libB l).data.toList wo HBI.out hzr)
      have HBB := Lib.hid (KB.out _ HWR.out)
      clear HBI
      by_cases hlong : 200000 < (libB l).size
      · have HV := Lib.hid (HV1.out hlong)
        have hgt : decide ((200000 : Int) < ((libB l).size : Int)) = true := by simp; omega
        have hgt2 : ((200000 : Int) < ((libB l).size : Int)) := by omega
        clear hlong
        go_wp2_with fail
        refine CLN.out.mono ?_
        rintro e w' ⟨rfl, rfl⟩
        go_wp2_with fail
        exact bodyPost_ret (v := .tuple #[.string ⟨#[]⟩, .int .i64 2]) (by simp [results, Tryd.results6, go_sem]) rfl ⟨by rw [HV.out], HBB.out⟩
      · have HV := Lib.hid (HV2.out hlong)
        have hgt : decide ((200000 : Int) < ((libB l).size : Int)) = false := by simp; omega
        have hgt2 : ¬ ((200000 : Int) < ((libB l).size : Int)) := by omega
        clear hlong
        go_wp2_with fail
        refine CLN.out.mono ?_
        rintro e w' ⟨rfl, rfl⟩
        go_wp2_with fail
        refine CST.out.mono ?_
        rintro e w5 ⟨rfl, hb⟩
        have HBF := Lib.hid (KB.out _ (HWR.out.trans hb))
        clear hb CLN CST HBB
        go_wp2_with fail
        exact bodyPost_ret (v := .tuple #[.string ⟨(libB l).data.toList.toArray⟩, .int .i64 0]) (by simp [results, Tryd.results6, go_sem]) rfl ⟨by rw [HV.out], HBF.out⟩
end Go.Proofs.YtabalicembhjmaaDoor
