/- fixture.PatchText. (printed by wip/gen/gen_patch.py) -/
import Derived.Test.YtppbagllhmeenaaGreatDoorT64M22
import Derived.Deep.RegionHeld3

namespace Go.Proofs.YtppbagllhmeenaaGreatDoor
open Go.RowKit
set_option linter.unusedVariables false
set_option linter.unusedSimpArgs false
set_option maxRecDepth 100000 in
set_option maxHeartbeats 16000000 in
theorem patchText_any (x : Rig) (lv uv : Value) (w : World) (hT : TextW w) (h : RigAt w.heap.size w x lv uv) (hf : RigFit x) :
    Calls Tryz.prog 10 #[rigV lv uv] w fun e w' => e = .returned (.tuple #[.string (patchT x), .int .i64 (chkRig x)]) ∧ Below w.heap.size w w' := by
  have CC := Lib.hid (fun W (hb : Below w.heap.size w W) => ckRig_any x lv uv W ((h.below hb).more hb.size) hf)
  have HGU := Lib.hid (UntS.get h.units)
  have HUF := Lib.hid (show ∀ u ∈ x.units, I64 u.num ∧ I64 u.univ ∧ I64 u.addr from fun u hu => ⟨(hf.2 u hu).1, (hf.2 u hu).2.1, (hf.2 u hu).2.2.1⟩)
  have HNM := Lib.hid (fun (hE : chkRig x = 0) (u : Unt) (hu : u ∈ x.units) => unt_name hE hu)
  have HLE := Lib.hid (fun (hE : chkRig x = 0) => patchB_le hE hf.2)
  have H4 := Lib.hid (fun (hE : chkRig x = 0) => (chkRig_zero hE).2.1)
  have HTK := Lib.hid (patchB_take x.units)
  have HVB := Lib.hid (fun (h : ¬ chkRig x = 0) => patchT_bad h)
  have HVO := Lib.hid (fun (h : chkRig x = 0) => patchT_ok h)
  have HT := Lib.hid hT
  obtain ⟨lo, lcap, uo, ucap, rfl, rfl⟩ := rig_shape h
  have hcp := CellsS.len h.units
  unfold maxLen at hcp
  unfold rigV at *
  clear h hf hT
  generalize patchT x = RES at *
  have HB0 := Lib.hid (RBox.start w (.slice lo x.lib.length lcap) (.slice uo x.units.length ucap))
  have C1 := Lib.hid (CC.out _ HB0.out.bel)
  clear CC
  go_enter Tryz.func10, Tryz.ntmps10
  go_wp2_with fail
  refine C1.out.mono ?_
  rintro e w1 ⟨rfl, hb⟩
  have HB1 := Lib.hid (HB0.out.next hb)
  clear hb C1 HB0
  have p0 := HB1.out.par.cell (i := 0) rfl
  have p1 := HB1.out.par.cell (i := 1) rfl
  have hp0 := HB1.out.par.lt
  by_cases hE : chkRig x = 0
  rotate_left
  · have HV := Lib.hid (HVB.out hE)
    have HBB := Lib.hid HB1.out.bel
    generalize hEV : chkRig x = E at *
    go_wp2_with fail
    exact bodyPost_ret (v := .tuple #[.string ⟨#[]⟩, .int .i64 E]) (by simp [results, Tryz.results10, go_sem]) rfl ⟨by rw [hEV, HV.out], HBB.out⟩
  have HV := Lib.hid (HVO.out hE)
  have HNM := Lib.hid (HNM.out hE)
  have HLE := Lib.hid (HLE.out hE)
  have hun := H4.out hE
  have hEQ := Lib.hid hE
  rw [hE]
  clear HVO HVB H4 hE
  obtain ⟨lib, units⟩ := x
  simp only at *
  have ha := (Below.refl w1.heap.size w1).alloc (Nat.le_refl _) (.cells #[.pointer none, .slice none 0 0] 60)
  have HB2 := Lib.hid ha
  have HBI := Lib.hid (isB_new w1 w1.heap.size (Nat.le_refl _))
  have hw1 := HB1.out.size
  clear ha
  go_upto_region 5 with fail
  obtain ⟨w2, hw2⟩ : ∃ w2 : World, w2 = w1.alloc (.cells #[.pointer none, .slice none 0 0] 60) := ⟨_, rfl⟩
  rw [← hw2] at HB2 HBI ⊢
  clear hw2 p0 p1
  have p0 := (HB1.out.next HB2.out).par.cell (i := 0) rfl
  have p1 := (HB1.out.next HB2.out).par.cell (i := 1) rfl
  have hp2 := (HB1.out.next HB2.out).par.lt
  go_wp2_with fail
  go_loopw [16] (fun i wx => ∃ k : Nat, k ≤ units.length ∧ i = .int .i64 k ∧ Hid (Below w1.heap.size w1 wx) ∧ Hid (Lib.IsBuilder 60 5 w1.heap.size w1.heap.size (Lib.strCells (patchB (units.take k))) wx)) (fun i _ => units.length - (intOf i).toNat)
  case atStart => exact ⟨0, Nat.zero_le _, rfl, HB2, HBI⟩
  case round =>
    obtain ⟨k, hk, rfl, HWR, HBI⟩ := hrel
    have HBR := Lib.hid (HB1.out.next HWR.out)
    have hzr := HWR.out.size
    clear p0 p1 hp2
    by_cases hlt : k < units.length
    · skip
      obtain ⟨b, off, cap', hsl, hb, _, hc⟩ := HGU.out (by omega)
      injection hsl with hs1 hs2 hs3
      subst hs1 hs3
      obtain ⟨d0, d1, d2, d3⟩ := hc k hlt wr HBR.out.bel
      have hbr : b < wr.heap.size := by have := HBR.out.bel.size; omega
      obtain ⟨f1, f2, f3⟩ := HUF.out _ (List.getElem_mem hlt)
      have hnz := HNM.out _ (List.getElem_mem hlt)
      have HS := Lib.hid (HTK.out k hlt)
      have hle := HLE.out k hk
      have PC := Lib.hid (show lineB units[k] = (((((((itT units[k].num ++ (⟨#[32]⟩ : ByteArray)) ++ units[k].prof) ++ (⟨#[32]⟩ : ByteArray)) ++ itT units[k].univ) ++ (⟨#[47]⟩ : ByteArray)) ++ itT units[k].addr) ++ (⟨#[10]⟩ : ByteArray)) from rfl)
      rw [PC.out] at HS
      clear hc PC
      generalize hX1 : patchB (units.take (k + 1)) = X1 at *
      have HX1 := Lib.hid hX1
      clear hX1
      generalize patchB (units.take k) = X at *
      generalize hrk : units[k] = rk at *
      clear hrk
      obtain ⟨un, up, uu, ua⟩ := rk
      simp only at *
      have HTW := Lib.hid (HT.out.below (HBR.out.bel))
      have l1 := itT_le un f1.1 f1.2
      have l2 := itT_le uu f2.1 f2.2
      have l3 := itT_le ua f3.1 f3.2
      have hA := (Below.refl wr.heap.size wr).alloc (Nat.le_refl _) (.cells #[.int .i64 un, .string up, .int .i64 uu, .int .i64 ua] 51)
      have HTU := Lib.hid (TBox.new wr #[.int .i64 un, .string up, .int .i64 uu, .int .i64 ua] 51)
      have HA := Lib.hid hA
      clear hA
      go_upto_region 8 with fail
      obtain ⟨w3, hw3⟩ : ∃ w3 : World, w3 = wr.alloc (.cells #[.int .i64 un, .string up, .int .i64 uu, .int .i64 ua] 51) := ⟨_, rfl⟩
      rw [← hw3] at HTU HA ⊢
      clear hw3
      have KP := Lib.hid (show ∀ W, Below w3.heap.size w3 W → (W.cell? ⟨wr.heap.size, 0, none⟩ = some (.int .i64 un) ∧ W.cell? ⟨wr.heap.size, 1, none⟩ = some (.string up) ∧ W.cell? ⟨wr.heap.size, 2, none⟩ = some (.int .i64 uu) ∧ W.cell? ⟨wr.heap.size, 3, none⟩ = some (.int .i64 ua)) from fun W hW => ⟨(HTU.out.below hW).cell rfl, (HTU.out.below hW).cell rfl, (HTU.out.below hW).cell rfl, (HTU.out.below hW).cell rfl⟩)
      have KM := Lib.hid (show ∀ W W1, Below w3.heap.size w3 W → Below W.heap.size W W1 → Below w3.heap.size w3 W1 from fun W W1 h1 h2 => h1.trans (h2.mono h1.size))
      have C1 := Lib.hid (show ∀ W, Below w3.heap.size w3 W → Calls Tryz.prog 31 #[.int .i64 un] W fun e w' => e = .returned (.string (itT un)) ∧ Below W.heap.size W w' from fun W h => itoa_int un W f1.1 f1.2 ((HTW.out.below HA.out).below h))
      have C2 := Lib.hid (show ∀ W, Below w3.heap.size w3 W → Calls Tryz.prog 31 #[.int .i64 uu] W fun e w' => e = .returned (.string (itT uu)) ∧ Below W.heap.size W w' from fun W h => itoa_int uu W f2.1 f2.2 ((HTW.out.below HA.out).below h))
      have C3 := Lib.hid (show ∀ W, Below w3.heap.size w3 W → Calls Tryz.prog 31 #[.int .i64 ua] W fun e w' => e = .returned (.string (itT ua)) ∧ Below W.heap.size W w' from fun W h => itoa_int ua W f3.1 f3.2 ((HTW.out.below HA.out).below h))
      generalize itT un = y1 at *
      generalize itT uu = y2 at *
      generalize itT ua = y3 at *
      have hk4 : k < 400 := by omega
      obtain ⟨z1, q1⟩ : ∃ z, y1 ++ (⟨#[32]⟩ : ByteArray) = z := ⟨_, rfl⟩
      have s1 : z1.size = y1.size + 1 := by rw [← q1, ByteArray.size_append]; rfl
      obtain ⟨z2, q2⟩ : ∃ z, z1 ++ up = z := ⟨_, rfl⟩
      have s2 : z2.size = z1.size + up.size := by rw [← q2, ByteArray.size_append]
      obtain ⟨z3, q3⟩ : ∃ z, z2 ++ (⟨#[32]⟩ : ByteArray) = z := ⟨_, rfl⟩
      have s3 : z3.size = z2.size + 1 := by rw [← q3, ByteArray.size_append]; rfl
      obtain ⟨z4, q4⟩ : ∃ z, z3 ++ y2 = z := ⟨_, rfl⟩
      have s4 : z4.size = z3.size + y2.size := by rw [← q4, ByteArray.size_append]
      obtain ⟨z5, q5⟩ : ∃ z, z4 ++ (⟨#[47]⟩ : ByteArray) = z := ⟨_, rfl⟩
      have s5 : z5.size = z4.size + 1 := by rw [← q5, ByteArray.size_append]; rfl
      obtain ⟨z6, q6⟩ : ∃ z, z5 ++ y3 = z := ⟨_, rfl⟩
      have s6 : z6.size = z5.size + y3.size := by rw [← q6, ByteArray.size_append]
      obtain ⟨z7, q7⟩ : ∃ z, z6 ++ (⟨#[10]⟩ : ByteArray) = z := ⟨_, rfl⟩
      have s7 : z7.size = z6.size + 1 := by rw [← q7, ByteArray.size_append]; rfl
      have c1 : (9223372036854775807 < y1.size + 1) = False := eq_false (by omega)
      have d1 : (9223372036854775807 ≤ y1.size) = False := eq_false (by omega)
      have c2 : (9223372036854775807 < z1.size + up.size) = False := eq_false (by omega)
      have c3 : (9223372036854775807 < z2.size + 1) = False := eq_false (by omega)
      have d3 : (9223372036854775807 ≤ z2.size) = False := eq_false (by omega)
      have c4 : (9223372036854775807 < z3.size + y2.size) = False := eq_false (by omega)
      have c5 : (9223372036854775807 < z4.size + 1) = False := eq_false (by omega)
      have d5 : (9223372036854775807 ≤ z4.size) = False := eq_false (by omega)
      have c6 : (9223372036854775807 < z5.size + y3.size) = False := eq_false (by omega)
      have c7 : (9223372036854775807 < z6.size + 1) = False := eq_false (by omega)
      have d7 : (9223372036854775807 ≤ z6.size) = False := eq_false (by omega)
      rw [q1, q2, q3, q4, q5, q6, q7] at HS
      have hz7 : z7.size ≤ 90 := by omega

      have CW := Lib.hid (show ∀ W, Below w3.heap.size w3 W → Calls Tryz.prog 30 #[.pointer (some ⟨w1.heap.size, 0, none⟩), .string z7] W fun e w' => e = .returned (.tuple #[.int .i64 z7.size, .nilIface]) ∧ Lib.IsBuilder 60 5 w1.heap.size w1.heap.size (Lib.strCells X ++ Lib.strCells z7) w' ∧ Below w1.heap.size W w' ∧ (w'.cell? ⟨wr.heap.size, 0, none⟩ = some (.int .i64 un) ∧ w'.cell? ⟨wr.heap.size, 1, none⟩ = some (.string up) ∧ w'.cell? ⟨wr.heap.size, 2, none⟩ = some (.int .i64 uu) ∧ w'.cell? ⟨wr.heap.size, 3, none⟩ = some (.int .i64 ua)) from fun W h => (writeString_any w1.heap.size w1.heap.size (Lib.strCells X) z7 W (isB_below (isB_below HBI.out HA.out) h) (by rw [Lib.strCells_length]; omega) (by have := h.size; have := HA.out.size; omega)).mono (by
        rintro e w' ⟨h1, h2, h3, h4⟩
        have h5 := h4 wr.heap.size 51 _ (by decide) (by decide) (HTU.out.below h)
        exact ⟨h1, h2, h3, h5.cell rfl, h5.cell rfl, h5.cell rfl, h5.cell rfl⟩))
      clear s1 s2 s3 s4 s5 s6 s7 l1 l2 l3 hnz
      have hw0 := Below.refl w3.heap.size w3
      have hw1' := (Below.refl w3.heap.size w3).drew
      go_region_held3 (fun W => W.cell? ⟨wr.heap.size, 0, none⟩ = some (.int .i64 un) ∧ W.cell? ⟨wr.heap.size, 1, none⟩ = some (.string up) ∧ W.cell? ⟨wr.heap.size, 2, none⟩ = some (.int .i64 uu) ∧ W.cell? ⟨wr.heap.size, 3, none⟩ = some (.int .i64 ua))
        (with_reducible first | assumption | exact KP.out _ (by assumption) | exact KP.out _ (Below.drew (by assumption)))
        (first
          | (go_at_call 31; (with_reducible refine (C1.out _ (by with_reducible first | assumption | exact Below.drew (by assumption))).mono ?_); rintro e W1 ⟨rfl, hb1⟩; have hA1 := KM.out _ _ (by with_reducible first | assumption | exact Below.drew (by assumption)) hb1; clear hb1)
          | (go_at_call 31; (with_reducible refine (C2.out _ (by with_reducible first | assumption | exact Below.drew (by assumption))).mono ?_); rintro e W2 ⟨rfl, hb2⟩; have hA2 := KM.out _ _ (by with_reducible first | assumption | exact Below.drew (by assumption)) hb2; clear hb2)
          | (go_at_call 31; (with_reducible refine (C3.out _ (by with_reducible first | assumption | exact Below.drew (by assumption))).mono ?_); rintro e W3 ⟨rfl, hb3⟩; have hA3 := KM.out _ _ (by with_reducible first | assumption | exact Below.drew (by assumption)) hb3; clear hb3)
          | (go_at_call 30; (with_reducible refine (CW.out _ (by with_reducible first | assumption | exact Below.drew (by assumption))).mono ?_); rintro e W4 ⟨rfl, hib4, hbl4, hc4⟩)
          | fail)
      all_goals
        have HIB := Lib.hid (show Lib.IsBuilder 60 5 w1.heap.size w1.heap.size (Lib.strCells (patchB (units.take (k + 1)))) _ by rw [HX1.out, HS.out, cells_app]; exact hib4)
        have HBW := Lib.hid (show Below w1.heap.size w1 _ from (HWR.out.trans (HA.out.mono hzr)).trans ((Below.mono (by first | exact hA3 | exact hA2 | exact hA1) (by have := HA.out.size; omega)).trans hbl4))
        clear hib4 hbl4 hc4
        go_wp2_with fail
        go_roundw
        case rel => first | exact ⟨k + 1, by omega, by first | rfl | go_num, HBW, HIB⟩ | ((repeat apply Exists.intro); refine ⟨⟨k + 1, by omega, by first | rfl | go_num, HBW, HIB⟩, ?_⟩; rfl)
        case measure => simp [intOf]; omega
    · have hkk : k = units.length := by omega
      subst hkk
      rw [List.take_length] at HBI
      have hsz : (patchB units).size ≤ 60000 := by have := HLE.out units.length (Nat.le_refl _); rw [List.take_length] at this; omega
      have CLN := Lib.hid (Tryz.Builder_Len w1.heap.size w1.heap.size _ wr HBI.out)
      rw [Lib.strCells_length] at CLN
      have CST := Lib.hid (Tryz.Builder_String_any w1.heap.size w1.heap.size (patchB units).data.toList wr HBI.out hzr)
      have hgt : decide ((60000 : Int) < ((patchB units).size : Int)) = false := by simp; omega
      have hgt2 : ¬ ((60000 : Int) < ((patchB units).size : Int)) := by omega
      clear HBI
      go_wp2_with fail
      refine CLN.out.mono ?_
      rintro e w' ⟨rfl, rfl⟩
      go_wp2_with fail
      refine CST.out.mono ?_
      rintro e w5 ⟨rfl, hb⟩
      have HBB := Lib.hid ((HWR.out.trans hb).mono (show w.heap.size ≤ w1.heap.size by omega))
      have HBF := Lib.hid (HB1.out.bel.trans HBB.out)
      clear hb CLN CST HBB
      go_wp2_with fail
      exact bodyPost_ret (v := .tuple #[.string ⟨(patchB units).data.toList.toArray⟩, .int .i64 0]) (by simp [results, Tryz.results10, go_sem]) rfl ⟨by rw [hEQ.out, HV.out], HBF.out⟩
end Go.Proofs.YtppbagllhmeenaaGreatDoor
