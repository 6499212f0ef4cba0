/- The reference's PatchText. (printed by wip/gen/gen_patch.py) -/
import Derived.Test.YtabalicembhjmaaDoorT39M40
import Derived.Test.YtabalicembhjmaaDoorT39M26
import Derived.Deep.RegionHeld3

namespace Go.Proofs.YtabalicembhjmaaDoor
open Go.RowKit
set_option linter.unusedVariables false
set_option linter.unusedSimpArgs false
set_option maxRecDepth 100000 in
set_option maxHeartbeats 16000000 in
theorem rpatchText_any (x : Rig) (lv uv : Value) (w : World) (hT : TextW w) (h : RigAt w.heap.size w x lv uv) (hf : RigFit x) :
    Calls Tryd.prog 22 #[rigV lv uv] w fun e w' => e = .returned (.tuple #[.string (patchT x), .int .i64 (chkRig x)]) ∧ Below w.heap.size w w' := by
  have CC := Lib.hid (fun W (hb : Below w.heap.size w W) => rckRig_any x lv uv W ((h.below hb).more hb.size) hf)
  have HGU := Lib.hid (UntS.get h.units)
  have HUF := Lib.hid (show ∀ u ∈ x.units, I64 u.num ∧ I64 u.univ ∧ I64 u.addr from fun u hu => ⟨(hf.2 u hu).1, (hf.2 u hu).2.1, (hf.2 u hu).2.2.1⟩)
  have HNM := Lib.hid (fun (hE : chkRig x = 0) (u : Unt) (hu : u ∈ x.units) => unt_name hE hu)
  have HLE := Lib.hid (fun (hE : chkRig x = 0) => patchB_le hE hf.2)
  have H4 := Lib.hid (fun (hE : chkRig x = 0) => (chkRig_zero hE).2.1)
  have HTK := Lib.hid (patchB_take x.units)
  have HVB := Lib.hid (fun (h : ¬ chkRig x = 0) => patchT_bad h)
  have HVO := Lib.hid (fun (h : chkRig x = 0) => patchT_ok h)
  have HT := Lib.hid hT
  obtain ⟨lo, lcap, uo, ucap, rfl, rfl⟩ := rig_shape h
  have hcp := CellsS.len h.units
  unfold maxLen at hcp
  unfold rigV at *
  clear h hf hT
  generalize patchT x = RES at *
  have HB0 := Lib.hid (RBox.start w (.slice lo x.lib.length lcap) (.slice uo x.units.length ucap))
  have C1 := Lib.hid (CC.out _ HB0.out.bel)
  clear CC
  go_enter Tryd.func22, Tryd.ntmps22
  go_wp2_with fail
  refine C1.out.mono ?_
  rintro e w1 ⟨rfl, hb⟩
  have HB1 := Lib.hid (HB0.out.next hb)
  clear hb C1 HB0
  have p0 := HB1.out.par.cell (i := 0) rfl
  have p1 := HB1.out.par.cell (i := 1) rfl
  have hp0 := HB1.out.par.lt
  by_cases hE : chkRig x = 0
  rotate_left
  · have HV := Lib.hid (HVB.out hE)
    have HBB := Lib.hid HB1.out.bel
    generalize hEV : chkRig x = E at *
    go_wp2_with fail
    exact bodyPost_ret (v := .tuple #[.string ⟨#[]⟩, .int .i64 E]) (by simp [results, Tryd.results22, go_sem]) rfl ⟨by rw [hEV, HV.out], HBB.out⟩
  have HV := Lib.hid (HVO.out hE)
  have HNM := Lib.hid (HNM.out hE)
  have HLE := Lib.hid (HLE.out hE)
  have hun := H4.out hE
  have hEQ := Lib.hid hE
  rw [hE]
  clear HVO HVB H4 hE
  obtain ⟨lib, units⟩ := x
  simp only at *
  have HST := Lib.hid (show patchB (units.take 0) = ⟨#[]⟩ from rfl)
  go_wp2_with fail
  go_loopw [5, 16] (fun s i wx => ∃ k : Nat, k ≤ units.length ∧ i = .int .i64 k ∧ s = .string (patchB (units.take k)) ∧ Hid (Below w1.heap.size w1 wx)) (fun _ i _ => units.length - (intOf i).toNat)
  case atStart => exact ⟨0, Nat.zero_le _, rfl, by rw [HST.out], Lib.hid (Below.refl _ _)⟩
  case round =>
    obtain ⟨k, hk, rfl, rfl, HWR⟩ := hrel
    have HBR := Lib.hid (HB1.out.next HWR.out)
    have hzr := HWR.out.size
    clear p0 p1
    by_cases hlt : k < units.length
    · skip
      obtain ⟨b, off, cap', hsl, hb, _, hc⟩ := HGU.out (by omega)
      injection hsl with hs1 hs2 hs3
      subst hs1 hs3
      obtain ⟨d0, d1, d2, d3⟩ := hc k hlt wr HBR.out.bel
      have hbr : b < wr.heap.size := by have := HBR.out.bel.size; omega
      obtain ⟨f1, f2, f3⟩ := HUF.out _ (List.getElem_mem hlt)
      have hnz := HNM.out _ (List.getElem_mem hlt)
      have HS := Lib.hid (HTK.out k hlt)
      have hle := HLE.out k hk
      have PC := Lib.hid (show lineB units[k] = (((((((itT units[k].num ++ (⟨#[32]⟩ : ByteArray)) ++ units[k].prof) ++ (⟨#[32]⟩ : ByteArray)) ++ itT units[k].univ) ++ (⟨#[47]⟩ : ByteArray)) ++ itT units[k].addr) ++ (⟨#[10]⟩ : ByteArray)) from rfl)
      rw [PC.out] at HS
      clear hc PC
      generalize hX1 : patchB (units.take (k + 1)) = X1 at *
      have HX1 := Lib.hid hX1
      clear hX1
      generalize patchB (units.take k) = X at *
      generalize hrk : units[k] = rk at *
      clear hrk
      obtain ⟨un, up, uu, ua⟩ := rk
      simp only at *
      have HTW := Lib.hid (HT.out.below (HBR.out.bel))
      have l1 := itT_le un f1.1 f1.2
      have l2 := itT_le uu f2.1 f2.2
      have l3 := itT_le ua f3.1 f3.2
      have hA := (Below.refl wr.heap.size wr).alloc (Nat.le_refl _) (.cells #[.int .i64 un, .string up, .int .i64 uu, .int .i64 ua] 78)
      have HTU := Lib.hid (TBox.new wr #[.int .i64 un, .string up, .int .i64 uu, .int .i64 ua] 78)
      have HA := Lib.hid hA
      clear hA
      go_upto_region 8 with fail
      obtain ⟨w3, hw3⟩ : ∃ w3 : World, w3 = wr.alloc (.cells #[.int .i64 un, .string up, .int .i64 uu, .int .i64 ua] 78) := ⟨_, rfl⟩
      rw [← hw3] at HTU HA ⊢
      clear hw3
      have KP := Lib.hid (show ∀ W, Below w3.heap.size w3 W → (W.cell? ⟨wr.heap.size, 0, none⟩ = some (.int .i64 un) ∧ W.cell? ⟨wr.heap.size, 1, none⟩ = some (.string up) ∧ W.cell? ⟨wr.heap.size, 2, none⟩ = some (.int .i64 uu) ∧ W.cell? ⟨wr.heap.size, 3, none⟩ = some (.int .i64 ua)) from fun W hW => ⟨(HTU.out.below hW).cell rfl, (HTU.out.below hW).cell rfl, (HTU.out.below hW).cell rfl, (HTU.out.below hW).cell rfl⟩)
      have KM := Lib.hid (show ∀ W W1, Below w3.heap.size w3 W → Below W.heap.size W W1 → Below w3.heap.size w3 W1 from fun W W1 h1 h2 => h1.trans (h2.mono h1.size))
      have C1 := Lib.hid (show ∀ W, Below w3.heap.size w3 W → Calls Tryd.prog 24 #[.int .i64 un] W fun e w' => e = .returned (.string (itT un)) ∧ Below W.heap.size W w' from fun W h => itoa_int un W f1.1 f1.2 ((HTW.out.below HA.out).below h))
      have C2 := Lib.hid (show ∀ W, Below w3.heap.size w3 W → Calls Tryd.prog 24 #[.int .i64 uu] W fun e w' => e = .returned (.string (itT uu)) ∧ Below W.heap.size W w' from fun W h => itoa_int uu W f2.1 f2.2 ((HTW.out.below HA.out).below h))
      have C3 := Lib.hid (show ∀ W, Below w3.heap.size w3 W → Calls Tryd.prog 24 #[.int .i64 ua] W fun e w' => e = .returned (.string (itT ua)) ∧ Below W.heap.size W w' from fun W h => itoa_int ua W f3.1 f3.2 ((HTW.out.below HA.out).below h))
      generalize itT un = y1 at *
      generalize itT uu = y2 at *
      generalize itT ua = y3 at *
      have hk4 : k < 400 := by omega
      obtain ⟨z1, q1⟩ : ∃ z, y1 ++ (⟨#[32]⟩ : ByteArray) = z := ⟨_, rfl⟩
      have s1 : z1.size = y1.size + 1 := by rw [← q1, ByteArray.size_append]; rfl
      obtain ⟨z2, q2⟩ : ∃ z, z1 ++ up = z := ⟨_, rfl⟩
      have s2 : z2.size = z1.size + up.size := by rw [← q2, ByteArray.size_append]
      obtain ⟨z3, q3⟩ : ∃ z, z2 ++ (⟨#[32]⟩ : ByteArray) = z := ⟨_, rfl⟩
      have s3 : z3.size = z2.size + 1 := by rw [← q3, ByteArray.size_append]; rfl
      obtain ⟨z4, q4⟩ : ∃ z, z3 ++ y2 = z := ⟨_, rfl⟩
      have s4 : z4.size = z3.size + y2.size := by rw [← q4, ByteArray.size_append]
      obtain ⟨z5, q5⟩ : ∃ z, z4 ++ (⟨#[47]⟩ : ByteArray) = z := ⟨_, rfl⟩
      have s5 : z5.size = z4.size + 1 := by rw [← q5, ByteArray.size_append]; rfl
      obtain ⟨z6, q6⟩ : ∃ z, z5 ++ y3 = z := ⟨_, rfl⟩
      have s6 : z6.size = z5.size + y3.size := by rw [← q6, ByteArray.size_append]
      obtain ⟨z7, q7⟩ : ∃ z, z6 ++ (⟨#[10]⟩ : ByteArray) = z := ⟨_, rfl⟩
      have s7 : z7.size = z6.size + 1 := by rw [← q7, ByteArray.size_append]; rfl
      have c1 : (9223372036854775807 < y1.size + 1) = False := eq_false (by omega)
      have d1 : (9223372036854775807 ≤ y1.size) = False := eq_false (by omega)
      have c2 : (9223372036854775807 < z1.size + up.size) = False := eq_false (by omega)
      have c3 : (9223372036854775807 < z2.size + 1) = False := eq_false (by omega)
      have d3 : (9223372036854775807 ≤ z2.size) = False := eq_false (by omega)
      have c4 : (9223372036854775807 < z3.size + y2.size) = False := eq_false (by omega)
      have c5 : (9223372036854775807 < z4.size + 1) = False := eq_false (by omega)
      have d5 : (9223372036854775807 ≤ z4.size) = False := eq_false (by omega)
      have c6 : (9223372036854775807 < z5.size + y3.size) = False := eq_false (by omega)
      have c7 : (9223372036854775807 < z6.size + 1) = False := eq_false (by omega)
      have d7 : (9223372036854775807 ≤ z6.size) = False := eq_false (by omega)
      rw [q1, q2, q3, q4, q5, q6, q7] at HS
      have hz7 : z7.size ≤ 90 := by omega

      have c8 : (9223372036854775807 < X.size + z7.size) = False := eq_false (by omega)
      clear s1 s2 s3 s4 s5 s6 s7 l1 l2 l3 hnz
      have hw0 := Below.refl w3.heap.size w3
      have hw1' := (Below.refl w3.heap.size w3).drew
      go_region_held3 (fun W => W.cell? ⟨wr.heap.size, 0, none⟩ = some (.int .i64 un) ∧ W.cell? ⟨wr.heap.size, 1, none⟩ = some (.string up) ∧ W.cell? ⟨wr.heap.size, 2, none⟩ = some (.int .i64 uu) ∧ W.cell? ⟨wr.heap.size, 3, none⟩ = some (.int .i64 ua))
        (with_reducible first | assumption | exact KP.out _ (by assumption) | exact KP.out _ (Below.drew (by assumption)))
        (first
          | (go_at_call 24; (with_reducible refine (C1.out _ (by with_reducible first | assumption | exact Below.drew (by assumption))).mono ?_); rintro e W1 ⟨rfl, hb1⟩; have hA1 := KM.out _ _ (by with_reducible first | assumption | exact Below.drew (by assumption)) hb1; clear hb1)
          | (go_at_call 24; (with_reducible refine (C2.out _ (by with_reducible first | assumption | exact Below.drew (by assumption))).mono ?_); rintro e W2 ⟨rfl, hb2⟩; have hA2 := KM.out _ _ (by with_reducible first | assumption | exact Below.drew (by assumption)) hb2; clear hb2)
          | (go_at_call 24; (with_reducible refine (C3.out _ (by with_reducible first | assumption | exact Below.drew (by assumption))).mono ?_); rintro e W3 ⟨rfl, hb3⟩; have hA3 := KM.out _ _ (by with_reducible first | assumption | exact Below.drew (by assumption)) hb3; clear hb3)
          | fail)
      all_goals
        have HBW := Lib.hid (show Below w1.heap.size w1 _ from (HWR.out.trans (HA.out.mono hzr)).trans (Below.mono (by first | exact hA3 | exact hA2 | exact hA1) (by have := HA.out.size; omega)))
        go_wp2_with fail
        go_roundw
        case rel => exact ⟨k + 1, by omega, by first | rfl | go_num, by rw [HX1.out, HS.out], HBW⟩
        case measure => simp [intOf]; omega
    · have hkk : k = units.length := by omega
      subst hkk
      rw [List.take_length]
      have hsz : (patchB units).size ≤ 60000 := by have := HLE.out units.length (Nat.le_refl _); rw [List.take_length] at this; omega
      have hgt : decide ((60000 : Int) < ((patchB units).size : Int)) = false := by simp; omega
      have hgt2 : ¬ ((60000 : Int) < ((patchB units).size : Int)) := by omega
      have HBF := Lib.hid HBR.out.bel
      clear HBR HWR
      generalize hP : patchB units = P at *
      have HP := Lib.hid hP
      clear hP
      go_wp2_with fail
      exact bodyPost_ret (v := .tuple #[.string P, .int .i64 0]) (by simp [results, Tryd.results22, go_sem]) rfl ⟨by rw [hEQ.out, HV.out], HBF.out⟩
end Go.Proofs.YtabalicembhjmaaDoor
