/- fixture.Place. (printed by wip/gen/gen_place.py) -/
import Derived.Test.YtabalicembhjmaaT38M37
import Derived.Deep.RegionHeld3

namespace Go.Proofs.Ytabalicembhjmaa
open Go.RowKit
set_option linter.unusedVariables false
set_option linter.unusedSimpArgs false
set_option maxRecDepth 100000 in
set_option maxHeartbeats 16000000 in
theorem place_any (x : Rig) (lv uv : Value) (nm : ByteArray) (n : Int) (w : World) (h : RigAt w.heap.size w x lv uv) (hf : RigFit x) (hn : I64 n) :
    Calls Try.prog 21 #[rigV lv uv, .string nm, .int .i64 n] w fun e w' => ∃ lv' uv', e = .returned (.tuple #[rigV lv' uv', .int .i64 (placeF x nm n)]) ∧ RigAt w'.heap.size w' (placeR x nm n) lv' uv' ∧ Below w.heap.size w w' := by
  have CC := Lib.hid (fun W (hb : Below w.heap.size w W) => ckRig_any x lv uv W ((h.below hb).more hb.size) hf)
  have CP := Lib.hid (fun (nm : ByteArray) W (hb : Below w.heap.size w W) => profile_base w.heap.size lv x.lib nm W hb.size (h.lib.below hb))
  have CU := Lib.hid (fun (hx : chkRig x = 0) W (hb : Below w.heap.size w W) => unit_any x lv uv n W ((h.below hb).more hb.size) hx hn)
  have CT := Lib.hid (fun (hx : chkRig x = 0) W (hb : Below w.heap.size w W) => taken2_any x lv uv 0 W ((h.below hb).more hb.size) hx hf)
  have CY := Lib.hid (fun (hx : chkRig x = 0) W (hb : Below w.heap.size w W) => copied_any x lv uv W ((h.below hb).more hb.size) (rig_sizes hx))
  have CI := Lib.hid (fun (i : Nat) (v : Value) (y : Unt) W (ho : OwnU (w.heap.size + 2) W v x.units) (hi : i ≤ x.units.length) (hl : x.units.length ≤ 100000) (hz : w.heap.size + 2 ≤ W.heap.size) => units_insert (w.heap.size + 2) W.heap.size i v x.units y #[.int .i64 y.num, .string y.prof, .int .i64 y.univ, .int .i64 y.addr] 67 (W.alloc (.cells #[.int .i64 y.num, .string y.prof, .int .i64 y.univ, .int .i64 y.addr] 67)) (ho.below ((Below.refl _ _).alloc (Nat.le_refl _) _)) (by simp; omega) hi hl (unt_cells W y 67) rfl (fun e => by have := (World.ownsRow.lt ho _ e).2; omega))
  have HR1 := Lib.hid (fun (h : ¬ chkRig x = 0) => placeR_no (n := n) (nm := nm) (placeF_bad h) h)
  have HRN := Lib.hid (fun (h : chkRig x = 0) (hp : profOf x.lib nm.data.toList = none) => placeR_no (n := n) (placeF_name h hp) (by decide))
  have HRE := Lib.hid (fun (h : chkRig x = 0) (p : Prf) (hp : profOf x.lib nm.data.toList = some p) (he : ¬ placeE x n = 0) => placeR_no (n := n) (show placeF x nm n = placeE x n by rw [placeF_E h hp, if_neg he]) he)
  have HRF := Lib.hid (fun (h : chkRig x = 0) (p : Prf) (hp : profOf x.lib nm.data.toList = some p) (he : placeE x n = 0) (hr : roomO (usBut x 0) p.size = none) => placeR_no (n := n) (show placeF x nm n = 13 by rw [placeF_E h hp, if_pos he, hr]; rfl) (by decide))
  have HRS := Lib.hid (fun (h : chkRig x = 0) (p : Prf) (hp : profOf x.lib nm.data.toList = some p) (he : placeE x n = 0) (r : Int × Int) (hr : roomO (usBut x 0) p.size = some r) => (show placeF x nm n = 0 ∧ placeR x nm n = ⟨x.lib, insU x.units (posU x.units n) ⟨n, nm, r.1, r.2⟩⟩ from by
    have h0 : placeF x nm n = 0 := by rw [placeF_E h hp, if_pos he, hr]; rfl
    exact ⟨h0, placeR_some h0 hp hr⟩))
  have H4 := Lib.hid (fun (h : chkRig x = 0) => (chkRig_zero h).2.1)
  have HPZ := Lib.hid (fun (h : chkRig x = 0) (p : Prf) (hp : profOf x.lib nm.data.toList = some p) => (show 1 ≤ p.size ∧ p.size ≤ 512 from size_pos (u := ⟨0, nm, 0, 0⟩) (chkRig_zero h).1 hp))
  have HPU := Lib.hid (posU_le x.units n)
  obtain ⟨uo, ucap, rfl, _⟩ := CellsS.shape h.units
  obtain ⟨lo, lcap, rfl⟩ := prfS_shape h.lib
  unfold rigV at *
  have HB0 := Lib.hid (RigBox.start w (.slice lo x.lib.length lcap) (.slice uo x.units.length ucap))
  have C1 := Lib.hid (CC.out _ HB0.out.bel)
  clear CC
  clear h hf hn
  generalize placeF x nm n = FF at *
  generalize placeR x nm n = RR at *
  go_enter Try.func21, Try.ntmps21
  go_wp2_with fail
  refine C1.out.mono ?_
  rintro e w1 ⟨rfl, hb⟩
  have HB1 := Lib.hid (HB0.out.next hb)
  clear hb C1 HB0
  have p0 := HB1.out.par.cell (i := 0) rfl
  have p1 := HB1.out.par.cell (i := 1) rfl
  have hz1 := HB1.out.size
  by_cases hE : chkRig x = 0
  rotate_left
  · skip
    have HV := Lib.hid (show FF = (chkRig x) ∧ RR = noRig from HR1.out hE)
    have r0 := HB1.out.res.cell (i := 0) rfl
    have r1 := HB1.out.res.cell (i := 1) rfl
    have fr0 := HB1.out.res.frozen 0
    have fr1 := HB1.out.res.frozen 1
    have hrs := HB1.out.size
    go_wp2_with fail
    exact bodyPost_ret (v := .tuple #[.agg #[.slice none 0 0, .slice none 0 0], .int .i64 (chkRig x)]) (by simp [results, Try.results21, go_sem, r0, r1]) rfl ⟨.slice none 0 0, .slice none 0 0, by rw [HV.out.1], by rw [HV.out.2]; exact noRig_at _ _, HB1.out.done _ _⟩
  rw [hE]
  cases hP : profOf x.lib nm.data.toList with
  | none =>
    have CP1 := Lib.hid (CP.out nm _ HB1.out.bel)
    rw [hP] at CP1
    clear CP
    go_wp2_with fail
    refine CP1.out.mono ?_
    rintro e w2 ⟨pv, rfl, hpr, hb⟩
    obtain rfl : pv = .agg #[.string ⟨#[]⟩, .int .i64 0, .slice none 0 0] := hpr
    have HB2 := Lib.hid ((HB1.out.next hb).alloc (.cells #[.string ⟨#[]⟩, .int .i64 0, .slice none 0 0] 70))
    have HT2 := Lib.hid (TBox.new w2 #[.string ⟨#[]⟩, .int .i64 0, .slice none 0 0] 70)
    have HS2 := Lib.hid (HB1.out.next hb).size
    clear hb CP1 p0 p1 hz1 HB1
    have p0 := HB2.out.par.cell (i := 0) rfl
    have p1 := HB2.out.par.cell (i := 1) rfl
    have CU1 := Lib.hid (CU.out hE _ HB2.out.bel)
    clear CU
    have hz2 := HS2.out
    simp only [Option.isSome_none, Option.isSome_some] at *
    go_wp2_with fail
    refine CU1.out.mono ?_
    rintro e w3 ⟨pp, rfl, hple, hpos, hb⟩
    have HB3 := Lib.hid (HB2.out.next hb)
    have HT3 := Lib.hid (HT2.out.below hb)
    clear hb CU1 p0 p1 HB2 HT2 hz2
    have p0 := HB3.out.par.cell (i := 0) rfl
    have p1 := HB3.out.par.cell (i := 1) rfl
    have hz3 := HB3.out.size
    go_upto_region 6 with fail
    refine wp_region_still_tail 14 (by kernel_rfl) (by kernel_rfl) ?_
    simp only [List.take_succ_cons, List.take_zero, List.drop_succ_cons, List.drop_zero]
    still_step
    still_step
    still_call (still_of (when_R _ _ _))
    still_step
    still_call (still_of (within_R _ _ _ _))
    still_step
    still_call (still_of (when_R _ _ _))
    still_step
    still_call (still_of (when_R _ _ _))
    still_step
    still_step
    still_step
    still_step
    still_call (still_of (when_R _ _ _))
    refine wpStill_nil ?_
    generalize hA1 : whenW true 5 = A1 at *
    generalize hA2 : whenW (!inR n 1 9999) 1 = A2 at *
    generalize hA3 : whenW (hasU x.units n) 6 = A3 at *
    generalize hA4 : whenW ((x.units.length : Int) == 400) 2 = A4 at *
    have HF5 := Lib.hid (show pf4 A1 A2 A3 A4 = 5 by rw [← hA1]; rfl)
    clear hA1 hA2 hA3 hA4
    have HV := Lib.hid (show FF = 5 ∧ RR = noRig from HRN.out hE hP)
    have HBX := Lib.hid ((HB3.out.alloc (.cells #[.int .i64 A1, .int .i64 A2, .int .i64 A3, .int .i64 A4] 28)).drew)
    go_upto_region 7 with (first | (go_at_call 60; refine (first4p _ _ _ _ _ 5 _ HF5.out (by simp [go_sem]) (by simp [go_sem]) (by simp [go_sem]) (by simp [go_sem])).mono ?_; rintro e w' ⟨rfl, rfl⟩) | fail)
    generalize hW4 : (w3.alloc (.cells #[.int .i64 A1, .int .i64 A2, .int .i64 A3, .int .i64 A4] 28)).drew = w4 at *
    clear hW4 p0 p1 hz3
    have r0 := HBX.out.res.cell (i := 0) rfl
    have r1 := HBX.out.res.cell (i := 1) rfl
    have fr0 := HBX.out.res.frozen 0
    have fr1 := HBX.out.res.frozen 1
    have hrs := HBX.out.size
    go_wp2_with fail
    exact bodyPost_ret (v := .tuple #[.agg #[.slice none 0 0, .slice none 0 0], .int .i64 5]) (by simp [results, Try.results21, go_sem, r0, r1]) rfl ⟨.slice none 0 0, .slice none 0 0, by rw [HV.out.1], by rw [HV.out.2]; exact noRig_at _ _, HBX.out.done _ _⟩
  | some p =>
    have CP1 := Lib.hid (CP.out nm _ HB1.out.bel)
    rw [hP] at CP1
    clear CP
    go_wp2_with fail
    refine CP1.out.mono ?_
    rintro e w2 ⟨pv, rfl, hpr, hb⟩
    obtain ⟨qv, rfl, hps⟩ := hpr
    obtain ⟨po, pcap, rfl⟩ := parS_shape hps
    clear hps
    have HB2 := Lib.hid ((HB1.out.next hb).alloc (.cells #[.string p.name, .int .i64 p.size, .slice po p.pars.length pcap] 70))
    have HT2 := Lib.hid (TBox.new w2 #[.string p.name, .int .i64 p.size, .slice po p.pars.length pcap] 70)
    have HS2 := Lib.hid (HB1.out.next hb).size
    clear hb CP1 p0 p1 hz1 HB1
    have p0 := HB2.out.par.cell (i := 0) rfl
    have p1 := HB2.out.par.cell (i := 1) rfl
    have CU1 := Lib.hid (CU.out hE _ HB2.out.bel)
    clear CU
    have hz2 := HS2.out
    simp only [Option.isSome_none, Option.isSome_some] at *
    go_wp2_with fail
    refine CU1.out.mono ?_
    rintro e w3 ⟨pp, rfl, hple, hpos, hb⟩
    have HB3 := Lib.hid (HB2.out.next hb)
    have HT3 := Lib.hid (HT2.out.below hb)
    clear hb CU1 p0 p1 HB2 HT2 hz2
    have p0 := HB3.out.par.cell (i := 0) rfl
    have p1 := HB3.out.par.cell (i := 1) rfl
    have hz3 := HB3.out.size
    go_upto_region 6 with fail
    refine wp_region_still_tail 14 (by kernel_rfl) (by kernel_rfl) ?_
    simp only [List.take_succ_cons, List.take_zero, List.drop_succ_cons, List.drop_zero]
    still_step
    still_step
    still_call (still_of (when_R _ _ _))
    still_step
    still_call (still_of (within_R _ _ _ _))
    still_step
    still_call (still_of (when_R _ _ _))
    still_step
    still_call (still_of (when_R _ _ _))
    still_step
    still_step
    still_step
    still_step
    still_call (still_of (when_R _ _ _))
    refine wpStill_nil ?_
    by_cases hEE : placeE x n = 0
    rotate_left
    · generalize hEV : placeE x n = E at *
      have hEQ := hEV
      unfold placeE at hEQ
      simp only [Bool.not_true] at hEQ
      generalize hA1 : whenW false 5 = A1 at *
      generalize hA2 : whenW (!inR n 1 9999) 1 = A2 at *
      generalize hA3 : whenW (hasU x.units n) 6 = A3 at *
      generalize hA4 : whenW ((x.units.length : Int) == 400) 2 = A4 at *
      have HFE := Lib.hid hEQ
      clear hA1 hA2 hA3 hA4 hEQ hEV
      have HV := Lib.hid (show FF = E ∧ RR = noRig from HRE.out hE p hP hEE)
      have HBX := Lib.hid ((HB3.out.alloc (.cells #[.int .i64 A1, .int .i64 A2, .int .i64 A3, .int .i64 A4] 28)).drew)
      go_upto_region 7 with (first | (go_at_call 60; refine (first4p _ _ _ _ _ E _ HFE.out (by simp [go_sem]) (by simp [go_sem]) (by simp [go_sem]) (by simp [go_sem])).mono ?_; rintro e w' ⟨rfl, rfl⟩) | fail)
      generalize hW4 : (w3.alloc (.cells #[.int .i64 A1, .int .i64 A2, .int .i64 A3, .int .i64 A4] 28)).drew = w4 at *
      clear hW4 p0 p1 hz3
      have r0 := HBX.out.res.cell (i := 0) rfl
      have r1 := HBX.out.res.cell (i := 1) rfl
      have fr0 := HBX.out.res.frozen 0
      have fr1 := HBX.out.res.frozen 1
      have hrs := HBX.out.size
      go_wp2_with fail
      exact bodyPost_ret (v := .tuple #[.agg #[.slice none 0 0, .slice none 0 0], .int .i64 E]) (by simp [results, Try.results21, go_sem, r0, r1]) rfl ⟨.slice none 0 0, .slice none 0 0, by rw [HV.out.1], by rw [HV.out.2]; exact noRig_at _ _, HBX.out.done _ _⟩
    obtain ⟨⟨hn1, hn2⟩, hH, hL⟩ := placeE_zero hEE
    obtain rfl := hpos hn1 hn2
    obtain ⟨hp1, hp2⟩ := HPZ.out hE p hP
    have HRF1 := Lib.hid (HRF.out hE p hP hEE)
    have HRS1 := Lib.hid (HRS.out hE p hP hEE)
    have hEQ := hEE
    unfold placeE at hEQ
    simp only [Bool.not_true] at hEQ
    have h400 := H4.out hE
    have CT1 := Lib.hid (CT.out hE)
    have CY1 := Lib.hid (CY.out hE)
    generalize hA1 : whenW false 5 = A1 at *
    generalize hA2 : whenW (!inR n 1 9999) 1 = A2 at *
    generalize hA3 : whenW (hasU x.units n) 6 = A3 at *
    generalize hA4 : whenW ((x.units.length : Int) == 400) 2 = A4 at *
    have HFE := Lib.hid hEQ
    clear hA1 hA2 hA3 hA4 hEQ CT CY HRF HRS HRE HRN HR1 HPZ H4 hEE hP hE
    go_upto_region 9 with (first | (go_at_call 60; refine (first4p _ _ _ _ _ 0 _ HFE.out (by simp [go_sem]) (by simp [go_sem]) (by simp [go_sem]) (by simp [go_sem])).mono ?_; rintro e w' ⟨rfl, rfl⟩) | fail)
    have HB4 := Lib.hid ((HB3.out.alloc (.cells #[.int .i64 A1, .int .i64 A2, .int .i64 A3, .int .i64 A4] 28)).drew)
    have HT4 := Lib.hid (TBox.below HT3.out ((Below.refl w3.heap.size w3).alloc (Nat.le_refl _) (.cells #[.int .i64 A1, .int .i64 A2, .int .i64 A3, .int .i64 A4] 28)).drew)
    clear HFE p0 p1 HB3 HT3 hz3
    obtain ⟨w4, hw4⟩ : ∃ w4 : World, w4 = (w3.alloc (.cells #[.int .i64 A1, .int .i64 A2, .int .i64 A3, .int .i64 A4] 28)).drew := ⟨_, rfl⟩
    rw [← hw4] at HB4 HT4 ⊢
    clear hw4
    have p0 := HB4.out.par.cell (i := 0) rfl
    have p1 := HB4.out.par.cell (i := 1) rfl
    have t1 := HT4.out.cell (i := 1) rfl
    have hz4 := HB4.out.size
    have ht4 := HT4.out.lt
    have KS := Lib.hid (show ∀ W, Below w4.heap.size w4 W → (W.cell? ⟨w.heap.size, 0, none⟩ = some (.slice lo x.lib.length lcap) ∧ W.cell? ⟨w.heap.size, 1, none⟩ = some (.slice uo x.units.length ucap) ∧ W.cell? ⟨w2.heap.size, 1, none⟩ = some (.int .i64 p.size)) from fun W hW => ⟨(HB4.out.next hW).par.cell (i := 0) rfl, (HB4.out.next hW).par.cell (i := 1) rfl, (HT4.out.below hW).cell (i := 1) rfl⟩)
    have KB := Lib.hid (show ∀ W, Below w4.heap.size w4 W → Below w.heap.size w W from fun W hW => (HB4.out.next hW).bel)
    have KM := Lib.hid (show ∀ W W1, Below w4.heap.size w4 W → Below W.heap.size W W1 → Below w4.heap.size w4 W1 from fun W W1 h1 h2 => h1.trans (h2.mono h1.size))
    have hw0 := Below.refl w4.heap.size w4
    have hw1 := (Below.refl w4.heap.size w4).drew
    cases hR : roomO (usBut x 0) p.size with
    | none =>
      have HV := Lib.hid (HRF1.out hR)
      have CR := Lib.hid (show ∀ mb W (h : UsedS mb W mb (usBut x 0)), Calls Try.prog 47 #[.map (some mb), .int .i64 p.size] W fun e w' => e = .returned (.tuple #[.int .i64 0, .int .i64 0, .bool false]) ∧ W = w' from fun mb W h => by
        have h1 := room_any _ _ _ p.size W h hp1 hp2
        rw [hR] at h1
        exact h1)
      clear HRF1 HRS1 hR CI CY1
      go_region_held3 (fun W => W.cell? ⟨w.heap.size, 0, none⟩ = some (.slice lo x.lib.length lcap) ∧ W.cell? ⟨w.heap.size, 1, none⟩ = some (.slice uo x.units.length ucap) ∧ W.cell? ⟨w2.heap.size, 1, none⟩ = some (.int .i64 p.size))
        (with_reducible first | exact KS.out _ (by assumption) | exact KS.out _ (Below.drew (by assumption)))
        (first
          | (go_at_call 45; (with_reducible refine (CT1.out _ (KB.out _ (by with_reducible first | assumption | exact Below.drew (by assumption)))).mono ?_); rintro e W3 ⟨mb, rfl, hl2, hl3, hu3, hb3⟩; have hw3 := KM.out _ _ (by with_reducible first | assumption | exact Below.drew (by assumption)) hb3; have CR0 := CR.out mb W3 hu3; clear hl2 hl3 hu3 hb3)
          | (go_at_call 47; (with_reducible refine CR0.mono ?_); rintro e W4 ⟨rfl, rfl⟩; clear CR0)
          | fail)
      all_goals clear KS KM CT1 CR
      have HB5 := Lib.hid (HB4.out.next hw3)
      clear p0 p1 t1 hz4 ht4 HB4 HT4 hw0 hw1
      have r0 := HB5.out.res.cell (i := 0) rfl
      have r1 := HB5.out.res.cell (i := 1) rfl
      have fr0 := HB5.out.res.frozen 0
      have fr1 := HB5.out.res.frozen 1
      have hrs := HB5.out.size
      go_wp2_with fail
      exact bodyPost_ret (v := .tuple #[.agg #[.slice none 0 0, .slice none 0 0], .int .i64 13]) (by simp [results, Try.results21, go_sem, r0, r1]) rfl ⟨.slice none 0 0, .slice none 0 0, by rw [HV.out.1], by rw [HV.out.2]; exact noRig_at _ _, HB5.out.done _ _⟩
    | some r =>
      have HV := Lib.hid (HRS1.out r hR)
      have CR := Lib.hid (show ∀ mb W (h : UsedS mb W mb (usBut x 0)), Calls Try.prog 47 #[.map (some mb), .int .i64 p.size] W fun e w' => e = .returned (.tuple #[.int .i64 r.1, .int .i64 r.2, .bool true]) ∧ W = w' from fun mb W h => by
        have h1 := room_any _ _ _ p.size W h hp1 hp2
        rw [hR] at h1
        exact h1)
      obtain ⟨rn, ra⟩ := r
      simp only at CR HV
      clear HRF1 HRS1 hR
      go_region_held3 (fun W => W.cell? ⟨w.heap.size, 0, none⟩ = some (.slice lo x.lib.length lcap) ∧ W.cell? ⟨w.heap.size, 1, none⟩ = some (.slice uo x.units.length ucap) ∧ W.cell? ⟨w2.heap.size, 1, none⟩ = some (.int .i64 p.size))
        (with_reducible first | exact KS.out _ (by assumption) | exact KS.out _ (Below.drew (by assumption)))
        (first
          | (go_at_call 45; (with_reducible refine (CT1.out _ (KB.out _ (by with_reducible first | assumption | exact Below.drew (by assumption)))).mono ?_); rintro e W3 ⟨mb, rfl, hl2, hl3, hu3, hb3⟩; have hw3 := KM.out _ _ (by with_reducible first | assumption | exact Below.drew (by assumption)) hb3; have CR0 := CR.out mb W3 hu3; clear hl2 hl3 hu3 hb3)
          | (go_at_call 47; (with_reducible refine CR0.mono ?_); rintro e W4 ⟨rfl, rfl⟩; clear CR0)
          | fail)
      all_goals clear KS KM CT1 CR
      have HB5 := Lib.hid (HB4.out.next hw3)
      clear p0 p1 t1 hz4 ht4 HB4 HT4 hw0 hw1
      have p0 := HB5.out.par.cell (i := 0) rfl
      have p1 := HB5.out.par.cell (i := 1) rfl
      have hz5 := HB5.out.size
      have CY2 := Lib.hid (CY1.out _ HB5.out.bel)
      clear CY1
      go_wp2_with fail
      refine CY2.out.mono ?_
      rintro e w6 ⟨lv3, uv3, rfl, hl3, hu3, hb⟩
      have HB6 := Lib.hid (HB5.out.next hb)
      have HL6 := Lib.hid (hl3.less HB5.out.size)
      have HU6 := Lib.hid (show OwnU (w.heap.size + 2) w6 uv3 x.units from own_base hu3 HB5.out.size)
      obtain ⟨uo', ucap', rfl⟩ := HU6.out.shape
      obtain ⟨lo', lcap', rfl⟩ := HL6.out.shape
      clear hb CY2 hl3 hu3 p0 p1 hz5 HB5
      simp only [rigV]
      have ha := (Below.refl w6.heap.size w6).alloc (Nat.le_refl _) (.cells #[.slice lo' x.lib.length lcap', .slice uo' x.units.length ucap'] 25)
      have HB7 := Lib.hid (HB6.out.next ha)
      have HL7 := Lib.hid (HL6.out.below ha)
      have HU7 := Lib.hid (HU6.out.below ha)
      have HT7 := Lib.hid (TBox.new w6 #[.slice lo' x.lib.length lcap', .slice uo' x.units.length ucap'] 25)
      have hob : w.heap.size + 2 ≤ w6.heap.size := HB6.out.size
      clear ha HB6 HL6 HU6
      go_upto_region 13 with fail
      obtain ⟨w7, hw7⟩ : ∃ w7 : World, w7 = w6.alloc (.cells #[.slice lo' x.lib.length lcap', .slice uo' x.units.length ucap'] 25) := ⟨_, rfl⟩
      rw [← hw7] at HB7 HL7 HU7 HT7 ⊢
      clear hw7
      have t1 := HT7.out.cell (i := 1) rfl
      have ht7 := HT7.out.lt
      have CI1 := Lib.hid (CI.out (posU x.units n) _ ⟨n, nm, rn, ra⟩ w7 HU7.out HPU.out (by omega) HB7.out.size)
      have hav := (Below.refl w7.heap.size w7).alloc (Nat.le_refl _) (.cells #[.int .i64 n, .string nm, .int .i64 rn, .int .i64 ra] 67)
      have HB8a := Lib.hid (HB7.out.next hav)
      have HL8a := Lib.hid (HL7.out.below hav)
      have HU8a := Lib.hid (HU7.out.below hav)
      have HT8a := Lib.hid (HT7.out.below hav)
      have HIL := Lib.hid (insU_len x.units HPU.out ⟨n, nm, rn, ra⟩)
      generalize posU x.units n = ps at *
      clear hav CI HB7 HL7 HU7 HT7
      go_wp2_with fail
      refine CI1.out.mono ?_
      rintro e w8 ⟨v8, rfl, hu8, hg8⟩
      have HB8 := Lib.hid (HB8a.out.grown HU8a.out hg8 (Nat.le_refl _))
      have ho8 := Other.row HU8a.out hg8
      have HL8 := Lib.hid (HL8a.out.other ho8 (by decide) (by decide) (by decide))
      have HT8 := Lib.hid (ho8.tbox HT8a.out (by decide))
      obtain ⟨uo2, ucap2, rfl⟩ := hu8.shape
      generalize (insU x.units ps ⟨n, nm, rn, ra⟩).length = il at *
      have HU9 := Lib.hid (hu8.other (Other.box HT8.out (i := 1) (.slice uo2 il ucap2)) (by decide))
      have HL9 := Lib.hid (HL8.out.other (Other.box HT8.out (i := 1) (.slice uo2 il ucap2)) (by decide) (by decide) (by decide))
      have HT9 := Lib.hid (HT8.out.set 1 (.slice uo2 il ucap2))
      simp only [List.setIfInBounds_toArray, List.set_cons_succ, List.set_cons_zero] at HT9
      have HB9 := Lib.hid (HB8.out.set hob 1 (.slice uo2 il ucap2))
      have t1 := HT8.out.cell (i := 1) rfl
      have g1 := HT8.out.frozen 1
      have hz8 := HT8.out.lt
      clear hu8 hg8 ho8 CI1 HB8a HL8a HU8a HT8a HB8 HL8 HT8 HIL
      go_upto_region 14 with fail
      generalize hW9 : w8.setCell ⟨w6.heap.size, 1, none⟩ (.slice uo2 il ucap2) = w9 at *
      clear hW9 t1 g1 hz8
      have q0 := HT9.out.cell (i := 0) rfl
      have q1 := HT9.out.cell (i := 1) rfl
      have hq9 := HT9.out.lt
      have r0 := HB9.out.res.cell (i := 0) rfl
      have r1 := HB9.out.res.cell (i := 1) rfl
      have fr0 := HB9.out.res.frozen 0
      have fr1 := HB9.out.res.frozen 1
      have hrs := HB9.out.size
      have HE := Lib.hid (show ∀ a b, RigAt ((w9.setCell ⟨w.heap.size + 1, 0, none⟩ a).setCell ⟨w.heap.size + 1, 1, none⟩ b).heap.size ((w9.setCell ⟨w.heap.size + 1, 0, none⟩ a).setCell ⟨w.heap.size + 1, 1, none⟩ b) RR (.slice lo' x.lib.length lcap') (.slice uo2 il ucap2) ∧ Below w.heap.size w ((w9.setCell ⟨w.heap.size + 1, 0, none⟩ a).setCell ⟨w.heap.size + 1, 1, none⟩ b) from fun a b => by
        rw [HV.out.2]
        exact ⟨⟨(HL9.out.res HB9.out.res a b).prfS, (HU9.out.res HB9.out.res a b).untS⟩, HB9.out.done a b⟩)
      clear HU9 HL9 HT9 HB9
      go_wp2_with fail
      exact bodyPost_ret (v := .tuple #[.agg #[.slice lo' x.lib.length lcap', .slice uo2 il ucap2], .int .i64 0]) (by simp [results, Try.results21, go_sem, r0, r1]) rfl ⟨_, _, by rw [HV.out.1], (HE.out _ _).1, (HE.out _ _).2⟩
end Go.Proofs.Ytabalicembhjmaa
