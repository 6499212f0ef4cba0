/- fixture.Remove. (printed by wip/gen/gen_place.py) -/
import Derived.Test.YtabalicembhjmaaT38M37

namespace Go.Proofs.Ytabalicembhjmaa
open Go.RowKit
set_option linter.unusedVariables false
set_option linter.unusedSimpArgs false
set_option maxRecDepth 100000 in
set_option maxHeartbeats 16000000 in
theorem remove_new (B0 : Nat) (x : Rig) (lv uv : Value) (n : Int) (w : World) (h0 : RigAt B0 w x lv uv) (hB0 : B0 ≤ w.heap.size) (hf : RigFit x) (hn : I64 n) :
    Calls Try.prog 23 #[rigV lv uv, .int .i64 n] w fun e w' => ∃ lv' uv', e = .returned (.tuple #[rigV lv' uv', .int .i64 (remF x n)]) ∧ RigNew B0 w.heap.size w' (remR x n) lv' uv' ∧ Below w.heap.size w w' := by
  have HLL := Lib.hid h0.lib
  have h := h0.more hB0
  have CC := Lib.hid (fun W (hb : Below w.heap.size w W) => ckRig_any x lv uv W ((h.below hb).more hb.size) hf)
  have CU := Lib.hid (fun (hx : chkRig x = 0) W (hb : Below w.heap.size w W) => unit_any x lv uv n W ((h.below hb).more hb.size) hx hn)
  have CP := Lib.hid (fun (hx : chkRig x = 0) W (hb : Below w.heap.size w W) => copied_any x lv uv W ((h.below hb).more hb.size) (rig_sizes hx))
  have CD := Lib.hid (fun (base : Nat) (v : Value) W (ho : OwnU base W v x.units) (hi : posU x.units n < x.units.length) (hl : x.units.length ≤ 100000) => units_delete base v x.units (posU x.units n) W ho hi hl)
  have HR1 := Lib.hid (fun (h : ¬ chkRig x = 0) => And.intro (remF_bad (n := n) h) (remR_bad (n := n) (by rw [remF_bad h]; exact h)))
  have HR2 := Lib.hid (fun (h : chkRig x = 0) (k : hasU x.units n = false) => And.intro (remF_no h k) (remR_bad (n := n) (by rw [remF_no h k]; decide)))
  have HR3 := Lib.hid (fun (h : chkRig x = 0) (k : hasU x.units n = true) => And.intro (remF_yes h k) (remR_yes (remF_yes h k)))
  have HPP := Lib.hid (fun (h : chkRig x = 0) (k : hasU x.units n = true) => has_pos h k)
  have H4 := Lib.hid (fun (h : chkRig x = 0) => (chkRig_zero h).2.1)
  obtain ⟨uo, ucap, rfl, _⟩ := CellsS.shape h.units
  obtain ⟨lo, lcap, rfl⟩ := prfS_shape h.lib
  unfold rigV at *
  have HB0 := Lib.hid (RigBox.start w (.slice lo x.lib.length lcap) (.slice uo x.units.length ucap))
  have C1 := Lib.hid (CC.out _ HB0.out.bel)
  clear CC
  clear h h0 hf hn
  generalize remF x n = FF at *
  generalize remR x n = RR at *
  go_enter Try.func23, Try.ntmps23
  go_wp2_with fail
  refine C1.out.mono ?_
  rintro e w1 ⟨rfl, hb⟩
  have HB1 := Lib.hid (HB0.out.next hb)
  clear hb C1 HB0
  have p0 := HB1.out.par.cell (i := 0) rfl
  have p1 := HB1.out.par.cell (i := 1) rfl
  have hz1 := HB1.out.size
  by_cases hE : chkRig x = 0
  rotate_left
  · skip
    have HV := Lib.hid (show FF = (chkRig x) ∧ RR = noRig from HR1.out hE)
    have r0 := HB1.out.res.cell (i := 0) rfl
    have r1 := HB1.out.res.cell (i := 1) rfl
    have fr0 := HB1.out.res.frozen 0
    have fr1 := HB1.out.res.frozen 1
    have hrs := HB1.out.size
    go_wp2_with fail
    exact bodyPost_ret (v := .tuple #[.agg #[.slice none 0 0, .slice none 0 0], .int .i64 (chkRig x)]) (by simp [results, Try.results23, go_sem, r0, r1]) rfl ⟨.slice none 0 0, .slice none 0 0, by rw [HV.out.1], by rw [HV.out.2]; exact fun _ _ _ => noRig_at _ _, HB1.out.done _ _⟩
  rw [hE]
  have CU1 := Lib.hid (CU.out hE _ HB1.out.bel)
  clear CU
  go_wp2_with fail
  refine CU1.out.mono ?_
  rintro e w2 ⟨pp, rfl, hple, hpos, hb⟩
  have HB2 := Lib.hid (HB1.out.next hb)
  clear hb CU1 p0 p1 hz1
  have p0 := HB2.out.par.cell (i := 0) rfl
  have p1 := HB2.out.par.cell (i := 1) rfl
  have hz2 := HB2.out.size
  cases hH : hasU x.units n with
  | false =>
    have HV := Lib.hid (show FF = 8 ∧ RR = noRig from HR2.out hE hH)
    have r0 := HB2.out.res.cell (i := 0) rfl
    have r1 := HB2.out.res.cell (i := 1) rfl
    have fr0 := HB2.out.res.frozen 0
    have fr1 := HB2.out.res.frozen 1
    have hrs := HB2.out.size
    go_wp2_with fail
    exact bodyPost_ret (v := .tuple #[.agg #[.slice none 0 0, .slice none 0 0], .int .i64 8]) (by simp [results, Try.results23, go_sem, r0, r1]) rfl ⟨.slice none 0 0, .slice none 0 0, by rw [HV.out.1], by rw [HV.out.2]; exact fun _ _ _ => noRig_at _ _, HB2.out.done _ _⟩
  | true =>
    obtain ⟨hp1, hp2, hp3⟩ := HPP.out hE hH
    obtain rfl := hpos hp2 hp3
    have HV := Lib.hid (HR3.out hE hH)
    have CP1 := Lib.hid (CP.out hE _ HB2.out.bel)
    have CD1 := Lib.hid (fun (base : Nat) (v : Value) W (ho : OwnU base W v x.units) => CD.out base v W ho hp1 (by have := H4.out hE; omega))
    have hun := H4.out hE
    clear CP CD HR1 HR2 HR3 HPP H4 hE hH
    generalize hps : posU x.units n = ps at *
    clear hps
    go_wp2_with fail
    refine CP1.out.mono ?_
    rintro e w3 ⟨lv3, uv3, rfl, hl3, hu3, hb⟩
    have HB3 := Lib.hid (HB2.out.next hb)
    have HL3 := Lib.hid (hl3.less HB2.out.size)
    have HU3 := Lib.hid (show OwnU (w.heap.size + 2) w3 uv3 x.units from own_base hu3 HB2.out.size)
    obtain ⟨uo', ucap', rfl⟩ := HU3.out.shape
    obtain ⟨lo', lcap', rfl⟩ := HL3.out.shape
    clear hb CP1 hl3 hu3 p0 p1 hz2
    simp only [rigV]
    have ha := (Below.refl w3.heap.size w3).alloc (Nat.le_refl _) (.cells #[.slice lo' x.lib.length lcap', .slice uo' x.units.length ucap'] 25)
    have HB4 := Lib.hid (HB3.out.next ha)
    have HL4 := Lib.hid (HL3.out.below ha)
    have HU4 := Lib.hid (HU3.out.below ha)
    have HT4 := Lib.hid (TBox.new w3 #[.slice lo' x.lib.length lcap', .slice uo' x.units.length ucap'] 25)
    have hob : w.heap.size + 2 ≤ w3.heap.size := HB3.out.size
    clear ha HB3 HL3 HU3
    have CD2 := Lib.hid (CD1.out _ _ _ HU4.out)
    clear CD1
    have a1 : IntKind.i64.wrap ((ps : Int) + 1) = (ps : Int) + 1 := IntWalk.i64_in _ (by omega)
    go_wp2_with fail
    refine CD2.out.mono ?_
    rintro e w5 ⟨v5, rfl, hu5, hg5⟩
    have HB5 := Lib.hid (HB4.out.grown HU4.out hg5 (Nat.le_refl _))
    have ho5 := Other.row HU4.out hg5
    have HL5 := Lib.hid (HL4.out.other ho5 (by decide) (by decide) (by decide))
    have HT5 := Lib.hid (ho5.tbox HT4.out (by decide))
    obtain ⟨uo2, ucap2, rfl⟩ := hu5.shape
    have HU6 := Lib.hid (hu5.other (Other.box HT5.out (i := 1) (.slice uo2 (delU x.units ps).length ucap2)) (by decide))
    have HL6 := Lib.hid (HL5.out.other (Other.box HT5.out (i := 1) (.slice uo2 (delU x.units ps).length ucap2)) (by decide) (by decide) (by decide))
    have HT6 := Lib.hid (HT5.out.set 1 (.slice uo2 (delU x.units ps).length ucap2))
    simp only [List.setIfInBounds_toArray, List.set_cons_succ, List.set_cons_zero] at HT6
    have HB6 := Lib.hid (HB5.out.set hob 1 (.slice uo2 (delU x.units ps).length ucap2))
    have t1 := HT5.out.cell (i := 1) rfl
    have g1 := HT5.out.frozen 1
    have hz5 := HT5.out.lt
    clear hu5 hg5 ho5 CD2 HB4 HL4 HU4 HT4 HB5 HL5 HT5
    go_upto_region 9 with fail
    generalize hW6 : w5.setCell ⟨w3.heap.size, 1, none⟩ (.slice uo2 (delU x.units ps).length ucap2) = w6 at *
    clear hW6 t1 g1 hz5
    have q0 := HT6.out.cell (i := 0) rfl
    have q1 := HT6.out.cell (i := 1) rfl
    have hq6 := HT6.out.lt
    have r0 := HB6.out.res.cell (i := 0) rfl
    have r1 := HB6.out.res.cell (i := 1) rfl
    have fr0 := HB6.out.res.frozen 0
    have fr1 := HB6.out.res.frozen 1
    have hrs := HB6.out.size
    have HE := Lib.hid (show ∀ a b, RigNew B0 w.heap.size ((w6.setCell ⟨w.heap.size + 1, 0, none⟩ a).setCell ⟨w.heap.size + 1, 1, none⟩ b) RR (.slice lo' x.lib.length lcap') (.slice uo2 (delU x.units ps).length ucap2) ∧ Below w.heap.size w ((w6.setCell ⟨w.heap.size + 1, 0, none⟩ a).setCell ⟨w.heap.size + 1, 1, none⟩ b) from fun a b => by
      rw [HV.out.2]
      exact ⟨fun W hW hk => ⟨((HL6.out.res HB6.out.res a b).agree (fun k h1 h2 => hk k (by omega) h2)).prfS, ((HU6.out.res HB6.out.res a b).agree (fun k h1 h2 => hk k (by omega) h2)).untS⟩, HB6.out.done a b⟩)
    clear HU6 HL6 HT6 HB6
    go_wp2_with fail
    exact bodyPost_ret (v := .tuple #[.agg #[.slice lo' x.lib.length lcap', .slice uo2 (delU x.units ps).length ucap2], .int .i64 0]) (by simp [results, Try.results23, go_sem, r0, r1]) rfl ⟨_, _, by rw [HV.out.1], (HE.out _ _).1, (HE.out _ _).2⟩
theorem remove_any (x : Rig) (lv uv : Value) (n : Int) (w : World) (h : RigAt w.heap.size w x lv uv) (hf : RigFit x) (hn : I64 n) :
    Calls Try.prog 23 #[rigV lv uv, .int .i64 n] w fun e w' => ∃ lv' uv', e = .returned (.tuple #[rigV lv' uv', .int .i64 (remF x n)]) ∧ RigAt w'.heap.size w' (remR x n) lv' uv' ∧ Below w.heap.size w w' := by
  refine (remove_new w.heap.size x lv uv n w h (Nat.le_refl _) hf hn).mono ?_
  rintro e w1 ⟨lv1, uv1, h1, h2, h3⟩
  exact ⟨lv1, uv1, h1, h2.at, h3⟩
end Go.Proofs.Ytabalicembhjmaa
