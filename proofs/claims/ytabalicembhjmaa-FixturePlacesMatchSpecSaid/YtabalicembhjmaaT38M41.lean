/- The reference's Remove. (printed by wip/gen/gen_place.py) The box of a rig that is an argument. (printed by wip/gen/gen_placewalk.py) -/
import Derived.Test.YtabalicembhjmaaT38M37

namespace Go.Proofs.Ytabalicembhjmaa
open Go.RowKit
set_option linter.unusedVariables false
set_option linter.unusedSimpArgs false
set_option maxRecDepth 100000 in
set_option maxHeartbeats 16000000 in
theorem rremove_new (B0 : Nat) (x : Rig) (lv uv : Value) (n : Int) (w : World) (h0 : RigAt B0 w x lv uv) (hB0 : B0 ≤ w.heap.size) (hf : RigFit x) (hn : I64 n) :
    Calls Try.prog 27 #[rigV lv uv, .int .i64 n] w fun e w' => ∃ lv' uv', e = .returned (.tuple #[rigV lv' uv', .int .i64 (remF x n)]) ∧ RigNew B0 w.heap.size w' (remR x n) lv' uv' ∧ Below w.heap.size w w' := by
  have HLL := Lib.hid h0.lib
  have h := h0.more hB0
  have CC := Lib.hid (fun W (hb : Below w.heap.size w W) => rckRig_any x lv uv W ((h.below hb).more hb.size) hf)
  have CU := Lib.hid (fun W (hb : Below w.heap.size w W) => runit_any x lv uv n W ((h.below hb).more hb.size))
  have CP := Lib.hid (fun (hx : chkRig x = 0) W (hb : Below w.heap.size w W) => units_clone w.heap.size uv x.units.length (x.units.flatMap untC) W hb.size (rig_sizes hx).2 (flat_len untC 4 (fun _ => rfl) _) (one_untC' _) (rowC_of (h.units.below hb)))
  have CD := Lib.hid (fun (base : Nat) (v : Value) W (ho : OwnU base W v x.units) (hi : posU x.units n < x.units.length) (hl : x.units.length ≤ 100000) => units_delete base v x.units (posU x.units n) W ho hi hl)
  have HR1 := Lib.hid (fun (h : ¬ chkRig x = 0) => And.intro (remF_bad (n := n) h) (remR_bad (n := n) (by rw [remF_bad h]; exact h)))
  have HR2 := Lib.hid (fun (h : chkRig x = 0) (k : hasU x.units n = false) => And.intro (remF_no h k) (remR_bad (n := n) (by rw [remF_no h k]; decide)))
  have HR3 := Lib.hid (fun (h : chkRig x = 0) (k : hasU x.units n = true) => And.intro (remF_yes h k) (remR_yes (remF_yes h k)))
  have HPP := Lib.hid (fun (h : chkRig x = 0) (k : hasU x.units n = true) => has_pos h k)
  have HIX := Lib.hid (fun (h : chkRig x = 0) => idxU_has (asc_units h) n)
  have H4 := Lib.hid (fun (h : chkRig x = 0) => (chkRig_zero h).2.1)
  obtain ⟨uo, ucap, rfl, _⟩ := CellsS.shape h.units
  obtain ⟨lo, lcap, rfl⟩ := prfS_shape h.lib
  unfold rigV at *
  have HB0 := Lib.hid (RigBox.start w (.slice lo x.lib.length lcap) (.slice uo x.units.length ucap))
  have C1 := Lib.hid (CC.out _ HB0.out.bel)
  clear CC
  clear h h0 hf hn
  generalize remF x n = FF at *
  generalize remR x n = RR at *
  go_enter Try.func27, Try.ntmps27
  go_wp2_with fail
  refine C1.out.mono ?_
  rintro e w1 ⟨rfl, hb⟩
  have HB1 := Lib.hid (HB0.out.next hb)
  clear hb C1 HB0
  have p0 := HB1.out.par.cell (i := 0) rfl
  have p1 := HB1.out.par.cell (i := 1) rfl
  have hz1 := HB1.out.size
  by_cases hE : chkRig x = 0
  rotate_left
  · skip
    have HV := Lib.hid (show FF = (chkRig x) ∧ RR = noRig from HR1.out hE)
    have r0 := HB1.out.res.cell (i := 0) rfl
    have r1 := HB1.out.res.cell (i := 1) rfl
    have fr0 := HB1.out.res.frozen 0
    have fr1 := HB1.out.res.frozen 1
    have hrs := HB1.out.size
    go_wp2_with fail
    exact bodyPost_ret (v := .tuple #[.agg #[.slice none 0 0, .slice none 0 0], .int .i64 (chkRig x)]) (by simp [results, Try.results27, go_sem, r0, r1]) rfl ⟨.slice none 0 0, .slice none 0 0, by rw [HV.out.1], by rw [HV.out.2]; exact fun _ _ _ => noRig_at _ _, HB1.out.done _ _⟩
  rw [hE]
  have CU1 := Lib.hid (CU.out _ HB1.out.bel)
  clear CU
  go_wp2_with fail
  refine CU1.out.mono ?_
  rintro e w2 ⟨rfl, hb⟩
  have HB2 := Lib.hid (HB1.out.next hb)
  clear hb CU1 p0 p1 hz1
  have p0 := HB2.out.par.cell (i := 0) rfl
  have p1 := HB2.out.par.cell (i := 1) rfl
  have hz2 := HB2.out.size
  cases hH : hasU x.units n with
  | false =>
    rw [(HIX.out hE).2 hH]
    have HV := Lib.hid (show FF = 8 ∧ RR = noRig from HR2.out hE hH)
    have r0 := HB2.out.res.cell (i := 0) rfl
    have r1 := HB2.out.res.cell (i := 1) rfl
    have fr0 := HB2.out.res.frozen 0
    have fr1 := HB2.out.res.frozen 1
    have hrs := HB2.out.size
    go_wp2_with fail
    exact bodyPost_ret (v := .tuple #[.agg #[.slice none 0 0, .slice none 0 0], .int .i64 8]) (by simp [results, Try.results27, go_sem, r0, r1]) rfl ⟨.slice none 0 0, .slice none 0 0, by rw [HV.out.1], by rw [HV.out.2]; exact fun _ _ _ => noRig_at _ _, HB2.out.done _ _⟩
  | true =>
    obtain ⟨hp1, hp2, hp3⟩ := HPP.out hE hH
    rw [(HIX.out hE).1 hH]
    have HV := Lib.hid (HR3.out hE hH)
    have CP1 := Lib.hid (CP.out hE _ HB2.out.bel)
    have CD1 := Lib.hid (fun (base : Nat) (v : Value) W (ho : OwnU base W v x.units) => CD.out base v W ho hp1 (by have := H4.out hE; omega))
    have hun := H4.out hE
    clear CP CD HR1 HR2 HR3 HPP H4 hE hH
    generalize hps : posU x.units n = ps at *
    clear hps
    go_wp2_with fail
    refine CP1.out.mono ?_
    rintro e w3 ⟨v3, rfl, hown, hb⟩
    have HB3 := Lib.hid (HB2.out.next hb)
    have HU3 := Lib.hid (show OwnU (w.heap.size + 2) w3 v3 x.units from own_base hown HB2.out.size)
    obtain ⟨uo', ucap', rfl⟩ := HU3.out.shape
    clear hb CP1 hown p0 p1 hz2
    have CD2 := Lib.hid (CD1.out _ _ _ HU3.out)
    clear CD1
    have a1 : IntKind.i64.wrap ((ps : Int) + 1) = (ps : Int) + 1 := IntWalk.i64_in _ (by omega)
    go_wp2_with fail
    refine CD2.out.mono ?_
    rintro e w5 ⟨v5, rfl, hu5, hg5⟩
    have HB5 := Lib.hid (HB3.out.grown HU3.out hg5 (Nat.le_refl _))
    obtain ⟨uo2, ucap2, rfl⟩ := hu5.shape
    have HU6 := Lib.hid (hu5.other (Other.box HB5.out.par (i := 1) (.slice uo2 (delU x.units ps).length ucap2)) (by decide))
    have HP6 := Lib.hid (HB5.out.par.set 1 (.slice uo2 (delU x.units ps).length ucap2))
    simp only [List.setIfInBounds_toArray, List.set_cons_succ, List.set_cons_zero] at HP6
    have hne : TBox (w5.setCell ⟨w.heap.size, 1, none⟩ (.slice uo2 (delU x.units ps).length ucap2)) (w.heap.size + 1) 25 #[.slice none 0 0, .slice none 0 0] := (Below.heap_setCell w5 ⟨w.heap.size, 1, none⟩ _ (w.heap.size + 1) (by simp)).trans HB5.out.res
    have HR6 := Lib.hid hne
    have HBL := Lib.hid (HB5.out.bel.setCell (p := ⟨w.heap.size, 1, none⟩) (Nat.le_refl _) (.slice uo2 (delU x.units ps).length ucap2))
    have p1 := HB5.out.par.cell (i := 1) rfl
    have f1 := HB5.out.par.frozen 1
    have hz5 := HB5.out.size
    clear hne hu5 hg5 CD2 HU3 HB3
    go_upto_region 8 with fail
    generalize hW6 : w5.setCell ⟨w.heap.size, 1, none⟩ (.slice uo2 (delU x.units ps).length ucap2) = w6 at *
    have hz6 : w.heap.size + 2 ≤ w6.heap.size := by rw [← hW6]; simpa using hz5
    clear hW6 p1 f1 hz5 HB5
    have q0 := HP6.out.cell (i := 0) rfl
    have q1 := HP6.out.cell (i := 1) rfl
    have r0 := HR6.out.cell (i := 0) rfl
    have r1 := HR6.out.cell (i := 1) rfl
    have fr0 := HR6.out.frozen 0
    have fr1 := HR6.out.frozen 1
    have HE := Lib.hid (show ∀ a b, RigNew B0 w.heap.size ((w6.setCell ⟨w.heap.size + 1, 0, none⟩ a).setCell ⟨w.heap.size + 1, 1, none⟩ b) RR (.slice lo x.lib.length lcap) (.slice uo2 (delU x.units ps).length ucap2) ∧ Below w.heap.size w ((w6.setCell ⟨w.heap.size + 1, 0, none⟩ a).setCell ⟨w.heap.size + 1, 1, none⟩ b) from fun a b => by
      have hbl := (HBL.out.setCell (p := ⟨w.heap.size + 1, 0, none⟩) (by simp) a).setCell (p := ⟨w.heap.size + 1, 1, none⟩) (by simp) b
      rw [HV.out.2]
      exact ⟨fun W hW hk => ⟨(HLL.out.below ((hbl.mono hB0).trans hW)).more (Nat.le_trans hB0 (Nat.le_trans hbl.size hW.size)), ((HU6.out.res HR6.out a b).agree (fun k h1 h2 => hk k (by omega) h2)).untS⟩, hbl⟩)
    clear HU6 HP6 HR6 HBL HLL
    go_wp2_with fail
    exact bodyPost_ret (v := .tuple #[.agg #[.slice lo x.lib.length lcap, .slice uo2 (delU x.units ps).length ucap2], .int .i64 0]) (by simp [results, Try.results27, go_sem, r0, r1]) rfl ⟨_, _, by rw [HV.out.1], (HE.out _ _).1, (HE.out _ _).2⟩
theorem rremove_any (x : Rig) (lv uv : Value) (n : Int) (w : World) (h : RigAt w.heap.size w x lv uv) (hf : RigFit x) (hn : I64 n) :
    Calls Try.prog 27 #[rigV lv uv, .int .i64 n] w fun e w' => ∃ lv' uv', e = .returned (.tuple #[rigV lv' uv', .int .i64 (remF x n)]) ∧ RigAt w'.heap.size w' (remR x n) lv' uv' ∧ Below w.heap.size w w' := by
  refine (rremove_new w.heap.size x lv uv n w h (Nat.le_refl _) hf hn).mono ?_
  rintro e w1 ⟨lv1, uv1, h1, h2, h3⟩
  exact ⟨lv1, uv1, h1, h2.at, h3⟩
end Go.Proofs.Ytabalicembhjmaa

namespace Go.Proofs.Ytabalicembhjmaa
open Go.RowKit
set_option linter.unusedVariables false
set_option linter.unusedSimpArgs false
/-- the box of a rig's argument -/
def RBox (w : World) (lv uv : Value) (W : World) : Prop := Below (w.heap.size + 1) (w.alloc (.cells #[lv, uv] 25)) W
theorem RBox.start (w : World) (lv uv : Value) : RBox w lv uv (w.alloc (.cells #[lv, uv] 25)) := Below.refl _ _
theorem RBox.size {w W : World} {lv uv : Value} (h : RBox w lv uv W) : w.heap.size + 1 ≤ W.heap.size := by
  have := Below.size h
  simp at this
  omega
theorem RBox.bel {w W : World} {lv uv : Value} (h : RBox w lv uv W) : Below w.heap.size w W := ((Below.refl _ _).alloc (Nat.le_refl _) _).trans (Below.mono h (by omega))
theorem RBox.next {w W W1 : World} {lv uv : Value} (h : RBox w lv uv W) (hb : Below W.heap.size W W1) : RBox w lv uv W1 := Below.trans h (hb.mono h.size)
theorem RBox.par {w W : World} {lv uv : Value} (h : RBox w lv uv W) : TBox W w.heap.size 25 #[lv, uv] := (Below.block h w.heap.size (by omega)).trans (TBox.new w #[lv, uv] 25)
theorem RBox.set {w W : World} {lv uv : Value} (h : RBox w lv uv W) {b : Nat} (hb : w.heap.size + 1 ≤ b) (i : Nat) (u : Value) : RBox w lv uv (W.setCell ⟨b, i, none⟩ u) := Below.setCell h (p := ⟨b, i, none⟩) hb u
theorem rig_shape {B : Nat} {w : World} {x : Rig} {lv uv : Value} (h : RigAt B w x lv uv) : ∃ lo lcap uo ucap, lv = .slice lo x.lib.length lcap ∧ uv = .slice uo x.units.length ucap := by
  obtain ⟨uo, ucap, e1, _⟩ := CellsS.shape h.units
  obtain ⟨lo, lcap, e2⟩ := prfS_shape h.lib
  exact ⟨lo, lcap, uo, ucap, e2, e1⟩
end Go.Proofs.Ytabalicembhjmaa
