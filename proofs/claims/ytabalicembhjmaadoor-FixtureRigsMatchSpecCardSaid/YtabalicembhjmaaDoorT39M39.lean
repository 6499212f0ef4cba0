/- The reference's copied and Find. (printed by wip/gen/gen_findtop.py) -/
import Derived.Test.YtabalicembhjmaaDoorT39M35
import Derived.Test.YtabalicembhjmaaDoorT39M38
import Derived.Test.YtabalicembhjmaaDoorT39M26

namespace Go.Proofs.YtabalicembhjmaaDoor
open Go.RowKit
set_option linter.unusedVariables false
set_option linter.unusedSimpArgs false
set_option maxRecDepth 100000 in
set_option maxHeartbeats 4000000 in
theorem rparCopied_any (B : Nat) (p : Par) (rv : Value) (w : World) (hB : B ≤ w.heap.size) (h : RngS B w rv p.rngs) (hl : p.rngs.length ≤ 30) :
    Calls Tryd.prog 50 #[.agg #[.string p.name, .int .i64 p.grp, .int .i64 p.sl, .int .i64 p.fine, .int .i64 p.dflt, .bool p.snap, rv]] w fun e w' => ∃ rv', e = .returned (.agg #[.string p.name, .int .i64 p.grp, .int .i64 p.sl, .int .i64 p.fine, .int .i64 p.dflt, .bool p.snap, rv']) ∧ OwnR w.heap.size w' rv' p.rngs ∧ Below w.heap.size w w' := by
  obtain ⟨xn, xg, xs, xf, xd, xb, xl⟩ := p
  simp only at *
  obtain ⟨ro, rcap, rfl, _⟩ := CellsS.shape h
  have ha := ((Below.refl w.heap.size w).alloc (Nat.le_refl _) (.cells #[.string xn, .int .i64 xg, .int .i64 xs, .int .i64 xf, .int .i64 xd, .bool xb, .slice ro xl.length rcap] 46)).alloc (by simp) (.cells #[.string ⟨#[]⟩, .int .i64 0, .int .i64 0, .int .i64 0, .int .i64 0, .bool false, .slice none 0 0] 46)
  have CR := Lib.hid (ranges_clone B (.slice ro xl.length rcap) xl.length (xl.flatMap rngC) _ (Nat.le_trans hB ha.size) (by omega) (rngC_len xl) (one_rngC xl) (rowC_of (h.below (ha.mono hB))))
  have HTP := Lib.hid ((TBox.new w #[.string xn, .int .i64 xg, .int .i64 xs, .int .i64 xf, .int .i64 xd, .bool xb, .slice ro xl.length rcap] 46).alloc (.cells #[.string ⟨#[]⟩, .int .i64 0, .int .i64 0, .int .i64 0, .int .i64 0, .bool false, .slice none 0 0] 46))
  have HTR := Lib.hid (show TBox ((w.alloc (.cells #[.string xn, .int .i64 xg, .int .i64 xs, .int .i64 xf, .int .i64 xd, .bool xb, .slice ro xl.length rcap] 46)).alloc (.cells #[.string ⟨#[]⟩, .int .i64 0, .int .i64 0, .int .i64 0, .int .i64 0, .bool false, .slice none 0 0] 46)) (w.heap.size + 1) 46 #[.string ⟨#[]⟩, .int .i64 0, .int .i64 0, .int .i64 0, .int .i64 0, .bool false, .slice none 0 0] by
    have := TBox.new (w.alloc (.cells #[.string xn, .int .i64 xg, .int .i64 xs, .int .i64 xf, .int .i64 xd, .bool xb, .slice ro xl.length rcap] 46)) #[.string ⟨#[]⟩, .int .i64 0, .int .i64 0, .int .i64 0, .int .i64 0, .bool false, .slice none 0 0] 46
    simpa only [World.size_alloc] using this)
  have HBA := Lib.hid ha
  clear h ha
  go_enter Tryd.func50, Tryd.ntmps50
  go_upto_region 1 with fail
  obtain ⟨w1, hw1⟩ : ∃ w1 : World, w1 = (w.alloc (.cells #[.string xn, .int .i64 xg, .int .i64 xs, .int .i64 xf, .int .i64 xd, .bool xb, .slice ro xl.length rcap] 46)).alloc (.cells #[.string ⟨#[]⟩, .int .i64 0, .int .i64 0, .int .i64 0, .int .i64 0, .bool false, .slice none 0 0] 46) := ⟨_, rfl⟩
  rw [← hw1] at HBA CR HTP HTR ⊢
  clear hw1
  have x6 := HTP.out.cell (i := 6) rfl
  have hx := HTP.out.lt
  go_wp2_with fail
  refine CR.out.mono ?_
  rintro e w4 ⟨v4, rfl, hown, hb⟩
  have HT4 := Lib.hid (HTP.out.below hb)
  have HR4 := Lib.hid (HTR.out.below hb)
  have HB4 := Lib.hid (HBA.out.trans (hb.mono HBA.out.size))
  obtain ⟨ro', rcap', hsh⟩ := own_shape2 hown
  subst hsh
  have HOW := Lib.hid hown
  have hz := HBA.out.size
  clear hown hb CR x6 hx HTP HTR
  have HT5 := Lib.hid (HT4.out.set 6 (.slice ro' xl.length rcap'))
  simp only [List.setIfInBounds_toArray, List.set_cons_succ, List.set_cons_zero] at HT5
  have HO5 := Lib.hid ((Other.box HT4.out (i := 6) (.slice ro' xl.length rcap')).own HOW.out (by decide))
  have HR5 := Lib.hid (HR4.out.setOther (b' := w.heap.size) (i := 6) (by omega) (.slice ro' xl.length rcap'))
  have HB5 := Lib.hid (HB4.out.setCell (p := ⟨w.heap.size, 6, none⟩) (Nat.le_refl _) (.slice ro' xl.length rcap'))
  have x6 := HT4.out.cell (i := 6) rfl
  have f6 := HT4.out.frozen 6
  have hx := HT4.out.lt
  clear HB4 HT4 HOW HR4
  go_upto_region 2 with fail
  generalize hW5 : w4.setCell ⟨w.heap.size, 6, none⟩ (.slice ro' xl.length rcap') = w5 at *
  clear hW5 x6 f6 hx
  have x0 := HT5.out.cell (i := 0) rfl
  have x1 := HT5.out.cell (i := 1) rfl
  have x2 := HT5.out.cell (i := 2) rfl
  have x3 := HT5.out.cell (i := 3) rfl
  have x4 := HT5.out.cell (i := 4) rfl
  have x5 := HT5.out.cell (i := 5) rfl
  have x6 := HT5.out.cell (i := 6) rfl
  have hx5 := HT5.out.lt
  have z0 := HR5.out.cell (i := 0) rfl
  have z1 := HR5.out.cell (i := 1) rfl
  have z2 := HR5.out.cell (i := 2) rfl
  have z3 := HR5.out.cell (i := 3) rfl
  have z4 := HR5.out.cell (i := 4) rfl
  have z5 := HR5.out.cell (i := 5) rfl
  have z6 := HR5.out.cell (i := 6) rfl
  have fz0 := HR5.out.frozen 0
  have fz1 := HR5.out.frozen 1
  have fz2 := HR5.out.frozen 2
  have fz3 := HR5.out.frozen 3
  have fz4 := HR5.out.frozen 4
  have fz5 := HR5.out.frozen 5
  have fz6 := HR5.out.frozen 6
  have hzz := HR5.out.lt
  have HE := Lib.hid (fun u0 u1 u2 u3 u4 u5 u6 => st7_own (own_base HO5.out hz) HR5.out (by decide) u0 u1 u2 u3 u4 u5 u6)
  clear HT5 HO5 HR5
  go_wp2_with fail
  exact bodyPost_ret (v := .agg #[.string xn, .int .i64 xg, .int .i64 xs, .int .i64 xf, .int .i64 xd, .bool xb, .slice ro' xl.length rcap']) (by simp [results, Tryd.results50, go_sem, z0, z1, z2, z3, z4, z5, z6]) rfl ⟨_, rfl, HE.out _ _ _ _ _ _ _, st7_below HB5.out (by omega) _ _ _ _ _ _ _⟩
set_option maxRecDepth 100000 in
set_option maxHeartbeats 8000000 in
theorem rfindTop_any (x : Rig) (lv uv : Value) (n : Int) (nm : ByteArray) (w : World) (h : RigAt w.heap.size w x lv uv) (hf : RigFit x) (hn : I64 n) :
    Calls Tryd.prog 19 #[rigV lv uv, .agg #[.int .i64 n, .string nm]] w fun e w' => ∃ xv, e = .returned (.tuple #[xv, .int .i64 (findF x n nm.data.toList)]) ∧ ParR w'.heap.size w' (findV x n nm.data.toList) xv ∧ Below w.heap.size w w' := by
  have CC := Lib.hid (fun W (hb : Below w.heap.size w W) => rckRig_any x lv uv W ((h.below hb).more hb.size) hf)
  have CF := Lib.hid (fun (hx : chkRig x = 0) W (hb : Below w.heap.size w W) => rfind_any x lv uv w.heap.size n nm W hb.size (h.below hb) hx hn)
  have HR1 := Lib.hid (fun (h : ¬ chkRig x = 0) => find_bad (n := n) (nm := nm.data.toList) h)
  have HR2 := Lib.hid (fun (h : chkRig x = 0) (k : findO x n nm.data.toList = none) => find_none h k)
  have HR3 := Lib.hid (fun (h : chkRig x = 0) (p : Par) (k : findO x n nm.data.toList = some p) => find_some h k)
  have HSZ := Lib.hid (fun (h : chkRig x = 0) (p : Par) (k : findO x n nm.data.toList = some p) => rng_sizes h k)
  obtain ⟨uo, ucap, rfl, _⟩ := CellsS.shape h.units
  obtain ⟨lo, lcap, rfl⟩ := prfS_shape h.lib
  unfold rigV at *
  clear h hf hn
  generalize findF x n nm.data.toList = FF at *
  generalize findV x n nm.data.toList = VV at *
  have HB0 := Lib.hid (FBox.start w (.slice lo x.lib.length lcap) (.slice uo x.units.length ucap) n nm)
  have C1 := Lib.hid (CC.out _ HB0.out.bel)
  clear CC
  go_enter Tryd.func19, Tryd.ntmps19
  go_wp2_with fail
  refine C1.out.mono ?_
  rintro e w1 ⟨rfl, hb⟩
  have HB1 := Lib.hid (HB0.out.next hb)
  clear hb C1 HB0
  by_cases hE : chkRig x = 0
  rotate_left
  · have HV := Lib.hid (show FF = chkRig x ∧ VV = none from HR1.out hE)
    have z0 := HB1.out.res.cell (i := 0) rfl
    have z1 := HB1.out.res.cell (i := 1) rfl
    have z2 := HB1.out.res.cell (i := 2) rfl
    have z3 := HB1.out.res.cell (i := 3) rfl
    have z4 := HB1.out.res.cell (i := 4) rfl
    have z5 := HB1.out.res.cell (i := 5) rfl
    have z6 := HB1.out.res.cell (i := 6) rfl
    have fz0 := HB1.out.res.frozen 0
    have fz1 := HB1.out.res.frozen 1
    have fz2 := HB1.out.res.frozen 2
    have fz3 := HB1.out.res.frozen 3
    have fz4 := HB1.out.res.frozen 4
    have fz5 := HB1.out.res.frozen 5
    have fz6 := HB1.out.res.frozen 6
    have hzz := HB1.out.size
    have HBE := Lib.hid HB1.out.bel
    go_wp2_with fail
    exact bodyPost_ret (v := .tuple #[.agg #[.string ⟨#[]⟩, .int .i64 0, .int .i64 0, .int .i64 0, .int .i64 0, .bool false, .slice none 0 0], .int .i64 (chkRig x)]) (by simp [results, Tryd.results19, go_sem, z0, z1, z2, z3, z4, z5, z6]) rfl ⟨_, by rw [HV.out.1], by rw [HV.out.2]; rfl, st7_below HBE.out (by omega) _ _ _ _ _ _ _⟩
  have p0 := HB1.out.rig.cell (i := 0) rfl
  have p1 := HB1.out.rig.cell (i := 1) rfl
  have k0 := HB1.out.key.cell (i := 0) rfl
  have k1 := HB1.out.key.cell (i := 1) rfl
  have hz1 := HB1.out.size
  have C2 := Lib.hid (CF.out hE _ HB1.out.bel)
  rw [hE]
  clear CF
  go_wp2_with fail
  refine C2.out.mono ?_
  rintro e w2 ⟨xv, rfl, hxr, hb⟩
  have HB2 := Lib.hid (HB1.out.next hb)
  clear hb C2 HB1 p0 p1 k0 k1 hz1
  cases hO : findO x n nm.data.toList with
  | none =>
    have HV := Lib.hid (HR2.out hE hO)
    rw [hO] at hxr
    obtain rfl : xv = .agg #[.string ⟨#[]⟩, .int .i64 0, .int .i64 0, .int .i64 0, .int .i64 0, .bool false, .slice none 0 0] := hxr
    have ha := (Below.refl w2.heap.size w2).alloc (Nat.le_refl _) (.cells #[.string ⟨#[]⟩, .int .i64 0, .int .i64 0, .int .i64 0, .int .i64 0, .bool false, .slice none 0 0] 46)
    have HB3 := Lib.hid (HB2.out.next ha)
    have HBE := Lib.hid HB3.out.bel
    clear ha HR1 HR2 HR3 HSZ hO hE
    go_upto_region 5 with fail
    obtain ⟨w3, hw3⟩ : ∃ w3 : World, w3 = w2.alloc (.cells #[.string ⟨#[]⟩, .int .i64 0, .int .i64 0, .int .i64 0, .int .i64 0, .bool false, .slice none 0 0] 46) := ⟨_, rfl⟩
    rw [← hw3] at HB3 HBE ⊢
    clear hw3 HB2
    have z0 := HB3.out.res.cell (i := 0) rfl
    have z1 := HB3.out.res.cell (i := 1) rfl
    have z2 := HB3.out.res.cell (i := 2) rfl
    have z3 := HB3.out.res.cell (i := 3) rfl
    have z4 := HB3.out.res.cell (i := 4) rfl
    have z5 := HB3.out.res.cell (i := 5) rfl
    have z6 := HB3.out.res.cell (i := 6) rfl
    have fz0 := HB3.out.res.frozen 0
    have fz1 := HB3.out.res.frozen 1
    have fz2 := HB3.out.res.frozen 2
    have fz3 := HB3.out.res.frozen 3
    have fz4 := HB3.out.res.frozen 4
    have fz5 := HB3.out.res.frozen 5
    have fz6 := HB3.out.res.frozen 6
    have hzz := HB3.out.size
    go_wp2_with fail
    exact bodyPost_ret (v := .tuple #[.agg #[.string ⟨#[]⟩, .int .i64 0, .int .i64 0, .int .i64 0, .int .i64 0, .bool false, .slice none 0 0], .int .i64 8]) (by simp [results, Tryd.results19, go_sem, z0, z1, z2, z3, z4, z5, z6]) rfl ⟨_, by rw [HV.out.1], by rw [HV.out.2]; rfl, st7_below HBE.out (by omega) _ _ _ _ _ _ _⟩
  | some p =>
    have HV := Lib.hid (HR3.out hE p hO)
    have hsz := HSZ.out hE p hO
    rw [hO] at hxr
    obtain ⟨rv, rfl, hrv⟩ := hxr
    obtain ⟨ro, rcap, rfl, _⟩ := CellsS.shape hrv
    clear HR1 HR2 HR3 HSZ hO hE
    obtain ⟨xn, xg, xs, xf, xd, xb, xl⟩ := p
    simp only at *
    have ha := (Below.refl w2.heap.size w2).alloc (Nat.le_refl _) (.cells #[.string xn, .int .i64 xg, .int .i64 xs, .int .i64 xf, .int .i64 xd, .bool xb, .slice ro xl.length rcap] 46)
    have HB3 := Lib.hid (HB2.out.next ha)
    have HT3 := Lib.hid (TBox.new w2 #[.string xn, .int .i64 xg, .int .i64 xs, .int .i64 xf, .int .i64 xd, .bool xb, .slice ro xl.length rcap] 46)
    have HRV := Lib.hid (hrv.below (ha.mono (by have := HB2.out.bel.size; omega)))
    have hz2 := HB2.out.size
    clear ha hrv
    go_upto_region 5 with fail
    obtain ⟨w3, hw3⟩ : ∃ w3 : World, w3 = w2.alloc (.cells #[.string xn, .int .i64 xg, .int .i64 xs, .int .i64 xf, .int .i64 xd, .bool xb, .slice ro xl.length rcap] 46) := ⟨_, rfl⟩
    rw [← hw3] at HB3 HT3 HRV ⊢
    clear hw3 HB2
    have x0 := HT3.out.cell (i := 0) rfl
    have x1 := HT3.out.cell (i := 1) rfl
    have x2 := HT3.out.cell (i := 2) rfl
    have x3 := HT3.out.cell (i := 3) rfl
    have x4 := HT3.out.cell (i := 4) rfl
    have x5 := HT3.out.cell (i := 5) rfl
    have x6 := HT3.out.cell (i := 6) rfl
    have hx := HT3.out.lt
    have CCY := Lib.hid (rparCopied_any w.heap.size ⟨xn, xg, xs, xf, xd, xb, xl⟩ (.slice ro xl.length rcap) w3 (HB3.out.bel.size) HRV.out hsz)
    (try simp only at CCY)
    clear HRV HT3
    go_wp2_with fail
    refine CCY.out.mono ?_
    rintro e w4 ⟨v4, rfl, hown, hb⟩
    have HB4 := Lib.hid (HB3.out.next hb)
    obtain ⟨ro', rcap', hsh⟩ := hown.shape
    (try simp only at hsh)
    subst hsh
    have HOW := Lib.hid hown
    clear hown hb CCY x0 x1 x2 x3 x4 x5 x6 hx HB3 hz2
    have z0 := HB4.out.res.cell (i := 0) rfl
    have z1 := HB4.out.res.cell (i := 1) rfl
    have z2 := HB4.out.res.cell (i := 2) rfl
    have z3 := HB4.out.res.cell (i := 3) rfl
    have z4 := HB4.out.res.cell (i := 4) rfl
    have z5 := HB4.out.res.cell (i := 5) rfl
    have z6 := HB4.out.res.cell (i := 6) rfl
    have fz0 := HB4.out.res.frozen 0
    have fz1 := HB4.out.res.frozen 1
    have fz2 := HB4.out.res.frozen 2
    have fz3 := HB4.out.res.frozen 3
    have fz4 := HB4.out.res.frozen 4
    have fz5 := HB4.out.res.frozen 5
    have fz6 := HB4.out.res.frozen 6
    have hzz := HB4.out.size
    have HE := Lib.hid (fun u0 u1 u2 u3 u4 u5 u6 => st7_own HOW.out HB4.out.res (by decide) u0 u1 u2 u3 u4 u5 u6)
    have HBE := Lib.hid HB4.out.bel
    clear HOW HB4
    go_wp2_with fail
    exact bodyPost_ret (v := .tuple #[.agg #[.string xn, .int .i64 xg, .int .i64 xs, .int .i64 xf, .int .i64 xd, .bool xb, .slice ro' xl.length rcap'], .int .i64 0]) (by simp [results, Tryd.results19, go_sem, z0, z1, z2, z3, z4, z5, z6]) rfl ⟨_, by rw [HV.out.1], by rw [HV.out.2]; exact ⟨_, rfl, CellsS.of_own (HE.out _ _ _ _ _ _ _)⟩, st7_below HBE.out (by omega) _ _ _ _ _ _ _⟩
end Go.Proofs.YtabalicembhjmaaDoor
