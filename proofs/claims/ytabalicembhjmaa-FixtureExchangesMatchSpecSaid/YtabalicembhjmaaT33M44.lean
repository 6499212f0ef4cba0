/- The box of a rig that is an argument. (printed by wip/gen/gen_placewalk.py) sameParam at alike parameters. (printed by wip/gen/gen_same.py) slices.EqualFunc at alike parameters. (printed by wip/gen/gen_same.py) sameProfile, sameLibrary, sameRig at alike ones. (printed by wip/gen/gen_same.py) sameRig at alike rigs. (printed by wip/gen/gen_same.py) The walk of cycloramalaw2.FixtureExchangesMatchSpec. (printed by wip/gen/gen_exmatch.py) -/
import Derived.Test.YtabalicembhjmaaT33M18
import Derived.Test.YtabalicembhjmaaT33M06
import Derived.Test.YtabalicembhjmaaT33M05
import Derived.Test.YtabalicembhjmaaT33M19
import Derived.Test.YtabalicembhjmaaT33M16
import Derived.Test.YtabalicembhjmaaT33M28
import Derived.Test.YtabalicembhjmaaT33M43
import Derived.Test.YtabalicembhjmaaT33M25
import Derived.Test.YtabalicembhjmaaT33M17
import Derived.Test.YtabalicembhjmaaT33M15

namespace Go.Proofs.Ytabalicembhjmaa
open Go.RowKit
set_option linter.unusedVariables false
set_option linter.unusedSimpArgs false
/-- the box of a rig's argument -/
def RBox (w : World) (lv uv : Value) (W : World) : Prop := Below (w.heap.size + 1) (w.alloc (.cells #[lv, uv] 25)) W
theorem RBox.start (w : World) (lv uv : Value) : RBox w lv uv (w.alloc (.cells #[lv, uv] 25)) := Below.refl _ _
theorem RBox.size {w W : World} {lv uv : Value} (h : RBox w lv uv W) : w.heap.size + 1 ≤ W.heap.size := by
  have := Below.size h
  simp at this
  omega
theorem RBox.bel {w W : World} {lv uv : Value} (h : RBox w lv uv W) : Below w.heap.size w W := ((Below.refl _ _).alloc (Nat.le_refl _) _).trans (Below.mono h (by omega))
theorem RBox.next {w W W1 : World} {lv uv : Value} (h : RBox w lv uv W) (hb : Below W.heap.size W W1) : RBox w lv uv W1 := Below.trans h (hb.mono h.size)
theorem RBox.par {w W : World} {lv uv : Value} (h : RBox w lv uv W) : TBox W w.heap.size 25 #[lv, uv] := (Below.block h w.heap.size (by omega)).trans (TBox.new w #[lv, uv] 25)
theorem RBox.set {w W : World} {lv uv : Value} (h : RBox w lv uv W) {b : Nat} (hb : w.heap.size + 1 ≤ b) (i : Nat) (u : Value) : RBox w lv uv (W.setCell ⟨b, i, none⟩ u) := Below.setCell h (p := ⟨b, i, none⟩) hb u
theorem rig_shape {B : Nat} {w : World} {x : Rig} {lv uv : Value} (h : RigAt B w x lv uv) : ∃ lo lcap uo ucap, lv = .slice lo x.lib.length lcap ∧ uv = .slice uo x.units.length ucap := by
  obtain ⟨uo, ucap, e1, _⟩ := CellsS.shape h.units
  obtain ⟨lo, lcap, e2⟩ := prfS_shape h.lib
  exact ⟨lo, lcap, uo, ucap, e2, e1⟩
end Go.Proofs.Ytabalicembhjmaa

namespace Go.Proofs.Ytabalicembhjmaa
open Go.RowKit
set_option linter.unusedVariables false
set_option linter.unusedSimpArgs false

set_option maxRecDepth 100000 in
set_option maxHeartbeats 2000000 in
theorem sameParam_any (x : Par) (v u : Value) (w : World) (hv : RngS w.heap.size w v x.rngs) (hu : RngS w.heap.size w u x.rngs) :
    Calls Try.prog 106 #[.agg #[.string x.name, .int .i64 x.grp, .int .i64 x.sl, .int .i64 x.fine, .int .i64 x.dflt, .bool x.snap, v], .agg #[.string x.name, .int .i64 x.grp, .int .i64 x.sl, .int .i64 x.fine, .int .i64 x.dflt, .bool x.snap, u]] w fun e w' => e = .returned (.bool true) ∧ Below w.heap.size w w' := by
  have CE := Lib.hid (fun W (hb : Below w.heap.size w W) => ranges_equal v u x.rngs W ((hv.below hb).more hb.size) ((hu.below hb).more hb.size))
  obtain ⟨xn, xg, xs, xf, xd, xb, xl⟩ := x
  simp only at *
  obtain ⟨vo, vcap, rfl⟩ := rngS_shape hv
  obtain ⟨uo, ucap, rfl⟩ := rngS_shape hu
  clear hv hu
  have hB2 : Below w.heap.size w ((w.alloc (.cells #[.string xn, .int .i64 xg, .int .i64 xs, .int .i64 xf, .int .i64 xd, .bool xb, .slice vo xl.length vcap] 42)).alloc (.cells #[.string xn, .int .i64 xg, .int .i64 xs, .int .i64 xf, .int .i64 xd, .bool xb, .slice uo xl.length ucap] 42)) := ((Below.refl _ _).alloc (Nat.le_refl _) _).alloc (by simp) _
  have CE1 := Lib.hid (CE.out _ hB2)
  have HB2 := Lib.hid hB2
  clear CE hB2
  go_enter Try.func106, Try.ntmps106
  go_wp2_with fail
  refine CE1.out.mono ?_
  rintro e w1 ⟨rfl, hb⟩
  have HB := Lib.hid (HB2.out.trans (hb.mono HB2.out.size))
  clear hb CE1
  go_wp2_with fail
  go_ret
  exact ⟨by simp, HB.out⟩
end Go.Proofs.Ytabalicembhjmaa

namespace Go.Proofs.Ytabalicembhjmaa
open Go.RowKit
set_option linter.unusedVariables false
set_option linter.unusedSimpArgs false

theorem sameParam_call (args : Array Value) (W : World) : Sem.run Try.prog (callFunc 106 args) W = .ok (.enter 106 args) W := by simp [go_sem]
set_option maxRecDepth 100000 in
set_option maxHeartbeats 4000000 in
theorem params_same (v u : Value) (l : List Par) (w : World) (hv : ParS w.heap.size w v l) (hu : ParS w.heap.size w u l) :
    Calls Try.prog 105 #[v, u, .func (.func 106) #[] #[]] w fun e w' => e = .returned (.bool true) ∧ Below w.heap.size w w' := by
  have HX := Lib.hid (ParS.get hv)
  have HY := Lib.hid (ParS.get hu)
  obtain ⟨ao, cap, rfl⟩ := parS_shape hv
  obtain ⟨bo, cap2, rfl⟩ := parS_shape hu
  have hl := parS_cap hv
  have hcf := sameParam_call
  clear hv hu
  go_enter Try.func105, Try.ntmps105
  go_wp2_with fail
  go_loopw [17] (fun i wx => ∃ k : Nat, k ≤ l.length ∧ i = .int .i64 k ∧ Hid (Below w.heap.size w wx)) (fun i _ => l.length - (intOf i).toNat)
  case atStart => exact ⟨0, Nat.zero_le _, rfl, Lib.hid (Below.refl _ _)⟩
  case round =>
    obtain ⟨k, hk, rfl, HBW⟩ := hrel
    have hzr := HBW.out.size
    by_cases hlt : k < l.length
    · obtain ⟨b, off, _, e0, hbb, _, hc⟩ := HX.out (by omega)
      injection e0 with e1 _ e3
      subst e1 e3
      obtain ⟨b', off', _, e0, hbb', _, hc'⟩ := HY.out (by omega)
      injection e0 with e1 _ e3
      subst e1 e3
      obtain ⟨rv, hrv, hcc⟩ := hc k hlt
      obtain ⟨sv, hsv, hcc'⟩ := hc' k hlt
      obtain ⟨c0, c1, c2, c3, c4, c5, c6⟩ := hcc wr HBW.out
      obtain ⟨d0, d1, d2, d3, d4, d5, d6⟩ := hcc' wr HBW.out
      have hbr : b < wr.heap.size := by omega
      have hbr' : b' < wr.heap.size := by omega
      obtain ⟨ro, rcap, rfl⟩ := rngS_shape hrv
      obtain ⟨so, scap, rfl⟩ := rngS_shape hsv
      have CS := Lib.hid (fun W (hb : Below w.heap.size w W) => sameParam_any l[k] _ _ W ((hrv.below hb).more hb.size) ((hsv.below hb).more hb.size))
      clear hc hc' hcc hcc' hrv hsv
      generalize hrk : l[k] = rk at *
      clear hrk
      obtain ⟨xn, xg, xs, xf, xd, xb, xl⟩ := rk
      simp only at *
      have HBX := Lib.hid ((HBW.out.alloc hzr (.cells #[.string xn, .int .i64 xg, .int .i64 xs, .int .i64 xf, .int .i64 xd, .bool xb, .slice ro xl.length rcap] 42)).alloc (by simp; omega) (.cells #[.string xn, .int .i64 xg, .int .i64 xs, .int .i64 xf, .int .i64 xd, .bool xb, .slice so xl.length scap] 42))
      have CX := Lib.hid (CS.out _ HBX.out)
      clear CS
      go_wp2_with fail
      refine CX.out.mono ?_
      rintro e w1 ⟨rfl, hb⟩
      have HB1 := Lib.hid (HBX.out.trans (hb.mono HBX.out.size))
      clear hb CX
      go_wp2_with fail
      go_roundw
      case rel => exact ⟨k + 1, by omega, by go_num, HB1⟩
      case measure => simp [intOf]; omega
    · obtain rfl : k = l.length := by omega
      go_wp2_with fail
      go_ret
      exact ⟨rfl, HBW.out⟩
end Go.Proofs.Ytabalicembhjmaa

namespace Go.Proofs.Ytabalicembhjmaa
open Go.RowKit
set_option linter.unusedVariables false
set_option linter.unusedSimpArgs false

set_option maxRecDepth 100000 in
set_option maxHeartbeats 2000000 in
theorem sameProfile_any (p : Prf) (v u : Value) (w : World) (hv : ParS w.heap.size w v p.pars) (hu : ParS w.heap.size w u p.pars) :
    Calls Try.prog 89 #[.agg #[.string p.name, .int .i64 p.size, v], .agg #[.string p.name, .int .i64 p.size, u]] w fun e w' => e = .returned (.bool true) ∧ Below w.heap.size w w' := by
  have CE := Lib.hid (fun W (hb : Below w.heap.size w W) => params_same v u p.pars W ((hv.below hb).more hb.size) ((hu.below hb).more hb.size))
  obtain ⟨pn, pz, pl⟩ := p
  simp only at *
  obtain ⟨vo, vcap, rfl⟩ := parS_shape hv
  obtain ⟨uo, ucap, rfl⟩ := parS_shape hu
  clear hv hu
  have hB2 : Below w.heap.size w ((w.alloc (.cells #[.string pn, .int .i64 pz, .slice vo pl.length vcap] 70)).alloc (.cells #[.string pn, .int .i64 pz, .slice uo pl.length ucap] 70)) := ((Below.refl _ _).alloc (Nat.le_refl _) _).alloc (by simp) _
  have CE1 := Lib.hid (CE.out _ hB2)
  have HB2 := Lib.hid hB2
  clear CE hB2
  go_enter Try.func89, Try.ntmps89
  go_wp2_with fail
  refine CE1.out.mono ?_
  rintro e w1 ⟨rfl, hb⟩
  have HB := Lib.hid (HB2.out.trans (hb.mono HB2.out.size))
  clear hb CE1
  go_wp2_with fail
  go_ret
  exact ⟨by simp, HB.out⟩
theorem sameProfile_call (args : Array Value) (W : World) : Sem.run Try.prog (callFunc 89 args) W = .ok (.enter 89 args) W := by simp [go_sem]
set_option maxRecDepth 100000 in
set_option maxHeartbeats 4000000 in
theorem profiles_same (v u : Value) (l : List Prf) (w : World) (hv : PrfS w.heap.size w v l) (hu : PrfS w.heap.size w u l) :
    Calls Try.prog 88 #[v, u, .func (.func 89) #[] #[]] w fun e w' => e = .returned (.bool true) ∧ Below w.heap.size w w' := by
  have HX := Lib.hid (PrfS.get hv)
  have HY := Lib.hid (PrfS.get hu)
  obtain ⟨ao, cap, rfl⟩ := prfS_shape hv
  obtain ⟨bo, cap2, rfl⟩ := prfS_shape hu
  have hl := prfS_cap hv
  have hcf := sameProfile_call
  clear hv hu
  go_enter Try.func88, Try.ntmps88
  go_wp2_with fail
  go_loopw [17] (fun i wx => ∃ k : Nat, k ≤ l.length ∧ i = .int .i64 k ∧ Hid (Below w.heap.size w wx)) (fun i _ => l.length - (intOf i).toNat)
  case atStart => exact ⟨0, Nat.zero_le _, rfl, Lib.hid (Below.refl _ _)⟩
  case round =>
    obtain ⟨k, hk, rfl, HBW⟩ := hrel
    have hzr := HBW.out.size
    by_cases hlt : k < l.length
    · obtain ⟨b, off, _, e0, hbb, _, hc⟩ := HX.out (by omega)
      injection e0 with e1 _ e3
      subst e1 e3
      obtain ⟨b', off', _, e0, hbb', _, hc'⟩ := HY.out (by omega)
      injection e0 with e1 _ e3
      subst e1 e3
      obtain ⟨rv, hrv, hcc⟩ := hc k hlt
      obtain ⟨sv, hsv, hcc'⟩ := hc' k hlt
      obtain ⟨c0, c1, c2⟩ := hcc wr HBW.out
      obtain ⟨d0, d1, d2⟩ := hcc' wr HBW.out
      have hbr : b < wr.heap.size := by omega
      have hbr' : b' < wr.heap.size := by omega
      obtain ⟨ro, rcap, rfl⟩ := parS_shape hrv
      obtain ⟨so, scap, rfl⟩ := parS_shape hsv
      have CS := Lib.hid (fun W (hb : Below w.heap.size w W) => sameProfile_any l[k] _ _ W ((hrv.below hb).more hb.size) ((hsv.below hb).more hb.size))
      clear hc hc' hcc hcc' hrv hsv
      generalize hrk : l[k] = rk at *
      clear hrk
      obtain ⟨pn, pz, pl⟩ := rk
      simp only at *
      have HBX := Lib.hid ((HBW.out.alloc hzr (.cells #[.string pn, .int .i64 pz, .slice ro pl.length rcap] 70)).alloc (by simp; omega) (.cells #[.string pn, .int .i64 pz, .slice so pl.length scap] 70))
      have CX := Lib.hid (CS.out _ HBX.out)
      clear CS
      go_wp2_with fail
      refine CX.out.mono ?_
      rintro e w1 ⟨rfl, hb⟩
      have HB1 := Lib.hid (HBX.out.trans (hb.mono HBX.out.size))
      clear hb CX
      go_wp2_with fail
      go_roundw
      case rel => exact ⟨k + 1, by omega, by go_num, HB1⟩
      case measure => simp [intOf]; omega
    · obtain rfl : k = l.length := by omega
      go_wp2_with fail
      go_ret
      exact ⟨rfl, HBW.out⟩
set_option maxHeartbeats 2000000 in
theorem sameLibrary_any (v u : Value) (l : List Prf) (w : World) (hv : PrfS w.heap.size w v l) (hu : PrfS w.heap.size w u l) :
    Calls Try.prog 58 #[v, u] w fun e w' => e = .returned (.bool true) ∧ Below w.heap.size w w' := by
  have CE := Lib.hid (profiles_same v u l w hv hu)
  obtain ⟨vo, vcap, rfl⟩ := prfS_shape hv
  obtain ⟨uo, ucap, rfl⟩ := prfS_shape hu
  clear hv hu
  go_enter Try.func58, Try.ntmps58
  go_wp2_with fail
  refine CE.out.mono ?_
  rintro e w1 ⟨rfl, hb⟩
  have HB := Lib.hid hb
  clear hb CE
  go_wp2_with fail
  go_ret
  exact ⟨rfl, HB.out⟩
end Go.Proofs.Ytabalicembhjmaa

namespace Go.Proofs.Ytabalicembhjmaa
open Go.RowKit
set_option linter.unusedVariables false
set_option linter.unusedSimpArgs false

set_option maxRecDepth 100000 in
set_option maxHeartbeats 2000000 in
theorem sameRig_any (x : Rig) (lv uv lv2 uv2 : Value) (w : World) (h : RigAt w.heap.size w x lv uv) (h2 : RigAt w.heap.size w x lv2 uv2) :
    Calls Try.prog 19 #[rigV lv uv, rigV lv2 uv2] w fun e w' => e = .returned (.bool true) ∧ Below w.heap.size w w' := by
  have CL := Lib.hid (fun W (hb : Below w.heap.size w W) => sameLibrary_any lv lv2 x.lib W ((h.lib.below hb).more hb.size) ((h2.lib.below hb).more hb.size))
  have CU := Lib.hid (fun W (hb : Below w.heap.size w W) => units_equal uv uv2 x.units W ((h.units.below hb).more hb.size) ((h2.units.below hb).more hb.size))
  obtain ⟨ra, rb, rfl⟩ := prfS_shape h.lib
  obtain ⟨sa, sb, rfl⟩ := prfS_shape h2.lib
  obtain ⟨rc, rd, rfl, _⟩ := CellsS.shape h.units
  obtain ⟨sc, sd, rfl, _⟩ := CellsS.shape h2.units
  unfold rigV
  clear h h2
  have HB2 := Lib.hid (show Below w.heap.size w ((w.alloc (.cells #[.slice ra x.lib.length rb, .slice rc x.units.length rd] 25)).alloc (.cells #[.slice sa x.lib.length sb, .slice sc x.units.length sd] 25)) from ((Below.refl _ _).alloc (Nat.le_refl _) _).alloc (by simp) _)
  have CL1 := Lib.hid (CL.out _ HB2.out)
  clear CL
  go_enter Try.func19, Try.ntmps19
  go_wp2_with fail
  refine CL1.out.mono ?_
  rintro e w1 ⟨rfl, hb⟩
  have HB := Lib.hid (HB2.out.trans (hb.mono HB2.out.size))
  have CU1 := Lib.hid (CU.out _ HB.out)
  have c1 : w1.cell? ⟨w.heap.size, 1, none⟩ = some (.slice rc x.units.length rd) := (hb.cell (p := ⟨w.heap.size, 1, none⟩) (by simp; omega)).trans (by simp [go_sem, World.cell?_alloc_past])
  have d1 : w1.cell? ⟨w.heap.size + 1, 1, none⟩ = some (.slice sc x.units.length sd) := (hb.cell (p := ⟨w.heap.size + 1, 1, none⟩) (by simp)).trans (by simp [go_sem])
  clear hb CL1 CU
  go_wp2_with fail
  refine CU1.out.mono ?_
  rintro e w2 ⟨rfl, hb⟩
  have HC := Lib.hid (HB.out.trans (hb.mono HB.out.size))
  clear hb CU1
  go_wp2_with fail
  go_ret
  exact ⟨by simp, HC.out⟩
end Go.Proofs.Ytabalicembhjmaa

namespace Go.Proofs.Ytabalicembhjmaa.fixtureExchangesMatchSpec
open Go.RowKit
set_option linter.unusedVariables false
set_option linter.unusedSimpArgs false

theorem keyRS_nil (B : Nat) (w : World) : KeyRS B w (.slice none 0 0) [] := CellsS.nil _ _
theorem stgS_nil (B : Nat) (w : World) : StgS B w (.slice none 0 0) [] := CellsS.nil _ _
/-- both answers say the same rig, settings and keys -/
theorem exR_all (x : Rig) (n : Int) (nm : ByteArray) (l : List Stg) : ∃ (X : Rig) (K : List Stg) (Q : List KeyR), ∀ (w' : World) (lv uv kv qv : Value), ExR w' x n nm l lv uv kv qv →
    RigAt w'.heap.size w' X lv uv ∧ StgS w'.heap.size w' kv K ∧ KeyRS w'.heap.size w' qv Q := by
  by_cases h0 : exF x n nm l = 0
  · by_cases h : ∃ (hk : posU x.units n < x.units.length) (p old : Prf) (r : Int × Int), profOf x.lib nm.data.toList = some p ∧ profOf x.lib (x.units[posU x.units n]'hk).nm = some old ∧ exAt x n p.size (x.units[posU x.units n]'hk) = some r
    · obtain ⟨hk, p, old, r, e1, e2, e3⟩ := h
      refine ⟨setUn x n ⟨n, nm, r.1, r.2⟩, keptS n old p l, keyRs (lostS n old p l), ?_⟩
      rintro w' lv uv kv qv ⟨_, hg⟩
      obtain ⟨hk', p', old', r', _, f1, f2, f3, h1, h2, h3⟩ := hg h0
      obtain rfl : p' = p := Option.some.inj (f1.symm.trans e1)
      obtain rfl : old' = old := Option.some.inj (f2.symm.trans e2)
      obtain rfl : r' = r := Option.some.inj (f3.symm.trans e3)
      exact ⟨h1, h2, h3⟩
    · refine ⟨noRig, [], [], ?_⟩
      rintro w' lv uv kv qv ⟨_, hg⟩
      obtain ⟨hk', p', old', r', _, f1, f2, f3, _⟩ := hg h0
      exact absurd ⟨hk', p', old', r', f1, f2, f3⟩ h
  · refine ⟨noRig, [], [], ?_⟩
    rintro w' lv uv kv qv ⟨hb, _⟩
    obtain ⟨rfl, rfl, rfl, rfl⟩ := hb h0
    exact ⟨noRig_at _ _, stgS_nil _ _, keyRS_nil _ _⟩
set_option maxRecDepth 100000 in
set_option maxHeartbeats 16000000 in
theorem walk (a0 : Value) (a1 : Int) (a2 : ByteArray) (a3 : Value) (w : World) (w0 : RigW w a0) (w1 : (Lit.int .i64 a1).wf = true) (w2 : a2.size ≤ maxLen) (w3 : StgW w a3) :
    Calls Try.prog 5 #[a0, .int .i64 a1, .string a2, a3] w fun e w' => e = .returned (.bool true) ∧ Below w.heap.size w w' := by
  obtain ⟨x, lv, uv, rfl, hx, hf⟩ := w0
  obtain ⟨l, hl, hfl⟩ := w3
  have hn : I64 a1 := i64_of_wf w1
  obtain ⟨X, K, Q, hE⟩ := exR_all x a1 a2 l
  have HE := Lib.hid hE
  have CX := Lib.hid (fun W (hb : Below w.heap.size w W) => exchange_any x lv uv a3 a1 a2 l W ((hx.below hb).more hb.size) hf hn ((hl.below hb).more hb.size) hfl)
  have CR := Lib.hid (fun W (hb : Below w.heap.size w W) => rexchange_any x lv uv a3 a1 a2 l W ((hx.below hb).more hb.size) hf hn ((hl.below hb).more hb.size) hfl)
  obtain ⟨lo, lcap, uo, ucap, rfl, rfl⟩ := rig_shape hx
  obtain ⟨so, scap, rfl, _⟩ := CellsS.shape hl
  clear hx hf hl hfl w1 w2 hE
  unfold rigV at *
  generalize exF x a1 a2 l = FF at *
  have HB0 := Lib.hid (RBox.start w (.slice lo x.lib.length lcap) (.slice uo x.units.length ucap))
  have C1 := Lib.hid (CX.out _ HB0.out.bel)
  clear CX
  go_enter Try.func5, Try.ntmps5
  go_wp2_with fail
  refine C1.out.mono ?_
  rintro e wA ⟨lv1, uv1, kv, qv, rfl, hX, hb⟩
  obtain ⟨hR, hS, hK⟩ := HE.out _ _ _ _ _ hX
  have HB1 := Lib.hid (HB0.out.next hb)
  obtain ⟨lo1, lcap1, uo1, ucap1, rfl, rfl⟩ := rig_shape hR
  obtain ⟨ko, kc, rfl, _⟩ := CellsS.shape hS
  obtain ⟨qo, qc, rfl, _⟩ := CellsS.shape hK
  have ha := (Below.refl wA.heap.size wA).alloc (Nat.le_refl _) (.cells #[.slice lo1 X.lib.length lcap1, .slice uo1 X.units.length ucap1] 25)
  have HB2 := Lib.hid (HB1.out.next ha)
  have HT2 := Lib.hid (TBox.new wA #[.slice lo1 X.lib.length lcap1, .slice uo1 X.units.length ucap1] 25)
  have HR1 := Lib.hid ((hR.below ha).more ha.size)
  have HS1 := Lib.hid ((hS.below ha).more ha.size)
  have HK1 := Lib.hid ((hK.below ha).more ha.size)
  clear hb hX hR hS hK ha C1 HB0 HB1
  go_upto_region 2 with fail
  obtain ⟨w4, hw4⟩ : ∃ w4 : World, w4 = wA.alloc (.cells #[.slice lo1 X.lib.length lcap1, .slice uo1 X.units.length ucap1] 25) := ⟨_, rfl⟩
  rw [← hw4] at HB2 HT2 HR1 HS1 HK1 ⊢
  clear hw4
  have p0 := HB2.out.par.cell (i := 0) rfl
  have p1 := HB2.out.par.cell (i := 1) rfl
  have hz2 : w.heap.size < w4.heap.size := by have := HB2.out.size; omega
  have C2 := Lib.hid (CR.out _ HB2.out.bel)
  clear CR
  go_wp2_with fail
  refine C2.out.mono ?_
  rintro e wB ⟨lv2, uv2, kv2, qv2, rfl, hX, hb⟩
  obtain ⟨hR, hS, hK⟩ := HE.out _ _ _ _ _ hX
  obtain ⟨lo2, lcap2, uo2, ucap2, rfl, rfl⟩ := rig_shape hR
  obtain ⟨ko2, kc2, rfl, _⟩ := CellsS.shape hS
  obtain ⟨qo2, qc2, rfl, _⟩ := CellsS.shape hK
  have ha := (Below.refl wB.heap.size wB).alloc (Nat.le_refl _) (.cells #[.slice lo2 X.lib.length lcap2, .slice uo2 X.units.length ucap2] 25)
  have HB3 := Lib.hid ((HB2.out.next hb).next ha)
  have HTA := Lib.hid ((HT2.out.below hb).below ha)
  have HTB := Lib.hid (TBox.new wB #[.slice lo2 X.lib.length lcap2, .slice uo2 X.units.length ucap2] 25)
  have HRA := Lib.hid (((HR1.out.below hb).more hb.size).below ha |>.more ha.size)
  have HSA := Lib.hid (((HS1.out.below hb).more hb.size).below ha |>.more ha.size)
  have HKA := Lib.hid (((HK1.out.below hb).more hb.size).below ha |>.more ha.size)
  have HRB := Lib.hid ((hR.below ha).more ha.size)
  have HSB := Lib.hid ((hS.below ha).more ha.size)
  have HKB := Lib.hid ((hK.below ha).more ha.size)
  clear hb hX hR hS hK ha C2 HB2 HT2 HR1 HS1 HK1 p0 p1 hz2 HE
  go_upto_region 3 with fail
  obtain ⟨w6, hw6⟩ : ∃ w6 : World, w6 = wB.alloc (.cells #[.slice lo2 X.lib.length lcap2, .slice uo2 X.units.length ucap2] 25) := ⟨_, rfl⟩
  rw [← hw6] at HB3 HTA HTB HRA HSA HKA HRB HSB HKB ⊢
  clear hw6
  have a0' := HTA.out.cell (i := 0) rfl
  have a1' := HTA.out.cell (i := 1) rfl
  have al' := HTA.out.lt
  have b0' := HTB.out.cell (i := 0) rfl
  have b1' := HTB.out.cell (i := 1) rfl
  have bl' := HTB.out.lt
  have cs := sameRig_any X _ _ _ _ w6 HRA.out HRB.out
  unfold rigV at cs
  have CS := Lib.hid cs
  clear cs HRA HRB
  go_wp2_with fail
  refine CS.out.mono ?_
  rintro e w7 ⟨rfl, hb⟩
  have HB4 := Lib.hid (HB3.out.next hb)
  have CE := Lib.hid (settings_equal _ _ K w7 ((HSA.out.below hb).more hb.size) ((HSB.out.below hb).more hb.size))
  have HKA2 := Lib.hid ((HKA.out.below hb).more hb.size)
  have HKB2 := Lib.hid ((HKB.out.below hb).more hb.size)
  clear hb CS HSA HSB HKA HKB HTA HTB a0' a1' al' b0' b1' bl' HB3
  go_wp2_with fail
  refine CE.out.mono ?_
  rintro e w8 ⟨rfl, hb⟩
  have HB5 := Lib.hid (HB4.out.next hb)
  have CQ := Lib.hid (keys_equal _ _ Q w8 ((HKA2.out.below hb).more hb.size) ((HKB2.out.below hb).more hb.size))
  clear hb CE HKA2 HKB2 HB4
  go_wp2_with fail
  refine CQ.out.mono ?_
  rintro e w9 ⟨rfl, hb⟩
  have HB6 := Lib.hid (HB5.out.next hb).bel
  clear hb CQ HB5
  go_wp2_with fail
  go_ret
  exact ⟨by first | rfl | simp, HB6.out⟩
end Go.Proofs.Ytabalicembhjmaa.fixtureExchangesMatchSpec
