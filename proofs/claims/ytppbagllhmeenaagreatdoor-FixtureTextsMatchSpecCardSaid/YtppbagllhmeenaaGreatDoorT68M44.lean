/- fixture.parameter. (printed by wip/gen/gen_param.py) sameParam at alike parameters. (printed by wip/gen/gen_same.py) slices.EqualFunc at alike parameters. (printed by wip/gen/gen_same.py) sameProfile, sameLibrary, sameRig at alike ones. (printed by wip/gen/gen_same.py) The walk of cycloramalaw2.FixtureTextsMatchSpec. (printed by wip/gen/gen_rlibread.py) -/
import Derived.Test.YtppbagllhmeenaaGreatDoorT68M43
import Derived.Test.YtppbagllhmeenaaGreatDoorT68M42
import Derived.Test.YtppbagllhmeenaaGreatDoorT68M30

namespace Go.Proofs.YtppbagllhmeenaaGreatDoor
open Go.RowKit
set_option linter.unusedVariables false
set_option linter.unusedSimpArgs false

def hasPn (nm : List UInt8) (p : Par) : Bool := decide (p.nm = nm)
def parOf (l : List Par) (nm : List UInt8) : Option Par := l.find? (hasPn nm)
/-- the value of a parameter, or of none: its ranges' slice lies below block B -/
def ParR (B : Nat) (w : World) (o : Option Par) (v : Value) : Prop :=
  match o with
  | some p => ∃ rv, v = .agg #[.string p.name, .int .i64 p.grp, .int .i64 p.sl, .int .i64 p.fine, .int .i64 p.dflt, .bool p.snap, rv] ∧ RngS B w rv p.rngs
  | none => v = .agg #[.string ⟨#[]⟩, .int .i64 0, .int .i64 0, .int .i64 0, .int .i64 0, .bool false, .slice none 0 0]
theorem ParR.below {B : Nat} {w w' : World} {o : Option Par} {v : Value} (h : ParR B w o v) (hb : Below B w w') : ParR B w' o v := by
  cases o with
  | none => exact h
  | some p =>
    obtain ⟨pv, h1, h2⟩ := h
    exact ⟨pv, h1, h2.below hb⟩
theorem rngS_shape {B : Nat} {w : World} {v : Value} {l : List Rng} (h : RngS B w v l) : ∃ ao cap, v = .slice ao l.length cap := by
  obtain ⟨ao, cap, rfl, _⟩ := CellsS.shape h
  exact ⟨ao, cap, rfl⟩
theorem parR_shape {B : Nat} {w : World} {o : Option Par} {v : Value} (h : ParR B w o v) : ∃ qn qg qs qf qd qb qo ql qc, v = .agg #[.string qn, .int .i64 qg, .int .i64 qs, .int .i64 qf, .int .i64 qd, .bool qb, .slice qo ql qc] := by
  cases o with
  | none => exact ⟨_, _, _, _, _, _, _, _, _, h⟩
  | some p =>
    obtain ⟨pv, rfl, hp⟩ := h
    obtain ⟨ao, cap, rfl⟩ := rngS_shape hp
    exact ⟨_, _, _, _, _, _, _, _, _, rfl⟩
end Go.Proofs.YtppbagllhmeenaaGreatDoor

namespace Go.Proofs.YtppbagllhmeenaaGreatDoor
open Go.RowKit
set_option linter.unusedVariables false
set_option linter.unusedSimpArgs false

set_option maxRecDepth 100000 in
set_option maxHeartbeats 2000000 in
theorem sameParam_any (x : Par) (v u : Value) (w : World) (hv : RngS w.heap.size w v x.rngs) (hu : RngS w.heap.size w u x.rngs) :
    Calls Tryz.prog 64 #[.agg #[.string x.name, .int .i64 x.grp, .int .i64 x.sl, .int .i64 x.fine, .int .i64 x.dflt, .bool x.snap, v], .agg #[.string x.name, .int .i64 x.grp, .int .i64 x.sl, .int .i64 x.fine, .int .i64 x.dflt, .bool x.snap, u]] w fun e w' => e = .returned (.bool true) ∧ Below w.heap.size w w' := by
  have CE := Lib.hid (fun W (hb : Below w.heap.size w W) => ranges_equal v u x.rngs W ((hv.below hb).more hb.size) ((hu.below hb).more hb.size))
  obtain ⟨xn, xg, xs, xf, xd, xb, xl⟩ := x
  simp only at *
  obtain ⟨vo, vcap, rfl⟩ := rngS_shape hv
  obtain ⟨uo, ucap, rfl⟩ := rngS_shape hu
  clear hv hu
  have hB2 : Below w.heap.size w ((w.alloc (.cells #[.string xn, .int .i64 xg, .int .i64 xs, .int .i64 xf, .int .i64 xd, .bool xb, .slice vo xl.length vcap] 73)).alloc (.cells #[.string xn, .int .i64 xg, .int .i64 xs, .int .i64 xf, .int .i64 xd, .bool xb, .slice uo xl.length ucap] 73)) := ((Below.refl _ _).alloc (Nat.le_refl _) _).alloc (by simp) _
  have CE1 := Lib.hid (CE.out _ hB2)
  have HB2 := Lib.hid hB2
  clear CE hB2
  go_enter Tryz.func64, Tryz.ntmps64
  go_wp2_with fail
  refine CE1.out.mono ?_
  rintro e w1 ⟨rfl, hb⟩
  have HB := Lib.hid (HB2.out.trans (hb.mono HB2.out.size))
  clear hb CE1
  go_wp2_with fail
  go_ret
  exact ⟨by simp, HB.out⟩
end Go.Proofs.YtppbagllhmeenaaGreatDoor

namespace Go.Proofs.YtppbagllhmeenaaGreatDoor
open Go.RowKit
set_option linter.unusedVariables false
set_option linter.unusedSimpArgs false

theorem sameParam_call (args : Array Value) (W : World) : Sem.run Tryz.prog (callFunc 64 args) W = .ok (.enter 64 args) W := by simp [go_sem]
set_option maxRecDepth 100000 in
set_option maxHeartbeats 4000000 in
theorem params_same (v u : Value) (l : List Par) (w : World) (hv : ParS w.heap.size w v l) (hu : ParS w.heap.size w u l) :
    Calls Tryz.prog 63 #[v, u, .func (.func 64) #[] #[]] w fun e w' => e = .returned (.bool true) ∧ Below w.heap.size w w' := by
  have HX := Lib.hid (ParS.get hv)
  have HY := Lib.hid (ParS.get hu)
  obtain ⟨ao, cap, rfl⟩ := parS_shape hv
  obtain ⟨bo, cap2, rfl⟩ := parS_shape hu
  have hl := parS_cap hv
  have hcf := sameParam_call
  clear hv hu
  go_enter Tryz.func63, Tryz.ntmps63
  go_wp2_with fail
  go_loopw [17] (fun i wx => ∃ k : Nat, k ≤ l.length ∧ i = .int .i64 k ∧ Hid (Below w.heap.size w wx)) (fun i _ => l.length - (intOf i).toNat)
  case atStart => exact ⟨0, Nat.zero_le _, rfl, Lib.hid (Below.refl _ _)⟩
  case round =>
    obtain ⟨k, hk, rfl, HBW⟩ := hrel
    have hzr := HBW.out.size
    by_cases hlt : k < l.length
    · obtain ⟨b, off, _, e0, hbb, _, hc⟩ := HX.out (by omega)
      injection e0 with e1 _ e3
      subst e1 e3
      obtain ⟨b', off', _, e0, hbb', _, hc'⟩ := HY.out (by omega)
      injection e0 with e1 _ e3
      subst e1 e3
      obtain ⟨rv, hrv, hcc⟩ := hc k hlt
      obtain ⟨sv, hsv, hcc'⟩ := hc' k hlt
      obtain ⟨c0, c1, c2, c3, c4, c5, c6⟩ := hcc wr HBW.out
      obtain ⟨d0, d1, d2, d3, d4, d5, d6⟩ := hcc' wr HBW.out
      have hbr : b < wr.heap.size := by omega
      have hbr' : b' < wr.heap.size := by omega
      obtain ⟨ro, rcap, rfl⟩ := rngS_shape hrv
      obtain ⟨so, scap, rfl⟩ := rngS_shape hsv
      have CS := Lib.hid (fun W (hb : Below w.heap.size w W) => sameParam_any l[k] _ _ W ((hrv.below hb).more hb.size) ((hsv.below hb).more hb.size))
      clear hc hc' hcc hcc' hrv hsv
      generalize hrk : l[k] = rk at *
      clear hrk
      obtain ⟨xn, xg, xs, xf, xd, xb, xl⟩ := rk
      simp only at *
      have HBX := Lib.hid ((HBW.out.alloc hzr (.cells #[.string xn, .int .i64 xg, .int .i64 xs, .int .i64 xf, .int .i64 xd, .bool xb, .slice ro xl.length rcap] 73)).alloc (by simp; omega) (.cells #[.string xn, .int .i64 xg, .int .i64 xs, .int .i64 xf, .int .i64 xd, .bool xb, .slice so xl.length scap] 73))
      have CX := Lib.hid (CS.out _ HBX.out)
      clear CS
      go_wp2_with fail
      refine CX.out.mono ?_
      rintro e w1 ⟨rfl, hb⟩
      have HB1 := Lib.hid (HBX.out.trans (hb.mono HBX.out.size))
      clear hb CX
      go_wp2_with fail
      go_roundw
      case rel => exact ⟨k + 1, by omega, by go_num, HB1⟩
      case measure => simp [intOf]; omega
    · obtain rfl : k = l.length := by omega
      go_wp2_with fail
      go_ret
      exact ⟨rfl, HBW.out⟩
end Go.Proofs.YtppbagllhmeenaaGreatDoor

namespace Go.Proofs.YtppbagllhmeenaaGreatDoor
open Go.RowKit
set_option linter.unusedVariables false
set_option linter.unusedSimpArgs false

set_option maxRecDepth 100000 in
set_option maxHeartbeats 2000000 in
theorem sameProfile_any (p : Prf) (v u : Value) (w : World) (hv : ParS w.heap.size w v p.pars) (hu : ParS w.heap.size w u p.pars) :
    Calls Tryz.prog 40 #[.agg #[.string p.name, .int .i64 p.size, v], .agg #[.string p.name, .int .i64 p.size, u]] w fun e w' => e = .returned (.bool true) ∧ Below w.heap.size w w' := by
  have CE := Lib.hid (fun W (hb : Below w.heap.size w W) => params_same v u p.pars W ((hv.below hb).more hb.size) ((hu.below hb).more hb.size))
  obtain ⟨pn, pz, pl⟩ := p
  simp only at *
  obtain ⟨vo, vcap, rfl⟩ := parS_shape hv
  obtain ⟨uo, ucap, rfl⟩ := parS_shape hu
  clear hv hu
  have hB2 : Below w.heap.size w ((w.alloc (.cells #[.string pn, .int .i64 pz, .slice vo pl.length vcap] 70)).alloc (.cells #[.string pn, .int .i64 pz, .slice uo pl.length ucap] 70)) := ((Below.refl _ _).alloc (Nat.le_refl _) _).alloc (by simp) _
  have CE1 := Lib.hid (CE.out _ hB2)
  have HB2 := Lib.hid hB2
  clear CE hB2
  go_enter Tryz.func40, Tryz.ntmps40
  go_wp2_with fail
  refine CE1.out.mono ?_
  rintro e w1 ⟨rfl, hb⟩
  have HB := Lib.hid (HB2.out.trans (hb.mono HB2.out.size))
  clear hb CE1
  go_wp2_with fail
  go_ret
  exact ⟨by simp, HB.out⟩
theorem sameProfile_call (args : Array Value) (W : World) : Sem.run Tryz.prog (callFunc 40 args) W = .ok (.enter 40 args) W := by simp [go_sem]
set_option maxRecDepth 100000 in
set_option maxHeartbeats 4000000 in
theorem profiles_same (v u : Value) (l : List Prf) (w : World) (hv : PrfS w.heap.size w v l) (hu : PrfS w.heap.size w u l) :
    Calls Tryz.prog 39 #[v, u, .func (.func 40) #[] #[]] w fun e w' => e = .returned (.bool true) ∧ Below w.heap.size w w' := by
  have HX := Lib.hid (PrfS.get hv)
  have HY := Lib.hid (PrfS.get hu)
  obtain ⟨ao, cap, rfl⟩ := prfS_shape hv
  obtain ⟨bo, cap2, rfl⟩ := prfS_shape hu
  have hl := prfS_cap hv
  have hcf := sameProfile_call
  clear hv hu
  go_enter Tryz.func39, Tryz.ntmps39
  go_wp2_with fail
  go_loopw [17] (fun i wx => ∃ k : Nat, k ≤ l.length ∧ i = .int .i64 k ∧ Hid (Below w.heap.size w wx)) (fun i _ => l.length - (intOf i).toNat)
  case atStart => exact ⟨0, Nat.zero_le _, rfl, Lib.hid (Below.refl _ _)⟩
  case round =>
    obtain ⟨k, hk, rfl, HBW⟩ := hrel
    have hzr := HBW.out.size
    by_cases hlt : k < l.length
    · obtain ⟨b, off, _, e0, hbb, _, hc⟩ := HX.out (by omega)
      injection e0 with e1 _ e3
      subst e1 e3
      obtain ⟨b', off', _, e0, hbb', _, hc'⟩ := HY.out (by omega)
      injection e0 with e1 _ e3
      subst e1 e3
      obtain ⟨rv, hrv, hcc⟩ := hc k hlt
      obtain ⟨sv, hsv, hcc'⟩ := hc' k hlt
      obtain ⟨c0, c1, c2⟩ := hcc wr HBW.out
      obtain ⟨d0, d1, d2⟩ := hcc' wr HBW.out
      have hbr : b < wr.heap.size := by omega
      have hbr' : b' < wr.heap.size := by omega
      obtain ⟨ro, rcap, rfl⟩ := parS_shape hrv
      obtain ⟨so, scap, rfl⟩ := parS_shape hsv
      have CS := Lib.hid (fun W (hb : Below w.heap.size w W) => sameProfile_any l[k] _ _ W ((hrv.below hb).more hb.size) ((hsv.below hb).more hb.size))
      clear hc hc' hcc hcc' hrv hsv
      generalize hrk : l[k] = rk at *
      clear hrk
      obtain ⟨pn, pz, pl⟩ := rk
      simp only at *
      have HBX := Lib.hid ((HBW.out.alloc hzr (.cells #[.string pn, .int .i64 pz, .slice ro pl.length rcap] 70)).alloc (by simp; omega) (.cells #[.string pn, .int .i64 pz, .slice so pl.length scap] 70))
      have CX := Lib.hid (CS.out _ HBX.out)
      clear CS
      go_wp2_with fail
      refine CX.out.mono ?_
      rintro e w1 ⟨rfl, hb⟩
      have HB1 := Lib.hid (HBX.out.trans (hb.mono HBX.out.size))
      clear hb CX
      go_wp2_with fail
      go_roundw
      case rel => exact ⟨k + 1, by omega, by go_num, HB1⟩
      case measure => simp [intOf]; omega
    · obtain rfl : k = l.length := by omega
      go_wp2_with fail
      go_ret
      exact ⟨rfl, HBW.out⟩
set_option maxHeartbeats 2000000 in
theorem sameLibrary_any (v u : Value) (l : List Prf) (w : World) (hv : PrfS w.heap.size w v l) (hu : PrfS w.heap.size w u l) :
    Calls Tryz.prog 13 #[v, u] w fun e w' => e = .returned (.bool true) ∧ Below w.heap.size w w' := by
  have CE := Lib.hid (profiles_same v u l w hv hu)
  obtain ⟨vo, vcap, rfl⟩ := prfS_shape hv
  obtain ⟨uo, ucap, rfl⟩ := prfS_shape hu
  clear hv hu
  go_enter Tryz.func13, Tryz.ntmps13
  go_wp2_with fail
  refine CE.out.mono ?_
  rintro e w1 ⟨rfl, hb⟩
  have HB := Lib.hid hb
  clear hb CE
  go_wp2_with fail
  go_ret
  exact ⟨rfl, HB.out⟩
end Go.Proofs.YtppbagllhmeenaaGreatDoor

namespace Go.Proofs.YtppbagllhmeenaaGreatDoor.fixtureTextsMatchSpec
open Go.RowKit
set_option linter.unusedVariables false
set_option linter.unusedSimpArgs false

set_option maxRecDepth 100000 in
set_option maxHeartbeats 16000000 in
theorem walk (s : ByteArray) (w : World) (w1 : s.size ≤ maxLen) (hT : TextW w) :
    Calls Tryz.prog 6 #[.string s] w fun e w' => e = .returned (.bool true) ∧ Below w.heap.size w w' := by
  have hs : s.size ≤ 9223372036854775807 := by unfold maxLen at w1; omega
  have C1 := Lib.hid (libRead_any s w hT hs)
  have C2 := Lib.hid (fun W (hb : Below w.heap.size w W) => rlibRead_any s W (hT.below hb) hs)
  have KS := Lib.hid (fun v u l W hv hu => sameLibrary_any v u l W hv hu)
  unfold RlPost at C1 C2
  clear w1 hT hs
  generalize rdX s = rp at *
  obtain ⟨f, ln, l⟩ := rp
  simp only at C1 C2
  go_enter Tryz.func6, Tryz.ntmps6
  go_wp2_with fail
  refine C1.out.mono ?_
  rintro e wA ⟨v1, rfl, hp, hb⟩
  have HBA := Lib.hid hb
  have HP1 := Lib.hid hp
  obtain ⟨o1, c1, rfl⟩ := prfS_shape hp
  clear hb hp C1
  go_wp2_with fail
  refine (C2.out _ HBA.out).mono ?_
  rintro e wB ⟨v2, rfl, hp, hb⟩
  have HBB := Lib.hid (HBA.out.trans (hb.mono HBA.out.size))
  have CS := Lib.hid (KS.out _ v2 l wB ((HP1.out.below hb).more hb.size) hp)
  obtain ⟨o2, c2, rfl⟩ := prfS_shape hp
  clear hb hp C2 HP1 KS
  go_wp2_with fail
  refine CS.out.mono ?_
  rintro e wC ⟨rfl, hb⟩
  have HBC := Lib.hid (HBB.out.trans (hb.mono HBB.out.size))
  clear hb CS
  go_wp2_with fail
  exact bodyPost_ret (v := .bool true) (by simp [results, Tryz.results6, go_sem]) rfl ⟨rfl, HBC.out⟩
end Go.Proofs.YtppbagllhmeenaaGreatDoor.fixtureTextsMatchSpec
