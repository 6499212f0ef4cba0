/- The words of Find. (printed by wip/gen/gen_findtop.py) fixture.Find. (printed by wip/gen/gen_findtop.py) The box of a rig that is an argument. (printed by wip/gen/gen_placewalk.py) -/
import Derived.Test.YtabalicembhjmaaT32M29
import Derived.Test.YtabalicembhjmaaT32M19
import Derived.Test.YtabalicembhjmaaT32M15
import Derived.Test.YtabalicembhjmaaT32M20
import Derived.Test.YtabalicembhjmaaT32M23
import Derived.Test.YtabalicembhjmaaT32M08
import Derived.Test.YtabalicembhjmaaT32M06

namespace Go.Proofs.Ytabalicembhjmaa
open Go.RowKit
set_option linter.unusedVariables false
set_option linter.unusedSimpArgs false
def FBox (w : World) (lv uv : Value) (n : Int) (nm : ByteArray) (W : World) : Prop := Below (w.heap.size + 3) (((w.alloc (.cells #[lv, uv] 25)).alloc (.cells #[.int .i64 n, .string nm] 33)).alloc (.cells #[.string ⟨#[]⟩, .int .i64 0, .int .i64 0, .int .i64 0, .int .i64 0, .bool false, .slice none 0 0] 42)) W
theorem FBox.start (w : World) (lv uv : Value) (n : Int) (nm : ByteArray) : FBox w lv uv n nm (((w.alloc (.cells #[lv, uv] 25)).alloc (.cells #[.int .i64 n, .string nm] 33)).alloc (.cells #[.string ⟨#[]⟩, .int .i64 0, .int .i64 0, .int .i64 0, .int .i64 0, .bool false, .slice none 0 0] 42)) := Below.refl _ _
section
variable {w W W1 : World} {lv uv : Value} {n : Int} {nm : ByteArray}
theorem FBox.size (h : FBox w lv uv n nm W) : w.heap.size + 3 ≤ W.heap.size := by
  have := Below.size h
  simp at this
  omega
theorem FBox.bel (h : FBox w lv uv n nm W) : Below w.heap.size w W := ((((Below.refl _ _).alloc (Nat.le_refl _) _).alloc (by simp) _).alloc (by simp; omega) _).trans (Below.mono h (by omega))
theorem FBox.next (h : FBox w lv uv n nm W) (hb : Below W.heap.size W W1) : FBox w lv uv n nm W1 := Below.trans h (hb.mono h.size)
theorem FBox.rig (h : FBox w lv uv n nm W) : TBox W w.heap.size 25 #[lv, uv] := (Below.block h w.heap.size (by omega)).trans (((TBox.new w #[lv, uv] 25).alloc _).alloc _)
theorem FBox.key (h : FBox w lv uv n nm W) : TBox W (w.heap.size + 1) 33 #[.int .i64 n, .string nm] := by
  have h1 := TBox.new (w.alloc (.cells #[lv, uv] 25)) #[.int .i64 n, .string nm] 33
  simp only [World.size_alloc] at h1
  exact (Below.block h (w.heap.size + 1) (by omega)).trans (h1.alloc _)
theorem FBox.res (h : FBox w lv uv n nm W) : TBox W (w.heap.size + 2) 42 #[.string ⟨#[]⟩, .int .i64 0, .int .i64 0, .int .i64 0, .int .i64 0, .bool false, .slice none 0 0] := by
  have h1 := TBox.new ((w.alloc (.cells #[lv, uv] 25)).alloc (.cells #[.int .i64 n, .string nm] 33)) #[.string ⟨#[]⟩, .int .i64 0, .int .i64 0, .int .i64 0, .int .i64 0, .bool false, .slice none 0 0] 42
  simp only [World.size_alloc] at h1
  exact (Below.block h (w.heap.size + 2) (by omega)).trans h1
end
theorem st7_own {W : World} {g base s m : Nat} {T T' : TypeId} {cs : Array Value} {v : Value} {ys : List Value} (h : W.ownsRow base T' s v m ys) (hb : TBox W g T cs) (hT : T' ≠ T) (u0 u1 u2 u3 u4 u5 u6 : Value) : World.ownsRow (((((((W.setCell ⟨g, 0, none⟩ u0).setCell ⟨g, 1, none⟩ u1).setCell ⟨g, 2, none⟩ u2).setCell ⟨g, 3, none⟩ u3).setCell ⟨g, 4, none⟩ u4).setCell ⟨g, 5, none⟩ u5).setCell ⟨g, 6, none⟩ u6) base T' s v m ys := by
  have h0 := (Other.box hb (i := 0) u0).own h hT
  have b1 := hb.set 0 u0
  have h1 := (Other.box b1 (i := 1) u1).own h0 hT
  have b2 := b1.set 1 u1
  have h2 := (Other.box b2 (i := 2) u2).own h1 hT
  have b3 := b2.set 2 u2
  have h3 := (Other.box b3 (i := 3) u3).own h2 hT
  have b4 := b3.set 3 u3
  have h4 := (Other.box b4 (i := 4) u4).own h3 hT
  have b5 := b4.set 4 u4
  have h5 := (Other.box b5 (i := 5) u5).own h4 hT
  have b6 := b5.set 5 u5
  exact (Other.box b6 (i := 6) u6).own h5 hT
theorem st7_below {W w : World} {g B : Nat} (h : Below B w W) (hg : B ≤ g) (u0 u1 u2 u3 u4 u5 u6 : Value) : Below B w (((((((W.setCell ⟨g, 0, none⟩ u0).setCell ⟨g, 1, none⟩ u1).setCell ⟨g, 2, none⟩ u2).setCell ⟨g, 3, none⟩ u3).setCell ⟨g, 4, none⟩ u4).setCell ⟨g, 5, none⟩ u5).setCell ⟨g, 6, none⟩ u6) :=
  ((((((h.setCell (p := ⟨g, 0, none⟩) hg u0).setCell (p := ⟨g, 1, none⟩) hg u1).setCell (p := ⟨g, 2, none⟩) hg u2).setCell (p := ⟨g, 3, none⟩) hg u3).setCell (p := ⟨g, 4, none⟩) hg u4).setCell (p := ⟨g, 5, none⟩) hg u5).setCell (p := ⟨g, 6, none⟩) hg u6
/-- what Find gives -/
def findF (x : Rig) (n : Int) (nm : List UInt8) : Int := if chkRig x ≠ 0 then chkRig x else if (findO x n nm).isSome then 0 else 8
def findV (x : Rig) (n : Int) (nm : List UInt8) : Option Par := if chkRig x ≠ 0 then none else findO x n nm
theorem find_bad {x : Rig} {n : Int} {nm : List UInt8} (h : ¬ chkRig x = 0) : findF x n nm = chkRig x ∧ findV x n nm = none := ⟨if_pos h, if_pos h⟩
theorem find_none {x : Rig} {n : Int} {nm : List UInt8} (h : chkRig x = 0) (k : findO x n nm = none) : findF x n nm = 8 ∧ findV x n nm = none := by
  have e : ¬ chkRig x ≠ 0 := by simpa using h
  refine ⟨?_, ?_⟩
  · unfold findF; rw [if_neg e, k]; rfl
  · unfold findV; rw [if_neg e, k]
theorem find_some {x : Rig} {n : Int} {nm : List UInt8} {p : Par} (h : chkRig x = 0) (k : findO x n nm = some p) : findF x n nm = 0 ∧ findV x n nm = some p := by
  have e : ¬ chkRig x ≠ 0 := by simpa using h
  refine ⟨?_, ?_⟩
  · unfold findF; rw [if_neg e, k]; rfl
  · unfold findV; rw [if_neg e, k]
theorem rng_sizes {x : Rig} (h : chkRig x = 0) {n : Int} {nm : List UInt8} {p : Par} (k : findO x n nm = some p) : p.rngs.length ≤ 30 := by
  unfold findO at k
  cases hu : x.units.find? (isNo n) with
  | none => rw [hu] at k; cases k
  | some u =>
    rw [hu] at k
    have hm : u ∈ x.units := List.mem_of_find?_eq_some hu
    obtain ⟨q, hq, _⟩ := par_right h hm
    simp only at k
    have hp : p ∈ parsOf x.lib u := List.mem_of_find?_eq_some k
    have hpo : parsOf x.lib u = q.pars := by unfold parsOf; rw [hq]; rfl
    rw [hpo] at hp
    exact ((lib_sizes (chkRig_zero h).1).2 q (profOf_some hq).1).2 p hp
def par0 : Par := ⟨⟨#[]⟩, 0, 0, 0, 0, false, []⟩
theorem parR_val {B : Nat} {w : World} {o : Option Par} {v : Value} (h : ParR B w o v) : ∃ rv, v = .agg #[.string (o.getD par0).name, .int .i64 (o.getD par0).grp, .int .i64 (o.getD par0).sl, .int .i64 (o.getD par0).fine, .int .i64 (o.getD par0).dflt, .bool (o.getD par0).snap, rv] ∧ RngS B w rv (o.getD par0).rngs := by
  cases o with
  | none => exact ⟨.slice none 0 0, h, CellsS.nil _ _⟩
  | some p =>
    obtain ⟨rv, h1, h2⟩ := h
    exact ⟨rv, h1, h2⟩
end Go.Proofs.Ytabalicembhjmaa

namespace Go.Proofs.Ytabalicembhjmaa
open Go.RowKit
set_option linter.unusedVariables false
set_option linter.unusedSimpArgs false
set_option maxRecDepth 100000 in
set_option maxHeartbeats 8000000 in
theorem findTop_any (x : Rig) (lv uv : Value) (n : Int) (nm : ByteArray) (w : World) (h : RigAt w.heap.size w x lv uv) (hf : RigFit x) (hn : I64 n) :
    Calls Try.prog 15 #[rigV lv uv, .agg #[.int .i64 n, .string nm]] w fun e w' => ∃ xv, e = .returned (.tuple #[xv, .int .i64 (findF x n nm.data.toList)]) ∧ ParR w'.heap.size w' (findV x n nm.data.toList) xv ∧ Below w.heap.size w w' := by
  have CC := Lib.hid (fun W (hb : Below w.heap.size w W) => ckRig_any x lv uv W ((h.below hb).more hb.size) hf)
  have CF := Lib.hid (fun (hx : chkRig x = 0) W (hb : Below w.heap.size w W) => find_any x lv uv w.heap.size n nm W hb.size (h.below hb) hx hn)
  have HR1 := Lib.hid (fun (h : ¬ chkRig x = 0) => find_bad (n := n) (nm := nm.data.toList) h)
  have HR2 := Lib.hid (fun (h : chkRig x = 0) (k : findO x n nm.data.toList = none) => find_none h k)
  have HR3 := Lib.hid (fun (h : chkRig x = 0) (p : Par) (k : findO x n nm.data.toList = some p) => find_some h k)
  have HSZ := Lib.hid (fun (h : chkRig x = 0) (p : Par) (k : findO x n nm.data.toList = some p) => rng_sizes h k)
  obtain ⟨uo, ucap, rfl, _⟩ := CellsS.shape h.units
  obtain ⟨lo, lcap, rfl⟩ := prfS_shape h.lib
  unfold rigV at *
  clear h hf hn
  generalize findF x n nm.data.toList = FF at *
  generalize findV x n nm.data.toList = VV at *
  have HB0 := Lib.hid (FBox.start w (.slice lo x.lib.length lcap) (.slice uo x.units.length ucap) n nm)
  have C1 := Lib.hid (CC.out _ HB0.out.bel)
  clear CC
  go_enter Try.func15, Try.ntmps15
  go_wp2_with fail
  refine C1.out.mono ?_
  rintro e w1 ⟨rfl, hb⟩
  have HB1 := Lib.hid (HB0.out.next hb)
  clear hb C1 HB0
  by_cases hE : chkRig x = 0
  rotate_left
  · have HV := Lib.hid (show FF = chkRig x ∧ VV = none from HR1.out hE)
    have z0 := HB1.out.res.cell (i := 0) rfl
    have z1 := HB1.out.res.cell (i := 1) rfl
    have z2 := HB1.out.res.cell (i := 2) rfl
    have z3 := HB1.out.res.cell (i := 3) rfl
    have z4 := HB1.out.res.cell (i := 4) rfl
    have z5 := HB1.out.res.cell (i := 5) rfl
    have z6 := HB1.out.res.cell (i := 6) rfl
    have fz0 := HB1.out.res.frozen 0
    have fz1 := HB1.out.res.frozen 1
    have fz2 := HB1.out.res.frozen 2
    have fz3 := HB1.out.res.frozen 3
    have fz4 := HB1.out.res.frozen 4
    have fz5 := HB1.out.res.frozen 5
    have fz6 := HB1.out.res.frozen 6
    have hzz := HB1.out.size
    have HBE := Lib.hid HB1.out.bel
    go_wp2_with fail
    exact bodyPost_ret (v := .tuple #[.agg #[.string ⟨#[]⟩, .int .i64 0, .int .i64 0, .int .i64 0, .int .i64 0, .bool false, .slice none 0 0], .int .i64 (chkRig x)]) (by simp [results, Try.results15, go_sem, z0, z1, z2, z3, z4, z5, z6]) rfl ⟨_, by rw [HV.out.1], by rw [HV.out.2]; rfl, st7_below HBE.out (by omega) _ _ _ _ _ _ _⟩
  have p0 := HB1.out.rig.cell (i := 0) rfl
  have p1 := HB1.out.rig.cell (i := 1) rfl
  have k0 := HB1.out.key.cell (i := 0) rfl
  have k1 := HB1.out.key.cell (i := 1) rfl
  have hz1 := HB1.out.size
  have C2 := Lib.hid (CF.out hE _ HB1.out.bel)
  rw [hE]
  clear CF
  go_wp2_with fail
  refine C2.out.mono ?_
  rintro e w2 ⟨xv, rfl, hxr, hb⟩
  have HB2 := Lib.hid (HB1.out.next hb)
  clear hb C2 HB1 p0 p1 k0 k1 hz1
  cases hO : findO x n nm.data.toList with
  | none =>
    have HV := Lib.hid (HR2.out hE hO)
    rw [hO] at hxr
    obtain rfl : xv = .agg #[.string ⟨#[]⟩, .int .i64 0, .int .i64 0, .int .i64 0, .int .i64 0, .bool false, .slice none 0 0] := hxr
    have ha := (Below.refl w2.heap.size w2).alloc (Nat.le_refl _) (.cells #[.string ⟨#[]⟩, .int .i64 0, .int .i64 0, .int .i64 0, .int .i64 0, .bool false, .slice none 0 0] 42)
    have HB3 := Lib.hid (HB2.out.next ha)
    have HBE := Lib.hid HB3.out.bel
    clear ha HR1 HR2 HR3 HSZ hO hE
    go_upto_region 5 with fail
    obtain ⟨w3, hw3⟩ : ∃ w3 : World, w3 = w2.alloc (.cells #[.string ⟨#[]⟩, .int .i64 0, .int .i64 0, .int .i64 0, .int .i64 0, .bool false, .slice none 0 0] 42) := ⟨_, rfl⟩
    rw [← hw3] at HB3 HBE ⊢
    clear hw3 HB2
    have z0 := HB3.out.res.cell (i := 0) rfl
    have z1 := HB3.out.res.cell (i := 1) rfl
    have z2 := HB3.out.res.cell (i := 2) rfl
    have z3 := HB3.out.res.cell (i := 3) rfl
    have z4 := HB3.out.res.cell (i := 4) rfl
    have z5 := HB3.out.res.cell (i := 5) rfl
    have z6 := HB3.out.res.cell (i := 6) rfl
    have fz0 := HB3.out.res.frozen 0
    have fz1 := HB3.out.res.frozen 1
    have fz2 := HB3.out.res.frozen 2
    have fz3 := HB3.out.res.frozen 3
    have fz4 := HB3.out.res.frozen 4
    have fz5 := HB3.out.res.frozen 5
    have fz6 := HB3.out.res.frozen 6
    have hzz := HB3.out.size
    go_wp2_with fail
    exact bodyPost_ret (v := .tuple #[.agg #[.string ⟨#[]⟩, .int .i64 0, .int .i64 0, .int .i64 0, .int .i64 0, .bool false, .slice none 0 0], .int .i64 8]) (by simp [results, Try.results15, go_sem, z0, z1, z2, z3, z4, z5, z6]) rfl ⟨_, by rw [HV.out.1], by rw [HV.out.2]; rfl, st7_below HBE.out (by omega) _ _ _ _ _ _ _⟩
  | some p =>
    have HV := Lib.hid (HR3.out hE p hO)
    have hsz := HSZ.out hE p hO
    rw [hO] at hxr
    obtain ⟨rv, rfl, hrv⟩ := hxr
    obtain ⟨ro, rcap, rfl, _⟩ := CellsS.shape hrv
    clear HR1 HR2 HR3 HSZ hO hE
    obtain ⟨xn, xg, xs, xf, xd, xb, xl⟩ := p
    simp only at *
    have ha := (Below.refl w2.heap.size w2).alloc (Nat.le_refl _) (.cells #[.string xn, .int .i64 xg, .int .i64 xs, .int .i64 xf, .int .i64 xd, .bool xb, .slice ro xl.length rcap] 42)
    have HB3 := Lib.hid (HB2.out.next ha)
    have HT3 := Lib.hid (TBox.new w2 #[.string xn, .int .i64 xg, .int .i64 xs, .int .i64 xf, .int .i64 xd, .bool xb, .slice ro xl.length rcap] 42)
    have HRV := Lib.hid (hrv.below (ha.mono (by have := HB2.out.bel.size; omega)))
    have hz2 := HB2.out.size
    clear ha hrv
    go_upto_region 5 with fail
    obtain ⟨w3, hw3⟩ : ∃ w3 : World, w3 = w2.alloc (.cells #[.string xn, .int .i64 xg, .int .i64 xs, .int .i64 xf, .int .i64 xd, .bool xb, .slice ro xl.length rcap] 42) := ⟨_, rfl⟩
    rw [← hw3] at HB3 HT3 HRV ⊢
    clear hw3 HB2
    have CR := Lib.hid (ranges_clone w.heap.size (.slice ro xl.length rcap) xl.length (xl.flatMap rngC) w3 HB3.out.bel.size (by omega) (rngC_len xl) (one_rngC xl) (rowC_of HRV.out))
    have x6 := HT3.out.cell (i := 6) rfl
    have hx := HT3.out.lt
    clear HRV
    go_wp2_with fail
    refine CR.out.mono ?_
    rintro e w4 ⟨v4, rfl, hown, hb⟩
    have HB4 := Lib.hid (HB3.out.next hb)
    have HT4 := Lib.hid (HT3.out.below hb)
    obtain ⟨ro', rcap', hsh⟩ := own_shape2 hown
    subst hsh
    have HOW := Lib.hid (hown)
    clear hown hb CR x6 hx HB3 HT3
    have HT5 := Lib.hid (HT4.out.set 6 (.slice ro' xl.length rcap'))
    simp only [List.setIfInBounds_toArray, List.set_cons_succ, List.set_cons_zero] at HT5
    have HO5 := Lib.hid ((Other.box HT4.out (i := 6) (.slice ro' xl.length rcap')).own HOW.out (by decide))
    have HB5 := Lib.hid (show FBox w (.slice lo x.lib.length lcap) (.slice uo x.units.length ucap) n nm (w4.setCell ⟨w2.heap.size, 6, none⟩ (.slice ro' xl.length rcap')) from Below.setCell HB4.out (p := ⟨w2.heap.size, 6, none⟩) (by simpa using hz2) _)
    have x6 := HT4.out.cell (i := 6) rfl
    have f6 := HT4.out.frozen 6
    have hx := HT4.out.lt
    clear HB4 HT4 HOW
    go_upto_region 8 with fail
    generalize hW5 : w4.setCell ⟨w2.heap.size, 6, none⟩ (.slice ro' xl.length rcap') = w5 at *
    clear hW5 x6 f6 hx
    have x0 := HT5.out.cell (i := 0) rfl
    have x1 := HT5.out.cell (i := 1) rfl
    have x2 := HT5.out.cell (i := 2) rfl
    have x3 := HT5.out.cell (i := 3) rfl
    have x4 := HT5.out.cell (i := 4) rfl
    have x5 := HT5.out.cell (i := 5) rfl
    have x6 := HT5.out.cell (i := 6) rfl
    have hx5 := HT5.out.lt
    have z0 := HB5.out.res.cell (i := 0) rfl
    have z1 := HB5.out.res.cell (i := 1) rfl
    have z2 := HB5.out.res.cell (i := 2) rfl
    have z3 := HB5.out.res.cell (i := 3) rfl
    have z4 := HB5.out.res.cell (i := 4) rfl
    have z5 := HB5.out.res.cell (i := 5) rfl
    have z6 := HB5.out.res.cell (i := 6) rfl
    have fz0 := HB5.out.res.frozen 0
    have fz1 := HB5.out.res.frozen 1
    have fz2 := HB5.out.res.frozen 2
    have fz3 := HB5.out.res.frozen 3
    have fz4 := HB5.out.res.frozen 4
    have fz5 := HB5.out.res.frozen 5
    have fz6 := HB5.out.res.frozen 6
    have hzz := HB5.out.size
    have HE := Lib.hid (fun u0 u1 u2 u3 u4 u5 u6 => st7_own HO5.out HB5.out.res (by decide) u0 u1 u2 u3 u4 u5 u6)
    have HBE := Lib.hid HB5.out.bel
    clear HT5 HO5 HB5
    go_wp2_with fail
    exact bodyPost_ret (v := .tuple #[.agg #[.string xn, .int .i64 xg, .int .i64 xs, .int .i64 xf, .int .i64 xd, .bool xb, .slice ro' xl.length rcap'], .int .i64 0]) (by simp [results, Try.results15, go_sem, z0, z1, z2, z3, z4, z5, z6]) rfl ⟨_, by rw [HV.out.1], by rw [HV.out.2]; exact ⟨_, rfl, CellsS.of_own (HE.out _ _ _ _ _ _ _)⟩, st7_below HBE.out (by omega) _ _ _ _ _ _ _⟩
end Go.Proofs.Ytabalicembhjmaa

namespace Go.Proofs.Ytabalicembhjmaa
open Go.RowKit
set_option linter.unusedVariables false
set_option linter.unusedSimpArgs false
/-- the box of a rig's argument -/
def RBox (w : World) (lv uv : Value) (W : World) : Prop := Below (w.heap.size + 1) (w.alloc (.cells #[lv, uv] 25)) W
theorem RBox.start (w : World) (lv uv : Value) : RBox w lv uv (w.alloc (.cells #[lv, uv] 25)) := Below.refl _ _
theorem RBox.size {w W : World} {lv uv : Value} (h : RBox w lv uv W) : w.heap.size + 1 ≤ W.heap.size := by
  have := Below.size h
  simp at this
  omega
theorem RBox.bel {w W : World} {lv uv : Value} (h : RBox w lv uv W) : Below w.heap.size w W := ((Below.refl _ _).alloc (Nat.le_refl _) _).trans (Below.mono h (by omega))
theorem RBox.next {w W W1 : World} {lv uv : Value} (h : RBox w lv uv W) (hb : Below W.heap.size W W1) : RBox w lv uv W1 := Below.trans h (hb.mono h.size)
theorem RBox.par {w W : World} {lv uv : Value} (h : RBox w lv uv W) : TBox W w.heap.size 25 #[lv, uv] := (Below.block h w.heap.size (by omega)).trans (TBox.new w #[lv, uv] 25)
theorem RBox.set {w W : World} {lv uv : Value} (h : RBox w lv uv W) {b : Nat} (hb : w.heap.size + 1 ≤ b) (i : Nat) (u : Value) : RBox w lv uv (W.setCell ⟨b, i, none⟩ u) := Below.setCell h (p := ⟨b, i, none⟩) hb u
theorem rig_shape {B : Nat} {w : World} {x : Rig} {lv uv : Value} (h : RigAt B w x lv uv) : ∃ lo lcap uo ucap, lv = .slice lo x.lib.length lcap ∧ uv = .slice uo x.units.length ucap := by
  obtain ⟨uo, ucap, e1, _⟩ := CellsS.shape h.units
  obtain ⟨lo, lcap, e2⟩ := prfS_shape h.lib
  exact ⟨lo, lcap, uo, ucap, e2, e1⟩
end Go.Proofs.Ytabalicembhjmaa
