/- effect.Way. (printed by wip/gen/gen_waytop.py) -/
import Derived.Test.YtopmdeefcjdadaaT43M11
import Derived.Test.YtopmdeefcjdadaaT43M18
import Derived.Test.YtopmdeefcjdadaaT43M24
import Derived.Test.YtopmdeefcjdadaaT43M25
import Derived.Test.YtopmdeefcjdadaaT43M26
import Derived.Test.YtopmdeefcjdadaaT43M27
import Derived.Test.YtopmdeefcjdadaaT43M28
import Derived.Test.YtopmdeefcjdadaaT43M30
import Derived.Test.YtopmdeefcjdadaaT43M31
import Derived.Test.YtopmdeefcjdadaaT43M33

namespace Go.Proofs.Ytopmdeefcjdadaa
open Go.RowKit
set_option linter.unusedVariables false
set_option linter.unusedSimpArgs false

set_option maxRecDepth 100000 in
set_option maxHeartbeats 4000000 in
theorem wayFn_any (pb qb : Nat) (bd dn k : Int) (w : World) (hp : TBox w pb 77 #[.int .u64 (hw 0 bd), .int .u64 (hw 1 bd), .int .u64 (hw 2 bd), .int .u64 (hw 3 bd), .int .u64 (hw 4 bd), .int .u64 (hw 5 bd)]) (hq : TBox w qb 77 #[.int .u64 (hw 0 dn), .int .u64 (hw 1 dn), .int .u64 (hw 2 dn), .int .u64 (hw 3 dn), .int .u64 (hw 4 dn), .int .u64 (hw 5 dn)]) (hb0 : 0 ≤ bd) (hbP : bd < powW 6) (hd0 : 0 ≤ dn) (hd9 : dn ≤ 1000000000000000000 * (1000000000000000000 * 1000000000000000000)) (k0 : 0 ≤ k) (k1 : k ≤ 65535) :
    Calls Try.prog 48 #[.int .i64 k, .pointer (some ⟨pb, 0, none⟩), .pointer (some ⟨qb, 0, none⟩)] w fun e w' => e = .returned (.bool (!decide (bd < dn * (2 * k)))) ∧ Below w.heap.size w w' := by
  have hbig := powW6_big
  have hdP : dn < powW 6 := by omega
  have hk20 : 0 ≤ 2 * k := by omega
  have hk29 : 2 * k ≤ 9223372036854775807 := by omega
  have hdk0 : 0 ≤ dn * (2 * k) := Int.mul_nonneg hd0 hk20
  have hdk : dn * (2 * k) < powW 6 := by
    have h := mul_both (a := dn) (b := 2 * k) (A := 1000000000000000000 * (1000000000000000000 * 1000000000000000000)) (B := 131070) hd0 hk20 hd9 (by omega)
    omega
  have aw : IntKind.i64.wrap (2 * k) = 2 * k := IntWalk.i64_in _ (by omega)
  have HP := Lib.hid hp
  have HQ := Lib.hid hq
  clear hp hq hbig
  go_enter Try.func48, Try.ntmps48
  go_upto_region 1 with fail
  refine region_heads (by kernel_rfl) 9 (by simp) (by kernel_rfl) (by kernel_rfl) (by kernel_rfl) (by kernel_rfl) (fun jx vx wx => match jx with | 0 => vx = (.agg #[.int .u64 (hw 0 bd), .int .u64 (hw 1 bd), .int .u64 (hw 2 bd), .int .u64 (hw 3 bd), .int .u64 (hw 4 bd), .int .u64 (hw 5 bd)]) | 1 => vx = (.agg #[.int .u64 (hw 0 dn), .int .u64 (hw 1 dn), .int .u64 (hw 2 dn), .int .u64 (hw 3 dn), .int .u64 (hw 4 dn), .int .u64 (hw 5 dn)]) | 2 => vx = (.int .i64 k) | 3 => vx = (.int .i64 (2 * k)) | 4 => Lit1 w.heap.size vx (.int .i64 (2 * k)) wx | 5 => vx = (.agg #[.int .u64 (hw 0 (dn * (2 * k))), .int .u64 (hw 1 (dn * (2 * k))), .int .u64 (hw 2 (dn * (2 * k))), .int .u64 (hw 3 (dn * (2 * k))), .int .u64 (hw 4 (dn * (2 * k))), .int .u64 (hw 5 (dn * (2 * k)))]) | 6 => vx = (.bool (decide (bd < dn * (2 * k)))) | 7 => vx = (.bool (!decide (bd < dn * (2 * k)))) | 8 => vx = (.bool (!decide (bd < dn * (2 * k)))) | _ => True) (fun W => Below w.heap.size w W) (fun wx wy => Below wx.heap.size wx wy) (Below.refl _ _).drew ?_ ?_ ?_ ?_
  · intro jx vx wx wy h g
    match jx, h with
    | 0, h => exact h
    | 1, h => exact h
    | 2, h => exact h
    | 3, h => exact h
    | 4, h => exact Lit1.up h g
    | 5, h => exact h
    | 6, h => exact h
    | 7, h => exact h
    | 8, h => exact h
    | jx + 9, h => exact trivial
  · intro jx ox dx hj ho hd
    exact insN_of (by kernel_rfl) hj ho hd
  · intro ix ox ax W hi hio hsh hW hpre
    have hsz : w.heap.size ≤ W.heap.size := hW.size
    have GA : ∀ ob, Below W.heap.size W (W.alloc ob) := fun ob => (Below.refl _ _).alloc (Nat.le_refl _) ob
    have WA : ∀ ob, Below w.heap.size w (W.alloc ob) := fun ob => hW.alloc hsz ob
    have t0 : ax.tmps[0]?.getD undef = (.int .i64 k) := (Array.getD_eq_getD_getElem? ..).symm.trans ((hsh.2.2 0 (notN_of (by kernel_rfl))).trans rfl)
    have t1 : ax.tmps[1]?.getD undef = (.pointer (some ⟨pb, 0, none⟩)) := (Array.getD_eq_getD_getElem? ..).symm.trans ((hsh.2.2 1 (notN_of (by kernel_rfl))).trans rfl)
    have t2 : ax.tmps[2]?.getD undef = (.pointer (some ⟨qb, 0, none⟩)) := (Array.getD_eq_getD_getElem? ..).symm.trans ((hsh.2.2 2 (notN_of (by kernel_rfl))).trans rfl)
    obtain ⟨h0, h1, h2, h3, h4, h5⟩ := hugeCells (HP.out.below hW)
    obtain ⟨g0, g1, g2, g3, g4, g5⟩ := hugeCells (HQ.out.below hW)
    clear hsh
    match ix, hi, hio with
    | 0, _, hio =>
      cases hio
      exact hwp_val (v := .agg #[.int .u64 (hw 0 bd), .int .u64 (hw 1 bd), .int .u64 (hw 2 bd), .int .u64 (hw 3 bd), .int .u64 (hw 4 bd), .int .u64 (hw 5 bd)]) (w' := W) (by simp [execOp, Act.eval, t1, h0, h1, h2, h3, h4, h5, go_sem]) ⟨_, rfl, rfl, hW, Below.refl _ _⟩
    | 1, _, hio =>
      cases hio
      exact hwp_val (v := .agg #[.int .u64 (hw 0 dn), .int .u64 (hw 1 dn), .int .u64 (hw 2 dn), .int .u64 (hw 3 dn), .int .u64 (hw 4 dn), .int .u64 (hw 5 dn)]) (w' := W) (by simp [execOp, Act.eval, t2, g0, g1, g2, g3, g4, g5, go_sem]) ⟨_, rfl, rfl, hW, Below.refl _ _⟩
    | 2, _, hio =>
      cases hio
      exact hwp_val (v := .int .i64 k) (w' := W) (by simp [execOp, Act.eval, t0, go_sem]) ⟨_, rfl, rfl, hW, Below.refl _ _⟩
    | 3, _, hio =>
      cases hio
      have p2 := hpre ⟨2, .data⟩ (by simp) (by rfl) _ _ rfl rfl
      have f2 : ax.tmps[7]?.getD undef = (.int .i64 k) := (Array.getD_eq_getD_getElem? ..).symm.trans p2
      exact hwp_val (v := .int .i64 (2 * k)) (w' := W) (by simp [execOp, Act.eval, aw, f2, go_sem]) ⟨_, rfl, rfl, hW, Below.refl _ _⟩
    | 4, _, hio =>
      cases hio
      have p3 := hpre ⟨3, .data⟩ (by simp) (by rfl) _ _ rfl rfl
      have f3 : ax.tmps[8]?.getD undef = (.int .i64 (2 * k)) := (Array.getD_eq_getD_getElem? ..).symm.trans p3
      exact hwp_val (v := .slice (some ⟨W.heap.size, 0, none⟩) 1 1) (w' := W.alloc (.cells #[.int .i64 (2 * k)] 3)) (by simp [execOp, Act.eval, f3, go_sem]) ⟨_, rfl, Lit1.new _ _ hsz, WA _, GA _⟩
    | 5, _, hio =>
      cases hio
      have p1 := hpre ⟨1, .data⟩ (by simp) (by rfl) _ _ rfl rfl
      have f1 : ax.tmps[6]?.getD undef = (.agg #[.int .u64 (hw 0 dn), .int .u64 (hw 1 dn), .int .u64 (hw 2 dn), .int .u64 (hw 3 dn), .int .u64 (hw 4 dn), .int .u64 (hw 5 dn)]) := (Array.getD_eq_getD_getElem? ..).symm.trans p1
      have p4 := hpre ⟨4, .data⟩ (by simp) (by rfl) _ _ rfl rfl
      obtain ⟨b4, e4, hb4, hl4, hc4⟩ := p4
      have f4 := (Array.getD_eq_getD_getElem? ..).symm.trans e4
      refine hwp_enter (f := 45) (args := #[.agg #[.int .u64 (hw 0 dn), .int .u64 (hw 1 dn), .int .u64 (hw 2 dn), .int .u64 (hw 3 dn), .int .u64 (hw 4 dn), .int .u64 (hw 5 dn)], .slice (some ⟨b4, 0, none⟩) 1 1]) (by simp [execOp, Act.eval, f1, f4, go_sem]) ?_
      refine (cTimes1 dn (2 * k) b4 W hd0 hk20 hk29 hdP hdk hl4 hc4).mono ?_
      rintro ex wy ⟨rfl, hb⟩
      exact ⟨_, rfl, _, rfl, rfl, hW.trans (hb.mono hsz), hb⟩
    | 6, _, hio =>
      cases hio
      have p0 := hpre ⟨0, .data⟩ (by simp) (by rfl) _ _ rfl rfl
      have f0 : ax.tmps[5]?.getD undef = (.agg #[.int .u64 (hw 0 bd), .int .u64 (hw 1 bd), .int .u64 (hw 2 bd), .int .u64 (hw 3 bd), .int .u64 (hw 4 bd), .int .u64 (hw 5 bd)]) := (Array.getD_eq_getD_getElem? ..).symm.trans p0
      have p5 := hpre ⟨5, .data⟩ (by simp) (by rfl) _ _ rfl rfl
      have f5 : ax.tmps[10]?.getD undef = (.agg #[.int .u64 (hw 0 (dn * (2 * k))), .int .u64 (hw 1 (dn * (2 * k))), .int .u64 (hw 2 (dn * (2 * k))), .int .u64 (hw 3 (dn * (2 * k))), .int .u64 (hw 4 (dn * (2 * k))), .int .u64 (hw 5 (dn * (2 * k)))]) := (Array.getD_eq_getD_getElem? ..).symm.trans p5
      refine hwp_enter (f := 49) (args := #[.agg #[.int .u64 (hw 0 bd), .int .u64 (hw 1 bd), .int .u64 (hw 2 bd), .int .u64 (hw 3 bd), .int .u64 (hw 4 bd), .int .u64 (hw 5 bd)], .agg #[.int .u64 (hw 0 (dn * (2 * k))), .int .u64 (hw 1 (dn * (2 * k))), .int .u64 (hw 2 (dn * (2 * k))), .int .u64 (hw 3 (dn * (2 * k))), .int .u64 (hw 4 (dn * (2 * k))), .int .u64 (hw 5 (dn * (2 * k)))]]) (by simp [execOp, Act.eval, f0, f5, go_sem]) ?_
      refine (cLess bd (dn * (2 * k)) hb0 hbP hdk0 hdk W).mono ?_
      rintro ex wy ⟨rfl, hb⟩
      exact ⟨_, rfl, _, rfl, rfl, hW.trans (hb.mono hsz), hb⟩
    | 7, _, hio =>
      cases hio
      have p6 := hpre ⟨6, .data⟩ (by simp) (by rfl) _ _ rfl rfl
      have f6 : ax.tmps[11]?.getD undef = (.bool (decide (bd < dn * (2 * k)))) := (Array.getD_eq_getD_getElem? ..).symm.trans p6
      exact hwp_val (v := .bool (!decide (bd < dn * (2 * k)))) (w' := W) (by simp [execOp, Act.eval, f6, go_sem]) ⟨_, rfl, rfl, hW, Below.refl _ _⟩
    | 8, _, hio =>
      cases hio
      have p7 := hpre ⟨7, .data⟩ (by simp) (by rfl) _ _ rfl rfl
      have f7 : ax.tmps[12]?.getD undef = (.bool (!decide (bd < dn * (2 * k)))) := (Array.getD_eq_getD_getElem? ..).symm.trans p7
      exact hwp_val (v := .bool (!decide (bd < dn * (2 * k)))) (w' := W) (by simp [execOp, Act.eval, f7, go_sem]) ⟨_, rfl, rfl, hW, Below.refl _ _⟩
    | ix + 9, hi, _ => exact absurd hi (by omega)
  · intro ax W hsh hW hφ
    have e0 : ax.tmps.getD 5 undef = (.agg #[.int .u64 (hw 0 bd), .int .u64 (hw 1 bd), .int .u64 (hw 2 bd), .int .u64 (hw 3 bd), .int .u64 (hw 4 bd), .int .u64 (hw 5 bd)]) := hφ 0 _ _ (by omega) rfl rfl
    have e1 : ax.tmps.getD 6 undef = (.agg #[.int .u64 (hw 0 dn), .int .u64 (hw 1 dn), .int .u64 (hw 2 dn), .int .u64 (hw 3 dn), .int .u64 (hw 4 dn), .int .u64 (hw 5 dn)]) := hφ 1 _ _ (by omega) rfl rfl
    have e2 : ax.tmps.getD 7 undef = (.int .i64 k) := hφ 2 _ _ (by omega) rfl rfl
    have e3 : ax.tmps.getD 8 undef = (.int .i64 (2 * k)) := hφ 3 _ _ (by omega) rfl rfl
    obtain ⟨b4, e4, hb4, hl4, hc4⟩ := hφ 4 _ _ (by omega) rfl rfl
    have e5 : ax.tmps.getD 10 undef = (.agg #[.int .u64 (hw 0 (dn * (2 * k))), .int .u64 (hw 1 (dn * (2 * k))), .int .u64 (hw 2 (dn * (2 * k))), .int .u64 (hw 3 (dn * (2 * k))), .int .u64 (hw 4 (dn * (2 * k))), .int .u64 (hw 5 (dn * (2 * k)))]) := hφ 5 _ _ (by omega) rfl rfl
    have e6 : ax.tmps.getD 11 undef = (.bool (decide (bd < dn * (2 * k)))) := hφ 6 _ _ (by omega) rfl rfl
    have e7 : ax.tmps.getD 12 undef = (.bool (!decide (bd < dn * (2 * k)))) := hφ 7 _ _ (by omega) rfl rfl
    have e8 : ax.tmps.getD 4 undef = (.bool (!decide (bd < dn * (2 * k)))) := hφ 8 _ _ (by omega) rfl rfl
    rw [shape_puts hsh [(5, .agg #[.int .u64 (hw 0 bd), .int .u64 (hw 1 bd), .int .u64 (hw 2 bd), .int .u64 (hw 3 bd), .int .u64 (hw 4 bd), .int .u64 (hw 5 bd)]), (6, .agg #[.int .u64 (hw 0 dn), .int .u64 (hw 1 dn), .int .u64 (hw 2 dn), .int .u64 (hw 3 dn), .int .u64 (hw 4 dn), .int .u64 (hw 5 dn)]), (7, .int .i64 k), (8, .int .i64 (2 * k)), (9, .slice (some ⟨b4, 0, none⟩) 1 1), (10, .agg #[.int .u64 (hw 0 (dn * (2 * k))), .int .u64 (hw 1 (dn * (2 * k))), .int .u64 (hw 2 (dn * (2 * k))), .int .u64 (hw 3 (dn * (2 * k))), .int .u64 (hw 4 (dn * (2 * k))), .int .u64 (hw 5 (dn * (2 * k)))]), (11, .bool (decide (bd < dn * (2 * k)))), (12, .bool (!decide (bd < dn * (2 * k)))), (4, .bool (!decide (bd < dn * (2 * k))))] [5, 6, 7, 8, 9, 10, 11, 12, 4] rfl (by kernel_rfl) ⟨e0, e1, e2, e3, e4, e5, e6, e7, e8, trivial⟩]
    clear hφ hsh e0 e1 e2 e3 e4 e5 e6 e7 e8
    clear hc4
    simp only [putsN, List.foldl_cons, List.foldl_nil, List.drop_succ_cons, List.drop_zero, Act.put, List.setIfInBounds_toArray, List.set_cons_succ, List.set_cons_zero]
    have HBE := Lib.hid hW
    clear hW
    go_wp2_with fail
    go_ret
    exact ⟨rfl, HBE.out⟩
theorem way_all (form low high cycle width spread : Int) (back rel : Bool) (ao : Option Addr) (cap : Nat) (l : List Stp) (index count clock c pn pd pk : Int) (w : World) (hf : 1 ≤ form ∧ form ≤ 7) (hs : StepsAt w.heap.size w ao l) (hl : l.length ≤ 50) (hall : l.all stpB = true) (hc : 0 ≤ cycle ∧ cycle ≤ 3600000)
    (hcc : cycle + sumS l = c) (c0 : 1 ≤ c) (c1 : c ≤ 3600000) (n0 : 1 ≤ count) (n1 : count ≤ 400) (i0 : 0 ≤ index) (i1 : index ≤ 400) (k0 : 0 ≤ clock) (k1 : clock ≤ 36360000000) (s0 : -10000 ≤ spread) (s1 : spread ≤ 10000) (hwd0 : 0 ≤ width) (hwd1 : width ≤ 1000)
    (hpn : whN back (whY c spread index count clock) (whD c count) = pn) (hpd : whD c count = pd) (hpk : whY c spread index count clock / whD c count = pk) :
    Calls Try.prog 44 #[.agg #[.int .i64 form, .int .i64 low, .int .i64 high, .int .i64 cycle, .int .i64 width, .int .i64 spread, .bool back, .bool rel, .slice ao l.length cap], .int .i64 index, .int .i64 count, .int .i64 clock] w fun e w' => e = .returned (.tuple #[.agg #[.int .u64 (hw 0 (wvP form width l c pn pd pk index).1), .int .u64 (hw 1 (wvP form width l c pn pd pk index).1), .int .u64 (hw 2 (wvP form width l c pn pd pk index).1), .int .u64 (hw 3 (wvP form width l c pn pd pk index).1), .int .u64 (hw 4 (wvP form width l c pn pd pk index).1), .int .u64 (hw 5 (wvP form width l c pn pd pk index).1)], .agg #[.int .u64 (hw 0 (wvP form width l c pn pd pk index).2), .int .u64 (hw 1 (wvP form width l c pn pd pk index).2), .int .u64 (hw 2 (wvP form width l c pn pd pk index).2), .int .u64 (hw 3 (wvP form width l c pn pd pk index).2), .int .u64 (hw 4 (wvP form width l c pn pd pk index).2), .int .u64 (hw 5 (wvP form width l c pn pd pk index).2)]]) ∧ Below w.heap.size w w' := by
  have h7 : form = 1 ∨ form = 2 ∨ form = 3 ∨ form = 4 ∨ form = 5 ∨ form = 6 ∨ form = 7 := by omega
  rcases h7 with rfl | rfl | rfl | rfl | rfl | rfl | rfl
  · exact way_1 low high cycle width spread back rel ao cap l index count clock c pn pd pk w hs hl hall hc hcc c0 c1 n0 n1 i0 i1 k0 k1 s0 s1 hpn hpd hpk
  · exact way_2 low high cycle width spread back rel ao cap l index count clock c pn pd pk w hs hl hall hc hcc c0 c1 n0 n1 i0 i1 k0 k1 s0 s1 hpn hpd hpk
  · exact way_3 low high cycle width spread back rel ao cap l index count clock c pn pd pk w hs hl hall hc hcc c0 c1 n0 n1 i0 i1 k0 k1 s0 s1 hpn hpd hpk
  · exact way_4 low high cycle width spread back rel ao cap l index count clock c pn pd pk w hs hl hall hc hcc c0 c1 n0 n1 i0 i1 k0 k1 s0 s1 hwd0 hwd1 hpn hpd hpk
  · exact way_5 low high cycle width spread back rel ao cap l index count clock c pn pd pk w hs hl hall hc hcc c0 c1 n0 n1 i0 i1 k0 k1 s0 s1 hpn hpd hpk
  · exact way_6 low high cycle width spread back rel ao cap l index count clock c pn pd pk w hs hl hall hc hcc c0 c1 n0 n1 i0 i1 k0 k1 s0 s1 hpn hpd hpk
  · exact way_7 low high cycle width spread back rel ao cap l index count clock c pn pd pk w hs hl hall hc hcc c0 c1 n0 n1 i0 i1 k0 k1 s0 s1 hpn hpd hpk
theorem first3w (b : Nat) (x y z r : Int) (W : World) (hr : firstF [x, y, z] = r) (h1 : W.cell? ⟨b, 0, none⟩ = some (.int .i64 x)) (h2 : W.cell? ⟨b, 1, none⟩ = some (.int .i64 y)) (h3 : W.cell? ⟨b, 2, none⟩ = some (.int .i64 z)) :
    Calls Try.prog 26 #[.slice (some ⟨b, 0, none⟩) 3 3] W fun e w' => e = .returned (.int .i64 r) ∧ W = w' := by
  rw [← hr]
  refine first_any b 0 3 [x, y, z] W (by simp) ?_
  intro i h
  match i, h with
  | 0, _ => simpa using h1
  | 1, _ => simpa using h2
  | 2, _ => simpa using h3
/-- the fault of Way, k that of the effect -/
def wayFlt (k index count clock : Int) : Int := firstF [k, whenW (!inR count 1 400) 1, whenW (!inR index 0 (wrap64 (count - 1)) || !inR clock 0 36000000000) 1]
def wayRes (form cycle width spread : Int) (back : Bool) (l : List Stp) (k index count clock : Int) : Int :=
  if wayFlt k index count clock = 0 then wayV (wvP form width l (cycle + sumS l) (whN back (whY (cycle + sumS l) spread index count clock) (whD (cycle + sumS l) count)) (whD (cycle + sumS l) count) (whY (cycle + sumS l) spread index count clock / whD (cycle + sumS l) count) index) else 0
theorem wayFlt_zero {k index count clock : Int} (h : wayFlt k index count clock = 0) : k = 0 ∧ (1 ≤ count ∧ count ≤ 400) ∧ (0 ≤ index ∧ index < count) ∧ 0 ≤ clock ∧ clock ≤ 36000000000 := by
  unfold wayFlt at h
  have f3 : ∀ a b c : Int, firstF [a, b, c] = 0 → a = 0 ∧ b = 0 ∧ c = 0 := by
    intro a b c h
    by_cases h1 : a = 0 <;> by_cases h2 : b = 0 <;> by_cases h3 : c = 0 <;> simp [firstF, h1, h2, h3] at h ⊢
  obtain ⟨h1, h2, h3⟩ := f3 _ _ _ h
  have wz : ∀ b : Bool, whenW b 1 = 0 → b = false := by intro b; cases b <;> simp [whenW]
  have h2' := wz _ h2
  have h3' := wz _ h3
  simp only [Bool.or_eq_false_iff, Bool.not_eq_false'] at h2' h3'
  have c1 := of_decide_eq_true h2'
  have c2 := of_decide_eq_true h3'.1
  have c3 := of_decide_eq_true h3'.2
  have e : wrap64 (count - 1) = count - 1 := by unfold wrap64; omega
  rw [e] at c2
  exact ⟨h1, c1, ⟨c2.1, by omega⟩, c3⟩
theorem cyc_range {form low high cycle width spread : Int} {l : List Stp} (h : chkF form low high cycle width spread l = 0) : (1 ≤ cycle + sumS l ∧ cycle + sumS l ≤ 3600000) ∧ (form = 7 → 0 < l.length) := by
  have hz := chkE_zero h
  have f1 : inR form 1 7 = true := by simpa [inR] using hz.1
  by_cases f7 : form = 7
  · subst f7
    simp only [chkF, chkB] at h
    rw [f1] at h
    simp only [Bool.not_true, Bool.false_eq_true, if_false, beq_self_eq_true, Bool.true_and, Bool.not_false, Bool.false_and, Bool.or_false] at h
    split at h
    · omega
    split at h
    · omega
    split at h
    · omega
    split at h
    · omega
    rename_i h4
    split at h
    · omega
    split at h
    · omega
    split at h
    · rename_i h7
      refine ⟨of_decide_eq_true h7, fun _ => ?_⟩
      simp at h4
      exact List.length_pos_iff.2 h4
    · omega
  · have hl := hz.2.2.2.2.2.2.2.2.2.1 f7
    have hn : l = [] := List.length_eq_zero_iff.1 hl
    have g7 : (form == 7) = false := by simpa using f7
    refine ⟨?_, fun h => absurd h f7⟩
    subst hn
    simp only [chkF, chkB] at h
    rw [f1, g7] at h
    simp only [Bool.not_true, Bool.false_eq_true, if_false, Bool.false_and, Bool.or_false, Bool.not_false, Bool.true_and] at h
    split at h
    · omega
    split at h
    · omega
    split at h
    · omega
    · rename_i h3
      simp [inR] at h3
      simp only [sumS]
      omega
set_option maxRecDepth 100000 in
set_option maxHeartbeats 16000000 in
theorem Way_any (form low high cycle width spread : Int) (back rel : Bool) (ao : Option Addr) (cap : Nat) (l : List Stp) (index count clock : Int) (w : World) (hs : StepsAt w.heap.size w ao l) (hmax : l.length ≤ maxLen) :
    Calls Try.prog 16 #[.agg #[.int .i64 form, .int .i64 low, .int .i64 high, .int .i64 cycle, .int .i64 width, .int .i64 spread, .bool back, .bool rel, .slice ao l.length cap], .int .i64 index, .int .i64 count, .int .i64 clock] w fun e w' => e = .returned (.tuple #[.int .i64 (wayRes form cycle width spread back l (chkF form low high cycle width spread l) index count clock), .int .i64 (wayFlt (chkF form low high cycle width spread l) index count clock)]) ∧ Below w.heap.size w w' := by
  have CF := Lib.hid (fun (W : World) (hb : Below w.heap.size w W) => efCheck_any form low high cycle width spread back rel ao cap l W (stepsAt_up hs hb) hmax)
  have HZ := Lib.hid (fun (h : chkF form low high cycle width spread l = 0) => chkE_zero h)
  have HCY := Lib.hid (fun (h : chkF form low high cycle width spread l = 0) => cyc_range h)
  have HS := Lib.hid (fun (W : World) (hb : Below w.heap.size w W) => stepsAt_up hs hb)
  generalize chkF form low high cycle width spread l = k at *
  have HFZ := Lib.hid (wayFlt_zero (k := k) (index := index) (count := count) (clock := clock))
  have HFL := Lib.hid (show firstF [k, whenW (!inR count 1 400) 1, whenW (!inR index 0 (wrap64 (count - 1)) || !inR clock 0 36000000000) 1] = wayFlt k index count clock from rfl)
  have HR0 := Lib.hid (show ¬ wayFlt k index count clock = 0 → wayRes form cycle width spread back l k index count clock = 0 from fun h => if_neg h)
  have HR1 := Lib.hid (show wayFlt k index count clock = 0 → wayRes form cycle width spread back l k index count clock = _ from fun h => if_pos h)
  generalize wayFlt k index count clock = FL at *
  generalize wayRes form cycle width spread back l k index count clock = RES at *
  have HT := Lib.hid (show TBox (w.alloc (.cells #[.int .i64 form, .int .i64 low, .int .i64 high, .int .i64 cycle, .int .i64 width, .int .i64 spread, .bool back, .bool rel, .slice ao l.length cap] 24)) w.heap.size 24 #[.int .i64 form, .int .i64 low, .int .i64 high, .int .i64 cycle, .int .i64 width, .int .i64 spread, .bool back, .bool rel, .slice ao l.length cap] from TBox.new w _ _)
  have HB := Lib.hid (show Below w.heap.size w (w.alloc (.cells #[.int .i64 form, .int .i64 low, .int .i64 high, .int .i64 cycle, .int .i64 width, .int .i64 spread, .bool back, .bool rel, .slice ao l.length cap] 24)) from (Below.refl _ _).alloc (Nat.le_refl _) _)
  clear hs
  go_enter Try.func16, Try.ntmps16
  go_upto_region 1 with fail
  generalize hw0 : (w.alloc (.cells #[.int .i64 form, .int .i64 low, .int .i64 high, .int .i64 cycle, .int .i64 width, .int .i64 spread, .bool back, .bool rel, .slice ao l.length cap] 24)) = w1 at *
  clear hw0
  go_cut [10] (fun s10 wx => s10 = .int .i64 FL ∧ Below w1.heap.size w1 wx)
  case first =>
    have C1 := Lib.hid (CF.out _ HB.out)
    have q0 := HT.out.cell (i := 0) rfl
    have q1 := HT.out.cell (i := 1) rfl
    have q2 := HT.out.cell (i := 2) rfl
    have q3 := HT.out.cell (i := 3) rfl
    have q4 := HT.out.cell (i := 4) rfl
    have q5 := HT.out.cell (i := 5) rfl
    have q6 := HT.out.cell (i := 6) rfl
    have q7 := HT.out.cell (i := 7) rfl
    have q8 := HT.out.cell (i := 8) rfl
    have ql := HT.out.lt
    go_wp2_with fail
    refine C1.out.mono ?_
    rintro e w2 ⟨rfl, hb2⟩
    have HB2 := Lib.hid hb2
    clear hb2 C1 HT HB CF q0 q1 q2 q3 q4 q5 q6 q7 q8 ql
    generalize hA2 : whenW (!inR count 1 400) 1 = A2 at *
    cases hI : inR index 0 (wrap64 (count - 1)) with
    | false =>
      rw [hI] at HFL
      have WI := Lib.hid (show ∀ W : World, Calls Try.prog 30 #[.int .i64 index, .int .i64 0, .int .i64 (wrap64 (count - 1))] W fun e w' => e = .returned (.bool false) ∧ W = w' from fun W => hI ▸ within_R index 0 (wrap64 (count - 1)) W)
      go_wp2_with (first | (go_at_call 30; (with_reducible refine (WI.out _).mono ?_); rintro e w' ⟨rfl, rfl⟩) | (go_at_call 30; refine (within_R _ _ _ _).mono ?_; rintro e w' ⟨rfl, rfl⟩) | (go_at_call 28; refine (when_R _ _ _).mono ?_; rintro e w' ⟨rfl, rfl⟩) | (go_at_call 26; refine (first3w _ _ _ _ FL _ HFL.out (by simp [go_sem]) (by simp [go_sem]) (by simp [go_sem])).mono ?_; rintro e w' ⟨rfl, rfl⟩) | fail)
      go_meet
      exact ⟨rfl, HB2.out.alloc HB2.out.size _⟩
    | true =>
      rw [hI] at HFL
      have WI := Lib.hid (show ∀ W : World, Calls Try.prog 30 #[.int .i64 index, .int .i64 0, .int .i64 (wrap64 (count - 1))] W fun e w' => e = .returned (.bool true) ∧ W = w' from fun W => hI ▸ within_R index 0 (wrap64 (count - 1)) W)
      go_wp2_with (first | (go_at_call 30; (with_reducible refine (WI.out _).mono ?_); rintro e w' ⟨rfl, rfl⟩) | (go_at_call 30; refine (within_R _ _ _ _).mono ?_; rintro e w' ⟨rfl, rfl⟩) | (go_at_call 28; refine (when_R _ _ _).mono ?_; rintro e w' ⟨rfl, rfl⟩) | (go_at_call 26; refine (first3w _ _ _ _ FL _ HFL.out (by simp [go_sem]) (by simp [go_sem]) (by simp [go_sem])).mono ?_; rintro e w' ⟨rfl, rfl⟩) | fail)
      go_meet
      exact ⟨rfl, HB2.out.alloc HB2.out.size _⟩
  case rest =>
    obtain ⟨rfl, hbc⟩ := hcut
    obtain ⟨w3, rfl⟩ : ∃ x, x = wc := ⟨wc, rfl⟩
    have HB3 := Lib.hid (HB.out.trans (hbc.mono HB.out.size))
    have HT3 := Lib.hid (HT.out.below hbc)
    clear HB HT CF HFL
    by_cases hF : FL = 0
    · have HRV := Lib.hid (HR1.out hF)
      obtain ⟨hk, ⟨n0, n1⟩, ⟨i0, i1⟩, k0, k1⟩ := HFZ.out hF
      obtain ⟨hf, _, _, _, hcy, ⟨hwd0, hwd1⟩, ⟨s0, s1⟩, hl, hall, _, _⟩ := HZ.out hk
      obtain ⟨⟨c0, c1⟩, h7⟩ := HCY.out hk
      subst hF
      clear HR0 HR1 HFZ HZ HCY hk
      obtain ⟨d0, d1⟩ := whD_range c0 c1 n0 n1
      obtain ⟨y0, y1⟩ := whN_range back (whY (cycle + sumS l) spread index count clock) (show 0 < whD (cycle + sumS l) count by omega)
      have HOK := wvP_ok (form := form) (width := width) (l := l) (c := cycle + sumS l) (pn := whN back (whY (cycle + sumS l) spread index count clock) (whD (cycle + sumS l) count)) (pd := whD (cycle + sumS l) count) (pk := whY (cycle + sumS l) spread index count clock / whD (cycle + sumS l) count) (index := index) hf h7 hall y0 y1 d0 (by omega)
      have C4 := Lib.hid (way_all form low high cycle width spread back rel ao cap l index count clock _ _ _ _ w3 hf (HS.out w3 HB3.out) hl hall hcy rfl c0 c1 n0 n1 i0 (by omega) k0 (by omega) s0 s1 hwd0 hwd1 rfl rfl rfl)
      generalize wvP form width l (cycle + sumS l) (whN back (whY (cycle + sumS l) spread index count clock) (whD (cycle + sumS l) count)) (whD (cycle + sumS l) count) (whY (cycle + sumS l) spread index count clock / whD (cycle + sumS l) count) index = wv at *
      obtain ⟨wn, wd⟩ := wv
      have HU := Lib.hid (fun (r : Int) => wayV_unique HOK (r := r))
      simp only at C4 HU
      unfold WayOk at HOK
      simp only at HOK
      obtain ⟨o0, o1, o2, o3⟩ := HOK
      have O := Lib.hid (show 0 ≤ wn ∧ wn ≤ wd ∧ 1 ≤ wd ∧ wd ≤ 1000000000000000000 * (1000000000000000000 * 1000000000000000000) from ⟨o0, o1, o2, o3⟩)
      clear o0 o1 o2 o3 HS hf hcy hwd0 hwd1 s0 s1 hl hall c0 c1 h7 d0 d1 y0 y1 n0 n1 i0 i1 k0 k1
      generalize wayV (wn, wd) = rv at *
      have q0 := HT3.out.cell (i := 0) rfl
      have q1 := HT3.out.cell (i := 1) rfl
      have q2 := HT3.out.cell (i := 2) rfl
      have q3 := HT3.out.cell (i := 3) rfl
      have q4 := HT3.out.cell (i := 4) rfl
      have q5 := HT3.out.cell (i := 5) rfl
      have q6 := HT3.out.cell (i := 6) rfl
      have q7 := HT3.out.cell (i := 7) rfl
      have q8 := HT3.out.cell (i := 8) rfl
      have ql := HT3.out.lt
      go_upto_region 4 with fail
      clear q0 q1 q2 q3 q4 q5 q6 q7 q8 ql
      go_cut [11, 12] (fun a b wx => ∃ nb db : Nat, a = .pointer (some ⟨nb, 0, none⟩) ∧ b = .pointer (some ⟨db, 0, none⟩) ∧ nb ≠ db ∧ Hid (w3.heap.size ≤ nb ∧ w3.heap.size ≤ db) ∧ Hid (TBox wx nb 77 #[.int .u64 (hw 0 wn), .int .u64 (hw 1 wn), .int .u64 (hw 2 wn), .int .u64 (hw 3 wn), .int .u64 (hw 4 wn), .int .u64 (hw 5 wn)]) ∧ Hid (TBox wx db 77 #[.int .u64 (hw 0 wd), .int .u64 (hw 1 wd), .int .u64 (hw 2 wd), .int .u64 (hw 3 wd), .int .u64 (hw 4 wd), .int .u64 (hw 5 wd)]) ∧ Hid (Below w3.heap.size w3 wx))
      case first =>
        have q0 := HT3.out.cell (i := 0) rfl
        have q1 := HT3.out.cell (i := 1) rfl
        have q2 := HT3.out.cell (i := 2) rfl
        have q3 := HT3.out.cell (i := 3) rfl
        have q4 := HT3.out.cell (i := 4) rfl
        have q5 := HT3.out.cell (i := 5) rfl
        have q6 := HT3.out.cell (i := 6) rfl
        have q7 := HT3.out.cell (i := 7) rfl
        have q8 := HT3.out.cell (i := 8) rfl
        have ql := HT3.out.lt
        go_wp2_with fail
        refine C4.out.mono ?_
        rintro e w4 ⟨rfl, hb4⟩
        have HB4 := Lib.hid hb4
        clear hb4 C4 q0 q1 q2 q3 q4 q5 q6 q7 q8 ql
        go_wp2_with fail
        go_meet
        have hz4 := HB4.out.size
        exact ⟨_, _, rfl, rfl, by omega, Lib.hid ⟨hz4, by omega⟩, Lib.hid ((TBox.new _ _ _).alloc _), Lib.hid (by simpa only [World.size_alloc] using TBox.new (w4.alloc _) _ _), Lib.hid ((HB4.out.alloc hz4 _).alloc (by simp only [World.size_alloc]; omega) _)⟩
      case rest =>
        obtain ⟨nb, db, rfl, rfl, hne, HNB, HTN, HTD, HBC⟩ := hcut
        clear C4 HT3
        obtain ⟨o0, o1, o2, o3⟩ := O.out
        have hbig := powW6_big
        have hwn1P : wn * 131070 < powW 6 := by omega
        have hwnP : wn < powW 6 := by omega
        have hwm0 : 0 ≤ wn * 131070 := by omega
        have hwd0 : 0 ≤ wd := by omega
        have hsP : wn * 131070 + wd < powW 6 := by omega
        have hsP0 : 0 ≤ wn * 131070 + wd := by omega
        have PW := Lib.hid (show (wn * 131070 < powW 6 ∧ wn < powW 6) ∧ wn * 131070 + wd < powW 6 from ⟨⟨hwn1P, hwnP⟩, hsP⟩)
        clear hbig o3 hwn1P hwnP hsP
        go_upto_region 5 with fail
        obtain ⟨w5, rfl⟩ : ∃ x, x = wc := ⟨wc, rfl⟩
        obtain ⟨⟨hwn1P, hwnP⟩, hsP⟩ := PW.out
        refine region_heads (by kernel_rfl) 6 (by simp) (by kernel_rfl) (by kernel_rfl) (by kernel_rfl) (by kernel_rfl) (fun jx vx wx => match jx with | 0 => vx = (.agg #[.int .u64 (hw 0 wn), .int .u64 (hw 1 wn), .int .u64 (hw 2 wn), .int .u64 (hw 3 wn), .int .u64 (hw 4 wn), .int .u64 (hw 5 wn)]) | 1 => Lit1 w5.heap.size vx (.int .i64 131070) wx | 2 => vx = (.agg #[.int .u64 (hw 0 (wn * 131070)), .int .u64 (hw 1 (wn * 131070)), .int .u64 (hw 2 (wn * 131070)), .int .u64 (hw 3 (wn * 131070)), .int .u64 (hw 4 (wn * 131070)), .int .u64 (hw 5 (wn * 131070))]) | 3 => vx = (.agg #[.int .u64 (hw 0 wd), .int .u64 (hw 1 wd), .int .u64 (hw 2 wd), .int .u64 (hw 3 wd), .int .u64 (hw 4 wd), .int .u64 (hw 5 wd)]) | 4 => vx = (.agg #[.int .u64 (hw 0 (wn * 131070 + wd)), .int .u64 (hw 1 (wn * 131070 + wd)), .int .u64 (hw 2 (wn * 131070 + wd)), .int .u64 (hw 3 (wn * 131070 + wd)), .int .u64 (hw 4 (wn * 131070 + wd)), .int .u64 (hw 5 (wn * 131070 + wd))]) | 5 => Box1 w5.heap.size 77 #[.int .u64 0, .int .u64 0, .int .u64 0, .int .u64 0, .int .u64 0, .int .u64 0] vx wx | _ => True) (fun W => Below w5.heap.size w5 W) (fun wx wy => Below wx.heap.size wx wy) (Below.refl _ _).drew ?_ ?_ ?_ ?_
        · intro jx vx wx wy h g
          match jx, h with
          | 0, h => exact h
          | 1, h => exact Lit1.up h g
          | 2, h => exact h
          | 3, h => exact h
          | 4, h => exact h
          | 5, h => exact Box1.up h g
          | jx + 6, h => exact trivial
        · intro jx ox dx hj ho hd
          exact insN_of (by kernel_rfl) hj ho hd
        · intro ix ox ax W hi hio hsh hW hpre
          have hsz : w5.heap.size ≤ W.heap.size := hW.size
          have GA : ∀ ob, Below W.heap.size W (W.alloc ob) := fun ob => (Below.refl _ _).alloc (Nat.le_refl _) ob
          have WA : ∀ ob, Below w5.heap.size w5 (W.alloc ob) := fun ob => hW.alloc hsz ob
          have t11 : ax.tmps[11]?.getD undef = (.pointer (some ⟨nb, 0, none⟩)) := (Array.getD_eq_getD_getElem? ..).symm.trans ((hsh.2.2 11 (notN_of (by kernel_rfl))).trans rfl)
          have t12 : ax.tmps[12]?.getD undef = (.pointer (some ⟨db, 0, none⟩)) := (Array.getD_eq_getD_getElem? ..).symm.trans ((hsh.2.2 12 (notN_of (by kernel_rfl))).trans rfl)
          obtain ⟨h0, h1, h2, h3, h4, h5⟩ := hugeCells (HTN.out.below hW)
          obtain ⟨g0, g1, g2, g3, g4, g5⟩ := hugeCells (HTD.out.below hW)
          clear hsh
          match ix, hi, hio with
          | 0, _, hio =>
            cases hio
            exact hwp_val (v := .agg #[.int .u64 (hw 0 wn), .int .u64 (hw 1 wn), .int .u64 (hw 2 wn), .int .u64 (hw 3 wn), .int .u64 (hw 4 wn), .int .u64 (hw 5 wn)]) (w' := W) (by simp [execOp, Act.eval, t11, h0, h1, h2, h3, h4, h5, go_sem]) ⟨_, rfl, rfl, hW, Below.refl _ _⟩
          | 1, _, hio =>
            cases hio
            exact hwp_val (v := .slice (some ⟨W.heap.size, 0, none⟩) 1 1) (w' := W.alloc (.cells #[.int .i64 131070] 3)) (by simp [execOp, Act.eval, go_sem]) ⟨_, rfl, Lit1.new _ _ hsz, WA _, GA _⟩
          | 2, _, hio =>
            cases hio
            have p0 := hpre ⟨0, .data⟩ (by simp) (by rfl) _ _ rfl rfl
            have f0 : ax.tmps[44]?.getD undef = (.agg #[.int .u64 (hw 0 wn), .int .u64 (hw 1 wn), .int .u64 (hw 2 wn), .int .u64 (hw 3 wn), .int .u64 (hw 4 wn), .int .u64 (hw 5 wn)]) := (Array.getD_eq_getD_getElem? ..).symm.trans p0
            have p1 := hpre ⟨1, .data⟩ (by simp) (by rfl) _ _ rfl rfl
            obtain ⟨b1, e1, hb1, hl1, hc1⟩ := p1
            have f1 := (Array.getD_eq_getD_getElem? ..).symm.trans e1
            refine hwp_enter (f := 45) (args := #[.agg #[.int .u64 (hw 0 wn), .int .u64 (hw 1 wn), .int .u64 (hw 2 wn), .int .u64 (hw 3 wn), .int .u64 (hw 4 wn), .int .u64 (hw 5 wn)], .slice (some ⟨b1, 0, none⟩) 1 1]) (by simp [execOp, Act.eval, f0, f1, go_sem]) ?_
            refine (cTimes1 wn 131070 b1 W o0 (by omega) (by omega) hwnP hwn1P hl1 hc1).mono ?_
            rintro ex wy ⟨rfl, hb⟩
            exact ⟨_, rfl, _, rfl, rfl, hW.trans (hb.mono hsz), hb⟩
          | 3, _, hio =>
            cases hio
            exact hwp_val (v := .agg #[.int .u64 (hw 0 wd), .int .u64 (hw 1 wd), .int .u64 (hw 2 wd), .int .u64 (hw 3 wd), .int .u64 (hw 4 wd), .int .u64 (hw 5 wd)]) (w' := W) (by simp [execOp, Act.eval, t12, g0, g1, g2, g3, g4, g5, go_sem]) ⟨_, rfl, rfl, hW, Below.refl _ _⟩
          | 4, _, hio =>
            cases hio
            have p2 := hpre ⟨2, .data⟩ (by simp) (by rfl) _ _ rfl rfl
            have f2 : ax.tmps[46]?.getD undef = (.agg #[.int .u64 (hw 0 (wn * 131070)), .int .u64 (hw 1 (wn * 131070)), .int .u64 (hw 2 (wn * 131070)), .int .u64 (hw 3 (wn * 131070)), .int .u64 (hw 4 (wn * 131070)), .int .u64 (hw 5 (wn * 131070))]) := (Array.getD_eq_getD_getElem? ..).symm.trans p2
            have p3 := hpre ⟨3, .data⟩ (by simp) (by rfl) _ _ rfl rfl
            have f3 : ax.tmps[47]?.getD undef = (.agg #[.int .u64 (hw 0 wd), .int .u64 (hw 1 wd), .int .u64 (hw 2 wd), .int .u64 (hw 3 wd), .int .u64 (hw 4 wd), .int .u64 (hw 5 wd)]) := (Array.getD_eq_getD_getElem? ..).symm.trans p3
            refine hwp_enter (f := 46) (args := #[.agg #[.int .u64 (hw 0 (wn * 131070)), .int .u64 (hw 1 (wn * 131070)), .int .u64 (hw 2 (wn * 131070)), .int .u64 (hw 3 (wn * 131070)), .int .u64 (hw 4 (wn * 131070)), .int .u64 (hw 5 (wn * 131070))], .agg #[.int .u64 (hw 0 wd), .int .u64 (hw 1 wd), .int .u64 (hw 2 wd), .int .u64 (hw 3 wd), .int .u64 (hw 4 wd), .int .u64 (hw 5 wd)]]) (by simp [execOp, Act.eval, f2, f3, go_sem]) ?_
            refine (cPlus (wn * 131070) wd hwm0 hwd0 hsP W).mono ?_
            rintro ex wy ⟨rfl, hb⟩
            exact ⟨_, rfl, _, rfl, rfl, hW.trans (hb.mono hsz), hb⟩
          | 5, _, hio =>
            cases hio
            exact hwp_val (v := .pointer (some ⟨W.heap.size, 0, none⟩)) (w' := W.alloc (.cells #[.int .u64 0, .int .u64 0, .int .u64 0, .int .u64 0, .int .u64 0, .int .u64 0] 77)) (by simp [execOp, Act.eval, zeroHuge_, go_sem]) ⟨_, rfl, Box1.new _ _ hsz, WA _, GA _⟩
          | ix + 6, hi, _ => exact absurd hi (by omega)
        · intro ax W hsh hW hφ
          have e0 : ax.tmps.getD 44 undef = (.agg #[.int .u64 (hw 0 wn), .int .u64 (hw 1 wn), .int .u64 (hw 2 wn), .int .u64 (hw 3 wn), .int .u64 (hw 4 wn), .int .u64 (hw 5 wn)]) := hφ 0 _ _ (by omega) rfl rfl
          obtain ⟨b1, e1, hb1, hl1, hc1⟩ := hφ 1 _ _ (by omega) rfl rfl
          have e2 : ax.tmps.getD 46 undef = (.agg #[.int .u64 (hw 0 (wn * 131070)), .int .u64 (hw 1 (wn * 131070)), .int .u64 (hw 2 (wn * 131070)), .int .u64 (hw 3 (wn * 131070)), .int .u64 (hw 4 (wn * 131070)), .int .u64 (hw 5 (wn * 131070))]) := hφ 2 _ _ (by omega) rfl rfl
          have e3 : ax.tmps.getD 47 undef = (.agg #[.int .u64 (hw 0 wd), .int .u64 (hw 1 wd), .int .u64 (hw 2 wd), .int .u64 (hw 3 wd), .int .u64 (hw 4 wd), .int .u64 (hw 5 wd)]) := hφ 3 _ _ (by omega) rfl rfl
          have e4 : ax.tmps.getD 48 undef = (.agg #[.int .u64 (hw 0 (wn * 131070 + wd)), .int .u64 (hw 1 (wn * 131070 + wd)), .int .u64 (hw 2 (wn * 131070 + wd)), .int .u64 (hw 3 (wn * 131070 + wd)), .int .u64 (hw 4 (wn * 131070 + wd)), .int .u64 (hw 5 (wn * 131070 + wd))]) := hφ 4 _ _ (by omega) rfl rfl
          obtain ⟨b5, e5, hb5, hl5⟩ := hφ 5 _ _ (by omega) rfl rfl
          rw [shape_puts hsh [(44, .agg #[.int .u64 (hw 0 wn), .int .u64 (hw 1 wn), .int .u64 (hw 2 wn), .int .u64 (hw 3 wn), .int .u64 (hw 4 wn), .int .u64 (hw 5 wn)]), (45, .slice (some ⟨b1, 0, none⟩) 1 1), (46, .agg #[.int .u64 (hw 0 (wn * 131070)), .int .u64 (hw 1 (wn * 131070)), .int .u64 (hw 2 (wn * 131070)), .int .u64 (hw 3 (wn * 131070)), .int .u64 (hw 4 (wn * 131070)), .int .u64 (hw 5 (wn * 131070))]), (47, .agg #[.int .u64 (hw 0 wd), .int .u64 (hw 1 wd), .int .u64 (hw 2 wd), .int .u64 (hw 3 wd), .int .u64 (hw 4 wd), .int .u64 (hw 5 wd)]), (48, .agg #[.int .u64 (hw 0 (wn * 131070 + wd)), .int .u64 (hw 1 (wn * 131070 + wd)), .int .u64 (hw 2 (wn * 131070 + wd)), .int .u64 (hw 3 (wn * 131070 + wd)), .int .u64 (hw 4 (wn * 131070 + wd)), .int .u64 (hw 5 (wn * 131070 + wd))]), (13, .pointer (some ⟨b5, 0, none⟩))] [44, 45, 46, 47, 48, 13] rfl (by kernel_rfl) ⟨e0, e1, e2, e3, e4, e5, trivial⟩]
          clear hφ hsh e0 e1 e2 e3 e4 e5
          clear hc1
          simp only [putsN, List.foldl_cons, List.foldl_nil, List.drop_succ_cons, List.drop_zero, Act.put, List.setIfInBounds_toArray, List.set_cons_succ, List.set_cons_zero]
          have HB5 := Lib.hid (HB3.out.trans (HBC.out.mono HB3.out.size))
          have HBW := Lib.hid (HB5.out.trans (hW.mono HB5.out.size))
          have td := HTD.out.below hW
          have hdl := HTD.out.lt
          clear hW HTN HTD
          refine wpList_storeH W rfl _ _ rfl b5 rfl rfl hl5 ?_
          intro wy t13 g13
          simp only [Act.put]
          have hz5 := HB5.out.size
          have td2 := Lib.hid (td.gro g13 (by omega))
          have t13' := Lib.hid t13
          have HBE := Lib.hid (below_gro HBW.out g13 HBW.out.size (by omega))
          clear td t13 g13 hl5
          have G := Lib.hid (greatest2_any 48 (.pointer (some ⟨b5, 0, none⟩)) (.pointer (some ⟨db, 0, none⟩)) 65535 (fun k => !decide (wn * 131070 + wd < wd * (2 * k))) wy (by omega) (by omega)
            (fun x y hx hxy hy hH => by
              have hH2 := of_decide_eq_false (by simpa using hH : decide (wn * 131070 + wd < wd * (2 * y)) = false)
              have hle : wd * (2 * x) ≤ wd * (2 * y) := Int.mul_le_mul_of_nonneg_left (by omega) hwd0
              have hn : ¬ (wn * 131070 + wd < wd * (2 * x)) := by omega
              simp [hn])
            (fun _ _ => by first | rfl | simp [go_sem])
            (fun k W2 hk0 hk1 hb => wayFn_any b5 db (wn * 131070 + wd) wd k W2 (t13'.out.below hb) (td2.out.below hb) hsP0 hsP hwd0 O.out.2.2.2 hk0 hk1))
          clear hsP hwnP hwn1P td2 t13'
          go_wp2_with fail
          refine G.out.mono ?_
          rintro e w6 ⟨r, rfl, ⟨r0, r1⟩, hH1, hH2, hb6⟩
          have HR := Lib.hid (HU.out r r0 r1 (fun h => by simpa using hH1 h) (fun h => by simpa using hH2 h))
          have HB6 := Lib.hid (HBE.out.trans (hb6.mono HBE.out.size))
          clear hb6 hH1 hH2 G
          go_wp2_with fail
          go_ret2
          exact ⟨by rw [HRV.out, HR.out] <;> rfl, HB6.out⟩
    · have HV := Lib.hid (HR0.out hF)
      have hb : (FL != 0) = true := by simp [hF]
      clear HR0 HR1 HFZ HZ HCY HT3 HS
      go_wp2
      go_ret2
      exact ⟨by rw [HV.out] <;> rfl, HB3.out⟩
end Go.Proofs.Ytopmdeefcjdadaa
