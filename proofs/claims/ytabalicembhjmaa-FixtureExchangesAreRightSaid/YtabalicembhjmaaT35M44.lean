/- The box of a rig that is an argument. (printed by wip/gen/gen_placewalk.py) The walk of cycloramalaw2.FixtureExchangesAreRight. (printed by wip/gen/gen_exright.py) -/
import Derived.Test.YtabalicembhjmaaT35M23
import Derived.Test.YtabalicembhjmaaT35M08
import Derived.Test.YtabalicembhjmaaT35M06
import Derived.Test.YtabalicembhjmaaT35M40
import Derived.Test.YtabalicembhjmaaT35M41
import Derived.Test.YtabalicembhjmaaT35M43

namespace Go.Proofs.Ytabalicembhjmaa
open Go.RowKit
set_option linter.unusedVariables false
set_option linter.unusedSimpArgs false
/-- the box of a rig's argument -/
def RBox (w : World) (lv uv : Value) (W : World) : Prop := Below (w.heap.size + 1) (w.alloc (.cells #[lv, uv] 25)) W
theorem RBox.start (w : World) (lv uv : Value) : RBox w lv uv (w.alloc (.cells #[lv, uv] 25)) := Below.refl _ _
theorem RBox.size {w W : World} {lv uv : Value} (h : RBox w lv uv W) : w.heap.size + 1 ≤ W.heap.size := by
  have := Below.size h
  simp at this
  omega
theorem RBox.bel {w W : World} {lv uv : Value} (h : RBox w lv uv W) : Below w.heap.size w W := ((Below.refl _ _).alloc (Nat.le_refl _) _).trans (Below.mono h (by omega))
theorem RBox.next {w W W1 : World} {lv uv : Value} (h : RBox w lv uv W) (hb : Below W.heap.size W W1) : RBox w lv uv W1 := Below.trans h (hb.mono h.size)
theorem RBox.par {w W : World} {lv uv : Value} (h : RBox w lv uv W) : TBox W w.heap.size 25 #[lv, uv] := (Below.block h w.heap.size (by omega)).trans (TBox.new w #[lv, uv] 25)
theorem RBox.set {w W : World} {lv uv : Value} (h : RBox w lv uv W) {b : Nat} (hb : w.heap.size + 1 ≤ b) (i : Nat) (u : Value) : RBox w lv uv (W.setCell ⟨b, i, none⟩ u) := Below.setCell h (p := ⟨b, i, none⟩) hb u
theorem rig_shape {B : Nat} {w : World} {x : Rig} {lv uv : Value} (h : RigAt B w x lv uv) : ∃ lo lcap uo ucap, lv = .slice lo x.lib.length lcap ∧ uv = .slice uo x.units.length ucap := by
  obtain ⟨uo, ucap, e1, _⟩ := CellsS.shape h.units
  obtain ⟨lo, lcap, e2⟩ := prfS_shape h.lib
  exact ⟨lo, lcap, uo, ucap, e2, e1⟩
end Go.Proofs.Ytabalicembhjmaa

namespace Go.Proofs.Ytabalicembhjmaa.fixtureExchangesAreRight
open Go.RowKit
set_option linter.unusedVariables false
set_option linter.unusedSimpArgs false

set_option maxRecDepth 100000 in
set_option maxHeartbeats 16000000 in
theorem walk (a0 : Value) (a1 : Int) (a2 : ByteArray) (a3 : Value) (w : World) (w0 : RigW w a0) (w1 : (Lit.int .i64 a1).wf = true) (w2 : a2.size ≤ maxLen) (w3 : StgW w a3) :
    Calls Try.prog 6 #[a0, .int .i64 a1, .string a2, a3] w fun e w' => e = .returned (.bool true) ∧ Below w.heap.size w w' := by
  obtain ⟨x, lv, uv, rfl, hx, hf⟩ := w0
  obtain ⟨l, hl, hfl⟩ := w3
  have hn : I64 a1 := i64_of_wf w1
  have CX := Lib.hid (fun W (hb : Below w.heap.size w W) => exchange_any x lv uv a3 a1 a2 l W ((hx.below hb).more hb.size) hf hn ((hl.below hb).more hb.size) hfl)
  have HG := Lib.hid (show exF x a1 a2 l = 0 → ∀ (p old : Prf) (r : Int × Int) (hk : posU x.units a1 < x.units.length), (x.units[posU x.units a1]'hk).num = a1 → profOf x.lib a2.data.toList = some p → profOf x.lib (x.units[posU x.units a1]'hk).nm = some old → exAt x a1 p.size (x.units[posU x.units a1]'hk) = some r →
      RigFit (setUn x a1 ⟨a1, a2, r.1, r.2⟩) ∧ framesF (setUn x a1 ⟨a1, a2, r.1, r.2⟩) (keptS a1 old p l) = 0 ∧ (∀ t ∈ keptS a1 old p l, StgFit t) ∧ (keptS a1 old p l).length + (keyRs (lostS a1 old p l)).length = l.length ∧ l.length ≤ 16000 ∧ (setUn x a1 ⟨a1, a2, r.1, r.2⟩).units.length = x.units.length from fun h p old r hk q1 q2 q3 q4 => by
    obtain ⟨h1, h2⟩ := exF_zero h
    have hy := ex_right h1 hk q1 q2 q4
    have hc := kept_right h1 (v := ⟨a1, a2, r.1, r.2⟩) rfl hk q1 hy q2 (chkLib_prf (chkRig_zero h1).1 (profOf_some q3).1) h2
    refine ⟨ex_fit hf h1 w2 hk q1 q2 q4, by rw [framesF_ok hy]; exact hc, kept_fit (x := x) hfl hc, ?_, stgs_few h1 h2, List.length_set ..⟩
    unfold keyRs
    rw [List.length_map]
    exact kept_len _ _ _ _)
  obtain ⟨lo, lcap, uo, ucap, rfl, rfl⟩ := rig_shape hx
  obtain ⟨so, scap, rfl, _⟩ := CellsS.shape hl
  clear hx hf hl hfl w1 w2
  unfold rigV at *
  unfold ExR at CX
  generalize exF x a1 a2 l = FF at *
  have HB0 := Lib.hid (RBox.start w (.slice lo x.lib.length lcap) (.slice uo x.units.length ucap))
  have C1 := Lib.hid (CX.out _ HB0.out.bel)
  clear CX
  go_enter Try.func6, Try.ntmps6
  go_wp2_with fail
  refine C1.out.mono ?_
  rintro e w3 ⟨lv1, uv1, kv, qv, rfl, ⟨hbad, hgood⟩, hb⟩
  have HB1 := Lib.hid (HB0.out.next hb)
  have HBAD := Lib.hid hbad
  have HGOOD := Lib.hid hgood
  have hz3 := HB1.out.size
  clear hb hbad hgood C1 HB0
  by_cases hE : FF = 0
  rotate_left
  · obtain ⟨rfl, rfl, rfl, rfl⟩ := HBAD.out hE
    have HB2 := Lib.hid (HB1.out.next ((Below.refl w3.heap.size w3).alloc (Nat.le_refl _) (.cells #[.slice none 0 0, .slice none 0 0] 25))).bel
    clear HG HGOOD HBAD HB1
    go_wp2_with fail
    go_ret
    exact ⟨by first | rfl | trivial, HB2.out⟩
  obtain ⟨hk, p, old, r, q1, q2, q3, q4, hR, hS, hK⟩ := HGOOD.out hE
  obtain ⟨gf, gz, gs, gl, g16, gu⟩ := HG.out hE p old r hk q1 q2 q3 q4
  generalize setUn x a1 ⟨a1, a2, r.1, r.2⟩ = RR at *
  generalize keptS a1 old p l = KL at *
  generalize keyRs (lostS a1 old p l) = QL at *
  obtain ⟨lo1, lcap1, uo1, ucap1, rfl, rfl⟩ := rig_shape hR
  obtain ⟨ko, kc, rfl, _⟩ := CellsS.shape hS
  obtain ⟨qo, qc, rfl, _⟩ := CellsS.shape hK
  have ha := (Below.refl w3.heap.size w3).alloc (Nat.le_refl _) (.cells #[.slice lo1 RR.lib.length lcap1, .slice uo1 RR.units.length ucap1] 25)
  have HB2 := Lib.hid (HB1.out.next ha)
  have HT2 := Lib.hid (TBox.new w3 #[.slice lo1 RR.lib.length lcap1, .slice uo1 RR.units.length ucap1] 25)
  have CF := Lib.hid (frames_any RR _ _ KL _ (w3.alloc (.cells #[.slice lo1 RR.lib.length lcap1, .slice uo1 RR.units.length ucap1] 25)) ((hR.below ha).more ha.size) gf ((hS.below ha).more ha.size) gs)
  rw [gz] at CF
  unfold rigV at CF
  have HGU := Lib.hid gu
  have HGL := Lib.hid gl
  subst hE
  clear HG HGOOD HBAD HB1 hR hS hK ha gf gs gz q1 q2 q3 q4 gu gl hk
  go_upto_region 2 with fail
  generalize hw4 : w3.alloc (.cells #[.slice lo1 RR.lib.length lcap1, .slice uo1 RR.units.length ucap1] 25) = w4 at *
  clear hw4
  have t0 := HT2.out.cell (i := 0) rfl
  have t1 := HT2.out.cell (i := 1) rfl
  have ht := HT2.out.lt
  go_wp2_with fail
  refine CF.out.mono ?_
  rintro e w5 ⟨fv, rfl, hfr, hb⟩
  have HBB := Lib.hid (HB2.out.next hb)
  have HT5 := Lib.hid (HT2.out.below hb)
  clear hb hfr CF t0 t1 ht HB2 HT2
  have t1 : w5.cell? ⟨w3.heap.size, 1, none⟩ = some (.slice uo1 RR.units.length ucap1) := HT5.out.cell (i := 1) rfl
  have ht := HT5.out.lt
  have p1 := HBB.out.par.cell (i := 1) rfl
  have hz5 := HBB.out.size
  have hgl := HGL.out
  generalize KL.length = kl at *
  generalize QL.length = ql at *
  generalize l.length = ll at *
  subst hgl
  have hw : IntKind.i64.wrap ((kl : Int) + (ql : Int)) = ((kl + ql : Nat) : Int) := by rw [← Int.natCast_add]; exact IntWalk.i64_in _ (by omega)
  rw [HGU.out] at t1
  have HBE := Lib.hid HBB.out.bel
  clear HGL HGU HBB HT5
  go_wp2_with fail
  go_ret
  exact ⟨by first | rfl | simp, HBE.out⟩
end Go.Proofs.Ytabalicembhjmaa.fixtureExchangesAreRight
