/- The walk of cycloramalaw2.FixtureRigsMatchSpec. (printed by wip/gen/gen_rigswalk.py) -/
import Derived.Test.YtabalicembhjmaaDoorT39M27
import Derived.Test.YtabalicembhjmaaDoorT39M37
import Derived.Test.YtabalicembhjmaaDoorT39M39
import Derived.Test.YtabalicembhjmaaDoorT39M41
import Derived.Test.YtabalicembhjmaaDoorT39M42
import Derived.Test.YtabalicembhjmaaDoorT39M43
import Derived.Test.YtabalicembhjmaaDoorT39M12

namespace Go.Proofs.YtabalicembhjmaaDoor.fixtureRigsMatchSpec
open Go.RowKit
set_option linter.unusedVariables false
set_option linter.unusedSimpArgs false

/-- the boxes of a rig and a key that are arguments -/
def KBox (w : World) (lv uv : Value) (n : Int) (nm : ByteArray) (W : World) : Prop := Below (w.heap.size + 2) ((w.alloc (.cells #[lv, uv] 36)).alloc (.cells #[.int .i64 n, .string nm] 38)) W
theorem KBox.start (w : World) (lv uv : Value) (n : Int) (nm : ByteArray) : KBox w lv uv n nm ((w.alloc (.cells #[lv, uv] 36)).alloc (.cells #[.int .i64 n, .string nm] 38)) := Below.refl _ _
section
variable {w W W1 : World} {lv uv : Value} {n : Int} {nm : ByteArray}
theorem KBox.size (h : KBox w lv uv n nm W) : w.heap.size + 2 ≤ W.heap.size := by
  have := Below.size h
  simp at this
  omega
theorem KBox.bel (h : KBox w lv uv n nm W) : Below w.heap.size w W := (((Below.refl _ _).alloc (Nat.le_refl _) _).alloc (by simp) _).trans (Below.mono h (by omega))
theorem KBox.next (h : KBox w lv uv n nm W) (hb : Below W.heap.size W W1) : KBox w lv uv n nm W1 := Below.trans h (hb.mono h.size)
theorem KBox.rig (h : KBox w lv uv n nm W) : TBox W w.heap.size 36 #[lv, uv] := (Below.block h w.heap.size (by omega)).trans ((TBox.new w #[lv, uv] 36).alloc _)
theorem KBox.key (h : KBox w lv uv n nm W) : TBox W (w.heap.size + 1) 38 #[.int .i64 n, .string nm] := by
  have h1 := TBox.new (w.alloc (.cells #[lv, uv] 36)) #[.int .i64 n, .string nm] 38
  simp only [World.size_alloc] at h1
  exact (Below.block h (w.heap.size + 1) (by omega)).trans h1
end
set_option maxRecDepth 100000 in
set_option maxHeartbeats 16000000 in
theorem walk (a0 a1 : Value) (w : World) (w0 : RigW w a0) (w1 : KeyW w a1) (hT : TextW w) :
    Calls Tryd.prog 4 #[a0, a1] w fun e w' => e = .returned (.bool true) ∧ Below w.heap.size w w' := by
  obtain ⟨x, lv, uv, rfl, hx, hf⟩ := w0
  obtain ⟨n, nm, rfl, hn, hnm⟩ := w1
  have K1 := Lib.hid (fun W (hb : Below w.heap.size w W) => keys_any x lv uv W ((hx.below hb).more hb.size) hf)
  have K2 := Lib.hid (fun W (hb : Below w.heap.size w W) => rkeys_any x lv uv W ((hx.below hb).more hb.size) hf)
  have K3 := Lib.hid (fun W (hb : Below w.heap.size w W) => ckRig_any x lv uv W ((hx.below hb).more hb.size) hf)
  have K4 := Lib.hid (fun W (hb : Below w.heap.size w W) => rckRig_any x lv uv W ((hx.below hb).more hb.size) hf)
  have K5 := Lib.hid (fun W (hb : Below w.heap.size w W) => findTop_any x lv uv n nm W ((hx.below hb).more hb.size) hf hn)
  have K6 := Lib.hid (fun W (hb : Below w.heap.size w W) => rfindTop_any x lv uv n nm W ((hx.below hb).more hb.size) hf hn)
  have K7 := Lib.hid (fun W (hb : Below w.heap.size w W) => patchText_any x lv uv W (hT.below hb) ((hx.below hb).more hb.size) hf)
  have K8 := Lib.hid (fun W (hb : Below w.heap.size w W) => rpatchText_any x lv uv W (hT.below hb) ((hx.below hb).more hb.size) hf)
  obtain ⟨lo, lcap, uo, ucap, rfl, rfl⟩ := rig_shape hx
  clear hx hf hT hn hnm
  unfold rigV at *
  generalize findF x n nm.data.toList = FF at *
  generalize findV x n nm.data.toList = FV at *
  generalize patchT x = PT at *
  generalize keysV x = KV at *
  generalize chkRig x = CK at *
  have HB0 := Lib.hid (KBox.start w (.slice lo x.lib.length lcap) (.slice uo x.units.length ucap) n nm)
  have C1 := Lib.hid (K1.out _ HB0.out.bel)
  clear K1
  go_enter Tryd.func4, Tryd.ntmps4
  go_wp2_with fail
  refine C1.out.mono ?_
  rintro e wA ⟨kv, rfl, hk, hb⟩
  have HB1 := Lib.hid (HB0.out.next hb)
  obtain ⟨k1, kc1, rfl, _⟩ := CellsS.shape hk
  have HK := Lib.hid hk
  have p0 := HB1.out.rig.cell (i := 0) rfl
  have p1 := HB1.out.rig.cell (i := 1) rfl
  have hz1 : w.heap.size < wA.heap.size := by have := HB1.out.size; omega
  have C2 := Lib.hid (K2.out _ HB1.out.bel)
  clear hb hk C1 K2 HB0
  go_wp2_with fail
  refine C2.out.mono ?_
  rintro e wB ⟨rv, rfl, hk, hb⟩
  have HB2 := Lib.hid (HB1.out.next hb)
  obtain ⟨k2, kc2, rfl, _⟩ := CellsS.shape hk
  have HKA := Lib.hid ((HK.out.below hb).more hb.size)
  have HKB := Lib.hid hk
  clear hb hk C2 HK HB1 p0 p1 hz1
  go_upto_region 3 with fail
  go_cut [38] (fun s wx => s = .bool false ∧ Below wB.heap.size wB wx)
  case first =>
    have KP := Lib.hid (show ∀ W, Below wB.heap.size wB W → (W.cell? ⟨w.heap.size, 0, none⟩ = some (.slice lo x.lib.length lcap) ∧ W.cell? ⟨w.heap.size, 1, none⟩ = some (.slice uo x.units.length ucap)) from fun W hW => ⟨(HB2.out.next hW).rig.cell rfl, (HB2.out.next hW).rig.cell rfl⟩)
    have KM := Lib.hid (show ∀ W W1, Below wB.heap.size wB W → Below W.heap.size W W1 → Below wB.heap.size wB W1 from fun W W1 h1 h2 => h1.trans (h2.mono h1.size))
    have KB := Lib.hid (show ∀ W, Below wB.heap.size wB W → Below w.heap.size w W from fun W hW => (HB2.out.next hW).bel)
    have KE := Lib.hid (show ∀ W, Below wB.heap.size wB W → Calls Tryd.prog 17 #[.slice k1 KV.length kc1, .slice k2 KV.length kc2] W fun e w' => e = .returned (.bool true) ∧ Below W.heap.size W w' from fun W hW => keys_equal _ _ KV W ((HKA.out.below hW).more hW.size) ((HKB.out.below hW).more hW.size))
    have hw0 := Below.refl wB.heap.size wB
    have hw1 := (Below.refl wB.heap.size wB).drew
    have hbz : w.heap.size < wB.heap.size := by have := HB2.out.size; omega
    clear K5 K6 K7 K8
    go_region_held3 (fun W => W.cell? ⟨w.heap.size, 0, none⟩ = some (.slice lo x.lib.length lcap) ∧ W.cell? ⟨w.heap.size, 1, none⟩ = some (.slice uo x.units.length ucap))
      (with_reducible first | assumption | exact KP.out _ (by assumption) | exact KP.out _ (Below.drew (by assumption)))
      (first
        | (go_at_call 15; (with_reducible refine (K3.out _ (KB.out _ (by with_reducible first | assumption | exact Below.drew (by assumption)))).mono ?_); rintro e W1 ⟨rfl, hb1⟩; have hA1 := KM.out _ _ (by with_reducible first | assumption | exact Below.drew (by assumption)) hb1; clear hb1)
        | (go_at_call 16; (with_reducible refine (K4.out _ (KB.out _ (by with_reducible first | assumption | exact Below.drew (by assumption)))).mono ?_); rintro e W2 ⟨rfl, hb2⟩; have hA2 := KM.out _ _ (by with_reducible first | assumption | exact Below.drew (by assumption)) hb2; clear hb2)
        | (go_at_call 17; (with_reducible refine (KE.out _ (by with_reducible first | assumption | exact Below.drew (by assumption))).mono ?_); rintro e W3 ⟨rfl, hb3⟩; have hA3 := KM.out _ _ (by with_reducible first | assumption | exact Below.drew (by assumption)) hb3; clear hb3)
        | fail)
    all_goals go_wp2_with fail
    all_goals go_meet
    all_goals exact ⟨by first | rfl | simp, by first | exact hA3 | exact hA3.drew | exact hA2 | exact hA1⟩
  case rest =>
    obtain ⟨rfl, hbc⟩ := hcut
    have HBC := Lib.hid (HB2.out.next hbc)
    have p0 := HBC.out.rig.cell (i := 0) rfl
    have p1 := HBC.out.rig.cell (i := 1) rfl
    have k0 := HBC.out.key.cell (i := 0) rfl
    have k1' := HBC.out.key.cell (i := 1) rfl
    have hzc : w.heap.size < wc.heap.size := by have := HBC.out.size; omega
    have hzc2 : w.heap.size + 1 < wc.heap.size := by have := HBC.out.size; omega
    have C5 := Lib.hid (K5.out _ HBC.out.bel)
    clear hbc HB2 HKA HKB K3 K4 K5
    go_wp2_with fail
    refine C5.out.mono ?_
    rintro e wD ⟨xv, rfl, hxr, hb⟩
    have HBD := Lib.hid (HBC.out.next hb)
    obtain ⟨rvA, rfl, hra⟩ := parR_val hxr
    obtain ⟨roA, rcA, rfl, _⟩ := CellsS.shape hra
    have ha := (Below.refl wD.heap.size wD).alloc (Nat.le_refl _) (.cells #[.string (FV.getD par0).name, .int .i64 (FV.getD par0).grp, .int .i64 (FV.getD par0).sl, .int .i64 (FV.getD par0).fine, .int .i64 (FV.getD par0).dflt, .bool (FV.getD par0).snap, .slice roA (FV.getD par0).rngs.length rcA] 46)
    have HBE := Lib.hid (HBD.out.next ha)
    have HTA := Lib.hid (TBox.new wD #[.string (FV.getD par0).name, .int .i64 (FV.getD par0).grp, .int .i64 (FV.getD par0).sl, .int .i64 (FV.getD par0).fine, .int .i64 (FV.getD par0).dflt, .bool (FV.getD par0).snap, .slice roA (FV.getD par0).rngs.length rcA] 46)
    have HRA := Lib.hid ((hra.below ha).more ha.size)
    have hzD : w.heap.size + 1 < wD.heap.size := by have := HBD.out.size; omega
    clear hb hra hxr ha C5 HBC p0 p1 k0 k1' hzc hzc2 HBD
    go_upto_region 6 with fail
    obtain ⟨wE, hwE⟩ : ∃ wE : World, wE = wD.alloc (.cells #[.string (FV.getD par0).name, .int .i64 (FV.getD par0).grp, .int .i64 (FV.getD par0).sl, .int .i64 (FV.getD par0).fine, .int .i64 (FV.getD par0).dflt, .bool (FV.getD par0).snap, .slice roA (FV.getD par0).rngs.length rcA] 46) := ⟨_, rfl⟩
    rw [← hwE] at HBE HTA HRA ⊢
    clear hwE
    have p0 := HBE.out.rig.cell (i := 0) rfl
    have p1 := HBE.out.rig.cell (i := 1) rfl
    have k0 := HBE.out.key.cell (i := 0) rfl
    have k1' := HBE.out.key.cell (i := 1) rfl
    have hzc : w.heap.size < wE.heap.size := by have := HBE.out.size; omega
    have hzc2 : w.heap.size + 1 < wE.heap.size := by have := HBE.out.size; omega
    have C6 := Lib.hid (K6.out _ HBE.out.bel)
    clear K6
    go_wp2_with fail
    refine C6.out.mono ?_
    rintro e wF ⟨xv, rfl, hxr, hb⟩
    have HBF := Lib.hid (HBE.out.next hb)
    obtain ⟨rvB, rfl, hra⟩ := parR_val hxr
    obtain ⟨roB, rcB, rfl, _⟩ := CellsS.shape hra
    have ha := (Below.refl wF.heap.size wF).alloc (Nat.le_refl _) (.cells #[.string (FV.getD par0).name, .int .i64 (FV.getD par0).grp, .int .i64 (FV.getD par0).sl, .int .i64 (FV.getD par0).fine, .int .i64 (FV.getD par0).dflt, .bool (FV.getD par0).snap, .slice roB (FV.getD par0).rngs.length rcB] 46)
    have HBG := Lib.hid (HBF.out.next ha)
    have HTB := Lib.hid (TBox.new wF #[.string (FV.getD par0).name, .int .i64 (FV.getD par0).grp, .int .i64 (FV.getD par0).sl, .int .i64 (FV.getD par0).fine, .int .i64 (FV.getD par0).dflt, .bool (FV.getD par0).snap, .slice roB (FV.getD par0).rngs.length rcB] 46)
    have HTA2 := Lib.hid ((HTA.out.below hb).below ha)
    have KS := Lib.hid (sameParam_any (FV.getD par0) _ _ _ ((((HRA.out.below hb).more hb.size).below ha).more ha.size) ((hra.below ha).more ha.size))
    have hab : wD.heap.size < wF.heap.size := by have := HTA.out.lt; have := hb.size; omega
    clear hb hra hxr ha C6 HBE p0 p1 k0 k1' hzc hzc2 HBF HTA HRA
    go_upto_region 7 with fail
    obtain ⟨wG, hwG⟩ : ∃ wG : World, wG = wF.alloc (.cells #[.string (FV.getD par0).name, .int .i64 (FV.getD par0).grp, .int .i64 (FV.getD par0).sl, .int .i64 (FV.getD par0).fine, .int .i64 (FV.getD par0).dflt, .bool (FV.getD par0).snap, .slice roB (FV.getD par0).rngs.length rcB] 46) := ⟨_, rfl⟩
    rw [← hwG] at HBG HTB HTA2 KS ⊢
    clear hwG
    generalize FV.getD par0 = QP at *
    obtain ⟨xn, xg, xs, xf, xd, xb, xl⟩ := QP
    simp only at *
    have x0 := HTA2.out.cell (i := 0) rfl
    have x1 := HTA2.out.cell (i := 1) rfl
    have x2 := HTA2.out.cell (i := 2) rfl
    have x3 := HTA2.out.cell (i := 3) rfl
    have x4 := HTA2.out.cell (i := 4) rfl
    have x5 := HTA2.out.cell (i := 5) rfl
    have x6 := HTA2.out.cell (i := 6) rfl
    have y0 := HTB.out.cell (i := 0) rfl
    have y1 := HTB.out.cell (i := 1) rfl
    have y2 := HTB.out.cell (i := 2) rfl
    have y3 := HTB.out.cell (i := 3) rfl
    have y4 := HTB.out.cell (i := 4) rfl
    have y5 := HTB.out.cell (i := 5) rfl
    have y6 := HTB.out.cell (i := 6) rfl
    have hla := HTA2.out.lt
    have hlb := HTB.out.lt
    go_wp2_with fail
    refine KS.out.mono ?_
    rintro e wH ⟨rfl, hb⟩
    have HBH := Lib.hid (HBG.out.next hb)
    clear hb KS HBG HTA2 HTB x0 x1 x2 x3 x4 x5 x6 y0 y1 y2 y3 y4 y5 y6 hla hlb
    have p0 := HBH.out.rig.cell (i := 0) rfl
    have p1 := HBH.out.rig.cell (i := 1) rfl
    have hzc : w.heap.size < wH.heap.size := by have := HBH.out.size; omega
    have C7 := Lib.hid (K7.out _ HBH.out.bel)
    clear K7
    go_wp2_with fail
    refine C7.out.mono ?_
    rintro e wI ⟨rfl, hb⟩
    have HBI := Lib.hid (HBH.out.next hb)
    clear hb C7 HBH p0 p1 hzc
    have p0 := HBI.out.rig.cell (i := 0) rfl
    have p1 := HBI.out.rig.cell (i := 1) rfl
    have hzc : w.heap.size < wI.heap.size := by have := HBI.out.size; omega
    have C8 := Lib.hid (K8.out _ HBI.out.bel)
    clear K8
    go_wp2_with fail
    refine C8.out.mono ?_
    rintro e wJ ⟨rfl, hb⟩
    have HBJ := Lib.hid (HBI.out.next hb).bel
    clear hb C8 HBI p0 p1 hzc
    go_wp2_with fail
    go_ret
    exact ⟨by simp, HBJ.out⟩
end Go.Proofs.YtabalicembhjmaaDoor.fixtureRigsMatchSpec
