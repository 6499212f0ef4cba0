/- The walk of cycloramalaw2.FixtureFramesComeBack. (printed by wip/gen/gen_frmback.py) -/
import Derived.Test.YtabalicembhjmaaT32M40
import Derived.Test.YtabalicembhjmaaT32M41
import Derived.Test.YtabalicembhjmaaT32M42
import Derived.Test.YtabalicembhjmaaT32M43

namespace Go.Proofs.Ytabalicembhjmaa.fixtureFramesComeBack
open Go.RowKit
set_option linter.unusedVariables false
set_option linter.unusedSimpArgs false

theorem back_all {x : Rig} {l : List Stg} (hf : RigFit x) (h : framesF x l = 0) : ∃ S : List Stg, (0 < l.length → 0 < (framesR x l).length) ∧ (∀ f ∈ framesR x l, FrmFit f) ∧ chkSet x (framesR x l) = 0 ∧ setsV x (framesR x l) = S ∧ (∀ s ∈ S, StgFit s) ∧ framesF x S = 0 ∧ framesR x S = framesR x l ∧
    ∀ s ∈ l, ∃ q, findF x s.unit s.par.data.toList = 0 ∧ findV x s.unit s.par.data.toList = some q ∧ (¬ q.fine = 0 → s ∈ S) := by
  have hx : chkRig x = 0 := by
    by_cases c : chkRig x = 0
    · exact c
    · rw [framesF_bad c] at h; exact absurd h c
  have hl : chkStgs x l = 0 := by rwa [framesF_ok hx] at h
  have e1 : framesR x l = framesV x l := if_pos h
  have hc : chkSet x (framesV x l) = 0 := by
    unfold chkSet
    rw [if_neg (by simpa using hx)]
    exact frames_chk x l
  have hb := back_chk hx hl
  have hb2 : framesF x (setV x.lib x.units (framesV x l)) = 0 := by rw [framesF_ok hx]; exact hb
  rw [e1]
  refine ⟨setV x.lib x.units (framesV x l), frames_some hx hl, frames_fit hx hl, hc, if_pos hc, back_fit hx hl hf, hb2, ?_, fun s hs => ?_⟩
  · unfold framesR
    rw [if_pos hb2]
    exact frames_back hx hl
  · obtain ⟨q, hq, hm⟩ := back_has hx hl hs
    obtain ⟨k1, k2⟩ := find_some hx hq
    exact ⟨q, k1, k2, hm⟩
set_option maxRecDepth 100000 in
set_option maxHeartbeats 16000000 in
theorem walk (a0 a1 : Value) (w : World) (w0 : RigW w a0) (w1 : StgW w a1) :
    Calls Try.prog 4 #[a0, a1] w fun e w' => e = .returned (.bool true) ∧ Below w.heap.size w w' := by
  obtain ⟨x, lv, uv, rfl, hx, hf⟩ := w0
  obtain ⟨l, hl, hfl⟩ := w1
  have C1 := Lib.hid (fun W (hb : Below w.heap.size w W) => frames_any x lv uv l a1 W ((hx.below hb).more hb.size) hf ((hl.below hb).more hb.size) hfl)
  have C2 := Lib.hid (fun (F : List Frm) (hF : ∀ f ∈ F, FrmFit f) (fv : Value) W (hb : Below w.heap.size w W) (hv : FrmS W.heap.size W fv F) => settings_any x lv uv F fv W ((hx.below hb).more hb.size) hf hv hF)
  have C3 := Lib.hid (fun (S : List Stg) (hS : ∀ s ∈ S, StgFit s) (sv : Value) W (hb : Below w.heap.size w W) (hv : StgS W.heap.size W sv S) => frames_any x lv uv S sv W ((hx.below hb).more hb.size) hf hv hS)
  have C4 := Lib.hid (fun (n : Int) (nm : ByteArray) (hn : I64 n) W (hb : Below w.heap.size w W) => findTop_any x lv uv n nm W ((hx.below hb).more hb.size) hf hn)
  have HBAD := Lib.hid (show ¬ framesF x l = 0 → framesR x l = [] from fun h => if_neg h)
  have HOK := Lib.hid (fun h : framesF x l = 0 => back_all hf h)
  have HGS := Lib.hid (StgS.get hl)
  have HFL := Lib.hid hfl
  obtain ⟨lo, lcap, uo, ucap, rfl, rfl⟩ := rig_shape hx
  have hll := CellsS.len hl
  unfold maxLen at hll
  obtain ⟨so, scap, rfl, _⟩ := CellsS.shape hl
  clear hx hf hl hfl
  unfold rigV at *
  generalize framesR x l = F at *
  generalize framesF x l = FF at *
  have HB0 := Lib.hid (RBox.start w (.slice lo x.lib.length lcap) (.slice uo x.units.length ucap))
  have K1 := Lib.hid (C1.out _ HB0.out.bel)
  clear C1
  go_enter Try.func4, Try.ntmps4
  go_wp2_with fail
  refine K1.out.mono ?_
  rintro e w3 ⟨fv, rfl, hfr, hb⟩
  have HB1 := Lib.hid (HB0.out.next hb)
  have HFR := Lib.hid hfr
  have hz3 := HB1.out.size
  have hFl := frmS_len hfr
  clear hb K1 HB0
  by_cases hE : FF = 0
  rotate_left
  · obtain rfl := HBAD.out hE
    obtain ⟨fo, fc, rfl⟩ := frmS_shape hfr
    have HBE := Lib.hid HB1.out.bel
    clear HOK HBAD hfr HB1 HFR C2 C3 C4
    go_wp2_with fail
    go_ret
    exact ⟨by first | rfl | simp, HBE.out⟩
  obtain ⟨S, h1, h2, h3, h4, h5, h6, h7, h8⟩ := HOK.out hE
  have H8 := Lib.hid h8
  have K2 := Lib.hid (C2.out F h2 fv w3 HB1.out.bel HFR.out)
  have K3 := Lib.hid (C3.out S h5)
  rw [h3, h4] at K2
  rw [h6, h7] at K3
  subst hE
  obtain ⟨fo, fc, rfl⟩ := frmS_shape hfr
  clear hfr HOK HBAD C2 C3 h2 h3 h4 h5 h6 h7 h8
  have p0 := HB1.out.par.cell (i := 0) rfl
  have p1 := HB1.out.par.cell (i := 1) rfl
  have hF0 := h1
  clear h1
  go_upto_region 4 with fail
  go_cut [31] (fun s wx => s = .bool false ∧ wx = w3)
  case first =>
    by_cases hl0 : l.length = 0
    · have hq : decide ((0 : Int) < (l.length : Int)) = false := by rw [hl0]; rfl
      go_wp2_with fail
      all_goals go_meet
      all_goals exact ⟨by first | rfl | simp | simp [hl0], rfl⟩
    · have hF1 := hF0 (by omega)
      have hq : (0 : Int) < (l.length : Int) := by omega
      have hq2 : ¬ (F.length : Int) = 0 := by omega
      have hq3 : ((F.length : Int) == 0) = false := by simpa using hq2
      clear hF0
      go_wp2_with fail
      all_goals go_meet
      all_goals exact ⟨by first | rfl | simp | simp [hq3], rfl⟩
  case rest =>
    obtain ⟨rfl, rfl⟩ := hcut
    clear hF0
    go_wp2_with fail
    refine K2.out.mono ?_
    rintro e w4 ⟨sv, rfl, hS, hb⟩
    have HB2 := Lib.hid (HB1.out.next hb)
    have HFR4 := Lib.hid ((HFR.out.below hb).more hb.size)
    have HS4 := Lib.hid hS
    have hz4 := HB2.out.size
    have hSl := CellsS.len hS
    unfold maxLen at hSl
    have K3b := Lib.hid (K3.out sv w4 HB2.out.bel hS)
    obtain ⟨so2, sc2, rfl, _⟩ := CellsS.shape hS
    clear hb hS K2 K3 HB1 HFR p0 p1 hz3
    have p0 := HB2.out.par.cell (i := 0) rfl
    have p1 := HB2.out.par.cell (i := 1) rfl
    go_wp2_with fail
    refine K3b.out.mono ?_
    rintro e w5 ⟨gv, rfl, hG, hb⟩
    have HB3 := Lib.hid (HB2.out.next hb)
    have HS5 := Lib.hid ((HS4.out.below hb).more hb.size)
    have KE := Lib.hid (sameFrames_any _ gv F w5 ((HFR4.out.below hb).more hb.size) hG)
    have hz5 := HB3.out.size
    obtain ⟨go2, gc2, rfl⟩ := frmS_shape hG
    clear hb hG K3b HB2 HFR4 HS4 p0 p1 hz4
    go_wp2_with fail
    refine KE.out.mono ?_
    rintro e w6 ⟨rfl, hb⟩
    have HB4 := Lib.hid (HB3.out.next hb)
    have HS6 := Lib.hid ((HS5.out.below hb).more hb.size)
    have hz6 := HB4.out.size
    clear hb KE HB3 HS5 hz5
    go_wp2_with fail
    go_loopw [56] (fun i wx => ∃ k : Nat, k ≤ l.length ∧ i = .int .i64 k ∧ Hid (Below w6.heap.size w6 wx)) (fun i _ => l.length - (intOf i).toNat)
    case atStart => exact ⟨0, Nat.zero_le _, rfl, Lib.hid (Below.refl _ _)⟩
    case round =>
      obtain ⟨k, hk, rfl, HBR⟩ := hrel
      have hzr := HBR.out.size
      have HBX := Lib.hid (HB4.out.next HBR.out)
      by_cases hlt : k < l.length
      · obtain ⟨b, off, cap', hsl, hbb, _, hc⟩ := HGS.out (by omega)
        injection hsl with hs1 hs2 hs3
        subst hs1
        subst hs3
        obtain ⟨d0, d1, d2⟩ := hc k hlt wr HBX.out.bel
        have hbr : b < wr.heap.size := by omega
        have hfit := HFL.out _ (List.getElem_mem hlt)
        obtain ⟨q, q1, q2, q3⟩ := H8.out _ (List.getElem_mem hlt)
        have HQ3 := Lib.hid q3
        clear hc q3
        have K4 := Lib.hid (C4.out l[k].unit l[k].par hfit.1)
        rw [q1, q2] at K4
        generalize l[k] = rk at *
        obtain ⟨su, sp, sl⟩ := rk
        simp only at *
        clear q1 q2 hfit
        have hA := (Below.refl wr.heap.size wr).alloc (Nat.le_refl _) (.cells #[.int .i64 su, .string sp, .int .i64 sl] 35)
        have HTU := Lib.hid (TBox.new wr #[.int .i64 su, .string sp, .int .i64 sl] 35)
        have HWA := Lib.hid (HBX.out.next hA)
        have HSA := Lib.hid (show StgS (wr.alloc (.cells #[.int .i64 su, .string sp, .int .i64 sl] 35)).heap.size _ _ S from (HS6.out.below (HBR.out.trans (hA.mono hzr))).more (by have := hA.size; omega))
        have HRA := Lib.hid (HBR.out.trans (hA.mono hzr))
        clear hA HBX
        go_upto_region 15 with fail
        obtain ⟨w7, hw7⟩ : ∃ w7 : World, w7 = wr.alloc (.cells #[.int .i64 su, .string sp, .int .i64 sl] 35) := ⟨_, rfl⟩
        rw [← hw7] at HTU HWA HSA HRA ⊢
        clear hw7 d0 d1 d2
        have p0 := HWA.out.par.cell (i := 0) rfl
        have p1 := HWA.out.par.cell (i := 1) rfl
        have hzw := HWA.out.size
        have x0 := HTU.out.cell (i := 0) rfl
        have x1 := HTU.out.cell (i := 1) rfl
        have hx := HTU.out.lt
        have K5 := Lib.hid (K4.out _ HWA.out.bel)
        clear K4
        go_wp2_with fail
        refine K5.out.mono ?_
        rintro e w8 ⟨xv, rfl, hp, hb⟩
        have HT8 := Lib.hid (HTU.out.below hb)
        have HS8 := Lib.hid ((HSA.out.below hb).more hb.size)
        have HR8 := Lib.hid (HRA.out.trans (hb.mono HRA.out.size))
        obtain ⟨rv, rfl, hrv⟩ := hp
        obtain ⟨ro, rcap, rfl, _⟩ := CellsS.shape hrv
        clear hb K5 HTU HSA HRA HWA p0 p1 hzw x0 x1 hx hrv
        obtain ⟨xn, xg, xs, xf, xd, xb, xl⟩ := q
        simp only at *
        have hA := (Below.refl w8.heap.size w8).alloc (Nat.le_refl _) (.cells #[.string xn, .int .i64 xg, .int .i64 xs, .int .i64 xf, .int .i64 xd, .bool xb, .slice ro xl.length rcap] 42)
        have HTP := Lib.hid (TBox.new w8 #[.string xn, .int .i64 xg, .int .i64 xs, .int .i64 xf, .int .i64 xd, .bool xb, .slice ro xl.length rcap] 42)
        have HT9 := Lib.hid (HT8.out.below hA)
        have HR9 := Lib.hid (HR8.out.trans (hA.mono HR8.out.size))
        have CH := Lib.hid (stgs_contains so2 sc2 S ⟨su, sp, sl⟩ _ ((HS8.out.below hA).more hA.size))
        clear hA HT8 HS8 HR8
        go_upto_region 16 with fail
        obtain ⟨w9, hw9⟩ : ∃ w9 : World, w9 = w8.alloc (.cells #[.string xn, .int .i64 xg, .int .i64 xs, .int .i64 xf, .int .i64 xd, .bool xb, .slice ro xl.length rcap] 42) := ⟨_, rfl⟩
        rw [← hw9] at HTP HT9 HR9 CH ⊢
        clear hw9
        have y3 := HTP.out.cell (i := 3) rfl
        have hy := HTP.out.lt
        have x0 := HT9.out.cell (i := 0) rfl
        have x1 := HT9.out.cell (i := 1) rfl
        have x2 := HT9.out.cell (i := 2) rfl
        have hx := HT9.out.lt
        by_cases hq0 : xf = 0
        · have hq1 : (xf != 0) = false := by simp [hq0]
          clear CH HQ3
          subst hq0
          go_wp2_with fail
          go_roundw
          case rel => first | exact ⟨k + 1, by omega, by first | rfl | go_num, HR9⟩ | ((repeat apply Exists.intro); refine ⟨⟨k + 1, by omega, by first | rfl | go_num, HR9⟩, ?_⟩; rfl)
          case measure => simp [intOf]; omega
        · have hq1 : (xf != 0) = true := by simpa using hq0
          have HM := Lib.hid (HQ3.out hq0)
          clear HQ3
          go_wp2_with fail
          refine CH.out.mono ?_
          rintro e wA ⟨⟨bb, rfl, hbb2⟩, hb⟩
          obtain rfl : bb = true := hbb2.2 HM.out
          have HRB := Lib.hid (HR9.out.trans (hb.mono HR9.out.size))
          clear hb CH hbb2 HM
          go_wp2_with fail
          go_roundw
          case rel => first | exact ⟨k + 1, by omega, by first | rfl | go_num, HRB⟩ | ((repeat apply Exists.intro); refine ⟨⟨k + 1, by omega, by first | rfl | go_num, HRB⟩, ?_⟩; rfl)
          case measure => simp [intOf]; omega
      · have hkk : k = l.length := by omega
        subst hkk
        have HBE := Lib.hid HBX.out.bel
        go_wp2_with fail
        go_ret
        exact ⟨by first | rfl | simp, HBE.out⟩
end Go.Proofs.Ytabalicembhjmaa.fixtureFramesComeBack
