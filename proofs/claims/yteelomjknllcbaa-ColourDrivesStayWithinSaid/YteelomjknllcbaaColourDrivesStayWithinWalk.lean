/- The walk of cycloramalaw3.ColourDrivesStayWithin: for any emitters and colour it returns true. (printed by wip/gen/gen_within.py) -/
import Derived.Test.YteelomjknllcbaaDriveP
import Derived.Test.YteelomjknllcbaaDriveMore
import Derived.Test.YteelomjknllcbaaColOpens
namespace Go.Proofs.Yteelomjknllcbaa.colourDrivesStayWithin
open Go.RowKit
set_option linter.unusedVariables false
set_option linter.unusedSimpArgs false

set_option maxRecDepth 100000 in
set_option maxHeartbeats 16000000 in
theorem walk (a0 a1 : Value) (w : World) (w0 : ∃ l, EmS w.heap.size w a0 l) (w1 : TriV a1) :
    Calls Try.prog 5 #[a0, a1] w fun e w' => e = .returned (.bool true) ∧ Below w.heap.size w w' := by
  obtain ⟨l, he⟩ := w0
  obtain ⟨r, g, b, rfl, _, _, _⟩ := w1
  have DR := Lib.hid (fun W (hb : Below w.heap.size w W) => drive_any a0 l r g b W ((he.below hb).more hb.size))
  have HEM := Lib.hid he
  obtain ⟨ao, cap, rfl, ⟨hcap, hmax⟩, hcl, hfit⟩ := he
  unfold maxLen at hmax
  have HFC := Lib.hid (show firstE (chkEm l) (chkC r g b) = 0 → (chkEm l = 0 ∧ LvOkC r ∧ LvOkC g ∧ LvOkC b) from fun h => by
    unfold firstE at h
    by_cases c : chkEm l = 0
    · rw [if_pos c] at h
      refine ⟨c, ?_⟩
      by_cases d : LvOkC r ∧ LvOkC g ∧ LvOkC b
      · exact d
      · rw [chk_no d] at h; omega
    · rw [if_neg c] at h; exact absurd h c)
  go_enter Try.func5, Try.ntmps5
  go_wp2_with fail
  refine (DR.out _ ((Below.refl _ _).alloc (Nat.le_refl _) _)).mono ?_
  rintro e w2 ⟨hb2, hpost⟩
  have hz2 : w.heap.size < w2.heap.size := by have := hb2.size; simp at this; omega
  have f0 : w2.cell? ⟨w.heap.size, 0, none⟩ = some (.int .i64 r) := (hb2.cell (p := ⟨w.heap.size, 0, none⟩) (by simp)).trans (by simp [go_sem])
  have f1 : w2.cell? ⟨w.heap.size, 1, none⟩ = some (.int .i64 g) := (hb2.cell (p := ⟨w.heap.size, 1, none⟩) (by simp)).trans (by simp [go_sem])
  have f2 : w2.cell? ⟨w.heap.size, 2, none⟩ = some (.int .i64 b) := (hb2.cell (p := ⟨w.heap.size, 2, none⟩) (by simp)).trans (by simp [go_sem])
  have HB2 := Lib.hid (show Below w.heap.size w w2 from ((Below.refl _ _).alloc (Nat.le_refl _) _).trans (hb2.mono (by simp)))
  clear hb2
  rcases hpost with ⟨hE, rfl⟩ | ⟨hE, v, rfl, hI⟩
  · generalize firstE (chkEm l) (chkC r g b) = E at *
    have hb0 : (E != 0) = true := by simpa using hE
    clear hE hcl hfit
    go_wp2
    go_ret
    exact ⟨rfl, HB2.out.alloc HB2.out.size _⟩
  · obtain ⟨hce, hc⟩ := HFC.out hE
    obtain ⟨hl0, h12, hcol, -⟩ := chkEm_zero hce
    obtain ⟨bb, off, rfl, hbb, hcc⟩ := hcl (by intro h; subst h; simp at hl0)
    have hdl : (drvL l r g b l.length).length = l.length := drvL_len _ _ _ _ _
    obtain ⟨bo, zcap, rfl, hz3, hz4, hrow⟩ := hI
    rw [hdl] at hz3 hrow ⊢
    obtain ⟨zb, zoff, rfl, hzb, hrw⟩ := hrow hl0
    obtain ⟨i1, i2, i3⟩ := drive_within l r g b hc hcol
    have HNM := Lib.hid (fun k hk => no_more l r g b hc hcol k hk)
    have HOK := Lib.hid (drv_ok l r g b h12 hc hcol)
    have HGR := Lib.hid (fun k hk => gsum_le Emi.r l (drvL l r g b l.length) (fun k hk => ⟨(HOK.out.col k hk).1, HOK.out.lev k hk⟩) k hk)
    have HGG := Lib.hid (fun k hk => gsum_le Emi.g l (drvL l r g b l.length) (fun k hk => ⟨(HOK.out.col k hk).2.1, HOK.out.lev k hk⟩) k hk)
    have HGB := Lib.hid (fun k hk => gsum_le Emi.b l (drvL l r g b l.length) (fun k hk => ⟨(HOK.out.col k hk).2.2, HOK.out.lev k hk⟩) k hk)
    have HNX := Lib.hid (fun (f : Emi → Int) k => (show gsum f l (drvL l r g b l.length) (k + 1) = gsum f l (drvL l r g b l.length) k + f (l.getD k default) * (drvL l r g b l.length).getD k 0 from rfl))
    have HG0 := Lib.hid (fun (f : Emi → Int) => (show gsum f l (drvL l r g b l.length) 0 = 0 from rfl))
    have HCL := Lib.hid (fun k (hk : k < l.length) => (show EmiC w bb (off + k * 4) (l.getD k default) by rw [List.getD_eq_getElem?_getD, List.getElem?_eq_getElem hk]; exact hcc k hk))
    have HRW := Lib.hid (fun k (hk : k < l.length) => (show w2.cell? ⟨zb, zoff + k, none⟩ = some (.int .i64 ((drvL l r g b l.length).getD k 0)) by rw [List.getD_eq_getElem?_getD, List.getElem?_eq_getElem (by omega)]; exact hrw k (by omega)))
    have HLC := Lib.hid hc
    have q1 : 0 ≤ r ∧ r ≤ 65535 := hc.1
    have q2 : 0 ≤ g ∧ g ≤ 65535 := hc.2.1
    have q3 : 0 ≤ b ∧ b ≤ 65535 := hc.2.2
    obtain ⟨q10, q11⟩ := q1
    obtain ⟨q20, q21⟩ := q2
    obtain ⟨q30, q31⟩ := q3
    generalize endV (gsum Emi.r l (drvL l r g b l.length) l.length) = eA at *
    generalize endV (gsum Emi.g l (drvL l r g b l.length) l.length) = eB at *
    generalize endV (gsum Emi.b l (drvL l r g b l.length) l.length) = eC at *
    generalize drvL l r g b l.length = zs at *
    clear hE hcl hfit hcc hrow hrw hce hcol hc HFC hdl
    go_wp2_with fail
    go_loopw [8, 9, 10, 56] (fun x y u i wr => ∃ k : Nat, k ≤ l.length ∧ i = .int .i64 k ∧ x = .int .i64 (gsum Emi.r l zs k) ∧ y = .int .i64 (gsum Emi.g l zs k) ∧ u = .int .i64 (gsum Emi.b l zs k) ∧ Below w2.heap.size w2 wr) (fun _ _ _ i _ => l.length - (intOf i).toNat)
    case atStart => exact ⟨0, Nat.zero_le _, rfl, by rw [HG0.out], by rw [HG0.out], by rw [HG0.out], (Below.refl _ _).alloc (Nat.le_refl _) _⟩
    case round =>
      obtain ⟨k, hk, rfl, rfl, rfl, rfl, hbw⟩ := hrel
      have HB := Lib.hid (show Below w.heap.size w wr from HB2.out.trans (hbw.mono HB2.out.size))
      have HBW := Lib.hid hbw
      by_cases hlt : k < l.length
      · have c9 := HCL.out k hlt
        obtain ⟨c0, c1, c2, c3⟩ := c9
        have hBW := HB.out
        have d0 : wr.cell? ⟨bb, off + k * 4, none⟩ = some (.string (l.getD k default).name) := (hBW.cell (p := ⟨bb, off + k * 4, none⟩) hbb).trans c0
        have d1 : wr.cell? ⟨bb, off + k * 4 + 1, none⟩ = some (.int .i64 (l.getD k default).r) := (hBW.cell (p := ⟨bb, off + k * 4 + 1, none⟩) hbb).trans c1
        have d2 : wr.cell? ⟨bb, off + k * 4 + 2, none⟩ = some (.int .i64 (l.getD k default).g) := (hBW.cell (p := ⟨bb, off + k * 4 + 2, none⟩) hbb).trans c2
        have d3 : wr.cell? ⟨bb, off + k * 4 + 3, none⟩ = some (.int .i64 (l.getD k default).b) := (hBW.cell (p := ⟨bb, off + k * 4 + 3, none⟩) hbb).trans c3
        have hbr : bb < wr.heap.size := Nat.lt_of_lt_of_le hbb hBW.size
        have dz : wr.cell? ⟨zb, zoff + k, none⟩ = some (.int .i64 (zs.getD k 0)) := (hbw.cell (p := ⟨zb, zoff + k, none⟩) hzb).trans (HRW.out k hlt)
        have hzr : zb < wr.heap.size := Nat.lt_of_lt_of_le hzb hbw.size
        have P1 := prod_le (HOK.out.col k hlt).1 (HOK.out.lev k hlt)
        have P2 := prod_le (HOK.out.col k hlt).2.1 (HOK.out.lev k hlt)
        have P3 := prod_le (HOK.out.col k hlt).2.2 (HOK.out.lev k hlt)
        have Q1 := HGR.out k hk
        have Q2 := HGG.out k hk
        have Q3 := HGB.out k hk
        have N1 := Lib.hid (HNX.out Emi.r k)
        have N2 := Lib.hid (HNX.out Emi.g k)
        have N3 := Lib.hid (HNX.out Emi.b k)
        generalize gsum Emi.r l zs k = A at *
        generalize gsum Emi.g l zs k = B at *
        generalize gsum Emi.b l zs k = C at *
        generalize zs.getD k 0 = z at *
        generalize l.getD k default = x at *
        obtain ⟨nm, xr, xg, xb⟩ := x
        simp only at d0 d1 d2 d3 P1 P2 P3 N1 N2 N3
        have e1 : IntKind.i64.wrap (xr * z) = xr * z := IntWalk.i64_in _ (by omega)
        have e2 : IntKind.i64.wrap (xg * z) = xg * z := IntWalk.i64_in _ (by omega)
        have e3 : IntKind.i64.wrap (xb * z) = xb * z := IntWalk.i64_in _ (by omega)
        have e4 : IntKind.i64.wrap (A + xr * z) = A + xr * z := IntWalk.i64_in _ (by omega)
        have e5 : IntKind.i64.wrap (B + xg * z) = B + xg * z := IntWalk.i64_in _ (by omega)
        have e6 : IntKind.i64.wrap (C + xb * z) = C + xb * z := IntWalk.i64_in _ (by omega)
        have k1 : (k : Int) < (l.length : Int) := by omega
        clear P1 P2 P3 Q1 Q2 Q3 c0 c1 c2 c3 hBW hbw
        go_wp2_with fail
        go_region_held3 (fun W => W.cell? ⟨wr.heap.size, 1, none⟩ = some (.int .i64 xr) ∧ W.cell? ⟨wr.heap.size, 2, none⟩ = some (.int .i64 xg) ∧ W.cell? ⟨wr.heap.size, 3, none⟩ = some (.int .i64 xb) ∧ W.cell? ⟨zb, zoff + k, none⟩ = some (.int .i64 z))
          (simp [go_sem, World.cell?_alloc_past, *])
          (first | fail)
        all_goals
          clear e1 e2 e3 e4 e5 e6
          go_wp2_with fail
          go_roundw
          case rel =>
            first
              | exact ⟨k + 1, by omega, by go_num, by rw [N1.out], by rw [N2.out], by rw [N3.out], by (repeat' first | apply Below.drew | exact HBW.out.alloc HBW.out.size _)⟩
              | ((repeat apply Exists.intro); refine ⟨⟨k + 1, by omega, by go_num, by rw [N1.out], by rw [N2.out], by rw [N3.out], by (repeat' first | apply Below.drew | exact HBW.out.alloc HBW.out.size _)⟩, ?_⟩; rfl)
          case measure => simp [intOf]; omega
      · have hkk : k = l.length := by omega
        have Q1 := HGR.out k hk
        have Q2 := HGG.out k hk
        have Q3 := HGB.out k hk
        rw [hkk] at Q1 Q2 Q3 ⊢
        obtain ⟨wo, hwo⟩ : ∃ x, x = wr := ⟨_, rfl⟩
        subst hwo
        generalize gsum Emi.r l zs l.length = A at *
        generalize gsum Emi.g l zs l.length = B at *
        generalize gsum Emi.b l zs l.length = C at *
        obtain ⟨Q10, Q11⟩ := Q1
        obtain ⟨Q20, Q21⟩ := Q2
        obtain ⟨Q30, Q31⟩ := Q3
        have hq9 : (l.length : Int) ≤ 12 := by omega
        clear hkk hbw
        go_wp2_with fail
        go_loopw [94] (fun i wr => ∃ k : Nat, k ≤ l.length ∧ i = .int .i64 k ∧ Below w2.heap.size w2 wr) (fun i _ => l.length - (intOf i).toNat)
        case atStart => exact ⟨0, Nat.zero_le _, rfl, HBW.out⟩
        case round =>
          obtain ⟨m, hm, rfl, hbm⟩ := hrel
          have HBm := Lib.hid (show Below w.heap.size w wr from HB2.out.trans (hbm.mono HB2.out.size))
          have HBM := Lib.hid hbm
          by_cases hml : m < l.length
          · have g0 : wr.cell? ⟨w.heap.size, 0, none⟩ = some (.int .i64 r) := (hbm.cell (p := ⟨w.heap.size, 0, none⟩) hz2).trans f0
            have g1 : wr.cell? ⟨w.heap.size, 1, none⟩ = some (.int .i64 g) := (hbm.cell (p := ⟨w.heap.size, 1, none⟩) hz2).trans f1
            have g2 : wr.cell? ⟨w.heap.size, 2, none⟩ = some (.int .i64 b) := (hbm.cell (p := ⟨w.heap.size, 2, none⟩) hz2).trans f2
            have hzz2 : w.heap.size < wr.heap.size := Nat.lt_of_lt_of_le hz2 hbm.size
            obtain ⟨c0, c1, c2, c3⟩ := HCL.out m hml
            have d0 : wr.cell? ⟨bb, off + m * 4, none⟩ = some (.string (l.getD m default).name) := (HBm.out.cell (p := ⟨bb, off + m * 4, none⟩) hbb).trans c0
            have d1 : wr.cell? ⟨bb, off + m * 4 + 1, none⟩ = some (.int .i64 (l.getD m default).r) := (HBm.out.cell (p := ⟨bb, off + m * 4 + 1, none⟩) hbb).trans c1
            have d2 : wr.cell? ⟨bb, off + m * 4 + 2, none⟩ = some (.int .i64 (l.getD m default).g) := (HBm.out.cell (p := ⟨bb, off + m * 4 + 2, none⟩) hbb).trans c2
            have d3 : wr.cell? ⟨bb, off + m * 4 + 3, none⟩ = some (.int .i64 (l.getD m default).b) := (HBm.out.cell (p := ⟨bb, off + m * 4 + 3, none⟩) hbb).trans c3
            have hbr : bb < wr.heap.size := Nat.lt_of_lt_of_le hbb HBm.out.size
            have dz : wr.cell? ⟨zb, zoff + m, none⟩ = some (.int .i64 (zs.getD m 0)) := (hbm.cell (p := ⟨zb, zoff + m, none⟩) hzb).trans (HRW.out m hml)
            have hzr : zb < wr.heap.size := Nat.lt_of_lt_of_le hzb hbm.size
            have HX := Lib.hid (HNM.out m hml)
            have hx := HOK.out.col m hml
            generalize zs.getD m 0 = z at *
            generalize l.getD m default = x at *
            obtain ⟨nm, xr, xg, xb⟩ := x
            simp only at d0 d1 d2 d3 hx HX
            obtain ⟨⟨x0, x1⟩, ⟨x2, x3⟩, x4, x5⟩ := hx
            clear c0 c1 c2 c3 hbm
            by_cases hz9 : z < 65535
            · have hx2 := HX.out hz9
              by_cases h1 : A + xr ≤ r * 65535
              · by_cases h2 : B + xg ≤ g * 65535
                · have h3 : b * 65535 < C + xb := by
                    rcases Int.lt_or_le (b * 65535) (C + xb) with h | h
                    · exact h
                    · exact absurd ⟨h1, h2, h⟩ hx2
                  clear hx2 HX
                  go_wp2_with fail
                  go_roundw
                  case rel =>
                    first
                      | exact ⟨m + 1, by omega, by go_num, HBM.out.alloc HBM.out.size _⟩
                      | ((repeat apply Exists.intro); refine ⟨⟨m + 1, by omega, by go_num, HBM.out.alloc HBM.out.size _⟩, ?_⟩; rfl)
                  case measure => simp [intOf]; omega
                · have h2' : g * 65535 < B + xg := by omega
                  clear hx2 HX h2
                  go_wp2_with fail
                  go_roundw
                  case rel =>
                    first
                      | exact ⟨m + 1, by omega, by go_num, HBM.out.alloc HBM.out.size _⟩
                      | ((repeat apply Exists.intro); refine ⟨⟨m + 1, by omega, by go_num, HBM.out.alloc HBM.out.size _⟩, ?_⟩; rfl)
                  case measure => simp [intOf]; omega
              · have h1' : r * 65535 < A + xr := by omega
                clear hx2 HX h1
                go_wp2_with fail
                go_roundw
                case rel =>
                  first
                    | exact ⟨m + 1, by omega, by go_num, HBM.out.alloc HBM.out.size _⟩
                    | ((repeat apply Exists.intro); refine ⟨⟨m + 1, by omega, by go_num, HBM.out.alloc HBM.out.size _⟩, ?_⟩; rfl)
                case measure => simp [intOf]; omega
            · have hz9' : 65535 ≤ z := by omega
              clear HX hz9
              go_wp2_with fail
              go_roundw
              case rel =>
                first
                  | exact ⟨m + 1, by omega, by go_num, HBM.out.alloc HBM.out.size _⟩
                  | ((repeat apply Exists.intro); refine ⟨⟨m + 1, by omega, by go_num, HBM.out.alloc HBM.out.size _⟩, ?_⟩; rfl)
              case measure => simp [intOf]; omega
          · have HBE := Lib.hid HBm.out
            clear hbm
            go_wp2_with fail
            go_ret
            exact ⟨rfl, HBE.out⟩
end Go.Proofs.Yteelomjknllcbaa.colourDrivesStayWithin
