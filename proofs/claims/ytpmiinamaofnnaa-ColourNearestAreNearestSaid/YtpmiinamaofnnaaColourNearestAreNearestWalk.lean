/- The walk of cycloramalaw3.ColourNearestAreNearest: for any gels, colour and number it returns true. -/
import Derived.Test.YtpmiinamaofnnaaNearPlainG
import Derived.Test.YtpmiinamaofnnaaGelHas
import Derived.Test.YtpmiinamaofnnaaColOpens
namespace Go.Proofs.Ytpmiinamaofnnaa
open Go.RowKit
set_option linter.unusedVariables false
set_option linter.unusedSimpArgs false

end Go.Proofs.Ytpmiinamaofnnaa
namespace Go.Proofs.Ytpmiinamaofnnaa.colourNearestAreNearest
open Go.RowKit
set_option maxRecDepth 100000 in
set_option maxHeartbeats 8000000 in
theorem walk (a0 a1 : Value) (n : Int) (w : World) (w0 : ∃ l, GelS w.heap.size w a0 l ∧ ∀ x ∈ l, GelFit x) (w1 : TriV a1) (w2 : (Lit.int .i64 n).wf = true) :
    Calls Try.prog 3 #[a0, a1, .int .i64 n] w fun e w' => e = .returned (.bool true) ∧ Below w.heap.size w w' := by
  obtain ⟨l, hl, hfit⟩ := w0
  obtain ⟨r, g, b, rfl, _, _, _⟩ := w1
  have hn : I64 n := i64_of_wf w2
  have NR := Lib.hid (fun W (hb : Below w.heap.size w W) => nearest_any a0 l r g b n W ((hl.below hb).more hb.size) hfit hn)
  have HL := Lib.hid hl
  obtain ⟨ao, cap, rfl, hmax, _⟩ := hl.cells
  unfold maxLen at hmax
  clear hl hfit w2 hn
  go_enter Try.func3, Try.ntmps3
  go_wp2_with fail
  refine (NR.out _ ((Below.refl _ _).alloc (Nat.le_refl _) _)).mono ?_
  rintro e w2 ⟨hb2, v, rfl, hv0, hv1⟩
  have HB2 := Lib.hid (show Below w.heap.size w w2 from ((Below.refl _ _).alloc (Nat.le_refl _) _).trans (hb2.mono (by simp)))
  have hz2 : w.heap.size < w2.heap.size := by have := hb2.size; simp at this; omega
  have k0 : w2.cell? ⟨w.heap.size, 0, none⟩ = some (.int .i64 r) := (hb2.cell (p := ⟨w.heap.size, 0, none⟩) (by simp)).trans (by simp [go_sem])
  have k1 : w2.cell? ⟨w.heap.size, 1, none⟩ = some (.int .i64 g) := (hb2.cell (p := ⟨w.heap.size, 1, none⟩) (by simp)).trans (by simp [go_sem])
  have k2 : w2.cell? ⟨w.heap.size, 2, none⟩ = some (.int .i64 b) := (hb2.cell (p := ⟨w.heap.size, 2, none⟩) (by simp)).trans (by simp [go_sem])
  have HOK := Lib.hid (fun h => nearF_ok (l := l) (r := r) (g := g) (b := b) (n := n) h)
  generalize nearF l r g b n = E at *
  by_cases hE : E = 0
  rotate_left
  · obtain rfl := hv0 hE
    have hb0 : (E != 0) = true := by simp [hE]
    clear hE hv0 hv1 hb2 HOK NR HL k0 k1 k2
    go_wp2_with fail
    go_ret
    exact ⟨rfl, HB2.out⟩
  subst hE
  obtain ⟨h1, hc, hn0, hn5⟩ := HOK.out rfl
  have hv := hv1 rfl
  have HV := Lib.hid hv
  obtain ⟨h500, hgel⟩ := chkBook_ok h1
  have HG := Lib.hid hgel
  have HC := Lib.hid hc
  obtain ⟨n', rfl⟩ : ∃ n' : Nat, n = n' := ⟨n.toNat, by omega⟩
  have HNL := Lib.hid (near_len l r g b n')
  have HNM := Lib.hid (fun h hh => near_mem (l := l) (r := r) (g := g) (b := b) (n := n') (h := h) hh)
  have HNO := Lib.hid (fun x h hx hn hh => near_out (l := l) (r := r) (g := g) (b := b) (n := n') (x := x) (h := h) hx hn hh)
  generalize nearL l r g b n' = near at *
  obtain ⟨ao2, cap2, rfl, hmax2, _⟩ := hv.cells
  have hnl : near.length ≤ 500 := by have := HNL.out; omega
  have HLW := Lib.hid (show ∀ W, Below w2.heap.size w2 W → ∀ k (hk : k < l.length), ∃ b off, ao = some ⟨b, off, none⟩ ∧ b < W.heap.size ∧ GelC W b (off + k * 5) l[k] from fun W hW k hk => by
    have hW2 := HB2.out.trans (hW.mono (Nat.le_of_lt hz2))
    obtain ⟨ao', cap', e, _, h⟩ := HL.out.below hW2
    injection e with e1 e2 e3
    subst e1
    obtain ⟨b, off, e, hb, hh⟩ := h (by intro e; subst e; simp at hk)
    exact ⟨b, off, e, Nat.lt_of_lt_of_le hb hW2.size, hh k hk⟩)
  have HVW := Lib.hid (show ∀ W, Below w2.heap.size w2 W → ∀ k (hk : k < near.length), ∃ b off, ao2 = some ⟨b, off, none⟩ ∧ b < W.heap.size ∧ GelC W b (off + k * 5) near[k] from fun W hW k hk => by
    obtain ⟨ao', cap', e, _, h⟩ := HV.out.below hW
    injection e with e1 e2 e3
    subst e1
    obtain ⟨b, off, e, hb, hh⟩ := h (by intro e; subst e; simp at hk)
    exact ⟨b, off, e, Nat.lt_of_lt_of_le hb hW.size, hh k hk⟩)
  have HVS := Lib.hid (show ∀ W, Below w2.heap.size w2 W → GelS W.heap.size W (.slice ao2 near.length cap2) near from fun W hW => (HV.out.below hW).more hW.size)
  have KW := Lib.hid (show ∀ W, Below w2.heap.size w2 W → w.heap.size < W.heap.size ∧ W.cell? ⟨w.heap.size, 0, none⟩ = some (.int .i64 r) ∧ W.cell? ⟨w.heap.size, 1, none⟩ = some (.int .i64 g) ∧ W.cell? ⟨w.heap.size, 2, none⟩ = some (.int .i64 b) from fun W hW => ⟨Nat.lt_of_lt_of_le hz2 hW.size, (hW.cell (p := ⟨w.heap.size, 0, none⟩) hz2).trans k0, (hW.cell (p := ⟨w.heap.size, 1, none⟩) hz2).trans k1, (hW.cell (p := ⟨w.heap.size, 2, none⟩) hz2).trans k2⟩)
  have HMIN := Lib.hid (show (near.length : Int) = if (n' : Int) ≤ l.length then (n' : Int) else l.length from by have := HNL.out; split <;> omega)
  have h500i : (l.length : Int) ≤ 500 := by omega
  obtain ⟨m, hm⟩ : ∃ m : Int, min (n' : Int) l.length = m := ⟨_, rfl⟩
  have hmm : (near.length : Int) = m := by have := HNL.out; omega
  have HLEN := Lib.hid (show near.length = min n' l.length from HNL.out)
  clear hv0 hv1 hb2 HOK NR HL hv hgel hc hn0 hn5 h1 k0 k1 k2 hm hmm
  have HNK := Lib.hid (show ∀ x : Gel, LvOkC x.r ∧ LvOkC x.g ∧ LvOkC x.b → dstF x.r x.g x.b r g b = 0 ∧ dstV x.r x.g x.b r g b = nearKey r g b x from fun x hx => by
    have h0 := dstF_ok hx HC.out
    refine ⟨h0, ?_⟩
    rw [show dstV x.r x.g x.b r g b = distV x.r x.g x.b r g b from if_pos h0]
    exact (distW_in hx.1 hx.2.1 hx.2.2 HC.out.1 HC.out.2.1 HC.out.2.2).symm)
  have HCOL := Lib.hid (show ∀ x : Gel, x ∈ l → LvOkC x.r ∧ LvOkC x.g ∧ LvOkC x.b from fun x hx => chkC_zero (HG.out x hx).col)
  go_upto_region 4 with fail
  go_cut [35] (fun s wx => s = .bool false ∧ w2 = wx)
  case first =>
    by_cases hnn : n' ≤ l.length
    · have mm1 : min (n' : Int) l.length = n' := by omega
      have mm2 : (n' : Int) ≤ l.length := by omega
      have HN := Lib.hid (show (near.length : Int) = n' by have := HLEN.out; omega)
      go_wp2_with fail
      go_meet
      exact ⟨by simp [HN.out], rfl⟩
    · have mm1 : min (n' : Int) l.length = l.length := by omega
      have HN := Lib.hid (show (near.length : Int) = l.length by have := HLEN.out; omega)
      have mm2 : ¬ (n' : Int) ≤ l.length := by omega
      have mm3 : (l.length : Int) < n' := by omega
      go_wp2_with fail
      go_meet
      exact ⟨by simp [HN.out], rfl⟩
  case rest =>
  obtain ⟨rfl, rfl⟩ := hcut
  go_wp2_with fail
  go_loopw [38] (fun i wr => ∃ k : Nat, k ≤ l.length ∧ i = .int .i64 k ∧ Hid (Below w2.heap.size w2 wr)) (fun i _ => l.length - (intOf i).toNat)
  case atStart => exact ⟨0, Nat.zero_le _, rfl, Lib.hid (Below.refl _ _)⟩
  case round =>
    obtain ⟨k, hk, rfl, HB⟩ := hrel
    by_cases hlt : k < l.length
    rotate_left
    · obtain rfl : k = l.length := by omega
      have HE := Lib.hid (HB2.out.trans (HB.out.mono (Nat.le_of_lt hz2)))
      go_wp2_with fail
      go_ret
      exact ⟨rfl, HE.out⟩
    obtain ⟨bl, off, e0, hbb, c0, c1, c2, c3, c4⟩ := HLW.out wr HB.out k hlt
    obtain ⟨hzr, k0, k1, k2⟩ := KW.out wr HB.out
    subst e0
    have HMEM := Lib.hid (List.getElem_mem hlt)
    have CT := Lib.hid (fun W (hW : Below w2.heap.size w2 W) => gels_contains _ near l[k] W (HVS.out W hW))
    have CD := Lib.hid (fun W => distTop_any l[k].r l[k].g l[k].b r g b W)
    rw [(HNK.out l[k] (HCOL.out _ HMEM.out)).1, (HNK.out l[k] (HCOL.out _ HMEM.out)).2] at CD
    generalize l[k] = y at *
    obtain ⟨y1, y2, y3, y4, y5⟩ := y
    dsimp only at c0 c1 c2 c3 c4 CT CD
    generalize hkey : nearKey r g b ⟨y1, y2, y3, y4, y5⟩ = ky at *
    have HKY := Lib.hid hkey
    clear hkey
    go_wp2_with fail
    refine (CT.out _ (HB.out.alloc (by have := HB.out.size; omega) _)).mono ?_
    rintro e w3 ⟨⟨cb, rfl, hcb⟩, hb3⟩
    have HB3 := Lib.hid (show Below w2.heap.size w2 w3 from (HB.out.alloc HB.out.size _).trans (hb3.mono (Nat.le_trans HB.out.size (by simp))))
    have hzr3 : wr.heap.size < w3.heap.size := by have := hb3.size; simp at this; omega
    have d2 : w3.cell? ⟨wr.heap.size, 2, none⟩ = some (.int .i64 y3) := (hb3.cell (p := ⟨wr.heap.size, 2, none⟩) (by simp)).trans (by simp [go_sem])
    have d3 : w3.cell? ⟨wr.heap.size, 3, none⟩ = some (.int .i64 y4) := (hb3.cell (p := ⟨wr.heap.size, 3, none⟩) (by simp)).trans (by simp [go_sem])
    have d4 : w3.cell? ⟨wr.heap.size, 4, none⟩ = some (.int .i64 y5) := (hb3.cell (p := ⟨wr.heap.size, 4, none⟩) (by simp)).trans (by simp [go_sem])
    obtain ⟨hz3, q0, q1, q2⟩ := KW.out w3 HB3.out
    have HCB := Lib.hid hcb
    clear hb3 hcb CT k0 k1 k2 c0 c1 c2 c3 c4 HB
    cases cb
    rotate_left
    · clear CD d2 d3 d4 q0 q1 q2
      go_wp2_with fail
      go_roundw
      case rel => exact ⟨k + 1, by omega, by go_num, HB3⟩
      case measure => simp [intOf]; omega
    have HNOT := Lib.hid (show (⟨y1, y2, y3, y4, y5⟩ : Gel) ∉ near from fun h => by have := HCB.out.2 h; cases this)
    go_wp2_with fail
    refine (CD.out _).mono ?_
    rintro e w4 ⟨rfl, hb4⟩
    have HB4 := Lib.hid (show Below w2.heap.size w2 w4 from HB3.out.trans (hb4.mono HB3.out.size))
    clear hb4 CD d2 d3 d4 q0 q1 q2 hz3 hzr3 HB3
    go_wp2_with fail
    go_loopw [56] (fun i wr => ∃ j : Nat, j ≤ near.length ∧ i = .int .i64 j ∧ Hid (Below w2.heap.size w2 wr)) (fun i _ => near.length - (intOf i).toNat)
    case atStart => exact ⟨0, Nat.zero_le _, rfl, HB4⟩
    case round =>
      obtain ⟨j, hj, rfl, HB⟩ := hrel
      by_cases hjl : j < near.length
      rotate_left
      · obtain rfl : j = near.length := by omega
        go_wp2_with fail
        go_roundw
        case rel => exact ⟨k + 1, by omega, by go_num, HB⟩
        case measure => simp [intOf]; omega
      obtain ⟨bn, on, e0, hbn, c0, c1, c2, c3, c4⟩ := HVW.out _ HB.out j hjl
      obtain ⟨hzr, k0, k1, k2⟩ := KW.out _ HB.out
      subst e0
      have HM2 := Lib.hid (List.getElem_mem hjl)
      have HCO := Lib.hid (HCOL.out _ (HNM.out _ HM2.out))
      have CD := Lib.hid (fun W => distTop_any near[j].r near[j].g near[j].b r g b W)
      rw [(HNK.out near[j] HCO.out).1, (HNK.out near[j] HCO.out).2] at CD
      have HLE := Lib.hid (show nearKey r g b near[j] ≤ ky by rw [← HKY.out]; exact HNO.out _ _ HMEM.out HNOT.out HM2.out)
      generalize near[j] = x at *
      obtain ⟨x1, x2, x3, x4, x5⟩ := x
      dsimp only at c0 c1 c2 c3 c4 CD
      generalize nearKey r g b ⟨x1, x2, x3, x4, x5⟩ = kx at *
      have hle : ¬ ky < kx := by have := HLE.out; omega
      go_wp2_with fail
      refine (CD.out _).mono ?_
      rintro e w5 ⟨rfl, hb5⟩
      have HB5 := Lib.hid (show Below w2.heap.size w2 w5 from (HB.out.alloc HB.out.size _).trans (hb5.mono (Nat.le_trans HB.out.size (by simp))))
      clear hb5 CD c0 c1 c2 c3 c4 k0 k1 k2 HB
      go_wp2_with fail
      go_roundw
      case rel => exact ⟨j + 1, by omega, by go_num, HB5⟩
      case measure => simp [intOf]; omega
end Go.Proofs.Ytpmiinamaofnnaa.colourNearestAreNearest
