/- The reference's Drive. (printed by wip/gen/gen_rdrive.py) -/
import Derived.Test.YteelomjknllcbaaRGiven
namespace Go.Proofs.Yteelomjknllcbaa
open Go.RowKit
set_option linter.unusedVariables false
set_option linter.unusedSimpArgs false

set_option maxRecDepth 100000 in
set_option maxHeartbeats 16000000 in
theorem rdrive_any (ev : Value) (l : List Emi) (r g b : Int) (w : World) (he : EmS w.heap.size w ev l) :
    Calls Try.prog 23 #[ev, .agg #[.int .i64 r, .int .i64 g, .int .i64 b]] w (DriveP l r g b w) := by
  have CE := Lib.hid (fun W (hb : Below w.heap.size w W) => remCheck_any ev l W ((he.below hb).more hb.size))
  have HEM := Lib.hid (fun W (hb : Below w.heap.size w W) => (he.below hb).more hb.size)
  have CC := Lib.hid (rcheck_any r g b)
  have HLV := Lib.hid (show firstE (chkEm l) (chkC r g b) = 0 → (chkEm l = 0 ∧ LvOkC r ∧ LvOkC g ∧ LvOkC b) from fun h => by
    unfold firstE at h
    by_cases c : chkEm l = 0
    · rw [if_pos c] at h
      refine ⟨c, ?_⟩
      by_cases d : LvOkC r ∧ LvOkC g ∧ LvOkC b
      · exact d
      · rw [chk_no d] at h; omega
    · rw [if_neg c] at h; exact absurd h c)
  have HFE := Lib.hid (show firstE (chkEm l) (chkC r g b) = (if chkEm l = 0 then chkC r g b else chkEm l) from rfl)
  have HPO := Lib.hid (show ∀ e w', DriveP l r g b w e w' ↔ (Below w.heap.size w w' ∧ ((firstE (chkEm l) (chkC r g b) ≠ 0 ∧ e = .returned (.tuple #[.slice none 0 0, .agg #[.int .i64 0, .int .i64 0, .int .i64 0], .int .i64 (firstE (chkEm l) (chkC r g b))])) ∨
    (firstE (chkEm l) (chkC r g b) = 0 ∧ ∃ v, e = .returned (.tuple #[v, .agg #[.int .i64 (endV (gsum Emi.r l (drvL l r g b l.length) l.length)), .int .i64 (endV (gsum Emi.g l (drvL l r g b l.length) l.length)), .int .i64 (endV (gsum Emi.b l (drvL l r g b l.length) l.length))], .int .i64 0]) ∧ IntS w'.heap.size w' v (drvL l r g b l.length)))) from fun e w' => Iff.rfl)
  generalize firstE (chkEm l) (chkC r g b) = E at *
  obtain ⟨ao, cap, rfl, ⟨hcap, hmax⟩, hcl, hfit⟩ := he
  unfold maxLen at hmax
  have KC := Lib.hid (show ∀ W, Below (w.heap.size + 1 + 1) ((w.alloc (.cells #[.int .i64 r, .int .i64 g, .int .i64 b] 23)).alloc (.cells #[.int .i64 0, .int .i64 0, .int .i64 0] 23)) W → (Below w.heap.size w W ∧ w.heap.size + 1 < W.heap.size ∧ Box3 W (w.heap.size + 1) (.int .i64 0) (.int .i64 0) (.int .i64 0) ∧ (W.cell? ⟨w.heap.size, 0, none⟩ = some (.int .i64 r) ∧ W.cell? ⟨w.heap.size, 1, none⟩ = some (.int .i64 g) ∧ W.cell? ⟨w.heap.size, 2, none⟩ = some (.int .i64 b))) from fun W hW => by
    have hz := hW.size
    simp at hz
    refine ⟨(((Below.refl _ _).alloc (Nat.le_refl _) _).alloc (by simp) _).trans (hW.mono (by omega)), by omega, bx_below hW (by omega) (bx_new (by simp)), ?_, ?_, ?_⟩
    · exact (hW.cell (p := ⟨w.heap.size, 0, none⟩) (by simp; omega)).trans (by simp [go_sem, World.cell?_alloc_past])
    · exact (hW.cell (p := ⟨w.heap.size, 1, none⟩) (by simp; omega)).trans (by simp [go_sem, World.cell?_alloc_past])
    · exact (hW.cell (p := ⟨w.heap.size, 2, none⟩) (by simp; omega)).trans (by simp [go_sem, World.cell?_alloc_past]))
  have KA := Lib.hid (show ∀ W o, Below (w.heap.size + 1 + 1) ((w.alloc (.cells #[.int .i64 r, .int .i64 g, .int .i64 b] 23)).alloc (.cells #[.int .i64 0, .int .i64 0, .int .i64 0] 23)) W → Below (w.heap.size + 1 + 1) ((w.alloc (.cells #[.int .i64 r, .int .i64 g, .int .i64 b] 23)).alloc (.cells #[.int .i64 0, .int .i64 0, .int .i64 0] 23)) (W.alloc o) from fun W o h => h.alloc (by have := h.size; simp at this; omega) o)
  have KM := Lib.hid (show ∀ W W', Below (w.heap.size + 1 + 1) ((w.alloc (.cells #[.int .i64 r, .int .i64 g, .int .i64 b] 23)).alloc (.cells #[.int .i64 0, .int .i64 0, .int .i64 0] 23)) W → Below W.heap.size W W' → Below (w.heap.size + 1 + 1) ((w.alloc (.cells #[.int .i64 r, .int .i64 g, .int .i64 b] 23)).alloc (.cells #[.int .i64 0, .int .i64 0, .int .i64 0] 23)) W' from fun W W' h1 h2 => h1.trans (h2.mono (by have := h1.size; simp at this; omega)))
  generalize hce : chkEm l = ce at *
  generalize chkC r g b = cc at *
  have HCE := Lib.hid hce
  clear hce
  go_enter Try.func23, Try.ntmps23
  go_wp2_with fail
  have hw0 : Below (w.heap.size + 1 + 1) ((w.alloc (.cells #[.int .i64 r, .int .i64 g, .int .i64 b] 23)).alloc (.cells #[.int .i64 0, .int .i64 0, .int .i64 0] 23)) ((w.alloc (.cells #[.int .i64 r, .int .i64 g, .int .i64 b] 23)).alloc (.cells #[.int .i64 0, .int .i64 0, .int .i64 0] 23)) := Below.refl _ _
  refine (CE.out _ (KC.out _ hw0).1).mono ?_
  rintro e w1 ⟨rfl, hb1⟩
  have hw1 := KM.out _ _ hw0 hb1
  clear hb1
  obtain ⟨hB1, hz2, hbx, e0, e1, e2⟩ := KC.out w1 hw1
  have hz1 : w.heap.size < w1.heap.size := by omega
  have HB1 := Lib.hid hB1
  obtain ⟨t0, t1, t2, t3, t4, t5⟩ := hbx
  clear hB1
  by_cases hc1 : ce = 0
  rotate_left
  · have HEE := Lib.hid (show E = ce by rw [HFE.out, if_neg hc1])
    have HNE := Lib.hid (show E ≠ 0 by rw [HEE.out]; exact hc1)
    have hb0 : (ce != 0) = true := by simp [hc1]
    clear hc1 hcl hfit CE CC
    go_wp2
    refine bodyPost_ret (v := .tuple #[.slice none 0 0, .agg #[.int .i64 0, .int .i64 0, .int .i64 0], .int .i64 ce]) (by simp [results, Try.results23, go_sem, *]) rfl ((HPO.out _ _).2 ⟨below_set3 HB1.out (by omega), .inl ⟨HNE.out, by rw [HEE.out]⟩⟩)
  · go_wp2_with fail
    refine (CC.out _).mono ?_
    rintro e w2 ⟨rfl, hb2'⟩
    have hb2 := KM.out _ _ hw1 hb2'
    clear hb2' hw1 t0 t1 t2 t3 t4 t5 e0 e1 e2 hz1 hz2
    obtain ⟨hB2, hz2, hbx, e0, e1, e2⟩ := KC.out w2 hb2
    have hz1 : w.heap.size < w2.heap.size := by omega
    have HB2 := Lib.hid hB2
    have HBX := Lib.hid hbx
    obtain ⟨t0, t1, t2, t3, t4, t5⟩ := hbx
    clear hB2
    by_cases hc2 : cc = 0
    rotate_left
    · have HEE := Lib.hid (show E = cc by rw [HFE.out, if_pos hc1])
      have HNE := Lib.hid (show E ≠ 0 by rw [HEE.out]; exact hc2)
      have hb0 : (cc != 0) = true := by simp [hc2]
      clear hc1 hc2 hcl hfit hb2 CE CC
      go_wp2
      refine bodyPost_ret (v := .tuple #[.slice none 0 0, .agg #[.int .i64 0, .int .i64 0, .int .i64 0], .int .i64 cc]) (by simp [results, Try.results23, go_sem, *]) rfl ((HPO.out _ _).2 ⟨below_set3 HB2.out (by omega), .inl ⟨HNE.out, by rw [HEE.out]⟩⟩)
    have hE : E = 0 := by rw [HFE.out, if_pos hc1, hc2]
    subst hc1 hc2
    obtain ⟨hce, lr, lg, lb⟩ := HLV.out hE
    subst hE
    obtain ⟨hl0, h12, hcol, -⟩ := chkEm_zero (HCE.out.trans hce)
    obtain ⟨bb, off, rfl, hbb, hcc⟩ := hcl (by intro h; subst h; simp at hl0)
    have HCL := Lib.hid (fun k (hk : k < l.length) => (show EmiC w bb (off + k * 4) (l.getD k default) by rw [List.getD_eq_getElem?_getD, List.getElem?_eq_getElem hk]; exact hcc k hk))
    have HCO := Lib.hid (fun k hk => hcol k hk)
    have HGV := Lib.hid (drv_ok l r g b h12 ⟨lr, lg, lb⟩ hcol)
    have HRI := Lib.hid (fun k hk => drvR_in l r g b ⟨lr, lg, lb⟩ hcol k hk)
    have HLR := Lib.hid (show LvOkC r ∧ LvOkC g ∧ LvOkC b from ⟨lr, lg, lb⟩)
    have HR0 := Lib.hid (show drvR l r g b 0 = (r * 65535, g * 65535, b * 65535) from rfl)
    have HRN := Lib.hid (fun k => (show drvR l r g b (k + 1) = drvT (l.getD k default) (drvR l r g b k) from rfl))
    have HLN := Lib.hid (fun k => (show drvL l r g b (k + 1) = drvL l r g b k ++ [drvN (l.getD k default) (drvR l r g b k)] from rfl))
    have q1 : 0 ≤ r * 65535 ∧ r * 65535 ≤ 4294836225 := by unfold LvOkC at lr; omega
    have q2 : 0 ≤ g * 65535 ∧ g * 65535 ≤ 4294836225 := by unfold LvOkC at lg; omega
    have q3 : 0 ≤ b * 65535 ∧ b * 65535 ≤ 4294836225 := by unfold LvOkC at lb; omega
    obtain ⟨qa0, qa1⟩ := q1
    obtain ⟨qb0, qb1⟩ := q2
    obtain ⟨qc0, qc1⟩ := q3
    clear hce lr lg lb hcol hcc hcl hfit CE CC HLV HFE HCE
    have HPT := Lib.hid (fun (x y z : Int) => parts3_any x y z)
    have ia0 : ∀ w, (Instr.index 67 (.agg #[.int .i64 r, .int .i64 g, .int .i64 b]) (.int .i64 0)).run Try.prog w = .ok (.int .i64 r) w := fun _ => by kernel_rfl
    have ia1 : ∀ w, (Instr.index 67 (.agg #[.int .i64 r, .int .i64 g, .int .i64 b]) (.int .i64 1)).run Try.prog w = .ok (.int .i64 g) w := fun _ => by kernel_rfl
    have ia2 : ∀ w, (Instr.index 67 (.agg #[.int .i64 r, .int .i64 g, .int .i64 b]) (.int .i64 2)).run Try.prog w = .ok (.int .i64 b) w := fun _ => by kernel_rfl
    go_wp2_with fail
    refine (HPT.out _ _ _ _).mono ?_
    rintro e w3 ⟨rfl, hb3⟩
    have HS3 := Lib.hid (DvS.below (w2 := w2) (a := 0) (b := 0) (c := 0) ⟨(Below.refl _ _).alloc (Nat.le_refl _) _, by simp, bx_new rfl⟩ hb3)
    clear hb3
    go_wp2_with fail
    go_loopw [34] (fun j wr => ∃ m : Nat, m ≤ 3 ∧ j = .int .i64 m ∧ DvS w2 (rsQ 0 (r * 65535) 0 m) (rsQ 0 (g * 65535) 1 m) (rsQ 0 (b * 65535) 2 m) wr) (fun j _ => 3 - (intOf j).toNat)
    case atStart => exact ⟨0, by omega, rfl, HS3.out⟩
    case round =>
      obtain ⟨m, hm, rfl, hS2⟩ := hrel
      have HS2 := Lib.hid hS2
      have hzq := hS2.sz
      have hw2q : w2.heap.size < wr.heap.size := by omega
      obtain ⟨y0, y1, y2, y3, y4, y5⟩ := hS2.box
      have hm4 : m = 0 ∨ m = 1 ∨ m = 2 ∨ m = 3 := by omega
      clear hm hS2
      rcases hm4 with rfl | rfl | rfl | rfl
      · simp only [rsQ, Nat.lt_irrefl, if_false, Nat.not_lt_zero] at y0 y1 y2
        go_wp2_with fail
        go_roundw
        case rel =>
          first
            | exact ⟨1, by omega, by first | rfl | go_num, HS2.out.set 0 (r * 65535) (by omega)⟩
            | ((repeat apply Exists.intro); refine ⟨⟨1, by omega, by first | rfl | go_num, HS2.out.set 0 (r * 65535) (by omega)⟩, ?_⟩; rfl)
        case measure => simp [intOf]
      · simp only [rsQ, Nat.lt_irrefl, if_false, Nat.not_lt_zero] at y0 y1 y2
        go_wp2_with fail
        go_roundw
        case rel =>
          first
            | exact ⟨2, by omega, by first | rfl | go_num, HS2.out.set 1 (g * 65535) (by omega)⟩
            | ((repeat apply Exists.intro); refine ⟨⟨2, by omega, by first | rfl | go_num, HS2.out.set 1 (g * 65535) (by omega)⟩, ?_⟩; rfl)
        case measure => simp [intOf]
      · simp only [rsQ, Nat.lt_irrefl, if_false, Nat.not_lt_zero] at y0 y1 y2
        go_wp2_with fail
        go_roundw
        case rel =>
          first
            | exact ⟨3, by omega, by first | rfl | go_num, HS2.out.set 2 (b * 65535) (by omega)⟩
            | ((repeat apply Exists.intro); refine ⟨⟨3, by omega, by first | rfl | go_num, HS2.out.set 2 (b * 65535) (by omega)⟩, ?_⟩; rfl)
        case measure => simp [intOf]
      clear y0 y1 y2 y3 y4 y5 hw2q hzq ia0 ia1 ia2 qa0 qa1 qb0 qb1 qc0 qc1
      obtain ⟨w5, hw5⟩ : ∃ x, x = wr := ⟨_, rfl⟩
      subst hw5
      have HS5 := Lib.hid (show DvS w2 (drvR l r g b 0).1 (drvR l r g b 0).2.1 (drvR l r g b 0).2.2 w5 by rw [HR0.out]; exact HS2.out)
      clear HS2 HS3
      go_wp2_with fail
      go_loopw [12, 45] (fun v i wr => ∃ k : Nat, k ≤ l.length ∧ i = .int .i64 k ∧ OwnI (w2.heap.size + 1) wr v (drvL l r g b k) ∧ DvS w2 (drvR l r g b k).1 (drvR l r g b k).2.1 (drvR l r g b k).2.2 wr) (fun _ i _ => l.length - (intOf i).toNat)
      case atStart => exact ⟨0, Nat.zero_le _, rfl, OwnI.nil _ _, HS5.out⟩
      case round =>
        obtain ⟨k, hk, rfl, hown, hS⟩ := hrel
        have HO := Lib.hid hown
        obtain ⟨oo, ocap, rfl⟩ := hown.shape
        have HS := Lib.hid hS
        clear hown
        by_cases hlt : k < l.length
        · obtain ⟨c0, c1, c2, c3⟩ := HCL.out k hlt
          have hBW := HB2.out.trans (HS.out.bl.mono (by omega))
          have d0 : wr.cell? ⟨bb, off + k * 4, none⟩ = some (.string (l.getD k default).name) := (hBW.cell (p := ⟨bb, off + k * 4, none⟩) hbb).trans c0
          have d1 : wr.cell? ⟨bb, off + k * 4 + 1, none⟩ = some (.int .i64 (l.getD k default).r) := (hBW.cell (p := ⟨bb, off + k * 4 + 1, none⟩) hbb).trans c1
          have d2 : wr.cell? ⟨bb, off + k * 4 + 2, none⟩ = some (.int .i64 (l.getD k default).g) := (hBW.cell (p := ⟨bb, off + k * 4 + 2, none⟩) hbb).trans c2
          have d3 : wr.cell? ⟨bb, off + k * 4 + 3, none⟩ = some (.int .i64 (l.getD k default).b) := (hBW.cell (p := ⟨bb, off + k * 4 + 3, none⟩) hbb).trans c3
          have hbr : bb < wr.heap.size := Nat.lt_of_lt_of_le hbb hBW.size
          have ri := HRI.out k (by omega)
          have hcl3 := HCO.out k hlt
          have HT0 := Lib.hid (drvN_ge (x := l.getD k default) (t := drvR l r g b k) ⟨ri.1.1, ri.2.1.1, ri.2.2.1⟩)
          have HT1 := Lib.hid (drvN_fit (x := l.getD k default) (t := drvR l r g b k) ⟨ri.1.1, ri.2.1.1, ri.2.2.1⟩ hcl3.1.1 hcl3.2.1.1 hcl3.2.2.1)
          have HT2 := Lib.hid (drvN_le (l.getD k default) (drvR l r g b k))
          have HT3 := Lib.hid (show (0 ≤ (drvR l r g b k).1 ∧ (drvR l r g b k).1 ≤ 4294836225) ∧ (0 ≤ (drvR l r g b k).2.1 ∧ (drvR l r g b k).2.1 ≤ 4294836225) ∧ (0 ≤ (drvR l r g b k).2.2 ∧ (drvR l r g b k).2.2 ≤ 4294836225) from by
            have h := HLR.out
            unfold LvOkC at h
            omega)
          have HNX := Lib.hid (HRN.out k)
          have HNL := Lib.hid (HLN.out k)
          have HND := Lib.hid (show drvN (l.getD k default) (drvR l r g b k) = mn (mn (mn 65535 (l.getD k default).r (drvR l r g b k).1) (l.getD k default).g (drvR l r g b k).2.1) (l.getD k default).b (drvR l r g b k).2.2 from rfl)
          have HDT := Lib.hid (show drvT (l.getD k default) (drvR l r g b k) = ((drvR l r g b k).1 - drvN (l.getD k default) (drvR l r g b k) * (l.getD k default).r, (drvR l r g b k).2.1 - drvN (l.getD k default) (drvR l r g b k) * (l.getD k default).g, (drvR l r g b k).2.2 - drvN (l.getD k default) (drvR l r g b k) * (l.getD k default).b) from rfl)
          generalize drvT (l.getD k default) (drvR l r g b k) = tn at *
          generalize drvN (l.getD k default) (drvR l r g b k) = n3 at *
          generalize drvR l r g b k = t at *
          generalize l.getD k default = x at *
          obtain ⟨ta, tb, tc⟩ := t
          obtain ⟨nm, xr, xg, xb⟩ := x
          simp only at d0 d1 d2 d3
          have HT := Lib.hid (show (0 ≤ ta ∧ ta ≤ 4294836225) ∧ (0 ≤ tb ∧ tb ≤ 4294836225) ∧ (0 ≤ tc ∧ tc ≤ 4294836225) from HT3.out)
          have HXX := Lib.hid (show (0 ≤ xr ∧ xr ≤ 65535) ∧ (0 ≤ xg ∧ xg ≤ 65535) ∧ (0 ≤ xb ∧ xb ≤ 65535) from hcl3)
          obtain ⟨n1, hn1⟩ : ∃ n, mn 65535 xr ta = n := ⟨_, rfl⟩
          obtain ⟨n2, hn2⟩ : ∃ n, mn n1 xg tb = n := ⟨_, rfl⟩
          have hn3 : mn n2 xb tc = n3 := by rw [HND.out, ← hn2, ← hn1]
          have b1 : 0 ≤ n1 ∧ n1 ≤ 65535 := by rw [← hn1]; exact ⟨mn_ge (by omega) HT.out.1.1, mn_le _ _ _⟩
          have b2 : 0 ≤ n2 ∧ n2 ≤ 65535 := by rw [← hn2]; exact ⟨mn_ge b1.1 HT.out.2.1.1, Int.le_trans (mn_le _ _ _) b1.2⟩
          have b3 : 0 ≤ n3 ∧ n3 ≤ 65535 := ⟨HT0.out, HT2.out⟩
          obtain ⟨b10, b11⟩ := b1
          obtain ⟨b20, b21⟩ := b2
          obtain ⟨b30, b31⟩ := b3
          have HN1 := Lib.hid hn1
          have HN2 := Lib.hid hn2
          have HN3 := Lib.hid hn3
          have p0 : pmQ n1 n2 n3 0 = 65535 := rfl
          have p1 : pmQ n1 n2 n3 1 = n1 := rfl
          have p2 : pmQ n1 n2 n3 2 = n2 := rfl
          have p3 : pmQ n1 n2 n3 3 = n3 := rfl
          have hzr := HS.out.sz
          have hw2r : w2.heap.size < wr.heap.size := by omega
          obtain ⟨s0, s1, s2, s3, s4, s5⟩ := HS.out.box
          simp only at s0 s1 s2
          clear hn1 hn2 hn3 c0 c1 c2 c3 hBW ri hcl3 HND hS
          have i0 : ∀ w, (Instr.index 67 (.agg #[.int .i64 xr, .int .i64 xg, .int .i64 xb]) (.int .i64 0)).run Try.prog w = .ok (.int .i64 xr) w := fun _ => by kernel_rfl
          have i1 : ∀ w, (Instr.index 67 (.agg #[.int .i64 xr, .int .i64 xg, .int .i64 xb]) (.int .i64 1)).run Try.prog w = .ok (.int .i64 xg) w := fun _ => by kernel_rfl
          have i2 : ∀ w, (Instr.index 67 (.agg #[.int .i64 xr, .int .i64 xg, .int .i64 xb]) (.int .i64 2)).run Try.prog w = .ok (.int .i64 xb) w := fun _ => by kernel_rfl
          go_wp2_with fail
          refine (HPT.out _ _ _ _).mono ?_
          rintro e w6 ⟨rfl, hb6⟩
          have HS6 := Lib.hid ((HS.out.below ((Below.refl _ _).alloc (Nat.le_refl _) _)).below hb6)
          have HO6 := Lib.hid ((HO.out.alloc _).below hb6)
          have hz6 : wr.heap.size < w6.heap.size := by have := hb6.size; simp at this; omega
          have x1 : w6.cell? ⟨wr.heap.size, 1, none⟩ = some (.int .i64 xr) := (hb6.cell (p := ⟨wr.heap.size, 1, none⟩) (by simp)).trans (by simp [go_sem])
          have x2 : w6.cell? ⟨wr.heap.size, 2, none⟩ = some (.int .i64 xg) := (hb6.cell (p := ⟨wr.heap.size, 2, none⟩) (by simp)).trans (by simp [go_sem])
          have x3 : w6.cell? ⟨wr.heap.size, 3, none⟩ = some (.int .i64 xb) := (hb6.cell (p := ⟨wr.heap.size, 3, none⟩) (by simp)).trans (by simp [go_sem])
          clear hb6 s0 s1 s2 s3 s4 s5 d0 d1 d2 d3
          obtain ⟨s0, s1, s2, s3, s4, s5⟩ := HS6.out.box
          (try (simp only at s0 s1 s2))
          have hw26 : w2.heap.size < w6.heap.size := by omega
          go_wp2_with fail
          go_loopw [15, 52] (fun n j wp => ∃ m : Nat, m ≤ 3 ∧ j = .int .i64 m ∧ n = .int .i64 (pmQ n1 n2 n3 m) ∧ w6 = wp) (fun _ j _ => 3 - (intOf j).toNat)
          case atStart => exact ⟨0, by omega, rfl, rfl, rfl⟩
          case round =>
            obtain ⟨m, hm, rfl, rfl, rfl⟩ := hrel
            have hm4 : m = 0 ∨ m = 1 ∨ m = 2 ∨ m = 3 := by omega
            clear hm
            rcases hm4 with rfl | rfl | rfl | rfl
            · -- component 0
              by_cases hp : 0 < xr
              · have hp1 : ¬ xr = 0 := by omega
                have hq : Int.tdiv ta xr = ta / xr := Int.tdiv_eq_ediv_of_nonneg (by have := HT.out.1; omega)
                have hq0 : 0 ≤ ta / xr := Int.ediv_nonneg (by have := HT.out.1; omega) (by omega)
                have hq1 : ta / xr ≤ ta := Int.ediv_le_self _ (by have := HT.out.1; omega)
                have hq2 : ta / xr ≤ 4294836225 := by have := HT.out.1; omega
                have HM := Lib.hid (show n1 = if ta / xr < 65535 then ta / xr else 65535 by rw [← HN1.out]; exact if_pos hp)
                generalize hqq : ta / xr = q at *
                clear hqq hq1
                by_cases hlt2 : q < 65535
                · have HV := Lib.hid (show n1 = q by rw [HM.out, if_pos hlt2])
                  go_wp2_with fail
                  go_roundw
                  case rel => first | exact ⟨1, by omega, by first | rfl | go_num, congrArg (Value.int .i64) (show _ = n1 from HV.out.symm), by first | rfl | trivial⟩ | ((repeat apply Exists.intro); refine ⟨⟨1, by omega, by first | rfl | go_num, congrArg (Value.int .i64) (show _ = n1 from HV.out.symm), by first | rfl | trivial⟩, ?_⟩; rfl)
                  case measure => simp [intOf]
                · have HV := Lib.hid (show n1 = 65535 by rw [HM.out, if_neg hlt2])
                  have hle2 : 65535 ≤ q := by omega
                  clear hlt2
                  go_wp2_with fail
                  go_roundw
                  case rel => first | exact ⟨1, by omega, by first | rfl | go_num, congrArg (Value.int .i64) (show _ = n1 from HV.out.symm), by first | rfl | trivial⟩ | ((repeat apply Exists.intro); refine ⟨⟨1, by omega, by first | rfl | go_num, congrArg (Value.int .i64) (show _ = n1 from HV.out.symm), by first | rfl | trivial⟩, ?_⟩; rfl)
                  case measure => simp [intOf]
              · have hp1 : xr ≤ 0 := by omega
                have HV := Lib.hid (show n1 = 65535 by rw [← HN1.out]; exact if_neg hp)
                clear hp
                go_wp2_with fail
                go_roundw
                case rel => first | exact ⟨1, by omega, by first | rfl | go_num, congrArg (Value.int .i64) (show _ = n1 from HV.out.symm), by first | rfl | trivial⟩ | ((repeat apply Exists.intro); refine ⟨⟨1, by omega, by first | rfl | go_num, congrArg (Value.int .i64) (show _ = n1 from HV.out.symm), by first | rfl | trivial⟩, ?_⟩; rfl)
                case measure => simp [intOf]
            · -- component 1
              by_cases hp : 0 < xg
              · have hp1 : ¬ xg = 0 := by omega
                have hq : Int.tdiv tb xg = tb / xg := Int.tdiv_eq_ediv_of_nonneg (by have := HT.out.2.1; omega)
                have hq0 : 0 ≤ tb / xg := Int.ediv_nonneg (by have := HT.out.2.1; omega) (by omega)
                have hq1 : tb / xg ≤ tb := Int.ediv_le_self _ (by have := HT.out.2.1; omega)
                have hq2 : tb / xg ≤ 4294836225 := by have := HT.out.2.1; omega
                have HM := Lib.hid (show n2 = if tb / xg < n1 then tb / xg else n1 by rw [← HN2.out]; exact if_pos hp)
                generalize hqq : tb / xg = q at *
                clear hqq hq1
                by_cases hlt2 : q < n1
                · have HV := Lib.hid (show n2 = q by rw [HM.out, if_pos hlt2])
                  go_wp2_with fail
                  go_roundw
                  case rel => first | exact ⟨2, by omega, by first | rfl | go_num, congrArg (Value.int .i64) (show _ = n2 from HV.out.symm), by first | rfl | trivial⟩ | ((repeat apply Exists.intro); refine ⟨⟨2, by omega, by first | rfl | go_num, congrArg (Value.int .i64) (show _ = n2 from HV.out.symm), by first | rfl | trivial⟩, ?_⟩; rfl)
                  case measure => simp [intOf]
                · have HV := Lib.hid (show n2 = n1 by rw [HM.out, if_neg hlt2])
                  have hle2 : n1 ≤ q := by omega
                  clear hlt2
                  go_wp2_with fail
                  go_roundw
                  case rel => first | exact ⟨2, by omega, by first | rfl | go_num, congrArg (Value.int .i64) (show _ = n2 from HV.out.symm), by first | rfl | trivial⟩ | ((repeat apply Exists.intro); refine ⟨⟨2, by omega, by first | rfl | go_num, congrArg (Value.int .i64) (show _ = n2 from HV.out.symm), by first | rfl | trivial⟩, ?_⟩; rfl)
                  case measure => simp [intOf]
              · have hp1 : xg ≤ 0 := by omega
                have HV := Lib.hid (show n2 = n1 by rw [← HN2.out]; exact if_neg hp)
                clear hp
                go_wp2_with fail
                go_roundw
                case rel => first | exact ⟨2, by omega, by first | rfl | go_num, congrArg (Value.int .i64) (show _ = n2 from HV.out.symm), by first | rfl | trivial⟩ | ((repeat apply Exists.intro); refine ⟨⟨2, by omega, by first | rfl | go_num, congrArg (Value.int .i64) (show _ = n2 from HV.out.symm), by first | rfl | trivial⟩, ?_⟩; rfl)
                case measure => simp [intOf]
            · -- component 2
              by_cases hp : 0 < xb
              · have hp1 : ¬ xb = 0 := by omega
                have hq : Int.tdiv tc xb = tc / xb := Int.tdiv_eq_ediv_of_nonneg (by have := HT.out.2.2; omega)
                have hq0 : 0 ≤ tc / xb := Int.ediv_nonneg (by have := HT.out.2.2; omega) (by omega)
                have hq1 : tc / xb ≤ tc := Int.ediv_le_self _ (by have := HT.out.2.2; omega)
                have hq2 : tc / xb ≤ 4294836225 := by have := HT.out.2.2; omega
                have HM := Lib.hid (show n3 = if tc / xb < n2 then tc / xb else n2 by rw [← HN3.out]; exact if_pos hp)
                generalize hqq : tc / xb = q at *
                clear hqq hq1
                by_cases hlt2 : q < n2
                · have HV := Lib.hid (show n3 = q by rw [HM.out, if_pos hlt2])
                  go_wp2_with fail
                  go_roundw
                  case rel => first | exact ⟨3, by omega, by first | rfl | go_num, congrArg (Value.int .i64) (show _ = n3 from HV.out.symm), by first | rfl | trivial⟩ | ((repeat apply Exists.intro); refine ⟨⟨3, by omega, by first | rfl | go_num, congrArg (Value.int .i64) (show _ = n3 from HV.out.symm), by first | rfl | trivial⟩, ?_⟩; rfl)
                  case measure => simp [intOf]
                · have HV := Lib.hid (show n3 = n2 by rw [HM.out, if_neg hlt2])
                  have hle2 : n2 ≤ q := by omega
                  clear hlt2
                  go_wp2_with fail
                  go_roundw
                  case rel => first | exact ⟨3, by omega, by first | rfl | go_num, congrArg (Value.int .i64) (show _ = n3 from HV.out.symm), by first | rfl | trivial⟩ | ((repeat apply Exists.intro); refine ⟨⟨3, by omega, by first | rfl | go_num, congrArg (Value.int .i64) (show _ = n3 from HV.out.symm), by first | rfl | trivial⟩, ?_⟩; rfl)
                  case measure => simp [intOf]
              · have hp1 : xb ≤ 0 := by omega
                have HV := Lib.hid (show n3 = n2 by rw [← HN3.out]; exact if_neg hp)
                clear hp
                go_wp2_with fail
                go_roundw
                case rel => first | exact ⟨3, by omega, by first | rfl | go_num, congrArg (Value.int .i64) (show _ = n3 from HV.out.symm), by first | rfl | trivial⟩ | ((repeat apply Exists.intro); refine ⟨⟨3, by omega, by first | rfl | go_num, congrArg (Value.int .i64) (show _ = n3 from HV.out.symm), by first | rfl | trivial⟩, ?_⟩; rfl)
                case measure => simp [intOf]
            · have f1 := HT1.out
              have xx1 := HXX.out
              (try (simp only at f1))
              have g1 : 0 ≤ xr * n3 ∧ xr * n3 ≤ ta := by rw [Int.mul_comm]; exact ⟨Int.mul_nonneg b30 xx1.1.1, f1.1⟩
              have g2 : 0 ≤ xg * n3 ∧ xg * n3 ≤ tb := by rw [Int.mul_comm]; exact ⟨Int.mul_nonneg b30 xx1.2.1.1, f1.2.1⟩
              have g3 : 0 ≤ xb * n3 ∧ xb * n3 ≤ tc := by rw [Int.mul_comm]; exact ⟨Int.mul_nonneg b30 xx1.2.2.1, f1.2.2⟩
              obtain ⟨⟨v0, v1⟩, ⟨v2, v3⟩, v4, v5⟩ := HT.out
              obtain ⟨g10, g11⟩ := g1
              obtain ⟨g20, g21⟩ := g2
              obtain ⟨g30, g31⟩ := g3
              clear f1 xx1
              go_wp2_with fail
              refine (HPT.out _ _ _ _).mono ?_
              rintro e w7 ⟨rfl, hb7⟩
              have HS7 := Lib.hid (HS6.out.below hb7)
              have HO7 := Lib.hid (HO6.out.below hb7)
              clear hb7 x1 x2 x3 s0 s1 s2 s3 s4 s5
              go_wp2_with fail
              go_loopw [69] (fun j wq => ∃ m : Nat, m ≤ 3 ∧ j = .int .i64 m ∧ DvS w2 (rsQ ta (ta - xr * n3) 0 m) (rsQ tb (tb - xg * n3) 1 m) (rsQ tc (tc - xb * n3) 2 m) wq ∧ OwnI (w2.heap.size + 1) wq (.slice oo (drvL l r g b k).length ocap) (drvL l r g b k)) (fun j _ => 3 - (intOf j).toNat)
              case atStart => exact ⟨0, by omega, rfl, HS7.out, HO7.out⟩
              case round =>
                obtain ⟨m, hm, rfl, hS2, hO2⟩ := hrel
                have HS2 := Lib.hid hS2
                have HO2 := Lib.hid hO2
                have hzq := hS2.sz
                have hw2q : w2.heap.size < wr.heap.size := by omega
                obtain ⟨y0, y1, y2, y3, y4, y5⟩ := hS2.box
                have hm4 : m = 0 ∨ m = 1 ∨ m = 2 ∨ m = 3 := by omega
                clear hm hS2 hO2
                rcases hm4 with rfl | rfl | rfl | rfl
                · simp only [rsQ, Nat.lt_irrefl, if_false, Nat.not_lt_zero] at y0 y1 y2
                  go_wp2_with fail
                  go_roundw
                  case rel =>
                    first
                      | exact ⟨1, by omega, by go_num, HS2.out.set 0 (ta - xr * n3) (by omega), HO2.out.set (by omega)⟩
                      | ((repeat apply Exists.intro); refine ⟨⟨1, by omega, by go_num, HS2.out.set 0 (ta - xr * n3) (by omega), HO2.out.set (by omega)⟩, ?_⟩; rfl)
                  case measure => simp [intOf]
                · simp only [rsQ, Nat.lt_irrefl, if_false, Nat.not_lt_zero] at y0 y1 y2
                  go_wp2_with fail
                  go_roundw
                  case rel =>
                    first
                      | exact ⟨2, by omega, by go_num, HS2.out.set 1 (tb - xg * n3) (by omega), HO2.out.set (by omega)⟩
                      | ((repeat apply Exists.intro); refine ⟨⟨2, by omega, by go_num, HS2.out.set 1 (tb - xg * n3) (by omega), HO2.out.set (by omega)⟩, ?_⟩; rfl)
                  case measure => simp [intOf]
                · simp only [rsQ, Nat.lt_irrefl, if_false, Nat.not_lt_zero] at y0 y1 y2
                  go_wp2_with fail
                  go_roundw
                  case rel =>
                    first
                      | exact ⟨3, by omega, by go_num, HS2.out.set 2 (tc - xb * n3) (by omega), HO2.out.set (by omega)⟩
                      | ((repeat apply Exists.intro); refine ⟨⟨3, by omega, by go_num, HS2.out.set 2 (tc - xb * n3) (by omega), HO2.out.set (by omega)⟩, ?_⟩; rfl)
                  case measure => simp [intOf]
                · clear y0 y1 y2 y3 y4 y5
                  go_wp2_with (at_builtin; refine wpList_int rfl _ _ rfl (w2.heap.size + 1) 1 _ (drvL l r g b k) n3 _ rfl rfl (HO2.out.alloc _) (one_int' _ _ _) (by rw [drvL_len]; omega) (by simp; omega) ?_)
                  intro v' w5 ho5 hg5
                  have hb5 := own_i_grown' (Below.refl _ _) HO2.out hg5 hzq
                  have HS5 := Lib.hid (HS2.out.lift hb5)
                  have HO5 := Lib.hid (show OwnI (w2.heap.size + 1) w5 v' (drvL l r g b (k + 1)) by rw [HNL.out]; exact ho5)
                  obtain ⟨ao5, cap5, rfl⟩ := HO5.out.shape
                  have HD5 := Lib.hid (show DvS w2 (drvR l r g b (k + 1)).1 (drvR l r g b (k + 1)).2.1 (drvR l r g b (k + 1)).2.2 w5 by rw [HNX.out, HDT.out]; simp only [Int.mul_comm n3]; exact HS5.out)
                  clear ho5 hg5 hb5
                  go_wp2_with fail
                  go_roundw
                  case rel =>
                    first
                      | exact ⟨k + 1, by omega, by go_num, HO5.out, HD5.out⟩
                      | ((repeat apply Exists.intro); refine ⟨⟨k + 1, by omega, by go_num, HO5.out, HD5.out⟩, ?_⟩; rfl)
                  case measure => simp [intOf]; omega
        · have hkk : k = l.length := by omega
          subst hkk
          have HBW := Lib.hid (HB2.out.trans (HS.out.bl.mono (by omega)))
          have HI := Lib.hid HO.out.ints
          have HBR := Lib.hid (bx_below HS.out.bl (show w.heap.size + 1 < w2.heap.size from hz2) HBX.out)
          have hzr := HS.out.sz
          clear hS t0 t1 t2 t3 t4 t5 e0 e1 e2
          go_wp2_with fail
          refine (rgiven_any _ _ l (drvL l r g b l.length) wr hl0 (HEM.out wr HBW.out) HI.out HGV.out).mono ?_
          rintro e w5 ⟨rfl, hb5⟩
          have hz5 := hb5.size
          have HB5 := Lib.hid (HBW.out.trans (hb5.mono HBW.out.size))
          obtain ⟨t0, t1, t2, t3, t4, t5⟩ := bx_below hb5 (by omega) HBR.out
          have HO5 := Lib.hid (HO.out.below hb5)
          have z5 : w.heap.size + 1 < w5.heap.size := by omega
          obtain ⟨gA, hgA⟩ : ∃ x, endV (gsum Emi.r l (drvL l r g b l.length) l.length) = x := ⟨_, rfl⟩
          obtain ⟨gB, hgB⟩ : ∃ x, endV (gsum Emi.g l (drvL l r g b l.length) l.length) = x := ⟨_, rfl⟩
          obtain ⟨gC, hgC⟩ : ∃ x, endV (gsum Emi.b l (drvL l r g b l.length) l.length) = x := ⟨_, rfl⟩
          rw [hgA, hgB, hgC]
          have GA := Lib.hid hgA
          have GB := Lib.hid hgB
          have GC := Lib.hid hgC
          clear hb5 hgA hgB hgC
          go_wp2
          refine bodyPost_ret (v := .tuple #[.slice oo (drvL l r g b l.length).length ocap, .agg #[.int .i64 gA, .int .i64 gB, .int .i64 gC], .int .i64 0]) (by simp [results, Try.results23, go_sem, *]) rfl ((HPO.out _ _).2 ?_)
          rw [GA.out, GB.out, GC.out]
          refine ⟨below_set3 HB5.out (by omega), .inr ⟨by first | rfl | trivial, _, rfl, ?_⟩⟩
          exact (((HO5.out.set (by omega)).set (by omega)).set (by omega)).ints
end Go.Proofs.Yteelomjknllcbaa
