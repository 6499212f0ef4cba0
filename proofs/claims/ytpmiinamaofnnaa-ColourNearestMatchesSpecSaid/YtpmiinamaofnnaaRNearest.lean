/- The reference's Nearest. -/
import Derived.Test.YtpmiinamaofnnaaRDist
namespace Go.Proofs.Ytpmiinamaofnnaa
open Go.RowKit
set_option linter.unusedVariables false
set_option linter.unusedSimpArgs false

set_option maxRecDepth 100000 in
set_option maxHeartbeats 16000000 in
theorem rnearest_any (v : Value) (l : List Gel) (r g b n : Int) (w : World) (hv : GelS w.heap.size w v l) (hfit : ∀ x ∈ l, GelFit x) (hn : I64 n) :
    Calls Try.prog 9 #[v, .agg #[.int .i64 r, .int .i64 g, .int .i64 b], .int .i64 n] w (NearP l r g b n w) := by
  have hfit' : ∀ x ∈ l, x.name.size ≤ 9223372036854775807 := fun x hx => by have := (hfit x hx).1; unfold maxLen at this; omega
  have CB := Lib.hid (fun W (hb : Below w.heap.size w W) => rchkBook_any v l W ((hv.below hb).more hb.size) hfit')
  have CC := Lib.hid (rcheck_any r g b)
  have HF := Lib.hid (show nearF l r g b n = if chkBook l = 0 then (if chkC r g b = 0 then whenV (!inB n 0 500) 1 else chkC r g b) else chkBook l from by
    unfold nearF
    by_cases c : chkBook l = 0 <;> by_cases d : chkC r g b = 0 <;> by_cases e : inB n 0 500 = true <;> simp [firstF, whenV, c, d, e])
  have HBK := Lib.hid (show chkBook l = 0 → l.length ≤ 500 from fun h => (chkBook_ok h).1)
  have HPO := Lib.hid (show ∀ e w', NearP l r g b n w e w' ↔ (Below w.heap.size w w' ∧ ∃ v, e = .returned (.tuple #[v, .int .i64 (nearF l r g b n)]) ∧ (nearF l r g b n ≠ 0 → v = .slice none 0 0) ∧ (nearF l r g b n = 0 → GelS w'.heap.size w' v (nearL l r g b n))) from fun e w' => Iff.rfl)
  have HNL := Lib.hid (show nearL l r g b n = (stb (nearKey r g b) l).take n.toNat from rfl)
  generalize nearF l r g b n = E at *
  generalize nearL l r g b n = NL at *
  have HV := Lib.hid hv
  obtain ⟨ao, cap, rfl, hmax, _⟩ := hv.cells
  unfold maxLen at hmax
  generalize chkBook l = ce at *
  generalize chkC r g b = cc at *
  clear hv hfit hfit'
  go_enter Try.func9, Try.ntmps9
  go_wp2_with fail
  refine (CB.out _ ((Below.refl _ _).alloc (Nat.le_refl _) _)).mono ?_
  rintro e w1 ⟨rfl, hb1⟩
  have hz1 : w.heap.size < w1.heap.size := by have := hb1.size; simp at this; omega
  have HB1 := Lib.hid (show Below w.heap.size w w1 from ((Below.refl _ w).alloc (Nat.le_refl _) _).trans (hb1.mono (by simp)))
  have k0 : w1.cell? ⟨w.heap.size, 0, none⟩ = some (.int .i64 r) := (hb1.cell (p := ⟨w.heap.size, 0, none⟩) (by simp)).trans (by simp [go_sem])
  have k1 : w1.cell? ⟨w.heap.size, 1, none⟩ = some (.int .i64 g) := (hb1.cell (p := ⟨w.heap.size, 1, none⟩) (by simp)).trans (by simp [go_sem])
  have k2 : w1.cell? ⟨w.heap.size, 2, none⟩ = some (.int .i64 b) := (hb1.cell (p := ⟨w.heap.size, 2, none⟩) (by simp)).trans (by simp [go_sem])
  clear hb1 CB
  by_cases hc : ce = 0
  rotate_left
  · have hb0 : (ce != 0) = true := by simp [hc]
    have HE := Lib.hid (show E = ce from HF.out.trans (if_neg hc))
    have HNE := Lib.hid hc
    clear hc k0 k1 k2 CC
    go_wp2_with fail
    refine bodyPost_ret (v := .tuple #[.slice none 0 0, .int .i64 ce]) (by simp [results, Try.results9, go_sem, *]) rfl ((HPO.out _ _).2 ⟨HB1.out, _, by rw [HE.out], fun _ => rfl, fun h => absurd (HE.out.symm.trans h) HNE.out⟩)
  subst hc
  have h500 := HBK.out rfl
  have HF2 := Lib.hid (show E = if cc = 0 then whenV (!inB n 0 500) 1 else cc from HF.out.trans (if_pos rfl))
  clear HF
  go_wp2_with fail
  refine (CC.out _).mono ?_
  rintro e w2 ⟨rfl, hb2⟩
  have hz2 : w.heap.size < w2.heap.size := Nat.lt_of_lt_of_le hz1 hb2.size
  have HB2 := Lib.hid (HB1.out.trans (hb2.mono (Nat.le_of_lt hz1)))
  have e0 := Lib.hid ((hb2.cell (p := ⟨w.heap.size, 0, none⟩) hz1).trans k0)
  have e1 := Lib.hid ((hb2.cell (p := ⟨w.heap.size, 1, none⟩) hz1).trans k1)
  have e2 := Lib.hid ((hb2.cell (p := ⟨w.heap.size, 2, none⟩) hz1).trans k2)
  clear hb2 k0 k1 k2 hz1 CC HB1
  by_cases hd : cc = 0
  rotate_left
  · have hb0 : (cc != 0) = true := by simp [hd]
    have HE := Lib.hid (show E = cc from HF2.out.trans (if_neg hd))
    have HNE := Lib.hid hd
    clear hd
    go_wp2_with fail
    refine bodyPost_ret (v := .tuple #[.slice none 0 0, .int .i64 cc]) (by simp [results, Try.results9, go_sem, *]) rfl ((HPO.out _ _).2 ⟨HB2.out, _, by rw [HE.out], fun _ => rfl, fun h => absurd (HE.out.symm.trans h) HNE.out⟩)
  subst hd
  by_cases hr : 0 ≤ n ∧ n ≤ 500
  rotate_left
  · have HE := Lib.hid (show E = 1 from HF2.out.trans ((if_pos rfl).trans (by rw [show inB n 0 500 = false from decide_eq_false hr]; rfl)))
    have CW := Lib.hid (r1within_no n 0 500 w2 (by omega))
    clear hr
    go_wp2_with (go_at_call 27; refine CW.out.mono ?_; rintro e w' ⟨rfl, rfl⟩)
    refine bodyPost_ret (v := .tuple #[.slice none 0 0, .int .i64 1]) (by simp [results, Try.results9, go_sem, *]) rfl ((HPO.out _ _).2 ⟨HB2.out, _, by rw [HE.out], fun _ => rfl, fun h => absurd (HE.out.symm.trans h) (by decide)⟩)
  have HE := Lib.hid (show E = 0 from HF2.out.trans ((if_pos rfl).trans (by rw [show inB n 0 500 = true from decide_eq_true hr]; rfl)))
  have CW := Lib.hid (r1within_yes n 0 500 w2 hr)
  obtain ⟨hn0, hn5⟩ := hr
  have HKEY := Lib.hid (show ∀ x : Gel, distW x.r x.g x.b r g b = nearKey r g b x from fun x => rfl)
  generalize hkk : nearKey r g b = key at *
  have HKK := Lib.hid hkk
  clear hkk
  go_wp2_with (go_at_call 27; refine CW.out.mono ?_; rintro e w' ⟨rfl, rfl⟩)
  have HKB := Lib.hid (show ∀ W, Below w2.heap.size w2 W → w.heap.size < W.heap.size ∧ W.cell? ⟨w.heap.size, 0, none⟩ = some (.int .i64 r) ∧ W.cell? ⟨w.heap.size, 1, none⟩ = some (.int .i64 g) ∧ W.cell? ⟨w.heap.size, 2, none⟩ = some (.int .i64 b) from fun W hW => ⟨Nat.lt_of_lt_of_le hz2 hW.size, (hW.cell (p := ⟨w.heap.size, 0, none⟩) hz2).trans e0.out, (hW.cell (p := ⟨w.heap.size, 1, none⟩) hz2).trans e1.out, (hW.cell (p := ⟨w.heap.size, 2, none⟩) hz2).trans e2.out⟩)
  go_loopw [10, 29] (fun vo i wr => ∃ k : Nat, k ≤ l.length ∧ i = .int .i64 k ∧ Hid (OwnG w2.heap.size wr vo (stb key (l.take k))) ∧ Hid (Below w2.heap.size w2 wr)) (fun _ i _ => l.length - (intOf i).toNat)
  case atStart => exact ⟨0, Nat.zero_le _, rfl, Lib.hid (OwnG.nil _ _), Lib.hid (Below.refl _ _)⟩
  case round =>
    obtain ⟨k, hk, rfl, HO, HB⟩ := hrel
    by_cases hlt : k < l.length
    rotate_left
    · obtain rfl : k = l.length := by omega
      have hs : (stb key l).length = l.length := stb_len l
      have HO' := HO.out
      rw [List.take_length] at HO'
      obtain ⟨bo, co, rfl⟩ := HO'.shape
      have hcp : (stb key l).length ≤ co ∧ co ≤ maxLen := by
        rcases HO'.2 with ⟨h0, h1⟩ | ⟨g0, cap', cur, e1, _, _, h1, h2, _⟩
        · simp only [Value.slice.injEq] at h0
          exact ⟨by omega, by rw [h0.2.2]; unfold maxLen; omega⟩
        · simp only [Value.slice.injEq] at e1
          rw [e1.2.2]
          exact ⟨h1, h2⟩
      obtain ⟨hcp1, hcp2⟩ := hcp
      unfold maxLen at hcp2
      have HEN := Lib.hid (show ∀ m, m ≤ l.length → GelS wr.heap.size wr (.slice bo m m) ((stb key l).take m) ∧ GelS wr.heap.size wr (.slice bo m co) ((stb key l).take m) from fun m hm => by
        obtain ⟨ao', cap', e, h1, h2⟩ := HO'.gelS
        simp only [Value.slice.injEq, true_and] at e
        obtain ⟨rfl, rfl⟩ := e
        have hl : ((stb key l).take m).length = m := by rw [List.length_take]; omega
        have hh : ((stb key l).take m) ≠ [] → ∃ b off, bo = some ⟨b, off, none⟩ ∧ b < wr.heap.size ∧ ∀ i (h : i < ((stb key l).take m).length), GelC wr b (off + i * 5) ((stb key l).take m)[i] := fun hne => by
          obtain ⟨b, off, e, hb, hh⟩ := h2 (by intro e; rw [e] at hne; simp at hne)
          refine ⟨b, off, e, hb, fun i hi => ?_⟩
          rw [List.getElem_take]
          exact hh i (by omega)
        exact ⟨⟨bo, m, by rw [hl], ⟨by omega, by unfold maxLen; omega⟩, hh⟩, ⟨bo, co, by rw [hl], ⟨by omega, by unfold maxLen; omega⟩, hh⟩⟩)
      have HBW := Lib.hid (HB2.out.trans (HB.out.mono (Nat.le_of_lt hz2)))
      obtain ⟨n', rfl⟩ : ∃ n' : Nat, n = n' := ⟨n.toNat, by omega⟩
      have HT := Lib.hid (show ∀ m, (n' ≤ l.length ∧ m = n') ∨ (l.length < n' ∧ m = l.length) → (stb key l).take (n' : Int).toNat = (stb key l).take m from fun m hm => by
        rw [Int.toNat_natCast]
        rcases hm with ⟨_, rfl⟩ | ⟨h, rfl⟩
        · rfl
        · rw [List.take_of_length_le (by omega), List.take_of_length_le (by omega)])
      rw [hs] at *
      clear HO HO' hs
      by_cases hnl : n' ≤ l.length
      · have mm1 : min (n' : Int) l.length = n' := by omega
        have mm2 : (n' : Int) ≤ (l.length : Int) := by omega
        have mm3 : ¬ ((l.length : Int) < n') := by omega
        have hnc : n' ≤ co := by omega
        have HM := Lib.hid (HT.out n' (.inl ⟨hnl, rfl⟩))
        have HGS := Lib.hid (HEN.out n' hnl).2
        clear HT HEN
        go_wp2_with fail
        refine bodyPost_ret (v := .tuple #[.slice bo n' co, .int .i64 0]) (by simp [results, Try.results9, go_sem, *]) rfl ((HPO.out _ _).2 ⟨HBW.out, _, by rw [HE.out], fun h => absurd HE.out h, fun _ => by rw [HNL.out, HM.out]; exact HGS.out⟩)
      · have mm1 : min (n' : Int) l.length = l.length := by omega
        have mm2 : ¬ ((n' : Int) ≤ (l.length : Int)) := by omega
        have mm3 : ((l.length : Int) < n') := by omega
        have mm4 : ¬ ((n' : Int) < (l.length : Int)) := by omega
        have HM := Lib.hid (HT.out l.length (.inr ⟨by omega, rfl⟩))
        have HGS := Lib.hid (HEN.out l.length (Nat.le_refl _)).2
        clear HT HEN
        go_wp2_with fail
        refine bodyPost_ret (v := .tuple #[.slice bo l.length co, .int .i64 0]) (by simp [results, Try.results9, go_sem, *]) rfl ((HPO.out _ _).2 ⟨HBW.out, _, by rw [HE.out], fun h => absurd HE.out h, fun _ => by rw [HNL.out, HM.out]; exact HGS.out⟩)
    have hHL := HV.out.below (HB2.out.trans (HB.out.mono (Nat.le_of_lt hz2)))
    obtain ⟨ao', cap', e, _, hc⟩ := hHL
    injection e with e1 e2 e3
    subst e1
    subst e3
    obtain ⟨bl, off, e, hbb, hcl⟩ := hc (by intro e; subst e; simp at hlt)
    subst e
    obtain ⟨c0, c1, c2, c3, c4⟩ := hcl k hlt
    have hbr : bl < wr.heap.size := Nat.lt_of_lt_of_le hbb (HB2.out.trans (HB.out.mono (Nat.le_of_lt hz2))).size
    have HST := Lib.hid (stb_more key l k hlt)
    have HSL := Lib.hid (show (stb key (l.take k)).length = k by rw [stb_len, List.length_take]; omega)
    have hsl : (stb key (l.take k)).length ≤ 500 := by have := HSL.out; omega
    have HSO := Lib.hid ((stb_ok (f := key) (l.take k)).1)
    generalize stb key (l.take k) = s at *
    generalize l[k] = y at *
    obtain ⟨bo, co, rfl⟩ := HO.out.shape
    obtain ⟨y1, y2, y3, y4, y5⟩ := y
    dsimp only at c0 c1 c2 c3 c4
    have HW4 := Lib.hid (show OwnG w2.heap.size (wr.alloc (.cells #[.int .i64 y1, .string y2, .int .i64 y3, .int .i64 y4, .int .i64 y5] 29)) (.slice bo s.length co) s from HO.out.below ((Below.refl _ _).alloc (Nat.le_refl _) _))
    have hHB := HB.out.size
    go_wp2_with fail
    obtain ⟨wo, rfl⟩ : ∃ z, z = wr := ⟨wr, rfl⟩
    go_loopw [13] (fun i W => ∃ p : Nat, p ≤ s.length ∧ i = .int .i64 p ∧ Hid (∀ j (h : j < s.length), p ≤ j → key ⟨y1, y2, y3, y4, y5⟩ < key s[j]) ∧ Hid (OwnG w2.heap.size W (.slice bo s.length co) s) ∧ Hid (Below (wo.heap.size + 1) (wo.alloc (.cells #[.int .i64 y1, .string y2, .int .i64 y3, .int .i64 y4, .int .i64 y5] 29)) W)) (fun i _ => (intOf i).toNat)
    case atStart => exact ⟨s.length, Nat.le_refl _, rfl, Lib.hid (fun j h h2 => by omega), HW4, Lib.hid (Below.refl _ _)⟩
    case round =>
      obtain ⟨p, hp0, rfl, HPJ, HOJ, HBJ⟩ := hrel
      obtain ⟨bk, hbk⟩ : ∃ bk : Bool, (bk = true ↔ ∃ h : 0 < p, key ⟨y1, y2, y3, y4, y5⟩ < key (s[p - 1]'(by omega))) := ⟨decide (∃ h : 0 < p, key ⟨y1, y2, y3, y4, y5⟩ < key (s[p - 1]'(by omega))), by simp⟩
      have HBK := Lib.hid hbk
      clear hbk
      have dz := HBJ.out.size
      have dzz : wo.heap.size < wr.heap.size := by simp at dz; omega
      clear dz
      go_upto_region 14 with fail
      go_cut [51] (fun s wx => s = .bool bk ∧ Hid (Below wr.heap.size wr wx))
      case first =>
        match p, hp0, HBK with
        | 0, hp0, HBK =>
          have hb : bk = false := by
            cases bk with
            | false => rfl
            | true => obtain ⟨h, _⟩ := HBK.out.1 rfl; omega
          subst hb
          clear HBK HPJ
          go_region
          all_goals go_wp2_with fail
          all_goals go_meet
          all_goals exact ⟨rfl, Lib.hid (by first | exact Below.refl _ _ | exact (Below.refl _ _).drew)⟩
        | u + 1, hp0, HBK =>
          have hu : u < s.length := by omega
          have hbk2 : bk = true ↔ key ⟨y1, y2, y3, y4, y5⟩ < key s[u] := by
            rw [HBK.out]
            exact ⟨fun ⟨_, h⟩ => h, fun h => ⟨by omega, h⟩⟩
          have hpp : (0 : Int) < ((u + 1 : Nat) : Int) := by omega
          have hcu : (((u + 1 : Nat) : Int) - 1) = (u : Int) := by omega
          have hwu : IntKind.i64.wrap (((u + 1 : Nat) : Int) - 1) = (u : Int) := by rw [hcu]; exact IntWalk.i64_in _ (by omega)
          have huz : (u : Int) < s.length := by omega
          generalize ((u + 1 : Nat) : Int) = pi at *
          have HELT : ∃ gb, bo = some ⟨gb, 0, none⟩ ∧ w2.heap.size ≤ gb ∧ RowF wr gb s.length (fun i => s[i]?.getD default) := by
            rcases HOJ.out.2 with ⟨h0, h1⟩ | ⟨g0, cap', cur, e1, hbg, hg, _⟩
            · omega
            · simp only [Value.slice.injEq] at e1
              obtain ⟨rfl, _, rfl⟩ := e1
              exact ⟨g0, rfl, hbg, (rowF_own HOJ.out).1⟩
          obtain ⟨gb, rfl, hgb, hRF⟩ := HELT
          have hgl := hRF.lt
          have hEl := hRF.elem hu
          simp only [List.getElem?_eq_getElem hu, Option.getD_some] at hEl
          have q2 := hEl.c2
          have q3 := hEl.c3
          have q4 := hEl.c4
          have CD1 := Lib.hid (rdistance_w s[u].r s[u].g s[u].b r g b)
          rw [HKEY.out s[u]] at CD1
          generalize hsu : s[u] = x at *
          clear hEl hRF hsu
          obtain ⟨x1, x2, x3, x4, x5⟩ := x
          dsimp only at q2 q3 q4 CD1
          have CD2 := Lib.hid (rdistance_w y3 y4 y5 r g b)
          rw [HKEY.out ⟨y1, y2, y3, y4, y5⟩] at CD2
          generalize key ⟨y1, y2, y3, y4, y5⟩ = ky at *
          generalize key ⟨x1, x2, x3, x4, x5⟩ = kx at *
          have d2 : wr.cell? ⟨wo.heap.size, 2, none⟩ = some (.int .i64 y3) := (HBJ.out.cell (p := ⟨wo.heap.size, 2, none⟩) (by simp)).trans (by simp [go_sem])
          have d3 : wr.cell? ⟨wo.heap.size, 3, none⟩ = some (.int .i64 y4) := (HBJ.out.cell (p := ⟨wo.heap.size, 3, none⟩) (by simp)).trans (by simp [go_sem])
          have d4 : wr.cell? ⟨wo.heap.size, 4, none⟩ = some (.int .i64 y5) := (HBJ.out.cell (p := ⟨wo.heap.size, 4, none⟩) (by simp)).trans (by simp [go_sem])
          obtain ⟨hwl, k0, k1, k2⟩ := HKB.out wr (HB.out.alloc HB.out.size (.cells #[.int .i64 y1, .string y2, .int .i64 y3, .int .i64 y4, .int .i64 y5] 29) |>.trans (HBJ.out.mono (by omega)))
          have KP := Lib.hid (show ∀ W', Below wr.heap.size wr W' → W'.cell? ⟨gb, u * 5 + 2, none⟩ = some (.int .i64 x3) ∧ W'.cell? ⟨gb, u * 5 + 3, none⟩ = some (.int .i64 x4) ∧ W'.cell? ⟨gb, u * 5 + 4, none⟩ = some (.int .i64 x5) ∧ W'.cell? ⟨wo.heap.size, 2, none⟩ = some (.int .i64 y3) ∧ W'.cell? ⟨wo.heap.size, 3, none⟩ = some (.int .i64 y4) ∧ W'.cell? ⟨wo.heap.size, 4, none⟩ = some (.int .i64 y5) ∧ W'.cell? ⟨w.heap.size, 0, none⟩ = some (.int .i64 r) ∧ W'.cell? ⟨w.heap.size, 1, none⟩ = some (.int .i64 g) ∧ W'.cell? ⟨w.heap.size, 2, none⟩ = some (.int .i64 b) from fun W' hb => ⟨(hb.cell (p := ⟨gb, u * 5 + 2, none⟩) hgl).trans q2, (hb.cell (p := ⟨gb, u * 5 + 3, none⟩) hgl).trans q3, (hb.cell (p := ⟨gb, u * 5 + 4, none⟩) hgl).trans q4, (hb.cell (p := ⟨wo.heap.size, 2, none⟩) dzz).trans d2, (hb.cell (p := ⟨wo.heap.size, 3, none⟩) dzz).trans d3, (hb.cell (p := ⟨wo.heap.size, 4, none⟩) dzz).trans d4, (hb.cell (p := ⟨w.heap.size, 0, none⟩) hwl).trans k0, (hb.cell (p := ⟨w.heap.size, 1, none⟩) hwl).trans k1, (hb.cell (p := ⟨w.heap.size, 2, none⟩) hwl).trans k2⟩)
          have KR := Lib.hid (Below.refl wr.heap.size wr)
          have KD := Lib.hid (show Below wr.heap.size wr wr.drew from (Below.refl _ _).drew)
          have CD1 := Lib.hid (fun W (hb : Below wr.heap.size wr W) => (CD1.out W).mono fun e w' h => (⟨h.1, hb.trans (h.2.mono hb.size)⟩ : _ ∧ Below wr.heap.size wr w'))
          have CD2 := Lib.hid (fun W (hb : Below wr.heap.size wr W) => (CD2.out W).mono fun e w' h => (⟨h.1, hb.trans (h.2.mono hb.size)⟩ : _ ∧ Below wr.heap.size wr w'))
          have hbq : bk = decide (ky < kx) := by cases bk <;> simp_all
          clear hbk2 HBK HPJ q2 q3 q4 d2 d3 d4 k0 k1 k2 hcu
          clear HO HOJ HB HBJ HW4 HKB HKEY HST HSO HSL HV HE HPO HNL HF2 CW hgb hHB hwl hgl dzz e0 e1 e2
          go_region_held3 (fun W' => W'.cell? ⟨gb, u * 5 + 2, none⟩ = some (.int .i64 x3) ∧ W'.cell? ⟨gb, u * 5 + 3, none⟩ = some (.int .i64 x4) ∧ W'.cell? ⟨gb, u * 5 + 4, none⟩ = some (.int .i64 x5) ∧ W'.cell? ⟨wo.heap.size, 2, none⟩ = some (.int .i64 y3) ∧ W'.cell? ⟨wo.heap.size, 3, none⟩ = some (.int .i64 y4) ∧ W'.cell? ⟨wo.heap.size, 4, none⟩ = some (.int .i64 y5) ∧ W'.cell? ⟨w.heap.size, 0, none⟩ = some (.int .i64 r) ∧ W'.cell? ⟨w.heap.size, 1, none⟩ = some (.int .i64 g) ∧ W'.cell? ⟨w.heap.size, 2, none⟩ = some (.int .i64 b))
            (exact KP.out _ (by repeat' first | (with_reducible assumption) | (with_reducible exact KD.out) | (with_reducible exact KR.out) | (with_reducible refine Below.drew ?_)))
            (first
              | ((with_reducible refine (CD1.out _ (by first | (with_reducible assumption) | (with_reducible exact KD.out) | (with_reducible exact KR.out))).mono ?_); rintro e wz ⟨rfl, hwz⟩)
              | ((with_reducible refine (CD2.out _ (by first | (with_reducible assumption) | (with_reducible exact KD.out) | (with_reducible exact KR.out))).mono ?_); rintro e wz ⟨rfl, hwz⟩)
              | fail)
          all_goals go_wp2_with fail
          all_goals go_meet
          all_goals exact ⟨by rw [hbq] <;> first | rfl | simp, Lib.hid (by assumption)⟩
      case rest =>
      obtain ⟨rfl, HBC⟩ := hcut
      obtain ⟨wq, rfl⟩ : ∃ z, z = wc := ⟨wc, rfl⟩
      have HBQ := Lib.hid (HBJ.out.trans (HBC.out.mono (by omega)))
      have HOQ := Lib.hid (HOJ.out.below HBC.out)
      clear HBC HBJ HOJ
      cases bk
      · have HPE := Lib.hid (show ∀ j (h : j < s.length), j < p → key s[j] ≤ key ⟨y1, y2, y3, y4, y5⟩ from fun j h hj => by
          have h1 : ¬ key ⟨y1, y2, y3, y4, y5⟩ < key (s[p - 1]'(by omega)) := fun k => by have := HBK.out.2 ⟨by omega, k⟩; cases this
          have h2 := srt_get HSO.out (i := j) (j := p - 1) (by omega) (by omega)
          omega)
        have hp : p ≤ s.length := hp0
        have dz := (HBQ.out).size
        have dzz : wo.heap.size < wq.heap.size := by simp at dz; omega
        have d0 : wq.cell? ⟨wo.heap.size, 0, none⟩ = some (.int .i64 y1) := (HBQ.out.cell (p := ⟨wo.heap.size, 0, none⟩) (by simp)).trans (by simp [go_sem])
        have d1 : wq.cell? ⟨wo.heap.size, 1, none⟩ = some (.string y2) := (HBQ.out.cell (p := ⟨wo.heap.size, 1, none⟩) (by simp)).trans (by simp [go_sem])
        have d2 : wq.cell? ⟨wo.heap.size, 2, none⟩ = some (.int .i64 y3) := (HBQ.out.cell (p := ⟨wo.heap.size, 2, none⟩) (by simp)).trans (by simp [go_sem])
        have d3 : wq.cell? ⟨wo.heap.size, 3, none⟩ = some (.int .i64 y4) := (HBQ.out.cell (p := ⟨wo.heap.size, 3, none⟩) (by simp)).trans (by simp [go_sem])
        have d4 : wq.cell? ⟨wo.heap.size, 4, none⟩ = some (.int .i64 y5) := (HBQ.out.cell (p := ⟨wo.heap.size, 4, none⟩) (by simp)).trans (by simp [go_sem])
        have hw2W : w2.heap.size ≤ wq.heap.size := by have := HB.out.size; omega
        have CI := Lib.hid (gels_insert w2.heap.size wq.heap.size p (.slice bo s.length co) s ⟨y1, y2, y3, y4, y5⟩ #[.int .i64 y1, .string y2, .int .i64 y3, .int .i64 y4, .int .i64 y5] 29 (wq.alloc (.cells #[.int .i64 y1, .string y2, .int .i64 y3, .int .i64 y4, .int .i64 y5] 29)) (HOQ.out.below ((Below.refl _ _).alloc (Nat.le_refl _) _)) (by simp; omega) hp (by omega) (heap_alloc_new wq _) rfl (fun e => by have := (World.ownsRow.lt HOQ.out _ e).2; omega))
        have HIS := Lib.hid (show insS key ⟨y1, y2, y3, y4, y5⟩ s = insG s p ⟨y1, y2, y3, y4, y5⟩ from insS_ins key ⟨y1, y2, y3, y4, y5⟩ s p hp HPE.out HPJ.out)
        have HB5 := Lib.hid (show Below w2.heap.size w2 (wq.alloc (.cells #[.int .i64 y1, .string y2, .int .i64 y3, .int .i64 y4, .int .i64 y5] 29)) from (HB.out.alloc HB.out.size (.cells #[.int .i64 y1, .string y2, .int .i64 y3, .int .i64 y4, .int .i64 y5] 29) |>.trans (HBQ.out.mono (by have := HB.out.size; omega))).alloc hw2W _)
        have HO5 := Lib.hid (show OwnG w2.heap.size (wq.alloc (.cells #[.int .i64 y1, .string y2, .int .i64 y3, .int .i64 y4, .int .i64 y5] 29)) (.slice bo s.length co) s from HOQ.out.below ((Below.refl _ _).alloc (Nat.le_refl _) _))
        clear dz
        go_wp2_with fail
        refine CI.out.mono ?_
        rintro e w6 ⟨v6, rfl, hO6, hG6⟩
        have HB6 := Lib.hid (HO5.out.keeps HB5.out hG6 (Nat.le_refl _) (by simp; omega))
        have HO6 := Lib.hid (show OwnG w2.heap.size w6 v6 (stb key (l.take (k + 1))) by rw [HST.out, HIS.out]; exact hO6)
        obtain ⟨b6, c6, rfl⟩ := hO6.shape
        clear hO6 hG6 CI HB5 HO5 d0 d1 d2 d3 d4
        go_wp2_with fail
        go_roundw
        case rel => first | exact ⟨k + 1, by omega, by go_num, HO6, HB6⟩ | ((repeat apply Exists.intro); refine ⟨⟨k + 1, by omega, by go_num, HO6, HB6⟩, ?_⟩; rfl)
        case measure => first | (simp [intOf]; done) | (simp [intOf]; omega)
      · obtain ⟨hp1, hlt2⟩ := HBK.out.1 rfl
        obtain ⟨u, rfl⟩ : ∃ u, p = u + 1 := ⟨p - 1, by omega⟩
        have HPN := Lib.hid (show ∀ j (h : j < s.length), u ≤ j → key ⟨y1, y2, y3, y4, y5⟩ < key s[j] from fun j h hj => by
          rcases Nat.eq_or_lt_of_le hj with rfl | hj
          · exact hlt2
          · exact HPJ.out j h hj)
        clear hlt2 HBK
        go_wp2_with fail
        go_roundw
        case rel => exact ⟨u, by omega, by go_num, HPN, HOQ, HBQ⟩
        case measure => first | (simp [intOf]; done) | (simp [intOf]; omega)
end Go.Proofs.Ytpmiinamaofnnaa
