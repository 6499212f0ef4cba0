/- colour.ReadBook at any text. (printed by wip/gen/gen_bkread.py) -/
import Derived.Test.YtljgpiaihahneaaGreatDoorT65M28
import Derived.Test.YtljgpiaihahneaaGreatDoorT65M20
import Derived.Test.YtljgpiaihahneaaGreatDoorT65M29
import Derived.StillTailTactics
import Derived.Deep.RegionLaw

namespace Go.Proofs.YtljgpiaihahneaaGreatDoor
open Go.RowKit
set_option linter.unusedVariables false
set_option linter.unusedSimpArgs false

theorem cr_shape (s : ByteArray) : ∃ x y z : Int, colRd s = .agg #[.int .i64 x, .int .i64 y, .int .i64 z] := by
  unfold colRd
  split
  · exact ⟨_, _, _, rfl⟩
  · exact ⟨_, _, _, rfl⟩
theorem cr_yes {s : ByteArray} (h : ColOk s) : colRd s = .agg #[.int .i64 (colP (hsT s) 0), .int .i64 (colP (hsT s) 1), .int .i64 (colP (hsT s) 2)] ∧ colRf s = 0 := ⟨if_pos h, if_pos h⟩
theorem cr_no {s : ByteArray} (h : ¬ ColOk s) : colRd s = .agg #[.int .i64 0, .int .i64 0, .int .i64 0] ∧ colRf s = 9 := ⟨if_neg h, if_neg h⟩

set_option maxRecDepth 100000 in
set_option maxHeartbeats 16000000 in
theorem readBook_any (s : ByteArray) (w : World) (hT : TextW w) (hn : s.size ≤ 9223372036854775807) :
    Calls Tryz.prog 8 #[.string s] w (RbPost w s) := by
  have HPO0 := Lib.hid (show ∀ e w', (∃ v, e = .returned (.tuple #[v, .int .i64 (rbN s), .int .i64 (rbF s)]) ∧ GelS w'.heap.size w' v (rbL s) ∧ Below w.heap.size w w') → RbPost w s e w' from fun e w' h => h)
  by_cases hl : 60000 < s.size
  · obtain ⟨h1, h2, h3⟩ := rb_large hl
    have HPO := Lib.hid (HPO0.out (.returned (.tuple #[.slice none 0 0, .int .i64 0, .int .i64 2])) w ⟨.slice none 0 0, by rw [h1, h2], by rw [h3]; exact GelS.nil _ _, Below.refl _ _⟩)
    have hl2 : (60000 : Int) < (s.size : Int) := by omega
    clear h1 h2 h3 hT HPO0 hl
    generalize RbPost w s = PO at *
    go_enter Tryz.func8, Tryz.ntmps8
    go_wp2_with fail
    go_ret3
    exact HPO.out
  have hl2 : ¬ (60000 : Int) < (s.size : Int) := by omega
  have CL := Lib.hid (lines_any s w hT (by omega))
  have HBADX := Lib.hid (fun k (hk : k < (linesL s).length) h1 h2 => rb_bad hl hk h1 h2)
  have HGOOD := Lib.hid (fun h1 => rb_good hl h1)
  have HLL := Lib.hid (linesL_le s)
  have HLS := Lib.hid (fun k (hk : k < (linesL s).length) => linesL_size s _ (List.getElem_mem hk))
  have HT := Lib.hid hT
  have hll : (linesL s).length ≤ 60001 := by have := linesL_le s; omega
  have hls : ∀ k (hk : k < (linesL s).length), (linesL s)[k].size ≤ 60000 := fun k hk => by have := HLS.out k hk; omega
  unfold LinesPost at CL
  generalize rbN s = RN at *
  generalize rbF s = RF at *
  generalize rbL s = RL at *
  generalize RbPost w s = PO at *
  generalize linesL s = L at *
  generalize linesW s = wh at *
  clear hT hl HLL HLS
  go_enter Tryz.func8, Tryz.ntmps8
  go_wp2_with fail
  refine CL.out.mono ?_
  rintro e w1 ⟨ao, cap, rfl, hrow, hb⟩
  have HB1 := Lib.hid hb
  have hw1 := hb.size
  have HT1 := Lib.hid (HT.out.below hb)
  have HROW := Lib.hid hrow
  clear hb hrow CL
  go_wp2_with fail
  go_loopw [7, 26] (fun ov i wr => ∃ k : Nat, k ≤ L.length ∧ i = .int .i64 k ∧ Hid (∀ j, j < k → ¬ Bad wh L j) ∧ Hid (OwnG w1.heap.size wr ov ((L.take k).map gelV)) ∧ Hid (Below w1.heap.size w1 wr)) (fun _ i _ => L.length - (intOf i).toNat)
  case atStart => exact ⟨0, Nat.zero_le _, rfl, Lib.hid (fun j hj => absurd hj (Nat.not_lt_zero j)), Lib.hid (OwnG.nil _ _), Lib.hid (Below.refl _ _)⟩
  case round =>
    obtain ⟨k, hk, rfl, HOK, HOW, HBW⟩ := hrel
    have hzw := HBW.out.size
    have HB := Lib.hid (HB1.out.trans (HBW.out.mono hw1))
    by_cases hlt : k < L.length
    · obtain ⟨hao, hg, hrw⟩ := HROW.out (by intro e; subst e; simp at hlt)
      subst hao
      have hck := hrw k hlt
      rw [Nat.zero_add] at hck
      have d0 : wr.cell? ⟨w.heap.size, k, none⟩ = some (.string L[k]) := (HBW.out.cell (p := ⟨w.heap.size, k, none⟩) hg).trans hck
      have hgr : w.heap.size < wr.heap.size := by omega
      have hxs := hls k hlt
      have HTW := Lib.hid (HT.out.below HB.out)
      have CS := Lib.hid (split3_any L[k] wr HTW.out (by omega))
      have HS3 := Lib.hid (sp3_size L[k])
      unfold Split3Post at CS
      have HPO := Lib.hid (fun e w' h => HPO0.out e w' h)
      have HBAD := Lib.hid (show (∀ h : LineOk L[k] ∧ (wh = true ∨ k + 1 ≠ L.length), True) ∧ (¬ LineOk L[k] ∨ (wh = false ∧ k + 1 = L.length) → RN = (k : Int) + 1 ∧ RF = 9 ∧ RL = []) from ⟨fun _ => trivial, fun h => HBADX.out k hlt HOK.out (by
        rcases h with h | h
        · exact .inl ⟨hlt, h⟩
        · exact .inr h)⟩)
      have HNX := Lib.hid (fun (h : LineOk L[k]) (h2 : ¬ (wh = false ∧ k + 1 = L.length)) => show ∀ j, j < k + 1 → ¬ Bad wh L j from fun j hj => by
        by_cases e : j = k
        · subst e
          rintro (⟨_, h3⟩ | h3)
          · exact h3 h
          · exact h2 h3
        · exact HOK.out j (by omega))
      have HMT := Lib.hid (map_take gelV L k hlt)
      have hn1 : ((List.take k L).map gelV).length ≤ 10000000 := by rw [List.length_map, List.length_take]; omega
      clear hck hrw
      by_cases a1 : 0 ≤ cutI L[k] 32
      rotate_left
      · have HG := Lib.hid (HBAD.out.2 (.inl fun h => a1 h.c1))
        have hsp := sp3_none a1
        rw [hsp] at CS
        clear HBAD HNX a1 HS3 hsp
        go_wp2_with fail
        refine CS.out.mono ?_
        rintro e w2 ⟨cp, rfl, hr, hb, _⟩
        have HX := Lib.hid (HB.out.trans (hb.mono HB.out.size))
        clear hr hb CS
        go_wp2_with fail
        go_ret3
        exact HPO.out _ _ ⟨.slice none 0 0, by rw [HG.out.1, HG.out.2.1]; rfl, by rw [HG.out.2.2]; exact GelS.nil _ _, HX.out⟩
      by_cases a2 : 0 ≤ cutI (cutB L[k] 32) 32
      rotate_left
      · have HG := Lib.hid (HBAD.out.2 (.inl fun h => a2 h.c2))
        have hsp := sp3_one a1 a2
        rw [hsp] at CS
        clear HBAD HNX a1 a2 HS3 hsp
        go_wp2_with fail
        refine CS.out.mono ?_
        rintro e w2 ⟨cp, rfl, hr, hb, _⟩
        have HX := Lib.hid (HB.out.trans (hb.mono HB.out.size))
        clear hr hb CS
        go_wp2_with fail
        go_ret3
        exact HPO.out _ _ ⟨.slice none 0 0, by rw [HG.out.1, HG.out.2.1]; rfl, by rw [HG.out.2.2]; exact GelS.nil _ _, HX.out⟩
      have hsp := sp3_two a1 a2
      rw [hsp] at CS HS3
      have HVG := Lib.hid (show gelV L[k] = ⟨valS (cutA L[k] 32), cutB (cutB L[k] 32) 32, colP (hsT (cutA (cutB L[k] 32) 32)) 0, colP (hsT (cutA (cutB L[k] 32) 32)) 1, colP (hsT (cutA (cutB L[k] 32) 32)) 2⟩ from rfl)
      have HLK := Lib.hid (show LineOk L[k] ↔ 0 < (cutB (cutB L[k] 32) 32).size ∧ NumS (cutA L[k] 32) 9 ∧ ColOk (cutA (cutB L[k] 32) 32) from ⟨fun h => ⟨h.pos, h.num, h.col⟩, fun h => ⟨a1, a2, h.1, h.2.1, h.2.2⟩⟩)
      have z0 : (cutA L[k] 32).size ≤ 60000 := by have := HS3.out (cutA L[k] 32) (by simp); omega
      have z1 : (cutA (cutB L[k] 32) 32).size ≤ 60000 := by have := HS3.out (cutA (cutB L[k] 32) 32) (by simp); omega
      have z2 : (cutB (cutB L[k] 32) 32).size ≤ 60000 := by have := HS3.out (cutB (cutB L[k] 32) 32) (by simp); omega
      clear a1 a2 hsp HS3
      generalize gelV L[k] = GV at *
      generalize LineOk L[k] = LK at *
      generalize cutA L[k] 32 = p0 at *
      generalize cutA (cutB L[k] 32) 32 = p1 at *
      generalize cutB (cutB L[k] 32) 32 = p2 at *
      generalize L[k] = lk at *
      go_wp2_with fail
      refine CS.out.mono ?_
      rintro e w2 ⟨cp, rfl, hr, hb, hlt2⟩
      have HX := Lib.hid (HB.out.trans (hb.mono HB.out.size))
      have HT2 := Lib.hid (HT.out.below HX.out)
      have HOW2 := Lib.hid (HOW.out.below hb)
      have HBW2 := Lib.hid (HBW.out.trans (hb.mono HBW.out.size))
      have r0 : w2.cell? ⟨wr.heap.size, 0, none⟩ = some (.string p0) := hr 0 (by simp)
      have r1 : w2.cell? ⟨wr.heap.size, 1, none⟩ = some (.string p1) := hr 1 (by simp)
      have r2 : w2.cell? ⟨wr.heap.size, 2, none⟩ = some (.string p2) := hr 2 (by simp)
      clear hr hb CS d0 HOW HBW HTW HB
      by_cases hp2 : 0 < p2.size
      rotate_left
      · have HG := Lib.hid (HBAD.out.2 (.inl fun h => hp2 (HLK.out.1 h).1))
        have he : p2 = ⟨#[]⟩ := ByteArray.ext (by apply Array.ext <;> simp_all)
        subst he
        clear HBAD HNX HLK hp2
        go_wp2_with fail
        go_ret3
        exact HPO.out _ _ ⟨.slice none 0 0, by rw [HG.out.1, HG.out.2.1]; rfl, by rw [HG.out.2.2]; exact GelS.nil _ _, HX.out⟩
      have hl3 := bytes_some hp2
      have hl4 := bytes_some' hp2
      by_cases hwl : wh = false ∧ k + 1 = L.length
      · have HG := Lib.hid (HBAD.out.2 (.inr hwl))
        obtain ⟨hwf, hkl⟩ := hwl
        have hkk : ((L.length : Nat) : Int) - 1 = k := by omega
        subst hwf
        clear HBAD HNX HLK hp2 hkl
        go_wp2_with fail
        go_ret3
        exact HPO.out _ _ ⟨.slice none 0 0, by rw [HG.out.1, HG.out.2.1]; rfl, by rw [HG.out.2.2]; exact GelS.nil _ _, HX.out⟩
      have HNX := Lib.hid (fun h => HNX.out h hwl)
      have HLK := Lib.hid (show LK ↔ NumS p0 9 ∧ ColOk p1 from ⟨fun h => (HLK.out.1 h).2, fun h => HLK.out.2 ⟨hp2, h⟩⟩)
      have CR := Lib.hid (fun W => cread_any p1 W (by omega))
      have hwc : wh = true ∨ (wh = false ∧ ¬ ((k : Int) = (L.length : Int) - 1)) := by
        cases wh
        · right
          refine ⟨rfl, fun h => hwl ⟨rfl, by omega⟩⟩
        · left; rfl
      clear hp2 hwl
      rcases hwc with rfl | ⟨rfl, hkn⟩
      · by_cases hN : NumS p0 9
        rotate_left
        · have HG := Lib.hid (HBAD.out.2 (.inl fun h => hN (HLK.out.1 h).1))
          have CN := Lib.hid (fun W => number_no p0 W (by omega) hN)
          obtain ⟨x, y, z, hc⟩ := cr_shape p1
          rw [hc] at CR
          generalize colRf p1 = q at *
          clear HBAD HNX HLK hN hc
          go_wp2_with fail
          refine (CN.out _).mono ?_
          rintro e w3 ⟨rfl, hb3⟩
          have HX3 := Lib.hid (HX.out.trans (hb3.mono HX.out.size))
          have HOW3 := Lib.hid (HOW2.out.below hb3)
          have HBW3 := Lib.hid (HBW2.out.trans (hb3.mono HBW2.out.size))
          have r1 := (hb3.cell (p := ⟨wr.heap.size, 1, none⟩) hlt2).trans r1
          have r2 := (hb3.cell (p := ⟨wr.heap.size, 2, none⟩) hlt2).trans r2
          have hlt3 : wr.heap.size < w3.heap.size := Nat.lt_of_lt_of_le hlt2 hb3.size
          clear hb3
          go_wp2_with fail
          refine (CR.out _).mono ?_
          rintro e w4 ⟨rfl, hb4⟩
          have HX4 := Lib.hid (HX3.out.trans (hb4.mono HX3.out.size))
          have HOW4 := Lib.hid (HOW3.out.below hb4)
          have HBW4 := Lib.hid (HBW3.out.trans (hb4.mono HBW3.out.size))
          have r2 := (hb4.cell (p := ⟨wr.heap.size, 2, none⟩) hlt3).trans r2
          have hlt4 : wr.heap.size < w4.heap.size := Nat.lt_of_lt_of_le hlt3 hb4.size
          clear hb4
          have HX5 := Lib.hid (HX4.out.alloc HX4.out.size (.cells #[.int .i64 x, .int .i64 y, .int .i64 z] 31))
          go_wp2_with fail
          go_ret3
          exact HPO.out _ _ ⟨.slice none 0 0, by rw [HG.out.1, HG.out.2.1]; rfl, by rw [HG.out.2.2]; exact GelS.nil _ _, HX5.out⟩
        have CN := Lib.hid (fun W => number_yes p0 W hN)
        by_cases hC : ColOk p1
        rotate_left
        · have HG := Lib.hid (HBAD.out.2 (.inl fun h => hC (HLK.out.1 h).2))
          rw [(cr_no hC).1, (cr_no hC).2] at CR
          generalize valS p0 = nv at *
          clear HBAD HNX HLK hN hC HVG
          go_wp2_with fail
          refine (CN.out _).mono ?_
          rintro e w3 ⟨rfl, hb3⟩
          have HX3 := Lib.hid (HX.out.trans (hb3.mono HX.out.size))
          have HOW3 := Lib.hid (HOW2.out.below hb3)
          have HBW3 := Lib.hid (HBW2.out.trans (hb3.mono HBW2.out.size))
          have r1 := (hb3.cell (p := ⟨wr.heap.size, 1, none⟩) hlt2).trans r1
          have r2 := (hb3.cell (p := ⟨wr.heap.size, 2, none⟩) hlt2).trans r2
          have hlt3 : wr.heap.size < w3.heap.size := Nat.lt_of_lt_of_le hlt2 hb3.size
          clear hb3
          go_wp2_with fail
          refine (CR.out _).mono ?_
          rintro e w4 ⟨rfl, hb4⟩
          have HX4 := Lib.hid (HX3.out.trans (hb4.mono HX3.out.size))
          have HOW4 := Lib.hid (HOW3.out.below hb4)
          have HBW4 := Lib.hid (HBW3.out.trans (hb4.mono HBW3.out.size))
          have r2 := (hb4.cell (p := ⟨wr.heap.size, 2, none⟩) hlt3).trans r2
          have hlt4 : wr.heap.size < w4.heap.size := Nat.lt_of_lt_of_le hlt3 hb4.size
          clear hb4
          have HX5 := Lib.hid (HX4.out.alloc HX4.out.size (.cells #[.int .i64 0, .int .i64 0, .int .i64 0] 31))
          go_wp2_with fail
          go_ret3
          exact HPO.out _ _ ⟨.slice none 0 0, by rw [HG.out.1, HG.out.2.1]; rfl, by rw [HG.out.2.2]; exact GelS.nil _ _, HX5.out⟩
        have HNK := Lib.hid (HNX.out (HLK.out.2 ⟨hN, hC⟩))
        rw [(cr_yes hC).1, (cr_yes hC).2] at CR
        generalize colP (hsT p1) 0 = x at *
        generalize colP (hsT p1) 1 = y at *
        generalize colP (hsT p1) 2 = z at *
        generalize valS p0 = nv at *
        clear HBAD HNX HLK hN hC
        go_wp2_with fail
        refine (CN.out _).mono ?_
        rintro e w3 ⟨rfl, hb3⟩
        have HX3 := Lib.hid (HX.out.trans (hb3.mono HX.out.size))
        have HOW3 := Lib.hid (HOW2.out.below hb3)
        have HBW3 := Lib.hid (HBW2.out.trans (hb3.mono HBW2.out.size))
        have r1 := (hb3.cell (p := ⟨wr.heap.size, 1, none⟩) hlt2).trans r1
        have r2 := (hb3.cell (p := ⟨wr.heap.size, 2, none⟩) hlt2).trans r2
        have hlt3 : wr.heap.size < w3.heap.size := Nat.lt_of_lt_of_le hlt2 hb3.size
        clear hb3
        go_wp2_with fail
        refine (CR.out _).mono ?_
        rintro e w4 ⟨rfl, hb4⟩
        have HX4 := Lib.hid (HX3.out.trans (hb4.mono HX3.out.size))
        have HOW4 := Lib.hid (HOW3.out.below hb4)
        have HBW4 := Lib.hid (HBW3.out.trans (hb4.mono HBW3.out.size))
        have r2 := (hb4.cell (p := ⟨wr.heap.size, 2, none⟩) hlt3).trans r2
        have hlt4 : wr.heap.size < w4.heap.size := Nat.lt_of_lt_of_le hlt3 hb4.size
        clear hb4
        have HX5 := Lib.hid (HX4.out.alloc HX4.out.size (.cells #[.int .i64 x, .int .i64 y, .int .i64 z] 31))
        have HOW5 := Lib.hid (HOW4.out.below ((Below.refl _ _).alloc (Nat.le_refl _) (.cells #[.int .i64 x, .int .i64 y, .int .i64 z] 31)))
        have HBW5 := Lib.hid (HBW4.out.alloc HBW4.out.size (.cells #[.int .i64 x, .int .i64 y, .int .i64 z] 31))
        have BZ := TBox.new w4 #[.int .i64 x, .int .i64 y, .int .i64 z] 31
        have r2 := (((Below.refl w4.heap.size w4).alloc (Nat.le_refl _) (.cells #[.int .i64 x, .int .i64 y, .int .i64 z] 31)).cell (p := ⟨wr.heap.size, 2, none⟩) hlt4).trans r2
        go_upto_region 15 with fail
        obtain ⟨w5, hw5⟩ : ∃ w5 : World, w5 = w4.alloc (.cells #[.int .i64 x, .int .i64 y, .int .i64 z] 31) := ⟨_, rfl⟩
        rw [← hw5] at HX5 HOW5 HBW5 BZ r2 ⊢
        have x0 := BZ.cell (i := 0) rfl
        have x1 := BZ.cell (i := 1) rfl
        have x2 := BZ.cell (i := 2) rfl
        have hx5 := BZ.lt
        clear hw5 HX4 HOW4 HBW4 HX3 HOW3 HBW3 r1
        generalize (List.take k L).map gelV = GL at *
        obtain ⟨ov, ocp, rfl⟩ := HOW5.out.shape
        have OW1 := Lib.hid (HOW5.out.drew.below ((Below.refl _ _).alloc (Nat.le_refl _) (.cells #[.int .i64 nv, .string p2, .int .i64 x, .int .i64 y, .int .i64 z] 33)))
        have OW2 := Lib.hid ((HOW5.out.below ((Below.refl _ _).alloc (Nat.le_refl _) (.cells #[.int .i64 nv, .string p2, .int .i64 x, .int .i64 y, .int .i64 z] 33))).drew)
        have hz5 := HBW5.out.size
        go_region_law (first
          | (refine step_gel rfl _ _ rfl rfl w1.heap.size _ GL ⟨nv, p2, x, y, z⟩ ⟨w5.heap.size, 0, none⟩ rfl rfl (by first | exact OW1.out | exact OW2.out) (by first | exact ownG_new w5 ⟨nv, p2, x, y, z⟩ _ | exact ownG_new w5.drew ⟨nv, p2, x, y, z⟩ _) hn1 (by simp; omega) ?_; intro v' w6 hown6 hgrow)
          | fail)
        all_goals
          have HO6 := Lib.hid (show OwnG w1.heap.size w6 v' ((List.take (k + 1) L).map gelV) by rw [HMT.out, HVG.out]; exact hown6)
          have HB6 : Hid (Below w1.heap.size w1 w6) := Lib.hid (by
            first
              | exact OW1.out.keeps (HBW5.out.drew.alloc hz5 (.cells #[.int .i64 nv, .string p2, .int .i64 x, .int .i64 y, .int .i64 z] 33)) hgrow (Nat.le_refl _) (by simp; omega)
              | exact OW2.out.keeps (HBW5.out.alloc hz5 (.cells #[.int .i64 nv, .string p2, .int .i64 x, .int .i64 y, .int .i64 z] 33)).drew hgrow (Nat.le_refl _) (by simp; omega))
          clear hown6 hgrow OW1 OW2 HOW5 HOW2 x0 x1 x2 BZ r2
          go_wp2
          go_roundw
          case rel =>
            first
              | exact ⟨k + 1, by omega, by go_num, HNK, HO6, HB6⟩
              | ((repeat apply Exists.intro); refine ⟨⟨k + 1, by omega, by go_num, HNK, HO6, HB6⟩, ?_⟩; rfl)
          case measure => simp [intOf]; omega
      · by_cases hN : NumS p0 9
        rotate_left
        · have HG := Lib.hid (HBAD.out.2 (.inl fun h => hN (HLK.out.1 h).1))
          have CN := Lib.hid (fun W => number_no p0 W (by omega) hN)
          obtain ⟨x, y, z, hc⟩ := cr_shape p1
          rw [hc] at CR
          generalize colRf p1 = q at *
          clear HBAD HNX HLK hN hc
          go_wp2_with fail
          refine (CN.out _).mono ?_
          rintro e w3 ⟨rfl, hb3⟩
          have HX3 := Lib.hid (HX.out.trans (hb3.mono HX.out.size))
          have HOW3 := Lib.hid (HOW2.out.below hb3)
          have HBW3 := Lib.hid (HBW2.out.trans (hb3.mono HBW2.out.size))
          have r1 := (hb3.cell (p := ⟨wr.heap.size, 1, none⟩) hlt2).trans r1
          have r2 := (hb3.cell (p := ⟨wr.heap.size, 2, none⟩) hlt2).trans r2
          have hlt3 : wr.heap.size < w3.heap.size := Nat.lt_of_lt_of_le hlt2 hb3.size
          clear hb3
          go_wp2_with fail
          refine (CR.out _).mono ?_
          rintro e w4 ⟨rfl, hb4⟩
          have HX4 := Lib.hid (HX3.out.trans (hb4.mono HX3.out.size))
          have HOW4 := Lib.hid (HOW3.out.below hb4)
          have HBW4 := Lib.hid (HBW3.out.trans (hb4.mono HBW3.out.size))
          have r2 := (hb4.cell (p := ⟨wr.heap.size, 2, none⟩) hlt3).trans r2
          have hlt4 : wr.heap.size < w4.heap.size := Nat.lt_of_lt_of_le hlt3 hb4.size
          clear hb4
          have HX5 := Lib.hid (HX4.out.alloc HX4.out.size (.cells #[.int .i64 x, .int .i64 y, .int .i64 z] 31))
          go_wp2_with fail
          go_ret3
          exact HPO.out _ _ ⟨.slice none 0 0, by rw [HG.out.1, HG.out.2.1]; rfl, by rw [HG.out.2.2]; exact GelS.nil _ _, HX5.out⟩
        have CN := Lib.hid (fun W => number_yes p0 W hN)
        by_cases hC : ColOk p1
        rotate_left
        · have HG := Lib.hid (HBAD.out.2 (.inl fun h => hC (HLK.out.1 h).2))
          rw [(cr_no hC).1, (cr_no hC).2] at CR
          generalize valS p0 = nv at *
          clear HBAD HNX HLK hN hC HVG
          go_wp2_with fail
          refine (CN.out _).mono ?_
          rintro e w3 ⟨rfl, hb3⟩
          have HX3 := Lib.hid (HX.out.trans (hb3.mono HX.out.size))
          have HOW3 := Lib.hid (HOW2.out.below hb3)
          have HBW3 := Lib.hid (HBW2.out.trans (hb3.mono HBW2.out.size))
          have r1 := (hb3.cell (p := ⟨wr.heap.size, 1, none⟩) hlt2).trans r1
          have r2 := (hb3.cell (p := ⟨wr.heap.size, 2, none⟩) hlt2).trans r2
          have hlt3 : wr.heap.size < w3.heap.size := Nat.lt_of_lt_of_le hlt2 hb3.size
          clear hb3
          go_wp2_with fail
          refine (CR.out _).mono ?_
          rintro e w4 ⟨rfl, hb4⟩
          have HX4 := Lib.hid (HX3.out.trans (hb4.mono HX3.out.size))
          have HOW4 := Lib.hid (HOW3.out.below hb4)
          have HBW4 := Lib.hid (HBW3.out.trans (hb4.mono HBW3.out.size))
          have r2 := (hb4.cell (p := ⟨wr.heap.size, 2, none⟩) hlt3).trans r2
          have hlt4 : wr.heap.size < w4.heap.size := Nat.lt_of_lt_of_le hlt3 hb4.size
          clear hb4
          have HX5 := Lib.hid (HX4.out.alloc HX4.out.size (.cells #[.int .i64 0, .int .i64 0, .int .i64 0] 31))
          go_wp2_with fail
          go_ret3
          exact HPO.out _ _ ⟨.slice none 0 0, by rw [HG.out.1, HG.out.2.1]; rfl, by rw [HG.out.2.2]; exact GelS.nil _ _, HX5.out⟩
        have HNK := Lib.hid (HNX.out (HLK.out.2 ⟨hN, hC⟩))
        rw [(cr_yes hC).1, (cr_yes hC).2] at CR
        generalize colP (hsT p1) 0 = x at *
        generalize colP (hsT p1) 1 = y at *
        generalize colP (hsT p1) 2 = z at *
        generalize valS p0 = nv at *
        clear HBAD HNX HLK hN hC
        go_wp2_with fail
        refine (CN.out _).mono ?_
        rintro e w3 ⟨rfl, hb3⟩
        have HX3 := Lib.hid (HX.out.trans (hb3.mono HX.out.size))
        have HOW3 := Lib.hid (HOW2.out.below hb3)
        have HBW3 := Lib.hid (HBW2.out.trans (hb3.mono HBW2.out.size))
        have r1 := (hb3.cell (p := ⟨wr.heap.size, 1, none⟩) hlt2).trans r1
        have r2 := (hb3.cell (p := ⟨wr.heap.size, 2, none⟩) hlt2).trans r2
        have hlt3 : wr.heap.size < w3.heap.size := Nat.lt_of_lt_of_le hlt2 hb3.size
        clear hb3
        go_wp2_with fail
        refine (CR.out _).mono ?_
        rintro e w4 ⟨rfl, hb4⟩
        have HX4 := Lib.hid (HX3.out.trans (hb4.mono HX3.out.size))
        have HOW4 := Lib.hid (HOW3.out.below hb4)
        have HBW4 := Lib.hid (HBW3.out.trans (hb4.mono HBW3.out.size))
        have r2 := (hb4.cell (p := ⟨wr.heap.size, 2, none⟩) hlt3).trans r2
        have hlt4 : wr.heap.size < w4.heap.size := Nat.lt_of_lt_of_le hlt3 hb4.size
        clear hb4
        have HX5 := Lib.hid (HX4.out.alloc HX4.out.size (.cells #[.int .i64 x, .int .i64 y, .int .i64 z] 31))
        have HOW5 := Lib.hid (HOW4.out.below ((Below.refl _ _).alloc (Nat.le_refl _) (.cells #[.int .i64 x, .int .i64 y, .int .i64 z] 31)))
        have HBW5 := Lib.hid (HBW4.out.alloc HBW4.out.size (.cells #[.int .i64 x, .int .i64 y, .int .i64 z] 31))
        have BZ := TBox.new w4 #[.int .i64 x, .int .i64 y, .int .i64 z] 31
        have r2 := (((Below.refl w4.heap.size w4).alloc (Nat.le_refl _) (.cells #[.int .i64 x, .int .i64 y, .int .i64 z] 31)).cell (p := ⟨wr.heap.size, 2, none⟩) hlt4).trans r2
        go_upto_region 15 with fail
        obtain ⟨w5, hw5⟩ : ∃ w5 : World, w5 = w4.alloc (.cells #[.int .i64 x, .int .i64 y, .int .i64 z] 31) := ⟨_, rfl⟩
        rw [← hw5] at HX5 HOW5 HBW5 BZ r2 ⊢
        have x0 := BZ.cell (i := 0) rfl
        have x1 := BZ.cell (i := 1) rfl
        have x2 := BZ.cell (i := 2) rfl
        have hx5 := BZ.lt
        clear hw5 HX4 HOW4 HBW4 HX3 HOW3 HBW3 r1
        generalize (List.take k L).map gelV = GL at *
        obtain ⟨ov, ocp, rfl⟩ := HOW5.out.shape
        have OW1 := Lib.hid (HOW5.out.drew.below ((Below.refl _ _).alloc (Nat.le_refl _) (.cells #[.int .i64 nv, .string p2, .int .i64 x, .int .i64 y, .int .i64 z] 33)))
        have OW2 := Lib.hid ((HOW5.out.below ((Below.refl _ _).alloc (Nat.le_refl _) (.cells #[.int .i64 nv, .string p2, .int .i64 x, .int .i64 y, .int .i64 z] 33))).drew)
        have hz5 := HBW5.out.size
        go_region_law (first
          | (refine step_gel rfl _ _ rfl rfl w1.heap.size _ GL ⟨nv, p2, x, y, z⟩ ⟨w5.heap.size, 0, none⟩ rfl rfl (by first | exact OW1.out | exact OW2.out) (by first | exact ownG_new w5 ⟨nv, p2, x, y, z⟩ _ | exact ownG_new w5.drew ⟨nv, p2, x, y, z⟩ _) hn1 (by simp; omega) ?_; intro v' w6 hown6 hgrow)
          | fail)
        all_goals
          have HO6 := Lib.hid (show OwnG w1.heap.size w6 v' ((List.take (k + 1) L).map gelV) by rw [HMT.out, HVG.out]; exact hown6)
          have HB6 : Hid (Below w1.heap.size w1 w6) := Lib.hid (by
            first
              | exact OW1.out.keeps (HBW5.out.drew.alloc hz5 (.cells #[.int .i64 nv, .string p2, .int .i64 x, .int .i64 y, .int .i64 z] 33)) hgrow (Nat.le_refl _) (by simp; omega)
              | exact OW2.out.keeps (HBW5.out.alloc hz5 (.cells #[.int .i64 nv, .string p2, .int .i64 x, .int .i64 y, .int .i64 z] 33)).drew hgrow (Nat.le_refl _) (by simp; omega))
          clear hown6 hgrow OW1 OW2 HOW5 HOW2 x0 x1 x2 BZ r2
          go_wp2
          go_roundw
          case rel =>
            first
              | exact ⟨k + 1, by omega, by go_num, HNK, HO6, HB6⟩
              | ((repeat apply Exists.intro); refine ⟨⟨k + 1, by omega, by go_num, HNK, HO6, HB6⟩, ?_⟩; rfl)
          case measure => simp [intOf]; omega
    · have hkk : k = L.length := by omega
      subst hkk
      have HGD := Lib.hid (HGOOD.out (fun j hj => HOK.out j hj))
      rw [List.take_length] at HOW
      have HNM : Hid (∀ x ∈ L.map gelV, x.name.size ≤ 9223372036854775807) := Lib.hid (fun x hx => by
        obtain ⟨y, hy, rfl⟩ := List.mem_map.1 hx
        obtain ⟨j, hj, rfl⟩ := List.mem_iff_getElem.1 hy
        have := hls j hj
        have := gelV_name L[j]
        omega)
      generalize L.map gelV = GL at *
      obtain ⟨ov, ocp, rfl⟩ := HOW.out.shape
      have CB := Lib.hid (chkBook_any _ GL wr HOW.out.gelS HNM.out)
      have HGS := Lib.hid HOW.out.gelS
      clear HOW HROW HBADX
      by_cases hE : chkBook GL = 0
      · rw [hE] at CB HGD
        go_wp2_with fail
        refine CB.out.mono ?_
        rintro e w2 ⟨rfl, hb⟩
        have HX := Lib.hid (HB.out.trans (hb.mono HB.out.size))
        have HG2 := Lib.hid ((HGS.out.below hb).more hb.size)
        clear hb
        go_wp2_with fail
        go_ret3
        exact HPO0.out _ _ ⟨.slice ov GL.length ocp, by rw [HGD.out.1, HGD.out.2.1]; rfl, by rw [HGD.out.2.2]; first | exact HG2.out | (rw [if_pos (by first | trivial | rfl)]; exact HG2.out), HX.out⟩
      · have hE2 : (chkBook GL == 0) = false := by simpa using hE
        have HRL := Lib.hid (show RL = [] by rw [HGD.out.2.2, if_neg hE])
        have HR2 := Lib.hid (⟨HGD.out.1, HGD.out.2.1⟩ : RN = 0 ∧ RF = chkBook GL)
        generalize chkBook GL = cf at *
        clear HGD
        go_wp2_with fail
        refine CB.out.mono ?_
        rintro e w2 ⟨rfl, hb⟩
        have HX := Lib.hid (HB.out.trans (hb.mono HB.out.size))
        clear hb
        go_wp2_with fail
        go_ret3
        exact HPO0.out _ _ ⟨.slice none 0 0, by rw [HR2.out.1, HR2.out.2]; rfl, by rw [HRL.out]; exact GelS.nil _ _, HX.out⟩
end Go.Proofs.YtljgpiaihahneaaGreatDoor
