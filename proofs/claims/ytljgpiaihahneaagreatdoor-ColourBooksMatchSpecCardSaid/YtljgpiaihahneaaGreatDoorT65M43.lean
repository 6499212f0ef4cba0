/- The reference's ReadBook at any text. (printed by wip/gen/gen_rbook.py out of XBkRead) -/
import Derived.Test.YtljgpiaihahneaaGreatDoorT65M41
import Derived.Test.YtljgpiaihahneaaGreatDoorT65M42
import Derived.Test.YtljgpiaihahneaaGreatDoorT65M32
import Derived.Test.YtljgpiaihahneaaGreatDoorT65M29

namespace Go.Proofs.YtljgpiaihahneaaGreatDoor
open Go.RowKit
set_option linter.unusedVariables false
set_option linter.unusedSimpArgs false
set_option maxRecDepth 100000 in
set_option maxHeartbeats 16000000 in
theorem rreadBook_any (s : ByteArray) (w : World) (hT : TextW w) (hn : s.size ≤ 9223372036854775807) :
    Calls Tryz.prog 9 #[.string s] w (RbPost w s) := by
  have HPO0 := Lib.hid (show ∀ e w', (∃ v, e = .returned (.tuple #[v, .int .i64 (rbN s), .int .i64 (rbF s)]) ∧ GelS w'.heap.size w' v (rbL s) ∧ Below w.heap.size w w') → RbPost w s e w' from fun e w' h => h)
  by_cases hl : 60000 < s.size
  · obtain ⟨h1, h2, h3⟩ := rb_large hl
    have HPO := Lib.hid (HPO0.out (.returned (.tuple #[.slice none 0 0, .int .i64 0, .int .i64 2])) w ⟨.slice none 0 0, by rw [h1, h2], by rw [h3]; exact GelS.nil _ _, Below.refl _ _⟩)
    have hl2 : (60000 : Int) < (s.size : Int) := by omega
    clear h1 h2 h3 hT HPO0 hl
    generalize RbPost w s = PO at *
    go_enter Tryz.func9, Tryz.ntmps9
    go_wp2_with fail
    go_ret3
    exact HPO.out
  have hl2 : ¬ (60000 : Int) < (s.size : Int) := by omega
  have CL := Lib.hid (rlines_any s w hT (by omega))
  have HBADX := Lib.hid (fun k (hk : k < (linesL s).length) h1 h2 => rb_bad hl hk h1 h2)
  have HGOOD := Lib.hid (fun h1 => rb_good hl h1)
  have HLL := Lib.hid (linesL_le s)
  have HLS := Lib.hid (fun k (hk : k < (linesL s).length) => linesL_size s _ (List.getElem_mem hk))
  have HT := Lib.hid hT
  have hll : (linesL s).length ≤ 60001 := by have := linesL_le s; omega
  have hls : ∀ k (hk : k < (linesL s).length), (linesL s)[k].size ≤ 60000 := fun k hk => by have := HLS.out k hk; omega
  unfold LinesPost at CL
  generalize rbN s = RN at *
  generalize rbF s = RF at *
  generalize rbL s = RL at *
  generalize RbPost w s = PO at *
  generalize linesL s = L at *
  generalize linesW s = wh at *
  clear hT hl HLL HLS
  go_enter Tryz.func9, Tryz.ntmps9
  go_wp2_with fail
  refine CL.out.mono ?_
  rintro e w1 ⟨ao, cap, rfl, hrow, hb⟩
  have HB1 := Lib.hid hb
  have hw1 := hb.size
  have HT1 := Lib.hid (HT.out.below hb)
  have HROW := Lib.hid hrow
  clear hb hrow CL
  go_wp2_with fail
  go_loopw [7, 23] (fun ov i wr => ∃ k : Nat, k ≤ L.length ∧ i = .int .i64 k ∧ Hid (∀ j, j < k → ¬ Bad wh L j) ∧ Hid (OwnG w1.heap.size wr ov ((L.take k).map gelV)) ∧ Hid (Below w1.heap.size w1 wr)) (fun _ i _ => L.length - (intOf i).toNat)
  case atStart => exact ⟨0, Nat.zero_le _, rfl, Lib.hid (fun j hj => absurd hj (Nat.not_lt_zero j)), Lib.hid (OwnG.nil _ _), Lib.hid (Below.refl _ _)⟩
  case round =>
    obtain ⟨k, hk, rfl, HOK, HOW, HBW⟩ := hrel
    have hzw := HBW.out.size
    have HB := Lib.hid (HB1.out.trans (HBW.out.mono hw1))
    by_cases hlt : k < L.length
    · obtain ⟨hao, hg, hrw⟩ := HROW.out (by intro e; subst e; simp at hlt)
      subst hao
      have hck := hrw k hlt
      rw [Nat.zero_add] at hck
      have d0 : wr.cell? ⟨w.heap.size, k, none⟩ = some (.string L[k]) := (HBW.out.cell (p := ⟨w.heap.size, k, none⟩) hg).trans hck
      have hgr : w.heap.size < wr.heap.size := by omega
      have hxs := hls k hlt
      have HTW := Lib.hid (HT.out.below HB.out)
      have CS := Lib.hid (rreadGel_any L[k] wr (by omega))
      unfold RgPost at CS
      have HPO := Lib.hid (fun e w' h => HPO0.out e w' h)
      have HBAD := Lib.hid (show ¬ LineOk L[k] ∨ (wh = false ∧ k + 1 = L.length) → RN = (k : Int) + 1 ∧ RF = 9 ∧ RL = [] from fun h => HBADX.out k hlt HOK.out (by
        rcases h with h | h
        · exact .inl ⟨hlt, h⟩
        · exact .inr h))
      have HNX := Lib.hid (fun (h : LineOk L[k]) (h2 : ¬ (wh = false ∧ k + 1 = L.length)) => show ∀ j, j < k + 1 → ¬ Bad wh L j from fun j hj => by
        by_cases e : j = k
        · subst e
          rintro (⟨_, h3⟩ | h3)
          · exact h3 h
          · exact h2 h3
        · exact HOK.out j (by omega))
      have HMT := Lib.hid (map_take gelV L k hlt)
      have hn1 : ((List.take k L).map gelV).length ≤ 10000000 := by rw [List.length_map, List.length_take]; omega
      clear hck hrw
      generalize gelV L[k] = GV at *
      generalize LineOk L[k] = LK at *
      generalize L[k] = lk at *
      go_wp2_with fail
      refine CS.out.mono ?_
      rintro e w2 ⟨g, ok, rfl, ho1, ho2, hb⟩
      have HX := Lib.hid (HB.out.trans (hb.mono HB.out.size))
      have HOW2 := Lib.hid (HOW.out.below hb)
      have HBW2 := Lib.hid (HBW.out.trans (hb.mono HBW.out.size))
      obtain ⟨n, nm, x, y, z⟩ := g
      unfold gelA
      simp only at ho2 ⊢
      have HO1 := Lib.hid ho1
      have HO2 := Lib.hid ho2
      have HX3 := Lib.hid (HX.out.alloc HX.out.size (.cells #[.int .i64 n, .string nm, .int .i64 x, .int .i64 y, .int .i64 z] 33))
      have HOW3 := Lib.hid (HOW2.out.below ((Below.refl _ _).alloc (Nat.le_refl _) (.cells #[.int .i64 n, .string nm, .int .i64 x, .int .i64 y, .int .i64 z] 33)))
      have HBW3 := Lib.hid (HBW2.out.alloc HBW2.out.size (.cells #[.int .i64 n, .string nm, .int .i64 x, .int .i64 y, .int .i64 z] 33))
      have HBG := Lib.hid (TBox.new w2 #[.int .i64 n, .string nm, .int .i64 x, .int .i64 y, .int .i64 z] 33)
      clear hb CS d0 HOW HBW HTW HB ho1 ho2
      cases ok
      · have HG := Lib.hid (HBAD.out (.inl fun h => absurd (HO1.out.2 h) (by decide)))
        clear HBAD HNX
        go_wp2_with fail
        go_ret3
        exact HPO.out _ _ ⟨.slice none 0 0, by rw [HG.out.1, HG.out.2.1]; rfl, by rw [HG.out.2.2]; exact GelS.nil _ _, HX3.out⟩
      by_cases hwl : wh = false ∧ k + 1 = L.length
      · have HG := Lib.hid (HBAD.out (.inr hwl))
        obtain ⟨hwf, hkl⟩ := hwl
        have hkk : ((L.length : Nat) : Int) - 1 = k := by omega
        subst hwf
        clear HBAD HNX hkl
        go_wp2_with fail
        go_ret3
        exact HPO.out _ _ ⟨.slice none 0 0, by rw [HG.out.1, HG.out.2.1]; rfl, by rw [HG.out.2.2]; exact GelS.nil _ _, HX3.out⟩
      have HNK := Lib.hid (HNX.out (HO1.out.1 rfl) hwl)
      have HVG := Lib.hid (show GV = ⟨n, nm, x, y, z⟩ from (HO2.out rfl).symm)
      have hwc : wh = true ∨ (wh = false ∧ ¬ ((k : Int) = (L.length : Int) - 1)) := by
        cases wh
        · right
          refine ⟨rfl, fun h => hwl ⟨rfl, by omega⟩⟩
        · left; rfl
      clear hwl HBAD HNX HO1 HO2
      rcases hwc with rfl | ⟨rfl, hkn⟩
      all_goals
        go_upto_region 11 with fail
        obtain ⟨w3, hw3⟩ : ∃ w3 : World, w3 = w2.alloc (.cells #[.int .i64 n, .string nm, .int .i64 x, .int .i64 y, .int .i64 z] 33) := ⟨_, rfl⟩
        rw [← hw3] at HX3 HOW3 HBW3 HBG ⊢
        clear hw3
        have g0 := HBG.out.cell (i := 0) rfl
        have g1 := HBG.out.cell (i := 1) rfl
        have g2 := HBG.out.cell (i := 2) rfl
        have g3 := HBG.out.cell (i := 3) rfl
        have g4 := HBG.out.cell (i := 4) rfl
        generalize (List.take k L).map gelV = GL at *
        obtain ⟨ov, ocp, rfl⟩ := HOW3.out.shape
        have hOA := Lib.hid (HOW3.out.below ((Below.refl _ _).alloc (Nat.le_refl _) (.cells #[.int .i64 n, .string nm, .int .i64 x, .int .i64 y, .int .i64 z] 33)))
        have hBA := Lib.hid (HBW3.out.alloc HBW3.out.size (.cells #[.int .i64 n, .string nm, .int .i64 x, .int .i64 y, .int .i64 z] 33))
        have hz3 := HBW3.out.size
        go_wp2_with (first | (at_builtin; refine wpList_ownG rfl _ _ rfl w1.heap.size 1 _ GL ⟨n, nm, x, y, z⟩ ⟨w3.heap.size, 0, none⟩ rfl rfl hOA.out (ownG_new w3 ⟨n, nm, x, y, z⟩ _) hn1 (by simp; omega) ?_; intro v' w6 hown6 hgrow) | fail)
        have HO6 := Lib.hid (show OwnG w1.heap.size w6 v' ((List.take (k + 1) L).map gelV) by rw [HMT.out, HVG.out]; exact hown6)
        have HB6 := Lib.hid (hOA.out.keeps hBA.out hgrow (Nat.le_refl _) (by simp; omega))
        clear hown6 hgrow hOA hBA
        go_roundw
        case rel =>
          first
            | exact ⟨k + 1, by omega, by go_num, HNK, HO6, HB6⟩
            | ((repeat apply Exists.intro); refine ⟨⟨k + 1, by omega, by go_num, HNK, HO6, HB6⟩, ?_⟩; rfl)
        case measure => simp [intOf]; omega
    · have hkk : k = L.length := by omega
      subst hkk
      have HGD := Lib.hid (HGOOD.out (fun j hj => HOK.out j hj))
      rw [List.take_length] at HOW
      have HNM : Hid (∀ x ∈ L.map gelV, x.name.size ≤ 9223372036854775807) := Lib.hid (fun x hx => by
        obtain ⟨y, hy, rfl⟩ := List.mem_map.1 hx
        obtain ⟨j, hj, rfl⟩ := List.mem_iff_getElem.1 hy
        have := hls j hj
        have := gelV_name L[j]
        omega)
      generalize L.map gelV = GL at *
      obtain ⟨ov, ocp, rfl⟩ := HOW.out.shape
      have CB := Lib.hid (rchkBook_any _ GL wr HOW.out.gelS HNM.out)
      have HGS := Lib.hid HOW.out.gelS
      clear HOW HROW HBADX
      by_cases hE : chkBook GL = 0
      · rw [hE] at CB HGD
        go_wp2_with fail
        refine CB.out.mono ?_
        rintro e w2 ⟨rfl, hb⟩
        have HX := Lib.hid (HB.out.trans (hb.mono HB.out.size))
        have HG2 := Lib.hid ((HGS.out.below hb).more hb.size)
        clear hb
        go_wp2_with fail
        go_ret3
        exact HPO0.out _ _ ⟨.slice ov GL.length ocp, by rw [HGD.out.1, HGD.out.2.1]; rfl, by rw [HGD.out.2.2]; first | exact HG2.out | (rw [if_pos (by first | trivial | rfl)]; exact HG2.out), HX.out⟩
      · have hE2 : (chkBook GL == 0) = false := by simpa using hE
        have HRL := Lib.hid (show RL = [] by rw [HGD.out.2.2, if_neg hE])
        have HR2 := Lib.hid (⟨HGD.out.1, HGD.out.2.1⟩ : RN = 0 ∧ RF = chkBook GL)
        generalize chkBook GL = cf at *
        clear HGD
        go_wp2_with fail
        refine CB.out.mono ?_
        rintro e w2 ⟨rfl, hb⟩
        have HX := Lib.hid (HB.out.trans (hb.mono HB.out.size))
        clear hb
        go_wp2_with fail
        go_ret3
        exact HPO0.out _ _ ⟨.slice none 0 0, by rw [HR2.out.1, HR2.out.2]; rfl, by rw [HRL.out]; exact GelS.nil _ _, HX.out⟩
end Go.Proofs.YtljgpiaihahneaaGreatDoor
