/- fixture.ReadPatch at any text. (printed by wip/gen/gen_patchread.py) -/
import Derived.Test.YtppbagllhmeenaaGreatDoorT62M19
import Derived.Test.YtppbagllhmeenaaGreatDoorT62M25
import Derived.Test.YtppbagllhmeenaaGreatDoorT62M30
import Derived.Test.YtppbagllhmeenaaGreatDoorT62M31
import Derived.Deep.RegionLaw

namespace Go.Proofs.YtppbagllhmeenaaGreatDoor
open Go.RowKit
open Go.ChangeShapes
set_option linter.unusedVariables false
set_option linter.unusedSimpArgs false

theorem norig_at (B : Nat) (w : World) : RigAt B w noRigP (.slice none 0 0) (.slice none 0 0) := ⟨⟨[], rfl, CellsS.nil _ _, by simp⟩, CellsS.nil _ _⟩
/-- what ReadPatch hands back -/
def RpPost (w : World) (lib : List Prf) (s : ByteArray) (e : Ending) (w' : World) : Prop :=
  ∃ lv uv, e = .returned (.tuple #[rigV lv uv, .int .i64 (rpX lib s).2.1, .int .i64 (rpX lib s).1]) ∧ RigAt w'.heap.size w' (rpX lib s).2.2 lv uv ∧ Below w.heap.size w w'
theorem rig_sizesP {x : Rig} (h : chkRig x = 0) : (x.lib.length ≤ 60 ∧ ∀ p ∈ x.lib, p.pars.length ≤ 40 ∧ ∀ q ∈ p.pars, q.rngs.length ≤ 30) ∧ x.units.length ≤ 1000 := by
  obtain ⟨h1, h2, _⟩ := chkRig_zero h
  exact ⟨lib_sizes h1, by omega⟩
theorem resU {W : World} {rb base : Nat} {cs : Array Value} {v : Value} {l : List Unt} (h : OwnU base W v l) (hr : TBox W rb 25 cs) (a b : Value) : OwnU base ((W.setCell ⟨rb, 0, none⟩ a).setCell ⟨rb, 1, none⟩ b) v l :=
  (h.other (Other.box hr a) (by decide)).other (Other.box (hr.set 0 a) b) (by decide)
theorem resL {W : World} {rb base : Nat} {cs : Array Value} {v : Value} {l : List Prf} (h : OwnL base W v l) (hr : TBox W rb 25 cs) (a b : Value) : OwnL base ((W.setCell ⟨rb, 0, none⟩ a).setCell ⟨rb, 1, none⟩ b) v l :=
  (h.other (Other.box hr a) (by decide) (by decide) (by decide)).other (Other.box (hr.set 0 a) b) (by decide) (by decide) (by decide)
theorem unt_fit {s : ByteArray} (h : LineU s) (hs : s.size ≤ 60000) : UntFit (untV s) := by
  have hm := wordsB_size 32 s
  unfold LineU at h
  obtain ⟨a, b, c, e⟩ := list3 h.len
  unfold untV
  rw [e] at h hm ⊢
  have h1 := num9 h.num
  have h2 := num9 h.pair.2.1
  have h3 := num9 h.pair.2.2
  have hb := hm b (by simp)
  unfold UntFit untW
  simp only [List.getD_cons_zero, List.getD_cons_succ] at *
  refine ⟨⟨by omega, by omega⟩, ⟨by omega, by omega⟩, ⟨by omega, by omega⟩, by unfold maxLen; omega⟩
theorem pair_pb (s : ByteArray) (hn : s.size ≤ 9223372036854775807) : ∃ pb : Bool, (pb = true ↔ PairOk 47 s) ∧ ∀ w, Calls Tryz.prog 22 #[.string s, .string ⟨#[47]⟩] w fun e w' => ∃ n m : Int, e = .returned (.tuple #[.int .i64 n, .int .i64 m, .bool pb]) ∧ (pb = true → n = valS (cutA s 47) ∧ m = valS (cutB s 47)) ∧ Below w.heap.size w w' := by
  by_cases h : PairOk 47 s
  · refine ⟨true, ⟨fun _ => h, fun _ => rfl⟩, fun w => (pair_yes 47 s w hn h).mono ?_⟩
    rintro e w' ⟨rfl, hb⟩
    exact ⟨_, _, rfl, fun _ => ⟨rfl, rfl⟩, hb⟩
  · refine ⟨false, ⟨(fun h2 => by cases h2), fun h2 => absurd h2 h⟩, fun w => (pair_no 47 s w hn h).mono ?_⟩
    rintro e w' ⟨⟨n, m, rfl⟩, hb⟩
    exact ⟨n, m, rfl, (fun h2 => by cases h2), hb⟩
theorem num_nb (s : ByteArray) (hn : s.size ≤ 9223372036854775807) : ∃ (nv : Int) (nb : Bool), (nb = true ↔ NumS s 9) ∧ (nb = true → nv = valS s) ∧ ∀ w, Calls Tryz.prog 21 #[.string s] w fun e w' => e = .returned (.tuple #[.int .i64 nv, .bool nb]) ∧ Below w.heap.size w w' := by
  by_cases h : NumS s 9
  · exact ⟨valS s, true, ⟨fun _ => h, fun _ => rfl⟩, fun _ => rfl, fun w => number_yes s w h⟩
  · exact ⟨0, false, ⟨(fun h2 => by cases h2), fun h2 => absurd h2 h⟩, (fun h2 => by cases h2), fun w => number_no s w hn h⟩

set_option maxRecDepth 100000 in
set_option maxHeartbeats 16000000 in
theorem readPatch_any (lib : List Prf) (lv : Value) (s : ByteArray) (w : World) (hT : TextW w) (hn : s.size ≤ 9223372036854775807) (hl : PrfS w.heap.size w lv lib) (hf : ∀ p ∈ lib, PrfFit p) :
    Calls Tryz.prog 7 #[lv, .string s] w (RpPost w lib s) := by
  have HPO := Lib.hid (show ∀ e w', (∃ lv uv, e = .returned (.tuple #[rigV lv uv, .int .i64 (rpX lib s).2.1, .int .i64 (rpX lib s).1]) ∧ RigAt w'.heap.size w' (rpX lib s).2.2 lv uv ∧ Below w.heap.size w w') → RpPost w lib s e w' from fun e w' h => h)
  have CK := Lib.hid (fun W (hb : Below w.heap.size w W) => ckLibrary_any lv lib W ((hl.below hb).more hb.size) hf)
  have HLIB := Lib.hid hl
  have HF := Lib.hid hf
  have HT := Lib.hid hT
  obtain ⟨ao, cap, rfl⟩ := prfS_shape hl
  generalize RpPost w lib s = PO at *
  clear hl hf hT
  have HB0 := Lib.hid (show Below w.heap.size w (w.alloc (.cells #[.slice none 0 0, .slice none 0 0] 25)) from (Below.refl _ _).alloc (Nat.le_refl _) _)
  have BX0 := Lib.hid (TBox.new w #[.slice none 0 0, .slice none 0 0] 25)
  by_cases hL : chkLib lib = 0 ∧ ¬ 60000 < s.size
  rotate_left
  · obtain ⟨e, he0, hex, hrp⟩ : ∃ e : Int, e ≠ 0 ∧ (if chkLib lib = 0 then whenW (decide ((60000 : Int) < (s.size : Int))) 2 else chkLib lib) = e ∧ rpX lib s = (e, 0, noRigP) := by
      by_cases h1 : chkLib lib = 0
      · have h2 : 60000 < s.size := Classical.not_not.1 fun h => hL ⟨h1, h⟩
        exact ⟨2, by decide, by rw [if_pos h1, decide_eq_true (by omega)]; rfl, rp_large h1 h2⟩
      · exact ⟨chkLib lib, h1, if_neg h1, rp_lib h1⟩
    have HE := Lib.hid hex
    have HRP := Lib.hid hrp
    have he2 : (e == 0) = false := by simpa using he0
    have C1 := Lib.hid (CK.out _ HB0.out)
    clear hex hrp hL he0
    generalize chkLib lib = cl at *
    generalize rpX lib s = rp at *
    go_enter Tryz.func7, Tryz.ntmps7
    go_wp2_with fail
    refine C1.out.mono ?_
    rintro e1 w1 ⟨rfl, hb⟩
    have HB1 := Lib.hid (bt HB0.out hb)
    have BX1 := Lib.hid (BX0.out.below hb)
    have hlt1 := BX1.out.lt
    clear hb C1
    generalize hcd : decide ((60000 : Int) < (s.size : Int)) = cd at *
    have HX := Lib.hid (HB1.out.alloc HB1.out.size (.cells #[.int .i64 cl, .int .i64 (whenW cd 2)] 26))
    have BX := BX1.out.alloc (.cells #[.int .i64 cl, .int .i64 (whenW cd 2)] 26)
    have q0 := BX.cell (i := 0) rfl
    have q1 := BX.cell (i := 1) rfl
    have f0 := BX.frozen 0
    have f1 := BX.frozen 1
    go_upto_region 3 with (first
      | (go_at_call 17; (with_reducible refine (when_R _ _ _).mono ?_); rintro e w' ⟨rfl, rfl⟩)
      | (go_at_call 15; (with_reducible refine (first2c _ cl (whenW cd 2) _ (by simp) (by simp)).mono ?_); rintro e w' ⟨rfl, rfl⟩; rw [HE.out])
      | fail)
    obtain ⟨W, hW⟩ : ∃ W : World, W = w1.alloc (.cells #[.int .i64 cl, .int .i64 (whenW cd 2)] 26) := ⟨_, rfl⟩
    rw [← hW] at HX BX q0 q1 f0 f1 ⊢
    clear hW
    go_wp2_with fail
    have BY : TBox ((W.setCell ⟨w.heap.size, 0, none⟩ (.slice none 0 0)).setCell ⟨w.heap.size, 1, none⟩ (.slice none 0 0)) w.heap.size 25 #[.slice none 0 0, .slice none 0 0] := (BX.set 0 (.slice none 0 0)).set 1 (.slice none 0 0)
    have HY : Below w.heap.size w ((W.setCell ⟨w.heap.size, 0, none⟩ (.slice none 0 0)).setCell ⟨w.heap.size, 1, none⟩ (.slice none 0 0)) := (HX.out.setCell (Nat.le_refl _) _).setCell (Nat.le_refl _) _
    have R0 := BY.cell (i := 0) rfl
    have R1 := BY.cell (i := 1) rfl
    generalize (W.setCell ⟨w.heap.size, 0, none⟩ (.slice none 0 0)).setCell ⟨w.heap.size, 1, none⟩ (.slice none 0 0) = W9 at *
    exact bodyPost_ret (v := .tuple #[.agg #[.slice none 0 0, .slice none 0 0], .int .i64 0, .int .i64 e]) (by simp [results, Tryz.results7, go_sem, R0, R1]) rfl (HPO.out _ _ ⟨.slice none 0 0, .slice none 0 0, by rw [HRP.out]; rfl, by rw [HRP.out]; exact norig_at _ _, HY⟩)
  obtain ⟨hL0, hL6⟩ := hL
  have hl2 : ¬ (60000 : Int) < (s.size : Int) := by omega
  have HW0 := Lib.hid (show whenW (decide ((60000 : Int) < (s.size : Int))) 2 = 0 by rw [decide_eq_false hl2]; rfl)
  have HW1 := Lib.hid (show whenW false 2 = 0 from rfl)
  have HI0 := Lib.hid (show (if (0 : Int) = 0 then (0 : Int) else 0) = 0 from rfl)
  have C1 := Lib.hid (CK.out _ HB0.out)
  rw [hL0] at C1
  have CL := Lib.hid (fun W (hb : Below w.heap.size w W) => lines_any s W (HT.out.below hb) (by omega))
  have HBADX := Lib.hid (fun k (hk : k < (linesL s).length) h1 h2 => rp_bad (lib := lib) hL0 hL6 hk h1 h2)
  have HGOOD := Lib.hid (fun h1 => rp_good (lib := lib) hL0 hL6 h1)
  have hll : (linesL s).length ≤ 60001 := by have := linesL_le s; omega
  have hls : ∀ k (hk : k < (linesL s).length), (linesL s)[k].size ≤ 60000 := fun k hk => by have := linesL_size s _ (List.getElem_mem hk); omega
  have HRR := Lib.hid (show rpR lib s = ⟨lib, (linesL s).map untV⟩ from rfl)
  unfold LinesPost at CL
  generalize rpX lib s = rp at *
  generalize rpR lib s = rr at *
  generalize linesL s = L at *
  generalize linesW s = wh at *
  clear hL0 hL6 CK
  go_enter Tryz.func7, Tryz.ntmps7
  go_wp2_with fail
  refine C1.out.mono ?_
  rintro e1 w1 ⟨rfl, hb⟩
  have HB1 := Lib.hid (bt HB0.out hb)
  have BX1 := Lib.hid (BX0.out.below hb)
  have hlt1 := BX1.out.lt
  clear hb C1
  have HX := Lib.hid (HB1.out.alloc HB1.out.size (.cells #[.int .i64 0, .int .i64 0] 26))
  have BX := Lib.hid (BX1.out.alloc (.cells #[.int .i64 0, .int .i64 0] 26))
  go_upto_region 4 with (first
    | (go_at_call 17; (with_reducible refine (when_R _ _ _).mono ?_); rintro e w' ⟨rfl, rfl⟩; first | rw [HW0.out] | rw [HW1.out])
    | (go_at_call 15; (with_reducible refine (first2_00 _ _ (by simp) (by simp)).mono ?_); rintro e w' ⟨rfl, rfl⟩)
    | fail)
  obtain ⟨w2, hw2⟩ : ∃ w2 : World, w2 = w1.alloc (.cells #[.int .i64 0, .int .i64 0] 26) := ⟨_, rfl⟩
  rw [← hw2] at HX BX ⊢
  clear hw2 HW0 HW1 HI0 HB1 BX1 HB0 BX0
  go_wp2_with fail
  refine (CL.out _ HX.out).mono ?_
  rintro e1 w3 ⟨lo, lcap, rfl, hrow, hb⟩
  have HX3 := Lib.hid (bt HX.out hb)
  have BX3 := Lib.hid (BX.out.below hb)
  have hlt3 := BX3.out.lt
  have HROW := Lib.hid hrow
  clear hb hrow CL HX BX
  have HX4 := Lib.hid (HX3.out.alloc HX3.out.size (.cells #[.slice ao lib.length cap, .slice none 0 0] 25))
  have BX4 := Lib.hid (BX3.out.alloc (.cells #[.slice ao lib.length cap, .slice none 0 0] 25))
  have BR4 := Lib.hid (TBox.new w3 #[.slice ao lib.length cap, .slice none 0 0] 25)
  have HR4 := Lib.hid (show Below w3.heap.size w3 (w3.alloc (.cells #[.slice ao lib.length cap, .slice none 0 0] 25)) from (Below.refl _ _).alloc (Nat.le_refl _) _)
  go_upto_region 6 with fail
  obtain ⟨w4, hw4⟩ : ∃ w4 : World, w4 = w3.alloc (.cells #[.slice ao lib.length cap, .slice none 0 0] 25) := ⟨_, rfl⟩
  have hz4 : w4.heap.size = w3.heap.size + 1 := by rw [hw4]; simp
  rw [← hw4] at HX4 BX4 BR4 HR4 ⊢
  clear hw4
  go_wp2_with fail
  go_loopw [41] (fun i wr => ∃ k : Nat, k ≤ L.length ∧ i = .int .i64 k ∧ Hid (∀ j, j < k → ¬ BadU wh L j) ∧ ∃ ov, Hid (OwnU w4.heap.size wr ov ((L.take k).map untV)) ∧ Hid (TBox wr w3.heap.size 25 #[.slice ao lib.length cap, ov]) ∧ Hid (TBox wr w.heap.size 25 #[.slice none 0 0, .slice none 0 0]) ∧ Hid (Below w.heap.size w wr) ∧ Hid (Below w3.heap.size w3 wr)) (fun i _ => L.length - (intOf i).toNat)
  case atStart => exact ⟨0, Nat.zero_le _, rfl, Lib.hid (fun j hj => absurd hj (Nat.not_lt_zero j)), .slice none 0 0, Lib.hid (OwnU.nil _ _), BR4, BX4, HX4, HR4⟩
  case round =>
    obtain ⟨k, hk, rfl, HOK, ov, HOW, B2, B1, HB, HB3⟩ := hrel
    have hzw := HB3.out.size
    have hb2w := B2.out.lt
    have hb1w := B1.out.lt
    by_cases hlt : k < L.length
    · obtain ⟨hao, hg, hrw⟩ := HROW.out (by intro e; subst e; simp at hlt)
      subst hao
      have hck := hrw k hlt
      rw [Nat.zero_add] at hck
      have d0 : wr.cell? ⟨w2.heap.size, k, none⟩ = some (.string L[k]) := (HB3.out.cell (p := ⟨w2.heap.size, k, none⟩) hg).trans hck
      have hgr : w2.heap.size < wr.heap.size := by omega
      have hxs := hls k hlt
      have HTW := Lib.hid (HT.out.below HB.out)
      have CS := Lib.hid (split_any 32 L[k] wr HTW.out (by omega))
      unfold SplitPost at CS
      have HWS := Lib.hid (wordsB_size 32 L[k])
      have hwle : (wordsB 32 L[k]).length ≤ 60001 := by have := wordsB_le 32 L[k]; omega
      have hwpos := wordsB_pos 32 L[k]
      have HBAD := Lib.hid (show ¬ LineU L[k] ∨ (wh = false ∧ k + 1 = L.length) → rp = (9, (k : Int) + 1, noRigP) from fun h => HBADX.out k hlt HOK.out (by
        rcases h with h | h
        · exact .inl ⟨hlt, h⟩
        · exact .inr h))
      have HNX := Lib.hid (fun (h : LineU L[k]) (h2 : ¬ (wh = false ∧ k + 1 = L.length)) => show ∀ j, j < k + 1 → ¬ BadU wh L j from fun j hj => by
        by_cases e : j = k
        · subst e
          rintro (⟨_, h3⟩ | h3)
          · exact h3 h
          · exact h2 h3
        · exact HOK.out j (by omega))
      have HMT := Lib.hid (map_takeU untV L k hlt)
      have hn1 : ((List.take k L).map untV).length ≤ 10000000 := by rw [List.length_map, List.length_take]; omega
      have HL3 := Lib.hid (fun a b c (h : wordsB 32 L[k] = [a, b, c]) => line_three h)
      have HLN := Lib.hid (show LineU L[k] → (wordsB 32 L[k]).length = 3 from fun h => h.len)
      clear hck hrw
      generalize untV L[k] = UV at *
      generalize LineU L[k] = LK at *
      generalize wordsB 32 L[k] = WL at *
      generalize L[k] = lk at *
      go_wp2_with fail
      refine CS.out.mono ?_
      rintro e1 w5 ⟨rfl, hr, hb, hlt5⟩
      have HR := Lib.hid hb
      clear hb CS d0 HTW
      by_cases h3 : WL.length = 3
      rotate_left
      · have HG := Lib.hid (HBAD.out (.inl fun h => h3 (HLN.out h)))
        have h3i : (((WL.length : Nat) : Int) != 3) = true := by simp; omega
        have h3j : ¬ ((WL.length : Nat) : Int) = 3 := by omega
        clear HBAD HNX hr h3
        have HX := Lib.hid (HB.out.trans (HR.out.mono HB.out.size))
        have BX := B1.out.below HR.out
        have q0 := BX.cell (i := 0) rfl
        have q1 := BX.cell (i := 1) rfl
        have f0 := BX.frozen 0
        have f1 := BX.frozen 1
        go_wp2_with fail
        have BY : TBox ((w5.setCell ⟨w.heap.size, 0, none⟩ (.slice none 0 0)).setCell ⟨w.heap.size, 1, none⟩ (.slice none 0 0)) w.heap.size 25 #[.slice none 0 0, .slice none 0 0] := (BX.set 0 (.slice none 0 0)).set 1 (.slice none 0 0)
        have HY : Below w.heap.size w ((w5.setCell ⟨w.heap.size, 0, none⟩ (.slice none 0 0)).setCell ⟨w.heap.size, 1, none⟩ (.slice none 0 0)) := (HX.out.setCell (Nat.le_refl _) _).setCell (Nat.le_refl _) _
        have R0 := BY.cell (i := 0) rfl
        have R1 := BY.cell (i := 1) rfl
        generalize (w5.setCell ⟨w.heap.size, 0, none⟩ (.slice none 0 0)).setCell ⟨w.heap.size, 1, none⟩ (.slice none 0 0) = W9 at *
        exact bodyPost_ret (v := .tuple #[.agg #[.slice none 0 0, .slice none 0 0], .int .i64 ((k : Int) + 1), .int .i64 9]) (by simp [results, Tryz.results7, go_sem, R0, R1]) rfl (HPO.out _ _ ⟨.slice none 0 0, .slice none 0 0, by rw [HG.out]; rfl, by rw [HG.out]; exact norig_at _ _, HY⟩)
      obtain ⟨a, b, c, rfl⟩ := list3 h3
      have r0 : w5.cell? ⟨wr.heap.size, 0, none⟩ = some (.string a) := hr 0 (by simp)
      have r1 : w5.cell? ⟨wr.heap.size, 1, none⟩ = some (.string b) := hr 1 (by simp)
      have r2 : w5.cell? ⟨wr.heap.size, 2, none⟩ = some (.string c) := hr 2 (by simp)
      obtain ⟨hok3, huv⟩ := HL3.out a b c rfl
      have HK3 := Lib.hid hok3
      have HUV := Lib.hid huv
      have sa : a.size ≤ 60000 := by have := HWS.out a (by simp); omega
      have sb : b.size ≤ 60000 := by have := HWS.out b (by simp); omega
      have sc : c.size ≤ 60000 := by have := HWS.out c (by simp); omega
      have HRW := Lib.hid (fun W => row_any b W (by unfold maxLen; omega))
      clear hr h3 HL3 HLN HWS hok3 huv hwle hwpos
      by_cases hwl : wh = false ∧ k + 1 = L.length
      · have HG := Lib.hid (HBAD.out (.inr hwl))
        obtain ⟨hwf, hkl⟩ := hwl
        have hkk : ((L.length : Nat) : Int) - 1 = k := by omega
        subst hwf
        clear HBAD HNX hkl
        have HX := Lib.hid (HB.out.trans (HR.out.mono HB.out.size))
        have BX := B1.out.below HR.out
        have q0 := BX.cell (i := 0) rfl
        have q1 := BX.cell (i := 1) rfl
        have f0 := BX.frozen 0
        have f1 := BX.frozen 1
        go_wp2_with fail
        have BY : TBox ((w5.setCell ⟨w.heap.size, 0, none⟩ (.slice none 0 0)).setCell ⟨w.heap.size, 1, none⟩ (.slice none 0 0)) w.heap.size 25 #[.slice none 0 0, .slice none 0 0] := (BX.set 0 (.slice none 0 0)).set 1 (.slice none 0 0)
        have HY : Below w.heap.size w ((w5.setCell ⟨w.heap.size, 0, none⟩ (.slice none 0 0)).setCell ⟨w.heap.size, 1, none⟩ (.slice none 0 0)) := (HX.out.setCell (Nat.le_refl _) _).setCell (Nat.le_refl _) _
        have R0 := BY.cell (i := 0) rfl
        have R1 := BY.cell (i := 1) rfl
        generalize (w5.setCell ⟨w.heap.size, 0, none⟩ (.slice none 0 0)).setCell ⟨w.heap.size, 1, none⟩ (.slice none 0 0) = W9 at *
        exact bodyPost_ret (v := .tuple #[.agg #[.slice none 0 0, .slice none 0 0], .int .i64 ((k : Int) + 1), .int .i64 9]) (by simp [results, Tryz.results7, go_sem, R0, R1]) rfl (HPO.out _ _ ⟨.slice none 0 0, .slice none 0 0, by rw [HG.out]; rfl, by rw [HG.out]; exact norig_at _ _, HY⟩)
      have hwc : wh = true ∨ (wh = false ∧ ¬ ((k : Int) = (L.length : Int) - 1)) := by
        cases wh
        · right
          refine ⟨rfl, fun h => hwl ⟨rfl, by omega⟩⟩
        · left; rfl
      have HNX := Lib.hid (fun h => HNX.out h hwl)
      obtain ⟨nv, nb, n1, n2, n3⟩ := num_nb a (by omega)
      obtain ⟨pb, p1, p3⟩ := pair_pb c (by omega)
      have CN := Lib.hid n3
      have CP := Lib.hid p3
      have HROWB := Lib.hid (show rowB b.data.toList = rowB b.data.toList from rfl)
      have HLK := Lib.hid (show rowB b.data.toList = true → nb = true → pb = true → LK from fun h1 h2 h3 => HK3.out.2 ⟨h1, n1.1 h2, p1.1 h3⟩)
      have HLR := Lib.hid (show LK → rowB b.data.toList = true ∧ nb = true ∧ pb = true from fun h => ⟨(HK3.out.1 h).1, n1.2 (HK3.out.1 h).2.1, p1.2 (HK3.out.1 h).2.2⟩)
      have HNV := Lib.hid n2
      generalize rowB b.data.toList = rb at *
      clear n1 n2 n3 p1 p3 HK3 HROWB hwl
      rcases hwc with rfl | ⟨rfl, hkn⟩
      all_goals
        cases rb
        · have HG := Lib.hid (HBAD.out (.inl fun h => absurd (HLR.out h).1 (by decide)))
          clear HBAD HNX HLK HLR HUV
          go_wp2_with fail
          refine (HRW.out _).mono ?_
          rintro e1 w' ⟨rfl, rfl⟩
          have HX := Lib.hid (HB.out.trans (HR.out.mono HB.out.size))
          have BX := B1.out.below HR.out
          have q0 := BX.cell (i := 0) rfl
          have q1 := BX.cell (i := 1) rfl
          have f0 := BX.frozen 0
          have f1 := BX.frozen 1
          go_wp2_with fail
          have BY : TBox ((w5.setCell ⟨w.heap.size, 0, none⟩ (.slice none 0 0)).setCell ⟨w.heap.size, 1, none⟩ (.slice none 0 0)) w.heap.size 25 #[.slice none 0 0, .slice none 0 0] := (BX.set 0 (.slice none 0 0)).set 1 (.slice none 0 0)
          have HY : Below w.heap.size w ((w5.setCell ⟨w.heap.size, 0, none⟩ (.slice none 0 0)).setCell ⟨w.heap.size, 1, none⟩ (.slice none 0 0)) := (HX.out.setCell (Nat.le_refl _) _).setCell (Nat.le_refl _) _
          have R0 := BY.cell (i := 0) rfl
          have R1 := BY.cell (i := 1) rfl
          generalize (w5.setCell ⟨w.heap.size, 0, none⟩ (.slice none 0 0)).setCell ⟨w.heap.size, 1, none⟩ (.slice none 0 0) = W9 at *
          exact bodyPost_ret (v := .tuple #[.agg #[.slice none 0 0, .slice none 0 0], .int .i64 ((k : Int) + 1), .int .i64 9]) (by simp [results, Tryz.results7, go_sem, R0, R1]) rfl (HPO.out _ _ ⟨.slice none 0 0, .slice none 0 0, by rw [HG.out]; rfl, by rw [HG.out]; exact norig_at _ _, HY⟩)
        cases nb
        · have HG := Lib.hid (HBAD.out (.inl fun h => absurd (HLR.out h).2.1 (by decide)))
          clear HBAD HNX HLK HLR HUV
          go_wp2_with fail
          refine (HRW.out _).mono ?_
          rintro e1 w' ⟨rfl, rfl⟩
          go_wp2_with fail
          refine (CN.out _).mono ?_
          rintro e1 w6 ⟨rfl, hb⟩
          have HR := Lib.hid (bt HR.out hb)
          have r1 := (hb.cell (p := ⟨wr.heap.size, 1, none⟩) hlt5).trans r1
          have r2 := (hb.cell (p := ⟨wr.heap.size, 2, none⟩) hlt5).trans r2
          have hlt5 : wr.heap.size < w6.heap.size := Nat.lt_of_lt_of_le hlt5 hb.size
          clear hb
          go_wp2_with fail
          refine (CP.out _).mono ?_
          rintro e1 w7 ⟨pn, pm, rfl, hpv, hb⟩
          have HPV := Lib.hid hpv
          clear hpv
          have HR := Lib.hid (bt HR.out hb)
          have r1 := (hb.cell (p := ⟨wr.heap.size, 1, none⟩) hlt5).trans r1
          have hlt5 : wr.heap.size < w7.heap.size := Nat.lt_of_lt_of_le hlt5 hb.size
          clear hb
          have HX := Lib.hid (HB.out.trans (HR.out.mono HB.out.size))
          have BX := B1.out.below HR.out
          have q0 := BX.cell (i := 0) rfl
          have q1 := BX.cell (i := 1) rfl
          have f0 := BX.frozen 0
          have f1 := BX.frozen 1
          go_wp2_with fail
          have BY : TBox ((w7.setCell ⟨w.heap.size, 0, none⟩ (.slice none 0 0)).setCell ⟨w.heap.size, 1, none⟩ (.slice none 0 0)) w.heap.size 25 #[.slice none 0 0, .slice none 0 0] := (BX.set 0 (.slice none 0 0)).set 1 (.slice none 0 0)
          have HY : Below w.heap.size w ((w7.setCell ⟨w.heap.size, 0, none⟩ (.slice none 0 0)).setCell ⟨w.heap.size, 1, none⟩ (.slice none 0 0)) := (HX.out.setCell (Nat.le_refl _) _).setCell (Nat.le_refl _) _
          have R0 := BY.cell (i := 0) rfl
          have R1 := BY.cell (i := 1) rfl
          generalize (w7.setCell ⟨w.heap.size, 0, none⟩ (.slice none 0 0)).setCell ⟨w.heap.size, 1, none⟩ (.slice none 0 0) = W9 at *
          exact bodyPost_ret (v := .tuple #[.agg #[.slice none 0 0, .slice none 0 0], .int .i64 ((k : Int) + 1), .int .i64 9]) (by simp [results, Tryz.results7, go_sem, R0, R1]) rfl (HPO.out _ _ ⟨.slice none 0 0, .slice none 0 0, by rw [HG.out]; rfl, by rw [HG.out]; exact norig_at _ _, HY⟩)
        cases pb
        · have HG := Lib.hid (HBAD.out (.inl fun h => absurd (HLR.out h).2.2 (by decide)))
          clear HBAD HNX HLK HLR HUV
          go_wp2_with fail
          refine (HRW.out _).mono ?_
          rintro e1 w' ⟨rfl, rfl⟩
          go_wp2_with fail
          refine (CN.out _).mono ?_
          rintro e1 w6 ⟨rfl, hb⟩
          have HR := Lib.hid (bt HR.out hb)
          have r1 := (hb.cell (p := ⟨wr.heap.size, 1, none⟩) hlt5).trans r1
          have r2 := (hb.cell (p := ⟨wr.heap.size, 2, none⟩) hlt5).trans r2
          have hlt5 : wr.heap.size < w6.heap.size := Nat.lt_of_lt_of_le hlt5 hb.size
          clear hb
          go_wp2_with fail
          refine (CP.out _).mono ?_
          rintro e1 w7 ⟨pn, pm, rfl, hpv, hb⟩
          have HPV := Lib.hid hpv
          clear hpv
          have HR := Lib.hid (bt HR.out hb)
          have r1 := (hb.cell (p := ⟨wr.heap.size, 1, none⟩) hlt5).trans r1
          have hlt5 : wr.heap.size < w7.heap.size := Nat.lt_of_lt_of_le hlt5 hb.size
          clear hb
          have HX := Lib.hid (HB.out.trans (HR.out.mono HB.out.size))
          have BX := B1.out.below HR.out
          have q0 := BX.cell (i := 0) rfl
          have q1 := BX.cell (i := 1) rfl
          have f0 := BX.frozen 0
          have f1 := BX.frozen 1
          go_wp2_with fail
          have BY : TBox ((w7.setCell ⟨w.heap.size, 0, none⟩ (.slice none 0 0)).setCell ⟨w.heap.size, 1, none⟩ (.slice none 0 0)) w.heap.size 25 #[.slice none 0 0, .slice none 0 0] := (BX.set 0 (.slice none 0 0)).set 1 (.slice none 0 0)
          have HY : Below w.heap.size w ((w7.setCell ⟨w.heap.size, 0, none⟩ (.slice none 0 0)).setCell ⟨w.heap.size, 1, none⟩ (.slice none 0 0)) := (HX.out.setCell (Nat.le_refl _) _).setCell (Nat.le_refl _) _
          have R0 := BY.cell (i := 0) rfl
          have R1 := BY.cell (i := 1) rfl
          generalize (w7.setCell ⟨w.heap.size, 0, none⟩ (.slice none 0 0)).setCell ⟨w.heap.size, 1, none⟩ (.slice none 0 0) = W9 at *
          exact bodyPost_ret (v := .tuple #[.agg #[.slice none 0 0, .slice none 0 0], .int .i64 ((k : Int) + 1), .int .i64 9]) (by simp [results, Tryz.results7, go_sem, R0, R1]) rfl (HPO.out _ _ ⟨.slice none 0 0, .slice none 0 0, by rw [HG.out]; rfl, by rw [HG.out]; exact norig_at _ _, HY⟩)
        have HNK := Lib.hid (HNX.out (HLK.out rfl rfl rfl))
        clear HBAD HNX HLK HLR
        go_wp2_with fail
        refine (HRW.out _).mono ?_
        rintro e1 w' ⟨rfl, rfl⟩
        go_wp2_with fail
        refine (CN.out _).mono ?_
        rintro e1 w6 ⟨rfl, hb⟩
        have HR := Lib.hid (bt HR.out hb)
        have r1 := (hb.cell (p := ⟨wr.heap.size, 1, none⟩) hlt5).trans r1
        have r2 := (hb.cell (p := ⟨wr.heap.size, 2, none⟩) hlt5).trans r2
        have hlt5 : wr.heap.size < w6.heap.size := Nat.lt_of_lt_of_le hlt5 hb.size
        clear hb
        go_wp2_with fail
        refine (CP.out _).mono ?_
        rintro e1 w7 ⟨pn, pm, rfl, hpv, hb⟩
        have HPV := Lib.hid hpv
        clear hpv
        have HR := Lib.hid (bt HR.out hb)
        have r1 := (hb.cell (p := ⟨wr.heap.size, 1, none⟩) hlt5).trans r1
        have hlt5 : wr.heap.size < w7.heap.size := Nat.lt_of_lt_of_le hlt5 hb.size
        clear hb
        have HVG := Lib.hid (show UV = ⟨nv, b, pn, pm⟩ by
          obtain ⟨e3, e4⟩ := HPV.out (by trivial)
          rw [HUV.out, HNV.out (by trivial), e3, e4])
        clear HPV HUV HNV
        go_upto_region 16 with fail
        have HX := Lib.hid (HB.out.trans (HR.out.mono HB.out.size))
        have HX3 := Lib.hid (HB3.out.trans (HR.out.mono HB3.out.size))
        have B1r := B1.out.below HR.out
        have B2r := B2.out.below HR.out
        have HOW7 := Lib.hid (HOW.out.below HR.out)
        generalize (List.take k L).map untV = GL at *
        obtain ⟨oa, oc, rfl⟩ := HOW7.out.shape
        have u1 := B2r.cell (i := 1) rfl
        have hb7 := B2r.lt
        have OW1 := Lib.hid (HOW7.out.drew.below ((Below.refl _ _).alloc (Nat.le_refl _) (.cells #[.int .i64 nv, .string b, .int .i64 pn, .int .i64 pm] 51)))
        have OW2 := Lib.hid ((HOW7.out.below ((Below.refl _ _).alloc (Nat.le_refl _) (.cells #[.int .i64 nv, .string b, .int .i64 pn, .int .i64 pm] 51))).drew)
        have T21 := Lib.hid ((show TBox w7.drew w3.heap.size 25 #[.slice ao lib.length cap, .slice oa GL.length oc] from B2r).alloc (.cells #[.int .i64 nv, .string b, .int .i64 pn, .int .i64 pm] 51))
        have T22 := Lib.hid (show TBox (w7.alloc (.cells #[.int .i64 nv, .string b, .int .i64 pn, .int .i64 pm] 51)).drew w3.heap.size 25 #[.slice ao lib.length cap, .slice oa GL.length oc] from B2r.alloc (.cells #[.int .i64 nv, .string b, .int .i64 pn, .int .i64 pm] 51))
        have T11 := Lib.hid ((show TBox w7.drew w.heap.size 25 #[.slice none 0 0, .slice none 0 0] from B1r).alloc (.cells #[.int .i64 nv, .string b, .int .i64 pn, .int .i64 pm] 51))
        have T12 := Lib.hid (show TBox (w7.alloc (.cells #[.int .i64 nv, .string b, .int .i64 pn, .int .i64 pm] 51)).drew w.heap.size 25 #[.slice none 0 0, .slice none 0 0] from B1r.alloc (.cells #[.int .i64 nv, .string b, .int .i64 pn, .int .i64 pm] 51))
        have hz7 : w4.heap.size ≤ w7.heap.size := by have := HX3.out.size; omega
        have hww : w.heap.size < w3.heap.size := by omega
        go_region_law (first
          | (refine step_unt rfl _ _ rfl rfl w4.heap.size _ GL ⟨nv, b, pn, pm⟩ ⟨w7.heap.size, 0, none⟩ rfl rfl (by first | exact OW1.out | exact OW2.out) (by first | exact ownU_new w7 ⟨nv, b, pn, pm⟩ _ | exact ownU_new w7.drew ⟨nv, b, pn, pm⟩ _) hn1 (by simp; omega) ?_
             intro v' w8 hown8 hgrow
             obtain ⟨oa8, oc8, rfl⟩ := hown8.shape
             have BR8 : TBox w8 w3.heap.size 25 #[.slice ao lib.length cap, .slice oa GL.length oc] := by first | exact (Other.row OW1.out hgrow).tbox T21.out (by decide) | exact (Other.row OW2.out hgrow).tbox T22.out (by decide)
             have BS8 : TBox w8 w.heap.size 25 #[.slice none 0 0, .slice none 0 0] := by first | exact (Other.row OW1.out hgrow).tbox T11.out (by decide) | exact (Other.row OW2.out hgrow).tbox T12.out (by decide)
             have z1 := BR8.cell (i := 1) rfl
             have y1 := BR8.frozen 1)
          | fail)
        all_goals
          rw [show (GL ++ [(⟨nv, b, pn, pm⟩ : Unt)]).length = GL.length + 1 by simp] at hown8
          have HO9 := Lib.hid (show OwnU w4.heap.size (w8.setCell ⟨w3.heap.size, 1, none⟩ (.slice oa8 (GL.length + 1) oc8)) (.slice oa8 (GL.length + 1) oc8) ((List.take (k + 1) L).map untV) by rw [HMT.out, HVG.out]; exact hown8.other (Other.box BR8 _) (by decide))
          have HR9 := Lib.hid (show TBox (w8.setCell ⟨w3.heap.size, 1, none⟩ (.slice oa8 (GL.length + 1) oc8)) w3.heap.size 25 #[.slice ao lib.length cap, .slice oa8 (GL.length + 1) oc8] from BR8.set 1 _)
          have HS9 := Lib.hid (BS8.setOther (i := 1) (show w.heap.size ≠ w3.heap.size by omega) (.slice oa8 (GL.length + 1) oc8))
          have HB9 : Hid (Below w.heap.size w (w8.setCell ⟨w3.heap.size, 1, none⟩ (.slice oa8 (GL.length + 1) oc8))) := Lib.hid (Below.setCell (by
            first
              | exact OW1.out.keeps (HX.out.drew.alloc HX.out.size (.cells #[.int .i64 nv, .string b, .int .i64 pn, .int .i64 pm] 51)) hgrow (by omega) (by simp; omega)
              | exact OW2.out.keeps (HX.out.alloc HX.out.size (.cells #[.int .i64 nv, .string b, .int .i64 pn, .int .i64 pm] 51)).drew hgrow (by omega) (by simp; omega)) (by show w.heap.size ≤ w3.heap.size; omega) _)
          have HC9 : Hid (Below w3.heap.size w3 (w8.setCell ⟨w3.heap.size, 1, none⟩ (.slice oa8 (GL.length + 1) oc8))) := Lib.hid (Below.setCell (by
            first
              | exact OW1.out.keeps (HX3.out.drew.alloc HX3.out.size (.cells #[.int .i64 nv, .string b, .int .i64 pn, .int .i64 pm] 51)) hgrow (by omega) (by simp; omega)
              | exact OW2.out.keeps (HX3.out.alloc HX3.out.size (.cells #[.int .i64 nv, .string b, .int .i64 pn, .int .i64 pm] 51)).drew hgrow (by omega) (by simp; omega)) (Nat.le_refl w3.heap.size) _)
          clear hown8 hgrow OW1 OW2 HOW7 HOW T11 T12 T21 T22 BR8 BS8 z1 y1 B1r B2r HX HX3 r1 u1 B1 B2 HB HB3 HR HMT HVG HOK
          generalize w8.setCell ⟨w3.heap.size, 1, none⟩ (.slice oa8 (GL.length + 1) oc8) = w9 at *
          go_wp2
          go_roundw
          case rel =>
            first
              | exact ⟨k + 1, by omega, by go_num, HNK, _, HO9, HR9, HS9, HB9, HC9⟩
              | ((repeat apply Exists.intro); refine ⟨⟨k + 1, by omega, by go_num, HNK, _, HO9, HR9, HS9, HB9, HC9⟩, ?_⟩; rfl)
          case measure => simp [intOf]; omega
    · have hkk : k = L.length := by omega
      subst hkk
      have HGD := Lib.hid (HGOOD.out (fun j hj => HOK.out j hj))
      rw [List.take_length] at HOW
      have HFU : Hid (RigFit rr) := Lib.hid (by
        rw [HRR.out]
        refine ⟨HF.out, fun u hu => ?_⟩
        obtain ⟨y, hy, rfl⟩ := List.mem_map.1 hu
        obtain ⟨j, hj, rfl⟩ := List.mem_iff_getElem.1 hy
        exact unt_fit (Classical.not_not.1 fun h => HOK.out j hj (.inl ⟨hj, h⟩)) (hls j hj))
      have HRA : Hid (RigAt wr.heap.size wr rr (.slice ao lib.length cap) ov) := Lib.hid (by
        rw [HRR.out]
        exact ⟨(HLIB.out.below HB.out).more HB.out.size, HOW.out.untS⟩)
      generalize L.map untV = GL at *
      obtain ⟨oa, oc, rfl⟩ := HOW.out.shape
      have CR := Lib.hid (ckRig_any rr _ _ wr HRA.out HFU.out)
      have CY := Lib.hid (fun (hE : chkRig rr = 0) W (hb : Below wr.heap.size wr W) => copied_any rr _ _ W ((HRA.out.below hb).more hb.size) (rig_sizesP hE))
      unfold rigV at CR CY
      have b0 := B2.out.cell (i := 0) rfl
      have b1 := B2.out.cell (i := 1) rfl
      clear HGOOD HBADX HROW HOK hls HRR HFU HRA HOW
      by_cases hE : chkRig rr = 0
      rotate_left
      · rw [if_neg hE] at HGD
        have he2 : (chkRig rr == 0) = false := by simpa using hE
        clear CY
        generalize chkRig rr = cr at *
        go_wp2_with fail
        refine CR.out.mono ?_
        rintro e w5 ⟨rfl, hb⟩
        have HX := Lib.hid (HB.out.trans (hb.mono HB.out.size))
        have BX := B1.out.below hb
        have q0 := BX.cell (i := 0) rfl
        have q1 := BX.cell (i := 1) rfl
        have f0 := BX.frozen 0
        have f1 := BX.frozen 1
        clear hb
        go_wp2_with fail
        have BY : TBox ((w5.setCell ⟨w.heap.size, 0, none⟩ (.slice none 0 0)).setCell ⟨w.heap.size, 1, none⟩ (.slice none 0 0)) w.heap.size 25 #[.slice none 0 0, .slice none 0 0] := (BX.set 0 (.slice none 0 0)).set 1 (.slice none 0 0)
        have HY : Below w.heap.size w ((w5.setCell ⟨w.heap.size, 0, none⟩ (.slice none 0 0)).setCell ⟨w.heap.size, 1, none⟩ (.slice none 0 0)) := (HX.out.setCell (Nat.le_refl _) _).setCell (Nat.le_refl _) _
        have R0 := BY.cell (i := 0) rfl
        have R1 := BY.cell (i := 1) rfl
        generalize (w5.setCell ⟨w.heap.size, 0, none⟩ (.slice none 0 0)).setCell ⟨w.heap.size, 1, none⟩ (.slice none 0 0) = W9 at *
        exact bodyPost_ret (v := .tuple #[.agg #[.slice none 0 0, .slice none 0 0], .int .i64 0, .int .i64 cr]) (by simp [results, Tryz.results7, go_sem, R0, R1]) rfl (HPO.out _ _ ⟨.slice none 0 0, .slice none 0 0, by rw [HGD.out]; rfl, by rw [HGD.out]; exact norig_at _ _, HY⟩)
      · rw [if_pos hE] at HGD
        rw [hE] at CR
        go_wp2_with fail
        refine CR.out.mono ?_
        rintro e w5 ⟨rfl, hb⟩
        have CY2 := Lib.hid (CY.out hE _ hb)
        have HX := Lib.hid (HB.out.trans (hb.mono HB.out.size))
        have BX5 := Lib.hid (B1.out.below hb)
        have BR5 := B2.out.below hb
        have d0 := BR5.cell (i := 0) rfl
        have d1 := BR5.cell (i := 1) rfl
        clear hb CY CR b0 b1
        go_wp2_with fail
        refine CY2.out.mono ?_
        rintro e w6 ⟨lv', uv', rfl, hl', hu', hb⟩
        obtain ⟨la, lc, rfl⟩ := hl'.shape
        obtain ⟨ua, uc, rfl⟩ := hu'.shape
        have HX6 := Lib.hid (HX.out.trans (hb.mono HX.out.size))
        have BX := BX5.out.below hb
        have q0 := BX.cell (i := 0) rfl
        have q1 := BX.cell (i := 1) rfl
        have f0 := BX.frozen 0
        have f1 := BX.frozen 1
        have HL9 := Lib.hid (resL hl' BX (.slice la rr.lib.length lc) (.slice ua rr.units.length uc))
        have HU9 := Lib.hid (resU hu' BX (.slice la rr.lib.length lc) (.slice ua rr.units.length uc))
        have BY : TBox ((w6.setCell ⟨w.heap.size, 0, none⟩ (.slice la rr.lib.length lc)).setCell ⟨w.heap.size, 1, none⟩ (.slice ua rr.units.length uc)) w.heap.size 25 #[.slice la rr.lib.length lc, .slice ua rr.units.length uc] := (BX.set 0 _).set 1 _
        have HY : Below w.heap.size w ((w6.setCell ⟨w.heap.size, 0, none⟩ (.slice la rr.lib.length lc)).setCell ⟨w.heap.size, 1, none⟩ (.slice ua rr.units.length uc)) := (HX6.out.setCell (Nat.le_refl _) _).setCell (Nat.le_refl _) _
        clear hb hl' hu' HX HX6 BX5
        go_wp2_with fail
        have R0 := BY.cell (i := 0) rfl
        have R1 := BY.cell (i := 1) rfl
        generalize (w6.setCell ⟨w.heap.size, 0, none⟩ (.slice la rr.lib.length lc)).setCell ⟨w.heap.size, 1, none⟩ (.slice ua rr.units.length uc) = W9 at *
        exact bodyPost_ret (v := .tuple #[.agg #[.slice la rr.lib.length lc, .slice ua rr.units.length uc], .int .i64 0, .int .i64 0]) (by simp [results, Tryz.results7, go_sem, R0, R1]) rfl (HPO.out _ _ ⟨.slice la rr.lib.length lc, .slice ua rr.units.length uc, by rw [HGD.out]; rfl, by rw [HGD.out]; exact ⟨HL9.out.prfS, HU9.out.untS⟩, HY⟩)
end Go.Proofs.YtppbagllhmeenaaGreatDoor
