/- The reference's ReadPatch at any text. (printed by wip/gen/gen_rpatch.py) -/
import Derived.Test.YtppbagllhmeenaaGreatDoorT62M32
import Derived.Test.YtppbagllhmeenaaGreatDoorT62M35
import Derived.Test.YtppbagllhmeenaaGreatDoorT62M36
import Derived.Test.YtppbagllhmeenaaGreatDoorT62M40

namespace Go.Proofs.YtppbagllhmeenaaGreatDoor
open Go.RowKit
open Go.ChangeShapes
set_option linter.unusedVariables false
set_option linter.unusedSimpArgs false
theorem wpList_ownU {w : World} {ops : Array Oper} {rest : List Oper} {o : Oper} {a : Act} {Q : Exit → Act → World → Prop} (hgd : o.guard = none) (s x : Operand)
    (hop : o.op = .call { callee := .builtin .append, args := #[s, x], argTypes := #[23, 23] })
    (base c : Nat) (v : Value) (l : List Unt) (y : Unt) (ad : Addr) (hs : a.eval s = v) (hx : a.eval x = .slice (some ad) 1 c)
    (ho : OwnU base w v l) (hc : ∀ (j : Nat) u, (untC y)[j]? = some u → w.cell? (ad.add j) = some u) (hl : l.length ≤ 10000000) (hb : base ≤ w.heap.size)
    (h : ∀ v' w', OwnU base w' v' (l ++ [y]) → w.grownBy w' v.ownBlock → wpList Tryz.prog ops Q rest (a.put o.dst v') w') : wpList Tryz.prog ops Q (o :: rest) a w := by
  obtain ⟨i0, hi, hz0, hz1, hz2⟩ := info_parts infoOwnUt
  refine wpList_append_own w hgd s x 23 hop base 51 i0 (.agg #[.int .i64 0, .string ⟨#[]⟩, .int .i64 0, .int .i64 0]) 4 40 Tryz.underlying23 hi hz0 hz1 hz2 rfl (by decide) v l.length (l.flatMap untC) hs ho ad 1 c (untC y) hx rfl hc (by intro u hu; simp [untC] at hu; rcases hu with rfl | rfl | rfl | rfl <;> rfl) (by unfold maxLen; omega) (by omega) hb ?_
  intro v' w' h1 h2 _
  refine h v' w' ?_ h2
  unfold OwnU
  rw [List.flatMap_append, List.length_append]
  simpa using h1

set_option maxRecDepth 100000 in
set_option maxHeartbeats 16000000 in
theorem rreadPatch_any (lib : List Prf) (lv : Value) (s : ByteArray) (w : World) (hT : TextW w) (hn : s.size ≤ 9223372036854775807) (hl : PrfS w.heap.size w lv lib) (hf : ∀ p ∈ lib, PrfFit p) :
    Calls Tryz.prog 8 #[lv, .string s] w (RpPost w lib s) := by
  have HPO := Lib.hid (show ∀ e w', (∃ lv uv, e = .returned (.tuple #[rigV lv uv, .int .i64 (rpX lib s).2.1, .int .i64 (rpX lib s).1]) ∧ RigAt w'.heap.size w' (rpX lib s).2.2 lv uv ∧ Below w.heap.size w w') → RpPost w lib s e w' from fun e w' h => h)
  have CK := Lib.hid (fun W (hb : Below w.heap.size w W) => rckLibrary_any lv lib W ((hl.below hb).more hb.size) hf)
  have HLIB := Lib.hid hl
  have HF := Lib.hid hf
  have HT := Lib.hid hT
  obtain ⟨ao, cap, rfl⟩ := prfS_shape hl
  generalize RpPost w lib s = PO at *
  clear hl hf hT
  have HB0 := Lib.hid (show Below w.heap.size w (w.alloc (.cells #[.slice none 0 0, .slice none 0 0] 25)) from (Below.refl _ _).alloc (Nat.le_refl _) _)
  have BX0 := Lib.hid (TBox.new w #[.slice none 0 0, .slice none 0 0] 25)
  have C1 := Lib.hid (CK.out _ HB0.out)
  by_cases h1 : chkLib lib = 0
  rotate_left
  · have HRP := Lib.hid (rp_lib (s := s) h1)
    have he2 : (chkLib lib == 0) = false := by simpa using h1
    clear CK
    generalize chkLib lib = cl at *
    generalize rpX lib s = rp at *
    go_enter Tryz.func8, Tryz.ntmps8
    go_wp2_with fail
    refine C1.out.mono ?_
    rintro e1 w1 ⟨rfl, hb⟩
    have HX := Lib.hid (bt HB0.out hb)
    have BX := BX0.out.below hb
    have q0 := BX.cell (i := 0) rfl
    have f0 := BX.frozen 0
    have q1 := BX.cell (i := 1) rfl
    have f1 := BX.frozen 1
    clear hb C1
    go_wp2_with fail
    have BY : TBox ((w1.setCell ⟨w.heap.size, 0, none⟩ (.slice none 0 0)).setCell ⟨w.heap.size, 1, none⟩ (.slice none 0 0)) w.heap.size 25 #[.slice none 0 0, .slice none 0 0] := (BX.set 0 (.slice none 0 0)).set 1 (.slice none 0 0)
    have HY : Below w.heap.size w ((w1.setCell ⟨w.heap.size, 0, none⟩ (.slice none 0 0)).setCell ⟨w.heap.size, 1, none⟩ (.slice none 0 0)) := (HX.out.setCell (Nat.le_refl _) _).setCell (Nat.le_refl _) _
    have R0 := BY.cell (i := 0) rfl
    have R1 := BY.cell (i := 1) rfl
    generalize (w1.setCell ⟨w.heap.size, 0, none⟩ (.slice none 0 0)).setCell ⟨w.heap.size, 1, none⟩ (.slice none 0 0) = W9 at *
    exact bodyPost_ret (v := .tuple #[.agg #[.slice none 0 0, .slice none 0 0], .int .i64 0, .int .i64 cl]) (by simp [results, Tryz.results8, go_sem, R0, R1]) rfl (HPO.out _ _ ⟨.slice none 0 0, .slice none 0 0, by rw [HRP.out]; rfl, by rw [HRP.out]; exact norig_at _ _, HY⟩)
  rw [h1] at C1
  by_cases h6 : 60000 < s.size
  · have HRP := Lib.hid (rp_large h1 h6)
    have hl2 : (60000 : Int) < (s.size : Int) := by omega
    clear CK
    generalize rpX lib s = rp at *
    go_enter Tryz.func8, Tryz.ntmps8
    go_wp2_with fail
    refine C1.out.mono ?_
    rintro e1 w1 ⟨rfl, hb⟩
    have HX := Lib.hid (bt HB0.out hb)
    have BX := BX0.out.below hb
    have q0 := BX.cell (i := 0) rfl
    have f0 := BX.frozen 0
    have q1 := BX.cell (i := 1) rfl
    have f1 := BX.frozen 1
    clear hb C1
    go_wp2_with fail
    have BY : TBox ((w1.setCell ⟨w.heap.size, 0, none⟩ (.slice none 0 0)).setCell ⟨w.heap.size, 1, none⟩ (.slice none 0 0)) w.heap.size 25 #[.slice none 0 0, .slice none 0 0] := (BX.set 0 (.slice none 0 0)).set 1 (.slice none 0 0)
    have HY : Below w.heap.size w ((w1.setCell ⟨w.heap.size, 0, none⟩ (.slice none 0 0)).setCell ⟨w.heap.size, 1, none⟩ (.slice none 0 0)) := (HX.out.setCell (Nat.le_refl _) _).setCell (Nat.le_refl _) _
    have R0 := BY.cell (i := 0) rfl
    have R1 := BY.cell (i := 1) rfl
    generalize (w1.setCell ⟨w.heap.size, 0, none⟩ (.slice none 0 0)).setCell ⟨w.heap.size, 1, none⟩ (.slice none 0 0) = W9 at *
    exact bodyPost_ret (v := .tuple #[.agg #[.slice none 0 0, .slice none 0 0], .int .i64 0, .int .i64 2]) (by simp [results, Tryz.results8, go_sem, R0, R1]) rfl (HPO.out _ _ ⟨.slice none 0 0, .slice none 0 0, by rw [HRP.out]; rfl, by rw [HRP.out]; exact norig_at _ _, HY⟩)
  have hl2 : ¬ (60000 : Int) < (s.size : Int) := by omega
  have CL := Lib.hid (fun W (hb : Below w.heap.size w W) => rlines_any s W (HT.out.below hb) (by omega))
  have HBADX := Lib.hid (fun k (hk : k < (linesL s).length) q1 q2 => rp_bad (lib := lib) h1 h6 hk q1 q2)
  have HGOOD := Lib.hid (fun q1 => rp_good (lib := lib) h1 h6 q1)
  have hll : (linesL s).length ≤ 60001 := by have := linesL_le s; omega
  have hls : ∀ k (hk : k < (linesL s).length), (linesL s)[k].size ≤ 60000 := fun k hk => by have := linesL_size s _ (List.getElem_mem hk); omega
  have HRR := Lib.hid (show rpR lib s = ⟨lib, (linesL s).map untV⟩ from rfl)
  unfold LinesPost at CL
  generalize rpX lib s = rp at *
  generalize rpR lib s = rr at *
  generalize linesL s = L at *
  generalize linesW s = wh at *
  clear h1 h6 CK
  go_enter Tryz.func8, Tryz.ntmps8
  go_wp2_with fail
  refine C1.out.mono ?_
  rintro e1 w2 ⟨rfl, hb⟩
  have HX := Lib.hid (bt HB0.out hb)
  have BX := Lib.hid (BX0.out.below hb)
  have hlt1 := BX.out.lt
  clear hb C1
  go_wp2_with fail
  refine (CL.out _ HX.out).mono ?_
  rintro e1 w3 ⟨lo, lcap, rfl, hrow, hb⟩
  have HX3 := Lib.hid (bt HX.out hb)
  have BX3 := Lib.hid (BX.out.below hb)
  have hlt3 := BX3.out.lt
  have HROW := Lib.hid hrow
  clear hb hrow CL HX BX
  have HX4 := Lib.hid (HX3.out.alloc HX3.out.size (.cells #[.slice ao lib.length cap, .slice none 0 0] 25))
  have BX4 := Lib.hid (BX3.out.alloc (.cells #[.slice ao lib.length cap, .slice none 0 0] 25))
  have BR4 := Lib.hid (TBox.new w3 #[.slice ao lib.length cap, .slice none 0 0] 25)
  have HR4 := Lib.hid (show Below w3.heap.size w3 (w3.alloc (.cells #[.slice ao lib.length cap, .slice none 0 0] 25)) from (Below.refl _ _).alloc (Nat.le_refl _) _)
  go_upto_region 8 with fail
  obtain ⟨w4, hw4⟩ : ∃ w4 : World, w4 = w3.alloc (.cells #[.slice ao lib.length cap, .slice none 0 0] 25) := ⟨_, rfl⟩
  have hz4 : w4.heap.size = w3.heap.size + 1 := by rw [hw4]; simp
  rw [← hw4] at HX4 BX4 BR4 HR4 ⊢
  clear hw4
  go_wp2_with fail
  go_loopw [35] (fun i wr => ∃ k : Nat, k ≤ L.length ∧ i = .int .i64 k ∧ Hid (∀ j, j < k → ¬ BadU wh L j) ∧ ∃ ov, Hid (OwnU w4.heap.size wr ov ((L.take k).map untV)) ∧ Hid (TBox wr w3.heap.size 25 #[.slice ao lib.length cap, ov]) ∧ Hid (TBox wr w.heap.size 25 #[.slice none 0 0, .slice none 0 0]) ∧ Hid (Below w.heap.size w wr) ∧ Hid (Below w3.heap.size w3 wr)) (fun i _ => L.length - (intOf i).toNat)
  case atStart => exact ⟨0, Nat.zero_le _, rfl, Lib.hid (fun j hj => absurd hj (Nat.not_lt_zero j)), .slice none 0 0, Lib.hid (OwnU.nil _ _), BR4, BX4, HX4, HR4⟩
  case round =>
    obtain ⟨k, hk, rfl, HOK, ov, HOW, B2, B1, HB, HB3⟩ := hrel
    have hzw := HB3.out.size
    have hb2w := B2.out.lt
    have hb1w := B1.out.lt
    by_cases hlt : k < L.length
    · obtain ⟨hao, hg, hrw⟩ := HROW.out (by intro e; subst e; simp at hlt)
      subst hao
      have hck := hrw k hlt
      rw [Nat.zero_add] at hck
      have d0 : wr.cell? ⟨w2.heap.size, k, none⟩ = some (.string L[k]) := (HB3.out.cell (p := ⟨w2.heap.size, k, none⟩) hg).trans hck
      have hgr : w2.heap.size < wr.heap.size := by omega
      have CS := Lib.hid (rreadUnit_any L[k] wr (HT.out.below HB.out) (hls k hlt))
      unfold RuPost at CS
      have HBAD := Lib.hid (show ¬ LineU L[k] ∨ (wh = false ∧ k + 1 = L.length) → rp = (9, (k : Int) + 1, noRigP) from fun h => HBADX.out k hlt HOK.out (by
        rcases h with h | h
        · exact .inl ⟨hlt, h⟩
        · exact .inr h))
      have HNX := Lib.hid (fun (h : LineU L[k]) (h2 : ¬ (wh = false ∧ k + 1 = L.length)) => show ∀ j, j < k + 1 → ¬ BadU wh L j from fun j hj => by
        by_cases e : j = k
        · subst e
          rintro (⟨_, h3⟩ | h3)
          · exact h3 h
          · exact h2 h3
        · exact HOK.out j (by omega))
      have HMT := Lib.hid (map_takeU untV L k hlt)
      have hn1 : ((List.take k L).map untV).length ≤ 10000000 := by rw [List.length_map, List.length_take]; omega
      clear hck hrw
      generalize untV L[k] = UV at *
      generalize LineU L[k] = LK at *
      generalize L[k] = lk at *
      go_wp2_with fail
      refine CS.out.mono ?_
      rintro e1 w5 ⟨g, ok, rfl, ho1, ho2, hb⟩
      obtain ⟨n, nm, x, y⟩ := g
      unfold untA
      simp only at ho2 ⊢
      have HO1 := Lib.hid ho1
      have HO2 := Lib.hid ho2
      have HX5 := Lib.hid (HB.out.trans (hb.mono HB.out.size))
      have HY5 := Lib.hid (HB3.out.trans (hb.mono HB3.out.size))
      have B15 := B1.out.below hb
      have B25 := B2.out.below hb
      have HOW5 := Lib.hid (HOW.out.below hb)
      have HX := Lib.hid (HX5.out.alloc HX5.out.size (.cells #[.int .i64 n, .string nm, .int .i64 x, .int .i64 y] 51))
      have HX3 := Lib.hid (HY5.out.alloc HY5.out.size (.cells #[.int .i64 n, .string nm, .int .i64 x, .int .i64 y] 51))
      have BX := B15.alloc (.cells #[.int .i64 n, .string nm, .int .i64 x, .int .i64 y] 51)
      have B2r := B25.alloc (.cells #[.int .i64 n, .string nm, .int .i64 x, .int .i64 y] 51)
      have HOWr := Lib.hid (HOW5.out.below ((Below.refl _ _).alloc (Nat.le_refl _) (.cells #[.int .i64 n, .string nm, .int .i64 x, .int .i64 y] 51)))
      have HBG := Lib.hid (TBox.new w5 #[.int .i64 n, .string nm, .int .i64 x, .int .i64 y] 51)
      clear hb CS d0 ho1 ho2 B15 B25 HX5 HY5 HOW5
      cases ok
      · have HG := Lib.hid (HBAD.out (.inl fun h => absurd (HO1.out.2 h) (by decide)))
        clear HBAD HNX
        have q0 := BX.cell (i := 0) rfl
        have f0 := BX.frozen 0
        have q1 := BX.cell (i := 1) rfl
        have f1 := BX.frozen 1
        go_wp2_with fail
        have BY : TBox (((w5.alloc (.cells #[.int .i64 n, .string nm, .int .i64 x, .int .i64 y] 51)).setCell ⟨w.heap.size, 0, none⟩ (.slice none 0 0)).setCell ⟨w.heap.size, 1, none⟩ (.slice none 0 0)) w.heap.size 25 #[.slice none 0 0, .slice none 0 0] := (BX.set 0 (.slice none 0 0)).set 1 (.slice none 0 0)
        have HY : Below w.heap.size w (((w5.alloc (.cells #[.int .i64 n, .string nm, .int .i64 x, .int .i64 y] 51)).setCell ⟨w.heap.size, 0, none⟩ (.slice none 0 0)).setCell ⟨w.heap.size, 1, none⟩ (.slice none 0 0)) := (HX.out.setCell (Nat.le_refl _) _).setCell (Nat.le_refl _) _
        have R0 := BY.cell (i := 0) rfl
        have R1 := BY.cell (i := 1) rfl
        generalize ((w5.alloc (.cells #[.int .i64 n, .string nm, .int .i64 x, .int .i64 y] 51)).setCell ⟨w.heap.size, 0, none⟩ (.slice none 0 0)).setCell ⟨w.heap.size, 1, none⟩ (.slice none 0 0) = W9 at *
        exact bodyPost_ret (v := .tuple #[.agg #[.slice none 0 0, .slice none 0 0], .int .i64 ((k : Int) + 1), .int .i64 9]) (by simp [results, Tryz.results8, go_sem, R0, R1]) rfl (HPO.out _ _ ⟨.slice none 0 0, .slice none 0 0, by rw [HG.out]; rfl, by rw [HG.out]; exact norig_at _ _, HY⟩)
      by_cases hwl : wh = false ∧ k + 1 = L.length
      · have HG := Lib.hid (HBAD.out (.inr hwl))
        obtain ⟨hwf, hkl⟩ := hwl
        have hkk : ((L.length : Nat) : Int) - 1 = k := by omega
        subst hwf
        clear HBAD HNX hkl
        have q0 := BX.cell (i := 0) rfl
        have f0 := BX.frozen 0
        have q1 := BX.cell (i := 1) rfl
        have f1 := BX.frozen 1
        go_wp2_with fail
        have BY : TBox (((w5.alloc (.cells #[.int .i64 n, .string nm, .int .i64 x, .int .i64 y] 51)).setCell ⟨w.heap.size, 0, none⟩ (.slice none 0 0)).setCell ⟨w.heap.size, 1, none⟩ (.slice none 0 0)) w.heap.size 25 #[.slice none 0 0, .slice none 0 0] := (BX.set 0 (.slice none 0 0)).set 1 (.slice none 0 0)
        have HY : Below w.heap.size w (((w5.alloc (.cells #[.int .i64 n, .string nm, .int .i64 x, .int .i64 y] 51)).setCell ⟨w.heap.size, 0, none⟩ (.slice none 0 0)).setCell ⟨w.heap.size, 1, none⟩ (.slice none 0 0)) := (HX.out.setCell (Nat.le_refl _) _).setCell (Nat.le_refl _) _
        have R0 := BY.cell (i := 0) rfl
        have R1 := BY.cell (i := 1) rfl
        generalize ((w5.alloc (.cells #[.int .i64 n, .string nm, .int .i64 x, .int .i64 y] 51)).setCell ⟨w.heap.size, 0, none⟩ (.slice none 0 0)).setCell ⟨w.heap.size, 1, none⟩ (.slice none 0 0) = W9 at *
        exact bodyPost_ret (v := .tuple #[.agg #[.slice none 0 0, .slice none 0 0], .int .i64 ((k : Int) + 1), .int .i64 9]) (by simp [results, Tryz.results8, go_sem, R0, R1]) rfl (HPO.out _ _ ⟨.slice none 0 0, .slice none 0 0, by rw [HG.out]; rfl, by rw [HG.out]; exact norig_at _ _, HY⟩)
      have HNK := Lib.hid (HNX.out (HO1.out.1 rfl) hwl)
      have HVG := Lib.hid (show UV = ⟨n, nm, x, y⟩ from (HO2.out rfl).symm)
      have hwc : wh = true ∨ (wh = false ∧ ¬ ((k : Int) = (L.length : Int) - 1)) := by
        cases wh
        · right
          refine ⟨rfl, fun h => hwl ⟨rfl, by omega⟩⟩
        · left; rfl
      clear hwl HBAD HNX HO1 HO2
      rcases hwc with rfl | ⟨rfl, hkn⟩
      all_goals
        go_upto_region 14 with fail
        obtain ⟨w7, hw7⟩ : ∃ w7 : World, w7 = w5.alloc (.cells #[.int .i64 n, .string nm, .int .i64 x, .int .i64 y] 51) := ⟨_, rfl⟩
        have hg5 : w5.heap.size < w7.heap.size := by rw [hw7]; simp
        rw [← hw7] at HX HX3 BX B2r HOWr HBG ⊢
        clear hw7
        have g0 : w7.cell? ⟨w5.heap.size, 0, none⟩ = some (.int .i64 n) := HBG.out.cell (i := 0) rfl
        have g1 : w7.cell? ⟨w5.heap.size, 1, none⟩ = some (.string nm) := HBG.out.cell (i := 1) rfl
        have g2 : w7.cell? ⟨w5.heap.size, 2, none⟩ = some (.int .i64 x) := HBG.out.cell (i := 2) rfl
        have g3 : w7.cell? ⟨w5.heap.size, 3, none⟩ = some (.int .i64 y) := HBG.out.cell (i := 3) rfl
        generalize (List.take k L).map untV = GL at *
        obtain ⟨oa, oc, rfl⟩ := HOWr.out.shape
        have u1 : w7.cell? ⟨w3.heap.size, 1, none⟩ = some (.slice oa GL.length oc) := B2r.cell (i := 1) rfl
        have hb7 := B2r.lt
        have hz7 : w4.heap.size ≤ w7.heap.size := by have := HX3.out.size; omega
        have hww : w.heap.size < w3.heap.size := by omega
        have OW1 := Lib.hid (HOWr.out.below ((Below.refl _ _).alloc (Nat.le_refl _) (.cells #[.int .i64 n, .string nm, .int .i64 x, .int .i64 y] 51)))
        have T21 := Lib.hid (B2r.alloc (.cells #[.int .i64 n, .string nm, .int .i64 x, .int .i64 y] 51))
        have T11 := Lib.hid (BX.alloc (.cells #[.int .i64 n, .string nm, .int .i64 x, .int .i64 y] 51))
        go_wp2_with (first
          | (at_builtin
             refine wpList_ownU rfl _ _ rfl w4.heap.size 1 _ GL ⟨n, nm, x, y⟩ ⟨w7.heap.size, 0, none⟩ rfl rfl OW1.out (ownU_new w7 ⟨n, nm, x, y⟩ _) hn1 (by simp; omega) ?_
             intro v' w8 hown8 hgrow
             obtain ⟨oa8, oc8, rfl⟩ := hown8.shape
             have BR8 : TBox w8 w3.heap.size 25 #[.slice ao lib.length cap, .slice oa GL.length oc] := (Other.row OW1.out hgrow).tbox T21.out (by decide)
             have BS8 : TBox w8 w.heap.size 25 #[.slice none 0 0, .slice none 0 0] := (Other.row OW1.out hgrow).tbox T11.out (by decide)
             have z1 := BR8.cell (i := 1) rfl
             have y1 := BR8.frozen 1)
          | fail)
        all_goals
          rw [show (GL ++ [(⟨n, nm, x, y⟩ : Unt)]).length = GL.length + 1 by simp] at hown8
          have HO9 := Lib.hid (show OwnU w4.heap.size (w8.setCell ⟨w3.heap.size, 1, none⟩ (.slice oa8 (GL.length + 1) oc8)) (.slice oa8 (GL.length + 1) oc8) ((List.take (k + 1) L).map untV) by rw [HMT.out, HVG.out]; exact hown8.other (Other.box BR8 _) (by decide))
          have HR9 := Lib.hid (show TBox (w8.setCell ⟨w3.heap.size, 1, none⟩ (.slice oa8 (GL.length + 1) oc8)) w3.heap.size 25 #[.slice ao lib.length cap, .slice oa8 (GL.length + 1) oc8] from BR8.set 1 _)
          have HS9 := Lib.hid (BS8.setOther (i := 1) (show w.heap.size ≠ w3.heap.size by omega) (.slice oa8 (GL.length + 1) oc8))
          have HB9 : Hid (Below w.heap.size w (w8.setCell ⟨w3.heap.size, 1, none⟩ (.slice oa8 (GL.length + 1) oc8))) := Lib.hid (Below.setCell (OW1.out.keeps (HX.out.alloc HX.out.size (.cells #[.int .i64 n, .string nm, .int .i64 x, .int .i64 y] 51)) hgrow (by omega) (by simp; omega)) (by show w.heap.size ≤ w3.heap.size; omega) _)
          have HC9 : Hid (Below w3.heap.size w3 (w8.setCell ⟨w3.heap.size, 1, none⟩ (.slice oa8 (GL.length + 1) oc8))) := Lib.hid (Below.setCell (OW1.out.keeps (HX3.out.alloc HX3.out.size (.cells #[.int .i64 n, .string nm, .int .i64 x, .int .i64 y] 51)) hgrow (by omega) (by simp; omega)) (Nat.le_refl w3.heap.size) _)
          clear hown8 hgrow OW1 HOWr HOW T11 T21 BR8 BS8 z1 y1 BX B2r HX HX3 u1 B1 B2 HB HB3 HMT HVG HOK g0 g1 g2 g3 HBG
          generalize w8.setCell ⟨w3.heap.size, 1, none⟩ (.slice oa8 (GL.length + 1) oc8) = w9 at *
          go_wp2
          go_roundw
          case rel =>
            first
              | exact ⟨k + 1, by omega, by go_num, HNK, _, HO9, HR9, HS9, HB9, HC9⟩
              | ((repeat apply Exists.intro); refine ⟨⟨k + 1, by omega, by go_num, HNK, _, HO9, HR9, HS9, HB9, HC9⟩, ?_⟩; rfl)
          case measure => simp [intOf]; omega
    · have hkk : k = L.length := by omega
      subst hkk
      have HGD := Lib.hid (HGOOD.out (fun j hj => HOK.out j hj))
      rw [List.take_length] at HOW
      have HFU : Hid (RigFit rr) := Lib.hid (by
        rw [HRR.out]
        refine ⟨HF.out, fun u hu => ?_⟩
        obtain ⟨y, hy, rfl⟩ := List.mem_map.1 hu
        obtain ⟨j, hj, rfl⟩ := List.mem_iff_getElem.1 hy
        exact unt_fit (Classical.not_not.1 fun h => HOK.out j hj (.inl ⟨hj, h⟩)) (hls j hj))
      have HRA : Hid (RigAt wr.heap.size wr rr (.slice ao lib.length cap) ov) := Lib.hid (by
        rw [HRR.out]
        exact ⟨(HLIB.out.below HB.out).more HB.out.size, HOW.out.untS⟩)
      have HRL := Lib.hid (show rr.lib = lib by rw [HRR.out])
      have HRU := Lib.hid (show rr.units = L.map untV by rw [HRR.out])
      generalize L.map untV = GL at *
      obtain ⟨oa, oc, rfl⟩ := HOW.out.shape
      have CR := Lib.hid (rckRig_any rr _ _ wr HRA.out HFU.out)
      unfold rigV at CR
      have b0 := B2.out.cell (i := 0) rfl
      have b1 := B2.out.cell (i := 1) rfl
      clear HGOOD HBADX HROW HOK hls HRR HFU HRA
      by_cases hE : chkRig rr = 0
      rotate_left
      · rw [if_neg hE] at HGD
        have he2 : (chkRig rr == 0) = false := by simpa using hE
        generalize chkRig rr = cr at *
        go_wp2_with fail
        refine CR.out.mono ?_
        rintro e w5 ⟨rfl, hb⟩
        have HX := Lib.hid (HB.out.trans (hb.mono HB.out.size))
        have BX := B1.out.below hb
        have q0 := BX.cell (i := 0) rfl
        have f0 := BX.frozen 0
        have q1 := BX.cell (i := 1) rfl
        have f1 := BX.frozen 1
        clear hb
        go_wp2_with fail
        have BY : TBox ((w5.setCell ⟨w.heap.size, 0, none⟩ (.slice none 0 0)).setCell ⟨w.heap.size, 1, none⟩ (.slice none 0 0)) w.heap.size 25 #[.slice none 0 0, .slice none 0 0] := (BX.set 0 (.slice none 0 0)).set 1 (.slice none 0 0)
        have HY : Below w.heap.size w ((w5.setCell ⟨w.heap.size, 0, none⟩ (.slice none 0 0)).setCell ⟨w.heap.size, 1, none⟩ (.slice none 0 0)) := (HX.out.setCell (Nat.le_refl _) _).setCell (Nat.le_refl _) _
        have R0 := BY.cell (i := 0) rfl
        have R1 := BY.cell (i := 1) rfl
        generalize (w5.setCell ⟨w.heap.size, 0, none⟩ (.slice none 0 0)).setCell ⟨w.heap.size, 1, none⟩ (.slice none 0 0) = W9 at *
        exact bodyPost_ret (v := .tuple #[.agg #[.slice none 0 0, .slice none 0 0], .int .i64 0, .int .i64 cr]) (by simp [results, Tryz.results8, go_sem, R0, R1]) rfl (HPO.out _ _ ⟨.slice none 0 0, .slice none 0 0, by rw [HGD.out]; rfl, by rw [HGD.out]; exact norig_at _ _, HY⟩)
      · rw [if_pos hE] at HGD
        rw [hE] at CR
        go_wp2_with fail
        refine CR.out.mono ?_
        rintro e w6 ⟨rfl, hb⟩
        have HX6 := Lib.hid (HB.out.trans (hb.mono HB.out.size))
        have BX := B1.out.below hb
        have BR5 := B2.out.below hb
        have d0 := BR5.cell (i := 0) rfl
        have d1 := BR5.cell (i := 1) rfl
        have q0 := BX.cell (i := 0) rfl
        have f0 := BX.frozen 0
        have q1 := BX.cell (i := 1) rfl
        have f1 := BX.frozen 1
        have hu' := HOW.out.below hb
        have HU9 := Lib.hid (resU hu' BX (.slice ao lib.length cap) (.slice oa GL.length oc))
        have BY : TBox ((w6.setCell ⟨w.heap.size, 0, none⟩ (.slice ao lib.length cap)).setCell ⟨w.heap.size, 1, none⟩ (.slice oa GL.length oc)) w.heap.size 25 #[.slice ao lib.length cap, .slice oa GL.length oc] := (BX.set 0 _).set 1 _
        have HY : Below w.heap.size w ((w6.setCell ⟨w.heap.size, 0, none⟩ (.slice ao lib.length cap)).setCell ⟨w.heap.size, 1, none⟩ (.slice oa GL.length oc)) := (HX6.out.setCell (Nat.le_refl _) _).setCell (Nat.le_refl _) _
        clear hb hu' HX6 b0 b1 CR
        go_wp2_with fail
        have R0 := BY.cell (i := 0) rfl
        have R1 := BY.cell (i := 1) rfl
        generalize (w6.setCell ⟨w.heap.size, 0, none⟩ (.slice ao lib.length cap)).setCell ⟨w.heap.size, 1, none⟩ (.slice oa GL.length oc) = W9 at *
        exact bodyPost_ret (v := .tuple #[.agg #[.slice ao lib.length cap, .slice oa GL.length oc], .int .i64 0, .int .i64 0]) (by simp [results, Tryz.results8, go_sem, R0, R1]) rfl (HPO.out _ _ ⟨.slice ao lib.length cap, .slice oa GL.length oc, by rw [HGD.out]; rfl, by rw [HGD.out]; exact ⟨by rw [HRL.out]; exact (HLIB.out.below HY).more HY.size, by rw [HRU.out]; exact HU9.out.untS⟩, HY⟩)
end Go.Proofs.YtppbagllhmeenaaGreatDoor
