/- effect.read: the spread. (printed by wip/gen/gen_eread.py) -/
import Derived.Test.YtfidbdegggalmaaGreatDoorT66M27

namespace Go.Proofs.YtfidbdegggalmaaGreatDoor
open Go.RowKit
set_option linter.unusedVariables false
set_option linter.unusedSimpArgs false

set_option maxRecDepth 100000 in
set_option maxHeartbeats 16000000 in
theorem et19 {k0 k3 k5 k6 k7 k8 k9 k10 k11 k12 k13 k14 k15 k16 k17 k18 k19 k20 k21 k22 k23 k24 k25 k26 k27 k28 k29 k30 k31 k32 k33 k34 k35 k36 k37 k38 k39 k40 k41 k42 k43 k44 k45 k46 k47 k48 k49 k50 k51 k52 k53 k54 k55 k56 k57 k58 k59 k60 k61 k62 k63 k64 k65 k66 k67 k68 k69 k70 k71 k72 k73 k74 k75 k76 k77 k78 k79 k80 k81 k82 k83 k84 k85 k86 k87 k88 k89 k90 k91 k92 k93 k94 k95 k96 k97 k98 k99 k100 k101 k102 k103 k104 k105 k106 k107 k108 k109 k110 k111 k112 k113 k115 k116 k117 k118 k119 k120 k121 k122 k123 k124 k125 k126 k127 k128 k129 k130 k131 k132 k133 k134 k135 k136 k137 k138 k139 k140 k141 k142 k143 k144 k145 k146 k147 k148 k149 k150 k151 k152 k153 k154 k155 k156 k157 k158 k159 k160 k161 k162 k163 k164 k165 k166 k167 k168 k169 k170 k171 k172 k173 k174 k175 k176 k177 k178 k179 k180 k181 k182 k183 k184 k185 k186 k187 k188 k189 k190 k191 k192 k193 k194 k195 k196 k197 k198 k199 k200 k201 k202 k203 k204 k205 k206 k207 k208 k209 k210 k211 k212 k213 k214 k215 k216 k217 k218 k219 k220 k221 k222 k223 k224 k225 k226 k227 : Value} {RES : Option Eff} {FM lo hi c wd : Int} {R2 : List ByteArray} {w w6 : World} {wb : Nat} {K : Act → World → Prop} (hKA : ∀ (a : Act) (W : World), Code.wp Tryz.prog (snd1 (snd1 (snd1 (snd1 (snd1 (snd1 (snd1 (snd1 (snd1 (snd1 (snd1 (snd1 (bodyOf Tryz.f7))))))))))))) (bodyPost Tryz.prog Tryz.f7 (RdPost RES w)) a W → K a W) (hwb : wb < w.heap.size) (HTX : Hid (∀ W, Below w.heap.size w W → TextW W)) (HRX : Hid (RES = prsS FM lo hi c wd R2)) (HSR : Hid (∀ x ∈ R2, x.size ≤ 5000)) (HS6 : Hid (RS w wb R2 #[.int .i64 FM, .int .i64 lo, .int .i64 hi, .int .i64 c, .int .i64 wd, .int .i64 0, .bool false, .bool false, .slice none 0 0] w6)) :
    Code.wp Tryz.prog (snd1 (fst1 (snd1 (snd1 (snd1 (snd1 (snd1 (snd1 (snd1 (snd1 (snd1 (snd1 (snd1 (bodyOf Tryz.f7)))))))))))))) (Exit.then K (bodyPost Tryz.prog Tryz.f7 (RdPost RES w))) { tmps := #[k0, .pointer (some ⟨w.heap.size, 0, none⟩), .pointer (some ⟨w.heap.size + 1, 0, none⟩), k3, .pointer (some ⟨w.heap.size + 1 + 1, 0, none⟩), k5, k6, k7, k8, k9, k10, k11, k12, k13, k14, k15, k16, k17, k18, k19, k20, k21, k22, k23, k24, k25, k26, k27, k28, k29, k30, k31, k32, k33, k34, k35, k36, k37, k38, k39, k40, k41, k42, k43, k44, k45, k46, k47, k48, k49, k50, k51, k52, k53, k54, k55, k56, k57, k58, k59, k60, k61, k62, k63, k64, k65, k66, k67, k68, k69, k70, k71, k72, k73, k74, k75, k76, k77, k78, k79, k80, k81, k82, k83, k84, k85, k86, k87, k88, k89, k90, k91, k92, k93, k94, k95, k96, k97, k98, k99, k100, k101, k102, k103, k104, k105, k106, k107, k108, k109, k110, k111, k112, k113, .bool (tS R2), k115, k116, k117, k118, k119, k120, k121, k122, k123, k124, k125, k126, k127, k128, k129, k130, k131, k132, k133, k134, k135, k136, k137, k138, k139, k140, k141, k142, k143, k144, k145, k146, k147, k148, k149, k150, k151, k152, k153, k154, k155, k156, k157, k158, k159, k160, k161, k162, k163, k164, k165, k166, k167, k168, k169, k170, k171, k172, k173, k174, k175, k176, k177, k178, k179, k180, k181, k182, k183, k184, k185, k186, k187, k188, k189, k190, k191, k192, k193, k194, k195, k196, k197, k198, k199, k200, k201, k202, k203, k204, k205, k206, k207, k208, k209, k210, k211, k212, k213, k214, k215, k216, k217, k218, k219, k220, k221, k222, k223, k224, k225, k226, k227], defers := [] } w6 := by
  have HPN := Lib.hid (fun v w' h1 h2 h3 => rdPost_none (RES := RES) (w := w) (v := v) (w' := w') h1 h2 h3)
  have HPS := Lib.hid (fun E sv w' h1 h2 h3 h4 => rdPost_some (RES := RES) (w := w) (E := E) (sv := sv) (w' := w') h1 h2 h3 h4)
  obtain ⟨QQ, hQQ⟩ : ∃ q, q = bodyPost Tryz.prog Tryz.f7 (RdPost RES w) := ⟨_, rfl⟩
  rw [← hQQ]
  dsimp only [snd1, fst1, bodyOf, Tryz.f7, Option.getD]
  subst hQQ
  go_cut [] (fun wx => Hid (∃ sp R3, RES = prsB FM lo hi c wd sp R3 ∧ (∀ x ∈ R3, x.size ≤ 5000) ∧ RS w wb R3 #[.int .i64 FM, .int .i64 lo, .int .i64 hi, .int .i64 c, .int .i64 wd, .int .i64 sp, .bool false, .bool false, .slice none 0 0] wx))
  case first =>
    cases hsp : tS R2 with
    | false =>
      have HX := Lib.hid (show RES = prsB FM lo hi c wd 0 R2 by rw [HRX.out]; exact prsS_no hsp)
      clear hsp HRX
      go_wp2_with fail
      go_meet
      exact Lib.hid ⟨0, R2, HX.out, HSR.out, HS6.out⟩
    | true =>
      obtain ⟨b, R3, rfl⟩ := tS_yes hsp
      have HX := Lib.hid (show RES = match spW b with | none => none | some n => prsB FM lo hi c wd n R3 by rw [HRX.out]; exact prsS_yes _ _ _ _ _ _ _)
      have HSR3 := Lib.hid (show ∀ x ∈ R3, x.size ≤ 5000 from fun x hx => HSR.out x (by simp [hx]))
      have hds : (dshT b).size ≤ 9223372036854775807 := Nat.le_trans (dshT_le b) (Nat.le_trans (HSR.out b (by simp)) (by decide))
      have CN := Lib.hid (fun W => number_any (dshT b) W hds)
      have HSW := Lib.hid (show spW b = match nbW (dshT b) with | none => none | some n => if n = 0 then none else some (if dshB b then -n else n) from spW_eq b)
      have CD := Lib.hid (fun W => callDsh b W)
      have HNR := Lib.hid (fun n (h : nbW (dshT b) = some n) => nbW_range h)
      generalize nbW (dshT b) = nb at *
      generalize dshB b = db at *
      generalize dshT b = dt at *
      clear hsp HRX hds HSR
      obtain ⟨⟨o, cap, hT, hR, hc1, hc2⟩, hE, hZ, hB⟩ := HS6.out
      have t0 : w6.cell? ⟨w.heap.size, 0, none⟩ = some (Value.slice (some ⟨wb, o, none⟩) (R3.length + 2) cap) := hT.cell (i := 0) rfl
      have tl := hT.lt
      have d1 : w6.cell? ⟨wb, o + 1, none⟩ = some (.string b) := hR 1 (by simp)
      have hwr : wb < w6.heap.size := Nat.lt_of_lt_of_le hwb hB.size
      have h5 : ¬ ((R3.length : Int) + 2 < 2) := by omega
      clear hT hR hc1 hc2 hE hZ hB
      go_wp2_with fail
      refine (CD.out _).mono ?_
      rintro e w7 ⟨rfl, rfl⟩
      go_wp2_with fail
      refine (CN.out _).mono ?_
      rintro e w7 ⟨rfl, hb7⟩
      have HS7 := Lib.hid (HS6.out.below hwb hb7)
      clear hb7 HS6 CN CD t0 tl d1 hwr h5
      obtain ⟨gn, hgn⟩ : ∃ x, nb.getD 0 = x := ⟨_, rfl⟩
      obtain ⟨gs, hgs⟩ : ∃ x, nb.isSome = x := ⟨_, rfl⟩
      rw [hgn, hgs]
      have HGN := Lib.hid hgn
      have HGS := Lib.hid hgs
      clear hgn hgs
      go_upto_region 21 with fail
      go_cut [132] (fun s wx => s = .bool (badN nb) ∧ w7 = wx)
      case first =>
        clear HX HSW HNR
        rcases nb with _ | n
        · obtain rfl : gs = false := HGS.out.symm
          obtain rfl : gn = 0 := HGN.out.symm
          go_wp2_with fail
          go_meet
          exact ⟨rfl, rfl⟩
        · obtain rfl : gs = true := HGS.out.symm
          obtain rfl : gn = n := HGN.out.symm
          by_cases hn : gn = 0
          · subst hn
            go_wp2_with fail
            go_meet
            exact ⟨rfl, rfl⟩
          · have hn0 : (gn == 0) = false := by simp [hn]
            have HV := Lib.hid (show badN (some gn) = false from decide_eq_false hn)
            clear hn
            go_wp2_with fail
            go_meet
            exact ⟨by rw [HV.out], rfl⟩
      case rest =>
      obtain ⟨rfl, rfl⟩ := hcut
      by_cases hbad : badN nb = true
      · have HN := Lib.hid (show RES = none by rw [HX.out, badN_yes (f := fun n => if db = true then -n else n) HSW.out hbad])
        rw [hbad]
        obtain ⟨_, hE, hZ, hB⟩ := HS7.out
        clear HX HSW HNR HGN HGS hbad
        go_upto_region 22 with fail
        go_cut [3] (fun s wx => s = .bool (false) ∧ Hid (TBox wx (w.heap.size + 1) 24 #[.int .i64 FM, .int .i64 lo, .int .i64 hi, .int .i64 c, .int .i64 wd, .int .i64 0, .bool false, .bool false, .slice none 0 0]) ∧ Hid (Below w.heap.size w wx))
        case first =>
          have q0 := hE.cell (i := 0) rfl
          have q1 := hE.cell (i := 1) rfl
          have q2 := hE.cell (i := 2) rfl
          have q3 := hE.cell (i := 3) rfl
          have q4 := hE.cell (i := 4) rfl
          have q5 := hE.cell (i := 5) rfl
          have q6 := hE.cell (i := 6) rfl
          have q7 := hE.cell (i := 7) rfl
          have q8 := hE.cell (i := 8) rfl
          have ql := hE.lt
          have r0 := hZ.cell (i := 0) rfl
          have r1 := hZ.cell (i := 1) rfl
          have r2 := hZ.cell (i := 2) rfl
          have r3 := hZ.cell (i := 3) rfl
          have r4 := hZ.cell (i := 4) rfl
          have r5 := hZ.cell (i := 5) rfl
          have r6 := hZ.cell (i := 6) rfl
          have r7 := hZ.cell (i := 7) rfl
          have r8 := hZ.cell (i := 8) rfl
          have z0 := hZ.frozen 0
          have z1 := hZ.frozen 1
          have z2 := hZ.frozen 2
          have z3 := hZ.frozen 3
          have z4 := hZ.frozen 4
          have z5 := hZ.frozen 5
          have z6 := hZ.frozen 6
          have z7 := hZ.frozen 7
          have z8 := hZ.frozen 8
          have rl2 := hZ.lt
          have HXB := Lib.hid (set9_box (w := w7) hZ (u0 := .int .i64 FM) (u1 := .int .i64 lo) (u2 := .int .i64 hi) (u3 := .int .i64 c) (u4 := .int .i64 wd) (u5 := .int .i64 0) (u6 := .bool false) (u7 := .bool false) (u8 := .slice none 0 0))
          have HB9 := Lib.hid (set9_below (W := w7) hB (show w.heap.size ≤ w.heap.size + 1 by omega) (.int .i64 FM) (.int .i64 lo) (.int .i64 hi) (.int .i64 c) (.int .i64 wd) (.int .i64 0) (.bool false) (.bool false) (.slice none 0 0))
          clear hE hZ hB 
          go_wp2_with fail
          go_meet
          exact ⟨by first | rfl | (simp; done), HXB, HB9⟩
        case rest =>
          rename_i KK hKK
          obtain ⟨rfl, HQ, HB9⟩ := hcut
          have x0 := HQ.out.cell (i := 0) rfl
          have x1 := HQ.out.cell (i := 1) rfl
          have x2 := HQ.out.cell (i := 2) rfl
          have x3 := HQ.out.cell (i := 3) rfl
          have x4 := HQ.out.cell (i := 4) rfl
          have x5 := HQ.out.cell (i := 5) rfl
          have x6 := HQ.out.cell (i := 6) rfl
          have x7 := HQ.out.cell (i := 7) rfl
          have x8 := HQ.out.cell (i := 8) rfl
          refine hKK _ _ (wp_ret ?_)
          exact bodyPost_ret (v := .tuple #[.agg #[.int .i64 FM, .int .i64 lo, .int .i64 hi, .int .i64 c, .int .i64 wd, .int .i64 0, .bool false, .bool false, .slice none 0 0], .bool (false)]) (by simp [results, Tryz.results7, go_sem, x0, x1, x2, x3, x4, x5, x6, x7, x8]) rfl (HPN.out _ _ HN.out ⟨_, _, _, _, _, _, _, _, _, _, _, rfl⟩ HB9.out)
      obtain ⟨n, rfl, hn⟩ := badN_no hbad
      obtain rfl : gn = n := HGN.out.symm
      have hbb : badN (some gn) = false := decide_eq_false hn
      rw [hbb]
      have hnr := HNR.out gn rfl
      have hng : IntKind.i64.wrap (-gn) = -gn := IntWalk.i64_in _ (by omega)
      have HN := Lib.hid (show RES = prsB FM lo hi c wd (if db = true then -gn else gn) R3 by rw [HX.out, HSW.out]; simp only; rw [if_neg hn])
      clear HX HSW HNR HGN HGS hn hnr hbad hbb
      obtain ⟨_, hE, hZ, hB⟩ := HS7.out
      have q5 := hE.cell (i := 5) rfl
      have z5 := hE.frozen 5
      have ql := hE.lt
      clear hE hZ hB
      go_upto_if 136 with fail
      clear q5 z5 ql
      have HS8 := Lib.hid (show RS w wb (sprB :: b :: R3) #[.int .i64 FM, .int .i64 lo, .int .i64 hi, .int .i64 c, .int .i64 wd, .int .i64 gn, .bool false, .bool false, .slice none 0 0] _ from HS7.out.setE hwb 5 (.int .i64 gn))
      generalize w7.setCell ⟨w.heap.size + 1 + 1, 5, none⟩ (.int .i64 gn) = w8 at *
      clear HS7
      go_cut [] (fun wx => Hid (RS w wb (sprB :: b :: R3) #[.int .i64 FM, .int .i64 lo, .int .i64 hi, .int .i64 c, .int .i64 wd, .int .i64 (if db = true then -gn else gn), .bool false, .bool false, .slice none 0 0] wx))
      case first =>
        obtain ⟨_, hE, hZ, hB⟩ := HS8.out
        have q5 := hE.cell (i := 5) rfl
        have z5 := hE.frozen 5
        have ql := hE.lt
        clear hE hZ hB HN
        cases db with
        | false =>
          go_wp2_with fail
          go_meet
          exact Lib.hid HS8.out
        | true =>
          have HS9 := Lib.hid (show RS w wb (sprB :: b :: R3) #[.int .i64 FM, .int .i64 lo, .int .i64 hi, .int .i64 c, .int .i64 wd, .int .i64 (-gn), .bool false, .bool false, .slice none 0 0] _ from HS8.out.setE hwb 5 (.int .i64 (-gn)))
          clear HS8
          go_wp2_with fail
          go_meet
          exact Lib.hid HS9.out
      case rest =>
      clear HS8 hng
      have HS8 := Lib.hid hcut.out
      clear hcut
      generalize (if db = true then -gn else gn) = sp at *
      obtain ⟨w8, rfl⟩ : ∃ x, x = wc := ⟨wc, rfl⟩
      go_upto_region 26 with fail
      obtain ⟨⟨o, cap, hT, hR, hc1, hc2⟩, hE, hZ, hB⟩ := HS8.out
      have t0 : w8.cell? ⟨w.heap.size, 0, none⟩ = some (Value.slice (some ⟨wb, o, none⟩) (R3.length + 2) cap) := hT.cell (i := 0) rfl
      have tl := hT.lt
      have z0 := hT.frozen 0
      have hc3 : R3.length + 2 ≤ cap := by simpa using hc1
      have hRt : RowS w8 wb (o + 2) R3 := fun j hj => by
        have := hR (j + 2) (by simp; omega)
        rw [show o + 2 + j = o + (j + 2) by omega]
        simpa using this
      by_cases hcz : cap = 2
      · subst hcz
        obtain rfl : R3 = [] := List.length_eq_zero_iff.1 (by omega)
        have HSn := Lib.hid (HS8.out.setT (R' := []) hwb o 0 (fun j hj => absurd hj (by simp)) (by simp) (by omega))
        clear hT hE hZ hB hR hRt hc1 hc2 hc3
        go_wp2_with fail
        go_meet
        exact Lib.hid ⟨sp, _, HN.out, HSR3.out, HSn.out⟩
      · have HSn := Lib.hid (HS8.out.setT hwb (o + 2) (cap - 2) hRt (by omega) (by omega))
        have hc4 : (2 : Int) ≤ cap := by omega
        clear hT hE hZ hB hR hRt hc1 hc2
        go_wp2_with fail
        go_meet
        exact Lib.hid ⟨sp, _, HN.out, HSR3.out, HSn.out⟩
  case rest =>
  clear HS6 HRX HSR
  obtain ⟨sp, R3, hx, hsr, hs⟩ := hcut.out
  have HRX := Lib.hid hx
  have HSR := Lib.hid hsr
  have HS7 := Lib.hid hs
  clear hcut hx hsr hs
  obtain ⟨w7, rfl⟩ : ∃ x, x = wc := ⟨wc, rfl⟩
  exact hKA _ _ (et27 hwb HTX HRX HSR HS7)
end Go.Proofs.YtfidbdegggalmaaGreatDoor
