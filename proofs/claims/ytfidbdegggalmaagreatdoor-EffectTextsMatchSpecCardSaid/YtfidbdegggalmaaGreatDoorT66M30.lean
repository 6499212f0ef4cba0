/- effect.read: the cycle and the width. (printed by wip/gen/gen_eread.py) -/
import Derived.Test.YtfidbdegggalmaaGreatDoorT66M29

namespace Go.Proofs.YtfidbdegggalmaaGreatDoor
open Go.RowKit
set_option linter.unusedVariables false
set_option linter.unusedSimpArgs false

set_option maxRecDepth 100000 in
set_option maxHeartbeats 16000000 in
theorem et13 {k0 k3 k5 k7 k9 k10 k11 k12 k13 k14 k15 k16 k17 k18 k19 k20 k21 k22 k23 k24 k25 k26 k27 k28 k29 k30 k31 k32 k33 k34 k35 k36 k37 k38 k39 k40 k41 k42 k43 k44 k45 k46 k47 k48 k49 k50 k51 k52 k53 k54 k55 k56 k57 k58 k59 k60 k61 k62 k63 k64 k65 k66 k67 k68 k69 k70 k71 k72 k73 k74 k75 k76 k77 k78 k79 k80 k81 k82 k83 k84 k85 k86 k87 k88 k89 k90 k91 k92 k93 k94 k95 k96 k97 k98 k99 k100 k101 k102 k103 k104 k105 k106 k107 k108 k109 k110 k111 k112 k113 k114 k115 k116 k117 k118 k119 k120 k121 k122 k123 k124 k125 k126 k127 k128 k129 k130 k131 k132 k133 k134 k135 k136 k137 k138 k139 k140 k141 k142 k143 k144 k145 k146 k147 k148 k149 k150 k151 k152 k153 k154 k155 k156 k157 k158 k159 k160 k161 k162 k163 k164 k165 k166 k167 k168 k169 k170 k171 k172 k173 k174 k175 k176 k177 k178 k179 k180 k181 k182 k183 k184 k185 k186 k187 k188 k189 k190 k191 k192 k193 k194 k195 k196 k197 k198 k199 k200 k201 k202 k203 k204 k205 k206 k207 k208 k209 k210 k211 k212 k213 k214 k215 k216 k217 k218 k219 k220 k221 k222 k223 k224 k225 k226 k227 : Value} {RES : Option Eff} {FM lo hi : Int} {f wa wl wo wh : ByteArray} {R : List ByteArray} {w w3 : World} {wb : Nat} (hwb : wb < w.heap.size) (HTX : Hid (∀ W, Below w.heap.size w W → TextW W)) (HRZ : Hid (RES = prsC FM lo hi R)) (HSR : Hid (∀ x ∈ R, x.size ≤ 5000)) (HS3 : Hid (RS w wb (f :: wa :: wl :: wo :: wh :: R) #[.int .i64 FM, .int .i64 0, .int .i64 0, .int .i64 0, .int .i64 0, .int .i64 0, .bool false, .bool false, .slice none 0 0] w3)) :
    Code.wp Tryz.prog (snd1 (snd1 (snd1 (snd1 (snd1 (snd1 (snd1 (bodyOf Tryz.f7)))))))) (bodyPost Tryz.prog Tryz.f7 (RdPost RES w)) { tmps := #[k0, .pointer (some ⟨w.heap.size, 0, none⟩), .pointer (some ⟨w.heap.size + 1, 0, none⟩), k3, .pointer (some ⟨w.heap.size + 1 + 1, 0, none⟩), k5, .int .i64 lo, k7, .int .i64 hi, k9, k10, k11, k12, k13, k14, k15, k16, k17, k18, k19, k20, k21, k22, k23, k24, k25, k26, k27, k28, k29, k30, k31, k32, k33, k34, k35, k36, k37, k38, k39, k40, k41, k42, k43, k44, k45, k46, k47, k48, k49, k50, k51, k52, k53, k54, k55, k56, k57, k58, k59, k60, k61, k62, k63, k64, k65, k66, k67, k68, k69, k70, k71, k72, k73, k74, k75, k76, k77, k78, k79, k80, k81, k82, k83, k84, k85, k86, k87, k88, k89, k90, k91, k92, k93, k94, k95, k96, k97, k98, k99, k100, k101, k102, k103, k104, k105, k106, k107, k108, k109, k110, k111, k112, k113, k114, k115, k116, k117, k118, k119, k120, k121, k122, k123, k124, k125, k126, k127, k128, k129, k130, k131, k132, k133, k134, k135, k136, k137, k138, k139, k140, k141, k142, k143, k144, k145, k146, k147, k148, k149, k150, k151, k152, k153, k154, k155, k156, k157, k158, k159, k160, k161, k162, k163, k164, k165, k166, k167, k168, k169, k170, k171, k172, k173, k174, k175, k176, k177, k178, k179, k180, k181, k182, k183, k184, k185, k186, k187, k188, k189, k190, k191, k192, k193, k194, k195, k196, k197, k198, k199, k200, k201, k202, k203, k204, k205, k206, k207, k208, k209, k210, k211, k212, k213, k214, k215, k216, k217, k218, k219, k220, k221, k222, k223, k224, k225, k226, k227], defers := [] } w3 := by
  have HPN := Lib.hid (fun v w' h1 h2 h3 => rdPost_none (RES := RES) (w := w) (v := v) (w' := w') h1 h2 h3)
  have HPS := Lib.hid (fun E sv w' h1 h2 h3 h4 => rdPost_some (RES := RES) (w := w) (E := E) (sv := sv) (w' := w') h1 h2 h3 h4)
  obtain ⟨QQ, hQQ⟩ : ∃ q, q = bodyPost Tryz.prog Tryz.f7 (RdPost RES w) := ⟨_, rfl⟩
  rw [← hQQ]
  dsimp only [snd1, bodyOf, Tryz.f7, Option.getD]
  subst hQQ
  have hcf := kv_call
  obtain ⟨_, hE, hZ, hB⟩ := HS3.out
  have q1 := hE.cell (i := 1) rfl
  have q2 := hE.cell (i := 2) rfl
  have z1 := hE.frozen 1
  have z2 := hE.frozen 2
  have ql := hE.lt
  clear hE hZ hB
  go_upto_region 14 with fail
  clear q1 q2 z1 z2 ql
  have HS4 := Lib.hid (show RS w wb (f :: wa :: wl :: wo :: wh :: R) #[.int .i64 FM, .int .i64 lo, .int .i64 hi, .int .i64 0, .int .i64 0, .int .i64 0, .bool false, .bool false, .slice none 0 0] _ from (HS3.out.setE hwb 1 (.int .i64 lo)).setE hwb 2 (.int .i64 hi))
  generalize (w3.setCell ⟨w.heap.size + 1 + 1, 1, none⟩ (.int .i64 lo)).setCell ⟨w.heap.size + 1 + 1, 2, none⟩ (.int .i64 hi) = w4 at *
  clear HS3
  go_cut [] (fun wx => Hid (RS w wb R #[.int .i64 FM, .int .i64 lo, .int .i64 hi, .int .i64 0, .int .i64 0, .int .i64 0, .bool false, .bool false, .slice none 0 0] wx))
  case first =>
    obtain ⟨⟨o, cap, hT, hR, hc1, hc2⟩, hE, hZ, hB⟩ := HS4.out
    have t0 : w4.cell? ⟨w.heap.size, 0, none⟩ = some (Value.slice (some ⟨wb, o, none⟩) (R.length + 5) cap) := hT.cell (i := 0) rfl
    have tl := hT.lt
    have z0 := hT.frozen 0
    have hc3 : R.length + 5 ≤ cap := by simpa using hc1
    have hRt : RowS w4 wb (o + 5) R := fun j hj => by
      have := hR (j + 5) (by simp; omega)
      rw [show o + 5 + j = o + (j + 5) by omega]
      simpa using this
    by_cases hc5 : cap = 5
    · subst hc5
      obtain rfl : R = [] := List.length_eq_zero_iff.1 (by omega)
      have HS5 := Lib.hid (HS4.out.setT (R' := []) hwb o 0 (fun j hj => absurd hj (by simp)) (by simp) (by omega))
      clear hT hE hZ hB hR hRt hc1 hc2 hc3
      go_wp2_with fail
      go_meet
      exact HS5
    · have HS5 := Lib.hid (HS4.out.setT hwb (o + 5) (cap - 5) hRt (by omega) (by omega))
      have hc4 : (5 : Int) ≤ cap := by omega
      clear hT hE hZ hB hR hRt hc1 hc2
      go_wp2_with fail
      go_meet
      exact HS5
  case rest =>
  obtain ⟨w5, rfl⟩ : ∃ x, x = wc := ⟨wc, rfl⟩
  have HS5 := Lib.hid hcut.out
  clear HS4 hcut
  go_upto_region 16 with fail
  rename_i KA hKA KB hKB
  go_cut [104] (fun s wx => Hid ((s = .bool true ∧ FailC w RES wx) ∨ (s = .bool false ∧ ∃ c wd R', RES = prsS FM lo hi c wd R' ∧ (∀ x ∈ R', x.size ≤ 5000) ∧ RS w wb R' #[.int .i64 FM, .int .i64 lo, .int .i64 hi, .int .i64 c, .int .i64 wd, .int .i64 0, .bool false, .bool false, .slice none 0 0] wx)))
  case first =>
    by_cases h7 : FM = 7
    · have hb7 : (FM != 7) = false := by simp [h7]
      have hb4 : (FM == 4) = false := by simp [h7]
      have HX := Lib.hid (show RES = prsS FM lo hi 0 0 R by rw [HRZ.out]; unfold prsC; rw [if_pos h7])
      obtain ⟨_, hE, _, _⟩ := HS5.out
      have q0 := hE.cell (i := 0) rfl
      have ql := hE.lt
      clear hE h7
      go_wp2_with fail
      go_meet
      exact Lib.hid (.inr ⟨rfl, 0, 0, R, HX.out, HSR.out, HS5.out⟩)
    have hb7 : (FM != 7) = true := by simp [h7]
    obtain ⟨⟨o, cap, hT, hR, hc1, hc2⟩, hE, hZ, hB⟩ := HS5.out
    have CK := Lib.hid (kv_any cycB R w.heap.size (w.heap.size + 1 + 1) 3 wb o cap _ _ hT hE rfl hR hc1 hc2 (fun x hx => Nat.le_trans (HSR.out x hx) (by decide)) (by omega) (Nat.lt_of_lt_of_le hwb hB.size))
    have HC1 := Lib.hid hc1
    have HC2 := Lib.hid hc2
    have q0 := hE.cell (i := 0) rfl
    have ql := hE.lt
    clear hT hR hc1 hc2 hE hZ hB
    go_wp2_with fail
    refine CK.out.mono ?_
    intro e w6 hp
    clear CK q0 ql
    cases hk : kvW cycB R with
    | none =>
      obtain ⟨rfl, n, hE, hZ, hB⟩ := HS5.out.kvNo hk hp
      have HN := Lib.hid (show RES = none by rw [HRZ.out]; unfold prsC; rw [if_neg h7, hk])
      have HF := Lib.hid (show FailC w RES w6 from ⟨HN.out, _, _, _, _, _, _, _, _, _, _, _, hE, hZ, hB⟩)
      clear hE hZ hB hp hk h7 HRZ
      go_wp2_with fail
      go_meet
      exact Lib.hid (.inl ⟨rfl, HF.out⟩)
    | some nr =>
      obtain ⟨n, R1⟩ := nr
      obtain ⟨rfl, hS, hm⟩ := HS5.out.kv (n := 0) hwb HC2.out hk HC1.out hp
      have HS6 := Lib.hid (show RS w wb R1 #[.int .i64 FM, .int .i64 lo, .int .i64 hi, .int .i64 n, .int .i64 0, .int .i64 0, .bool false, .bool false, .slice none 0 0] w6 from hS)
      have HSR1 := Lib.hid (show ∀ x ∈ R1, x.size ≤ 5000 from fun x hx => HSR.out x (hm x hx))
      clear hS hm hp HC1 HC2
      by_cases h4 : FM = 4
      · have hb4 : (FM == 4) = true := by simp [h4]
        obtain ⟨⟨o, cap, hT, hR, hc1, hc2⟩, hE, hZ, hB⟩ := HS6.out
        have CK := Lib.hid (kv_any widB R1 w.heap.size (w.heap.size + 1 + 1) 4 wb o cap _ _ hT hE rfl hR hc1 hc2 (fun x hx => Nat.le_trans (HSR1.out x hx) (by decide)) (by omega) (Nat.lt_of_lt_of_le hwb hB.size))
        have HC1 := Lib.hid hc1
        have HC2 := Lib.hid hc2
        have q0 := hE.cell (i := 0) rfl
        have ql := hE.lt
        clear hT hR hc1 hc2 hE hZ hB
        go_wp2_with fail
        refine CK.out.mono ?_
        intro e w7 hp
        clear CK q0 ql
        cases hk2 : kvW widB R1 with
        | none =>
          obtain ⟨rfl, n2, hE, hZ, hB⟩ := HS6.out.kvNo hk2 hp
          have HN := Lib.hid (show RES = none by rw [HRZ.out]; unfold prsC; rw [if_neg h7, hk]; simp only; rw [if_pos h4, hk2])
          have HF := Lib.hid (show FailC w RES w7 from ⟨HN.out, _, _, _, _, _, _, _, _, _, _, _, hE, hZ, hB⟩)
          clear hE hZ hB hp hk hk2 h7 h4 HRZ
          go_wp2_with fail
          go_meet
          exact Lib.hid (.inl ⟨rfl, HF.out⟩)
        | some nr =>
          obtain ⟨n2, R2⟩ := nr
          obtain ⟨rfl, hS, hm⟩ := HS6.out.kv (n := 0) hwb HC2.out hk2 HC1.out hp
          have HS7 := Lib.hid (show RS w wb R2 #[.int .i64 FM, .int .i64 lo, .int .i64 hi, .int .i64 n, .int .i64 n2, .int .i64 0, .bool false, .bool false, .slice none 0 0] w7 from hS)
          have HSR2 := Lib.hid (show ∀ x ∈ R2, x.size ≤ 5000 from fun x hx => HSR1.out x (hm x hx))
          have HX := Lib.hid (show RES = prsS FM lo hi n n2 R2 by rw [HRZ.out]; unfold prsC; rw [if_neg h7, hk]; simp only; rw [if_pos h4, hk2])
          clear hS hm hp HC1 HC2 hk hk2 h7 h4 HRZ
          go_wp2_with fail
          go_meet
          exact Lib.hid (.inr ⟨rfl, n, n2, R2, HX.out, HSR2.out, HS7.out⟩)
      · have hb4 : (FM == 4) = false := by simp [h4]
        have HX := Lib.hid (show RES = prsS FM lo hi n 0 R1 by rw [HRZ.out]; unfold prsC; rw [if_neg h7, hk]; simp only; rw [if_neg h4])
        obtain ⟨_, hE, _, _⟩ := HS6.out
        have q0 := hE.cell (i := 0) rfl
        have ql := hE.lt
        clear hE hk h7 h4 HRZ
        go_wp2_with fail
        go_meet
        exact Lib.hid (.inr ⟨rfl, n, 0, R1, HX.out, HSR1.out, HS6.out⟩)
  case rest =>
  clear HS5 HRZ HSR
  rcases hcut.out with ⟨rfl, hf⟩ | ⟨rfl, c, wd, R2, hx, hsr, hs⟩
  · obtain ⟨HN, u0, u1, u2, u3, u4, u5, v6, v7, so, sl, sc, hE, hZ, hB⟩ := hf
    have HN := Lib.hid HN
    clear hcut
    go_upto_region 17 with fail
    go_cut [3] (fun s wx => s = .bool (false) ∧ Hid (TBox wx (w.heap.size + 1) 24 #[.int .i64 u0, .int .i64 u1, .int .i64 u2, .int .i64 u3, .int .i64 u4, .int .i64 u5, .bool v6, .bool v7, (.slice so sl sc)]) ∧ Hid (Below w.heap.size w wx))
    case first =>
      have q0 := hE.cell (i := 0) rfl
      have q1 := hE.cell (i := 1) rfl
      have q2 := hE.cell (i := 2) rfl
      have q3 := hE.cell (i := 3) rfl
      have q4 := hE.cell (i := 4) rfl
      have q5 := hE.cell (i := 5) rfl
      have q6 := hE.cell (i := 6) rfl
      have q7 := hE.cell (i := 7) rfl
      have q8 := hE.cell (i := 8) rfl
      have ql := hE.lt
      have r0 := hZ.cell (i := 0) rfl
      have r1 := hZ.cell (i := 1) rfl
      have r2 := hZ.cell (i := 2) rfl
      have r3 := hZ.cell (i := 3) rfl
      have r4 := hZ.cell (i := 4) rfl
      have r5 := hZ.cell (i := 5) rfl
      have r6 := hZ.cell (i := 6) rfl
      have r7 := hZ.cell (i := 7) rfl
      have r8 := hZ.cell (i := 8) rfl
      have z0 := hZ.frozen 0
      have z1 := hZ.frozen 1
      have z2 := hZ.frozen 2
      have z3 := hZ.frozen 3
      have z4 := hZ.frozen 4
      have z5 := hZ.frozen 5
      have z6 := hZ.frozen 6
      have z7 := hZ.frozen 7
      have z8 := hZ.frozen 8
      have rl2 := hZ.lt
      have HXB := Lib.hid (set9_box (w := wc) hZ (u0 := .int .i64 u0) (u1 := .int .i64 u1) (u2 := .int .i64 u2) (u3 := .int .i64 u3) (u4 := .int .i64 u4) (u5 := .int .i64 u5) (u6 := .bool v6) (u7 := .bool v7) (u8 := (.slice so sl sc)))
      have HB9 := Lib.hid (set9_below (W := wc) hB (show w.heap.size ≤ w.heap.size + 1 by omega) (.int .i64 u0) (.int .i64 u1) (.int .i64 u2) (.int .i64 u3) (.int .i64 u4) (.int .i64 u5) (.bool v6) (.bool v7) ((.slice so sl sc)))
      clear hE hZ hB 
      go_wp2_with fail
      go_meet
      exact ⟨by first | rfl | (simp; done), HXB, HB9⟩
    case rest =>
      rename_i KK hKK
      obtain ⟨rfl, HQ, HB9⟩ := hcut
      have x0 := HQ.out.cell (i := 0) rfl
      have x1 := HQ.out.cell (i := 1) rfl
      have x2 := HQ.out.cell (i := 2) rfl
      have x3 := HQ.out.cell (i := 3) rfl
      have x4 := HQ.out.cell (i := 4) rfl
      have x5 := HQ.out.cell (i := 5) rfl
      have x6 := HQ.out.cell (i := 6) rfl
      have x7 := HQ.out.cell (i := 7) rfl
      have x8 := HQ.out.cell (i := 8) rfl
      refine hKK _ _ (wp_ret ?_)
      exact bodyPost_ret (v := .tuple #[.agg #[.int .i64 u0, .int .i64 u1, .int .i64 u2, .int .i64 u3, .int .i64 u4, .int .i64 u5, .bool v6, .bool v7, (.slice so sl sc)], .bool (false)]) (by simp [results, Tryz.results7, go_sem, x0, x1, x2, x3, x4, x5, x6, x7, x8]) rfl (HPN.out _ _ HN.out ⟨_, _, _, _, _, _, _, _, _, _, _, rfl⟩ HB9.out)
  have HRX := Lib.hid hx
  have HSR := Lib.hid hsr
  have HS6 := Lib.hid hs
  clear hcut hx hsr hs
  obtain ⟨w6, rfl⟩ : ∃ x, x = wc := ⟨wc, rfl⟩
  go_upto_if 104 with fail
  go_cut [] (fun wx => w6 = wx)
  case first =>
    go_wp2_with fail
    go_meet
    rfl
  case rest =>
  obtain rfl := hcut
  exact hKA _ _ (et18 hwb HTX HRX HSR HS6)
end Go.Proofs.YtfidbdegggalmaaGreatDoor
