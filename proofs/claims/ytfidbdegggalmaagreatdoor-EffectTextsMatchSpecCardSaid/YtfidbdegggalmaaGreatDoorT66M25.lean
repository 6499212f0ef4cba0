/- effect.read: the end, forms other than steps. (printed by wip/gen/gen_eread.py) -/
import Derived.Test.YtfidbdegggalmaaGreatDoorT66M24

namespace Go.Proofs.YtfidbdegggalmaaGreatDoor
open Go.RowKit
set_option linter.unusedVariables false
set_option linter.unusedSimpArgs false

set_option maxRecDepth 100000 in
set_option maxHeartbeats 16000000 in
theorem et31B {k0 k3 k5 k6 k7 k8 k9 k10 k11 k12 k13 k14 k15 k16 k17 k18 k19 k20 k21 k22 k23 k24 k25 k26 k27 k28 k29 k30 k31 k32 k33 k34 k35 k36 k37 k38 k39 k40 k41 k42 k43 k44 k45 k46 k47 k48 k49 k50 k51 k52 k53 k54 k55 k56 k57 k58 k59 k60 k61 k62 k63 k64 k65 k66 k67 k68 k69 k70 k71 k72 k73 k74 k75 k76 k77 k78 k79 k80 k81 k82 k83 k84 k85 k86 k87 k88 k89 k90 k91 k92 k93 k94 k95 k96 k97 k98 k99 k100 k101 k102 k103 k104 k105 k106 k107 k108 k109 k110 k111 k112 k113 k114 k115 k116 k117 k118 k119 k120 k121 k122 k123 k124 k125 k126 k127 k128 k129 k130 k131 k132 k133 k134 k135 k136 k137 k138 k139 k140 k141 k142 k143 k144 k145 k146 k147 k148 k149 k150 k151 k152 k153 k154 k155 k156 k157 k158 k159 k160 k161 k162 k163 k164 k165 k166 k167 k168 k169 k170 k171 k172 k173 k174 k175 k176 k177 k178 k179 k180 k181 k182 k183 k184 k185 k186 k187 k188 k189 k190 k191 k192 k193 k194 k195 k196 k197 k198 k199 k200 k201 k202 k203 k204 k205 k206 k207 k208 k209 k210 k211 k212 k213 k214 k215 k216 k217 k218 k219 k220 k221 k222 k223 k224 k225 k226 k227 : Value} {RES : Option Eff} {FM lo hi c wd sp : Int} {bk rl : Bool} {R5 : List ByteArray} {w w9 : World} {wb : Nat} (hwb : wb < w.heap.size) (HTX : Hid (∀ W, Below w.heap.size w W → TextW W)) (HRX : Hid (RES = prsT FM lo hi c wd sp bk rl R5)) (HSR : Hid (∀ x ∈ R5, x.size ≤ 5000)) (HS9 : Hid (RS w wb R5 #[.int .i64 FM, .int .i64 lo, .int .i64 hi, .int .i64 c, .int .i64 wd, .int .i64 sp, .bool bk, .bool rl, .slice none 0 0] w9)) (h7 : ¬ FM = 7) :
    Code.wp Tryz.prog (snd1 (snd1 (snd1 (snd1 (snd1 (snd1 (snd1 (snd1 (snd1 (snd1 (snd1 (snd1 (snd1 (snd1 (bodyOf Tryz.f7))))))))))))))) (bodyPost Tryz.prog Tryz.f7 (RdPost RES w)) { tmps := #[k0, .pointer (some ⟨w.heap.size, 0, none⟩), .pointer (some ⟨w.heap.size + 1, 0, none⟩), k3, .pointer (some ⟨w.heap.size + 1 + 1, 0, none⟩), k5, k6, k7, k8, k9, k10, k11, k12, k13, k14, k15, k16, k17, k18, k19, k20, k21, k22, k23, k24, k25, k26, k27, k28, k29, k30, k31, k32, k33, k34, k35, k36, k37, k38, k39, k40, k41, k42, k43, k44, k45, k46, k47, k48, k49, k50, k51, k52, k53, k54, k55, k56, k57, k58, k59, k60, k61, k62, k63, k64, k65, k66, k67, k68, k69, k70, k71, k72, k73, k74, k75, k76, k77, k78, k79, k80, k81, k82, k83, k84, k85, k86, k87, k88, k89, k90, k91, k92, k93, k94, k95, k96, k97, k98, k99, k100, k101, k102, k103, k104, k105, k106, k107, k108, k109, k110, k111, k112, k113, k114, k115, k116, k117, k118, k119, k120, k121, k122, k123, k124, k125, k126, k127, k128, k129, k130, k131, k132, k133, k134, k135, k136, k137, k138, k139, k140, k141, k142, k143, k144, k145, k146, k147, k148, k149, k150, k151, k152, k153, k154, k155, k156, k157, k158, k159, k160, k161, k162, k163, k164, k165, k166, k167, k168, k169, k170, k171, k172, k173, k174, k175, k176, k177, k178, k179, k180, k181, k182, k183, k184, k185, k186, k187, k188, k189, k190, k191, k192, k193, k194, k195, k196, k197, k198, k199, k200, k201, k202, k203, k204, k205, k206, k207, k208, k209, k210, k211, k212, k213, k214, k215, k216, k217, k218, k219, k220, k221, k222, k223, k224, k225, k226, k227], defers := [] } w9 := by
  have HPN := Lib.hid (fun v w' h1 h2 h3 => rdPost_none (RES := RES) (w := w) (v := v) (w' := w') h1 h2 h3)
  have HPS := Lib.hid (fun E sv w' h1 h2 h3 h4 => rdPost_some (RES := RES) (w := w) (E := E) (sv := sv) (w' := w') h1 h2 h3 h4)
  obtain ⟨QQ, hQQ⟩ : ∃ q, q = bodyPost Tryz.prog Tryz.f7 (RdPost RES w) := ⟨_, rfl⟩
  rw [← hQQ]
  dsimp only [snd1, bodyOf, Tryz.f7, Option.getD]
  subst hQQ
  have hb7 : (FM != 7) = true := by simp [h7]
  rcases R5 with _ | ⟨x5, R6⟩
  · have HN := Lib.hid (show RES = some ⟨FM, lo, hi, c, wd, sp, bk, rl, []⟩ by rw [HRX.out]; unfold prsT; rw [if_neg h7, if_pos rfl])
    clear HRX h7 HSR
    obtain ⟨⟨o, cap, hT, hR, hc1, hc2⟩, hE, hZ, hB⟩ := HS9.out
    have t0 : w9.cell? ⟨w.heap.size, 0, none⟩ = some (Value.slice (some ⟨wb, o, none⟩) 0 cap) := hT.cell (i := 0) rfl
    have tl := hT.lt
    have q0 := hE.cell (i := 0) rfl
    have ql := hE.lt
    clear hT hR hc1 hc2
    go_upto_region 32 with fail
    go_cut [3] (fun s wx => s = .bool (true) ∧ Hid (TBox wx (w.heap.size + 1) 24 #[.int .i64 FM, .int .i64 lo, .int .i64 hi, .int .i64 c, .int .i64 wd, .int .i64 sp, .bool bk, .bool rl, .slice none 0 0]) ∧ Hid (Below w.heap.size w wx))
    case first =>
      have q0 := hE.cell (i := 0) rfl
      have q1 := hE.cell (i := 1) rfl
      have q2 := hE.cell (i := 2) rfl
      have q3 := hE.cell (i := 3) rfl
      have q4 := hE.cell (i := 4) rfl
      have q5 := hE.cell (i := 5) rfl
      have q6 := hE.cell (i := 6) rfl
      have q7 := hE.cell (i := 7) rfl
      have q8 := hE.cell (i := 8) rfl
      have ql := hE.lt
      have r0 := hZ.cell (i := 0) rfl
      have r1 := hZ.cell (i := 1) rfl
      have r2 := hZ.cell (i := 2) rfl
      have r3 := hZ.cell (i := 3) rfl
      have r4 := hZ.cell (i := 4) rfl
      have r5 := hZ.cell (i := 5) rfl
      have r6 := hZ.cell (i := 6) rfl
      have r7 := hZ.cell (i := 7) rfl
      have r8 := hZ.cell (i := 8) rfl
      have z0 := hZ.frozen 0
      have z1 := hZ.frozen 1
      have z2 := hZ.frozen 2
      have z3 := hZ.frozen 3
      have z4 := hZ.frozen 4
      have z5 := hZ.frozen 5
      have z6 := hZ.frozen 6
      have z7 := hZ.frozen 7
      have z8 := hZ.frozen 8
      have rl2 := hZ.lt
      have HXB := Lib.hid (set9_box (w := w9) hZ (u0 := .int .i64 FM) (u1 := .int .i64 lo) (u2 := .int .i64 hi) (u3 := .int .i64 c) (u4 := .int .i64 wd) (u5 := .int .i64 sp) (u6 := .bool bk) (u7 := .bool rl) (u8 := .slice none 0 0))
      have HB9 := Lib.hid (set9_below (W := w9) hB (show w.heap.size ≤ w.heap.size + 1 by omega) (.int .i64 FM) (.int .i64 lo) (.int .i64 hi) (.int .i64 c) (.int .i64 wd) (.int .i64 sp) (.bool bk) (.bool rl) (.slice none 0 0))
      clear hE hZ hB 
      go_region
      all_goals (go_wp2_with fail)
      all_goals go_meet
      all_goals exact ⟨by first | rfl | (simp; done), Lib.hid ((HXB.out).below (Below.refl _ _).drew), Lib.hid HB9.out.drew⟩
    case rest =>
      rename_i KK hKK
      obtain ⟨rfl, HQ, HB9⟩ := hcut
      have x0 := HQ.out.cell (i := 0) rfl
      have x1 := HQ.out.cell (i := 1) rfl
      have x2 := HQ.out.cell (i := 2) rfl
      have x3 := HQ.out.cell (i := 3) rfl
      have x4 := HQ.out.cell (i := 4) rfl
      have x5 := HQ.out.cell (i := 5) rfl
      have x6 := HQ.out.cell (i := 6) rfl
      have x7 := HQ.out.cell (i := 7) rfl
      have x8 := HQ.out.cell (i := 8) rfl
      refine hKK _ _ (wp_ret ?_)
      exact bodyPost_ret (v := .tuple #[.agg #[.int .i64 FM, .int .i64 lo, .int .i64 hi, .int .i64 c, .int .i64 wd, .int .i64 sp, .bool bk, .bool rl, .slice none 0 0], .bool (true)]) (by simp [results, Tryz.results7, go_sem, x0, x1, x2, x3, x4, x5, x6, x7, x8]) rfl (HPS.out ⟨FM, lo, hi, c, wd, sp, bk, rl, []⟩ _ _ HN.out ⟨none, 0, rfl, Nat.zero_le _, fun h => absurd rfl h⟩ (FreshS.nil _ _ _) HB9.out)
  · have HN := Lib.hid (show RES = none by rw [HRX.out]; unfold prsT; rw [if_neg h7, if_neg (by simp)])
    clear HRX h7 HSR
    obtain ⟨⟨o, cap, hT, hR, hc1, hc2⟩, hE, hZ, hB⟩ := HS9.out
    have t0 : w9.cell? ⟨w.heap.size, 0, none⟩ = some (Value.slice (some ⟨wb, o, none⟩) (R6.length + 1) cap) := hT.cell (i := 0) rfl
    have tl := hT.lt
    have q0 := hE.cell (i := 0) rfl
    have ql := hE.lt
    have h5 : ¬ ((R6.length : Int) + 1 = 0) := by omega
    have h6 : ((R6.length : Int) + 1 == 0) = false := by simp [h5]
    clear hT hR hc1 hc2
    go_upto_region 32 with fail
    go_cut [3] (fun s wx => s = .bool (false) ∧ Hid (TBox wx (w.heap.size + 1) 24 #[.int .i64 FM, .int .i64 lo, .int .i64 hi, .int .i64 c, .int .i64 wd, .int .i64 sp, .bool bk, .bool rl, .slice none 0 0]) ∧ Hid (Below w.heap.size w wx))
    case first =>
      have q0 := hE.cell (i := 0) rfl
      have q1 := hE.cell (i := 1) rfl
      have q2 := hE.cell (i := 2) rfl
      have q3 := hE.cell (i := 3) rfl
      have q4 := hE.cell (i := 4) rfl
      have q5 := hE.cell (i := 5) rfl
      have q6 := hE.cell (i := 6) rfl
      have q7 := hE.cell (i := 7) rfl
      have q8 := hE.cell (i := 8) rfl
      have ql := hE.lt
      have r0 := hZ.cell (i := 0) rfl
      have r1 := hZ.cell (i := 1) rfl
      have r2 := hZ.cell (i := 2) rfl
      have r3 := hZ.cell (i := 3) rfl
      have r4 := hZ.cell (i := 4) rfl
      have r5 := hZ.cell (i := 5) rfl
      have r6 := hZ.cell (i := 6) rfl
      have r7 := hZ.cell (i := 7) rfl
      have r8 := hZ.cell (i := 8) rfl
      have z0 := hZ.frozen 0
      have z1 := hZ.frozen 1
      have z2 := hZ.frozen 2
      have z3 := hZ.frozen 3
      have z4 := hZ.frozen 4
      have z5 := hZ.frozen 5
      have z6 := hZ.frozen 6
      have z7 := hZ.frozen 7
      have z8 := hZ.frozen 8
      have rl2 := hZ.lt
      have HXB := Lib.hid (set9_box (w := w9) hZ (u0 := .int .i64 FM) (u1 := .int .i64 lo) (u2 := .int .i64 hi) (u3 := .int .i64 c) (u4 := .int .i64 wd) (u5 := .int .i64 sp) (u6 := .bool bk) (u7 := .bool rl) (u8 := .slice none 0 0))
      have HB9 := Lib.hid (set9_below (W := w9) hB (show w.heap.size ≤ w.heap.size + 1 by omega) (.int .i64 FM) (.int .i64 lo) (.int .i64 hi) (.int .i64 c) (.int .i64 wd) (.int .i64 sp) (.bool bk) (.bool rl) (.slice none 0 0))
      clear hE hZ hB 
      go_region
      all_goals (go_wp2_with fail)
      all_goals go_meet
      all_goals exact ⟨by first | rfl | (simp; done), Lib.hid ((HXB.out).below (Below.refl _ _).drew), Lib.hid HB9.out.drew⟩
    case rest =>
      rename_i KK hKK
      obtain ⟨rfl, HQ, HB9⟩ := hcut
      have x0 := HQ.out.cell (i := 0) rfl
      have x1 := HQ.out.cell (i := 1) rfl
      have x2 := HQ.out.cell (i := 2) rfl
      have x3 := HQ.out.cell (i := 3) rfl
      have x4 := HQ.out.cell (i := 4) rfl
      have x5 := HQ.out.cell (i := 5) rfl
      have x6 := HQ.out.cell (i := 6) rfl
      have x7 := HQ.out.cell (i := 7) rfl
      have x8 := HQ.out.cell (i := 8) rfl
      refine hKK _ _ (wp_ret ?_)
      exact bodyPost_ret (v := .tuple #[.agg #[.int .i64 FM, .int .i64 lo, .int .i64 hi, .int .i64 c, .int .i64 wd, .int .i64 sp, .bool bk, .bool rl, .slice none 0 0], .bool (false)]) (by simp [results, Tryz.results7, go_sem, x0, x1, x2, x3, x4, x5, x6, x7, x8]) rfl (HPN.out _ _ HN.out ⟨_, _, _, _, _, _, _, _, _, _, _, rfl⟩ HB9.out)
end Go.Proofs.YtfidbdegggalmaaGreatDoor
