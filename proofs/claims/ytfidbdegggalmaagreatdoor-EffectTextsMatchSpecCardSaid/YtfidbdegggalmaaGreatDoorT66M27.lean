/- effect.read: 'relative', 'back'. (printed by wip/gen/gen_eread.py) -/
import Derived.Test.YtfidbdegggalmaaGreatDoorT66M25
import Derived.Test.YtfidbdegggalmaaGreatDoorT66M26

namespace Go.Proofs.YtfidbdegggalmaaGreatDoor
open Go.RowKit
set_option linter.unusedVariables false
set_option linter.unusedSimpArgs false

set_option maxRecDepth 100000 in
set_option maxHeartbeats 16000000 in
theorem et29 {k0 k3 k5 k6 k7 k8 k9 k10 k11 k12 k13 k14 k15 k16 k17 k18 k19 k20 k21 k22 k23 k24 k25 k26 k27 k28 k29 k30 k31 k32 k33 k34 k35 k36 k37 k38 k39 k40 k41 k42 k43 k44 k45 k46 k47 k48 k49 k50 k51 k52 k53 k54 k55 k56 k57 k58 k59 k60 k61 k62 k63 k64 k65 k66 k67 k68 k69 k70 k71 k72 k73 k74 k75 k76 k77 k78 k79 k80 k81 k82 k83 k84 k85 k86 k87 k88 k89 k90 k91 k92 k93 k94 k95 k96 k97 k98 k99 k100 k101 k102 k103 k104 k105 k106 k107 k108 k109 k110 k111 k112 k113 k114 k115 k116 k117 k118 k119 k120 k121 k122 k123 k124 k125 k126 k127 k128 k129 k130 k131 k132 k133 k134 k135 k136 k137 k138 k139 k140 k141 k142 k143 k144 k145 k146 k147 k148 k149 k150 k151 k152 k153 k154 k155 k156 k157 k158 k159 k160 k161 k162 k163 k164 k165 k166 k167 k168 k169 k170 k171 k172 k173 k174 k175 k176 k177 k178 k179 k180 k181 k182 k183 k184 k185 k186 k187 k188 k189 k190 k191 k192 k193 k194 k195 k196 k197 k198 k199 k200 k201 k202 k203 k204 k205 k206 k207 k208 k209 k210 k211 k212 k213 k214 k215 k216 k217 k218 k219 k220 k221 k222 k223 k224 k225 k226 k227 : Value} {RES : Option Eff} {FM lo hi c wd sp : Int} {bk : Bool} {R4 : List ByteArray} {w w8 : World} {wb : Nat} (hwb : wb < w.heap.size) (HTX : Hid (∀ W, Below w.heap.size w W → TextW W)) (HRX : Hid (RES = prsR FM lo hi c wd sp bk R4)) (HSR : Hid (∀ x ∈ R4, x.size ≤ 5000)) (HS8 : Hid (RS w wb R4 #[.int .i64 FM, .int .i64 lo, .int .i64 hi, .int .i64 c, .int .i64 wd, .int .i64 sp, .bool bk, .bool false, .slice none 0 0] w8)) :
    Code.wp Tryz.prog (snd1 (snd1 (snd1 (snd1 (snd1 (snd1 (snd1 (snd1 (snd1 (snd1 (snd1 (snd1 (snd1 (bodyOf Tryz.f7)))))))))))))) (bodyPost Tryz.prog Tryz.f7 (RdPost RES w)) { tmps := #[k0, .pointer (some ⟨w.heap.size, 0, none⟩), .pointer (some ⟨w.heap.size + 1, 0, none⟩), k3, .pointer (some ⟨w.heap.size + 1 + 1, 0, none⟩), k5, k6, k7, k8, k9, k10, k11, k12, k13, k14, k15, k16, k17, k18, k19, k20, k21, k22, k23, k24, k25, k26, k27, k28, k29, k30, k31, k32, k33, k34, k35, k36, k37, k38, k39, k40, k41, k42, k43, k44, k45, k46, k47, k48, k49, k50, k51, k52, k53, k54, k55, k56, k57, k58, k59, k60, k61, k62, k63, k64, k65, k66, k67, k68, k69, k70, k71, k72, k73, k74, k75, k76, k77, k78, k79, k80, k81, k82, k83, k84, k85, k86, k87, k88, k89, k90, k91, k92, k93, k94, k95, k96, k97, k98, k99, k100, k101, k102, k103, k104, k105, k106, k107, k108, k109, k110, k111, k112, k113, k114, k115, k116, k117, k118, k119, k120, k121, k122, k123, k124, k125, k126, k127, k128, k129, k130, k131, k132, k133, k134, k135, k136, k137, k138, k139, k140, k141, k142, k143, k144, k145, k146, k147, k148, k149, k150, k151, k152, k153, k154, k155, k156, k157, k158, k159, k160, k161, k162, k163, k164, k165, k166, k167, k168, k169, k170, k171, k172, k173, k174, k175, k176, k177, k178, k179, k180, k181, k182, k183, k184, k185, k186, k187, k188, k189, k190, k191, k192, k193, k194, k195, k196, k197, k198, k199, k200, k201, k202, k203, k204, k205, k206, k207, k208, k209, k210, k211, k212, k213, k214, k215, k216, k217, k218, k219, k220, k221, k222, k223, k224, k225, k226, k227], defers := [] } w8 := by
  have HPN := Lib.hid (fun v w' h1 h2 h3 => rdPost_none (RES := RES) (w := w) (v := v) (w' := w') h1 h2 h3)
  have HPS := Lib.hid (fun E sv w' h1 h2 h3 h4 => rdPost_some (RES := RES) (w := w) (E := E) (sv := sv) (w' := w') h1 h2 h3 h4)
  obtain ⟨QQ, hQQ⟩ : ∃ q, q = bodyPost Tryz.prog Tryz.f7 (RdPost RES w) := ⟨_, rfl⟩
  rw [← hQQ]
  dsimp only [snd1, bodyOf, Tryz.f7, Option.getD]
  subst hQQ
  go_upto_region 29 with fail
  rename_i KA hKA KB hKB
  go_cut [162] (fun s wx => s = .bool (tR R4) ∧ w8 = wx)
  case first =>
    rcases R4 with _ | ⟨x, R9⟩
    · obtain ⟨⟨o, cap, hT, hR, hc1, hc2⟩, hE, hZ, hB⟩ := HS8.out
      have t0 : w8.cell? ⟨w.heap.size, 0, none⟩ = some (Value.slice (some ⟨wb, o, none⟩) 0 cap) := hT.cell (i := 0) rfl
      have tl := hT.lt
      clear hT hR hc1 hc2 hE hZ hB
      go_wp2_with fail
      go_meet
      exact ⟨rfl, rfl⟩
    · obtain ⟨⟨o, cap, hT, hR, hc1, hc2⟩, hE, hZ, hB⟩ := HS8.out
      have t0 : w8.cell? ⟨w.heap.size, 0, none⟩ = some (Value.slice (some ⟨wb, o, none⟩) (R9.length + 1) cap) := hT.cell (i := 0) rfl
      have tl := hT.lt
      have d0 : w8.cell? ⟨wb, o, none⟩ = some (.string x) := hR.head
      have hwr : wb < w8.heap.size := Nat.lt_of_lt_of_le hwb hB.size
      have h5 : (0 : Int) < (R9.length : Int) + 1 := by omega
      clear hT hR hc1 hc2 hE hZ hB
      by_cases hx : x = relB
      · have hq : (x.toList == [114, 101, 108, 97, 116, 105, 118, 101]) = true := beqM hx rfl
        have HV := Lib.hid (show tR (x :: R9) = true from decide_eq_true hx)
        clear hx
        go_wp2_with fail
        go_meet
        exact ⟨by rw [HV.out], rfl⟩
      · have hq : (x.toList == [114, 101, 108, 97, 116, 105, 118, 101]) = false := beqL hx rfl
        have HV := Lib.hid (show tR (x :: R9) = false from decide_eq_false hx)
        clear hx
        go_wp2_with fail
        go_meet
        exact ⟨by rw [HV.out], rfl⟩
  case rest =>
  obtain ⟨rfl, rfl⟩ := hcut
  go_upto_if 162 with fail
  go_cut [] (fun wx => Hid (∃ fl R', RES = prsT FM lo hi c wd sp bk fl R' ∧ (∀ x ∈ R', x.size ≤ 5000) ∧ RS w wb R' #[.int .i64 FM, .int .i64 lo, .int .i64 hi, .int .i64 c, .int .i64 wd, .int .i64 sp, .bool bk, .bool fl, .slice none 0 0] wx))
  case first =>
    cases hsp : tR R4 with
    | false =>
      have HX := Lib.hid (show RES = prsT FM lo hi c wd sp bk false R4 by rw [HRX.out]; exact prsR_no hsp)
      clear hsp HRX
      go_wp2_with fail
      go_meet
      exact Lib.hid ⟨false, R4, HX.out, HSR.out, HS8.out⟩
    | true =>
      obtain ⟨R9, rfl⟩ := tR_yes hsp
      have HX := Lib.hid (show RES = prsT FM lo hi c wd sp bk true R9 by rw [HRX.out]; exact prsR_yes ..)
      have HSR9 := Lib.hid (show ∀ x ∈ R9, x.size ≤ 5000 from fun x hx => HSR.out x (by simp [hx]))
      clear hsp HRX HSR
      obtain ⟨⟨o, cap, hT, hR, hc1, hc2⟩, hE, hZ, hB⟩ := HS8.out
      have t0 : w8.cell? ⟨w.heap.size, 0, none⟩ = some (Value.slice (some ⟨wb, o, none⟩) (R9.length + 1) cap) := hT.cell (i := 0) rfl
      have tl := hT.lt
      have z0 := hT.frozen 0
      have q7 := hE.cell (i := 7) rfl
      have z7 := hE.frozen 7
      have ql := hE.lt
      have hc3 : R9.length + 1 ≤ cap := by simpa using hc1
      have h6 : ¬ ((R9.length : Int) + 1 < 1) := by omega
      have hRt : RowS w8 wb (o + 1) R9 := fun j hj => by
        have := hR (j + 1) (by simp; omega)
        rw [show o + 1 + j = o + (j + 1) by omega]
        simpa using this
      by_cases hcz : cap = 1
      · subst hcz
        obtain rfl : R9 = [] := List.length_eq_zero_iff.1 (by omega)
        have HA := Lib.hid (((HS8.out.setE hwb 7 (.bool true)).setT (R' := []) hwb o 0 (fun j hj => absurd hj (by simp)) (by simp) (by omega)).below hwb (Below.refl _ _).drew)
        have HB' := Lib.hid (((HS8.out.setT (R' := []) hwb o 0 (fun j hj => absurd hj (by simp)) (by simp) (by omega)).setE hwb 7 (.bool true)).below hwb (Below.refl _ _).drew)
        clear hT hR hc1 hc2 hE hZ hB hc3 hRt
        go_upto_region 30 with fail
        go_region
        all_goals (go_wp2_with fail)
        all_goals go_meet
        all_goals first | exact Lib.hid ⟨true, [], HX.out, HSR9.out, HA.out⟩ | exact Lib.hid ⟨true, [], HX.out, HSR9.out, HB'.out⟩
      · have hRt2 := hRt.keep hwb ((Below.refl w.heap.size _).setCell (p := ⟨w.heap.size + 1 + 1, 7, none⟩) (by show w.heap.size ≤ w.heap.size + 1 + 1; omega) (.bool true))
        have HA := Lib.hid (((HS8.out.setE hwb 7 (.bool true)).setT (R' := R9) hwb (o + 1) (cap - 1) hRt2 (by omega) (by omega)).below hwb (Below.refl _ _).drew)
        have HB' := Lib.hid (((HS8.out.setT (R' := R9) hwb (o + 1) (cap - 1) hRt (by omega) (by omega)).setE hwb 7 (.bool true)).below hwb (Below.refl _ _).drew)
        have hc4 : (1 : Int) ≤ cap := by omega
        clear hT hR hc1 hc2 hE hZ hB hRt hRt2
        go_upto_region 30 with fail
        go_region
        all_goals (go_wp2_with fail)
        all_goals go_meet
        all_goals first | exact Lib.hid ⟨true, R9, HX.out, HSR9.out, HA.out⟩ | exact Lib.hid ⟨true, R9, HX.out, HSR9.out, HB'.out⟩
  case rest =>
  clear HS8 HRX HSR
  obtain ⟨rl, R5, hx, hsr, hs⟩ := hcut.out
  have HRX := Lib.hid hx
  have HSR := Lib.hid hsr
  have HS9 := Lib.hid hs
  clear hcut hx hsr hs
  obtain ⟨w9, rfl⟩ : ∃ x, x = wc := ⟨wc, rfl⟩
  by_cases h7 : FM = 7
  · exact hKA _ _ (et31C hwb HTX HRX HSR HS9 h7)
  · exact hKA _ _ (et31B hwb HTX HRX HSR HS9 h7)
set_option maxRecDepth 100000 in
set_option maxHeartbeats 16000000 in
theorem et27 {k0 k3 k5 k6 k7 k8 k9 k10 k11 k12 k13 k14 k15 k16 k17 k18 k19 k20 k21 k22 k23 k24 k25 k26 k27 k28 k29 k30 k31 k32 k33 k34 k35 k36 k37 k38 k39 k40 k41 k42 k43 k44 k45 k46 k47 k48 k49 k50 k51 k52 k53 k54 k55 k56 k57 k58 k59 k60 k61 k62 k63 k64 k65 k66 k67 k68 k69 k70 k71 k72 k73 k74 k75 k76 k77 k78 k79 k80 k81 k82 k83 k84 k85 k86 k87 k88 k89 k90 k91 k92 k93 k94 k95 k96 k97 k98 k99 k100 k101 k102 k103 k104 k105 k106 k107 k108 k109 k110 k111 k112 k113 k114 k115 k116 k117 k118 k119 k120 k121 k122 k123 k124 k125 k126 k127 k128 k129 k130 k131 k132 k133 k134 k135 k136 k137 k138 k139 k140 k141 k142 k143 k144 k145 k146 k147 k148 k149 k150 k151 k152 k153 k154 k155 k156 k157 k158 k159 k160 k161 k162 k163 k164 k165 k166 k167 k168 k169 k170 k171 k172 k173 k174 k175 k176 k177 k178 k179 k180 k181 k182 k183 k184 k185 k186 k187 k188 k189 k190 k191 k192 k193 k194 k195 k196 k197 k198 k199 k200 k201 k202 k203 k204 k205 k206 k207 k208 k209 k210 k211 k212 k213 k214 k215 k216 k217 k218 k219 k220 k221 k222 k223 k224 k225 k226 k227 : Value} {RES : Option Eff} {FM lo hi c wd sp : Int} {R3 : List ByteArray} {w w7 : World} {wb : Nat} (hwb : wb < w.heap.size) (HTX : Hid (∀ W, Below w.heap.size w W → TextW W)) (HRX : Hid (RES = prsB FM lo hi c wd sp R3)) (HSR : Hid (∀ x ∈ R3, x.size ≤ 5000)) (HS7 : Hid (RS w wb R3 #[.int .i64 FM, .int .i64 lo, .int .i64 hi, .int .i64 c, .int .i64 wd, .int .i64 sp, .bool false, .bool false, .slice none 0 0] w7)) :
    Code.wp Tryz.prog (snd1 (snd1 (snd1 (snd1 (snd1 (snd1 (snd1 (snd1 (snd1 (snd1 (snd1 (snd1 (bodyOf Tryz.f7))))))))))))) (bodyPost Tryz.prog Tryz.f7 (RdPost RES w)) { tmps := #[k0, .pointer (some ⟨w.heap.size, 0, none⟩), .pointer (some ⟨w.heap.size + 1, 0, none⟩), k3, .pointer (some ⟨w.heap.size + 1 + 1, 0, none⟩), k5, k6, k7, k8, k9, k10, k11, k12, k13, k14, k15, k16, k17, k18, k19, k20, k21, k22, k23, k24, k25, k26, k27, k28, k29, k30, k31, k32, k33, k34, k35, k36, k37, k38, k39, k40, k41, k42, k43, k44, k45, k46, k47, k48, k49, k50, k51, k52, k53, k54, k55, k56, k57, k58, k59, k60, k61, k62, k63, k64, k65, k66, k67, k68, k69, k70, k71, k72, k73, k74, k75, k76, k77, k78, k79, k80, k81, k82, k83, k84, k85, k86, k87, k88, k89, k90, k91, k92, k93, k94, k95, k96, k97, k98, k99, k100, k101, k102, k103, k104, k105, k106, k107, k108, k109, k110, k111, k112, k113, k114, k115, k116, k117, k118, k119, k120, k121, k122, k123, k124, k125, k126, k127, k128, k129, k130, k131, k132, k133, k134, k135, k136, k137, k138, k139, k140, k141, k142, k143, k144, k145, k146, k147, k148, k149, k150, k151, k152, k153, k154, k155, k156, k157, k158, k159, k160, k161, k162, k163, k164, k165, k166, k167, k168, k169, k170, k171, k172, k173, k174, k175, k176, k177, k178, k179, k180, k181, k182, k183, k184, k185, k186, k187, k188, k189, k190, k191, k192, k193, k194, k195, k196, k197, k198, k199, k200, k201, k202, k203, k204, k205, k206, k207, k208, k209, k210, k211, k212, k213, k214, k215, k216, k217, k218, k219, k220, k221, k222, k223, k224, k225, k226, k227], defers := [] } w7 := by
  have HPN := Lib.hid (fun v w' h1 h2 h3 => rdPost_none (RES := RES) (w := w) (v := v) (w' := w') h1 h2 h3)
  have HPS := Lib.hid (fun E sv w' h1 h2 h3 h4 => rdPost_some (RES := RES) (w := w) (E := E) (sv := sv) (w' := w') h1 h2 h3 h4)
  obtain ⟨QQ, hQQ⟩ : ∃ q, q = bodyPost Tryz.prog Tryz.f7 (RdPost RES w) := ⟨_, rfl⟩
  rw [← hQQ]
  dsimp only [snd1, bodyOf, Tryz.f7, Option.getD]
  subst hQQ
  go_upto_region 27 with fail
  rename_i KA hKA KB hKB
  go_cut [150] (fun s wx => s = .bool (tB R3) ∧ w7 = wx)
  case first =>
    rcases R3 with _ | ⟨x, R9⟩
    · obtain ⟨⟨o, cap, hT, hR, hc1, hc2⟩, hE, hZ, hB⟩ := HS7.out
      have t0 : w7.cell? ⟨w.heap.size, 0, none⟩ = some (Value.slice (some ⟨wb, o, none⟩) 0 cap) := hT.cell (i := 0) rfl
      have tl := hT.lt
      clear hT hR hc1 hc2 hE hZ hB
      go_wp2_with fail
      go_meet
      exact ⟨rfl, rfl⟩
    · obtain ⟨⟨o, cap, hT, hR, hc1, hc2⟩, hE, hZ, hB⟩ := HS7.out
      have t0 : w7.cell? ⟨w.heap.size, 0, none⟩ = some (Value.slice (some ⟨wb, o, none⟩) (R9.length + 1) cap) := hT.cell (i := 0) rfl
      have tl := hT.lt
      have d0 : w7.cell? ⟨wb, o, none⟩ = some (.string x) := hR.head
      have hwr : wb < w7.heap.size := Nat.lt_of_lt_of_le hwb hB.size
      have h5 : (0 : Int) < (R9.length : Int) + 1 := by omega
      clear hT hR hc1 hc2 hE hZ hB
      by_cases hx : x = bckB
      · have hq : (x.toList == [98, 97, 99, 107]) = true := beqM hx rfl
        have HV := Lib.hid (show tB (x :: R9) = true from decide_eq_true hx)
        clear hx
        go_wp2_with fail
        go_meet
        exact ⟨by rw [HV.out], rfl⟩
      · have hq : (x.toList == [98, 97, 99, 107]) = false := beqL hx rfl
        have HV := Lib.hid (show tB (x :: R9) = false from decide_eq_false hx)
        clear hx
        go_wp2_with fail
        go_meet
        exact ⟨by rw [HV.out], rfl⟩
  case rest =>
  obtain ⟨rfl, rfl⟩ := hcut
  go_upto_if 150 with fail
  go_cut [] (fun wx => Hid (∃ fl R', RES = prsR FM lo hi c wd sp fl R' ∧ (∀ x ∈ R', x.size ≤ 5000) ∧ RS w wb R' #[.int .i64 FM, .int .i64 lo, .int .i64 hi, .int .i64 c, .int .i64 wd, .int .i64 sp, .bool fl, .bool false, .slice none 0 0] wx))
  case first =>
    cases hsp : tB R3 with
    | false =>
      have HX := Lib.hid (show RES = prsR FM lo hi c wd sp false R3 by rw [HRX.out]; exact prsB_no hsp)
      clear hsp HRX
      go_wp2_with fail
      go_meet
      exact Lib.hid ⟨false, R3, HX.out, HSR.out, HS7.out⟩
    | true =>
      obtain ⟨R9, rfl⟩ := tB_yes hsp
      have HX := Lib.hid (show RES = prsR FM lo hi c wd sp true R9 by rw [HRX.out]; exact prsB_yes ..)
      have HSR9 := Lib.hid (show ∀ x ∈ R9, x.size ≤ 5000 from fun x hx => HSR.out x (by simp [hx]))
      clear hsp HRX HSR
      obtain ⟨⟨o, cap, hT, hR, hc1, hc2⟩, hE, hZ, hB⟩ := HS7.out
      have t0 : w7.cell? ⟨w.heap.size, 0, none⟩ = some (Value.slice (some ⟨wb, o, none⟩) (R9.length + 1) cap) := hT.cell (i := 0) rfl
      have tl := hT.lt
      have z0 := hT.frozen 0
      have q6 := hE.cell (i := 6) rfl
      have z6 := hE.frozen 6
      have ql := hE.lt
      have hc3 : R9.length + 1 ≤ cap := by simpa using hc1
      have h6 : ¬ ((R9.length : Int) + 1 < 1) := by omega
      have hRt : RowS w7 wb (o + 1) R9 := fun j hj => by
        have := hR (j + 1) (by simp; omega)
        rw [show o + 1 + j = o + (j + 1) by omega]
        simpa using this
      by_cases hcz : cap = 1
      · subst hcz
        obtain rfl : R9 = [] := List.length_eq_zero_iff.1 (by omega)
        have HA := Lib.hid (((HS7.out.setE hwb 6 (.bool true)).setT (R' := []) hwb o 0 (fun j hj => absurd hj (by simp)) (by simp) (by omega)).below hwb (Below.refl _ _).drew)
        have HB' := Lib.hid (((HS7.out.setT (R' := []) hwb o 0 (fun j hj => absurd hj (by simp)) (by simp) (by omega)).setE hwb 6 (.bool true)).below hwb (Below.refl _ _).drew)
        clear hT hR hc1 hc2 hE hZ hB hc3 hRt
        go_upto_region 28 with fail
        go_region
        all_goals (go_wp2_with fail)
        all_goals go_meet
        all_goals first | exact Lib.hid ⟨true, [], HX.out, HSR9.out, HA.out⟩ | exact Lib.hid ⟨true, [], HX.out, HSR9.out, HB'.out⟩
      · have hRt2 := hRt.keep hwb ((Below.refl w.heap.size _).setCell (p := ⟨w.heap.size + 1 + 1, 6, none⟩) (by show w.heap.size ≤ w.heap.size + 1 + 1; omega) (.bool true))
        have HA := Lib.hid (((HS7.out.setE hwb 6 (.bool true)).setT (R' := R9) hwb (o + 1) (cap - 1) hRt2 (by omega) (by omega)).below hwb (Below.refl _ _).drew)
        have HB' := Lib.hid (((HS7.out.setT (R' := R9) hwb (o + 1) (cap - 1) hRt (by omega) (by omega)).setE hwb 6 (.bool true)).below hwb (Below.refl _ _).drew)
        have hc4 : (1 : Int) ≤ cap := by omega
        clear hT hR hc1 hc2 hE hZ hB hRt hRt2
        go_upto_region 28 with fail
        go_region
        all_goals (go_wp2_with fail)
        all_goals go_meet
        all_goals first | exact Lib.hid ⟨true, R9, HX.out, HSR9.out, HA.out⟩ | exact Lib.hid ⟨true, R9, HX.out, HSR9.out, HB'.out⟩
  case rest =>
  clear HS7 HRX HSR
  obtain ⟨bk, R4, hx, hsr, hs⟩ := hcut.out
  have HRX := Lib.hid hx
  have HSR := Lib.hid hsr
  have HS8 := Lib.hid hs
  clear hcut hx hsr hs
  obtain ⟨w8, rfl⟩ : ∃ x, x = wc := ⟨wc, rfl⟩
  exact hKA _ _ (et29 hwb HTX HRX HSR HS8)
end Go.Proofs.YtfidbdegggalmaaGreatDoor
