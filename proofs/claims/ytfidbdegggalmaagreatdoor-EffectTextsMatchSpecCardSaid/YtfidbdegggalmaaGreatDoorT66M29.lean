/- effect.read: is there a spread? (printed by wip/gen/gen_eread.py) -/
import Derived.Test.YtfidbdegggalmaaGreatDoorT66M28

namespace Go.Proofs.YtfidbdegggalmaaGreatDoor
open Go.RowKit
set_option linter.unusedVariables false
set_option linter.unusedSimpArgs false

set_option maxRecDepth 100000 in
set_option maxHeartbeats 16000000 in
theorem et18 {k0 k3 k5 k6 k7 k8 k9 k10 k11 k12 k13 k14 k15 k16 k17 k18 k19 k20 k21 k22 k23 k24 k25 k26 k27 k28 k29 k30 k31 k32 k33 k34 k35 k36 k37 k38 k39 k40 k41 k42 k43 k44 k45 k46 k47 k48 k49 k50 k51 k52 k53 k54 k55 k56 k57 k58 k59 k60 k61 k62 k63 k64 k65 k66 k67 k68 k69 k70 k71 k72 k73 k74 k75 k76 k77 k78 k79 k80 k81 k82 k83 k84 k85 k86 k87 k88 k89 k90 k91 k92 k93 k94 k95 k96 k97 k98 k99 k100 k101 k102 k103 k104 k105 k106 k107 k108 k109 k110 k111 k112 k113 k114 k115 k116 k117 k118 k119 k120 k121 k122 k123 k124 k125 k126 k127 k128 k129 k130 k131 k132 k133 k134 k135 k136 k137 k138 k139 k140 k141 k142 k143 k144 k145 k146 k147 k148 k149 k150 k151 k152 k153 k154 k155 k156 k157 k158 k159 k160 k161 k162 k163 k164 k165 k166 k167 k168 k169 k170 k171 k172 k173 k174 k175 k176 k177 k178 k179 k180 k181 k182 k183 k184 k185 k186 k187 k188 k189 k190 k191 k192 k193 k194 k195 k196 k197 k198 k199 k200 k201 k202 k203 k204 k205 k206 k207 k208 k209 k210 k211 k212 k213 k214 k215 k216 k217 k218 k219 k220 k221 k222 k223 k224 k225 k226 k227 : Value} {RES : Option Eff} {FM lo hi c wd : Int} {R2 : List ByteArray} {w w6 : World} {wb : Nat} (hwb : wb < w.heap.size) (HTX : Hid (∀ W, Below w.heap.size w W → TextW W)) (HRX : Hid (RES = prsS FM lo hi c wd R2)) (HSR : Hid (∀ x ∈ R2, x.size ≤ 5000)) (HS6 : Hid (RS w wb R2 #[.int .i64 FM, .int .i64 lo, .int .i64 hi, .int .i64 c, .int .i64 wd, .int .i64 0, .bool false, .bool false, .slice none 0 0] w6)) :
    Code.wp Tryz.prog (snd1 (snd1 (snd1 (snd1 (snd1 (snd1 (snd1 (snd1 (snd1 (snd1 (snd1 (bodyOf Tryz.f7)))))))))))) (bodyPost Tryz.prog Tryz.f7 (RdPost RES w)) { tmps := #[k0, .pointer (some ⟨w.heap.size, 0, none⟩), .pointer (some ⟨w.heap.size + 1, 0, none⟩), k3, .pointer (some ⟨w.heap.size + 1 + 1, 0, none⟩), k5, k6, k7, k8, k9, k10, k11, k12, k13, k14, k15, k16, k17, k18, k19, k20, k21, k22, k23, k24, k25, k26, k27, k28, k29, k30, k31, k32, k33, k34, k35, k36, k37, k38, k39, k40, k41, k42, k43, k44, k45, k46, k47, k48, k49, k50, k51, k52, k53, k54, k55, k56, k57, k58, k59, k60, k61, k62, k63, k64, k65, k66, k67, k68, k69, k70, k71, k72, k73, k74, k75, k76, k77, k78, k79, k80, k81, k82, k83, k84, k85, k86, k87, k88, k89, k90, k91, k92, k93, k94, k95, k96, k97, k98, k99, k100, k101, k102, k103, k104, k105, k106, k107, k108, k109, k110, k111, k112, k113, k114, k115, k116, k117, k118, k119, k120, k121, k122, k123, k124, k125, k126, k127, k128, k129, k130, k131, k132, k133, k134, k135, k136, k137, k138, k139, k140, k141, k142, k143, k144, k145, k146, k147, k148, k149, k150, k151, k152, k153, k154, k155, k156, k157, k158, k159, k160, k161, k162, k163, k164, k165, k166, k167, k168, k169, k170, k171, k172, k173, k174, k175, k176, k177, k178, k179, k180, k181, k182, k183, k184, k185, k186, k187, k188, k189, k190, k191, k192, k193, k194, k195, k196, k197, k198, k199, k200, k201, k202, k203, k204, k205, k206, k207, k208, k209, k210, k211, k212, k213, k214, k215, k216, k217, k218, k219, k220, k221, k222, k223, k224, k225, k226, k227], defers := [] } w6 := by
  have HPN := Lib.hid (fun v w' h1 h2 h3 => rdPost_none (RES := RES) (w := w) (v := v) (w' := w') h1 h2 h3)
  have HPS := Lib.hid (fun E sv w' h1 h2 h3 h4 => rdPost_some (RES := RES) (w := w) (E := E) (sv := sv) (w' := w') h1 h2 h3 h4)
  obtain ⟨QQ, hQQ⟩ : ∃ q, q = bodyPost Tryz.prog Tryz.f7 (RdPost RES w) := ⟨_, rfl⟩
  rw [← hQQ]
  dsimp only [snd1, bodyOf, Tryz.f7, Option.getD]
  subst hQQ
  go_upto_region 18 with fail
  rename_i KA hKA KB hKB
  go_cut [114] (fun s wx => s = .bool (tS R2) ∧ w6 = wx)
  case first =>
    rcases R2 with _ | ⟨x, _ | ⟨y, R9⟩⟩
    · obtain ⟨⟨o, cap, hT, hR, hc1, hc2⟩, hE, hZ, hB⟩ := HS6.out
      have t0 : w6.cell? ⟨w.heap.size, 0, none⟩ = some (Value.slice (some ⟨wb, o, none⟩) 0 cap) := hT.cell (i := 0) rfl
      have tl := hT.lt
      clear hT hR hc1 hc2 hE hZ hB
      go_wp2_with fail
      go_meet
      exact ⟨rfl, rfl⟩
    · obtain ⟨⟨o, cap, hT, hR, hc1, hc2⟩, hE, hZ, hB⟩ := HS6.out
      have t0 : w6.cell? ⟨w.heap.size, 0, none⟩ = some (Value.slice (some ⟨wb, o, none⟩) 1 cap) := hT.cell (i := 0) rfl
      have tl := hT.lt
      clear hT hR hc1 hc2 hE hZ hB
      go_wp2_with fail
      go_meet
      exact ⟨rfl, rfl⟩
    · obtain ⟨⟨o, cap, hT, hR, hc1, hc2⟩, hE, hZ, hB⟩ := HS6.out
      have t0 : w6.cell? ⟨w.heap.size, 0, none⟩ = some (Value.slice (some ⟨wb, o, none⟩) (R9.length + 2) cap) := hT.cell (i := 0) rfl
      have tl := hT.lt
      have d0 : w6.cell? ⟨wb, o, none⟩ = some (.string x) := hR.head
      have hwr : wb < w6.heap.size := Nat.lt_of_lt_of_le hwb hB.size
      have h5 : (1 : Int) < (R9.length : Int) + 2 := by omega
      clear hT hR hc1 hc2 hE hZ hB
      by_cases hx : x = sprB
      · have hq : (x.toList == [115, 112, 114, 101, 97, 100]) = true := beqM hx rfl
        have HV := Lib.hid (show tS (x :: y :: R9) = true from decide_eq_true hx)
        clear hx
        go_wp2_with fail
        go_meet
        exact ⟨by rw [HV.out], rfl⟩
      · have hq : (x.toList == [115, 112, 114, 101, 97, 100]) = false := beqL hx rfl
        have HV := Lib.hid (show tS (x :: y :: R9) = false from decide_eq_false hx)
        clear hx
        go_wp2_with fail
        go_meet
        exact ⟨by rw [HV.out], rfl⟩
  case rest =>
  obtain ⟨rfl, rfl⟩ := hcut
  exact hKB _ _ (et19 hKA hwb HTX HRX HSR HS6)
end Go.Proofs.YtfidbdegggalmaaGreatDoor
