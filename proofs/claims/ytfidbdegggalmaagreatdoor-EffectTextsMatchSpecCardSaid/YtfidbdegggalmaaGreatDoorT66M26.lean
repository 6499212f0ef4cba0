/- effect.read: the end, steps. (printed by wip/gen/gen_eread.py) -/
import Derived.Test.YtfidbdegggalmaaGreatDoorT66M24

namespace Go.Proofs.YtfidbdegggalmaaGreatDoor
open Go.RowKit
set_option linter.unusedVariables false
set_option linter.unusedSimpArgs false

set_option maxRecDepth 100000 in
set_option maxHeartbeats 16000000 in
theorem et31C {k0 k3 k5 k6 k7 k8 k9 k10 k11 k12 k13 k14 k15 k16 k17 k18 k19 k20 k21 k22 k23 k24 k25 k26 k27 k28 k29 k30 k31 k32 k33 k34 k35 k36 k37 k38 k39 k40 k41 k42 k43 k44 k45 k46 k47 k48 k49 k50 k51 k52 k53 k54 k55 k56 k57 k58 k59 k60 k61 k62 k63 k64 k65 k66 k67 k68 k69 k70 k71 k72 k73 k74 k75 k76 k77 k78 k79 k80 k81 k82 k83 k84 k85 k86 k87 k88 k89 k90 k91 k92 k93 k94 k95 k96 k97 k98 k99 k100 k101 k102 k103 k104 k105 k106 k107 k108 k109 k110 k111 k112 k113 k114 k115 k116 k117 k118 k119 k120 k121 k122 k123 k124 k125 k126 k127 k128 k129 k130 k131 k132 k133 k134 k135 k136 k137 k138 k139 k140 k141 k142 k143 k144 k145 k146 k147 k148 k149 k150 k151 k152 k153 k154 k155 k156 k157 k158 k159 k160 k161 k162 k163 k164 k165 k166 k167 k168 k169 k170 k171 k172 k173 k174 k175 k176 k177 k178 k179 k180 k181 k182 k183 k184 k185 k186 k187 k188 k189 k190 k191 k192 k193 k194 k195 k196 k197 k198 k199 k200 k201 k202 k203 k204 k205 k206 k207 k208 k209 k210 k211 k212 k213 k214 k215 k216 k217 k218 k219 k220 k221 k222 k223 k224 k225 k226 k227 : Value} {RES : Option Eff} {FM lo hi c wd sp : Int} {bk rl : Bool} {R5 : List ByteArray} {w w9 : World} {wb : Nat} (hwb : wb < w.heap.size) (HTX : Hid (∀ W, Below w.heap.size w W → TextW W)) (HRX : Hid (RES = prsT FM lo hi c wd sp bk rl R5)) (HSR : Hid (∀ x ∈ R5, x.size ≤ 5000)) (HS9 : Hid (RS w wb R5 #[.int .i64 FM, .int .i64 lo, .int .i64 hi, .int .i64 c, .int .i64 wd, .int .i64 sp, .bool bk, .bool rl, .slice none 0 0] w9)) (h7 : FM = 7) :
    Code.wp Tryz.prog (snd1 (snd1 (snd1 (snd1 (snd1 (snd1 (snd1 (snd1 (snd1 (snd1 (snd1 (snd1 (snd1 (snd1 (bodyOf Tryz.f7))))))))))))))) (bodyPost Tryz.prog Tryz.f7 (RdPost RES w)) { tmps := #[k0, .pointer (some ⟨w.heap.size, 0, none⟩), .pointer (some ⟨w.heap.size + 1, 0, none⟩), k3, .pointer (some ⟨w.heap.size + 1 + 1, 0, none⟩), k5, k6, k7, k8, k9, k10, k11, k12, k13, k14, k15, k16, k17, k18, k19, k20, k21, k22, k23, k24, k25, k26, k27, k28, k29, k30, k31, k32, k33, k34, k35, k36, k37, k38, k39, k40, k41, k42, k43, k44, k45, k46, k47, k48, k49, k50, k51, k52, k53, k54, k55, k56, k57, k58, k59, k60, k61, k62, k63, k64, k65, k66, k67, k68, k69, k70, k71, k72, k73, k74, k75, k76, k77, k78, k79, k80, k81, k82, k83, k84, k85, k86, k87, k88, k89, k90, k91, k92, k93, k94, k95, k96, k97, k98, k99, k100, k101, k102, k103, k104, k105, k106, k107, k108, k109, k110, k111, k112, k113, k114, k115, k116, k117, k118, k119, k120, k121, k122, k123, k124, k125, k126, k127, k128, k129, k130, k131, k132, k133, k134, k135, k136, k137, k138, k139, k140, k141, k142, k143, k144, k145, k146, k147, k148, k149, k150, k151, k152, k153, k154, k155, k156, k157, k158, k159, k160, k161, k162, k163, k164, k165, k166, k167, k168, k169, k170, k171, k172, k173, k174, k175, k176, k177, k178, k179, k180, k181, k182, k183, k184, k185, k186, k187, k188, k189, k190, k191, k192, k193, k194, k195, k196, k197, k198, k199, k200, k201, k202, k203, k204, k205, k206, k207, k208, k209, k210, k211, k212, k213, k214, k215, k216, k217, k218, k219, k220, k221, k222, k223, k224, k225, k226, k227], defers := [] } w9 := by
  have HPN := Lib.hid (fun v w' h1 h2 h3 => rdPost_none (RES := RES) (w := w) (v := v) (w' := w') h1 h2 h3)
  have HPS := Lib.hid (fun E sv w' h1 h2 h3 h4 => rdPost_some (RES := RES) (w := w) (E := E) (sv := sv) (w' := w') h1 h2 h3 h4)
  obtain ⟨QQ, hQQ⟩ : ∃ q, q = bodyPost Tryz.prog Tryz.f7 (RdPost RES w) := ⟨_, rfl⟩
  rw [← hQQ]
  dsimp only [snd1, bodyOf, Tryz.f7, Option.getD]
  subst hQQ
  have hb7 : (FM != 7) = false := by simp [h7]
  have HRL := Lib.hid (show RES = (prsL (R5.drop 0)).map (fun l => ⟨FM, lo, hi, c, wd, sp, bk, rl, [] ++ l⟩) by rw [HRX.out]; unfold prsT; rw [if_pos h7]; rfl)
  have HS0 := HS9
  obtain ⟨⟨o, cap, hT, hR, hc1, hc2⟩, hE, hZ, hB⟩ := HS9.out
  have t0 : w9.cell? ⟨w.heap.size, 0, none⟩ = some (Value.slice (some ⟨wb, o, none⟩) R5.length cap) := hT.cell (i := 0) rfl
  have tl := hT.lt
  have q0 := hE.cell (i := 0) rfl
  have ql := hE.lt
  have HROW := Lib.hid (show ∀ W, Below w.heap.size w W → RowS W wb o R5 from fun W hb j hj => (hb.cell (p := ⟨wb, o + j, none⟩) hwb).trans ((hB.cell (p := ⟨wb, o + j, none⟩) hwb).symm.trans (hR j hj)))
  clear hT hR hc1 hc2 hE hZ hB HS9 HRX h7
  go_wp2_with fail
  clear t0 tl q0 ql
  go_loopw [175] (fun i wx => ∃ (k : Nat) (acc : List Stp) (sv : Value), k ≤ R5.length ∧ i = .int .i64 (k : Int) ∧ Hid (acc.length = k ∧ RES = (prsL (R5.drop k)).map (fun l => ⟨FM, lo, hi, c, wd, sp, bk, rl, acc ++ l⟩) ∧ RS w wb R5 #[.int .i64 FM, .int .i64 lo, .int .i64 hi, .int .i64 c, .int .i64 wd, .int .i64 sp, .bool bk, .bool rl, sv] wx ∧ OwnP (w.heap.size + 1 + 1 + 1) wx sv acc)) (fun i _ => R5.length - (intOf i).toNat)
  case atStart => exact ⟨0, [], _, Nat.zero_le _, rfl, Lib.hid ⟨rfl, HRL.out, HS0.out, OwnP.nil _ _⟩⟩
  case round =>
    clear HS0 HRL
    obtain ⟨k, acc, sv, hk, rfl, HR⟩ := hrel
    obtain ⟨hal, hre, hrs, how⟩ := HR.out
    obtain ⟨ao, scap, rfl⟩ := how.shape
    have HAL := Lib.hid hal
    have HRE := Lib.hid hre
    have HS := Lib.hid hrs
    have HO := Lib.hid how
    clear hal hre hrs how HR
    by_cases hlt : k < R5.length
    · obtain ⟨xs, hxs⟩ : ∃ x, R5[k] = x := ⟨_, rfl⟩
      have hdrop : R5.drop k = xs :: R5.drop (k + 1) := by rw [← hxs]; exact List.drop_eq_getElem_cons hlt
      have d0 : wr.cell? ⟨wb, o + k, none⟩ = some (.string xs) := by rw [← hxs]; exact HROW.out wr HS.out.2.2.2 k hlt
      have hsx : xs.size ≤ 5000 := by rw [← hxs]; exact HSR.out _ (List.getElem_mem hlt)
      have HREX := Lib.hid (show RES = match stW xs with | none => none | some x => (prsL (R5.drop (k + 1))).map (fun l => ⟨FM, lo, hi, c, wd, sp, bk, rl, (acc ++ [x]) ++ l⟩) by
        rw [HRE.out, hdrop]
        show (match stW xs with | none => none | some x => (prsL (R5.drop (k + 1))).map (x :: ·)).map _ = _
        cases stW xs with
        | none => rfl
        | some x => cases prsL (R5.drop (k + 1)) <;> simp)
      have CS := Lib.hid (fun W (hT : TextW W) => split_any 58 xs W hT (by omega))
      have HSZW := Lib.hid (show ∀ x ∈ wordsB 58 xs, x.size ≤ 5000 from fun x hx => Nat.le_trans (wordsB_size 58 xs x hx) hsx)
      have HST := Lib.hid (show stW xs = stWL (wordsB 58 xs) from stW_eq xs)
      generalize wordsB 58 xs = L at *
      have hwr : wb < wr.heap.size := Nat.lt_of_lt_of_le hwb HS.out.2.2.2.size
      have hlti : (k : Int) < R5.length := by omega
      clear hdrop hxs hsx HRE
      go_wp2_with fail
      refine (CS.out _ (HTX.out _ HS.out.2.2.2)).mono ?_
      rintro e w2 ⟨rfl, hrow, hb2, hlt2⟩
      have HS2 := Lib.hid (HS.out.below hwb hb2)
      have HO2 := Lib.hid (HO.out.below hb2)
      clear hb2 HS HO CS d0 hwr
      by_cases h3 : L.length = 3
      rotate_left
      · have HN := Lib.hid (show RES = none by rw [HREX.out, HST.out, stWL_no h3])
        have h3i : ¬ ((L.length : Int) = 3) := by omega
        have h3b : ((L.length : Int) != 3) = true := by simp [h3i]
        obtain ⟨_, hE, hZ, hB⟩ := HS2.out
        clear HREX HST HSZW hrow h3
        go_upto_region 38 with fail
        go_cut [3] (fun s wx => s = .bool (false) ∧ Hid (TBox wx (w.heap.size + 1) 24 #[.int .i64 FM, .int .i64 lo, .int .i64 hi, .int .i64 c, .int .i64 wd, .int .i64 sp, .bool bk, .bool rl, .slice ao acc.length scap]) ∧ Hid (Below w.heap.size w wx))
        case first =>
          have q0 := hE.cell (i := 0) rfl
          have q1 := hE.cell (i := 1) rfl
          have q2 := hE.cell (i := 2) rfl
          have q3 := hE.cell (i := 3) rfl
          have q4 := hE.cell (i := 4) rfl
          have q5 := hE.cell (i := 5) rfl
          have q6 := hE.cell (i := 6) rfl
          have q7 := hE.cell (i := 7) rfl
          have q8 := hE.cell (i := 8) rfl
          have ql := hE.lt
          have r0 := hZ.cell (i := 0) rfl
          have r1 := hZ.cell (i := 1) rfl
          have r2 := hZ.cell (i := 2) rfl
          have r3 := hZ.cell (i := 3) rfl
          have r4 := hZ.cell (i := 4) rfl
          have r5 := hZ.cell (i := 5) rfl
          have r6 := hZ.cell (i := 6) rfl
          have r7 := hZ.cell (i := 7) rfl
          have r8 := hZ.cell (i := 8) rfl
          have z0 := hZ.frozen 0
          have z1 := hZ.frozen 1
          have z2 := hZ.frozen 2
          have z3 := hZ.frozen 3
          have z4 := hZ.frozen 4
          have z5 := hZ.frozen 5
          have z6 := hZ.frozen 6
          have z7 := hZ.frozen 7
          have z8 := hZ.frozen 8
          have rl2 := hZ.lt
          have HXB := Lib.hid (set9_box (w := w2) hZ (u0 := .int .i64 FM) (u1 := .int .i64 lo) (u2 := .int .i64 hi) (u3 := .int .i64 c) (u4 := .int .i64 wd) (u5 := .int .i64 sp) (u6 := .bool bk) (u7 := .bool rl) (u8 := .slice ao acc.length scap))
          have HB9 := Lib.hid (set9_below (W := w2) hB (show w.heap.size ≤ w.heap.size + 1 by omega) (.int .i64 FM) (.int .i64 lo) (.int .i64 hi) (.int .i64 c) (.int .i64 wd) (.int .i64 sp) (.bool bk) (.bool rl) (.slice ao acc.length scap))
          clear hE hZ hB 
          go_wp2_with fail
          go_meet
          exact ⟨by first | rfl | (simp; done), HXB, HB9⟩
        case rest =>
          rename_i KK hKK
          obtain ⟨rfl, HQ, HB9⟩ := hcut
          have x0 := HQ.out.cell (i := 0) rfl
          have x1 := HQ.out.cell (i := 1) rfl
          have x2 := HQ.out.cell (i := 2) rfl
          have x3 := HQ.out.cell (i := 3) rfl
          have x4 := HQ.out.cell (i := 4) rfl
          have x5 := HQ.out.cell (i := 5) rfl
          have x6 := HQ.out.cell (i := 6) rfl
          have x7 := HQ.out.cell (i := 7) rfl
          have x8 := HQ.out.cell (i := 8) rfl
          refine hKK _ _ (wp_ret ?_)
          exact bodyPost_ret (v := .tuple #[.agg #[.int .i64 FM, .int .i64 lo, .int .i64 hi, .int .i64 c, .int .i64 wd, .int .i64 sp, .bool bk, .bool rl, .slice ao acc.length scap], .bool (false)]) (by simp [results, Tryz.results7, go_sem, x0, x1, x2, x3, x4, x5, x6, x7, x8]) rfl (HPN.out _ _ HN.out ⟨_, _, _, _, _, _, _, _, _, _, _, rfl⟩ HB9.out)
      obtain ⟨pa, pb, pc, rfl⟩ := slist3 h3
      clear h3
      have e0 : w2.cell? ⟨wr.heap.size, 0, none⟩ = some (.string pa) := hrow.head
      have e1 : w2.cell? ⟨wr.heap.size, 1, none⟩ = some (.string pb) := hrow.tail.head
      have e2 : w2.cell? ⟨wr.heap.size, 2, none⟩ = some (.string pc) := hrow.tail.tail.head
      have CA := Lib.hid (fun W => lread_any pa W (Nat.le_trans (HSZW.out pa (by simp)) (by decide)))
      have CB := Lib.hid (fun W => number_any pb W (Nat.le_trans (HSZW.out pb (by simp)) (by decide)))
      have CC := Lib.hid (fun W => number_any pc W (Nat.le_trans (HSZW.out pc (by simp)) (by decide)))
      have HST2 := Lib.hid (show stW xs = match lvW pa, nbW pb, nbW pc with | some l, some h, some f => some ⟨l, h, f⟩ | _, _, _ => none from HST.out)
      generalize lvW pa = va at *
      generalize nbW pb = vb at *
      generalize nbW pc = vc at *
      clear hrow HSZW HST
      go_wp2_with fail
      refine (CA.out _).mono ?_
      rintro e w3 ⟨rfl, hb3⟩
      have e1 := (hb3.cell (p := ⟨wr.heap.size, 1, none⟩) hlt2).trans e1
      have e2 := (hb3.cell (p := ⟨wr.heap.size, 2, none⟩) hlt2).trans e2
      have HS3 := Lib.hid (HS2.out.below hwb hb3)
      have HO3 := Lib.hid (HO2.out.below hb3)
      have hlt3 := Nat.lt_of_lt_of_le hlt2 hb3.size
      clear hb3 HS2 HO2 CA hlt2 e0
      obtain ⟨fa, hfa⟩ : ∃ fa, (if va.isSome = true then (0 : Int) else 9) = fa := ⟨_, rfl⟩
      obtain ⟨ga, hga⟩ : ∃ ga, va.getD 0 = ga := ⟨_, rfl⟩
      rw [hfa, hga]
      have HFA := Lib.hid hfa
      have HGA := Lib.hid hga
      clear hfa hga
      go_wp2_with fail
      refine (CB.out _).mono ?_
      rintro e w4 ⟨rfl, hb4⟩
      have e2 := (hb4.cell (p := ⟨wr.heap.size, 2, none⟩) hlt3).trans e2
      have HS4 := Lib.hid (HS3.out.below hwb hb4)
      have HO4 := Lib.hid (HO3.out.below hb4)
      have hlt4 := Nat.lt_of_lt_of_le hlt3 hb4.size
      clear hb4 HS3 HO3 CB hlt3 e1
      obtain ⟨fb, hfb⟩ : ∃ fb, vb.isSome = fb := ⟨_, rfl⟩
      obtain ⟨gb, hgb⟩ : ∃ gb, vb.getD 0 = gb := ⟨_, rfl⟩
      rw [hfb, hgb]
      have HFB := Lib.hid hfb
      have HGB := Lib.hid hgb
      clear hfb hgb
      go_wp2_with fail
      refine (CC.out _).mono ?_
      rintro e w5 ⟨rfl, hb5⟩
      have HS5 := Lib.hid (HS4.out.below hwb hb5)
      have HO5 := Lib.hid (HO4.out.below hb5)
      clear hb5 HS4 HO4 CC hlt4 e2
      obtain ⟨fc, hfc⟩ : ∃ fc, vc.isSome = fc := ⟨_, rfl⟩
      obtain ⟨gc, hgc⟩ : ∃ gc, vc.getD 0 = gc := ⟨_, rfl⟩
      rw [hfc, hgc]
      have HFC := Lib.hid hfc
      have HGC := Lib.hid hgc
      clear hfc hgc
      go_upto_region 42 with fail
      rcases va with _ | x
      · have HN := Lib.hid (show RES = none by rw [HREX.out, HST2.out])
        obtain rfl : fa = 9 := by have := HFA.out; simpa using this.symm
        obtain ⟨_, hE, hZ, hB⟩ := HS5.out
        clear HREX HST2 HFA HGA HFB HGB HFC HGC
        go_upto_region 43 with fail
        go_cut [3] (fun s wx => s = .bool (false) ∧ Hid (TBox wx (w.heap.size + 1) 24 #[.int .i64 FM, .int .i64 lo, .int .i64 hi, .int .i64 c, .int .i64 wd, .int .i64 sp, .bool bk, .bool rl, .slice ao acc.length scap]) ∧ Hid (Below w.heap.size w wx))
        case first =>
          have q0 := hE.cell (i := 0) rfl
          have q1 := hE.cell (i := 1) rfl
          have q2 := hE.cell (i := 2) rfl
          have q3 := hE.cell (i := 3) rfl
          have q4 := hE.cell (i := 4) rfl
          have q5 := hE.cell (i := 5) rfl
          have q6 := hE.cell (i := 6) rfl
          have q7 := hE.cell (i := 7) rfl
          have q8 := hE.cell (i := 8) rfl
          have ql := hE.lt
          have r0 := hZ.cell (i := 0) rfl
          have r1 := hZ.cell (i := 1) rfl
          have r2 := hZ.cell (i := 2) rfl
          have r3 := hZ.cell (i := 3) rfl
          have r4 := hZ.cell (i := 4) rfl
          have r5 := hZ.cell (i := 5) rfl
          have r6 := hZ.cell (i := 6) rfl
          have r7 := hZ.cell (i := 7) rfl
          have r8 := hZ.cell (i := 8) rfl
          have z0 := hZ.frozen 0
          have z1 := hZ.frozen 1
          have z2 := hZ.frozen 2
          have z3 := hZ.frozen 3
          have z4 := hZ.frozen 4
          have z5 := hZ.frozen 5
          have z6 := hZ.frozen 6
          have z7 := hZ.frozen 7
          have z8 := hZ.frozen 8
          have rl2 := hZ.lt
          have HXB := Lib.hid (set9_box (w := w5) hZ (u0 := .int .i64 FM) (u1 := .int .i64 lo) (u2 := .int .i64 hi) (u3 := .int .i64 c) (u4 := .int .i64 wd) (u5 := .int .i64 sp) (u6 := .bool bk) (u7 := .bool rl) (u8 := .slice ao acc.length scap))
          have HB9 := Lib.hid (set9_below (W := w5) hB (show w.heap.size ≤ w.heap.size + 1 by omega) (.int .i64 FM) (.int .i64 lo) (.int .i64 hi) (.int .i64 c) (.int .i64 wd) (.int .i64 sp) (.bool bk) (.bool rl) (.slice ao acc.length scap))
          clear hE hZ hB 
          go_wp2_with fail
          go_meet
          exact ⟨by first | rfl | (simp; done), HXB, HB9⟩
        case rest =>
          rename_i KK hKK
          obtain ⟨rfl, HQ, HB9⟩ := hcut
          have x0 := HQ.out.cell (i := 0) rfl
          have x1 := HQ.out.cell (i := 1) rfl
          have x2 := HQ.out.cell (i := 2) rfl
          have x3 := HQ.out.cell (i := 3) rfl
          have x4 := HQ.out.cell (i := 4) rfl
          have x5 := HQ.out.cell (i := 5) rfl
          have x6 := HQ.out.cell (i := 6) rfl
          have x7 := HQ.out.cell (i := 7) rfl
          have x8 := HQ.out.cell (i := 8) rfl
          refine hKK _ _ (wp_ret ?_)
          exact bodyPost_ret (v := .tuple #[.agg #[.int .i64 FM, .int .i64 lo, .int .i64 hi, .int .i64 c, .int .i64 wd, .int .i64 sp, .bool bk, .bool rl, .slice ao acc.length scap], .bool (false)]) (by simp [results, Tryz.results7, go_sem, x0, x1, x2, x3, x4, x5, x6, x7, x8]) rfl (HPN.out _ _ HN.out ⟨_, _, _, _, _, _, _, _, _, _, _, rfl⟩ HB9.out)
      obtain rfl : fa = 0 := by have := HFA.out; simpa using this.symm
      rcases vb with _ | y
      · have HN := Lib.hid (show RES = none by rw [HREX.out, HST2.out])
        obtain rfl : fb = false := by have := HFB.out; simpa using this.symm
        obtain ⟨_, hE, hZ, hB⟩ := HS5.out
        clear HREX HST2 HFA HGA HFB HGB HFC HGC
        go_upto_region 43 with fail
        go_cut [3] (fun s wx => s = .bool (false) ∧ Hid (TBox wx (w.heap.size + 1) 24 #[.int .i64 FM, .int .i64 lo, .int .i64 hi, .int .i64 c, .int .i64 wd, .int .i64 sp, .bool bk, .bool rl, .slice ao acc.length scap]) ∧ Hid (Below w.heap.size w wx))
        case first =>
          have q0 := hE.cell (i := 0) rfl
          have q1 := hE.cell (i := 1) rfl
          have q2 := hE.cell (i := 2) rfl
          have q3 := hE.cell (i := 3) rfl
          have q4 := hE.cell (i := 4) rfl
          have q5 := hE.cell (i := 5) rfl
          have q6 := hE.cell (i := 6) rfl
          have q7 := hE.cell (i := 7) rfl
          have q8 := hE.cell (i := 8) rfl
          have ql := hE.lt
          have r0 := hZ.cell (i := 0) rfl
          have r1 := hZ.cell (i := 1) rfl
          have r2 := hZ.cell (i := 2) rfl
          have r3 := hZ.cell (i := 3) rfl
          have r4 := hZ.cell (i := 4) rfl
          have r5 := hZ.cell (i := 5) rfl
          have r6 := hZ.cell (i := 6) rfl
          have r7 := hZ.cell (i := 7) rfl
          have r8 := hZ.cell (i := 8) rfl
          have z0 := hZ.frozen 0
          have z1 := hZ.frozen 1
          have z2 := hZ.frozen 2
          have z3 := hZ.frozen 3
          have z4 := hZ.frozen 4
          have z5 := hZ.frozen 5
          have z6 := hZ.frozen 6
          have z7 := hZ.frozen 7
          have z8 := hZ.frozen 8
          have rl2 := hZ.lt
          have HXB := Lib.hid (set9_box (w := w5) hZ (u0 := .int .i64 FM) (u1 := .int .i64 lo) (u2 := .int .i64 hi) (u3 := .int .i64 c) (u4 := .int .i64 wd) (u5 := .int .i64 sp) (u6 := .bool bk) (u7 := .bool rl) (u8 := .slice ao acc.length scap))
          have HB9 := Lib.hid (set9_below (W := w5) hB (show w.heap.size ≤ w.heap.size + 1 by omega) (.int .i64 FM) (.int .i64 lo) (.int .i64 hi) (.int .i64 c) (.int .i64 wd) (.int .i64 sp) (.bool bk) (.bool rl) (.slice ao acc.length scap))
          clear hE hZ hB 
          go_wp2_with fail
          go_meet
          exact ⟨by first | rfl | (simp; done), HXB, HB9⟩
        case rest =>
          rename_i KK hKK
          obtain ⟨rfl, HQ, HB9⟩ := hcut
          have x0 := HQ.out.cell (i := 0) rfl
          have x1 := HQ.out.cell (i := 1) rfl
          have x2 := HQ.out.cell (i := 2) rfl
          have x3 := HQ.out.cell (i := 3) rfl
          have x4 := HQ.out.cell (i := 4) rfl
          have x5 := HQ.out.cell (i := 5) rfl
          have x6 := HQ.out.cell (i := 6) rfl
          have x7 := HQ.out.cell (i := 7) rfl
          have x8 := HQ.out.cell (i := 8) rfl
          refine hKK _ _ (wp_ret ?_)
          exact bodyPost_ret (v := .tuple #[.agg #[.int .i64 FM, .int .i64 lo, .int .i64 hi, .int .i64 c, .int .i64 wd, .int .i64 sp, .bool bk, .bool rl, .slice ao acc.length scap], .bool (false)]) (by simp [results, Tryz.results7, go_sem, x0, x1, x2, x3, x4, x5, x6, x7, x8]) rfl (HPN.out _ _ HN.out ⟨_, _, _, _, _, _, _, _, _, _, _, rfl⟩ HB9.out)
      obtain rfl : fb = true := by have := HFB.out; simpa using this.symm
      rcases vc with _ | z
      · have HN := Lib.hid (show RES = none by rw [HREX.out, HST2.out])
        obtain rfl : fc = false := by have := HFC.out; simpa using this.symm
        obtain ⟨_, hE, hZ, hB⟩ := HS5.out
        clear HREX HST2 HFA HGA HFB HGB HFC HGC
        go_upto_region 43 with fail
        go_cut [3] (fun s wx => s = .bool (false) ∧ Hid (TBox wx (w.heap.size + 1) 24 #[.int .i64 FM, .int .i64 lo, .int .i64 hi, .int .i64 c, .int .i64 wd, .int .i64 sp, .bool bk, .bool rl, .slice ao acc.length scap]) ∧ Hid (Below w.heap.size w wx))
        case first =>
          have q0 := hE.cell (i := 0) rfl
          have q1 := hE.cell (i := 1) rfl
          have q2 := hE.cell (i := 2) rfl
          have q3 := hE.cell (i := 3) rfl
          have q4 := hE.cell (i := 4) rfl
          have q5 := hE.cell (i := 5) rfl
          have q6 := hE.cell (i := 6) rfl
          have q7 := hE.cell (i := 7) rfl
          have q8 := hE.cell (i := 8) rfl
          have ql := hE.lt
          have r0 := hZ.cell (i := 0) rfl
          have r1 := hZ.cell (i := 1) rfl
          have r2 := hZ.cell (i := 2) rfl
          have r3 := hZ.cell (i := 3) rfl
          have r4 := hZ.cell (i := 4) rfl
          have r5 := hZ.cell (i := 5) rfl
          have r6 := hZ.cell (i := 6) rfl
          have r7 := hZ.cell (i := 7) rfl
          have r8 := hZ.cell (i := 8) rfl
          have z0 := hZ.frozen 0
          have z1 := hZ.frozen 1
          have z2 := hZ.frozen 2
          have z3 := hZ.frozen 3
          have z4 := hZ.frozen 4
          have z5 := hZ.frozen 5
          have z6 := hZ.frozen 6
          have z7 := hZ.frozen 7
          have z8 := hZ.frozen 8
          have rl2 := hZ.lt
          have HXB := Lib.hid (set9_box (w := w5) hZ (u0 := .int .i64 FM) (u1 := .int .i64 lo) (u2 := .int .i64 hi) (u3 := .int .i64 c) (u4 := .int .i64 wd) (u5 := .int .i64 sp) (u6 := .bool bk) (u7 := .bool rl) (u8 := .slice ao acc.length scap))
          have HB9 := Lib.hid (set9_below (W := w5) hB (show w.heap.size ≤ w.heap.size + 1 by omega) (.int .i64 FM) (.int .i64 lo) (.int .i64 hi) (.int .i64 c) (.int .i64 wd) (.int .i64 sp) (.bool bk) (.bool rl) (.slice ao acc.length scap))
          clear hE hZ hB 
          go_wp2_with fail
          go_meet
          exact ⟨by first | rfl | (simp; done), HXB, HB9⟩
        case rest =>
          rename_i KK hKK
          obtain ⟨rfl, HQ, HB9⟩ := hcut
          have x0 := HQ.out.cell (i := 0) rfl
          have x1 := HQ.out.cell (i := 1) rfl
          have x2 := HQ.out.cell (i := 2) rfl
          have x3 := HQ.out.cell (i := 3) rfl
          have x4 := HQ.out.cell (i := 4) rfl
          have x5 := HQ.out.cell (i := 5) rfl
          have x6 := HQ.out.cell (i := 6) rfl
          have x7 := HQ.out.cell (i := 7) rfl
          have x8 := HQ.out.cell (i := 8) rfl
          refine hKK _ _ (wp_ret ?_)
          exact bodyPost_ret (v := .tuple #[.agg #[.int .i64 FM, .int .i64 lo, .int .i64 hi, .int .i64 c, .int .i64 wd, .int .i64 sp, .bool bk, .bool rl, .slice ao acc.length scap], .bool (false)]) (by simp [results, Tryz.results7, go_sem, x0, x1, x2, x3, x4, x5, x6, x7, x8]) rfl (HPN.out _ _ HN.out ⟨_, _, _, _, _, _, _, _, _, _, _, rfl⟩ HB9.out)
      obtain rfl : fc = true := by have := HFC.out; simpa using this.symm
      obtain rfl : x = ga := by have := HGA.out; simpa using this
      obtain rfl : y = gb := by have := HGB.out; simpa using this
      obtain rfl : z = gc := by have := HGC.out; simpa using this
      have HRN := Lib.hid (show RES = (prsL (R5.drop (k + 1))).map (fun l => ⟨FM, lo, hi, c, wd, sp, bk, rl, (acc ++ [⟨x, y, z⟩]) ++ l⟩) by rw [HREX.out, HST2.out])
      clear HREX HST2 HFA HGA HFB HGB HFC HGC
      obtain ⟨hT5, hE, hZ, hB⟩ := HS5.out
      have q8 := hE.cell (i := 8) rfl
      have ql := hE.lt
      have hln : acc.length ≤ 10000000 := by obtain ⟨_, _, _, _, h1, h2⟩ := hT5; have := HAL.out; omega
      have hOA := Lib.hid (HO5.out.below ((Below.refl _ _).alloc (Nat.le_refl _) (.cells #[.int .i64 x, .int .i64 y, .int .i64 z] 44)))
      have HSA := Lib.hid (HS5.out.below hwb ((Below.refl _ _).alloc (Nat.le_refl _) (.cells #[.int .i64 x, .int .i64 y, .int .i64 z] 44)))
      have HLA := Lib.hid (show acc.length + 1 = k + 1 from by rw [HAL.out])
      have hbz : (w.heap.size + 1 + 1 + 1) ≤ (w5.alloc (.cells #[.int .i64 x, .int .i64 y, .int .i64 z] 44)).heap.size := by simp; omega
      clear hT5 hE hZ hB HS5 HO5
      go_wp2_with (first | (at_builtin; refine wpList_ownP rfl _ _ rfl (w.heap.size + 1 + 1 + 1) 1 _ acc ⟨x, y, z⟩ ⟨w5.heap.size, 0, none⟩ rfl rfl hOA.out (ownP_new w5 ⟨x, y, z⟩ _) hln hbz ?_; intro v' w6 hown hgrow; obtain ⟨ao2, scap2, rfl⟩ := hown.shape; have HS6 := Lib.hid (HSA.out.grownP hwb hOA.out (by omega) hgrow); have HO6 := Lib.hid hown; obtain ⟨_, hE6, _, _⟩ := HS6.out; have z8 := hE6.frozen 8; have p8 := hE6.cell (i := 8) rfl; have pl := hE6.lt; clear hown hgrow hE6 HSA hOA q8 ql hln hbz) | fail)
      have HV := Lib.hid (show (acc ++ [Stp.mk x y z]).length = (k + 1) ∧ RES = (prsL (R5.drop (k + 1))).map (fun l => ⟨FM, lo, hi, c, wd, sp, bk, rl, (acc ++ [Stp.mk x y z]) ++ l⟩) ∧ RS w wb R5 #[.int .i64 FM, .int .i64 lo, .int .i64 hi, .int .i64 c, .int .i64 wd, .int .i64 sp, .bool bk, .bool rl, (.slice ao2 (acc.length + 1) scap2)] (w6.setCell ⟨w.heap.size + 1 + 1, 8, none⟩ (.slice ao2 (acc.length + 1) scap2)) ∧ OwnP (w.heap.size + 1 + 1 + 1) (w6.setCell ⟨w.heap.size + 1 + 1, 8, none⟩ (.slice ao2 (acc.length + 1) scap2)) (.slice ao2 (acc.length + 1) scap2) (acc ++ [Stp.mk x y z]) from by
        have e9 : (acc ++ [Stp.mk x y z]).length = acc.length + 1 := by simp
        have h2 := HO6.out.setLow (b := w.heap.size + 1 + 1) (i := 8) (by omega) (.slice ao2 (acc.length + 1) scap2)
        rw [e9] at h2
        exact ⟨e9.trans HLA.out, HRN.out, HS6.out.setE hwb 8 _, h2⟩)
      go_roundw
      case rel => exact ⟨k + 1, _, _, by omega, by first | rfl | go_num, HV⟩
      case measure => simp [intOf]; omega
    · obtain rfl : k = R5.length := by omega
      have HN := Lib.hid (show RES = some ⟨FM, lo, hi, c, wd, sp, bk, rl, acc⟩ by rw [HRE.out, List.drop_length]; simp [prsL])
      have hlti : ¬ ((R5.length : Int) < R5.length) := by omega
      obtain ⟨hT5, hE, hZ, hB⟩ := HS.out
      have hln : acc.length ≤ maxLen := by obtain ⟨_, _, _, _, h1, h2⟩ := hT5; have := HAL.out; unfold maxLen; omega
      clear HRE hlt hT5
      have HFR := Lib.hid (HO.out.fresh.more (show w.heap.size ≤ w.heap.size + 1 + 1 + 1 by omega))
      go_upto_region 46 with fail
      go_cut [3] (fun s wx => s = .bool (true) ∧ Hid (TBox wx (w.heap.size + 1) 24 #[.int .i64 FM, .int .i64 lo, .int .i64 hi, .int .i64 c, .int .i64 wd, .int .i64 sp, .bool bk, .bool rl, .slice ao acc.length scap]) ∧ Hid (Below w.heap.size w wx) ∧ Hid (StS wx.heap.size wx (.slice ao acc.length scap) acc))
      case first =>
        have q0 := hE.cell (i := 0) rfl
        have q1 := hE.cell (i := 1) rfl
        have q2 := hE.cell (i := 2) rfl
        have q3 := hE.cell (i := 3) rfl
        have q4 := hE.cell (i := 4) rfl
        have q5 := hE.cell (i := 5) rfl
        have q6 := hE.cell (i := 6) rfl
        have q7 := hE.cell (i := 7) rfl
        have q8 := hE.cell (i := 8) rfl
        have ql := hE.lt
        have r0 := hZ.cell (i := 0) rfl
        have r1 := hZ.cell (i := 1) rfl
        have r2 := hZ.cell (i := 2) rfl
        have r3 := hZ.cell (i := 3) rfl
        have r4 := hZ.cell (i := 4) rfl
        have r5 := hZ.cell (i := 5) rfl
        have r6 := hZ.cell (i := 6) rfl
        have r7 := hZ.cell (i := 7) rfl
        have r8 := hZ.cell (i := 8) rfl
        have z0 := hZ.frozen 0
        have z1 := hZ.frozen 1
        have z2 := hZ.frozen 2
        have z3 := hZ.frozen 3
        have z4 := hZ.frozen 4
        have z5 := hZ.frozen 5
        have z6 := hZ.frozen 6
        have z7 := hZ.frozen 7
        have z8 := hZ.frozen 8
        have rl2 := hZ.lt
        have HXB := Lib.hid (set9_box (w := wr) hZ (u0 := .int .i64 FM) (u1 := .int .i64 lo) (u2 := .int .i64 hi) (u3 := .int .i64 c) (u4 := .int .i64 wd) (u5 := .int .i64 sp) (u6 := .bool bk) (u7 := .bool rl) (u8 := .slice ao acc.length scap))
        have HB9 := Lib.hid (set9_below (W := wr) hB (show w.heap.size ≤ w.heap.size + 1 by omega) (.int .i64 FM) (.int .i64 lo) (.int .i64 hi) (.int .i64 c) (.int .i64 wd) (.int .i64 sp) (.bool bk) (.bool rl) (.slice ao acc.length scap))
        have HQS := Lib.hid (OwnP.stS (OwnP.set9 HO.out (show w.heap.size + 1 < (w.heap.size + 1 + 1 + 1) by omega) (.int .i64 FM) (.int .i64 lo) (.int .i64 hi) (.int .i64 c) (.int .i64 wd) (.int .i64 sp) (.bool bk) (.bool rl) (.slice ao acc.length scap)) hln)
        clear hE hZ hB HO HS
        go_wp2_with fail
        go_meet
        exact ⟨by first | rfl | (simp; done), HXB, HB9, HQS⟩
      case rest =>
        rename_i KK hKK
        obtain ⟨rfl, HQ, HB9, HQS⟩ := hcut
        have x0 := HQ.out.cell (i := 0) rfl
        have x1 := HQ.out.cell (i := 1) rfl
        have x2 := HQ.out.cell (i := 2) rfl
        have x3 := HQ.out.cell (i := 3) rfl
        have x4 := HQ.out.cell (i := 4) rfl
        have x5 := HQ.out.cell (i := 5) rfl
        have x6 := HQ.out.cell (i := 6) rfl
        have x7 := HQ.out.cell (i := 7) rfl
        have x8 := HQ.out.cell (i := 8) rfl
        refine hKK _ _ (wp_ret ?_)
        exact bodyPost_ret (v := .tuple #[.agg #[.int .i64 FM, .int .i64 lo, .int .i64 hi, .int .i64 c, .int .i64 wd, .int .i64 sp, .bool bk, .bool rl, .slice ao acc.length scap], .bool (true)]) (by simp [results, Tryz.results7, go_sem, x0, x1, x2, x3, x4, x5, x6, x7, x8]) rfl (HPS.out ⟨FM, lo, hi, c, wd, sp, bk, rl, acc⟩ _ _ HN.out HQS.out HFR.out HB9.out)
end Go.Proofs.YtfidbdegggalmaaGreatDoor
