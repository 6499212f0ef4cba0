/- The walk of cycloramalaw1.LevelChangesAreTheFade: for every input it returns true. -/
import Derived.Test.YthoiamaomhggiaaChanges
import Derived.Test.YthoiamaomhggiaaAt
namespace Go.Proofs.Ythoiamaomhggiaa.levelChangesAreTheFade
open Go.RowKit
set_option linter.unusedVariables false
set_option linter.unusedSimpArgs false

theorem pts_shapeC {W : World} {v : Value} {ps : List (Int × Int)} (h : PtsV W v ps) : ∃ ao cap, v = .slice ao ps.length cap := by
  rcases h with ⟨rfl, ao, cap, rfl⟩ | ⟨h, hm, b, off, cap, rfl, hb, hp⟩
  · exact ⟨ao, cap, rfl⟩
  · exact ⟨_, cap, rfl⟩
theorem chg_parts (f : Fd) : (chgE f 2 ≠ 0 ∧ chgL f = []) ∨ (chgE f 2 = 0 ∧ checkF f = 0 ∧ ∃ m, cnt f 5000 0 = some m ∧ chgL f = chg f m ∧ 0 < m ∧ m ≤ 5000) := by
  by_cases h : checkF f = 0
  · cases hc : cnt f 5000 0 with
    | none => have := chg_none h hc; exact .inl ⟨by rw [this.2]; decide, this.1⟩
    | some m =>
      have := chg_some h hc
      have r := cnt_some f _ _ _ hc
      exact .inr ⟨this.2, h, m, rfl, this.1, by omega, by omega⟩
  · exact .inl ⟨by rw [chgE_bad h]; exact h, chgL_bad h⟩

set_option maxHeartbeats 4000000 in
set_option maxRecDepth 100000 in
theorem walk (a0 : Value) (t : Int) (w : World) (w0 : ∃ f, FdV w a0 f ∧ FdFit f) (_w1 : (Lit.int .i64 t).wf = true) :
    Calls Try.prog 12 #[a0, .int .i64 t] w fun e w' => e = .returned (.bool true) ∧ Below w.heap.size w w' := by
  obtain ⟨f, hf, _⟩ := w0
  have C1 := Lib.hid (fun W (hW : Below w.heap.size w W) => Changes_any a0 f W (fdV_below hf hW))
  have CA := Lib.hid (fun W (hW : Below w.heap.size w W) => At_any a0 f t W (fdV_below hf hW))
  have HEV := Lib.hid (atE_ok f t)
  have HRV : Hid (atR f t = if atE f t = 0 then atV f t else 0) := rfl
  have HLE := Lib.hid (fun (hf : RightF f) (ht : f.start ≤ t) m hm => lastL_end f hf t ht m hm)
  obtain ⟨p, rfl, _⟩ := hf
  have KC := Lib.hid (fade1 (w := w) (f := f) (p := p))
  clear _w1
  rcases chg_parts f with ⟨hE, hL⟩ | ⟨hE, hck, m, hm, hL, hm0, hm9⟩
  · rw [hL] at C1
    have hEb : (chgE f 2 != 0) = true := by simpa using hE
    generalize chgE f 2 = E at *
    clear hE hL HLE HRV HEV CA
    go_enter Try.func12, Try.ntmps12
    go_wp2_with fail
    refine (C1.out _ below1).mono ?_
    rintro e w1 ⟨v1, rfl, hp1, hb1⟩
    obtain ⟨ao1, cap1, rfl⟩ := pts_shapeC hp1
    have HW1 := Lib.hid (bt below1 hb1)
    clear hb1 hp1 KC
    go_wp2
    go_ret
    exact ⟨by simp, HW1.out⟩
  · rw [hL, hE] at C1
    have hlen : (chg f m).length = m := chg_len f m
    have HLE2 := Lib.hid (fun (ht : f.start ≤ t) => HLE.out ((checkF_right f).1 hck) ht m hm)
    have hlast : ∀ k, lastL f t (k + 1) = if tm f k ≤ t then atV f (tm f k) else lastL f t k := fun k => rfl
    have HLA := Lib.hid hlast
    have HL0 : Hid (lastL f t 0 = -1) := rfl
    have HGET := Lib.hid (fun k (h : k < (chg f m).length) => chg_get f m k h)
    generalize chg f m = L at *
    generalize lastL f t = last at *
    subst hlen
    clear hE hL hck hm hlast HLE
    have hl9 : L.length ≤ 9223372036854775807 := by omega
    by_cases hA : atE f t = 0
    · have hr : atR f t = atV f t := by rw [HRV.out, if_pos hA]
      rw [hA, hr] at CA
      have HA := Lib.hid hA
      by_cases hs : t < f.start
      · have hsb : decide (t < f.start) = true := by simpa using hs
        clear hA hr HLE2 HLA HL0 HGET HEV HRV HA
        generalize atV f t = n at *
        go_enter Try.func12, Try.ntmps12
        go_wp2_with fail
        refine (C1.out _ below1).mono ?_
        rintro e w1 ⟨v1, rfl, hp1, hb1⟩
        obtain ⟨ao1, cap1, rfl⟩ := pts_shapeC hp1
        have HW1 := Lib.hid (bt below1 hb1)
        have hz1 : w.heap.size < w1.heap.size := by have := hb1.size; simp at this; omega
        obtain ⟨d0, d1, d2, d3, d4, d5, d6⟩ := KC.out w1 (hb1.mono (by simp))
        have HKC := Lib.hid (fun W (hW : Below w1.heap.size w1 W) => (hW.cell (p := ⟨w.heap.size, 2, none⟩) hz1).trans d2)
        clear hb1 hp1 KC
        go_wp2_with fail
        refine (CA.out _ HW1.out).mono ?_
        rintro e w2 ⟨rfl, hb2⟩
        have HW2 := Lib.hid (bt HW1.out hb2)
        have q2 := HKC.out w2 hb2
        clear hb2 d0 d1 d2 d3 d4 d5 d6
        go_wp2
        go_ret
        exact ⟨by first | rfl | (simp; done) | (simp; omega), HW2.out⟩
      · have hsb : decide (t < f.start) = false := by simpa using hs
        have HFIN := Lib.hid (HLE2.out (by omega))
        clear hA hr HEV HRV HA HLE2
        generalize atV f t = n at *
        go_enter Try.func12, Try.ntmps12
        go_wp2_with fail
        refine (C1.out _ below1).mono ?_
        rintro e w1 ⟨v1, rfl, hp1, hb1⟩
        have hlpos : L ≠ [] := by intro h; subst h; simp at hm0
        rcases hp1 with ⟨h, _⟩ | ⟨_, _, b, off, cap, rfl, hbl, hpa⟩
        · exact absurd h hlpos
        · have HPA := Lib.hid hpa
          have HW1 := Lib.hid (bt below1 hb1)
          have hz1 : w.heap.size < w1.heap.size := by have := hb1.size; simp at this; omega
          obtain ⟨d0, d1, d2, d3, d4, d5, d6⟩ := KC.out w1 (hb1.mono (by simp))
          have HKC := Lib.hid (fun W (hW : Below w1.heap.size w1 W) => (hW.cell (p := ⟨w.heap.size, 2, none⟩) hz1).trans d2)
          clear hb1 hpa KC
          go_wp2_with fail
          refine (CA.out _ HW1.out).mono ?_
          rintro e w2 ⟨rfl, hb2⟩
          have HW2 := Lib.hid (bt HW1.out hb2)
          have q2 := HKC.out w2 hb2
          have HB2 := Lib.hid hb2
          clear hb2 d0 d1 d2 d3 d4 d5 d6 hlpos
          have HLB := Lib.hid hbl
          go_wp2
          go_loopw [8, 40] (fun s8 s40 wr => ∃ k : Nat, k ≤ L.length ∧ s40 = .int .i64 k ∧ s8 = .int .i64 (last k) ∧ Below w2.heap.size w2 wr) (fun _ s40 _ => L.length - (intOf s40).toNat)
          case atStart => exact ⟨0, Nat.zero_le _, rfl, by rw [HL0.out], Below.refl _ _⟩
          case round =>
            obtain ⟨k, hk, rfl, rfl, hwr⟩ := hrel
            by_cases hlt : k < L.length
            · obtain ⟨p1, p2⟩ := HPA.out k hlt
              rw [HGET.out k hlt] at p1 p2
              have hb12 : Below w1.heap.size w1 wr := bt HB2.out hwr
              have r1 := (hb12.cell (p := ⟨b, off + k * 2, none⟩) HLB.out).trans p1
              have r2 := (hb12.cell (p := ⟨b, off + k * 2 + 1, none⟩) HLB.out).trans p2
              have hla := HLA.out k
              have hzr := hwr.size
              clear p1 p2 hb12
              simp only at r1 r2
              generalize tm f k = T at *
              generalize atV f T = x at *
              by_cases hT : T ≤ t
              · rw [if_pos hT] at hla
                have HLAK := Lib.hid hla
                have hTb : decide (T ≤ t) = true := by simpa using hT
                clear hla
                go_wp2
                go_roundw
                case rel => exact ⟨k + 1, by omega, by go_num, by rw [HLAK.out], hwr.alloc hzr _⟩
                case measure => simp [intOf]; omega
              · rw [if_neg hT] at hla
                have HLAK := Lib.hid hla
                have hTb : decide (T ≤ t) = false := by simpa using hT
                clear hla
                go_wp2
                go_roundw
                case rel => exact ⟨k + 1, by omega, by go_num, by rw [HLAK.out], hwr.alloc hzr _⟩
                case measure => simp [intOf]; omega
            · have HK : Hid (last k = n) := Lib.hid (by rw [show k = L.length by omega]; exact HFIN.out)
              have HZ := Lib.hid (bt HW2.out hwr)
              have hkl : k = L.length := by omega
              clear hwr
              go_wp2
              go_ret
              exact ⟨by first | (simp [HFIN.out]; done) | (rw [HK.out]; simp; done), HZ.out⟩
    · have hAb : (atE f t != 0) = true := by simpa using hA
      clear hA HEV HRV HLE2 HLA HL0 HGET
      generalize atE f t = ev at *
      generalize atR f t = n at *
      go_enter Try.func12, Try.ntmps12
      go_wp2_with fail
      refine (C1.out _ below1).mono ?_
      rintro e w1 ⟨v1, rfl, hp1, hb1⟩
      obtain ⟨ao1, cap1, rfl⟩ := pts_shapeC hp1
      have HW1 := Lib.hid (bt below1 hb1)
      obtain ⟨d0, d1, d2, d3, d4, d5, d6⟩ := KC.out w1 (hb1.mono (by simp))
      clear hb1 hp1 KC
      go_wp2_with fail
      refine (CA.out _ HW1.out).mono ?_
      rintro e w2 ⟨rfl, hb2⟩
      have HW2 := Lib.hid (bt HW1.out hb2)
      clear hb2 d0 d1 d2 d3 d4 d5 d6
      go_wp2
      go_ret
      exact ⟨by first | rfl | (simp; done) | (simp; omega), HW2.out⟩
end Go.Proofs.Ythoiamaomhggiaa.levelChangesAreTheFade
