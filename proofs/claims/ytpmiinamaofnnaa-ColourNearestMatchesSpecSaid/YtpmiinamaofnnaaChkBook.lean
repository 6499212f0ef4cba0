/- CheckBook of the program. (printed by wip/gen/gen_chkbook.py) -/
import Derived.Test.YtpmiinamaofnnaaBookPlain
import Derived.Test.YtpmiinamaofnnaaWide
import Derived.BigQuiet
import Derived.Deep.QuietTactic
namespace Go.Proofs.Ytpmiinamaofnnaa
open Go.RowKit
set_option linter.unusedVariables false
set_option linter.unusedSimpArgs false

set_option maxRecDepth 100000 in
set_option maxHeartbeats 8000000 in
theorem chkBook_any (v : Value) (l : List Gel) (w : World) (hv : GelS w.heap.size w v l) (hfit : ∀ x ∈ l, x.name.size ≤ 9223372036854775807) :
    Calls Try.prog 12 #[v] w fun e w' => e = .returned (.int .i64 (chkBook l)) ∧ Below w.heap.size w w' := by
  obtain ⟨ao, cap, rfl, hmax, hcl⟩ := hv.cells
  unfold maxLen at hmax
  by_cases h500 : 500 < l.length
  · have HV := Lib.hid (show chkBook l = 2 from if_pos h500)
    have h5 : (500 : Int) < (l.length : Int) := by omega
    clear hcl hfit hv
    go_enter Try.func12, Try.ntmps12
    go_wp2
    go_ret
    exact ⟨by rw [HV.out] <;> rfl, Below.refl _ _⟩
  have h5 : ¬ (500 : Int) < (l.length : Int) := by omega
  have HV := Lib.hid (show chkBook l = bookF (prevN l 0) (l.drop 0) from if_neg h500)
  by_cases h0 : l.length = 0
  · have HZ := Lib.hid (show chkBook l = 0 by rw [HV.out]; cases l with | nil => rfl | cons a t => simp at h0)
    clear hcl hfit hv HV
    go_enter Try.func12, Try.ntmps12
    go_wp2_with fail
    refine wp_loop_rounds 1 ?_
    rw [rounds_succ]
    go_wp2
    go_ret
    exact ⟨by rw [HZ.out] <;> rfl, Below.refl _ _⟩
  obtain ⟨b, off, rfl, hb, hcc⟩ := hcl (by intro h; subst h; simp at h0)
  have HCL := Lib.hid hcc
  have HFIT := Lib.hid (fun k (hk : k < l.length) => hfit l[k] (List.getElem_mem hk))
  have HEND := Lib.hid (fun p => bookF_end l p)
  have HDR := Lib.hid (fun k (hk : k < l.length) => bookF_drop l k hk)
  have HPR := Lib.hid (fun k (hk : k < l.length) => show prevN l (k + 1) = some l[k].n by
    show (l[k]?).map (·.n) = _
    rw [List.getElem?_eq_getElem hk]; rfl)
  generalize chkBook l = F at *
  clear hcc hcl hfit h500 hv
  go_enter Try.func12, Try.ntmps12
  go_wp2_with fail
  go_loopw [11] (fun i wr => ∃ k : Nat, k ≤ l.length ∧ i = .int .i64 k ∧ Hid (F = bookF (prevN l k) (l.drop k)) ∧ Below w.heap.size w wr) (fun i _ => l.length - (intOf i).toNat)
  case atStart => exact ⟨0, Nat.zero_le _, rfl, HV, Below.refl _ _⟩
  case round =>
    obtain ⟨k, hk, rfl, HK, hbw⟩ := hrel
    by_cases hlt : k < l.length
    · obtain ⟨c0, c1, c2, c3, c4⟩ := HCL.out k hlt
      have d0 : wr.cell? ⟨b, off + k * 5, none⟩ = some (.int .i64 l[k].n) := (hbw.cell (p := ⟨b, off + k * 5, none⟩) hb).trans c0
      have d1 : wr.cell? ⟨b, off + k * 5 + 1, none⟩ = some (.string l[k].name) := (hbw.cell (p := ⟨b, off + k * 5 + 1, none⟩) hb).trans c1
      have d2 : wr.cell? ⟨b, off + k * 5 + 2, none⟩ = some (.int .i64 l[k].r) := (hbw.cell (p := ⟨b, off + k * 5 + 2, none⟩) hb).trans c2
      have d3 : wr.cell? ⟨b, off + k * 5 + 3, none⟩ = some (.int .i64 l[k].g) := (hbw.cell (p := ⟨b, off + k * 5 + 3, none⟩) hb).trans c3
      have d4 : wr.cell? ⟨b, off + k * 5 + 4, none⟩ = some (.int .i64 l[k].b) := (hbw.cell (p := ⟨b, off + k * 5 + 4, none⟩) hb).trans c4
      have hbr : b < wr.heap.size := Nat.lt_of_lt_of_le hb hbw.size
      have HB := Lib.hid hbw
      have HQ := Lib.hid (HK.out.trans (HDR.out k hlt))
      have HGF := Lib.hid (fun p => show gelF p l[k] = if ¬ (1 ≤ l[k].n ∧ l[k].n ≤ 9999) then 1 else if (p.any fun q => decide (l[k].n ≤ q)) = true then 7 else if titleB l[k].name = false then 3 else chkC l[k].r l[k].g l[k].b from rfl)
      have HPK := Lib.hid (HPR.out k hlt)
      have CT := Lib.hid (fun W => title_any l[k].name W (HFIT.out k hlt))
      have CC := Lib.hid (fun W => check_any l[k].r l[k].g l[k].b W)
      have CW := Lib.hid (fun W => within_B l[k].n 1 9999 W)
      have HIN := Lib.hid (show inB l[k].n 1 9999 = decide (1 ≤ l[k].n ∧ l[k].n ≤ 9999) from rfl)
      have HPV : Hid (∀ k', k = k' + 1 → ∃ q : Int, prevN l k = some q ∧ wr.cell? ⟨b, off + k' * 5, none⟩ = some (.int .i64 q)) := fun k' e => by
        subst e
        have hk' : k' < l.length := by omega
        obtain ⟨x0, _⟩ := HCL.out k' hk'
        exact ⟨l[k'].n, HPR.out k' hk', (HB.out.cell (p := ⟨b, off + k' * 5, none⟩) hb).trans x0⟩
      have HP0 : Hid (k = 0 → prevN l k = none) := fun e => by subst e; rfl
      generalize hfe : gelF (prevN l k) l[k] = GF at *
      generalize l[k] = y at *
      obtain ⟨n, nm, r, g, bl⟩ := y
      simp only at d0 d1 d2 d3 d4
      have HGF2 := Lib.hid (HGF.out (prevN l k))
      have HFE := Lib.hid hfe
      generalize prevN l k = pv at *
      generalize titleB nm = tb at *
      generalize chkC r g bl = cf at *
      generalize inB n 1 9999 = ib at *
      clear c0 c1 c2 c3 c4 hbw HK HGF hfe HFIT HCL HDR HPR
      simp only at HIN HGF2 HFE CT CC CW HPK
      have HQ2 := Lib.hid (show GF ≠ 0 → F = GF from fun h => by rw [HQ.out, if_neg h])
      have HQ3 := Lib.hid (show GF = 0 → F = bookF (prevN l (k + 1)) (l.drop (k + 1)) from fun h => by rw [HQ.out, if_pos h])
      clear HQ
      have hk9 : k ≤ 500 := by omega
      cases ib
      · have hin : ¬ (1 ≤ n ∧ n ≤ 9999) := by have := HIN.out; simpa using this.symm
        have HF := Lib.hid (show F = 1 by
          have e : GF = 1 := by rw [← HFE.out, HGF2.out]; exact if_pos hin
          rw [HQ2.out (by rw [e]; decide), e])
        have HX := Lib.hid (HB.out.alloc HB.out.size (.cells #[.int .i64 n, .string nm, .int .i64 r, .int .i64 g, .int .i64 bl] 29))
        clear hin HQ2 HQ3 HGF2 HFE HIN HPV HP0 HPK
        go_wp2_with fail
        refine (CW.out _).mono ?_
        rintro e w2 ⟨rfl, rfl⟩
        go_wp2_with fail
        go_ret
        exact ⟨by rw [HF.out]; rfl, by first | exact HX.out | exact below_drewN' HX.out | exact HX2.out⟩
      have hin : 1 ≤ n ∧ n ≤ 9999 := by have := HIN.out; simpa using this.symm
      have hn0 : ¬ ¬ (1 ≤ n ∧ n ≤ 9999) := fun h => h hin
      have HX := Lib.hid (HB.out.alloc HB.out.size (.cells #[.int .i64 n, .string nm, .int .i64 r, .int .i64 g, .int .i64 bl] 29))
      have HEQ := Lib.hid (show GF = if (pv.any fun q => decide (n ≤ q)) = true then 7 else if tb = false then 3 else cf by rw [← HFE.out, HGF2.out, if_neg hn0])
      clear HIN HGF2 HFE hn0 hin
      rcases Nat.eq_zero_or_pos k with hk0 | hk0
      · have HE2 := Lib.hid (show GF = if tb = false then 3 else cf by rw [HEQ.out, HP0.out hk0]; rfl)
        have hk1 : ¬ 0 < k := by omega
        clear HEQ hk0
        cases tb
        · have HF := Lib.hid (show F = 3 by
            have e : GF = 3 := by rw [HE2.out]; rfl
            rw [HQ2.out (by rw [e]; decide), e])
          clear HQ2 HQ3 HE2 HPK HPV HP0
          go_wp2_with fail
          refine (CW.out _).mono ?_
          rintro e w2 ⟨rfl, rfl⟩
          go_wp2_with fail
          go_quiet (fail)
          go_wp2_with fail
          refine (CT.out _).mono ?_
          rintro e w2 ⟨rfl, rfl⟩
          go_wp2_with fail
          go_ret
          exact ⟨by rw [HF.out]; rfl, by first | exact HX.out | exact below_drewN' HX.out | exact HX2.out⟩
        by_cases hcf : cf = 0
        · have HF := Lib.hid (show F = bookF (prevN l (k + 1)) (l.drop (k + 1)) from HQ3.out (by rw [HE2.out]; exact hcf))
          subst hcf
          clear HQ2 HQ3 HE2 HPK HPV HP0
          go_wp2_with fail
          refine (CW.out _).mono ?_
          rintro e w2 ⟨rfl, rfl⟩
          go_wp2_with fail
          go_quiet (fail)
          go_wp2_with fail
          refine (CT.out _).mono ?_
          rintro e w2 ⟨rfl, rfl⟩
          go_wp2_with fail
          refine (CC.out _).mono ?_
          rintro e w2 ⟨rfl, hb2⟩
          have HX2 := Lib.hid (show Below w.heap.size w w2 by rw [hb2]; first | exact HX.out.alloc HX.out.size _ | exact (below_drewN' HX.out).alloc HX.out.size _)
          clear hb2
          go_wp2_with fail
          go_roundw
          case rel =>
            first
              | exact ⟨k + 1, by omega, by go_num, HF, HX2.out⟩
              | ((repeat apply Exists.intro); refine ⟨⟨k + 1, by omega, by go_num, HF, HX2.out⟩, ?_⟩; rfl)
          case measure => simp [intOf]; omega
        · have HF := Lib.hid (show F = cf by
            have e : GF = cf := by rw [HE2.out]; rfl
            rw [HQ2.out (by rw [e]; exact hcf), e])
          have hcf2 : (cf == 0) = false := by simpa using hcf
          clear HQ2 HQ3 HE2 HPK HPV HP0 hcf
          go_wp2_with fail
          refine (CW.out _).mono ?_
          rintro e w2 ⟨rfl, rfl⟩
          go_wp2_with fail
          go_quiet (fail)
          go_wp2_with fail
          refine (CT.out _).mono ?_
          rintro e w2 ⟨rfl, rfl⟩
          go_wp2_with fail
          refine (CC.out _).mono ?_
          rintro e w2 ⟨rfl, hb2⟩
          have HX2 := Lib.hid (show Below w.heap.size w w2 by rw [hb2]; first | exact HX.out.alloc HX.out.size _ | exact (below_drewN' HX.out).alloc HX.out.size _)
          clear hb2
          go_wp2_with fail
          go_ret
          exact ⟨by rw [HF.out]; rfl, by first | exact HX.out | exact below_drewN' HX.out | exact HX2.out⟩
      · obtain ⟨k', rfl⟩ : ∃ k', k = k' + 1 := ⟨k - 1, by omega⟩
        obtain ⟨q, hq, dq⟩ := HPV.out k' rfl
        have hki : ((k' + 1 : Nat) : Int) - 1 = k' := by omega
        by_cases hle : n ≤ q
        · have HF := Lib.hid (show F = 7 by
            have e : GF = 7 := by
              rw [HEQ.out, hq]
              exact if_pos (by simpa using hle)
            rw [HQ2.out (by rw [e]; decide), e])
          clear HQ2 HQ3 HEQ HPK HPV HP0 hq
          go_wp2_with fail
          refine (CW.out _).mono ?_
          rintro e w2 ⟨rfl, rfl⟩
          go_wp2_with fail
          go_quiet (fail)
          go_wp2_with fail
          go_ret
          exact ⟨by rw [HF.out]; rfl, by first | exact HX.out | exact below_drewN' HX.out | exact HX2.out⟩
        have HE2 := Lib.hid (show GF = if tb = false then 3 else cf by
          rw [HEQ.out, hq]
          exact if_neg (by simpa using hle))
        clear HEQ hq
        cases tb
        · have HF := Lib.hid (show F = 3 by
            have e : GF = 3 := by rw [HE2.out]; rfl
            rw [HQ2.out (by rw [e]; decide), e])
          clear HQ2 HQ3 HE2 HPK HPV HP0
          go_wp2_with fail
          refine (CW.out _).mono ?_
          rintro e w2 ⟨rfl, rfl⟩
          go_wp2_with fail
          go_quiet (fail)
          go_wp2_with fail
          refine (CT.out _).mono ?_
          rintro e w2 ⟨rfl, rfl⟩
          go_wp2_with fail
          go_ret
          exact ⟨by rw [HF.out]; rfl, by first | exact HX.out | exact below_drewN' HX.out | exact HX2.out⟩
        by_cases hcf : cf = 0
        · have HF := Lib.hid (show F = bookF (prevN l ((k' + 1) + 1)) (l.drop ((k' + 1) + 1)) from HQ3.out (by rw [HE2.out]; exact hcf))
          subst hcf
          clear HQ2 HQ3 HE2 HPK HPV HP0
          go_wp2_with fail
          refine (CW.out _).mono ?_
          rintro e w2 ⟨rfl, rfl⟩
          go_wp2_with fail
          go_quiet (fail)
          go_wp2_with fail
          refine (CT.out _).mono ?_
          rintro e w2 ⟨rfl, rfl⟩
          go_wp2_with fail
          refine (CC.out _).mono ?_
          rintro e w2 ⟨rfl, hb2⟩
          have HX2 := Lib.hid (show Below w.heap.size w w2 by rw [hb2]; first | exact HX.out.alloc HX.out.size _ | exact (below_drewN' HX.out).alloc HX.out.size _)
          clear hb2
          go_wp2_with fail
          go_roundw
          case rel =>
            first
              | exact ⟨(k' + 1) + 1, by omega, by go_num, HF, HX2.out⟩
              | ((repeat apply Exists.intro); refine ⟨⟨(k' + 1) + 1, by omega, by go_num, HF, HX2.out⟩, ?_⟩; rfl)
          case measure => simp [intOf]; omega
        · have HF := Lib.hid (show F = cf by
            have e : GF = cf := by rw [HE2.out]; rfl
            rw [HQ2.out (by rw [e]; exact hcf), e])
          have hcf2 : (cf == 0) = false := by simpa using hcf
          clear HQ2 HQ3 HE2 HPK HPV HP0 hcf
          go_wp2_with fail
          refine (CW.out _).mono ?_
          rintro e w2 ⟨rfl, rfl⟩
          go_wp2_with fail
          go_quiet (fail)
          go_wp2_with fail
          refine (CT.out _).mono ?_
          rintro e w2 ⟨rfl, rfl⟩
          go_wp2_with fail
          refine (CC.out _).mono ?_
          rintro e w2 ⟨rfl, hb2⟩
          have HX2 := Lib.hid (show Below w.heap.size w w2 by rw [hb2]; first | exact HX.out.alloc HX.out.size _ | exact (below_drewN' HX.out).alloc HX.out.size _)
          clear hb2
          go_wp2_with fail
          go_ret
          exact ⟨by rw [HF.out]; rfl, by first | exact HX.out | exact below_drewN' HX.out | exact HX2.out⟩
    · have hkl : k = l.length := by omega
      subst hkl
      have HF := Lib.hid (show F = 0 by rw [HK.out, HEND.out])
      have HX := Lib.hid hbw
      clear hbw
      go_wp2_with fail
      go_ret
      exact ⟨by rw [HF.out] <;> rfl, HX.out⟩
end Go.Proofs.Ytpmiinamaofnnaa
