/- Check of emitters, of the reference. (printed by wip/gen/gen_emcheck.py) -/
import Derived.Test.YteelomjknllcbaaEmCheck
namespace Go.Proofs.Yteelomjknllcbaa
open Go.RowKit
open Classical
set_option linter.unusedVariables false
set_option linter.unusedSimpArgs false

set_option maxRecDepth 10000 in
set_option maxHeartbeats 8000000 in
theorem remCheck_any (v : Value) (l : List Emi) (w : World) (hv : EmS w.heap.size w v l) :
    Calls Try.prog 22 #[v] w fun e w' => e = .returned (.int .i64 (chkEm l)) ∧ Below w.heap.size w w' := by
  obtain ⟨ao, cap, rfl, ⟨hcap, hmax⟩, hcl, hfit⟩ := hv
  unfold maxLen at hmax
  by_cases h0 : l.length = 0
  · have HV := Lib.hid (show chkEm l = 8 from if_pos h0)
    clear hcl hfit
    go_enter Try.func22, Try.ntmps22
    go_wp2
    go_ret
    exact ⟨by rw [HV.out] <;> rfl, Below.refl _ _⟩
  have h0' : ((l.length : Int) == 0) = false := by rw [beq_eq_false_iff_ne]; omega
  by_cases h12 : 12 < l.length
  · have HV := Lib.hid (show chkEm l = 2 by unfold chkEm; rw [if_neg h0, if_pos h12])
    clear hcl hfit
    go_enter Try.func22, Try.ntmps22
    go_wp2
    go_ret
    exact ⟨by rw [HV.out] <;> rfl, Below.refl _ _⟩
  have h12' : l.length ≤ 12 := by omega
  have HV := Lib.hid (show chkEm l = emFrom l 0 by unfold chkEm; rw [if_neg h0, if_neg h12])
  obtain ⟨b, off, rfl, hb, hcc⟩ := hcl (by intro h; subst h; simp at h0)
  have HCL := Lib.hid hcc
  have HFIT := Lib.hid (fun k (hk : k < l.length) => (hfit l[k] (List.getElem_mem hk)).1)
  generalize chkEm l = F at *
  clear hcc hcl hfit h12
  go_enter Try.func22, Try.ntmps22
  go_wp2_with fail
  go_loopw [18] (fun i wr => ∃ k : Nat, k ≤ l.length ∧ i = .int .i64 k ∧ Hid (F = emFrom l k) ∧ Below w.heap.size w wr) (fun i _ => l.length - (intOf i).toNat)
  case atStart => exact ⟨0, Nat.zero_le _, rfl, HV, Below.refl _ _⟩
  case round =>
    obtain ⟨k, hk, rfl, HK, hbw⟩ := hrel
    by_cases hlt : k < l.length
    · obtain ⟨c0, c1, c2, c3⟩ := HCL.out k hlt
      have d0 : wr.cell? ⟨b, off + k * 4, none⟩ = some (.string l[k].name) := (hbw.cell (p := ⟨b, off + k * 4, none⟩) hb).trans c0
      have d1 : wr.cell? ⟨b, off + k * 4 + 1, none⟩ = some (.int .i64 l[k].r) := (hbw.cell (p := ⟨b, off + k * 4 + 1, none⟩) hb).trans c1
      have d2 : wr.cell? ⟨b, off + k * 4 + 2, none⟩ = some (.int .i64 l[k].g) := (hbw.cell (p := ⟨b, off + k * 4 + 2, none⟩) hb).trans c2
      have d3 : wr.cell? ⟨b, off + k * 4 + 3, none⟩ = some (.int .i64 l[k].b) := (hbw.cell (p := ⟨b, off + k * 4 + 3, none⟩) hb).trans c3
      have hbr : b < wr.heap.size := Nat.lt_of_lt_of_le hb hbw.size
      have HB := Lib.hid hbw
      have HNX := Lib.hid (fun h => emFrom_next hlt h)
      have HBD := Lib.hid (fun h => emFrom_bad hlt h)
      have HEF := Lib.hid (show emiF l k l[k] = if nameB l[k].name.data.toList = false then 5 else if hasN (l.take k) l[k].name = true then 6 else if chkC l[k].r l[k].g l[k].b ≠ 0 then chkC l[k].r l[k].g l[k].b else if l[k].r = 0 ∧ l[k].g = 0 ∧ l[k].b = 0 then 8 else 0 from rfl)
      have HNM := Lib.hid (fun W => isName_any l[k].name W (HFIT.out k hlt))
      have HHN := Lib.hid (fun m (hm : m < l.length) => hasN_next l l[k].name m hm)
      have HHY := Lib.hid (fun m (hm : m < l.length) (hmk : m < k) (hs : sameN (l[k]'hlt).name (l[m]'hm).name = true) => hasN_yes l (l[k]'hlt).name m k hm hmk hs)
      have HCK := Lib.hid (rcheck_any l[k].r l[k].g l[k].b)
      obtain ⟨hs, hhs⟩ : ∃ hs, hs = hasN (l.take k) l[k].name := ⟨_, rfl⟩
      rw [← hhs] at HEF
      have HSN := Lib.hid hhs
      clear hhs
      generalize chkC l[k].r l[k].g l[k].b = ck at *
      generalize emiF l k l[k] = ef at *
      generalize l[k] = x at *
      generalize nameB x.name.data.toList = nb at *
      obtain ⟨nm, xr, xg, xb⟩ := x
      simp only at d0 d1 d2 d3
      clear hbw c0 c1 c2 c3
      cases nb
      · have HQ := Lib.hid (show F = 5 by rw [HK.out, HBD.out (by rw [HEF.out]; simp), HEF.out]; simp)
        go_wp2_with fail
        refine (HNM.out _).mono ?_
        rintro e w' ⟨rfl, rfl⟩
        go_wp2_with fail
        go_ret
        exact ⟨by rw [HQ.out] <;> rfl, HB.out.alloc HB.out.size _⟩
      go_wp2_with fail
      refine (HNM.out _).mono ?_
      rintro e w' ⟨rfl, rfl⟩
      go_wp2_with fail
      have HBX := Lib.hid (show ∀ W, Below (wr.heap.size + 1) (wr.alloc (.cells #[.string nm, .int .i64 xr, .int .i64 xg, .int .i64 xb] 40)) W → Below w.heap.size w W ∧ wr.heap.size < W.heap.size ∧ W.cell? ⟨wr.heap.size, 0, none⟩ = some (.string nm) ∧ W.cell? ⟨wr.heap.size, 1, none⟩ = some (.int .i64 xr) ∧ W.cell? ⟨wr.heap.size, 2, none⟩ = some (.int .i64 xg) ∧ W.cell? ⟨wr.heap.size, 3, none⟩ = some (.int .i64 xb) from fun W hW => by
        have hz := hW.size
        have hz0 := HB.out.size
        simp at hz
        exact ⟨(HB.out.alloc hz0 _).trans (hW.mono (by omega)), by omega, (hW.cell (p := ⟨wr.heap.size, 0, none⟩) (by simp)).trans (by simp [go_sem]), (hW.cell (p := ⟨wr.heap.size, 1, none⟩) (by simp)).trans (by simp [go_sem]), (hW.cell (p := ⟨wr.heap.size, 2, none⟩) (by simp)).trans (by simp [go_sem]), (hW.cell (p := ⟨wr.heap.size, 3, none⟩) (by simp)).trans (by simp [go_sem])⟩)
      obtain ⟨wr0, hwr0⟩ : ∃ x, x = wr := ⟨_, rfl⟩
      subst hwr0
      clear d0 d1 d2 d3
      go_loopw [31] (fun j wr => ∃ m : Nat, m ≤ k ∧ j = .int .i64 m ∧ Hid (hasN (l.take m) nm = false) ∧ Below (wr0.heap.size + 1) (wr0.alloc (.cells #[.string nm, .int .i64 xr, .int .i64 xg, .int .i64 xb] 40)) wr) (fun j _ => k - (intOf j).toNat)
      case atStart => exact ⟨0, Nat.zero_le _, rfl, Lib.hid (by simp [hasN]), Below.refl _ _⟩
      case round =>
        obtain ⟨m, hm, rfl, HM, hbm⟩ := hrel
        obtain ⟨hB2, hz2, f0, f1, f2, f3⟩ := HBX.out _ hbm
        have HB2 := Lib.hid hB2
        have HBM := Lib.hid hbm
        by_cases hmk : m < k
        · have hml : m < l.length := by omega
          obtain ⟨c0, c1, c2, c3⟩ := HCL.out m hml
          have d0 : wr.cell? ⟨b, off + m * 4, none⟩ = some (.string l[m].name) := (hB2.cell (p := ⟨b, off + m * 4, none⟩) hb).trans c0
          have d1 : wr.cell? ⟨b, off + m * 4 + 1, none⟩ = some (.int .i64 l[m].r) := (hB2.cell (p := ⟨b, off + m * 4 + 1, none⟩) hb).trans c1
          have d2 : wr.cell? ⟨b, off + m * 4 + 2, none⟩ = some (.int .i64 l[m].g) := (hB2.cell (p := ⟨b, off + m * 4 + 2, none⟩) hb).trans c2
          have d3 : wr.cell? ⟨b, off + m * 4 + 3, none⟩ = some (.int .i64 l[m].b) := (hB2.cell (p := ⟨b, off + m * 4 + 3, none⟩) hb).trans c3
          have hbr2 : b < wr.heap.size := Nat.lt_of_lt_of_le hb hB2.size
          have HNm := Lib.hid (HHN.out m hml)
          have HYm := Lib.hid (HHY.out m hml hmk)
          generalize l[m] = y at *
          clear hbm c0 c1 c2 c3 hB2
          by_cases hsn : nm = y.name
          · have HQ0 := Lib.hid (show hs = true from HSN.out.trans (HYm.out (decide_eq_true hsn)))
            have HQ := Lib.hid (show F = 6 by rw [HK.out, HBD.out (by rw [HEF.out, HQ0.out]; simp), HEF.out, HQ0.out]; simp)
            subst hsn
            go_wp2_with fail
            go_ret
            exact ⟨by rw [HQ.out] <;> rfl, HB2.out.alloc HB2.out.size _⟩
          · have HQ := Lib.hid (show hasN (l.take (m + 1)) nm = false by rw [HNm.out, HM.out, show sameN nm y.name = false from decide_eq_false hsn]; rfl)
            have t1 := toList_ne hsn
            have t2 := toList_ne (fun h => hsn (Eq.symm h))
            have t3 : (y.name.toList == nm.toList) = false := beq_eq_false_iff_ne.mpr t2
            have t4 : (nm.toList == y.name.toList) = false := beq_eq_false_iff_ne.mpr t1
            clear hsn
            go_wp2_with fail
            go_roundw
            case rel =>
              first
                | exact ⟨m + 1, by omega, by go_num, HQ, HBM.out.alloc (by omega) _⟩
                | ((repeat apply Exists.intro); refine ⟨⟨m + 1, by omega, by go_num, HQ, HBM.out.alloc (by omega) _⟩, ?_⟩; rfl)
            case measure => simp [intOf]; omega
        · have hmm : k = m := by omega
          subst hmm
          obtain ⟨w2, hw2⟩ : ∃ x, x = wr := ⟨_, rfl⟩
          subst hw2
          have HHF := Lib.hid (show hs = false from HSN.out.trans HM.out)
          clear hbm hB2 f0
          have HEF := Lib.hid (show ef = if false = true then (6 : Int) else if ck ≠ 0 then ck else if xr = 0 ∧ xg = 0 ∧ xb = 0 then 8 else 0 by rw [HEF.out, HHF.out]; simp)
          go_wp2_with fail
          refine (HCK.out _).mono ?_
          rintro e w3 ⟨rfl, hb3⟩
          have HB3 := Lib.hid (HB2.out.trans (hb3.mono HB2.out.size))
          have hz3 : wr0.heap.size < w3.heap.size := by have := hb3.size; omega
          have g1 : w3.cell? ⟨wr0.heap.size, 1, none⟩ = some (.int .i64 xr) := (hb3.cell (p := ⟨wr0.heap.size, 1, none⟩) hz2).trans f1
          have g2 : w3.cell? ⟨wr0.heap.size, 2, none⟩ = some (.int .i64 xg) := (hb3.cell (p := ⟨wr0.heap.size, 2, none⟩) hz2).trans f2
          have g3 : w3.cell? ⟨wr0.heap.size, 3, none⟩ = some (.int .i64 xb) := (hb3.cell (p := ⟨wr0.heap.size, 3, none⟩) hz2).trans f3
          clear hb3 f1 f2 f3 hz2
          by_cases hck : ck = 0
          rotate_left
          · have HQ := Lib.hid (show F = ck by rw [HK.out, HBD.out (by rw [HEF.out]; simp [hck]), HEF.out]; simp [hck])
            have hb0 : (ck != 0) = true := by simp [hck]
            clear hck
            go_wp2_with fail
            go_ret
            exact ⟨by rw [HQ.out] <;> rfl, HB3.out⟩
          subst hck
          by_cases hz : xr = 0 ∧ xg = 0 ∧ xb = 0
          · obtain ⟨rfl, rfl, rfl⟩ := hz
            have HQ := Lib.hid (show F = 8 by rw [HK.out, HBD.out (by rw [HEF.out]; simp), HEF.out]; simp)
            go_wp2_with fail
            go_ret
            exact ⟨by rw [HQ.out] <;> rfl, HB3.out⟩
          · have HQ := Lib.hid (show F = emFrom l (k + 1) by rw [HK.out, HNX.out (by rw [HEF.out]; simp [hz])])
            have hzz : ¬ (xr = 0 ∧ xg = 0 ∧ xb = 0) := hz
            clear hz
            go_wp2_with fail
            all_goals
              go_roundw
              case rel =>
                first
                  | exact ⟨k + 1, by omega, by go_num, HQ, HB3.out⟩
                  | ((repeat apply Exists.intro); refine ⟨⟨k + 1, by omega, by go_num, HQ, HB3.out⟩, ?_⟩; rfl)
              case measure => simp [intOf]; omega
    · have HQ := Lib.hid (show F = 0 by rw [HK.out, emFrom_end hlt])
      have HB := Lib.hid hbw
      clear hbw
      go_wp2_with fail
      go_ret
      exact ⟨by rw [HQ.out] <;> rfl, HB.out⟩
