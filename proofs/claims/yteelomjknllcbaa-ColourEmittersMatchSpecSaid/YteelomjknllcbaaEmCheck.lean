/- Check of emitters, of the program. (printed by wip/gen/gen_emcheck.py) -/
import Derived.Test.YteelomjknllcbaaEmit
import Derived.Test.YteelomjknllcbaaName
import Derived.Test.YteelomjknllcbaaTones
namespace Go.Proofs.Yteelomjknllcbaa
open Go.RowKit
open Classical
set_option linter.unusedVariables false
set_option linter.unusedSimpArgs false

noncomputable def sameN (a b : ByteArray) : Bool := decide (a = b)
theorem toList_ne {a b : ByteArray} (h : ¬ a = b) : ¬ a.toList = b.toList := fun h2 => h (by
  rw [ByteArray.toList_eq, ByteArray.toList_eq] at h2
  obtain ⟨⟨x⟩⟩ := a
  obtain ⟨⟨y⟩⟩ := b
  simp at h2
  subst h2
  rfl)
/-- whether one of these has the name -/
noncomputable def hasN (l : List Emi) (n : ByteArray) : Bool := l.any (fun y => sameN n y.name)
/-- the fault of emitter i -/
noncomputable def emiF (l : List Emi) (i : Nat) (x : Emi) : Int :=
  if nameB x.name.data.toList = false then 5 else if hasN (l.take i) x.name = true then 6 else if chkC x.r x.g x.b ≠ 0 then chkC x.r x.g x.b else if x.r = 0 ∧ x.g = 0 ∧ x.b = 0 then 8 else 0
noncomputable def emFrom (l : List Emi) (k : Nat) : Int := if h : k < l.length then (if emiF l k l[k] = 0 then emFrom l (k + 1) else emiF l k l[k]) else 0
termination_by l.length - k
noncomputable def chkEm (l : List Emi) : Int := if l.length = 0 then 8 else if 12 < l.length then 2 else emFrom l 0
theorem emFrom_next {l : List Emi} {k : Nat} (h : k < l.length) (h0 : emiF l k l[k] = 0) : emFrom l k = emFrom l (k + 1) := by
  conv => lhs; rw [emFrom]
  rw [dif_pos h, if_pos h0]
theorem emFrom_bad {l : List Emi} {k : Nat} (h : k < l.length) (h0 : emiF l k l[k] ≠ 0) : emFrom l k = emiF l k l[k] := by
  rw [emFrom, dif_pos h, if_neg h0]
theorem emFrom_end {l : List Emi} {k : Nat} (h : ¬ k < l.length) : emFrom l k = 0 := by rw [emFrom, dif_neg h]

theorem EmS.below {B : Nat} {w w' : World} {v : Value} {l : List Emi} (h : EmS B w v l) (hb : Below B w w') : EmS B w' v l := by
  obtain ⟨ao, cap, rfl, h1, h2, h5⟩ := h
  refine ⟨ao, cap, rfl, h1, fun hne => ?_, h5⟩
  obtain ⟨b, off, rfl, h3, h4⟩ := h2 hne
  refine ⟨b, off, rfl, h3, fun i hi => ?_⟩
  obtain ⟨c0, c1, c2, c3⟩ := h4 i hi
  exact ⟨(hb.cell (p := ⟨b, off + i * 4, none⟩) h3).trans c0, (hb.cell (p := ⟨b, off + i * 4 + 1, none⟩) h3).trans c1, (hb.cell (p := ⟨b, off + i * 4 + 2, none⟩) h3).trans c2, (hb.cell (p := ⟨b, off + i * 4 + 3, none⟩) h3).trans c3⟩
theorem EmS.more {B B' : Nat} {w : World} {v : Value} {l : List Emi} (h : EmS B w v l) (hB : B ≤ B') : EmS B' w v l := by
  obtain ⟨ao, cap, rfl, h1, h2, h5⟩ := h
  refine ⟨ao, cap, rfl, h1, fun hne => ?_, h5⟩
  obtain ⟨b, off, rfl, h3, h4⟩ := h2 hne
  exact ⟨b, off, rfl, Nat.lt_of_lt_of_le h3 hB, h4⟩

set_option maxHeartbeats 1000000 in
theorem emFn_any (x : ByteArray) (n : ByteArray) (r g b : Int) (h : Nat) (w : World) (hh : h < w.heap.size) (hc : w.cell? ⟨h, 0, none⟩ = some (.string x)) :
    Calls Try.prog 51 #[.agg #[.string n, .int .i64 r, .int .i64 g, .int .i64 b], .pointer (some ⟨h, 0, none⟩)] w fun e w' => e = .returned (.bool (sameN x n)) ∧ Below w.heap.size w w' := by
  by_cases e : x = n
  · have HV := Lib.hid (show sameN x n = true from decide_eq_true e)
    subst e
    go_enter Try.func51, Try.ntmps51
    go_wp2
    go_ret
    exact ⟨by rw [HV.out]; simp, (Below.refl _ _).alloc (Nat.le_refl _) _⟩
  · have HV := Lib.hid (show sameN x n = false from decide_eq_false e)
    have e1 := toList_ne e
    go_enter Try.func51, Try.ntmps51
    go_wp2
    go_ret
    exact ⟨by rw [HV.out]; simp [e1], (Below.refl _ _).alloc (Nat.le_refl _) _⟩

theorem hasN_next (l : List Emi) (n : ByteArray) (k : Nat) (h : k < l.length) : hasN (l.take (k + 1)) n = (hasN (l.take k) n || sameN n l[k].name) := by
  unfold hasN
  rw [List.take_succ_eq_append_getElem h, List.any_append]
  simp
theorem hasN_yes (l : List Emi) (n : ByteArray) (k m : Nat) (h : k < l.length) (hk : k < m) (hs : sameN n l[k].name = true) : hasN (l.take m) n = true := by
  unfold hasN
  rw [List.any_eq_true]
  refine ⟨l[k], ?_, hs⟩
  rw [List.mem_take_iff_getElem]
  exact ⟨k, by omega, rfl⟩

set_option maxHeartbeats 2000000 in
theorem emIndex_any (b off cap m : Nat) (l : List Emi) (x : ByteArray) (h : Nat) (w : World) (hm : m ≤ l.length) (hl : l.length ≤ 12) (hb : b < w.heap.size) (hcl : ∀ i (hi : i < l.length), EmiC w b (off + i * 4) l[i]) (hh : h < w.heap.size) (hc : w.cell? ⟨h, 0, none⟩ = some (.string x)) :
    Calls Try.prog 86 #[.slice (some ⟨b, off, none⟩) m cap, .func (.func 51) #[] #[.pointer (some ⟨h, 0, none⟩)]] w fun e w' => (∃ k : Int, e = .returned (.int .i64 k) ∧ decide (0 ≤ k) = hasN (l.take m) x) ∧ Below w.heap.size w w' := by
  have HCL := Lib.hid hcl
  have HF := Lib.hid (fun n r g b' W (hW : Below w.heap.size w W) => emFn_any x n r g b' h W (Nat.lt_of_lt_of_le hh hW.size) ((hW.cell (p := ⟨h, 0, none⟩) hh).trans hc))
  have HY := Lib.hid (fun k (hk : k < l.length) (hkm : k < m) hs => hasN_yes l x k m hk hkm hs)
  have HN := Lib.hid (fun k (hk : k < l.length) => hasN_next l x k hk)
  clear hcl hc
  go_enter Try.func86, Try.ntmps86
  go_wp2_with fail
  go_loopw [8] (fun i wr => ∃ k : Nat, k ≤ m ∧ i = .int .i64 k ∧ Hid (hasN (l.take k) x = false) ∧ Below w.heap.size w wr) (fun i _ => m - (intOf i).toNat)
  case atStart => exact ⟨0, Nat.zero_le _, rfl, Lib.hid (by simp [hasN]), Below.refl _ _⟩
  case round =>
    obtain ⟨k, hk, rfl, HK, hbw⟩ := hrel
    by_cases hlt : k < m
    · have hkl : k < l.length := by omega
      obtain ⟨c0, c1, c2, c3⟩ := HCL.out k hkl
      have d0 : wr.cell? ⟨b, off + k * 4, none⟩ = some (.string l[k].name) := (hbw.cell (p := ⟨b, off + k * 4, none⟩) hb).trans c0
      have d1 : wr.cell? ⟨b, off + k * 4 + 1, none⟩ = some (.int .i64 l[k].r) := (hbw.cell (p := ⟨b, off + k * 4 + 1, none⟩) hb).trans c1
      have d2 : wr.cell? ⟨b, off + k * 4 + 2, none⟩ = some (.int .i64 l[k].g) := (hbw.cell (p := ⟨b, off + k * 4 + 2, none⟩) hb).trans c2
      have d3 : wr.cell? ⟨b, off + k * 4 + 3, none⟩ = some (.int .i64 l[k].b) := (hbw.cell (p := ⟨b, off + k * 4 + 3, none⟩) hb).trans c3
      have hbr : b < wr.heap.size := Nat.lt_of_lt_of_le hb hbw.size
      have HS := Lib.hid (HF.out l[k].name l[k].r l[k].g l[k].b wr hbw)
      have HYk := Lib.hid (HY.out k hkl hlt)
      have HNk := Lib.hid (HN.out k hkl)
      have HB := Lib.hid hbw
      generalize l[k] = y at *
      generalize hsn : sameN x y.name = sn at *
      clear hbw c0 c1 c2 c3
      cases sn
      · have HQ := Lib.hid (show hasN (l.take (k + 1)) x = false by rw [HNk.out, HK.out]; first | (rw [hsn]; rfl) | rfl)
        clear hsn
        go_wp2_with fail
        refine HS.out.mono ?_
        rintro e w2 ⟨rfl, hb2⟩
        have HB2 := Lib.hid (HB.out.trans (hb2.mono HB.out.size))
        clear hb2
        go_wp2_with fail
        go_roundw
        case rel =>
          first
            | exact ⟨k + 1, by omega, by go_num, HQ, HB2.out⟩
            | ((repeat apply Exists.intro); refine ⟨⟨k + 1, by omega, by go_num, HQ, HB2.out⟩, ?_⟩; rfl)
        case measure => simp [intOf]; omega
      · have HQ := Lib.hid (show hasN (l.take m) x = true from HYk.out (by first | exact hsn | rfl))
        clear hsn
        go_wp2_with fail
        refine HS.out.mono ?_
        rintro e w2 ⟨rfl, hb2⟩
        have HB2 := Lib.hid (HB.out.trans (hb2.mono HB.out.size))
        clear hb2
        go_wp2_with fail
        go_ret
        exact ⟨⟨_, rfl, by rw [HQ.out]; simp⟩, HB2.out⟩
    · have hkm : k = m := by omega
      subst hkm
      have HB := Lib.hid hbw
      clear hbw
      go_wp2_with fail
      go_ret
      exact ⟨⟨-1, rfl, by rw [HK.out]; rfl⟩, HB.out⟩
set_option maxHeartbeats 1000000 in
theorem emHas_any (b off cap m : Nat) (l : List Emi) (x : ByteArray) (h : Nat) (w : World) (hm : m ≤ l.length) (hl : l.length ≤ 12) (hb : b < w.heap.size) (hcl : ∀ i (hi : i < l.length), EmiC w b (off + i * 4) l[i]) (hh : h < w.heap.size) (hc : w.cell? ⟨h, 0, none⟩ = some (.string x)) :
    Calls Try.prog 50 #[.slice (some ⟨b, off, none⟩) m cap, .func (.func 51) #[] #[.pointer (some ⟨h, 0, none⟩)]] w fun e w' => e = .returned (.bool (hasN (l.take m) x)) ∧ Below w.heap.size w w' := by
  have HI := Lib.hid (emIndex_any b off cap m l x h w hm hl hb hcl hh hc)
  clear hcl hc hh hb
  go_enter Try.func50, Try.ntmps50
  go_wp2_with fail
  refine HI.out.mono ?_
  rintro e w2 ⟨⟨k, rfl, hk⟩, hb2⟩
  have HK := Lib.hid hk
  have HB2 := Lib.hid hb2
  clear hk hb2
  go_wp2_with fail
  go_ret
  exact ⟨by rw [← HK.out]; rfl, HB2.out⟩

set_option maxRecDepth 10000 in
set_option maxHeartbeats 8000000 in
theorem emCheck_any (v : Value) (l : List Emi) (w : World) (hv : EmS w.heap.size w v l) :
    Calls Try.prog 21 #[v] w fun e w' => e = .returned (.int .i64 (chkEm l)) ∧ Below w.heap.size w w' := by
  obtain ⟨ao, cap, rfl, ⟨hcap, hmax⟩, hcl, hfit⟩ := hv
  unfold maxLen at hmax
  by_cases h0 : l.length = 0
  · have HV := Lib.hid (show chkEm l = 8 from if_pos h0)
    clear hcl hfit
    go_enter Try.func21, Try.ntmps21
    go_wp2
    go_ret
    exact ⟨by rw [HV.out] <;> rfl, Below.refl _ _⟩
  have h0' : ((l.length : Int) == 0) = false := by rw [beq_eq_false_iff_ne]; omega
  by_cases h12 : 12 < l.length
  · have HV := Lib.hid (show chkEm l = 2 by unfold chkEm; rw [if_neg h0, if_pos h12])
    clear hcl hfit
    go_enter Try.func21, Try.ntmps21
    go_wp2
    go_ret
    exact ⟨by rw [HV.out] <;> rfl, Below.refl _ _⟩
  have h12' : l.length ≤ 12 := by omega
  have HV := Lib.hid (show chkEm l = emFrom l 0 by unfold chkEm; rw [if_neg h0, if_neg h12])
  obtain ⟨b, off, rfl, hb, hcc⟩ := hcl (by intro h; subst h; simp at h0)
  have HCL := Lib.hid hcc
  have HFIT := Lib.hid (fun k (hk : k < l.length) => (hfit l[k] (List.getElem_mem hk)).1)
  generalize chkEm l = F at *
  clear hcc hcl hfit h12
  go_enter Try.func21, Try.ntmps21
  go_wp2_with fail
  go_loopw [14] (fun i wr => ∃ k : Nat, k ≤ l.length ∧ i = .int .i64 k ∧ Hid (F = emFrom l k) ∧ Below w.heap.size w wr) (fun i _ => l.length - (intOf i).toNat)
  case atStart => exact ⟨0, Nat.zero_le _, rfl, HV, Below.refl _ _⟩
  case round =>
    obtain ⟨k, hk, rfl, HK, hbw⟩ := hrel
    by_cases hlt : k < l.length
    · obtain ⟨c0, c1, c2, c3⟩ := HCL.out k hlt
      have d0 : wr.cell? ⟨b, off + k * 4, none⟩ = some (.string l[k].name) := (hbw.cell (p := ⟨b, off + k * 4, none⟩) hb).trans c0
      have d1 : wr.cell? ⟨b, off + k * 4 + 1, none⟩ = some (.int .i64 l[k].r) := (hbw.cell (p := ⟨b, off + k * 4 + 1, none⟩) hb).trans c1
      have d2 : wr.cell? ⟨b, off + k * 4 + 2, none⟩ = some (.int .i64 l[k].g) := (hbw.cell (p := ⟨b, off + k * 4 + 2, none⟩) hb).trans c2
      have d3 : wr.cell? ⟨b, off + k * 4 + 3, none⟩ = some (.int .i64 l[k].b) := (hbw.cell (p := ⟨b, off + k * 4 + 3, none⟩) hb).trans c3
      have hbr : b < wr.heap.size := Nat.lt_of_lt_of_le hb hbw.size
      have HB := Lib.hid hbw
      have HNX := Lib.hid (fun h => emFrom_next hlt h)
      have HBD := Lib.hid (fun h => emFrom_bad hlt h)
      have HEF := Lib.hid (show emiF l k l[k] = if nameB l[k].name.data.toList = false then 5 else if hasN (l.take k) l[k].name = true then 6 else if chkC l[k].r l[k].g l[k].b ≠ 0 then chkC l[k].r l[k].g l[k].b else if l[k].r = 0 ∧ l[k].g = 0 ∧ l[k].b = 0 then 8 else 0 from rfl)
      have HNM := Lib.hid (fun W => name_any l[k].name W (HFIT.out k hlt))
      have HHS := Lib.hid (fun (W : World) (h : Nat) (hW : Below w.heap.size w W) (hh : h < W.heap.size) (hc : W.cell? ⟨h, 0, none⟩ = some (.string l[k].name)) => emHas_any b off cap k l l[k].name h W (by omega) h12' (Nat.lt_of_lt_of_le hb hW.size) (fun i hi => by
        obtain ⟨x0, x1, x2, x3⟩ := HCL.out i hi
        exact ⟨(hW.cell (p := ⟨b, off + i * 4, none⟩) hb).trans x0, (hW.cell (p := ⟨b, off + i * 4 + 1, none⟩) hb).trans x1, (hW.cell (p := ⟨b, off + i * 4 + 2, none⟩) hb).trans x2, (hW.cell (p := ⟨b, off + i * 4 + 3, none⟩) hb).trans x3⟩) hh hc)
      have HCK := Lib.hid (pcheck_any l[k].r l[k].g l[k].b)
      generalize hasN (l.take k) l[k].name = hs at *
      generalize chkC l[k].r l[k].g l[k].b = ck at *
      generalize emiF l k l[k] = ef at *
      generalize l[k] = x at *
      generalize nameB x.name.data.toList = nb at *
      obtain ⟨nm, xr, xg, xb⟩ := x
      simp only at d0 d1 d2 d3
      clear hbw c0 c1 c2 c3
      cases nb
      · have HQ := Lib.hid (show F = 5 by rw [HK.out, HBD.out (by rw [HEF.out]; simp), HEF.out]; simp)
        go_wp2_with fail
        refine (HNM.out _).mono ?_
        rintro e w' ⟨rfl, rfl⟩
        go_wp2_with fail
        go_ret
        exact ⟨by rw [HQ.out] <;> rfl, HB.out.alloc HB.out.size _⟩
      go_wp2_with fail
      refine (HNM.out _).mono ?_
      rintro e w' ⟨rfl, rfl⟩
      go_wp2_with fail
      refine (HHS.out _ wr.heap.size (HB.out.alloc HB.out.size _) (by simp) (by simp [go_sem])).mono ?_
      rintro e w2 ⟨rfl, hb2⟩
      have HB2 := Lib.hid ((HB.out.alloc HB.out.size _).trans (hb2.mono (by have := HB.out.size; simp; omega)))
      have hz2 : wr.heap.size < w2.heap.size := by have := hb2.size; simp at this; omega
      have f1 : w2.cell? ⟨wr.heap.size, 1, none⟩ = some (.int .i64 xr) := (hb2.cell (p := ⟨wr.heap.size, 1, none⟩) (by simp)).trans (by simp [go_sem])
      have f2 : w2.cell? ⟨wr.heap.size, 2, none⟩ = some (.int .i64 xg) := (hb2.cell (p := ⟨wr.heap.size, 2, none⟩) (by simp)).trans (by simp [go_sem])
      have f3 : w2.cell? ⟨wr.heap.size, 3, none⟩ = some (.int .i64 xb) := (hb2.cell (p := ⟨wr.heap.size, 3, none⟩) (by simp)).trans (by simp [go_sem])
      clear hb2 d0 d1 d2 d3
      cases hs
      rotate_left
      · have HQ := Lib.hid (show F = 6 by rw [HK.out, HBD.out (by rw [HEF.out]; simp), HEF.out]; simp)
        go_wp2_with fail
        go_ret
        exact ⟨by rw [HQ.out] <;> rfl, HB2.out⟩
      go_wp2_with fail
      refine (HCK.out _).mono ?_
      rintro e w3 ⟨rfl, hb3⟩
      have HB3 := Lib.hid (HB2.out.trans (hb3.mono HB2.out.size))
      have hz3 : wr.heap.size < w3.heap.size := by have := hb3.size; omega
      have g1 : w3.cell? ⟨wr.heap.size, 1, none⟩ = some (.int .i64 xr) := (hb3.cell (p := ⟨wr.heap.size, 1, none⟩) hz2).trans f1
      have g2 : w3.cell? ⟨wr.heap.size, 2, none⟩ = some (.int .i64 xg) := (hb3.cell (p := ⟨wr.heap.size, 2, none⟩) hz2).trans f2
      have g3 : w3.cell? ⟨wr.heap.size, 3, none⟩ = some (.int .i64 xb) := (hb3.cell (p := ⟨wr.heap.size, 3, none⟩) hz2).trans f3
      clear hb3 f1 f2 f3 hz2
      by_cases hck : ck = 0
      rotate_left
      · have HQ := Lib.hid (show F = ck by rw [HK.out, HBD.out (by rw [HEF.out]; simp [hck]), HEF.out]; simp [hck])
        have hb0 : (ck != 0) = true := by simp [hck]
        clear hck
        go_wp2_with fail
        go_ret
        exact ⟨by rw [HQ.out] <;> rfl, HB3.out⟩
      subst hck
      by_cases hz : xr = 0 ∧ xg = 0 ∧ xb = 0
      · obtain ⟨rfl, rfl, rfl⟩ := hz
        have HQ := Lib.hid (show F = 8 by rw [HK.out, HBD.out (by rw [HEF.out]; simp), HEF.out]; simp)
        go_wp2_with fail
        go_ret
        exact ⟨by rw [HQ.out] <;> rfl, HB3.out⟩
      · have HQ := Lib.hid (show F = emFrom l (k + 1) by rw [HK.out, HNX.out (by rw [HEF.out]; simp [hz])])
        have hzz : ¬ (xr = 0 ∧ xg = 0 ∧ xb = 0) := hz
        clear hz
        go_wp2_with fail
        all_goals
          go_roundw
          case rel =>
            first
              | exact ⟨k + 1, by omega, by go_num, HQ, HB3.out⟩
              | ((repeat apply Exists.intro); refine ⟨⟨k + 1, by omega, by go_num, HQ, HB3.out⟩, ?_⟩; rfl)
          case measure => simp [intOf]; omega
    · have HQ := Lib.hid (show F = 0 by rw [HK.out, emFrom_end hlt])
      have HB := Lib.hid hbw
      clear hbw
      go_wp2_with fail
      go_ret
      exact ⟨by rw [HQ.out] <;> rfl, HB.out⟩
end Go.Proofs.Yteelomjknllcbaa
