/- fixture.Named: the function of the search, and the search. (printed by wip/gen/gen_named.py) -/
import Derived.Test.YtabalicembhjmaaDoorT37M29

namespace Go.Proofs.YtabalicembhjmaaDoor
open Go.RowKit
set_option linter.unusedVariables false
set_option linter.unusedSimpArgs false

def rngFn (tb : Nat) : Value := .func (.func 32) #[] #[.pointer (some ⟨tb, 0, none⟩)]
set_option maxHeartbeats 400000 in
theorem rngFn_any (xl xh : Int) (xn : ByteArray) (nm : ByteArray) (tb : Nat) (w : World) (ht : w.cell? ⟨tb, 0, none⟩ = some (.string nm)) (hb : tb < w.heap.size) :
    Calls Tryd.prog 32 #[.agg #[.int .i64 xl, .int .i64 xh, .string xn], .pointer (some ⟨tb, 0, none⟩)] w fun e w' => e = .returned (.bool (decide (xn.data.toList = nm.data.toList))) ∧ Below w.heap.size w w' := by
  by_cases hc : xn.data.toList = nm.data.toList
  · have h2 : (xn.toList == nm.toList) = true := by rw [Lib.toList_data, Lib.toList_data]; simpa using hc
    have HV := Lib.hid (show decide (xn.data.toList = nm.data.toList) = true by simpa using hc)
    clear hc
    go_enter Tryd.func32, Tryd.ntmps32
    go_wp2
    go_ret
    exact ⟨by rw [HV.out] <;> rfl, (Below.refl _ _).alloc (Nat.le_refl _) _⟩
  · have h2 : (xn.toList == nm.toList) = false := by rw [Lib.toList_data, Lib.toList_data]; simpa using hc
    have HV := Lib.hid (show decide (xn.data.toList = nm.data.toList) = false by simpa using hc)
    go_enter Tryd.func32, Tryd.ntmps32
    go_wp2
    go_ret
    exact ⟨by rw [HV.out] <;> rfl, (Below.refl _ _).alloc (Nat.le_refl _) _⟩
theorem rngFn_call (args : Array Value) (W : World) : Sem.run Tryd.prog (callFunc 32 args) W = .ok (.enter 32 args) W := by simp [go_sem]
set_option maxRecDepth 100000 in
set_option maxHeartbeats 4000000 in
theorem rng_index (v : Value) (l : List Rng) (nm : ByteArray) (tb : Nat) (w : World) (h : RngS w.heap.size w v l) (ht : w.cell? ⟨tb, 0, none⟩ = some (.string nm)) (hb : tb < w.heap.size) :
    Calls Tryd.prog 31 #[v, rngFn tb] w fun e w' => e = .returned (.int .i64 (idxF (hasRn nm.data.toList) l 0)) ∧ Below w.heap.size w w' := by
  have HG := Lib.hid (RngS.get h)
  have hm := CellsS.len h
  unfold maxLen at hm
  obtain ⟨ao, cap, rfl⟩ := rngS_shape h
  clear h
  have CF := Lib.hid (fun (xl xh : Int) (xn : ByteArray) W (hB : Below w.heap.size w W) => rngFn_any xl xh xn nm tb W ((hB.cell (p := ⟨tb, 0, none⟩) hb).trans ht) (Nat.lt_of_lt_of_le hb hB.size))
  have hcf := rngFn_call
  have HC := Lib.hid (show idxF (hasRn nm.data.toList) l 0 = idxF (hasRn nm.data.toList) (l.drop 0) 0 by simp)
  generalize idxF (hasRn nm.data.toList) l 0 = RES at *
  clear ht
  unfold rngFn
  go_enter Tryd.func31, Tryd.ntmps31
  go_wp2_with fail
  go_loopw [8] (fun i wr => ∃ k : Nat, k ≤ l.length ∧ i = .int .i64 k ∧ Hid (RES = idxF (hasRn nm.data.toList) (l.drop k) k) ∧ Hid (Below w.heap.size w wr)) (fun i _ => l.length - (intOf i).toNat)
  case atStart => exact ⟨0, Nat.zero_le _, rfl, HC, Lib.hid (Below.refl _ _)⟩
  case round =>
    obtain ⟨k, hk, rfl, HR, HBW⟩ := hrel
    by_cases hlt : k < l.length
    · obtain ⟨b, off, cap', hsl, hbb, _, hc⟩ := HG.out (by omega)
      injection hsl with hs1 hs2 hs3
      subst hs1 hs3
      obtain ⟨d0, d1, d2⟩ := hc k hlt wr HBW.out
      have hbr : b < wr.heap.size := by have := HBW.out.size; omega
      have HY := Lib.hid (idxF_yes (hasRn nm.data.toList) l k hlt)
      have HN := Lib.hid (idxF_no (hasRn nm.data.toList) l k hlt)
      have HT := Lib.hid (show hasRn nm.data.toList l[k] = decide (l[k].name.data.toList = nm.data.toList) from rfl)
      clear hc
      generalize hasRn nm.data.toList l[k] = T at *
      generalize hrk : l[k] = rk at *
      clear hrk
      obtain ⟨xl, xh, xn⟩ := rk
      simp only at *
      have CX := Lib.hid (CF.out xl xh xn _ HBW.out)
      rw [← HT.out] at CX
      cases T
      · have HV := Lib.hid (HR.out.trans (HN.out rfl))
        go_wp2_with fail
        refine CX.out.mono ?_
        rintro e w1 ⟨rfl, hb1⟩
        have HB2 := Lib.hid (HBW.out.trans (hb1.mono HBW.out.size))
        clear hb1
        go_wp2_with fail
        go_roundw
        case rel => exact ⟨k + 1, by omega, by go_num, HV, HB2⟩
        case measure => simp [intOf]; omega
      · have HV := Lib.hid (HR.out.trans (HY.out rfl))
        go_wp2_with fail
        refine CX.out.mono ?_
        rintro e w1 ⟨rfl, hb1⟩
        have HB2 := Lib.hid (HBW.out.trans (hb1.mono HBW.out.size))
        clear hb1
        go_wp2_with fail
        go_ret
        exact ⟨by rw [HV.out] <;> rfl, HB2.out⟩
    · have HV := Lib.hid (show RES = -1 by rw [HR.out, idxF_end _ l k (by omega)])
      have hkk : k = l.length := by omega
      subst hkk
      go_wp2_with fail
      go_ret
      exact ⟨by rw [HV.out] <;> rfl, HBW.out⟩
end Go.Proofs.YtabalicembhjmaaDoor
