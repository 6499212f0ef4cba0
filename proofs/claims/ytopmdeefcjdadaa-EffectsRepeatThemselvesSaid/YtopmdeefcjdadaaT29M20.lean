/- effect's numbers of six words: less. (printed by wip/gen/gen_hugemul.py) -/
import Derived.Test.YtopmdeefcjdadaaT29M16
import Derived.Deep.QuietTactic
import Derived.BigQuiet

namespace Go.Proofs.Ytopmdeefcjdadaa
open Go.RowKit
set_option linter.unusedVariables false
set_option linter.unusedSimpArgs false

theorem less_where {l m : List Int} {k : Nat} (hk : k < l.length) (hlm : l.length = m.length) (hl : Words l) (hm : Words m) (hd : l.drop (k + 1) = m.drop (k + 1)) (hne : l[k] ≠ m[k]) : valH l < valH m ↔ l[k] < m[k] := by
  have e1 : l = l.take k ++ l[k] :: l.drop (k + 1) := by rw [← List.drop_eq_getElem_cons hk, List.take_append_drop]
  have e2 : m = m.take k ++ m[k] :: m.drop (k + 1) := by rw [← List.drop_eq_getElem_cons (by omega), List.take_append_drop]
  have h := less_at (l := l.take k) (m := m.take k) (s := l.drop (k + 1)) (x := l[k]) (y := m[k]) (by simp [hlm]) (fun x hx => hl x (List.mem_of_mem_take hx)) (fun x hx => hm x (List.mem_of_mem_take hx)) hne
  rw [← e1, hd, ← e2] at h
  exact h
theorem drop_more {l m : List Int} {k : Nat} (hk : k < l.length) (hlm : l.length = m.length) (hd : l.drop (k + 1) = m.drop (k + 1)) (he : l[k] = m[k]) : l.drop k = m.drop k := by
  rw [List.drop_eq_getElem_cons hk, List.drop_eq_getElem_cons (show k < m.length by omega), he, hd]
set_option maxRecDepth 100000 in
set_option maxHeartbeats 8000000 in
theorem hLess_any (N M : Int) (w : World) (h0 : 0 ≤ N) (h1 : N < powW 6) (h2 : 0 ≤ M) (h3 : M < powW 6) :
    Calls Try.prog 49 #[hugeV N, hugeV M] w fun e w' => e = .returned (.bool (decide (N < M))) ∧ Below w.heap.size w w' := by
  have HWA := Lib.hid (limbs_words 6 N)
  have HWB := Lib.hid (limbs_words 6 M)
  have HVA := Lib.hid (limbs_val 6 N h0 h1)
  have HVB := Lib.hid (limbs_val 6 M h2 h3)
  obtain ⟨a0, a1, a2, a3, a4, a5, hA⟩ := six (limbs_len 6 N)
  obtain ⟨b0, b1, b2, b3, b4, b5, hB⟩ := six (limbs_len 6 M)
  unfold hugeV
  rw [hA] at HWA HVA ⊢
  rw [hB] at HWB HVB ⊢
  have HD := Lib.hid (show decide (N < M) = decide (valH [a0, a1, a2, a3, a4, a5] < valH [b0, b1, b2, b3, b4, b5]) by rw [HVA.out, HVB.out])
  generalize decide (N < M) = RES at *
  clear hA hB h0 h1 h2 h3
  have HTA := Lib.hid (show TBox ((w.alloc (.cells #[.int .u64 a0, .int .u64 a1, .int .u64 a2, .int .u64 a3, .int .u64 a4, .int .u64 a5] 77)).alloc (.cells #[.int .u64 b0, .int .u64 b1, .int .u64 b2, .int .u64 b3, .int .u64 b4, .int .u64 b5] 77)) w.heap.size 77 (hugeA [a0, a1, a2, a3, a4, a5]) from (TBox.new w _ _).alloc _)
  have HTB := Lib.hid (show TBox ((w.alloc (.cells #[.int .u64 a0, .int .u64 a1, .int .u64 a2, .int .u64 a3, .int .u64 a4, .int .u64 a5] 77)).alloc (.cells #[.int .u64 b0, .int .u64 b1, .int .u64 b2, .int .u64 b3, .int .u64 b4, .int .u64 b5] 77)) (w.heap.size + 1) 77 (hugeA [b0, b1, b2, b3, b4, b5]) from by
    have h := TBox.new (w.alloc (.cells #[.int .u64 a0, .int .u64 a1, .int .u64 a2, .int .u64 a3, .int .u64 a4, .int .u64 a5] 77)) #[.int .u64 b0, .int .u64 b1, .int .u64 b2, .int .u64 b3, .int .u64 b4, .int .u64 b5] 77
    simp only [World.size_alloc] at h
    exact h)
  have HB0 := Lib.hid (show Below w.heap.size w ((w.alloc (.cells #[.int .u64 a0, .int .u64 a1, .int .u64 a2, .int .u64 a3, .int .u64 a4, .int .u64 a5] 77)).alloc (.cells #[.int .u64 b0, .int .u64 b1, .int .u64 b2, .int .u64 b3, .int .u64 b4, .int .u64 b5] 77)) from ((Below.refl _ _).alloc (Nat.le_refl _) _).alloc (by simp) _)
  have eA : hugeA [a0, a1, a2, a3, a4, a5] = #[.int .u64 a0, .int .u64 a1, .int .u64 a2, .int .u64 a3, .int .u64 a4, .int .u64 a5] := rfl
  have eB : hugeA [b0, b1, b2, b3, b4, b5] = #[.int .u64 b0, .int .u64 b1, .int .u64 b2, .int .u64 b3, .int .u64 b4, .int .u64 b5] := rfl
  rw [eA, eB]
  go_enter Try.func49, Try.ntmps49
  go_wp2_with fail
  generalize hw0 : ((w.alloc (.cells #[.int .u64 a0, .int .u64 a1, .int .u64 a2, .int .u64 a3, .int .u64 a4, .int .u64 a5] 77)).alloc (.cells #[.int .u64 b0, .int .u64 b1, .int .u64 b2, .int .u64 b3, .int .u64 b4, .int .u64 b5] 77)) = w1 at *
  clear hw0
  go_loopw [5] (fun i wx => ∃ (k : Nat), k ≤ 6 ∧ i = .int .i64 ((k : Int) - 1) ∧ Hid ([a0, a1, a2, a3, a4, a5].drop k = [b0, b1, b2, b3, b4, b5].drop k) ∧ Hid (TBox wx w.heap.size 77 (hugeA [a0, a1, a2, a3, a4, a5])) ∧ Hid (TBox wx (w.heap.size + 1) 77 (hugeA [b0, b1, b2, b3, b4, b5])) ∧ Hid (Below w.heap.size w wx)) (fun i _ => (intOf i + 1).toNat)
  case atStart => exact ⟨6, by omega, rfl, Lib.hid rfl, HTA, HTB, HB0⟩
  case round =>
    clear HTA HTB HB0 eA eB
    obtain ⟨k, hk, rfl, HDR, HTA, HTB, HBX⟩ := hrel
    by_cases hk0 : k = 0
    · subst hk0
      have HE := Lib.hid (show RES = false by
        rw [HD.out]
        have h := HDR.out
        rw [List.drop_zero, List.drop_zero] at h
        rw [h]
        simp)
      go_wp2_with fail
      go_ret
      exact ⟨by rw [HE.out] <;> rfl, HBX.out⟩
    · obtain ⟨j, rfl⟩ : ∃ j, k = j + 1 := ⟨k - 1, by omega⟩
      have hj6 : j < 6 := by omega
      have hj6' : (j : Int) < 6 := by omega
      have e1 : (((j + 1 : Nat) : Int) - 1) = (j : Int) := by omega
      rw [e1]
      have z0 : wr.cell? ⟨w.heap.size, j, none⟩ = some (.int .u64 ([a0, a1, a2, a3, a4, a5][j]'(by simpa using hj6))) := HTA.out.cell (hugeA_get (i := j) (by simpa using hj6))
      have z1 : wr.cell? ⟨w.heap.size + 1, j, none⟩ = some (.int .u64 ([b0, b1, b2, b3, b4, b5][j]'(by simpa using hj6))) := HTB.out.cell (hugeA_get (i := j) (by simpa using hj6))
      have zl := HTB.out.lt
      have HLW := Lib.hid (less_where (l := [a0, a1, a2, a3, a4, a5]) (m := [b0, b1, b2, b3, b4, b5]) (k := j) (by simpa using hj6) rfl HWA.out HWB.out HDR.out)
      have HDM := Lib.hid (drop_more (l := [a0, a1, a2, a3, a4, a5]) (m := [b0, b1, b2, b3, b4, b5]) (k := j) (by simpa using hj6) rfl HDR.out)
      generalize [a0, a1, a2, a3, a4, a5][j]'(by simpa using hj6) = x at *
      generalize [b0, b1, b2, b3, b4, b5][j]'(by simpa using hj6) = y at *
      have z0' : wr.drew.cell? ⟨w.heap.size, j, none⟩ = _ := z0
      have z1' : wr.drew.cell? ⟨w.heap.size + 1, j, none⟩ = _ := z1
      have HBD := Lib.hid HBX.out.drew
      have HBD2 := Lib.hid HBX.out.drew.drew
      have HTAD := Lib.hid (show TBox wr.drew w.heap.size 77 (hugeA [a0, a1, a2, a3, a4, a5]) from HTA.out)
      have HTBD := Lib.hid (show TBox wr.drew (w.heap.size + 1) 77 (hugeA [b0, b1, b2, b3, b4, b5]) from HTB.out)
      by_cases hxy : x = y
      · have HN := Lib.hid (HDM.out hxy)
        subst hxy
        have a1 : IntKind.i64.wrap ((j : Int) - 1) = (j : Int) - 1 := IntWalk.i64_in _ (by omega)
        have hne : (x != x) = false := by simp
        clear HLW HDM
        go_wp2_with fail
        go_region
        go_wp2_with fail
        go_roundw
        case rel => exact ⟨j, by omega, by first | rfl | go_num, HN, HTAD, HTBD, HBD⟩
        case measure => simp [intOf]
      · have HV := Lib.hid (show RES = decide (x < y) by
          rw [HD.out]
          by_cases hlt : x < y
          · rw [decide_eq_true ((HLW.out hxy).2 hlt), decide_eq_true hlt]
          · rw [decide_eq_false fun h => hlt ((HLW.out hxy).1 h), decide_eq_false hlt])
        have hne : (x != y) = true := by simpa using hxy
        go_wp2_with fail
        go_region
        go_wp2_with fail
        go_region
        go_wp2_with fail
        go_ret
        exact ⟨by rw [HV.out] <;> rfl, HBD2.out⟩
end Go.Proofs.Ytopmdeefcjdadaa
