/- effect's numbers of six words: minus. (printed by wip/gen/gen_hugeplus.py) effect's numbers of six words: less. (printed by wip/gen/gen_hugemul.py) A region that draws its order, by an invariant: of each operation that has come up something is known of its slot, whatever came up besides. For any program. -/
import Derived.Test.YtopmdeefcjdadaaT43M13
import Derived.BigRegion
import Derived.Deep.QuietTactic
import Derived.BigQuiet
import Derived.Test.YtopmdeefcjdadaaProg
import Derived.RegionTactic
import Derived.WalkKit

namespace Go.Proofs.Ytopmdeefcjdadaa
open Go.RowKit
set_option linter.unusedVariables false
set_option linter.unusedSimpArgs false

theorem sub64 (x y c : Int) (hx : OneW x) (hy : OneW y) (hc0 : 0 ≤ c) (hc1 : c ≤ 1) (w : World) :
    (callFunc 130 #[.int .u64 x, .int .u64 y, .int .u64 c]).run Try.prog w = .ok (.value (.tuple #[.int .u64 (loW (x - y - c)), .int .u64 (-hiW (x - y - c))])) w := by
  obtain ⟨hx0, hx1⟩ := hx
  obtain ⟨hy0, hy1⟩ := hy
  obtain ⟨a, rfl⟩ := Int.eq_ofNat_of_zero_le hx0
  obtain ⟨b, rfl⟩ := Int.eq_ofNat_of_zero_le hy0
  obtain ⟨d, rfl⟩ := Int.eq_ofNat_of_zero_le hc0
  rw [run_callFunc_extern Try.func130 (by kernel_rfl) (by kernel_rfl) (by kernel_rfl) (e := sub64Entry) (by kernel_rfl), run_sub64 a b d (by omega)]
  simp only [Result.andThen]
  have e1 : (((a + 18446744073709551616 - b - d) % 18446744073709551616 : Nat) : Int) = loW ((a : Int) - b - d) := by unfold loW; omega
  have e2 : ((if a < b + d then 1 else 0 : Nat) : Int) = -hiW ((a : Int) - b - d) := by
    unfold hiW
    by_cases h : a < b + d
    · rw [if_pos h]; omega
    · rw [if_neg h]; omega
  rw [e1, e2]
/-- the state of minus within a word -/
def MinusAt (l m : List Int) (i : Nat) (cur : List Int) (c : Int) : Prop := (0 ≤ c ∧ c ≤ 1) ∧ ∃ done, done.length = i ∧ cur = done ++ l.drop i ∧ minusL l m 0 = done ++ minusL (l.drop i) (m.drop i) c
theorem MinusAt_start (l m : List Int) : MinusAt l m 0 l 0 := ⟨⟨by decide, by decide⟩, [], rfl, rfl, rfl⟩
theorem Minus_carry {x y c : Int} (hx : OneW x) (hy : OneW y) (hc : 0 ≤ c ∧ c ≤ 1) : 0 ≤ -hiW (x - y - c) ∧ -hiW (x - y - c) ≤ 1 := by
  unfold OneW at *
  unfold hiW
  omega
theorem MinusAt_step {l m : List Int} {i : Nat} {cur : List Int} {c : Int} (h : MinusAt l m i cur c) (hi : i < l.length) (hm : i < m.length) (hl : Words l) (hw : Words m) :
    MinusAt l m (i + 1) (cur.set i (loW (l[i] - m[i] - c))) (-hiW (l[i] - m[i] - c)) := by
  obtain ⟨hc, done, h1, h2, h3⟩ := h
  have hx := hl _ (List.getElem_mem hi)
  have hy := hw _ (List.getElem_mem hm)
  refine ⟨Minus_carry hx hy hc, done ++ [loW (l[i] - m[i] - c)], by simp [h1], ?_, ?_⟩
  · rw [h2, List.set_append_right _ _ (by omega), h1, Nat.sub_self, List.drop_eq_getElem_cons hi, List.set_cons_zero, List.append_assoc]
    rfl
  · rw [h3, List.drop_eq_getElem_cons hi, List.drop_eq_getElem_cons hm, minusL]
    simp
theorem MinusAt_end {l m : List Int} {cur : List Int} {c : Int} (h : MinusAt l m l.length cur c) (hlm : l.length = m.length) : cur = minusL l m 0 := by
  obtain ⟨hc, done, h1, h2, h3⟩ := h
  have e : minusL [] (m.drop l.length) c = [] := by unfold minusL; rfl
  rw [List.drop_length] at h2 h3
  rw [h2, h3, e]
theorem MinusAt_len {l m : List Int} {i : Nat} {cur : List Int} {c : Int} (h : MinusAt l m i cur c) (hi : i ≤ l.length) : cur.length = l.length := by
  obtain ⟨hc, done, h1, h2, h3⟩ := h
  rw [h2, List.length_append, List.length_drop, h1]
  omega
theorem MinusAt_get {l m : List Int} {i : Nat} {cur : List Int} {c : Int} (h : MinusAt l m i cur c) (hi : i < l.length) (hc : i < cur.length) : cur[i] = l[i] := by
  obtain ⟨_, done, h1, h2, _⟩ := h
  subst h2
  rw [List.getElem_append_right (by omega), List.getElem_drop]
  congr 1
  omega
set_option maxRecDepth 100000 in
set_option maxHeartbeats 8000000 in
theorem hMinus_any (N M : Int) (w : World) (hN : N < powW 6) (hM : 0 ≤ M) (hf : M ≤ N) :
    Calls Try.prog 116 #[hugeV N, hugeV M] w fun e w' => e = .returned (hugeV (N - M)) ∧ Below w.heap.size w w' := by
  have HWA := Lib.hid (limbs_words 6 N)
  have HWB := Lib.hid (limbs_words 6 M)
  have HVA := Lib.hid (limbs_val 6 N (by omega) (by omega))
  have HVB := Lib.hid (limbs_val 6 M (by omega) (by omega))
  have HF := Lib.hid hf
  have HNN := Lib.hid hN
  obtain ⟨a0, a1, a2, a3, a4, a5, hA⟩ := six (limbs_len 6 N)
  obtain ⟨b0, b1, b2, b3, b4, b5, hB⟩ := six (limbs_len 6 M)
  have HG := Lib.hid (show hugeV (N - M) = .agg (hugeA (minusL [a0, a1, a2, a3, a4, a5] [b0, b1, b2, b3, b4, b5] 0)) from by
    rw [hA] at HWA HVA
    rw [hB] at HWB HVB
    have h1 := minusL_val [a0, a1, a2, a3, a4, a5] [b0, b1, b2, b3, b4, b5] 0 rfl HWA.out HWB.out (by rw [HVA.out, HVB.out]; omega) (by rw [HVA.out, HVB.out]; show _ < powW 6; omega)
    rw [HVA.out, HVB.out, Int.sub_zero] at h1
    rw [← h1]
    exact hugeV_of (minusL_len _ _ _ rfl) (minusL_words _ _ _))
  rw [HG.out]
  unfold hugeV
  rw [hA] at HWA HVA ⊢
  rw [hB] at HWB HVB ⊢
  clear hf hN hM hA hB HG
  have HTA := Lib.hid (show TBox (((w.alloc (.cells #[.int .u64 a0, .int .u64 a1, .int .u64 a2, .int .u64 a3, .int .u64 a4, .int .u64 a5] 77)).alloc (.cells #[.int .u64 b0, .int .u64 b1, .int .u64 b2, .int .u64 b3, .int .u64 b4, .int .u64 b5] 77)).alloc (.cells #[.int .u64 0, .int .u64 0, .int .u64 0, .int .u64 0, .int .u64 0, .int .u64 0] 77)) w.heap.size 77 (hugeA [a0, a1, a2, a3, a4, a5]) from ((TBox.new w _ _).alloc _).alloc _)
  have HTB := Lib.hid (show TBox (((w.alloc (.cells #[.int .u64 a0, .int .u64 a1, .int .u64 a2, .int .u64 a3, .int .u64 a4, .int .u64 a5] 77)).alloc (.cells #[.int .u64 b0, .int .u64 b1, .int .u64 b2, .int .u64 b3, .int .u64 b4, .int .u64 b5] 77)).alloc (.cells #[.int .u64 0, .int .u64 0, .int .u64 0, .int .u64 0, .int .u64 0, .int .u64 0] 77)) (w.heap.size + 1) 77 #[.int .u64 b0, .int .u64 b1, .int .u64 b2, .int .u64 b3, .int .u64 b4, .int .u64 b5] from by
    have h := (TBox.new (w.alloc (.cells #[.int .u64 a0, .int .u64 a1, .int .u64 a2, .int .u64 a3, .int .u64 a4, .int .u64 a5] 77)) #[.int .u64 b0, .int .u64 b1, .int .u64 b2, .int .u64 b3, .int .u64 b4, .int .u64 b5] 77).alloc (.cells #[.int .u64 0, .int .u64 0, .int .u64 0, .int .u64 0, .int .u64 0, .int .u64 0] 77)
    simpa only [World.size_alloc] using h)
  have HTR := Lib.hid (show TBox (((w.alloc (.cells #[.int .u64 a0, .int .u64 a1, .int .u64 a2, .int .u64 a3, .int .u64 a4, .int .u64 a5] 77)).alloc (.cells #[.int .u64 b0, .int .u64 b1, .int .u64 b2, .int .u64 b3, .int .u64 b4, .int .u64 b5] 77)).alloc (.cells #[.int .u64 0, .int .u64 0, .int .u64 0, .int .u64 0, .int .u64 0, .int .u64 0] 77)) (w.heap.size + 2) 77 #[.int .u64 0, .int .u64 0, .int .u64 0, .int .u64 0, .int .u64 0, .int .u64 0] from by
    have h := TBox.new ((w.alloc (.cells #[.int .u64 a0, .int .u64 a1, .int .u64 a2, .int .u64 a3, .int .u64 a4, .int .u64 a5] 77)).alloc (.cells #[.int .u64 b0, .int .u64 b1, .int .u64 b2, .int .u64 b3, .int .u64 b4, .int .u64 b5] 77)) #[.int .u64 0, .int .u64 0, .int .u64 0, .int .u64 0, .int .u64 0, .int .u64 0] 77
    simpa only [World.size_alloc] using h)
  have HB0 := Lib.hid (show Below w.heap.size w (((w.alloc (.cells #[.int .u64 a0, .int .u64 a1, .int .u64 a2, .int .u64 a3, .int .u64 a4, .int .u64 a5] 77)).alloc (.cells #[.int .u64 b0, .int .u64 b1, .int .u64 b2, .int .u64 b3, .int .u64 b4, .int .u64 b5] 77)).alloc (.cells #[.int .u64 0, .int .u64 0, .int .u64 0, .int .u64 0, .int .u64 0, .int .u64 0] 77)) from (((Below.refl _ _).alloc (Nat.le_refl _) _).alloc (by simp) _).alloc (by simp; omega) _)
  have eA : hugeA [a0, a1, a2, a3, a4, a5] = #[.int .u64 a0, .int .u64 a1, .int .u64 a2, .int .u64 a3, .int .u64 a4, .int .u64 a5] := rfl
  have eB : hugeA [b0, b1, b2, b3, b4, b5] = #[.int .u64 b0, .int .u64 b1, .int .u64 b2, .int .u64 b3, .int .u64 b4, .int .u64 b5] := rfl
  rw [eA, eB]
  have HS0 := Lib.hid (MinusAt_start [a0, a1, a2, a3, a4, a5] [b0, b1, b2, b3, b4, b5])
  go_enter Try.func116, Try.ntmps116
  go_wp2_with fail
  generalize hw0 : (((w.alloc (.cells #[.int .u64 a0, .int .u64 a1, .int .u64 a2, .int .u64 a3, .int .u64 a4, .int .u64 a5] 77)).alloc (.cells #[.int .u64 b0, .int .u64 b1, .int .u64 b2, .int .u64 b3, .int .u64 b4, .int .u64 b5] 77)).alloc (.cells #[.int .u64 0, .int .u64 0, .int .u64 0, .int .u64 0, .int .u64 0, .int .u64 0] 77)) = w1 at *
  clear hw0
  go_loopw [7, 5] (fun i c wx => ∃ (k : Nat) (cur : List Int) (cc : Int), k ≤ 6 ∧ i = .int .i64 k ∧ c = .int .u64 cc ∧ Hid (MinusAt [a0, a1, a2, a3, a4, a5] [b0, b1, b2, b3, b4, b5] k cur cc) ∧ Hid (TBox wx w.heap.size 77 (hugeA cur)) ∧ Hid (TBox wx (w.heap.size + 1) 77 #[.int .u64 b0, .int .u64 b1, .int .u64 b2, .int .u64 b3, .int .u64 b4, .int .u64 b5]) ∧ Hid (TBox wx (w.heap.size + 2) 77 #[.int .u64 0, .int .u64 0, .int .u64 0, .int .u64 0, .int .u64 0, .int .u64 0]) ∧ Hid (Below w.heap.size w wx)) (fun i _ _ => 6 - (intOf i).toNat)
  case atStart => exact ⟨0, _, 0, by omega, rfl, rfl, HS0, HTA, HTB, HTR, HB0⟩
  case round =>
    clear HTA HTB HTR HB0 HS0
    obtain ⟨k, cur, cc, hk, rfl, rfl, HA, HTA, HTB, HTR, HBX⟩ := hrel
    have hlen := MinusAt_len HA.out (by simpa using hk)
    have hrl := HTR.out.lt
    by_cases hk6 : k < 6
    · have hk6' : (k : Int) < 6 := by omega
      have hx : OneW ([a0, a1, a2, a3, a4, a5][k]'(by simpa using hk6)) := HWA.out _ (List.getElem_mem _)
      have hy : OneW ([b0, b1, b2, b3, b4, b5][k]'(by simpa using hk6)) := HWB.out _ (List.getElem_mem _)
      have HNX := Lib.hid (MinusAt_step HA.out (by simpa using hk6) (by simpa using hk6) HWA.out HWB.out)
      have hcc := HA.out.1
      have z0 : wr.cell? ⟨w.heap.size, k, none⟩ = some (.int .u64 ([a0, a1, a2, a3, a4, a5][k]'(by simpa using hk6))) := by
        have h := HTA.out.cell (hugeA_get (i := k) (by rw [hlen]; simpa using hk6))
        rw [MinusAt_get HA.out (by simpa using hk6)] at h
        exact h
      have z1 : wr.cell? ⟨w.heap.size + 1, k, none⟩ = some (.int .u64 ([b0, b1, b2, b3, b4, b5][k]'(by simpa using hk6))) := TBox.cell (show TBox wr _ _ (hugeA [b0, b1, b2, b3, b4, b5]) from HTB.out) (hugeA_get (i := k) (by simpa using hk6))
      have zf := HTA.out.frozen k
      generalize [a0, a1, a2, a3, a4, a5][k]'(by simpa using hk6) = x at *
      generalize [b0, b1, b2, b3, b4, b5][k]'(by simpa using hk6) = y at *
      have hadd := fun W => sub64 x y cc hx hy hcc.1 hcc.2 W
      generalize loW (x - y - cc) = sv at *
      generalize -hiW (x - y - cc) = cv at *
      have HT2 := Lib.hid (HTA.out.set k (.int .u64 sv))
      rw [hugeA_set] at HT2
      have HTB2 := Lib.hid (HTB.out.setOther (b' := w.heap.size) (i := k) (by omega) (.int .u64 sv))
      have HTR2 := Lib.hid (HTR.out.setOther (b' := w.heap.size) (i := k) (by omega) (.int .u64 sv))
      have HB2 := Lib.hid (HBX.out.setCell (p := ⟨w.heap.size, k, none⟩) (Nat.le_refl _) (.int .u64 sv))
      have HT3 := Lib.hid (show TBox (wr.setCell ⟨w.heap.size, k, none⟩ (.int .u64 sv)).drew w.heap.size 77 (hugeA (cur.set k sv)) from HT2.out)
      have HTB3 := Lib.hid (show TBox (wr.setCell ⟨w.heap.size, k, none⟩ (.int .u64 sv)).drew (w.heap.size + 1) 77 #[.int .u64 b0, .int .u64 b1, .int .u64 b2, .int .u64 b3, .int .u64 b4, .int .u64 b5] from HTB2.out)
      have HTR3 := Lib.hid (show TBox (wr.setCell ⟨w.heap.size, k, none⟩ (.int .u64 sv)).drew (w.heap.size + 2) 77 #[.int .u64 0, .int .u64 0, .int .u64 0, .int .u64 0, .int .u64 0, .int .u64 0] from HTR2.out)
      have HB3 := Lib.hid HB2.out.drew
      clear HA hx hy hcc hlen
      go_wp2_with fail
      go_region
      go_wp2_with fail
      go_roundw
      case rel => exact ⟨k + 1, _, cv, by omega, by first | rfl | go_num, rfl, HNX, HT3, HTB3, HTR3, HB3⟩
      case measure => simp [intOf]; omega
    · have hkk : k = 6 := by omega
      subst hkk
      have HE := Lib.hid (MinusAt_end HA.out rfl)
      obtain ⟨c0, c1, c2, c3, c4, c5, rfl⟩ := six hlen
      have ht := HTA.out
      have e0 : hugeA [c0, c1, c2, c3, c4, c5] = #[.int .u64 c0, .int .u64 c1, .int .u64 c2, .int .u64 c3, .int .u64 c4, .int .u64 c5] := rfl
      rw [e0] at ht
      have y0 := TBox.cell (i := 0) ht rfl
      have y1 := TBox.cell (i := 1) ht rfl
      have y2 := TBox.cell (i := 2) ht rfl
      have y3 := TBox.cell (i := 3) ht rfl
      have y4 := TBox.cell (i := 4) ht rfl
      have y5 := TBox.cell (i := 5) ht rfl
      have yl := TBox.lt ht
      have hr := HTR.out
      have r0 := TBox.cell (i := 0) hr rfl
      have r1 := TBox.cell (i := 1) hr rfl
      have r2 := TBox.cell (i := 2) hr rfl
      have r3 := TBox.cell (i := 3) hr rfl
      have r4 := TBox.cell (i := 4) hr rfl
      have r5 := TBox.cell (i := 5) hr rfl
      have rf0 := TBox.frozen hr 0
      have rf1 := TBox.frozen hr 1
      have rf2 := TBox.frozen hr 2
      have rf3 := TBox.frozen hr 3
      have rf4 := TBox.frozen hr 4
      have rf5 := TBox.frozen hr 5
      have HBE := Lib.hid ((((((HBX.out.setCell (p := ⟨w.heap.size + 2, 0, none⟩) (by simp) (.int .u64 c0)).setCell (p := ⟨w.heap.size + 2, 1, none⟩) (by simp) (.int .u64 c1)).setCell (p := ⟨w.heap.size + 2, 2, none⟩) (by simp) (.int .u64 c2)).setCell (p := ⟨w.heap.size + 2, 3, none⟩) (by simp) (.int .u64 c3)).setCell (p := ⟨w.heap.size + 2, 4, none⟩) (by simp) (.int .u64 c4)).setCell (p := ⟨w.heap.size + 2, 5, none⟩) (by simp) (.int .u64 c5))
      clear hr ht
      go_wp2_with fail
      exact bodyPost_ret (v := .agg #[.int .u64 c0, .int .u64 c1, .int .u64 c2, .int .u64 c3, .int .u64 c4, .int .u64 c5]) (by simp [results, Try.results116, go_sem, r0, r1, r2, r3, r4, r5]) rfl ⟨by rw [← HE.out]; rfl, HBE.out⟩
end Go.Proofs.Ytopmdeefcjdadaa

namespace Go.Proofs.Ytopmdeefcjdadaa
open Go.RowKit
set_option linter.unusedVariables false
set_option linter.unusedSimpArgs false

theorem less_where {l m : List Int} {k : Nat} (hk : k < l.length) (hlm : l.length = m.length) (hl : Words l) (hm : Words m) (hd : l.drop (k + 1) = m.drop (k + 1)) (hne : l[k] ≠ m[k]) : valH l < valH m ↔ l[k] < m[k] := by
  have e1 : l = l.take k ++ l[k] :: l.drop (k + 1) := by rw [← List.drop_eq_getElem_cons hk, List.take_append_drop]
  have e2 : m = m.take k ++ m[k] :: m.drop (k + 1) := by rw [← List.drop_eq_getElem_cons (by omega), List.take_append_drop]
  have h := less_at (l := l.take k) (m := m.take k) (s := l.drop (k + 1)) (x := l[k]) (y := m[k]) (by simp [hlm]) (fun x hx => hl x (List.mem_of_mem_take hx)) (fun x hx => hm x (List.mem_of_mem_take hx)) hne
  rw [← e1, hd, ← e2] at h
  exact h
theorem drop_more {l m : List Int} {k : Nat} (hk : k < l.length) (hlm : l.length = m.length) (hd : l.drop (k + 1) = m.drop (k + 1)) (he : l[k] = m[k]) : l.drop k = m.drop k := by
  rw [List.drop_eq_getElem_cons hk, List.drop_eq_getElem_cons (show k < m.length by omega), he, hd]
set_option maxRecDepth 100000 in
set_option maxHeartbeats 8000000 in
theorem hLess_any (N M : Int) (w : World) (h0 : 0 ≤ N) (h1 : N < powW 6) (h2 : 0 ≤ M) (h3 : M < powW 6) :
    Calls Try.prog 49 #[hugeV N, hugeV M] w fun e w' => e = .returned (.bool (decide (N < M))) ∧ Below w.heap.size w w' := by
  have HWA := Lib.hid (limbs_words 6 N)
  have HWB := Lib.hid (limbs_words 6 M)
  have HVA := Lib.hid (limbs_val 6 N h0 h1)
  have HVB := Lib.hid (limbs_val 6 M h2 h3)
  obtain ⟨a0, a1, a2, a3, a4, a5, hA⟩ := six (limbs_len 6 N)
  obtain ⟨b0, b1, b2, b3, b4, b5, hB⟩ := six (limbs_len 6 M)
  unfold hugeV
  rw [hA] at HWA HVA ⊢
  rw [hB] at HWB HVB ⊢
  have HD := Lib.hid (show decide (N < M) = decide (valH [a0, a1, a2, a3, a4, a5] < valH [b0, b1, b2, b3, b4, b5]) by rw [HVA.out, HVB.out])
  generalize decide (N < M) = RES at *
  clear hA hB h0 h1 h2 h3
  have HTA := Lib.hid (show TBox ((w.alloc (.cells #[.int .u64 a0, .int .u64 a1, .int .u64 a2, .int .u64 a3, .int .u64 a4, .int .u64 a5] 77)).alloc (.cells #[.int .u64 b0, .int .u64 b1, .int .u64 b2, .int .u64 b3, .int .u64 b4, .int .u64 b5] 77)) w.heap.size 77 (hugeA [a0, a1, a2, a3, a4, a5]) from (TBox.new w _ _).alloc _)
  have HTB := Lib.hid (show TBox ((w.alloc (.cells #[.int .u64 a0, .int .u64 a1, .int .u64 a2, .int .u64 a3, .int .u64 a4, .int .u64 a5] 77)).alloc (.cells #[.int .u64 b0, .int .u64 b1, .int .u64 b2, .int .u64 b3, .int .u64 b4, .int .u64 b5] 77)) (w.heap.size + 1) 77 (hugeA [b0, b1, b2, b3, b4, b5]) from by
    have h := TBox.new (w.alloc (.cells #[.int .u64 a0, .int .u64 a1, .int .u64 a2, .int .u64 a3, .int .u64 a4, .int .u64 a5] 77)) #[.int .u64 b0, .int .u64 b1, .int .u64 b2, .int .u64 b3, .int .u64 b4, .int .u64 b5] 77
    simp only [World.size_alloc] at h
    exact h)
  have HB0 := Lib.hid (show Below w.heap.size w ((w.alloc (.cells #[.int .u64 a0, .int .u64 a1, .int .u64 a2, .int .u64 a3, .int .u64 a4, .int .u64 a5] 77)).alloc (.cells #[.int .u64 b0, .int .u64 b1, .int .u64 b2, .int .u64 b3, .int .u64 b4, .int .u64 b5] 77)) from ((Below.refl _ _).alloc (Nat.le_refl _) _).alloc (by simp) _)
  have eA : hugeA [a0, a1, a2, a3, a4, a5] = #[.int .u64 a0, .int .u64 a1, .int .u64 a2, .int .u64 a3, .int .u64 a4, .int .u64 a5] := rfl
  have eB : hugeA [b0, b1, b2, b3, b4, b5] = #[.int .u64 b0, .int .u64 b1, .int .u64 b2, .int .u64 b3, .int .u64 b4, .int .u64 b5] := rfl
  rw [eA, eB]
  go_enter Try.func49, Try.ntmps49
  go_wp2_with fail
  generalize hw0 : ((w.alloc (.cells #[.int .u64 a0, .int .u64 a1, .int .u64 a2, .int .u64 a3, .int .u64 a4, .int .u64 a5] 77)).alloc (.cells #[.int .u64 b0, .int .u64 b1, .int .u64 b2, .int .u64 b3, .int .u64 b4, .int .u64 b5] 77)) = w1 at *
  clear hw0
  go_loopw [5] (fun i wx => ∃ (k : Nat), k ≤ 6 ∧ i = .int .i64 ((k : Int) - 1) ∧ Hid ([a0, a1, a2, a3, a4, a5].drop k = [b0, b1, b2, b3, b4, b5].drop k) ∧ Hid (TBox wx w.heap.size 77 (hugeA [a0, a1, a2, a3, a4, a5])) ∧ Hid (TBox wx (w.heap.size + 1) 77 (hugeA [b0, b1, b2, b3, b4, b5])) ∧ Hid (Below w.heap.size w wx)) (fun i _ => (intOf i + 1).toNat)
  case atStart => exact ⟨6, by omega, rfl, Lib.hid rfl, HTA, HTB, HB0⟩
  case round =>
    clear HTA HTB HB0 eA eB
    obtain ⟨k, hk, rfl, HDR, HTA, HTB, HBX⟩ := hrel
    by_cases hk0 : k = 0
    · subst hk0
      have HE := Lib.hid (show RES = false by
        rw [HD.out]
        have h := HDR.out
        rw [List.drop_zero, List.drop_zero] at h
        rw [h]
        simp)
      go_wp2_with fail
      go_ret
      exact ⟨by rw [HE.out] <;> rfl, HBX.out⟩
    · obtain ⟨j, rfl⟩ : ∃ j, k = j + 1 := ⟨k - 1, by omega⟩
      have hj6 : j < 6 := by omega
      have hj6' : (j : Int) < 6 := by omega
      have e1 : (((j + 1 : Nat) : Int) - 1) = (j : Int) := by omega
      rw [e1]
      have z0 : wr.cell? ⟨w.heap.size, j, none⟩ = some (.int .u64 ([a0, a1, a2, a3, a4, a5][j]'(by simpa using hj6))) := HTA.out.cell (hugeA_get (i := j) (by simpa using hj6))
      have z1 : wr.cell? ⟨w.heap.size + 1, j, none⟩ = some (.int .u64 ([b0, b1, b2, b3, b4, b5][j]'(by simpa using hj6))) := HTB.out.cell (hugeA_get (i := j) (by simpa using hj6))
      have zl := HTB.out.lt
      have HLW := Lib.hid (less_where (l := [a0, a1, a2, a3, a4, a5]) (m := [b0, b1, b2, b3, b4, b5]) (k := j) (by simpa using hj6) rfl HWA.out HWB.out HDR.out)
      have HDM := Lib.hid (drop_more (l := [a0, a1, a2, a3, a4, a5]) (m := [b0, b1, b2, b3, b4, b5]) (k := j) (by simpa using hj6) rfl HDR.out)
      generalize [a0, a1, a2, a3, a4, a5][j]'(by simpa using hj6) = x at *
      generalize [b0, b1, b2, b3, b4, b5][j]'(by simpa using hj6) = y at *
      have z0' : wr.drew.cell? ⟨w.heap.size, j, none⟩ = _ := z0
      have z1' : wr.drew.cell? ⟨w.heap.size + 1, j, none⟩ = _ := z1
      have HBD := Lib.hid HBX.out.drew
      have HBD2 := Lib.hid HBX.out.drew.drew
      have HTAD := Lib.hid (show TBox wr.drew w.heap.size 77 (hugeA [a0, a1, a2, a3, a4, a5]) from HTA.out)
      have HTBD := Lib.hid (show TBox wr.drew (w.heap.size + 1) 77 (hugeA [b0, b1, b2, b3, b4, b5]) from HTB.out)
      by_cases hxy : x = y
      · have HN := Lib.hid (HDM.out hxy)
        subst hxy
        have a1 : IntKind.i64.wrap ((j : Int) - 1) = (j : Int) - 1 := IntWalk.i64_in _ (by omega)
        have hne : (x != x) = false := by simp
        clear HLW HDM
        go_wp2_with fail
        go_region
        go_wp2_with fail
        go_roundw
        case rel => exact ⟨j, by omega, by first | rfl | go_num, HN, HTAD, HTBD, HBD⟩
        case measure => simp [intOf]
      · have HV := Lib.hid (show RES = decide (x < y) by
          rw [HD.out]
          by_cases hlt : x < y
          · rw [decide_eq_true ((HLW.out hxy).2 hlt), decide_eq_true hlt]
          · rw [decide_eq_false fun h => hlt ((HLW.out hxy).1 h), decide_eq_false hlt])
        have hne : (x != y) = true := by simpa using hxy
        go_wp2_with fail
        go_region
        go_wp2_with fail
        go_region
        go_wp2_with fail
        go_ret
        exact ⟨by rw [HV.out] <;> rfl, HBD2.out⟩
end Go.Proofs.Ytopmdeefcjdadaa

namespace Go.Proofs.Ytopmdeefcjdadaa
open Go.RowKit
set_option linter.unusedVariables false
set_option linter.unusedSimpArgs false

section
variable {P : Program} {ops : Array Oper} {Q : Exit → Act → World → Prop} {md : Region.Mode}

def todo (l : Array Bool) : Nat := l.toList.countP (fun b => !b)
theorem getD_false {l : Array Bool} {i : Nat} (h : l.getD i true = false) : ∃ hi : i < l.size, l[i] = false := by
  by_cases hi : i < l.size
  · refine ⟨hi, ?_⟩
    simpa [Array.getD, hi] using h
  · simp [Array.getD, hi] at h
theorem todo_set (l : Array Bool) (i : Nat) (h : l.getD i true = false) : todo (l.setIfInBounds i true) + 1 = todo l := by
  obtain ⟨hi, hf⟩ := getD_false h
  unfold todo
  rw [Array.toList_setIfInBounds, List.countP_set (by simpa using hi)]
  have h1 : l.toList[i]'(by simpa using hi) = false := by simpa using hf
  have h2 : 0 < l.toList.countP (fun b => !b) := List.countP_pos_iff.2 ⟨false, by rw [← h1]; exact List.getElem_mem _, rfl⟩
  rw [h1]
  simp only [Bool.not_false, Bool.not_true, if_true, Bool.false_eq_true, if_false]
  omega
theorem todo_zero (l : Array Bool) (h : todo l = 0) (i : Nat) : l.getD i true = true := by
  by_cases hf : l.getD i true = false
  · have := todo_set l i hf; omega
  · simpa using hf

theorem any_inv (Inv : Array Bool → Act → World → Prop)
    (hstep : ∀ l a w i, Inv l a w → i ∈ Region.ready md ops l → wpOp P ops Q i (fun a' w' => Inv (l.setIfInBounds i true) a' w') a w)
    (hfin : ∀ l a w, Inv l a w → Region.ready md ops l = [] → Q .normal a w) :
    ∀ (fuel : Nat) (l : Array Bool) (a : Act) (w : World), Inv l a w → todo l ≤ fuel → wpAny P md ops Q fuel l a w := by
  intro fuel
  induction fuel with
  | zero =>
    intro l a w h ht
    have hr : Region.ready md ops l = [] := by
      cases hr : Region.ready md ops l with
      | nil => rfl
      | cons i r =>
        have hi : i ∈ Region.ready md ops l := by rw [hr]; simp
        have h1 := (mem_ready.1 hi).1
        rw [todo_zero l (by omega) i] at h1
        cases h1
    exact ⟨hr, hfin l a w h hr⟩
  | succ fuel ih =>
    intro l a w h ht
    refine ⟨hfin l a w h, fun i hi => ?_⟩
    have h1 := todo_set l i (mem_ready.1 hi).1
    exact wpOp_mono (fun a' w' h' => ih _ a' w' h' (by omega)) (hstep l a w i h hi)

/-- each operation waits for earlier ones alone -/
def dagB (ops : Array Oper) : Bool := (List.range ops.size).all fun j => ((ops[j]?).map fun o => o.after.toList.all fun e => decide (e.on < j)).getD true
/-- no guard; each writes a slot; no two the same -/
def dstB (ops : Array Oper) : Bool := (ops.toList.all fun o => o.guard.isNone && o.dst.isSome) && decide (ops.toList.map (·.dst)).Nodup

theorem dag_of (h : dagB ops = true) {j : Nat} {o : Oper} (ho : ops[j]? = some o) : ∀ e ∈ o.after, e.on < j := by
  have hj : j < ops.size := (Array.getElem?_eq_some_iff.1 ho).1
  unfold dagB at h
  rw [List.all_eq_true] at h
  have h1 := h j (List.mem_range.2 hj)
  rw [ho] at h1
  simp only [Option.map_some, Option.getD_some, List.all_eq_true, decide_eq_true_eq] at h1
  intro e he
  exact h1 e (by simpa using he)
theorem dst_of (h : dstB ops = true) {j : Nat} {o : Oper} (ho : ops[j]? = some o) : o.guard = none ∧ ∃ d, o.dst = some d := by
  unfold dstB at h
  rw [Bool.and_eq_true, List.all_eq_true] at h
  have h1 := h.1 o (by
    have := (Array.getElem?_eq_some_iff.1 ho)
    obtain ⟨hj, e⟩ := this
    rw [← e]; simp)
  rw [Bool.and_eq_true] at h1
  exact ⟨Option.isNone_iff_eq_none.1 h1.1, Option.isSome_iff_exists.1 h1.2⟩
theorem dst_inj (h : dstB ops = true) {i j : Nat} {o p : Oper} (ho : ops[i]? = some o) (hp : ops[j]? = some p) (hd : o.dst = p.dst) : i = j := by
  unfold dstB at h
  rw [Bool.and_eq_true] at h
  have hn := of_decide_eq_true h.2
  obtain ⟨hi, ei⟩ := Array.getElem?_eq_some_iff.1 ho
  obtain ⟨hj, ej⟩ := Array.getElem?_eq_some_iff.1 hp
  have hi' : i < (ops.toList.map (·.dst)).length := by simpa using hi
  have hj' : j < (ops.toList.map (·.dst)).length := by simpa using hj
  refine (List.getElem_inj (h₀ := hi') (h₁ := hj') hn).1 ?_
  simp [ei, ej, hd]

/-- the frame but for the region's own slots -/
def ShapeF (ops : Array Oper) (a0 a : Act) : Prop := a.tmps.size = a0.tmps.size ∧ a.defers = a0.defers ∧ ∀ s, (∀ (j : Nat) (o : Oper), ops[j]? = some o → o.dst ≠ some s) → a.tmps.getD s undef = a0.tmps.getD s undef

theorem region_phi (hm : P.follows .mixedOrders = true) {id : Nat} {a0 : Act} {w0 : World} (hdag : dagB ops = true) (hdst : dstB ops = true)
    (φ : Nat → Value → World → Prop) (W : World → Prop) (G : World → World → Prop)
    (hW0 : W { w0 with drawn := w0.drawn + 1 })
    (hmono : ∀ j v w w', φ j v w → G w w' → φ j v w')
    (hin : ∀ (j : Nat) (o : Oper) d, ops[j]? = some o → o.dst = some d → d < a0.tmps.size)
    (hop : ∀ (i : Nat) (o : Oper) (a : Act) (w : World), ops[i]? = some o → ShapeF ops a0 a → W w →
      (∀ e ∈ o.after, Region.binds .any e = true → ∀ (p : Oper) d, ops[e.on]? = some p → p.dst = some d → φ e.on (a.tmps.getD d undef) w) →
      o.wp P a w (fun a' w' => ∃ v, a' = a.put o.dst v ∧ φ i v w' ∧ W w' ∧ G w w') Q)
    (hfin : ∀ a w, ShapeF ops a0 a → W w → (∀ (j : Nat) (o : Oper) d, ops[j]? = some o → o.dst = some d → φ j (a.tmps.getD d undef) w) → Q .normal a w) :
    (Code.region id ops true).wp P Q a0 w0 := by
  refine wp_region_any hm ?_
  refine any_inv (fun l a w => l.size = ops.size ∧ ShapeF ops a0 a ∧ W w ∧ ∀ (j : Nat) (o : Oper) d, ops[j]? = some o → l.getD j false = true → o.dst = some d → φ j (a.tmps.getD d undef) w) ?_ ?_ _ _ _ _ ?_ ?_
  · rintro l a w i ⟨hl, hs, hw, hφ⟩ hi
    obtain ⟨hnot, o, ho, hafter⟩ := mem_ready.1 hi
    obtain ⟨hg, d, hd⟩ := dst_of hdst ho
    unfold wpOp
    simp only [ho]
    rw [if_pos (by simp [Region.wanted, hg])]
    refine .inl (Oper.wp_mono ?_ (hop i o a w ho hs hw fun e he hb p d' hp hd' => hφ e.on p d' hp (hafter e he hb) hd'))
    rintro a' w' ⟨v, rfl, hv, hw', hG⟩
    have hput : a.put o.dst v = { a with tmps := a.tmps.setIfInBounds d v } := by unfold Act.put; rw [hd]
    rw [hput]
    refine ⟨by simpa using hl, ⟨by simpa using hs.1, hs.2.1, fun s hns => ?_⟩, hw', fun j p d' hp hlj hd' => ?_⟩
    · have hne : d ≠ s := by rintro rfl; exact hns i o ho hd
      rw [← hs.2.2 s hns]
      simp [Array.getD_eq_getD_getElem?, Array.getElem?_setIfInBounds_ne hne]
    · by_cases hij : j = i
      · subst hij
        rw [ho] at hp
        cases hp
        rw [hd] at hd'
        cases hd'
        have hsz : d < a.tmps.size := by rw [hs.1]; exact hin _ _ _ ho hd
        have : (a.tmps.setIfInBounds d v).getD d undef = v := by simp [Array.getD_eq_getD_getElem?, hsz]
        rw [this]
        exact hv
      · have hne : d ≠ d' := by
          rintro rfl
          exact hij (dst_inj hdst hp ho (by rw [hd, hd']))
        have : (a.tmps.setIfInBounds d v).getD d' undef = a.tmps.getD d' undef := by simp [Array.getD_eq_getD_getElem?, Array.getElem?_setIfInBounds_ne hne]
        rw [this]
        refine hmono _ _ _ _ (hφ j p d' hp ?_ hd') hG
        have hni : i ≠ j := fun e => hij e.symm
        rw [← hlj]
        simp [Array.getD_eq_getD_getElem?, Array.getElem?_setIfInBounds_ne hni]
  · rintro l a w ⟨hl, hs, hw, hφ⟩ hr
    refine hfin a w hs hw fun j o d ho hd => hφ j o d ho ?_ hd
    -- all have come up
    have key : ∀ n j, j ≤ n → j < ops.size → l.getD j true = true := by
      intro n
      induction n with
      | zero =>
        intro j hj hjs
        by_cases hf : l.getD j true = false
        · have : j ∈ Region.ready .any ops l := mem_ready.2 ⟨hf, ops[j], Array.getElem?_eq_getElem hjs, fun e he _ => by
            have := dag_of hdag (Array.getElem?_eq_getElem hjs) e he; omega⟩
          rw [hr] at this; cases this
        · simpa using hf
      | succ n ih =>
        intro j hj hjs
        by_cases hf : l.getD j true = false
        · have : j ∈ Region.ready .any ops l := mem_ready.2 ⟨hf, ops[j], Array.getElem?_eq_getElem hjs, fun e he _ => by
            have h1 := dag_of hdag (Array.getElem?_eq_getElem hjs) e he
            have h2 := ih e.on (by omega) (by omega)
            have h3 : e.on < l.size := by omega
            simpa [Array.getD, h3] using h2⟩
          rw [hr] at this; cases this
        · simpa using hf
    have hjs : j < ops.size := (Array.getElem?_eq_some_iff.1 ho).1
    have h1 := key j j (Nat.le_refl _) hjs
    have h3 : j < l.size := by omega
    simpa [Array.getD, h3] using h1
  · refine ⟨by simp, ⟨rfl, rfl, fun _ _ => rfl⟩, hW0, fun j o d ho hlj _ => ?_⟩
    exfalso
    by_cases hjs : j < ops.size
    · simp [Array.getD, hjs] at hlj
    · simp [Array.getD, hjs] at hlj
  · have : todo (Array.replicate ops.size false) = ops.size := by unfold todo; rw [Array.toList_replicate, List.countP_replicate]; rfl
    omega
end
end Go.Proofs.Ytopmdeefcjdadaa
