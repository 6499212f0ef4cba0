/- effect's numbers of six words: minus. (printed by wip/gen/gen_hugeplus.py) -/
import Derived.Test.YtopmdeefcjdadaaT29M16
import Derived.BigRegion
import Derived.Test.YtopmdeefcjdadaaT29M17

namespace Go.Proofs.Ytopmdeefcjdadaa
open Go.RowKit
set_option linter.unusedVariables false
set_option linter.unusedSimpArgs false

theorem sub64 (x y c : Int) (hx : OneW x) (hy : OneW y) (hc0 : 0 ≤ c) (hc1 : c ≤ 1) (w : World) :
    (callFunc 130 #[.int .u64 x, .int .u64 y, .int .u64 c]).run Try.prog w = .ok (.value (.tuple #[.int .u64 (loW (x - y - c)), .int .u64 (-hiW (x - y - c))])) w := by
  obtain ⟨hx0, hx1⟩ := hx
  obtain ⟨hy0, hy1⟩ := hy
  obtain ⟨a, rfl⟩ := Int.eq_ofNat_of_zero_le hx0
  obtain ⟨b, rfl⟩ := Int.eq_ofNat_of_zero_le hy0
  obtain ⟨d, rfl⟩ := Int.eq_ofNat_of_zero_le hc0
  rw [run_callFunc_extern Try.func130 (by kernel_rfl) (by kernel_rfl) (by kernel_rfl) (e := sub64Entry) (by kernel_rfl), run_sub64 a b d (by omega)]
  simp only [Result.andThen]
  have e1 : (((a + 18446744073709551616 - b - d) % 18446744073709551616 : Nat) : Int) = loW ((a : Int) - b - d) := by unfold loW; omega
  have e2 : ((if a < b + d then 1 else 0 : Nat) : Int) = -hiW ((a : Int) - b - d) := by
    unfold hiW
    by_cases h : a < b + d
    · rw [if_pos h]; omega
    · rw [if_neg h]; omega
  rw [e1, e2]
/-- the state of minus within a word -/
def MinusAt (l m : List Int) (i : Nat) (cur : List Int) (c : Int) : Prop := (0 ≤ c ∧ c ≤ 1) ∧ ∃ done, done.length = i ∧ cur = done ++ l.drop i ∧ minusL l m 0 = done ++ minusL (l.drop i) (m.drop i) c
theorem MinusAt_start (l m : List Int) : MinusAt l m 0 l 0 := ⟨⟨by decide, by decide⟩, [], rfl, rfl, rfl⟩
theorem Minus_carry {x y c : Int} (hx : OneW x) (hy : OneW y) (hc : 0 ≤ c ∧ c ≤ 1) : 0 ≤ -hiW (x - y - c) ∧ -hiW (x - y - c) ≤ 1 := by
  unfold OneW at *
  unfold hiW
  omega
theorem MinusAt_step {l m : List Int} {i : Nat} {cur : List Int} {c : Int} (h : MinusAt l m i cur c) (hi : i < l.length) (hm : i < m.length) (hl : Words l) (hw : Words m) :
    MinusAt l m (i + 1) (cur.set i (loW (l[i] - m[i] - c))) (-hiW (l[i] - m[i] - c)) := by
  obtain ⟨hc, done, h1, h2, h3⟩ := h
  have hx := hl _ (List.getElem_mem hi)
  have hy := hw _ (List.getElem_mem hm)
  refine ⟨Minus_carry hx hy hc, done ++ [loW (l[i] - m[i] - c)], by simp [h1], ?_, ?_⟩
  · rw [h2, List.set_append_right _ _ (by omega), h1, Nat.sub_self, List.drop_eq_getElem_cons hi, List.set_cons_zero, List.append_assoc]
    rfl
  · rw [h3, List.drop_eq_getElem_cons hi, List.drop_eq_getElem_cons hm, minusL]
    simp
theorem MinusAt_end {l m : List Int} {cur : List Int} {c : Int} (h : MinusAt l m l.length cur c) (hlm : l.length = m.length) : cur = minusL l m 0 := by
  obtain ⟨hc, done, h1, h2, h3⟩ := h
  have e : minusL [] (m.drop l.length) c = [] := by unfold minusL; rfl
  rw [List.drop_length] at h2 h3
  rw [h2, h3, e]
theorem MinusAt_len {l m : List Int} {i : Nat} {cur : List Int} {c : Int} (h : MinusAt l m i cur c) (hi : i ≤ l.length) : cur.length = l.length := by
  obtain ⟨hc, done, h1, h2, h3⟩ := h
  rw [h2, List.length_append, List.length_drop, h1]
  omega
theorem MinusAt_get {l m : List Int} {i : Nat} {cur : List Int} {c : Int} (h : MinusAt l m i cur c) (hi : i < l.length) (hc : i < cur.length) : cur[i] = l[i] := by
  obtain ⟨_, done, h1, h2, _⟩ := h
  subst h2
  rw [List.getElem_append_right (by omega), List.getElem_drop]
  congr 1
  omega
set_option maxRecDepth 100000 in
set_option maxHeartbeats 8000000 in
theorem hMinus_any (N M : Int) (w : World) (hN : N < powW 6) (hM : 0 ≤ M) (hf : M ≤ N) :
    Calls Try.prog 116 #[hugeV N, hugeV M] w fun e w' => e = .returned (hugeV (N - M)) ∧ Below w.heap.size w w' := by
  have HWA := Lib.hid (limbs_words 6 N)
  have HWB := Lib.hid (limbs_words 6 M)
  have HVA := Lib.hid (limbs_val 6 N (by omega) (by omega))
  have HVB := Lib.hid (limbs_val 6 M (by omega) (by omega))
  have HF := Lib.hid hf
  have HNN := Lib.hid hN
  obtain ⟨a0, a1, a2, a3, a4, a5, hA⟩ := six (limbs_len 6 N)
  obtain ⟨b0, b1, b2, b3, b4, b5, hB⟩ := six (limbs_len 6 M)
  have HG := Lib.hid (show hugeV (N - M) = .agg (hugeA (minusL [a0, a1, a2, a3, a4, a5] [b0, b1, b2, b3, b4, b5] 0)) from by
    rw [hA] at HWA HVA
    rw [hB] at HWB HVB
    have h1 := minusL_val [a0, a1, a2, a3, a4, a5] [b0, b1, b2, b3, b4, b5] 0 rfl HWA.out HWB.out (by rw [HVA.out, HVB.out]; omega) (by rw [HVA.out, HVB.out]; show _ < powW 6; omega)
    rw [HVA.out, HVB.out, Int.sub_zero] at h1
    rw [← h1]
    exact hugeV_of (minusL_len _ _ _ rfl) (minusL_words _ _ _))
  rw [HG.out]
  unfold hugeV
  rw [hA] at HWA HVA ⊢
  rw [hB] at HWB HVB ⊢
  clear hf hN hM hA hB HG
  have HTA := Lib.hid (show TBox (((w.alloc (.cells #[.int .u64 a0, .int .u64 a1, .int .u64 a2, .int .u64 a3, .int .u64 a4, .int .u64 a5] 77)).alloc (.cells #[.int .u64 b0, .int .u64 b1, .int .u64 b2, .int .u64 b3, .int .u64 b4, .int .u64 b5] 77)).alloc (.cells #[.int .u64 0, .int .u64 0, .int .u64 0, .int .u64 0, .int .u64 0, .int .u64 0] 77)) w.heap.size 77 (hugeA [a0, a1, a2, a3, a4, a5]) from ((TBox.new w _ _).alloc _).alloc _)
  have HTB := Lib.hid (show TBox (((w.alloc (.cells #[.int .u64 a0, .int .u64 a1, .int .u64 a2, .int .u64 a3, .int .u64 a4, .int .u64 a5] 77)).alloc (.cells #[.int .u64 b0, .int .u64 b1, .int .u64 b2, .int .u64 b3, .int .u64 b4, .int .u64 b5] 77)).alloc (.cells #[.int .u64 0, .int .u64 0, .int .u64 0, .int .u64 0, .int .u64 0, .int .u64 0] 77)) (w.heap.size + 1) 77 #[.int .u64 b0, .int .u64 b1, .int .u64 b2, .int .u64 b3, .int .u64 b4, .int .u64 b5] from by
    have h := (TBox.new (w.alloc (.cells #[.int .u64 a0, .int .u64 a1, .int .u64 a2, .int .u64 a3, .int .u64 a4, .int .u64 a5] 77)) #[.int .u64 b0, .int .u64 b1, .int .u64 b2, .int .u64 b3, .int .u64 b4, .int .u64 b5] 77).alloc (.cells #[.int .u64 0, .int .u64 0, .int .u64 0, .int .u64 0, .int .u64 0, .int .u64 0] 77)
    simpa only [World.size_alloc] using h)
  have HTR := Lib.hid (show TBox (((w.alloc (.cells #[.int .u64 a0, .int .u64 a1, .int .u64 a2, .int .u64 a3, .int .u64 a4, .int .u64 a5] 77)).alloc (.cells #[.int .u64 b0, .int .u64 b1, .int .u64 b2, .int .u64 b3, .int .u64 b4, .int .u64 b5] 77)).alloc (.cells #[.int .u64 0, .int .u64 0, .int .u64 0, .int .u64 0, .int .u64 0, .int .u64 0] 77)) (w.heap.size + 2) 77 #[.int .u64 0, .int .u64 0, .int .u64 0, .int .u64 0, .int .u64 0, .int .u64 0] from by
    have h := TBox.new ((w.alloc (.cells #[.int .u64 a0, .int .u64 a1, .int .u64 a2, .int .u64 a3, .int .u64 a4, .int .u64 a5] 77)).alloc (.cells #[.int .u64 b0, .int .u64 b1, .int .u64 b2, .int .u64 b3, .int .u64 b4, .int .u64 b5] 77)) #[.int .u64 0, .int .u64 0, .int .u64 0, .int .u64 0, .int .u64 0, .int .u64 0] 77
    simpa only [World.size_alloc] using h)
  have HB0 := Lib.hid (show Below w.heap.size w (((w.alloc (.cells #[.int .u64 a0, .int .u64 a1, .int .u64 a2, .int .u64 a3, .int .u64 a4, .int .u64 a5] 77)).alloc (.cells #[.int .u64 b0, .int .u64 b1, .int .u64 b2, .int .u64 b3, .int .u64 b4, .int .u64 b5] 77)).alloc (.cells #[.int .u64 0, .int .u64 0, .int .u64 0, .int .u64 0, .int .u64 0, .int .u64 0] 77)) from (((Below.refl _ _).alloc (Nat.le_refl _) _).alloc (by simp) _).alloc (by simp; omega) _)
  have eA : hugeA [a0, a1, a2, a3, a4, a5] = #[.int .u64 a0, .int .u64 a1, .int .u64 a2, .int .u64 a3, .int .u64 a4, .int .u64 a5] := rfl
  have eB : hugeA [b0, b1, b2, b3, b4, b5] = #[.int .u64 b0, .int .u64 b1, .int .u64 b2, .int .u64 b3, .int .u64 b4, .int .u64 b5] := rfl
  rw [eA, eB]
  have HS0 := Lib.hid (MinusAt_start [a0, a1, a2, a3, a4, a5] [b0, b1, b2, b3, b4, b5])
  go_enter Try.func116, Try.ntmps116
  go_wp2_with fail
  generalize hw0 : (((w.alloc (.cells #[.int .u64 a0, .int .u64 a1, .int .u64 a2, .int .u64 a3, .int .u64 a4, .int .u64 a5] 77)).alloc (.cells #[.int .u64 b0, .int .u64 b1, .int .u64 b2, .int .u64 b3, .int .u64 b4, .int .u64 b5] 77)).alloc (.cells #[.int .u64 0, .int .u64 0, .int .u64 0, .int .u64 0, .int .u64 0, .int .u64 0] 77)) = w1 at *
  clear hw0
  go_loopw [7, 5] (fun i c wx => ∃ (k : Nat) (cur : List Int) (cc : Int), k ≤ 6 ∧ i = .int .i64 k ∧ c = .int .u64 cc ∧ Hid (MinusAt [a0, a1, a2, a3, a4, a5] [b0, b1, b2, b3, b4, b5] k cur cc) ∧ Hid (TBox wx w.heap.size 77 (hugeA cur)) ∧ Hid (TBox wx (w.heap.size + 1) 77 #[.int .u64 b0, .int .u64 b1, .int .u64 b2, .int .u64 b3, .int .u64 b4, .int .u64 b5]) ∧ Hid (TBox wx (w.heap.size + 2) 77 #[.int .u64 0, .int .u64 0, .int .u64 0, .int .u64 0, .int .u64 0, .int .u64 0]) ∧ Hid (Below w.heap.size w wx)) (fun i _ _ => 6 - (intOf i).toNat)
  case atStart => exact ⟨0, _, 0, by omega, rfl, rfl, HS0, HTA, HTB, HTR, HB0⟩
  case round =>
    clear HTA HTB HTR HB0 HS0
    obtain ⟨k, cur, cc, hk, rfl, rfl, HA, HTA, HTB, HTR, HBX⟩ := hrel
    have hlen := MinusAt_len HA.out (by simpa using hk)
    have hrl := HTR.out.lt
    by_cases hk6 : k < 6
    · have hk6' : (k : Int) < 6 := by omega
      have hx : OneW ([a0, a1, a2, a3, a4, a5][k]'(by simpa using hk6)) := HWA.out _ (List.getElem_mem _)
      have hy : OneW ([b0, b1, b2, b3, b4, b5][k]'(by simpa using hk6)) := HWB.out _ (List.getElem_mem _)
      have HNX := Lib.hid (MinusAt_step HA.out (by simpa using hk6) (by simpa using hk6) HWA.out HWB.out)
      have hcc := HA.out.1
      have z0 : wr.cell? ⟨w.heap.size, k, none⟩ = some (.int .u64 ([a0, a1, a2, a3, a4, a5][k]'(by simpa using hk6))) := by
        have h := HTA.out.cell (hugeA_get (i := k) (by rw [hlen]; simpa using hk6))
        rw [MinusAt_get HA.out (by simpa using hk6)] at h
        exact h
      have z1 : wr.cell? ⟨w.heap.size + 1, k, none⟩ = some (.int .u64 ([b0, b1, b2, b3, b4, b5][k]'(by simpa using hk6))) := TBox.cell (show TBox wr _ _ (hugeA [b0, b1, b2, b3, b4, b5]) from HTB.out) (hugeA_get (i := k) (by simpa using hk6))
      have zf := HTA.out.frozen k
      generalize [a0, a1, a2, a3, a4, a5][k]'(by simpa using hk6) = x at *
      generalize [b0, b1, b2, b3, b4, b5][k]'(by simpa using hk6) = y at *
      have hadd := fun W => sub64 x y cc hx hy hcc.1 hcc.2 W
      generalize loW (x - y - cc) = sv at *
      generalize -hiW (x - y - cc) = cv at *
      have HT2 := Lib.hid (HTA.out.set k (.int .u64 sv))
      rw [hugeA_set] at HT2
      have HTB2 := Lib.hid (HTB.out.setOther (b' := w.heap.size) (i := k) (by omega) (.int .u64 sv))
      have HTR2 := Lib.hid (HTR.out.setOther (b' := w.heap.size) (i := k) (by omega) (.int .u64 sv))
      have HB2 := Lib.hid (HBX.out.setCell (p := ⟨w.heap.size, k, none⟩) (Nat.le_refl _) (.int .u64 sv))
      have HT3 := Lib.hid (show TBox (wr.setCell ⟨w.heap.size, k, none⟩ (.int .u64 sv)).drew w.heap.size 77 (hugeA (cur.set k sv)) from HT2.out)
      have HTB3 := Lib.hid (show TBox (wr.setCell ⟨w.heap.size, k, none⟩ (.int .u64 sv)).drew (w.heap.size + 1) 77 #[.int .u64 b0, .int .u64 b1, .int .u64 b2, .int .u64 b3, .int .u64 b4, .int .u64 b5] from HTB2.out)
      have HTR3 := Lib.hid (show TBox (wr.setCell ⟨w.heap.size, k, none⟩ (.int .u64 sv)).drew (w.heap.size + 2) 77 #[.int .u64 0, .int .u64 0, .int .u64 0, .int .u64 0, .int .u64 0, .int .u64 0] from HTR2.out)
      have HB3 := Lib.hid HB2.out.drew
      clear HA hx hy hcc hlen
      go_wp2_with fail
      go_region
      go_wp2_with fail
      go_roundw
      case rel => exact ⟨k + 1, _, cv, by omega, by first | rfl | go_num, rfl, HNX, HT3, HTB3, HTR3, HB3⟩
      case measure => simp [intOf]; omega
    · have hkk : k = 6 := by omega
      subst hkk
      have HE := Lib.hid (MinusAt_end HA.out rfl)
      obtain ⟨c0, c1, c2, c3, c4, c5, rfl⟩ := six hlen
      have ht := HTA.out
      have e0 : hugeA [c0, c1, c2, c3, c4, c5] = #[.int .u64 c0, .int .u64 c1, .int .u64 c2, .int .u64 c3, .int .u64 c4, .int .u64 c5] := rfl
      rw [e0] at ht
      have y0 := TBox.cell (i := 0) ht rfl
      have y1 := TBox.cell (i := 1) ht rfl
      have y2 := TBox.cell (i := 2) ht rfl
      have y3 := TBox.cell (i := 3) ht rfl
      have y4 := TBox.cell (i := 4) ht rfl
      have y5 := TBox.cell (i := 5) ht rfl
      have yl := TBox.lt ht
      have hr := HTR.out
      have r0 := TBox.cell (i := 0) hr rfl
      have r1 := TBox.cell (i := 1) hr rfl
      have r2 := TBox.cell (i := 2) hr rfl
      have r3 := TBox.cell (i := 3) hr rfl
      have r4 := TBox.cell (i := 4) hr rfl
      have r5 := TBox.cell (i := 5) hr rfl
      have rf0 := TBox.frozen hr 0
      have rf1 := TBox.frozen hr 1
      have rf2 := TBox.frozen hr 2
      have rf3 := TBox.frozen hr 3
      have rf4 := TBox.frozen hr 4
      have rf5 := TBox.frozen hr 5
      have HBE := Lib.hid ((((((HBX.out.setCell (p := ⟨w.heap.size + 2, 0, none⟩) (by simp) (.int .u64 c0)).setCell (p := ⟨w.heap.size + 2, 1, none⟩) (by simp) (.int .u64 c1)).setCell (p := ⟨w.heap.size + 2, 2, none⟩) (by simp) (.int .u64 c2)).setCell (p := ⟨w.heap.size + 2, 3, none⟩) (by simp) (.int .u64 c3)).setCell (p := ⟨w.heap.size + 2, 4, none⟩) (by simp) (.int .u64 c4)).setCell (p := ⟨w.heap.size + 2, 5, none⟩) (by simp) (.int .u64 c5))
      clear hr ht
      go_wp2_with fail
      exact bodyPost_ret (v := .agg #[.int .u64 c0, .int .u64 c1, .int .u64 c2, .int .u64 c3, .int .u64 c4, .int .u64 c5]) (by simp [results, Try.results116, go_sem, r0, r1, r2, r3, r4, r5]) rfl ⟨by rw [← HE.out]; rfl, HBE.out⟩
end Go.Proofs.Ytopmdeefcjdadaa
