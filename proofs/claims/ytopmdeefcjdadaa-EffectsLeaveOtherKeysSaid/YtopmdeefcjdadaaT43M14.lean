/- effect's numbers of six words: mul. (printed by wip/gen/gen_hugemul.py) -/
import Derived.Test.YtopmdeefcjdadaaT43M13

namespace Go.Proofs.Ytopmdeefcjdadaa
open Go.RowKit
set_option linter.unusedVariables false
set_option linter.unusedSimpArgs false

/-- the state of mul within a row: row i of words l, the cells cur, the words up to i done -/
def MRowAt (y : Int) (l : List Int) (out : List Int) (i k : Nat) (cur : List Int) (c : Int) : Prop :=
  OneW c ∧ cur.length = out.length ∧ cur.take i = out.take i ∧ ∃ done, done.length = k ∧ cur.drop i = done ++ (out.drop i).drop k ∧ rowL y (out.drop i) l 0 = done ++ rowL y ((out.drop i).drop k) (l.drop k) c
theorem mrowAt_start (y : Int) (l out : List Int) (i : Nat) : MRowAt y l out i 0 out 0 := ⟨⟨by decide, by decide⟩, rfl, rfl, [], rfl, rfl, rfl⟩
theorem mrowAt_step {y : Int} {l out cur : List Int} {i k : Nat} {c : Int} (h : MRowAt y l out i k cur c) (hk : i + k < out.length) (hkl : k < l.length) (hl : Words l) (ho : Words out) (hy : OneW y) :
    MRowAt y l out i (k + 1) (cur.set (i + k) (loW (out[i + k] + l[k] * y + c))) (hiW (out[i + k] + l[k] * y + c)) := by
  obtain ⟨hc, h1, h2, done, h3, h4, h5⟩ := h
  have hx := hl _ (List.getElem_mem hkl)
  have ho' := ho _ (List.getElem_mem hk)
  have e : (out.drop i).drop k = out[i + k] :: (out.drop i).drop (k + 1) := by
    rw [List.drop_drop, List.drop_drop, show i + (k + 1) = i + k + 1 by omega]
    exact List.drop_eq_getElem_cons hk
  refine ⟨carry_word2 ho' hx hy hc, by rw [List.length_set]; exact h1, by rw [List.take_set_of_le (by omega)]; exact h2, done ++ [loW (out[i + k] + l[k] * y + c)], by simp [h3], ?_, ?_⟩
  · rw [List.drop_set, if_neg (by omega), h4, show i + k - i = k by omega, List.set_append_right _ _ (by omega), h3, Nat.sub_self, e, List.set_cons_zero, List.append_assoc]
    rfl
  · rw [h5, e, List.drop_eq_getElem_cons hkl, rowL]
    simp
theorem mrowAt_get {y : Int} {l out cur : List Int} {i k : Nat} {c : Int} (h : MRowAt y l out i k cur c) (hk : i + k < out.length) (hc : i + k < cur.length) : cur[i + k] = out[i + k] := by
  obtain ⟨_, h1, h2, done, h3, h4, h5⟩ := h
  have a := congrArg (fun z => z[k]?) h4
  simp only [List.getElem?_drop] at a
  rw [List.getElem?_append_right (by omega), h3, Nat.sub_self, List.getElem?_drop, List.getElem?_drop, Nat.add_zero, List.getElem?_eq_getElem hc, List.getElem?_eq_getElem hk] at a
  exact Option.some.inj a
theorem mrowAt_end {y : Int} {l out cur : List Int} {i k : Nat} {c : Int} (h : MRowAt y l out i k cur c) (hk : i + k = out.length) (hl : k ≤ l.length) : cur = out.take i ++ rowL y (out.drop i) l 0 := by
  obtain ⟨_, h1, h2, done, h3, h4, h5⟩ := h
  have e : (out.drop i).drop k = [] := by rw [List.drop_drop]; exact List.drop_eq_nil_of_le (by omega)
  rw [e, List.append_nil] at h4
  rw [e] at h5
  have e2 : rowL y [] (l.drop k) c = [] := by cases l.drop k <;> rfl
  rw [e2, List.append_nil] at h5
  rw [h5, ← h4, ← h2, List.take_append_drop]
theorem mrowAt_len {y : Int} {l out cur : List Int} {i k : Nat} {c : Int} (h : MRowAt y l out i k cur c) : cur.length = out.length := h.2.1
/-- the rows of a product as a state: the words up to i are done -/
def MulAt (l m out0 : List Int) (i : Nat) (out : List Int) : Prop := Words out ∧ out.length = out0.length ∧ mulL l m out0 = out.take i ++ mulL l (m.drop i) (out.drop i)
theorem mulAt_start {l m out0 : List Int} (h : Words out0) : MulAt l m out0 0 out0 := ⟨h, rfl, rfl⟩
theorem mulL_step {l m out os : List Int} {y o : Int} (h : rowL y out l 0 = o :: os) : mulL l (y :: m) out = o :: mulL l m os := by rw [mulL, h]
theorem mulAt_step {l m out0 out : List Int} {i : Nat} (h : MulAt l m out0 i out) (hi : i < m.length) (hm : m.length = out0.length) :
    MulAt l m out0 (i + 1) (out.take i ++ rowL m[i] (out.drop i) l 0) := by
  obtain ⟨h1, h2, h3⟩ := h
  have hr := rowL_len m[i] (out.drop i) l 0
  have hw : Words (out.drop i) := fun x hx => h1 x (List.mem_of_mem_drop hx)
  have hrw := rowL_words m[i] (out.drop i) l 0 hw
  have ht : (out.take i).length = i := by rw [List.length_take]; omega
  refine ⟨fun x hx => ?_, ?_, ?_⟩
  · rcases List.mem_append.1 hx with k | k
    · exact h1 x (List.mem_of_mem_take k)
    · exact hrw x k
  · rw [List.length_append, hr, ← List.length_append, List.take_append_drop, h2]
  · rw [h3, List.drop_eq_getElem_cons hi]
    cases hc : rowL m[i] (out.drop i) l 0 with
    | nil => rw [hc] at hr; rw [List.length_drop] at hr; simp at hr; omega
    | cons o os =>
      rw [mulL_step hc, List.take_append, ht, List.drop_append, ht, List.take_take, Nat.min_eq_right (by omega), show i + 1 - i = 1 by omega]
      have e1 : List.drop (i + 1) (out.take i) = [] := List.drop_eq_nil_of_le (by omega)
      rw [e1, List.take_succ_cons, List.take_zero, List.drop_succ_cons, List.drop_zero, List.append_assoc]
      rfl
theorem mulAt_end {l m out0 out : List Int} (h : MulAt l m out0 m.length out) (hm : m.length = out0.length) : out = mulL l m out0 := by
  obtain ⟨h1, h2, h3⟩ := h
  rw [h3, List.drop_length]
  exact (List.take_append_drop _ _).symm
set_option maxRecDepth 100000 in
set_option maxHeartbeats 8000000 in
theorem hMul_any (N M : Int) (w : World) (hN : 0 ≤ N) (hN6 : N < powW 6) (hM : 0 ≤ M) (hM6 : M < powW 6) (hf : N * M < powW 6) :
    Calls Try.prog 114 #[hugeV N, hugeV M] w fun e w' => e = .returned (hugeV (N * M)) ∧ Below w.heap.size w w' := by
  have HWA := Lib.hid (limbs_words 6 N)
  have HWB := Lib.hid (limbs_words 6 M)
  have HVA := Lib.hid (limbs_val 6 N hN hN6)
  have HVB := Lib.hid (limbs_val 6 M hM hM6)
  obtain ⟨a0, a1, a2, a3, a4, a5, hA⟩ := six (limbs_len 6 N)
  obtain ⟨b0, b1, b2, b3, b4, b5, hB⟩ := six (limbs_len 6 M)
  have hz : Words [0, 0, 0, 0, 0, 0] := fun x hx => by
    simp at hx
    subst hx
    exact ⟨by decide, by decide⟩
  have HG := Lib.hid (show hugeV (N * M) = .agg (hugeA (mulL [a0, a1, a2, a3, a4, a5] [b0, b1, b2, b3, b4, b5] [0, 0, 0, 0, 0, 0])) from by
    rw [hA] at HWA HVA
    rw [hB] at HWB HVB
    have hv0 : valH [0, 0, 0, 0, 0, 0] = 0 := by simp [valH]
    have h1 := mulL_val HWA.out [b0, b1, b2, b3, b4, b5] [0, 0, 0, 0, 0, 0] rfl (Nat.le_refl _) HWB.out hz (by rw [HVA.out, HVB.out, hv0, Int.zero_add]; exact hf)
    rw [HVA.out, HVB.out, hv0, Int.zero_add] at h1
    rw [← h1]
    exact hugeV_of (mulL_len _ _ _) (mulL_words _ _ _ hz))
  rw [HG.out]
  unfold hugeV
  rw [hA] at HWA HVA ⊢
  rw [hB] at HWB HVB ⊢
  clear hf hN hM hA hB HG hN6 hM6
  have HTA := Lib.hid (show TBox ((((w.alloc (.cells #[.int .u64 a0, .int .u64 a1, .int .u64 a2, .int .u64 a3, .int .u64 a4, .int .u64 a5] 77)).alloc (.cells #[.int .u64 b0, .int .u64 b1, .int .u64 b2, .int .u64 b3, .int .u64 b4, .int .u64 b5] 77)).alloc (.cells #[.int .u64 0, .int .u64 0, .int .u64 0, .int .u64 0, .int .u64 0, .int .u64 0] 77)).alloc (.cells #[.int .u64 0, .int .u64 0, .int .u64 0, .int .u64 0, .int .u64 0, .int .u64 0] 77)) w.heap.size 77 (hugeA [a0, a1, a2, a3, a4, a5]) from (((TBox.new w _ _).alloc _).alloc _).alloc _)
  have HTB := Lib.hid (show TBox ((((w.alloc (.cells #[.int .u64 a0, .int .u64 a1, .int .u64 a2, .int .u64 a3, .int .u64 a4, .int .u64 a5] 77)).alloc (.cells #[.int .u64 b0, .int .u64 b1, .int .u64 b2, .int .u64 b3, .int .u64 b4, .int .u64 b5] 77)).alloc (.cells #[.int .u64 0, .int .u64 0, .int .u64 0, .int .u64 0, .int .u64 0, .int .u64 0] 77)).alloc (.cells #[.int .u64 0, .int .u64 0, .int .u64 0, .int .u64 0, .int .u64 0, .int .u64 0] 77)) (w.heap.size + 1) 77 #[.int .u64 b0, .int .u64 b1, .int .u64 b2, .int .u64 b3, .int .u64 b4, .int .u64 b5] from by
    have h := ((TBox.new (w.alloc (.cells #[.int .u64 a0, .int .u64 a1, .int .u64 a2, .int .u64 a3, .int .u64 a4, .int .u64 a5] 77)) #[.int .u64 b0, .int .u64 b1, .int .u64 b2, .int .u64 b3, .int .u64 b4, .int .u64 b5] 77).alloc (.cells #[.int .u64 0, .int .u64 0, .int .u64 0, .int .u64 0, .int .u64 0, .int .u64 0] 77)).alloc (.cells #[.int .u64 0, .int .u64 0, .int .u64 0, .int .u64 0, .int .u64 0, .int .u64 0] 77)
    simpa only [World.size_alloc] using h)
  have HTR := Lib.hid (show TBox ((((w.alloc (.cells #[.int .u64 a0, .int .u64 a1, .int .u64 a2, .int .u64 a3, .int .u64 a4, .int .u64 a5] 77)).alloc (.cells #[.int .u64 b0, .int .u64 b1, .int .u64 b2, .int .u64 b3, .int .u64 b4, .int .u64 b5] 77)).alloc (.cells #[.int .u64 0, .int .u64 0, .int .u64 0, .int .u64 0, .int .u64 0, .int .u64 0] 77)).alloc (.cells #[.int .u64 0, .int .u64 0, .int .u64 0, .int .u64 0, .int .u64 0, .int .u64 0] 77)) (w.heap.size + 2) 77 #[.int .u64 0, .int .u64 0, .int .u64 0, .int .u64 0, .int .u64 0, .int .u64 0] from by
    have h := (TBox.new ((w.alloc (.cells #[.int .u64 a0, .int .u64 a1, .int .u64 a2, .int .u64 a3, .int .u64 a4, .int .u64 a5] 77)).alloc (.cells #[.int .u64 b0, .int .u64 b1, .int .u64 b2, .int .u64 b3, .int .u64 b4, .int .u64 b5] 77)) #[.int .u64 0, .int .u64 0, .int .u64 0, .int .u64 0, .int .u64 0, .int .u64 0] 77).alloc (.cells #[.int .u64 0, .int .u64 0, .int .u64 0, .int .u64 0, .int .u64 0, .int .u64 0] 77)
    simpa only [World.size_alloc] using h)
  have HTO := Lib.hid (show TBox ((((w.alloc (.cells #[.int .u64 a0, .int .u64 a1, .int .u64 a2, .int .u64 a3, .int .u64 a4, .int .u64 a5] 77)).alloc (.cells #[.int .u64 b0, .int .u64 b1, .int .u64 b2, .int .u64 b3, .int .u64 b4, .int .u64 b5] 77)).alloc (.cells #[.int .u64 0, .int .u64 0, .int .u64 0, .int .u64 0, .int .u64 0, .int .u64 0] 77)).alloc (.cells #[.int .u64 0, .int .u64 0, .int .u64 0, .int .u64 0, .int .u64 0, .int .u64 0] 77)) (w.heap.size + 3) 77 (hugeA [0, 0, 0, 0, 0, 0]) from by
    have h := TBox.new (((w.alloc (.cells #[.int .u64 a0, .int .u64 a1, .int .u64 a2, .int .u64 a3, .int .u64 a4, .int .u64 a5] 77)).alloc (.cells #[.int .u64 b0, .int .u64 b1, .int .u64 b2, .int .u64 b3, .int .u64 b4, .int .u64 b5] 77)).alloc (.cells #[.int .u64 0, .int .u64 0, .int .u64 0, .int .u64 0, .int .u64 0, .int .u64 0] 77)) #[.int .u64 0, .int .u64 0, .int .u64 0, .int .u64 0, .int .u64 0, .int .u64 0] 77
    simp only [World.size_alloc] at h
    exact h)
  have HB0 := Lib.hid (show Below w.heap.size w ((((w.alloc (.cells #[.int .u64 a0, .int .u64 a1, .int .u64 a2, .int .u64 a3, .int .u64 a4, .int .u64 a5] 77)).alloc (.cells #[.int .u64 b0, .int .u64 b1, .int .u64 b2, .int .u64 b3, .int .u64 b4, .int .u64 b5] 77)).alloc (.cells #[.int .u64 0, .int .u64 0, .int .u64 0, .int .u64 0, .int .u64 0, .int .u64 0] 77)).alloc (.cells #[.int .u64 0, .int .u64 0, .int .u64 0, .int .u64 0, .int .u64 0, .int .u64 0] 77)) from ((((Below.refl _ _).alloc (Nat.le_refl _) _).alloc (by simp) _).alloc (by simp; omega) _).alloc (by simp; omega) _)
  have eA : hugeA [a0, a1, a2, a3, a4, a5] = #[.int .u64 a0, .int .u64 a1, .int .u64 a2, .int .u64 a3, .int .u64 a4, .int .u64 a5] := rfl
  have eB : hugeA [b0, b1, b2, b3, b4, b5] = #[.int .u64 b0, .int .u64 b1, .int .u64 b2, .int .u64 b3, .int .u64 b4, .int .u64 b5] := rfl
  rw [eA, eB]
  have HIX := Lib.hid (fun i hi => index_huge b0 b1 b2 b3 b4 b5 i hi)
  have HM0 := Lib.hid (mulAt_start (l := [a0, a1, a2, a3, a4, a5]) (m := [b0, b1, b2, b3, b4, b5]) hz)
  go_enter Try.func114, Try.ntmps114
  go_wp2_with fail
  generalize hw0 : ((((w.alloc (.cells #[.int .u64 a0, .int .u64 a1, .int .u64 a2, .int .u64 a3, .int .u64 a4, .int .u64 a5] 77)).alloc (.cells #[.int .u64 b0, .int .u64 b1, .int .u64 b2, .int .u64 b3, .int .u64 b4, .int .u64 b5] 77)).alloc (.cells #[.int .u64 0, .int .u64 0, .int .u64 0, .int .u64 0, .int .u64 0, .int .u64 0] 77)).alloc (.cells #[.int .u64 0, .int .u64 0, .int .u64 0, .int .u64 0, .int .u64 0, .int .u64 0] 77)) = w1 at *
  clear hw0
  have y0 := HTB.out.cell (i := 0) rfl
  have y1 := HTB.out.cell (i := 1) rfl
  have y2 := HTB.out.cell (i := 2) rfl
  have y3 := HTB.out.cell (i := 3) rfl
  have y4 := HTB.out.cell (i := 4) rfl
  have y5 := HTB.out.cell (i := 5) rfl
  have yl := HTB.out.lt
  go_wp2_with fail
  clear y0 y1 y2 y3 y4 y5 yl eA eB
  go_loopw [15] (fun i wx => ∃ (k : Nat) (out : List Int), k ≤ 6 ∧ i = .int .i64 k ∧ Hid (MulAt [a0, a1, a2, a3, a4, a5] [b0, b1, b2, b3, b4, b5] [0, 0, 0, 0, 0, 0] k out) ∧ Hid (TBox wx (w.heap.size + 3) 77 (hugeA out)) ∧ Hid (TBox wx w.heap.size 77 (hugeA [a0, a1, a2, a3, a4, a5])) ∧ Hid (TBox wx (w.heap.size + 2) 77 #[.int .u64 0, .int .u64 0, .int .u64 0, .int .u64 0, .int .u64 0, .int .u64 0]) ∧ Hid (Below w.heap.size w wx)) (fun i _ => 6 - (intOf i).toNat)
  case atStart => exact ⟨0, _, by omega, rfl, HM0, HTO, HTA, HTR, HB0⟩
  case round =>
    clear HTA HTB HTR HTO HB0 HM0
    obtain ⟨i, out, hi, rfl, HMA, HTO, HTA, HTR, HBX⟩ := hrel
    by_cases hi6 : i < 6
    · have hi6' : (i : Int) < 6 := by omega
      have hix := HIX.out i hi6
      have hy : OneW ([b0, b1, b2, b3, b4, b5][i]'(by simpa using hi6)) := HWB.out _ (List.getElem_mem _)
      have HNX := Lib.hid (mulAt_step HMA.out (by simpa using hi6) rfl)
      have HWO := Lib.hid HMA.out.1
      have hol : out.length = 6 := HMA.out.2.1
      generalize [b0, b1, b2, b3, b4, b5][i]'(by simpa using hi6) = y at *
      have HY := Lib.hid hy
      have HR0 := Lib.hid (mrowAt_start y [a0, a1, a2, a3, a4, a5] out i)
      clear hy HMA
      go_wp2_with fail
      clear hix
      obtain ⟨wo, rfl⟩ : ∃ wo : World, wo = wr := ⟨_, rfl⟩
      go_loopw [9, 8] (fun j c wx => ∃ (k : Nat) (cur : List Int) (cc : Int), i + k ≤ 6 ∧ j = .int .i64 k ∧ c = .int .u64 cc ∧ Hid (MRowAt y [a0, a1, a2, a3, a4, a5] out i k cur cc) ∧ Hid (TBox wx (w.heap.size + 3) 77 (hugeA cur)) ∧ Hid (TBox wx w.heap.size 77 (hugeA [a0, a1, a2, a3, a4, a5])) ∧ Hid (TBox wx (w.heap.size + 2) 77 #[.int .u64 0, .int .u64 0, .int .u64 0, .int .u64 0, .int .u64 0, .int .u64 0]) ∧ Hid (Below w.heap.size w wx)) (fun j _ _ => 6 - i - (intOf j).toNat)
      case atStart => exact ⟨0, _, 0, by omega, rfl, rfl, HR0, HTO, HTA, HTR, HBX⟩
      case round =>
        clear HTA HTR HTO HBX HR0
        obtain ⟨k, cur, cc, hk, rfl, rfl, HRA, HTO, HTA, HTR, HBX⟩ := hrel
        have hlen := mrowAt_len HRA.out
        have aw : IntKind.i64.wrap ((i : Int) + (k : Int)) = ((i + k : Nat) : Int) := by rw [← Int.natCast_add]; exact IntWalk.i64_in _ (by omega)
        have hrl := HTO.out.lt
        by_cases hk6 : i + k < 6
        · have hk6' : ((i + k : Nat) : Int) < 6 := by omega
          have hkk6 : k < 6 := by omega
          have hkk6' : (k : Int) < 6 := by omega
          have hx : OneW ([a0, a1, a2, a3, a4, a5][k]'(by simpa using hkk6)) := HWA.out _ (List.getElem_mem _)
          have ho : OneW (out[i + k]'(by omega)) := HWO.out _ (List.getElem_mem _)
          have HNR := Lib.hid (mrowAt_step HRA.out (by omega) (by simpa using hkk6) HWA.out HWO.out HY.out)
          have hcc := HRA.out.1
          have z0 : wr.cell? ⟨w.heap.size, k, none⟩ = some (.int .u64 ([a0, a1, a2, a3, a4, a5][k]'(by simpa using hkk6))) := HTA.out.cell (hugeA_get (i := k) (by simpa using hkk6))
          have z1 : wr.cell? ⟨w.heap.size + 3, i + k, none⟩ = some (.int .u64 (out[i + k]'(by omega))) := by
            have h := HTO.out.cell (hugeA_get (i := i + k) (by omega))
            rw [mrowAt_get HRA.out (by omega) (by omega)] at h
            exact h
          have zf := HTO.out.frozen (i + k)
          generalize [a0, a1, a2, a3, a4, a5][k]'(by simpa using hkk6) = x at *
          generalize out[i + k]'(by omega) = o at *
          obtain ⟨q1, q2, q3, q4⟩ := row_carry ho hx HY.out hcc
          have HM := Lib.hid (fun W => mul64 x y hx HY.out W)
          have hadd1 := fun W => add64_0 (loW (x * y)) cc (lo_range (x * y)) hcc W
          have hadd2 := fun W => add64_0 o (loW (loW (x * y) + cc)) ho (lo_range _) W
          rw [q1] at hadd2
          have hcw := carry_word2 ho hx HY.out hcc
          generalize loW (o + x * y + cc) = rv at *
          generalize hiW (o + x * y + cc) = cv at *
          generalize hiW (o + loW (loW (x * y) + cc)) = c2 at *
          generalize hiW (x * y + cc) = h2 at *
          generalize hiW (loW (x * y) + cc) = c1 at *
          generalize loW (loW (x * y) + cc) = sv at *
          generalize hiW (x * y) = hv at *
          generalize loW (x * y) = lv at *
          have HT2 := Lib.hid (HTO.out.set (i + k) (.int .u64 rv))
          rw [hugeA_set] at HT2
          have HTA2 := Lib.hid (HTA.out.setOther (b' := w.heap.size + 3) (i := i + k) (by omega) (.int .u64 rv))
          have HTR2 := Lib.hid (HTR.out.setOther (b' := w.heap.size + 3) (i := i + k) (by omega) (.int .u64 rv))
          have HB2 := Lib.hid (HBX.out.setCell (p := ⟨w.heap.size + 3, i + k, none⟩) (by simp) (.int .u64 rv))
          clear HRA hx ho hcc hlen q1 q4 hcw
          go_wp2_with (first | (go_at_call 76; refine (HM.out _).mono ?_; rintro e w' ⟨rfl, rfl⟩) | fail)
          go_roundw
          case rel => exact ⟨k + 1, _, cv, by omega, by first | rfl | go_num, rfl, HNR, HT2, HTA2, HTR2, HB2⟩
          case measure => simp [intOf]; omega
        · have hkk : ¬ (((i + k : Nat) : Int) < 6) := by omega
          have HE := Lib.hid (mrowAt_end HRA.out (by omega) (by simp; omega))
          have HM2 := Lib.hid (show MulAt [a0, a1, a2, a3, a4, a5] [b0, b1, b2, b3, b4, b5] [0, 0, 0, 0, 0, 0] (i + 1) cur by rw [HE.out]; exact HNX.out)
          go_wp2_with fail
          go_roundw
          case rel => exact ⟨i + 1, cur, by omega, by first | rfl | go_num, HM2, HTO, HTA, HTR, HBX⟩
          case measure => simp [intOf]; omega
    · have hkk : i = 6 := by omega
      subst hkk
      have HE := Lib.hid (mulAt_end HMA.out rfl)
      have hlen : out.length = 6 := HMA.out.2.1
      obtain ⟨c0, c1, c2, c3, c4, c5, rfl⟩ := six hlen
      have ht := HTO.out
      have e0 : hugeA [c0, c1, c2, c3, c4, c5] = #[.int .u64 c0, .int .u64 c1, .int .u64 c2, .int .u64 c3, .int .u64 c4, .int .u64 c5] := rfl
      rw [e0] at ht
      have y0 := TBox.cell (i := 0) ht rfl
      have y1 := TBox.cell (i := 1) ht rfl
      have y2 := TBox.cell (i := 2) ht rfl
      have y3 := TBox.cell (i := 3) ht rfl
      have y4 := TBox.cell (i := 4) ht rfl
      have y5 := TBox.cell (i := 5) ht rfl
      have yl := TBox.lt ht
      have hr := HTR.out
      have r0 := TBox.cell (i := 0) hr rfl
      have r1 := TBox.cell (i := 1) hr rfl
      have r2 := TBox.cell (i := 2) hr rfl
      have r3 := TBox.cell (i := 3) hr rfl
      have r4 := TBox.cell (i := 4) hr rfl
      have r5 := TBox.cell (i := 5) hr rfl
      have rf0 := TBox.frozen hr 0
      have rf1 := TBox.frozen hr 1
      have rf2 := TBox.frozen hr 2
      have rf3 := TBox.frozen hr 3
      have rf4 := TBox.frozen hr 4
      have rf5 := TBox.frozen hr 5
      have HBE := Lib.hid ((((((HBX.out.setCell (p := ⟨w.heap.size + 2, 0, none⟩) (by simp) (.int .u64 c0)).setCell (p := ⟨w.heap.size + 2, 1, none⟩) (by simp) (.int .u64 c1)).setCell (p := ⟨w.heap.size + 2, 2, none⟩) (by simp) (.int .u64 c2)).setCell (p := ⟨w.heap.size + 2, 3, none⟩) (by simp) (.int .u64 c3)).setCell (p := ⟨w.heap.size + 2, 4, none⟩) (by simp) (.int .u64 c4)).setCell (p := ⟨w.heap.size + 2, 5, none⟩) (by simp) (.int .u64 c5))
      clear hr ht
      go_wp2_with fail
      exact bodyPost_ret (v := .agg #[.int .u64 c0, .int .u64 c1, .int .u64 c2, .int .u64 c3, .int .u64 c4, .int .u64 c5]) (by simp [results, Try.results114, go_sem, r0, r1, r2, r3, r4, r5]) rfl ⟨by rw [← HE.out]; rfl, HBE.out⟩
end Go.Proofs.Ytopmdeefcjdadaa
