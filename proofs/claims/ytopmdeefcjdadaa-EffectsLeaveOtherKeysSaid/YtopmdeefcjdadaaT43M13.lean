/- Numbers of six words as values: their words, the value of a number, look-ups in an array of six. No walk in it. effect's numbers of six words: of, times. effect's numbers of six words: plus. (printed by wip/gen/gen_hugeplus.py) -/
import Derived.Test.YtopmdeefcjdadaaT43M12
import Derived.Test.YtopmdeefcjdadaaT43M08
import Derived.BigRegion

namespace Go.Proofs.Ytopmdeefcjdadaa
open Go.RowKit
set_option linter.unusedVariables false
set_option linter.unusedSimpArgs false

def hugeA (l : List Int) : Array Value := (l.map (fun x => Value.int .u64 x)).toArray
def limbs : Nat → Int → List Int
  | 0, _ => []
  | n + 1, x => loW x :: limbs n (hiW x)
theorem limbs_len : ∀ n x, (limbs n x).length = n
  | 0, _ => rfl
  | n + 1, x => by simp [limbs, limbs_len n]
theorem limbs_words : ∀ n x, Words (limbs n x)
  | 0, _ => by simp [limbs, Words]
  | n + 1, x => words_cons (lo_range _) (limbs_words n _)
theorem limbs_val : ∀ n x, 0 ≤ x → x < powW n → valH (limbs n x) = x
  | 0, x, h0, h1 => by simp [powW] at h1; simp [limbs, valH]; omega
  | n + 1, x, h0, h1 => by
    have hs := split_W x
    have h2 : hiW x < powW n := le_of_W (by have := (lo_range x).1; simp only [powW] at h1; omega)
    rw [limbs, valH, limbs_val n _ (hi_nonneg h0) h2, hs]
theorem limbs_of : ∀ l : List Int, Words l → limbs l.length (valH l) = l
  | [], _ => rfl
  | a :: l, h => by
    obtain ⟨h0, h1⟩ := (oneW_iff a).1 h.head
    have hs := split_W (a + W64 * valH l)
    have hr := lo_range (a + W64 * valH l)
    have hv := (valH_bound l h.tail).1
    have e2 : hiW (a + W64 * valH l) = valH l := by unfold hiW W64 at *; omega
    have e1 : loW (a + W64 * valH l) = a := by rw [e2] at hs; omega
    rw [List.length_cons, limbs, valH, e1, e2, limbs_of l h.tail]
def hugeV (N : Int) : Value := .agg (hugeA (limbs 6 N))
theorem six {α : Type} {l : List α} (h : l.length = 6) : ∃ a b c d e f, l = [a, b, c, d, e, f] := by
  match l, h with
  | [a, b, c, d, e, f], _ => exact ⟨a, b, c, d, e, f, rfl⟩
theorem hugeV_of {l : List Int} (h : l.length = 6) (hw : Words l) : hugeV (valH l) = .agg (hugeA l) := by
  unfold hugeV
  rw [← h, limbs_of l hw]
theorem hugeA_get {l : List Int} {i : Nat} (h : i < l.length) : (hugeA l)[i]? = some (.int .u64 l[i]) := by simp [hugeA, h]
theorem hugeA_set (l : List Int) (i : Nat) (v : Int) : (hugeA l).setIfInBounds i (.int .u64 v) = hugeA (l.set i v) := by simp [hugeA, List.map_set]
theorem index_h0 (a b c d e f : Int) (w : World) : (Instr.index 77 (.agg #[.int .u64 a, .int .u64 b, .int .u64 c, .int .u64 d, .int .u64 e, .int .u64 f]) (.int .i64 0)).run Try.prog w = .ok (.int .u64 a) w := by kernel_rfl
theorem index_h1 (a b c d e f : Int) (w : World) : (Instr.index 77 (.agg #[.int .u64 a, .int .u64 b, .int .u64 c, .int .u64 d, .int .u64 e, .int .u64 f]) (.int .i64 1)).run Try.prog w = .ok (.int .u64 b) w := by kernel_rfl
theorem index_h2 (a b c d e f : Int) (w : World) : (Instr.index 77 (.agg #[.int .u64 a, .int .u64 b, .int .u64 c, .int .u64 d, .int .u64 e, .int .u64 f]) (.int .i64 2)).run Try.prog w = .ok (.int .u64 c) w := by kernel_rfl
theorem index_h3 (a b c d e f : Int) (w : World) : (Instr.index 77 (.agg #[.int .u64 a, .int .u64 b, .int .u64 c, .int .u64 d, .int .u64 e, .int .u64 f]) (.int .i64 3)).run Try.prog w = .ok (.int .u64 d) w := by kernel_rfl
theorem index_h4 (a b c d e f : Int) (w : World) : (Instr.index 77 (.agg #[.int .u64 a, .int .u64 b, .int .u64 c, .int .u64 d, .int .u64 e, .int .u64 f]) (.int .i64 4)).run Try.prog w = .ok (.int .u64 e) w := by kernel_rfl
theorem index_h5 (a b c d e f : Int) (w : World) : (Instr.index 77 (.agg #[.int .u64 a, .int .u64 b, .int .u64 c, .int .u64 d, .int .u64 e, .int .u64 f]) (.int .i64 5)).run Try.prog w = .ok (.int .u64 f) w := by kernel_rfl
theorem index_huge (a b c d e f : Int) (i : Nat) (hi : i < 6) (w : World) : (Instr.index 77 (.agg #[.int .u64 a, .int .u64 b, .int .u64 c, .int .u64 d, .int .u64 e, .int .u64 f]) (.int .i64 (i : Int))).run Try.prog w = .ok (.int .u64 ([a, b, c, d, e, f][i]'hi)) w := by
  have h : i = 0 ∨ i = 1 ∨ i = 2 ∨ i = 3 ∨ i = 4 ∨ i = 5 := by omega
  rcases h with rfl | rfl | rfl | rfl | rfl | rfl
  · exact index_h0 a b c d e f w
  · exact index_h1 a b c d e f w
  · exact index_h2 a b c d e f w
  · exact index_h3 a b c d e f w
  · exact index_h4 a b c d e f w
  · exact index_h5 a b c d e f w
def prodL (l : List Int) : Int := l.foldl (· * ·) 1
theorem prodL_take (l : List Int) (j : Nat) (h : j < l.length) : prodL (l.take (j + 1)) = prodL (l.take j) * l[j] := by
  unfold prodL
  rw [List.take_succ_eq_append_getElem h, List.foldl_append]
  rfl
/-- a product with a further number, word by word -/
theorem times_carry {x n c : Int} (hx : OneW x) (hn : OneW n) (hc : OneW c) : loW (loW (x * n) + c) = loW (x * n + c) ∧ IntKind.u64.wrap (hiW (x * n) + hiW (loW (x * n) + c)) = hiW (x * n + c) := by
  have h := carry_word hx hn hc
  have hp : 0 ≤ x * n := Int.mul_nonneg hx.1 hn.1
  generalize x * n = p at *
  obtain ⟨c0, c1⟩ := hc
  unfold OneW at h
  simp only [IntKind.wrap_u64]
  unfold hiW loW at *
  omega
theorem row_carry {o x y c : Int} (ho : OneW o) (hx : OneW x) (hy : OneW y) (hc : OneW c) :
    loW (o + loW (loW (x * y) + c)) = loW (o + x * y + c) ∧ IntKind.u64.wrap (hiW (x * y) + hiW (loW (x * y) + c)) = hiW (x * y + c) ∧ IntKind.u64.wrap (hiW (x * y + c) + hiW (o + loW (loW (x * y) + c))) = hiW (o + x * y + c) ∧ OneW (hiW (x * y + c)) := by
  have h := carry_word2 ho hx hy hc
  have h' := carry_word hx hy hc
  have hp : 0 ≤ x * y := Int.mul_nonneg hx.1 hy.1
  generalize x * y = p at *
  obtain ⟨c0, c1⟩ := hc
  obtain ⟨o0, o1⟩ := ho
  unfold OneW at *
  simp only [IntKind.wrap_u64]
  unfold hiW loW at *
  omega
end Go.Proofs.Ytopmdeefcjdadaa

namespace Go.Proofs.Ytopmdeefcjdadaa
open Go.RowKit
set_option linter.unusedVariables false
set_option linter.unusedSimpArgs false

set_option maxHeartbeats 400000 in
theorem hOf_any (n : Int) (h0 : 0 ≤ n) (h1 : n ≤ 9223372036854775807) (w : World) :
    Calls Try.prog 113 #[.int .i64 n] w fun e w' => e = .returned (hugeV n) ∧ Below w.heap.size w w' := by
  have HV := Lib.hid (show hugeV n = .agg #[.int .u64 n, .int .u64 0, .int .u64 0, .int .u64 0, .int .u64 0, .int .u64 0] from by
    have e1 : loW n = n := lo_small n ⟨h0, by omega⟩
    have e2 : hiW n = 0 := hi_small n ⟨h0, by omega⟩
    unfold hugeV limbs limbs limbs limbs limbs limbs limbs
    rw [e1, e2]
    rfl)
  have hw : IntKind.u64.wrap n = n := IntWalk.u64_in _ (by omega)
  rw [HV.out]
  go_enter Try.func113, Try.ntmps113
  go_wp2
  exact bodyPost_ret (v := .agg #[.int .u64 n, .int .u64 0, .int .u64 0, .int .u64 0, .int .u64 0, .int .u64 0]) (by simp [results, Try.results113, go_sem]) rfl ⟨rfl, (Below.refl _ _).alloc (Nat.le_refl _) _⟩
/-- the state of times within a word -/
def TimesAt (n : Int) (l : List Int) (i : Nat) (cur : List Int) (c : Int) : Prop := OneW c ∧ ∃ done, done.length = i ∧ cur = done ++ l.drop i ∧ timesL n l 0 = done ++ timesL n (l.drop i) c
theorem timesAt_start (n : Int) (l : List Int) : TimesAt n l 0 l 0 := ⟨⟨by decide, by decide⟩, [], rfl, rfl, rfl⟩
theorem timesAt_step {n : Int} {l : List Int} {i : Nat} {cur : List Int} {c : Int} (h : TimesAt n l i cur c) (hi : i < l.length) (hl : Words l) (hn : OneW n) :
    TimesAt n l (i + 1) (cur.set i (loW (l[i] * n + c))) (hiW (l[i] * n + c)) := by
  obtain ⟨hc, done, h1, h2, h3⟩ := h
  have hx := hl _ (List.getElem_mem hi)
  refine ⟨carry_word hx hn hc, done ++ [loW (l[i] * n + c)], by simp [h1], ?_, ?_⟩
  · rw [h2, List.set_append_right _ _ (by omega), h1, Nat.sub_self, List.drop_eq_getElem_cons hi, List.set_cons_zero, List.append_assoc]
    rfl
  · rw [h3, List.drop_eq_getElem_cons hi, timesL]
    simp
theorem timesAt_end {n : Int} {l : List Int} {cur : List Int} {c : Int} (h : TimesAt n l l.length cur c) : cur = timesL n l 0 := by
  obtain ⟨hc, done, h1, h2, h3⟩ := h
  rw [List.drop_length] at h2 h3
  rw [h2, h3]
  simp [timesL]
theorem timesAt_len {n : Int} {l : List Int} {i : Nat} {cur : List Int} {c : Int} (h : TimesAt n l i cur c) (hi : i ≤ l.length) : cur.length = l.length := by
  obtain ⟨hc, done, h1, h2, h3⟩ := h
  rw [h2, List.length_append, List.length_drop, h1]
  omega
set_option maxRecDepth 100000 in
set_option maxHeartbeats 8000000 in
theorem hTimes_any (N : Int) (l : List Int) (b0 off cap : Nat) (w : World) (h0 : 0 ≤ N) (hl : ∀ x ∈ l, 0 ≤ x ∧ x ≤ 9223372036854775807) (hf : ∀ j, j ≤ l.length → N * prodL (l.take j) < powW 6) (hb : b0 < w.heap.size) (hc : ∀ i (h : i < l.length), w.cell? ⟨b0, off + i, none⟩ = some (.int .i64 l[i])) (hlen : l.length ≤ 1000) :
    Calls Try.prog 45 #[hugeV N, .slice (some ⟨b0, off, none⟩) l.length cap] w fun e w' => e = .returned (hugeV (N * prodL l)) ∧ Below w.heap.size w w' := by
  have HC := Lib.hid hc
  have HL := Lib.hid hl
  have HF := Lib.hid hf
  have HST := Lib.hid (fun j (h : j < l.length) => prodL_take l j h)
  have HW0 := Lib.hid (limbs_words 6 N)
  have HV0 := Lib.hid (limbs_val 6 N h0 (by have := hf 0 (Nat.zero_le _); rw [List.take_zero] at this; simpa [prodL] using this))
  have HEND := Lib.hid (show prodL (l.take l.length) = prodL l by rw [List.take_length])
  have HP0 := Lib.hid (show prodL (l.take 0) = 1 from rfl)
  obtain ⟨a0, a1, a2, a3, a4, a5, hA⟩ := six (limbs_len 6 N)
  unfold hugeV
  rw [hA] at HW0 HV0 ⊢
  clear hc hl hf h0 hA
  have HT0 := Lib.hid (show TBox ((w.alloc (.cells (hugeA [a0, a1, a2, a3, a4, a5]) 77)).alloc (.cells #[.int .u64 0, .int .u64 0, .int .u64 0, .int .u64 0, .int .u64 0, .int .u64 0] 77)) w.heap.size 77 (hugeA [a0, a1, a2, a3, a4, a5]) from (TBox.new w _ _).alloc _)
  have HR0 := Lib.hid (show TBox ((w.alloc (.cells (hugeA [a0, a1, a2, a3, a4, a5]) 77)).alloc (.cells #[.int .u64 0, .int .u64 0, .int .u64 0, .int .u64 0, .int .u64 0, .int .u64 0] 77)) (w.heap.size + 1) 77 #[.int .u64 0, .int .u64 0, .int .u64 0, .int .u64 0, .int .u64 0, .int .u64 0] from by
    have h := TBox.new (w.alloc (.cells (hugeA [a0, a1, a2, a3, a4, a5]) 77)) #[.int .u64 0, .int .u64 0, .int .u64 0, .int .u64 0, .int .u64 0, .int .u64 0] 77
    simpa only [World.size_alloc] using h)
  have HB0 := Lib.hid (show Below w.heap.size w ((w.alloc (.cells (hugeA [a0, a1, a2, a3, a4, a5]) 77)).alloc (.cells #[.int .u64 0, .int .u64 0, .int .u64 0, .int .u64 0, .int .u64 0, .int .u64 0] 77)) from ((Below.refl _ _).alloc (Nat.le_refl _) _).alloc (by simp) _)
  have HZ0 := Lib.hid (show w.heap.size + 2 ≤ (((w.alloc (.cells (hugeA [a0, a1, a2, a3, a4, a5]) 77)).alloc (.cells #[.int .u64 0, .int .u64 0, .int .u64 0, .int .u64 0, .int .u64 0, .int .u64 0] 77))).heap.size by simp)
  have e0 : hugeA [a0, a1, a2, a3, a4, a5] = #[.int .u64 a0, .int .u64 a1, .int .u64 a2, .int .u64 a3, .int .u64 a4, .int .u64 a5] := rfl
  rw [e0]
  go_enter Try.func45, Try.ntmps45
  go_wp2_with fail
  rw [e0] at HT0 HR0 HB0 HZ0
  generalize hw0 : ((w.alloc (.cells #[.int .u64 a0, .int .u64 a1, .int .u64 a2, .int .u64 a3, .int .u64 a4, .int .u64 a5] 77)).alloc (.cells #[.int .u64 0, .int .u64 0, .int .u64 0, .int .u64 0, .int .u64 0, .int .u64 0] 77)) = w1 at *
  clear hw0
  go_loopw [16] (fun i wx => ∃ (j : Nat) (cur : List Int), j ≤ l.length ∧ i = .int .i64 j ∧ cur.length = 6 ∧ Hid (Words cur) ∧ Hid (valH cur = N * prodL (l.take j)) ∧ Hid (TBox wx w.heap.size 77 (hugeA cur)) ∧ Hid (TBox wx (w.heap.size + 1) 77 #[.int .u64 0, .int .u64 0, .int .u64 0, .int .u64 0, .int .u64 0, .int .u64 0]) ∧ Hid (Below w.heap.size w wx)) (fun i _ => l.length - (intOf i).toNat)
  case atStart => exact ⟨0, [a0, a1, a2, a3, a4, a5], Nat.zero_le _, rfl, rfl, HW0, Lib.hid (by rw [HV0.out, HP0.out, Int.mul_one]), Lib.hid (by rw [e0]; exact HT0.out), HR0, HB0⟩
  case round =>
    clear HT0 HR0 HB0 HZ0 HW0 HV0 e0 HP0
    obtain ⟨j, cur, hj, rfl, hcl, HWD, HVL, HTX, HRX, HBX⟩ := hrel
    obtain ⟨c0, c1, c2, c3, c4, c5, rfl⟩ := six hcl
    have e0 : hugeA [c0, c1, c2, c3, c4, c5] = #[.int .u64 c0, .int .u64 c1, .int .u64 c2, .int .u64 c3, .int .u64 c4, .int .u64 c5] := rfl
    have ht := HTX.out
    rw [e0] at ht
    have y0 := TBox.cell (i := 0) ht rfl
    have y1 := TBox.cell (i := 1) ht rfl
    have y2 := TBox.cell (i := 2) ht rfl
    have y3 := TBox.cell (i := 3) ht rfl
    have y4 := TBox.cell (i := 4) ht rfl
    have y5 := TBox.cell (i := 5) ht rfl
    have yl := TBox.lt ht
    have hsz := HRX.out.lt
    by_cases hlt : j < l.length
    · have x0 := (HBX.out.cell (p := ⟨b0, off + j, none⟩) hb).trans (HC.out j hlt)
      have hbr : b0 < wr.heap.size := by omega
      obtain ⟨n0, n1⟩ := HL.out _ (List.getElem_mem hlt)
      have HPN := Lib.hid (HST.out j hlt)
      have HFN := Lib.hid (HF.out (j + 1) (by omega))
      generalize l[j] = n at *
      have a1 : IntKind.u64.wrap n = n := IntWalk.u64_in _ (by omega)
      have HN := Lib.hid (show OneW n from ⟨n0, by omega⟩)
      have HIX := Lib.hid (fun i hi => index_huge c0 c1 c2 c3 c4 c5 i hi)
      have HS0 := Lib.hid (timesAt_start n [c0, c1, c2, c3, c4, c5])
      clear ht
      go_wp2_with fail
      clear x0 y0 y1 y2 y3 y4 y5 yl
      obtain ⟨wo, rfl⟩ : ∃ wo : World, wo = wr := ⟨_, rfl⟩
      go_loopw [21, 7] (fun i c wx => ∃ (k : Nat) (cur : List Int) (cc : Int), k ≤ 6 ∧ i = .int .i64 k ∧ c = .int .u64 cc ∧ Hid (TimesAt n [c0, c1, c2, c3, c4, c5] k cur cc) ∧ Hid (TBox wx w.heap.size 77 (hugeA cur)) ∧ Hid (TBox wx (w.heap.size + 1) 77 #[.int .u64 0, .int .u64 0, .int .u64 0, .int .u64 0, .int .u64 0, .int .u64 0]) ∧ Hid (Below w.heap.size w wx)) (fun i _ _ => 6 - (intOf i).toNat)
      case atStart => exact ⟨0, _, 0, by omega, rfl, rfl, HS0, HTX, HRX, HBX⟩
      case round =>
        clear HTX HRX HBX
        obtain ⟨k, cur, cc, hk, rfl, rfl, HTA, HTX, HRX, HBX⟩ := hrel
        by_cases hk6 : k < 6
        · have hk6' : (k : Int) < 6 := by omega
          have hix := HIX.out k hk6
          have hlen := timesAt_len HTA.out (by simpa using hk)
          have hx : OneW ([c0, c1, c2, c3, c4, c5][k]'(by simpa using hk6)) := HWD.out _ (List.getElem_mem _)
          have HNX := Lib.hid (timesAt_step HTA.out (by simpa using hk6) HWD.out HN.out)
          generalize [c0, c1, c2, c3, c4, c5][k]'(by simpa using hk6) = x at *
          have hcc := HTA.out.1
          obtain ⟨q1, q2⟩ := times_carry hx HN.out hcc
          have hcw := carry_word hx HN.out hcc
          have HM := Lib.hid (fun W => mul64 x n hx HN.out W)
          have hlo := lo_range (x * n)
          have hadd := fun W => add64_0 (loW (x * n)) cc hlo hcc W
          rw [q1] at hadd
          generalize loW (x * n + cc) = sv at *
          generalize hiW (x * n + cc) = cv at *
          generalize hiW (loW (x * n) + cc) = kv at *
          generalize hiW (x * n) = hv at *
          generalize loW (x * n) = lv at *
          obtain ⟨zv, z0⟩ : ∃ zv, wr.cell? ⟨w.heap.size, k, none⟩ = some (.int .u64 zv) := ⟨_, HTX.out.cell (hugeA_get (by rw [hlen]; simpa using hk6))⟩
          have zf := HTX.out.frozen k
          have zl := HTX.out.lt
          have HT2 := Lib.hid (HTX.out.set k (.int .u64 sv))
          rw [hugeA_set] at HT2
          have HR2 := Lib.hid (HRX.out.setOther (b' := w.heap.size) (i := k) (by omega) (.int .u64 sv))
          have HB2 := Lib.hid (HBX.out.setCell (p := ⟨w.heap.size, k, none⟩) (Nat.le_refl _) (.int .u64 sv))
          clear HTX HRX HBX HTA q1 hx hcc hcw hlo hlen
          go_wp2_with (first | (go_at_call 76; refine (HM.out _).mono ?_; rintro e w' ⟨rfl, rfl⟩) | fail)
          go_roundw
          case rel => exact ⟨k + 1, _, cv, by omega, by first | rfl | go_num, rfl, HNX, HT2, HR2, HB2⟩
          case measure => simp [intOf]; omega
        · have hkk : k = 6 := by omega
          subst hkk
          have HE := Lib.hid (timesAt_end HTA.out)
          have HW2 := Lib.hid (show Words cur by rw [HE.out]; exact timesL_words _ _ _)
          have HL2 : cur.length = 6 := by rw [HE.out, timesL_len]; rfl
          have HV2 := Lib.hid (show valH cur = N * prodL (l.take (j + 1)) by
            rw [HE.out, timesL_val n0 _ _ (Int.le_refl _) HWD.out (by rw [HVL.out, Int.add_zero, Int.mul_assoc, ← HPN.out]; exact HFN.out), HVL.out, Int.add_zero, Int.mul_assoc, ← HPN.out])
          go_wp2_with fail
          go_roundw
          case rel => exact ⟨j + 1, cur, by omega, by first | rfl | go_num, HL2, HW2, HV2, HTX, HRX, HBX⟩
          case measure => simp [intOf]; omega
    · have hjj : j = l.length := by omega
      subst hjj
      have HV := Lib.hid (show hugeV (N * prodL l) = .agg #[.int .u64 c0, .int .u64 c1, .int .u64 c2, .int .u64 c3, .int .u64 c4, .int .u64 c5] by
        rw [← HEND.out, ← HVL.out, hugeV_of rfl HWD.out, e0])
      have hr := HRX.out
      have r0 := TBox.cell (i := 0) hr rfl
      have r1 := TBox.cell (i := 1) hr rfl
      have r2 := TBox.cell (i := 2) hr rfl
      have r3 := TBox.cell (i := 3) hr rfl
      have r4 := TBox.cell (i := 4) hr rfl
      have r5 := TBox.cell (i := 5) hr rfl
      have rf0 := TBox.frozen hr 0
      have rf1 := TBox.frozen hr 1
      have rf2 := TBox.frozen hr 2
      have rf3 := TBox.frozen hr 3
      have rf4 := TBox.frozen hr 4
      have rf5 := TBox.frozen hr 5
      have HBE := Lib.hid ((((((HBX.out.setCell (p := ⟨w.heap.size + 1, 0, none⟩) (by simp) (.int .u64 c0)).setCell (p := ⟨w.heap.size + 1, 1, none⟩) (by simp) (.int .u64 c1)).setCell (p := ⟨w.heap.size + 1, 2, none⟩) (by simp) (.int .u64 c2)).setCell (p := ⟨w.heap.size + 1, 3, none⟩) (by simp) (.int .u64 c3)).setCell (p := ⟨w.heap.size + 1, 4, none⟩) (by simp) (.int .u64 c4)).setCell (p := ⟨w.heap.size + 1, 5, none⟩) (by simp) (.int .u64 c5))
      clear hr ht
      go_wp2_with fail
      exact bodyPost_ret (v := .agg #[.int .u64 c0, .int .u64 c1, .int .u64 c2, .int .u64 c3, .int .u64 c4, .int .u64 c5]) (by simp [results, Try.results45, go_sem, r0, r1, r2, r3, r4, r5]) rfl ⟨congrArg Ending.returned HV.out.symm, HBE.out⟩
end Go.Proofs.Ytopmdeefcjdadaa

namespace Go.Proofs.Ytopmdeefcjdadaa
open Go.RowKit
set_option linter.unusedVariables false
set_option linter.unusedSimpArgs false

/-- the state of plus within a word -/
def PlusAt (l m : List Int) (i : Nat) (cur : List Int) (c : Int) : Prop := (0 ≤ c ∧ c ≤ 1) ∧ ∃ done, done.length = i ∧ cur = done ++ l.drop i ∧ plusL l m 0 = done ++ plusL (l.drop i) (m.drop i) c
theorem PlusAt_start (l m : List Int) : PlusAt l m 0 l 0 := ⟨⟨by decide, by decide⟩, [], rfl, rfl, rfl⟩
theorem Plus_carry {x y c : Int} (hx : OneW x) (hy : OneW y) (hc : 0 ≤ c ∧ c ≤ 1) : 0 ≤ hiW (x + y + c) ∧ hiW (x + y + c) ≤ 1 := by
  unfold OneW at *
  unfold hiW
  omega
theorem PlusAt_step {l m : List Int} {i : Nat} {cur : List Int} {c : Int} (h : PlusAt l m i cur c) (hi : i < l.length) (hm : i < m.length) (hl : Words l) (hw : Words m) :
    PlusAt l m (i + 1) (cur.set i (loW (l[i] + m[i] + c))) (hiW (l[i] + m[i] + c)) := by
  obtain ⟨hc, done, h1, h2, h3⟩ := h
  have hx := hl _ (List.getElem_mem hi)
  have hy := hw _ (List.getElem_mem hm)
  refine ⟨Plus_carry hx hy hc, done ++ [loW (l[i] + m[i] + c)], by simp [h1], ?_, ?_⟩
  · rw [h2, List.set_append_right _ _ (by omega), h1, Nat.sub_self, List.drop_eq_getElem_cons hi, List.set_cons_zero, List.append_assoc]
    rfl
  · rw [h3, List.drop_eq_getElem_cons hi, List.drop_eq_getElem_cons hm, plusL]
    simp
theorem PlusAt_end {l m : List Int} {cur : List Int} {c : Int} (h : PlusAt l m l.length cur c) (hlm : l.length = m.length) : cur = plusL l m 0 := by
  obtain ⟨hc, done, h1, h2, h3⟩ := h
  have e : plusL [] (m.drop l.length) c = [] := by unfold plusL; rfl
  rw [List.drop_length] at h2 h3
  rw [h2, h3, e]
theorem PlusAt_len {l m : List Int} {i : Nat} {cur : List Int} {c : Int} (h : PlusAt l m i cur c) (hi : i ≤ l.length) : cur.length = l.length := by
  obtain ⟨hc, done, h1, h2, h3⟩ := h
  rw [h2, List.length_append, List.length_drop, h1]
  omega
theorem PlusAt_get {l m : List Int} {i : Nat} {cur : List Int} {c : Int} (h : PlusAt l m i cur c) (hi : i < l.length) (hc : i < cur.length) : cur[i] = l[i] := by
  obtain ⟨_, done, h1, h2, _⟩ := h
  subst h2
  rw [List.getElem_append_right (by omega), List.getElem_drop]
  congr 1
  omega
set_option maxRecDepth 100000 in
set_option maxHeartbeats 8000000 in
theorem hPlus_any (N M : Int) (w : World) (hN : 0 ≤ N) (hM : 0 ≤ M) (hf : N + M < powW 6) :
    Calls Try.prog 46 #[hugeV N, hugeV M] w fun e w' => e = .returned (hugeV (N + M)) ∧ Below w.heap.size w w' := by
  have HWA := Lib.hid (limbs_words 6 N)
  have HWB := Lib.hid (limbs_words 6 M)
  have HVA := Lib.hid (limbs_val 6 N (by omega) (by omega))
  have HVB := Lib.hid (limbs_val 6 M (by omega) (by omega))
  have HF := Lib.hid hf
  have HNN := Lib.hid hN
  obtain ⟨a0, a1, a2, a3, a4, a5, hA⟩ := six (limbs_len 6 N)
  obtain ⟨b0, b1, b2, b3, b4, b5, hB⟩ := six (limbs_len 6 M)
  have HG := Lib.hid (show hugeV (N + M) = .agg (hugeA (plusL [a0, a1, a2, a3, a4, a5] [b0, b1, b2, b3, b4, b5] 0)) from by
    rw [hA] at HWA HVA
    rw [hB] at HWB HVB
    have h1 := plusL_val [a0, a1, a2, a3, a4, a5] [b0, b1, b2, b3, b4, b5] 0 rfl (Int.le_refl _) HWA.out HWB.out (by rw [HVA.out, HVB.out, Int.add_zero]; exact hf)
    rw [HVA.out, HVB.out, Int.add_zero] at h1
    rw [← h1]
    exact hugeV_of (plusL_len _ _ _ rfl) (plusL_words _ _ _))
  rw [HG.out]
  unfold hugeV
  rw [hA] at HWA HVA ⊢
  rw [hB] at HWB HVB ⊢
  clear hf hN hM hA hB HG
  have HTA := Lib.hid (show TBox (((w.alloc (.cells #[.int .u64 a0, .int .u64 a1, .int .u64 a2, .int .u64 a3, .int .u64 a4, .int .u64 a5] 77)).alloc (.cells #[.int .u64 b0, .int .u64 b1, .int .u64 b2, .int .u64 b3, .int .u64 b4, .int .u64 b5] 77)).alloc (.cells #[.int .u64 0, .int .u64 0, .int .u64 0, .int .u64 0, .int .u64 0, .int .u64 0] 77)) w.heap.size 77 (hugeA [a0, a1, a2, a3, a4, a5]) from ((TBox.new w _ _).alloc _).alloc _)
  have HTB := Lib.hid (show TBox (((w.alloc (.cells #[.int .u64 a0, .int .u64 a1, .int .u64 a2, .int .u64 a3, .int .u64 a4, .int .u64 a5] 77)).alloc (.cells #[.int .u64 b0, .int .u64 b1, .int .u64 b2, .int .u64 b3, .int .u64 b4, .int .u64 b5] 77)).alloc (.cells #[.int .u64 0, .int .u64 0, .int .u64 0, .int .u64 0, .int .u64 0, .int .u64 0] 77)) (w.heap.size + 1) 77 #[.int .u64 b0, .int .u64 b1, .int .u64 b2, .int .u64 b3, .int .u64 b4, .int .u64 b5] from by
    have h := (TBox.new (w.alloc (.cells #[.int .u64 a0, .int .u64 a1, .int .u64 a2, .int .u64 a3, .int .u64 a4, .int .u64 a5] 77)) #[.int .u64 b0, .int .u64 b1, .int .u64 b2, .int .u64 b3, .int .u64 b4, .int .u64 b5] 77).alloc (.cells #[.int .u64 0, .int .u64 0, .int .u64 0, .int .u64 0, .int .u64 0, .int .u64 0] 77)
    simpa only [World.size_alloc] using h)
  have HTR := Lib.hid (show TBox (((w.alloc (.cells #[.int .u64 a0, .int .u64 a1, .int .u64 a2, .int .u64 a3, .int .u64 a4, .int .u64 a5] 77)).alloc (.cells #[.int .u64 b0, .int .u64 b1, .int .u64 b2, .int .u64 b3, .int .u64 b4, .int .u64 b5] 77)).alloc (.cells #[.int .u64 0, .int .u64 0, .int .u64 0, .int .u64 0, .int .u64 0, .int .u64 0] 77)) (w.heap.size + 2) 77 #[.int .u64 0, .int .u64 0, .int .u64 0, .int .u64 0, .int .u64 0, .int .u64 0] from by
    have h := TBox.new ((w.alloc (.cells #[.int .u64 a0, .int .u64 a1, .int .u64 a2, .int .u64 a3, .int .u64 a4, .int .u64 a5] 77)).alloc (.cells #[.int .u64 b0, .int .u64 b1, .int .u64 b2, .int .u64 b3, .int .u64 b4, .int .u64 b5] 77)) #[.int .u64 0, .int .u64 0, .int .u64 0, .int .u64 0, .int .u64 0, .int .u64 0] 77
    simpa only [World.size_alloc] using h)
  have HB0 := Lib.hid (show Below w.heap.size w (((w.alloc (.cells #[.int .u64 a0, .int .u64 a1, .int .u64 a2, .int .u64 a3, .int .u64 a4, .int .u64 a5] 77)).alloc (.cells #[.int .u64 b0, .int .u64 b1, .int .u64 b2, .int .u64 b3, .int .u64 b4, .int .u64 b5] 77)).alloc (.cells #[.int .u64 0, .int .u64 0, .int .u64 0, .int .u64 0, .int .u64 0, .int .u64 0] 77)) from (((Below.refl _ _).alloc (Nat.le_refl _) _).alloc (by simp) _).alloc (by simp; omega) _)
  have eA : hugeA [a0, a1, a2, a3, a4, a5] = #[.int .u64 a0, .int .u64 a1, .int .u64 a2, .int .u64 a3, .int .u64 a4, .int .u64 a5] := rfl
  have eB : hugeA [b0, b1, b2, b3, b4, b5] = #[.int .u64 b0, .int .u64 b1, .int .u64 b2, .int .u64 b3, .int .u64 b4, .int .u64 b5] := rfl
  rw [eA, eB]
  have HS0 := Lib.hid (PlusAt_start [a0, a1, a2, a3, a4, a5] [b0, b1, b2, b3, b4, b5])
  go_enter Try.func46, Try.ntmps46
  go_wp2_with fail
  generalize hw0 : (((w.alloc (.cells #[.int .u64 a0, .int .u64 a1, .int .u64 a2, .int .u64 a3, .int .u64 a4, .int .u64 a5] 77)).alloc (.cells #[.int .u64 b0, .int .u64 b1, .int .u64 b2, .int .u64 b3, .int .u64 b4, .int .u64 b5] 77)).alloc (.cells #[.int .u64 0, .int .u64 0, .int .u64 0, .int .u64 0, .int .u64 0, .int .u64 0] 77)) = w1 at *
  clear hw0
  go_loopw [7, 5] (fun i c wx => ∃ (k : Nat) (cur : List Int) (cc : Int), k ≤ 6 ∧ i = .int .i64 k ∧ c = .int .u64 cc ∧ Hid (PlusAt [a0, a1, a2, a3, a4, a5] [b0, b1, b2, b3, b4, b5] k cur cc) ∧ Hid (TBox wx w.heap.size 77 (hugeA cur)) ∧ Hid (TBox wx (w.heap.size + 1) 77 #[.int .u64 b0, .int .u64 b1, .int .u64 b2, .int .u64 b3, .int .u64 b4, .int .u64 b5]) ∧ Hid (TBox wx (w.heap.size + 2) 77 #[.int .u64 0, .int .u64 0, .int .u64 0, .int .u64 0, .int .u64 0, .int .u64 0]) ∧ Hid (Below w.heap.size w wx)) (fun i _ _ => 6 - (intOf i).toNat)
  case atStart => exact ⟨0, _, 0, by omega, rfl, rfl, HS0, HTA, HTB, HTR, HB0⟩
  case round =>
    clear HTA HTB HTR HB0 HS0
    obtain ⟨k, cur, cc, hk, rfl, rfl, HA, HTA, HTB, HTR, HBX⟩ := hrel
    have hlen := PlusAt_len HA.out (by simpa using hk)
    have hrl := HTR.out.lt
    by_cases hk6 : k < 6
    · have hk6' : (k : Int) < 6 := by omega
      have hx : OneW ([a0, a1, a2, a3, a4, a5][k]'(by simpa using hk6)) := HWA.out _ (List.getElem_mem _)
      have hy : OneW ([b0, b1, b2, b3, b4, b5][k]'(by simpa using hk6)) := HWB.out _ (List.getElem_mem _)
      have HNX := Lib.hid (PlusAt_step HA.out (by simpa using hk6) (by simpa using hk6) HWA.out HWB.out)
      have hcc := HA.out.1
      have z0 : wr.cell? ⟨w.heap.size, k, none⟩ = some (.int .u64 ([a0, a1, a2, a3, a4, a5][k]'(by simpa using hk6))) := by
        have h := HTA.out.cell (hugeA_get (i := k) (by rw [hlen]; simpa using hk6))
        rw [PlusAt_get HA.out (by simpa using hk6)] at h
        exact h
      have z1 : wr.cell? ⟨w.heap.size + 1, k, none⟩ = some (.int .u64 ([b0, b1, b2, b3, b4, b5][k]'(by simpa using hk6))) := TBox.cell (show TBox wr _ _ (hugeA [b0, b1, b2, b3, b4, b5]) from HTB.out) (hugeA_get (i := k) (by simpa using hk6))
      have zf := HTA.out.frozen k
      generalize [a0, a1, a2, a3, a4, a5][k]'(by simpa using hk6) = x at *
      generalize [b0, b1, b2, b3, b4, b5][k]'(by simpa using hk6) = y at *
      have hadd := fun W => add64 x y cc hx hy hcc.1 hcc.2 W
      generalize loW (x + y + cc) = sv at *
      generalize hiW (x + y + cc) = cv at *
      have HT2 := Lib.hid (HTA.out.set k (.int .u64 sv))
      rw [hugeA_set] at HT2
      have HTB2 := Lib.hid (HTB.out.setOther (b' := w.heap.size) (i := k) (by omega) (.int .u64 sv))
      have HTR2 := Lib.hid (HTR.out.setOther (b' := w.heap.size) (i := k) (by omega) (.int .u64 sv))
      have HB2 := Lib.hid (HBX.out.setCell (p := ⟨w.heap.size, k, none⟩) (Nat.le_refl _) (.int .u64 sv))
      have HT3 := Lib.hid (show TBox (wr.setCell ⟨w.heap.size, k, none⟩ (.int .u64 sv)).drew w.heap.size 77 (hugeA (cur.set k sv)) from HT2.out)
      have HTB3 := Lib.hid (show TBox (wr.setCell ⟨w.heap.size, k, none⟩ (.int .u64 sv)).drew (w.heap.size + 1) 77 #[.int .u64 b0, .int .u64 b1, .int .u64 b2, .int .u64 b3, .int .u64 b4, .int .u64 b5] from HTB2.out)
      have HTR3 := Lib.hid (show TBox (wr.setCell ⟨w.heap.size, k, none⟩ (.int .u64 sv)).drew (w.heap.size + 2) 77 #[.int .u64 0, .int .u64 0, .int .u64 0, .int .u64 0, .int .u64 0, .int .u64 0] from HTR2.out)
      have HB3 := Lib.hid HB2.out.drew
      clear HA hx hy hcc hlen
      go_wp2_with fail
      go_region
      go_wp2_with fail
      go_roundw
      case rel => exact ⟨k + 1, _, cv, by omega, by first | rfl | go_num, rfl, HNX, HT3, HTB3, HTR3, HB3⟩
      case measure => simp [intOf]; omega
    · have hkk : k = 6 := by omega
      subst hkk
      have HE := Lib.hid (PlusAt_end HA.out rfl)
      obtain ⟨c0, c1, c2, c3, c4, c5, rfl⟩ := six hlen
      have ht := HTA.out
      have e0 : hugeA [c0, c1, c2, c3, c4, c5] = #[.int .u64 c0, .int .u64 c1, .int .u64 c2, .int .u64 c3, .int .u64 c4, .int .u64 c5] := rfl
      rw [e0] at ht
      have y0 := TBox.cell (i := 0) ht rfl
      have y1 := TBox.cell (i := 1) ht rfl
      have y2 := TBox.cell (i := 2) ht rfl
      have y3 := TBox.cell (i := 3) ht rfl
      have y4 := TBox.cell (i := 4) ht rfl
      have y5 := TBox.cell (i := 5) ht rfl
      have yl := TBox.lt ht
      have hr := HTR.out
      have r0 := TBox.cell (i := 0) hr rfl
      have r1 := TBox.cell (i := 1) hr rfl
      have r2 := TBox.cell (i := 2) hr rfl
      have r3 := TBox.cell (i := 3) hr rfl
      have r4 := TBox.cell (i := 4) hr rfl
      have r5 := TBox.cell (i := 5) hr rfl
      have rf0 := TBox.frozen hr 0
      have rf1 := TBox.frozen hr 1
      have rf2 := TBox.frozen hr 2
      have rf3 := TBox.frozen hr 3
      have rf4 := TBox.frozen hr 4
      have rf5 := TBox.frozen hr 5
      have HBE := Lib.hid ((((((HBX.out.setCell (p := ⟨w.heap.size + 2, 0, none⟩) (by simp) (.int .u64 c0)).setCell (p := ⟨w.heap.size + 2, 1, none⟩) (by simp) (.int .u64 c1)).setCell (p := ⟨w.heap.size + 2, 2, none⟩) (by simp) (.int .u64 c2)).setCell (p := ⟨w.heap.size + 2, 3, none⟩) (by simp) (.int .u64 c3)).setCell (p := ⟨w.heap.size + 2, 4, none⟩) (by simp) (.int .u64 c4)).setCell (p := ⟨w.heap.size + 2, 5, none⟩) (by simp) (.int .u64 c5))
      clear hr ht
      go_wp2_with fail
      exact bodyPost_ret (v := .agg #[.int .u64 c0, .int .u64 c1, .int .u64 c2, .int .u64 c3, .int .u64 c4, .int .u64 c5]) (by simp [results, Try.results46, go_sem, r0, r1, r2, r3, r4, r5]) rfl ⟨by rw [← HE.out]; rfl, HBE.out⟩
end Go.Proofs.Ytopmdeefcjdadaa
