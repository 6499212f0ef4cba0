/- slices.IndexFunc and slices.DeleteFunc at rates, with the function of Faster. -/
import Derived.Test.YtopmdeefcjdadaaClones
import Derived.Deep.QuietTactic
import Derived.Lib.SliceRun
import Derived.Laws.IdiomCopy
import Derived.Laws.OwnMore
namespace Go.Proofs.Ytopmdeefcjdadaa
open Go.RowKit
set_option linter.unusedVariables false
set_option linter.unusedSimpArgs false

/-- the function of Faster -/
def fstFn (tb : Nat) : Value := .func (.func 33) #[] #[.pointer (some ⟨tb, 0, none⟩)]
set_option maxHeartbeats 400000 in
theorem fstFn_any (a b t : Int) (tb : Nat) (w : World) (ht : w.cell? ⟨tb, 0, none⟩ = some (.int .i64 t)) (hb : tb < w.heap.size) :
    Calls Try.prog 33 #[.agg #[.int .i64 a, .int .i64 b], .pointer (some ⟨tb, 0, none⟩)] w fun e w' => e = .returned (.bool (decide (t ≤ a))) ∧ Below w.heap.size w w' := by
  go_enter Try.func33, Try.ntmps33
  go_wp2
  go_ret
  exact ⟨rfl, (Below.refl _ _).alloc (Nat.le_refl _) _⟩
theorem fst_call (args : Array Value) (W : World) : Sem.run Try.prog (callFunc 33 args) W = .ok (.enter 33 args) W := by simp [go_sem]

set_option maxHeartbeats 2000000 in
theorem rates_index_yes (ro : Option Addr) (cap : Nat) (rates : List (Int × Int)) (t : Int) (tb n : Nat) (w : World) (hx : RateS w.heap.size w (.slice ro rates.length cap) rates) (hl : rates.length ≤ 1000)
    (ht : w.cell? ⟨tb, 0, none⟩ = some (.int .i64 t)) (hb : tb < w.heap.size) (hn : n < rates.length) (h1 : ∀ k (h : k < rates.length), k < n → rates[k].1 < t) (h2 : t ≤ rates[n].1) :
    Calls Try.prog 69 #[.slice ro rates.length cap, fstFn tb] w fun e w' => e = .returned (.int .i64 n) ∧ Below w.heap.size w w' := by
  have HG := Lib.hid (rates_get hx)
  have H1 := Lib.hid h1
  have H2 := Lib.hid h2
  have CF := Lib.hid (fun (a b : Int) W (hB : Below w.heap.size w W) => fstFn_any a b t tb W ((hB.cell (p := ⟨tb, 0, none⟩) hb).trans ht) (Nat.lt_of_lt_of_le hb hB.size))
  have hcf := fst_call
  clear hx h1 h2 ht
  unfold fstFn
  go_enter Try.func69, Try.ntmps69
  go_wp2_with fail
  go_loopw [8] (fun i wr => ∃ k : Nat, k ≤ n ∧ i = .int .i64 k ∧ Below w.heap.size w wr) (fun i _ => rates.length - (intOf i).toNat)
  case atStart => exact ⟨0, Nat.zero_le _, rfl, Below.refl _ _⟩
  case round =>
    obtain ⟨k, hk, rfl, hbw⟩ := hrel
    have hlt : k < rates.length := by omega
    obtain ⟨b, off, rfl, hbb, hc⟩ := HG.out k hlt
    obtain ⟨d0, d1⟩ := hc _ hbw
    have hbr := Nat.lt_of_lt_of_le hbb hbw.size
    have HB := Lib.hid hbw
    have H3 := Lib.hid (H1.out k hlt)
    have H4 : Hid (k = n → t ≤ rates[k].1) := Lib.hid (fun e => by subst e; exact H2.out)
    clear hc hbw
    generalize rates[k] = rk at *
    obtain ⟨rt, rp⟩ := rk
    simp only at d0 d1
    by_cases hkn : k < n
    · have hd : decide (t ≤ rt) = false := by have := H3.out hkn; simpa using this
      go_wp2_with fail
      refine (CF.out _ _ _ HB.out).mono ?_
      rintro e w1 ⟨rfl, hb1⟩
      have HB2 := Lib.hid (HB.out.trans (hb1.mono HB.out.size))
      clear hb1
      rw [hd]
      go_wp2_with fail
      go_roundw
      case rel => exact ⟨k + 1, by omega, by go_num, HB2.out⟩
      case measure => simp [intOf]; omega
    · have hkk : k = n := by omega
      have hd : decide (t ≤ rt) = true := by have := H4.out hkk; simpa using this
      subst hkk
      go_wp2_with fail
      refine (CF.out _ _ _ HB.out).mono ?_
      rintro e w1 ⟨rfl, hb1⟩
      have HB2 := Lib.hid (HB.out.trans (hb1.mono HB.out.size))
      clear hb1
      rw [hd]
      go_wp2_with fail
      go_ret
      exact ⟨rfl, HB2.out⟩
set_option maxHeartbeats 2000000 in
theorem rates_index_no (ro : Option Addr) (cap : Nat) (rates : List (Int × Int)) (t : Int) (tb : Nat) (w : World) (hx : RateS w.heap.size w (.slice ro rates.length cap) rates) (hl : rates.length ≤ 1000)
    (ht : w.cell? ⟨tb, 0, none⟩ = some (.int .i64 t)) (hb : tb < w.heap.size) (h1 : ∀ k (h : k < rates.length), rates[k].1 < t) :
    Calls Try.prog 69 #[.slice ro rates.length cap, fstFn tb] w fun e w' => e = .returned (.int .i64 (-1)) ∧ Below w.heap.size w w' := by
  have HG := Lib.hid (rates_get hx)
  have H1 := Lib.hid h1
  have CF := Lib.hid (fun (a b : Int) W (hB : Below w.heap.size w W) => fstFn_any a b t tb W ((hB.cell (p := ⟨tb, 0, none⟩) hb).trans ht) (Nat.lt_of_lt_of_le hb hB.size))
  have hcf := fst_call
  clear hx h1 ht
  unfold fstFn
  go_enter Try.func69, Try.ntmps69
  go_wp2_with fail
  go_loopw [8] (fun i wr => ∃ k : Nat, k ≤ rates.length ∧ i = .int .i64 k ∧ Below w.heap.size w wr) (fun i _ => rates.length - (intOf i).toNat)
  case atStart => exact ⟨0, Nat.zero_le _, rfl, Below.refl _ _⟩
  case round =>
    obtain ⟨k, hk, rfl, hbw⟩ := hrel
    by_cases hlt : k < rates.length
    · obtain ⟨b, off, rfl, hbb, hc⟩ := HG.out k hlt
      obtain ⟨d0, d1⟩ := hc _ hbw
      have hbr := Nat.lt_of_lt_of_le hbb hbw.size
      have HB := Lib.hid hbw
      have H3 := Lib.hid (H1.out k hlt)
      clear hc hbw
      generalize rates[k] = rk at *
      obtain ⟨rt, rp⟩ := rk
      simp only at d0 d1
      have hd : decide (t ≤ rt) = false := by have := H3.out; simpa using this
      go_wp2_with fail
      refine (CF.out _ _ _ HB.out).mono ?_
      rintro e w1 ⟨rfl, hb1⟩
      have HB2 := Lib.hid (HB.out.trans (hb1.mono HB.out.size))
      clear hb1
      rw [hd]
      go_wp2_with fail
      go_roundw
      case rel => exact ⟨k + 1, by omega, by go_num, HB2.out⟩
      case measure => simp [intOf]; omega
    · have HB := Lib.hid hbw
      clear hbw
      go_wp2_with fail
      go_ret
      exact ⟨rfl, HB.out⟩

/-! ### clear -/
theorem run_clear_two {P : Program} (w : World) (t e : TypeId) (z : Value) (m : Nat) (ht : P.underlying t = some (.slice e)) (hv : ∀ w, (zeroValue e).run P w = .ok z w) (hz : z.cells.size = m) (h1 : ∀ u ∈ z.cells, u.oneCell' = true) (b o n c : Nat) (hn : 0 < n)
    (hc : ∀ j, j < n * m → (w.cell? ⟨b, o + j, none⟩).isSome = true) (hf : ∀ j, j < n * m → w.frozen? ⟨b, o + j, none⟩ = false) :
    ∃ Z : List Value, Z.length = n * m ∧ ∀ ty, (Builtin.clear_ #[t] ty #[.slice (some ⟨b, o, none⟩) n c]).run P w = .ok (.tuple #[]) (w.setCells b o Z) := by
  have hlen : (Builtin.zeroCells z.cells n).toList.length = n * m := by
    simp [Builtin.zeroCells, hz, Nat.mul_comm]
  have hone : ∀ v ∈ (Builtin.zeroCells z.cells n).toList, v.oneCell' = true := by
    intro v hv'
    simp [Builtin.zeroCells] at hv'
    obtain ⟨i, hi, rfl⟩ := hv'
    have hpos : 0 < z.cells.size := by
      rcases Nat.eq_zero_or_pos z.cells.size with h | h
      · rw [h] at hi; simp at hi
      · exact h
    have hlt := Nat.mod_lt i hpos
    rw [getElem!_pos z.cells _ hlt]
    exact h1 _ (Array.getElem_mem _)
  have hst := run_storeCells_cells (P := P) b o (Builtin.zeroCells z.cells n).toList 0 w (by rw [hlen]; simpa using hc) (by rw [hlen]; simpa using hf) hone
  simp only [Nat.add_zero] at hst
  obtain ⟨k, rfl⟩ : ∃ k, n = k + 1 := ⟨n - 1, by omega⟩
  refine ⟨_, hlen, fun ty => ?_⟩
  simp [Builtin.clear_, run_underlying ht, hv, hst]
theorem wpList_clear {P : Program} (w w' : World) {ops : Array Oper} {rest : List Oper} {o : Oper} {a : Act} {Q : Exit → Act → World → Prop}
    (hg : o.guard = none) (s : Operand) (t : TypeId) (hop : o.op = .call { callee := .builtin .clear, args := #[s], argTypes := #[t] })
    (v : Value) (hs : a.eval s = v) (hrun : ∀ ty, (Builtin.clear_ #[t] ty #[v]).run P w = .ok (.tuple #[]) w')
    (h : wpList P ops Q rest (a.put o.dst (.tuple #[])) w') : wpList P ops Q (o :: rest) a w := by
  refine wpList_plain hg fun K hK => ?_
  unfold Oper.wp
  simp [execOp, hop, resolve, invoke, builtin, hs, hrun, Result.andThen]
  exact hK _ _ h
theorem setCells_heap (g : Nat) (T : TypeId) : ∀ (Z : List Value) (o : Nat) (w : World) (cur : Array Value), w.heap[g]? = some (.cells cur T (0, 0)) →
    ∃ cur', (w.setCells g o Z).heap[g]? = some (.cells cur' T (0, 0)) ∧ cur'.size = cur.size ∧ cur'.toList.take o = cur.toList.take o
  | [], o, w, cur, h => ⟨cur, h, rfl, rfl⟩
  | v :: r, o, w, cur, h => by
    obtain ⟨c, h1, h2, h3⟩ := setCells_heap g T r (o + 1) (w.setCell ⟨g, o, none⟩ v) (cur.setIfInBounds o v) (heap_setCell_same w g o cur T v h)
    refine ⟨c, h1, by simpa using h2, ?_⟩
    have := congrArg (List.take o) h3
    rw [List.take_take, List.take_take, Nat.min_eq_left (by omega)] at this
    rw [this, Array.toList_setIfInBounds, List.take_set_of_le (Nat.le_refl o)]
theorem setCells_grown (g : Nat) : ∀ (Z : List Value) (o : Nat) (w : World), w.grownBy (w.setCells g o Z) (some g)
  | [], o, w => ⟨rfl, rfl, rfl, Nat.le_refl _, fun _ _ _ => rfl⟩
  | v :: r, o, w => by
    have h1 := setCells_grown g r (o + 1) (w.setCell ⟨g, o, none⟩ v)
    exact ⟨h1.os.trans rfl, h1.tape.trans rfl, h1.output.trans rfl, Nat.le_trans (by simp) h1.size, fun k hk hne => (h1.block k (by simpa using hk) hne).trans (heap_setCell_other w ⟨g, o, none⟩ k v (fun e => hne (by simp [e])))⟩
end Go.Proofs.Ytopmdeefcjdadaa
