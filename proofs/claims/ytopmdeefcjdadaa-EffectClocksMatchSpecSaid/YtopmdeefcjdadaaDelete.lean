/- slices.DeleteFunc at rates in order. -/
import Derived.Test.YtopmdeefcjdadaaRateFns
namespace Go.Proofs.Ytopmdeefcjdadaa
open Go.RowKit
set_option linter.unusedVariables false
set_option linter.unusedSimpArgs false

theorem row_isSome {w : World} {g j : Nat} {cur : Array Value} {T : TypeId} (h : w.heap[g]? = some (.cells cur T (0, 0))) (hj : j < cur.size) : (w.cell? ⟨g, j, none⟩).isSome = true := by
  simp [World.cell?, h, hj]
def DelP (base : Nat) (v : Value) (n : Nat) (xs : List Value) (w : World) (e : Ending) (w' : World) : Prop :=
  ∃ v', e = .returned v' ∧ w'.ownsRow base 67 2 v' n xs ∧ w.grownBy w' v.ownBlock ∧ (v'.ownBlock = v.ownBlock)
theorem grown_of_below {w w' : World} {row : Option Nat} (h : Below w.heap.size w w') : w.grownBy w' row := ⟨h.os, h.tape, h.output, h.size, fun k hk _ => h.block k hk⟩
theorem zeroRate_ (w : World) : (zeroValue 67).run Try.prog w = .ok (.agg #[.int .i64 0, .int .i64 0]) w := by kernel_rfl

set_option maxRecDepth 100000 in
set_option maxHeartbeats 4000000 in
theorem rates_delete (base : Nat) (v : Value) (rates : List (Int × Int)) (t : Int) (tb n : Nat) (w : World) (hown : w.ownsRow base 67 2 v rates.length (rCells rates)) (hl : rates.length ≤ 1000)
    (ht : w.cell? ⟨tb, 0, none⟩ = some (.int .i64 t)) (hb : tb < w.heap.size) (hn : n ≤ rates.length) (h1 : ∀ k (h : k < rates.length), k < n → rates[k].1 < t) (h2 : ∀ k (h : k < rates.length), n ≤ k → t ≤ rates[k].1) :
    Calls Try.prog 32 #[v, fstFn tb] w (DelP base v n (rCells (rates.take n)) w) := by
  have hx : RateS w.heap.size w v rates := CellsS.of_own hown
  have hcf := fst_call
  by_cases hlt : n < rates.length
  · obtain ⟨g, cap, cur, rfl, hbg, hg, hnc, hcm, hcs, htake⟩ : ∃ g cap cur, v = .slice (some ⟨g, 0, none⟩) rates.length cap ∧ base ≤ g ∧ w.heap[g]? = some (.cells cur 67 (0, 0)) ∧ rates.length ≤ cap ∧ cap ≤ maxLen ∧ cur.size = cap * 2 ∧ cur.toList.take (rates.length * 2) = rCells rates := by
      rcases hown.2 with ⟨_, h⟩ | h
      · omega
      · exact h
    have IX := Lib.hid (fun W (hB : Below w.heap.size w W) => rates_index_yes (some ⟨g, 0, none⟩) cap rates t tb n W (by obtain ⟨x1, x2, x3, x4, x5, x6⟩ := hx; exact CellsS.more (CellsS.below ⟨x1, x2, x3, x4, x5, x6⟩ hB) hB.size) hl ((hB.cell (p := ⟨tb, 0, none⟩) hb).trans ht) (Nat.lt_of_lt_of_le hb hB.size) hlt h1 (h2 n hlt (Nat.le_refl _)))
    have HG := Lib.hid (fun k (hk : k < rates.length) => rates_get hx k hk)
    have H2 := Lib.hid h2
    have CF := Lib.hid (fun (a b : Int) W (hB : Below w.heap.size w W) => fstFn_any a b t tb W ((hB.cell (p := ⟨tb, 0, none⟩) hb).trans ht) (Nat.lt_of_lt_of_le hb hB.size))
    have HCLR := Lib.hid (show ∀ W, Below w.heap.size w W → ∃ W', (∀ ty, (Builtin.clear_ #[26] ty #[.slice (some ⟨g, n * 2, none⟩) (rates.length - n) (cap - n)]).run Try.prog W = .ok (.tuple #[]) W') ∧ W'.ownsRow base 67 2 (.slice (some ⟨g, 0, none⟩) n cap) n (rCells (rates.take n)) ∧ w.grownBy W' (some g) from fun W hB => by
      have hgW : W.heap[g]? = some (.cells cur 67 (0, 0)) := (hB.block _ (Array.getElem?_eq_some_iff.1 hg).1).trans hg
      obtain ⟨Z, hZ, hrun⟩ := run_clear_two (P := Try.prog) W 26 67 (.agg #[.int .i64 0, .int .i64 0]) 2 Try.underlying26 zeroRate_ rfl (by intro u hu; simp [Value.cells] at hu; rcases hu with rfl | rfl <;> rfl) g (n * 2) (rates.length - n) (cap - n) (by omega) (fun j hj => row_isSome hgW (by omega)) (fun j hj => frozen_of_row W g _ cur _ hgW)
      refine ⟨_, hrun, ?_, ?_⟩
      · obtain ⟨cur', e1, e2, e3⟩ := setCells_heap g 67 Z (n * 2) W cur hgW
        refine ⟨by unfold rCells; rw [cells2_length, List.length_take, Nat.min_eq_left (by omega)], .inr ⟨g, cap, cur', rfl, hbg, e1, by omega, hcm, e2.trans hcs, ?_⟩⟩
        rw [e3, show rCells (rates.take n) = (rCells rates).take (n * 2) from (cells2_take _ _ _ _).symm, ← htake, List.take_take, Nat.min_eq_left (by omega)]
      · have h3 := setCells_grown g Z (n * 2) W
        exact ⟨h3.os.trans hB.os, h3.tape.trans hB.tape, h3.output.trans hB.output, Nat.le_trans hB.size h3.size, fun k hk hne => (h3.block k (Nat.lt_of_lt_of_le hk hB.size) hne).trans (hB.block k hk)⟩)
    have hgl := Nat.lt_of_lt_of_le hlt hnc
    have hne : ¬ cap = n := by omega
    unfold maxLen at hcm
    clear hx hown h1 h2 ht hg htake hcs
    unfold fstFn at *
    go_enter Try.func32, Try.ntmps32
    go_wp2_with fail
    refine (IX.out _ (Below.refl _ _)).mono ?_
    rintro e w1 ⟨rfl, hb1⟩
    have HB1 := Lib.hid hb1
    clear hb1 IX
    go_wp2_with fail
    go_loopw [5, 6] (fun i j wr => ∃ k : Nat, n < k ∧ k ≤ rates.length ∧ i = .int .i64 n ∧ j = .int .i64 k ∧ Hid (Below w.heap.size w wr)) (fun _ j _ => rates.length - (intOf j).toNat)
    case atStart => exact ⟨n + 1, by omega, by omega, rfl, by go_num, HB1⟩
    case round =>
      obtain ⟨k, hk, hk2, rfl, rfl, HB⟩ := hrel
      by_cases hkl : k < rates.length
      · obtain ⟨b, off, e0, hbb, hc⟩ := HG.out k hkl
        injection e0 with e0
        injection e0 with e1 e2
        subst e1 e2
        obtain ⟨d0, d1⟩ := hc _ HB.out
        have hbr := Nat.lt_of_lt_of_le hbb HB.out.size
        have H3 := Lib.hid (H2.out k hkl (by omega))
        clear hc
        generalize rates[k] = rk at *
        obtain ⟨rt, rp⟩ := rk
        simp only [Nat.zero_add] at d0 d1
        have hd : decide (t ≤ rt) = true := by have := H3.out; simpa using this
        go_wp2_with fail
        refine (CF.out _ _ _ ((HB.out.alloc HB.out.size _))).mono ?_
        rintro e w2 ⟨rfl, hb2⟩
        have HB2 := Lib.hid ((HB.out.alloc HB.out.size (.cells #[.int .i64 rt, .int .i64 rp] 67)).trans (hb2.mono (by have := HB.out.size; simp; omega)))
        clear hb2
        rw [hd]
        go_wp2_with fail
        go_roundw
        case rel => first | exact ⟨k + 1, by omega, by omega, rfl, by go_num, HB2⟩ | ((repeat apply Exists.intro); refine ⟨⟨k + 1, by omega, by omega, rfl, by go_num, HB2⟩, ?_⟩; rfl)
        case measure => simp [intOf]; omega
      · obtain ⟨W', hrun, hown, hgr⟩ := HCLR.out _ HB.out
        have hr0 := hrun 0
        have HOWN := Lib.hid hown
        have HGR := Lib.hid hgr
        clear hrun hown hgr
        go_wp2_with fail
        go_ret
        exact ⟨_, rfl, HOWN.out, HGR.out, rfl⟩
  · obtain rfl : n = rates.length := by omega
    obtain ⟨ao, cap, rfl⟩ : ∃ ao cap, v = .slice ao rates.length cap := by
      rcases hown.2 with ⟨rfl, h⟩ | ⟨g, cap, cur, rfl, _⟩
      · rw [h]; exact ⟨_, _, rfl⟩
      · exact ⟨_, _, rfl⟩
    have IX := Lib.hid (rates_index_no ao cap rates t tb w hx hl ht hb (fun k h => h1 k h h))
    have HOWN := Lib.hid hown
    clear hx hown h1 h2 ht
    go_enter Try.func32, Try.ntmps32
    go_wp2_with fail
    refine IX.out.mono ?_
    rintro e w1 ⟨rfl, hb1⟩
    have HB1 := Lib.hid hb1
    clear hb1 IX
    go_wp2_with fail
    go_ret
    exact ⟨_, rfl, by rw [List.take_length]; exact own_below' HOWN.out HB1.out, grown_of_below HB1.out, rfl⟩
end Go.Proofs.Ytopmdeefcjdadaa
