/- effect.Stop: with a fault. (printed by wip/gen/gen_rfaster.py) -/
import Derived.Test.YtopmdeefcjdadaaFasterKit2
import Derived.Test.YtopmdeefcjdadaaRRunCheck
import Derived.Test.YtopmdeefcjdadaaRunLaw
import Derived.Deep.RegionWith
import Derived.Deep.DeepCutAuto
namespace Go.Proofs.Ytopmdeefcjdadaa
open Go.RowKit
set_option linter.unusedVariables false
set_option linter.unusedSimpArgs false

/-! the fault of Stop, what it returns -/
def stopF (x : Run) (t out : Int) : Int := fi4 (chkRun x) (whenW (!inR t 0 36000000) 1) (whenW (decide (t < x.start) || !inR out 0 36000000) 1) (whenW (decide (x.tend ≠ -1)) 10)
def stopR (x : Run) (t out : Int) : Run := if stopF x t out = 0 then ⟨x.ef, x.keys, x.start, x.rates, x.tin, t, out⟩ else zRun
theorem fi4_zero {a b c d : Int} (h : fi4 a b c d = 0) : a = 0 ∧ b = 0 ∧ c = 0 ∧ d = 0 := by
  unfold fi4 at h
  split at h
  · exact ⟨by assumption, fi3_zero h⟩
  · exact absurd h (by assumption)
theorem when10_zero {b : Bool} (h : whenW b 10 = 0) : b = false := by
  cases b
  · rfl
  · simp [whenW] at h
set_option maxRecDepth 100000 in
set_option maxHeartbeats 16000000 in
theorem stop_bad (form low high cycle width spread : Int) (back rel : Bool) (start tin tend tout : Int) (t out : Int) (sv kv rv : Value) (ls : List Stp) (lk : List (Int × ByteArray)) (lr : List (Int × Int)) (w : World)
    (hx : RunAt w.heap.size w ⟨⟨form, low, high, cycle, width, spread, back, rel, ls⟩, lk, start, lr, tin, tend, tout⟩ sv kv rv) (hf : RunFit ⟨⟨form, low, high, cycle, width, spread, back, rel, ls⟩, lk, start, lr, tin, tend, tout⟩) (hE : stopF ⟨⟨form, low, high, cycle, width, spread, back, rel, ls⟩, lk, start, lr, tin, tend, tout⟩ t out ≠ 0) :
    Calls Try.prog 14 #[runV ⟨⟨form, low, high, cycle, width, spread, back, rel, ls⟩, lk, start, lr, tin, tend, tout⟩ sv kv rv, .int .i64 t, .int .i64 out] w (RunRes w (stopF ⟨⟨form, low, high, cycle, width, spread, back, rel, ls⟩, lk, start, lr, tin, tend, tout⟩ t out) (stopR ⟨⟨form, low, high, cycle, width, spread, back, rel, ls⟩, lk, start, lr, tin, tend, tout⟩ t out)) := by
  have CE := Lib.hid (fun W (hb : Below w.heap.size w W) => check_nil ⟨⟨form, low, high, cycle, width, spread, back, rel, ls⟩, lk, start, lr, tin, tend, tout⟩ sv kv rv W ((hx.below hb).more hb.size) hf)
  have HEE := Lib.hid (show fi4 (chkRun ⟨⟨form, low, high, cycle, width, spread, back, rel, ls⟩, lk, start, lr, tin, tend, tout⟩) (whenW (!inR t 0 36000000) 1) (whenW (decide (t < start) || !inR out 0 36000000) 1) (whenW (decide (tend ≠ -1)) 10) = stopF ⟨⟨form, low, high, cycle, width, spread, back, rel, ls⟩, lk, start, lr, tin, tend, tout⟩ t out from rfl)
  have HXR := Lib.hid (show stopR ⟨⟨form, low, high, cycle, width, spread, back, rel, ls⟩, lk, start, lr, tin, tend, tout⟩ t out = if stopF ⟨⟨form, low, high, cycle, width, spread, back, rel, ls⟩, lk, start, lr, tin, tend, tout⟩ t out = 0 then ⟨⟨form, low, high, cycle, width, spread, back, rel, ls⟩, lk, start, lr, tin, t, out⟩ else zRun from rfl)
  have HCK := Lib.hid (show chkRun ⟨⟨form, low, high, cycle, width, spread, back, rel, ls⟩, lk, start, lr, tin, tend, tout⟩ = 0 → ls.length ≤ 50 ∧ lk.length ≤ 400 ∧ lr.length ≤ 50 from fun h => by
    obtain ⟨k1, k2, k3, _, _, _, _, k4, k5⟩ := chkRun_zero h
    exact ⟨chkEf_steps k1, k3, k4⟩)
  generalize chkRun ⟨⟨form, low, high, cycle, width, spread, back, rel, ls⟩, lk, start, lr, tin, tend, tout⟩ = ce at *
  generalize stopF ⟨⟨form, low, high, cycle, width, spread, back, rel, ls⟩, lk, start, lr, tin, tend, tout⟩ t out = E at *
  generalize stopR ⟨⟨form, low, high, cycle, width, spread, back, rel, ls⟩, lk, start, lr, tin, tend, tout⟩ t out = RR at *
  have R1 := Lib.hid (RowC.of_steps hx.steps)
  have R2 := Lib.hid (RowC.of_cells hx.keys)
  have R3 := Lib.hid (RowC.of_cells hx.rates)
  obtain ⟨sa, scap, rfl, _⟩ := R1.out
  obtain ⟨ka, kcap, rfl, _⟩ := R2.out
  obtain ⟨ra, rcap, rfl, _⟩ := R3.out
  clear hx hf
  simp only [runV] at *
  have KC := Lib.hid (show ∀ W, Below (w.heap.size + 1 + 1) ((w.alloc (.cells #[.int .i64 form, .int .i64 low, .int .i64 high, .int .i64 cycle, .int .i64 width, .int .i64 spread, .bool back, .bool rel, .slice sa ls.length scap, .slice ka lk.length kcap, .int .i64 start, .slice ra lr.length rcap, .int .i64 tin, .int .i64 tend, .int .i64 tout] 28)).alloc (.cells #[.int .i64 0, .int .i64 0, .int .i64 0, .int .i64 0, .int .i64 0, .int .i64 0, .bool false, .bool false, .slice none 0 0, .slice none 0 0, .int .i64 0, .slice none 0 0, .int .i64 0, .int .i64 0, .int .i64 0] 28)) W → Box15 W w.heap.size (.int .i64 form) (.int .i64 low) (.int .i64 high) (.int .i64 cycle) (.int .i64 width) (.int .i64 spread) (.bool back) (.bool rel) (.slice sa ls.length scap) (.slice ka lk.length kcap) (.int .i64 start) (.slice ra lr.length rcap) (.int .i64 tin) (.int .i64 tend) (.int .i64 tout) ∧ Box15 W (w.heap.size + 1) (.int .i64 0) (.int .i64 0) (.int .i64 0) (.int .i64 0) (.int .i64 0) (.int .i64 0) (.bool false) (.bool false) (.slice none 0 0) (.slice none 0 0) (.int .i64 0) (.slice none 0 0) (.int .i64 0) (.int .i64 0) (.int .i64 0) from fun W hW => ⟨((box15_new w (.int .i64 form) (.int .i64 low) (.int .i64 high) (.int .i64 cycle) (.int .i64 width) (.int .i64 spread) (.bool back) (.bool rel) (.slice sa ls.length scap) (.slice ka lk.length kcap) (.int .i64 start) (.slice ra lr.length rcap) (.int .i64 tin) (.int .i64 tend) (.int .i64 tout) 28).alloc (by simp) _).below hW (by omega), by
    have c := (box15_new (w.alloc (.cells #[.int .i64 form, .int .i64 low, .int .i64 high, .int .i64 cycle, .int .i64 width, .int .i64 spread, .bool back, .bool rel, .slice sa ls.length scap, .slice ka lk.length kcap, .int .i64 start, .slice ra lr.length rcap, .int .i64 tin, .int .i64 tend, .int .i64 tout] 28)) (.int .i64 0) (.int .i64 0) (.int .i64 0) (.int .i64 0) (.int .i64 0) (.int .i64 0) (.bool false) (.bool false) (.slice none 0 0) (.slice none 0 0) (.int .i64 0) (.slice none 0 0) (.int .i64 0) (.int .i64 0) (.int .i64 0) 28).below hW (by simp)
    simpa using c⟩)
  have KZ := Lib.hid (show ∀ W, Below (w.heap.size + 1 + 1) ((w.alloc (.cells #[.int .i64 form, .int .i64 low, .int .i64 high, .int .i64 cycle, .int .i64 width, .int .i64 spread, .bool back, .bool rel, .slice sa ls.length scap, .slice ka lk.length kcap, .int .i64 start, .slice ra lr.length rcap, .int .i64 tin, .int .i64 tend, .int .i64 tout] 28)).alloc (.cells #[.int .i64 0, .int .i64 0, .int .i64 0, .int .i64 0, .int .i64 0, .int .i64 0, .bool false, .bool false, .slice none 0 0, .slice none 0 0, .int .i64 0, .slice none 0 0, .int .i64 0, .int .i64 0, .int .i64 0] 28)) W → (w.heap.size + 1 + 1) ≤ W.heap.size from fun W hW => by
    have := hW.size
    simp at this
    omega)
  have KB := Lib.hid (show ∀ W, Below (w.heap.size + 1 + 1) ((w.alloc (.cells #[.int .i64 form, .int .i64 low, .int .i64 high, .int .i64 cycle, .int .i64 width, .int .i64 spread, .bool back, .bool rel, .slice sa ls.length scap, .slice ka lk.length kcap, .int .i64 start, .slice ra lr.length rcap, .int .i64 tin, .int .i64 tend, .int .i64 tout] 28)).alloc (.cells #[.int .i64 0, .int .i64 0, .int .i64 0, .int .i64 0, .int .i64 0, .int .i64 0, .bool false, .bool false, .slice none 0 0, .slice none 0 0, .int .i64 0, .slice none 0 0, .int .i64 0, .int .i64 0, .int .i64 0] 28)) W → Below w.heap.size w W from fun W hW => (((Below.refl _ _).alloc (Nat.le_refl _) _).alloc (by simp) _).trans (hW.mono (by omega)))
  have KT := Lib.hid (show ∀ W W1, Below (w.heap.size + 1 + 1) ((w.alloc (.cells #[.int .i64 form, .int .i64 low, .int .i64 high, .int .i64 cycle, .int .i64 width, .int .i64 spread, .bool back, .bool rel, .slice sa ls.length scap, .slice ka lk.length kcap, .int .i64 start, .slice ra lr.length rcap, .int .i64 tin, .int .i64 tend, .int .i64 tout] 28)).alloc (.cells #[.int .i64 0, .int .i64 0, .int .i64 0, .int .i64 0, .int .i64 0, .int .i64 0, .bool false, .bool false, .slice none 0 0, .slice none 0 0, .int .i64 0, .slice none 0 0, .int .i64 0, .int .i64 0, .int .i64 0] 28)) W → Below W.heap.size W W1 → Below (w.heap.size + 1 + 1) ((w.alloc (.cells #[.int .i64 form, .int .i64 low, .int .i64 high, .int .i64 cycle, .int .i64 width, .int .i64 spread, .bool back, .bool rel, .slice sa ls.length scap, .slice ka lk.length kcap, .int .i64 start, .slice ra lr.length rcap, .int .i64 tin, .int .i64 tend, .int .i64 tout] 28)).alloc (.cells #[.int .i64 0, .int .i64 0, .int .i64 0, .int .i64 0, .int .i64 0, .int .i64 0, .bool false, .bool false, .slice none 0 0, .slice none 0 0, .int .i64 0, .slice none 0 0, .int .i64 0, .int .i64 0, .int .i64 0] 28)) W1 from fun W W1 h1 h2 => h1.trans (h2.mono (KZ.out W h1)))
  have KA := Lib.hid (show ∀ W o, Below (w.heap.size + 1 + 1) ((w.alloc (.cells #[.int .i64 form, .int .i64 low, .int .i64 high, .int .i64 cycle, .int .i64 width, .int .i64 spread, .bool back, .bool rel, .slice sa ls.length scap, .slice ka lk.length kcap, .int .i64 start, .slice ra lr.length rcap, .int .i64 tin, .int .i64 tend, .int .i64 tout] 28)).alloc (.cells #[.int .i64 0, .int .i64 0, .int .i64 0, .int .i64 0, .int .i64 0, .int .i64 0, .bool false, .bool false, .slice none 0 0, .slice none 0 0, .int .i64 0, .slice none 0 0, .int .i64 0, .int .i64 0, .int .i64 0] 28)) W → Below (w.heap.size + 1 + 1) ((w.alloc (.cells #[.int .i64 form, .int .i64 low, .int .i64 high, .int .i64 cycle, .int .i64 width, .int .i64 spread, .bool back, .bool rel, .slice sa ls.length scap, .slice ka lk.length kcap, .int .i64 start, .slice ra lr.length rcap, .int .i64 tin, .int .i64 tend, .int .i64 tout] 28)).alloc (.cells #[.int .i64 0, .int .i64 0, .int .i64 0, .int .i64 0, .int .i64 0, .int .i64 0, .bool false, .bool false, .slice none 0 0, .slice none 0 0, .int .i64 0, .slice none 0 0, .int .i64 0, .int .i64 0, .int .i64 0] 28)) (W.alloc o) from fun W o h1 => h1.alloc (KZ.out W h1) o)
  have hw : Below (w.heap.size + 1 + 1) ((w.alloc (.cells #[.int .i64 form, .int .i64 low, .int .i64 high, .int .i64 cycle, .int .i64 width, .int .i64 spread, .bool back, .bool rel, .slice sa ls.length scap, .slice ka lk.length kcap, .int .i64 start, .slice ra lr.length rcap, .int .i64 tin, .int .i64 tend, .int .i64 tout] 28)).alloc (.cells #[.int .i64 0, .int .i64 0, .int .i64 0, .int .i64 0, .int .i64 0, .int .i64 0, .bool false, .bool false, .slice none 0 0, .slice none 0 0, .int .i64 0, .slice none 0 0, .int .i64 0, .int .i64 0, .int .i64 0] 28)) ((w.alloc (.cells #[.int .i64 form, .int .i64 low, .int .i64 high, .int .i64 cycle, .int .i64 width, .int .i64 spread, .bool back, .bool rel, .slice sa ls.length scap, .slice ka lk.length kcap, .int .i64 start, .slice ra lr.length rcap, .int .i64 tin, .int .i64 tend, .int .i64 tout] 28)).alloc (.cells #[.int .i64 0, .int .i64 0, .int .i64 0, .int .i64 0, .int .i64 0, .int .i64 0, .bool false, .bool false, .slice none 0 0, .slice none 0 0, .int .i64 0, .slice none 0 0, .int .i64 0, .int .i64 0, .int .i64 0] 28)) := Below.refl _ _
  go_enter Try.func14, Try.ntmps14
  have KS := Lib.hid (show ∀ W, Below (w.heap.size + 1 + 1) ((w.alloc (.cells #[.int .i64 form, .int .i64 low, .int .i64 high, .int .i64 cycle, .int .i64 width, .int .i64 spread, .bool back, .bool rel, .slice sa ls.length scap, .slice ka lk.length kcap, .int .i64 start, .slice ra lr.length rcap, .int .i64 tin, .int .i64 tend, .int .i64 tout] 28)).alloc (.cells #[.int .i64 0, .int .i64 0, .int .i64 0, .int .i64 0, .int .i64 0, .int .i64 0, .bool false, .bool false, .slice none 0 0, .slice none 0 0, .int .i64 0, .slice none 0 0, .int .i64 0, .int .i64 0, .int .i64 0] 28)) W → (W.cell? ⟨w.heap.size, 0, none⟩ = some (.int .i64 form) ∧ W.cell? ⟨w.heap.size, 1, none⟩ = some (.int .i64 low) ∧ W.cell? ⟨w.heap.size, 2, none⟩ = some (.int .i64 high) ∧ W.cell? ⟨w.heap.size, 3, none⟩ = some (.int .i64 cycle) ∧ W.cell? ⟨w.heap.size, 4, none⟩ = some (.int .i64 width) ∧ W.cell? ⟨w.heap.size, 5, none⟩ = some (.int .i64 spread) ∧ W.cell? ⟨w.heap.size, 6, none⟩ = some (.bool back) ∧ W.cell? ⟨w.heap.size, 7, none⟩ = some (.bool rel) ∧ W.cell? ⟨w.heap.size, 8, none⟩ = some (.slice sa ls.length scap) ∧ W.cell? ⟨w.heap.size, 9, none⟩ = some (.slice ka lk.length kcap) ∧ W.cell? ⟨w.heap.size, 10, none⟩ = some (.int .i64 start) ∧ W.cell? ⟨w.heap.size, 11, none⟩ = some (.slice ra lr.length rcap) ∧ W.cell? ⟨w.heap.size, 12, none⟩ = some (.int .i64 tin) ∧ W.cell? ⟨w.heap.size, 13, none⟩ = some (.int .i64 tend) ∧ W.cell? ⟨w.heap.size, 14, none⟩ = some (.int .i64 tout)) from fun W hW => by
    obtain ⟨⟨p0, p1, p2, p3, p4, p5, p6, p7, p8, p9, p10, p11, p12, p13, p14, _, _, _, _, _, _, _, _, _, _, _, _, _, _, _⟩, _⟩ := KC.out _ hW
    exact ⟨p0, p1, p2, p3, p4, p5, p6, p7, p8, p9, p10, p11, p12, p13, p14⟩)
  have HTD := Lib.hid (show (tend != -1) = decide (tend ≠ -1) by by_cases h : tend = -1 <;> simp [h])
  go_upto_region 1 with fail
  go_cut [8] (fun s8 wx => s8 = .int .i64 E ∧ Below (w.heap.size + 1 + 1) ((w.alloc (.cells #[.int .i64 form, .int .i64 low, .int .i64 high, .int .i64 cycle, .int .i64 width, .int .i64 spread, .bool back, .bool rel, .slice sa ls.length scap, .slice ka lk.length kcap, .int .i64 start, .slice ra lr.length rcap, .int .i64 tin, .int .i64 tend, .int .i64 tout] 28)).alloc (.cells #[.int .i64 0, .int .i64 0, .int .i64 0, .int .i64 0, .int .i64 0, .int .i64 0, .bool false, .bool false, .slice none 0 0, .slice none 0 0, .int .i64 0, .slice none 0 0, .int .i64 0, .int .i64 0, .int .i64 0] 28)) wx)
  case first =>
    have hwd : Below (w.heap.size + 1 + 1) ((w.alloc (.cells #[.int .i64 form, .int .i64 low, .int .i64 high, .int .i64 cycle, .int .i64 width, .int .i64 spread, .bool back, .bool rel, .slice sa ls.length scap, .slice ka lk.length kcap, .int .i64 start, .slice ra lr.length rcap, .int .i64 tin, .int .i64 tend, .int .i64 tout] 28)).alloc (.cells #[.int .i64 0, .int .i64 0, .int .i64 0, .int .i64 0, .int .i64 0, .int .i64 0, .bool false, .bool false, .slice none 0 0, .slice none 0 0, .int .i64 0, .slice none 0 0, .int .i64 0, .int .i64 0, .int .i64 0] 28)) ((w.alloc (.cells #[.int .i64 form, .int .i64 low, .int .i64 high, .int .i64 cycle, .int .i64 width, .int .i64 spread, .bool back, .bool rel, .slice sa ls.length scap, .slice ka lk.length kcap, .int .i64 start, .slice ra lr.length rcap, .int .i64 tin, .int .i64 tend, .int .i64 tout] 28)).alloc (.cells #[.int .i64 0, .int .i64 0, .int .i64 0, .int .i64 0, .int .i64 0, .int .i64 0, .bool false, .bool false, .slice none 0 0, .slice none 0 0, .int .i64 0, .slice none 0 0, .int .i64 0, .int .i64 0, .int .i64 0] 28)).drew := hw.drew
    by_cases hlt : t < start
    · have hd : decide (t < start) = true := by simpa using hlt
      have HE := Lib.hid (show fi4 ce (whenW (!inR t 0 36000000) 1) (whenW true 1) (whenW (decide (tend ≠ -1)) 10) = E by rw [← HEE.out, hd, Bool.true_or])
      refine wp_region_held_drew (S := (fun W => W.cell? ⟨w.heap.size, 0, none⟩ = some (.int .i64 form) ∧ W.cell? ⟨w.heap.size, 1, none⟩ = some (.int .i64 low) ∧ W.cell? ⟨w.heap.size, 2, none⟩ = some (.int .i64 high) ∧ W.cell? ⟨w.heap.size, 3, none⟩ = some (.int .i64 cycle) ∧ W.cell? ⟨w.heap.size, 4, none⟩ = some (.int .i64 width) ∧ W.cell? ⟨w.heap.size, 5, none⟩ = some (.int .i64 spread) ∧ W.cell? ⟨w.heap.size, 6, none⟩ = some (.bool back) ∧ W.cell? ⟨w.heap.size, 7, none⟩ = some (.bool rel) ∧ W.cell? ⟨w.heap.size, 8, none⟩ = some (.slice sa ls.length scap) ∧ W.cell? ⟨w.heap.size, 9, none⟩ = some (.slice ka lk.length kcap) ∧ W.cell? ⟨w.heap.size, 10, none⟩ = some (.int .i64 start) ∧ W.cell? ⟨w.heap.size, 11, none⟩ = some (.slice ra lr.length rcap) ∧ W.cell? ⟨w.heap.size, 12, none⟩ = some (.int .i64 tin) ∧ W.cell? ⟨w.heap.size, 13, none⟩ = some (.int .i64 tend) ∧ W.cell? ⟨w.heap.size, 14, none⟩ = some (.int .i64 tout))) (by kernel_rfl) (by with_reducible first | assumption | exact KS.out _ (by assumption) | exact KS.out _ (KA.out _ _ (by assumption))) (fun hHeld => ?_)
      refine wpAnyH_take (i := 0) (oi := _) (v := ?_) rfl (by kernel_rfl) (by kernel_rfl) (by kernel_rfl) (fun _ _ _ h => h) (Or.inl ⟨by rfl, ?_⟩) (by assumption) ?_
      rotate_left
      · (intro w hSw; (try dsimp only at hSw); go_simp <;> with_reducible rfl)
      try simp only [Act.put, List.setIfInBounds_toArray, List.set_cons_zero, List.set_cons_succ]
      refine wpAnyH_take (i := 2) (oi := _) (v := ?_) rfl (by kernel_rfl) (by kernel_rfl) (by kernel_rfl) (fun _ _ _ h => h) (Or.inl ⟨by rfl, ?_⟩) (by assumption) ?_
      rotate_left
      · (intro w hSw; (try dsimp only at hSw); go_simp <;> with_reducible rfl)
      try simp only [Act.put, List.setIfInBounds_toArray, List.set_cons_zero, List.set_cons_succ]
      refine wpAnyH_take (i := 6) (oi := _) (v := ?_) rfl (by kernel_rfl) (by kernel_rfl) (by kernel_rfl) (fun _ _ _ h => h) (Or.inl ⟨by rfl, ?_⟩) (by assumption) ?_
      rotate_left
      · (intro w hSw; (try dsimp only at hSw); go_simp <;> with_reducible rfl)
      try simp only [Act.put, List.setIfInBounds_toArray, List.set_cons_zero, List.set_cons_succ]
      refine wpAnyH_take (i := 7) (oi := _) (v := ?_) rfl (by kernel_rfl) (by kernel_rfl) (by kernel_rfl) (fun _ _ _ h => h) (Or.inl ⟨by rfl, ?_⟩) (by assumption) ?_
      rotate_left
      · (intro w hSw; (try dsimp only at hSw); go_simp <;> with_reducible rfl)
      try simp only [Act.put, List.setIfInBounds_toArray, List.set_cons_zero, List.set_cons_succ]
      refine wpAnyH_take (i := 8) (oi := _) (v := ?_) rfl (by kernel_rfl) (by kernel_rfl) (by kernel_rfl) (fun _ _ _ h => h) (Or.inl ⟨by rfl, ?_⟩) (by assumption) ?_
      rotate_left
      · (intro w hSw; (try dsimp only at hSw); go_simp <;> with_reducible rfl)
      try simp only [Act.put, List.setIfInBounds_toArray, List.set_cons_zero, List.set_cons_succ]
      refine wpAnyH_take (i := 16) (oi := _) (v := ?_) rfl (by kernel_rfl) (by kernel_rfl) (by kernel_rfl) (fun _ _ _ h => h) (Or.inl ⟨by rfl, ?_⟩) (by assumption) ?_
      rotate_left
      · (intro w hSw; (try dsimp only at hSw); go_simp <;> with_reducible rfl)
      try simp only [Act.put, List.setIfInBounds_toArray, List.set_cons_zero, List.set_cons_succ]
      refine wpAnyH_take (i := 17) (oi := _) (v := ?_) rfl (by kernel_rfl) (by kernel_rfl) (by kernel_rfl) (fun _ _ _ h => h) (Or.inl ⟨by rfl, ?_⟩) (by assumption) ?_
      rotate_left
      · (intro w hSw; (try dsimp only at hSw); go_simp <;> with_reducible rfl)
      try simp only [Act.put, List.setIfInBounds_toArray, List.set_cons_zero, List.set_cons_succ]
      refine wpAnyH_take (i := 18) (oi := _) (v := ?_) rfl (by kernel_rfl) (by kernel_rfl) (by kernel_rfl) (fun _ _ _ h => h) (Or.inl ⟨by rfl, ?_⟩) (by assumption) ?_
      rotate_left
      · (intro w hSw; (try dsimp only at hSw); go_simp <;> with_reducible rfl)
      try simp only [Act.put, List.setIfInBounds_toArray, List.set_cons_zero, List.set_cons_succ]
      refine wpAnyH_take (i := 9) (oi := _) (v := ?_) rfl (by kernel_rfl) (by kernel_rfl) (by kernel_rfl) (fun _ _ _ h => h) (Or.inl ⟨by rfl, ?_⟩) (by assumption) ?_
      rotate_left
      · (intro w hSw; (try dsimp only at hSw); go_simp <;> with_reducible rfl)
      try simp only [Act.put, List.setIfInBounds_toArray, List.set_cons_zero, List.set_cons_succ]
      refine wpAnyH_ready (rs := [1]) (by kernel_rfl) (by simp) (AllReadyH.cons rfl (fun K hK => ?_) AllReadyH.nil)
      go_simp
      (go_at_call 27; ((with_reducible refine (CE.out _ (KB.out _ (by with_reducible assumption))).mono ?_); rintro e WC ⟨rfl, hbC⟩; have hwC := KT.out _ _ (by with_reducible assumption) hbC; clear hbC))
      (try go_wp2_with fail)
      refine hK.out _ _ (by with_reducible first | assumption | exact KS.out _ (by assumption) | exact KS.out _ (KA.out _ _ (by assumption))) (fun hHeld => ?_)
      clear hK K
      try simp only [Act.put, List.setIfInBounds_toArray, List.set_cons_zero, List.set_cons_succ]
      refine wpAnyH_ready (rs := [3]) (by kernel_rfl) (by simp) (AllReadyH.cons rfl (fun K hK => ?_) AllReadyH.nil)
      go_simp
      (go_at_call 29; ((with_reducible refine (eTime_R _ _).mono ?_); rintro e w' ⟨rfl, rfl⟩))
      (try go_wp2_with fail)
      refine hK.out _ _ (by with_reducible first | assumption | exact KS.out _ (by assumption) | exact KS.out _ (KA.out _ _ (by assumption))) (fun hHeld => ?_)
      clear hK K
      try simp only [Act.put, List.setIfInBounds_toArray, List.set_cons_zero, List.set_cons_succ]
      refine wpAnyH_take (i := 4) (oi := _) (v := ?_) rfl (by kernel_rfl) (by kernel_rfl) (by kernel_rfl) (fun _ _ _ h => h) (Or.inl ⟨by rfl, ?_⟩) (by assumption) ?_
      rotate_left
      · (intro w hSw; (try dsimp only at hSw); go_simp <;> with_reducible rfl)
      try simp only [Act.put, List.setIfInBounds_toArray, List.set_cons_zero, List.set_cons_succ]
      refine wpAnyH_ready (rs := [5]) (by kernel_rfl) (by simp) (AllReadyH.cons rfl (fun K hK => ?_) AllReadyH.nil)
      go_simp
      (go_at_call 28; ((with_reducible refine (when_R _ _ _).mono ?_); rintro e w' ⟨rfl, rfl⟩))
      (try go_wp2_with fail)
      refine hK.out _ _ (by with_reducible first | assumption | exact KS.out _ (by assumption) | exact KS.out _ (KA.out _ _ (by assumption))) (fun hHeld => ?_)
      clear hK K
      try simp only [Act.put, List.setIfInBounds_toArray, List.set_cons_zero, List.set_cons_succ]
      refine wpAnyH_take (i := 10) (oi := _) (v := ?_) rfl (by kernel_rfl) (by kernel_rfl) (by kernel_rfl) (fun _ _ _ h => h) (Or.inl ⟨by rfl, ?_⟩) (by assumption) ?_
      rotate_left
      · (intro w hSw; (try dsimp only at hSw); go_simp <;> with_reducible rfl)
      try simp only [Act.put, List.setIfInBounds_toArray, List.set_cons_zero, List.set_cons_succ]
      refine wpAnyH_take (i := 11) (oi := _) (v := undef) rfl (by kernel_rfl) (by kernel_rfl) (by kernel_rfl) (fun _ _ _ h => h) (Or.inr ⟨by rfl, rfl⟩) (by assumption) ?_
      try simp only [Act.put, List.setIfInBounds_toArray, List.set_cons_zero, List.set_cons_succ]
      refine wpAnyH_take (i := 12) (oi := _) (v := undef) rfl (by kernel_rfl) (by kernel_rfl) (by kernel_rfl) (fun _ _ _ h => h) (Or.inr ⟨by rfl, rfl⟩) (by assumption) ?_
      try simp only [Act.put, List.setIfInBounds_toArray, List.set_cons_zero, List.set_cons_succ]
      refine wpAnyH_take (i := 13) (oi := _) (v := undef) rfl (by kernel_rfl) (by kernel_rfl) (by kernel_rfl) (fun _ _ _ h => h) (Or.inr ⟨by rfl, rfl⟩) (by assumption) ?_
      try simp only [Act.put, List.setIfInBounds_toArray, List.set_cons_zero, List.set_cons_succ]
      refine wpAnyH_take (i := 14) (oi := _) (v := ?_) rfl (by kernel_rfl) (by kernel_rfl) (by kernel_rfl) (fun _ _ _ h => h) (Or.inl ⟨by rfl, ?_⟩) (by assumption) ?_
      rotate_left
      · (intro w hSw; (try dsimp only at hSw); go_simp <;> with_reducible rfl)
      try simp only [Act.put, List.setIfInBounds_toArray, List.set_cons_zero, List.set_cons_succ]
      refine wpAnyH_ready (rs := [15]) (by kernel_rfl) (by simp) (AllReadyH.cons rfl (fun K hK => ?_) AllReadyH.nil)
      go_simp
      (go_at_call 28; ((with_reducible refine (when_R _ _ _).mono ?_); rintro e w' ⟨rfl, rfl⟩))
      (try go_wp2_with fail)
      refine hK.out _ _ (by with_reducible first | assumption | exact KS.out _ (by assumption) | exact KS.out _ (KA.out _ _ (by assumption))) (fun hHeld => ?_)
      clear hK K
      try simp only [Act.put, List.setIfInBounds_toArray, List.set_cons_zero, List.set_cons_succ]
      refine wpAnyH_ready (rs := [19]) (by kernel_rfl) (by simp) (AllReadyH.cons rfl (fun K hK => ?_) AllReadyH.nil)
      go_simp
      (go_at_call 28; ((with_reducible refine (when_R _ _ _).mono ?_); rintro e w' ⟨rfl, rfl⟩))
      (try go_wp2_with fail)
      refine hK.out _ _ (by with_reducible first | assumption | exact KS.out _ (by assumption) | exact KS.out _ (KA.out _ _ (by assumption))) (fun hHeld => ?_)
      clear hK K
      try simp only [Act.put, List.setIfInBounds_toArray, List.set_cons_zero, List.set_cons_succ]
      refine wpAnyH_ready (rs := [20]) (by kernel_rfl) (by simp) (AllReadyH.cons rfl (fun K hK => ?_) AllReadyH.nil)
      go_simp
      (try go_wp2_with fail)
      refine hK.out _ _ (by with_reducible first | assumption | exact KS.out _ (by assumption) | exact KS.out _ (KA.out _ _ (by assumption))) (fun hHeld => ?_)
      clear hK K
      try simp only [Act.put, List.setIfInBounds_toArray, List.set_cons_zero, List.set_cons_succ]
      refine wpAnyH_ready (rs := [21]) (by kernel_rfl) (by simp) (AllReadyH.cons rfl (fun K hK => ?_) AllReadyH.nil)
      go_simp
      (go_at_call 26; refine (first_4 _ ce (whenW (!inR t 0 36000000) 1) (whenW true 1) (whenW (decide (tend ≠ -1)) 10) _ (by simp [go_sem]) (by simp [go_sem]) (by simp [go_sem]) (by simp [go_sem, HTD.out])).mono ?_; rw [HE.out]; rintro e w' ⟨rfl, rfl⟩)
      (try go_wp2_with fail)
      refine hK.out _ _ (by with_reducible first | assumption | exact KS.out _ (by assumption) | exact KS.out _ (KA.out _ _ (by assumption))) (fun hHeld => ?_)
      clear hK K
      try simp only [Act.put, List.setIfInBounds_toArray, List.set_cons_zero, List.set_cons_succ]
      refine wpAnyH_ready (rs := [22]) (by kernel_rfl) (by simp) (AllReadyH.cons rfl (fun K hK => ?_) AllReadyH.nil)
      go_simp
      (try go_wp2_with fail)
      refine hK.out _ _ (by with_reducible first | assumption | exact KS.out _ (by assumption) | exact KS.out _ (KA.out _ _ (by assumption))) (fun hHeld => ?_)
      clear hK K
      try simp only [Act.put, List.setIfInBounds_toArray, List.set_cons_zero, List.set_cons_succ]
      refine wpAnyH_done (by kernel_rfl) ?_ _
      all_goals go_wp2_with fail
      all_goals go_meet
      all_goals exact ⟨by first | rfl | rw [hE], by with_reducible first | assumption | exact KA.out _ _ (by assumption)⟩
    · have hd : decide (t < start) = false := by simpa using hlt
      have HE := Lib.hid (show fi4 ce (whenW (!inR t 0 36000000) 1) (whenW (!inR out 0 36000000) 1) (whenW (decide (tend ≠ -1)) 10) = E by rw [← HEE.out, hd, Bool.false_or])
      refine wp_region_held_drew (S := (fun W => W.cell? ⟨w.heap.size, 0, none⟩ = some (.int .i64 form) ∧ W.cell? ⟨w.heap.size, 1, none⟩ = some (.int .i64 low) ∧ W.cell? ⟨w.heap.size, 2, none⟩ = some (.int .i64 high) ∧ W.cell? ⟨w.heap.size, 3, none⟩ = some (.int .i64 cycle) ∧ W.cell? ⟨w.heap.size, 4, none⟩ = some (.int .i64 width) ∧ W.cell? ⟨w.heap.size, 5, none⟩ = some (.int .i64 spread) ∧ W.cell? ⟨w.heap.size, 6, none⟩ = some (.bool back) ∧ W.cell? ⟨w.heap.size, 7, none⟩ = some (.bool rel) ∧ W.cell? ⟨w.heap.size, 8, none⟩ = some (.slice sa ls.length scap) ∧ W.cell? ⟨w.heap.size, 9, none⟩ = some (.slice ka lk.length kcap) ∧ W.cell? ⟨w.heap.size, 10, none⟩ = some (.int .i64 start) ∧ W.cell? ⟨w.heap.size, 11, none⟩ = some (.slice ra lr.length rcap) ∧ W.cell? ⟨w.heap.size, 12, none⟩ = some (.int .i64 tin) ∧ W.cell? ⟨w.heap.size, 13, none⟩ = some (.int .i64 tend) ∧ W.cell? ⟨w.heap.size, 14, none⟩ = some (.int .i64 tout))) (by kernel_rfl) (by with_reducible first | assumption | exact KS.out _ (by assumption) | exact KS.out _ (KA.out _ _ (by assumption))) (fun hHeld => ?_)
      refine wpAnyH_take (i := 0) (oi := _) (v := ?_) rfl (by kernel_rfl) (by kernel_rfl) (by kernel_rfl) (fun _ _ _ h => h) (Or.inl ⟨by rfl, ?_⟩) (by assumption) ?_
      rotate_left
      · (intro w hSw; (try dsimp only at hSw); go_simp <;> with_reducible rfl)
      try simp only [Act.put, List.setIfInBounds_toArray, List.set_cons_zero, List.set_cons_succ]
      refine wpAnyH_take (i := 2) (oi := _) (v := ?_) rfl (by kernel_rfl) (by kernel_rfl) (by kernel_rfl) (fun _ _ _ h => h) (Or.inl ⟨by rfl, ?_⟩) (by assumption) ?_
      rotate_left
      · (intro w hSw; (try dsimp only at hSw); go_simp <;> with_reducible rfl)
      try simp only [Act.put, List.setIfInBounds_toArray, List.set_cons_zero, List.set_cons_succ]
      refine wpAnyH_take (i := 6) (oi := _) (v := ?_) rfl (by kernel_rfl) (by kernel_rfl) (by kernel_rfl) (fun _ _ _ h => h) (Or.inl ⟨by rfl, ?_⟩) (by assumption) ?_
      rotate_left
      · (intro w hSw; (try dsimp only at hSw); go_simp <;> with_reducible rfl)
      try simp only [Act.put, List.setIfInBounds_toArray, List.set_cons_zero, List.set_cons_succ]
      refine wpAnyH_take (i := 7) (oi := _) (v := ?_) rfl (by kernel_rfl) (by kernel_rfl) (by kernel_rfl) (fun _ _ _ h => h) (Or.inl ⟨by rfl, ?_⟩) (by assumption) ?_
      rotate_left
      · (intro w hSw; (try dsimp only at hSw); go_simp <;> with_reducible rfl)
      try simp only [Act.put, List.setIfInBounds_toArray, List.set_cons_zero, List.set_cons_succ]
      refine wpAnyH_take (i := 8) (oi := _) (v := ?_) rfl (by kernel_rfl) (by kernel_rfl) (by kernel_rfl) (fun _ _ _ h => h) (Or.inl ⟨by rfl, ?_⟩) (by assumption) ?_
      rotate_left
      · (intro w hSw; (try dsimp only at hSw); go_simp <;> with_reducible rfl)
      try simp only [Act.put, List.setIfInBounds_toArray, List.set_cons_zero, List.set_cons_succ]
      refine wpAnyH_take (i := 16) (oi := _) (v := ?_) rfl (by kernel_rfl) (by kernel_rfl) (by kernel_rfl) (fun _ _ _ h => h) (Or.inl ⟨by rfl, ?_⟩) (by assumption) ?_
      rotate_left
      · (intro w hSw; (try dsimp only at hSw); go_simp <;> with_reducible rfl)
      try simp only [Act.put, List.setIfInBounds_toArray, List.set_cons_zero, List.set_cons_succ]
      refine wpAnyH_take (i := 17) (oi := _) (v := ?_) rfl (by kernel_rfl) (by kernel_rfl) (by kernel_rfl) (fun _ _ _ h => h) (Or.inl ⟨by rfl, ?_⟩) (by assumption) ?_
      rotate_left
      · (intro w hSw; (try dsimp only at hSw); go_simp <;> with_reducible rfl)
      try simp only [Act.put, List.setIfInBounds_toArray, List.set_cons_zero, List.set_cons_succ]
      refine wpAnyH_take (i := 18) (oi := _) (v := ?_) rfl (by kernel_rfl) (by kernel_rfl) (by kernel_rfl) (fun _ _ _ h => h) (Or.inl ⟨by rfl, ?_⟩) (by assumption) ?_
      rotate_left
      · (intro w hSw; (try dsimp only at hSw); go_simp <;> with_reducible rfl)
      try simp only [Act.put, List.setIfInBounds_toArray, List.set_cons_zero, List.set_cons_succ]
      refine wpAnyH_take (i := 9) (oi := _) (v := ?_) rfl (by kernel_rfl) (by kernel_rfl) (by kernel_rfl) (fun _ _ _ h => h) (Or.inl ⟨by rfl, ?_⟩) (by assumption) ?_
      rotate_left
      · (intro w hSw; (try dsimp only at hSw); go_simp <;> with_reducible rfl)
      try simp only [Act.put, List.setIfInBounds_toArray, List.set_cons_zero, List.set_cons_succ]
      refine wpAnyH_ready (rs := [1]) (by kernel_rfl) (by simp) (AllReadyH.cons rfl (fun K hK => ?_) AllReadyH.nil)
      go_simp
      (go_at_call 27; ((with_reducible refine (CE.out _ (KB.out _ (by with_reducible assumption))).mono ?_); rintro e WC ⟨rfl, hbC⟩; have hwC := KT.out _ _ (by with_reducible assumption) hbC; clear hbC))
      (try go_wp2_with fail)
      refine hK.out _ _ (by with_reducible first | assumption | exact KS.out _ (by assumption) | exact KS.out _ (KA.out _ _ (by assumption))) (fun hHeld => ?_)
      clear hK K
      try simp only [Act.put, List.setIfInBounds_toArray, List.set_cons_zero, List.set_cons_succ]
      refine wpAnyH_ready (rs := [3]) (by kernel_rfl) (by simp) (AllReadyH.cons rfl (fun K hK => ?_) AllReadyH.nil)
      go_simp
      (go_at_call 29; ((with_reducible refine (eTime_R _ _).mono ?_); rintro e w' ⟨rfl, rfl⟩))
      (try go_wp2_with fail)
      refine hK.out _ _ (by with_reducible first | assumption | exact KS.out _ (by assumption) | exact KS.out _ (KA.out _ _ (by assumption))) (fun hHeld => ?_)
      clear hK K
      try simp only [Act.put, List.setIfInBounds_toArray, List.set_cons_zero, List.set_cons_succ]
      refine wpAnyH_take (i := 4) (oi := _) (v := ?_) rfl (by kernel_rfl) (by kernel_rfl) (by kernel_rfl) (fun _ _ _ h => h) (Or.inl ⟨by rfl, ?_⟩) (by assumption) ?_
      rotate_left
      · (intro w hSw; (try dsimp only at hSw); go_simp <;> with_reducible rfl)
      try simp only [Act.put, List.setIfInBounds_toArray, List.set_cons_zero, List.set_cons_succ]
      refine wpAnyH_ready (rs := [5]) (by kernel_rfl) (by simp) (AllReadyH.cons rfl (fun K hK => ?_) AllReadyH.nil)
      go_simp
      (go_at_call 28; ((with_reducible refine (when_R _ _ _).mono ?_); rintro e w' ⟨rfl, rfl⟩))
      (try go_wp2_with fail)
      refine hK.out _ _ (by with_reducible first | assumption | exact KS.out _ (by assumption) | exact KS.out _ (KA.out _ _ (by assumption))) (fun hHeld => ?_)
      clear hK K
      try simp only [Act.put, List.setIfInBounds_toArray, List.set_cons_zero, List.set_cons_succ]
      refine wpAnyH_take (i := 10) (oi := _) (v := ?_) rfl (by kernel_rfl) (by kernel_rfl) (by kernel_rfl) (fun _ _ _ h => h) (Or.inl ⟨by rfl, ?_⟩) (by assumption) ?_
      rotate_left
      · (intro w hSw; (try dsimp only at hSw); go_simp <;> with_reducible rfl)
      try simp only [Act.put, List.setIfInBounds_toArray, List.set_cons_zero, List.set_cons_succ]
      refine wpAnyH_take (i := 11) (oi := _) (v := ?_) rfl (by kernel_rfl) (by kernel_rfl) (by kernel_rfl) (fun _ _ _ h => h) (Or.inl ⟨by rfl, ?_⟩) (by assumption) ?_
      rotate_left
      · (intro w hSw; (try dsimp only at hSw); go_simp <;> with_reducible rfl)
      try simp only [Act.put, List.setIfInBounds_toArray, List.set_cons_zero, List.set_cons_succ]
      refine wpAnyH_ready (rs := [12]) (by kernel_rfl) (by simp) (AllReadyH.cons rfl (fun K hK => ?_) AllReadyH.nil)
      go_simp
      (go_at_call 29; ((with_reducible refine (eTime_R _ _).mono ?_); rintro e w' ⟨rfl, rfl⟩))
      (try go_wp2_with fail)
      refine hK.out _ _ (by with_reducible first | assumption | exact KS.out _ (by assumption) | exact KS.out _ (KA.out _ _ (by assumption))) (fun hHeld => ?_)
      clear hK K
      try simp only [Act.put, List.setIfInBounds_toArray, List.set_cons_zero, List.set_cons_succ]
      refine wpAnyH_take (i := 13) (oi := _) (v := ?_) rfl (by kernel_rfl) (by kernel_rfl) (by kernel_rfl) (fun _ _ _ h => h) (Or.inl ⟨by rfl, ?_⟩) (by assumption) ?_
      rotate_left
      · (intro w hSw; (try dsimp only at hSw); go_simp <;> with_reducible rfl)
      try simp only [Act.put, List.setIfInBounds_toArray, List.set_cons_zero, List.set_cons_succ]
      refine wpAnyH_take (i := 14) (oi := _) (v := ?_) rfl (by kernel_rfl) (by kernel_rfl) (by kernel_rfl) (fun _ _ _ h => h) (Or.inl ⟨by rfl, ?_⟩) (by assumption) ?_
      rotate_left
      · (intro w hSw; (try dsimp only at hSw); go_simp <;> with_reducible rfl)
      try simp only [Act.put, List.setIfInBounds_toArray, List.set_cons_zero, List.set_cons_succ]
      refine wpAnyH_ready (rs := [15]) (by kernel_rfl) (by simp) (AllReadyH.cons rfl (fun K hK => ?_) AllReadyH.nil)
      go_simp
      (go_at_call 28; ((with_reducible refine (when_R _ _ _).mono ?_); rintro e w' ⟨rfl, rfl⟩))
      (try go_wp2_with fail)
      refine hK.out _ _ (by with_reducible first | assumption | exact KS.out _ (by assumption) | exact KS.out _ (KA.out _ _ (by assumption))) (fun hHeld => ?_)
      clear hK K
      try simp only [Act.put, List.setIfInBounds_toArray, List.set_cons_zero, List.set_cons_succ]
      refine wpAnyH_ready (rs := [19]) (by kernel_rfl) (by simp) (AllReadyH.cons rfl (fun K hK => ?_) AllReadyH.nil)
      go_simp
      (go_at_call 28; ((with_reducible refine (when_R _ _ _).mono ?_); rintro e w' ⟨rfl, rfl⟩))
      (try go_wp2_with fail)
      refine hK.out _ _ (by with_reducible first | assumption | exact KS.out _ (by assumption) | exact KS.out _ (KA.out _ _ (by assumption))) (fun hHeld => ?_)
      clear hK K
      try simp only [Act.put, List.setIfInBounds_toArray, List.set_cons_zero, List.set_cons_succ]
      refine wpAnyH_ready (rs := [20]) (by kernel_rfl) (by simp) (AllReadyH.cons rfl (fun K hK => ?_) AllReadyH.nil)
      go_simp
      (try go_wp2_with fail)
      refine hK.out _ _ (by with_reducible first | assumption | exact KS.out _ (by assumption) | exact KS.out _ (KA.out _ _ (by assumption))) (fun hHeld => ?_)
      clear hK K
      try simp only [Act.put, List.setIfInBounds_toArray, List.set_cons_zero, List.set_cons_succ]
      refine wpAnyH_ready (rs := [21]) (by kernel_rfl) (by simp) (AllReadyH.cons rfl (fun K hK => ?_) AllReadyH.nil)
      go_simp
      (go_at_call 26; refine (first_4 _ ce (whenW (!inR t 0 36000000) 1) (whenW (!inR out 0 36000000) 1) (whenW (decide (tend ≠ -1)) 10) _ (by simp [go_sem]) (by simp [go_sem]) (by simp [go_sem]) (by simp [go_sem, HTD.out])).mono ?_; rw [HE.out]; rintro e w' ⟨rfl, rfl⟩)
      (try go_wp2_with fail)
      refine hK.out _ _ (by with_reducible first | assumption | exact KS.out _ (by assumption) | exact KS.out _ (KA.out _ _ (by assumption))) (fun hHeld => ?_)
      clear hK K
      try simp only [Act.put, List.setIfInBounds_toArray, List.set_cons_zero, List.set_cons_succ]
      refine wpAnyH_ready (rs := [22]) (by kernel_rfl) (by simp) (AllReadyH.cons rfl (fun K hK => ?_) AllReadyH.nil)
      go_simp
      (try go_wp2_with fail)
      refine hK.out _ _ (by with_reducible first | assumption | exact KS.out _ (by assumption) | exact KS.out _ (KA.out _ _ (by assumption))) (fun hHeld => ?_)
      clear hK K
      try simp only [Act.put, List.setIfInBounds_toArray, List.set_cons_zero, List.set_cons_succ]
      refine wpAnyH_done (by kernel_rfl) ?_ _
      all_goals go_wp2_with fail
      all_goals go_meet
      all_goals exact ⟨by first | rfl | rw [hE], by with_reducible first | assumption | exact KA.out _ _ (by assumption)⟩
  case rest =>
    obtain ⟨rfl, hb2⟩ := hcut
    obtain ⟨w2, rfl⟩ : ∃ x, x = wc := ⟨wc, rfl⟩
    have hE : ¬ E = 0 := hE
    have HV2 := Lib.hid (show RR = zRun by rw [HXR.out, if_neg hE])
    have hbl := KB.out _ hb2
    have hbx := (KC.out _ hb2).2
    clear hw CE HXR HEE HCK
    have HPUT := Lib.hid ((hbx).put (u0 := .int .i64 0) (u1 := .int .i64 0) (u2 := .int .i64 0) (u3 := .int .i64 0) (u4 := .int .i64 0) (u5 := .int .i64 0) (u6 := .bool false) (u7 := .bool false) (u8 := .slice none 0 0) (u9 := .slice none 0 0) (u10 := .int .i64 0) (u11 := .slice none 0 0) (u12 := .int .i64 0) (u13 := .int .i64 0) (u14 := .int .i64 0))
    have HBEL := Lib.hid (below_set15 (g := w.heap.size + 1) (u0 := .int .i64 0) (u1 := .int .i64 0) (u2 := .int .i64 0) (u3 := .int .i64 0) (u4 := .int .i64 0) (u5 := .int .i64 0) (u6 := .bool false) (u7 := .bool false) (u8 := .slice none 0 0) (u9 := .slice none 0 0) (u10 := .int .i64 0) (u11 := .slice none 0 0) (u12 := .int .i64 0) (u13 := .int .i64 0) (u14 := .int .i64 0) hbl (by omega))
    obtain ⟨y0, y1, y2, y3, y4, y5, y6, y7, y8, y9, y10, y11, y12, y13, y14, z0, z1, z2, z3, z4, z5, z6, z7, z8, z9, z10, z11, z12, z13, z14⟩ := hbx
    go_wp2_with fail
    change bodyPost _ _ _ _ _ (set15 w2 (w.heap.size + 1) (.int .i64 0) (.int .i64 0) (.int .i64 0) (.int .i64 0) (.int .i64 0) (.int .i64 0) (.bool false) (.bool false) (.slice none 0 0) (.slice none 0 0) (.int .i64 0) (.slice none 0 0) (.int .i64 0) (.int .i64 0) (.int .i64 0))
    have hcc := HPUT.out
    have hbel := HBEL.out
    generalize set15 w2 (w.heap.size + 1) (.int .i64 0) (.int .i64 0) (.int .i64 0) (.int .i64 0) (.int .i64 0) (.int .i64 0) (.bool false) (.bool false) (.slice none 0 0) (.slice none 0 0) (.int .i64 0) (.slice none 0 0) (.int .i64 0) (.int .i64 0) (.int .i64 0) = w3 at *
    obtain ⟨x0, x1, x2, x3, x4, x5, x6, x7, x8, x9, x10, x11, x12, x13, x14, _, _, _, _, _, _, _, _, _, _, _, _, _, _, _⟩ := hcc
    exact bodyPost_ret (v := .tuple #[(.agg #[.int .i64 0, .int .i64 0, .int .i64 0, .int .i64 0, .int .i64 0, .int .i64 0, .bool false, .bool false, .slice none 0 0, .slice none 0 0, .int .i64 0, .slice none 0 0, .int .i64 0, .int .i64 0, .int .i64 0]), .int .i64 E]) (by simp [results, Try.results14, go_sem, x0, x1, x2, x3, x4, x5, x6, x7, x8, x9, x10, x11, x12, x13, x14]) rfl ⟨_, _, _, by rw [HV2.out] <;> rfl, by rw [HV2.out]; exact zRun_new _ _, hbel⟩
end Go.Proofs.Ytopmdeefcjdadaa
