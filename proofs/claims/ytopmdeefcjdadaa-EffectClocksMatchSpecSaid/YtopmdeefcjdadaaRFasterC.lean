/- the reference's Faster. (printed by wip/gen/gen_rfaster.py) -/
import Derived.Test.YtopmdeefcjdadaaFasterKit2
import Derived.Test.YtopmdeefcjdadaaRRunCheck
import Derived.Test.YtopmdeefcjdadaaRunLaw
import Derived.Deep.RegionWith
import Derived.Deep.DeepCutAuto
namespace Go.Proofs.Ytopmdeefcjdadaa
open Go.RowKit
set_option linter.unusedVariables false
set_option linter.unusedSimpArgs false

set_option maxRecDepth 100000 in
set_option maxHeartbeats 16000000 in
theorem rfaster_ok (form low high cycle width spread : Int) (back rel : Bool) (start tin tend tout : Int) (t p : Int) (sv kv rv : Value) (ls : List Stp) (lk : List (Int × ByteArray)) (lr : List (Int × Int)) (w : World)
    (hx : RunAt w.heap.size w ⟨⟨form, low, high, cycle, width, spread, back, rel, ls⟩, lk, start, lr, tin, tend, tout⟩ sv kv rv) (hf : RunFit ⟨⟨form, low, high, cycle, width, spread, back, rel, ls⟩, lk, start, lr, tin, tend, tout⟩) (hE : fastF ⟨⟨form, low, high, cycle, width, spread, back, rel, ls⟩, lk, start, lr, tin, tend, tout⟩ t p = 0) (h50 : ¬ 50 < (fasterR lr t p).length) :
    Calls Try.prog 12 #[runV ⟨⟨form, low, high, cycle, width, spread, back, rel, ls⟩, lk, start, lr, tin, tend, tout⟩ sv kv rv, .int .i64 t, .int .i64 p] w (RunRes w (fastE ⟨⟨form, low, high, cycle, width, spread, back, rel, ls⟩, lk, start, lr, tin, tend, tout⟩ t p) (fastR ⟨⟨form, low, high, cycle, width, spread, back, rel, ls⟩, lk, start, lr, tin, tend, tout⟩ t p)) := by
  have CE := Lib.hid (fun W (hb : Below w.heap.size w W) => rcheckAlone_any ⟨⟨form, low, high, cycle, width, spread, back, rel, ls⟩, lk, start, lr, tin, tend, tout⟩ sv kv rv W ((hx.below hb).more hb.size) hf)
  have HEE := Lib.hid (show fi3 (chkRun ⟨⟨form, low, high, cycle, width, spread, back, rel, ls⟩, lk, start, lr, tin, tend, tout⟩) (whenW (!inR t 0 36000000) 1) (whenW (!inR p 0 1000 || decide (t < start)) 1) = fastF ⟨⟨form, low, high, cycle, width, spread, back, rel, ls⟩, lk, start, lr, tin, tend, tout⟩ t p from rfl)
  have HXE := Lib.hid (show fastE ⟨⟨form, low, high, cycle, width, spread, back, rel, ls⟩, lk, start, lr, tin, tend, tout⟩ t p = if fastF ⟨⟨form, low, high, cycle, width, spread, back, rel, ls⟩, lk, start, lr, tin, tend, tout⟩ t p ≠ 0 then fastF ⟨⟨form, low, high, cycle, width, spread, back, rel, ls⟩, lk, start, lr, tin, tend, tout⟩ t p else if 50 < (fasterR lr t p).length then 2 else 0 from rfl)
  have HXR := Lib.hid (show fastR ⟨⟨form, low, high, cycle, width, spread, back, rel, ls⟩, lk, start, lr, tin, tend, tout⟩ t p = if fastE ⟨⟨form, low, high, cycle, width, spread, back, rel, ls⟩, lk, start, lr, tin, tend, tout⟩ t p = 0 then ⟨⟨form, low, high, cycle, width, spread, back, rel, ls⟩, lk, start, fasterR lr t p, tin, tend, tout⟩ else zRun from rfl)
  have HCK := Lib.hid (show chkRun ⟨⟨form, low, high, cycle, width, spread, back, rel, ls⟩, lk, start, lr, tin, tend, tout⟩ = 0 → ls.length ≤ 50 ∧ lk.length ≤ 400 ∧ lr.length ≤ 50 ∧ RatesOk start lr from fun h => by
    obtain ⟨k1, k2, k3, _, _, _, _, k4, k5⟩ := chkRun_zero h
    exact ⟨chkEf_steps k1, k3, k4, k5⟩)
  generalize chkRun ⟨⟨form, low, high, cycle, width, spread, back, rel, ls⟩, lk, start, lr, tin, tend, tout⟩ = ce at *
  generalize fastF ⟨⟨form, low, high, cycle, width, spread, back, rel, ls⟩, lk, start, lr, tin, tend, tout⟩ t p = E at *
  generalize fastR ⟨⟨form, low, high, cycle, width, spread, back, rel, ls⟩, lk, start, lr, tin, tend, tout⟩ t p = RR at *
  generalize fastE ⟨⟨form, low, high, cycle, width, spread, back, rel, ls⟩, lk, start, lr, tin, tend, tout⟩ t p = EE at *
  have R1 := Lib.hid (RowC.of_steps hx.steps)
  have R2 := Lib.hid (RowC.of_cells hx.keys)
  have R3 := Lib.hid (RowC.of_cells hx.rates)
  obtain ⟨sa, scap, rfl, _⟩ := R1.out
  obtain ⟨ka, kcap, rfl, _⟩ := R2.out
  obtain ⟨ra, rcap, rfl, _⟩ := R3.out
  clear hx hf
  simp only [runV] at *
  have KC := Lib.hid (show ∀ W, Below (w.heap.size + 1 + 1) ((w.alloc (.cells #[.int .i64 form, .int .i64 low, .int .i64 high, .int .i64 cycle, .int .i64 width, .int .i64 spread, .bool back, .bool rel, .slice sa ls.length scap, .slice ka lk.length kcap, .int .i64 start, .slice ra lr.length rcap, .int .i64 tin, .int .i64 tend, .int .i64 tout] 28)).alloc (.cells #[.int .i64 0, .int .i64 0, .int .i64 0, .int .i64 0, .int .i64 0, .int .i64 0, .bool false, .bool false, .slice none 0 0, .slice none 0 0, .int .i64 0, .slice none 0 0, .int .i64 0, .int .i64 0, .int .i64 0] 28)) W → Box15 W w.heap.size (.int .i64 form) (.int .i64 low) (.int .i64 high) (.int .i64 cycle) (.int .i64 width) (.int .i64 spread) (.bool back) (.bool rel) (.slice sa ls.length scap) (.slice ka lk.length kcap) (.int .i64 start) (.slice ra lr.length rcap) (.int .i64 tin) (.int .i64 tend) (.int .i64 tout) ∧ Box15 W (w.heap.size + 1) (.int .i64 0) (.int .i64 0) (.int .i64 0) (.int .i64 0) (.int .i64 0) (.int .i64 0) (.bool false) (.bool false) (.slice none 0 0) (.slice none 0 0) (.int .i64 0) (.slice none 0 0) (.int .i64 0) (.int .i64 0) (.int .i64 0) from fun W hW => ⟨((box15_new w (.int .i64 form) (.int .i64 low) (.int .i64 high) (.int .i64 cycle) (.int .i64 width) (.int .i64 spread) (.bool back) (.bool rel) (.slice sa ls.length scap) (.slice ka lk.length kcap) (.int .i64 start) (.slice ra lr.length rcap) (.int .i64 tin) (.int .i64 tend) (.int .i64 tout) 28).alloc (by simp) _).below hW (by omega), by
    have c := (box15_new (w.alloc (.cells #[.int .i64 form, .int .i64 low, .int .i64 high, .int .i64 cycle, .int .i64 width, .int .i64 spread, .bool back, .bool rel, .slice sa ls.length scap, .slice ka lk.length kcap, .int .i64 start, .slice ra lr.length rcap, .int .i64 tin, .int .i64 tend, .int .i64 tout] 28)) (.int .i64 0) (.int .i64 0) (.int .i64 0) (.int .i64 0) (.int .i64 0) (.int .i64 0) (.bool false) (.bool false) (.slice none 0 0) (.slice none 0 0) (.int .i64 0) (.slice none 0 0) (.int .i64 0) (.int .i64 0) (.int .i64 0) 28).below hW (by simp)
    simpa using c⟩)
  have KZ := Lib.hid (show ∀ W, Below (w.heap.size + 1 + 1) ((w.alloc (.cells #[.int .i64 form, .int .i64 low, .int .i64 high, .int .i64 cycle, .int .i64 width, .int .i64 spread, .bool back, .bool rel, .slice sa ls.length scap, .slice ka lk.length kcap, .int .i64 start, .slice ra lr.length rcap, .int .i64 tin, .int .i64 tend, .int .i64 tout] 28)).alloc (.cells #[.int .i64 0, .int .i64 0, .int .i64 0, .int .i64 0, .int .i64 0, .int .i64 0, .bool false, .bool false, .slice none 0 0, .slice none 0 0, .int .i64 0, .slice none 0 0, .int .i64 0, .int .i64 0, .int .i64 0] 28)) W → (w.heap.size + 1 + 1) ≤ W.heap.size from fun W hW => by
    have := hW.size
    simp at this
    omega)
  have KB := Lib.hid (show ∀ W, Below (w.heap.size + 1 + 1) ((w.alloc (.cells #[.int .i64 form, .int .i64 low, .int .i64 high, .int .i64 cycle, .int .i64 width, .int .i64 spread, .bool back, .bool rel, .slice sa ls.length scap, .slice ka lk.length kcap, .int .i64 start, .slice ra lr.length rcap, .int .i64 tin, .int .i64 tend, .int .i64 tout] 28)).alloc (.cells #[.int .i64 0, .int .i64 0, .int .i64 0, .int .i64 0, .int .i64 0, .int .i64 0, .bool false, .bool false, .slice none 0 0, .slice none 0 0, .int .i64 0, .slice none 0 0, .int .i64 0, .int .i64 0, .int .i64 0] 28)) W → Below w.heap.size w W from fun W hW => (((Below.refl _ _).alloc (Nat.le_refl _) _).alloc (by simp) _).trans (hW.mono (by omega)))
  have KT := Lib.hid (show ∀ W W1, Below (w.heap.size + 1 + 1) ((w.alloc (.cells #[.int .i64 form, .int .i64 low, .int .i64 high, .int .i64 cycle, .int .i64 width, .int .i64 spread, .bool back, .bool rel, .slice sa ls.length scap, .slice ka lk.length kcap, .int .i64 start, .slice ra lr.length rcap, .int .i64 tin, .int .i64 tend, .int .i64 tout] 28)).alloc (.cells #[.int .i64 0, .int .i64 0, .int .i64 0, .int .i64 0, .int .i64 0, .int .i64 0, .bool false, .bool false, .slice none 0 0, .slice none 0 0, .int .i64 0, .slice none 0 0, .int .i64 0, .int .i64 0, .int .i64 0] 28)) W → Below W.heap.size W W1 → Below (w.heap.size + 1 + 1) ((w.alloc (.cells #[.int .i64 form, .int .i64 low, .int .i64 high, .int .i64 cycle, .int .i64 width, .int .i64 spread, .bool back, .bool rel, .slice sa ls.length scap, .slice ka lk.length kcap, .int .i64 start, .slice ra lr.length rcap, .int .i64 tin, .int .i64 tend, .int .i64 tout] 28)).alloc (.cells #[.int .i64 0, .int .i64 0, .int .i64 0, .int .i64 0, .int .i64 0, .int .i64 0, .bool false, .bool false, .slice none 0 0, .slice none 0 0, .int .i64 0, .slice none 0 0, .int .i64 0, .int .i64 0, .int .i64 0] 28)) W1 from fun W W1 h1 h2 => h1.trans (h2.mono (KZ.out W h1)))
  have KA := Lib.hid (show ∀ W o, Below (w.heap.size + 1 + 1) ((w.alloc (.cells #[.int .i64 form, .int .i64 low, .int .i64 high, .int .i64 cycle, .int .i64 width, .int .i64 spread, .bool back, .bool rel, .slice sa ls.length scap, .slice ka lk.length kcap, .int .i64 start, .slice ra lr.length rcap, .int .i64 tin, .int .i64 tend, .int .i64 tout] 28)).alloc (.cells #[.int .i64 0, .int .i64 0, .int .i64 0, .int .i64 0, .int .i64 0, .int .i64 0, .bool false, .bool false, .slice none 0 0, .slice none 0 0, .int .i64 0, .slice none 0 0, .int .i64 0, .int .i64 0, .int .i64 0] 28)) W → Below (w.heap.size + 1 + 1) ((w.alloc (.cells #[.int .i64 form, .int .i64 low, .int .i64 high, .int .i64 cycle, .int .i64 width, .int .i64 spread, .bool back, .bool rel, .slice sa ls.length scap, .slice ka lk.length kcap, .int .i64 start, .slice ra lr.length rcap, .int .i64 tin, .int .i64 tend, .int .i64 tout] 28)).alloc (.cells #[.int .i64 0, .int .i64 0, .int .i64 0, .int .i64 0, .int .i64 0, .int .i64 0, .bool false, .bool false, .slice none 0 0, .slice none 0 0, .int .i64 0, .slice none 0 0, .int .i64 0, .int .i64 0, .int .i64 0] 28)) (W.alloc o) from fun W o h1 => h1.alloc (KZ.out W h1) o)
  have hw : Below (w.heap.size + 1 + 1) ((w.alloc (.cells #[.int .i64 form, .int .i64 low, .int .i64 high, .int .i64 cycle, .int .i64 width, .int .i64 spread, .bool back, .bool rel, .slice sa ls.length scap, .slice ka lk.length kcap, .int .i64 start, .slice ra lr.length rcap, .int .i64 tin, .int .i64 tend, .int .i64 tout] 28)).alloc (.cells #[.int .i64 0, .int .i64 0, .int .i64 0, .int .i64 0, .int .i64 0, .int .i64 0, .bool false, .bool false, .slice none 0 0, .slice none 0 0, .int .i64 0, .slice none 0 0, .int .i64 0, .int .i64 0, .int .i64 0] 28)) ((w.alloc (.cells #[.int .i64 form, .int .i64 low, .int .i64 high, .int .i64 cycle, .int .i64 width, .int .i64 spread, .bool back, .bool rel, .slice sa ls.length scap, .slice ka lk.length kcap, .int .i64 start, .slice ra lr.length rcap, .int .i64 tin, .int .i64 tend, .int .i64 tout] 28)).alloc (.cells #[.int .i64 0, .int .i64 0, .int .i64 0, .int .i64 0, .int .i64 0, .int .i64 0, .bool false, .bool false, .slice none 0 0, .slice none 0 0, .int .i64 0, .slice none 0 0, .int .i64 0, .int .i64 0, .int .i64 0] 28)) := Below.refl _ _
  go_enter Try.func12, Try.ntmps12
  go_wp2_with fail
  refine (CE.out _ (KB.out _ hw)).mono ?_
  rintro e w2 ⟨rfl, hbC⟩
  have HB2 := Lib.hid (KT.out _ _ hw hbC)
  clear hbC hw CE
  have hi : (0 ≤ t ∧ t ≤ 36000000) ∧ (0 ≤ p ∧ p ≤ 1000) ∧ start ≤ t ∧ ce = 0 := by
    obtain ⟨h1, h2, h3⟩ := fi3_zero (HEE.out.trans hE)
    have h4 := whenW_zero h3
    simp only [Bool.or_eq_false_iff] at h4
    exact ⟨(inR_iff _ _ _).1 (by simpa using whenW_zero h2), (inR_iff _ _ _).1 (by simpa using h4.1), by simpa using h4.2, h1⟩
  obtain ⟨it, ip, hst, hce⟩ := hi
  have h1 : inR t 0 36000000 = true := (inR_iff _ _ _).2 it
  have h2 : inR p 0 1000 = true := (inR_iff _ _ _).2 ip
  obtain ⟨k1, k2, k3, k4⟩ := HCK.out hce
  obtain ⟨nn, hn, hfl, hn1, hn2⟩ := filter_take k4 t
  have HFL := Lib.hid (show fasterR lr t p = lr.take nn ++ [(t, p)] by unfold fasterR; rw [hfl])
  have HN1 := Lib.hid hn1
  have HN2 := Lib.hid hn2
  clear k4 hfl hn1 hn2 HEE HCK
  subst hce
  subst hE
  have HNT := Lib.hid (show (lr.take nn).length = nn by rw [List.length_take]; omega)
  have HLEN := Lib.hid (show (fasterR lr t p).length = nn + 1 by rw [HFL.out, List.length_append, HNT.out]; rfl)
  rw [HLEN.out] at h50
  have HSN := Lib.hid (show rCells (lr.take nn) ++ [Value.int .i64 t, .int .i64 p] = rCells (fasterR lr t p) by rw [HFL.out]; unfold rCells; rw [cells2_snoc])
  obtain ⟨⟨p0, p1, p2, p3, p4, p5, p6, p7, p8, p9, p10, p11, p12, p13, p14, _, _, _, _, _, _, _, _, _, _, _, _, _, _, _⟩, _⟩ := KC.out _ HB2.out
  go_upto_region 6 with (first | (go_at_call 36; ((with_reducible refine (rTime_R _ _).mono ?_); rintro e w' ⟨rfl, rfl⟩)) | (go_at_call 38; ((with_reducible refine (rwithin_R _ _ _ _).mono ?_); rintro e w' ⟨rfl, rfl⟩)) | fail)
  clear p0 p1 p2 p3 p4 p5 p6 p7 p8 p9 p10 p11 p12 p13 p14
  have CP := Lib.hid (rcopied_core form low high cycle width spread back rel start tin tend tout (.slice sa ls.length scap) (.slice ka lk.length kcap) (.slice ra lr.length rcap) ls.length lk.length lr.length (stCells ls) (kCells lk) (rCells lr) w2 (by omega) (by omega) (by omega) (cells3_length _ _ _ _) (cells2_length _ _ _) (cells2_length _ _ _) (one_steps _) (one_keys _) (one_rates _)
      (by obtain ⟨a, b, c, d⟩ := R1.out.below (KB.out _ HB2.out); exact ⟨a, b, c, fun h => by obtain ⟨e, f, g, h, i⟩ := d h; exact ⟨e, f, g, Nat.lt_of_lt_of_le h (KB.out _ HB2.out).size, i⟩⟩)
      (by obtain ⟨a, b, c, d⟩ := R2.out.below (KB.out _ HB2.out); exact ⟨a, b, c, fun h => by obtain ⟨e, f, g, h, i⟩ := d h; exact ⟨e, f, g, Nat.lt_of_lt_of_le h (KB.out _ HB2.out).size, i⟩⟩)
      (by obtain ⟨a, b, c, d⟩ := R3.out.below (KB.out _ HB2.out); exact ⟨a, b, c, fun h => by obtain ⟨e, f, g, h, i⟩ := d h; exact ⟨e, f, g, Nat.lt_of_lt_of_le h (KB.out _ HB2.out).size, i⟩⟩))
  obtain ⟨⟨p0, p1, p2, p3, p4, p5, p6, p7, p8, p9, p10, p11, p12, p13, p14, _, _, _, _, _, _, _, _, _, _, _, _, _, _, _⟩, _⟩ := KC.out _ HB2.out
  clear R1 R2 R3
  go_wp2_with fail
  refine CP.out.mono ?_
  rintro e w4 ⟨vs, vk, vr, rfl, o1, o2, o3, hb4⟩
  obtain ⟨a1, c1, rfl⟩ := own_shape3 o1
  obtain ⟨a2, c2, rfl⟩ := own_shape3 o2
  obtain ⟨a3, c3, rfl⟩ := own_shape3 o3
  have hz2 := KZ.out _ HB2.out
  have hw4 := KT.out _ _ HB2.out hb4
  have HF0 := Lib.hid (show FT w (w4.alloc (.cells #[.int .i64 form, .int .i64 low, .int .i64 high, .int .i64 cycle, .int .i64 width, .int .i64 spread, .bool back, .bool rel, .slice a1 ls.length c1, .slice a2 lk.length c2, .int .i64 start, .slice a3 lr.length c3, .int .i64 tin, .int .i64 tend, .int .i64 tout] 28)) form low high cycle width spread back rel start tin tend tout w4.heap.size (.slice a1 ls.length c1) (.slice a2 lk.length c2) (.slice a3 lr.length c3) (.slice a3 lr.length c3) ls lk lr from
    have hb5 : Below w4.heap.size w4 (w4.alloc (.cells #[.int .i64 form, .int .i64 low, .int .i64 high, .int .i64 cycle, .int .i64 width, .int .i64 spread, .bool back, .bool rel, .slice a1 ls.length c1, .slice a2 lk.length c2, .int .i64 start, .slice a3 lr.length c3, .int .i64 tin, .int .i64 tend, .int .i64 tout] 28)) := (Below.refl _ _).alloc (Nat.le_refl _) _
    ⟨box15_new _ (.int .i64 form) (.int .i64 low) (.int .i64 high) (.int .i64 cycle) (.int .i64 width) (.int .i64 spread) (.bool back) (.bool rel) (.slice a1 ls.length c1) (.slice a2 lk.length c2) (.int .i64 start) (.slice a3 lr.length c3) (.int .i64 tin) (.int .i64 tend) (.int .i64 tout) 28, typed_new _ _ _, own_below' (own_base' o1 hz2) hb5, own_below' (own_base' o2 hz2) hb5, own_below' (own_base' o3 hz2) hb5, (KC.out _ (KA.out _ _ hw4)).2, KB.out _ (KA.out _ _ hw4), KZ.out _ hw4, KZ.out _ (KA.out _ _ hw4)⟩)
  clear o1 o2 o3 hb4 CP p0 p1 p2 p3 p4 p5 p6 p7 p8 p9 p10 p11 p12 p13 p14
  have hz4 := KZ.out _ hw4
  clear hw4 KC KB KT KA KZ HB2 hz2
  obtain ⟨⟨p0, p1, p2, p3, p4, p5, p6, p7, p8, p9, p10, p11, p12, p13, p14, r0, r1, r2, r3, r4, r5, r6, r7, r8, r9, r10, r11, r12, r13, r14⟩, _, _, _, _, _, _, _, hsz0⟩ := HF0.out
  have HCE0 := Lib.hid (show ∀ k (h : k < lr.length), ∃ b, a3 = some ⟨b, 0, none⟩ ∧ b < (w4.alloc (.cells #[.int .i64 form, .int .i64 low, .int .i64 high, .int .i64 cycle, .int .i64 width, .int .i64 spread, .bool back, .bool rel, .slice a1 ls.length c1, .slice a2 lk.length c2, .int .i64 start, .slice a3 lr.length c3, .int .i64 tin, .int .i64 tend, .int .i64 tout] 28)).heap.size ∧ (w4.alloc (.cells #[.int .i64 form, .int .i64 low, .int .i64 high, .int .i64 cycle, .int .i64 width, .int .i64 spread, .bool back, .bool rel, .slice a1 ls.length c1, .slice a2 lk.length c2, .int .i64 start, .slice a3 lr.length c3, .int .i64 tin, .int .i64 tend, .int .i64 tout] 28)).cell? ⟨b, k * 2, none⟩ = some (.int .i64 lr[k].1) from fun k h => by
    obtain ⟨b, off, e, hb, hc⟩ := rates_get (CellsS.of_own HF0.out.ra) k h
    have hc0 := (hc _ (Below.refl _ _)).1
    have ho : off = 0 := by
      rcases HF0.out.ra.2 with ⟨h1, h2⟩ | ⟨g, cap, cur, h1, _⟩
      · omega
      · injection h1 with h1
        rw [e] at h1
        injection h1 with h1
        injection h1
    subst ho
    exact ⟨b, e, hb, by rw [Nat.zero_add] at hc0; exact hc0⟩)
  go_wp2_with fail
  go_loop [10] (fun i => ∃ k : Nat, k ≤ nn ∧ i = .int .i64 k) (fun i => nn - (intOf i).toNat)
  case atStart => exact ⟨0, Nat.zero_le _, rfl⟩
  case round =>
    obtain ⟨k, hk, rfl⟩ := hrel
    by_cases hlt : k < lr.length
    · obtain ⟨b, rfl, hbb, d0⟩ := HCE0.out k hlt
      have H1 := Lib.hid (HN1.out k hlt)
      have H2 := Lib.hid (HN2.out k hlt)
      generalize lr[k].1 = rt at *
      by_cases hkn : k < nn
      · have hd : rt < t := H1.out hkn
        go_wp2_with fail
        go_round
        case rel => exact ⟨k + 1, by omega, by go_num⟩
        case measure => simp [intOf]; omega
      · obtain rfl : nn = k := by omega
        have hd : ¬ rt < t := by have := H2.out (Nat.le_refl _); omega
        clear HCE0 HN1 HN2
        have hnc : ¬ c3 < nn := by
          have h := HF0.out.ra.2
          rcases h with ⟨h1, h2⟩ | ⟨g, cap, cur, h1, _, _, h4, _⟩
          · omega
          · injection h1 with _ _ e3
            omega
        have HF1 := Lib.hid (HF0.out.cut nn hn)
        obtain ⟨i0, hi, hz0, hz1, hz2⟩ := info_parts rates_info
        generalize hW6 : w4.alloc (.cells #[.int .i64 form, .int .i64 low, .int .i64 high, .int .i64 cycle, .int .i64 width, .int .i64 spread, .bool back, .bool rel, .slice a1 ls.length c1, .slice a2 lk.length c2, .int .i64 start, .slice (some ⟨b, 0, none⟩) lr.length c3, .int .i64 tin, .int .i64 tend, .int .i64 tout] 28) = w6 at *
        clear hW6
        have HF3 := Lib.hid (HF1.out.alloc (.cells #[.int .i64 t, .int .i64 p] 67))
        have HO3 := Lib.hid (show (w6.alloc (.cells #[.int .i64 t, .int .i64 p] 67)).ownsRow (w.heap.size + 1 + 1) 67 2 (.slice (some ⟨b, 0, none⟩) nn c3) nn (rCells (lr.take nn)) from by have h := HF3.out.ra; rwa [HNT.out] at h)
        have HCE := Lib.hid (show ∀ j u, [Value.int .i64 t, .int .i64 p][j]? = some u → (w6.alloc (.cells #[.int .i64 t, .int .i64 p] 67)).cell? ((⟨w6.heap.size, 0, none⟩ : Addr).add j) = some u from fun j u hu => by
          rw [addr_plus]
          match j, hu with
          | 0, hu => simp at hu; subst hu; simp [go_sem]
          | 1, hu => simp at hu; subst hu; simp [go_sem])
        clear HF1 HF0
        go_upto_region 11 with (at_builtin; refine wpList_append_own _ rfl _ _ 26 rfl (w.heap.size + 1 + 1) 67 i0 (.agg #[.int .i64 0, .int .i64 0]) 2 16 Try.underlying26 hi hz0 hz1 hz2 rfl (by omega) _ nn (rCells (lr.take nn)) rfl HO3.out ⟨w6.heap.size, 0, none⟩ 1 1 [.int .i64 t, .int .i64 p] rfl rfl HCE.out (by simp [Value.oneCell']) (by unfold maxLen; omega) (by omega) (by simp; omega) ?_; intro v7 w7 hown hgrow _; have HF4 := Lib.hid (HF3.out.grow (v' := v7) (lr' := fasterR lr t p) hgrow (by rw [← HSN.out, HLEN.out]; exact hown)); obtain ⟨a7, c7, rfl⟩ := own_shape3 hown; clear hown hgrow p0 p1 p2 p3 p4 p5 p6 p7 p8 p9 p10 p11 p12 p13 p14 r0 r1 r2 r3 r4 r5 r6 r7 r8 r9 r10 r11 r12 r13 r14; obtain ⟨⟨p0, p1, p2, p3, p4, p5, p6, p7, p8, p9, p10, p11, p12, p13, p14, r0, r1, r2, r3, r4, r5, r6, r7, r8, r9, r10, r11, r12, r13, r14⟩, _, _, _, _, _, _, _, _⟩ := HF4.out)
        have HF5 := Lib.hid HF4.out.put
        clear HF4 HF3 HO3 HCE HSN p0 p1 p2 p3 p4 p5 p6 p7 p8 p9 p10 p11 p12 p13 p14 r0 r1 r2 r3 r4 r5 r6 r7 r8 r9 r10 r11 r12 r13 r14
        generalize w7.setCell ⟨w4.heap.size, 11, none⟩ (.slice a7 (nn + 1) c7) = w8 at *
        have HV1 := Lib.hid (show EE = 0 by rw [HXE.out, if_neg (by simp), HLEN.out, if_neg h50])
        have HV2 := Lib.hid (show RR = ⟨⟨form, low, high, cycle, width, spread, back, rel, ls⟩, lk, start, fasterR lr t p, tin, tend, tout⟩ by rw [HXR.out, HV1.out, if_pos rfl])
        clear HXE HXR
        have HPUT := Lib.hid (HF5.out.res.put (u0 := .int .i64 form) (u1 := .int .i64 low) (u2 := .int .i64 high) (u3 := .int .i64 cycle) (u4 := .int .i64 width) (u5 := .int .i64 spread) (u6 := .bool back) (u7 := .bool rel) (u8 := .slice a1 ls.length c1) (u9 := .slice a2 lk.length c2) (u10 := .int .i64 start) (u11 := .slice a7 (nn + 1) c7) (u12 := .int .i64 tin) (u13 := .int .i64 tend) (u14 := .int .i64 tout))
        have HBEL := Lib.hid (below_set15 (g := w.heap.size + 1) (u0 := .int .i64 form) (u1 := .int .i64 low) (u2 := .int .i64 high) (u3 := .int .i64 cycle) (u4 := .int .i64 width) (u5 := .int .i64 spread) (u6 := .bool back) (u7 := .bool rel) (u8 := .slice a1 ls.length c1) (u9 := .slice a2 lk.length c2) (u10 := .int .i64 start) (u11 := .slice a7 (nn + 1) c7) (u12 := .int .i64 tin) (u13 := .int .i64 tend) (u14 := .int .i64 tout) HF5.out.bl (by omega))
        have HRUN := Lib.hid (HF5.out.runPut (u0 := .int .i64 form) (u1 := .int .i64 low) (u2 := .int .i64 high) (u3 := .int .i64 cycle) (u4 := .int .i64 width) (u5 := .int .i64 spread) (u6 := .bool back) (u7 := .bool rel) (u8 := .slice a1 ls.length c1) (u9 := .slice a2 lk.length c2) (u10 := .int .i64 start) (u11 := .slice a7 (nn + 1) c7) (u12 := .int .i64 tin) (u13 := .int .i64 tend) (u14 := .int .i64 tout))
        obtain ⟨⟨p0, p1, p2, p3, p4, p5, p6, p7, p8, p9, p10, p11, p12, p13, p14, _, _, _, _, _, _, _, _, _, _, _, _, _, _, _⟩, _, _, _, _, ⟨y0, y1, y2, y3, y4, y5, y6, y7, y8, y9, y10, y11, y12, y13, y14, z0, z1, z2, z3, z4, z5, z6, z7, z8, z9, z10, z11, z12, z13, z14⟩, _, _, _⟩ := HF5.out
        go_wp2_with fail
        change bodyPost _ _ _ _ _ (set15 w8 (w.heap.size + 1) (.int .i64 form) (.int .i64 low) (.int .i64 high) (.int .i64 cycle) (.int .i64 width) (.int .i64 spread) (.bool back) (.bool rel) (.slice a1 ls.length c1) (.slice a2 lk.length c2) (.int .i64 start) (.slice a7 (nn + 1) c7) (.int .i64 tin) (.int .i64 tend) (.int .i64 tout))
        have hcc := HPUT.out
        have hbel := HBEL.out
        have hrun := HRUN.out
        generalize set15 w8 (w.heap.size + 1) (.int .i64 form) (.int .i64 low) (.int .i64 high) (.int .i64 cycle) (.int .i64 width) (.int .i64 spread) (.bool back) (.bool rel) (.slice a1 ls.length c1) (.slice a2 lk.length c2) (.int .i64 start) (.slice a7 (nn + 1) c7) (.int .i64 tin) (.int .i64 tend) (.int .i64 tout) = w3 at *
        obtain ⟨x0, x1, x2, x3, x4, x5, x6, x7, x8, x9, x10, x11, x12, x13, x14, _, _, _, _, _, _, _, _, _, _, _, _, _, _, _⟩ := hcc
        exact bodyPost_ret (v := .tuple #[(.agg #[.int .i64 form, .int .i64 low, .int .i64 high, .int .i64 cycle, .int .i64 width, .int .i64 spread, .bool back, .bool rel, .slice a1 ls.length c1, .slice a2 lk.length c2, .int .i64 start, .slice a7 (nn + 1) c7, .int .i64 tin, .int .i64 tend, .int .i64 tout]), .int .i64 0]) (by simp [results, Try.results12, go_sem, x0, x1, x2, x3, x4, x5, x6, x7, x8, x9, x10, x11, x12, x13, x14]) rfl ⟨_, _, _, by rw [HV1.out, HV2.out] <;> rfl, by rw [HV2.out]; exact hrun, hbel⟩
    · obtain rfl : nn = k := by omega
      clear HCE0 HN1 HN2
      have hnc : ¬ c3 < nn := by
        have h := HF0.out.ra.2
        rcases h with ⟨h1, h2⟩ | ⟨g, cap, cur, h1, _, _, h4, _⟩
        · omega
        · injection h1 with _ _ e3
          omega
      have HF1 := Lib.hid (HF0.out.cut nn hn)
      obtain ⟨i0, hi, hz0, hz1, hz2⟩ := info_parts rates_info
      generalize hW6 : w4.alloc (.cells #[.int .i64 form, .int .i64 low, .int .i64 high, .int .i64 cycle, .int .i64 width, .int .i64 spread, .bool back, .bool rel, .slice a1 ls.length c1, .slice a2 lk.length c2, .int .i64 start, .slice a3 lr.length c3, .int .i64 tin, .int .i64 tend, .int .i64 tout] 28) = w6 at *
      clear hW6
      have HF3 := Lib.hid (HF1.out.alloc (.cells #[.int .i64 t, .int .i64 p] 67))
      have HO3 := Lib.hid (show (w6.alloc (.cells #[.int .i64 t, .int .i64 p] 67)).ownsRow (w.heap.size + 1 + 1) 67 2 (.slice a3 nn c3) nn (rCells (lr.take nn)) from by have h := HF3.out.ra; rwa [HNT.out] at h)
      have HCE := Lib.hid (show ∀ j u, [Value.int .i64 t, .int .i64 p][j]? = some u → (w6.alloc (.cells #[.int .i64 t, .int .i64 p] 67)).cell? ((⟨w6.heap.size, 0, none⟩ : Addr).add j) = some u from fun j u hu => by
        rw [addr_plus]
        match j, hu with
        | 0, hu => simp at hu; subst hu; simp [go_sem]
        | 1, hu => simp at hu; subst hu; simp [go_sem])
      clear HF1 HF0
      go_upto_region 11 with (at_builtin; refine wpList_append_own _ rfl _ _ 26 rfl (w.heap.size + 1 + 1) 67 i0 (.agg #[.int .i64 0, .int .i64 0]) 2 16 Try.underlying26 hi hz0 hz1 hz2 rfl (by omega) _ nn (rCells (lr.take nn)) rfl HO3.out ⟨w6.heap.size, 0, none⟩ 1 1 [.int .i64 t, .int .i64 p] rfl rfl HCE.out (by simp [Value.oneCell']) (by unfold maxLen; omega) (by omega) (by simp; omega) ?_; intro v7 w7 hown hgrow _; have HF4 := Lib.hid (HF3.out.grow (v' := v7) (lr' := fasterR lr t p) hgrow (by rw [← HSN.out, HLEN.out]; exact hown)); obtain ⟨a7, c7, rfl⟩ := own_shape3 hown; clear hown hgrow p0 p1 p2 p3 p4 p5 p6 p7 p8 p9 p10 p11 p12 p13 p14 r0 r1 r2 r3 r4 r5 r6 r7 r8 r9 r10 r11 r12 r13 r14; obtain ⟨⟨p0, p1, p2, p3, p4, p5, p6, p7, p8, p9, p10, p11, p12, p13, p14, r0, r1, r2, r3, r4, r5, r6, r7, r8, r9, r10, r11, r12, r13, r14⟩, _, _, _, _, _, _, _, _⟩ := HF4.out)
      have HF5 := Lib.hid HF4.out.put
      clear HF4 HF3 HO3 HCE HSN p0 p1 p2 p3 p4 p5 p6 p7 p8 p9 p10 p11 p12 p13 p14 r0 r1 r2 r3 r4 r5 r6 r7 r8 r9 r10 r11 r12 r13 r14
      generalize w7.setCell ⟨w4.heap.size, 11, none⟩ (.slice a7 (nn + 1) c7) = w8 at *
      have HV1 := Lib.hid (show EE = 0 by rw [HXE.out, if_neg (by simp), HLEN.out, if_neg h50])
      have HV2 := Lib.hid (show RR = ⟨⟨form, low, high, cycle, width, spread, back, rel, ls⟩, lk, start, fasterR lr t p, tin, tend, tout⟩ by rw [HXR.out, HV1.out, if_pos rfl])
      clear HXE HXR
      have HPUT := Lib.hid (HF5.out.res.put (u0 := .int .i64 form) (u1 := .int .i64 low) (u2 := .int .i64 high) (u3 := .int .i64 cycle) (u4 := .int .i64 width) (u5 := .int .i64 spread) (u6 := .bool back) (u7 := .bool rel) (u8 := .slice a1 ls.length c1) (u9 := .slice a2 lk.length c2) (u10 := .int .i64 start) (u11 := .slice a7 (nn + 1) c7) (u12 := .int .i64 tin) (u13 := .int .i64 tend) (u14 := .int .i64 tout))
      have HBEL := Lib.hid (below_set15 (g := w.heap.size + 1) (u0 := .int .i64 form) (u1 := .int .i64 low) (u2 := .int .i64 high) (u3 := .int .i64 cycle) (u4 := .int .i64 width) (u5 := .int .i64 spread) (u6 := .bool back) (u7 := .bool rel) (u8 := .slice a1 ls.length c1) (u9 := .slice a2 lk.length c2) (u10 := .int .i64 start) (u11 := .slice a7 (nn + 1) c7) (u12 := .int .i64 tin) (u13 := .int .i64 tend) (u14 := .int .i64 tout) HF5.out.bl (by omega))
      have HRUN := Lib.hid (HF5.out.runPut (u0 := .int .i64 form) (u1 := .int .i64 low) (u2 := .int .i64 high) (u3 := .int .i64 cycle) (u4 := .int .i64 width) (u5 := .int .i64 spread) (u6 := .bool back) (u7 := .bool rel) (u8 := .slice a1 ls.length c1) (u9 := .slice a2 lk.length c2) (u10 := .int .i64 start) (u11 := .slice a7 (nn + 1) c7) (u12 := .int .i64 tin) (u13 := .int .i64 tend) (u14 := .int .i64 tout))
      obtain ⟨⟨p0, p1, p2, p3, p4, p5, p6, p7, p8, p9, p10, p11, p12, p13, p14, _, _, _, _, _, _, _, _, _, _, _, _, _, _, _⟩, _, _, _, _, ⟨y0, y1, y2, y3, y4, y5, y6, y7, y8, y9, y10, y11, y12, y13, y14, z0, z1, z2, z3, z4, z5, z6, z7, z8, z9, z10, z11, z12, z13, z14⟩, _, _, _⟩ := HF5.out
      go_wp2_with fail
      change bodyPost _ _ _ _ _ (set15 w8 (w.heap.size + 1) (.int .i64 form) (.int .i64 low) (.int .i64 high) (.int .i64 cycle) (.int .i64 width) (.int .i64 spread) (.bool back) (.bool rel) (.slice a1 ls.length c1) (.slice a2 lk.length c2) (.int .i64 start) (.slice a7 (nn + 1) c7) (.int .i64 tin) (.int .i64 tend) (.int .i64 tout))
      have hcc := HPUT.out
      have hbel := HBEL.out
      have hrun := HRUN.out
      generalize set15 w8 (w.heap.size + 1) (.int .i64 form) (.int .i64 low) (.int .i64 high) (.int .i64 cycle) (.int .i64 width) (.int .i64 spread) (.bool back) (.bool rel) (.slice a1 ls.length c1) (.slice a2 lk.length c2) (.int .i64 start) (.slice a7 (nn + 1) c7) (.int .i64 tin) (.int .i64 tend) (.int .i64 tout) = w3 at *
      obtain ⟨x0, x1, x2, x3, x4, x5, x6, x7, x8, x9, x10, x11, x12, x13, x14, _, _, _, _, _, _, _, _, _, _, _, _, _, _, _⟩ := hcc
      exact bodyPost_ret (v := .tuple #[(.agg #[.int .i64 form, .int .i64 low, .int .i64 high, .int .i64 cycle, .int .i64 width, .int .i64 spread, .bool back, .bool rel, .slice a1 ls.length c1, .slice a2 lk.length c2, .int .i64 start, .slice a7 (nn + 1) c7, .int .i64 tin, .int .i64 tend, .int .i64 tout]), .int .i64 0]) (by simp [results, Try.results12, go_sem, x0, x1, x2, x3, x4, x5, x6, x7, x8, x9, x10, x11, x12, x13, x14]) rfl ⟨_, _, _, by rw [HV1.out, HV2.out] <;> rfl, by rw [HV2.out]; exact hrun, hbel⟩
end Go.Proofs.Ytopmdeefcjdadaa
