/- effect.moved told by its value; effect.settings over any function value with one capture. (printed by wip/gen/gen_apsets.py) -/
import Derived.Test.YtopmdeefcjdadaaT43M36
import Derived.Test.YtopmdeefcjdadaaT43M19
import Derived.Test.YtopmdeefcjdadaaT43M37
import Derived.Test.YtopmdeefcjdadaaT43M34
import Derived.Test.YtopmdeefcjdadaaT43M38
import Derived.Test.YtopmdeefcjdadaaT43M22
import Derived.Test.YtopmdeefcjdadaaT43M09

namespace Go.Proofs.Ytopmdeefcjdadaa
open Go.RowKit
set_option linter.unusedVariables false
set_option linter.unusedSimpArgs false

/-- a row of one record made by a literal -/
def LitR (B : Nat) (v : Value) (cs : Array Value) (T : TypeId) (w : World) : Prop := ∃ b, v = .slice (some ⟨b, 0, none⟩) 1 1 ∧ B ≤ b ∧ TBox w b T cs
theorem LitR.up {B : Nat} {v : Value} {cs : Array Value} {T : TypeId} {w w' : World} (h : LitR B v cs T w) (g : Below w.heap.size w w') : LitR B v cs T w' := by
  obtain ⟨b, e, h1, h2⟩ := h
  exact ⟨b, e, h1, h2.below g⟩
theorem LitR.new {B : Nat} {w : World} (cs : Array Value) (T : TypeId) (hB : B ≤ w.heap.size) : LitR B (.slice (some ⟨w.heap.size, 0, none⟩) 1 1) cs T (w.alloc (.cells cs T)) := ⟨_, rfl, hB, TBox.new w cs T⟩
set_option maxRecDepth 100000 in
theorem moved_any (form low high cycle width spread b : Int) (wx sx : Int × Int) (back rel : Bool) (ao : Option Addr) (ln cap : Nat) (w : World) (l0 : 0 ≤ low) (l1 : low ≤ high) (h1 : high ≤ 65535) (b0 : 0 ≤ b) (b1 : b ≤ 65535) (hwx : WayOk wx) (hsx : SizeOk sx) :
    Calls Try.prog 99 #[.agg #[.int .i64 form, .int .i64 low, .int .i64 high, .int .i64 cycle, .int .i64 width, .int .i64 spread, .bool back, .bool rel, .slice ao ln cap], .int .i64 b, .agg #[.int .u64 (hw 0 wx.1), .int .u64 (hw 1 wx.1), .int .u64 (hw 2 wx.1), .int .u64 (hw 3 wx.1), .int .u64 (hw 4 wx.1), .int .u64 (hw 5 wx.1)], .agg #[.int .u64 (hw 0 wx.2), .int .u64 (hw 1 wx.2), .int .u64 (hw 2 wx.2), .int .u64 (hw 3 wx.2), .int .u64 (hw 4 wx.2), .int .u64 (hw 5 wx.2)], .agg #[.int .u64 (hw 0 sx.1), .int .u64 (hw 1 sx.1), .int .u64 (hw 2 sx.1), .int .u64 (hw 3 sx.1), .int .u64 (hw 4 sx.1), .int .u64 (hw 5 sx.1)], .agg #[.int .u64 (hw 0 sx.2), .int .u64 (hw 1 sx.2), .int .u64 (hw 2 sx.2), .int .u64 (hw 3 sx.2), .int .u64 (hw 4 sx.2), .int .u64 (hw 5 sx.2)]] w fun e w' => e = .returned (.int .i64 (movV rel low high b wx sx)) ∧ Below w.heap.size w w' := by
  obtain ⟨a0, a1, a2, a3⟩ := hwx
  obtain ⟨c0, c1, c2, c3⟩ := hsx
  have hd : 0 < wx.2 * sx.2 := Int.mul_pos (by omega) (by omega)
  cases rel
  · refine (moved_abs form low high cycle width spread b wx.1 wx.2 sx.1 sx.2 back ao ln cap w l0 l1 h1 b0 b1 a0 a1 a2 a3 c0 c1 c2 c3).mono ?_
    rintro e w' ⟨r, rfl, ⟨r0, r1⟩, k1, k2, hb⟩
    exact ⟨by rw [movV_abs hd r0 r1 k1 k2], hb⟩
  · refine (moved_rel form low high cycle width spread b wx.1 wx.2 sx.1 sx.2 back ao ln cap w l0 l1 h1 b0 b1 a0 a1 a2 a3 c0 c1 c2 c3).mono ?_
    rintro e w' ⟨r, rfl, ⟨r0, r1⟩, k1, k2, hb⟩
    exact ⟨by rw [movV_rel hd r0 r1 k1 k2], hb⟩
theorem stgC_at {w : World} {b : Nat} {u l : Int} {p : ByteArray} {T : TypeId} {j : Nat} {v : Value} (h : TBox w b T #[.int .i64 u, .string p, .int .i64 l]) (hu : (stgC ⟨u, p, l⟩)[j]? = some v) : w.cell? ⟨b, j, none⟩ = some v := by
  refine h.cell ?_
  rw [← hu]
  match j with
  | 0 => rfl
  | 1 => rfl
  | 2 => rfl
  | j + 3 => simp [stgC]
theorem boxes2b (w : World) (E A B : Array Value) (T H : TypeId) : ∀ w1 : World, w1 = (((w.alloc (.cells E T)).alloc (.cells A H)).alloc (.cells B H)) →
    TBox w1 w.heap.size T E ∧ TBox w1 (w.heap.size + 1) H A ∧ TBox w1 (w.heap.size + 2) H B ∧ Below w.heap.size w w1 ∧ w1.heap.size = w.heap.size + 3 := by
  obtain ⟨w1, h1, h2⟩ := boxes3 w E A B T H
  intro w2 h
  rw [h, ← h1]
  exact h2
set_option maxRecDepth 100000 in
set_option maxHeartbeats 16000000 in
theorem apSets_any (r : Rig) (x : Run) (sv kv rv : Value) (t : Int) (fn : FuncId) (cap : Value) (lev : Int × ByteArray → Int) (w : World) (hx : RunAt w.heap.size w x sv kv rv) (hf : RunFit x) (hz : chkRunR r x = 0) (t0 : 0 ≤ t) (t1 : t ≤ 36000000)
    (hcf : ∀ args W, Sem.run Try.prog (callFunc fn args) W = .ok (.enter fn args) W)
    (hc : ∀ u s W, (u, s) ∈ x.keys → Below w.heap.size w W → Calls Try.prog fn #[.agg #[.int .i64 u, .string s], cap] W fun e w' => e = .returned (.int .i64 (lev (u, s))) ∧ Below W.heap.size W w')
    (hl : ∀ k ∈ x.keys, 0 ≤ lev k ∧ lev k ≤ 65535) :
    Calls Try.prog 59 #[runV x sv kv rv, .int .i64 t, .func (.func fn) #[] #[cap]] w fun e w' => ∃ v, e = .returned v ∧ OwnS w.heap.size w' v (runSets x t lev) ∧ Below w.heap.size w w' := by
  obtain ⟨hE, ⟨n0, n1⟩, _, _, ⟨s0, s1⟩, ⟨i0, i1⟩, ⟨o0, o1⟩, he, hr50, hok⟩ := chkRunR_zero hz
  have awo : IntKind.i64.wrap (x.tend + x.tout) = x.tend + x.tout := IntWalk.i64_in _ (by omega)
  have HCL := Lib.hid hc
  have HLV := Lib.hid hl
  have HRS := Lib.hid (show ∀ b, goneB x t = b → runSets x t lev = if b then [] else setsR x t lev from fun b h => by unfold runSets; rw [h])
  have HTK := Lib.hid (setsR_take x t lev)
  have HLN := Lib.hid (setsR_len x t lev)
  have HSO := Lib.hid (fun (k : Nat) (u : Int) (s : ByteArray) => show stgOf x t lev k (u, s) = ⟨u, s, movV x.ef.rel x.ef.low x.ef.high (lev (u, s)) (wayP x.ef k x.keys.length (clkV x.start x.rates t)) (sizV x.start x.tin x.tend x.tout t)⟩ from rfl)
  have HWP := Lib.hid (fun (k : Nat) => show wayP x.ef k x.keys.length (clkV x.start x.rates t) = wvP x.ef.form x.ef.width x.ef.steps (cycE x.ef) (whN x.ef.back (whY (cycE x.ef) x.ef.spread k x.keys.length (clkV x.start x.rates t)) (whD (cycE x.ef) x.keys.length)) (whD (cycE x.ef) x.keys.length) (whY (cycE x.ef) x.ef.spread k x.keys.length (clkV x.start x.rates t) / whD (cycE x.ef) x.keys.length) k from rfl)
  clear hc hl hz
  generalize runSets x t lev = RES at *
  obtain ⟨SL, hSL⟩ : ∃ l, setsR x t lev = l := ⟨_, rfl⟩
  rw [hSL] at HRS HTK HLN
  clear hSL
  obtain ⟨⟨form, low, high, cycle, width, spread, back, rel, st⟩, keys, start, rates, tin, tend, tout⟩ := x
  simp only [chkEf, cycE] at *
  obtain ⟨hf1, ⟨l0, l9⟩, ⟨h0, h9⟩, hlh, hcy, ⟨wd0, wd1⟩, ⟨sp0, sp1⟩, hst, hall, h6, h7⟩ := chkE_zero hE
  obtain ⟨⟨c0, c1⟩, h70⟩ := cyc_range hE
  obtain ⟨hsv, hkv, hrv⟩ := hx
  have HRV := Lib.hid hrv
  have CST := Lib.hid hsv
  simp only [runV] at *
  obtain ⟨so, scap, rfl, _, _⟩ := hsv
  obtain ⟨ko, kcap, rfl, hk1, hk2, hk3⟩ := hkv
  obtain ⟨ro, rcap, rfl, _, _⟩ := hrv
  have HSA := Lib.hid (show ∀ W, Below w.heap.size w W → StepsAt W.heap.size W so st from fun W hb => stepsAt_of ((CST.out.below hb).more hb.size))
  have CC := Lib.hid (fun W (hb : Below w.heap.size w W) => clock_core form low high cycle width spread start tin tend tout back rel (.slice so st.length scap) (.slice ko keys.length kcap) ro rcap rates t W (CellsS.more (CellsS.below HRV.out hb) hb.size) hok hr50 s0 s1 t0 t1)
  have HCB := Lib.hid (clkV_bd (t := t) hok s0 t1)
  generalize clkV start rates t = ck at *
  have HK := Lib.hid (show ∀ k (h : k < keys.length), ∃ b off, ko = some ⟨b, off, none⟩ ∧ b < w.heap.size ∧ ∀ W, Below w.heap.size w W → W.cell? ⟨b, off + k * 2, none⟩ = some (.int .i64 keys[k].1) ∧ W.cell? ⟨b, off + k * 2 + 1, none⟩ = some (.string keys[k].2) from fun k h => by
    obtain ⟨b, off, h1, h2, h3⟩ := hk3 (by omega)
    have hg := cells2_get (fun k : Int × ByteArray => Value.int .i64 k.1) (fun k => .string k.2) keys k h
    exact ⟨b, off, h1, h2, fun W hb => ⟨(hb.cell (p := ⟨b, off + k * 2, none⟩) h2).trans (h3 _ _ hg.1), (hb.cell (p := ⟨b, off + k * 2 + 1, none⟩) h2).trans (h3 (k * 2 + 1) _ hg.2)⟩⟩)
  have HGB := Lib.hid (show goneB ⟨⟨form, low, high, cycle, width, spread, back, rel, st⟩, keys, start, rates, tin, tend, tout⟩ t = (decide (t < start) || (decide (tend ≠ -1) && decide (tend + tout ≤ t))) from rfl)
  generalize goneB ⟨⟨form, low, high, cycle, width, spread, back, rel, st⟩, keys, start, rates, tin, tend, tout⟩ t = GB at *
  have HRE := Lib.hid (HRS.out _ rfl)
  have HNG := Lib.hid (show GB = false → start ≤ t ∧ (tend = -1 ∨ t < tend + tout) from fun h => by
    rw [HGB.out] at h
    simp at h
    omega)
  clear HRS hE hk1 hk2 hk3 hok HRV
  have HT := Lib.hid (TBox.new w #[.int .i64 form, .int .i64 low, .int .i64 high, .int .i64 cycle, .int .i64 width, .int .i64 spread, .bool back, .bool rel, .slice so st.length scap, .slice ko keys.length kcap, .int .i64 start, .slice ro rates.length rcap, .int .i64 tin, .int .i64 tend, .int .i64 tout] 28)
  have HB := Lib.hid ((Below.refl w.heap.size w).alloc (Nat.le_refl _) (.cells #[.int .i64 form, .int .i64 low, .int .i64 high, .int .i64 cycle, .int .i64 width, .int .i64 spread, .bool back, .bool rel, .slice so st.length scap, .slice ko keys.length kcap, .int .i64 start, .slice ro rates.length rcap, .int .i64 tin, .int .i64 tend, .int .i64 tout] 28))
  go_enter Try.func59, Try.ntmps59
  go_upto_region 1 with fail
  generalize hw1 : w.alloc (.cells #[.int .i64 form, .int .i64 low, .int .i64 high, .int .i64 cycle, .int .i64 width, .int .i64 spread, .bool back, .bool rel, .slice so st.length scap, .slice ko keys.length kcap, .int .i64 start, .slice ro rates.length rcap, .int .i64 tin, .int .i64 tend, .int .i64 tout] 28) = w1 at *
  clear hw1
  go_cut [32] (fun c wx => c = .bool GB ∧ w1 = wx)
  case first =>
    have q10 := HT.out.cell (i := 10) rfl
    have q13 := HT.out.cell (i := 13) rfl
    have q14 := HT.out.cell (i := 14) rfl
    have ql := HT.out.lt
    by_cases hts : t < start
    · have HV := Lib.hid (show GB = true by rw [HGB.out]; simp [hts])
      go_wp2_with fail
      go_meet
      exact ⟨by rw [HV.out] <;> rfl, rfl⟩
    · by_cases hte : tend = -1
      · have HV := Lib.hid (show GB = false by rw [HGB.out]; simp [hts, hte])
        subst hte
        go_wp2_with fail
        go_meet
        exact ⟨by rw [HV.out] <;> rfl, rfl⟩
      · have hb1 : (tend != -1) = true := by simp [hte]
        have HV := Lib.hid (show GB = decide (t ≥ tend + tout) by rw [HGB.out]; simp [hts, hte])
        go_wp2_with fail
        go_meet
        exact ⟨by rw [HV.out], rfl⟩
  case rest =>
    obtain ⟨rfl, rfl⟩ := hcut
    clear HGB
    cases GB
    rotate_left
    · have HV := Lib.hid (show RES = [] by rw [HRE.out]; rfl)
      go_wp2_with fail
      go_ret
      exact ⟨_, rfl, by rw [HV.out]; exact OwnS.nil _ _, HB.out⟩
    · have HV := Lib.hid (show RES = SL by rw [HRE.out]; rfl)
      obtain ⟨hst0, hgo⟩ := HNG.out rfl
      have CS := Lib.hid (fun W => size_any form low high cycle width spread start tin tend tout t back rel (.slice so st.length scap) (.slice ko keys.length kcap) (.slice ro rates.length rcap) W s0 hst0 t1 i0 i1 o0 o1 he hgo)
      have HSK := Lib.hid (sizV_ok (start := start) hst0 ⟨i0, i1⟩ ⟨o0, o1⟩ hgo)
      generalize sizV start tin tend tout t = SZ at *
      obtain ⟨sn, sd⟩ := SZ
      simp only at CS
      clear HNG HRE awo hgo
      obtain ⟨KI, hKI⟩ : ∃ f : Nat → Int × Int, (fun i : Nat => wayP ⟨form, low, high, cycle, width, spread, back, rel, st⟩ i keys.length ck) = f := ⟨_, rfl⟩
      have HWQ := Lib.hid (show ∀ k : Nat, wvP form width st (cycle + sumS st) (whN back (whY (cycle + sumS st) spread k keys.length ck) (whD (cycle + sumS st) keys.length)) (whD (cycle + sumS st) keys.length) (whY (cycle + sumS st) spread k keys.length ck / whD (cycle + sumS st) keys.length) k = KI k from fun k => by rw [← hKI]; exact (HWP.out k).symm)
      have HWK := Lib.hid (show ∀ k : Nat, k < keys.length → WayOk (KI k) from fun k hk => by
        rw [← HWQ.out k]
        obtain ⟨d0, d1⟩ := whD_range (c := cycle + sumS st) (count := (keys.length : Int)) c0 c1 (by omega) (by omega)
        obtain ⟨y0, y1⟩ := whN_range back (whY (cycle + sumS st) spread k keys.length ck) (show 0 < whD (cycle + sumS st) keys.length by omega)
        exact wvP_ok hf1 h70 hall y0 y1 d0 (by omega))
      have CW := Lib.hid (show ∀ (k : Nat) W, k < keys.length → Below w.heap.size w W → Calls Try.prog 44 #[.agg #[.int .i64 form, .int .i64 low, .int .i64 high, .int .i64 cycle, .int .i64 width, .int .i64 spread, .bool back, .bool rel, .slice so st.length scap], .int .i64 k, .int .i64 keys.length, .int .i64 ck] W fun e w' => e = .returned (.tuple #[.agg #[.int .u64 (hw 0 (KI k).1), .int .u64 (hw 1 (KI k).1), .int .u64 (hw 2 (KI k).1), .int .u64 (hw 3 (KI k).1), .int .u64 (hw 4 (KI k).1), .int .u64 (hw 5 (KI k).1)], .agg #[.int .u64 (hw 0 (KI k).2), .int .u64 (hw 1 (KI k).2), .int .u64 (hw 2 (KI k).2), .int .u64 (hw 3 (KI k).2), .int .u64 (hw 4 (KI k).2), .int .u64 (hw 5 (KI k).2)]]) ∧ Below W.heap.size W w' from fun k W hk hb => by
        have h := way_all form low high cycle width spread back rel so scap st k keys.length ck (cycle + sumS st) _ _ _ W hf1 (HSA.out W hb) hst hall hcy rfl c0 c1 (by omega) (by omega) (by omega) (by omega) HCB.out.1 (by have := HCB.out.2; omega) sp0 sp1 wd0 wd1 rfl rfl rfl
        rw [HWQ.out k] at h
        exact h)
      have HSO2 := Lib.hid (show ∀ (k : Nat) (u : Int) (s : ByteArray), stgOf ⟨⟨form, low, high, cycle, width, spread, back, rel, st⟩, keys, start, rates, tin, tend, tout⟩ t lev k (u, s) = ⟨u, s, movV rel low high (lev (u, s)) (KI k) (sn, sd)⟩ from fun k u s => by rw [HSO.out k u s, ← hKI])
      have HMO := Lib.hid (fun (b : Int) (wx : Int × Int) W (b0 : 0 ≤ b) (b1 : b ≤ 65535) (hw : WayOk wx) => moved_any form low high cycle width spread b wx (sn, sd) back rel so st.length scap W l0 hlh h9 b0 b1 hw HSK.out)
      simp only at HMO
      clear HWP HSO HWQ HSA HCB hKI hf1 hcy h6 h7 h70 hall hst c0 c1 sp0 sp1 wd0 wd1 l0 l9 h0 h9 hlh
      have q0 := HT.out.cell (i := 0) rfl
      have q1 := HT.out.cell (i := 1) rfl
      have q2 := HT.out.cell (i := 2) rfl
      have q3 := HT.out.cell (i := 3) rfl
      have q4 := HT.out.cell (i := 4) rfl
      have q5 := HT.out.cell (i := 5) rfl
      have q6 := HT.out.cell (i := 6) rfl
      have q7 := HT.out.cell (i := 7) rfl
      have q8 := HT.out.cell (i := 8) rfl
      have q9 := HT.out.cell (i := 9) rfl
      have q10 := HT.out.cell (i := 10) rfl
      have q11 := HT.out.cell (i := 11) rfl
      have q12 := HT.out.cell (i := 12) rfl
      have q13 := HT.out.cell (i := 13) rfl
      have q14 := HT.out.cell (i := 14) rfl
      have ql := HT.out.lt
      go_wp2_with fail
      refine (CS.out _).mono ?_
      rintro e w2 ⟨rfl, hb⟩
      clear q0 q1 q2 q3 q4 q5 q6 q7 q8 q9 q10 q11 q12 q13 q14 ql
      obtain ⟨w3, hw3, t7, t8, hB3, hz3⟩ := boxes2 w2 #[.int .u64 (hw 0 sn), .int .u64 (hw 1 sn), .int .u64 (hw 2 sn), .int .u64 (hw 3 sn), .int .u64 (hw 4 sn), .int .u64 (hw 5 sn)] #[.int .u64 (hw 0 sd), .int .u64 (hw 1 sd), .int .u64 (hw 2 sd), .int .u64 (hw 3 sd), .int .u64 (hw 4 sd), .int .u64 (hw 5 sd)] 77
      have HT3 := Lib.hid ((HT.out.below hb).below hB3)
      have HB3 := Lib.hid ((HB.out.trans (hb.mono HB.out.size)).trans (hB3.mono (Nat.le_trans HB.out.size hb.size)))
      have T7 := Lib.hid t7
      have T8 := Lib.hid t8
      have HLT := Lib.hid (show w.heap.size < w2.heap.size from Nat.lt_of_lt_of_le HT.out.lt hb.size)
      clear hb t7 t8 hB3 hz3 HT HB CS
      go_upto_region 4 with fail
      rw [← hw3]
      clear hw3
      have q0 := HT3.out.cell (i := 0) rfl
      have q1 := HT3.out.cell (i := 1) rfl
      have q2 := HT3.out.cell (i := 2) rfl
      have q3 := HT3.out.cell (i := 3) rfl
      have q4 := HT3.out.cell (i := 4) rfl
      have q5 := HT3.out.cell (i := 5) rfl
      have q6 := HT3.out.cell (i := 6) rfl
      have q7 := HT3.out.cell (i := 7) rfl
      have q8 := HT3.out.cell (i := 8) rfl
      have q9 := HT3.out.cell (i := 9) rfl
      have q10 := HT3.out.cell (i := 10) rfl
      have q11 := HT3.out.cell (i := 11) rfl
      have q12 := HT3.out.cell (i := 12) rfl
      have q13 := HT3.out.cell (i := 13) rfl
      have q14 := HT3.out.cell (i := 14) rfl
      have ql := HT3.out.lt
      go_wp2_with fail
      refine (CC.out _ HB3.out).mono ?_
      rintro e w4 ⟨rfl, hb⟩
      clear q0 q1 q2 q3 q4 q5 q6 q7 q8 q9 q10 q11 q12 q13 q14 ql
      have HT4 := Lib.hid (HT3.out.below hb)
      have HB4 := Lib.hid (HB3.out.trans (hb.mono HB3.out.size))
      have U7 := Lib.hid (T7.out.below hb)
      have U8 := Lib.hid (T8.out.below hb)
      clear hb T7 T8 HT3 HB3 CC
      obtain ⟨b7, hb7⟩ : ∃ b, w2.heap.size = b := ⟨_, rfl⟩
      rw [hb7] at U7 U8 HLT
      have q9 := HT4.out.cell (i := 9) rfl
      have ql := HT4.out.lt
      go_wp2_with fail
      clear q9 ql hb7
      go_loopw [10, 45] (fun ov i wx => ∃ (k : Nat) (o : Value), k ≤ keys.length ∧ i = .int .i64 k ∧ o = ov ∧ Hid (OwnS w.heap.size wx o (SL.take k)) ∧ Hid (TBox wx w.heap.size 28 #[.int .i64 form, .int .i64 low, .int .i64 high, .int .i64 cycle, .int .i64 width, .int .i64 spread, .bool back, .bool rel, .slice so st.length scap, .slice ko keys.length kcap, .int .i64 start, .slice ro rates.length rcap, .int .i64 tin, .int .i64 tend, .int .i64 tout]) ∧ Hid (TBox wx b7 77 #[.int .u64 (hw 0 sn), .int .u64 (hw 1 sn), .int .u64 (hw 2 sn), .int .u64 (hw 3 sn), .int .u64 (hw 4 sn), .int .u64 (hw 5 sn)]) ∧ Hid (TBox wx (b7 + 1) 77 #[.int .u64 (hw 0 sd), .int .u64 (hw 1 sd), .int .u64 (hw 2 sd), .int .u64 (hw 3 sd), .int .u64 (hw 4 sd), .int .u64 (hw 5 sd)]) ∧ Hid (Below w.heap.size w wx)) (fun _ i _ => keys.length - (intOf i).toNat)
      case atStart => exact ⟨0, _, Nat.zero_le _, rfl, rfl, Lib.hid (by simpa using OwnS.nil _ _), HT4, U7, U8, HB4⟩
      case round =>
        clear HT4 U7 U8 HB4
        obtain ⟨k, ov, hk, rfl, rfl, HOV, HT, T7, T8, HB⟩ := hrel
        by_cases hlt : k < keys.length
        · obtain ⟨b, off, rfl, hbb, hc⟩ := HK.out k hlt
          obtain ⟨d0, d1⟩ := hc wr HB.out
          have hbr : b < wr.heap.size := by have := HB.out.size; omega
          have HLK := Lib.hid (HLV.out _ (List.getElem_mem hlt))
          have HCX := Lib.hid (fun W (hb : Below w.heap.size w W) => HCL.out keys[k].1 keys[k].2 W (List.getElem_mem hlt) hb)
          have HTX := Lib.hid ((HTK.out k hlt).trans (show _ = SL.take k ++ [⟨keys[k].1, keys[k].2, movV rel low high (lev (keys[k].1, keys[k].2)) (KI k) (sn, sd)⟩] by rw [← HSO2.out k keys[k].1 keys[k].2]))
          have HLM := Lib.hid (show (SL.take k).length ≤ 10000000 by simp; omega)
          have HWX := Lib.hid (HWK.out k hlt)
          have CX := Lib.hid (fun W => CW.out k W hlt)
          clear hc
          generalize hrk : keys[k] = rk at *
          clear hrk
          obtain ⟨ku, ks⟩ := rk
          simp only at *
          obtain ⟨L2, hL2⟩ : ∃ l, SL.take (k + 1) = l := ⟨_, rfl⟩
          rw [hL2] at HTX
          have HL2 := Lib.hid hL2
          clear hL2
          generalize SL.take k = L1 at *
          generalize hkw : KI k = wx at *
          clear hkw
          obtain ⟨wn, wd⟩ := wx
          obtain ⟨bl, hbl⟩ : ∃ v, lev (ku, ks) = v := ⟨_, rfl⟩
          rw [hbl] at HLK HCX HTX
          clear hbl
          obtain ⟨mv, hmv⟩ : ∃ v, movV rel low high bl (wn, wd) (sn, sd) = v := ⟨_, rfl⟩
          have HMV := Lib.hid (fun W => HMO.out bl (wn, wd) W HLK.out.1 HLK.out.2 HWX.out)
          simp only at HMV CX
          rw [hmv] at HMV HTX
          clear hmv
          have HCK := Lib.hid HCX.out
          clear HCX HMO HWX HLK
          obtain ⟨kb, hkb⟩ : ∃ n, wr.heap.size = n := ⟨_, rfl⟩
          have HTK1 := Lib.hid (show TBox (wr.alloc (.cells #[.int .i64 ku, .string ks] 47)) kb 47 #[.int .i64 ku, .string ks] from hkb ▸ TBox.new wr _ _)
          have HT1 := Lib.hid (HT.out.alloc (.cells #[.int .i64 ku, .string ks] 47))
          have T71 := Lib.hid (T7.out.alloc (.cells #[.int .i64 ku, .string ks] 47))
          have T81 := Lib.hid (T8.out.alloc (.cells #[.int .i64 ku, .string ks] 47))
          have HB1 := Lib.hid (HB.out.alloc HB.out.size (.cells #[.int .i64 ku, .string ks] 47))
          have HO1 := Lib.hid (HOV.out.below ((Below.refl _ _).alloc (Nat.le_refl _) (.cells #[.int .i64 ku, .string ks] 47)))
          clear HT T7 T8 HB HOV
          go_upto_region 9 with fail
          have ez : wr.heap.size = kb := hkb
          clear hkb
          clear d0 d1
          generalize hwa : wr.alloc (.cells #[.int .i64 ku, .string ks] 47) = wa at *
          clear hwa ez
          have q0 := HT1.out.cell (i := 0) rfl
          have q1 := HT1.out.cell (i := 1) rfl
          have q2 := HT1.out.cell (i := 2) rfl
          have q3 := HT1.out.cell (i := 3) rfl
          have q4 := HT1.out.cell (i := 4) rfl
          have q5 := HT1.out.cell (i := 5) rfl
          have q6 := HT1.out.cell (i := 6) rfl
          have q7 := HT1.out.cell (i := 7) rfl
          have q8 := HT1.out.cell (i := 8) rfl
          have q9 := HT1.out.cell (i := 9) rfl
          have ql := HT1.out.lt
          go_wp2_with fail
          refine (CX.out _ HB1.out).mono ?_
          rintro e w5 ⟨rfl, hb⟩
          clear q0 q1 q2 q3 q4 q5 q6 q7 q8 q9 ql CX
          obtain ⟨w6, hw6, t13, t14, hB6, hz6⟩ := boxes2 w5 #[.int .u64 (hw 0 wn), .int .u64 (hw 1 wn), .int .u64 (hw 2 wn), .int .u64 (hw 3 wn), .int .u64 (hw 4 wn), .int .u64 (hw 5 wn)] #[.int .u64 (hw 0 wd), .int .u64 (hw 1 wd), .int .u64 (hw 2 wd), .int .u64 (hw 3 wd), .int .u64 (hw 4 wd), .int .u64 (hw 5 wd)] 77
          have hba := hb.trans (hB6.mono hb.size)
          obtain ⟨b13, hb13⟩ : ∃ n, w5.heap.size = n := ⟨_, rfl⟩
          rw [hb13] at t13 t14
          have T13 := Lib.hid t13
          have T14 := Lib.hid t14
          have HTK2 := Lib.hid (HTK1.out.below hba)
          have HT2 := Lib.hid (HT1.out.below hba)
          have T72 := Lib.hid (T71.out.below hba)
          have T82 := Lib.hid (T81.out.below hba)
          have HBK := Lib.hid (HB1.out.trans (hba.mono HB1.out.size))
          have HO2 := Lib.hid (HO1.out.below hba)
          clear hb hba hB6 hz6 t13 t14 HTK1 HT1 T71 T81 HB1 HO1
          go_upto_region 10 with fail
          rw [← hw6]
          clear hw6 hb13
          refine region_heads (by kernel_rfl) 14 (by simp) (by kernel_rfl) (by kernel_rfl) (by kernel_rfl) (by kernel_rfl) (fun jx vx wx => match jx with | 0 => vx = (ov) | 1 => vx = (.agg #[.int .i64 ku, .string ks]) | 2 => vx = (.pointer (some ⟨w.heap.size, 0, none⟩)) | 3 => vx = (.agg #[.int .i64 form, .int .i64 low, .int .i64 high, .int .i64 cycle, .int .i64 width, .int .i64 spread, .bool back, .bool rel, .slice so st.length scap]) | 4 => vx = (.func (.func fn) #[] #[cap]) | 5 => vx = (.agg #[.int .i64 ku, .string ks]) | 6 => vx = (.int .i64 bl) | 7 => vx = (.agg #[.int .u64 (hw 0 wn), .int .u64 (hw 1 wn), .int .u64 (hw 2 wn), .int .u64 (hw 3 wn), .int .u64 (hw 4 wn), .int .u64 (hw 5 wn)]) | 8 => vx = (.agg #[.int .u64 (hw 0 wd), .int .u64 (hw 1 wd), .int .u64 (hw 2 wd), .int .u64 (hw 3 wd), .int .u64 (hw 4 wd), .int .u64 (hw 5 wd)]) | 9 => vx = (.agg #[.int .u64 (hw 0 sn), .int .u64 (hw 1 sn), .int .u64 (hw 2 sn), .int .u64 (hw 3 sn), .int .u64 (hw 4 sn), .int .u64 (hw 5 sn)]) | 10 => vx = (.agg #[.int .u64 (hw 0 sd), .int .u64 (hw 1 sd), .int .u64 (hw 2 sd), .int .u64 (hw 3 sd), .int .u64 (hw 4 sd), .int .u64 (hw 5 sd)]) | 11 => vx = (.int .i64 mv) | 12 => vx = (.agg #[.int .i64 ku, .string ks, .int .i64 mv]) | 13 => LitR w6.heap.size vx #[.int .i64 ku, .string ks, .int .i64 mv] 49 wx | _ => True) (fun W => Below w6.heap.size w6 W) (fun wx wy => Below wx.heap.size wx wy) (Below.refl _ _).drew ?_ ?_ ?_ ?_
          · intro jx vx wx wy h g
            match jx, h with
            | 0, h => exact h
            | 1, h => exact h
            | 2, h => exact h
            | 3, h => exact h
            | 4, h => exact h
            | 5, h => exact h
            | 6, h => exact h
            | 7, h => exact h
            | 8, h => exact h
            | 9, h => exact h
            | 10, h => exact h
            | 11, h => exact h
            | 12, h => exact h
            | 13, h => exact LitR.up h g
            | jx + 14, h => exact trivial
          · intro jx ox dx hj ho hd
            exact insN_of (by kernel_rfl) hj ho hd
          · intro ix ox ax W hi hio hsh hW hpre
            have hsz : w6.heap.size ≤ W.heap.size := hW.size
            have GA : ∀ ob, Below W.heap.size W (W.alloc ob) := fun ob => (Below.refl _ _).alloc (Nat.le_refl _) ob
            have WA : ∀ ob, Below w6.heap.size w6 (W.alloc ob) := fun ob => hW.alloc hsz ob
            have t2 : ax.tmps[2]?.getD undef = (.func (.func fn) #[] #[cap]) := (Array.getD_eq_getD_getElem? ..).symm.trans ((hsh.2.2 2 (notN_of (by kernel_rfl))).trans rfl)
            have t3 : ax.tmps[3]?.getD undef = (.pointer (some ⟨w.heap.size, 0, none⟩)) := (Array.getD_eq_getD_getElem? ..).symm.trans ((hsh.2.2 3 (notN_of (by kernel_rfl))).trans rfl)
            have t7 : ax.tmps[7]?.getD undef = (.pointer (some ⟨b7, 0, none⟩)) := (Array.getD_eq_getD_getElem? ..).symm.trans ((hsh.2.2 7 (notN_of (by kernel_rfl))).trans rfl)
            have t8 : ax.tmps[8]?.getD undef = (.pointer (some ⟨(b7 + 1), 0, none⟩)) := (Array.getD_eq_getD_getElem? ..).symm.trans ((hsh.2.2 8 (notN_of (by kernel_rfl))).trans rfl)
            have t10 : ax.tmps[10]?.getD undef = (ov) := (Array.getD_eq_getD_getElem? ..).symm.trans ((hsh.2.2 10 (notN_of (by kernel_rfl))).trans rfl)
            have t12 : ax.tmps[12]?.getD undef = (.pointer (some ⟨kb, 0, none⟩)) := (Array.getD_eq_getD_getElem? ..).symm.trans ((hsh.2.2 12 (notN_of (by kernel_rfl))).trans rfl)
            have t13 : ax.tmps[13]?.getD undef = (.pointer (some ⟨b13, 0, none⟩)) := (Array.getD_eq_getD_getElem? ..).symm.trans ((hsh.2.2 13 (notN_of (by kernel_rfl))).trans rfl)
            have t14 : ax.tmps[14]?.getD undef = (.pointer (some ⟨(b13 + 1), 0, none⟩)) := (Array.getD_eq_getD_getElem? ..).symm.trans ((hsh.2.2 14 (notN_of (by kernel_rfl))).trans rfl)
            obtain ⟨k0, k1⟩ : _ ∧ _ := ⟨(HTK2.out.below hW).cell (i := 0) rfl, (HTK2.out.below hW).cell (i := 1) rfl⟩
            obtain ⟨x0, x1, x2, x3, x4, x5⟩ := hugeCells (T13.out.below hW)
            obtain ⟨y0, y1, y2, y3, y4, y5⟩ := hugeCells (T14.out.below hW)
            obtain ⟨u0, u1, u2, u3, u4, u5⟩ := hugeCells (T72.out.below hW)
            obtain ⟨v0, v1, v2, v3, v4, v5⟩ := hugeCells (T82.out.below hW)
            have c0 := (HT2.out.below hW).cell (i := 0) rfl
            have c1 := (HT2.out.below hW).cell (i := 1) rfl
            have c2 := (HT2.out.below hW).cell (i := 2) rfl
            have c3 := (HT2.out.below hW).cell (i := 3) rfl
            have c4 := (HT2.out.below hW).cell (i := 4) rfl
            have c5 := (HT2.out.below hW).cell (i := 5) rfl
            have c6 := (HT2.out.below hW).cell (i := 6) rfl
            have c7 := (HT2.out.below hW).cell (i := 7) rfl
            have c8 := (HT2.out.below hW).cell (i := 8) rfl
            clear hsh
            match ix, hi, hio with
            | 0, _, hio =>
              cases hio
              exact hwp_val (v := ov) (w' := W) (by simp [execOp, Act.eval, t10, go_sem]) ⟨_, rfl, rfl, hW, Below.refl _ _⟩
            | 1, _, hio =>
              cases hio
              exact hwp_val (v := .agg #[.int .i64 ku, .string ks]) (w' := W) (by simp [execOp, Act.eval, t12, k0, k1, go_sem]) ⟨_, rfl, rfl, hW, Below.refl _ _⟩
            | 2, _, hio =>
              cases hio
              exact hwp_val (v := .pointer (some ⟨w.heap.size, 0, none⟩)) (w' := W) (by simp [execOp, Act.eval, t3, go_sem]) ⟨_, rfl, rfl, hW, Below.refl _ _⟩
            | 3, _, hio =>
              cases hio
              have p2 := hpre ⟨2, .data⟩ (by simp) (by rfl) _ _ rfl rfl
              have f2 : ax.tmps[63]?.getD undef = (.pointer (some ⟨w.heap.size, 0, none⟩)) := (Array.getD_eq_getD_getElem? ..).symm.trans p2
              exact hwp_val (v := .agg #[.int .i64 form, .int .i64 low, .int .i64 high, .int .i64 cycle, .int .i64 width, .int .i64 spread, .bool back, .bool rel, .slice so st.length scap]) (w' := W) (by simp [execOp, Act.eval, c0, c1, c2, c3, c4, c5, c6, c7, c8, f2, go_sem]) ⟨_, rfl, rfl, hW, Below.refl _ _⟩
            | 4, _, hio =>
              cases hio
              exact hwp_val (v := .func (.func fn) #[] #[cap]) (w' := W) (by simp [execOp, Act.eval, t2, go_sem]) ⟨_, rfl, rfl, hW, Below.refl _ _⟩
            | 5, _, hio =>
              cases hio
              exact hwp_val (v := .agg #[.int .i64 ku, .string ks]) (w' := W) (by simp [execOp, Act.eval, t12, k0, k1, go_sem]) ⟨_, rfl, rfl, hW, Below.refl _ _⟩
            | 6, _, hio =>
              cases hio
              have p4 := hpre ⟨4, .data⟩ (by simp) (by rfl) _ _ rfl rfl
              have f4 : ax.tmps[65]?.getD undef = (.func (.func fn) #[] #[cap]) := (Array.getD_eq_getD_getElem? ..).symm.trans p4
              have p5 := hpre ⟨5, .data⟩ (by simp) (by rfl) _ _ rfl rfl
              have f5 : ax.tmps[66]?.getD undef = (.agg #[.int .i64 ku, .string ks]) := (Array.getD_eq_getD_getElem? ..).symm.trans p5
              refine hwp_enter (f := fn) (args := #[.agg #[.int .i64 ku, .string ks], cap]) (by simp [execOp, Act.eval, hcf, f4, f5, go_sem]) ?_
              refine (HCK.out W (HBK.out.trans (hW.mono HBK.out.size))).mono ?_
              rintro ex wy ⟨rfl, hb⟩
              exact ⟨_, rfl, _, rfl, rfl, hW.trans (hb.mono hsz), hb⟩
            | 7, _, hio =>
              cases hio
              exact hwp_val (v := .agg #[.int .u64 (hw 0 wn), .int .u64 (hw 1 wn), .int .u64 (hw 2 wn), .int .u64 (hw 3 wn), .int .u64 (hw 4 wn), .int .u64 (hw 5 wn)]) (w' := W) (by simp [execOp, Act.eval, t13, x0, x1, x2, x3, x4, x5, go_sem]) ⟨_, rfl, rfl, hW, Below.refl _ _⟩
            | 8, _, hio =>
              cases hio
              exact hwp_val (v := .agg #[.int .u64 (hw 0 wd), .int .u64 (hw 1 wd), .int .u64 (hw 2 wd), .int .u64 (hw 3 wd), .int .u64 (hw 4 wd), .int .u64 (hw 5 wd)]) (w' := W) (by simp [execOp, Act.eval, t14, y0, y1, y2, y3, y4, y5, go_sem]) ⟨_, rfl, rfl, hW, Below.refl _ _⟩
            | 9, _, hio =>
              cases hio
              exact hwp_val (v := .agg #[.int .u64 (hw 0 sn), .int .u64 (hw 1 sn), .int .u64 (hw 2 sn), .int .u64 (hw 3 sn), .int .u64 (hw 4 sn), .int .u64 (hw 5 sn)]) (w' := W) (by simp [execOp, Act.eval, t7, u0, u1, u2, u3, u4, u5, go_sem]) ⟨_, rfl, rfl, hW, Below.refl _ _⟩
            | 10, _, hio =>
              cases hio
              exact hwp_val (v := .agg #[.int .u64 (hw 0 sd), .int .u64 (hw 1 sd), .int .u64 (hw 2 sd), .int .u64 (hw 3 sd), .int .u64 (hw 4 sd), .int .u64 (hw 5 sd)]) (w' := W) (by simp [execOp, Act.eval, t8, v0, v1, v2, v3, v4, v5, go_sem]) ⟨_, rfl, rfl, hW, Below.refl _ _⟩
            | 11, _, hio =>
              cases hio
              have p3 := hpre ⟨3, .data⟩ (by simp) (by rfl) _ _ rfl rfl
              have f3 : ax.tmps[64]?.getD undef = (.agg #[.int .i64 form, .int .i64 low, .int .i64 high, .int .i64 cycle, .int .i64 width, .int .i64 spread, .bool back, .bool rel, .slice so st.length scap]) := (Array.getD_eq_getD_getElem? ..).symm.trans p3
              have p6 := hpre ⟨6, .data⟩ (by simp) (by rfl) _ _ rfl rfl
              have f6 : ax.tmps[67]?.getD undef = (.int .i64 bl) := (Array.getD_eq_getD_getElem? ..).symm.trans p6
              have p7 := hpre ⟨7, .data⟩ (by simp) (by rfl) _ _ rfl rfl
              have f7 : ax.tmps[68]?.getD undef = (.agg #[.int .u64 (hw 0 wn), .int .u64 (hw 1 wn), .int .u64 (hw 2 wn), .int .u64 (hw 3 wn), .int .u64 (hw 4 wn), .int .u64 (hw 5 wn)]) := (Array.getD_eq_getD_getElem? ..).symm.trans p7
              have p8 := hpre ⟨8, .data⟩ (by simp) (by rfl) _ _ rfl rfl
              have f8 : ax.tmps[69]?.getD undef = (.agg #[.int .u64 (hw 0 wd), .int .u64 (hw 1 wd), .int .u64 (hw 2 wd), .int .u64 (hw 3 wd), .int .u64 (hw 4 wd), .int .u64 (hw 5 wd)]) := (Array.getD_eq_getD_getElem? ..).symm.trans p8
              have p9 := hpre ⟨9, .data⟩ (by simp) (by rfl) _ _ rfl rfl
              have f9 : ax.tmps[70]?.getD undef = (.agg #[.int .u64 (hw 0 sn), .int .u64 (hw 1 sn), .int .u64 (hw 2 sn), .int .u64 (hw 3 sn), .int .u64 (hw 4 sn), .int .u64 (hw 5 sn)]) := (Array.getD_eq_getD_getElem? ..).symm.trans p9
              have p10 := hpre ⟨10, .data⟩ (by simp) (by rfl) _ _ rfl rfl
              have f10 : ax.tmps[71]?.getD undef = (.agg #[.int .u64 (hw 0 sd), .int .u64 (hw 1 sd), .int .u64 (hw 2 sd), .int .u64 (hw 3 sd), .int .u64 (hw 4 sd), .int .u64 (hw 5 sd)]) := (Array.getD_eq_getD_getElem? ..).symm.trans p10
              refine hwp_enter (f := 99) (args := #[.agg #[.int .i64 form, .int .i64 low, .int .i64 high, .int .i64 cycle, .int .i64 width, .int .i64 spread, .bool back, .bool rel, .slice so st.length scap], .int .i64 bl, .agg #[.int .u64 (hw 0 wn), .int .u64 (hw 1 wn), .int .u64 (hw 2 wn), .int .u64 (hw 3 wn), .int .u64 (hw 4 wn), .int .u64 (hw 5 wn)], .agg #[.int .u64 (hw 0 wd), .int .u64 (hw 1 wd), .int .u64 (hw 2 wd), .int .u64 (hw 3 wd), .int .u64 (hw 4 wd), .int .u64 (hw 5 wd)], .agg #[.int .u64 (hw 0 sn), .int .u64 (hw 1 sn), .int .u64 (hw 2 sn), .int .u64 (hw 3 sn), .int .u64 (hw 4 sn), .int .u64 (hw 5 sn)], .agg #[.int .u64 (hw 0 sd), .int .u64 (hw 1 sd), .int .u64 (hw 2 sd), .int .u64 (hw 3 sd), .int .u64 (hw 4 sd), .int .u64 (hw 5 sd)]]) (by simp [execOp, Act.eval, f3, f6, f7, f8, f9, f10, go_sem]) ?_
              refine (HMV.out W).mono ?_
              rintro ex wy ⟨rfl, hb⟩
              exact ⟨_, rfl, _, rfl, rfl, hW.trans (hb.mono hsz), hb⟩
            | 12, _, hio =>
              cases hio
              have p1 := hpre ⟨1, .data⟩ (by simp) (by rfl) _ _ rfl rfl
              have f1 : ax.tmps[62]?.getD undef = (.agg #[.int .i64 ku, .string ks]) := (Array.getD_eq_getD_getElem? ..).symm.trans p1
              have p11 := hpre ⟨11, .data⟩ (by simp) (by rfl) _ _ rfl rfl
              have f11 : ax.tmps[72]?.getD undef = (.int .i64 mv) := (Array.getD_eq_getD_getElem? ..).symm.trans p11
              exact hwp_val (v := .agg #[.int .i64 ku, .string ks, .int .i64 mv]) (w' := W) (by simp [execOp, Act.eval, f1, f11, go_sem]) ⟨_, rfl, rfl, hW, Below.refl _ _⟩
            | 13, _, hio =>
              cases hio
              have p12 := hpre ⟨12, .data⟩ (by simp) (by rfl) _ _ rfl rfl
              have f12 : ax.tmps[73]?.getD undef = (.agg #[.int .i64 ku, .string ks, .int .i64 mv]) := (Array.getD_eq_getD_getElem? ..).symm.trans p12
              exact hwp_val (v := .slice (some ⟨W.heap.size, 0, none⟩) 1 1) (w' := W.alloc (.cells #[.int .i64 ku, .string ks, .int .i64 mv] 49)) (by simp [execOp, Act.eval, f12, go_sem]) ⟨_, rfl, LitR.new _ _ hsz, WA _, GA _⟩
            | ix + 14, hi, _ => exact absurd hi (by omega)
          · intro ax W hsh hW hφ
            have e0 : ax.tmps.getD 61 undef = (ov) := hφ 0 _ _ (by omega) rfl rfl
            have e1 : ax.tmps.getD 62 undef = (.agg #[.int .i64 ku, .string ks]) := hφ 1 _ _ (by omega) rfl rfl
            have e2 : ax.tmps.getD 63 undef = (.pointer (some ⟨w.heap.size, 0, none⟩)) := hφ 2 _ _ (by omega) rfl rfl
            have e3 : ax.tmps.getD 64 undef = (.agg #[.int .i64 form, .int .i64 low, .int .i64 high, .int .i64 cycle, .int .i64 width, .int .i64 spread, .bool back, .bool rel, .slice so st.length scap]) := hφ 3 _ _ (by omega) rfl rfl
            have e4 : ax.tmps.getD 65 undef = (.func (.func fn) #[] #[cap]) := hφ 4 _ _ (by omega) rfl rfl
            have e5 : ax.tmps.getD 66 undef = (.agg #[.int .i64 ku, .string ks]) := hφ 5 _ _ (by omega) rfl rfl
            have e6 : ax.tmps.getD 67 undef = (.int .i64 bl) := hφ 6 _ _ (by omega) rfl rfl
            have e7 : ax.tmps.getD 68 undef = (.agg #[.int .u64 (hw 0 wn), .int .u64 (hw 1 wn), .int .u64 (hw 2 wn), .int .u64 (hw 3 wn), .int .u64 (hw 4 wn), .int .u64 (hw 5 wn)]) := hφ 7 _ _ (by omega) rfl rfl
            have e8 : ax.tmps.getD 69 undef = (.agg #[.int .u64 (hw 0 wd), .int .u64 (hw 1 wd), .int .u64 (hw 2 wd), .int .u64 (hw 3 wd), .int .u64 (hw 4 wd), .int .u64 (hw 5 wd)]) := hφ 8 _ _ (by omega) rfl rfl
            have e9 : ax.tmps.getD 70 undef = (.agg #[.int .u64 (hw 0 sn), .int .u64 (hw 1 sn), .int .u64 (hw 2 sn), .int .u64 (hw 3 sn), .int .u64 (hw 4 sn), .int .u64 (hw 5 sn)]) := hφ 9 _ _ (by omega) rfl rfl
            have e10 : ax.tmps.getD 71 undef = (.agg #[.int .u64 (hw 0 sd), .int .u64 (hw 1 sd), .int .u64 (hw 2 sd), .int .u64 (hw 3 sd), .int .u64 (hw 4 sd), .int .u64 (hw 5 sd)]) := hφ 10 _ _ (by omega) rfl rfl
            have e11 : ax.tmps.getD 72 undef = (.int .i64 mv) := hφ 11 _ _ (by omega) rfl rfl
            have e12 : ax.tmps.getD 73 undef = (.agg #[.int .i64 ku, .string ks, .int .i64 mv]) := hφ 12 _ _ (by omega) rfl rfl
            obtain ⟨b13, e13, hb13, ht13⟩ := hφ 13 _ _ (by omega) rfl rfl
            rw [shape_puts hsh [(61, ov), (62, .agg #[.int .i64 ku, .string ks]), (63, .pointer (some ⟨w.heap.size, 0, none⟩)), (64, .agg #[.int .i64 form, .int .i64 low, .int .i64 high, .int .i64 cycle, .int .i64 width, .int .i64 spread, .bool back, .bool rel, .slice so st.length scap]), (65, .func (.func fn) #[] #[cap]), (66, .agg #[.int .i64 ku, .string ks]), (67, .int .i64 bl), (68, .agg #[.int .u64 (hw 0 wn), .int .u64 (hw 1 wn), .int .u64 (hw 2 wn), .int .u64 (hw 3 wn), .int .u64 (hw 4 wn), .int .u64 (hw 5 wn)]), (69, .agg #[.int .u64 (hw 0 wd), .int .u64 (hw 1 wd), .int .u64 (hw 2 wd), .int .u64 (hw 3 wd), .int .u64 (hw 4 wd), .int .u64 (hw 5 wd)]), (70, .agg #[.int .u64 (hw 0 sn), .int .u64 (hw 1 sn), .int .u64 (hw 2 sn), .int .u64 (hw 3 sn), .int .u64 (hw 4 sn), .int .u64 (hw 5 sn)]), (71, .agg #[.int .u64 (hw 0 sd), .int .u64 (hw 1 sd), .int .u64 (hw 2 sd), .int .u64 (hw 3 sd), .int .u64 (hw 4 sd), .int .u64 (hw 5 sd)]), (72, .int .i64 mv), (73, .agg #[.int .i64 ku, .string ks, .int .i64 mv]), (74, .slice (some ⟨b13, 0, none⟩) 1 1)] [61, 62, 63, 64, 65, 66, 67, 68, 69, 70, 71, 72, 73, 74] rfl (by kernel_rfl) ⟨e0, e1, e2, e3, e4, e5, e6, e7, e8, e9, e10, e11, e12, e13, trivial⟩]
            clear hφ hsh e0 e1 e2 e3 e4 e5 e6 e7 e8 e9 e10 e11 e12 e13
            simp only [putsN, List.foldl_cons, List.foldl_nil, List.drop_succ_cons, List.drop_zero, Act.put, List.setIfInBounds_toArray, List.set_cons_succ, List.set_cons_zero]
            have HO3 := Lib.hid (HO2.out.below hW)
            have HT3 := HT2.out.below hW
            have T73 := T72.out.below hW
            have T83 := T82.out.below hW
            have HB3 := HBK.out.trans (hW.mono HBK.out.size)
            clear hW HO2 HT2 T72 T82 HBK T13 T14 HTK2
            refine wpList_ownS rfl _ _ rfl w.heap.size 1 ov L1 ⟨ku, ks, mv⟩ ⟨b13, 0, none⟩ rfl rfl HO3.out (fun j u hu => by
              have := stgC_at ht13 hu
              simp only [Addr.add]
              split
              · rename_i h
                subst h
                exact this
              · simpa using this) HLM.out HB3.size ?_
            intro ov2 wz HOZ hgz
            have hO := Other.row HO3.out hgz
            have HTZ := Lib.hid (hO.tbox HT3 (by decide))
            have T7Z := Lib.hid (hO.tbox T73 (by decide))
            have T8Z := Lib.hid (hO.tbox T83 (by decide))
            have HBZ := Lib.hid (HO3.out.keeps HB3 hgz (Nat.le_refl _) HB3.size)
            have HOY := Lib.hid (show OwnS w.heap.size wz ov2 L2 by rw [HTX.out]; exact HOZ)
            clear hO HT3 T73 T83 HB3 hgz HOZ HO3 ht13
            obtain ⟨oa, oc, hov⟩ := HOY.out.shape
            subst hov
            go_wp2_with fail
            go_roundw
            case rel => exact ⟨k + 1, _, by omega, by first | rfl | go_num, rfl, Lib.hid (by rw [HL2.out]; exact HOY.out), HTZ, T7Z, T8Z, HBZ⟩
            case measure => simp [intOf]; omega
        · have hkk : k = keys.length := by omega
          subst hkk
          have HR := Lib.hid (show OwnS w.heap.size wr ov RES by have := HOV.out; rw [show SL.take keys.length = SL by rw [← HLN.out, List.take_length]] at this; rw [HV.out]; exact this)
          obtain ⟨oa, oc, hov⟩ := HR.out.shape
          subst hov
          go_wp2_with fail
          go_ret
          exact ⟨_, rfl, HR.out, HB.out⟩
end Go.Proofs.Ytopmdeefcjdadaa
