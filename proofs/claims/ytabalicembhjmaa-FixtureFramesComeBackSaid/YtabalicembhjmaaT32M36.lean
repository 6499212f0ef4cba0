/- fixture.carried. (printed by wip/gen/gen_carried.py) -/
import Derived.Test.YtabalicembhjmaaT32M35
import Derived.Test.YtabalicembhjmaaT32M19
import Derived.Test.YtabalicembhjmaaT32M03

namespace Go.Proofs.Ytabalicembhjmaa
open Go.RowKit
set_option linter.unusedVariables false
set_option linter.unusedSimpArgs false

set_option maxRecDepth 100000 in
set_option maxHeartbeats 16000000 in
theorem carried_any (B : Nat) (xn yn : ByteArray) (xg xs xf xd yg ys yf yd n : Int) (xb yb : Bool) (xv yv : Value) (lo lq : List Rng) (w : World) (hBw : B ≤ w.heap.size) (hx : RngS B w xv lo) (hy : RngS B w yv lq) (ho : RngsOk lo) (hq : RngsOk lq) (n0 : 0 ≤ n) (n1 : n ≤ 65535) :
    Calls Try.prog 50 #[.agg #[.string xn, .int .i64 xg, .int .i64 xs, .int .i64 xf, .int .i64 xd, .bool xb, xv], .agg #[.string yn, .int .i64 yg, .int .i64 ys, .int .i64 yf, .int .i64 yd, .bool yb, yv], .int .i64 n] w fun e w' => e = .returned (.tuple #[.int .i64 (carV lo lq n).1, .bool (carV lo lq n).2]) ∧ Below w.heap.size w w' := by
  have HGX := Lib.hid (RngS.get hx)
  have HGY := Lib.hid (RngS.get hy)
  have HO := Lib.hid ho
  have HQ := Lib.hid hq
  have HX := Lib.hid hx
  have HY := Lib.hid hy
  have hlx := CellsS.len hx
  have hly := CellsS.len hy
  obtain ⟨xo, xc, rfl⟩ := rngS_shape hx
  obtain ⟨yo, yc, rfl⟩ := rngS_shape hy
  unfold maxLen at hlx hly
  clear hx hy ho hq
  have V1 := Lib.hid (fun h => @carV_none lo lq n h)
  have V2 := Lib.hid (fun h => @carV_out lo lq n h)
  have V3 := Lib.hid (fun a h1 h h2 => @carV_lost lo lq n a h1 h h2)
  have V4 := Lib.hid (fun a b h1 h h2 h3 => @carV_low lo lq n a b h1 h h2 h3)
  have V5 := Lib.hid (fun a b h1 h h2 h3 => @carV_way lo lq n a b h1 h h2 h3)
  generalize carV lo lq n = RES at *
  have hs0 : (((w.alloc (.cells #[.string xn, .int .i64 xg, .int .i64 xs, .int .i64 xf, .int .i64 xd, .bool xb, .slice xo lo.length xc] 42)).alloc (.cells #[.string yn, .int .i64 yg, .int .i64 ys, .int .i64 yf, .int .i64 yd, .bool yb, .slice yo lq.length yc] 42)).alloc (.cells #[.int .i64 n] 3)).heap.size = w.heap.size + 3 := by simp
  have HK := Lib.hid (show ∀ W, Below (w.heap.size + 3) (((w.alloc (.cells #[.string xn, .int .i64 xg, .int .i64 xs, .int .i64 xf, .int .i64 xd, .bool xb, .slice xo lo.length xc] 42)).alloc (.cells #[.string yn, .int .i64 yg, .int .i64 ys, .int .i64 yf, .int .i64 yd, .bool yb, .slice yo lq.length yc] 42)).alloc (.cells #[.int .i64 n] 3)) W → Below w.heap.size w W from fun W hW => ((((Below.refl _ _).alloc (Nat.le_refl _) _).alloc (by simp) _).alloc (by simp; omega) _).trans (hW.mono (by omega)))
  have HTX := Lib.hid (show ∀ W, Below (w.heap.size + 3) (((w.alloc (.cells #[.string xn, .int .i64 xg, .int .i64 xs, .int .i64 xf, .int .i64 xd, .bool xb, .slice xo lo.length xc] 42)).alloc (.cells #[.string yn, .int .i64 yg, .int .i64 ys, .int .i64 yf, .int .i64 yd, .bool yb, .slice yo lq.length yc] 42)).alloc (.cells #[.int .i64 n] 3)) W → TBox W w.heap.size 42 #[.string xn, .int .i64 xg, .int .i64 xs, .int .i64 xf, .int .i64 xd, .bool xb, .slice xo lo.length xc] from fun W hW => (hW.block w.heap.size (by omega)).trans (((TBox.new w #[.string xn, .int .i64 xg, .int .i64 xs, .int .i64 xf, .int .i64 xd, .bool xb, .slice xo lo.length xc] 42).alloc _).alloc _))
  have HTY := Lib.hid (show ∀ W, Below (w.heap.size + 3) (((w.alloc (.cells #[.string xn, .int .i64 xg, .int .i64 xs, .int .i64 xf, .int .i64 xd, .bool xb, .slice xo lo.length xc] 42)).alloc (.cells #[.string yn, .int .i64 yg, .int .i64 ys, .int .i64 yf, .int .i64 yd, .bool yb, .slice yo lq.length yc] 42)).alloc (.cells #[.int .i64 n] 3)) W → TBox W (w.heap.size + 1) 42 #[.string yn, .int .i64 yg, .int .i64 ys, .int .i64 yf, .int .i64 yd, .bool yb, .slice yo lq.length yc] from fun W hW => (hW.block (w.heap.size + 1) (by omega)).trans (by have h1 := (TBox.new (w.alloc (.cells #[.string xn, .int .i64 xg, .int .i64 xs, .int .i64 xf, .int .i64 xd, .bool xb, .slice xo lo.length xc] 42)) #[.string yn, .int .i64 yg, .int .i64 ys, .int .i64 yf, .int .i64 yd, .bool yb, .slice yo lq.length yc] 42).alloc (.cells #[.int .i64 n] 3); rw [World.size_alloc] at h1; exact h1))
  have HTN := Lib.hid (show ∀ W, Below (w.heap.size + 3) (((w.alloc (.cells #[.string xn, .int .i64 xg, .int .i64 xs, .int .i64 xf, .int .i64 xd, .bool xb, .slice xo lo.length xc] 42)).alloc (.cells #[.string yn, .int .i64 yg, .int .i64 ys, .int .i64 yf, .int .i64 yd, .bool yb, .slice yo lq.length yc] 42)).alloc (.cells #[.int .i64 n] 3)) W → TBox W (w.heap.size + 2) 3 #[.int .i64 n] from fun W hW => (hW.block (w.heap.size + 2) (by omega)).trans (by have h1 := TBox.new ((w.alloc (.cells #[.string xn, .int .i64 xg, .int .i64 xs, .int .i64 xf, .int .i64 xd, .bool xb, .slice xo lo.length xc] 42)).alloc (.cells #[.string yn, .int .i64 yg, .int .i64 ys, .int .i64 yf, .int .i64 yd, .bool yb, .slice yo lq.length yc] 42)) #[.int .i64 n] 3; rw [World.size_alloc, World.size_alloc] at h1; exact h1))
  have HB0 := Lib.hid (Below.refl (w.heap.size + 3) (((w.alloc (.cells #[.string xn, .int .i64 xg, .int .i64 xs, .int .i64 xf, .int .i64 xd, .bool xb, .slice xo lo.length xc] 42)).alloc (.cells #[.string yn, .int .i64 yg, .int .i64 ys, .int .i64 yf, .int .i64 yd, .bool yb, .slice yo lq.length yc] 42)).alloc (.cells #[.int .i64 n] 3)))
  have C1 := Lib.hid (car_index1 (.slice xo lo.length xc) lo n (w.heap.size + 2) (((w.alloc (.cells #[.string xn, .int .i64 xg, .int .i64 xs, .int .i64 xf, .int .i64 xd, .bool xb, .slice xo lo.length xc] 42)).alloc (.cells #[.string yn, .int .i64 yg, .int .i64 ys, .int .i64 yf, .int .i64 yd, .bool yb, .slice yo lq.length yc] 42)).alloc (.cells #[.int .i64 n] 3)) ((HX.out.below ((HK.out _ HB0.out).mono hBw)).more (by rw [hs0]; omega)) ((HTN.out _ HB0.out).cell (i := 0) rfl) (HTN.out _ HB0.out).lt)
  have HSP := Lib.hid (idxF_spec (holds n) lo)
  unfold carFn1 at C1
  generalize idxF (holds n) lo 0 = IX at *
  have HS0 := Lib.hid hs0
  clear hs0
  go_enter Try.func50, Try.ntmps50
  go_wp2_with fail
  refine C1.out.mono ?_
  rintro e w1 ⟨rfl, hb⟩
  rw [HS0.out] at hb
  have HB1 := Lib.hid (HB0.out.trans hb)
  have hz1 := hb.size
  rw [HS0.out] at hz1
  have HBB := Lib.hid (HK.out _ HB1.out)
  clear hb C1 HB0
  have p6 := (HTX.out _ HB1.out).cell (i := 6) rfl
  have q6 := (HTY.out _ HB1.out).cell (i := 6) rfl
  have r0 := (HTN.out _ HB1.out).cell (i := 0) rfl
  have hp := (HTX.out _ HB1.out).lt
  have hqq := (HTY.out _ HB1.out).lt
  have hr := (HTN.out _ HB1.out).lt
  by_cases c1 : lo.length = 0
  · have e1 : ((lo.length : Int) == 0) = true := by rw [c1]; rfl
    have HV := Lib.hid (V1.out (.inl c1))
    have HC := Lib.hid c1
    clear c1
    go_wp2_with fail
    exact bodyPost_ret (v := .tuple #[.int .i64 (n), .bool true]) (by simp [results, Try.results50, go_sem]) rfl ⟨by rw [HV.out] <;> rfl, HBB.out⟩
  have e1 : ((lo.length : Int) == 0) = false := by rw [beq_eq_false_iff_ne]; omega
  by_cases c2 : lq.length = 0
  · have e2 : ((lq.length : Int) == 0) = true := by rw [c2]; rfl
    have HV := Lib.hid (V1.out (.inr c2))
    clear c1 c2
    go_wp2_with fail
    exact bodyPost_ret (v := .tuple #[.int .i64 (n), .bool true]) (by simp [results, Try.results50, go_sem]) rfl ⟨by rw [HV.out] <;> rfl, HBB.out⟩
  have e2 : ((lq.length : Int) == 0) = false := by rw [beq_eq_false_iff_ne]; omega
  have HN := Lib.hid (show ¬ (lo.length = 0 ∨ lq.length = 0) by omega)
  rcases HSP.out with ⟨rfl, h2⟩ | ⟨k, hk, rfl, h2⟩
  · have HV := Lib.hid (V2.out h2)
    clear c1 c2 h2
    go_wp2_with fail
    exact bodyPost_ret (v := .tuple #[.int .i64 (n), .bool true]) (by simp [results, Try.results50, go_sem]) rfl ⟨by rw [HV.out] <;> rfl, HBB.out⟩
  have hA := List.find?_some h2
  have HFA := Lib.hid h2
  have hAO := HO.out _ (List.getElem_mem hk)
  obtain ⟨b, off, cap', hsl, hbb, _, hc⟩ := HGX.out (by omega)
  injection hsl with hs1 hs2 hs3
  have HSL := Lib.hid hs1
  have HSC := Lib.hid hs3
  obtain ⟨d0, d1, d2⟩ := hc k hk w1 (HBB.out.mono hBw)
  have hbr : b < w1.heap.size := by omega
  clear hc h2 hs2 V1 V2 HSP
  have V3 := Lib.hid (V3.out lo[k] HN.out HFA.out)
  have V4 := Lib.hid (fun b => V4.out lo[k] b HN.out HFA.out)
  have V5 := Lib.hid (fun b => V5.out lo[k] b HN.out HFA.out)
  clear HFA
  generalize hrk : lo[k] = rk at *
  clear hrk
  obtain ⟨al, ah, am⟩ := rk
  simp only [holds, decide_eq_true_eq] at hA
  simp only at *
  obtain ⟨a1, a2, a3⟩ := hAO
  have HA1 := Lib.hid (HB1.out.alloc hz1 (.cells #[.int .i64 al, .int .i64 ah, .string am] 86))
  have HTA := Lib.hid (TBox.new w1 #[.int .i64 al, .int .i64 ah, .string am] 86)
  have C2 := Lib.hid (car_index2 (.slice yo lq.length yc) lq am w1.heap.size (w1.alloc (.cells #[.int .i64 al, .int .i64 ah, .string am] 86)) ((HY.out.below ((HK.out _ HA1.out).mono hBw)).more (by simp; omega)) (HTA.out.cell (i := 2) rfl) HTA.out.lt)
  have HSQ := Lib.hid (idxF_spec (hasRn am.data.toList) lq)
  unfold carFn2 at C2
  generalize idxF (hasRn am.data.toList) lq 0 = JX at *
  subst hs1
  subst hs3
  clear c1 c2 HSL HSC
  go_wp2_with fail
  refine C2.out.mono ?_
  rintro e w3 ⟨rfl, hb⟩
  have hz3 := hb.size
  simp only [World.size_alloc] at hz3
  have HB3 := Lib.hid (HA1.out.trans (hb.mono (by simp; omega)))
  have HBB := Lib.hid (HK.out _ HB3.out)
  have HTA3 := Lib.hid (HTA.out.below hb)
  clear hb C2 HA1 HTA p6 q6 r0 hp hqq hr
  have q6 := (HTY.out _ HB3.out).cell (i := 6) rfl
  have r0 := (HTN.out _ HB3.out).cell (i := 0) rfl
  have hqq := (HTY.out _ HB3.out).lt
  have hr := (HTN.out _ HB3.out).lt
  have s0 := HTA3.out.cell (i := 0) rfl
  have s1 := HTA3.out.cell (i := 1) rfl
  have hsa := HTA3.out.lt
  rcases HSQ.out with ⟨rfl, h2⟩ | ⟨j, hj, rfl, h2⟩
  · have HV := Lib.hid (V3.out h2)
    clear h2
    go_wp2_with fail
    exact bodyPost_ret (v := .tuple #[.int .i64 (0), .bool false]) (by simp [results, Try.results50, go_sem]) rfl ⟨by rw [HV.out] <;> rfl, HBB.out⟩
  have hBO := HQ.out _ (List.getElem_mem hj)
  obtain ⟨b2, off2, cap2, hsl, hb2, _, hc⟩ := HGY.out (by omega)
  injection hsl with hs1 hs2 hs3
  obtain ⟨f0, f1, f2⟩ := hc j hj w3 (HBB.out.mono hBw)
  have hbr2 : b2 < w3.heap.size := by omega
  have V4 := Lib.hid (V4.out lq[j] h2)
  have V5 := Lib.hid (V5.out lq[j] h2)
  clear hc h2 hs2 HSQ V3
  generalize hrk : lq[j] = rk at *
  clear hrk
  obtain ⟨bl, bh, bm⟩ := rk
  simp only at *
  obtain ⟨b1', b2', b3'⟩ := hBO
  have HA3 := Lib.hid (HB3.out.alloc (by omega) (.cells #[.int .i64 bl, .int .i64 bh, .string bm] 86))
  have HBF := Lib.hid (HK.out _ HA3.out)
  subst hs1
  subst hs3
  by_cases c3 : al = ah
  · have e3 : (al == ah) = true := by simp [c3]
    have HV := Lib.hid (V4.out c3)
    have HC3 := Lib.hid c3
    clear c3
    go_wp2_with fail
    exact bodyPost_ret (v := .tuple #[.int .i64 (bl), .bool true]) (by simp [results, Try.results50, go_sem]) rfl ⟨by rw [HV.out] <;> rfl, HBF.out⟩
  have e3 : (al == ah) = false := by simpa using c3
  have HV := Lib.hid (V5.out c3)
  have m1 := mul_le_sq (a := bl) (b := ah - al) (by omega) (by omega) (by omega) (by omega)
  have m2 := mul_le_sq (a := n - al) (b := bh - bl) (by omega) (by omega) (by omega) (by omega)
  have CR := Lib.hid (fun W => round_any (bl * (ah - al) + (n - al) * (bh - bl)) (ah - al) W (by omega) (by omega) (by omega) (by omega))
  generalize hP : bl * (ah - al) = P1 at *
  generalize hQ : (n - al) * (bh - bl) = P2 at *
  have HP1 := Lib.hid hP
  have HP2 := Lib.hid hQ
  have w1' : IntKind.i64.wrap (ah - al) = ah - al := IntWalk.i64_in _ (by omega)
  have w2' : IntKind.i64.wrap (n - al) = n - al := IntWalk.i64_in _ (by omega)
  have w3' : IntKind.i64.wrap (bh - bl) = bh - bl := IntWalk.i64_in _ (by omega)
  have w4' : IntKind.i64.wrap (P1 + P2) = P1 + P2 := IntWalk.i64_in _ (by omega)
  have w5' : IntKind.i64.wrap P1 = P1 := IntWalk.i64_in _ (by omega)
  have w6' : IntKind.i64.wrap P2 = P2 := IntWalk.i64_in _ (by omega)
  go_wp2_with fail
  refine (CR.out _).mono ?_
  rintro e w' ⟨rfl, rfl⟩
  go_wp2_with fail
  exact bodyPost_ret (v := .tuple #[.int .i64 (rnd (P1 + P2) (ah - al)), .bool true]) (by simp [results, Try.results50, go_sem]) rfl ⟨by rw [HV.out] <;> rfl, HBF.out⟩
end Go.Proofs.Ytabalicembhjmaa
