/- fixture.carried. (printed by wip/gen/gen_carried.py) What stays in fixture.Exchange's loop; how few settings there are; the loop's steps. No walk in it. Are slots free in a universe? The look-up in the map of marks and the call of free, together. -/
import Derived.Test.YtabalicembhjmaaT33M25
import Derived.Test.YtabalicembhjmaaT33M18
import Derived.Test.YtabalicembhjmaaT33M03
import Derived.Test.YtabalicembhjmaaT33M20
import Derived.Test.YtabalicembhjmaaT33M16
import Derived.Test.YtabalicembhjmaaT33M24

namespace Go.Proofs.Ytabalicembhjmaa
open Go.RowKit
set_option linter.unusedVariables false
set_option linter.unusedSimpArgs false

set_option maxRecDepth 100000 in
set_option maxHeartbeats 16000000 in
theorem carried_any (B : Nat) (xn yn : ByteArray) (xg xs xf xd yg ys yf yd n : Int) (xb yb : Bool) (xv yv : Value) (lo lq : List Rng) (w : World) (hBw : B ≤ w.heap.size) (hx : RngS B w xv lo) (hy : RngS B w yv lq) (ho : RngsOk lo) (hq : RngsOk lq) (n0 : 0 ≤ n) (n1 : n ≤ 65535) :
    Calls Try.prog 50 #[.agg #[.string xn, .int .i64 xg, .int .i64 xs, .int .i64 xf, .int .i64 xd, .bool xb, xv], .agg #[.string yn, .int .i64 yg, .int .i64 ys, .int .i64 yf, .int .i64 yd, .bool yb, yv], .int .i64 n] w fun e w' => e = .returned (.tuple #[.int .i64 (carV lo lq n).1, .bool (carV lo lq n).2]) ∧ Below w.heap.size w w' := by
  have HGX := Lib.hid (RngS.get hx)
  have HGY := Lib.hid (RngS.get hy)
  have HO := Lib.hid ho
  have HQ := Lib.hid hq
  have HX := Lib.hid hx
  have HY := Lib.hid hy
  have hlx := CellsS.len hx
  have hly := CellsS.len hy
  obtain ⟨xo, xc, rfl⟩ := rngS_shape hx
  obtain ⟨yo, yc, rfl⟩ := rngS_shape hy
  unfold maxLen at hlx hly
  clear hx hy ho hq
  have V1 := Lib.hid (fun h => @carV_none lo lq n h)
  have V2 := Lib.hid (fun h => @carV_out lo lq n h)
  have V3 := Lib.hid (fun a h1 h h2 => @carV_lost lo lq n a h1 h h2)
  have V4 := Lib.hid (fun a b h1 h h2 h3 => @carV_low lo lq n a b h1 h h2 h3)
  have V5 := Lib.hid (fun a b h1 h h2 h3 => @carV_way lo lq n a b h1 h h2 h3)
  generalize carV lo lq n = RES at *
  have hs0 : (((w.alloc (.cells #[.string xn, .int .i64 xg, .int .i64 xs, .int .i64 xf, .int .i64 xd, .bool xb, .slice xo lo.length xc] 42)).alloc (.cells #[.string yn, .int .i64 yg, .int .i64 ys, .int .i64 yf, .int .i64 yd, .bool yb, .slice yo lq.length yc] 42)).alloc (.cells #[.int .i64 n] 3)).heap.size = w.heap.size + 3 := by simp
  have HK := Lib.hid (show ∀ W, Below (w.heap.size + 3) (((w.alloc (.cells #[.string xn, .int .i64 xg, .int .i64 xs, .int .i64 xf, .int .i64 xd, .bool xb, .slice xo lo.length xc] 42)).alloc (.cells #[.string yn, .int .i64 yg, .int .i64 ys, .int .i64 yf, .int .i64 yd, .bool yb, .slice yo lq.length yc] 42)).alloc (.cells #[.int .i64 n] 3)) W → Below w.heap.size w W from fun W hW => ((((Below.refl _ _).alloc (Nat.le_refl _) _).alloc (by simp) _).alloc (by simp; omega) _).trans (hW.mono (by omega)))
  have HTX := Lib.hid (show ∀ W, Below (w.heap.size + 3) (((w.alloc (.cells #[.string xn, .int .i64 xg, .int .i64 xs, .int .i64 xf, .int .i64 xd, .bool xb, .slice xo lo.length xc] 42)).alloc (.cells #[.string yn, .int .i64 yg, .int .i64 ys, .int .i64 yf, .int .i64 yd, .bool yb, .slice yo lq.length yc] 42)).alloc (.cells #[.int .i64 n] 3)) W → TBox W w.heap.size 42 #[.string xn, .int .i64 xg, .int .i64 xs, .int .i64 xf, .int .i64 xd, .bool xb, .slice xo lo.length xc] from fun W hW => (hW.block w.heap.size (by omega)).trans (((TBox.new w #[.string xn, .int .i64 xg, .int .i64 xs, .int .i64 xf, .int .i64 xd, .bool xb, .slice xo lo.length xc] 42).alloc _).alloc _))
  have HTY := Lib.hid (show ∀ W, Below (w.heap.size + 3) (((w.alloc (.cells #[.string xn, .int .i64 xg, .int .i64 xs, .int .i64 xf, .int .i64 xd, .bool xb, .slice xo lo.length xc] 42)).alloc (.cells #[.string yn, .int .i64 yg, .int .i64 ys, .int .i64 yf, .int .i64 yd, .bool yb, .slice yo lq.length yc] 42)).alloc (.cells #[.int .i64 n] 3)) W → TBox W (w.heap.size + 1) 42 #[.string yn, .int .i64 yg, .int .i64 ys, .int .i64 yf, .int .i64 yd, .bool yb, .slice yo lq.length yc] from fun W hW => (hW.block (w.heap.size + 1) (by omega)).trans (by have h1 := (TBox.new (w.alloc (.cells #[.string xn, .int .i64 xg, .int .i64 xs, .int .i64 xf, .int .i64 xd, .bool xb, .slice xo lo.length xc] 42)) #[.string yn, .int .i64 yg, .int .i64 ys, .int .i64 yf, .int .i64 yd, .bool yb, .slice yo lq.length yc] 42).alloc (.cells #[.int .i64 n] 3); rw [World.size_alloc] at h1; exact h1))
  have HTN := Lib.hid (show ∀ W, Below (w.heap.size + 3) (((w.alloc (.cells #[.string xn, .int .i64 xg, .int .i64 xs, .int .i64 xf, .int .i64 xd, .bool xb, .slice xo lo.length xc] 42)).alloc (.cells #[.string yn, .int .i64 yg, .int .i64 ys, .int .i64 yf, .int .i64 yd, .bool yb, .slice yo lq.length yc] 42)).alloc (.cells #[.int .i64 n] 3)) W → TBox W (w.heap.size + 2) 3 #[.int .i64 n] from fun W hW => (hW.block (w.heap.size + 2) (by omega)).trans (by have h1 := TBox.new ((w.alloc (.cells #[.string xn, .int .i64 xg, .int .i64 xs, .int .i64 xf, .int .i64 xd, .bool xb, .slice xo lo.length xc] 42)).alloc (.cells #[.string yn, .int .i64 yg, .int .i64 ys, .int .i64 yf, .int .i64 yd, .bool yb, .slice yo lq.length yc] 42)) #[.int .i64 n] 3; rw [World.size_alloc, World.size_alloc] at h1; exact h1))
  have HB0 := Lib.hid (Below.refl (w.heap.size + 3) (((w.alloc (.cells #[.string xn, .int .i64 xg, .int .i64 xs, .int .i64 xf, .int .i64 xd, .bool xb, .slice xo lo.length xc] 42)).alloc (.cells #[.string yn, .int .i64 yg, .int .i64 ys, .int .i64 yf, .int .i64 yd, .bool yb, .slice yo lq.length yc] 42)).alloc (.cells #[.int .i64 n] 3)))
  have C1 := Lib.hid (car_index1 (.slice xo lo.length xc) lo n (w.heap.size + 2) (((w.alloc (.cells #[.string xn, .int .i64 xg, .int .i64 xs, .int .i64 xf, .int .i64 xd, .bool xb, .slice xo lo.length xc] 42)).alloc (.cells #[.string yn, .int .i64 yg, .int .i64 ys, .int .i64 yf, .int .i64 yd, .bool yb, .slice yo lq.length yc] 42)).alloc (.cells #[.int .i64 n] 3)) ((HX.out.below ((HK.out _ HB0.out).mono hBw)).more (by rw [hs0]; omega)) ((HTN.out _ HB0.out).cell (i := 0) rfl) (HTN.out _ HB0.out).lt)
  have HSP := Lib.hid (idxF_spec (holds n) lo)
  unfold carFn1 at C1
  generalize idxF (holds n) lo 0 = IX at *
  have HS0 := Lib.hid hs0
  clear hs0
  go_enter Try.func50, Try.ntmps50
  go_wp2_with fail
  refine C1.out.mono ?_
  rintro e w1 ⟨rfl, hb⟩
  rw [HS0.out] at hb
  have HB1 := Lib.hid (HB0.out.trans hb)
  have hz1 := hb.size
  rw [HS0.out] at hz1
  have HBB := Lib.hid (HK.out _ HB1.out)
  clear hb C1 HB0
  have p6 := (HTX.out _ HB1.out).cell (i := 6) rfl
  have q6 := (HTY.out _ HB1.out).cell (i := 6) rfl
  have r0 := (HTN.out _ HB1.out).cell (i := 0) rfl
  have hp := (HTX.out _ HB1.out).lt
  have hqq := (HTY.out _ HB1.out).lt
  have hr := (HTN.out _ HB1.out).lt
  by_cases c1 : lo.length = 0
  · have e1 : ((lo.length : Int) == 0) = true := by rw [c1]; rfl
    have HV := Lib.hid (V1.out (.inl c1))
    have HC := Lib.hid c1
    clear c1
    go_wp2_with fail
    exact bodyPost_ret (v := .tuple #[.int .i64 (n), .bool true]) (by simp [results, Try.results50, go_sem]) rfl ⟨by rw [HV.out] <;> rfl, HBB.out⟩
  have e1 : ((lo.length : Int) == 0) = false := by rw [beq_eq_false_iff_ne]; omega
  by_cases c2 : lq.length = 0
  · have e2 : ((lq.length : Int) == 0) = true := by rw [c2]; rfl
    have HV := Lib.hid (V1.out (.inr c2))
    clear c1 c2
    go_wp2_with fail
    exact bodyPost_ret (v := .tuple #[.int .i64 (n), .bool true]) (by simp [results, Try.results50, go_sem]) rfl ⟨by rw [HV.out] <;> rfl, HBB.out⟩
  have e2 : ((lq.length : Int) == 0) = false := by rw [beq_eq_false_iff_ne]; omega
  have HN := Lib.hid (show ¬ (lo.length = 0 ∨ lq.length = 0) by omega)
  rcases HSP.out with ⟨rfl, h2⟩ | ⟨k, hk, rfl, h2⟩
  · have HV := Lib.hid (V2.out h2)
    clear c1 c2 h2
    go_wp2_with fail
    exact bodyPost_ret (v := .tuple #[.int .i64 (n), .bool true]) (by simp [results, Try.results50, go_sem]) rfl ⟨by rw [HV.out] <;> rfl, HBB.out⟩
  have hA := List.find?_some h2
  have HFA := Lib.hid h2
  have hAO := HO.out _ (List.getElem_mem hk)
  obtain ⟨b, off, cap', hsl, hbb, _, hc⟩ := HGX.out (by omega)
  injection hsl with hs1 hs2 hs3
  have HSL := Lib.hid hs1
  have HSC := Lib.hid hs3
  obtain ⟨d0, d1, d2⟩ := hc k hk w1 (HBB.out.mono hBw)
  have hbr : b < w1.heap.size := by omega
  clear hc h2 hs2 V1 V2 HSP
  have V3 := Lib.hid (V3.out lo[k] HN.out HFA.out)
  have V4 := Lib.hid (fun b => V4.out lo[k] b HN.out HFA.out)
  have V5 := Lib.hid (fun b => V5.out lo[k] b HN.out HFA.out)
  clear HFA
  generalize hrk : lo[k] = rk at *
  clear hrk
  obtain ⟨al, ah, am⟩ := rk
  simp only [holds, decide_eq_true_eq] at hA
  simp only at *
  obtain ⟨a1, a2, a3⟩ := hAO
  have HA1 := Lib.hid (HB1.out.alloc hz1 (.cells #[.int .i64 al, .int .i64 ah, .string am] 86))
  have HTA := Lib.hid (TBox.new w1 #[.int .i64 al, .int .i64 ah, .string am] 86)
  have C2 := Lib.hid (car_index2 (.slice yo lq.length yc) lq am w1.heap.size (w1.alloc (.cells #[.int .i64 al, .int .i64 ah, .string am] 86)) ((HY.out.below ((HK.out _ HA1.out).mono hBw)).more (by simp; omega)) (HTA.out.cell (i := 2) rfl) HTA.out.lt)
  have HSQ := Lib.hid (idxF_spec (hasRn am.data.toList) lq)
  unfold carFn2 at C2
  generalize idxF (hasRn am.data.toList) lq 0 = JX at *
  subst hs1
  subst hs3
  clear c1 c2 HSL HSC
  go_wp2_with fail
  refine C2.out.mono ?_
  rintro e w3 ⟨rfl, hb⟩
  have hz3 := hb.size
  simp only [World.size_alloc] at hz3
  have HB3 := Lib.hid (HA1.out.trans (hb.mono (by simp; omega)))
  have HBB := Lib.hid (HK.out _ HB3.out)
  have HTA3 := Lib.hid (HTA.out.below hb)
  clear hb C2 HA1 HTA p6 q6 r0 hp hqq hr
  have q6 := (HTY.out _ HB3.out).cell (i := 6) rfl
  have r0 := (HTN.out _ HB3.out).cell (i := 0) rfl
  have hqq := (HTY.out _ HB3.out).lt
  have hr := (HTN.out _ HB3.out).lt
  have s0 := HTA3.out.cell (i := 0) rfl
  have s1 := HTA3.out.cell (i := 1) rfl
  have hsa := HTA3.out.lt
  rcases HSQ.out with ⟨rfl, h2⟩ | ⟨j, hj, rfl, h2⟩
  · have HV := Lib.hid (V3.out h2)
    clear h2
    go_wp2_with fail
    exact bodyPost_ret (v := .tuple #[.int .i64 (0), .bool false]) (by simp [results, Try.results50, go_sem]) rfl ⟨by rw [HV.out] <;> rfl, HBB.out⟩
  have hBO := HQ.out _ (List.getElem_mem hj)
  obtain ⟨b2, off2, cap2, hsl, hb2, _, hc⟩ := HGY.out (by omega)
  injection hsl with hs1 hs2 hs3
  obtain ⟨f0, f1, f2⟩ := hc j hj w3 (HBB.out.mono hBw)
  have hbr2 : b2 < w3.heap.size := by omega
  have V4 := Lib.hid (V4.out lq[j] h2)
  have V5 := Lib.hid (V5.out lq[j] h2)
  clear hc h2 hs2 HSQ V3
  generalize hrk : lq[j] = rk at *
  clear hrk
  obtain ⟨bl, bh, bm⟩ := rk
  simp only at *
  obtain ⟨b1', b2', b3'⟩ := hBO
  have HA3 := Lib.hid (HB3.out.alloc (by omega) (.cells #[.int .i64 bl, .int .i64 bh, .string bm] 86))
  have HBF := Lib.hid (HK.out _ HA3.out)
  subst hs1
  subst hs3
  by_cases c3 : al = ah
  · have e3 : (al == ah) = true := by simp [c3]
    have HV := Lib.hid (V4.out c3)
    have HC3 := Lib.hid c3
    clear c3
    go_wp2_with fail
    exact bodyPost_ret (v := .tuple #[.int .i64 (bl), .bool true]) (by simp [results, Try.results50, go_sem]) rfl ⟨by rw [HV.out] <;> rfl, HBF.out⟩
  have e3 : (al == ah) = false := by simpa using c3
  have HV := Lib.hid (V5.out c3)
  have m1 := mul_le_sq (a := bl) (b := ah - al) (by omega) (by omega) (by omega) (by omega)
  have m2 := mul_le_sq (a := n - al) (b := bh - bl) (by omega) (by omega) (by omega) (by omega)
  have CR := Lib.hid (fun W => round_any (bl * (ah - al) + (n - al) * (bh - bl)) (ah - al) W (by omega) (by omega) (by omega) (by omega))
  generalize hP : bl * (ah - al) = P1 at *
  generalize hQ : (n - al) * (bh - bl) = P2 at *
  have HP1 := Lib.hid hP
  have HP2 := Lib.hid hQ
  have w1' : IntKind.i64.wrap (ah - al) = ah - al := IntWalk.i64_in _ (by omega)
  have w2' : IntKind.i64.wrap (n - al) = n - al := IntWalk.i64_in _ (by omega)
  have w3' : IntKind.i64.wrap (bh - bl) = bh - bl := IntWalk.i64_in _ (by omega)
  have w4' : IntKind.i64.wrap (P1 + P2) = P1 + P2 := IntWalk.i64_in _ (by omega)
  have w5' : IntKind.i64.wrap P1 = P1 := IntWalk.i64_in _ (by omega)
  have w6' : IntKind.i64.wrap P2 = P2 := IntWalk.i64_in _ (by omega)
  go_wp2_with fail
  refine (CR.out _).mono ?_
  rintro e w' ⟨rfl, rfl⟩
  go_wp2_with fail
  exact bodyPost_ret (v := .tuple #[.int .i64 (rnd (P1 + P2) (ah - al)), .bool true]) (by simp [results, Try.results50, go_sem]) rfl ⟨by rw [HV.out] <;> rfl, HBF.out⟩
end Go.Proofs.Ytabalicembhjmaa

namespace Go.Proofs.Ytabalicembhjmaa
open Go.RowKit
set_option linter.unusedVariables false
set_option linter.unusedSimpArgs false

theorem nodup_few {α : Type} [DecidableEq α] : ∀ (l m : List α), l.Nodup → (∀ a ∈ l, a ∈ m) → l.length ≤ m.length
  | [], m, _, _ => Nat.zero_le _
  | a :: l, m, h, hs => by
    have ha : a ∈ m := hs a (by simp)
    obtain ⟨h1, h2⟩ := List.nodup_cons.1 h
    have := nodup_few l (m.erase a) h2 (fun b hb => (List.mem_erase_of_ne (fun e => h1 (by rw [← e]; exact hb))).2 (hs b (by simp [hb])))
    rw [List.length_erase_of_mem ha] at this
    have : 0 < m.length := List.length_pos_of_mem ha
    simp only [List.length_cons]
    omega
theorem bytes_ext {a b : ByteArray} (h : a.data.toList = b.data.toList) : a = b := ByteArray.ext (Array.ext' h)
/-- right settings are few -/
theorem stgs_few {x : Rig} (hx : chkRig x = 0) {l : List Stg} (hl : chkStgs x l = 0) : l.length ≤ 16000 := by
  obtain ⟨h1, h2⟩ := (stgs_iff x l).1 hl
  have hk : (l.map Stg.k).Nodup := by
    rw [List.nodup_iff_pairwise_ne, List.pairwise_map]
    exact h2
  have hs : ∀ a ∈ l.map Stg.k, a ∈ x.units.flatMap (fun u => (parsOf x.lib u).map (fun p => (u.num, p.name))) := by
    intro a ha
    obtain ⟨s, hs, rfl⟩ := List.mem_map.1 ha
    obtain ⟨g1, _⟩ := h1 s hs
    cases hh : hasU x.units s.unit
    · rw [findO_no hh] at g1; cases g1
    · obtain ⟨hp, p, e1, e2, e3⟩ := findO_yes hx hh s.par.data.toList
      rw [e3] at g1
      cases hq : parOf p.pars s.par.data.toList with
      | none => rw [hq] at g1; cases g1
      | some q =>
        refine List.mem_flatMap.2 ⟨_, List.getElem_mem hp, List.mem_map.2 ⟨q, ?_, ?_⟩⟩
        · unfold parsOf
          rw [e2]
          exact List.mem_of_find?_eq_some hq
        · have := List.find?_some hq
          simp only [hasPn, decide_eq_true_eq] at this
          have e : q.name = s.par := bytes_ext this
          rw [e1, e]
          rfl
  have h3 := nodup_few _ _ hk hs
  rw [List.length_map] at h3
  have h4 := flat_le (fun u => (parsOf x.lib u).map (fun p => (u.num, p.name))) 40 x.units (fun u hu => by
    obtain ⟨p, e1, e2, _⟩ := par_right hx hu
    rw [List.length_map]
    unfold parsOf
    rw [e1]
    exact e2)
  have h5 := (chkRig_zero hx).2.1
  omega
theorem below_mid {B : Nat} {a u W : World} (h1 : Below B a u) (h2 : Below B a W) (hs : u.heap.size ≤ W.heap.size) : Below B u W :=
  ⟨h2.os.trans h1.os.symm, h2.tape.trans h1.tape.symm, h2.output.trans h1.output.symm, hs, fun b hb => (h2.block b hb).trans (h1.block b hb).symm⟩
/-- a parameter's value, or that of none, and its ranges -/
theorem parR_rngs {B : Nat} {w : World} {o : Option Par} {v : Value} (h : ParR B w o v) : ∃ qn qg qs qf qd qb rv, v = .agg #[.string qn, .int .i64 qg, .int .i64 qs, .int .i64 qf, .int .i64 qd, .bool qb, rv] ∧ RngS B w rv ((o.map Par.rngs).getD []) := by
  cases o with
  | none => exact ⟨_, _, _, _, _, _, _, h, CellsS.nil _ _⟩
  | some p =>
    obtain ⟨rv, h1, h2⟩ := h
    exact ⟨_, _, _, _, _, _, _, h1, h2⟩
theorem heap4 (W : World) (g a b c d : Nat) (u v x y : Value) : W.grownBy ((((W.setCell ⟨g, a, none⟩ u).setCell ⟨g, b, none⟩ v).setCell ⟨g, c, none⟩ x).setCell ⟨g, d, none⟩ y) (some g) := by
  refine ⟨rfl, rfl, rfl, by simp, fun k _ hne => ?_⟩
  have h : ∀ (W : World) (i : Nat) (u : Value), (W.setCell ⟨g, i, none⟩ u).heap[k]? = W.heap[k]? := fun W i u => heap_setCell_other W ⟨g, i, none⟩ k u (fun e => hne (by simp [e]))
  rw [h, h, h, h]
theorem Other.box4 {w : World} {T : TypeId} {g : Nat} {cs : Array Value} (h : TBox w g T cs) (a b c d : Nat) (u v x y : Value) : Other w ((((w.setCell ⟨g, a, none⟩ u).setCell ⟨g, b, none⟩ v).setCell ⟨g, c, none⟩ x).setCell ⟨g, d, none⟩ y) T :=
  ⟨some g, heap4 w g a b c d u v x y, fun k hk => by cases hk; exact ⟨_, _, h⟩⟩
/-- what stays: the boxes of the argument, of the profiles, of the result; the copied rig -/
structure ExK (w : World) (lv uv : Value) (b3 b7 b10 : Nat) (cs3 cs7 cs10 : Array Value) (LV UV : Value) (lib : List Prf) (us : List Unt) (W : World) : Prop where
  box : RigBox w lv uv W
  t3 : TBox W b3 70 cs3
  t7 : TBox W b7 70 cs7
  t10 : TBox W b10 25 cs10
  ol : OwnL (w.heap.size + 2) W LV lib
  ou : OwnU (w.heap.size + 2) W UV us
theorem ExK.below {w : World} {lv uv : Value} {b3 b7 b10 : Nat} {cs3 cs7 cs10 : Array Value} {LV UV : Value} {lib : List Prf} {us : List Unt} {W W' : World} (h : ExK w lv uv b3 b7 b10 cs3 cs7 cs10 LV UV lib us W) (hb : Below W.heap.size W W') : ExK w lv uv b3 b7 b10 cs3 cs7 cs10 LV UV lib us W' :=
  ⟨h.box.next hb, h.t3.below hb, h.t7.below hb, h.t10.below hb, h.ol.below hb, h.ou.below hb⟩
theorem ExK.alloc {w : World} {lv uv : Value} {b3 b7 b10 : Nat} {cs3 cs7 cs10 : Array Value} {LV UV : Value} {lib : List Prf} {us : List Unt} {W : World} (h : ExK w lv uv b3 b7 b10 cs3 cs7 cs10 LV UV lib us W) (o : Obj) : ExK w lv uv b3 b7 b10 cs3 cs7 cs10 LV UV lib us (W.alloc o) :=
  h.below ((Below.refl _ _).alloc (Nat.le_refl _) o)
theorem ExK.other {w : World} {lv uv : Value} {b3 b7 b10 : Nat} {cs3 cs7 cs10 : Array Value} {LV UV : Value} {lib : List Prf} {us : List Unt} {W W' : World} {T : TypeId} (h : ExK w lv uv b3 b7 b10 cs3 cs7 cs10 LV UV lib us W) (o : Other W W' T) (hb : RigBox w lv uv W')
    (h1 : 70 ≠ T) (h2 : 25 ≠ T) (h3 : 86 ≠ T) (h4 : 42 ≠ T) (h5 : 67 ≠ T) : ExK w lv uv b3 b7 b10 cs3 cs7 cs10 LV UV lib us W' :=
  ⟨hb, o.tbox h.t3 h1, o.tbox h.t7 h1, o.tbox h.t10 h2, h.ol.other o h3 h4 h1, h.ou.other o h5⟩
theorem ExK.grownS {w : World} {lv uv : Value} {b3 b7 b10 : Nat} {cs3 cs7 cs10 : Array Value} {LV UV : Value} {lib : List Prf} {us : List Unt} {W W' : World} {v : Value} {l : List Stg} (h : ExK w lv uv b3 b7 b10 cs3 cs7 cs10 LV UV lib us W) (ho : OwnS (w.heap.size + 2) W v l) (hg : W.grownBy W' v.ownBlock) : ExK w lv uv b3 b7 b10 cs3 cs7 cs10 LV UV lib us W' :=
  h.other (Other.row (T' := 35) ho hg) (h.box.grown ho hg (Nat.le_refl _)) (by decide) (by decide) (by decide) (by decide) (by decide)
theorem ExK.grownK {w : World} {lv uv : Value} {b3 b7 b10 : Nat} {cs3 cs7 cs10 : Array Value} {LV UV : Value} {lib : List Prf} {us : List Unt} {W W' : World} {v : Value} {l : List KeyR} (h : ExK w lv uv b3 b7 b10 cs3 cs7 cs10 LV UV lib us W) (ho : OwnK (w.heap.size + 2) W v l) (hg : W.grownBy W' v.ownBlock) : ExK w lv uv b3 b7 b10 cs3 cs7 cs10 LV UV lib us W' :=
  h.other (Other.row (T' := 33) ho hg) (h.box.grown ho hg (Nat.le_refl _)) (by decide) (by decide) (by decide) (by decide) (by decide)
theorem OwnK.grownS {base : Nat} {W W' : World} {v v' : Value} {l : List Stg} {m : List KeyR} (h : OwnK base W v' m) (ho : OwnS base W v l) (hg : W.grownBy W' v.ownBlock) : OwnK base W' v' m :=
  (Other.row (T' := 35) ho hg).own h (by decide)
theorem OwnS.grownK {base : Nat} {W W' : World} {v v' : Value} {l : List KeyR} {m : List Stg} (h : OwnS base W v' m) (ho : OwnK base W v l) (hg : W.grownBy W' v.ownBlock) : OwnS base W' v' m :=
  (Other.row (T' := 33) ho hg).own h (by decide)
theorem ExK.done {w : World} {lv uv : Value} {b3 b7 b10 : Nat} {cs3 cs7 cs10 : Array Value} {LV UV : Value} {lib : List Prf} {us : List Unt} {W : World} (h : ExK w lv uv b3 b7 b10 cs3 cs7 cs10 LV UV lib us W) (a b : Value) :
    OwnL (w.heap.size + 2) ((W.setCell ⟨w.heap.size + 1, 0, none⟩ a).setCell ⟨w.heap.size + 1, 1, none⟩ b) LV lib ∧ OwnU (w.heap.size + 2) ((W.setCell ⟨w.heap.size + 1, 0, none⟩ a).setCell ⟨w.heap.size + 1, 1, none⟩ b) UV us :=
  ⟨h.ol.res h.box.res a b, h.ou.res h.box.res a b⟩
theorem OwnS.res {W : World} {rb base : Nat} {cs : Array Value} {v : Value} {l : List Stg} (h : OwnS base W v l) (hr : TBox W rb 25 cs) (a b : Value) : OwnS base ((W.setCell ⟨rb, 0, none⟩ a).setCell ⟨rb, 1, none⟩ b) v l :=
  (Other.box (hr.set 0 a) b).own ((Other.box hr a).own h (by decide)) (by decide)
theorem OwnK.res {W : World} {rb base : Nat} {cs : Array Value} {v : Value} {l : List KeyR} (h : OwnK base W v l) (hr : TBox W rb 25 cs) (a b : Value) : OwnK base ((W.setCell ⟨rb, 0, none⟩ a).setCell ⟨rb, 1, none⟩ b) v l :=
  (Other.box (hr.set 0 a) b).own ((Other.box hr a).own h (by decide)) (by decide)

/-! ### the loop's steps -/
def keyRs (l : List (Int × ByteArray)) : List KeyR := l.map (fun k => ⟨k.1, k.2⟩)
theorem kept_some {n : Int} {old p : Prf} {l : List Stg} {k : Nat} (hk : k < l.length) {t : Stg} (h : keepS n old p l[k] = some t) : keptS n old p (l.take (k + 1)) = keptS n old p (l.take k) ++ [t] ∧ lostS n old p (l.take (k + 1)) = lostS n old p (l.take k) := by
  unfold keptS lostS
  rw [List.take_succ_eq_append_getElem hk, List.filterMap_append, List.filter_append, List.map_append]
  refine ⟨by rw [List.filterMap_cons_some h]; rfl, by rw [List.filter_cons_of_neg (by rw [h]; simp)]; simp⟩
theorem kept_none {n : Int} {old p : Prf} {l : List Stg} {k : Nat} (hk : k < l.length) (h : keepS n old p l[k] = none) : keptS n old p (l.take (k + 1)) = keptS n old p (l.take k) ∧ keyRs (lostS n old p (l.take (k + 1))) = keyRs (lostS n old p (l.take k)) ++ [⟨l[k].unit, l[k].par⟩] := by
  unfold keptS lostS keyRs
  rw [List.take_succ_eq_append_getElem hk, List.filterMap_append, List.filter_append, List.map_append, List.map_append]
  refine ⟨by rw [List.filterMap_cons_none h]; simp, by rw [List.filter_cons_of_pos (by rw [h]; rfl)]; rfl⟩
theorem keep_other {n : Int} (old p : Prf) {s : Stg} (h : ¬ s.unit = n) : keepS n old p s = some s := by unfold keepS; rw [if_neg h]
theorem keep_gone {n : Int} (old : Prf) {p : Prf} {s : Stg} (h : s.unit = n) (hb : parOf p.pars s.par.data.toList = none) : keepS n old p s = none := by
  unfold keepS carO; rw [if_pos h, hb]; rfl
theorem keep_way {n : Int} {old p : Prf} {s : Stg} {b : Par} (h : s.unit = n) (hb : parOf p.pars s.par.data.toList = some b) {v : Int} (hc : carV (((parOf old.pars s.par.data.toList).map Par.rngs).getD []) b.rngs s.lv = (v, true)) : keepS n old p s = some ⟨s.unit, s.par, v⟩ := by
  unfold keepS carO; rw [if_pos h, hb]; simp only; rw [hc]; rfl
theorem keep_lost {n : Int} {old p : Prf} {s : Stg} {b : Par} (h : s.unit = n) (hb : parOf p.pars s.par.data.toList = some b) {v : Int} (hc : carV (((parOf old.pars s.par.data.toList).map Par.rngs).getD []) b.rngs s.lv = (v, false)) : keepS n old p s = none := by
  unfold keepS carO; rw [if_pos h, hb]; simp only; rw [hc]; rfl
theorem kept_few (n : Int) (old p : Prf) (l : List Stg) (k : Nat) (h : l.length ≤ 16000) : (keptS n old p (l.take k)).length ≤ 10000000 ∧ (keyRs (lostS n old p (l.take k))).length ≤ 10000000 := by
  have := kept_len n old p (l.take k)
  rw [List.length_take] at this
  unfold keyRs
  rw [List.length_map]
  omega
theorem rngs_right {q : Prf} (h : chkPrf q = 0) (nm : List UInt8) : RngsOk (((parOf q.pars nm).map Par.rngs).getD []) := by
  cases hp : parOf q.pars nm with
  | none => intro r hr; exact absurd hr (by simp)
  | some a => exact rngsOk_of (par_chk h (parOf_mem hp)).2.2.2.2.2
end Go.Proofs.Ytabalicembhjmaa

namespace Go.Proofs.Ytabalicembhjmaa
open Go.RowKit
set_option linter.unusedVariables false
set_option linter.unusedSimpArgs false

theorem freeAt_end {us : List (Unt × Int)} {U a s : Int} (h : ∀ x ∈ us, x.1.univ ≠ U) (hs : 1 ≤ s) : freeAt us U a s = decide (a + s - 1 ≤ 512) := by
  unfold freeAt
  rw [Bool.eq_iff_iff, freeN_iff, decide_eq_true_eq]
  constructor
  · intro hk
    exact (hk (a + s - 1) (by omega) (by omega)).1
  · intro hk k h1 h2
    refine ⟨by omega, ?_⟩
    unfold usedB
    rw [List.any_eq_false]
    intro x hx
    simp [h x hx]
theorem used_free {base mb : Nat} {us : List (Unt × Int)} {w : World} (h : UsedS base w mb us) (U a s : Int) (hU : I64 U) (a0 : 0 ≤ a) (a1 : a ≤ 100000) (s0 : 1 ≤ s) (s1 : s ≤ 100000) :
    ∃ pv, (Instr.lookup 90 (.map (some mb)) (.int .i64 U) false).run Try.prog w = .ok pv w ∧
      Calls Try.prog 46 #[pv, .int .i64 a, .int .i64 s] w fun e w' => e = .returned (.bool (freeAt us U a s)) ∧ w = w' := by
  obtain ⟨m, f, hm, hM, hUU, hI⟩ := h
  have hq := hM.look false keyI_ (t := 90) Try.underlying90 (zeroPtr_ _) (keyOfI_ hU)
  rcases hUU U with ⟨hf, hno⟩ | ⟨g, hf, hbg, hgm, hgl, hS⟩
  · rw [hf] at hq
    simp only [Option.getD_none, Bool.false_eq_true, if_false] at hq
    refine ⟨_, hq, ?_⟩
    rw [freeAt_end hno s0]
    exact free_nil a s w a0 a1 (by omega) s1
  · rw [hf] at hq
    simp only [Option.getD_some, Bool.false_eq_true, if_false, ptrV] at hq
    exact ⟨_, hq, free_ptr g _ a s w hS hgl a0 a1 (by omega) s1⟩
end Go.Proofs.Ytabalicembhjmaa
