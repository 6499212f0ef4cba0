/- The way of steps at a place of the cycle: the reference. (printed by wip/gen/gen_reway.py) -/
import Derived.Test.YtopmdeefcjdadaaT28M25

namespace Go.Proofs.Ytopmdeefcjdadaa
open Go.RowKit
set_option linter.unusedVariables false
set_option linter.unusedSimpArgs false

theorem IsR.wide {B D m n m' n' : Nat} {P : Int} {w : World} {v : Value} (h : IsR B w v P D m n) (hm : m ≤ m') (hn : n ≤ n') : IsR B w v P D m' n' := by
  obtain ⟨p, d, q1, q2, q3, q4, q5, q6⟩ := h
  exact ⟨p, d, q1, q2, q3, q4, ten_up q5 hm, ten_up q6 hn⟩
/-- a new fraction that is worth the quotient of two numbers -/
def NewW (R : Int × Int) (m n : Nat) (w : World) (e : Ending) (w' : World) : Prop := ∃ v P D, e = .returned v ∧ IsR w'.heap.size w' v P D m n ∧ P * R.2 = R.1 * (D : Int) ∧ Below w.heap.size w w'
def AlK (w : World) (E : Array Value) (tb : Nat) (T : Int) (d : Nat) (W : World) : Prop := TBox W w.heap.size 24 E ∧ AnyQ W (w.heap.size + 2) ∧ QBox W tb T d 22 15 ∧ w.heap.size + 3 ≤ tb ∧ Below w.heap.size w W
section
variable {w W W' : World} {E : Array Value} {tb g d : Nat} {T : Int}
theorem AlK.below (h : AlK w E tb T d W) (hb : Below W.heap.size W W') : AlK w E tb T d W' := by
  obtain ⟨h1, h2, h3, h4, h5⟩ := h
  exact ⟨h1.below hb, h2.below hb, h3.below hb, h4, h5.trans (hb.mono h5.size)⟩
theorem AlK.stq (h : AlK w E tb T d W) (hs : Stq W g W') (h1 : w.heap.size + 3 ≤ g) (h2 : tb ≠ g) : AlK w E tb T d W' := by
  obtain ⟨k1, k2, k3, k4, k5⟩ := h
  exact ⟨k1.gro hs.1 (by omega), k2.stq hs (by omega), k3.stq hs h2, k4, below_gro k5 hs.1 k5.size (by omega)⟩
theorem AlK.size (h : AlK w E tb T d W) : w.heap.size + 3 ≤ W.heap.size ∧ tb < W.heap.size := by
  obtain ⟨k1, k2, k3, k4, k5⟩ := h
  have := k3.any.lt
  omega
end
theorem along_rat {lv lv2 Z T b1 fade PL : Int} {d : Nat} (hf : 0 < fade) (hPL : PL = lv * ((d * fade.toNat : Nat) : Int) + (lv2 - lv) * Z * ((1 : Nat) : Int)) (hZ : Z = T - d * b1) :
    PL * ((d : Int) * fade * 65535) = (((d : Int) * fade - (T - d * b1)) * lv + (T - d * b1) * lv2) * ((d * fade.toNat * 65535 : Nat) : Int) := by
  obtain ⟨f, rfl⟩ : ∃ f : Nat, fade = (f : Int) := ⟨fade.toNat, by omega⟩
  have e0 : ((f : Int)).toNat = f := Int.toNat_natCast f
  have e1 : ((d * f : Nat) : Int) = (d : Int) * (f : Int) := Int.natCast_mul d f
  have e2 : ((d * f * 65535 : Nat) : Int) = (d : Int) * (f : Int) * 65535 := by rw [Int.natCast_mul, e1]; rfl
  have e3 : ((1 : Nat) : Int) = 1 := rfl
  rw [hPL, ← hZ, e0, e1, e2, e3]
  generalize (d : Int) = D
  generalize (f : Int) = F
  grind
theorem ord_neg {a : Int} : ordI a < 0 ↔ a < 0 := by
  unfold ordI
  by_cases c : a = 0
  · rw [if_pos c]; omega
  · rw [if_neg c]; split <;> omega
set_option maxRecDepth 100000 in
set_option maxHeartbeats 16000000 in
theorem along_any (form low high cycle width spread c pn : Int) (back rel : Bool) (ao : Option Addr) (cap : Nat) (l : List Stp) (v : Value) (d : Nat) (w : World) (hs : StepsAt w.heap.size w ao l) (hl : l.length ≤ 50) (hall : l.all stpB = true) (hc : 0 ≤ cycle ∧ cycle ≤ 3600000) (h6 : form ≠ 7 → l.length = 0) (h7 : form = 7 → cycle = 0) (hcc : cycle + sumS l = c) (c0 : 1 ≤ c) (c1 : c ≤ 3600000) (hd : d ≤ 10 ^ 15) (hd0 : 0 < d)
    (hv : IsR w.heap.size w v pn d 15 15) :
    Calls Try.prog 88 #[.agg #[.int .i64 form, .int .i64 low, .int .i64 high, .int .i64 cycle, .int .i64 width, .int .i64 spread, .bool back, .bool rel, .slice ao l.length cap], v] w (NewW (stW l (pn * c) d l.length 0 0) 40 40 w) := by
  have CC := Lib.hid (fun (W : World) (hb : Below w.heap.size w W) => rcycle_all form low high cycle width spread c back rel ao cap l W (stepsAt_up hs hb) hl hall hc h6 h7 hcc)
  have HS := Lib.hid hs
  have HA := Lib.hid (fun k (h : k < l.length) => stpB_le (List.all_eq_true.1 hall _ (List.getElem_mem h)))
  obtain ⟨s0, ao0, L0, cp0, bo0, M0, cq0, rfl⟩ := isR_shape hv
  have HX := Lib.hid hv
  have hd9 : (d : Int) ≤ 1000000000000000 := by
    have : d ≤ 1000000000000000 := hd
    omega
  have hc7 : c.natAbs ≤ 10 ^ 7 := by
    have : c.natAbs ≤ 10000000 := by omega
    exact this
  clear hs hall hv hcc hc h6 h7
  generalize hT : pn * c = T at *
  have HT := Lib.hid hT
  clear hT
  generalize hRES : stW l T d l.length 0 0 = RES
  have HRES := Lib.hid hRES.symm
  clear hRES
  have HE := Lib.hid (show TBox (((w.alloc (.cells #[.int .i64 form, .int .i64 low, .int .i64 high, .int .i64 cycle, .int .i64 width, .int .i64 spread, .bool back, .bool rel, .slice ao l.length cap] 24)).alloc (.cells #[.bool s0, .slice ao0 L0 cp0, .slice bo0 M0 cq0] 87)).alloc (.cells #[.bool false, .slice none 0 0, .slice none 0 0] 87)) w.heap.size 24 #[.int .i64 form, .int .i64 low, .int .i64 high, .int .i64 cycle, .int .i64 width, .int .i64 spread, .bool back, .bool rel, .slice ao l.length cap] from ((TBox.new w _ _).alloc _).alloc _)
  have HXB := Lib.hid (show QBox (((w.alloc (.cells #[.int .i64 form, .int .i64 low, .int .i64 high, .int .i64 cycle, .int .i64 width, .int .i64 spread, .bool back, .bool rel, .slice ao l.length cap] 24)).alloc (.cells #[.bool s0, .slice ao0 L0 cp0, .slice bo0 M0 cq0] 87)).alloc (.cells #[.bool false, .slice none 0 0, .slice none 0 0] 87)) (w.heap.size + 1) pn d 15 15 from by
    have h := (TBox.new (w.alloc (.cells #[.int .i64 form, .int .i64 low, .int .i64 high, .int .i64 cycle, .int .i64 width, .int .i64 spread, .bool back, .bool rel, .slice ao l.length cap] 24)) #[.bool s0, .slice ao0 L0 cp0, .slice bo0 M0 cq0] 87).alloc (.cells #[.bool false, .slice none 0 0, .slice none 0 0] 87)
    simp only [World.size_alloc] at h
    exact ⟨_, _, _, _, _, _, _, h, HX.out.up ((((Below.refl _ _).alloc (Nat.le_refl _) _).alloc (by simp) _).alloc (by simp; omega) _)⟩)
  have HR := Lib.hid (show AnyQ (((w.alloc (.cells #[.int .i64 form, .int .i64 low, .int .i64 high, .int .i64 cycle, .int .i64 width, .int .i64 spread, .bool back, .bool rel, .slice ao l.length cap] 24)).alloc (.cells #[.bool s0, .slice ao0 L0 cp0, .slice bo0 M0 cq0] 87)).alloc (.cells #[.bool false, .slice none 0 0, .slice none 0 0] 87)) (w.heap.size + 2) from by
    have h := TBox.new ((w.alloc (.cells #[.int .i64 form, .int .i64 low, .int .i64 high, .int .i64 cycle, .int .i64 width, .int .i64 spread, .bool back, .bool rel, .slice ao l.length cap] 24)).alloc (.cells #[.bool s0, .slice ao0 L0 cp0, .slice bo0 M0 cq0] 87)) #[.bool false, .slice none 0 0, .slice none 0 0] 87
    simp only [World.size_alloc] at h
    exact ⟨_, _, _, _, _, _, _, h⟩)
  have HB := Lib.hid (show Below w.heap.size w (((w.alloc (.cells #[.int .i64 form, .int .i64 low, .int .i64 high, .int .i64 cycle, .int .i64 width, .int .i64 spread, .bool back, .bool rel, .slice ao l.length cap] 24)).alloc (.cells #[.bool s0, .slice ao0 L0 cp0, .slice bo0 M0 cq0] 87)).alloc (.cells #[.bool false, .slice none 0 0, .slice none 0 0] 87)) from (((Below.refl _ _).alloc (Nat.le_refl _) _).alloc (by simp) _).alloc (by simp; omega) _)
  have hz1 : w.heap.size + 3 = ((((w.alloc (.cells #[.int .i64 form, .int .i64 low, .int .i64 high, .int .i64 cycle, .int .i64 width, .int .i64 spread, .bool back, .bool rel, .slice ao l.length cap] 24)).alloc (.cells #[.bool s0, .slice ao0 L0 cp0, .slice bo0 M0 cq0] 87)).alloc (.cells #[.bool false, .slice none 0 0, .slice none 0 0] 87))).heap.size := by simp
  clear HX
  go_enter Try.func88, Try.ntmps88
  go_upto_region 1 with fail
  generalize (((w.alloc (.cells #[.int .i64 form, .int .i64 low, .int .i64 high, .int .i64 cycle, .int .i64 width, .int .i64 spread, .bool back, .bool rel, .slice ao l.length cap] 24)).alloc (.cells #[.bool s0, .slice ao0 L0 cp0, .slice bo0 M0 cq0] 87)).alloc (.cells #[.bool false, .slice none 0 0, .slice none 0 0] 87)) = w1 at *
  have hz1 : w.heap.size ≤ w1.heap.size := by omega
  refine region_heads (by kernel_rfl) 6 (by simp) (by kernel_rfl) (by kernel_rfl) (by kernel_rfl) (by kernel_rfl) (fun jx vx wx => match jx with | 0 => IsR wx.heap.size wx vx (pn) (d) 15 15 | 1 => vx = (.agg #[.int .i64 form, .int .i64 low, .int .i64 high, .int .i64 cycle, .int .i64 width, .int .i64 spread, .bool back, .bool rel, .slice ao l.length cap]) | 2 => vx = (.int .i64 c) | 3 => IsR wx.heap.size wx vx (c) (1) 7 0 | 4 => IsR wx.heap.size wx vx (T) (d) 22 15 | 5 => Box1 w1.heap.size 87 #[.bool false, .slice none 0 0, .slice none 0 0] vx wx | _ => True) (fun W => Below w1.heap.size w1 W) (fun wx wy => Below wx.heap.size wx wy) (Below.refl _ _).drew ?_ ?_ ?_ ?_
  · intro jx vx wx wy h g
    match jx, h with
    | 0, h => exact IsR.up h g
    | 1, h => exact h
    | 2, h => exact h
    | 3, h => exact IsR.up h g
    | 4, h => exact IsR.up h g
    | 5, h => exact Box1.up h g
    | jx + 6, h => exact trivial
  · intro jx ox dx hj ho hd
    exact insN_of (by kernel_rfl) hj ho hd
  · intro ix ox ax W hi hio hsh hW hpre
    have hsz : w1.heap.size ≤ W.heap.size := hW.size
    have GA : ∀ ob, Below W.heap.size W (W.alloc ob) := fun ob => (Below.refl _ _).alloc (Nat.le_refl _) ob
    have WA : ∀ ob, Below w1.heap.size w1 (W.alloc ob) := fun ob => hW.alloc hsz ob
    have t2 : ax.tmps[2]?.getD undef = (.pointer (some ⟨w.heap.size, 0, none⟩)) := (Array.getD_eq_getD_getElem? ..).symm.trans ((hsh.2.2 2 (notN_of (by kernel_rfl))).trans rfl)
    have t3 : ax.tmps[3]?.getD undef = (.pointer (some ⟨w.heap.size + 1, 0, none⟩)) := (Array.getD_eq_getD_getElem? ..).symm.trans ((hsh.2.2 3 (notN_of (by kernel_rfl))).trans rfl)
    obtain ⟨s_x, a_x, L_x, c_x, b_x, M_x, d_x, tb_x, hr_x⟩ := (HXB.out.below hW)
    have xx0 := tb_x.cell (i := 0) rfl
    have xx1 := tb_x.cell (i := 1) rfl
    have xx2 := tb_x.cell (i := 2) rfl
    have e0 := (HE.out.below hW).cell (i := 0) rfl
    have e1 := (HE.out.below hW).cell (i := 1) rfl
    have e2 := (HE.out.below hW).cell (i := 2) rfl
    have e3 := (HE.out.below hW).cell (i := 3) rfl
    have e4 := (HE.out.below hW).cell (i := 4) rfl
    have e5 := (HE.out.below hW).cell (i := 5) rfl
    have e6 := (HE.out.below hW).cell (i := 6) rfl
    have e7 := (HE.out.below hW).cell (i := 7) rfl
    have e8 := (HE.out.below hW).cell (i := 8) rfl
    clear hsh
    match ix, hi, hio with
    | 0, _, hio =>
      cases hio
      exact hwp_val (v := .agg #[.bool s_x, .slice a_x L_x c_x, .slice b_x M_x d_x]) (w' := W) (by simp [execOp, Act.eval, t3, xx0, xx1, xx2, go_sem]) ⟨_, rfl, hr_x, hW, Below.refl _ _⟩
    | 1, _, hio =>
      cases hio
      exact hwp_val (v := .agg #[.int .i64 form, .int .i64 low, .int .i64 high, .int .i64 cycle, .int .i64 width, .int .i64 spread, .bool back, .bool rel, .slice ao l.length cap]) (w' := W) (by simp [execOp, Act.eval, t2, e0, e1, e2, e3, e4, e5, e6, e7, e8, go_sem]) ⟨_, rfl, rfl, hW, Below.refl _ _⟩
    | 2, _, hio =>
      cases hio
      have p1 := hpre ⟨1, .data⟩ (by simp) (by rfl) _ _ rfl rfl
      have f1 : ax.tmps[14]?.getD undef = (.agg #[.int .i64 form, .int .i64 low, .int .i64 high, .int .i64 cycle, .int .i64 width, .int .i64 spread, .bool back, .bool rel, .slice ao l.length cap]) := (Array.getD_eq_getD_getElem? ..).symm.trans p1
      refine hwp_enter (f := 79) (args := #[.agg #[.int .i64 form, .int .i64 low, .int .i64 high, .int .i64 cycle, .int .i64 width, .int .i64 spread, .bool back, .bool rel, .slice ao l.length cap]]) (by simp [execOp, Act.eval, f1, go_sem]) ?_
      refine (CC.out W (HB.out.trans (hW.mono hz1))).mono ?_
      rintro ex wy ⟨rfl, hb⟩
      exact ⟨_, rfl, _, rfl, rfl, hW.trans (hb.mono hsz), hb⟩
    | 3, _, hio =>
      cases hio
      have p2 := hpre ⟨2, .data⟩ (by simp) (by rfl) _ _ rfl rfl
      have f2 : ax.tmps[15]?.getD undef = (.int .i64 c) := (Array.getD_eq_getD_getElem? ..).symm.trans p2
      refine hwp_enter (f := 53) (args := #[.int .i64 (c)]) (by simp [execOp, Act.eval, f2, go_sem]) ?_
      refine (wholeS (c) 7 W (by omega) (by omega) hc7).mono ?_
      rintro ex wy ⟨vn, rfl, hq, hb⟩
      exact ⟨vn, rfl, _, rfl, hq, hW.trans (hb.mono hsz), hb⟩
    | 4, _, hio =>
      cases hio
      have p0 := hpre ⟨0, .data⟩ (by simp) (by rfl) _ _ rfl rfl
      obtain ⟨v0, hv0⟩ : ∃ v, ax.tmps.getD 13 undef = v := ⟨_, rfl⟩
      have r0 : IsR W.heap.size W (ax.tmps.getD 13 undef) (pn) (d) 15 15 := p0
      rw [hv0] at r0
      have f0 : ax.tmps[13]?.getD undef = v0 := (Array.getD_eq_getD_getElem? ..).symm.trans hv0
      clear p0 hv0
      have p3 := hpre ⟨3, .data⟩ (by simp) (by rfl) _ _ rfl rfl
      obtain ⟨v3, hv3⟩ : ∃ v, ax.tmps.getD 16 undef = v := ⟨_, rfl⟩
      have r3 : IsR W.heap.size W (ax.tmps.getD 16 undef) (c) (1) 7 0 := p3
      rw [hv3] at r3
      have f3 : ax.tmps[16]?.getD undef = v3 := (Array.getD_eq_getD_getElem? ..).symm.trans hv3
      clear p3 hv3
      refine hwp_enter (f := 52) (args := #[v0, v3]) (by simp [execOp, Act.eval, f0, f3, go_sem]) ?_
      refine ((timesS W.heap.size _ _ 15 15 7 0 _ _ _ _ W (Nat.le_refl _) (by omega) (by omega) r0 r3).mono (fun _ _ h => newS_cast h HT.out (Nat.mul_one _))).mono ?_
      rintro ex wy ⟨vn, rfl, hq, hb⟩
      exact ⟨vn, rfl, _, rfl, hq, hW.trans (hb.mono hsz), hb⟩
    | 5, _, hio =>
      cases hio
      exact hwp_val (v := .pointer (some ⟨W.heap.size, 0, none⟩)) (w' := W.alloc (.cells #[.bool false, .slice none 0 0, .slice none 0 0] 87)) (by simp [execOp, Act.eval, zeroFrac_, go_sem]) ⟨_, rfl, Box1.new _ _ hsz, WA _, GA _⟩
    | ix + 6, hi, _ => exact absurd hi (by omega)
  · intro ax w2 hsh hW hφ
    have q0 : IsR w2.heap.size w2 (ax.tmps.getD 13 undef) (pn) (d) 15 15 := hφ 0 _ _ (by omega) rfl rfl
    obtain ⟨v0, e0⟩ : ∃ v, ax.tmps.getD 13 undef = v := ⟨_, rfl⟩
    rw [e0] at q0
    have Q0 := Lib.hid q0
    clear q0
    have e1 : ax.tmps.getD 14 undef = (.agg #[.int .i64 form, .int .i64 low, .int .i64 high, .int .i64 cycle, .int .i64 width, .int .i64 spread, .bool back, .bool rel, .slice ao l.length cap]) := hφ 1 _ _ (by omega) rfl rfl
    have e2 : ax.tmps.getD 15 undef = (.int .i64 c) := hφ 2 _ _ (by omega) rfl rfl
    have q3 : IsR w2.heap.size w2 (ax.tmps.getD 16 undef) (c) (1) 7 0 := hφ 3 _ _ (by omega) rfl rfl
    obtain ⟨v3, e3⟩ : ∃ v, ax.tmps.getD 16 undef = v := ⟨_, rfl⟩
    rw [e3] at q3
    have Q3 := Lib.hid q3
    clear q3
    have q4 : IsR w2.heap.size w2 (ax.tmps.getD 17 undef) (T) (d) 22 15 := hφ 4 _ _ (by omega) rfl rfl
    obtain ⟨v4, e4⟩ : ∃ v, ax.tmps.getD 17 undef = v := ⟨_, rfl⟩
    rw [e4] at q4
    have Q4 := Lib.hid q4
    clear q4
    obtain ⟨b5, e5, hb5, hl5⟩ := hφ 5 _ _ (by omega) rfl rfl
    rw [shape_puts hsh [(13, v0), (14, .agg #[.int .i64 form, .int .i64 low, .int .i64 high, .int .i64 cycle, .int .i64 width, .int .i64 spread, .bool back, .bool rel, .slice ao l.length cap]), (15, .int .i64 c), (16, v3), (17, v4), (5, .pointer (some ⟨b5, 0, none⟩))] [13, 14, 15, 16, 17, 5] rfl (by kernel_rfl) ⟨e0, e1, e2, e3, e4, e5, trivial⟩]
    clear hφ hsh e0 e1 e2 e3 e4 e5
    simp only [putsN, List.foldl_cons, List.foldl_nil, List.drop_succ_cons, List.drop_zero, Act.put, List.setIfInBounds_toArray, List.set_cons_succ, List.set_cons_zero]
    have hzw := hW.size
    refine wpList_storeQ w2 rfl _ _ rfl b5 rfl rfl Q4.out ⟨_, _, _, _, _, _, _, hl5⟩ ?_
    intro w3 QY SY
    simp only [Act.put]
    have HK3 := Lib.hid (show AlK w #[.int .i64 form, .int .i64 low, .int .i64 high, .int .i64 cycle, .int .i64 width, .int .i64 spread, .bool back, .bool rel, .slice ao l.length cap] b5 T d w3 from ⟨(HE.out.below hW).gro SY.1 (by omega), (HR.out.below hW).stq SY (by omega), QY, by omega, below_gro (HB.out.trans (hW.mono hz1)) SY.1 (by omega) (by omega)⟩)
    obtain ⟨tb, htb⟩ : ∃ tb, tb = b5 := ⟨_, rfl⟩
    rw [← htb] at HK3 ⊢
    clear htb hW QY SY hl5 HE HXB HR HB Q0 Q3 Q4 CC hz1
    obtain ⟨qz0, qz1⟩ := HK3.out.size
    have e8 := HK3.out.1.cell (i := 8) rfl
    have hlt0 : w.heap.size < w3.heap.size := by omega
    go_wp2_with fail
    go_loopw [21, 6] (fun ix bx wx => ∃ (j : Nat) (bg : Int), j ≤ l.length ∧ ix = .int .i64 j ∧ bx = .int .i64 bg ∧ 0 ≤ bg ∧ bg ≤ 7200000 * j ∧ Hid (RES = stW l T d (l.length - j) j bg) ∧ Hid (AlK w #[.int .i64 form, .int .i64 low, .int .i64 high, .int .i64 cycle, .int .i64 width, .int .i64 spread, .bool back, .bool rel, .slice ao l.length cap] tb T d wx)) (fun ix _ _ => l.length - (intOf ix).toNat)
    case atStart => exact ⟨0, 0, Nat.zero_le _, rfl, rfl, by omega, by omega, Lib.hid (by rw [Nat.sub_zero]; exact HRES.out), HK3⟩
    case round =>
      clear HK3 qz0 qz1 e8 hlt0
      obtain ⟨j, bg, hj, rfl, rfl, g0, g1, HR, HK⟩ := hrel
      have hzw := HK.out.size
      by_cases hlt : j < l.length
      · obtain ⟨sp, off, hlo, hsb, hcs⟩ := HS.out (by intro h; subst h; simp at hlt)
        subst hlo
        have hnj0 : (j + 1) % l.length < l.length := Nat.mod_lt _ (by omega)
        obtain ⟨e0, e1, e2⟩ := hcs j hlt
        have HYC := Lib.hid (hcs _ hnj0)
        have d0 := (HK.out.2.2.2.2.cell (p := ⟨sp, off + j * 3, none⟩) hsb).trans e0
        have d1 := (HK.out.2.2.2.2.cell (p := ⟨sp, off + j * 3 + 1, none⟩) hsb).trans e1
        have d2 := (HK.out.2.2.2.2.cell (p := ⟨sp, off + j * 3 + 2, none⟩) hsb).trans e2
        have hsr : sp < wr.heap.size := Nat.lt_of_lt_of_le hsb HK.out.2.2.2.2.size
        obtain ⟨⟨hlv0, hlv1⟩, ⟨hh0, hh1⟩, hf0, hf1⟩ := HA.out j hlt
        obtain ⟨⟨hlw0, hlw1⟩, _, _, _⟩ := HA.out _ hnj0
        have hr1 : RES = stW l T d (l.length - (j + 1) + 1) j bg := by rw [show l.length - (j + 1) + 1 = l.length - j by omega]; exact HR.out
        have HF1 := Lib.hid (fun h => hr1.trans (stW_first (L := l) (p := T) (d := d) (c := l.length - (j + 1)) (j := j) (b := bg) h))
        have HF2 := Lib.hid (fun h h2 => hr1.trans (stW_mid (L := l) (p := T) (d := d) (c := l.length - (j + 1)) (j := j) (b := bg) h h2))
        have HF3 := Lib.hid (fun h h2 => hr1.trans (stW_next (L := l) (p := T) (d := d) (c := l.length - (j + 1)) (j := j) (b := bg) h h2))
        rw [stAt_get hlt] at HF1 HF2 HF3
        rw [stAt_get hnj0] at HF2
        generalize hnj : (j + 1) % l.length = nj at *
        have HNJ := Lib.hid hnj
        clear hnj hcs e0 e1 e2 hr1 HR
        generalize hx9 : l[j] = x9 at *
        clear hx9
        generalize hy9 : l[nj] = y9 at *
        clear hy9
        obtain ⟨lv, hold, fade⟩ := x9
        obtain ⟨lv2, hold2, fade2⟩ := y9
        simp only at *
        have hj50 : j ≤ 50 := by omega
        have awx : wrap64 (bg + hold) = bg + hold := IntWalk.wrap64_in _ (by omega)
        have awy : wrap64 (bg + hold + fade) = bg + hold + fade := IntWalk.wrap64_in _ (by omega)
        have hb0 : 0 ≤ bg + hold := by omega
        have hb4 : bg + hold ≤ 400000000 := by omega
        have hbf4 : bg + hold + fade ≤ 400000000 := by omega
        have hg7 : bg + hold + fade ≤ 7200000 * ((j : Int) + 1) := by omega
        have HSB := Lib.hid (TBox.new wr #[.int .i64 lv, .int .i64 hold, .int .i64 fade] 108)
        have HKB := Lib.hid (HK.out.below ((Below.refl wr.heap.size wr).alloc (Nat.le_refl _) (.cells #[.int .i64 lv, .int .i64 hold, .int .i64 fade] 108)))
        clear HK
        go_upto_region 7 with fail
        clear d0 d1 d2
        generalize hwB : wr.alloc (.cells #[.int .i64 lv, .int .i64 hold, .int .i64 fade] 108) = wB at *
        clear hwB
        obtain ⟨sb, hsbe⟩ : ∃ sb, sb = wr.heap.size := ⟨_, rfl⟩
        rw [← hsbe] at HSB ⊢
        have hsb4 : w.heap.size + 3 ≤ sb ∧ tb < sb ∧ sb < wB.heap.size := ⟨by omega, by omega, HSB.out.lt⟩
        clear hsbe awx awy
        obtain ⟨b1, hb1⟩ : ∃ b1, b1 = bg + hold := ⟨_, rfl⟩
        have aw1 : IntKind.i64.wrap (bg + hold) = b1 := by rw [hb1]; exact IntWalk.i64_in _ (by omega)
        rw [← hb1] at HF1 HF2 HF3 hb0 hb4 hbf4 hg7 ⊢
        clear hb1
        have h10 : (b1 + fade).natAbs ≤ 10 ^ 10 := by
          have : (b1 + fade).natAbs ≤ 10000000000 := by omega
          exact this
        have h10b : b1.natAbs ≤ 10 ^ 10 := by
          have : b1.natAbs ≤ 10000000000 := by omega
          exact this
        obtain ⟨O, hO⟩ : ∃ O, O = ordI (T * ((1 : Nat) : Int) - (b1 + fade) * (d : Int)) := ⟨_, rfl⟩
        have HO := Lib.hid hO.symm
        have hON : O < 0 ↔ T < d * (b1 + fade) := by
          rw [hO, ord_neg, Int.mul_comm (d : Int)]
          omega
        clear hO
        obtain ⟨ob, hob⟩ : ∃ ob, decide (O < 0) = ob := ⟨_, rfl⟩
        refine region_heads (by kernel_rfl) 5 (by simp) (by kernel_rfl) (by kernel_rfl) (by kernel_rfl) (by kernel_rfl) (fun jx vx wx => match jx with | 0 => IsR wx.heap.size wx vx (T) (d) 22 15 | 1 => vx = (.int .i64 (b1 + fade)) | 2 => IsR wx.heap.size wx vx (b1 + fade) (1) 10 0 | 3 => vx = (.int .i64 O) | 4 => vx = (.bool ob) | _ => True) (fun W => Below wB.heap.size wB W) (fun wx wy => Below wx.heap.size wx wy) (Below.refl _ _).drew ?_ ?_ ?_ ?_
        · intro jx vx wx wy h g
          match jx, h with
          | 0, h => exact IsR.up h g
          | 1, h => exact h
          | 2, h => exact IsR.up h g
          | 3, h => exact h
          | 4, h => exact h
          | jx + 5, h => exact trivial
        · intro jx ox dx hj ho hd
          exact insN_of (by kernel_rfl) hj ho hd
        · intro ix ox ax W hi hio hsh hW hpre
          have hsz : wB.heap.size ≤ W.heap.size := hW.size
          have GA : ∀ ob, Below W.heap.size W (W.alloc ob) := fun ob => (Below.refl _ _).alloc (Nat.le_refl _) ob
          have WA : ∀ ob, Below wB.heap.size wB (W.alloc ob) := fun ob => hW.alloc hsz ob
          have t5 : ax.tmps[5]?.getD undef = (.pointer (some ⟨tb, 0, none⟩)) := (Array.getD_eq_getD_getElem? ..).symm.trans ((hsh.2.2 5 (notN_of (by kernel_rfl))).trans rfl)
          have t9 : ax.tmps[9]?.getD undef = (.int .i64 (b1 + fade)) := (Array.getD_eq_getD_getElem? ..).symm.trans ((hsh.2.2 9 (notN_of (by kernel_rfl))).trans rfl)
          obtain ⟨s_t, a_t, L_t, c_t, b_t, M_t, d_t, tb_t, hr_t⟩ := (HKB.out.below hW).2.2.1
          have xt0 := tb_t.cell (i := 0) rfl
          have xt1 := tb_t.cell (i := 1) rfl
          have xt2 := tb_t.cell (i := 2) rfl
          clear hsh
          match ix, hi, hio with
          | 0, _, hio =>
            cases hio
            exact hwp_val (v := .agg #[.bool s_t, .slice a_t L_t c_t, .slice b_t M_t d_t]) (w' := W) (by simp [execOp, Act.eval, t5, xt0, xt1, xt2, go_sem]) ⟨_, rfl, hr_t, hW, Below.refl _ _⟩
          | 1, _, hio =>
            cases hio
            exact hwp_val (v := .int .i64 (b1 + fade)) (w' := W) (by simp [execOp, Act.eval, t9, go_sem]) ⟨_, rfl, rfl, hW, Below.refl _ _⟩
          | 2, _, hio =>
            cases hio
            have p1 := hpre ⟨1, .data⟩ (by simp) (by rfl) _ _ rfl rfl
            have f1 : ax.tmps[34]?.getD undef = (.int .i64 (b1 + fade)) := (Array.getD_eq_getD_getElem? ..).symm.trans p1
            refine hwp_enter (f := 53) (args := #[.int .i64 (b1 + fade)]) (by simp [execOp, Act.eval, f1, go_sem]) ?_
            refine (wholeS (b1 + fade) 10 W (by omega) (by omega) h10).mono ?_
            rintro ex wy ⟨vn, rfl, hq, hb⟩
            exact ⟨vn, rfl, _, rfl, hq, hW.trans (hb.mono hsz), hb⟩
          | 3, _, hio =>
            cases hio
            have p0 := hpre ⟨0, .data⟩ (by simp) (by rfl) _ _ rfl rfl
            obtain ⟨v0, hv0⟩ : ∃ v, ax.tmps.getD 33 undef = v := ⟨_, rfl⟩
            have r0 : IsR W.heap.size W (ax.tmps.getD 33 undef) (T) (d) 22 15 := p0
            rw [hv0] at r0
            have f0 : ax.tmps[33]?.getD undef = v0 := (Array.getD_eq_getD_getElem? ..).symm.trans hv0
            clear p0 hv0
            have p2 := hpre ⟨2, .data⟩ (by simp) (by rfl) _ _ rfl rfl
            obtain ⟨v2, hv2⟩ : ∃ v, ax.tmps.getD 35 undef = v := ⟨_, rfl⟩
            have r2 : IsR W.heap.size W (ax.tmps.getD 35 undef) (b1 + fade) (1) 10 0 := p2
            rw [hv2] at r2
            have f2 : ax.tmps[35]?.getD undef = v2 := (Array.getD_eq_getD_getElem? ..).symm.trans hv2
            clear p2 hv2
            refine hwp_enter (f := 86) (args := #[v0, v2]) (by simp [execOp, Act.eval, f0, f2, go_sem]) ?_
            refine ((orderS W.heap.size _ _ 22 15 10 0 26 _ _ _ _ W (Nat.le_refl _) (by omega) (by omega) (by omega) (by omega) r0 r2).mono (fun _ _ h => by rw [HO.out] at h; exact h)).mono ?_
            rintro ex wy ⟨rfl, hb⟩
            exact ⟨_, rfl, _, rfl, rfl, hW.trans (hb.mono hsz), hb⟩
          | 4, _, hio =>
            cases hio
            have p3 := hpre ⟨3, .data⟩ (by simp) (by rfl) _ _ rfl rfl
            have f3 : ax.tmps[36]?.getD undef = (.int .i64 O) := (Array.getD_eq_getD_getElem? ..).symm.trans p3
            exact hwp_val (v := .bool ob) (w' := W) (by simp [execOp, Act.eval, hob, f3, go_sem]) ⟨_, rfl, rfl, hW, Below.refl _ _⟩
          | ix + 5, hi, _ => exact absurd hi (by omega)
        · intro ax wC hsh hW hφ
          have q0 : IsR wC.heap.size wC (ax.tmps.getD 33 undef) (T) (d) 22 15 := hφ 0 _ _ (by omega) rfl rfl
          obtain ⟨v0, e0⟩ : ∃ v, ax.tmps.getD 33 undef = v := ⟨_, rfl⟩
          rw [e0] at q0
          have Q0 := Lib.hid q0
          clear q0
          have e1 : ax.tmps.getD 34 undef = (.int .i64 (b1 + fade)) := hφ 1 _ _ (by omega) rfl rfl
          have q2 : IsR wC.heap.size wC (ax.tmps.getD 35 undef) (b1 + fade) (1) 10 0 := hφ 2 _ _ (by omega) rfl rfl
          obtain ⟨v2, e2⟩ : ∃ v, ax.tmps.getD 35 undef = v := ⟨_, rfl⟩
          rw [e2] at q2
          have Q2 := Lib.hid q2
          clear q2
          have e3 : ax.tmps.getD 36 undef = (.int .i64 O) := hφ 3 _ _ (by omega) rfl rfl
          have e4 : ax.tmps.getD 37 undef = (.bool ob) := hφ 4 _ _ (by omega) rfl rfl
          rw [shape_puts hsh [(33, v0), (34, .int .i64 (b1 + fade)), (35, v2), (36, .int .i64 O), (37, .bool ob)] [33, 34, 35, 36, 37] rfl (by kernel_rfl) ⟨e0, e1, e2, e3, e4, trivial⟩]
          clear hφ hsh e0 e1 e2 e3 e4
          simp only [putsN, List.foldl_cons, List.foldl_nil, List.drop_succ_cons, List.drop_zero, Act.put, List.setIfInBounds_toArray, List.set_cons_succ, List.set_cons_zero]
          have HKC := Lib.hid (HKB.out.below hW)
          have HSC := Lib.hid (HSB.out.below hW)
          have hzC := hW.size
          clear hW HKB HSB Q0 Q2 HO
          by_cases hp2' : T < d * (b1 + fade)
          rotate_left
          · obtain rfl : ob = false := by
              rw [← hob]
              exact decide_eq_false (fun h => hp2' (hON.1 h))
            clear hob
            have hp1' : ¬ T < d * b1 := fun h => hp2' (Int.lt_of_lt_of_le h (Int.mul_le_mul_of_nonneg_left (by omega) (by omega)))
            have HRN := Lib.hid (HF3.out (by omega) (by omega))
            clear HF1 HF2 HF3 hON hp1' hp2'
            have hsl := HSC.out.lt
            go_wp2_with fail
            go_roundw
            case rel => exact ⟨j + 1, b1 + fade, by omega, by first | rfl | go_num, rfl, by omega, by omega, HRN, HKC⟩
            case measure => simp [intOf]; omega
          · obtain rfl : ob = true := by
              rw [← hob]
              exact decide_eq_true (hON.2 hp2')
            clear hob
            obtain ⟨Z, hZ⟩ : ∃ Z, Z = T * ((1 : Nat) : Int) - b1 * (d : Int) := ⟨_, rfl⟩
            have HZ := Lib.hid hZ.symm
            have hZ2 : Z = T - d * b1 := by rw [hZ, Int.mul_comm (d : Int)]; omega
            clear hON hZ
            go_upto_region 8 with fail
            refine region_heads (by kernel_rfl) 8 (by simp) (by kernel_rfl) (by kernel_rfl) (by kernel_rfl) (by kernel_rfl) (fun jx vx wx => match jx with | 0 => IsR wx.heap.size wx vx (T) (d) 22 15 | 1 => vx = (.int .i64 bg) | 2 => vx = (.pointer (some ⟨sb, 1, none⟩)) | 3 => vx = (.int .i64 hold) | 4 => vx = (.int .i64 b1) | 5 => IsR wx.heap.size wx vx (b1) (1) 10 0 | 6 => IsR wx.heap.size wx vx (Z) (d) 26 15 | 7 => Box1 wC.heap.size 87 #[.bool false, .slice none 0 0, .slice none 0 0] vx wx | _ => True) (fun W => Below wC.heap.size wC W) (fun wx wy => Below wx.heap.size wx wy) (Below.refl _ _).drew ?_ ?_ ?_ ?_
            · intro jx vx wx wy h g
              match jx, h with
              | 0, h => exact IsR.up h g
              | 1, h => exact h
              | 2, h => exact h
              | 3, h => exact h
              | 4, h => exact h
              | 5, h => exact IsR.up h g
              | 6, h => exact IsR.up h g
              | 7, h => exact Box1.up h g
              | jx + 8, h => exact trivial
            · intro jx ox dx hj ho hd
              exact insN_of (by kernel_rfl) hj ho hd
            · intro ix ox ax W hi hio hsh hW hpre
              have hsz : wC.heap.size ≤ W.heap.size := hW.size
              have GA : ∀ ob, Below W.heap.size W (W.alloc ob) := fun ob => (Below.refl _ _).alloc (Nat.le_refl _) ob
              have WA : ∀ ob, Below wC.heap.size wC (W.alloc ob) := fun ob => hW.alloc hsz ob
              have t5 : ax.tmps[5]?.getD undef = (.pointer (some ⟨tb, 0, none⟩)) := (Array.getD_eq_getD_getElem? ..).symm.trans ((hsh.2.2 5 (notN_of (by kernel_rfl))).trans rfl)
              have t6 : ax.tmps[6]?.getD undef = (.int .i64 bg) := (Array.getD_eq_getD_getElem? ..).symm.trans ((hsh.2.2 6 (notN_of (by kernel_rfl))).trans rfl)
              have t8 : ax.tmps[8]?.getD undef = (.pointer (some ⟨sb, 0, none⟩)) := (Array.getD_eq_getD_getElem? ..).symm.trans ((hsh.2.2 8 (notN_of (by kernel_rfl))).trans rfl)
              obtain ⟨s_t, a_t, L_t, c_t, b_t, M_t, d_t, tb_t, hr_t⟩ := (HKC.out.below hW).2.2.1
              have xt0 := tb_t.cell (i := 0) rfl
              have xt1 := tb_t.cell (i := 1) rfl
              have xt2 := tb_t.cell (i := 2) rfl
              have s0 := (HSC.out.below hW).cell (i := 0) rfl
              have s1 := (HSC.out.below hW).cell (i := 1) rfl
              have s2 := (HSC.out.below hW).cell (i := 2) rfl
              clear hsh
              match ix, hi, hio with
              | 0, _, hio =>
                cases hio
                exact hwp_val (v := .agg #[.bool s_t, .slice a_t L_t c_t, .slice b_t M_t d_t]) (w' := W) (by simp [execOp, Act.eval, t5, xt0, xt1, xt2, go_sem]) ⟨_, rfl, hr_t, hW, Below.refl _ _⟩
              | 1, _, hio =>
                cases hio
                exact hwp_val (v := .int .i64 bg) (w' := W) (by simp [execOp, Act.eval, t6, go_sem]) ⟨_, rfl, rfl, hW, Below.refl _ _⟩
              | 2, _, hio =>
                cases hio
                exact hwp_val (v := .pointer (some ⟨sb, 1, none⟩)) (w' := W) (by simp [execOp, Act.eval, t8, go_sem]) ⟨_, rfl, rfl, hW, Below.refl _ _⟩
              | 3, _, hio =>
                cases hio
                have p2 := hpre ⟨2, .data⟩ (by simp) (by rfl) _ _ rfl rfl
                have f2 : ax.tmps[40]?.getD undef = (.pointer (some ⟨sb, 1, none⟩)) := (Array.getD_eq_getD_getElem? ..).symm.trans p2
                exact hwp_val (v := .int .i64 hold) (w' := W) (by simp [execOp, Act.eval, s1, f2, go_sem]) ⟨_, rfl, rfl, hW, Below.refl _ _⟩
              | 4, _, hio =>
                cases hio
                have p1 := hpre ⟨1, .data⟩ (by simp) (by rfl) _ _ rfl rfl
                have f1 : ax.tmps[39]?.getD undef = (.int .i64 bg) := (Array.getD_eq_getD_getElem? ..).symm.trans p1
                have p3 := hpre ⟨3, .data⟩ (by simp) (by rfl) _ _ rfl rfl
                have f3 : ax.tmps[41]?.getD undef = (.int .i64 hold) := (Array.getD_eq_getD_getElem? ..).symm.trans p3
                exact hwp_val (v := .int .i64 b1) (w' := W) (by simp [execOp, Act.eval, aw1, f1, f3, go_sem]) ⟨_, rfl, rfl, hW, Below.refl _ _⟩
              | 5, _, hio =>
                cases hio
                have p4 := hpre ⟨4, .data⟩ (by simp) (by rfl) _ _ rfl rfl
                have f4 : ax.tmps[42]?.getD undef = (.int .i64 b1) := (Array.getD_eq_getD_getElem? ..).symm.trans p4
                refine hwp_enter (f := 53) (args := #[.int .i64 (b1)]) (by simp [execOp, Act.eval, f4, go_sem]) ?_
                refine (wholeS (b1) 10 W (by omega) (by omega) h10b).mono ?_
                rintro ex wy ⟨vn, rfl, hq, hb⟩
                exact ⟨vn, rfl, _, rfl, hq, hW.trans (hb.mono hsz), hb⟩
              | 6, _, hio =>
                cases hio
                have p0 := hpre ⟨0, .data⟩ (by simp) (by rfl) _ _ rfl rfl
                obtain ⟨v0, hv0⟩ : ∃ v, ax.tmps.getD 38 undef = v := ⟨_, rfl⟩
                have r0 : IsR W.heap.size W (ax.tmps.getD 38 undef) (T) (d) 22 15 := p0
                rw [hv0] at r0
                have f0 : ax.tmps[38]?.getD undef = v0 := (Array.getD_eq_getD_getElem? ..).symm.trans hv0
                clear p0 hv0
                have p5 := hpre ⟨5, .data⟩ (by simp) (by rfl) _ _ rfl rfl
                obtain ⟨v5, hv5⟩ : ∃ v, ax.tmps.getD 43 undef = v := ⟨_, rfl⟩
                have r5 : IsR W.heap.size W (ax.tmps.getD 43 undef) (b1) (1) 10 0 := p5
                rw [hv5] at r5
                have f5 : ax.tmps[43]?.getD undef = v5 := (Array.getD_eq_getD_getElem? ..).symm.trans hv5
                clear p5 hv5
                refine hwp_enter (f := 81) (args := #[v0, v5]) (by simp [execOp, Act.eval, f0, f5, go_sem]) ?_
                refine ((minusS W.heap.size _ _ 22 15 10 0 26 _ _ _ _ W (Nat.le_refl _) (by omega) (by omega) (by omega) (by omega) r0 r5).mono (fun _ _ h => newS_cast h HZ.out (Nat.mul_one _))).mono ?_
                rintro ex wy ⟨vn, rfl, hq, hb⟩
                exact ⟨vn, rfl, _, rfl, hq, hW.trans (hb.mono hsz), hb⟩
              | 7, _, hio =>
                cases hio
                exact hwp_val (v := .pointer (some ⟨W.heap.size, 0, none⟩)) (w' := W.alloc (.cells #[.bool false, .slice none 0 0, .slice none 0 0] 87)) (by simp [execOp, Act.eval, zeroFrac_, go_sem]) ⟨_, rfl, Box1.new _ _ hsz, WA _, GA _⟩
              | ix + 8, hi, _ => exact absurd hi (by omega)
            · intro ax wD hsh hW hφ
              have q0 : IsR wD.heap.size wD (ax.tmps.getD 38 undef) (T) (d) 22 15 := hφ 0 _ _ (by omega) rfl rfl
              obtain ⟨v0, e0⟩ : ∃ v, ax.tmps.getD 38 undef = v := ⟨_, rfl⟩
              rw [e0] at q0
              have Q0 := Lib.hid q0
              clear q0
              have e1 : ax.tmps.getD 39 undef = (.int .i64 bg) := hφ 1 _ _ (by omega) rfl rfl
              have e2 : ax.tmps.getD 40 undef = (.pointer (some ⟨sb, 1, none⟩)) := hφ 2 _ _ (by omega) rfl rfl
              have e3 : ax.tmps.getD 41 undef = (.int .i64 hold) := hφ 3 _ _ (by omega) rfl rfl
              have e4 : ax.tmps.getD 42 undef = (.int .i64 b1) := hφ 4 _ _ (by omega) rfl rfl
              have q5 : IsR wD.heap.size wD (ax.tmps.getD 43 undef) (b1) (1) 10 0 := hφ 5 _ _ (by omega) rfl rfl
              obtain ⟨v5, e5⟩ : ∃ v, ax.tmps.getD 43 undef = v := ⟨_, rfl⟩
              rw [e5] at q5
              have Q5 := Lib.hid q5
              clear q5
              have q6 : IsR wD.heap.size wD (ax.tmps.getD 44 undef) (Z) (d) 26 15 := hφ 6 _ _ (by omega) rfl rfl
              obtain ⟨v6, e6⟩ : ∃ v, ax.tmps.getD 44 undef = v := ⟨_, rfl⟩
              rw [e6] at q6
              have Q6 := Lib.hid q6
              clear q6
              obtain ⟨b7, e7, hb7, hl7⟩ := hφ 7 _ _ (by omega) rfl rfl
              rw [shape_puts hsh [(38, v0), (39, .int .i64 bg), (40, .pointer (some ⟨sb, 1, none⟩)), (41, .int .i64 hold), (42, .int .i64 b1), (43, v5), (44, v6), (10, .pointer (some ⟨b7, 0, none⟩))] [38, 39, 40, 41, 42, 43, 44, 10] rfl (by kernel_rfl) ⟨e0, e1, e2, e3, e4, e5, e6, e7, trivial⟩]
              clear hφ hsh e0 e1 e2 e3 e4 e5 e6 e7
              simp only [putsN, List.foldl_cons, List.foldl_nil, List.drop_succ_cons, List.drop_zero, Act.put, List.setIfInBounds_toArray, List.set_cons_succ, List.set_cons_zero]
              have hzD := hW.size
              refine wpList_storeQ wD rfl _ _ rfl b7 rfl rfl Q6.out ⟨_, _, _, _, _, _, _, hl7⟩ ?_
              intro wE QY SY
              simp only [Act.put]
              have HKE := Lib.hid ((HKC.out.below hW).stq SY (by omega) (by omega))
              have HSE := Lib.hid ((HSC.out.below hW).gro SY.1 (by omega))
              have hzE := SY.2.2
              have HZE := Lib.hid QY
              obtain ⟨nb, hnb⟩ : ∃ nb, nb = b7 := ⟨_, rfl⟩
              have hnb4 : sb < nb ∧ tb < nb ∧ w.heap.size + 3 ≤ nb ∧ nb < wE.heap.size := ⟨by omega, by omega, by omega, by have := QY.any.lt; omega⟩
              rw [← hnb] at HZE ⊢
              clear hnb hW QY SY hl7 HKC HSC Q0 Q5 Q6 HZ hb7
              have s0 := HSE.out.cell (i := 0) rfl
              have s1 := HSE.out.cell (i := 1) rfl
              have s2 := HSE.out.cell (i := 2) rfl
              have hsl := HSE.out.lt
              go_wp2_with fail
              refine (wholeS lv 6 _ (by omega) (by omega) (by have : lv.natAbs ≤ 1000000 := by omega
                                                              exact this)).mono ?_
              rintro e wF ⟨v9, rfl, hq9, hb9⟩
              obtain ⟨s9, a9, L9, c9, p9, M9, d9, rfl⟩ := isR_shape hq9
              have HKF := Lib.hid (HKE.out.below hb9)
              have HSF := Lib.hid (HSE.out.below hb9)
              have HZF := Lib.hid (HZE.out.below hb9)
              have hzF := hb9.size
              have hA9 := (Below.refl wF.heap.size wF).alloc (Nat.le_refl _) (.cells #[.bool s9, .slice a9 L9 c9, .slice p9 M9 d9] 87)
              have HLG := Lib.hid (show QBox (wF.alloc (.cells #[.bool s9, .slice a9 L9 c9, .slice p9 M9 d9] 87)) wF.heap.size lv 1 6 0 from ⟨_, _, _, _, _, _, _, TBox.new wF _ _, hq9.up hA9⟩)
              have HKG := Lib.hid (HKF.out.below hA9)
              have HSG := Lib.hid (HSF.out.below hA9)
              have HZG := Lib.hid (HZF.out.below hA9)
              clear hq9 hb9 hA9 HKE HSE HZE HKF HSF HZF s0 s1 s2 hsl
              go_upto_region 10 with fail
              obtain ⟨lb, hlb⟩ : ∃ lb, lb = wF.heap.size := ⟨_, rfl⟩
              generalize hwG : wF.alloc (.cells #[.bool s9, .slice a9 L9 c9, .slice p9 M9 d9] 87) = wG at *
              rw [← hlb] at HLG ⊢
              have hlb4 : sb < lb ∧ tb < lb ∧ nb < lb ∧ w.heap.size + 3 ≤ lb ∧ lb < wG.heap.size := ⟨by omega, by omega, by omega, by omega, HLG.out.any.lt⟩
              clear hwG hlb
              obtain ⟨s_z, a_z, L_z, c_z, b_z, M_z, d_z, tb_z, hr_z⟩ := HZG.out
              have xz0 := tb_z.cell (i := 0) rfl
              have xz1 := tb_z.cell (i := 1) rfl
              have xz2 := tb_z.cell (i := 2) rfl
              have hzl := tb_z.lt
              have CB := Lib.hid (belowF _ _ _ _ _ _ _ hr_z)
              clear tb_z hr_z
              have s2 := HSG.out.cell (i := 2) rfl
              have hsl := HSG.out.lt
              by_cases hz0 : Z < 0
              · have hp1' : T < d * b1 := by omega
                have HV := Lib.hid (HF1.out (by omega))
                rw [decide_eq_true hz0] at CB
                clear HF1 HF2 HF3
                go_wp2_with fail
                refine CB.out.mono ?_
                rintro e wg ⟨rfl, hbg⟩
                have HKG := Lib.hid (HKG.out.below hbg)
                have HLG := Lib.hid (HLG.out.below hbg)
                clear hbg CB xz0 xz1 xz2 hzl s2 hsl HSG HZG
                obtain ⟨wG, hwG⟩ : ∃ wG, wG = wg := ⟨_, rfl⟩
                subst hwG
                go_upto_region 13 with fail
                refine region_heads (by kernel_rfl) 3 (by simp) (by kernel_rfl) (by kernel_rfl) (by kernel_rfl) (by kernel_rfl) (fun jx vx wx => match jx with | 0 => IsR wx.heap.size wx vx (lv) (1) 6 0 | 1 => IsR wx.heap.size wx vx (65535) (1) 5 0 | 2 => IsR wx.heap.size wx vx (lv) (1 * 65535) 6 5 | _ => True) (fun W => Below wG.heap.size wG W) (fun wx wy => Below wx.heap.size wx wy) (Below.refl _ _).drew ?_ ?_ ?_ ?_
                · intro jx vx wx wy h g
                  match jx, h with
                  | 0, h => exact IsR.up h g
                  | 1, h => exact IsR.up h g
                  | 2, h => exact IsR.up h g
                  | jx + 3, h => exact trivial
                · intro jx ox dx hj ho hd
                  exact insN_of (by kernel_rfl) hj ho hd
                · intro ix ox ax W hi hio hsh hW hpre
                  have hsz : wG.heap.size ≤ W.heap.size := hW.size
                  have GA : ∀ ob, Below W.heap.size W (W.alloc ob) := fun ob => (Below.refl _ _).alloc (Nat.le_refl _) ob
                  have WA : ∀ ob, Below wG.heap.size wG (W.alloc ob) := fun ob => hW.alloc hsz ob
                  have t11 : ax.tmps[11]?.getD undef = (.pointer (some ⟨lb, 0, none⟩)) := (Array.getD_eq_getD_getElem? ..).symm.trans ((hsh.2.2 11 (notN_of (by kernel_rfl))).trans rfl)
                  obtain ⟨s_l, a_l, L_l, c_l, b_l, M_l, d_l, tb_l, hr_l⟩ := (HLG.out.below hW)
                  have xl0 := tb_l.cell (i := 0) rfl
                  have xl1 := tb_l.cell (i := 1) rfl
                  have xl2 := tb_l.cell (i := 2) rfl
                  clear hsh
                  match ix, hi, hio with
                  | 0, _, hio =>
                    cases hio
                    exact hwp_val (v := .agg #[.bool s_l, .slice a_l L_l c_l, .slice b_l M_l d_l]) (w' := W) (by simp [execOp, Act.eval, t11, xl0, xl1, xl2, go_sem]) ⟨_, rfl, hr_l, hW, Below.refl _ _⟩
                  | 1, _, hio =>
                    cases hio
                    refine hwp_enter (f := 53) (args := #[.int .i64 (65535)]) (by simp [execOp, Act.eval, go_sem]) ?_
                    refine (wholeS (65535) 5 W (by omega) (by omega) (by decide)).mono ?_
                    rintro ex wy ⟨vn, rfl, hq, hb⟩
                    exact ⟨vn, rfl, _, rfl, hq, hW.trans (hb.mono hsz), hb⟩
                  | 2, _, hio =>
                    cases hio
                    have p0 := hpre ⟨0, .data⟩ (by simp) (by rfl) _ _ rfl rfl
                    obtain ⟨v0, hv0⟩ : ∃ v, ax.tmps.getD 80 undef = v := ⟨_, rfl⟩
                    have r0 : IsR W.heap.size W (ax.tmps.getD 80 undef) (lv) (1) 6 0 := p0
                    rw [hv0] at r0
                    have f0 : ax.tmps[80]?.getD undef = v0 := (Array.getD_eq_getD_getElem? ..).symm.trans hv0
                    clear p0 hv0
                    have p1 := hpre ⟨1, .data⟩ (by simp) (by rfl) _ _ rfl rfl
                    obtain ⟨v1, hv1⟩ : ∃ v, ax.tmps.getD 81 undef = v := ⟨_, rfl⟩
                    have r1 : IsR W.heap.size W (ax.tmps.getD 81 undef) (65535) (1) 5 0 := p1
                    rw [hv1] at r1
                    have f1 : ax.tmps[81]?.getD undef = v1 := (Array.getD_eq_getD_getElem? ..).symm.trans hv1
                    clear p1 hv1
                    refine hwp_enter (f := 82) (args := #[v0, v1]) (by simp [execOp, Act.eval, f0, f1, go_sem]) ?_
                    refine ((overI W.heap.size _ _ 6 0 5 0 _ _ _ _ W (Nat.le_refl _) (by omega) (by omega) (by omega) (by omega) (by omega) (by omega) (by omega) r0 r1).mono (fun _ _ h => newS_cast h (Int.mul_one _) rfl)).mono ?_
                    rintro ex wy ⟨vn, rfl, hq, hb⟩
                    exact ⟨vn, rfl, _, rfl, hq, hW.trans (hb.mono hsz), hb⟩
                  | ix + 3, hi, _ => exact absurd hi (by omega)
                · intro ax wGx hsh hW hφ
                  have q0 : IsR wGx.heap.size wGx (ax.tmps.getD 80 undef) (lv) (1) 6 0 := hφ 0 _ _ (by omega) rfl rfl
                  obtain ⟨v0, e0⟩ : ∃ v, ax.tmps.getD 80 undef = v := ⟨_, rfl⟩
                  rw [e0] at q0
                  have Q0 := Lib.hid q0
                  clear q0
                  have q1 : IsR wGx.heap.size wGx (ax.tmps.getD 81 undef) (65535) (1) 5 0 := hφ 1 _ _ (by omega) rfl rfl
                  obtain ⟨v1, e1⟩ : ∃ v, ax.tmps.getD 81 undef = v := ⟨_, rfl⟩
                  rw [e1] at q1
                  have Q1 := Lib.hid q1
                  clear q1
                  have q2 : IsR wGx.heap.size wGx (ax.tmps.getD 82 undef) (lv) (1 * 65535) 6 5 := hφ 2 _ _ (by omega) rfl rfl
                  obtain ⟨v2, e2⟩ : ∃ v, ax.tmps.getD 82 undef = v := ⟨_, rfl⟩
                  rw [e2] at q2
                  have Q2 := Lib.hid q2
                  clear q2
                  rw [shape_puts hsh [(80, v0), (81, v1), (82, v2)] [80, 81, 82] rfl (by kernel_rfl) ⟨e0, e1, e2, trivial⟩]
                  clear hφ hsh e0 e1 e2
                  simp only [putsN, List.foldl_cons, List.foldl_nil, List.drop_succ_cons, List.drop_zero, Act.put, List.setIfInBounds_toArray, List.set_cons_succ, List.set_cons_zero]
                  have HKn := Lib.hid (HKG.out.below hW)
                  clear hW
                  refine wpList_storeQ wGx rfl _ _ rfl (w.heap.size + 2) rfl rfl Q2.out HKn.out.2.1 ?_
                  intro wGy QY SY
                  simp only [Act.put]
                  have HBE := Lib.hid (below_gro HKn.out.2.2.2.2 SY.1 HKn.out.2.2.2.2.size (by omega))
                  obtain ⟨s8, a8, L8, c8, b8, M8, d8, tb8, hr8⟩ := QY
                  have x0 := tb8.cell (i := 0) rfl
                  have x1 := tb8.cell (i := 1) rfl
                  have x2 := tb8.cell (i := 2) rfl
                  have HR8 := Lib.hid (hr8.wide (m' := 40) (n' := 40) (by omega) (by omega))
                  clear hr8 tb8 SY
                  go_wp2_with fail
                  exact bodyPost_ret (v := .agg #[.bool s8, .slice a8 L8 c8, .slice b8 M8 d8]) (by simp [results, Try.results88, go_sem, x0, x1, x2]) rfl ⟨_, _, _, rfl, HR8.out, by rw [HV.out]; show lv * 65535 = lv * ((1 * 65535 : Nat) : Int); rfl, HBE.out⟩
              · have hp1' : ¬ T < d * b1 := by omega
                have HV := Lib.hid (HF2.out (by omega) (by omega))
                rw [decide_eq_false hz0] at CB
                have hfp : 0 < fade := by
                  rcases Int.lt_or_le 0 fade with h | h
                  · exact h
                  · exfalso
                    have : fade = 0 := by omega
                    subst this
                    rw [Int.add_zero] at hp2'
                    exact hp1' hp2'
                go_wp2_with fail
                refine CB.out.mono ?_
                rintro e wg ⟨rfl, hbg⟩
                have HKG := Lib.hid (HKG.out.below hbg)
                have HLG := Lib.hid (HLG.out.below hbg)
                have HZG := Lib.hid (HZG.out.below hbg)
                have HSG := Lib.hid (HSG.out.below hbg)
                have hzg := hbg.size
                clear hbg CB xz0 xz1 xz2 hzl s2 hsl HF1 HF2 HF3
                have s2 := HSG.out.cell (i := 2) rfl
                have hsl := HSG.out.lt
                go_upto_region 11 with fail
                clear s2 hsl
                have hL0 : 0 < l.length := by omega
                have am : ((j : Int) + 1).tmod (l.length : Int) = (nj : Int) := by
                  rw [← HNJ.out, Int.tmod_eq_emod_of_nonneg (by omega)]
                  rfl
                have aj : IntKind.i64.wrap ((j : Int) + 1) = (j : Int) + 1 := IntWalk.i64_in _ (by omega)
                have am2 : IntKind.i64.wrap (nj : Int) = (nj : Int) := IntWalk.i64_in _ (by omega)
                have hnj : (nj : Int) < (l.length : Int) := by omega
                have hnj2 : nj < l.length := hnj0
                have hl0 : ¬ ((l.length : Int) = 0) := by omega
                have hl00 : ¬ l = [] := by intro h; subst h; simp at hL0
                refine region_heads (by kernel_rfl) 12 (by simp) (by kernel_rfl) (by kernel_rfl) (by kernel_rfl) (by kernel_rfl) (fun jx vx wx => match jx with | 0 => vx = (.pointer (some ⟨w.heap.size, 8, none⟩)) | 1 => vx = (.slice (some ⟨sp, off, none⟩) l.length cap) | 2 => vx = (.int .i64 (j : Int)) | 3 => vx = (.int .i64 ((j : Int) + 1)) | 4 => vx = (.pointer (some ⟨w.heap.size, 8, none⟩)) | 5 => vx = (.slice (some ⟨sp, off, none⟩) l.length cap) | 6 => vx = (.int .i64 (l.length : Int)) | 7 => vx = (.int .i64 (nj : Int)) | 8 => vx = (.pointer (some ⟨sp, off + nj * 3, none⟩)) | 9 => vx = (.pointer (some ⟨sp, off + nj * 3, none⟩)) | 10 => vx = (.int .i64 lv2) | 11 => vx = (.int .i64 lv2) | _ => True) (fun W => Below wg.heap.size wg W) (fun wx wy => Below wx.heap.size wx wy) (Below.refl _ _).drew ?_ ?_ ?_ ?_
                · intro jx vx wx wy h g
                  match jx, h with
                  | 0, h => exact h
                  | 1, h => exact h
                  | 2, h => exact h
                  | 3, h => exact h
                  | 4, h => exact h
                  | 5, h => exact h
                  | 6, h => exact h
                  | 7, h => exact h
                  | 8, h => exact h
                  | 9, h => exact h
                  | 10, h => exact h
                  | 11, h => exact h
                  | jx + 12, h => exact trivial
                · intro jx ox dx hj ho hd
                  exact insN_of (by kernel_rfl) hj ho hd
                · intro ix ox ax W hi hio hsh hW hpre
                  have hsz : wg.heap.size ≤ W.heap.size := hW.size
                  have GA : ∀ ob, Below W.heap.size W (W.alloc ob) := fun ob => (Below.refl _ _).alloc (Nat.le_refl _) ob
                  have WA : ∀ ob, Below wg.heap.size wg (W.alloc ob) := fun ob => hW.alloc hsz ob
                  have t2 : ax.tmps[2]?.getD undef = (.pointer (some ⟨w.heap.size, 0, none⟩)) := (Array.getD_eq_getD_getElem? ..).symm.trans ((hsh.2.2 2 (notN_of (by kernel_rfl))).trans rfl)
                  have t7 : ax.tmps[7]?.getD undef = (.int .i64 (j : Int)) := (Array.getD_eq_getD_getElem? ..).symm.trans ((hsh.2.2 7 (notN_of (by kernel_rfl))).trans rfl)
                  have e8 := (HKG.out.below hW).1.cell (i := 8) rfl
                  obtain ⟨e0, e1, e2⟩ := HYC.out
                  have y0 := ((HKG.out.below hW).2.2.2.2.cell (p := ⟨sp, off + nj * 3, none⟩) hsb).trans e0
                  clear hsh
                  match ix, hi, hio with
                  | 0, _, hio =>
                    cases hio
                    exact hwp_val (v := .pointer (some ⟨w.heap.size, 8, none⟩)) (w' := W) (by simp [execOp, Act.eval, t2, go_sem]) ⟨_, rfl, rfl, hW, Below.refl _ _⟩
                  | 1, _, hio =>
                    cases hio
                    have p0 := hpre ⟨0, .data⟩ (by simp) (by rfl) _ _ rfl rfl
                    have f0 : ax.tmps[56]?.getD undef = (.pointer (some ⟨w.heap.size, 8, none⟩)) := (Array.getD_eq_getD_getElem? ..).symm.trans p0
                    exact hwp_val (v := .slice (some ⟨sp, off, none⟩) l.length cap) (w' := W) (by simp [execOp, Act.eval, e8, f0, go_sem]) ⟨_, rfl, rfl, hW, Below.refl _ _⟩
                  | 2, _, hio =>
                    cases hio
                    exact hwp_val (v := .int .i64 (j : Int)) (w' := W) (by simp [execOp, Act.eval, t7, go_sem]) ⟨_, rfl, rfl, hW, Below.refl _ _⟩
                  | 3, _, hio =>
                    cases hio
                    have p2 := hpre ⟨2, .data⟩ (by simp) (by rfl) _ _ rfl rfl
                    have f2 : ax.tmps[58]?.getD undef = (.int .i64 (j : Int)) := (Array.getD_eq_getD_getElem? ..).symm.trans p2
                    exact hwp_val (v := .int .i64 ((j : Int) + 1)) (w' := W) (by simp [execOp, Act.eval, aj, f2, go_sem]) ⟨_, rfl, rfl, hW, Below.refl _ _⟩
                  | 4, _, hio =>
                    cases hio
                    exact hwp_val (v := .pointer (some ⟨w.heap.size, 8, none⟩)) (w' := W) (by simp [execOp, Act.eval, t2, go_sem]) ⟨_, rfl, rfl, hW, Below.refl _ _⟩
                  | 5, _, hio =>
                    cases hio
                    have p4 := hpre ⟨4, .data⟩ (by simp) (by rfl) _ _ rfl rfl
                    have f4 : ax.tmps[60]?.getD undef = (.pointer (some ⟨w.heap.size, 8, none⟩)) := (Array.getD_eq_getD_getElem? ..).symm.trans p4
                    exact hwp_val (v := .slice (some ⟨sp, off, none⟩) l.length cap) (w' := W) (by simp [execOp, Act.eval, e8, f4, go_sem]) ⟨_, rfl, rfl, hW, Below.refl _ _⟩
                  | 6, _, hio =>
                    cases hio
                    have p5 := hpre ⟨5, .data⟩ (by simp) (by rfl) _ _ rfl rfl
                    have f5 : ax.tmps[61]?.getD undef = (.slice (some ⟨sp, off, none⟩) l.length cap) := (Array.getD_eq_getD_getElem? ..).symm.trans p5
                    exact hwp_val (v := .int .i64 (l.length : Int)) (w' := W) (by simp [execOp, Act.eval, f5, go_sem]) ⟨_, rfl, rfl, hW, Below.refl _ _⟩
                  | 7, _, hio =>
                    cases hio
                    have p3 := hpre ⟨3, .data⟩ (by simp) (by rfl) _ _ rfl rfl
                    have f3 : ax.tmps[59]?.getD undef = (.int .i64 ((j : Int) + 1)) := (Array.getD_eq_getD_getElem? ..).symm.trans p3
                    have p6 := hpre ⟨6, .data⟩ (by simp) (by rfl) _ _ rfl rfl
                    have f6 : ax.tmps[62]?.getD undef = (.int .i64 (l.length : Int)) := (Array.getD_eq_getD_getElem? ..).symm.trans p6
                    exact hwp_val (v := .int .i64 (nj : Int)) (w' := W) (by simp [execOp, Act.eval, am, am2, hl0, hl00, f3, f6, go_sem]) ⟨_, rfl, rfl, hW, Below.refl _ _⟩
                  | 8, _, hio =>
                    cases hio
                    have p1 := hpre ⟨1, .data⟩ (by simp) (by rfl) _ _ rfl rfl
                    have f1 : ax.tmps[57]?.getD undef = (.slice (some ⟨sp, off, none⟩) l.length cap) := (Array.getD_eq_getD_getElem? ..).symm.trans p1
                    have p7 := hpre ⟨7, .data⟩ (by simp) (by rfl) _ _ rfl rfl
                    have f7 : ax.tmps[63]?.getD undef = (.int .i64 (nj : Int)) := (Array.getD_eq_getD_getElem? ..).symm.trans p7
                    exact hwp_val (v := .pointer (some ⟨sp, off + nj * 3, none⟩)) (w' := W) (by simp [execOp, Act.eval, hnj, hnj2, f1, f7, go_sem]) ⟨_, rfl, rfl, hW, Below.refl _ _⟩
                  | 9, _, hio =>
                    cases hio
                    have p8 := hpre ⟨8, .data⟩ (by simp) (by rfl) _ _ rfl rfl
                    have f8 : ax.tmps[64]?.getD undef = (.pointer (some ⟨sp, off + nj * 3, none⟩)) := (Array.getD_eq_getD_getElem? ..).symm.trans p8
                    exact hwp_val (v := .pointer (some ⟨sp, off + nj * 3, none⟩)) (w' := W) (by simp [execOp, Act.eval, f8, go_sem]) ⟨_, rfl, rfl, hW, Below.refl _ _⟩
                  | 10, _, hio =>
                    cases hio
                    have p9 := hpre ⟨9, .data⟩ (by simp) (by rfl) _ _ rfl rfl
                    have f9 : ax.tmps[65]?.getD undef = (.pointer (some ⟨sp, off + nj * 3, none⟩)) := (Array.getD_eq_getD_getElem? ..).symm.trans p9
                    exact hwp_val (v := .int .i64 lv2) (w' := W) (by simp [execOp, Act.eval, y0, f9, go_sem]) ⟨_, rfl, rfl, hW, Below.refl _ _⟩
                  | 11, _, hio =>
                    cases hio
                    have p10 := hpre ⟨10, .data⟩ (by simp) (by rfl) _ _ rfl rfl
                    have f10 : ax.tmps[66]?.getD undef = (.int .i64 lv2) := (Array.getD_eq_getD_getElem? ..).symm.trans p10
                    exact hwp_val (v := .int .i64 lv2) (w' := W) (by simp [execOp, Act.eval, f10, go_sem]) ⟨_, rfl, rfl, hW, Below.refl _ _⟩
                  | ix + 12, hi, _ => exact absurd hi (by omega)
                · intro ax wh hsh hW hφ
                  have e0 : ax.tmps.getD 56 undef = (.pointer (some ⟨w.heap.size, 8, none⟩)) := hφ 0 _ _ (by omega) rfl rfl
                  have e1 : ax.tmps.getD 57 undef = (.slice (some ⟨sp, off, none⟩) l.length cap) := hφ 1 _ _ (by omega) rfl rfl
                  have e2 : ax.tmps.getD 58 undef = (.int .i64 (j : Int)) := hφ 2 _ _ (by omega) rfl rfl
                  have e3 : ax.tmps.getD 59 undef = (.int .i64 ((j : Int) + 1)) := hφ 3 _ _ (by omega) rfl rfl
                  have e4 : ax.tmps.getD 60 undef = (.pointer (some ⟨w.heap.size, 8, none⟩)) := hφ 4 _ _ (by omega) rfl rfl
                  have e5 : ax.tmps.getD 61 undef = (.slice (some ⟨sp, off, none⟩) l.length cap) := hφ 5 _ _ (by omega) rfl rfl
                  have e6 : ax.tmps.getD 62 undef = (.int .i64 (l.length : Int)) := hφ 6 _ _ (by omega) rfl rfl
                  have e7 : ax.tmps.getD 63 undef = (.int .i64 (nj : Int)) := hφ 7 _ _ (by omega) rfl rfl
                  have e8 : ax.tmps.getD 64 undef = (.pointer (some ⟨sp, off + nj * 3, none⟩)) := hφ 8 _ _ (by omega) rfl rfl
                  have e9 : ax.tmps.getD 65 undef = (.pointer (some ⟨sp, off + nj * 3, none⟩)) := hφ 9 _ _ (by omega) rfl rfl
                  have e10 : ax.tmps.getD 66 undef = (.int .i64 lv2) := hφ 10 _ _ (by omega) rfl rfl
                  have e11 : ax.tmps.getD 12 undef = (.int .i64 lv2) := hφ 11 _ _ (by omega) rfl rfl
                  rw [shape_puts hsh [(56, .pointer (some ⟨w.heap.size, 8, none⟩)), (57, .slice (some ⟨sp, off, none⟩) l.length cap), (58, .int .i64 (j : Int)), (59, .int .i64 ((j : Int) + 1)), (60, .pointer (some ⟨w.heap.size, 8, none⟩)), (61, .slice (some ⟨sp, off, none⟩) l.length cap), (62, .int .i64 (l.length : Int)), (63, .int .i64 (nj : Int)), (64, .pointer (some ⟨sp, off + nj * 3, none⟩)), (65, .pointer (some ⟨sp, off + nj * 3, none⟩)), (66, .int .i64 lv2), (12, .int .i64 lv2)] [56, 57, 58, 59, 60, 61, 62, 63, 64, 65, 66, 12] rfl (by kernel_rfl) ⟨e0, e1, e2, e3, e4, e5, e6, e7, e8, e9, e10, e11, trivial⟩]
                  clear hφ hsh e0 e1 e2 e3 e4 e5 e6 e7 e8 e9 e10 e11
                  simp only [putsN, List.foldl_cons, List.foldl_nil, List.drop_succ_cons, List.drop_zero, Act.put, List.setIfInBounds_toArray, List.set_cons_succ, List.set_cons_zero]
                  have HKH := Lib.hid (HKG.out.below hW)
                  have HLH := Lib.hid (HLG.out.below hW)
                  have HZH := Lib.hid (HZG.out.below hW)
                  have HSH := Lib.hid (HSG.out.below hW)
                  have hzh := hW.size
                  clear hW HKG HLG HZG HSG am aj am2 hnj hnj2 hl0 hl00
                  have h6 : (lv2 - lv).natAbs ≤ 10 ^ 6 := by
                    have : (lv2 - lv).natAbs ≤ 1000000 := by omega
                    exact this
                  have h7 : fade.natAbs ≤ 10 ^ 7 := by
                    have : fade.natAbs ≤ 10000000 := by omega
                    exact this
                  have aw3 : IntKind.i64.wrap (lv2 - lv) = lv2 - lv := IntWalk.i64_in _ (by omega)
                  obtain ⟨PL, hPL⟩ : ∃ PL, PL = lv * ((d * fade.toNat : Nat) : Int) + (lv2 - lv) * Z * ((1 : Nat) : Int) := ⟨_, rfl⟩
                  have HPL := Lib.hid hPL.symm
                  have HRAT := Lib.hid (along_rat hfp hPL hZ2)
                  clear hPL
                  go_upto_region 12 with fail
                  refine region_heads (by kernel_rfl) 13 (by simp) (by kernel_rfl) (by kernel_rfl) (by kernel_rfl) (by kernel_rfl) (fun jx vx wx => match jx with | 0 => IsR wx.heap.size wx vx (lv) (1) 6 0 | 1 => vx = (.int .i64 lv2) | 2 => vx = (.pointer (some ⟨sb, 0, none⟩)) | 3 => vx = (.int .i64 lv) | 4 => vx = (.int .i64 (lv2 - lv)) | 5 => IsR wx.heap.size wx vx (lv2 - lv) (1) 6 0 | 6 => IsR wx.heap.size wx vx (Z) (d) 26 15 | 7 => IsR wx.heap.size wx vx ((lv2 - lv) * Z) (d) 32 15 | 8 => vx = (.pointer (some ⟨sb, 2, none⟩)) | 9 => vx = (.int .i64 fade) | 10 => IsR wx.heap.size wx vx (fade) (1) 7 0 | 11 => IsR wx.heap.size wx vx ((lv2 - lv) * Z) (d * fade.toNat) 32 22 | 12 => IsR wx.heap.size wx vx (PL) (d * fade.toNat) 33 22 | _ => True) (fun W => Below wh.heap.size wh W) (fun wx wy => Below wx.heap.size wx wy) (Below.refl _ _).drew ?_ ?_ ?_ ?_
                  · intro jx vx wx wy h g
                    match jx, h with
                    | 0, h => exact IsR.up h g
                    | 1, h => exact h
                    | 2, h => exact h
                    | 3, h => exact h
                    | 4, h => exact h
                    | 5, h => exact IsR.up h g
                    | 6, h => exact IsR.up h g
                    | 7, h => exact IsR.up h g
                    | 8, h => exact h
                    | 9, h => exact h
                    | 10, h => exact IsR.up h g
                    | 11, h => exact IsR.up h g
                    | 12, h => exact IsR.up h g
                    | jx + 13, h => exact trivial
                  · intro jx ox dx hj ho hd
                    exact insN_of (by kernel_rfl) hj ho hd
                  · intro ix ox ax W hi hio hsh hW hpre
                    have hsz : wh.heap.size ≤ W.heap.size := hW.size
                    have GA : ∀ ob, Below W.heap.size W (W.alloc ob) := fun ob => (Below.refl _ _).alloc (Nat.le_refl _) ob
                    have WA : ∀ ob, Below wh.heap.size wh (W.alloc ob) := fun ob => hW.alloc hsz ob
                    have t8 : ax.tmps[8]?.getD undef = (.pointer (some ⟨sb, 0, none⟩)) := (Array.getD_eq_getD_getElem? ..).symm.trans ((hsh.2.2 8 (notN_of (by kernel_rfl))).trans rfl)
                    have t10 : ax.tmps[10]?.getD undef = (.pointer (some ⟨nb, 0, none⟩)) := (Array.getD_eq_getD_getElem? ..).symm.trans ((hsh.2.2 10 (notN_of (by kernel_rfl))).trans rfl)
                    have t11 : ax.tmps[11]?.getD undef = (.pointer (some ⟨lb, 0, none⟩)) := (Array.getD_eq_getD_getElem? ..).symm.trans ((hsh.2.2 11 (notN_of (by kernel_rfl))).trans rfl)
                    have t12 : ax.tmps[12]?.getD undef = (.int .i64 lv2) := (Array.getD_eq_getD_getElem? ..).symm.trans ((hsh.2.2 12 (notN_of (by kernel_rfl))).trans rfl)
                    obtain ⟨s_l, a_l, L_l, c_l, b_l, M_l, d_l, tb_l, hr_l⟩ := (HLH.out.below hW)
                    have xl0 := tb_l.cell (i := 0) rfl
                    have xl1 := tb_l.cell (i := 1) rfl
                    have xl2 := tb_l.cell (i := 2) rfl
                    obtain ⟨s_z, a_z, L_z, c_z, b_z, M_z, d_z, tb_z, hr_z⟩ := (HZH.out.below hW)
                    have xz0 := tb_z.cell (i := 0) rfl
                    have xz1 := tb_z.cell (i := 1) rfl
                    have xz2 := tb_z.cell (i := 2) rfl
                    have s0 := (HSH.out.below hW).cell (i := 0) rfl
                    have s1 := (HSH.out.below hW).cell (i := 1) rfl
                    have s2 := (HSH.out.below hW).cell (i := 2) rfl
                    clear hsh
                    match ix, hi, hio with
                    | 0, _, hio =>
                      cases hio
                      exact hwp_val (v := .agg #[.bool s_l, .slice a_l L_l c_l, .slice b_l M_l d_l]) (w' := W) (by simp [execOp, Act.eval, t11, xl0, xl1, xl2, go_sem]) ⟨_, rfl, hr_l, hW, Below.refl _ _⟩
                    | 1, _, hio =>
                      cases hio
                      exact hwp_val (v := .int .i64 lv2) (w' := W) (by simp [execOp, Act.eval, t12, go_sem]) ⟨_, rfl, rfl, hW, Below.refl _ _⟩
                    | 2, _, hio =>
                      cases hio
                      exact hwp_val (v := .pointer (some ⟨sb, 0, none⟩)) (w' := W) (by simp [execOp, Act.eval, t8, go_sem]) ⟨_, rfl, rfl, hW, Below.refl _ _⟩
                    | 3, _, hio =>
                      cases hio
                      have p2 := hpre ⟨2, .data⟩ (by simp) (by rfl) _ _ rfl rfl
                      have f2 : ax.tmps[69]?.getD undef = (.pointer (some ⟨sb, 0, none⟩)) := (Array.getD_eq_getD_getElem? ..).symm.trans p2
                      exact hwp_val (v := .int .i64 lv) (w' := W) (by simp [execOp, Act.eval, s0, f2, go_sem]) ⟨_, rfl, rfl, hW, Below.refl _ _⟩
                    | 4, _, hio =>
                      cases hio
                      have p1 := hpre ⟨1, .data⟩ (by simp) (by rfl) _ _ rfl rfl
                      have f1 : ax.tmps[68]?.getD undef = (.int .i64 lv2) := (Array.getD_eq_getD_getElem? ..).symm.trans p1
                      have p3 := hpre ⟨3, .data⟩ (by simp) (by rfl) _ _ rfl rfl
                      have f3 : ax.tmps[70]?.getD undef = (.int .i64 lv) := (Array.getD_eq_getD_getElem? ..).symm.trans p3
                      exact hwp_val (v := .int .i64 (lv2 - lv)) (w' := W) (by simp [execOp, Act.eval, aw3, f1, f3, go_sem]) ⟨_, rfl, rfl, hW, Below.refl _ _⟩
                    | 5, _, hio =>
                      cases hio
                      have p4 := hpre ⟨4, .data⟩ (by simp) (by rfl) _ _ rfl rfl
                      have f4 : ax.tmps[71]?.getD undef = (.int .i64 (lv2 - lv)) := (Array.getD_eq_getD_getElem? ..).symm.trans p4
                      refine hwp_enter (f := 53) (args := #[.int .i64 (lv2 - lv)]) (by simp [execOp, Act.eval, f4, go_sem]) ?_
                      refine (wholeS (lv2 - lv) 6 W (by omega) (by omega) h6).mono ?_
                      rintro ex wy ⟨vn, rfl, hq, hb⟩
                      exact ⟨vn, rfl, _, rfl, hq, hW.trans (hb.mono hsz), hb⟩
                    | 6, _, hio =>
                      cases hio
                      exact hwp_val (v := .agg #[.bool s_z, .slice a_z L_z c_z, .slice b_z M_z d_z]) (w' := W) (by simp [execOp, Act.eval, t10, xz0, xz1, xz2, go_sem]) ⟨_, rfl, hr_z, hW, Below.refl _ _⟩
                    | 7, _, hio =>
                      cases hio
                      have p5 := hpre ⟨5, .data⟩ (by simp) (by rfl) _ _ rfl rfl
                      obtain ⟨v5, hv5⟩ : ∃ v, ax.tmps.getD 72 undef = v := ⟨_, rfl⟩
                      have r5 : IsR W.heap.size W (ax.tmps.getD 72 undef) (lv2 - lv) (1) 6 0 := p5
                      rw [hv5] at r5
                      have f5 : ax.tmps[72]?.getD undef = v5 := (Array.getD_eq_getD_getElem? ..).symm.trans hv5
                      clear p5 hv5
                      have p6 := hpre ⟨6, .data⟩ (by simp) (by rfl) _ _ rfl rfl
                      obtain ⟨v6, hv6⟩ : ∃ v, ax.tmps.getD 73 undef = v := ⟨_, rfl⟩
                      have r6 : IsR W.heap.size W (ax.tmps.getD 73 undef) (Z) (d) 26 15 := p6
                      rw [hv6] at r6
                      have f6 : ax.tmps[73]?.getD undef = v6 := (Array.getD_eq_getD_getElem? ..).symm.trans hv6
                      clear p6 hv6
                      refine hwp_enter (f := 52) (args := #[v5, v6]) (by simp [execOp, Act.eval, f5, f6, go_sem]) ?_
                      refine ((timesS W.heap.size _ _ 6 0 26 15 _ _ _ _ W (Nat.le_refl _) (by omega) (by omega) r5 r6).mono (fun _ _ h => newS_cast h rfl (Nat.one_mul _))).mono ?_
                      rintro ex wy ⟨vn, rfl, hq, hb⟩
                      exact ⟨vn, rfl, _, rfl, hq, hW.trans (hb.mono hsz), hb⟩
                    | 8, _, hio =>
                      cases hio
                      exact hwp_val (v := .pointer (some ⟨sb, 2, none⟩)) (w' := W) (by simp [execOp, Act.eval, t8, go_sem]) ⟨_, rfl, rfl, hW, Below.refl _ _⟩
                    | 9, _, hio =>
                      cases hio
                      have p8 := hpre ⟨8, .data⟩ (by simp) (by rfl) _ _ rfl rfl
                      have f8 : ax.tmps[75]?.getD undef = (.pointer (some ⟨sb, 2, none⟩)) := (Array.getD_eq_getD_getElem? ..).symm.trans p8
                      exact hwp_val (v := .int .i64 fade) (w' := W) (by simp [execOp, Act.eval, s2, f8, go_sem]) ⟨_, rfl, rfl, hW, Below.refl _ _⟩
                    | 10, _, hio =>
                      cases hio
                      have p9 := hpre ⟨9, .data⟩ (by simp) (by rfl) _ _ rfl rfl
                      have f9 : ax.tmps[76]?.getD undef = (.int .i64 fade) := (Array.getD_eq_getD_getElem? ..).symm.trans p9
                      refine hwp_enter (f := 53) (args := #[.int .i64 (fade)]) (by simp [execOp, Act.eval, f9, go_sem]) ?_
                      refine (wholeS (fade) 7 W (by omega) (by omega) h7).mono ?_
                      rintro ex wy ⟨vn, rfl, hq, hb⟩
                      exact ⟨vn, rfl, _, rfl, hq, hW.trans (hb.mono hsz), hb⟩
                    | 11, _, hio =>
                      cases hio
                      have p7 := hpre ⟨7, .data⟩ (by simp) (by rfl) _ _ rfl rfl
                      obtain ⟨v7, hv7⟩ : ∃ v, ax.tmps.getD 74 undef = v := ⟨_, rfl⟩
                      have r7 : IsR W.heap.size W (ax.tmps.getD 74 undef) ((lv2 - lv) * Z) (d) 32 15 := p7
                      rw [hv7] at r7
                      have f7 : ax.tmps[74]?.getD undef = v7 := (Array.getD_eq_getD_getElem? ..).symm.trans hv7
                      clear p7 hv7
                      have p10 := hpre ⟨10, .data⟩ (by simp) (by rfl) _ _ rfl rfl
                      obtain ⟨v10, hv10⟩ : ∃ v, ax.tmps.getD 77 undef = v := ⟨_, rfl⟩
                      have r10 : IsR W.heap.size W (ax.tmps.getD 77 undef) (fade) (1) 7 0 := p10
                      rw [hv10] at r10
                      have f10 : ax.tmps[77]?.getD undef = v10 := (Array.getD_eq_getD_getElem? ..).symm.trans hv10
                      clear p10 hv10
                      refine hwp_enter (f := 82) (args := #[v7, v10]) (by simp [execOp, Act.eval, f7, f10, go_sem]) ?_
                      refine ((overI W.heap.size _ _ 32 15 7 0 _ _ _ _ W (Nat.le_refl _) (by omega) (by omega) (by omega) (by omega) (by omega) (by omega) hfp r7 r10).mono (fun _ _ h => newS_cast h (Int.mul_one _) rfl)).mono ?_
                      rintro ex wy ⟨vn, rfl, hq, hb⟩
                      exact ⟨vn, rfl, _, rfl, hq, hW.trans (hb.mono hsz), hb⟩
                    | 12, _, hio =>
                      cases hio
                      have p0 := hpre ⟨0, .data⟩ (by simp) (by rfl) _ _ rfl rfl
                      obtain ⟨v0, hv0⟩ : ∃ v, ax.tmps.getD 67 undef = v := ⟨_, rfl⟩
                      have r0 : IsR W.heap.size W (ax.tmps.getD 67 undef) (lv) (1) 6 0 := p0
                      rw [hv0] at r0
                      have f0 : ax.tmps[67]?.getD undef = v0 := (Array.getD_eq_getD_getElem? ..).symm.trans hv0
                      clear p0 hv0
                      have p11 := hpre ⟨11, .data⟩ (by simp) (by rfl) _ _ rfl rfl
                      obtain ⟨v11, hv11⟩ : ∃ v, ax.tmps.getD 78 undef = v := ⟨_, rfl⟩
                      have r11 : IsR W.heap.size W (ax.tmps.getD 78 undef) ((lv2 - lv) * Z) (d * fade.toNat) 32 22 := p11
                      rw [hv11] at r11
                      have f11 : ax.tmps[78]?.getD undef = v11 := (Array.getD_eq_getD_getElem? ..).symm.trans hv11
                      clear p11 hv11
                      refine hwp_enter (f := 85) (args := #[v0, v11]) (by simp [execOp, Act.eval, f0, f11, go_sem]) ?_
                      refine ((plusS W.heap.size _ _ 6 0 32 22 33 _ _ _ _ W (Nat.le_refl _) (by omega) (by omega) (by omega) (by omega) r0 r11).mono (fun _ _ h => newS_cast h HPL.out (Nat.one_mul _))).mono ?_
                      rintro ex wy ⟨vn, rfl, hq, hb⟩
                      exact ⟨vn, rfl, _, rfl, hq, hW.trans (hb.mono hsz), hb⟩
                    | ix + 13, hi, _ => exact absurd hi (by omega)
                  · intro ax wj hsh hW hφ
                    have q0 : IsR wj.heap.size wj (ax.tmps.getD 67 undef) (lv) (1) 6 0 := hφ 0 _ _ (by omega) rfl rfl
                    obtain ⟨v0, e0⟩ : ∃ v, ax.tmps.getD 67 undef = v := ⟨_, rfl⟩
                    rw [e0] at q0
                    have Q0 := Lib.hid q0
                    clear q0
                    have e1 : ax.tmps.getD 68 undef = (.int .i64 lv2) := hφ 1 _ _ (by omega) rfl rfl
                    have e2 : ax.tmps.getD 69 undef = (.pointer (some ⟨sb, 0, none⟩)) := hφ 2 _ _ (by omega) rfl rfl
                    have e3 : ax.tmps.getD 70 undef = (.int .i64 lv) := hφ 3 _ _ (by omega) rfl rfl
                    have e4 : ax.tmps.getD 71 undef = (.int .i64 (lv2 - lv)) := hφ 4 _ _ (by omega) rfl rfl
                    have q5 : IsR wj.heap.size wj (ax.tmps.getD 72 undef) (lv2 - lv) (1) 6 0 := hφ 5 _ _ (by omega) rfl rfl
                    obtain ⟨v5, e5⟩ : ∃ v, ax.tmps.getD 72 undef = v := ⟨_, rfl⟩
                    rw [e5] at q5
                    have Q5 := Lib.hid q5
                    clear q5
                    have q6 : IsR wj.heap.size wj (ax.tmps.getD 73 undef) (Z) (d) 26 15 := hφ 6 _ _ (by omega) rfl rfl
                    obtain ⟨v6, e6⟩ : ∃ v, ax.tmps.getD 73 undef = v := ⟨_, rfl⟩
                    rw [e6] at q6
                    have Q6 := Lib.hid q6
                    clear q6
                    have q7 : IsR wj.heap.size wj (ax.tmps.getD 74 undef) ((lv2 - lv) * Z) (d) 32 15 := hφ 7 _ _ (by omega) rfl rfl
                    obtain ⟨v7, e7⟩ : ∃ v, ax.tmps.getD 74 undef = v := ⟨_, rfl⟩
                    rw [e7] at q7
                    have Q7 := Lib.hid q7
                    clear q7
                    have e8 : ax.tmps.getD 75 undef = (.pointer (some ⟨sb, 2, none⟩)) := hφ 8 _ _ (by omega) rfl rfl
                    have e9 : ax.tmps.getD 76 undef = (.int .i64 fade) := hφ 9 _ _ (by omega) rfl rfl
                    have q10 : IsR wj.heap.size wj (ax.tmps.getD 77 undef) (fade) (1) 7 0 := hφ 10 _ _ (by omega) rfl rfl
                    obtain ⟨v10, e10⟩ : ∃ v, ax.tmps.getD 77 undef = v := ⟨_, rfl⟩
                    rw [e10] at q10
                    have Q10 := Lib.hid q10
                    clear q10
                    have q11 : IsR wj.heap.size wj (ax.tmps.getD 78 undef) ((lv2 - lv) * Z) (d * fade.toNat) 32 22 := hφ 11 _ _ (by omega) rfl rfl
                    obtain ⟨v11, e11⟩ : ∃ v, ax.tmps.getD 78 undef = v := ⟨_, rfl⟩
                    rw [e11] at q11
                    have Q11 := Lib.hid q11
                    clear q11
                    have q12 : IsR wj.heap.size wj (ax.tmps.getD 79 undef) (PL) (d * fade.toNat) 33 22 := hφ 12 _ _ (by omega) rfl rfl
                    obtain ⟨v12, e12⟩ : ∃ v, ax.tmps.getD 79 undef = v := ⟨_, rfl⟩
                    rw [e12] at q12
                    have Q12 := Lib.hid q12
                    clear q12
                    rw [shape_puts hsh [(67, v0), (68, .int .i64 lv2), (69, .pointer (some ⟨sb, 0, none⟩)), (70, .int .i64 lv), (71, .int .i64 (lv2 - lv)), (72, v5), (73, v6), (74, v7), (75, .pointer (some ⟨sb, 2, none⟩)), (76, .int .i64 fade), (77, v10), (78, v11), (79, v12)] [67, 68, 69, 70, 71, 72, 73, 74, 75, 76, 77, 78, 79] rfl (by kernel_rfl) ⟨e0, e1, e2, e3, e4, e5, e6, e7, e8, e9, e10, e11, e12, trivial⟩]
                    clear hφ hsh e0 e1 e2 e3 e4 e5 e6 e7 e8 e9 e10 e11 e12
                    simp only [putsN, List.foldl_cons, List.foldl_nil, List.drop_succ_cons, List.drop_zero, Act.put, List.setIfInBounds_toArray, List.set_cons_succ, List.set_cons_zero]
                    have hzj := hW.size
                    refine wpList_storeQ wj rfl _ _ rfl lb rfl rfl Q12.out (HLH.out.below hW).any ?_
                    intro wI QY SY
                    simp only [Act.put]
                    have HKI := Lib.hid ((HKH.out.below hW).stq SY (by omega) (by omega))
                    have HLI := Lib.hid QY
                    clear hW QY SY HKH HLH HZH HSH Q0 Q5 Q6 Q7 Q10 Q11 Q12 HPL aw3
                    go_upto_region 13 with fail
                    refine region_heads (by kernel_rfl) 3 (by simp) (by kernel_rfl) (by kernel_rfl) (by kernel_rfl) (by kernel_rfl) (fun jx vx wx => match jx with | 0 => IsR wx.heap.size wx vx (PL) (d * fade.toNat) 33 22 | 1 => IsR wx.heap.size wx vx (65535) (1) 5 0 | 2 => IsR wx.heap.size wx vx (PL) (d * fade.toNat * 65535) 33 27 | _ => True) (fun W => Below wI.heap.size wI W) (fun wx wy => Below wx.heap.size wx wy) (Below.refl _ _).drew ?_ ?_ ?_ ?_
                    · intro jx vx wx wy h g
                      match jx, h with
                      | 0, h => exact IsR.up h g
                      | 1, h => exact IsR.up h g
                      | 2, h => exact IsR.up h g
                      | jx + 3, h => exact trivial
                    · intro jx ox dx hj ho hd
                      exact insN_of (by kernel_rfl) hj ho hd
                    · intro ix ox ax W hi hio hsh hW hpre
                      have hsz : wI.heap.size ≤ W.heap.size := hW.size
                      have GA : ∀ ob, Below W.heap.size W (W.alloc ob) := fun ob => (Below.refl _ _).alloc (Nat.le_refl _) ob
                      have WA : ∀ ob, Below wI.heap.size wI (W.alloc ob) := fun ob => hW.alloc hsz ob
                      have t11 : ax.tmps[11]?.getD undef = (.pointer (some ⟨lb, 0, none⟩)) := (Array.getD_eq_getD_getElem? ..).symm.trans ((hsh.2.2 11 (notN_of (by kernel_rfl))).trans rfl)
                      obtain ⟨s_l, a_l, L_l, c_l, b_l, M_l, d_l, tb_l, hr_l⟩ := (HLI.out.below hW)
                      have xl0 := tb_l.cell (i := 0) rfl
                      have xl1 := tb_l.cell (i := 1) rfl
                      have xl2 := tb_l.cell (i := 2) rfl
                      clear hsh
                      match ix, hi, hio with
                      | 0, _, hio =>
                        cases hio
                        exact hwp_val (v := .agg #[.bool s_l, .slice a_l L_l c_l, .slice b_l M_l d_l]) (w' := W) (by simp [execOp, Act.eval, t11, xl0, xl1, xl2, go_sem]) ⟨_, rfl, hr_l, hW, Below.refl _ _⟩
                      | 1, _, hio =>
                        cases hio
                        refine hwp_enter (f := 53) (args := #[.int .i64 (65535)]) (by simp [execOp, Act.eval, go_sem]) ?_
                        refine (wholeS (65535) 5 W (by omega) (by omega) (by decide)).mono ?_
                        rintro ex wy ⟨vn, rfl, hq, hb⟩
                        exact ⟨vn, rfl, _, rfl, hq, hW.trans (hb.mono hsz), hb⟩
                      | 2, _, hio =>
                        cases hio
                        have p0 := hpre ⟨0, .data⟩ (by simp) (by rfl) _ _ rfl rfl
                        obtain ⟨v0, hv0⟩ : ∃ v, ax.tmps.getD 80 undef = v := ⟨_, rfl⟩
                        have r0 : IsR W.heap.size W (ax.tmps.getD 80 undef) (PL) (d * fade.toNat) 33 22 := p0
                        rw [hv0] at r0
                        have f0 : ax.tmps[80]?.getD undef = v0 := (Array.getD_eq_getD_getElem? ..).symm.trans hv0
                        clear p0 hv0
                        have p1 := hpre ⟨1, .data⟩ (by simp) (by rfl) _ _ rfl rfl
                        obtain ⟨v1, hv1⟩ : ∃ v, ax.tmps.getD 81 undef = v := ⟨_, rfl⟩
                        have r1 : IsR W.heap.size W (ax.tmps.getD 81 undef) (65535) (1) 5 0 := p1
                        rw [hv1] at r1
                        have f1 : ax.tmps[81]?.getD undef = v1 := (Array.getD_eq_getD_getElem? ..).symm.trans hv1
                        clear p1 hv1
                        refine hwp_enter (f := 82) (args := #[v0, v1]) (by simp [execOp, Act.eval, f0, f1, go_sem]) ?_
                        refine ((overI W.heap.size _ _ 33 22 5 0 _ _ _ _ W (Nat.le_refl _) (by omega) (by omega) (by omega) (by omega) (by omega) (by omega) (by omega) r0 r1).mono (fun _ _ h => newS_cast h (Int.mul_one _) rfl)).mono ?_
                        rintro ex wy ⟨vn, rfl, hq, hb⟩
                        exact ⟨vn, rfl, _, rfl, hq, hW.trans (hb.mono hsz), hb⟩
                      | ix + 3, hi, _ => exact absurd hi (by omega)
                    · intro ax wIx hsh hW hφ
                      have q0 : IsR wIx.heap.size wIx (ax.tmps.getD 80 undef) (PL) (d * fade.toNat) 33 22 := hφ 0 _ _ (by omega) rfl rfl
                      obtain ⟨v0, e0⟩ : ∃ v, ax.tmps.getD 80 undef = v := ⟨_, rfl⟩
                      rw [e0] at q0
                      have Q0 := Lib.hid q0
                      clear q0
                      have q1 : IsR wIx.heap.size wIx (ax.tmps.getD 81 undef) (65535) (1) 5 0 := hφ 1 _ _ (by omega) rfl rfl
                      obtain ⟨v1, e1⟩ : ∃ v, ax.tmps.getD 81 undef = v := ⟨_, rfl⟩
                      rw [e1] at q1
                      have Q1 := Lib.hid q1
                      clear q1
                      have q2 : IsR wIx.heap.size wIx (ax.tmps.getD 82 undef) (PL) (d * fade.toNat * 65535) 33 27 := hφ 2 _ _ (by omega) rfl rfl
                      obtain ⟨v2, e2⟩ : ∃ v, ax.tmps.getD 82 undef = v := ⟨_, rfl⟩
                      rw [e2] at q2
                      have Q2 := Lib.hid q2
                      clear q2
                      rw [shape_puts hsh [(80, v0), (81, v1), (82, v2)] [80, 81, 82] rfl (by kernel_rfl) ⟨e0, e1, e2, trivial⟩]
                      clear hφ hsh e0 e1 e2
                      simp only [putsN, List.foldl_cons, List.foldl_nil, List.drop_succ_cons, List.drop_zero, Act.put, List.setIfInBounds_toArray, List.set_cons_succ, List.set_cons_zero]
                      have HKn := Lib.hid (HKI.out.below hW)
                      clear hW
                      refine wpList_storeQ wIx rfl _ _ rfl (w.heap.size + 2) rfl rfl Q2.out HKn.out.2.1 ?_
                      intro wIy QY SY
                      simp only [Act.put]
                      have HBE := Lib.hid (below_gro HKn.out.2.2.2.2 SY.1 HKn.out.2.2.2.2.size (by omega))
                      obtain ⟨s8, a8, L8, c8, b8, M8, d8, tb8, hr8⟩ := QY
                      have x0 := tb8.cell (i := 0) rfl
                      have x1 := tb8.cell (i := 1) rfl
                      have x2 := tb8.cell (i := 2) rfl
                      have HR8 := Lib.hid (hr8.wide (m' := 40) (n' := 40) (by omega) (by omega))
                      clear hr8 tb8 SY
                      go_wp2_with fail
                      exact bodyPost_ret (v := .agg #[.bool s8, .slice a8 L8 c8, .slice b8 M8 d8]) (by simp [results, Try.results88, go_sem, x0, x1, x2]) rfl ⟨_, _, _, rfl, HR8.out, by rw [HV.out]; exact HRAT.out, HBE.out⟩
      · have hjj : j = l.length := by omega
        subst hjj
        have HV := Lib.hid (show RES = (0, 1) by rw [HR.out, Nat.sub_self]; rfl)
        clear HR
        go_wp2_with fail
        refine (wholeS 0 1 _ (by omega) (by omega) (by decide)).mono ?_
        rintro e wa ⟨va, rfl, hqa, hba⟩
        have HKa := Lib.hid (HK.out.below hba)
        obtain ⟨s8, a8, L8, c8, b8, M8, d8, rfl⟩ := isR_shape hqa
        have HQ8 := Lib.hid hqa
        clear hba hqa HK
        obtain ⟨s7, a7, L7, c7, b7, M7, d7, tb7⟩ := HKa.out.2.1
        have hlr := tb7.lt
        have x0 : wa.cell? ⟨w.heap.size + 1 + 1, 0, none⟩ = _ := tb7.cell (i := 0) rfl
        have x1 : wa.cell? ⟨w.heap.size + 1 + 1, 1, none⟩ = _ := tb7.cell (i := 1) rfl
        have x2 : wa.cell? ⟨w.heap.size + 1 + 1, 2, none⟩ = _ := tb7.cell (i := 2) rfl
        have f0 : wa.frozen? ⟨w.heap.size + 1 + 1, 0, none⟩ = _ := tb7.frozen 0
        have f1 : wa.frozen? ⟨w.heap.size + 1 + 1, 1, none⟩ = _ := tb7.frozen 1
        have f2 : wa.frozen? ⟨w.heap.size + 1 + 1, 2, none⟩ = _ := tb7.frozen 2
        have HS8 := Lib.hid ((stq_of (w := wa) (g := w.heap.size + 1 + 1) ⟨_, _, _, _, _, _, _, tb7⟩ (.bool s8) (.slice a8 L8 c8) (.slice b8 M8 d8)).2)
        clear tb7
        go_wp2_with fail
        refine bodyPost_ret (v := .agg #[.bool s8, .slice a8 L8 c8, .slice b8 M8 d8]) (by simp [results, Try.results88, go_sem, x0, x1, x2]) rfl ⟨_, 0, 1, rfl, ?_, by rw [HV.out]; rfl, below_set3 HKa.out.2.2.2.2 (by omega)⟩
        rw [HS8.out.2]
        exact HS8.out.1 _ _ _ _ _ _ (HQ8.out.wide (by omega) (by omega))
end Go.Proofs.Ytopmdeefcjdadaa
