/- The way of an effect for a unit of several at a clock: the reference. (printed by wip/gen/gen_reway.py) -/
import Derived.Test.YtopmdeefcjdadaaT28M26
import Derived.Test.YtopmdeefcjdadaaT28M27
import Derived.Deep.DeepCutAuto

namespace Go.Proofs.Ytopmdeefcjdadaa
open Go.RowKit
set_option linter.unusedVariables false
set_option linter.unusedSimpArgs false

def WyK (w : World) (E : Array Value) (xb ob : Nat) (x : Int) (d : Nat) (W : World) : Prop := TBox W w.heap.size 24 E ∧ AnyQ W (w.heap.size + 1) ∧ QBox W xb x d 15 15 ∧ QBox W ob 1 1 1 0 ∧ (w.heap.size + 2 ≤ xb ∧ w.heap.size + 2 ≤ ob ∧ xb ≠ ob) ∧ Below w.heap.size w W
section
variable {w W W' : World} {E : Array Value} {xb ob g d : Nat} {x x' : Int}
theorem WyK.below (h : WyK w E xb ob x d W) (hb : Below W.heap.size W W') : WyK w E xb ob x d W' := by
  obtain ⟨h1, h2, h3, h4, h5, h6⟩ := h
  exact ⟨h1.below hb, h2.below hb, h3.below hb, h4.below hb, h5, h6.trans (hb.mono h6.size)⟩
theorem WyK.stq (h : WyK w E xb ob x d W) (hs : Stq W g W') (h1 : w.heap.size + 2 ≤ g) (h2 : xb ≠ g) (h3 : ob ≠ g) : WyK w E xb ob x d W' := by
  obtain ⟨k1, k2, k3, k4, k5, k6⟩ := h
  exact ⟨k1.gro hs.1 (by omega), k2.stq hs (by omega), k3.stq hs h2, k4.stq hs h3, k5, below_gro k6 hs.1 k6.size (by omega)⟩
theorem WyK.stx (h : WyK w E xb ob x d W) (hs : Stq W xb W') (hq : QBox W' xb x' d 15 15) : WyK w E xb ob x' d W' := by
  obtain ⟨k1, k2, k3, k4, k5, k6⟩ := h
  exact ⟨k1.gro hs.1 (by omega), k2.stq hs (by omega), hq, k4.stq hs (by omega), k5, below_gro k6 hs.1 k6.size (by omega)⟩
theorem WyK.size (h : WyK w E xb ob x d W) : w.heap.size + 2 ≤ W.heap.size ∧ xb < W.heap.size ∧ ob < W.heap.size := by
  obtain ⟨k1, k2, k3, k4, k5, k6⟩ := h
  have := k3.any.lt
  have := k4.any.lt
  omega
end
theorem ord_pos {a : Int} : 0 < ordI a ↔ 0 < a := by
  unfold ordI
  by_cases c : a = 0
  · rw [if_pos c]; omega
  · rw [if_neg c]; split <;> omega
theorem AnyQ.q0 {g : Nat} {W : World} (h : AnyQ W g) : ∃ s ao L cap bo M cap2, TBox W g 87 #[.bool s, .slice ao L cap, .slice bo M cap2] ∧ True := by
  obtain ⟨s, ao, L, cap, bo, M, cap2, h1⟩ := h
  exact ⟨s, ao, L, cap, bo, M, cap2, h1, trivial⟩
theorem QBox.wide {w : World} {g D m n m' n' : Nat} {P : Int} (h : QBox w g P D m n) (hm : m ≤ m') (hn : n ≤ n') : QBox w g P D m' n' := by
  obtain ⟨s, ao, L, cap, bo, M, cap2, h1, h2⟩ := h
  exact ⟨s, ao, L, cap, bo, M, cap2, h1, h2.wide hm hn⟩
theorem up_ord {pn : Int} {d : Nat} (hd : 0 < d) : (ordI (2 * pn * d * ((1 : Nat) : Int) - 1 * ((d * d : Nat) : Int)) = 1 ∧ (d : Int) < 2 * pn) ∨ (ordI (2 * pn * d * ((1 : Nat) : Int) - 1 * ((d * d : Nat) : Int)) = 0 ∧ ¬ (d : Int) < 2 * pn) ∨ (ordI (2 * pn * d * ((1 : Nat) : Int) - 1 * ((d * d : Nat) : Int)) = -1 ∧ ¬ (d : Int) < 2 * pn) := by
  have e : 2 * pn * (d : Int) * ((1 : Nat) : Int) - 1 * ((d * d : Nat) : Int) = (2 * pn - d) * (d : Int) := by
    push_cast
    grind
  rw [e]
  have hd' : (0 : Int) < (d : Int) := by omega
  unfold ordI
  rcases Int.lt_trichotomy (2 * pn - d) 0 with c | c | c
  · have h1 := Int.mul_neg_of_neg_of_pos c hd'
    right; right
    rw [if_neg (by omega), if_pos h1]
    exact ⟨rfl, by omega⟩
  · right; left
    rw [c, Int.zero_mul, if_pos rfl]
    exact ⟨rfl, by omega⟩
  · have h1 := Int.mul_pos c hd'
    left
    rw [if_neg (by omega), if_neg (by omega)]
    exact ⟨rfl, by omega⟩
theorem rat1 {u : Int} {d : Nat} : u * (d : Int) * (d : Int) = u * ((d * d : Nat) : Int) := by
  rw [Int.natCast_mul, Int.mul_assoc]
section
variable (width : Int) (l : List Stp) (c pn pd pk index : Int)
theorem wv1 : wvP 1 width l c pn pd pk index = (peakV pn pd, pd) := by unfold wvP; rw [if_pos rfl]
theorem wv2 : wvP 2 width l c pn pd pk index = (pn, pd) := by unfold wvP; rw [if_neg (by decide), if_pos rfl]
theorem wv3 : wvP 3 width l c pn pd pk index = (pd - pn, pd) := by unfold wvP; rw [if_neg (by decide), if_neg (by decide), if_pos rfl]
theorem wv4 : wvP 4 width l c pn pd pk index = (sqN width pn pd, 1) := by unfold wvP; rw [if_neg (by decide), if_neg (by decide), if_neg (by decide), if_pos rfl]
theorem wv5 : wvP 5 width l c pn pd pk index = (peakV pn pd * (peakV pn pd * (3 * pd - 2 * peakV pn pd)), pd * (pd * pd)) := by unfold wvP; rw [if_neg (by decide), if_neg (by decide), if_neg (by decide), if_neg (by decide), if_pos rfl]
theorem wv6 : wvP 6 width l c pn pd pk index = (chN index pk, 65536) := by unfold wvP; rw [if_neg (by decide), if_neg (by decide), if_neg (by decide), if_neg (by decide), if_neg (by decide), if_pos rfl]
theorem wv7 : wvP 7 width l c pn pd pk index = stW l (pn * c) pd l.length 0 0 := by unfold wvP; rw [if_neg (by decide), if_neg (by decide), if_neg (by decide), if_neg (by decide), if_neg (by decide), if_neg (by decide)]
end
theorem way_two {pn : Int} {d : Nat} (h : 2 * pn ≤ d) : pn * (d : Int) + pn * (d : Int) = peakV pn d * (d : Int) := by
  unfold peakV
  rw [if_pos h]
  grind
theorem way_soft {u U3 : Int} {d : Nat} (h : U3 = 3 * ((d * d * (d * d) : Nat) : Int) - (u * (d : Int) * ((d * d : Nat) : Int) + u * (d : Int) * ((d * d : Nat) : Int)) * ((1 : Nat) : Int)) :
    u * (d : Int) * (u * (d : Int)) * U3 * ((d : Int) * ((d : Int) * (d : Int))) = u * (u * (3 * (d : Int) - 2 * u)) * ((d * d * (d * d) * (1 * (d * d * (d * d))) : Nat) : Int) := by
  rw [h]
  push_cast
  grind
theorem soft_rat {pn UP U3 : Int} {d : Nat} (hUP : UP = peakV pn d * (d : Int)) (hU3 : U3 = 3 * ((d * d * (d * d) : Nat) : Int) - (UP * ((d * d : Nat) : Int) + UP * ((d * d : Nat) : Int)) * ((1 : Nat) : Int)) :
    UP * UP * U3 * ((d : Int) * ((d : Int) * (d : Int))) = peakV pn d * (peakV pn d * (3 * (d : Int) - 2 * peakV pn d)) * ((d * d * (d * d) * (1 * (d * d * (d * d))) : Nat) : Int) := by
  subst hUP
  exact way_soft hU3
set_option maxRecDepth 100000 in
set_option maxHeartbeats 16000000 in
theorem rway_any (form low high cycle width spread : Int) (back rel : Bool) (ao : Option Addr) (cap : Nat) (l : List Stp) (index count clock c pn pd pk : Int) (w : World) (hf : 1 ≤ form ∧ form ≤ 7) (hs : StepsAt w.heap.size w ao l) (hl : l.length ≤ 50) (hall : l.all stpB = true) (hc : 0 ≤ cycle ∧ cycle ≤ 3600000) (h6 : form ≠ 7 → l.length = 0) (h7 : form = 7 → cycle = 0)
    (hcc : cycle + sumS l = c) (c0 : 1 ≤ c) (c1 : c ≤ 3600000) (n0 : 1 ≤ count) (n1 : count ≤ 400) (i0 : 0 ≤ index) (i1 : index ≤ 400) (k0 : 0 ≤ clock) (k1 : clock ≤ 36360000000) (s0 : -10000 ≤ spread) (s1 : spread ≤ 10000) (hwd0 : 0 ≤ width) (hwd1 : width ≤ 1000)
    (hpn : whN back (whY c spread index count clock) (whD c count) = pn) (hpd : whD c count = pd) (hpk : whY c spread index count clock / whD c count = pk) :
    Calls Try.prog 51 #[.agg #[.int .i64 form, .int .i64 low, .int .i64 high, .int .i64 cycle, .int .i64 width, .int .i64 spread, .bool back, .bool rel, .slice ao l.length cap], .int .i64 index, .int .i64 count, .int .i64 clock] w (NewW (wvP form width l c pn pd pk index) 130 130 w) := by
  have CC := Lib.hid (fun (W : World) (hb : Below w.heap.size w W) => rcycle_all form low high cycle width spread c back rel ao cap l W (stepsAt_up hs hb) hl hall hc h6 h7 hcc)
  have HF7 := Lib.hid (show form = 1 ∨ form = 2 ∨ form = 3 ∨ form = 4 ∨ form = 5 ∨ form = 6 ∨ form = 7 from by omega)
  obtain ⟨d0, d1⟩ := whD_range c0 c1 n0 n1
  have b1 := mul_both (a := clock * 1000) (b := count) (A := 36360000000000) (B := 400) (by omega) (by omega) (by omega) n1
  have b2 := mul_abs (a := spread) (b := index) (A := 10000) (B := 400) s0 s1 i0 i1
  have b3 := mul_abs (a := spread * index * 100) (b := c) (A := 400000000) (B := 3600000) (by omega) (by omega) (by omega) c1
  have hyr : -20000000000000000 ≤ whY c spread index count clock ∧ whY c spread index count clock ≤ 20000000000000000 := by
    unfold whY
    omega
  obtain ⟨d, hd'⟩ : ∃ d : Nat, d = pd.toNat := ⟨_, rfl⟩
  rw [hpd] at d0 d1 hpn hpk
  have hdI : pd = (d : Int) := by omega
  have HY := Lib.hid (show clock * (((1000 * count).toNat : Nat) : Int) - spread * index * (((100 * c).toNat : Nat) : Int) = whY c spread index count clock from by
    unfold whY
    rw [show (((1000 * count).toNat : Nat) : Int) = 1000 * count by omega, show (((100 * c).toNat : Nat) : Int) = 100 * c by omega]
    grind)
  have HD := Lib.hid (show (100 * c).toNat * (1000 * count).toNat = d from by
    have e : (((100 * c).toNat * (1000 * count).toNat : Nat) : Int) = pd := by
      rw [Int.natCast_mul, show (((1000 * count).toNat : Nat) : Int) = 1000 * count by omega, show (((100 * c).toNat : Nat) : Int) = 100 * c by omega, ← hpd]
      unfold whD
      grind
    omega)
  subst hdI
  generalize whY c spread index count clock = Y at *
  have hm := Int.emod_add_mul_ediv Y d
  have hm1 := Int.emod_nonneg Y (show (d : Int) ≠ 0 by omega)
  have hm2 := Int.emod_lt_of_pos Y (show 0 < (d : Int) by omega)
  have hq1 : Y / d ≤ 20000000000000000 := Int.le_trans (Int.ediv_le_ediv (by omega) hyr.2) (Int.ediv_le_self _ (by omega))
  have hq0 : -20000000000000001 ≤ Y / d := by
    rw [Int.le_ediv_iff_mul_le (by omega)]
    omega
  have HPN := Lib.hid (show pn = if back = true ∧ 0 < Y % d then d - Y % d else Y % d from by rw [← hpn]; rfl)
  rw [hpk] at hm hq1 hq0
  obtain ⟨x0, hx0⟩ : ∃ x0, x0 = Y % d := ⟨_, rfl⟩
  rw [← hx0] at hm hm1 hm2 HPN
  have HX0 := Lib.hid (show Y * ((1 : Nat) : Int) - pk * (d : Int) = x0 from by rw [Int.mul_comm pk]; omega)
  have HPK := Lib.hid hpk
  have hpr : 0 ≤ pn ∧ pn ≤ d := by rw [HPN.out]; split <;> omega
  have hd : d ≤ 10 ^ 15 := by
    have : d ≤ 1000000000000000 := by omega
    exact this
  have g11 : clock ≤ 10 ^ 11 := by
    have : clock ≤ 100000000000 := by omega
    exact this
  have g9 : 100 * c ≤ 10 ^ 9 := by
    have : 100 * c ≤ 1000000000 := by omega
    exact this
  have g7 : (spread * index).natAbs ≤ 10 ^ 7 := by
    have : (spread * index).natAbs ≤ 10000000 := by omega
    exact this
  have g6 : (1000 * count).natAbs ≤ 10 ^ 6 := by
    have : (1000 * count).natAbs ≤ 1000000 := by omega
    exact this
  have g18 : pk.natAbs ≤ 10 ^ 18 := by
    have : pk.natAbs ≤ 1000000000000000000 := by omega
    exact this
  have g15 : x0.natAbs ≤ 10 ^ 15 := by
    have : x0.natAbs ≤ 1000000000000000 := by omega
    exact this
  have gp : pn.natAbs ≤ 10 ^ 15 := by
    have : pn.natAbs ≤ 1000000000000000 := by omega
    exact this
  have g4 : width ≤ 10 ^ 4 := by
    have : width ≤ 10000 := by omega
    exact this
  have a1 : IntKind.i64.wrap (100 * c) = 100 * c := IntWalk.i64_in _ (by omega)
  have a2 : IntKind.i64.wrap (spread * index) = spread * index := IntWalk.i64_in _ (by omega)
  have a3 : IntKind.i64.wrap (1000 * count) = 1000 * count := IntWalk.i64_in _ (by omega)
  generalize hRES : wvP form width l c pn d pk index = RES
  have HRS := Lib.hid hRES
  clear hRES
  have HR := Lib.hid (show Y.natAbs / d ≤ 4611686018427387904 from Nat.le_trans (Nat.div_le_self _ _) (by omega))
  have HS := Lib.hid hs
  have HALL := Lib.hid (And.intro hall (And.intro hc (And.intro h6 (And.intro h7 hcc))))
  clear hs hall hc h6 h7 hcc hpn hpd hpk hx0 hm b1 b3 hyr hd'
  have HE := Lib.hid (show TBox ((w.alloc (.cells #[.int .i64 form, .int .i64 low, .int .i64 high, .int .i64 cycle, .int .i64 width, .int .i64 spread, .bool back, .bool rel, .slice ao l.length cap] 24)).alloc (.cells #[.bool false, .slice none 0 0, .slice none 0 0] 87)) w.heap.size 24 #[.int .i64 form, .int .i64 low, .int .i64 high, .int .i64 cycle, .int .i64 width, .int .i64 spread, .bool back, .bool rel, .slice ao l.length cap] from (TBox.new w _ _).alloc _)
  have HRB := Lib.hid (show AnyQ ((w.alloc (.cells #[.int .i64 form, .int .i64 low, .int .i64 high, .int .i64 cycle, .int .i64 width, .int .i64 spread, .bool back, .bool rel, .slice ao l.length cap] 24)).alloc (.cells #[.bool false, .slice none 0 0, .slice none 0 0] 87)) (w.heap.size + 1) from by
    have h := TBox.new (w.alloc (.cells #[.int .i64 form, .int .i64 low, .int .i64 high, .int .i64 cycle, .int .i64 width, .int .i64 spread, .bool back, .bool rel, .slice ao l.length cap] 24)) #[.bool false, .slice none 0 0, .slice none 0 0] 87
    simp only [World.size_alloc] at h
    exact ⟨_, _, _, _, _, _, _, h⟩)
  have HB := Lib.hid (show Below w.heap.size w ((w.alloc (.cells #[.int .i64 form, .int .i64 low, .int .i64 high, .int .i64 cycle, .int .i64 width, .int .i64 spread, .bool back, .bool rel, .slice ao l.length cap] 24)).alloc (.cells #[.bool false, .slice none 0 0, .slice none 0 0] 87)) from ((Below.refl _ _).alloc (Nat.le_refl _) _).alloc (by simp) _)
  have hz1 : w.heap.size + 2 = (((w.alloc (.cells #[.int .i64 form, .int .i64 low, .int .i64 high, .int .i64 cycle, .int .i64 width, .int .i64 spread, .bool back, .bool rel, .slice ao l.length cap] 24)).alloc (.cells #[.bool false, .slice none 0 0, .slice none 0 0] 87))).heap.size := by simp
  go_enter Try.func51, Try.ntmps51
  go_upto_region 1 with fail
  generalize ((w.alloc (.cells #[.int .i64 form, .int .i64 low, .int .i64 high, .int .i64 cycle, .int .i64 width, .int .i64 spread, .bool back, .bool rel, .slice ao l.length cap] 24)).alloc (.cells #[.bool false, .slice none 0 0, .slice none 0 0] 87)) = w1 at *
  have hz2 : w.heap.size + 2 ≤ w1.heap.size := by omega
  have hz1 : w.heap.size ≤ w1.heap.size := by omega
  refine region_heads (by kernel_rfl) 16 (by simp) (by kernel_rfl) (by kernel_rfl) (by kernel_rfl) (by kernel_rfl) (fun jx vx wx => match jx with | 0 => vx = (.int .i64 clock) | 1 => vx = (.agg #[.int .i64 form, .int .i64 low, .int .i64 high, .int .i64 cycle, .int .i64 width, .int .i64 spread, .bool back, .bool rel, .slice ao l.length cap]) | 2 => vx = (.int .i64 c) | 3 => vx = (.int .i64 (100 * c)) | 4 => IsR wx.heap.size wx vx (clock) ((100 * c).toNat) 11 9 | 5 => vx = (.pointer (some ⟨w.heap.size, 5, none⟩)) | 6 => vx = (.int .i64 spread) | 7 => vx = (.int .i64 index) | 8 => vx = (.int .i64 (spread * index)) | 9 => IsR wx.heap.size wx vx (spread * index) (1) 7 0 | 10 => vx = (.int .i64 count) | 11 => vx = (.int .i64 (1000 * count)) | 12 => IsR wx.heap.size wx vx (1000 * count) (1) 6 0 | 13 => IsR wx.heap.size wx vx (spread * index) ((1000 * count).toNat) 7 6 | 14 => IsR wx.heap.size wx vx (Y) (d) 18 15 | 15 => Box1 w1.heap.size 87 #[.bool false, .slice none 0 0, .slice none 0 0] vx wx | _ => True) (fun W => Below w1.heap.size w1 W) (fun wx wy => Below wx.heap.size wx wy) (Below.refl _ _).drew ?_ ?_ ?_ ?_
  · intro jx vx wx wy h g
    match jx, h with
    | 0, h => exact h
    | 1, h => exact h
    | 2, h => exact h
    | 3, h => exact h
    | 4, h => exact IsR.up h g
    | 5, h => exact h
    | 6, h => exact h
    | 7, h => exact h
    | 8, h => exact h
    | 9, h => exact IsR.up h g
    | 10, h => exact h
    | 11, h => exact h
    | 12, h => exact IsR.up h g
    | 13, h => exact IsR.up h g
    | 14, h => exact IsR.up h g
    | 15, h => exact Box1.up h g
    | jx + 16, h => exact trivial
  · intro jx ox dx hj ho hd
    exact insN_of (by kernel_rfl) hj ho hd
  · intro ix ox ax W hi hio hsh hW hpre
    have hsz : w1.heap.size ≤ W.heap.size := hW.size
    have GA : ∀ ob, Below W.heap.size W (W.alloc ob) := fun ob => (Below.refl _ _).alloc (Nat.le_refl _) ob
    have WA : ∀ ob, Below w1.heap.size w1 (W.alloc ob) := fun ob => hW.alloc hsz ob
    have t1 : ax.tmps[1]?.getD undef = (.int .i64 index) := (Array.getD_eq_getD_getElem? ..).symm.trans ((hsh.2.2 1 (notN_of (by kernel_rfl))).trans rfl)
    have t2 : ax.tmps[2]?.getD undef = (.int .i64 count) := (Array.getD_eq_getD_getElem? ..).symm.trans ((hsh.2.2 2 (notN_of (by kernel_rfl))).trans rfl)
    have t3 : ax.tmps[3]?.getD undef = (.int .i64 clock) := (Array.getD_eq_getD_getElem? ..).symm.trans ((hsh.2.2 3 (notN_of (by kernel_rfl))).trans rfl)
    have t4 : ax.tmps[4]?.getD undef = (.pointer (some ⟨w.heap.size, 0, none⟩)) := (Array.getD_eq_getD_getElem? ..).symm.trans ((hsh.2.2 4 (notN_of (by kernel_rfl))).trans rfl)
    have e0 := (HE.out.below hW).cell (i := 0) rfl
    have e1 := (HE.out.below hW).cell (i := 1) rfl
    have e2 := (HE.out.below hW).cell (i := 2) rfl
    have e3 := (HE.out.below hW).cell (i := 3) rfl
    have e4 := (HE.out.below hW).cell (i := 4) rfl
    have e5 := (HE.out.below hW).cell (i := 5) rfl
    have e6 := (HE.out.below hW).cell (i := 6) rfl
    have e7 := (HE.out.below hW).cell (i := 7) rfl
    have e8 := (HE.out.below hW).cell (i := 8) rfl
    clear hsh
    match ix, hi, hio with
    | 0, _, hio =>
      cases hio
      exact hwp_val (v := .int .i64 clock) (w' := W) (by simp [execOp, Act.eval, t3, go_sem]) ⟨_, rfl, rfl, hW, Below.refl _ _⟩
    | 1, _, hio =>
      cases hio
      exact hwp_val (v := .agg #[.int .i64 form, .int .i64 low, .int .i64 high, .int .i64 cycle, .int .i64 width, .int .i64 spread, .bool back, .bool rel, .slice ao l.length cap]) (w' := W) (by simp [execOp, Act.eval, t4, e0, e1, e2, e3, e4, e5, e6, e7, e8, go_sem]) ⟨_, rfl, rfl, hW, Below.refl _ _⟩
    | 2, _, hio =>
      cases hio
      have p1 := hpre ⟨1, .data⟩ (by simp) (by rfl) _ _ rfl rfl
      have f1 : ax.tmps[15]?.getD undef = (.agg #[.int .i64 form, .int .i64 low, .int .i64 high, .int .i64 cycle, .int .i64 width, .int .i64 spread, .bool back, .bool rel, .slice ao l.length cap]) := (Array.getD_eq_getD_getElem? ..).symm.trans p1
      refine hwp_enter (f := 79) (args := #[.agg #[.int .i64 form, .int .i64 low, .int .i64 high, .int .i64 cycle, .int .i64 width, .int .i64 spread, .bool back, .bool rel, .slice ao l.length cap]]) (by simp [execOp, Act.eval, f1, go_sem]) ?_
      refine (CC.out W (HB.out.trans (hW.mono hz1))).mono ?_
      rintro ex wy ⟨rfl, hb⟩
      exact ⟨_, rfl, _, rfl, rfl, hW.trans (hb.mono hsz), hb⟩
    | 3, _, hio =>
      cases hio
      have p2 := hpre ⟨2, .data⟩ (by simp) (by rfl) _ _ rfl rfl
      have f2 : ax.tmps[16]?.getD undef = (.int .i64 c) := (Array.getD_eq_getD_getElem? ..).symm.trans p2
      exact hwp_val (v := .int .i64 (100 * c)) (w' := W) (by simp [execOp, Act.eval, a1, f2, go_sem]) ⟨_, rfl, rfl, hW, Below.refl _ _⟩
    | 4, _, hio =>
      cases hio
      have p0 := hpre ⟨0, .data⟩ (by simp) (by rfl) _ _ rfl rfl
      have f0 : ax.tmps[14]?.getD undef = (.int .i64 clock) := (Array.getD_eq_getD_getElem? ..).symm.trans p0
      have p3 := hpre ⟨3, .data⟩ (by simp) (by rfl) _ _ rfl rfl
      have f3 : ax.tmps[17]?.getD undef = (.int .i64 (100 * c)) := (Array.getD_eq_getD_getElem? ..).symm.trans p3
      refine hwp_enter (f := 80) (args := #[.int .i64 clock, .int .i64 (100 * c)]) (by simp [execOp, Act.eval, f0, f3, go_sem]) ?_
      refine (partI clock (100 * c) 11 9 W (by omega) (by omega) (by omega) (by omega) g11 g9).mono ?_
      rintro ex wy ⟨vn, rfl, hq, hb⟩
      exact ⟨vn, rfl, _, rfl, hq, hW.trans (hb.mono hsz), hb⟩
    | 5, _, hio =>
      cases hio
      exact hwp_val (v := .pointer (some ⟨w.heap.size, 5, none⟩)) (w' := W) (by simp [execOp, Act.eval, t4, go_sem]) ⟨_, rfl, rfl, hW, Below.refl _ _⟩
    | 6, _, hio =>
      cases hio
      have p5 := hpre ⟨5, .data⟩ (by simp) (by rfl) _ _ rfl rfl
      have f5 : ax.tmps[19]?.getD undef = (.pointer (some ⟨w.heap.size, 5, none⟩)) := (Array.getD_eq_getD_getElem? ..).symm.trans p5
      exact hwp_val (v := .int .i64 spread) (w' := W) (by simp [execOp, Act.eval, e5, f5, go_sem]) ⟨_, rfl, rfl, hW, Below.refl _ _⟩
    | 7, _, hio =>
      cases hio
      exact hwp_val (v := .int .i64 index) (w' := W) (by simp [execOp, Act.eval, t1, go_sem]) ⟨_, rfl, rfl, hW, Below.refl _ _⟩
    | 8, _, hio =>
      cases hio
      have p6 := hpre ⟨6, .data⟩ (by simp) (by rfl) _ _ rfl rfl
      have f6 : ax.tmps[20]?.getD undef = (.int .i64 spread) := (Array.getD_eq_getD_getElem? ..).symm.trans p6
      have p7 := hpre ⟨7, .data⟩ (by simp) (by rfl) _ _ rfl rfl
      have f7 : ax.tmps[21]?.getD undef = (.int .i64 index) := (Array.getD_eq_getD_getElem? ..).symm.trans p7
      exact hwp_val (v := .int .i64 (spread * index)) (w' := W) (by simp [execOp, Act.eval, a2, f6, f7, go_sem]) ⟨_, rfl, rfl, hW, Below.refl _ _⟩
    | 9, _, hio =>
      cases hio
      have p8 := hpre ⟨8, .data⟩ (by simp) (by rfl) _ _ rfl rfl
      have f8 : ax.tmps[22]?.getD undef = (.int .i64 (spread * index)) := (Array.getD_eq_getD_getElem? ..).symm.trans p8
      refine hwp_enter (f := 53) (args := #[.int .i64 (spread * index)]) (by simp [execOp, Act.eval, f8, go_sem]) ?_
      refine (wholeS (spread * index) 7 W (by omega) (by omega) g7).mono ?_
      rintro ex wy ⟨vn, rfl, hq, hb⟩
      exact ⟨vn, rfl, _, rfl, hq, hW.trans (hb.mono hsz), hb⟩
    | 10, _, hio =>
      cases hio
      exact hwp_val (v := .int .i64 count) (w' := W) (by simp [execOp, Act.eval, t2, go_sem]) ⟨_, rfl, rfl, hW, Below.refl _ _⟩
    | 11, _, hio =>
      cases hio
      have p10 := hpre ⟨10, .data⟩ (by simp) (by rfl) _ _ rfl rfl
      have f10 : ax.tmps[24]?.getD undef = (.int .i64 count) := (Array.getD_eq_getD_getElem? ..).symm.trans p10
      exact hwp_val (v := .int .i64 (1000 * count)) (w' := W) (by simp [execOp, Act.eval, a3, f10, go_sem]) ⟨_, rfl, rfl, hW, Below.refl _ _⟩
    | 12, _, hio =>
      cases hio
      have p11 := hpre ⟨11, .data⟩ (by simp) (by rfl) _ _ rfl rfl
      have f11 : ax.tmps[25]?.getD undef = (.int .i64 (1000 * count)) := (Array.getD_eq_getD_getElem? ..).symm.trans p11
      refine hwp_enter (f := 53) (args := #[.int .i64 (1000 * count)]) (by simp [execOp, Act.eval, f11, go_sem]) ?_
      refine (wholeS (1000 * count) 6 W (by omega) (by omega) g6).mono ?_
      rintro ex wy ⟨vn, rfl, hq, hb⟩
      exact ⟨vn, rfl, _, rfl, hq, hW.trans (hb.mono hsz), hb⟩
    | 13, _, hio =>
      cases hio
      have p9 := hpre ⟨9, .data⟩ (by simp) (by rfl) _ _ rfl rfl
      obtain ⟨v9, hv9⟩ : ∃ v, ax.tmps.getD 23 undef = v := ⟨_, rfl⟩
      have r9 : IsR W.heap.size W (ax.tmps.getD 23 undef) (spread * index) (1) 7 0 := p9
      rw [hv9] at r9
      have f9 : ax.tmps[23]?.getD undef = v9 := (Array.getD_eq_getD_getElem? ..).symm.trans hv9
      clear p9 hv9
      have p12 := hpre ⟨12, .data⟩ (by simp) (by rfl) _ _ rfl rfl
      obtain ⟨v12, hv12⟩ : ∃ v, ax.tmps.getD 26 undef = v := ⟨_, rfl⟩
      have r12 : IsR W.heap.size W (ax.tmps.getD 26 undef) (1000 * count) (1) 6 0 := p12
      rw [hv12] at r12
      have f12 : ax.tmps[26]?.getD undef = v12 := (Array.getD_eq_getD_getElem? ..).symm.trans hv12
      clear p12 hv12
      refine hwp_enter (f := 82) (args := #[v9, v12]) (by simp [execOp, Act.eval, f9, f12, go_sem]) ?_
      refine ((overI W.heap.size _ _ 7 0 6 0 _ _ _ _ W (Nat.le_refl _) (by omega) (by omega) (by omega) (by omega) (by omega) (by omega) (by omega) r9 r12).mono (fun _ _ h => newS_cast h (Int.mul_one _) (Nat.one_mul _))).mono ?_
      rintro ex wy ⟨vn, rfl, hq, hb⟩
      exact ⟨vn, rfl, _, rfl, hq, hW.trans (hb.mono hsz), hb⟩
    | 14, _, hio =>
      cases hio
      have p4 := hpre ⟨4, .data⟩ (by simp) (by rfl) _ _ rfl rfl
      obtain ⟨v4, hv4⟩ : ∃ v, ax.tmps.getD 18 undef = v := ⟨_, rfl⟩
      have r4 : IsR W.heap.size W (ax.tmps.getD 18 undef) (clock) ((100 * c).toNat) 11 9 := p4
      rw [hv4] at r4
      have f4 : ax.tmps[18]?.getD undef = v4 := (Array.getD_eq_getD_getElem? ..).symm.trans hv4
      clear p4 hv4
      have p13 := hpre ⟨13, .data⟩ (by simp) (by rfl) _ _ rfl rfl
      obtain ⟨v13, hv13⟩ : ∃ v, ax.tmps.getD 27 undef = v := ⟨_, rfl⟩
      have r13 : IsR W.heap.size W (ax.tmps.getD 27 undef) (spread * index) ((1000 * count).toNat) 7 6 := p13
      rw [hv13] at r13
      have f13 : ax.tmps[27]?.getD undef = v13 := (Array.getD_eq_getD_getElem? ..).symm.trans hv13
      clear p13 hv13
      refine hwp_enter (f := 81) (args := #[v4, v13]) (by simp [execOp, Act.eval, f4, f13, go_sem]) ?_
      refine ((minusS W.heap.size _ _ 11 9 7 6 18 _ _ _ _ W (Nat.le_refl _) (by omega) (by omega) (by omega) (by omega) r4 r13).mono (fun _ _ h => newS_cast h HY.out HD.out)).mono ?_
      rintro ex wy ⟨vn, rfl, hq, hb⟩
      exact ⟨vn, rfl, _, rfl, hq, hW.trans (hb.mono hsz), hb⟩
    | 15, _, hio =>
      cases hio
      exact hwp_val (v := .pointer (some ⟨W.heap.size, 0, none⟩)) (w' := W.alloc (.cells #[.bool false, .slice none 0 0, .slice none 0 0] 87)) (by simp [execOp, Act.eval, zeroFrac_, go_sem]) ⟨_, rfl, Box1.new _ _ hsz, WA _, GA _⟩
    | ix + 16, hi, _ => exact absurd hi (by omega)
  · intro ax w2 hsh hW hφ
    have e0 : ax.tmps.getD 14 undef = (.int .i64 clock) := hφ 0 _ _ (by omega) rfl rfl
    have e1 : ax.tmps.getD 15 undef = (.agg #[.int .i64 form, .int .i64 low, .int .i64 high, .int .i64 cycle, .int .i64 width, .int .i64 spread, .bool back, .bool rel, .slice ao l.length cap]) := hφ 1 _ _ (by omega) rfl rfl
    have e2 : ax.tmps.getD 16 undef = (.int .i64 c) := hφ 2 _ _ (by omega) rfl rfl
    have e3 : ax.tmps.getD 17 undef = (.int .i64 (100 * c)) := hφ 3 _ _ (by omega) rfl rfl
    have q4 : IsR w2.heap.size w2 (ax.tmps.getD 18 undef) (clock) ((100 * c).toNat) 11 9 := hφ 4 _ _ (by omega) rfl rfl
    obtain ⟨v4, e4⟩ : ∃ v, ax.tmps.getD 18 undef = v := ⟨_, rfl⟩
    rw [e4] at q4
    have Q4 := Lib.hid q4
    clear q4
    have e5 : ax.tmps.getD 19 undef = (.pointer (some ⟨w.heap.size, 5, none⟩)) := hφ 5 _ _ (by omega) rfl rfl
    have e6 : ax.tmps.getD 20 undef = (.int .i64 spread) := hφ 6 _ _ (by omega) rfl rfl
    have e7 : ax.tmps.getD 21 undef = (.int .i64 index) := hφ 7 _ _ (by omega) rfl rfl
    have e8 : ax.tmps.getD 22 undef = (.int .i64 (spread * index)) := hφ 8 _ _ (by omega) rfl rfl
    have q9 : IsR w2.heap.size w2 (ax.tmps.getD 23 undef) (spread * index) (1) 7 0 := hφ 9 _ _ (by omega) rfl rfl
    obtain ⟨v9, e9⟩ : ∃ v, ax.tmps.getD 23 undef = v := ⟨_, rfl⟩
    rw [e9] at q9
    have Q9 := Lib.hid q9
    clear q9
    have e10 : ax.tmps.getD 24 undef = (.int .i64 count) := hφ 10 _ _ (by omega) rfl rfl
    have e11 : ax.tmps.getD 25 undef = (.int .i64 (1000 * count)) := hφ 11 _ _ (by omega) rfl rfl
    have q12 : IsR w2.heap.size w2 (ax.tmps.getD 26 undef) (1000 * count) (1) 6 0 := hφ 12 _ _ (by omega) rfl rfl
    obtain ⟨v12, e12⟩ : ∃ v, ax.tmps.getD 26 undef = v := ⟨_, rfl⟩
    rw [e12] at q12
    have Q12 := Lib.hid q12
    clear q12
    have q13 : IsR w2.heap.size w2 (ax.tmps.getD 27 undef) (spread * index) ((1000 * count).toNat) 7 6 := hφ 13 _ _ (by omega) rfl rfl
    obtain ⟨v13, e13⟩ : ∃ v, ax.tmps.getD 27 undef = v := ⟨_, rfl⟩
    rw [e13] at q13
    have Q13 := Lib.hid q13
    clear q13
    have q14 : IsR w2.heap.size w2 (ax.tmps.getD 28 undef) (Y) (d) 18 15 := hφ 14 _ _ (by omega) rfl rfl
    obtain ⟨v14, e14⟩ : ∃ v, ax.tmps.getD 28 undef = v := ⟨_, rfl⟩
    rw [e14] at q14
    have Q14 := Lib.hid q14
    clear q14
    obtain ⟨b15, e15, hb15, hl15⟩ := hφ 15 _ _ (by omega) rfl rfl
    rw [shape_puts hsh [(14, .int .i64 clock), (15, .agg #[.int .i64 form, .int .i64 low, .int .i64 high, .int .i64 cycle, .int .i64 width, .int .i64 spread, .bool back, .bool rel, .slice ao l.length cap]), (16, .int .i64 c), (17, .int .i64 (100 * c)), (18, v4), (19, .pointer (some ⟨w.heap.size, 5, none⟩)), (20, .int .i64 spread), (21, .int .i64 index), (22, .int .i64 (spread * index)), (23, v9), (24, .int .i64 count), (25, .int .i64 (1000 * count)), (26, v12), (27, v13), (28, v14), (9, .pointer (some ⟨b15, 0, none⟩))] [14, 15, 16, 17, 18, 19, 20, 21, 22, 23, 24, 25, 26, 27, 28, 9] rfl (by kernel_rfl) ⟨e0, e1, e2, e3, e4, e5, e6, e7, e8, e9, e10, e11, e12, e13, e14, e15, trivial⟩]
    clear hφ hsh e0 e1 e2 e3 e4 e5 e6 e7 e8 e9 e10 e11 e12 e13 e14 e15
    simp only [putsN, List.foldl_cons, List.foldl_nil, List.drop_succ_cons, List.drop_zero, Act.put, List.setIfInBounds_toArray, List.set_cons_succ, List.set_cons_zero]
    have hzw := hW.size
    refine wpList_storeQ w2 rfl _ _ rfl b15 rfl rfl Q14.out ⟨_, _, _, _, _, _, _, hl15⟩ ?_
    intro w3 QY SY
    simp only [Act.put]
    have HE3 := Lib.hid ((HE.out.below hW).gro SY.1 (by omega))
    have HR3 := Lib.hid ((HRB.out.below hW).stq SY (by omega))
    have HB3 := Lib.hid (below_gro (HB.out.trans (hW.mono hz1)) SY.1 (by omega) (by omega))
    have HY3 := Lib.hid QY
    have hz3 : w.heap.size + 2 ≤ w3.heap.size := by have := SY.2.2; omega
    obtain ⟨yb, hyb⟩ : ∃ yb, yb = b15 := ⟨_, rfl⟩
    have hyb2 : w.heap.size + 2 ≤ yb := by omega
    rw [← hyb] at HY3 ⊢
    clear hyb hW QY SY hl15 HE HRB HB Q4 Q9 Q12 Q13 Q14 CC hz1 hz2 hb15 hzw HY HD a1 a2 a3 g11 g9 g7 g6 b2
    obtain ⟨s_y, a_y, L_y, c_y, b_y, M_y, d_y, tb_y, hr_y⟩ := HY3.out
    have xy0 := tb_y.cell (i := 0) rfl
    have xy1 := tb_y.cell (i := 1) rfl
    have xy2 := tb_y.cell (i := 2) rfl
    have hly := tb_y.lt
    have HRy := Lib.hid hr_y
    clear hr_y
    go_wp2_with fail
    refine (floorS _ _ _ _ _ _ _ (Nat.le_refl _) (by omega) HR.out HRy.out).mono ?_
    rintro e w4 ⟨rfl, hb4⟩
    rw [HPK.out]
    have HE4 := Lib.hid (HE3.out.below hb4)
    have HR4 := Lib.hid (HR3.out.below hb4)
    have HB4 := Lib.hid (HB3.out.trans (hb4.mono (by omega)))
    have HY4 := Lib.hid (HY3.out.below hb4)
    have hz4 : w.heap.size + 2 ≤ w4.heap.size := by have := hb4.size; omega
    clear hb4 HE3 HR3 HB3 HY3 HRy tb_y xy0 xy1 xy2 hly HR HPK
    go_upto_region 3 with fail
    refine region_headsJ (by kernel_rfl) 7 (by simp) (by kernel_rfl) (by kernel_rfl) (by kernel_rfl) (by kernel_rfl) (Two 11 12) (fun jx vx wx => match jx with | 0 => IsR wx.heap.size wx vx (Y) (d) 18 15 | 1 => vx = (.int .i64 pk) | 2 => IsR wx.heap.size wx vx (pk) (1) 18 0 | 3 => IsR wx.heap.size wx vx (x0) (d) 15 15 | 4 => IsR wx.heap.size wx vx (1) (1) 1 0 | 5 => Box1 w4.heap.size 87 #[.bool false, .slice none 0 0, .slice none 0 0] vx wx | 6 => Box1 w4.heap.size 87 #[.bool false, .slice none 0 0, .slice none 0 0] vx wx | _ => True) (fun W => Below w4.heap.size w4 W) (fun wx wy => Below wx.heap.size wx wy) (by constructor <;> (intro b hb; exact absurd hb (by first | exact undef_ne | (intro hh; cases hh)))) (Below.refl _ _).drew ?_ ?_ ?_ ?_
    · intro jx vx wx wy h g
      match jx, h with
      | 0, h => exact IsR.up h g
      | 1, h => exact h
      | 2, h => exact IsR.up h g
      | 3, h => exact IsR.up h g
      | 4, h => exact IsR.up h g
      | 5, h => exact Box1.up h g
      | 6, h => exact Box1.up h g
      | jx + 7, h => exact trivial
    · intro jx ox dx hj ho hd
      exact insN_of (by kernel_rfl) hj ho hd
    · intro ix ox ax W hi hio hsh hW hJ hpre
      have hsz : w4.heap.size ≤ W.heap.size := hW.size
      have GA : ∀ ob, Below W.heap.size W (W.alloc ob) := fun ob => (Below.refl _ _).alloc (Nat.le_refl _) ob
      have WA : ∀ ob, Below w4.heap.size w4 (W.alloc ob) := fun ob => hW.alloc hsz ob
      have t9 : ax.tmps[9]?.getD undef = (.pointer (some ⟨yb, 0, none⟩)) := (Array.getD_eq_getD_getElem? ..).symm.trans ((hsh.2.2 9 (notN_of (by kernel_rfl))).trans rfl)
      have t10 : ax.tmps[10]?.getD undef = (.int .i64 pk) := (Array.getD_eq_getD_getElem? ..).symm.trans ((hsh.2.2 10 (notN_of (by kernel_rfl))).trans rfl)
      obtain ⟨s_y, a_y, L_y, c_y, b_y, M_y, d_y, tb_y, hr_y⟩ := (HY4.out.below hW)
      have xy0 := tb_y.cell (i := 0) rfl
      have xy1 := tb_y.cell (i := 1) rfl
      have xy2 := tb_y.cell (i := 2) rfl
      clear hsh
      match ix, hi, hio with
      | 0, _, hio =>
        cases hio
        exact hwp_val (v := .agg #[.bool s_y, .slice a_y L_y c_y, .slice b_y M_y d_y]) (w' := W) (by simp [execOp, Act.eval, t9, xy0, xy1, xy2, go_sem]) ⟨_, rfl, hr_y, hW, Below.refl _ _, two_put hJ (Below.refl _ _) _ (by decide) (by decide)⟩
      | 1, _, hio =>
        cases hio
        exact hwp_val (v := .int .i64 pk) (w' := W) (by simp [execOp, Act.eval, t10, go_sem]) ⟨_, rfl, rfl, hW, Below.refl _ _, two_put hJ (Below.refl _ _) _ (by decide) (by decide)⟩
      | 2, _, hio =>
        cases hio
        have p1 := hpre ⟨1, .data⟩ (by simp) (by rfl) _ _ rfl rfl
        have f1 : ax.tmps[32]?.getD undef = (.int .i64 pk) := (Array.getD_eq_getD_getElem? ..).symm.trans p1
        refine hwp_enter (f := 53) (args := #[.int .i64 (pk)]) (by simp [execOp, Act.eval, f1, go_sem]) ?_
        refine (wholeS (pk) 18 W (by omega) (by omega) g18).mono ?_
        rintro ex wy ⟨vn, rfl, hq, hb⟩
        exact ⟨vn, rfl, _, rfl, hq, hW.trans (hb.mono hsz), hb, two_put hJ hb _ (by decide) (by decide)⟩
      | 3, _, hio =>
        cases hio
        have p0 := hpre ⟨0, .data⟩ (by simp) (by rfl) _ _ rfl rfl
        obtain ⟨v0, hv0⟩ : ∃ v, ax.tmps.getD 31 undef = v := ⟨_, rfl⟩
        have r0 : IsR W.heap.size W (ax.tmps.getD 31 undef) (Y) (d) 18 15 := p0
        rw [hv0] at r0
        have f0 : ax.tmps[31]?.getD undef = v0 := (Array.getD_eq_getD_getElem? ..).symm.trans hv0
        clear p0 hv0
        have p2 := hpre ⟨2, .data⟩ (by simp) (by rfl) _ _ rfl rfl
        obtain ⟨v2, hv2⟩ : ∃ v, ax.tmps.getD 33 undef = v := ⟨_, rfl⟩
        have r2 : IsR W.heap.size W (ax.tmps.getD 33 undef) (pk) (1) 18 0 := p2
        rw [hv2] at r2
        have f2 : ax.tmps[33]?.getD undef = v2 := (Array.getD_eq_getD_getElem? ..).symm.trans hv2
        clear p2 hv2
        refine hwp_enter (f := 81) (args := #[v0, v2]) (by simp [execOp, Act.eval, f0, f2, go_sem]) ?_
        refine ((minusS W.heap.size _ _ 18 15 18 0 34 _ _ _ _ W (Nat.le_refl _) (by omega) (by omega) (by omega) (by omega) r0 r2).mono (fun _ _ h => newS_bound h HX0.out (Nat.mul_one _) g15 hd)).mono ?_
        rintro ex wy ⟨vn, rfl, hq, hb⟩
        exact ⟨vn, rfl, _, rfl, hq, hW.trans (hb.mono hsz), hb, two_put hJ hb _ (by decide) (by decide)⟩
      | 4, _, hio =>
        cases hio
        refine hwp_enter (f := 53) (args := #[.int .i64 (1)]) (by simp [execOp, Act.eval, go_sem]) ?_
        refine (wholeS (1) 1 W (by omega) (by omega) (by decide)).mono ?_
        rintro ex wy ⟨vn, rfl, hq, hb⟩
        exact ⟨vn, rfl, _, rfl, hq, hW.trans (hb.mono hsz), hb, two_put hJ hb _ (by decide) (by decide)⟩
      | 5, _, hio =>
        cases hio
        exact hwp_val (v := .pointer (some ⟨W.heap.size, 0, none⟩)) (w' := W.alloc (.cells #[.bool false, .slice none 0 0, .slice none 0 0] 87)) (by simp [execOp, Act.eval, zeroFrac_, go_sem]) ⟨_, rfl, Box1.new _ _ hsz, WA _, GA _, two_one hJ _ (by decide)⟩
      | 6, _, hio =>
        cases hio
        exact hwp_val (v := .pointer (some ⟨W.heap.size, 0, none⟩)) (w' := W.alloc (.cells #[.bool false, .slice none 0 0, .slice none 0 0] 87)) (by simp [execOp, Act.eval, zeroFrac_, go_sem]) ⟨_, rfl, Box1.new _ _ hsz, WA _, GA _, two_two hJ _ (by decide)⟩
      | ix + 7, hi, _ => exact absurd hi (by omega)
    · intro ax w5 hsh hW hJ hφ
      have q0 : IsR w5.heap.size w5 (ax.tmps.getD 31 undef) (Y) (d) 18 15 := hφ 0 _ _ (by omega) rfl rfl
      obtain ⟨v0, e0⟩ : ∃ v, ax.tmps.getD 31 undef = v := ⟨_, rfl⟩
      rw [e0] at q0
      have Q0 := Lib.hid q0
      clear q0
      have e1 : ax.tmps.getD 32 undef = (.int .i64 pk) := hφ 1 _ _ (by omega) rfl rfl
      have q2 : IsR w5.heap.size w5 (ax.tmps.getD 33 undef) (pk) (1) 18 0 := hφ 2 _ _ (by omega) rfl rfl
      obtain ⟨v2, e2⟩ : ∃ v, ax.tmps.getD 33 undef = v := ⟨_, rfl⟩
      rw [e2] at q2
      have Q2 := Lib.hid q2
      clear q2
      have q3 : IsR w5.heap.size w5 (ax.tmps.getD 34 undef) (x0) (d) 15 15 := hφ 3 _ _ (by omega) rfl rfl
      obtain ⟨v3, e3⟩ : ∃ v, ax.tmps.getD 34 undef = v := ⟨_, rfl⟩
      rw [e3] at q3
      have Q3 := Lib.hid q3
      clear q3
      have q4 : IsR w5.heap.size w5 (ax.tmps.getD 35 undef) (1) (1) 1 0 := hφ 4 _ _ (by omega) rfl rfl
      obtain ⟨v4, e4⟩ : ∃ v, ax.tmps.getD 35 undef = v := ⟨_, rfl⟩
      rw [e4] at q4
      have Q4 := Lib.hid q4
      clear q4
      obtain ⟨b5, e5, hb5, hl5⟩ := hφ 5 _ _ (by omega) rfl rfl
      obtain ⟨b6, e6, hb6, hl6⟩ := hφ 6 _ _ (by omega) rfl rfl
      have hne2 : b5 ≠ b6 := by
        intro hh
        subst hh
        exact (hJ.1 _ e5).2 e6
      clear hJ
      rw [shape_puts hsh [(31, v0), (32, .int .i64 pk), (33, v2), (34, v3), (35, v4), (11, .pointer (some ⟨b5, 0, none⟩)), (12, .pointer (some ⟨b6, 0, none⟩))] [31, 32, 33, 34, 35, 11, 12] rfl (by kernel_rfl) ⟨e0, e1, e2, e3, e4, e5, e6, trivial⟩]
      clear hφ hsh e0 e1 e2 e3 e4 e5 e6
      simp only [putsN, List.foldl_cons, List.foldl_nil, List.drop_succ_cons, List.drop_zero, Act.put, List.setIfInBounds_toArray, List.set_cons_succ, List.set_cons_zero]
      have hzw := hW.size
      have hA6 : AnyQ w5 b6 := ⟨_, _, _, _, _, _, _, hl6⟩
      refine wpList_storeQ w5 rfl _ _ rfl b5 rfl rfl Q3.out ⟨_, _, _, _, _, _, _, hl5⟩ ?_
      intro w6 QY SY
      simp only [Act.put]
      have HE6 := Lib.hid ((HE4.out.below hW).gro SY.1 (by omega))
      have HR6 := Lib.hid ((HR4.out.below hW).stq SY (by omega))
      have HB6 := Lib.hid (below_gro (HB4.out.trans (hW.mono (by omega))) SY.1 (by omega) (by omega))
      have HX6 := Lib.hid QY
      have hA7 := hA6.stq SY (Ne.symm hne2)
      have hz6 := SY.2.2
      have Q46 := Lib.hid (SY.2.1 _ _ _ _ _ _ Q4.out)
      clear QY SY hA6
      rw [← hz6] at Q46
      refine wpList_storeQ w6 rfl _ _ rfl b6 rfl rfl Q46.out hA7 ?_
      intro w7 QY SY
      simp only [Act.put]
      have HK7 := Lib.hid (show WyK w #[.int .i64 form, .int .i64 low, .int .i64 high, .int .i64 cycle, .int .i64 width, .int .i64 spread, .bool back, .bool rel, .slice ao l.length cap] b5 b6 x0 d w7 from ⟨HE6.out.gro SY.1 (by omega), HR6.out.stq SY (by omega), HX6.out.stq SY hne2, QY, ⟨by omega, by omega, hne2⟩, below_gro HB6.out SY.1 (by omega) (by omega)⟩)
      obtain ⟨xb, hxb⟩ : ∃ xb, xb = b5 := ⟨_, rfl⟩
      obtain ⟨ob, hob⟩ : ∃ ob, ob = b6 := ⟨_, rfl⟩
      rw [← hxb, ← hob] at HK7 ⊢
      have hxo : w.heap.size + 2 ≤ xb ∧ w.heap.size + 2 ≤ ob ∧ xb ≠ ob := HK7.out.2.2.2.2.1
      clear hxb hob QY SY hA7 hW hne2 hl5 hl6 HE4 HR4 HB4 HY4 HE6 HR6 HB6 HX6 Q46 Q0 Q2 Q3 Q4 hb5 hb6 hz6 hzw
      obtain ⟨bz, hbz⟩ : ∃ bz, bz = decide (back = true ∧ 0 < x0) := ⟨_, rfl⟩
      have HBZ := Lib.hid hbz
      clear hbz
      go_upto_region 4 with fail
      go_cut [42] (fun s42 wx => s42 = .bool bz ∧ Hid (WyK w #[.int .i64 form, .int .i64 low, .int .i64 high, .int .i64 cycle, .int .i64 width, .int .i64 spread, .bool back, .bool rel, .slice ao l.length cap] xb ob x0 d wx))
      case first =>
        have e6 := HK7.out.1.cell (i := 6) rfl
        have hle := HK7.out.1.lt
        obtain ⟨s_x, a_x, L_x, c_x, b_x, M_x, d_x, tb_x, hr_x⟩ := HK7.out.2.2.1
        have xx0 := tb_x.cell (i := 0) rfl
        have xx1 := tb_x.cell (i := 1) rfl
        have xx2 := tb_x.cell (i := 2) rfl
        have hlx := tb_x.lt
        have HRx := Lib.hid hr_x
        clear hr_x
        cases back
        · obtain rfl : bz = false := by rw [HBZ.out]; simp
          clear HRx tb_x
          go_wp2_with fail
          all_goals go_meet
          all_goals exact ⟨rfl, HK7⟩
        · by_cases hz : x0 = 0
          · obtain rfl : bz = false := by rw [HBZ.out, hz]; simp
            have CZ := Lib.hid (zeroS _ _ _ _ _ _ _ HRx.out)
            rw [zB_yes hz] at CZ
            clear HRx tb_x hz
            go_wp2_with fail
            refine CZ.out.mono ?_
            rintro e wa ⟨rfl, hba⟩
            have HKa := Lib.hid (HK7.out.below hba)
            clear hba CZ
            go_wp2_with fail
            all_goals go_meet
            all_goals exact ⟨rfl, HKa⟩
          · obtain rfl : bz = true := by
              rw [HBZ.out]
              exact decide_eq_true ⟨rfl, by omega⟩
            have CZ := Lib.hid (zeroS _ _ _ _ _ _ _ HRx.out)
            rw [zB_no hz] at CZ
            clear HRx tb_x hz
            go_wp2_with fail
            refine CZ.out.mono ?_
            rintro e wa ⟨rfl, hba⟩
            have HKa := Lib.hid (HK7.out.below hba)
            clear hba CZ
            go_wp2_with fail
            all_goals go_meet
            all_goals exact ⟨rfl, HKa⟩
      case rest =>
        obtain ⟨rfl, HKB⟩ := hcut
        clear HK7
        go_upto_if 42 with fail
        go_cut [] (fun wx => Hid (WyK w #[.int .i64 form, .int .i64 low, .int .i64 high, .int .i64 cycle, .int .i64 width, .int .i64 spread, .bool back, .bool rel, .slice ao l.length cap] xb ob pn d wx))
        case first =>
          cases bz
          · have HEQ := Lib.hid (show x0 = pn from by
              have := HBZ.out
              rw [HPN.out, if_neg (of_decide_eq_false this.symm)])
            go_wp2_with fail
            all_goals go_meet
            all_goals (rw [← HEQ.out]; exact HKB)
          · have HEQ := Lib.hid (show 1 * (d : Int) - x0 * ((1 : Nat) : Int) = pn from by
              have := HBZ.out
              rw [HPN.out, if_pos (of_decide_eq_true this.symm)]
              omega)
            obtain ⟨s_x, a_x, L_x, c_x, b_x, M_x, d_x, tb_x, hr_x⟩ := HKB.out.2.2.1
            have xx0 := tb_x.cell (i := 0) rfl
            have xx1 := tb_x.cell (i := 1) rfl
            have xx2 := tb_x.cell (i := 2) rfl
            have hlx := tb_x.lt
            have HRx := Lib.hid hr_x
            clear hr_x
            obtain ⟨s_o, a_o, L_o, c_o, b_o, M_o, d_o, tb_o, hr_o⟩ := HKB.out.2.2.2.1
            have xo0 := tb_o.cell (i := 0) rfl
            have xo1 := tb_o.cell (i := 1) rfl
            have xo2 := tb_o.cell (i := 2) rfl
            have hlo := tb_o.lt
            have HRo := Lib.hid hr_o
            clear hr_o
            go_wp2_with fail
            refine ((minusS _ _ _ 1 0 15 15 17 _ _ _ _ _ (Nat.le_refl _) (by omega) (by omega) (by omega) (by omega) HRo.out HRx.out).mono (fun _ _ h => newS_bound (m' := 15) (n' := 15) h HEQ.out (Nat.one_mul _) gp hd)).mono ?_
            rintro e wa ⟨va, rfl, hqa, hba⟩
            obtain ⟨s_v, a_v, L_v, c_v, b_v, M_v, d_v, rfl⟩ := isR_shape hqa
            have HKa := Lib.hid (HKB.out.below hba)
            have HQa := Lib.hid hqa
            clear hba hqa HKB tb_x xx0 xx1 xx2 hlx tb_o xo0 xo1 xo2 hlo HRx HRo
            obtain ⟨s_x, a_x, L_x, c_x, b_x, M_x, d_x, tb_x, hr_x⟩ := HKa.out.2.2.1
            have xx0 := tb_x.cell (i := 0) rfl
            have xx1 := tb_x.cell (i := 1) rfl
            have xx2 := tb_x.cell (i := 2) rfl
            have hlx := tb_x.lt
            have HRx := Lib.hid hr_x
            clear hr_x
            have fx0 := tb_x.frozen 0
            have fx1 := tb_x.frozen 1
            have fx2 := tb_x.frozen 2
            have HQ2 := Lib.hid (qbox_set HKa.out.2.2.1.any HQa.out)
            have HS2 := Lib.hid (stq_of HKa.out.2.2.1.any (.bool s_v) (.slice a_v L_v c_v) (.slice b_v M_v d_v))
            clear tb_x HRx
            go_wp2_with fail
            all_goals go_meet
            all_goals exact Lib.hid (HKa.out.stx HS2.out HQ2.out)
        case rest =>
          have HKP : Hid (WyK w #[.int .i64 form, .int .i64 low, .int .i64 high, .int .i64 cycle, .int .i64 width, .int .i64 spread, .bool back, .bool rel, .slice ao l.length cap] xb ob pn d wc) := hcut
          clear HKB
          obtain ⟨s_x, a_x, L_x, c_x, b_x, M_x, d_x, tb_x, hr_x⟩ := HKP.out.2.2.1
          have xx0 := tb_x.cell (i := 0) rfl
          have xx1 := tb_x.cell (i := 1) rfl
          have xx2 := tb_x.cell (i := 2) rfl
          have hlx := tb_x.lt
          have HRx := Lib.hid hr_x
          clear hr_x
          have HP2 := Lib.hid (show pn * (d : Int) + pn * (d : Int) = 2 * pn * d from by grind)
          go_wp2_with fail
          refine ((plusS _ _ _ 15 15 15 15 31 _ _ _ _ _ (Nat.le_refl _) (by omega) (by omega) (by omega) (by omega) HRx.out HRx.out).mono (fun _ _ h => newS_cast h HP2.out rfl)).mono ?_
          rintro e wa ⟨va, rfl, hqa, hba⟩
          obtain ⟨s_v, a_v, L_v, c_v, b_v, M_v, d_v, rfl⟩ := isR_shape hqa
          have HKa := Lib.hid (HKP.out.below hba)
          have hA := (Below.refl wa.heap.size wa).alloc (Nat.le_refl _) (.cells #[.bool s_v, .slice a_v L_v c_v, .slice b_v M_v d_v] 87)
          have HUB := Lib.hid (show QBox (wa.alloc (.cells #[.bool s_v, .slice a_v L_v c_v, .slice b_v M_v d_v] 87)) wa.heap.size (2 * pn * d) (d * d) 31 30 from ⟨_, _, _, _, _, _, _, TBox.new wa _ _, hqa.up hA⟩)
          have HKb := Lib.hid (HKa.out.below hA)
          have hza := HKa.out.size
          clear hba hqa hA HKa HKP tb_x xx0 xx1 xx2 hlx HRx HP2
          go_upto_region 7 with fail
          obtain ⟨ub, hub⟩ : ∃ ub, ub = wa.heap.size := ⟨_, rfl⟩
          generalize hwb : wa.alloc (.cells #[.bool s_v, .slice a_v L_v c_v, .slice b_v M_v d_v] 87) = wb at *
          rw [← hub] at HUB ⊢
          have hub4 : w.heap.size + 2 ≤ ub ∧ xb ≠ ub ∧ ob ≠ ub := ⟨by omega, by omega, by omega⟩
          clear hub hwb hza
          obtain ⟨bu, hbu⟩ : ∃ bu, bu = decide ((d : Int) < 2 * pn) := ⟨_, rfl⟩
          have HBU := Lib.hid hbu
          clear hbu
          go_cut [52] (fun s52 wx => s52 = .bool bu ∧ Hid (WyK w #[.int .i64 form, .int .i64 low, .int .i64 high, .int .i64 cycle, .int .i64 width, .int .i64 spread, .bool back, .bool rel, .slice ao l.length cap] xb ob pn d wx) ∧ Hid (QBox wx ub (2 * pn * d) (d * d) 31 30))
          case first =>
            obtain ⟨s_u, a_u, L_u, c_u, b_u, M_u, d_u, tb_u, hr_u⟩ := HUB.out
            have xu0 := tb_u.cell (i := 0) rfl
            have xu1 := tb_u.cell (i := 1) rfl
            have xu2 := tb_u.cell (i := 2) rfl
            have hlu := tb_u.lt
            have HRu := Lib.hid hr_u
            clear hr_u
            obtain ⟨s_o, a_o, L_o, c_o, b_o, M_o, d_o, tb_o, hr_o⟩ := HKb.out.2.2.2.1
            have xo0 := tb_o.cell (i := 0) rfl
            have xo1 := tb_o.cell (i := 1) rfl
            have xo2 := tb_o.cell (i := 2) rfl
            have hlo := tb_o.lt
            have HRo := Lib.hid hr_o
            clear hr_o
            have CO := Lib.hid (orderS _ _ _ 31 30 1 0 32 _ _ _ _ wb (Nat.le_refl _) (by omega) (by omega) (by omega) (by omega) HRu.out HRo.out)
            clear HRu HRo tb_u tb_o
            rcases up_ord (pn := pn) (d := d) (by omega) with ⟨hO1, hO2⟩ | ⟨hO1, hO2⟩ | ⟨hO1, hO2⟩
            · rw [hO1] at CO
              obtain rfl : bu = true := by
                rw [HBU.out]
                exact decide_eq_true hO2
              clear hO1 hO2
              go_wp2_with fail
              refine CO.out.mono ?_
              rintro e wd ⟨rfl, hbd⟩
              have HKd := Lib.hid (HKb.out.below hbd)
              have HUd := Lib.hid (HUB.out.below hbd)
              clear hbd CO
              go_wp2_with fail
              all_goals go_meet
              all_goals exact ⟨rfl, HKd, HUd⟩
            · rw [hO1] at CO
              obtain rfl : bu = false := by
                rw [HBU.out]
                exact decide_eq_false hO2
              clear hO1 hO2
              go_wp2_with fail
              refine CO.out.mono ?_
              rintro e wd ⟨rfl, hbd⟩
              have HKd := Lib.hid (HKb.out.below hbd)
              have HUd := Lib.hid (HUB.out.below hbd)
              clear hbd CO
              go_wp2_with fail
              all_goals go_meet
              all_goals exact ⟨rfl, HKd, HUd⟩
            · rw [hO1] at CO
              obtain rfl : bu = false := by
                rw [HBU.out]
                exact decide_eq_false hO2
              clear hO1 hO2
              go_wp2_with fail
              refine CO.out.mono ?_
              rintro e wd ⟨rfl, hbd⟩
              have HKd := Lib.hid (HKb.out.below hbd)
              have HUd := Lib.hid (HUB.out.below hbd)
              clear hbd CO
              go_wp2_with fail
              all_goals go_meet
              all_goals exact ⟨rfl, HKd, HUd⟩
          case rest =>
            obtain ⟨rfl, HKc, HUc⟩ := hcut
            clear HKb HUB
            obtain ⟨UP, hUP⟩ : ∃ UP, UP = peakV pn d * (d : Int) := ⟨_, rfl⟩
            have HUP := Lib.hid hUP
            clear hUP
            go_upto_if 52 with fail
            go_cut [] (fun wx => Hid (WyK w #[.int .i64 form, .int .i64 low, .int .i64 high, .int .i64 cycle, .int .i64 width, .int .i64 spread, .bool back, .bool rel, .slice ao l.length cap] xb ob pn d wx) ∧ Hid (QBox wx ub UP (d * d) 32 30))
            case first =>
              cases bu
              · have HEQ := Lib.hid (show 2 * pn * d = UP from by
                  have := of_decide_eq_false HBU.out.symm
                  rw [HUP.out]
                  unfold peakV
                  rw [if_pos (by omega)])
                go_wp2_with fail
                all_goals go_meet
                all_goals exact ⟨HKc, Lib.hid (by rw [← HEQ.out]; exact HUc.out.wide (by omega) (by omega))⟩
              · have HEQ := Lib.hid (show (2 * d - 2 * pn) * d = UP from by
                  have := of_decide_eq_true HBU.out.symm
                  rw [HUP.out]
                  unfold peakV
                  rw [if_neg (by omega)])
                have HU2 := Lib.hid (show 2 * ((d * d : Nat) : Int) - 2 * pn * d * ((1 : Nat) : Int) = (2 * d - 2 * pn) * d from by
                  push_cast
                  grind)
                go_upto_region 8 with fail
                refine region_heads (by kernel_rfl) 3 (by simp) (by kernel_rfl) (by kernel_rfl) (by kernel_rfl) (by kernel_rfl) (fun jx vx wx => match jx with | 0 => IsR wx.heap.size wx vx (2) (1) 1 0 | 1 => IsR wx.heap.size wx vx (2 * pn * d) (d * d) 31 30 | 2 => IsR wx.heap.size wx vx ((2 * d - 2 * pn) * d) (d * d) 32 30 | _ => True) (fun W => Below wc.heap.size wc W) (fun wx wy => Below wx.heap.size wx wy) (Below.refl _ _).drew ?_ ?_ ?_ ?_
                · intro jx vx wx wy h g
                  match jx, h with
                  | 0, h => exact IsR.up h g
                  | 1, h => exact IsR.up h g
                  | 2, h => exact IsR.up h g
                  | jx + 3, h => exact trivial
                · intro jx ox dx hj ho hd
                  exact insN_of (by kernel_rfl) hj ho hd
                · intro ix ox ax W hi hio hsh hW hpre
                  have hsz : wc.heap.size ≤ W.heap.size := hW.size
                  have GA : ∀ ob, Below W.heap.size W (W.alloc ob) := fun ob => (Below.refl _ _).alloc (Nat.le_refl _) ob
                  have WA : ∀ ob, Below wc.heap.size wc (W.alloc ob) := fun ob => hW.alloc hsz ob
                  have t13 : ax.tmps[13]?.getD undef = (.pointer (some ⟨ub, 0, none⟩)) := (Array.getD_eq_getD_getElem? ..).symm.trans ((hsh.2.2 13 (notN_of (by kernel_rfl))).trans rfl)
                  obtain ⟨s_u, a_u, L_u, c_u, b_u, M_u, d_u, tb_u, hr_u⟩ := (HUc.out.below hW)
                  have xu0 := tb_u.cell (i := 0) rfl
                  have xu1 := tb_u.cell (i := 1) rfl
                  have xu2 := tb_u.cell (i := 2) rfl
                  clear hsh
                  match ix, hi, hio with
                  | 0, _, hio =>
                    cases hio
                    refine hwp_enter (f := 53) (args := #[.int .i64 (2)]) (by simp [execOp, Act.eval, go_sem]) ?_
                    refine (wholeS (2) 1 W (by omega) (by omega) (by decide)).mono ?_
                    rintro ex wy ⟨vn, rfl, hq, hb⟩
                    exact ⟨vn, rfl, _, rfl, hq, hW.trans (hb.mono hsz), hb⟩
                  | 1, _, hio =>
                    cases hio
                    exact hwp_val (v := .agg #[.bool s_u, .slice a_u L_u c_u, .slice b_u M_u d_u]) (w' := W) (by simp [execOp, Act.eval, t13, xu0, xu1, xu2, go_sem]) ⟨_, rfl, hr_u, hW, Below.refl _ _⟩
                  | 2, _, hio =>
                    cases hio
                    have p0 := hpre ⟨0, .data⟩ (by simp) (by rfl) _ _ rfl rfl
                    obtain ⟨v0, hv0⟩ : ∃ v, ax.tmps.getD 53 undef = v := ⟨_, rfl⟩
                    have r0 : IsR W.heap.size W (ax.tmps.getD 53 undef) (2) (1) 1 0 := p0
                    rw [hv0] at r0
                    have f0 : ax.tmps[53]?.getD undef = v0 := (Array.getD_eq_getD_getElem? ..).symm.trans hv0
                    clear p0 hv0
                    have p1 := hpre ⟨1, .data⟩ (by simp) (by rfl) _ _ rfl rfl
                    obtain ⟨v1, hv1⟩ : ∃ v, ax.tmps.getD 54 undef = v := ⟨_, rfl⟩
                    have r1 : IsR W.heap.size W (ax.tmps.getD 54 undef) (2 * pn * d) (d * d) 31 30 := p1
                    rw [hv1] at r1
                    have f1 : ax.tmps[54]?.getD undef = v1 := (Array.getD_eq_getD_getElem? ..).symm.trans hv1
                    clear p1 hv1
                    refine hwp_enter (f := 81) (args := #[v0, v1]) (by simp [execOp, Act.eval, f0, f1, go_sem]) ?_
                    refine ((minusS W.heap.size _ _ 1 0 31 30 32 _ _ _ _ W (Nat.le_refl _) (by omega) (by omega) (by omega) (by omega) r0 r1).mono (fun _ _ h => newS_cast h HU2.out (Nat.one_mul _))).mono ?_
                    rintro ex wy ⟨vn, rfl, hq, hb⟩
                    exact ⟨vn, rfl, _, rfl, hq, hW.trans (hb.mono hsz), hb⟩
                  | ix + 3, hi, _ => exact absurd hi (by omega)
                · intro ax w8 hsh hW hφ
                  have q0 : IsR w8.heap.size w8 (ax.tmps.getD 53 undef) (2) (1) 1 0 := hφ 0 _ _ (by omega) rfl rfl
                  obtain ⟨v0, e0⟩ : ∃ v, ax.tmps.getD 53 undef = v := ⟨_, rfl⟩
                  rw [e0] at q0
                  have Q0 := Lib.hid q0
                  clear q0
                  have q1 : IsR w8.heap.size w8 (ax.tmps.getD 54 undef) (2 * pn * d) (d * d) 31 30 := hφ 1 _ _ (by omega) rfl rfl
                  obtain ⟨v1, e1⟩ : ∃ v, ax.tmps.getD 54 undef = v := ⟨_, rfl⟩
                  rw [e1] at q1
                  have Q1 := Lib.hid q1
                  clear q1
                  have q2 : IsR w8.heap.size w8 (ax.tmps.getD 55 undef) ((2 * d - 2 * pn) * d) (d * d) 32 30 := hφ 2 _ _ (by omega) rfl rfl
                  obtain ⟨v2, e2⟩ : ∃ v, ax.tmps.getD 55 undef = v := ⟨_, rfl⟩
                  rw [e2] at q2
                  have Q2 := Lib.hid q2
                  clear q2
                  rw [shape_puts hsh [(53, v0), (54, v1), (55, v2)] [53, 54, 55] rfl (by kernel_rfl) ⟨e0, e1, e2, trivial⟩]
                  clear hφ hsh e0 e1 e2
                  simp only [putsN, List.foldl_cons, List.foldl_nil, List.drop_succ_cons, List.drop_zero, Act.put, List.setIfInBounds_toArray, List.set_cons_succ, List.set_cons_zero]
                  have HK8 := Lib.hid (HKc.out.below hW)
                  have HU8 := Lib.hid (HUc.out.below hW)
                  clear hW HKc
                  refine wpList_storeQ w8 rfl _ _ rfl ub rfl rfl Q2.out HU8.out.any ?_
                  intro w9 QY SY
                  simp only [Act.put]
                  have HK9 := Lib.hid (HK8.out.stq SY (by omega) (by omega) (by omega))
                  have HU9 := Lib.hid QY
                  clear QY SY Q0 Q1 Q2
                  go_wp2_with fail
                  all_goals go_meet
                  all_goals exact ⟨HK9, Lib.hid (by rw [← HEQ.out]; exact HU9.out)⟩
            case rest =>
              have HKU : Hid (WyK w #[.int .i64 form, .int .i64 low, .int .i64 high, .int .i64 cycle, .int .i64 width, .int .i64 spread, .bool back, .bool rel, .slice ao l.length cap] xb ob pn d wc) := hcut.1
              have HUU : Hid (QBox wc ub UP (d * d) 32 30) := hcut.2
              clear hcut HUc
              rcases HF7.out with hfk | hfk | hfk | hfk | hfk | hfk | hfk
              · have e0 := HKU.out.1.cell (i := 0) rfl
                have hle := HKU.out.1.lt
                have HV := Lib.hid (HRS.out.symm.trans ((congrArg (fun ff => wvP ff width l c pn d pk index) hfk).trans (wv1 width l c pn d pk index)))
                have cf1 : (form == 1) = true := by rw [hfk] <;> rfl
                have cf3 : (form == 3) = false := by rw [hfk] <;> rfl
                have cf4 : (form == 4) = false := by rw [hfk] <;> rfl
                have cf5 : (form == 5) = false := by rw [hfk] <;> rfl
                have cf6 : (form == 6) = false := by rw [hfk] <;> rfl
                have cf7 : (form == 7) = false := by rw [hfk] <;> rfl
                clear hfk
                go_upto_region 11 with fail
                go_cut [] (fun wx => Hid (QBox wx (w.heap.size + 1) (UP) (d * d) 130 130) ∧ Hid (Below w.heap.size w wx))
                case first =>
                  obtain ⟨s_u, a_u, L_u, c_u, b_u, M_u, d_u, tb_u, hr_u⟩ := HUU.out
                  have xu0 := tb_u.cell (i := 0) rfl
                  have xu1 := tb_u.cell (i := 1) rfl
                  have xu2 := tb_u.cell (i := 2) rfl
                  have hlu := tb_u.lt
                  have HRu := Lib.hid hr_u
                  clear hr_u
                  obtain ⟨s_r, a_r, L_r, c_r, b_r, M_r, d_r, tb_r, hr_r⟩ := HKU.out.2.1.q0
                  have xr0 := tb_r.cell (i := 0) rfl
                  have xr1 := tb_r.cell (i := 1) rfl
                  have xr2 := tb_r.cell (i := 2) rfl
                  have hlr := tb_r.lt
                  have HRr := Lib.hid hr_r
                  clear hr_r
                  have fr0 := tb_r.frozen 0
                  have fr1 := tb_r.frozen 1
                  have fr2 := tb_r.frozen 2
                  have HQS := Lib.hid (qbox_set HKU.out.2.1 (HRu.out.wide (m' := 130) (n' := 130) (by omega) (by omega)))
                  have HBS := Lib.hid (below_set3 (u0 := .bool s_u) (u1 := .slice a_u L_u c_u) (u2 := .slice b_u M_u d_u) HKU.out.2.2.2.2.2 (show w.heap.size ≤ w.heap.size + 1 by omega))
                  clear tb_r tb_u
                  go_wp2_with fail
                  all_goals go_meet
                  all_goals exact ⟨HQS, HBS⟩
                case rest =>
                  rename_i KK hKK
                  obtain ⟨HQE, HBE⟩ := hcut
                  obtain ⟨s8, a8, L8, c8, b8, M8, d8, tb8, hr8⟩ := HQE.out
                  have x0 := tb8.cell (i := 0) rfl
                  have x1 := tb8.cell (i := 1) rfl
                  have x2 := tb8.cell (i := 2) rfl
                  refine hKK _ _ (wp_ret ?_)
                  exact bodyPost_ret (v := .agg #[.bool s8, .slice a8 L8 c8, .slice b8 M8 d8]) (by simp [results, Try.results51, go_sem, x0, x1, x2]) rfl ⟨_, UP, d * d, rfl, hr8, by rw [HV.out, HUP.out]; exact rat1, HBE.out⟩
              · have e0 := HKU.out.1.cell (i := 0) rfl
                have hle := HKU.out.1.lt
                have HV := Lib.hid (HRS.out.symm.trans ((congrArg (fun ff => wvP ff width l c pn d pk index) hfk).trans (wv2 width l c pn d pk index)))
                have cf1 : (form == 1) = false := by rw [hfk] <;> rfl
                have cf3 : (form == 3) = false := by rw [hfk] <;> rfl
                have cf4 : (form == 4) = false := by rw [hfk] <;> rfl
                have cf5 : (form == 5) = false := by rw [hfk] <;> rfl
                have cf6 : (form == 6) = false := by rw [hfk] <;> rfl
                have cf7 : (form == 7) = false := by rw [hfk] <;> rfl
                clear hfk
                go_upto_region 24 with fail
                go_cut [] (fun wx => Hid (QBox wx (w.heap.size + 1) (pn) (d) 130 130) ∧ Hid (Below w.heap.size w wx))
                case first =>
                  obtain ⟨s_x, a_x, L_x, c_x, b_x, M_x, d_x, tb_x, hr_x⟩ := HKU.out.2.2.1
                  have xx0 := tb_x.cell (i := 0) rfl
                  have xx1 := tb_x.cell (i := 1) rfl
                  have xx2 := tb_x.cell (i := 2) rfl
                  have hlx := tb_x.lt
                  have HRx := Lib.hid hr_x
                  clear hr_x
                  obtain ⟨s_r, a_r, L_r, c_r, b_r, M_r, d_r, tb_r, hr_r⟩ := HKU.out.2.1.q0
                  have xr0 := tb_r.cell (i := 0) rfl
                  have xr1 := tb_r.cell (i := 1) rfl
                  have xr2 := tb_r.cell (i := 2) rfl
                  have hlr := tb_r.lt
                  have HRr := Lib.hid hr_r
                  clear hr_r
                  have fr0 := tb_r.frozen 0
                  have fr1 := tb_r.frozen 1
                  have fr2 := tb_r.frozen 2
                  have HQS := Lib.hid (qbox_set HKU.out.2.1 (HRx.out.wide (m' := 130) (n' := 130) (by omega) (by omega)))
                  have HBS := Lib.hid (below_set3 (u0 := .bool s_x) (u1 := .slice a_x L_x c_x) (u2 := .slice b_x M_x d_x) HKU.out.2.2.2.2.2 (show w.heap.size ≤ w.heap.size + 1 by omega))
                  clear tb_r tb_x
                  go_wp2_with fail
                  all_goals go_meet
                  all_goals exact ⟨HQS, HBS⟩
                case rest =>
                  rename_i KK hKK
                  obtain ⟨HQE, HBE⟩ := hcut
                  obtain ⟨s8, a8, L8, c8, b8, M8, d8, tb8, hr8⟩ := HQE.out
                  have x0 := tb8.cell (i := 0) rfl
                  have x1 := tb8.cell (i := 1) rfl
                  have x2 := tb8.cell (i := 2) rfl
                  refine hKK _ _ (wp_ret ?_)
                  exact bodyPost_ret (v := .agg #[.bool s8, .slice a8 L8 c8, .slice b8 M8 d8]) (by simp [results, Try.results51, go_sem, x0, x1, x2]) rfl ⟨_, pn, d, rfl, hr8, by rw [HV.out], HBE.out⟩
              · have HONE := Lib.hid (show 1 * (d : Int) - pn * ((1 : Nat) : Int) = (d : Int) - pn from by omega)
                have e0 := HKU.out.1.cell (i := 0) rfl
                have hle := HKU.out.1.lt
                have HV := Lib.hid (HRS.out.symm.trans ((congrArg (fun ff => wvP ff width l c pn d pk index) hfk).trans (wv3 width l c pn d pk index)))
                have cf1 : (form == 1) = false := by rw [hfk] <;> rfl
                have cf3 : (form == 3) = true := by rw [hfk] <;> rfl
                have cf4 : (form == 4) = false := by rw [hfk] <;> rfl
                have cf5 : (form == 5) = false := by rw [hfk] <;> rfl
                have cf6 : (form == 6) = false := by rw [hfk] <;> rfl
                have cf7 : (form == 7) = false := by rw [hfk] <;> rfl
                clear hfk
                go_upto_region 13 with fail
                go_cut [] (fun wx => Hid (QBox wx (w.heap.size + 1) ((d : Int) - pn) (d) 130 130) ∧ Hid (Below w.heap.size w wx))
                case first =>
                  obtain ⟨s_x, a_x, L_x, c_x, b_x, M_x, d_x, tb_x, hr_x⟩ := HKU.out.2.2.1
                  have xx0 := tb_x.cell (i := 0) rfl
                  have xx1 := tb_x.cell (i := 1) rfl
                  have xx2 := tb_x.cell (i := 2) rfl
                  have hlx := tb_x.lt
                  have HRx := Lib.hid hr_x
                  clear hr_x
                  obtain ⟨s_o, a_o, L_o, c_o, b_o, M_o, d_o, tb_o, hr_o⟩ := HKU.out.2.2.2.1
                  have xo0 := tb_o.cell (i := 0) rfl
                  have xo1 := tb_o.cell (i := 1) rfl
                  have xo2 := tb_o.cell (i := 2) rfl
                  have hlo := tb_o.lt
                  have HRo := Lib.hid hr_o
                  clear hr_o
                  clear tb_x tb_o
                  go_wp2_with fail
                  refine ((minusS _ _ _ 1 0 15 15 17 _ _ _ _ _ (Nat.le_refl _) (by omega) (by omega) (by omega) (by omega) HRo.out HRx.out).mono (fun _ _ h => newS_cast (P' := (d : Int) - pn) (D' := d) h HONE.out (Nat.one_mul _))).mono ?_
                  rintro e wa ⟨va, rfl, hqa, hba⟩
                  obtain ⟨s_v, a_v, L_v, c_v, b_v, M_v, d_v, rfl⟩ := isR_shape hqa
                  have HQa := Lib.hid hqa
                  have HKa := Lib.hid (HKU.out.below hba)
                  clear hqa hba
                  obtain ⟨s_r, a_r, L_r, c_r, b_r, M_r, d_r, tb_r, hr_r⟩ := HKa.out.2.1.q0
                  have xr0 := tb_r.cell (i := 0) rfl
                  have xr1 := tb_r.cell (i := 1) rfl
                  have xr2 := tb_r.cell (i := 2) rfl
                  have hlr := tb_r.lt
                  have HRr := Lib.hid hr_r
                  clear hr_r
                  have fr0 := tb_r.frozen 0
                  have fr1 := tb_r.frozen 1
                  have fr2 := tb_r.frozen 2
                  have HQS := Lib.hid (qbox_set HKa.out.2.1 (HQa.out.wide (m' := 130) (n' := 130) (by omega) (by omega)))
                  have HBS := Lib.hid (below_set3 (u0 := .bool s_v) (u1 := .slice a_v L_v c_v) (u2 := .slice b_v M_v d_v) HKa.out.2.2.2.2.2 (show w.heap.size ≤ w.heap.size + 1 by omega))
                  clear tb_r
                  go_wp2_with fail
                  all_goals go_meet
                  all_goals exact ⟨HQS, HBS⟩
                case rest =>
                  rename_i KK hKK
                  obtain ⟨HQE, HBE⟩ := hcut
                  obtain ⟨s8, a8, L8, c8, b8, M8, d8, tb8, hr8⟩ := HQE.out
                  have x0 := tb8.cell (i := 0) rfl
                  have x1 := tb8.cell (i := 1) rfl
                  have x2 := tb8.cell (i := 2) rfl
                  refine hKK _ _ (wp_ret ?_)
                  exact bodyPost_ret (v := .agg #[.bool s8, .slice a8 L8 c8, .slice b8 M8 d8]) (by simp [results, Try.results51, go_sem, x0, x1, x2]) rfl ⟨_, (d : Int) - pn, d, rfl, hr8, by rw [HV.out], HBE.out⟩
              · have hle := HKU.out.1.lt
                have HV := Lib.hid (HRS.out.symm.trans ((congrArg (fun ff => wvP ff width l c pn d pk index) hfk).trans (wv4 width l c pn d pk index)))
                have cf1 : (form == 1) = false := by rw [hfk] <;> rfl
                have cf3 : (form == 3) = false := by rw [hfk] <;> rfl
                have cf4 : (form == 4) = true := by rw [hfk] <;> rfl
                have cf5 : (form == 5) = false := by rw [hfk] <;> rfl
                have cf6 : (form == 6) = false := by rw [hfk] <;> rfl
                have cf7 : (form == 7) = false := by rw [hfk] <;> rfl
                clear hfk
                obtain ⟨O, hO⟩ : ∃ O, O = ordI (pn * ((1000 : Nat) : Int) - width * (d : Int)) := ⟨_, rfl⟩
                have HO := Lib.hid hO.symm
                have HON := Lib.hid (show O < 0 ↔ pn * 1000 < width * (d : Int) from by
                  rw [hO, ord_neg]
                  show pn * 1000 - width * (d : Int) < 0 ↔ _
                  omega)
                clear hO
                obtain ⟨ob4, hob⟩ : ∃ ob4, decide (O < 0) = ob4 := ⟨_, rfl⟩
                have e0 := HKU.out.1.cell (i := 0) rfl
                go_upto_region 15 with fail
                clear e0
                refine region_heads (by kernel_rfl) 6 (by simp) (by kernel_rfl) (by kernel_rfl) (by kernel_rfl) (by kernel_rfl) (fun jx vx wx => match jx with | 0 => IsR wx.heap.size wx vx (pn) (d) 15 15 | 1 => vx = (.pointer (some ⟨w.heap.size, 4, none⟩)) | 2 => vx = (.int .i64 width) | 3 => IsR wx.heap.size wx vx (width) (1000) 4 4 | 4 => vx = (.int .i64 O) | 5 => vx = (.bool ob4) | _ => True) (fun W => Below wc.heap.size wc W) (fun wx wy => Below wx.heap.size wx wy) (Below.refl _ _).drew ?_ ?_ ?_ ?_
                · intro jx vx wx wy h g
                  match jx, h with
                  | 0, h => exact IsR.up h g
                  | 1, h => exact h
                  | 2, h => exact h
                  | 3, h => exact IsR.up h g
                  | 4, h => exact h
                  | 5, h => exact h
                  | jx + 6, h => exact trivial
                · intro jx ox dx hj ho hd
                  exact insN_of (by kernel_rfl) hj ho hd
                · intro ix ox ax W hi hio hsh hW hpre
                  have hsz : wc.heap.size ≤ W.heap.size := hW.size
                  have GA : ∀ ob, Below W.heap.size W (W.alloc ob) := fun ob => (Below.refl _ _).alloc (Nat.le_refl _) ob
                  have WA : ∀ ob, Below wc.heap.size wc (W.alloc ob) := fun ob => hW.alloc hsz ob
                  have t4 : ax.tmps[4]?.getD undef = (.pointer (some ⟨w.heap.size, 0, none⟩)) := (Array.getD_eq_getD_getElem? ..).symm.trans ((hsh.2.2 4 (notN_of (by kernel_rfl))).trans rfl)
                  have t11 : ax.tmps[11]?.getD undef = (.pointer (some ⟨xb, 0, none⟩)) := (Array.getD_eq_getD_getElem? ..).symm.trans ((hsh.2.2 11 (notN_of (by kernel_rfl))).trans rfl)
                  obtain ⟨s_x, a_x, L_x, c_x, b_x, M_x, d_x, tb_x, hr_x⟩ := (HKU.out.below hW).2.2.1
                  have xx0 := tb_x.cell (i := 0) rfl
                  have xx1 := tb_x.cell (i := 1) rfl
                  have xx2 := tb_x.cell (i := 2) rfl
                  have e4 := (HKU.out.below hW).1.cell (i := 4) rfl
                  clear hsh
                  match ix, hi, hio with
                  | 0, _, hio =>
                    cases hio
                    exact hwp_val (v := .agg #[.bool s_x, .slice a_x L_x c_x, .slice b_x M_x d_x]) (w' := W) (by simp [execOp, Act.eval, t11, xx0, xx1, xx2, go_sem]) ⟨_, rfl, hr_x, hW, Below.refl _ _⟩
                  | 1, _, hio =>
                    cases hio
                    exact hwp_val (v := .pointer (some ⟨w.heap.size, 4, none⟩)) (w' := W) (by simp [execOp, Act.eval, t4, go_sem]) ⟨_, rfl, rfl, hW, Below.refl _ _⟩
                  | 2, _, hio =>
                    cases hio
                    have p1 := hpre ⟨1, .data⟩ (by simp) (by rfl) _ _ rfl rfl
                    have f1 : ax.tmps[69]?.getD undef = (.pointer (some ⟨w.heap.size, 4, none⟩)) := (Array.getD_eq_getD_getElem? ..).symm.trans p1
                    exact hwp_val (v := .int .i64 width) (w' := W) (by simp [execOp, Act.eval, e4, f1, go_sem]) ⟨_, rfl, rfl, hW, Below.refl _ _⟩
                  | 3, _, hio =>
                    cases hio
                    have p2 := hpre ⟨2, .data⟩ (by simp) (by rfl) _ _ rfl rfl
                    have f2 : ax.tmps[70]?.getD undef = (.int .i64 width) := (Array.getD_eq_getD_getElem? ..).symm.trans p2
                    refine hwp_enter (f := 80) (args := #[.int .i64 width, .int .i64 1000]) (by simp [execOp, Act.eval, f2, go_sem]) ?_
                    refine (partI width 1000 4 4 W (by omega) (by omega) (by omega) (by omega) g4 (by decide)).mono ?_
                    rintro ex wy ⟨vn, rfl, hq, hb⟩
                    exact ⟨vn, rfl, _, rfl, hq, hW.trans (hb.mono hsz), hb⟩
                  | 4, _, hio =>
                    cases hio
                    have p0 := hpre ⟨0, .data⟩ (by simp) (by rfl) _ _ rfl rfl
                    obtain ⟨v0, hv0⟩ : ∃ v, ax.tmps.getD 68 undef = v := ⟨_, rfl⟩
                    have r0 : IsR W.heap.size W (ax.tmps.getD 68 undef) (pn) (d) 15 15 := p0
                    rw [hv0] at r0
                    have f0 : ax.tmps[68]?.getD undef = v0 := (Array.getD_eq_getD_getElem? ..).symm.trans hv0
                    clear p0 hv0
                    have p3 := hpre ⟨3, .data⟩ (by simp) (by rfl) _ _ rfl rfl
                    obtain ⟨v3, hv3⟩ : ∃ v, ax.tmps.getD 71 undef = v := ⟨_, rfl⟩
                    have r3 : IsR W.heap.size W (ax.tmps.getD 71 undef) (width) (1000) 4 4 := p3
                    rw [hv3] at r3
                    have f3 : ax.tmps[71]?.getD undef = v3 := (Array.getD_eq_getD_getElem? ..).symm.trans hv3
                    clear p3 hv3
                    refine hwp_enter (f := 86) (args := #[v0, v3]) (by simp [execOp, Act.eval, f0, f3, go_sem]) ?_
                    refine ((orderS W.heap.size _ _ 15 15 4 4 20 _ _ _ _ W (Nat.le_refl _) (by omega) (by omega) (by omega) (by omega) r0 r3).mono (fun _ _ h => by rw [HO.out] at h; exact h)).mono ?_
                    rintro ex wy ⟨rfl, hb⟩
                    exact ⟨_, rfl, _, rfl, rfl, hW.trans (hb.mono hsz), hb⟩
                  | 5, _, hio =>
                    cases hio
                    have p4 := hpre ⟨4, .data⟩ (by simp) (by rfl) _ _ rfl rfl
                    have f4 : ax.tmps[72]?.getD undef = (.int .i64 O) := (Array.getD_eq_getD_getElem? ..).symm.trans p4
                    exact hwp_val (v := .bool ob4) (w' := W) (by simp [execOp, Act.eval, hob, f4, go_sem]) ⟨_, rfl, rfl, hW, Below.refl _ _⟩
                  | ix + 6, hi, _ => exact absurd hi (by omega)
                · intro ax w4 hsh hW hφ
                  have q0 : IsR w4.heap.size w4 (ax.tmps.getD 68 undef) (pn) (d) 15 15 := hφ 0 _ _ (by omega) rfl rfl
                  obtain ⟨v0, e0⟩ : ∃ v, ax.tmps.getD 68 undef = v := ⟨_, rfl⟩
                  rw [e0] at q0
                  have Q0 := Lib.hid q0
                  clear q0
                  have e1 : ax.tmps.getD 69 undef = (.pointer (some ⟨w.heap.size, 4, none⟩)) := hφ 1 _ _ (by omega) rfl rfl
                  have e2 : ax.tmps.getD 70 undef = (.int .i64 width) := hφ 2 _ _ (by omega) rfl rfl
                  have q3 : IsR w4.heap.size w4 (ax.tmps.getD 71 undef) (width) (1000) 4 4 := hφ 3 _ _ (by omega) rfl rfl
                  obtain ⟨v3, e3⟩ : ∃ v, ax.tmps.getD 71 undef = v := ⟨_, rfl⟩
                  rw [e3] at q3
                  have Q3 := Lib.hid q3
                  clear q3
                  have e4 : ax.tmps.getD 72 undef = (.int .i64 O) := hφ 4 _ _ (by omega) rfl rfl
                  have e5 : ax.tmps.getD 73 undef = (.bool ob4) := hφ 5 _ _ (by omega) rfl rfl
                  rw [shape_puts hsh [(68, v0), (69, .pointer (some ⟨w.heap.size, 4, none⟩)), (70, .int .i64 width), (71, v3), (72, .int .i64 O), (73, .bool ob4)] [68, 69, 70, 71, 72, 73] rfl (by kernel_rfl) ⟨e0, e1, e2, e3, e4, e5, trivial⟩]
                  clear hφ hsh e0 e1 e2 e3 e4 e5
                  simp only [putsN, List.foldl_cons, List.foldl_nil, List.drop_succ_cons, List.drop_zero, Act.put, List.setIfInBounds_toArray, List.set_cons_succ, List.set_cons_zero]
                  have HK4 := Lib.hid (HKU.out.below hW)
                  clear hW Q0 Q3 HO HKU HUU
                  cases ob4
                  · have HQV := Lib.hid (show sqN width pn d = 0 from if_neg (fun h => of_decide_eq_false hob (HON.out.2 h)))
                    clear hob HON
                    go_upto_region 17 with fail
                    go_cut [] (fun wx => Hid (QBox wx (w.heap.size + 1) (0) (1) 130 130) ∧ Hid (Below w.heap.size w wx))
                    case first =>
                      skip
                      go_wp2_with fail
                      refine (wholeS 0 1 _ (by omega) (by omega) (by decide)).mono ?_
                      rintro e wa ⟨va, rfl, hqa, hba⟩
                      obtain ⟨s_v, a_v, L_v, c_v, b_v, M_v, d_v, rfl⟩ := isR_shape hqa
                      have HQa := Lib.hid hqa
                      have HKa := Lib.hid (HK4.out.below hba)
                      clear hqa hba
                      obtain ⟨s_r, a_r, L_r, c_r, b_r, M_r, d_r, tb_r, hr_r⟩ := HKa.out.2.1.q0
                      have xr0 := tb_r.cell (i := 0) rfl
                      have xr1 := tb_r.cell (i := 1) rfl
                      have xr2 := tb_r.cell (i := 2) rfl
                      have hlr := tb_r.lt
                      have HRr := Lib.hid hr_r
                      clear hr_r
                      have fr0 := tb_r.frozen 0
                      have fr1 := tb_r.frozen 1
                      have fr2 := tb_r.frozen 2
                      have HQS := Lib.hid (qbox_set HKa.out.2.1 (HQa.out.wide (m' := 130) (n' := 130) (by omega) (by omega)))
                      have HBS := Lib.hid (below_set3 (u0 := .bool s_v) (u1 := .slice a_v L_v c_v) (u2 := .slice b_v M_v d_v) HKa.out.2.2.2.2.2 (show w.heap.size ≤ w.heap.size + 1 by omega))
                      clear tb_r
                      go_wp2_with fail
                      all_goals go_meet
                      all_goals exact ⟨HQS, HBS⟩
                    case rest =>
                      rename_i KK hKK
                      obtain ⟨HQE, HBE⟩ := hcut
                      obtain ⟨s8, a8, L8, c8, b8, M8, d8, tb8, hr8⟩ := HQE.out
                      have x0 := tb8.cell (i := 0) rfl
                      have x1 := tb8.cell (i := 1) rfl
                      have x2 := tb8.cell (i := 2) rfl
                      refine hKK _ _ (wp_ret ?_)
                      exact bodyPost_ret (v := .agg #[.bool s8, .slice a8 L8 c8, .slice b8 M8 d8]) (by simp [results, Try.results51, go_sem, x0, x1, x2]) rfl ⟨_, 0, 1, rfl, hr8, by rw [HV.out, HQV.out]; rfl, HBE.out⟩
                  · have HQV := Lib.hid (show sqN width pn d = 1 from if_pos (HON.out.1 (of_decide_eq_true hob)))
                    clear hob HON
                    go_upto_region 16 with fail
                    go_cut [] (fun wx => Hid (QBox wx (w.heap.size + 1) (1) (1) 130 130) ∧ Hid (Below w.heap.size w wx))
                    case first =>
                      obtain ⟨s_o, a_o, L_o, c_o, b_o, M_o, d_o, tb_o, hr_o⟩ := HK4.out.2.2.2.1
                      have xo0 := tb_o.cell (i := 0) rfl
                      have xo1 := tb_o.cell (i := 1) rfl
                      have xo2 := tb_o.cell (i := 2) rfl
                      have hlo := tb_o.lt
                      have HRo := Lib.hid hr_o
                      clear hr_o
                      obtain ⟨s_r, a_r, L_r, c_r, b_r, M_r, d_r, tb_r, hr_r⟩ := HK4.out.2.1.q0
                      have xr0 := tb_r.cell (i := 0) rfl
                      have xr1 := tb_r.cell (i := 1) rfl
                      have xr2 := tb_r.cell (i := 2) rfl
                      have hlr := tb_r.lt
                      have HRr := Lib.hid hr_r
                      clear hr_r
                      have fr0 := tb_r.frozen 0
                      have fr1 := tb_r.frozen 1
                      have fr2 := tb_r.frozen 2
                      have HQS := Lib.hid (qbox_set HK4.out.2.1 (HRo.out.wide (m' := 130) (n' := 130) (by omega) (by omega)))
                      have HBS := Lib.hid (below_set3 (u0 := .bool s_o) (u1 := .slice a_o L_o c_o) (u2 := .slice b_o M_o d_o) HK4.out.2.2.2.2.2 (show w.heap.size ≤ w.heap.size + 1 by omega))
                      clear tb_r tb_o
                      go_wp2_with fail
                      all_goals go_meet
                      all_goals exact ⟨HQS, HBS⟩
                    case rest =>
                      rename_i KK hKK
                      obtain ⟨HQE, HBE⟩ := hcut
                      obtain ⟨s8, a8, L8, c8, b8, M8, d8, tb8, hr8⟩ := HQE.out
                      have x0 := tb8.cell (i := 0) rfl
                      have x1 := tb8.cell (i := 1) rfl
                      have x2 := tb8.cell (i := 2) rfl
                      refine hKK _ _ (wp_ret ?_)
                      exact bodyPost_ret (v := .agg #[.bool s8, .slice a8 L8 c8, .slice b8 M8 d8]) (by simp [results, Try.results51, go_sem, x0, x1, x2]) rfl ⟨_, 1, 1, rfl, hr8, by rw [HV.out, HQV.out]; rfl, HBE.out⟩
              · have e0 := HKU.out.1.cell (i := 0) rfl
                have hle := HKU.out.1.lt
                have HV := Lib.hid (HRS.out.symm.trans ((congrArg (fun ff => wvP ff width l c pn d pk index) hfk).trans (wv5 width l c pn d pk index)))
                have cf1 : (form == 1) = false := by rw [hfk] <;> rfl
                have cf3 : (form == 3) = false := by rw [hfk] <;> rfl
                have cf4 : (form == 4) = false := by rw [hfk] <;> rfl
                have cf5 : (form == 5) = true := by rw [hfk] <;> rfl
                have cf6 : (form == 6) = false := by rw [hfk] <;> rfl
                have cf7 : (form == 7) = false := by rw [hfk] <;> rfl
                clear hfk
                obtain ⟨U3, hU3⟩ : ∃ U3, U3 = 3 * ((d * d * (d * d) : Nat) : Int) - (UP * ((d * d : Nat) : Int) + UP * ((d * d : Nat) : Int)) * ((1 : Nat) : Int) := ⟨_, rfl⟩
                have HU3 := Lib.hid hU3.symm
                have HRAT := Lib.hid (soft_rat (pn := pn) HUP.out hU3)
                clear hU3
                go_upto_region 19 with fail
                clear e0
                go_cut [] (fun wx => Hid (QBox wx (w.heap.size + 1) (UP * UP * U3) (d * d * (d * d) * (1 * (d * d * (d * d)))) 130 130) ∧ Hid (Below w.heap.size w wx))
                case first =>
                  refine region_heads (by kernel_rfl) 9 (by simp) (by kernel_rfl) (by kernel_rfl) (by kernel_rfl) (by kernel_rfl) (fun jx vx wx => match jx with | 0 => IsR wx.heap.size wx vx (UP) (d * d) 32 30 | 1 => IsR wx.heap.size wx vx (UP) (d * d) 32 30 | 2 => IsR wx.heap.size wx vx (UP * UP) (d * d * (d * d)) 64 60 | 3 => IsR wx.heap.size wx vx (3) (1) 1 0 | 4 => IsR wx.heap.size wx vx (UP) (d * d) 32 30 | 5 => IsR wx.heap.size wx vx (UP) (d * d) 32 30 | 6 => IsR wx.heap.size wx vx (UP * ((d * d : Nat) : Int) + UP * ((d * d : Nat) : Int)) (d * d * (d * d)) 63 60 | 7 => IsR wx.heap.size wx vx (U3) (1 * (d * d * (d * d))) 64 60 | 8 => IsR wx.heap.size wx vx (UP * UP * U3) (d * d * (d * d) * (1 * (d * d * (d * d)))) 128 120 | _ => True) (fun W => Below wc.heap.size wc W) (fun wx wy => Below wx.heap.size wx wy) (Below.refl _ _).drew ?_ ?_ ?_ ?_
                  · intro jx vx wx wy h g
                    match jx, h with
                    | 0, h => exact IsR.up h g
                    | 1, h => exact IsR.up h g
                    | 2, h => exact IsR.up h g
                    | 3, h => exact IsR.up h g
                    | 4, h => exact IsR.up h g
                    | 5, h => exact IsR.up h g
                    | 6, h => exact IsR.up h g
                    | 7, h => exact IsR.up h g
                    | 8, h => exact IsR.up h g
                    | jx + 9, h => exact trivial
                  · intro jx ox dx hj ho hd
                    exact insN_of (by kernel_rfl) hj ho hd
                  · intro ix ox ax W hi hio hsh hW hpre
                    have hsz : wc.heap.size ≤ W.heap.size := hW.size
                    have GA : ∀ ob, Below W.heap.size W (W.alloc ob) := fun ob => (Below.refl _ _).alloc (Nat.le_refl _) ob
                    have WA : ∀ ob, Below wc.heap.size wc (W.alloc ob) := fun ob => hW.alloc hsz ob
                    have t13 : ax.tmps[13]?.getD undef = (.pointer (some ⟨ub, 0, none⟩)) := (Array.getD_eq_getD_getElem? ..).symm.trans ((hsh.2.2 13 (notN_of (by kernel_rfl))).trans rfl)
                    obtain ⟨s_u, a_u, L_u, c_u, b_u, M_u, d_u, tb_u, hr_u⟩ := (HUU.out.below hW)
                    have xu0 := tb_u.cell (i := 0) rfl
                    have xu1 := tb_u.cell (i := 1) rfl
                    have xu2 := tb_u.cell (i := 2) rfl
                    clear hsh
                    match ix, hi, hio with
                    | 0, _, hio =>
                      cases hio
                      exact hwp_val (v := .agg #[.bool s_u, .slice a_u L_u c_u, .slice b_u M_u d_u]) (w' := W) (by simp [execOp, Act.eval, t13, xu0, xu1, xu2, go_sem]) ⟨_, rfl, hr_u, hW, Below.refl _ _⟩
                    | 1, _, hio =>
                      cases hio
                      exact hwp_val (v := .agg #[.bool s_u, .slice a_u L_u c_u, .slice b_u M_u d_u]) (w' := W) (by simp [execOp, Act.eval, t13, xu0, xu1, xu2, go_sem]) ⟨_, rfl, hr_u, hW, Below.refl _ _⟩
                    | 2, _, hio =>
                      cases hio
                      have p0 := hpre ⟨0, .data⟩ (by simp) (by rfl) _ _ rfl rfl
                      obtain ⟨v0, hv0⟩ : ∃ v, ax.tmps.getD 78 undef = v := ⟨_, rfl⟩
                      have r0 : IsR W.heap.size W (ax.tmps.getD 78 undef) (UP) (d * d) 32 30 := p0
                      rw [hv0] at r0
                      have f0 : ax.tmps[78]?.getD undef = v0 := (Array.getD_eq_getD_getElem? ..).symm.trans hv0
                      clear p0 hv0
                      have p1 := hpre ⟨1, .data⟩ (by simp) (by rfl) _ _ rfl rfl
                      obtain ⟨v1, hv1⟩ : ∃ v, ax.tmps.getD 79 undef = v := ⟨_, rfl⟩
                      have r1 : IsR W.heap.size W (ax.tmps.getD 79 undef) (UP) (d * d) 32 30 := p1
                      rw [hv1] at r1
                      have f1 : ax.tmps[79]?.getD undef = v1 := (Array.getD_eq_getD_getElem? ..).symm.trans hv1
                      clear p1 hv1
                      refine hwp_enter (f := 52) (args := #[v0, v1]) (by simp [execOp, Act.eval, f0, f1, go_sem]) ?_
                      refine (timesS W.heap.size _ _ 32 30 32 30 _ _ _ _ W (Nat.le_refl _) (by omega) (by omega) r0 r1).mono ?_
                      rintro ex wy ⟨vn, rfl, hq, hb⟩
                      exact ⟨vn, rfl, _, rfl, hq, hW.trans (hb.mono hsz), hb⟩
                    | 3, _, hio =>
                      cases hio
                      refine hwp_enter (f := 53) (args := #[.int .i64 (3)]) (by simp [execOp, Act.eval, go_sem]) ?_
                      refine (wholeS (3) 1 W (by omega) (by omega) (by decide)).mono ?_
                      rintro ex wy ⟨vn, rfl, hq, hb⟩
                      exact ⟨vn, rfl, _, rfl, hq, hW.trans (hb.mono hsz), hb⟩
                    | 4, _, hio =>
                      cases hio
                      exact hwp_val (v := .agg #[.bool s_u, .slice a_u L_u c_u, .slice b_u M_u d_u]) (w' := W) (by simp [execOp, Act.eval, t13, xu0, xu1, xu2, go_sem]) ⟨_, rfl, hr_u, hW, Below.refl _ _⟩
                    | 5, _, hio =>
                      cases hio
                      exact hwp_val (v := .agg #[.bool s_u, .slice a_u L_u c_u, .slice b_u M_u d_u]) (w' := W) (by simp [execOp, Act.eval, t13, xu0, xu1, xu2, go_sem]) ⟨_, rfl, hr_u, hW, Below.refl _ _⟩
                    | 6, _, hio =>
                      cases hio
                      have p4 := hpre ⟨4, .data⟩ (by simp) (by rfl) _ _ rfl rfl
                      obtain ⟨v4, hv4⟩ : ∃ v, ax.tmps.getD 82 undef = v := ⟨_, rfl⟩
                      have r4 : IsR W.heap.size W (ax.tmps.getD 82 undef) (UP) (d * d) 32 30 := p4
                      rw [hv4] at r4
                      have f4 : ax.tmps[82]?.getD undef = v4 := (Array.getD_eq_getD_getElem? ..).symm.trans hv4
                      clear p4 hv4
                      have p5 := hpre ⟨5, .data⟩ (by simp) (by rfl) _ _ rfl rfl
                      obtain ⟨v5, hv5⟩ : ∃ v, ax.tmps.getD 83 undef = v := ⟨_, rfl⟩
                      have r5 : IsR W.heap.size W (ax.tmps.getD 83 undef) (UP) (d * d) 32 30 := p5
                      rw [hv5] at r5
                      have f5 : ax.tmps[83]?.getD undef = v5 := (Array.getD_eq_getD_getElem? ..).symm.trans hv5
                      clear p5 hv5
                      refine hwp_enter (f := 85) (args := #[v4, v5]) (by simp [execOp, Act.eval, f4, f5, go_sem]) ?_
                      refine (plusS W.heap.size _ _ 32 30 32 30 63 _ _ _ _ W (Nat.le_refl _) (by omega) (by omega) (by omega) (by omega) r4 r5).mono ?_
                      rintro ex wy ⟨vn, rfl, hq, hb⟩
                      exact ⟨vn, rfl, _, rfl, hq, hW.trans (hb.mono hsz), hb⟩
                    | 7, _, hio =>
                      cases hio
                      have p3 := hpre ⟨3, .data⟩ (by simp) (by rfl) _ _ rfl rfl
                      obtain ⟨v3, hv3⟩ : ∃ v, ax.tmps.getD 81 undef = v := ⟨_, rfl⟩
                      have r3 : IsR W.heap.size W (ax.tmps.getD 81 undef) (3) (1) 1 0 := p3
                      rw [hv3] at r3
                      have f3 : ax.tmps[81]?.getD undef = v3 := (Array.getD_eq_getD_getElem? ..).symm.trans hv3
                      clear p3 hv3
                      have p6 := hpre ⟨6, .data⟩ (by simp) (by rfl) _ _ rfl rfl
                      obtain ⟨v6, hv6⟩ : ∃ v, ax.tmps.getD 84 undef = v := ⟨_, rfl⟩
                      have r6 : IsR W.heap.size W (ax.tmps.getD 84 undef) (UP * ((d * d : Nat) : Int) + UP * ((d * d : Nat) : Int)) (d * d * (d * d)) 63 60 := p6
                      rw [hv6] at r6
                      have f6 : ax.tmps[84]?.getD undef = v6 := (Array.getD_eq_getD_getElem? ..).symm.trans hv6
                      clear p6 hv6
                      refine hwp_enter (f := 81) (args := #[v3, v6]) (by simp [execOp, Act.eval, f3, f6, go_sem]) ?_
                      refine ((minusS W.heap.size _ _ 1 0 63 60 64 _ _ _ _ W (Nat.le_refl _) (by omega) (by omega) (by omega) (by omega) r3 r6).mono (fun _ _ h => newS_cast h HU3.out rfl)).mono ?_
                      rintro ex wy ⟨vn, rfl, hq, hb⟩
                      exact ⟨vn, rfl, _, rfl, hq, hW.trans (hb.mono hsz), hb⟩
                    | 8, _, hio =>
                      cases hio
                      have p2 := hpre ⟨2, .data⟩ (by simp) (by rfl) _ _ rfl rfl
                      obtain ⟨v2, hv2⟩ : ∃ v, ax.tmps.getD 80 undef = v := ⟨_, rfl⟩
                      have r2 : IsR W.heap.size W (ax.tmps.getD 80 undef) (UP * UP) (d * d * (d * d)) 64 60 := p2
                      rw [hv2] at r2
                      have f2 : ax.tmps[80]?.getD undef = v2 := (Array.getD_eq_getD_getElem? ..).symm.trans hv2
                      clear p2 hv2
                      have p7 := hpre ⟨7, .data⟩ (by simp) (by rfl) _ _ rfl rfl
                      obtain ⟨v7, hv7⟩ : ∃ v, ax.tmps.getD 85 undef = v := ⟨_, rfl⟩
                      have r7 : IsR W.heap.size W (ax.tmps.getD 85 undef) (U3) (1 * (d * d * (d * d))) 64 60 := p7
                      rw [hv7] at r7
                      have f7 : ax.tmps[85]?.getD undef = v7 := (Array.getD_eq_getD_getElem? ..).symm.trans hv7
                      clear p7 hv7
                      refine hwp_enter (f := 52) (args := #[v2, v7]) (by simp [execOp, Act.eval, f2, f7, go_sem]) ?_
                      refine (timesS W.heap.size _ _ 64 60 64 60 _ _ _ _ W (Nat.le_refl _) (by omega) (by omega) r2 r7).mono ?_
                      rintro ex wy ⟨vn, rfl, hq, hb⟩
                      exact ⟨vn, rfl, _, rfl, hq, hW.trans (hb.mono hsz), hb⟩
                    | ix + 9, hi, _ => exact absurd hi (by omega)
                  · intro ax w5 hsh hW hφ
                    have q0 : IsR w5.heap.size w5 (ax.tmps.getD 78 undef) (UP) (d * d) 32 30 := hφ 0 _ _ (by omega) rfl rfl
                    obtain ⟨v0, e0⟩ : ∃ v, ax.tmps.getD 78 undef = v := ⟨_, rfl⟩
                    rw [e0] at q0
                    have Q0 := Lib.hid q0
                    clear q0
                    have q1 : IsR w5.heap.size w5 (ax.tmps.getD 79 undef) (UP) (d * d) 32 30 := hφ 1 _ _ (by omega) rfl rfl
                    obtain ⟨v1, e1⟩ : ∃ v, ax.tmps.getD 79 undef = v := ⟨_, rfl⟩
                    rw [e1] at q1
                    have Q1 := Lib.hid q1
                    clear q1
                    have q2 : IsR w5.heap.size w5 (ax.tmps.getD 80 undef) (UP * UP) (d * d * (d * d)) 64 60 := hφ 2 _ _ (by omega) rfl rfl
                    obtain ⟨v2, e2⟩ : ∃ v, ax.tmps.getD 80 undef = v := ⟨_, rfl⟩
                    rw [e2] at q2
                    have Q2 := Lib.hid q2
                    clear q2
                    have q3 : IsR w5.heap.size w5 (ax.tmps.getD 81 undef) (3) (1) 1 0 := hφ 3 _ _ (by omega) rfl rfl
                    obtain ⟨v3, e3⟩ : ∃ v, ax.tmps.getD 81 undef = v := ⟨_, rfl⟩
                    rw [e3] at q3
                    have Q3 := Lib.hid q3
                    clear q3
                    have q4 : IsR w5.heap.size w5 (ax.tmps.getD 82 undef) (UP) (d * d) 32 30 := hφ 4 _ _ (by omega) rfl rfl
                    obtain ⟨v4, e4⟩ : ∃ v, ax.tmps.getD 82 undef = v := ⟨_, rfl⟩
                    rw [e4] at q4
                    have Q4 := Lib.hid q4
                    clear q4
                    have q5 : IsR w5.heap.size w5 (ax.tmps.getD 83 undef) (UP) (d * d) 32 30 := hφ 5 _ _ (by omega) rfl rfl
                    obtain ⟨v5, e5⟩ : ∃ v, ax.tmps.getD 83 undef = v := ⟨_, rfl⟩
                    rw [e5] at q5
                    have Q5 := Lib.hid q5
                    clear q5
                    have q6 : IsR w5.heap.size w5 (ax.tmps.getD 84 undef) (UP * ((d * d : Nat) : Int) + UP * ((d * d : Nat) : Int)) (d * d * (d * d)) 63 60 := hφ 6 _ _ (by omega) rfl rfl
                    obtain ⟨v6, e6⟩ : ∃ v, ax.tmps.getD 84 undef = v := ⟨_, rfl⟩
                    rw [e6] at q6
                    have Q6 := Lib.hid q6
                    clear q6
                    have q7 : IsR w5.heap.size w5 (ax.tmps.getD 85 undef) (U3) (1 * (d * d * (d * d))) 64 60 := hφ 7 _ _ (by omega) rfl rfl
                    obtain ⟨v7, e7⟩ : ∃ v, ax.tmps.getD 85 undef = v := ⟨_, rfl⟩
                    rw [e7] at q7
                    have Q7 := Lib.hid q7
                    clear q7
                    have q8 : IsR w5.heap.size w5 (ax.tmps.getD 86 undef) (UP * UP * U3) (d * d * (d * d) * (1 * (d * d * (d * d)))) 128 120 := hφ 8 _ _ (by omega) rfl rfl
                    obtain ⟨v8, e8⟩ : ∃ v, ax.tmps.getD 86 undef = v := ⟨_, rfl⟩
                    rw [e8] at q8
                    have Q8 := Lib.hid q8
                    clear q8
                    rw [shape_puts hsh [(78, v0), (79, v1), (80, v2), (81, v3), (82, v4), (83, v5), (84, v6), (85, v7), (86, v8)] [78, 79, 80, 81, 82, 83, 84, 85, 86] rfl (by kernel_rfl) ⟨e0, e1, e2, e3, e4, e5, e6, e7, e8, trivial⟩]
                    clear hφ hsh e0 e1 e2 e3 e4 e5 e6 e7 e8
                    simp only [putsN, List.foldl_cons, List.foldl_nil, List.drop_succ_cons, List.drop_zero, Act.put, List.setIfInBounds_toArray, List.set_cons_succ, List.set_cons_zero]
                    have HK5 := Lib.hid (HKU.out.below hW)
                    clear hW HKU HUU
                    refine wpList_storeQ w5 rfl _ _ rfl (w.heap.size + 1) rfl rfl Q8.out HK5.out.2.1 ?_
                    intro w6 QY SY
                    simp only [Act.put]
                    have HBE := Lib.hid (below_gro HK5.out.2.2.2.2.2 SY.1 HK5.out.2.2.2.2.2.size (by omega))
                    have HQE := Lib.hid (QY.wide (m' := 130) (n' := 130) (by omega) (by omega))
                    clear SY QY Q0 Q1 Q2 Q3 Q4 Q5 Q6 Q7 Q8 HK5 HU3
                    go_wp2_with fail
                    all_goals go_meet
                    all_goals exact ⟨HQE, HBE⟩
                case rest =>
                  rename_i KK hKK
                  obtain ⟨HQE, HBE⟩ := hcut
                  obtain ⟨s8, a8, L8, c8, b8, M8, d8, tb8, hr8⟩ := HQE.out
                  have x0 := tb8.cell (i := 0) rfl
                  have x1 := tb8.cell (i := 1) rfl
                  have x2 := tb8.cell (i := 2) rfl
                  refine hKK _ _ (wp_ret ?_)
                  exact bodyPost_ret (v := .agg #[.bool s8, .slice a8 L8 c8, .slice b8 M8 d8]) (by simp [results, Try.results51, go_sem, x0, x1, x2]) rfl ⟨_, UP * UP * U3, d * d * (d * d) * (1 * (d * d * (d * d))), rfl, hr8, by rw [HV.out]; exact HRAT.out, HBE.out⟩
              · have e0 := HKU.out.1.cell (i := 0) rfl
                have hle := HKU.out.1.lt
                have HV := Lib.hid (HRS.out.symm.trans ((congrArg (fun ff => wvP ff width l c pn d pk index) hfk).trans (wv6 width l c pn d pk index)))
                have cf1 : (form == 1) = false := by rw [hfk] <;> rfl
                have cf3 : (form == 3) = false := by rw [hfk] <;> rfl
                have cf4 : (form == 4) = false := by rw [hfk] <;> rfl
                have cf5 : (form == 5) = false := by rw [hfk] <;> rfl
                have cf6 : (form == 6) = true := by rw [hfk] <;> rfl
                have cf7 : (form == 7) = false := by rw [hfk] <;> rfl
                clear hfk
                go_upto_region 21 with fail
                go_cut [] (fun wx => Hid (QBox wx (w.heap.size + 1) (chN index pk) (65536) 130 130) ∧ Hid (Below w.heap.size w wx))
                case first =>
                  skip
                  go_wp2_with fail
                  refine (rchance_any index pk _).mono ?_
                  rintro e wa ⟨va, rfl, hqa, hba⟩
                  obtain ⟨s_v, a_v, L_v, c_v, b_v, M_v, d_v, rfl⟩ := isR_shape hqa
                  have HQa := Lib.hid hqa
                  have HKa := Lib.hid (HKU.out.below hba)
                  clear hqa hba
                  obtain ⟨s_r, a_r, L_r, c_r, b_r, M_r, d_r, tb_r, hr_r⟩ := HKa.out.2.1.q0
                  have xr0 := tb_r.cell (i := 0) rfl
                  have xr1 := tb_r.cell (i := 1) rfl
                  have xr2 := tb_r.cell (i := 2) rfl
                  have hlr := tb_r.lt
                  have HRr := Lib.hid hr_r
                  clear hr_r
                  have fr0 := tb_r.frozen 0
                  have fr1 := tb_r.frozen 1
                  have fr2 := tb_r.frozen 2
                  have HQS := Lib.hid (qbox_set HKa.out.2.1 (HQa.out.wide (m' := 130) (n' := 130) (by omega) (by omega)))
                  have HBS := Lib.hid (below_set3 (u0 := .bool s_v) (u1 := .slice a_v L_v c_v) (u2 := .slice b_v M_v d_v) HKa.out.2.2.2.2.2 (show w.heap.size ≤ w.heap.size + 1 by omega))
                  clear tb_r
                  go_wp2_with fail
                  all_goals go_meet
                  all_goals exact ⟨HQS, HBS⟩
                case rest =>
                  rename_i KK hKK
                  obtain ⟨HQE, HBE⟩ := hcut
                  obtain ⟨s8, a8, L8, c8, b8, M8, d8, tb8, hr8⟩ := HQE.out
                  have x0 := tb8.cell (i := 0) rfl
                  have x1 := tb8.cell (i := 1) rfl
                  have x2 := tb8.cell (i := 2) rfl
                  refine hKK _ _ (wp_ret ?_)
                  exact bodyPost_ret (v := .agg #[.bool s8, .slice a8 L8 c8, .slice b8 M8 d8]) (by simp [results, Try.results51, go_sem, x0, x1, x2]) rfl ⟨_, chN index pk, 65536, rfl, hr8, by rw [HV.out]; rfl, HBE.out⟩
              · have e0 := HKU.out.1.cell (i := 0) rfl
                have e1 := HKU.out.1.cell (i := 1) rfl
                have e2 := HKU.out.1.cell (i := 2) rfl
                have e3 := HKU.out.1.cell (i := 3) rfl
                have e4 := HKU.out.1.cell (i := 4) rfl
                have e5 := HKU.out.1.cell (i := 5) rfl
                have e6 := HKU.out.1.cell (i := 6) rfl
                have e7 := HKU.out.1.cell (i := 7) rfl
                have e8 := HKU.out.1.cell (i := 8) rfl
                have hle := HKU.out.1.lt
                have HV := Lib.hid (HRS.out.symm.trans ((congrArg (fun ff => wvP ff width l c pn d pk index) hfk).trans (wv7 width l c pn d pk index)))
                have cf1 : (form == 1) = false := by rw [hfk] <;> rfl
                have cf3 : (form == 3) = false := by rw [hfk] <;> rfl
                have cf4 : (form == 4) = false := by rw [hfk] <;> rfl
                have cf5 : (form == 5) = false := by rw [hfk] <;> rfl
                have cf6 : (form == 6) = false := by rw [hfk] <;> rfl
                have cf7 : (form == 7) = true := by rw [hfk] <;> rfl
                clear hfk
                obtain ⟨s_x, a_x, L_x, c_x, b_x, M_x, d_x, tb_x, hr_x⟩ := HKU.out.2.2.1
                have xx0 := tb_x.cell (i := 0) rfl
                have xx1 := tb_x.cell (i := 1) rfl
                have xx2 := tb_x.cell (i := 2) rfl
                have hlx := tb_x.lt
                have HRx := Lib.hid hr_x
                clear hr_x
                have CA := Lib.hid (along_any form low high cycle width spread c pn back rel ao cap l _ d wc (stepsAt_up HS.out HKU.out.2.2.2.2.2) hl HALL.out.1 HALL.out.2.1 HALL.out.2.2.1 HALL.out.2.2.2.1 HALL.out.2.2.2.2 c0 c1 hd (by omega) HRx.out)
                clear tb_x HRx
                go_upto_region 23 with fail
                go_cut [] (fun wx => ∃ P7 D7, P7 * RES.2 = RES.1 * ((D7 : Nat) : Int) ∧ Hid (QBox wx (w.heap.size + 1) P7 D7 130 130) ∧ Hid (Below w.heap.size w wx))
                case first =>
                  go_wp2_with fail
                  refine CA.out.mono ?_
                  rintro e wa ⟨va, P7, D7, rfl, hqa, hrat, hba⟩
                  obtain ⟨s_v, a_v, L_v, c_v, b_v, M_v, d_v, rfl⟩ := isR_shape hqa
                  have HQa := Lib.hid hqa
                  have HRT := Lib.hid hrat
                  have HKa := Lib.hid (HKU.out.below hba)
                  clear hqa hba hrat CA
                  obtain ⟨s_r, a_r, L_r, c_r, b_r, M_r, d_r, tb_r, hr_r⟩ := HKa.out.2.1.q0
                  have xr0 := tb_r.cell (i := 0) rfl
                  have xr1 := tb_r.cell (i := 1) rfl
                  have xr2 := tb_r.cell (i := 2) rfl
                  have hlr := tb_r.lt
                  have HRr := Lib.hid hr_r
                  clear hr_r
                  have fr0 := tb_r.frozen 0
                  have fr1 := tb_r.frozen 1
                  have fr2 := tb_r.frozen 2
                  have HQS := Lib.hid (qbox_set HKa.out.2.1 (HQa.out.wide (m' := 130) (n' := 130) (by omega) (by omega)))
                  have HBS := Lib.hid (below_set3 (u0 := .bool s_v) (u1 := .slice a_v L_v c_v) (u2 := .slice b_v M_v d_v) HKa.out.2.2.2.2.2 (show w.heap.size ≤ w.heap.size + 1 by omega))
                  clear tb_r
                  go_wp2_with fail
                  all_goals go_meet
                  all_goals exact ⟨P7, D7, by rw [HV.out]; exact HRT.out, HQS, HBS⟩
                case rest =>
                  rename_i KK hKK
                  obtain ⟨P7, D7, hrat, HQE, HBE⟩ := hcut
                  obtain ⟨s8, a8, L8, c8, b8, M8, d8, tb8, hr8⟩ := HQE.out
                  have x0 := tb8.cell (i := 0) rfl
                  have x1 := tb8.cell (i := 1) rfl
                  have x2 := tb8.cell (i := 2) rfl
                  refine hKK _ _ (wp_ret ?_)
                  exact bodyPost_ret (v := .agg #[.bool s8, .slice a8 L8 c8, .slice b8 M8 d8]) (by simp [results, Try.results51, go_sem, x0, x1, x2]) rfl ⟨_, P7, D7, rfl, hr8, hrat, HBE.out⟩
end Go.Proofs.Ytopmdeefcjdadaa
