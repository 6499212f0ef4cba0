/- The waves of effects as numbers. No walk in it. Cycle of any right effect, chance, Part and Over of ints: the reference. (printed by wip/gen/gen_reway.py) The wave of steps as numbers; what stays in memory. No walk in it. (printed by wip/gen/gen_wavesteps.py) effect.where: the place of a unit in its cycle. (printed by wip/gen/gen_where.py) How far the way of an effect is done, as numbers: two numbers for each form, the first one no greater. No walk in it. -/
import Derived.Test.YtopmdeefcjdadaaT28M24
import Derived.Test.YtopmdeefcjdadaaT28M23
import Derived.Test.YtopmdeefcjdadaaT28M18

namespace Go.Proofs.Ytopmdeefcjdadaa
open Go.RowKit
set_option linter.unusedVariables false
set_option linter.unusedSimpArgs false

def sqN (wd n d : Int) : Int := if n * 1000 < wd * d then 1 else 0
def chZ (i k : Int) : Int := IntKind.u64.wrap (IntKind.u64.wrap (wrap64 (wrap64 (wrap64 (1000003 * i) + k) + 20)) * 11400714819323198485)
def chX (z : Int) : Int := bits BinOp.xor IntKind.u64 z (z / 536870912)
/-- the way of chance, in 65536ths -/
def chN (i k : Int) : Int := IntKind.u64.wrap (13787848793156543929 * chX (chZ i k)) / 281474976710656
theorem chN_range (i k : Int) : 0 ≤ chN i k ∧ chN i k ≤ 65535 := by
  unfold chN
  generalize 13787848793156543929 * chX (chZ i k) = x
  rw [IntKind.wrap_u64]
  omega
theorem chN_raw (i k : Int) : wrap64 (IntKind.u64.wrap (13787848793156543929 * bits BinOp.xor IntKind.u64 (IntKind.u64.wrap (IntKind.u64.wrap (wrap64 (wrap64 (wrap64 (1000003 * i) + k) + 20)) * 11400714819323198485)) (IntKind.u64.wrap (IntKind.u64.wrap (wrap64 (wrap64 (wrap64 (1000003 * i) + k) + 20)) * 11400714819323198485) / 536870912)) / 281474976710656) = chN i k := by
  have h := chN_range i k
  exact IntWalk.wrap64_in (chN i k) (by omega)
end Go.Proofs.Ytopmdeefcjdadaa

namespace Go.Proofs.Ytopmdeefcjdadaa
open Go.RowKit
set_option linter.unusedVariables false
set_option linter.unusedSimpArgs false

theorem newS_cast {P P' : Int} {D D' m n : Nat} {w w' : World} {e : Ending} (h : NewS P D m n w e w') (hP : P = P') (hD : D = D') : NewS P' D' m n w e w' := by
  subst hP hD
  exact h
theorem newS_bound {P P' : Int} {D D' m n m' n' : Nat} {w w' : World} {e : Ending} (h : NewS P D m n w e w') (hP : P = P') (hD : D = D') (h1 : P'.natAbs ≤ 10 ^ m') (h2 : D' ≤ 10 ^ n') : NewS P' D' m' n' w e w' := by
  subst hP hD
  obtain ⟨v, e1, ⟨p, d, q1, q2, q3, q4, _, _⟩, hb⟩ := h
  exact ⟨v, e1, ⟨p, d, q1, q2, q3, q4, h1, h2⟩, hb⟩
theorem partI (a b : Int) (m n : Nat) (w : World) (ha0 : 0 ≤ a) (ha : a ≤ 9223372036854775807) (hb : b ≤ 9223372036854775807) (hb0 : 0 < b) (h1 : a ≤ 10 ^ m) (h2 : b ≤ 10 ^ n) : Calls Try.prog 80 #[.int .i64 a, .int .i64 b] w (NewS a b.toNat m n w) := by
  obtain ⟨a, rfl⟩ : ∃ k : Nat, a = (k : Int) := ⟨a.toNat, by omega⟩
  obtain ⟨b, rfl⟩ : ∃ k : Nat, b = (k : Int) := ⟨b.toNat, by omega⟩
  refine partS a b m n w (by omega) (by omega) (by omega) ?_ ?_
  · have : (a : Int) ≤ ((10 ^ m : Nat) : Int) := by simpa using h1
    omega
  · have : (b : Int) ≤ ((10 ^ n : Nat) : Int) := by simpa using h2
    omega
theorem overI (B Da Db m1 n1 m2 n2 : Nat) (Pa Pb : Int) (v u : Value) (w : World) (hB : B ≤ w.heap.size) (hm : m1 + n2 ≤ 178) (hn : n1 + m2 ≤ 178) (hm2 : m2 ≤ 178) (hm1 : m1 ≤ 178) (hn1 : n1 ≤ 178) (hn2 : n2 ≤ 178) (hp : 0 < Pb) (hv : IsR B w v Pa Da m1 n1) (hu : IsR B w u Pb Db m2 n2) :
    Calls Try.prog 82 #[v, u] w (NewS (Pa * (Db : Int)) (Da * Pb.toNat) (m1 + n2) (n1 + m2) w) := by
  obtain ⟨b, rfl⟩ : ∃ k : Nat, Pb = (k : Int) := ⟨Pb.toNat, by omega⟩
  exact overS B Da Db m1 n1 m2 n2 Pa b v u w hB hm hn hm2 hm1 hn1 hn2 (by omega) hv hu
set_option maxRecDepth 100000 in
theorem rcycle_no (form low high cycle width spread : Int) (back rel : Bool) (ao : Option Addr) (cap n : Nat) (w : World) (h7 : ¬ form = 7) :
    Calls Try.prog 79 #[.agg #[.int .i64 form, .int .i64 low, .int .i64 high, .int .i64 cycle, .int .i64 width, .int .i64 spread, .bool back, .bool rel, .slice ao n cap]] w fun e w' => e = .returned (.int .i64 cycle) ∧ Below w.heap.size w w' := by
  have HB := Lib.hid ((Below.refl w.heap.size w).alloc (Nat.le_refl _) (.cells #[.int .i64 form, .int .i64 low, .int .i64 high, .int .i64 cycle, .int .i64 width, .int .i64 spread, .bool back, .bool rel, .slice ao n cap] 24))
  go_enter Try.func79, Try.ntmps79
  go_wp2_with fail
  go_ret
  exact ⟨rfl, HB.out⟩
theorem rcycle_all (form low high cycle width spread c : Int) (back rel : Bool) (ao : Option Addr) (cap : Nat) (l : List Stp) (w : World) (hs : StepsAt w.heap.size w ao l) (hl : l.length ≤ 50) (hall : l.all stpB = true) (hc : 0 ≤ cycle ∧ cycle ≤ 3600000) (h6 : form ≠ 7 → l.length = 0) (h7 : form = 7 → cycle = 0) (hcc : cycle + sumS l = c) :
    Calls Try.prog 79 #[.agg #[.int .i64 form, .int .i64 low, .int .i64 high, .int .i64 cycle, .int .i64 width, .int .i64 spread, .bool back, .bool rel, .slice ao l.length cap]] w fun e w' => e = .returned (.int .i64 c) ∧ Below w.heap.size w w' := by
  by_cases h : form = 7
  · have := rcycle_any form low high cycle width spread back rel ao cap l w h hs hl hall hc
    rw [show c = sumS l by have := h7 h; omega]
    exact this
  · have hl0 : l = [] := List.length_eq_zero_iff.1 (h6 h)
    subst hl0
    rw [show c = cycle by rw [← hcc]; simp [sumS]]
    exact rcycle_no form low high cycle width spread back rel ao cap _ w h
set_option maxRecDepth 100000 in
set_option maxHeartbeats 4000000 in
theorem rchance_any (i k : Int) (w : World) : Calls Try.prog 87 #[.int .i64 i, .int .i64 k] w (NewS (chN i k) 65536 5 5 w) := by
  have HC := Lib.hid (chN_raw i k)
  have HM := Lib.hid (fun a : Int => Int.mul_comm a 13787848793156543929)
  obtain ⟨c0, c1⟩ := chN_range i k
  have HB := Lib.hid ((Below.refl w.heap.size w).alloc (Nat.le_refl _) (.cells #[.bool false, .slice none 0 0, .slice none 0 0] 87))
  have HT := Lib.hid (TBox.new w #[.bool false, .slice none 0 0, .slice none 0 0] 87)
  have CP := Lib.hid (fun W => partI (chN i k) 65536 5 5 W c0 (by omega) (by omega) (by omega) (by omega) (by decide))
  go_enter Try.func87, Try.ntmps87
  go_wp2_with fail
  rw [HM.out, HC.out]
  refine (CP.out _).mono ?_
  rintro e w1 ⟨v1, rfl, hq, hb⟩
  obtain ⟨s, ao, L, cap, bo, M, cap2, rfl⟩ := isR_shape hq
  have HT1 := Lib.hid (HT.out.below hb)
  have HQ := Lib.hid (qbox_set ⟨_, _, _, _, _, _, _, HT1.out⟩ hq)
  have hlt := HT1.out.lt
  have HB1 := Lib.hid (HB.out.trans (hb.mono (by simp)))
  have x0 := HT1.out.cell (i := 0) rfl
  have x1 := HT1.out.cell (i := 1) rfl
  have x2 := HT1.out.cell (i := 2) rfl
  have f0 := HT1.out.frozen 0
  have f1 := HT1.out.frozen 1
  have f2 := HT1.out.frozen 2
  have HS := Lib.hid ((stq_of ⟨_, _, _, _, _, _, _, HT1.out⟩ (.bool s) (.slice ao L cap) (.slice bo M cap2)).2)
  have HI := Lib.hid hq
  clear hq hb HT HT1 HB CP HC HM
  go_wp2_with fail
  refine bodyPost_ret (v := .agg #[.bool s, .slice ao L cap, .slice bo M cap2]) (by simp [results, Try.results87, go_sem, x0, x1, x2]) rfl ⟨_, rfl, ?_, below_set3 HB1.out (by omega)⟩
  rw [HS.out.2]
  exact HS.out.1 _ _ _ _ _ _ HI.out
end Go.Proofs.Ytopmdeefcjdadaa

namespace Go.Proofs.Ytopmdeefcjdadaa
open Go.RowKit
set_option linter.unusedVariables false
set_option linter.unusedSimpArgs false

def stAt (L : List Stp) (j : Nat) : Stp := L.getD j ⟨0, 0, 0⟩
/-- how far the way of steps is done: two numbers; c rounds left from step j, which begins at b -/
def stW (L : List Stp) (p d : Int) : Nat → Nat → Int → Int × Int
  | 0, _, _ => (0, 1)
  | c + 1, j, b =>
    if p < d * (b + (stAt L j).hold) then ((stAt L j).lv, 65535)
    else if p < d * (b + (stAt L j).hold + (stAt L j).fade) then
      ((d * (stAt L j).fade - (p - d * (b + (stAt L j).hold))) * (stAt L j).lv + (p - d * (b + (stAt L j).hold)) * (stAt L ((j + 1) % L.length)).lv, d * (stAt L j).fade * 65535)
    else stW L p d c (j + 1) (b + (stAt L j).hold + (stAt L j).fade)
theorem stW_first {L : List Stp} {p d : Int} {c j : Nat} {b : Int} (h : p < d * (b + (stAt L j).hold)) : stW L p d (c + 1) j b = ((stAt L j).lv, 65535) := by unfold stW; rw [if_pos h]
theorem stW_mid {L : List Stp} {p d : Int} {c j : Nat} {b : Int} (h : ¬ p < d * (b + (stAt L j).hold)) (h2 : p < d * (b + (stAt L j).hold + (stAt L j).fade)) :
    stW L p d (c + 1) j b = ((d * (stAt L j).fade - (p - d * (b + (stAt L j).hold))) * (stAt L j).lv + (p - d * (b + (stAt L j).hold)) * (stAt L ((j + 1) % L.length)).lv, d * (stAt L j).fade * 65535) := by unfold stW; rw [if_neg h, if_pos h2]
theorem stW_next {L : List Stp} {p d : Int} {c j : Nat} {b : Int} (h : ¬ p < d * (b + (stAt L j).hold)) (h2 : ¬ p < d * (b + (stAt L j).hold + (stAt L j).fade)) :
    stW L p d (c + 1) j b = stW L p d c (j + 1) (b + (stAt L j).hold + (stAt L j).fade) := by rw [stW, if_neg h, if_neg h2]
theorem stAt_get {L : List Stp} {j : Nat} (h : j < L.length) : stAt L j = L[j] := by unfold stAt; rw [List.getD_eq_getElem?_getD, List.getElem?_eq_getElem h]; rfl
/-- the boxes of the wave of steps: the steps, the place, the results, the place in the cycle -/
def StK (w : World) (lo : Option Addr) (cap : Nat) (L : List Stp) (cyc n d k i : Int) (pb : Nat) (p : Int) (W : World) : Prop :=
  (TBox W w.heap.size 161 #[.slice lo L.length cap, .int .i64 cyc] ∧ TBox W (w.heap.size + 1) 119 #[.int .i64 n, .int .i64 d, .int .i64 k, .int .i64 i]) ∧ (TBox W (w.heap.size + 2) 77 #[.int .u64 0, .int .u64 0, .int .u64 0, .int .u64 0, .int .u64 0, .int .u64 0] ∧ TBox W (w.heap.size + 3) 77 #[.int .u64 0, .int .u64 0, .int .u64 0, .int .u64 0, .int .u64 0, .int .u64 0]) ∧ TBox W pb 77 #[.int .u64 (hw 0 p), .int .u64 (hw 1 p), .int .u64 (hw 2 p), .int .u64 (hw 3 p), .int .u64 (hw 4 p), .int .u64 (hw 5 p)] ∧ w.heap.size + 4 ≤ pb ∧ Below w.heap.size w W
section
variable {w : World} {lo : Option Addr} {cap : Nat} {L : List Stp} {cyc n d k i : Int} {pb : Nat} {p : Int} {W W' : World}
theorem StK.below (h : StK w lo cap L cyc n d k i pb p W) (hb : Below W.heap.size W W') : StK w lo cap L cyc n d k i pb p W' := by
  obtain ⟨⟨a, b⟩, ⟨c, e⟩, f, g, j⟩ := h
  exact ⟨⟨a.below hb, b.below hb⟩, ⟨c.below hb, e.below hb⟩, f.below hb, g, j.trans (hb.mono j.size)⟩
theorem StK.gro {g : Nat} (h : StK w lo cap L cyc n d k i pb p W) (hg : W.grownBy W' (some g)) (h1 : w.heap.size + 4 ≤ g) (h2 : g ≠ pb) : StK w lo cap L cyc n d k i pb p W' := by
  obtain ⟨⟨a, b⟩, ⟨c, e⟩, f, g', j⟩ := h
  exact ⟨⟨a.gro hg (by omega), b.gro hg (by omega)⟩, ⟨c.gro hg (by omega), e.gro hg (by omega)⟩, f.gro hg (Ne.symm h2), g', below_gro j hg j.size (by omega)⟩
theorem StK.size (h : StK w lo cap L cyc n d k i pb p W) : w.heap.size + 4 ≤ W.heap.size ∧ pb < W.heap.size := by
  obtain ⟨_, ⟨_, e⟩, f, g, j⟩ := h
  have := f.lt
  omega
theorem StK.pc (h : StK w lo cap L cyc n d k i pb p W) : W.cell? ⟨w.heap.size + 1, 0, none⟩ = some (.int .i64 n) ∧ W.cell? ⟨w.heap.size + 1, 1, none⟩ = some (.int .i64 d) := ⟨h.1.2.cell (i := 0) rfl, h.1.2.cell (i := 1) rfl⟩
theorem StK.sc (h : StK w lo cap L cyc n d k i pb p W) : W.cell? ⟨w.heap.size, 0, none⟩ = some (.slice lo L.length cap) ∧ W.cell? ⟨w.heap.size, 1, none⟩ = some (.int .i64 cyc) := ⟨h.1.1.cell (i := 0) rfl, h.1.1.cell (i := 1) rfl⟩
theorem StK.bel (h : StK w lo cap L cyc n d k i pb p W) : Below w.heap.size w W := h.2.2.2.2
end
theorem hugeCells {W : World} {b : Nat} {p : Int} (h : TBox W b 77 #[.int .u64 (hw 0 p), .int .u64 (hw 1 p), .int .u64 (hw 2 p), .int .u64 (hw 3 p), .int .u64 (hw 4 p), .int .u64 (hw 5 p)]) : W.cell? ⟨b, 0, none⟩ = some (.int .u64 (hw 0 p)) ∧ W.cell? ⟨b, 1, none⟩ = some (.int .u64 (hw 1 p)) ∧ W.cell? ⟨b, 2, none⟩ = some (.int .u64 (hw 2 p)) ∧ W.cell? ⟨b, 3, none⟩ = some (.int .u64 (hw 3 p)) ∧ W.cell? ⟨b, 4, none⟩ = some (.int .u64 (hw 4 p)) ∧ W.cell? ⟨b, 5, none⟩ = some (.int .u64 (hw 5 p)) := ⟨h.cell (i := 0) rfl, h.cell (i := 1) rfl, h.cell (i := 2) rfl, h.cell (i := 3) rfl, h.cell (i := 4) rfl, h.cell (i := 5) rfl⟩
theorem stpCells {W : World} {b : Nat} {x y z : Int} (h : TBox W b 108 #[.int .i64 x, .int .i64 y, .int .i64 z]) : W.cell? ⟨b, 0, none⟩ = some (.int .i64 x) ∧ W.cell? ⟨b, 1, none⟩ = some (.int .i64 y) ∧ W.cell? ⟨b, 2, none⟩ = some (.int .i64 z) := ⟨h.cell (i := 0) rfl, h.cell (i := 1) rfl, h.cell (i := 2) rfl⟩
theorem zeroStp_ (w : World) : (zeroValue 108).run Try.prog w = .ok (.agg #[.int .i64 0, .int .i64 0, .int .i64 0]) w := by kernel_rfl
end Go.Proofs.Ytopmdeefcjdadaa

namespace Go.Proofs.Ytopmdeefcjdadaa
open Go.RowKit
set_option linter.unusedVariables false
set_option linter.unusedSimpArgs false

theorem stepsAt_up {w W : World} {ao : Option Addr} {l : List Stp} (h : StepsAt w.heap.size w ao l) (hb : Below w.heap.size w W) : StepsAt W.heap.size W ao l := fun hne => by
  obtain ⟨b, off, rfl, h1, h2⟩ := h hne
  refine ⟨b, off, rfl, Nat.lt_of_lt_of_le h1 hb.size, fun i hi => ?_⟩
  obtain ⟨c0, c1, c2⟩ := h2 i hi
  exact ⟨(hb.cell (p := ⟨b, off + i * 3, none⟩) h1).trans c0, (hb.cell (p := ⟨b, off + i * 3 + 1, none⟩) h1).trans c1, (hb.cell (p := ⟨b, off + i * 3 + 2, none⟩) h1).trans c2⟩
/-- the place in the cycle, from the time y and the length d of a cycle -/
def whN (back : Bool) (y d : Int) : Int := if back = true ∧ 0 < y % d then d - y % d else y % d
def whD (c count : Int) : Int := 100 * c * 1000 * count
def whY (c spread index count clock : Int) : Int := clock * 1000 * count - spread * index * 100 * c
theorem whN_range (back : Bool) (y : Int) {d : Int} (h : 0 < d) : 0 ≤ whN back y d ∧ whN back y d ≤ d := by
  have h1 := Int.emod_nonneg y (show d ≠ 0 by omega)
  have h2 := Int.emod_lt_of_pos y h
  unfold whN
  split <;> omega
theorem mul_both {a b A B : Int} (h1 : 0 ≤ a) (h2 : 0 ≤ b) (h3 : a ≤ A) (h4 : b ≤ B) : 0 ≤ a * b ∧ a * b ≤ A * B :=
  ⟨Int.mul_nonneg h1 h2, Int.le_trans (Int.mul_le_mul_of_nonneg_right h3 h2) (Int.mul_le_mul_of_nonneg_left h4 (by omega))⟩
theorem mul_abs {a b A B : Int} (h1 : -A ≤ a) (h2 : a ≤ A) (h3 : 0 ≤ b) (h4 : b ≤ B) : -(A * B) ≤ a * b ∧ a * b ≤ A * B := by
  have k1 : a * b ≤ A * b := Int.mul_le_mul_of_nonneg_right h2 h3
  have k2 : -A * b ≤ a * b := Int.mul_le_mul_of_nonneg_right h1 h3
  have k3 : A * b ≤ A * B := Int.mul_le_mul_of_nonneg_left h4 (by omega)
  rw [Int.neg_mul] at k2
  omega
theorem whD_range {c count : Int} (c0 : 1 ≤ c) (c1 : c ≤ 3600000) (n0 : 1 ≤ count) (n1 : count ≤ 400) : 1 ≤ whD c count ∧ whD c count ≤ 144000000000000 := by
  unfold whD
  have h1 := mul_both (a := 100 * c * 1000) (b := count) (A := 360000000000) (B := 400) (by omega) (by omega) (by omega) n1
  have h2 : 100 * c * 1000 * 1 ≤ 100 * c * 1000 * count := Int.mul_le_mul_of_nonneg_left n0 (by omega)
  omega
set_option maxRecDepth 100000 in
set_option maxHeartbeats 8000000 in
theorem where_any (form low high cycle width spread : Int) (back rel : Bool) (ao : Option Addr) (cap : Nat) (l : List Stp) (index count clock c : Int) (w : World) (hs : StepsAt w.heap.size w ao l) (hl : l.length ≤ 50) (hall : l.all stpB = true) (hc : 0 ≤ cycle ∧ cycle ≤ 3600000)
    (hcc : cycle + sumS l = c) (c0 : 1 ≤ c) (c1 : c ≤ 3600000) (n0 : 1 ≤ count) (n1 : count ≤ 400) (i0 : 0 ≤ index) (i1 : index ≤ 400) (k0 : 0 ≤ clock) (k1 : clock ≤ 36360000000) (s0 : -10000 ≤ spread) (s1 : spread ≤ 10000) :
    Calls Try.prog 75 #[.agg #[.int .i64 form, .int .i64 low, .int .i64 high, .int .i64 cycle, .int .i64 width, .int .i64 spread, .bool back, .bool rel, .slice ao l.length cap], .int .i64 index, .int .i64 count, .int .i64 clock] w fun e w' => e = .returned (.agg #[.int .i64 (whN back (whY c spread index count clock) (whD c count)), .int .i64 (whD c count), .int .i64 (whY c spread index count clock / whD c count), .int .i64 index]) ∧ Below w.heap.size w w' := by
  have CC := Lib.hid (fun (W : World) (hb : Below w.heap.size w W) => cycle_any form low high cycle width spread back rel ao cap l W (stepsAt_up hs hb) hl hall hc)
  rw [hcc] at CC
  have HR := Lib.hid (show ∀ D Y : Int, whN back Y D = if back = true ∧ 0 < Y % D then D - Y % D else Y % D from fun _ _ => rfl)
  obtain ⟨d0, d1⟩ := whD_range c0 c1 n0 n1
  have b1 := mul_both (a := clock * 1000) (b := count) (A := 36360000000000) (B := 400) (by omega) (by omega) (by omega) n1
  have b2 := mul_abs (a := spread) (b := index) (A := 10000) (B := 400) s0 s1 i0 i1
  have b3 := mul_abs (a := spread * index * 100) (b := c) (A := 400000000) (B := 3600000) (by omega) (by omega) (by omega) c1
  have hD : 100 * c * 1000 * count = whD c count := rfl
  have hY : clock * 1000 * count - spread * index * 100 * c = whY c spread index count clock := rfl
  have e1 : IntKind.i64.wrap (100 * c) = 100 * c := IntWalk.i64_in _ (by omega)
  have e2 : IntKind.i64.wrap (100 * c * 1000) = 100 * c * 1000 := IntWalk.i64_in _ (by omega)
  have e3 : IntKind.i64.wrap (100 * c * 1000 * count) = whD c count := by rw [hD]; exact IntWalk.i64_in _ (by omega)
  have e4 : IntKind.i64.wrap (clock * 1000) = clock * 1000 := IntWalk.i64_in _ (by omega)
  have e5 : IntKind.i64.wrap (clock * 1000 * count) = clock * 1000 * count := IntWalk.i64_in _ (by omega)
  have e6 : IntKind.i64.wrap (spread * index) = spread * index := IntWalk.i64_in _ (by omega)
  have e7 : IntKind.i64.wrap (spread * index * 100) = spread * index * 100 := IntWalk.i64_in _ (by omega)
  have e8 : IntKind.i64.wrap (spread * index * 100 * c) = spread * index * 100 * c := IntWalk.i64_in _ (by omega)
  have e9 : IntKind.i64.wrap (clock * 1000 * count - spread * index * 100 * c) = whY c spread index count clock := by rw [hY]; exact IntWalk.i64_in _ (by omega)
  have hyr : -20000000000000000 ≤ whY c spread index count clock ∧ whY c spread index count clock ≤ 20000000000000000 := by omega
  clear hY hD b1 b3
  generalize whY c spread index count clock = Y at *
  generalize whD c count = D at *
  have hm := Int.emod_add_mul_ediv Y D
  have hm1 := Int.emod_nonneg Y (show D ≠ 0 by omega)
  have hm2 := Int.emod_lt_of_pos Y (show 0 < D by omega)
  have hq1 : Y / D ≤ 20000000000000000 := Int.le_trans (Int.ediv_le_ediv (by omega) hyr.2) (Int.ediv_le_self _ (by omega))
  have hq0 : -20000000000000001 ≤ Y / D := by
    rw [Int.le_ediv_iff_mul_le (by omega)]
    omega
  have HFL := Lib.hid (fun W => floor_any Y D W (by omega) (by omega) (by omega) (by omega))
  have hqd : D * (Y / D) = Y - Y % D := by omega
  have hqc : Y / D * D = Y - Y % D := by rw [Int.mul_comm]; exact hqd
  generalize Y / D = q at *
  generalize hrr : Y % D = r at *
  have e10 : IntKind.i64.wrap (q * D) = q * D := by rw [hqc]; exact IntWalk.i64_in _ (by omega)
  have e11 : IntKind.i64.wrap (Y - q * D) = r := by rw [hqc, show Y - (Y - r) = r by omega]; exact IntWalk.i64_in _ (by omega)
  have e12 : IntKind.i64.wrap (D - r) = D - r := IntWalk.i64_in _ (by omega)
  clear hm hqd hqc
  have HT := Lib.hid (show TBox ((w.alloc (.cells #[.int .i64 form, .int .i64 low, .int .i64 high, .int .i64 cycle, .int .i64 width, .int .i64 spread, .bool back, .bool rel, .slice ao l.length cap] 24)).alloc (.cells #[.int .i64 0, .int .i64 0, .int .i64 0, .int .i64 0] 119)) w.heap.size 24 #[.int .i64 form, .int .i64 low, .int .i64 high, .int .i64 cycle, .int .i64 width, .int .i64 spread, .bool back, .bool rel, .slice ao l.length cap] from (TBox.new w _ _).alloc _)
  have HP := Lib.hid (show TBox ((w.alloc (.cells #[.int .i64 form, .int .i64 low, .int .i64 high, .int .i64 cycle, .int .i64 width, .int .i64 spread, .bool back, .bool rel, .slice ao l.length cap] 24)).alloc (.cells #[.int .i64 0, .int .i64 0, .int .i64 0, .int .i64 0] 119)) (w.heap.size + 1) 119 #[.int .i64 0, .int .i64 0, .int .i64 0, .int .i64 0] from by
    have h := TBox.new (w.alloc (.cells #[.int .i64 form, .int .i64 low, .int .i64 high, .int .i64 cycle, .int .i64 width, .int .i64 spread, .bool back, .bool rel, .slice ao l.length cap] 24)) #[.int .i64 0, .int .i64 0, .int .i64 0, .int .i64 0] 119
    simpa only [World.size_alloc] using h)
  have HB := Lib.hid (show Below w.heap.size w ((w.alloc (.cells #[.int .i64 form, .int .i64 low, .int .i64 high, .int .i64 cycle, .int .i64 width, .int .i64 spread, .bool back, .bool rel, .slice ao l.length cap] 24)).alloc (.cells #[.int .i64 0, .int .i64 0, .int .i64 0, .int .i64 0] 119)) from ((Below.refl _ _).alloc (Nat.le_refl _) _).alloc (by simp) _)
  have CC1 := Lib.hid (CC.out _ HB.out)
  clear CC hs hall
  go_enter Try.func75, Try.ntmps75
  go_wp2_with fail
  refine CC1.out.mono ?_
  rintro e w2 ⟨rfl, hb⟩
  have hsz : w.heap.size + 2 ≤ w2.heap.size := by have := hb.size; simp at this; omega
  have hlt1 : w.heap.size < w2.heap.size := by omega
  have hlt2 : w.heap.size + 1 < w2.heap.size := by omega
  have HT2 := Lib.hid (HT.out.below hb)
  have HP2 := Lib.hid (HP.out.below hb)
  have HB2 := Lib.hid (HB.out.trans (hb.mono (by simp; omega)))
  clear CC1 hb HT HP HB
  have f5 := HT2.out.cell (i := 5) rfl
  have f6 := HT2.out.cell (i := 6) rfl
  have r0 := HP2.out.cell (i := 0) rfl
  have r1 := HP2.out.cell (i := 1) rfl
  have r2 := HP2.out.cell (i := 2) rfl
  have r3 := HP2.out.cell (i := 3) rfl
  have rf0 := HP2.out.frozen 0
  have rf1 := HP2.out.frozen 1
  have rf2 := HP2.out.frozen 2
  have rf3 := HP2.out.frozen 3
  go_wp2_with fail
  refine (HFL.out _).mono ?_
  rintro e wz ⟨rfl, rfl⟩
  cases back
  · have HV := Lib.hid (show whN false Y D = r by rw [HR.out, if_neg (by simp), hrr])
    clear hrr
    go_wp2_with fail
    exact bodyPost_ret (v := .agg #[.int .i64 r, .int .i64 D, .int .i64 q, .int .i64 index]) (by simp [results, Try.results75, go_sem, r0, r1, r2, r3, hlt2, World.cell?_alloc_past]) rfl ⟨by rw [HV.out], by repeat (first | exact HB2.out | refine Below.setCell ?_ (by simp; try omega) _ | refine Below.alloc ?_ (by simp; try omega) _)⟩
  · by_cases hr0 : 0 < r
    · have HV := Lib.hid (show whN true Y D = D - r by rw [HR.out, hrr, if_pos ⟨rfl, hr0⟩])
      clear hrr
      go_wp2_with fail
      exact bodyPost_ret (v := .agg #[.int .i64 (D - r), .int .i64 D, .int .i64 q, .int .i64 index]) (by simp [results, Try.results75, go_sem, r0, r1, r2, r3, hlt2, World.cell?_alloc_past]) rfl ⟨by rw [HV.out], by repeat (first | exact HB2.out | refine Below.setCell ?_ (by simp; try omega) _ | refine Below.alloc ?_ (by simp; try omega) _)⟩
    · have HV := Lib.hid (show whN true Y D = r by rw [HR.out, hrr, if_neg (fun h => hr0 h.2)])
      have hr1 : decide (0 < r) = false := by simpa using hr0
      clear hrr
      go_wp2_with fail
      exact bodyPost_ret (v := .agg #[.int .i64 r, .int .i64 D, .int .i64 q, .int .i64 index]) (by simp [results, Try.results75, go_sem, r0, r1, r2, r3, hlt2, World.cell?_alloc_past]) rfl ⟨by rw [HV.out], by repeat (first | exact HB2.out | refine Below.setCell ?_ (by simp; try omega) _ | refine Below.alloc ?_ (by simp; try omega) _)⟩
end Go.Proofs.Ytopmdeefcjdadaa

namespace Go.Proofs.Ytopmdeefcjdadaa
open Go.RowKit
set_option linter.unusedVariables false
set_option linter.unusedSimpArgs false

def wvP (form width : Int) (l : List Stp) (c pn pd pk index : Int) : Int × Int :=
  if form = 1 then (peakV pn pd, pd) else if form = 2 then (pn, pd) else if form = 3 then (pd - pn, pd) else if form = 4 then (sqN width pn pd, 1)
  else if form = 5 then (peakV pn pd * (peakV pn pd * (3 * pd - 2 * peakV pn pd)), pd * (pd * pd)) else if form = 6 then (chN index pk, 65536) else stW l (pn * c) pd l.length 0 0
/-- two numbers that are a way: the first one no greater, both no larger than what has room -/
def WayOk (x : Int × Int) : Prop := 0 ≤ x.1 ∧ x.1 ≤ x.2 ∧ 1 ≤ x.2 ∧ x.2 ≤ 1000000000000000000 * (1000000000000000000 * 1000000000000000000)
theorem soft_ok {u d : Int} (h0 : 0 ≤ u) (h1 : u ≤ d) : 0 ≤ u * (u * (3 * d - 2 * u)) ∧ u * (u * (3 * d - 2 * u)) ≤ d * (d * d) := by
  refine ⟨Int.mul_nonneg h0 (Int.mul_nonneg h0 (by omega)), ?_⟩
  obtain ⟨x, rfl⟩ : ∃ x, d = u + x := ⟨d - u, by omega⟩
  have hx : 0 ≤ x := by omega
  have e : (u + x) * ((u + x) * (u + x)) = u * (u * (3 * (u + x) - 2 * u)) + (3 * (u * (x * x)) + x * (x * x)) := by grind
  have h2 : 0 ≤ u * (x * x) := Int.mul_nonneg h0 (Int.mul_nonneg hx hx)
  have h3 : 0 ≤ x * (x * x) := Int.mul_nonneg hx (Int.mul_nonneg hx hx)
  omega
theorem stW_ok {L : List Stp} (hL : 0 < L.length) (hA : ∀ k (h : k < L.length), (0 ≤ L[k].lv ∧ L[k].lv ≤ 65535) ∧ (0 ≤ L[k].hold ∧ L[k].hold ≤ 3600000) ∧ 0 ≤ L[k].fade ∧ L[k].fade ≤ 3600000) {p d : Int} (hd : 1 ≤ d) (hd9 : d ≤ 1000000000000000) :
    ∀ (c j : Nat) (b : Int), j + c = L.length → WayOk (stW L p d c j b)
  | 0, j, b, _ => by unfold stW WayOk; simp
  | c + 1, j, b, h => by
    have hj : j < L.length := by omega
    have hn : (j + 1) % L.length < L.length := Nat.mod_lt _ hL
    obtain ⟨⟨l0, l1⟩, ⟨h0, h1⟩, f0, f1⟩ := hA j hj
    obtain ⟨⟨m0, m1⟩, _⟩ := hA _ hn
    unfold stW
    rw [stAt_get hj, stAt_get hn]
    split
    · unfold WayOk; simp only; omega
    · split
      · rename_i g1 g2
        have hadd : d * (b + L[j].hold + L[j].fade) = d * (b + L[j].hold) + d * L[j].fade := Int.mul_add _ _ _
        have hw : d * L[j].fade ≤ 1000000000000000 * 3600000 := Int.le_trans (Int.mul_le_mul_of_nonneg_right hd9 f0) (Int.mul_le_mul_of_nonneg_left f1 (by omega))
        have hz0 : 0 ≤ p - d * (b + L[j].hold) := by omega
        have hzw : p - d * (b + L[j].hold) < d * L[j].fade := by omega
        generalize d * L[j].fade = wh at *
        generalize p - d * (b + L[j].hold) = zz at *
        have k1 : 0 ≤ (wh - zz) * L[j].lv := Int.mul_nonneg (by omega) l0
        have k2 : 0 ≤ zz * L[(j + 1) % L.length].lv := Int.mul_nonneg hz0 m0
        have k3 : (wh - zz) * L[j].lv ≤ (wh - zz) * 65535 := Int.mul_le_mul_of_nonneg_left l1 (by omega)
        have k4 : zz * L[(j + 1) % L.length].lv ≤ zz * 65535 := Int.mul_le_mul_of_nonneg_left m1 hz0
        unfold WayOk
        simp only
        omega
      · exact stW_ok hL hA hd hd9 c (j + 1) _ (by omega)
theorem wvP_ok {form width : Int} {l : List Stp} {c pn pd pk index : Int} (hf : 1 ≤ form ∧ form ≤ 7) (h7 : form = 7 → 0 < l.length) (hall : l.all stpB = true) (n0 : 0 ≤ pn) (n1 : pn ≤ pd) (d0 : 1 ≤ pd) (d1 : pd ≤ 1000000000000000) : WayOk (wvP form width l c pn pd pk index) := by
  obtain ⟨p0, p1⟩ := peakV_range n0 n1
  have hA := fun k (h : k < l.length) => stpB_le (List.all_eq_true.1 hall _ (List.getElem_mem h))
  unfold wvP
  by_cases h : form = 7
  · subst h
    rw [if_neg (by decide), if_neg (by decide), if_neg (by decide), if_neg (by decide), if_neg (by decide), if_neg (by decide)]
    exact stW_ok (h7 rfl) hA d0 d1 _ _ _ (by omega)
  by_cases h1 : form = 1
  · rw [if_pos h1]; unfold WayOk; simp only; omega
  rw [if_neg h1]
  by_cases h2 : form = 2
  · rw [if_pos h2]; unfold WayOk; simp only; omega
  rw [if_neg h2]
  by_cases h3 : form = 3
  · rw [if_pos h3]; unfold WayOk; simp only; omega
  rw [if_neg h3]
  by_cases h4 : form = 4
  · rw [if_pos h4]; unfold WayOk sqN; simp only; split <;> omega
  rw [if_neg h4]
  by_cases h5 : form = 5
  · rw [if_pos h5]
    obtain ⟨s0, s1⟩ := soft_ok p0 p1
    have k1 := mul_both (a := pd) (b := pd) (A := 1000000000000000) (B := 1000000000000000) (by omega) (by omega) (by omega) (by omega)
    have k2 := mul_both (a := pd) (b := pd * pd) (A := 1000000000000000) (B := 1000000000000000 * 1000000000000000) (by omega) k1.1 (by omega) k1.2
    have k3 : 1 ≤ pd * (pd * pd) := by
      have a1 : 1 * 1 ≤ pd * pd := Int.mul_le_mul d0 d0 (by omega) (by omega)
      have a2 : 1 * (1 * 1) ≤ pd * (pd * pd) := Int.mul_le_mul d0 a1 (by omega) (by omega)
      omega
    unfold WayOk
    simp only
    exact ⟨s0, Int.le_trans s1 (Int.le_refl _), k3, by omega⟩
  rw [if_neg h5, if_pos (by omega)]
  obtain ⟨c0, c1⟩ := chN_range index pk
  unfold WayOk
  simp only
  omega
/-- the way as a level -/
def wayV (x : Int × Int) : Int := (x.1 * 131070 + x.2) / (2 * x.2)
theorem wayV_unique {x : Int × Int} (h : WayOk x) {r : Int} (r0 : 0 ≤ r) (r1 : r ≤ 65535) (h1 : 0 < r → ¬ (x.1 * 131070 + x.2 < x.2 * (2 * r))) (h2 : r < 65535 → x.1 * 131070 + x.2 < x.2 * (2 * (r + 1))) : r = wayV x := by
  obtain ⟨a0, a1, a2, _⟩ := h
  obtain ⟨N, D⟩ := x
  simp only at *
  unfold wayV
  simp only
  have e1 : D * (2 * r) = r * (2 * D) := by grind
  have e2 : D * (2 * (r + 1)) = (r + 1) * (2 * D) := by grind
  rw [e1] at h1
  rw [e2] at h2
  have lo : r ≤ (N * 131070 + D) / (2 * D) := by
    rw [Int.le_ediv_iff_mul_le (by omega)]
    by_cases c : 0 < r
    · have := h1 c; omega
    · have : r = 0 := by omega
      subst this
      omega
  have hi : (N * 131070 + D) / (2 * D) < r + 1 := by
    rw [Int.ediv_lt_iff_lt_mul (by omega)]
    by_cases c : r < 65535
    · exact h2 c
    · have hr : r = 65535 := by omega
      subst hr
      have : (65535 + 1) * (2 * D) = 131072 * D := by omega
      omega
  omega
end Go.Proofs.Ytopmdeefcjdadaa
