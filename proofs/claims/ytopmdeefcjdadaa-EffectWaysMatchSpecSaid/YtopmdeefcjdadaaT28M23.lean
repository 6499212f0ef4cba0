/- The contracts of effect's numbers of six words, their values written out. (printed by wip/gen/gen_hugeapi.py) Boxes of the reference's fractions; the store of one as one step. (printed by wip/gen/gen_fracbox.py) Arguments of struct types, opened to cells: for any program. Effects as arguments. The reference's Within and IsLevel (cut out of XRMix, for seats without fractions). Contracts of level.levels, word.First and word.When. levels and First take a slice: a row of cells in memory. Tests of bounds as one Bool, of both sides; When. (cut out of XEfWords) -/
import Derived.Test.YtopmdeefcjdadaaT28M20
import Derived.Test.YtopmdeefcjdadaaT28M21
import Derived.Test.YtopmdeefcjdadaaT28M22
import Derived.Test.YtopmdeefcjdadaaT28M15
import Derived.Test.YtopmdeefcjdadaaProg
import Derived.WalkKit
import Derived.ProofKit
import Derived.OpenShut
import Derived.Deep.Slices
import Derived.Deep.Fields
import Derived.Test.YtopmdeefcjdadaaT28M17
import Derived.Test.YtopmdeefcjdadaaT28M16

namespace Go.Proofs.Ytopmdeefcjdadaa
open Go.RowKit
set_option linter.unusedVariables false
set_option linter.unusedSimpArgs false

def hw (i : Nat) (N : Int) : Int := (limbs 6 N).getD i 0
theorem hugeV_hw (N : Int) : hugeV N = .agg #[.int .u64 (hw 0 N), .int .u64 (hw 1 N), .int .u64 (hw 2 N), .int .u64 (hw 3 N), .int .u64 (hw 4 N), .int .u64 (hw 5 N)] := rfl
theorem zeroHuge_ (w : World) : (zeroValue 77).run Try.prog w = .ok (.agg #[.int .u64 0, .int .u64 0, .int .u64 0, .int .u64 0, .int .u64 0, .int .u64 0]) w := by kernel_rfl
theorem powW6_big : (39402006196394479212279040100143613805079739270465446667948293404245721771497210611414266254884915640806627990306815 : Int) < powW 6 := by decide +kernel
theorem cOf (n : Int) (h0 : 0 ≤ n) (h1 : n ≤ 9223372036854775807) (w : World) :
    Calls Try.prog 113 #[.int .i64 n] w fun e w' => e = .returned (.agg #[.int .u64 (hw 0 n), .int .u64 (hw 1 n), .int .u64 (hw 2 n), .int .u64 (hw 3 n), .int .u64 (hw 4 n), .int .u64 (hw 5 n)]) ∧ Below w.heap.size w w' := hOf_any n h0 h1 w
theorem cTimes1 (N k : Int) (b : Nat) (w : World) (h0 : 0 ≤ N) (k0 : 0 ≤ k) (k1 : k ≤ 9223372036854775807) (hN : N < powW 6) (hf : N * k < powW 6) (hb : b < w.heap.size) (hc : w.cell? ⟨b, 0, none⟩ = some (.int .i64 k)) :
    Calls Try.prog 45 #[.agg #[.int .u64 (hw 0 N), .int .u64 (hw 1 N), .int .u64 (hw 2 N), .int .u64 (hw 3 N), .int .u64 (hw 4 N), .int .u64 (hw 5 N)], .slice (some ⟨b, 0, none⟩) 1 1] w fun e w' => e = .returned (.agg #[.int .u64 (hw 0 (N * k)), .int .u64 (hw 1 (N * k)), .int .u64 (hw 2 (N * k)), .int .u64 (hw 3 (N * k)), .int .u64 (hw 4 (N * k)), .int .u64 (hw 5 (N * k))]) ∧ Below w.heap.size w w' := by
  have h := hTimes_any N [k] b 0 1 w h0 (by intro x hx; simp at hx; subst hx; exact ⟨k0, k1⟩) (by
    intro j hj
    have : j = 0 ∨ j = 1 := by simp at hj; omega
    rcases this with rfl | rfl
    · simpa [prodL] using hN
    · simpa [prodL] using hf) hb (by
    intro i hi
    have : i = 0 := by simp at hi; omega
    subst this
    exact hc) (by simp)
  rw [show prodL [k] = k by simp [prodL]] at h
  exact h
theorem cTimes2 (N k m : Int) (b : Nat) (w : World) (h0 : 0 ≤ N) (k0 : 0 ≤ k) (k1 : k ≤ 9223372036854775807) (m0 : 0 ≤ m) (m1 : m ≤ 9223372036854775807) (hN : N < powW 6) (hf : N * k < powW 6) (hg : N * (k * m) < powW 6) (hb : b < w.heap.size) (hc : w.cell? ⟨b, 0, none⟩ = some (.int .i64 k)) (hd : w.cell? ⟨b, 1, none⟩ = some (.int .i64 m)) :
    Calls Try.prog 45 #[.agg #[.int .u64 (hw 0 N), .int .u64 (hw 1 N), .int .u64 (hw 2 N), .int .u64 (hw 3 N), .int .u64 (hw 4 N), .int .u64 (hw 5 N)], .slice (some ⟨b, 0, none⟩) 2 2] w fun e w' => e = .returned (.agg #[.int .u64 (hw 0 (N * (k * m))), .int .u64 (hw 1 (N * (k * m))), .int .u64 (hw 2 (N * (k * m))), .int .u64 (hw 3 (N * (k * m))), .int .u64 (hw 4 (N * (k * m))), .int .u64 (hw 5 (N * (k * m)))]) ∧ Below w.heap.size w w' := by
  have h := hTimes_any N [k, m] b 0 2 w h0 (by intro x hx; simp at hx; rcases hx with rfl | rfl; exact ⟨k0, k1⟩; exact ⟨m0, m1⟩) (by
    intro j hj
    have : j = 0 ∨ j = 1 ∨ j = 2 := by simp at hj; omega
    rcases this with rfl | rfl | rfl
    · simpa [prodL] using hN
    · simpa [prodL] using hf
    · simpa [prodL] using hg) hb (by
    intro i hi
    have : i = 0 ∨ i = 1 := by simp at hi; omega
    rcases this with rfl | rfl
    · exact hc
    · exact hd) (by simp)
  rw [show prodL [k, m] = k * m by simp [prodL]] at h
  exact h
theorem cPlus (N M : Int) (hN : 0 ≤ N) (hM : 0 ≤ M) (hf : N + M < powW 6) (w : World) :
    Calls Try.prog 46 #[.agg #[.int .u64 (hw 0 N), .int .u64 (hw 1 N), .int .u64 (hw 2 N), .int .u64 (hw 3 N), .int .u64 (hw 4 N), .int .u64 (hw 5 N)], .agg #[.int .u64 (hw 0 M), .int .u64 (hw 1 M), .int .u64 (hw 2 M), .int .u64 (hw 3 M), .int .u64 (hw 4 M), .int .u64 (hw 5 M)]] w fun e w' => e = .returned (.agg #[.int .u64 (hw 0 (N + M)), .int .u64 (hw 1 (N + M)), .int .u64 (hw 2 (N + M)), .int .u64 (hw 3 (N + M)), .int .u64 (hw 4 (N + M)), .int .u64 (hw 5 (N + M))]) ∧ Below w.heap.size w w' := hPlus_any N M w hN hM hf
theorem cMinus (N M : Int) (hN : N < powW 6) (hM : 0 ≤ M) (hf : M ≤ N) (w : World) :
    Calls Try.prog 116 #[.agg #[.int .u64 (hw 0 N), .int .u64 (hw 1 N), .int .u64 (hw 2 N), .int .u64 (hw 3 N), .int .u64 (hw 4 N), .int .u64 (hw 5 N)], .agg #[.int .u64 (hw 0 M), .int .u64 (hw 1 M), .int .u64 (hw 2 M), .int .u64 (hw 3 M), .int .u64 (hw 4 M), .int .u64 (hw 5 M)]] w fun e w' => e = .returned (.agg #[.int .u64 (hw 0 (N - M)), .int .u64 (hw 1 (N - M)), .int .u64 (hw 2 (N - M)), .int .u64 (hw 3 (N - M)), .int .u64 (hw 4 (N - M)), .int .u64 (hw 5 (N - M))]) ∧ Below w.heap.size w w' := hMinus_any N M w hN hM hf
theorem cMul (N M : Int) (hN : 0 ≤ N) (hN6 : N < powW 6) (hM : 0 ≤ M) (hM6 : M < powW 6) (hf : N * M < powW 6) (w : World) :
    Calls Try.prog 114 #[.agg #[.int .u64 (hw 0 N), .int .u64 (hw 1 N), .int .u64 (hw 2 N), .int .u64 (hw 3 N), .int .u64 (hw 4 N), .int .u64 (hw 5 N)], .agg #[.int .u64 (hw 0 M), .int .u64 (hw 1 M), .int .u64 (hw 2 M), .int .u64 (hw 3 M), .int .u64 (hw 4 M), .int .u64 (hw 5 M)]] w fun e w' => e = .returned (.agg #[.int .u64 (hw 0 (N * M)), .int .u64 (hw 1 (N * M)), .int .u64 (hw 2 (N * M)), .int .u64 (hw 3 (N * M)), .int .u64 (hw 4 (N * M)), .int .u64 (hw 5 (N * M))]) ∧ Below w.heap.size w w' := hMul_any N M w hN hN6 hM hM6 hf
theorem cLess (N M : Int) (h0 : 0 ≤ N) (h1 : N < powW 6) (h2 : 0 ≤ M) (h3 : M < powW 6) (w : World) :
    Calls Try.prog 49 #[.agg #[.int .u64 (hw 0 N), .int .u64 (hw 1 N), .int .u64 (hw 2 N), .int .u64 (hw 3 N), .int .u64 (hw 4 N), .int .u64 (hw 5 N)], .agg #[.int .u64 (hw 0 M), .int .u64 (hw 1 M), .int .u64 (hw 2 M), .int .u64 (hw 3 M), .int .u64 (hw 4 M), .int .u64 (hw 5 M)]] w fun e w' => e = .returned (.bool (decide (N < M))) ∧ Below w.heap.size w w' := hLess_any N M w h0 h1 h2 h3
theorem gro1 (W : World) (b i : Nat) (v : Value) : W.grownBy (W.setCell ⟨b, i, none⟩ v) (some b) :=
  ⟨rfl, rfl, rfl, by simp, fun k _ hne => heap_setCell_other W ⟨b, i, none⟩ k v (fun e => hne (by simp [e]))⟩
theorem gro_tr {a b c : World} {r : Option Nat} (h : a.grownBy b r) (g : b.grownBy c r) : a.grownBy c r :=
  ⟨g.os.trans h.os, g.tape.trans h.tape, g.output.trans h.output, Nat.le_trans h.size g.size, fun k hk hne => (g.block k (Nat.lt_of_lt_of_le hk h.size) hne).trans (h.block k hk hne)⟩
set_option maxRecDepth 100000 in
set_option maxHeartbeats 4000000 in
/-- the store of such a number as one step -/
theorem wpList_storeH (w : World) {ops : Array Oper} {rest : List Oper} {o : Oper} {a : Act} {Q : Exit → Act → World → Prop} {x0 x1 x2 x3 x4 x5 c0 c1 c2 c3 c4 c5 : Int}
    (hg : o.guard = none) (p x : Operand) (hop : o.op = Op.store 77 p x) (b : Nat) (hp : a.eval p = .pointer (some ⟨b, 0, none⟩)) (hx : a.eval x = .agg #[.int .u64 x0, .int .u64 x1, .int .u64 x2, .int .u64 x3, .int .u64 x4, .int .u64 x5]) (hb : TBox w b 77 #[.int .u64 c0, .int .u64 c1, .int .u64 c2, .int .u64 c3, .int .u64 c4, .int .u64 c5])
    (hK : ∀ w', TBox w' b 77 #[.int .u64 x0, .int .u64 x1, .int .u64 x2, .int .u64 x3, .int .u64 x4, .int .u64 x5] → w.grownBy w' (some b) → wpList Try.prog ops Q rest (a.put o.dst undef) w') : wpList Try.prog ops Q (o :: rest) a w := by
  refine wpList_plain hg fun K hK' => ?_
  have hT := (((((hb.set 0 (.int .u64 x0)).set 1 (.int .u64 x1)).set 2 (.int .u64 x2)).set 3 (.int .u64 x3)).set 4 (.int .u64 x4)).set 5 (.int .u64 x5)
  have hG : w.grownBy ((((((w.setCell ⟨b, 0, none⟩ (.int .u64 x0)).setCell ⟨b, 1, none⟩ (.int .u64 x1)).setCell ⟨b, 2, none⟩ (.int .u64 x2)).setCell ⟨b, 3, none⟩ (.int .u64 x3)).setCell ⟨b, 4, none⟩ (.int .u64 x4)).setCell ⟨b, 5, none⟩ (.int .u64 x5)) (some b) := by
    exact gro_tr (gro_tr (gro_tr (gro_tr (gro_tr (gro1 w b 0 _) (gro1 _ b 1 _)) (gro1 _ b 2 _)) (gro1 _ b 3 _)) (gro1 _ b 4 _)) (gro1 _ b 5 _)
  simp only [List.setIfInBounds_toArray, List.set_cons_succ, List.set_cons_zero] at hT
  obtain ⟨w1, hw1⟩ : ∃ w1 : World, w1 = ((((((w.setCell ⟨b, 0, none⟩ (.int .u64 x0)).setCell ⟨b, 1, none⟩ (.int .u64 x1)).setCell ⟨b, 2, none⟩ (.int .u64 x2)).setCell ⟨b, 3, none⟩ (.int .u64 x3)).setCell ⟨b, 4, none⟩ (.int .u64 x4)).setCell ⟨b, 5, none⟩ (.int .u64 x5)) := ⟨_, rfl⟩
  rw [← hw1] at hT hG
  have h := hK' _ _ (hK w1 hT hG)
  rw [hw1] at h
  have y0 := hb.cell (i := 0) rfl
  have z0 := hb.frozen 0
  have y1 := hb.cell (i := 1) rfl
  have z1 := hb.frozen 1
  have y2 := hb.cell (i := 2) rfl
  have z2 := hb.frozen 2
  have y3 := hb.cell (i := 3) rfl
  have z3 := hb.frozen 3
  have y4 := hb.cell (i := 4) rfl
  have z4 := hb.frozen 4
  have y5 := hb.cell (i := 5) rfl
  have z5 := hb.frozen 5
  clear hK hK' hT hG hw1 hb
  unfold Oper.wp
  simp only [execOp, hop, hp, hx]
  go_simp
  exact h
theorem TBox.gro {w w' : World} {b g : Nat} {T : TypeId} {cs : Array Value} (h : TBox w b T cs) (hg : w.grownBy w' (some g)) (hne : b ≠ g) : TBox w' b T cs := (hg.block b h.lt (by intro e; injection e with e; exact hne e)).trans h
theorem below_gro {B : Nat} {a b c : World} {g : Nat} (h : Below B a b) (k : b.grownBy c (some g)) (hB : B ≤ b.heap.size) (hg : B ≤ g) : Below B a c := h.grown k hB (fun j hj => by cases hj; exact hg)
end Go.Proofs.Ytopmdeefcjdadaa

namespace Go.Proofs.Ytopmdeefcjdadaa
open Go.RowKit
set_option linter.unusedVariables false
set_option linter.unusedSimpArgs false

/-- block g holds a fraction worth P / D -/
def QBox (w : World) (g : Nat) (P : Int) (D m n : Nat) : Prop := ∃ s ao L cap bo M cap2, TBox w g 87 #[.bool s, .slice ao L cap, .slice bo M cap2] ∧ IsR w.heap.size w (.agg #[.bool s, .slice ao L cap, .slice bo M cap2]) P D m n
/-- .. some fraction -/
def AnyQ (w : World) (g : Nat) : Prop := ∃ s ao L cap bo M cap2, TBox w g 87 #[.bool s, .slice ao L cap, .slice bo M cap2]
def Stq (w : World) (g : Nat) (w' : World) : Prop := w.grownBy w' (some g) ∧ (∀ B v P D m n, IsR B w v P D m n → IsR B w' v P D m n) ∧ w'.heap.size = w.heap.size
section
variable {w w' : World} {g b D m n : Nat} {P : Int}
theorem QBox.below (h : QBox w g P D m n) (hb : Below w.heap.size w w') : QBox w' g P D m n := by
  obtain ⟨s, ao, L, cap, bo, M, cap2, h1, h2⟩ := h
  exact ⟨s, ao, L, cap, bo, M, cap2, h1.below hb, h2.up hb⟩
theorem QBox.any (h : QBox w g P D m n) : AnyQ w g := by
  obtain ⟨s, ao, L, cap, bo, M, cap2, h1, h2⟩ := h
  exact ⟨s, ao, L, cap, bo, M, cap2, h1⟩
theorem AnyQ.lt (h : AnyQ w g) : g < w.heap.size := by
  obtain ⟨s, ao, L, cap, bo, M, cap2, h1⟩ := h
  exact h1.lt
theorem AnyQ.below (h : AnyQ w g) (hb : Below w.heap.size w w') : AnyQ w' g := by
  obtain ⟨s, ao, L, cap, bo, M, cap2, h1⟩ := h
  exact ⟨s, ao, L, cap, bo, M, cap2, h1.below hb⟩
theorem IsR.setBox3 {B g : Nat} {u0 u1 u2 v : Value} {s : Bool} {ao bo : Option Addr} {i j k l : Nat} (h : IsR B w v P D m n) (hb : Box3 w g (.bool s) (.slice ao i j) (.slice bo k l)) : IsR B (((w.setCell ⟨g, 0, none⟩ u0).setCell ⟨g, 1, none⟩ u1).setCell ⟨g, 2, none⟩ u2) v P D m n := by
  obtain ⟨p, d, h1, h2⟩ := h
  exact ⟨p, d, h1.setBox3 hb, h2⟩
theorem box3_of {g : Nat} {c0 c1 c2 : Value} {T : TypeId} (h : TBox w g T #[c0, c1, c2]) : Box3 w g c0 c1 c2 :=
  ⟨h.cell (i := 0) rfl, h.cell (i := 1) rfl, h.cell (i := 2) rfl, h.frozen 0, h.frozen 1, h.frozen 2⟩
theorem stq_of {g : Nat} (h : AnyQ w g) (u0 u1 u2 : Value) : Stq w g (((w.setCell ⟨g, 0, none⟩ u0).setCell ⟨g, 1, none⟩ u1).setCell ⟨g, 2, none⟩ u2) := by
  obtain ⟨s, ao, L, cap, bo, M, cap2, h1⟩ := h
  exact ⟨gro_tr (gro_tr (gro1 w g 0 _) (gro1 _ g 1 _)) (gro1 _ g 2 _), fun B v P D m n hr => hr.setBox3 (box3_of h1), by simp⟩
theorem QBox.stq (h : QBox w b P D m n) (hs : Stq w g w') (hne : b ≠ g) : QBox w' b P D m n := by
  obtain ⟨s, ao, L, cap, bo, M, cap2, h1, h2⟩ := h
  exact ⟨s, ao, L, cap, bo, M, cap2, h1.gro hs.1 hne, by rw [hs.2.2]; exact hs.2.1 _ _ _ _ _ _ h2⟩
theorem AnyQ.stq (h : AnyQ w b) (hs : Stq w g w') (hne : b ≠ g) : AnyQ w' b := by
  obtain ⟨s, ao, L, cap, bo, M, cap2, h1⟩ := h
  exact ⟨s, ao, L, cap, bo, M, cap2, h1.gro hs.1 hne⟩
theorem set3_box {g : Nat} {c0 c1 c2 : Value} {T : TypeId} (h : TBox w g T #[c0, c1, c2]) (u0 u1 u2 : Value) : TBox (((w.setCell ⟨g, 0, none⟩ u0).setCell ⟨g, 1, none⟩ u1).setCell ⟨g, 2, none⟩ u2) g T #[u0, u1, u2] := by
  have := ((h.set 0 u0).set 1 u1).set 2 u2
  simpa using this
theorem qbox_set {g : Nat} (h : AnyQ w g) {s : Bool} {ao bo : Option Addr} {L cap M cap2 : Nat} (hr : IsR w.heap.size w (.agg #[.bool s, .slice ao L cap, .slice bo M cap2]) P D m n) :
    QBox (((w.setCell ⟨g, 0, none⟩ (.bool s)).setCell ⟨g, 1, none⟩ (.slice ao L cap)).setCell ⟨g, 2, none⟩ (.slice bo M cap2)) g P D m n := by
  have hs := stq_of h (.bool s) (.slice ao L cap) (.slice bo M cap2)
  refine ⟨s, ao, L, cap, bo, M, cap2, ?_, by rw [hs.2.2]; exact hs.2.1 _ _ _ _ _ _ hr⟩
  obtain ⟨_, _, _, _, _, _, _, h1⟩ := h
  exact set3_box h1 _ _ _
end
theorem zeroFrac_ (w : World) : (zeroValue 87).run Try.prog w = .ok (.agg #[.bool false, .slice none 0 0, .slice none 0 0]) w := by kernel_rfl
set_option maxRecDepth 100000 in
set_option maxHeartbeats 4000000 in
/-- the store of a fraction as one step -/
theorem wpList_storeQ (w : World) {ops : Array Oper} {rest : List Oper} {o : Oper} {a : Act} {Q : Exit → Act → World → Prop} {v : Value} {P : Int} {D m n : Nat}
    (hg : o.guard = none) (p x : Operand) (hop : o.op = Op.store 87 p x) (b : Nat) (hp : a.eval p = .pointer (some ⟨b, 0, none⟩)) (hx : a.eval x = v) (hv : IsR w.heap.size w v P D m n) (hb : AnyQ w b)
    (hK : ∀ w', QBox w' b P D m n → Stq w b w' → wpList Try.prog ops Q rest (a.put o.dst undef) w') : wpList Try.prog ops Q (o :: rest) a w := by
  refine wpList_plain hg fun K hK' => ?_
  obtain ⟨s, ao, L, cap, bo, M, cap2, rfl⟩ := isR_shape hv
  have hQ := qbox_set hb hv
  have hS := stq_of hb (.bool s) (.slice ao L cap) (.slice bo M cap2)
  obtain ⟨w1, hw1⟩ : ∃ w1 : World, w1 = (((w.setCell ⟨b, 0, none⟩ (.bool s)).setCell ⟨b, 1, none⟩ (.slice ao L cap)).setCell ⟨b, 2, none⟩ (.slice bo M cap2)) := ⟨_, rfl⟩
  rw [← hw1] at hQ hS
  have h := hK' _ _ (hK w1 hQ hS)
  rw [hw1] at h
  obtain ⟨s', ao', L', cap', bo', M', cap2', hb⟩ := hb
  have y0 := hb.cell (i := 0) rfl
  have z0 := hb.frozen 0
  have y1 := hb.cell (i := 1) rfl
  have z1 := hb.frozen 1
  have y2 := hb.cell (i := 2) rfl
  have z2 := hb.frozen 2
  clear hK hK' hQ hS hw1 hb hv
  unfold Oper.wp
  simp only [execOp, hop, hp, hx]
  go_simp
  exact h
end Go.Proofs.Ytopmdeefcjdadaa

namespace Go.Proofs.Ytopmdeefcjdadaa
open Go.ChangeShapes Go.WideShapes Go.RowKit Go.Deep

section
variable {H : Type} {enc : TypeId × Value → H} {P : Program} {w : World} {base : Nat} {spare : Nat → Bool} {held : Bool}

/-- a struct that came in by value: its cells, and each field's own reading -/
theorem open_struct {r : Reach} {b0 : Nat} {t : TypeId} {fs : Array Field} {v : Value} {d : DataW H} {p : List MemPlace} (hs : P.underlying t = some (.struct fs))
    (hv : Value.okWide P w r b0 t v) (h : DataW.Trod enc P w base spare held t v d p) :
    ∃ (cs : List Value) (n : Nat), v = .agg cs.toArray ∧ cs.length = P.cellsOf t ∧ ∀ (i : Nat) (f : Field), fs[i]? = some f → ∃ y, DataW.trod enc P w base spare held n f.type ((cs.drop f.offset).take (P.cellsOf f.type)) = some y := by
  obtain ⟨cs, rfl, hsz⟩ := okWide_struct hs hv
  obtain ⟨fuel, hf⟩ := h
  obtain ⟨xs, n, _, _, hlen, hl, hg⟩ := DataW.trod_struct hs hf
  have hc : (Value.agg cs).cells = cs := by simp [Value.cells]
  rw [hc] at hg
  refine ⟨cs.toList, n, by simp, by simpa using hsz, fun i f hf => ?_⟩
  have hi : i < xs.length := by rw [hl]; exact (Array.getElem?_eq_some_iff.1 hf).1
  exact ⟨xs[i], by rw [hg i f hf, List.getElem?_eq_getElem hi]⟩

theorem take1_drop {α : Type} (l : List α) (i : Nat) (h : i < l.length) : (l.drop i).take 1 = [l[i]] := by
  rw [List.drop_eq_getElem_cons h]; rfl

/-- .. where each field is one cell -/
theorem open_struct1 {r : Reach} {b0 : Nat} {t : TypeId} {fs : Array Field} {v : Value} {d : DataW H} {p : List MemPlace} (hs : P.underlying t = some (.struct fs)) (hone : oneCellFields P fs = true) (hC : P.cellsOf t = fs.size)
    (hv : Value.okWide P w r b0 t v) (h : DataW.Trod enc P w base spare held t v d p) :
    ∃ (cs : List Value) (n : Nat), v = .agg cs.toArray ∧ cs.length = fs.size ∧ ∀ (i : Nat) (f : Field), fs[i]? = some f → ∃ u y, cs[i]? = some u ∧ DataW.trod enc P w base spare held n f.type [u] = some y := by
  obtain ⟨cs, n, hv, hl, hf⟩ := open_struct hs hv h
  refine ⟨cs, n, hv, hl.trans hC, fun i f hif => ?_⟩
  obtain ⟨o, c⟩ := hone_of hone i f hif
  obtain ⟨y, hy⟩ := hf i f hif
  have hi : i < cs.length := by rw [hl, hC]; exact (Array.getElem?_eq_some_iff.1 hif).1
  rw [o, c, take1_drop cs i hi] at hy
  exact ⟨_, y, List.getElem?_eq_getElem hi, hy⟩

/-- a struct among cells: each field's own reading -/
theorem open_fields {t : TypeId} {fs : Array Field} {fuel : Nat} {cs : List Value} {x : DataW H × List MemPlace} (hs : P.underlying t = some (.struct fs)) (h : DataW.trod enc P w base spare held fuel t cs = some x) :
    cs.length = P.cellsOf t ∧ ∃ n : Nat, ∀ (i : Nat) (f : Field), fs[i]? = some f → ∃ y, DataW.trod enc P w base spare held n f.type ((cs.drop f.offset).take (P.cellsOf f.type)) = some y := by
  obtain ⟨xs, n, _, _, hlen, hl, hg⟩ := DataW.trod_struct hs h
  refine ⟨hlen, n, fun i f hf => ?_⟩
  have hi : i < xs.length := by rw [hl]; exact (Array.getElem?_eq_some_iff.1 hf).1
  exact ⟨xs[i], by rw [hg i f hf, List.getElem?_eq_getElem hi]⟩

theorem open_fields1 {t : TypeId} {fs : Array Field} {fuel : Nat} {cs : List Value} {x : DataW H × List MemPlace} (hs : P.underlying t = some (.struct fs)) (hone : oneCellFields P fs = true) (hC : P.cellsOf t = fs.size)
    (h : DataW.trod enc P w base spare held fuel t cs = some x) :
    cs.length = fs.size ∧ ∃ n : Nat, ∀ (i : Nat) (f : Field), fs[i]? = some f → ∃ u y, cs[i]? = some u ∧ DataW.trod enc P w base spare held n f.type [u] = some y := by
  obtain ⟨hl, n, hf⟩ := open_fields hs h
  refine ⟨hl.trans hC, n, fun i f hif => ?_⟩
  obtain ⟨o, c⟩ := hone_of hone i f hif
  obtain ⟨y, hy⟩ := hf i f hif
  have hi : i < cs.length := by rw [hl, hC]; exact (Array.getElem?_eq_some_iff.1 hif).1
  rw [o, c, take1_drop cs i hi] at hy
  exact ⟨_, y, List.getElem?_eq_getElem hi, hy⟩

theorem field_int {fuel : Nat} {t : TypeId} {k : IntKind} {u : Value} {y : DataW H × List MemPlace} (ht : P.underlying t = some (.int k)) (h : DataW.trod enc P w base spare held fuel t [u] = some y) : ∃ a, u = .int k a ∧ (Lit.int k a).wf = true := by
  obtain ⟨a, e, _, hw⟩ := DataW.trod_int ht h
  simp at e
  exact ⟨a, e, hw⟩
end

theorem list2 {α : Type} {l : List α} (h : l.length = 2) : ∃ a b, l = [a, b] := by
  match l, h with
  | [a, b], _ => exact ⟨a, b, rfl⟩

/-- integers that fit -/
def I64 (a : Int) : Prop := -9223372036854775808 ≤ a ∧ a ≤ 9223372036854775807

theorem i64_of_wf {a : Int} (h : (Lit.int .i64 a).wf = true) : I64 a := by
  simp [Lit.wf, IntKind.min, IntKind.max, IntKind.signed, IntKind.bits] at h
  unfold I64; omega

theorem list3 {α : Type} {l : List α} (h : l.length = 3) : ∃ a b c, l = [a, b, c] := by
  match l, h with
  | [a, b, c], _ => exact ⟨a, b, c, rfl⟩
end Go.Proofs.Ytopmdeefcjdadaa

namespace Go.Proofs.Ytopmdeefcjdadaa
open Go.ChangeShapes Go.WideShapes Go.RowKit Go.Deep
set_option linter.unusedSimpArgs false
set_option linter.unusedVariables false

/-- a step of an effect -/
structure Stp where
  lv : Int
  hold : Int
  fade : Int
instance : Inhabited Stp := ⟨⟨0, 0, 0⟩⟩
/-- an effect -/
structure Eff where
  form : Int
  low : Int
  high : Int
  cycle : Int
  width : Int
  spread : Int
  back : Bool
  rel : Bool
  steps : List Stp
/-- the cells of a step -/
def StpC (w : World) (b off : Nat) (x : Stp) : Prop :=
  w.cell? ⟨b, off, none⟩ = some (.int .i64 x.lv) ∧ w.cell? ⟨b, off + 1, none⟩ = some (.int .i64 x.hold) ∧ w.cell? ⟨b, off + 2, none⟩ = some (.int .i64 x.fade)
def StpFit (x : Stp) : Prop := I64 x.lv ∧ I64 x.hold ∧ I64 x.fade
/-- a slice value whose elements are these steps, their cells below block B -/
def StS (B : Nat) (w : World) (v : Value) (l : List Stp) : Prop :=
  ∃ ao cap, v = .slice ao l.length cap ∧ l.length ≤ maxLen ∧ (l ≠ [] → ∃ b off, ao = some ⟨b, off, none⟩ ∧ b < B ∧ ∀ i (h : i < l.length), StpC w b (off + i * 3) l[i])
def EffFit (x : Eff) : Prop := (I64 x.form ∧ I64 x.low ∧ I64 x.high ∧ I64 x.cycle ∧ I64 x.width ∧ I64 x.spread) ∧ ∀ s ∈ x.steps, StpFit s
/-- an effect's value, its steps' slice being sv -/
def effV (x : Eff) (sv : Value) : Value := .agg #[.int .i64 x.form, .int .i64 x.low, .int .i64 x.high, .int .i64 x.cycle, .int .i64 x.width, .int .i64 x.spread, .bool x.back, .bool x.rel, sv]

theorem StS.below {B : Nat} {w w' : World} {v : Value} {l : List Stp} (h : StS B w v l) (hb : Below B w w') : StS B w' v l := by
  obtain ⟨ao, cap, rfl, h1, h2⟩ := h
  refine ⟨ao, cap, rfl, h1, fun hne => ?_⟩
  obtain ⟨b, off, rfl, h3, h4⟩ := h2 hne
  refine ⟨b, off, rfl, h3, fun i hi => ?_⟩
  obtain ⟨c0, c1, c2⟩ := h4 i hi
  exact ⟨(hb.cell (p := ⟨b, off + i * 3, none⟩) h3).trans c0, (hb.cell (p := ⟨b, off + i * 3 + 1, none⟩) h3).trans c1, (hb.cell (p := ⟨b, off + i * 3 + 2, none⟩) h3).trans c2⟩
theorem StS.more {B B' : Nat} {w : World} {v : Value} {l : List Stp} (h : StS B w v l) (hB : B ≤ B') : StS B' w v l := by
  obtain ⟨ao, cap, rfl, h1, h2⟩ := h
  refine ⟨ao, cap, rfl, h1, fun hne => ?_⟩
  obtain ⟨b, off, rfl, h3, h4⟩ := h2 hne
  exact ⟨b, off, rfl, Nat.lt_of_lt_of_le h3 hB, h4⟩

section
variable {H : Type} {enc : TypeId × Value → H} {w : World} {held : Bool}
theorem slist3 {α : Type} {l : List α} (h : l.length = 3) : ∃ a b c, l = [a, b, c] := by
  match l, h with
  | [a, b, c], _ => exact ⟨a, b, c, rfl⟩
theorem slist9 {α : Type} {l : List α} (h : l.length = 9) : ∃ a b c d e f g i j, l = [a, b, c, d, e, f, g, i, j] := by
  match l, h with
  | [a, b, c, d, e, f, g, i, j], _ => exact ⟨a, b, c, d, e, f, g, i, j, rfl⟩
set_option maxRecDepth 100000 in
theorem read_steps {fuel : Nat} {cs : List Value} {x : DataW H × List MemPlace} (h : DataW.trod enc Try.prog w 0 (fun _ => true) held fuel 22 cs = some x) :
    ∃ v l, cs = [v] ∧ StS w.heap.size w v l ∧ ∀ s ∈ l, StpFit s := by
  rcases open_slice Try.underlying22 h with ⟨rfl, _⟩ | ⟨a, len, cap, m, n, D, Pl, rfl, _, hl, hm, hmm, _, hx⟩
  · exact ⟨_, [], rfl, ⟨none, 0, rfl, Nat.zero_le _, fun h => absurd rfl h⟩, by simp⟩
  · simp only [if_true] at hmm
    subst hmm
    have c3 : Try.prog.cellsOf 108 = 3 := by kernel_rfl
    have he : ∀ i, i < len → ∃ y : Stp, w.cell? (a.add (i * 3)) = some (.int .i64 y.lv) ∧ w.cell? ((a.add (i * 3)).add 1) = some (.int .i64 y.hold) ∧ w.cell? ((a.add (i * 3)).add 2) = some (.int .i64 y.fade) ∧ StpFit y := by
      intro i hi
      obtain ⟨cs', h1, h2⟩ := hx i (by omega)
      rw [c3] at h1
      obtain ⟨_, hcl, hat⟩ := World.cells?_some h1
      obtain ⟨_, n', hf⟩ := open_fields1 Try.underlying108 (by kernel_rfl) c3 h2
      obtain ⟨u0, u1, u2, rfl⟩ := slist3 hcl
      obtain ⟨x1, z1, q1, m1⟩ := hf 0 _ rfl
      obtain ⟨x2, z2, q2, m2⟩ := hf 1 _ rfl
      obtain ⟨x3, z3, q3, m3⟩ := hf 2 _ rfl
      simp at q1 q2 q3
      subst q1 q2 q3
      obtain ⟨a1, rfl, w1⟩ := field_int Try.underlying3 m1
      obtain ⟨a2, rfl, w2⟩ := field_int Try.underlying3 m2
      obtain ⟨a3, rfl, w3⟩ := field_int Try.underlying3 m3
      refine ⟨⟨a1, a2, a3⟩, ?_, hat 1 (by omega), hat 2 (by omega), i64_of_wf w1, i64_of_wf w2, i64_of_wf w3⟩
      have := hat 0 (by omega)
      simpa [Addr.add] using this
    obtain ⟨Y, hY⟩ := choose_lt he
    have hps : ∀ i (h : i < ((List.range len).map Y).length), ((List.range len).map Y)[i] = Y i := by
      intro i h; simp
    refine ⟨_, (List.range len).map Y, rfl, ⟨some a, m, by simp, by simp; omega, fun hne => ?_⟩, ?_⟩
    · have h0 : 0 < len := by
        rcases Nat.eq_zero_or_pos len with h0 | h0
        · subst h0; simp at hne
        · exact h0
      have hsp : a.spot = none := by
        have := World.cell?_spot (hY 0 h0).1
        simpa [Addr.add] using this
      obtain ⟨b, off, spot⟩ := a
      simp only at hsp
      subst hsp
      refine ⟨b, off, rfl, ?_, ?_⟩
      · have := World.block_lt_of_cell? w _ (hY 0 h0).1
        simpa [Addr.add] using this
      · intro i h
        rw [hps i h]
        have hi : i < len := by simpa using h
        obtain ⟨h1, h2, h3, _⟩ := hY i hi
        rw [add_plain] at h1
        rw [add_plain, add_plain] at h2 h3
        exact ⟨h1, h2, h3⟩
    · intro y hy
      simp at hy
      obtain ⟨i, hi, rfl⟩ := hy
      exact (hY i hi).2.2.2
/-- an effect as an argument -/
def EfV (w : World) (v : Value) : Prop := ∃ (x : Eff) (sv : Value), v = effV x sv ∧ StS w.heap.size w sv x.steps ∧ EffFit x
set_option maxRecDepth 100000 in
theorem open_effect {r : Reach} {b0 : Nat} {v : Value} {d : DataW H} {p : List MemPlace} (hv : Value.okWide Try.prog w r b0 24 v) (h : DataW.Trod enc Try.prog w 0 (fun _ => true) held 24 v d p) :
    ∃ a : Value, v = a ∧ EfV w a := by
  obtain ⟨cs, n, rfl, hl, hf⟩ := open_struct1 Try.underlying24 (by kernel_rfl) (by kernel_rfl) hv h
  obtain ⟨u0, u1, u2, u3, u4, u5, u6, u7, u8, rfl⟩ := slist9 hl
  obtain ⟨x0, y0, q0, k0⟩ := hf 0 _ rfl
  obtain ⟨x1, y1, q1, k1⟩ := hf 1 _ rfl
  obtain ⟨x2, y2, q2, k2⟩ := hf 2 _ rfl
  obtain ⟨x3, y3, q3, k3⟩ := hf 3 _ rfl
  obtain ⟨x4, y4, q4, k4⟩ := hf 4 _ rfl
  obtain ⟨x5, y5, q5, k5⟩ := hf 5 _ rfl
  obtain ⟨x6, y6, q6, k6⟩ := hf 6 _ rfl
  obtain ⟨x7, y7, q7, k7⟩ := hf 7 _ rfl
  obtain ⟨x8, y8, q8, k8⟩ := hf 8 _ rfl
  simp at q0 q1 q2 q3 q4 q5 q6 q7 q8
  subst q0 q1 q2 q3 q4 q5 q6 q7 q8
  obtain ⟨a0, rfl, w0⟩ := field_int Try.underlying3 k0
  obtain ⟨a1, rfl, w1⟩ := field_int Try.underlying3 k1
  obtain ⟨a2, rfl, w2⟩ := field_int Try.underlying3 k2
  obtain ⟨a3, rfl, w3⟩ := field_int Try.underlying3 k3
  obtain ⟨a4, rfl, w4⟩ := field_int Try.underlying3 k4
  obtain ⟨a5, rfl, w5⟩ := field_int Try.underlying3 k5
  obtain ⟨a6, e6, _⟩ := DataW.trod_bool Try.underlying4 k6
  simp at e6
  subst e6
  obtain ⟨a7, e7, _⟩ := DataW.trod_bool Try.underlying4 k7
  simp at e7
  subst e7
  obtain ⟨v8, l8, e8, h8, f8⟩ := read_steps k8
  simp at e8
  subst e8
  exact ⟨_, rfl, ⟨a0, a1, a2, a3, a4, a5, a6, a7, l8⟩, _, rfl, h8, ⟨i64_of_wf w0, i64_of_wf w1, i64_of_wf w2, i64_of_wf w3, i64_of_wf w4, i64_of_wf w5⟩, f8⟩
end
end Go.Proofs.Ytopmdeefcjdadaa

namespace Go.Proofs.Ytopmdeefcjdadaa
open Go.RowKit
set_option linter.unusedVariables false
set_option linter.unusedSimpArgs false

theorem below_drewR {B n : Nat} {a w : World} (h : Below B a w) : Below B a (w.drewN n) := ⟨h.os, h.tape, h.output, h.size, h.block⟩

set_option maxHeartbeats 400000 in
theorem r1within_yes (n lo hi : Int) (w : World) (h : lo ≤ n ∧ n ≤ hi) :
    Calls Try.prog 38 #[.int .i64 n, .int .i64 lo, .int .i64 hi] w fun e w' => e = .returned (.bool true) ∧ w = w' := by
  obtain ⟨h1, h2⟩ := h
  have e2 : decide (n ≤ hi) = true := by simpa using h2
  go_enter Try.func38, Try.ntmps38
  go_wp2
  go_ret
  exact ⟨rfl, rfl⟩
set_option maxHeartbeats 400000 in
theorem r1within_no (n lo hi : Int) (w : World) (h : n < lo ∨ hi < n) :
    Calls Try.prog 38 #[.int .i64 n, .int .i64 lo, .int .i64 hi] w fun e w' => e = .returned (.bool false) ∧ w = w' := by
  by_cases h1 : lo ≤ n
  · have e2 : decide (n ≤ hi) = false := by simp; omega
    have h2 : hi < n := by omega
    clear h
    go_enter Try.func38, Try.ntmps38
    go_wp2
    go_ret
    exact ⟨rfl, rfl⟩
  · have h2 : n < lo := by omega
    clear h
    go_enter Try.func38, Try.ntmps38
    go_wp2
    go_ret
    exact ⟨rfl, rfl⟩
set_option maxHeartbeats 400000 in
theorem rIsLevel_yes (n : Int) (w : World) (h : 0 ≤ n ∧ n ≤ 65535) :
    Calls Try.prog 78 #[.int .i64 n] w fun e w' => e = .returned (.bool true) ∧ w = w' := by
  go_enter Try.func78, Try.ntmps78
  go_wp2_with (go_at_call 38; refine (r1within_yes _ _ _ _ h).mono ?_; rintro e w' ⟨rfl, rfl⟩)
  go_ret
  exact ⟨rfl, rfl⟩
set_option maxHeartbeats 400000 in
theorem rIsLevel_no (n : Int) (w : World) (h : n < 0 ∨ 65535 < n) :
    Calls Try.prog 78 #[.int .i64 n] w fun e w' => e = .returned (.bool false) ∧ w = w' := by
  go_enter Try.func78, Try.ntmps78
  go_wp2_with (go_at_call 38; refine (r1within_no _ _ _ _ h).mono ?_; rintro e w' ⟨rfl, rfl⟩)
  go_ret
  exact ⟨rfl, rfl⟩
end Go.Proofs.Ytopmdeefcjdadaa

namespace Go.Proofs.Ytopmdeefcjdadaa
open Go.RowKit

/-- the cells of a row of numbers -/
def RowAt (k : IntKind) (w : World) (b off : Nat) (zs : List Int) : Prop := ∀ i (h : i < zs.length), w.cell? ⟨b, off + i, none⟩ = some (.int k zs[i])
def Levels (zs : List Int) : Prop := ∀ i (h : i < zs.length), 0 ≤ zs[i] ∧ zs[i] ≤ 65535

/-- either all are levels, or there is a first one that is none -/
theorem levels_cases (zs : List Int) : Levels zs ∨ ∃ j, ∃ h : j < zs.length, (∀ i (h : i < zs.length), i < j → 0 ≤ zs[i] ∧ zs[i] ≤ 65535) ∧ (zs[j] < 0 ∨ 65535 < zs[j]) := by
  induction zs with
  | nil => left; intro i h; simp at h
  | cons z zs ih =>
    by_cases hz : 0 ≤ z ∧ z ≤ 65535
    · rcases ih with ih | ⟨j, hj, h1, h2⟩
      · left
        intro i h
        match i with
        | 0 => simpa using hz
        | i + 1 => simpa using ih i (by simpa using h)
      · right
        refine ⟨j + 1, by simpa using hj, ?_, by simpa using h2⟩
        intro i h hij
        match i with
        | 0 => simpa using hz
        | i + 1 => simpa using h1 i (by simpa using h) (by omega)
    · right
      exact ⟨0, by simp, fun i h hi => by omega, by simp; omega⟩

/-- First: the first fault that is not 0. -/
def firstF : List Int → Int
  | [] => 0
  | e :: l => if e = 0 then firstF l else e

theorem firstF_drop (l : List Int) (k : Nat) (h : k < l.length) : firstF (l.drop k) = if l[k] = 0 then firstF (l.drop (k + 1)) else l[k] := by
  rw [List.drop_eq_getElem_cons h]; rfl

set_option maxHeartbeats 400000 in
theorem first_any (b off cap : Nat) (zs : List Int) (w : World) (hm : zs.length ≤ 9223372036854775807)
    (hc : RowAt .i64 w b off zs) :
    Calls Try.prog 26 #[.slice (some ⟨b, off, none⟩) zs.length cap] w fun e w' => e = .returned (.int .i64 (firstF zs)) ∧ w = w' := by
  go_enter Try.func26, Try.ntmps26
  go_wp2
  go_loop [7] (fun i => ∃ k : Nat, k ≤ zs.length ∧ i = .int .i64 k ∧ firstF zs = firstF (zs.drop k)) (fun i => zs.length - (intOf i).toNat)
  case atStart => exact ⟨0, Nat.zero_le _, rfl, rfl⟩
  case round =>
    obtain ⟨k, hk, rfl, he⟩ := hrel
    have HE := Lib.hid he
    clear he
    by_cases hlt : k < zs.length
    · have hcell := hc k hlt
      have HD := Lib.hid (firstF_drop zs k hlt)
      by_cases h0 : (zs[k] != 0) = true
      · go_wp2
        go_ret
        exact ⟨by rw [HE.out, HD.out, if_neg (by simpa using h0)]; rfl, rfl⟩
      · have h1 : (zs[k] != 0) = false := by simpa using h0
        clear h0
        go_wp2
        go_round
        case rel => exact ⟨k + 1, by omega, by go_num, by rw [HE.out, HD.out, if_pos (by simpa using h1)]⟩
        case measure => simp [intOf]; omega
    · have HD : Hid (firstF (zs.drop k) = 0) := by
        rw [List.drop_eq_nil_of_le (by omega)]; exact rfl
      go_wp2
      go_ret
      exact ⟨by rw [HE.out, HD.out]; rfl, rfl⟩

set_option maxHeartbeats 400000 in
theorem when_yes (f : Int) (w : World) : Calls Try.prog 28 #[.bool true, .int .i64 f] w fun e w' => e = .returned (.int .i64 f) ∧ w = w' := by
  go_enter Try.func28, Try.ntmps28
  go_wp2
  go_ret
  exact ⟨rfl, rfl⟩
set_option maxHeartbeats 400000 in
theorem when_no (f : Int) (w : World) : Calls Try.prog 28 #[.bool false, .int .i64 f] w fun e w' => e = .returned (.int .i64 0) ∧ w = w' := by
  go_enter Try.func28, Try.ntmps28
  go_wp2
  go_ret
  exact ⟨rfl, rfl⟩
end Go.Proofs.Ytopmdeefcjdadaa

namespace Go.Proofs.Ytopmdeefcjdadaa
open Go.RowKit
set_option linter.unusedVariables false
set_option linter.unusedSimpArgs false

def inR (n lo hi : Int) : Bool := decide (lo ≤ n ∧ n ≤ hi)
def whenW (b : Bool) (f : Int) : Int := if b then f else 0
theorem within_R (n lo hi : Int) (w : World) : Calls Try.prog 30 #[.int .i64 n, .int .i64 lo, .int .i64 hi] w fun e w' => e = .returned (.bool (inR n lo hi)) ∧ w = w' := by
  by_cases h : lo ≤ n ∧ n ≤ hi
  · have : inR n lo hi = true := decide_eq_true h
    rw [this]; exact within_yes n lo hi w h
  · have : inR n lo hi = false := decide_eq_false h
    rw [this]; exact within_no n lo hi w (by omega)
theorem when_R (b : Bool) (f : Int) (w : World) : Calls Try.prog 28 #[.bool b, .int .i64 f] w fun e w' => e = .returned (.int .i64 (whenW b f)) ∧ w = w' := by
  cases b
  · exact when_no f w
  · exact when_yes f w
theorem rwithin_R (n lo hi : Int) (w : World) : Calls Try.prog 38 #[.int .i64 n, .int .i64 lo, .int .i64 hi] w fun e w' => e = .returned (.bool (inR n lo hi)) ∧ w = w' := by
  by_cases h : lo ≤ n ∧ n ≤ hi
  · have : inR n lo hi = true := decide_eq_true h
    rw [this]; exact r1within_yes n lo hi w h
  · have : inR n lo hi = false := decide_eq_false h
    rw [this]; exact r1within_no n lo hi w (by omega)
set_option maxHeartbeats 400000 in
theorem rLevel_R (n : Int) (w : World) : Calls Try.prog 78 #[.int .i64 n] w fun e w' => e = .returned (.bool (inR n 0 65535)) ∧ w = w' := by
  go_enter Try.func78, Try.ntmps78
  go_wp2_with (go_at_call 38; refine (rwithin_R _ _ _ _).mono ?_; rintro e w' ⟨rfl, rfl⟩)
  go_ret
  exact ⟨rfl, rfl⟩
end Go.Proofs.Ytopmdeefcjdadaa
