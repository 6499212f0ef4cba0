/- The contracts of effect's numbers of six words, their values written out. (printed by wip/gen/gen_hugeapi.py) -/
import Derived.Test.YtopmdeefcjdadaaT29M18
import Derived.Test.YtopmdeefcjdadaaT29M19
import Derived.Test.YtopmdeefcjdadaaT29M20
import Derived.Test.YtopmdeefcjdadaaT29M22

namespace Go.Proofs.Ytopmdeefcjdadaa
open Go.RowKit
set_option linter.unusedVariables false
set_option linter.unusedSimpArgs false

def hw (i : Nat) (N : Int) : Int := (limbs 6 N).getD i 0
theorem hugeV_hw (N : Int) : hugeV N = .agg #[.int .u64 (hw 0 N), .int .u64 (hw 1 N), .int .u64 (hw 2 N), .int .u64 (hw 3 N), .int .u64 (hw 4 N), .int .u64 (hw 5 N)] := rfl
theorem zeroHuge_ (w : World) : (zeroValue 77).run Try.prog w = .ok (.agg #[.int .u64 0, .int .u64 0, .int .u64 0, .int .u64 0, .int .u64 0, .int .u64 0]) w := by kernel_rfl
theorem powW6_big : (39402006196394479212279040100143613805079739270465446667948293404245721771497210611414266254884915640806627990306815 : Int) < powW 6 := by decide +kernel
theorem cOf (n : Int) (h0 : 0 ≤ n) (h1 : n ≤ 9223372036854775807) (w : World) :
    Calls Try.prog 113 #[.int .i64 n] w fun e w' => e = .returned (.agg #[.int .u64 (hw 0 n), .int .u64 (hw 1 n), .int .u64 (hw 2 n), .int .u64 (hw 3 n), .int .u64 (hw 4 n), .int .u64 (hw 5 n)]) ∧ Below w.heap.size w w' := hOf_any n h0 h1 w
theorem cTimes1 (N k : Int) (b : Nat) (w : World) (h0 : 0 ≤ N) (k0 : 0 ≤ k) (k1 : k ≤ 9223372036854775807) (hN : N < powW 6) (hf : N * k < powW 6) (hb : b < w.heap.size) (hc : w.cell? ⟨b, 0, none⟩ = some (.int .i64 k)) :
    Calls Try.prog 45 #[.agg #[.int .u64 (hw 0 N), .int .u64 (hw 1 N), .int .u64 (hw 2 N), .int .u64 (hw 3 N), .int .u64 (hw 4 N), .int .u64 (hw 5 N)], .slice (some ⟨b, 0, none⟩) 1 1] w fun e w' => e = .returned (.agg #[.int .u64 (hw 0 (N * k)), .int .u64 (hw 1 (N * k)), .int .u64 (hw 2 (N * k)), .int .u64 (hw 3 (N * k)), .int .u64 (hw 4 (N * k)), .int .u64 (hw 5 (N * k))]) ∧ Below w.heap.size w w' := by
  have h := hTimes_any N [k] b 0 1 w h0 (by intro x hx; simp at hx; subst hx; exact ⟨k0, k1⟩) (by
    intro j hj
    have : j = 0 ∨ j = 1 := by simp at hj; omega
    rcases this with rfl | rfl
    · simpa [prodL] using hN
    · simpa [prodL] using hf) hb (by
    intro i hi
    have : i = 0 := by simp at hi; omega
    subst this
    exact hc) (by simp)
  rw [show prodL [k] = k by simp [prodL]] at h
  exact h
theorem cTimes2 (N k m : Int) (b : Nat) (w : World) (h0 : 0 ≤ N) (k0 : 0 ≤ k) (k1 : k ≤ 9223372036854775807) (m0 : 0 ≤ m) (m1 : m ≤ 9223372036854775807) (hN : N < powW 6) (hf : N * k < powW 6) (hg : N * (k * m) < powW 6) (hb : b < w.heap.size) (hc : w.cell? ⟨b, 0, none⟩ = some (.int .i64 k)) (hd : w.cell? ⟨b, 1, none⟩ = some (.int .i64 m)) :
    Calls Try.prog 45 #[.agg #[.int .u64 (hw 0 N), .int .u64 (hw 1 N), .int .u64 (hw 2 N), .int .u64 (hw 3 N), .int .u64 (hw 4 N), .int .u64 (hw 5 N)], .slice (some ⟨b, 0, none⟩) 2 2] w fun e w' => e = .returned (.agg #[.int .u64 (hw 0 (N * (k * m))), .int .u64 (hw 1 (N * (k * m))), .int .u64 (hw 2 (N * (k * m))), .int .u64 (hw 3 (N * (k * m))), .int .u64 (hw 4 (N * (k * m))), .int .u64 (hw 5 (N * (k * m)))]) ∧ Below w.heap.size w w' := by
  have h := hTimes_any N [k, m] b 0 2 w h0 (by intro x hx; simp at hx; rcases hx with rfl | rfl; exact ⟨k0, k1⟩; exact ⟨m0, m1⟩) (by
    intro j hj
    have : j = 0 ∨ j = 1 ∨ j = 2 := by simp at hj; omega
    rcases this with rfl | rfl | rfl
    · simpa [prodL] using hN
    · simpa [prodL] using hf
    · simpa [prodL] using hg) hb (by
    intro i hi
    have : i = 0 ∨ i = 1 := by simp at hi; omega
    rcases this with rfl | rfl
    · exact hc
    · exact hd) (by simp)
  rw [show prodL [k, m] = k * m by simp [prodL]] at h
  exact h
theorem cPlus (N M : Int) (hN : 0 ≤ N) (hM : 0 ≤ M) (hf : N + M < powW 6) (w : World) :
    Calls Try.prog 46 #[.agg #[.int .u64 (hw 0 N), .int .u64 (hw 1 N), .int .u64 (hw 2 N), .int .u64 (hw 3 N), .int .u64 (hw 4 N), .int .u64 (hw 5 N)], .agg #[.int .u64 (hw 0 M), .int .u64 (hw 1 M), .int .u64 (hw 2 M), .int .u64 (hw 3 M), .int .u64 (hw 4 M), .int .u64 (hw 5 M)]] w fun e w' => e = .returned (.agg #[.int .u64 (hw 0 (N + M)), .int .u64 (hw 1 (N + M)), .int .u64 (hw 2 (N + M)), .int .u64 (hw 3 (N + M)), .int .u64 (hw 4 (N + M)), .int .u64 (hw 5 (N + M))]) ∧ Below w.heap.size w w' := hPlus_any N M w hN hM hf
theorem cMinus (N M : Int) (hN : N < powW 6) (hM : 0 ≤ M) (hf : M ≤ N) (w : World) :
    Calls Try.prog 116 #[.agg #[.int .u64 (hw 0 N), .int .u64 (hw 1 N), .int .u64 (hw 2 N), .int .u64 (hw 3 N), .int .u64 (hw 4 N), .int .u64 (hw 5 N)], .agg #[.int .u64 (hw 0 M), .int .u64 (hw 1 M), .int .u64 (hw 2 M), .int .u64 (hw 3 M), .int .u64 (hw 4 M), .int .u64 (hw 5 M)]] w fun e w' => e = .returned (.agg #[.int .u64 (hw 0 (N - M)), .int .u64 (hw 1 (N - M)), .int .u64 (hw 2 (N - M)), .int .u64 (hw 3 (N - M)), .int .u64 (hw 4 (N - M)), .int .u64 (hw 5 (N - M))]) ∧ Below w.heap.size w w' := hMinus_any N M w hN hM hf
theorem cMul (N M : Int) (hN : 0 ≤ N) (hN6 : N < powW 6) (hM : 0 ≤ M) (hM6 : M < powW 6) (hf : N * M < powW 6) (w : World) :
    Calls Try.prog 114 #[.agg #[.int .u64 (hw 0 N), .int .u64 (hw 1 N), .int .u64 (hw 2 N), .int .u64 (hw 3 N), .int .u64 (hw 4 N), .int .u64 (hw 5 N)], .agg #[.int .u64 (hw 0 M), .int .u64 (hw 1 M), .int .u64 (hw 2 M), .int .u64 (hw 3 M), .int .u64 (hw 4 M), .int .u64 (hw 5 M)]] w fun e w' => e = .returned (.agg #[.int .u64 (hw 0 (N * M)), .int .u64 (hw 1 (N * M)), .int .u64 (hw 2 (N * M)), .int .u64 (hw 3 (N * M)), .int .u64 (hw 4 (N * M)), .int .u64 (hw 5 (N * M))]) ∧ Below w.heap.size w w' := hMul_any N M w hN hN6 hM hM6 hf
theorem cLess (N M : Int) (h0 : 0 ≤ N) (h1 : N < powW 6) (h2 : 0 ≤ M) (h3 : M < powW 6) (w : World) :
    Calls Try.prog 49 #[.agg #[.int .u64 (hw 0 N), .int .u64 (hw 1 N), .int .u64 (hw 2 N), .int .u64 (hw 3 N), .int .u64 (hw 4 N), .int .u64 (hw 5 N)], .agg #[.int .u64 (hw 0 M), .int .u64 (hw 1 M), .int .u64 (hw 2 M), .int .u64 (hw 3 M), .int .u64 (hw 4 M), .int .u64 (hw 5 M)]] w fun e w' => e = .returned (.bool (decide (N < M))) ∧ Below w.heap.size w w' := hLess_any N M w h0 h1 h2 h3
theorem gro1 (W : World) (b i : Nat) (v : Value) : W.grownBy (W.setCell ⟨b, i, none⟩ v) (some b) :=
  ⟨rfl, rfl, rfl, by simp, fun k _ hne => heap_setCell_other W ⟨b, i, none⟩ k v (fun e => hne (by simp [e]))⟩
theorem gro_tr {a b c : World} {r : Option Nat} (h : a.grownBy b r) (g : b.grownBy c r) : a.grownBy c r :=
  ⟨g.os.trans h.os, g.tape.trans h.tape, g.output.trans h.output, Nat.le_trans h.size g.size, fun k hk hne => (g.block k (Nat.lt_of_lt_of_le hk h.size) hne).trans (h.block k hk hne)⟩
set_option maxRecDepth 100000 in
set_option maxHeartbeats 4000000 in
/-- the store of such a number as one step -/
theorem wpList_storeH (w : World) {ops : Array Oper} {rest : List Oper} {o : Oper} {a : Act} {Q : Exit → Act → World → Prop} {x0 x1 x2 x3 x4 x5 c0 c1 c2 c3 c4 c5 : Int}
    (hg : o.guard = none) (p x : Operand) (hop : o.op = Op.store 77 p x) (b : Nat) (hp : a.eval p = .pointer (some ⟨b, 0, none⟩)) (hx : a.eval x = .agg #[.int .u64 x0, .int .u64 x1, .int .u64 x2, .int .u64 x3, .int .u64 x4, .int .u64 x5]) (hb : TBox w b 77 #[.int .u64 c0, .int .u64 c1, .int .u64 c2, .int .u64 c3, .int .u64 c4, .int .u64 c5])
    (hK : ∀ w', TBox w' b 77 #[.int .u64 x0, .int .u64 x1, .int .u64 x2, .int .u64 x3, .int .u64 x4, .int .u64 x5] → w.grownBy w' (some b) → wpList Try.prog ops Q rest (a.put o.dst undef) w') : wpList Try.prog ops Q (o :: rest) a w := by
  refine wpList_plain hg fun K hK' => ?_
  have hT := (((((hb.set 0 (.int .u64 x0)).set 1 (.int .u64 x1)).set 2 (.int .u64 x2)).set 3 (.int .u64 x3)).set 4 (.int .u64 x4)).set 5 (.int .u64 x5)
  have hG : w.grownBy ((((((w.setCell ⟨b, 0, none⟩ (.int .u64 x0)).setCell ⟨b, 1, none⟩ (.int .u64 x1)).setCell ⟨b, 2, none⟩ (.int .u64 x2)).setCell ⟨b, 3, none⟩ (.int .u64 x3)).setCell ⟨b, 4, none⟩ (.int .u64 x4)).setCell ⟨b, 5, none⟩ (.int .u64 x5)) (some b) := by
    exact gro_tr (gro_tr (gro_tr (gro_tr (gro_tr (gro1 w b 0 _) (gro1 _ b 1 _)) (gro1 _ b 2 _)) (gro1 _ b 3 _)) (gro1 _ b 4 _)) (gro1 _ b 5 _)
  simp only [List.setIfInBounds_toArray, List.set_cons_succ, List.set_cons_zero] at hT
  obtain ⟨w1, hw1⟩ : ∃ w1 : World, w1 = ((((((w.setCell ⟨b, 0, none⟩ (.int .u64 x0)).setCell ⟨b, 1, none⟩ (.int .u64 x1)).setCell ⟨b, 2, none⟩ (.int .u64 x2)).setCell ⟨b, 3, none⟩ (.int .u64 x3)).setCell ⟨b, 4, none⟩ (.int .u64 x4)).setCell ⟨b, 5, none⟩ (.int .u64 x5)) := ⟨_, rfl⟩
  rw [← hw1] at hT hG
  have h := hK' _ _ (hK w1 hT hG)
  rw [hw1] at h
  have y0 := hb.cell (i := 0) rfl
  have z0 := hb.frozen 0
  have y1 := hb.cell (i := 1) rfl
  have z1 := hb.frozen 1
  have y2 := hb.cell (i := 2) rfl
  have z2 := hb.frozen 2
  have y3 := hb.cell (i := 3) rfl
  have z3 := hb.frozen 3
  have y4 := hb.cell (i := 4) rfl
  have z4 := hb.frozen 4
  have y5 := hb.cell (i := 5) rfl
  have z5 := hb.frozen 5
  clear hK hK' hT hG hw1 hb
  unfold Oper.wp
  simp only [execOp, hop, hp, hx]
  go_simp
  exact h
theorem TBox.gro {w w' : World} {b g : Nat} {T : TypeId} {cs : Array Value} (h : TBox w b T cs) (hg : w.grownBy w' (some g)) (hne : b ≠ g) : TBox w' b T cs := (hg.block b h.lt (by intro e; injection e with e; exact hne e)).trans h
theorem below_gro {B : Nat} {a b c : World} {g : Nat} (h : Below B a b) (k : b.grownBy c (some g)) (hB : B ≤ b.heap.size) (hg : B ≤ g) : Below B a c := h.grown k hB (fun j hj => by cases hj; exact hg)
end Go.Proofs.Ytopmdeefcjdadaa
