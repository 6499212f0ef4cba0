/- The contract of the reference's plus. -/
import Derived.Test.YtdicoggpcobbpaaDoorNatSmall
namespace Go.Proofs.YtdicoggpcobbpaaDoor
open Go.RowKit
set_option linter.unusedVariables false
set_option linter.unusedSimpArgs false

/-- a number of at most 20 digits -/
def Fit (n : Nat) : Prop := n < BB ^ 20
theorem Fit.len {n L : Nat} (h : Fit n) (hl : LenOf n L) : L ≤ 20 := lenOf_le hl h
theorem Fit.le {n m : Nat} (h : Fit m) (hl : n ≤ m) : Fit n := Nat.lt_of_le_of_lt hl h
theorem carry_end {n m k : Nat} (h1 : n < BB ^ k) (h2 : m < BB ^ k) : carryP n m (k + 1) = 0 := by
  unfold carryP
  have e : BB ^ (k + 1) = BB * BB ^ k := Nat.pow_succ'
  have h3 : 2 * BB ^ k ≤ BB * BB ^ k := Nat.mul_le_mul_right _ (by decide)
  have a1 : n % BB ^ (k + 1) ≤ n := Nat.mod_le _ _
  have a2 : m % BB ^ (k + 1) ≤ m := Nat.mod_le _ _
  exact Nat.div_eq_of_lt (by omega)
theorem plus_all {n m k : Nat} (h1 : n < BB ^ k) (h2 : m < BB ^ k) (h : carryP n m k = 0) : n + m < BB ^ k := by
  have := plus_div n m k
  rw [h, Nat.div_eq_of_lt h1, Nat.div_eq_of_lt h2] at this
  exact (Nat.div_eq_zero_iff_lt (BBp k)).1 (by omega)
theorem lt_pow {n L k : Nat} (h : n < BB ^ L) (hk : L ≤ k) : n < BB ^ k := Nat.lt_of_lt_of_le h (pow_mono hk)
/-- what a round computes out of s: the digit and the carry -/
theorem digit_val {s d : Nat} {x : Int} (hx : x = (s : Nat)) (h : d = s % BB) : Value.int .i64 (x % 1000000000) = Value.int .i64 (d : Nat) := by
  subst hx h
  unfold BB
  exact congrArg _ (by omega)
theorem carry_val {s c : Nat} {x : Int} (hx : x = (s : Nat)) (h : c = s / BB) : Value.int .i64 (x / 1000000000) = Value.int .i64 (c : Nat) := by
  subst hx h
  unfold BB
  exact congrArg _ (by omega)
theorem carry_valw {s c : Nat} {x : Int} (hx : x = (s : Nat)) (h : c = s / BB) (hs : s ≤ 9223372036854775807) : Value.int .i64 (wrap64 (x / 1000000000)) = Value.int .i64 (c : Nat) := by
  subst hx
  rw [div_wrap hs]
  exact carry_val rfl h
theorem cells_snoc {n k : Nat} {u : Value} (h : u = .int .i64 (dg n k : Nat)) : dcells n k ++ [u] = dcells n (k + 1) := by rw [dcells_succ, h]
theorem below_own2 {B : Nat} {w wr w2 : World} {v : Value} {e n : Nat} {xs : List Value} {o : Obj} (hb : Below B w wr) (ho : wr.ownsRow B e 1 v n xs) (hg : (wr.alloc o).grownBy w2 v.ownBlock) (hs : B ≤ wr.heap.size) : Below B w w2 :=
  (hb.alloc hs o).grown hg (by simp; omega) fun k hk => (ho.lt k hk).1
theorem dg_le9 (n i : Nat) : ((dg n i : Nat) : Int) ≤ 999999999 := by
  have := dg_lt n i
  unfold BB at this
  omega

/-- the first rounds of plus: how far -/
def PlusR (n m L M k : Nat) : Prop := k ≤ L ∨ k ≤ M ∨ (k ≤ max L M + 1 ∧ carryP n m k = 0)

end Go.Proofs.YtdicoggpcobbpaaDoor
