/- The contracts of small and number. -/
import Derived.Test.YtdicoggpcobbpaaDoorNat
namespace Go.Proofs.YtdicoggpcobbpaaDoor
open Go.RowKit
set_option linter.unusedVariables false
set_option linter.unusedSimpArgs false

theorem tmod_nat (m d : Nat) : Int.tmod (m : Int) (d : Int) = ((m % d : Nat) : Int) := (Int.ofNat_tmod m d).symm
theorem tdiv_nat (m d : Nat) : Int.tdiv (m : Int) (d : Int) = ((m / d : Nat) : Int) := (Int.ofNat_tdiv m d).symm
/-- a new number -/
def NewN (n : Nat) (w : World) (e : Ending) (w' : World) : Prop := ∃ v, e = .returned v ∧ IsN w'.heap.size w' v n ∧ Below w.heap.size w w'
theorem one_int (w : World) (x : Int) (T : TypeId) (fz : Nat × Nat) (j : Nat) (u : Value) (h : [Value.int .i64 x][j]? = some u) : (w.alloc (.cells #[.int .i64 x] T fz)).cell? ((⟨w.heap.size, 0, none⟩ : Addr).add j) = some u := by
  match j, h with
  | 0, h =>
    simp at h
    subst h
    exact World.cell?_alloc_mark w _ T fz 0
theorem int_one (x : Int) : ∀ u ∈ [Value.int .i64 x], u.oneCell' = true := by
  intro u hu
  simp at hu
  subst hu
  rfl
theorem below_own1 {w wr w2 : World} {v : Value} {e n : Nat} {xs : List Value} {o : Obj} (hb : Below w.heap.size w wr) (ho : wr.ownsRow w.heap.size e 1 v n xs) (hg : (wr.alloc o).grownBy w2 v.ownBlock) (hs : w.heap.size ≤ wr.heap.size) : Below w.heap.size w w2 :=
  (hb.alloc hs o).grown hg (by simp; omega) fun k hk => (ho.lt k hk).1
theorem qN_dg (n k : Nat) : dcells n (k + 1) = dcells n k ++ [.int .i64 ((qN n k % 1000000000 : Nat) : Int)] := dcells_succ n k
theorem BB20 : 9223372036854775807 < BB ^ 20 := by unfold BB; decide
theorem qN_20 {n : Nat} (h : n ≤ 9223372036854775807) : qN n 20 = 0 := Nat.div_eq_of_lt (Nat.lt_of_le_of_lt h BB20)
theorem lenOf_of_div {n k : Nat} (h : qN n k = 0) (hz : k = 0 ∨ qN n (k - 1) ≠ 0) : LenOf n k := by
  refine ⟨qN_lt h, fun hk0 => ?_⟩
  rcases hz with h | h
  · omega
  · by_cases hlt : n < BB ^ (k - 1)
    · exact absurd (Nat.div_eq_of_lt hlt) h
    · omega
theorem small_val {m m2 : Nat} (h : wrap64 ((m : Int) / 1000000000) = (m : Int) / 1000000000) (hv : m / 1000000000 = m2) :
    Value.int .i64 (wrap64 ((m : Int) / 1000000000)) = Value.int .i64 (m2 : Int) := by
  rw [h, ← hv]
  exact congrArg _ (by omega)
theorem small_less {m m2 : Nat} (h : wrap64 ((m : Int) / 1000000000) = (m : Int) / 1000000000) (hv : m / 1000000000 = m2) (hm : m ≠ 0) :
    (intOf (Value.int .i64 (wrap64 ((m : Int) / 1000000000)))).toNat < (intOf (Value.int .i64 (m : Int))).toNat := by
  rw [h]
  simp only [intOf]
  omega
theorem div_wrap {m : Nat} (h : m ≤ 9223372036854775807) : wrap64 ((m : Int) / 1000000000) = (m : Int) / 1000000000 := IntWalk.wrap64_in _ ⟨by omega, by omega⟩
theorem mod_val (m : Nat) : (m : Int) % 1000000000 = ((m % 1000000000 : Nat) : Int) := by omega

end Go.Proofs.YtdicoggpcobbpaaDoor
