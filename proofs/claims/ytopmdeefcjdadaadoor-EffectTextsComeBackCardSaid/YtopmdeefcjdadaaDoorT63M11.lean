/- Rows of digits that are written place by place, as cells of an own row; rows of the naturals that come as arguments, read at a later world. The contract of the reference's times. The contracts of the reference's scaled and short. The contract of the reference's short: the division by a number of one digit. -/
import Derived.Test.YtopmdeefcjdadaaDoorT63M10
import Derived.Deep.QuietTactic
import Derived.BigQuiet

namespace Go.Proofs.YtopmdeefcjdadaaDoor
open Go.RowKit
set_option linter.unusedVariables false
set_option linter.unusedSimpArgs false

/-- the cells of digits of A below place j, of B from there on -/
def mcells (A B j L : Nat) : List Value := (List.range L).map fun i => .int .i64 (mixd A B j i : Nat)
theorem mcells_len (A B j L : Nat) : (mcells A B j L).length = L := by simp [mcells]
theorem mcells_at {A B j L i : Nat} (h : i < L) : (mcells A B j L)[i]? = some (.int .i64 (mixd A B j i : Nat)) := by simp [mcells, h]
theorem mcells_up {A B j L : Nat} (h : j < L) : (mcells A B j L).set j (.int .i64 (dg A j : Nat)) = mcells A B (j + 1) L := by
  apply List.ext_getElem?
  intro i
  rw [List.getElem?_set]
  by_cases hi : i < L
  · rw [mcells_at hi, mcells_len]
    by_cases e : j = i
    · subst e
      rw [if_pos rfl, if_pos hi, mcells_at hi, mixd_low (by omega)]
    · rw [if_neg e, mcells_at hi]
      unfold mixd
      by_cases h2 : i < j
      · rw [if_pos h2, if_pos (by omega)]
      · rw [if_neg h2, if_neg (by omega)]
  · have h1 : ∀ j, (mcells A B j L)[i]? = none := fun j => List.getElem?_eq_none (by rw [mcells_len]; omega)
    rw [h1, h1]
    rw [if_neg (by omega)]
theorem mcells_down {A B j L : Nat} (h : j < L) : (mcells A B (j + 1) L).set j (.int .i64 (dg B j : Nat)) = mcells A B j L := by
  apply List.ext_getElem?
  intro i
  rw [List.getElem?_set]
  by_cases hi : i < L
  · rw [mcells_at hi, mcells_len]
    by_cases e : j = i
    · subst e
      rw [if_pos rfl, if_pos hi, mcells_at hi, mixd_high (by omega)]
    · rw [if_neg e, mcells_at hi]
      unfold mixd
      by_cases h2 : i < j
      · rw [if_pos h2, if_pos (by omega)]
      · rw [if_neg h2, if_neg (by omega)]
  · have h1 : ∀ j, (mcells A B j L)[i]? = none := fun j => List.getElem?_eq_none (by rw [mcells_len]; omega)
    rw [h1, h1]
    rw [if_neg (by omega)]
theorem mcells_eq {A B j L C : Nat} (h : ∀ i, i < L → mixd A B j i = dg C i) : mcells A B j L = dcells C L := by
  unfold mcells dcells
  exact List.map_congr_left fun i hi => by rw [h i (List.mem_range.1 hi)]
theorem dcells_eq {A C L : Nat} (h : ∀ i, i < L → dg A i = dg C i) : dcells A L = dcells C L := by
  unfold dcells
  exact List.map_congr_left fun i hi => by rw [h i (List.mem_range.1 hi)]
theorem mcells_all {A B j L : Nat} (h : L ≤ j) : mcells A B j L = dcells A L := mcells_eq fun i hi => mixd_low (by omega)
theorem mcells_none {A B L : Nat} : mcells A B 0 L = dcells B L := mcells_eq fun i hi => mixd_high (by omega)
theorem mcells_cong {A B A' B' j j' L : Nat} (h : ∀ i, i < L → mixd A B j i = mixd A' B' j' i) : mcells A B j L = mcells A' B' j' L := by
  unfold mcells
  exact List.map_congr_left fun i hi => by rw [h i (List.mem_range.1 hi)]
theorem dcells_at {A L i : Nat} (h : i < L) : (dcells A L)[i]? = some (.int .i64 (dg A i : Nat)) := by simp [dcells, h]
/-- an own row of T places, at its block's head -/
def Row (base : Nat) (w : World) (g T cap : Nat) (xs : List Value) : Prop := w.ownsRow base 3 1 (.slice (some ⟨g, 0, none⟩) T cap) T xs
theorem Row.at {base g T cap A B j i : Nat} {w : World} (h : Row base w g T cap (mcells A B j T)) (hi : i < T) : w.cell? ⟨g, i, none⟩ = some (.int .i64 (mixd A B j i : Nat)) :=
  (World.ownsRow.cellAt h i (by omega)).trans (mcells_at hi)
theorem Row.atD {base g T cap A i : Nat} {w : World} (h : Row base w g T cap (dcells A T)) (hi : i < T) : w.cell? ⟨g, i, none⟩ = some (.int .i64 (dg A i : Nat)) :=
  (World.ownsRow.cellAt h i (by omega)).trans (dcells_at hi)
theorem Row.free {base g T cap : Nat} {w : World} {xs : List Value} (h : Row base w g T cap xs) (i : Nat) : w.frozen? ⟨g, i, none⟩ = false := World.ownsRow.frozenAt h i
theorem Row.up {base g T cap A B j : Nat} {w : World} (h : Row base w g T cap (mcells A B j T)) (hj : j < T) : Row base (w.setCell ⟨g, j, none⟩ (.int .i64 (dg A j : Nat))) g T cap (mcells A B (j + 1) T) := by
  have := (World.ownsRow.stored h j (.int .i64 (dg A j : Nat))).1
  rwa [mcells_up hj] at this
theorem Row.down {base g T cap A B j : Nat} {w : World} (h : Row base w g T cap (mcells A B (j + 1) T)) (hj : j < T) : Row base (w.setCell ⟨g, j, none⟩ (.int .i64 (dg B j : Nat))) g T cap (mcells A B j T) := by
  have := (World.ownsRow.stored h j (.int .i64 (dg B j : Nat))).1
  rwa [mcells_down hj] at this
theorem Row.block {base g T cap : Nat} {w : World} {xs : List Value} (h : Row base w g T cap xs) : base ≤ g ∧ g < w.heap.size := World.ownsRow.lt h g rfl
theorem Row.drawn {base g T cap n : Nat} {w : World} {xs : List Value} (h : Row base w g T cap xs) : Row base (w.drewN n) g T cap xs := h
theorem dcells_zero (T : Nat) : List.replicate T (Value.int .i64 0) = dcells 0 T := by
  apply List.ext_getElem?
  intro i
  by_cases hi : i < T
  · rw [dcells_at hi]
    simp [hi, dg]
  · rw [List.getElem?_eq_none (by simp; omega), List.getElem?_eq_none (by rw [dcells_len]; omega)]
theorem below_drewN {B n : Nat} {a w : World} (h : Below B a w) : Below B a (w.drewN n) := ⟨h.os, h.tape, h.output, h.size, h.block⟩
theorem grown_set1 (w : World) (g i : Nat) (u : Value) : w.grownBy (w.setCell ⟨g, i, none⟩ u) (some g) :=
  ⟨rfl, rfl, rfl, by simp, fun k _ hk => heap_setCell_other w ⟨g, i, none⟩ k u (fun e => hk (by simp [e]))⟩
theorem grown_trans1 {w w1 w2 : World} {r : Option Nat} (h : w.grownBy w1 r) (k : w1.grownBy w2 r) : w.grownBy w2 r :=
  ⟨k.os.trans h.os, k.tape.trans h.tape, k.output.trans h.output, Nat.le_trans h.size k.size, fun j hj hn => (k.block j (Nat.lt_of_lt_of_le hj h.size) hn).trans (h.block j hj hn)⟩
theorem grown_cellN {w w' : World} {r : Option Nat} (h : w.grownBy w' r) {b o : Nat} (hb : b < w.heap.size) (hn : some b ≠ r) : w'.cell? ⟨b, o, none⟩ = w.cell? ⟨b, o, none⟩ := World.cell?_of_block (a := ⟨b, o, none⟩) (h.block b hb hn)
theorem grown_drewN {w w' : World} {r : Option Nat} {n : Nat} (h : w.grownBy w' r) : w.grownBy (w'.drewN n) r := ⟨h.os, h.tape, h.output, h.size, h.block⟩
theorem grown_drewN' {w w' : World} {r : Option Nat} {n : Nat} (h : (w.drewN n).grownBy w' r) : w.grownBy w' r := ⟨h.os, h.tape, h.output, h.size, h.block⟩
end Go.Proofs.YtopmdeefcjdadaaDoor

namespace Go.Proofs.YtopmdeefcjdadaaDoor
open Go.RowKit
set_option linter.unusedVariables false
set_option linter.unusedSimpArgs false

/-- what the outer loop has done behind i places -/
def timS (n m i : Nat) : Nat := n % BB ^ i * m
theorem timS_zero (n m : Nat) : timS n m 0 = 0 := by simp [timS, Nat.mod_one]
theorem timS_all {n m L : Nat} (h : n < BB ^ L) : timS n m L = n * m := by unfold timS; rw [Nat.mod_eq_of_lt h]
theorem timS_succ (n m i : Nat) : timS n m (i + 1) = timS n m i + dg n i * m * BB ^ i := row_next n m i
theorem timS_low {n m M i : Nat} (hm : m < BB ^ M) : timS n m i / BB ^ i < BB ^ M := low_lt hm
theorem timS_dg (n m i k : Nat) : dg (timS n m (i + 1)) (i + k) = (dg (timS n m i) (i + k) + accC (timS n m i / BB ^ i) m (dg n i) k + dg n i * dg m k) % BB := by
  rw [timS_succ, dg_add_at, accC_dg, dg_div]
theorem timS_carry (n m i k : Nat) : accC (timS n m i / BB ^ i) m (dg n i) (k + 1) = (dg (timS n m i) (i + k) + accC (timS n m i / BB ^ i) m (dg n i) k + dg n i * dg m k) / BB := by
  rw [accC_succ, dg_div]
/-- where the inner loop ends, the row is that of the next place -/
theorem timS_end {n m M i k T : Nat} (hm : m < BB ^ M) (hk : M ≤ k) (hc : accC (timS n m i / BB ^ i) m (dg n i) k = 0) : mcells (timS n m (i + 1)) (timS n m i) (i + k) T = dcells (timS n m (i + 1)) T := by
  refine mcells_eq fun p hp => ?_
  by_cases h : p < i + k
  · exact mixd_low h
  · rw [mixd_high (by omega)]
    have h1 : timS n m i / BB ^ i < BB ^ k := Nat.lt_of_lt_of_le (timS_low hm) (pow_mono hk)
    have h2 := acc_all h1 (Nat.lt_of_lt_of_le hm (pow_mono hk)) hc
    obtain ⟨q, rfl⟩ : ∃ q, p = i + q := ⟨p - i, by omega⟩
    rw [timS_succ, dg_add_at, dg_zero_of_lt (Nat.lt_of_lt_of_le h2 (pow_mono (by omega))), ← dg_div, dg_zero_of_lt (Nat.lt_of_lt_of_le h1 (pow_mono (by omega)))]
theorem timS_start {n m i T : Nat} : mcells (timS n m (i + 1)) (timS n m i) i T = dcells (timS n m i) T := by
  refine mcells_eq fun p hp => ?_
  by_cases h : p < i
  · rw [mixd_low h, timS_succ, dg_add_high _ _ _ _ h]
  · exact mixd_high (by omega)
theorem timS_lt {n m L M : Nat} (hn : n < BB ^ L) (hm : m < BB ^ M) : n * m < BB ^ (L + M + 1) := by
  have h1 : n * m ≤ BB ^ L * BB ^ M := Nat.mul_le_mul (Nat.le_of_lt hn) (Nat.le_of_lt hm)
  rw [← Nat.pow_add] at h1
  have h2 : BB ^ (L + M) < BB ^ (L + M + 1) := Nat.pow_lt_pow_right (by decide) (by omega)
  omega

theorem mul_le9 {x y : Nat} (hx : (x : Int) ≤ 999999999) (hy : (y : Int) ≤ 999999999) : x * y ≤ 999999998000000001 := by
  have h1 : x ≤ 999999999 := by omega
  have h2 : y ≤ 999999999 := by omega
  exact Nat.mul_le_mul h1 h2
theorem tim_sum {o c x y : Nat} (ho : (o : Int) ≤ 999999999) (hc : c ≤ x) (hx : (x : Int) ≤ 999999999) (hy : (y : Int) ≤ 999999999) : wrap64 ((o : Int) + (c : Int) + wrap64 ((x : Int) * (y : Int))) = ((o + c + x * y : Nat) : Int) := by
  have h := mul_le9 hx hy
  rw [← Int.natCast_mul]
  generalize x * y = p at *
  have h1 : wrap64 (p : Int) = (p : Int) := IntWalk.wrap64_in _ ⟨by omega, by omega⟩
  rw [h1, IntWalk.wrap64_in _ ⟨by omega, by omega⟩]
  omega
theorem dig_mod {S d : Nat} (h : d = S % BB) : Int.tmod (S : Int) 1000000000 = (d : Int) := by
  rw [h]
  unfold BB
  exact tmod_nat S 1000000000
theorem dig_div {S d : Nat} (h : d = S / BB) : Int.tdiv (S : Int) 1000000000 = (d : Int) := by
  rw [h]
  unfold BB
  exact tdiv_nat S 1000000000
theorem dig_emod {S d : Nat} (h : d = S % BB) : (S : Int) % 1000000000 = (d : Int) := by
  rw [h]
  unfold BB
  omega
theorem dig_ediv {S d : Nat} (h : d = S / BB) : (S : Int) / 1000000000 = (d : Int) := by
  rw [h]
  unfold BB
  omega
theorem carry_small {o c x y cn : Nat} (ho : (o : Int) ≤ 999999999) (hc : c ≤ x) (hx : (x : Int) ≤ 999999999) (hy : (y : Int) ≤ 999999999) (h : cn = (o + c + x * y) / BB) : wrap64 (cn : Int) = (cn : Int) := by
  have h2 := mul_le9 hx hy
  unfold BB at h
  exact IntWalk.wrap64_in _ ⟨by omega, by omega⟩

end Go.Proofs.YtopmdeefcjdadaaDoor

namespace Go.Proofs.YtopmdeefcjdadaaDoor
open Go.RowKit
set_option linter.unusedVariables false
set_option linter.unusedSimpArgs false

def scC (a f k : Nat) : Nat := accC 0 a f k
theorem scC_zero (a f : Nat) : scC a f 0 = 0 := accC_zero _ _ _
theorem dg_nil (k : Nat) : dg 0 k = 0 := by simp [dg]
theorem sc_dg (a f k : Nat) : dg (f * a) k = (dg a k * f + scC a f k) % BB := by
  have := accC_dg 0 a f k
  rw [Nat.zero_add, dg_nil, Nat.zero_add, Nat.add_comm (accC 0 a f k), Nat.mul_comm f (dg a k)] at this
  exact this
theorem sc_succ (a f k : Nat) : scC a f (k + 1) = (dg a k * f + scC a f k) / BB := by
  have := accC_succ 0 a f k
  rw [dg_nil, Nat.zero_add, Nat.add_comm (accC 0 a f k), Nat.mul_comm f (dg a k)] at this
  exact this
theorem sc_le (a f k : Nat) : scC a f k ≤ f := accC_le _ _ _ _
theorem sc_all {a f k : Nat} (ha : a < BB ^ k) (h : scC a f k = 0) : f * a < BB ^ k := by
  have := acc_all (T := 0) (BBp k) ha h
  rwa [Nat.zero_add] at this
theorem prod_nat (x f : Nat) (hx : (x : Int) ≤ 999999999) (hf : (f : Int) ≤ 500000000) : ∃ p : Nat, x * f = p ∧ (x : Int) * (f : Int) = (p : Int) ∧ (p : Int) ≤ 999999999000000000 := by
  refine ⟨x * f, rfl, (Int.natCast_mul x f).symm, ?_⟩
  have h1 : x ≤ 999999999 := by omega
  have h2 : f ≤ 500000000 := by omega
  have := Nat.mul_le_mul h1 h2
  omega

end Go.Proofs.YtopmdeefcjdadaaDoor

namespace Go.Proofs.YtopmdeefcjdadaaDoor
open Go.RowKit
set_option linter.unusedVariables false
set_option linter.unusedSimpArgs false

/-- a new number and a rest -/
def ShortO (base q r : Nat) (w : World) (e : Ending) (w' : World) : Prop := ∃ v L, e = .returned (.tuple #[v, .int .i64 (r : Nat)]) ∧ LenOf q L ∧ w'.ownsRow base 3 1 v L (dcells q L) ∧ Below base w w'
theorem quo_facts {s d q : Nat} (h : s / d = q) : Int.tdiv (s : Int) (d : Int) = (q : Int) ∧ (s : Int) / (d : Int) = (q : Int) := by
  subst h
  exact ⟨tdiv_nat s d, (Int.natCast_ediv s d).symm⟩
theorem rem_facts {s d r : Nat} (h : s % d = r) : Int.tmod (s : Int) (d : Int) = (r : Int) ∧ (s : Int) % (d : Int) = (r : Int) := by
  subst h
  exact ⟨tmod_nat s d, (Int.natCast_emod s d).symm⟩
theorem quot_lt {a d L : Nat} (h : a < BB ^ L) : a / d < BB ^ L := Nat.lt_of_le_of_lt (Nat.div_le_self _ _) h

end Go.Proofs.YtopmdeefcjdadaaDoor
