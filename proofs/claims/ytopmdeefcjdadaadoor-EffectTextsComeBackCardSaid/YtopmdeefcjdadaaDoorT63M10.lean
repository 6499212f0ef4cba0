/- The reference's naturals: what a slice of digits says; the contracts of trim, small. The contracts of small and number. The contract of the reference's plus. The contract of order: the plain laws first. -/
import Derived.Test.YtopmdeefcjdadaaDoorProg
import Derived.Test.YtopmdeefcjdadaaDoorT63M09
import Derived.WalkKit
import Derived.WalkSpells
import Derived.WalkLawsBesides
import Derived.OwnWalk
import Derived.Laws.AppendOwn
import Derived.Laws.OwnMore
import Derived.Lib.Hide
import Derived.Handy

namespace Go.Proofs.YtopmdeefcjdadaaDoor
open Go.RowKit
set_option linter.unusedVariables false
set_option linter.unusedSimpArgs false

/-- a slice of L digits of n, n below the base to the power of L; its cells lie below block B -/
def RowN (B : Nat) (w : World) (v : Value) (n L : Nat) : Prop :=
  ∃ ao cap, v = .slice ao L cap ∧ L ≤ cap ∧ cap ≤ 9223372036854775807 ∧ n < BB ^ L ∧ (0 < L → ∃ b off, ao = some ⟨b, off, none⟩ ∧ b < B ∧ ∀ i, i < L → w.cell? ⟨b, off + i, none⟩ = some (.int .i64 (dg n i : Nat)))
/-- without needless zeros -/
def IsN (B : Nat) (w : World) (v : Value) (n : Nat) : Prop := ∃ L, LenOf n L ∧ RowN B w v n L

theorem RowN.keep {B L n : Nat} {w w' : World} {v : Value} (h : RowN B w v n L) (hk : ∀ b o, b < B → w'.cell? ⟨b, o, none⟩ = w.cell? ⟨b, o, none⟩) : RowN B w' v n L := by
  obtain ⟨ao, cap, e, h1, h2, h3, h4⟩ := h
  refine ⟨ao, cap, e, h1, h2, h3, fun hl => ?_⟩
  obtain ⟨b, off, e2, hb, hc⟩ := h4 hl
  exact ⟨b, off, e2, hb, fun i hi => (hk _ _ hb).trans (hc i hi)⟩
theorem RowN.below {B L n : Nat} {w w' : World} {v : Value} (h : RowN B w v n L) (hb : Below B w w') : RowN B w' v n L := h.keep fun _ _ hp => hb.cell hp
theorem RowN.more {B B' L n : Nat} {w : World} {v : Value} (h : RowN B w v n L) (hB : B ≤ B') : RowN B' w v n L := by
  obtain ⟨ao, cap, e, h1, h2, h3, h4⟩ := h
  refine ⟨ao, cap, e, h1, h2, h3, fun hl => ?_⟩
  obtain ⟨b, off, e2, hb, hc⟩ := h4 hl
  exact ⟨b, off, e2, by omega, hc⟩
theorem IsN.below {B n : Nat} {w w' : World} {v : Value} (h : IsN B w v n) (hb : Below B w w') : IsN B w' v n := by obtain ⟨L, h1, h2⟩ := h; exact ⟨L, h1, h2.below hb⟩
theorem IsN.more {B B' n : Nat} {w : World} {v : Value} (h : IsN B w v n) (hB : B ≤ B') : IsN B' w v n := by obtain ⟨L, h1, h2⟩ := h; exact ⟨L, h1, h2.more hB⟩

/-- the cells of L digits -/
def dcells (n L : Nat) : List Value := (List.range L).map fun i => .int .i64 (dg n i : Nat)
theorem dcells_len (n L : Nat) : (dcells n L).length = L := by simp [dcells]
theorem dcells_succ (n L : Nat) : dcells n (L + 1) = dcells n L ++ [.int .i64 (dg n L : Nat)] := by simp [dcells, List.range_succ]
theorem RowN.of_own {w : World} {base e : Nat} {v : Value} {n L : Nat} (h : w.ownsRow base e 1 v L (dcells n L)) (hn : n < BB ^ L) : RowN w.heap.size w v n L := by
  rcases h.2 with ⟨rfl, rfl⟩ | ⟨g, cap, cur, rfl, hb, hg, h1, h2, h3, h4⟩
  · exact ⟨none, 0, rfl, Nat.le_refl _, by omega, hn, fun h => absurd h (Nat.lt_irrefl _)⟩
  · refine ⟨some ⟨g, 0, none⟩, cap, rfl, by omega, by unfold maxLen at h2; omega, hn, fun _ => ⟨g, 0, rfl, ?_, fun i hi => ?_⟩⟩
    · exact (Array.getElem?_eq_some_iff.1 hg).1
    · have := h.cells (g := g) rfl i (.int .i64 (dg n i : Nat)) (by simp [dcells, hi])
      have e : (⟨g, 0, none⟩ : Addr).add i = ⟨g, 0 + i, none⟩ := by unfold Addr.add; split <;> simp_all
      rw [e] at this
      exact this

theorem int_info : (Tryd.prog.info? 3).map (fun i => (i.zero, i.size, i.bytes)) = some (some (.int .i64 0), 1, 8) := by kernel_rfl

theorem lenOf_of_top {n k : Nat} (h1 : n < BB ^ k) (h2 : k = 0 ∨ dg n (k - 1) ≠ 0) : LenOf n k := by
  refine ⟨h1, fun hk => ?_⟩
  rcases h2 with h2 | h2
  · omega
  · by_cases hlt : n < BB ^ (k - 1)
    · exact absurd (dg_zero_of_lt hlt) h2
    · omega
theorem lt_of_top {n k : Nat} (h1 : n < BB ^ (k + 1)) (h2 : dg n k = 0) : n < BB ^ k := by
  have := mod_succ n k
  rw [h2, Nat.mul_zero, Nat.add_zero, Nat.mod_eq_of_lt h1] at this
  rw [this]
  exact Nat.mod_lt _ (BBp k)

def TrimP (n : Nat) (ao : Option Addr) (L cap : Nat) (w : World) (e : Ending) (w' : World) : Prop := (∃ k, k ≤ L ∧ e = .returned (.slice ao k cap) ∧ LenOf n k) ∧ w = w'
theorem RowN.front {B n L k : Nat} {w : World} {ao : Option Addr} {cap : Nat} (h : RowN B w (.slice ao L cap) n L) (hk : k ≤ L) (hn : n < BB ^ k) : RowN B w (.slice ao k cap) n k := by
  obtain ⟨ao', cap', e, h1, h2, h3, h4⟩ := h
  injection e with e1 e2 e3
  subst e1 e3
  exact ⟨_, _, rfl, by omega, h2, hn, fun h0 => by
    obtain ⟨b, off, e2, hb, hc⟩ := h4 (by omega)
    exact ⟨b, off, e2, hb, fun i hi => hc i (by omega)⟩⟩

theorem dcells_take {n L k : Nat} (h : k ≤ L) : (dcells n L).take k = dcells n k := by
  unfold dcells
  rw [← List.map_take, List.take_range, Nat.min_eq_left h]
theorem own_front {w : World} {base e : Nat} {ao : Option Addr} {n k cap : Nat} {xs : List Value} (h : w.ownsRow base e 1 (.slice ao n cap) n xs) (hk : k ≤ n) : w.ownsRow base e 1 (.slice ao k cap) k (xs.take k) := by
  have hl := h.1
  rcases h.2 with ⟨h', rfl⟩ | ⟨g, cap', cur, h', hb, hg, h1, h2, h3, h4⟩
  · injection h' with h1 h2 h3
    subst h1 h3
    obtain rfl : k = 0 := by omega
    exact ⟨by simp, .inl ⟨rfl, by simp⟩⟩
  · injection h' with e1 e2 e3
    subst e1 e3
    refine ⟨by simp at hl ⊢; omega, .inr ⟨g, _, cur, rfl, hb, hg, by omega, h2, h3, ?_⟩⟩
    rw [← h4, List.take_take]
    congr 1
    omega
/-- a new number in a row of the call's own -/
def NewO (base n : Nat) (w : World) (e : Ending) (w' : World) : Prop := ∃ v L, e = .returned v ∧ LenOf n L ∧ w'.ownsRow base 3 1 v L (dcells n L) ∧ Below base w w'
def TrimO (base n : Nat) (w : World) (e : Ending) (w' : World) : Prop := (∃ v L, e = .returned v ∧ LenOf n L ∧ w.ownsRow base 3 1 v L (dcells n L)) ∧ w = w'
theorem own_shape1 {w : World} {base : Nat} {e : TypeId} {size : Nat} {v : Value} {n : Nat} {xs : List Value} (h : w.ownsRow base e size v n xs) : ∃ ao cap, v = .slice ao n cap := by
  rcases h.2 with ⟨rfl, rfl⟩ | ⟨g, cap, cur, rfl, _⟩
  · exact ⟨_, _, rfl⟩
  · exact ⟨_, _, rfl⟩
end Go.Proofs.YtopmdeefcjdadaaDoor

namespace Go.Proofs.YtopmdeefcjdadaaDoor
open Go.RowKit
set_option linter.unusedVariables false
set_option linter.unusedSimpArgs false

theorem tmod_nat (m d : Nat) : Int.tmod (m : Int) (d : Int) = ((m % d : Nat) : Int) := (Int.ofNat_tmod m d).symm
theorem tdiv_nat (m d : Nat) : Int.tdiv (m : Int) (d : Int) = ((m / d : Nat) : Int) := (Int.ofNat_tdiv m d).symm
/-- a new number -/
def NewN (n : Nat) (w : World) (e : Ending) (w' : World) : Prop := ∃ v, e = .returned v ∧ IsN w'.heap.size w' v n ∧ Below w.heap.size w w'
theorem one_int (w : World) (x : Int) (T : TypeId) (fz : Nat × Nat) (j : Nat) (u : Value) (h : [Value.int .i64 x][j]? = some u) : (w.alloc (.cells #[.int .i64 x] T fz)).cell? ((⟨w.heap.size, 0, none⟩ : Addr).add j) = some u := by
  match j, h with
  | 0, h =>
    simp at h
    subst h
    exact World.cell?_alloc_mark w _ T fz 0
theorem int_one (x : Int) : ∀ u ∈ [Value.int .i64 x], u.oneCell' = true := by
  intro u hu
  simp at hu
  subst hu
  rfl
theorem below_own1 {w wr w2 : World} {v : Value} {e n : Nat} {xs : List Value} {o : Obj} (hb : Below w.heap.size w wr) (ho : wr.ownsRow w.heap.size e 1 v n xs) (hg : (wr.alloc o).grownBy w2 v.ownBlock) (hs : w.heap.size ≤ wr.heap.size) : Below w.heap.size w w2 :=
  (hb.alloc hs o).grown hg (by simp; omega) fun k hk => (ho.lt k hk).1
theorem qN_dg (n k : Nat) : dcells n (k + 1) = dcells n k ++ [.int .i64 ((qN n k % 1000000000 : Nat) : Int)] := dcells_succ n k
theorem BB20 : 9223372036854775807 < BB ^ 20 := by unfold BB; decide
theorem qN_20 {n : Nat} (h : n ≤ 9223372036854775807) : qN n 20 = 0 := Nat.div_eq_of_lt (Nat.lt_of_le_of_lt h BB20)
theorem lenOf_of_div {n k : Nat} (h : qN n k = 0) (hz : k = 0 ∨ qN n (k - 1) ≠ 0) : LenOf n k := by
  refine ⟨qN_lt h, fun hk0 => ?_⟩
  rcases hz with h | h
  · omega
  · by_cases hlt : n < BB ^ (k - 1)
    · exact absurd (Nat.div_eq_of_lt hlt) h
    · omega
theorem small_val {m m2 : Nat} (h : wrap64 ((m : Int) / 1000000000) = (m : Int) / 1000000000) (hv : m / 1000000000 = m2) :
    Value.int .i64 (wrap64 ((m : Int) / 1000000000)) = Value.int .i64 (m2 : Int) := by
  rw [h, ← hv]
  exact congrArg _ (by omega)
theorem small_less {m m2 : Nat} (h : wrap64 ((m : Int) / 1000000000) = (m : Int) / 1000000000) (hv : m / 1000000000 = m2) (hm : m ≠ 0) :
    (intOf (Value.int .i64 (wrap64 ((m : Int) / 1000000000)))).toNat < (intOf (Value.int .i64 (m : Int))).toNat := by
  rw [h]
  simp only [intOf]
  omega
theorem div_wrap {m : Nat} (h : m ≤ 9223372036854775807) : wrap64 ((m : Int) / 1000000000) = (m : Int) / 1000000000 := IntWalk.wrap64_in _ ⟨by omega, by omega⟩
theorem mod_val (m : Nat) : (m : Int) % 1000000000 = ((m % 1000000000 : Nat) : Int) := by omega

end Go.Proofs.YtopmdeefcjdadaaDoor

namespace Go.Proofs.YtopmdeefcjdadaaDoor
open Go.RowKit
set_option linter.unusedVariables false
set_option linter.unusedSimpArgs false

/-- a number of at most 20 digits -/
def Fit (n : Nat) : Prop := n < BB ^ 20
theorem Fit.len {n L : Nat} (h : Fit n) (hl : LenOf n L) : L ≤ 20 := lenOf_le hl h
theorem Fit.le {n m : Nat} (h : Fit m) (hl : n ≤ m) : Fit n := Nat.lt_of_le_of_lt hl h
theorem carry_end {n m k : Nat} (h1 : n < BB ^ k) (h2 : m < BB ^ k) : carryP n m (k + 1) = 0 := by
  unfold carryP
  have e : BB ^ (k + 1) = BB * BB ^ k := Nat.pow_succ'
  have h3 : 2 * BB ^ k ≤ BB * BB ^ k := Nat.mul_le_mul_right _ (by decide)
  have a1 : n % BB ^ (k + 1) ≤ n := Nat.mod_le _ _
  have a2 : m % BB ^ (k + 1) ≤ m := Nat.mod_le _ _
  exact Nat.div_eq_of_lt (by omega)
theorem plus_all {n m k : Nat} (h1 : n < BB ^ k) (h2 : m < BB ^ k) (h : carryP n m k = 0) : n + m < BB ^ k := by
  have := plus_div n m k
  rw [h, Nat.div_eq_of_lt h1, Nat.div_eq_of_lt h2] at this
  exact (Nat.div_eq_zero_iff_lt (BBp k)).1 (by omega)
theorem lt_pow {n L k : Nat} (h : n < BB ^ L) (hk : L ≤ k) : n < BB ^ k := Nat.lt_of_lt_of_le h (pow_mono hk)
/-- what a round computes out of s: the digit and the carry -/
theorem digit_val {s d : Nat} {x : Int} (hx : x = (s : Nat)) (h : d = s % BB) : Value.int .i64 (x % 1000000000) = Value.int .i64 (d : Nat) := by
  subst hx h
  unfold BB
  exact congrArg _ (by omega)
theorem carry_val {s c : Nat} {x : Int} (hx : x = (s : Nat)) (h : c = s / BB) : Value.int .i64 (x / 1000000000) = Value.int .i64 (c : Nat) := by
  subst hx h
  unfold BB
  exact congrArg _ (by omega)
theorem carry_valw {s c : Nat} {x : Int} (hx : x = (s : Nat)) (h : c = s / BB) (hs : s ≤ 9223372036854775807) : Value.int .i64 (wrap64 (x / 1000000000)) = Value.int .i64 (c : Nat) := by
  subst hx
  rw [div_wrap hs]
  exact carry_val rfl h
theorem cells_snoc {n k : Nat} {u : Value} (h : u = .int .i64 (dg n k : Nat)) : dcells n k ++ [u] = dcells n (k + 1) := by rw [dcells_succ, h]
theorem below_own2 {B : Nat} {w wr w2 : World} {v : Value} {e n : Nat} {xs : List Value} {o : Obj} (hb : Below B w wr) (ho : wr.ownsRow B e 1 v n xs) (hg : (wr.alloc o).grownBy w2 v.ownBlock) (hs : B ≤ wr.heap.size) : Below B w w2 :=
  (hb.alloc hs o).grown hg (by simp; omega) fun k hk => (ho.lt k hk).1
theorem dg_le9 (n i : Nat) : ((dg n i : Nat) : Int) ≤ 999999999 := by
  have := dg_lt n i
  unfold BB at this
  omega

/-- the first rounds of plus: how far -/
def PlusR (n m L M k : Nat) : Prop := k ≤ L ∨ k ≤ M ∨ (k ≤ max L M + 1 ∧ carryP n m k = 0)

end Go.Proofs.YtopmdeefcjdadaaDoor

namespace Go.Proofs.YtopmdeefcjdadaaDoor
open Go.RowKit
set_option linter.unusedVariables false
set_option linter.unusedSimpArgs false

/-- what order answers -/
def ordV (n m : Nat) : Int := if n < m then -1 else if m < n then 1 else 0
theorem len_less {n m L M : Nat} (h : LenOf n L) (k : LenOf m M) (hl : L < M) : n < m := by
  have h1 := k.2 (by omega)
  have h2 : BB ^ L ≤ BB ^ (M - 1) := Nat.pow_le_pow_right BB_pos (by omega)
  have := h.1
  omega
theorem ordV_less {n m : Nat} (h : n < m) : ordV n m = -1 := if_pos h
theorem ordV_more {n m : Nat} (h : m < n) : ordV n m = 1 := by unfold ordV; rw [if_neg (by omega), if_pos h]
theorem ordV_same (n : Nat) : ordV n n = 0 := by unfold ordV; rw [if_neg (by omega), if_neg (by omega)]
theorem qN_lt_of {n m i : Nat} (h : qN n i < qN m i) : n < m := by
  unfold qN at h
  by_cases hlt : n < m
  · exact hlt
  · have := Nat.div_le_div_right (c := BB ^ i) (Nat.le_of_not_lt hlt)
    omega
theorem ord_less {n m i : Nat} (h : qN n (i + 1) = qN m (i + 1)) (hd : dg n i < dg m i) : n < m := by
  have h1 := qN_step n i
  have h2 := qN_step m i
  rw [h] at h1
  exact qN_lt_of (i := i) (by omega)
theorem ord_same {n m i : Nat} (h : qN n (i + 1) = qN m (i + 1)) (hd : dg n i = dg m i) : qN n i = qN m i := by
  rw [qN_step n i, qN_step m i, h, hd]
theorem ord_end {n m : Nat} (h : qN n 0 = qN m 0) : n = m := by rwa [qN_zero, qN_zero] at h

def OrdP (n m : Nat) (w : World) (e : Ending) (w' : World) : Prop := e = .returned (.int .i64 (ordV n m)) ∧ Below w.heap.size w w'
end Go.Proofs.YtopmdeefcjdadaaDoor
