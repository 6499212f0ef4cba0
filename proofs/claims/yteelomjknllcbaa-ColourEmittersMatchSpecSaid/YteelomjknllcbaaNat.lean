/- The reference's naturals: what a slice of digits says; the contracts of trim, small. -/
import Derived.Test.YteelomjknllcbaaProg
import Derived.Test.YteelomjknllcbaaNatRow
import Derived.WalkKit
import Derived.WalkSpells
import Derived.WalkLawsBesides
import Derived.OwnWalk
import Derived.Laws.AppendOwn
import Derived.Laws.OwnMore
import Derived.Lib.Hide
import Derived.Handy
namespace Go.Proofs.Yteelomjknllcbaa
open Go.RowKit
set_option linter.unusedVariables false
set_option linter.unusedSimpArgs false

/-- a slice of L digits of n, n below the base to the power of L; its cells lie below block B -/
def RowN (B : Nat) (w : World) (v : Value) (n L : Nat) : Prop :=
  ∃ ao cap, v = .slice ao L cap ∧ L ≤ cap ∧ cap ≤ 9223372036854775807 ∧ n < BB ^ L ∧ (0 < L → ∃ b off, ao = some ⟨b, off, none⟩ ∧ b < B ∧ ∀ i, i < L → w.cell? ⟨b, off + i, none⟩ = some (.int .i64 (dg n i : Nat)))
/-- without needless zeros -/
def IsN (B : Nat) (w : World) (v : Value) (n : Nat) : Prop := ∃ L, LenOf n L ∧ RowN B w v n L

theorem RowN.keep {B L n : Nat} {w w' : World} {v : Value} (h : RowN B w v n L) (hk : ∀ b o, b < B → w'.cell? ⟨b, o, none⟩ = w.cell? ⟨b, o, none⟩) : RowN B w' v n L := by
  obtain ⟨ao, cap, e, h1, h2, h3, h4⟩ := h
  refine ⟨ao, cap, e, h1, h2, h3, fun hl => ?_⟩
  obtain ⟨b, off, e2, hb, hc⟩ := h4 hl
  exact ⟨b, off, e2, hb, fun i hi => (hk _ _ hb).trans (hc i hi)⟩
theorem RowN.below {B L n : Nat} {w w' : World} {v : Value} (h : RowN B w v n L) (hb : Below B w w') : RowN B w' v n L := h.keep fun _ _ hp => hb.cell hp
theorem RowN.more {B B' L n : Nat} {w : World} {v : Value} (h : RowN B w v n L) (hB : B ≤ B') : RowN B' w v n L := by
  obtain ⟨ao, cap, e, h1, h2, h3, h4⟩ := h
  refine ⟨ao, cap, e, h1, h2, h3, fun hl => ?_⟩
  obtain ⟨b, off, e2, hb, hc⟩ := h4 hl
  exact ⟨b, off, e2, by omega, hc⟩
theorem IsN.below {B n : Nat} {w w' : World} {v : Value} (h : IsN B w v n) (hb : Below B w w') : IsN B w' v n := by obtain ⟨L, h1, h2⟩ := h; exact ⟨L, h1, h2.below hb⟩
theorem IsN.more {B B' n : Nat} {w : World} {v : Value} (h : IsN B w v n) (hB : B ≤ B') : IsN B' w v n := by obtain ⟨L, h1, h2⟩ := h; exact ⟨L, h1, h2.more hB⟩

/-- the cells of L digits -/
def dcells (n L : Nat) : List Value := (List.range L).map fun i => .int .i64 (dg n i : Nat)
theorem dcells_len (n L : Nat) : (dcells n L).length = L := by simp [dcells]
theorem dcells_succ (n L : Nat) : dcells n (L + 1) = dcells n L ++ [.int .i64 (dg n L : Nat)] := by simp [dcells, List.range_succ]
theorem RowN.of_own {w : World} {base e : Nat} {v : Value} {n L : Nat} (h : w.ownsRow base e 1 v L (dcells n L)) (hn : n < BB ^ L) : RowN w.heap.size w v n L := by
  rcases h.2 with ⟨rfl, rfl⟩ | ⟨g, cap, cur, rfl, hb, hg, h1, h2, h3, h4⟩
  · exact ⟨none, 0, rfl, Nat.le_refl _, by omega, hn, fun h => absurd h (Nat.lt_irrefl _)⟩
  · refine ⟨some ⟨g, 0, none⟩, cap, rfl, by omega, by unfold maxLen at h2; omega, hn, fun _ => ⟨g, 0, rfl, ?_, fun i hi => ?_⟩⟩
    · exact (Array.getElem?_eq_some_iff.1 hg).1
    · have := h.cells (g := g) rfl i (.int .i64 (dg n i : Nat)) (by simp [dcells, hi])
      have e : (⟨g, 0, none⟩ : Addr).add i = ⟨g, 0 + i, none⟩ := by unfold Addr.add; split <;> simp_all
      rw [e] at this
      exact this

theorem int_info : (Try.prog.info? 3).map (fun i => (i.zero, i.size, i.bytes)) = some (some (.int .i64 0), 1, 8) := by kernel_rfl

theorem lenOf_of_top {n k : Nat} (h1 : n < BB ^ k) (h2 : k = 0 ∨ dg n (k - 1) ≠ 0) : LenOf n k := by
  refine ⟨h1, fun hk => ?_⟩
  rcases h2 with h2 | h2
  · omega
  · by_cases hlt : n < BB ^ (k - 1)
    · exact absurd (dg_zero_of_lt hlt) h2
    · omega
theorem lt_of_top {n k : Nat} (h1 : n < BB ^ (k + 1)) (h2 : dg n k = 0) : n < BB ^ k := by
  have := mod_succ n k
  rw [h2, Nat.mul_zero, Nat.add_zero, Nat.mod_eq_of_lt h1] at this
  rw [this]
  exact Nat.mod_lt _ (BBp k)

def TrimP (n : Nat) (ao : Option Addr) (L cap : Nat) (w : World) (e : Ending) (w' : World) : Prop := (∃ k, k ≤ L ∧ e = .returned (.slice ao k cap) ∧ LenOf n k) ∧ w = w'
theorem RowN.front {B n L k : Nat} {w : World} {ao : Option Addr} {cap : Nat} (h : RowN B w (.slice ao L cap) n L) (hk : k ≤ L) (hn : n < BB ^ k) : RowN B w (.slice ao k cap) n k := by
  obtain ⟨ao', cap', e, h1, h2, h3, h4⟩ := h
  injection e with e1 e2 e3
  subst e1 e3
  exact ⟨_, _, rfl, by omega, h2, hn, fun h0 => by
    obtain ⟨b, off, e2, hb, hc⟩ := h4 (by omega)
    exact ⟨b, off, e2, hb, fun i hi => hc i (by omega)⟩⟩

set_option maxHeartbeats 2000000 in
theorem trim_any (B n L cap : Nat) (ao : Option Addr) (w : World) (h : RowN B w (.slice ao L cap) n L) : Calls Try.prog 108 #[.slice ao L cap] w (TrimP n ao L cap w) := by
  obtain ⟨ao', cap', he, c1, c2, hn, hx⟩ := id h
  injection he with he1 he2 he3
  subst he1 he3
  have HX := Lib.hid hx
  have HN := Lib.hid hn
  clear h hx hn
  go_enter Try.func108, Try.ntmps108
  go_wp2
  go_loop [3] (fun c => ∃ k : Nat, k ≤ L ∧ c = .int .i64 k ∧ Hid (n < BB ^ k)) (fun c => (intOf c).toNat)
  case atStart => exact ⟨L, Nat.le_refl _, rfl, HN⟩
  case round =>
    obtain ⟨k, hk, rfl, hnk⟩ := hrel
    by_cases h0 : k = 0
    · subst h0
      go_wp2
      go_ret
      exact ⟨⟨0, Nat.zero_le _, rfl, lenOf_of_top hnk.out (.inl rfl)⟩, rfl⟩
    · obtain ⟨b, off, rfl, hb, hc⟩ := HX.out (by omega)
      obtain ⟨k, rfl⟩ : ∃ j, k = j + 1 := ⟨k - 1, by omega⟩
      have hc0 := hc k (by omega)
      have e1 : ((k + 1 : Nat) : Int) - 1 = (k : Nat) := by omega
      have hcst : 0 < ((k + 1 : Nat) : Int) := by omega
      have HT := Lib.hid (fun h => lt_of_top (k := k) hnk.out h)
      have HU := Lib.hid (fun (h : dg n k ≠ 0) => lenOf_of_top (k := k + 1) hnk.out (.inr h))
      clear hc h0
      generalize dg n k = d at *
      by_cases hd : d = 0
      · subst hd
        go_wp2
        go_round
        case rel => exact ⟨k, by omega, by go_num, Lib.hid (HT.out rfl)⟩
        case measure => simp [intOf]
      · go_wp2
        go_ret
        exact ⟨⟨k + 1, hk, rfl, HU.out hd⟩, rfl⟩

theorem dcells_take {n L k : Nat} (h : k ≤ L) : (dcells n L).take k = dcells n k := by
  unfold dcells
  rw [← List.map_take, List.take_range, Nat.min_eq_left h]
theorem own_front {w : World} {base e : Nat} {ao : Option Addr} {n k cap : Nat} {xs : List Value} (h : w.ownsRow base e 1 (.slice ao n cap) n xs) (hk : k ≤ n) : w.ownsRow base e 1 (.slice ao k cap) k (xs.take k) := by
  have hl := h.1
  rcases h.2 with ⟨h', rfl⟩ | ⟨g, cap', cur, h', hb, hg, h1, h2, h3, h4⟩
  · injection h' with h1 h2 h3
    subst h1 h3
    obtain rfl : k = 0 := by omega
    exact ⟨by simp, .inl ⟨rfl, by simp⟩⟩
  · injection h' with e1 e2 e3
    subst e1 e3
    refine ⟨by simp at hl ⊢; omega, .inr ⟨g, _, cur, rfl, hb, hg, by omega, h2, h3, ?_⟩⟩
    rw [← h4, List.take_take]
    congr 1
    omega
/-- a new number in a row of the call's own -/
def NewO (base n : Nat) (w : World) (e : Ending) (w' : World) : Prop := ∃ v L, e = .returned v ∧ LenOf n L ∧ w'.ownsRow base 3 1 v L (dcells n L) ∧ Below base w w'
def TrimO (base n : Nat) (w : World) (e : Ending) (w' : World) : Prop := (∃ v L, e = .returned v ∧ LenOf n L ∧ w.ownsRow base 3 1 v L (dcells n L)) ∧ w = w'
theorem own_shape1 {w : World} {base : Nat} {e : TypeId} {size : Nat} {v : Value} {n : Nat} {xs : List Value} (h : w.ownsRow base e size v n xs) : ∃ ao cap, v = .slice ao n cap := by
  rcases h.2 with ⟨rfl, rfl⟩ | ⟨g, cap, cur, rfl, _⟩
  · exact ⟨_, _, rfl⟩
  · exact ⟨_, _, rfl⟩
theorem trim_own (base n L : Nat) (v : Value) (w : World) (h : w.ownsRow base 3 1 v L (dcells n L)) (hn : n < BB ^ L) : Calls Try.prog 108 #[v] w (TrimO base n w) := by
  obtain ⟨ao, cap, rfl⟩ := own_shape1 h
  refine (trim_any w.heap.size n L cap ao w (RowN.of_own h hn)).mono ?_
  rintro e w' ⟨⟨k, hk, rfl, hl⟩, rfl⟩
  refine ⟨⟨_, k, rfl, hl, ?_⟩, rfl⟩
  have := own_front h hk
  rwa [dcells_take hk] at this
end Go.Proofs.Yteelomjknllcbaa
