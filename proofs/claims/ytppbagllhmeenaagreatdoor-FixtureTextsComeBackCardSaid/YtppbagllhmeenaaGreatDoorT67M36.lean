/- slices.Clone at ranges and at units. (printed by wip/gen/gen_fixclones.py) -/
import Derived.Test.YtppbagllhmeenaaGreatDoorT67M33
import Derived.Lib.SliceRun
import Derived.OwnWalk
import Derived.Laws.AppendOwn

namespace Go.Proofs.YtppbagllhmeenaaGreatDoor
open Go.RowKit
open Go (info_parts)
set_option linter.unusedVariables false
set_option linter.unusedSimpArgs false

/-- a slice of n elements, its cells xs below block B -/
def RowC (B : Nat) (w : World) (v : Value) (n : Nat) (xs : List Value) : Prop :=
  ∃ ao cap, v = .slice ao n cap ∧ (0 < n → ∃ b off, ao = some ⟨b, off, none⟩ ∧ b < B ∧ ∀ j u, xs[j]? = some u → w.cell? ⟨b, off + j, none⟩ = some u)
def CloneO (T : TypeId) (m : Nat) (w : World) (n : Nat) (xs : List Value) (e : Ending) (w' : World) : Prop :=
  ∃ v', e = .returned v' ∧ w'.ownsRow w.heap.size T m v' n xs ∧ Below w.heap.size w w'
theorem ranges_info : (Tryz.prog.info? 75).map (fun i => (i.zero, i.size, i.bytes)) = some (some (.agg #[.int .i64 0, .int .i64 0, .string ⟨#[]⟩]), 3, 32) := by kernel_rfl
set_option maxHeartbeats 2000000 in
theorem ranges_clone (B : Nat) (v : Value) (n : Nat) (xs : List Value) (w : World) (hB : B ≤ w.heap.size) (hl : n ≤ 1000) (hxl : xs.length = n * 3) (hone : ∀ u ∈ xs, u.oneCell' = true) (h1 : RowC B w v n xs) :
    Calls Tryz.prog 51 #[v] w (CloneO 75 3 w n xs) := by
  obtain ⟨i0, hi, hz0, hz1, hz2⟩ := info_parts ranges_info
  have q22 : ∀ (w : World) (a : Option Addr) (n c n' c' : Nat), (binOp .eql 71 (.slice a n c) (.slice none n' c')).run Tryz.prog w = .ok (.bool a.isNone) w := fun w a n c n' c' => Lib.run_eql_slice_nil w _ _ a n c n' c' Tryz.underlying71
  obtain ⟨ao, cap, rfl, h4⟩ := h1
  cases ao with
  | none =>
    have hl0 : n = 0 := by
      rcases Nat.eq_zero_or_pos n with h | h
      · exact h
      · obtain ⟨b, off, e, _⟩ := h4 h; cases e
    subst hl0
    have hx0 : xs = [] := List.eq_nil_of_length_eq_zero (by omega)
    subst hx0
    go_enter Tryz.func51, Tryz.ntmps51
    go_wp2
    go_ret
    exact ⟨_, rfl, World.ownsRow_nil _ _ _ _, Below.refl _ _⟩
  | some a =>
    have hc := Lib.hid (show ∀ j u, xs[j]? = some u → (w.alloc (.cells #[] 75)).cell? (a.add j) = some u by
      intro j u hu
      have hn : 0 < n := by
        rcases Nat.eq_zero_or_pos n with h | h
        · subst h
          obtain rfl : xs = [] := List.eq_nil_of_length_eq_zero (by omega)
          simp at hu
        · exact h
      obtain ⟨b, off, e, hb, hc⟩ := h4 hn
      obtain rfl := Option.some.inj e
      rw [addr_plus]
      exact (World.cell?_alloc_lt w _ _ (show b < w.heap.size by omega)).trans (hc j u hu))
    have HX := Lib.hid hxl
    have HO := Lib.hid hone
    clear h4 hxl hone
    go_enter Tryz.func51, Tryz.ntmps51
    go_wp2_with (at_builtin; refine wpList_append_own _ rfl _ _ 71 rfl w.heap.size 75 i0 (.agg #[.int .i64 0, .int .i64 0, .string ⟨#[]⟩]) 3 32 Tryz.underlying71 hi hz0 hz1 hz2 rfl (by omega) _ _ _ rfl (World.ownsRow_made w #[] 0 (Nat.le_refl _) (Nat.zero_le _) (by simp)) a n cap xs rfl HX.out hc.out HO.out (by unfold maxLen; omega) (by omega) (by simp) ?_; intro v' w1 hown hgrow0 _)
    have hgrow : World.grownBy (w.alloc (.cells #[] 75)) w1 (some w.heap.size) := hgrow0
    go_ret
    rw [List.nil_append, Nat.zero_add] at hown
    exact ⟨v', rfl, hown, ((Below.refl _ w).alloc (Nat.le_refl _) _).grown hgrow (by simp) (by intro k hk; injection hk with hk; omega)⟩
theorem units_info : (Tryz.prog.info? 51).map (fun i => (i.zero, i.size, i.bytes)) = some (some (.agg #[.int .i64 0, .string ⟨#[]⟩, .int .i64 0, .int .i64 0]), 4, 40) := by kernel_rfl
set_option maxHeartbeats 2000000 in
theorem units_clone (B : Nat) (v : Value) (n : Nat) (xs : List Value) (w : World) (hB : B ≤ w.heap.size) (hl : n ≤ 1000) (hxl : xs.length = n * 4) (hone : ∀ u ∈ xs, u.oneCell' = true) (h1 : RowC B w v n xs) :
    Calls Tryz.prog 50 #[v] w (CloneO 51 4 w n xs) := by
  obtain ⟨i0, hi, hz0, hz1, hz2⟩ := info_parts units_info
  have q22 : ∀ (w : World) (a : Option Addr) (n c n' c' : Nat), (binOp .eql 23 (.slice a n c) (.slice none n' c')).run Tryz.prog w = .ok (.bool a.isNone) w := fun w a n c n' c' => Lib.run_eql_slice_nil w _ _ a n c n' c' Tryz.underlying23
  obtain ⟨ao, cap, rfl, h4⟩ := h1
  cases ao with
  | none =>
    have hl0 : n = 0 := by
      rcases Nat.eq_zero_or_pos n with h | h
      · exact h
      · obtain ⟨b, off, e, _⟩ := h4 h; cases e
    subst hl0
    have hx0 : xs = [] := List.eq_nil_of_length_eq_zero (by omega)
    subst hx0
    go_enter Tryz.func50, Tryz.ntmps50
    go_wp2
    go_ret
    exact ⟨_, rfl, World.ownsRow_nil _ _ _ _, Below.refl _ _⟩
  | some a =>
    have hc := Lib.hid (show ∀ j u, xs[j]? = some u → (w.alloc (.cells #[] 51)).cell? (a.add j) = some u by
      intro j u hu
      have hn : 0 < n := by
        rcases Nat.eq_zero_or_pos n with h | h
        · subst h
          obtain rfl : xs = [] := List.eq_nil_of_length_eq_zero (by omega)
          simp at hu
        · exact h
      obtain ⟨b, off, e, hb, hc⟩ := h4 hn
      obtain rfl := Option.some.inj e
      rw [addr_plus]
      exact (World.cell?_alloc_lt w _ _ (show b < w.heap.size by omega)).trans (hc j u hu))
    have HX := Lib.hid hxl
    have HO := Lib.hid hone
    clear h4 hxl hone
    go_enter Tryz.func50, Tryz.ntmps50
    go_wp2_with (at_builtin; refine wpList_append_own _ rfl _ _ 23 rfl w.heap.size 51 i0 (.agg #[.int .i64 0, .string ⟨#[]⟩, .int .i64 0, .int .i64 0]) 4 40 Tryz.underlying23 hi hz0 hz1 hz2 rfl (by omega) _ _ _ rfl (World.ownsRow_made w #[] 0 (Nat.le_refl _) (Nat.zero_le _) (by simp)) a n cap xs rfl HX.out hc.out HO.out (by unfold maxLen; omega) (by omega) (by simp) ?_; intro v' w1 hown hgrow0 _)
    have hgrow : World.grownBy (w.alloc (.cells #[] 51)) w1 (some w.heap.size) := hgrow0
    go_ret
    rw [List.nil_append, Nat.zero_add] at hown
    exact ⟨v', rfl, hown, ((Below.refl _ w).alloc (Nat.le_refl _) _).grown hgrow (by simp) (by intro k hk; injection hk with hk; omega)⟩
end Go.Proofs.YtppbagllhmeenaaGreatDoor
