/- Slices of points (and of changes): slices.Clone, slices.Equal. -/
import Derived.Test.YtdicoggpcobbpaaDoorInverse
import Derived.Test.YtdicoggpcobbpaaDoorFadeFns
import Derived.Deep.QuietTactic
import Derived.BigQuiet
namespace Go.Proofs.YtdicoggpcobbpaaDoor
open Go.RowKit
open Go (info_parts)
set_option linter.unusedVariables false
set_option linter.unusedSimpArgs false

theorem ptCells_one (l : List (Int × Int)) : ∀ u ∈ ptCells l, u.oneCell' = true := by
  intro u hu
  simp only [ptCells, List.mem_flatMap] at hu
  obtain ⟨y, _, hy⟩ := hu
  simp at hy
  rcases hy with rfl | rfl <;> rfl
theorem ptCells_at {w : World} {b off : Nat} {ps : List (Int × Int)} (h : PtsAt w b off ps) (j : Nat) (u : Value) (hu : (ptCells ps)[j]? = some u) : w.cell? ⟨b, off + j, none⟩ = some u := by
  have hj : j < (ptCells ps).length := (List.getElem?_eq_some_iff.1 hu).1
  rw [ptCells_length] at hj
  have hi : j / 2 < ps.length := by omega
  obtain ⟨g1, g2⟩ := ptCells_get ps (j / 2) hi
  obtain ⟨c1, c2⟩ := h (j / 2) hi
  rcases Nat.mod_two_eq_zero_or_one j with e | e
  · have : j = j / 2 * 2 := by omega
    rw [this] at hu ⊢
    rw [g1] at hu
    obtain rfl := Option.some.inj hu
    exact c1
  · have : j = j / 2 * 2 + 1 := by omega
    rw [this] at hu ⊢
    rw [g2] at hu
    obtain rfl := Option.some.inj hu
    exact c2
theorem addr_add0 (b off j : Nat) : (⟨b, off, none⟩ : Addr).add j = ⟨b, off + j, none⟩ := by unfold Addr.add; split <;> simp_all

theorem below_drewP {B n : Nat} {a w : World} (h : Below B a w) : Below B a (w.drewN n) := ⟨h.os, h.tape, h.output, h.size, h.block⟩
def ClonePts (w : World) (ps : List (Int × Int)) (e : Ending) (w' : World) : Prop := ∃ v, e = .returned v ∧ PtsV w' v ps ∧ (ps ≠ [] → ∀ b off n cap, v = .slice (some ⟨b, off, none⟩) n cap → w.heap.size ≤ b ∧ b < w'.heap.size) ∧ Below w.heap.size w w'

set_option maxHeartbeats 2000000 in
theorem ptsClone_any (v : Value) (ps : List (Int × Int)) (w : World) (hl : ps.length ≤ 8796093022207) (h1 : PtsV w v ps) :
    Calls Tryd.prog 65 #[v] w (ClonePts w ps) := by
  obtain ⟨i0, hi, hz0, hz1, hz2⟩ := info_parts infoPoint
  have q22 : ∀ (w : World) (a : Option Addr) (n c n' c' : Nat), (binOp .eql 29 (.slice a n c) (.slice none n' c')).run Tryd.prog w = .ok (.bool a.isNone) w := fun w a n c n' c' => Lib.run_eql_slice_nil w _ _ a n c n' c' Tryd.underlying29
  have hcase : (ps = [] ∧ ∃ n cap, v = .slice none n cap) ∨ ∃ (a : Addr) (cap : Nat), v = .slice (some a) ps.length cap ∧ ∀ j u, (ptCells ps)[j]? = some u → (w.alloc (.cells #[] 63)).cell? (a.add j) = some u := by
    rcases h1 with ⟨rfl, ao, cap, rfl⟩ | ⟨h, hm, b, off, cap, rfl, hb, hp⟩
    · cases ao with
      | none => exact .inl ⟨rfl, 0, cap, rfl⟩
      | some a => exact .inr ⟨a, cap, rfl, fun j u hu => by simp [ptCells] at hu⟩
    · refine .inr ⟨_, cap, rfl, fun j u hu => ?_⟩
      rw [addr_add0]
      exact (World.cell?_alloc_lt w _ _ (show b < w.heap.size from hb)).trans (ptCells_at hp j u hu)
  clear h1
  rcases hcase with ⟨rfl, n, cap, rfl⟩ | ⟨a, cap, rfl, hc⟩
  · go_enter Tryd.func65, Tryd.ntmps65
    go_wp2
    go_ret
    exact ⟨_, rfl, .inl ⟨rfl, none, 0, rfl⟩, fun h => absurd rfl h, Below.refl _ _⟩
  · have HC := Lib.hid hc
    clear hc
    go_enter Tryd.func65, Tryd.ntmps65
    go_wp2_with (at_builtin; refine wpList_append_own _ rfl _ _ 29 rfl w.heap.size 63 i0 (.agg #[.int .i64 0, .int .i64 0]) 2 16 Tryd.underlying29 hi hz0 hz1 hz2 rfl (by omega) _ _ _ rfl (World.ownsRow_made w #[] 0 (Nat.le_refl _) (Nat.zero_le _) (by simp)) a ps.length cap (ptCells ps) rfl (ptCells_length ps) HC.out (ptCells_one ps) (by unfold maxLen; omega) (by omega) (by simp) ?_; intro v' w1 hown hgrow0 _)
    have hgrow : World.grownBy (w.alloc (.cells #[] 63)) w1 (some w.heap.size) := hgrow0
    go_ret
    rw [List.nil_append, Nat.zero_add] at hown
    exact ⟨v', rfl, ptsV_of_own hown (by omega), fun _ b off n cap e => by subst e; exact hown.lt b rfl, ((Below.refl _ w).alloc (Nat.le_refl _) _).grown hgrow (by simp) (by intro k hk; injection hk with hk; omega)⟩

set_option maxHeartbeats 2000000 in
theorem ptsEqual (v u : Value) (ps : List (Int × Int)) (w : World) (hv : PtsV w v ps) (hu : PtsV w u ps) (hl : ps.length ≤ 9223372036854775807) :
    Calls Tryd.prog 52 #[v, u] w fun e w' => e = .returned (.bool true) ∧ Below w.heap.size w w' := by
  have hx : ∃ ao cap, v = .slice ao ps.length cap ∧ (0 < ps.length → ∃ b off, ao = some ⟨b, off, none⟩ ∧ PtsAt w b off ps) := by
    rcases hv with ⟨rfl, ao, cap, rfl⟩ | ⟨h, hm, b, off, cap, rfl, hb, hp⟩
    · exact ⟨ao, cap, rfl, fun h => absurd h (Nat.lt_irrefl _)⟩
    · exact ⟨_, cap, rfl, fun _ => ⟨b, off, rfl, hp⟩⟩
  have hy : ∃ ao cap, u = .slice ao ps.length cap ∧ (0 < ps.length → ∃ b off, ao = some ⟨b, off, none⟩ ∧ PtsAt w b off ps) := by
    rcases hu with ⟨rfl, ao, cap, rfl⟩ | ⟨h, hm, b, off, cap, rfl, hb, hp⟩
    · exact ⟨ao, cap, rfl, fun h => absurd h (Nat.lt_irrefl _)⟩
    · exact ⟨_, cap, rfl, fun _ => ⟨b, off, rfl, hp⟩⟩
  obtain ⟨ao, cap, rfl, h3⟩ := hx
  obtain ⟨bo, cap2, rfl, h6⟩ := hy
  have HX := Lib.hid h3
  have HY := Lib.hid h6
  clear h3 h6 hv hu
  go_enter Tryd.func52, Tryd.ntmps52
  go_wp2
  go_loopw [13] (fun i wr => ∃ k : Nat, k ≤ ps.length ∧ i = .int .i64 k ∧ ∃ n, wr = w.drewN n) (fun i _ => ps.length - (intOf i).toNat)
  case atStart => exact ⟨0, Nat.zero_le _, rfl, 0, rfl⟩
  case round =>
    obtain ⟨k, hk, rfl, n, rfl⟩ := hrel
    by_cases hlt : k < ps.length
    · obtain ⟨b, off, rfl, hc⟩ := HX.out (by omega)
      obtain ⟨b', off', rfl, hc'⟩ := HY.out (by omega)
      obtain ⟨c1, c2⟩ := hc k hlt
      obtain ⟨c3, c4⟩ := hc' k hlt
      clear hc hc'
      generalize ps[k].1 = z1 at *
      generalize ps[k].2 = z2 at *
      go_wp2
      go_quiet (fail)
      go_wp2
      go_roundw
      case rel => exact ⟨k + 1, by omega, by go_num, _, rfl⟩
      case measure => simp [intOf]; omega
    · obtain rfl : k = ps.length := by omega
      go_wp2
      go_ret
      exact ⟨rfl, below_drewP (Below.refl _ _)⟩
end Go.Proofs.YtdicoggpcobbpaaDoor
