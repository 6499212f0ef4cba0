/- slices.Clone at bytes. -/
import Derived.Test.YtfipkljefmfhmaaBytesLib
namespace Go.Proofs.Ytfipkljefmfhmaa
open Go.RowKit
set_option linter.unusedVariables false
set_option linter.unusedSimpArgs false

set_option maxHeartbeats 2000000 in
theorem sClone_any (B : Nat) (v : Value) (l : List UInt8) (w : World) (hB : B ≤ w.heap.size) (hl : l.length ≤ 140737488351232) (h1 : ByS B w v l) :
    Calls Try.prog 26 #[v] w (CloneP w l) := by
  obtain ⟨i0, hi, hz0, hz1, hz2⟩ := info_parts byte_info
  have q22 : ∀ (w : World) (a : Option Addr) (n c n' c' : Nat), (binOp .eql 22 (.slice a n c) (.slice none n' c')).run Try.prog w = .ok (.bool a.isNone) w := fun w a n c n' c' => Lib.run_eql_slice_nil w _ _ a n c n' c' Try.underlying22
  obtain ⟨ao, cap, rfl, h2, h3, h4⟩ := h1
  cases ao with
  | none =>
    have hl0 : l = [] := by
      by_cases hl : l = []
      · exact hl
      · obtain ⟨b, off, e, _⟩ := h4 hl; cases e
    subst hl0
    go_enter Try.func26, Try.ntmps26
    go_wp2
    go_ret
    exact ⟨_, rfl, World.ownsRow_nil _ _ _ _, Below.refl _ _⟩
  | some a =>
    have hc := Lib.hid (show ∀ j u, (bcells l)[j]? = some u → (w.alloc (.cells #[] 5)).cell? (a.add j) = some u by
      intro j u hu
      by_cases hl : l = []
      · subst hl; simp [bcells] at hu
      · obtain ⟨b, off, e, hb, hc⟩ := h4 hl
        obtain rfl := Option.some.inj e
        rw [addr_add]
        exact (World.cell?_alloc_lt w _ _ (show b < w.heap.size by omega)).trans (bcells_at hc j u hu))
    clear h4
    go_enter Try.func26, Try.ntmps26
    go_wp2_with (at_builtin; refine wpList_append_own _ rfl _ _ 22 rfl w.heap.size 5 i0 (.int .u8 0) 1 1 Try.underlying22 hi hz0 hz1 hz2 rfl (by omega) _ _ _ rfl (World.ownsRow_made w #[] 0 (Nat.le_refl _) (Nat.zero_le _) (by simp)) a l.length cap (bcells l) rfl (by rw [bcells_len]; omega) hc.out (bcells_one l) (by unfold maxLen; omega) (by omega) (by simp) ?_; intro v' w1 hown hgrow0 _)
    have hgrow : World.grownBy (w.alloc (.cells #[] 5)) w1 (some w.heap.size) := hgrow0
    go_ret
    rw [List.nil_append, Nat.zero_add] at hown
    exact ⟨v', rfl, hown, ((Below.refl _ w).alloc (Nat.le_refl _) _).grown hgrow (by simp) (by intro k hk; injection hk with hk; omega)⟩
end Go.Proofs.Ytfipkljefmfhmaa
