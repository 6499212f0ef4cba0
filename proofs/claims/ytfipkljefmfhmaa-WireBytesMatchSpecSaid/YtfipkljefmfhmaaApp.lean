/- append of bytes to a row of the call's own, whatever the source; at a plain list of operations and at a step of a region that draws. -/
import Derived.Test.YtfipkljefmfhmaaCheckP
import Derived.Lib.AppendStr
import Derived.RegionTactic
namespace Go.Proofs.Ytfipkljefmfhmaa
open Go.RowKit
set_option linter.unusedVariables false
set_option linter.unusedSimpArgs false

theorem app_run {B base : Nat} {w : World} {v u : Value} {l m : List UInt8} (ho : w.ownsRow base 5 1 v l.length (bcells l)) (hs : ByS B w u m) (hl : l.length + m.length ≤ 100000) (hb : base ≤ w.heap.size) :
    ∃ v' w', (Builtin.append_ #[22, 22] 22 #[v, u]).run Try.prog w = .ok v' w' ∧ w'.ownsRow base 5 1 v' (l ++ m).length (bcells (l ++ m)) ∧ w.grownBy w' v.ownBlock := by
  obtain ⟨i0, hi, hz0, hz1, hz2⟩ := info_parts byte_info
  obtain ⟨ao, cap, rfl, c1, c2, c3⟩ := hs
  cases ao with
  | none =>
    have hm : m = [] := by
      by_cases h : m = []
      · exact h
      · obtain ⟨b, off, e, _⟩ := c3 h; cases e
    subst hm
    exact ⟨v, w, app_none ho cap, by simpa using ho, ⟨rfl, rfl, rfl, Nat.le_refl _, fun _ _ _ => rfl⟩⟩
  | some a =>
    have hca : ∀ i u, (bcells m)[i]? = some u → w.cell? (a.add i) = some u := by
      intro i u hu
      by_cases hx : m = []
      · subst hx; simp [bcells] at hu
      · obtain ⟨b, off, e, hb, hc⟩ := c3 hx
        obtain rfl := Option.some.inj e
        rw [addr_add]
        exact bcells_at hc i u hu
    obtain ⟨v', w', hr, h1, h2, _⟩ := run_append_own (P := Try.prog) w base 22 22 5 i0 (.int .u8 0) 1 1 Try.underlying22 hi hz0 hz1 hz2 rfl (by omega) v l.length (bcells l) ho a m.length cap (bcells m) (by rw [bcells_len]; omega) hca (bcells_one _) (by unfold maxLen; omega) (by omega) hb
    refine ⟨v', w', hr, ?_, h2⟩
    rw [bcells_append, List.length_append]
    exact h1

theorem wp_app {w : World} {o : Oper} {a : Act} {K : Act → World → Prop} {Q : Exit → Act → World → Prop} (s x : Operand)
    (hop : o.op = .call { callee := .builtin .append, args := #[s, x], argTypes := #[22, 22] }) (hty : o.type = 22)
    (B base : Nat) (v u : Value) (l m : List UInt8) (hs : a.eval s = v) (hx : a.eval x = u)
    (ho : w.ownsRow base 5 1 v l.length (bcells l)) (hsrc : ByS B w u m) (hl : l.length + m.length ≤ 100000) (hb : base ≤ w.heap.size)
    (h : ∀ v' w', w'.ownsRow base 5 1 v' (l ++ m).length (bcells (l ++ m)) → w.grownBy w' v.ownBlock → K (a.put o.dst v') w') : o.wp Try.prog a w K Q := by
  obtain ⟨v', w', hr, h1, h2⟩ := app_run ho hsrc hl hb
  exact Lib.wp_append_run w s x _ _ hop v u hs hx v' w' (by rw [hty]; exact hr) (h v' w' h1 h2)
theorem wpList_app {w : World} {ops : Array Oper} {rest : List Oper} {o : Oper} {a : Act} {Q : Exit → Act → World → Prop} (hgd : o.guard = none) (s x : Operand)
    (hop : o.op = .call { callee := .builtin .append, args := #[s, x], argTypes := #[22, 22] }) (hty : o.type = 22)
    (B base : Nat) (v u : Value) (l m : List UInt8) (hs : a.eval s = v) (hx : a.eval x = u)
    (ho : w.ownsRow base 5 1 v l.length (bcells l)) (hsrc : ByS B w u m) (hl : l.length + m.length ≤ 100000) (hb : base ≤ w.heap.size)
    (h : ∀ v' w', w'.ownsRow base 5 1 v' (l ++ m).length (bcells (l ++ m)) → w.grownBy w' v.ownBlock → wpList Try.prog ops Q rest (a.put o.dst v') w') : wpList Try.prog ops Q (o :: rest) a w :=
  wpList_plain hgd fun _ hK => wp_app s x hop hty B base v u l m hs hx ho hsrc hl hb fun v' w' h1 h2 => hK _ _ (h v' w' h1 h2)
theorem step_app {w : World} {ops : Array Oper} {o : Oper} {a : Act} {K : Act → World → Prop} {Q : Exit → Act → World → Prop} {E : Prop} (hgd : o.guard = none) (s x : Operand)
    (hop : o.op = .call { callee := .builtin .append, args := #[s, x], argTypes := #[22, 22] }) (hty : o.type = 22)
    (B base : Nat) (v u : Value) (l m : List UInt8) (hs : a.eval s = v) (hx : a.eval x = u)
    (ho : w.ownsRow base 5 1 v l.length (bcells l)) (hsrc : ByS B w u m) (hl : l.length + m.length ≤ 100000) (hb : base ≤ w.heap.size)
    (h : ∀ v' w', w'.ownsRow base 5 1 v' (l ++ m).length (bcells (l ++ m)) → w.grownBy w' v.ownBlock → K (a.put o.dst v') w') :
    if Region.wanted o (yielded ops a.tmps) = true then Oper.wp Try.prog o a w K Q else E := by
  rw [if_pos (by simp [Region.wanted, hgd])]
  exact wp_app s x hop hty B base v u l m hs hx ho hsrc hl hb h
end Go.Proofs.Ytfipkljefmfhmaa
