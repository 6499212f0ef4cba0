/- Own rows of gels, an append of one as one step. (printed by wip/gen/gen_gelown.py out of XSetOwn) -/
import Derived.Test.YtpmiinamaofnnaaGel
import Derived.Test.YtpmiinamaofnnaaCellRows
import Derived.OwnWalk
import Derived.Laws.AppendOwn
import Derived.RegionTactic
import Derived.Lib.AppendZeros
namespace Go.Proofs.Ytpmiinamaofnnaa
open Go.RowKit
open Go (info_parts)
set_option linter.unusedVariables false
set_option linter.unusedSimpArgs false

/-- the cells of a gel -/
def gelC (y : Gel) : List Value := [.int .i64 y.n, .string y.name, .int .i64 y.r, .int .i64 y.g, .int .i64 y.b]
def OwnG (base : Nat) (w : World) (v : Value) (l : List Gel) : Prop := w.ownsRow base 29 5 v l.length (l.flatMap gelC)
theorem OwnG.nil (base : Nat) (w : World) : OwnG base w (.slice none 0 0) [] := World.ownsRow_nil w base _ _
theorem OwnG.shape {base : Nat} {w : World} {v : Value} {l : List Gel} (h : OwnG base w v l) : ∃ ao cap, v = .slice ao l.length cap := by
  rcases h.2 with h' | ⟨g, cap, cur, e1, _⟩
  · exact ⟨none, 0, by rw [h'.1, h'.2]⟩
  · exact ⟨_, cap, e1⟩
theorem OwnG.below {base : Nat} {w w' : World} {v : Value} {l : List Gel} (h : OwnG base w v l) (hb : Below w.heap.size w w') : OwnG base w' v l := by
  refine ⟨h.1, ?_⟩
  rcases h.2 with h' | ⟨g, cap, cur, e1, h1, h2, h3⟩
  · exact .inl h'
  · exact .inr ⟨g, cap, cur, e1, h1, (hb.block g (World.ownsRow.lt h g (by rw [e1]; rfl)).2).trans h2, h3⟩
theorem OwnG.keeps {B base : Nat} {a w w' : World} {v : Value} {l : List Gel} (ho : OwnG base w v l) (h : Below B a w) (g : w.grownBy w' v.ownBlock) (hB : B ≤ base) (hs : B ≤ w.heap.size) : Below B a w' :=
  h.grown g hs (fun k hk => by have := (World.ownsRow.lt ho k hk).1; omega)
theorem infoOwnG : (Try.prog.info? 29).map (fun i => (i.zero, i.size, i.bytes)) = some (some (.agg #[.int .i64 0, .string ⟨#[]⟩, .int .i64 0, .int .i64 0, .int .i64 0]), 5, 48) := by kernel_rfl
theorem wpList_ownG {w : World} {ops : Array Oper} {rest : List Oper} {o : Oper} {a : Act} {Q : Exit → Act → World → Prop} (hgd : o.guard = none) (s x : Operand)
    (hop : o.op = .call { callee := .builtin .append, args := #[s, x], argTypes := #[22, 22] })
    (base c : Nat) (v : Value) (l : List Gel) (y : Gel) (ad : Addr) (hs : a.eval s = v) (hx : a.eval x = .slice (some ad) 1 c)
    (ho : OwnG base w v l) (hc : ∀ (j : Nat) u, (gelC y)[j]? = some u → w.cell? (ad.add j) = some u) (hl : l.length ≤ 10000000) (hb : base ≤ w.heap.size)
    (h : ∀ v' w', OwnG base w' v' (l ++ [y]) → w.grownBy w' v.ownBlock → wpList Try.prog ops Q rest (a.put o.dst v') w') : wpList Try.prog ops Q (o :: rest) a w := by
  obtain ⟨i0, hi, hz0, hz1, hz2⟩ := info_parts infoOwnG
  refine wpList_append_own w hgd s x 22 hop base 29 i0 (.agg #[.int .i64 0, .string ⟨#[]⟩, .int .i64 0, .int .i64 0, .int .i64 0]) 5 48 Try.underlying22 hi hz0 hz1 hz2 rfl (by decide) v l.length (l.flatMap gelC) hs ho ad 1 c (gelC y) hx rfl hc (by intro u hu; simp [gelC] at hu; rcases hu with rfl | rfl | rfl | rfl | rfl <;> rfl) (by unfold maxLen; omega) (by omega) hb ?_
  intro v' w' h1 h2 _
  refine h v' w' ?_ h2
  unfold OwnG
  rw [List.flatMap_append, List.length_append]
  simpa using h1
theorem ownG_new (w : World) (y : Gel) (T : TypeId) : ∀ (j : Nat) u, (gelC y)[j]? = some u → (w.alloc (.cells #[.int .i64 y.n, .string y.name, .int .i64 y.r, .int .i64 y.g, .int .i64 y.b] T)).cell? ((⟨w.heap.size, 0, none⟩ : Addr).add j) = some u := by
  intro j u hu
  match j, hu with
  | 0, hu => simp [gelC] at hu; subst hu; simp [Addr.add, go_sem]
  | 1, hu => simp [gelC] at hu; subst hu; simp [Addr.add, go_sem]
  | 2, hu => simp [gelC] at hu; subst hu; simp [Addr.add, go_sem]
  | 3, hu => simp [gelC] at hu; subst hu; simp [Addr.add, go_sem]
  | 4, hu => simp [gelC] at hu; subst hu; simp [Addr.add, go_sem]
  | j + 5, hu => simp [gelC] at hu
theorem step_gel {w : World} {ops : Array Oper} {o : Oper} {a : Act} {K : Act → World → Prop} {Q : Exit → Act → World → Prop} {E : Prop} (hgd : o.guard = none) (s x : Operand)
    (hop : o.op = .call { callee := .builtin .append, args := #[s, x], argTypes := #[22, 22] }) (hty : o.type = 22)
    (base : Nat) (v : Value) (l : List Gel) (y : Gel) (ad : Addr) (hs : a.eval s = v) (hx : a.eval x = .slice (some ad) 1 1)
    (ho : OwnG base w v l) (hc : ∀ (j : Nat) u, (gelC y)[j]? = some u → w.cell? (ad.add j) = some u) (hl : l.length ≤ 10000000) (hb : base ≤ w.heap.size)
    (h : ∀ v' w', OwnG base w' v' (l ++ [y]) → w.grownBy w' v.ownBlock → K (a.put o.dst v') w') :
    if Region.wanted o (yielded ops a.tmps) = true then Oper.wp Try.prog o a w K Q else E := by
  rw [if_pos (by simp [Region.wanted, hgd])]
  obtain ⟨i0, hi, hz0, hz1, hz2⟩ := info_parts infoOwnG
  obtain ⟨v', w', hr, h1, h2, _⟩ := run_append_own (P := Try.prog) w base 22 22 29 i0 (.agg #[.int .i64 0, .string ⟨#[]⟩, .int .i64 0, .int .i64 0, .int .i64 0]) 5 48 Try.underlying22 hi hz0 hz1 hz2 rfl (by decide) v l.length (l.flatMap gelC) ho ad 1 1 (gelC y) rfl hc (by intro u hu; simp [gelC] at hu; rcases hu with rfl | rfl | rfl | rfl | rfl <;> rfl) (by unfold maxLen; omega) (by omega) hb
  refine Lib.wp_append_run w s x _ _ hop v _ hs hx v' w' (by rw [hty]; exact hr) (h v' w' ?_ h2)
  unfold OwnG
  rw [List.flatMap_append, List.length_append]
  simpa using h1
theorem OwnG.drew {base : Nat} {w : World} {v : Value} {l : List Gel} (h : OwnG base w v l) : OwnG base w.drew v l := World.ownsRow.drew h
theorem gel_flat (l : List Gel) (i : Nat) (h : i < l.length) (j : Nat) (hj : j < 5) : (l.flatMap gelC)[i * 5 + j]? = (gelC l[i])[j]? := by
  induction l generalizing i with
  | nil => simp at h
  | cons a l ih =>
    simp only [List.flatMap_cons]
    match i with
    | 0 =>
      rw [List.getElem?_append_left (by simp [gelC]; omega)]
      simp
    | i + 1 =>
      have := ih i (by simpa using h)
      rw [List.getElem?_append_right (by simp [gelC]; omega)]
      rw [show (i + 1) * 5 + j - (gelC a).length = i * 5 + j by simp [gelC]; omega]
      simpa using this
theorem OwnG.gelS {base : Nat} {w : World} {v : Value} {l : List Gel} (h : OwnG base w v l) : GelS w.heap.size w v l := by
  obtain ⟨ao, cap, rfl, h1, h2, h3⟩ := CellsS.of_own h
  refine ⟨ao, cap, rfl, ⟨h1, h2⟩, fun hl => ?_⟩
  obtain ⟨b, off, e, hb, hc⟩ := h3 (by cases l with | nil => exact absurd rfl hl | cons a t => simp)
  refine ⟨b, off, e, hb, fun i hi => ?_⟩
  have c := fun j (hj : j < 5) u (hu : (gelC l[i])[j]? = some u) => hc (i * 5 + j) u ((gel_flat l i hi j hj).trans hu)
  refine ⟨?_, ?_, ?_, ?_, ?_⟩
  · have := c 0 (by decide) (.int .i64 l[i].n) rfl; simpa [Nat.add_assoc] using this
  · have := c 1 (by decide) (.string l[i].name) rfl; simpa [Nat.add_assoc] using this
  · have := c 2 (by decide) (.int .i64 l[i].r) rfl; simpa [Nat.add_assoc] using this
  · have := c 3 (by decide) (.int .i64 l[i].g) rfl; simpa [Nat.add_assoc] using this
  · have := c 4 (by decide) (.int .i64 l[i].b) rfl; simpa [Nat.add_assoc] using this
end Go.Proofs.Ytpmiinamaofnnaa
