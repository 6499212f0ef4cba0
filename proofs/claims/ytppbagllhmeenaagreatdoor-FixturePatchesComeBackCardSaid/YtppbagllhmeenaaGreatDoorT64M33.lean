/- An append of a unit to an own row as one step. (printed by wip/gen/gen_patchread.py out of XGelOwn) -/
import Derived.Test.YtppbagllhmeenaaGreatDoorT64M32
import Derived.OwnWalk
import Derived.Laws.AppendOwn
import Derived.RegionTactic
import Derived.Lib.AppendZeros

namespace Go.Proofs.YtppbagllhmeenaaGreatDoor
open Go.RowKit
open Go (info_parts)
set_option linter.unusedVariables false
set_option linter.unusedSimpArgs false

theorem OwnU.nil (base : Nat) (w : World) : OwnU base w (.slice none 0 0) [] := World.ownsRow_nil w base _ _
theorem OwnU.keeps {B base : Nat} {a w w' : World} {v : Value} {l : List Unt} (ho : OwnU base w v l) (h : Below B a w) (g : w.grownBy w' v.ownBlock) (hB : B ≤ base) (hs : B ≤ w.heap.size) : Below B a w' :=
  h.grown g hs (fun k hk => by have := (World.ownsRow.lt ho k hk).1; omega)
theorem OwnU.drew {base : Nat} {w : World} {v : Value} {l : List Unt} (h : OwnU base w v l) : OwnU base w.drew v l := World.ownsRow.drew h
theorem infoOwnUt : (Tryz.prog.info? 51).map (fun i => (i.zero, i.size, i.bytes)) = some (some (.agg #[.int .i64 0, .string ⟨#[]⟩, .int .i64 0, .int .i64 0]), 4, 40) := by kernel_rfl
theorem step_unt {w : World} {ops : Array Oper} {o : Oper} {a : Act} {K : Act → World → Prop} {Q : Exit → Act → World → Prop} {E : Prop} (hgd : o.guard = none) (s x : Operand)
    (hop : o.op = .call { callee := .builtin .append, args := #[s, x], argTypes := #[23, 23] }) (hty : o.type = 23)
    (base : Nat) (v : Value) (l : List Unt) (y : Unt) (ad : Addr) (hs : a.eval s = v) (hx : a.eval x = .slice (some ad) 1 1)
    (ho : OwnU base w v l) (hc : ∀ (j : Nat) u, (untC y)[j]? = some u → w.cell? (ad.add j) = some u) (hl : l.length ≤ 10000000) (hb : base ≤ w.heap.size)
    (h : ∀ v' w', OwnU base w' v' (l ++ [y]) → w.grownBy w' v.ownBlock → K (a.put o.dst v') w') :
    if Region.wanted o (yielded ops a.tmps) = true then Oper.wp Tryz.prog o a w K Q else E := by
  rw [if_pos (by simp [Region.wanted, hgd])]
  obtain ⟨i0, hi, hz0, hz1, hz2⟩ := info_parts infoOwnUt
  obtain ⟨v', w', hr, h1, h2, _⟩ := run_append_own (P := Tryz.prog) w base 23 23 51 i0 (.agg #[.int .i64 0, .string ⟨#[]⟩, .int .i64 0, .int .i64 0]) 4 40 Tryz.underlying23 hi hz0 hz1 hz2 rfl (by decide) v l.length (l.flatMap untC) ho ad 1 1 (untC y) rfl hc (by intro u hu; simp [untC] at hu; rcases hu with rfl | rfl | rfl | rfl <;> rfl) (by unfold maxLen; omega) (by omega) hb
  refine Lib.wp_append_run w s x _ _ hop v _ hs hx v' w' (by rw [hty]; exact hr) (h v' w' ?_ h2)
  unfold OwnU
  rw [List.flatMap_append, List.length_append]
  simpa using h1
theorem ownU_new (w : World) (y : Unt) (T : TypeId) : ∀ (j : Nat) u, (untC y)[j]? = some u → (w.alloc (.cells #[.int .i64 y.num, .string y.prof, .int .i64 y.univ, .int .i64 y.addr] T)).cell? ((⟨w.heap.size, 0, none⟩ : Addr).add j) = some u := by
  intro j u hu
  match j, hu with
  | 0, hu => simp [untC] at hu; subst hu; simp [Addr.add, go_sem]
  | 1, hu => simp [untC] at hu; subst hu; simp [Addr.add, go_sem]
  | 2, hu => simp [untC] at hu; subst hu; simp [Addr.add, go_sem]
  | 3, hu => simp [untC] at hu; subst hu; simp [Addr.add, go_sem]
  | j + 4, hu => simp [untC] at hu
theorem first2c (b : Nat) (x y : Int) (W : World) (h1 : W.cell? ⟨b, 0, none⟩ = some (.int .i64 x)) (h2 : W.cell? ⟨b, 1, none⟩ = some (.int .i64 y)) :
    Calls Tryz.prog 15 #[.slice (some ⟨b, 0, none⟩) 2 2] W fun e w' => e = .returned (.int .i64 (if x = 0 then y else x)) ∧ W = w' := by
  refine (first_any b 0 2 [x, y] W (by simp) (by
    intro i hi
    have hi2 : i < 2 := hi
    match i, hi2 with
    | 0, _ => simpa using h1
    | 1, _ => simpa using h2)).mono ?_
  rintro e w' ⟨rfl, rfl⟩
  refine ⟨?_, rfl⟩
  simp only [firstF]
  congr 2
  split
  · split <;> omega
  · rfl
theorem first2_00 (b : Nat) (W : World) (h1 : W.cell? ⟨b, 0, none⟩ = some (.int .i64 0)) (h2 : W.cell? ⟨b, 1, none⟩ = some (.int .i64 0)) :
    Calls Tryz.prog 15 #[.slice (some ⟨b, 0, none⟩) 2 2] W fun e w' => e = .returned (.int .i64 0) ∧ W = w' := by
  refine (first2c b 0 0 W h1 h2).mono ?_
  rintro e w' ⟨rfl, rfl⟩
  exact ⟨rfl, rfl⟩
end Go.Proofs.YtppbagllhmeenaaGreatDoor
