/- What colour.Nearest stands on: slices.Clone, Clip at gels; the sort of no gels; word.First of three. -/
import Derived.Test.YtpmiinamaofnnaaSortStable
import Derived.Test.YtpmiinamaofnnaaNearFn
import Derived.Test.YtpmiinamaofnnaaChkBook
import Derived.Lib.SliceRun
namespace Go.Proofs.Ytpmiinamaofnnaa
open Go.RowKit
open Go (info_parts)
set_option linter.unusedVariables false
set_option linter.unusedSimpArgs false

theorem gel_flat_len (l : List Gel) : (l.flatMap gelC).length = l.length * 5 := by
  induction l with
  | nil => rfl
  | cons a t ih => rw [List.flatMap_cons, List.length_append, ih, List.length_cons]; show 5 + _ = _; omega
theorem one_gelF (l : List Gel) : ∀ u ∈ l.flatMap gelC, u.oneCell' = true := by
  intro u hu
  obtain ⟨y, _, hy⟩ := List.mem_flatMap.1 hu
  simp [gelC] at hy
  rcases hy with rfl | rfl | rfl | rfl | rfl <;> rfl
theorem gelS_flat {B : Nat} {w : World} {b off : Nat} {l : List Gel} (h : ∀ i (h : i < l.length), GelC w b (off + i * 5) l[i]) : ∀ j u, (l.flatMap gelC)[j]? = some u → w.cell? ⟨b, off + j, none⟩ = some u := by
  intro j u hu
  have hj : j < l.length * 5 := by
    have := (List.getElem?_eq_some_iff.1 hu).1
    rwa [gel_flat_len] at this
  have hi : j / 5 < l.length := by omega
  have e : j = j / 5 * 5 + j % 5 := by omega
  have hm : j % 5 < 5 := Nat.mod_lt _ (by omega)
  rw [e, gel_flat l _ hi _ hm] at hu
  obtain ⟨h0, h1, h2, h3, h4⟩ := h _ hi
  rw [e]
  generalize j % 5 = m at *
  match m, hm with
  | 0, _ => simp [gelC] at hu; subst hu; simpa using h0
  | 1, _ => simp [gelC] at hu; subst hu; simpa [Nat.add_assoc] using h1
  | 2, _ => simp [gelC] at hu; subst hu; simpa [Nat.add_assoc] using h2
  | 3, _ => simp [gelC] at hu; subst hu; simpa [Nat.add_assoc] using h3
  | 4, _ => simp [gelC] at hu; subst hu; simpa [Nat.add_assoc] using h4
set_option maxHeartbeats 2000000 in
theorem gels_clone (v : Value) (l : List Gel) (w : World) (hl : l.length ≤ 1000) (h1 : GelS w.heap.size w v l) :
    Calls Try.prog 16 #[v] w fun e w' => ∃ v', e = .returned v' ∧ OwnG w.heap.size w' v' l ∧ Below w.heap.size w w' := by
  obtain ⟨i0, hi, hz0, hz1, hz2⟩ := info_parts infoOwnG
  have q22 : ∀ (w : World) (a : Option Addr) (n c n' c' : Nat), (binOp .eql 22 (.slice a n c) (.slice none n' c')).run Try.prog w = .ok (.bool a.isNone) w := fun w a n c n' c' => Lib.run_eql_slice_nil w _ _ a n c n' c' Try.underlying22
  obtain ⟨ao, cap, rfl, hcap, h4⟩ := h1
  cases ao with
  | none =>
    have hl0 : l = [] := by
      by_cases h : l = []
      · exact h
      · obtain ⟨b, off, e, _⟩ := h4 h; cases e
    subst hl0
    go_enter Try.func16, Try.ntmps16
    go_wp2
    go_ret
    exact ⟨_, rfl, World.ownsRow_nil _ _ _ _, Below.refl _ _⟩
  | some a =>
    have hc := Lib.hid (show ∀ j u, (l.flatMap gelC)[j]? = some u → (w.alloc (.cells #[] 29)).cell? (a.add j) = some u by
      intro j u hu
      have hn : l ≠ [] := by
        rintro rfl
        simp at hu
      obtain ⟨b, off, e, hb, hc⟩ := h4 hn
      obtain rfl := Option.some.inj e
      rw [addr_plus]
      exact (World.cell?_alloc_lt w _ _ (show b < w.heap.size by omega)).trans (gelS_flat (B := 0) hc j u hu))
    have HX := Lib.hid (gel_flat_len l)
    have HO := Lib.hid (one_gelF l)
    have HR := Lib.hid (show ∀ v' w1, w1.ownsRow w.heap.size 29 5 v' l.length (l.flatMap gelC) → OwnG w.heap.size w1 v' l from fun _ _ h => h)
    clear h4
    generalize l.length = n at *
    generalize l.flatMap gelC = xs at *
    go_enter Try.func16, Try.ntmps16
    go_wp2_with (at_builtin; refine wpList_append_own _ rfl _ _ 22 rfl w.heap.size 29 i0 (.agg #[.int .i64 0, .string ⟨#[]⟩, .int .i64 0, .int .i64 0, .int .i64 0]) 5 48 Try.underlying22 hi hz0 hz1 hz2 rfl (by omega) _ _ _ rfl (World.ownsRow_made w #[] 0 (Nat.le_refl _) (Nat.zero_le _) (by simp)) a n cap xs rfl HX.out hc.out HO.out (by unfold maxLen; omega) (by omega) (by simp) ?_; intro v' w1 hown hgrow0 _)
    have hgrow : World.grownBy (w.alloc (.cells #[] 29)) w1 (some w.heap.size) := hgrow0
    go_ret
    rw [List.nil_append, Nat.zero_add] at hown
    exact ⟨v', rfl, HR.out _ _ hown, ((Below.refl _ w).alloc (Nat.le_refl _) _).grown hgrow (by simp) (by intro k hk; injection hk with hk; omega)⟩
theorem gels_clip (ao : Option Addr) (n cap : Nat) (w : World) (hc : n ≤ cap) (hn : cap ≤ 9223372036854775807) :
    Calls Try.prog 21 #[.slice ao n cap] w fun e w' => e = .returned (.slice ao n n) ∧ w = w' := by
  have hn2 : n ≤ 9223372036854775807 := by omega
  clear hn
  go_enter Try.func21, Try.ntmps21
  go_wp2_with fail
  go_ret
  exact ⟨by simp, rfl⟩
theorem insSort_none (ao : Option Addr) (cap : Nat) (fv : Value) (w : World) :
    Calls Try.prog 37 #[.slice ao 0 cap, .int .i64 0, .int .i64 0, fv] w fun e w' => e = .returned (.tuple #[]) ∧ w = w' := by
  go_enter Try.func37, Try.ntmps37
  go_wp2_with fail
  go_loopw [8] (fun vi wr => vi = .int .i64 1 ∧ wr = w) (fun _ _ => 0)
  case atStart => exact ⟨by go_num, rfl⟩
  case round =>
    obtain ⟨rfl, rfl⟩ := hrel
    go_wp2_with fail
    go_end0
    exact ⟨rfl, rfl⟩
theorem stable_none (ao : Option Addr) (cap : Nat) (fv : Value) (w : World) :
    Calls Try.prog 31 #[.slice ao 0 cap, .int .i64 0, fv] w fun e w' => e = .returned (.tuple #[]) ∧ w = w' := by
  go_enter Try.func31, Try.ntmps31
  go_wp2_with fail
  go_loopw [7, 8] (fun va vb wr => va = .int .i64 0 ∧ vb = .int .i64 20 ∧ wr = w) (fun _ _ _ => 0)
  case atStart => exact ⟨rfl, rfl, rfl⟩
  case round =>
    obtain ⟨rfl, rfl, rfl⟩ := hrel
    go_wp2_with (go_at_call 37; refine (insSort_none _ _ _ _).mono ?_; rintro e w' ⟨rfl, rfl⟩)
    go_loopw [6] (fun vs wr' => vs = .int .i64 20 ∧ wr' = wr) (fun _ _ => 0)
    case atStart => exact ⟨rfl, rfl⟩
    case round =>
      obtain ⟨rfl, rfl⟩ := hrel
      go_wp2_with fail
      go_end0
      exact ⟨rfl, rfl⟩
theorem sort_none (ao : Option Addr) (cap : Nat) (fv : Value) (w : World) :
    Calls Try.prog 17 #[.slice ao 0 cap, fv] w fun e w' => e = .returned (.tuple #[]) ∧ w = w' := by
  go_enter Try.func17, Try.ntmps17
  go_wp2_with (go_at_call 31; refine (stable_none _ _ _ _).mono ?_; rintro e w' ⟨rfl, rfl⟩)
  go_end0
  exact ⟨rfl, rfl⟩
theorem sgm_list (l : List Gel) : sgm (fun i => l[i]?.getD default) 0 l.length = l := by
  apply List.ext_getElem
  · rw [sgm_len]; omega
  · intro i h1 h2
    rw [sgm_get]
    simp [h2]
theorem rowF_own {base : Nat} {w : World} {g cap : Nat} {l : List Gel} (h : OwnG base w (.slice (some ⟨g, 0, none⟩) l.length cap) l) : RowF w g l.length (fun i => l[i]?.getD default) ∧ base ≤ g ∧ l.length ≤ cap ∧ cap ≤ maxLen := by
  rcases h.2 with ⟨h', _⟩ | ⟨g', cap', cur, e1, hb, hg, h1, h2, h3, h4⟩
  · cases h'
  · simp only [Value.slice.injEq, Option.some.injEq, Addr.mk.injEq] at e1
    obtain ⟨⟨rfl, _⟩, _, rfl⟩ := e1
    refine ⟨⟨cur, hg, by rw [h3]; exact Nat.mul_le_mul_right _ h1, fun i hi j hj => ?_⟩, hb, h1, h2⟩
    have hl : i * 5 + j < l.length * 5 := by omega
    show cur[i * 5 + j]? = (gelC (l[i]?.getD default))[j]?
    rw [show (l[i]?.getD default) = l[i] by simp [hi], ← gel_flat l i hi j hj, ← h4, List.getElem?_take, if_pos hl, Array.getElem?_toList]
theorem gelS_row {w : World} {g n cap : Nat} {E : Nat → Gel} (h : RowF w g n E) (h1 : n ≤ cap) (h2 : cap ≤ maxLen) (m : Nat) (hm : m ≤ n) : GelS w.heap.size w (.slice (some ⟨g, 0, none⟩) m m) ((sgm E 0 n).take m) := by
  have hl : ((sgm E 0 n).take m).length = m := by rw [List.length_take, sgm_len]; omega
  refine ⟨some ⟨g, 0, none⟩, m, by rw [hl], ⟨by omega, by omega⟩, fun _ => ⟨g, 0, rfl, h.lt, fun i hi => ?_⟩⟩
  rw [hl] at hi
  have e : ((sgm E 0 n).take m)[i]'(by rw [hl]; exact hi) = E i := by rw [List.getElem_take, sgm_get, Nat.zero_add]
  rw [e]
  have k := h.elem (i := i) (by omega)
  rw [Nat.zero_add]
  exact ⟨k.c0, k.c1, k.c2, k.c3, k.c4⟩
theorem first3d (b : Nat) (x y z : Int) (W : World) (h1 : W.cell? ⟨b, 0, none⟩ = some (.int .i64 x)) (h2 : W.cell? ⟨b, 1, none⟩ = some (.int .i64 y)) (h3 : W.cell? ⟨b, 2, none⟩ = some (.int .i64 z)) :
    Calls Try.prog 11 #[.slice (some ⟨b, 0, none⟩) 3 3] W fun e w' => e = .returned (.int .i64 (firstF [x, y, z])) ∧ W = w' := by
  refine first_any b 0 3 [x, y, z] W (by simp) ?_
  intro i h
  match i, h with
  | 0, _ => simpa using h1
  | 1, _ => simpa using h2
  | 2, _ => simpa using h3
theorem firstF3_zero {a b c : Int} (h : firstF [a, b, c] = 0) : a = 0 ∧ b = 0 ∧ c = 0 := by
  by_cases ha : a = 0 <;> by_cases hb : b = 0 <;> by_cases hc : c = 0 <;> simp_all [firstF]
end Go.Proofs.Ytpmiinamaofnnaa
