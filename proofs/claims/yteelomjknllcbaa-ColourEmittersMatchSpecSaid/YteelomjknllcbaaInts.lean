/- Slices of whole numbers: as arguments, as own rows; slices.Equal; the test of levels. -/
import Derived.Test.YteelomjknllcbaaCSums
import Derived.ProofKit
import Derived.OpenShut
import Derived.Below
import Derived.Lib.AppendZeros
import Derived.RegionTactic
import Derived.Deep.QuietTactic
import Derived.BigQuiet
namespace Go.Proofs.Yteelomjknllcbaa
open Go.ChangeShapes Go.WideShapes Go.RowKit
set_option linter.unusedVariables false
set_option linter.unusedSimpArgs false

/-- a slice of these numbers, its cells below block B -/
def IntS (B : Nat) (w : World) (v : Value) (zs : List Int) : Prop :=
  ∃ ao cap, v = .slice ao zs.length cap ∧ zs.length ≤ cap ∧ cap ≤ 9223372036854775807 ∧ (0 < zs.length → ∃ b off, ao = some ⟨b, off, none⟩ ∧ b < B ∧ RowAt .i64 w b off zs)
theorem IntS.below {B : Nat} {w w' : World} {v : Value} {zs : List Int} (h : IntS B w v zs) (hb : Below B w w') : IntS B w' v zs := by
  obtain ⟨ao, cap, rfl, h1, h2, h3⟩ := h
  refine ⟨ao, cap, rfl, h1, h2, fun hl => ?_⟩
  obtain ⟨b, off, rfl, h4, h5⟩ := h3 hl
  exact ⟨b, off, rfl, h4, fun i hi => (hb.cell (p := ⟨b, off + i, none⟩) h4).trans (h5 i hi)⟩
theorem IntS.more {B B' : Nat} {w : World} {v : Value} {zs : List Int} (h : IntS B w v zs) (hB : B ≤ B') : IntS B' w v zs := by
  obtain ⟨ao, cap, rfl, h1, h2, h3⟩ := h
  refine ⟨ao, cap, rfl, h1, h2, fun hl => ?_⟩
  obtain ⟨b, off, rfl, h4, h5⟩ := h3 hl
  exact ⟨b, off, rfl, by omega, h5⟩
def icells (zs : List Int) : List Value := zs.map (Value.int .i64)
theorem icells_len (zs : List Int) : (icells zs).length = zs.length := by simp [icells]
theorem icells_snoc (zs : List Int) (z : Int) : icells (zs ++ [z]) = icells zs ++ [.int .i64 z] := by simp [icells]
/-- an own row of numbers -/
def OwnI (base : Nat) (w : World) (v : Value) (zs : List Int) : Prop := w.ownsRow base 3 1 v zs.length (icells zs)
theorem OwnI.ints {base : Nat} {w : World} {v : Value} {zs : List Int} (h : OwnI base w v zs) : IntS w.heap.size w v zs := by
  rcases h.2 with ⟨rfl, h0⟩ | ⟨g, cap, cur, rfl, hb, hg, h1, h2, h3, h4⟩
  · have : zs = [] := List.eq_nil_of_length_eq_zero h0
    subst this
    exact ⟨none, 0, rfl, Nat.le_refl _, by omega, fun h => absurd h (Nat.lt_irrefl _)⟩
  · refine ⟨some ⟨g, 0, none⟩, cap, rfl, h1, by unfold maxLen at h2; omega, fun _ => ⟨g, 0, rfl, (Array.getElem?_eq_some_iff.1 hg).1, fun i hi => ?_⟩⟩
    have := h.cells (g := g) rfl i (.int .i64 zs[i]) (by simp [icells, hi])
    have e : (⟨g, 0, none⟩ : Addr).add i = ⟨g, 0 + i, none⟩ := by unfold Addr.add; split <;> simp_all
    rw [e] at this
    exact this
theorem OwnI.nil (w : World) (base : Nat) : OwnI base w (.slice none 0 0) [] := World.ownsRow_nil _ _ _ _
theorem OwnI.alloc {base : Nat} {w : World} {v : Value} {zs : List Int} (h : OwnI base w v zs) (o : Obj) : OwnI base (w.alloc o) v zs := World.ownsRow.alloc h o
theorem OwnI.shape {base : Nat} {w : World} {v : Value} {zs : List Int} (h : OwnI base w v zs) : ∃ ao cap, v = .slice ao zs.length cap := own_shape1 h
theorem OwnI.below {base : Nat} {w w' : World} {v : Value} {zs : List Int} (h : OwnI base w v zs) (hb : Below w.heap.size w w') : OwnI base w' v zs := by
  refine ⟨h.1, ?_⟩
  rcases h.2 with h' | ⟨g, cap, cur, rfl, h1, h2, h3⟩
  · exact .inl h'
  · exact .inr ⟨g, cap, cur, rfl, h1, (hb.block g (World.ownsRow.lt h g rfl).2).trans h2, h3⟩

theorem wp_int {w : World} {o : Oper} {a : Act} {K : Act → World → Prop} {Q : Exit → Act → World → Prop} (s x : Operand)
    (hop : o.op = .call { callee := .builtin .append, args := #[s, x], argTypes := #[36, 36] })
    (base c : Nat) (v : Value) (zs : List Int) (z : Int) (ad : Addr) (hs : a.eval s = v) (hx : a.eval x = .slice (some ad) 1 c)
    (ho : OwnI base w v zs) (hc : ∀ (j : Nat) u, [Value.int .i64 z][j]? = some u → w.cell? (ad.add j) = some u) (hl : zs.length ≤ 100000) (hb : base ≤ w.heap.size)
    (h : ∀ v' w', OwnI base w' v' (zs ++ [z]) → w.grownBy w' v.ownBlock → K (a.put o.dst v') w') : o.wp Try.prog a w K Q := by
  obtain ⟨i0, hi, hz0, hz1, hz2⟩ := info_parts int_info
  refine wp_append_own w s x 36 hop base 3 i0 (.int .i64 0) 1 8 Try.underlying36 hi hz0 hz1 hz2 rfl (by decide) v zs.length (icells zs) hs ho ad 1 c [.int .i64 z] hx rfl hc (int_one z) (by unfold maxLen; omega) (by omega) hb ?_
  intro v' w' h1 h2 _
  refine h v' w' ?_ h2
  unfold OwnI
  rw [icells_snoc, List.length_append]
  exact h1
theorem wpList_int {w : World} {ops : Array Oper} {rest : List Oper} {o : Oper} {a : Act} {Q : Exit → Act → World → Prop} (hgd : o.guard = none) (s x : Operand)
    (hop : o.op = .call { callee := .builtin .append, args := #[s, x], argTypes := #[36, 36] })
    (base c : Nat) (v : Value) (zs : List Int) (z : Int) (ad : Addr) (hs : a.eval s = v) (hx : a.eval x = .slice (some ad) 1 c)
    (ho : OwnI base w v zs) (hc : ∀ (j : Nat) u, [Value.int .i64 z][j]? = some u → w.cell? (ad.add j) = some u) (hl : zs.length ≤ 100000) (hb : base ≤ w.heap.size)
    (h : ∀ v' w', OwnI base w' v' (zs ++ [z]) → w.grownBy w' v.ownBlock → wpList Try.prog ops Q rest (a.put o.dst v') w') : wpList Try.prog ops Q (o :: rest) a w :=
  wpList_plain hgd fun _ hK => wp_int s x hop base c v zs z ad hs hx ho hc hl hb fun v' w' h1 h2 => hK _ _ (h v' w' h1 h2)
theorem step_int {w : World} {ops : Array Oper} {o : Oper} {a : Act} {K : Act → World → Prop} {Q : Exit → Act → World → Prop} {E : Prop} (hgd : o.guard = none) (s x : Operand)
    (hop : o.op = .call { callee := .builtin .append, args := #[s, x], argTypes := #[36, 36] })
    (base c : Nat) (v : Value) (zs : List Int) (z : Int) (ad : Addr) (hs : a.eval s = v) (hx : a.eval x = .slice (some ad) 1 c)
    (ho : OwnI base w v zs) (hc : ∀ (j : Nat) u, [Value.int .i64 z][j]? = some u → w.cell? (ad.add j) = some u) (hl : zs.length ≤ 100000) (hb : base ≤ w.heap.size)
    (h : ∀ v' w', OwnI base w' v' (zs ++ [z]) → w.grownBy w' v.ownBlock → K (a.put o.dst v') w') :
    if Region.wanted o (yielded ops a.tmps) = true then Oper.wp Try.prog o a w K Q else E := by
  rw [if_pos (by simp [Region.wanted, hgd])]
  exact wp_int s x hop base c v zs z ad hs hx ho hc hl hb h

section
variable {H : Type} {enc : TypeId × Value → H} {w : World} {held : Bool}
set_option maxRecDepth 100000 in
theorem read_ints {fuel : Nat} {cs : List Value} {x : DataW H × List MemPlace} (h : DataW.trod enc Try.prog w 0 (fun _ => true) held fuel 36 cs = some x) :
    ∃ v zs, cs = [v] ∧ IntS w.heap.size w v zs := by
  rcases open_ints Try.underlying36 Try.underlying3 (by kernel_rfl) h with ⟨rfl, _⟩ | ⟨a, len, cap, zs, rfl, _, hl, hm, hz, _, hcell, hwz⟩
  · exact ⟨_, [], rfl, none, 0, rfl, Nat.le_refl _, by omega, fun h => absurd h (Nat.lt_irrefl _)⟩
  · simp only [if_true] at hz
    have hz' : zs.length = cap := by simpa using hz
    have hlen : (zs.take len).length = len := by simp; omega
    refine ⟨_, zs.take len, rfl, some a, cap, by rw [hlen], by omega, by unfold maxLen at hm; omega, fun h0 => ?_⟩
    obtain ⟨b, off, rfl, hc⟩ := ints_at hcell (by omega)
    have hb : b < w.heap.size := World.block_lt_of_cell? w _ (hc 0 (by omega))
    refine ⟨b, off, rfl, hb, fun i hi => ?_⟩
    have h1 := hc i (by omega)
    rw [h1]
    simp only [List.getElem_take]
    rw [List.getD_eq_getElem?_getD, List.getElem?_eq_getElem (by omega)]
    rfl
set_option maxRecDepth 100000 in
theorem open_intS {r : Reach} {b0 : Nat} {v : Value} {d : DataW H} {p : List MemPlace} (_hv : Value.okWide Try.prog w r b0 36 v) (h : DataW.Trod enc Try.prog w 0 (fun _ => true) held 36 v d p) :
    ∃ a : Value, v = a ∧ ∃ zs, IntS w.heap.size w a zs := by
  obtain ⟨ao, len, cap, rfl⟩ := okWide_slice Try.underlying36 _hv
  obtain ⟨fuel, hf⟩ := h
  obtain ⟨v, l, e, hl⟩ := read_ints hf
  simp [Value.cells] at e
  subst e
  exact ⟨_, rfl, l, hl⟩
end

set_option maxHeartbeats 1000000 in
theorem equalI (B C : Nat) (v u : Value) (zs : List Int) (w : World) (hv : IntS B w v zs) (hu : IntS C w u zs) :
    Calls Try.prog 24 #[v, u] w fun e w' => e = .returned (.bool true) ∧ ∃ n, w' = w.drewN n := by
  obtain ⟨ao, cap, rfl, h1, h2, h3⟩ := hv
  obtain ⟨bo, cap2, rfl, h4, h5, h6⟩ := hu
  have HX := Lib.hid h3
  have HY := Lib.hid h6
  clear h3 h6
  go_enter Try.func24, Try.ntmps24
  go_wp2
  go_loopw [13] (fun i wr => ∃ k : Nat, k ≤ zs.length ∧ i = .int .i64 k ∧ ∃ n, wr = w.drewN n) (fun i _ => zs.length - (intOf i).toNat)
  case atStart => exact ⟨0, Nat.zero_le _, rfl, 0, rfl⟩
  case round =>
    obtain ⟨k, hk, rfl, n, rfl⟩ := hrel
    by_cases hlt : k < zs.length
    · obtain ⟨b, off, rfl, _, hc⟩ := HX.out (by omega)
      obtain ⟨b', off', rfl, _, hc'⟩ := HY.out (by omega)
      have c1 := hc k hlt
      have c2 := hc' k hlt
      clear hc hc'
      generalize zs[k] = z at *
      go_wp2
      go_quiet (fail)
      go_wp2
      go_roundw
      case rel => exact ⟨k + 1, by omega, by go_num, _, rfl⟩
      case measure => simp [intOf]; omega
    · obtain rfl : k = zs.length := by omega
      go_wp2
      go_ret
      exact ⟨rfl, _, rfl⟩

theorem levelsS_yes (B : Nat) (v : Value) (zs : List Int) (w : World) (hs : IntS B w v zs) (hr : Levels zs) :
    Calls Try.prog 88 #[v] w fun e w' => e = .returned (.int .i64 0) ∧ w = w' := by
  obtain ⟨ao, cap, rfl, h1, h2, h3⟩ := hs
  by_cases h0 : zs.length = 0
  · rw [h0]
    go_enter Try.func88, Try.ntmps88
    go_wp2
    refine wp_loop_rounds 1 ?_; rw [rounds_succ]
    go_wp2
    go_ret
    exact ⟨rfl, rfl⟩
  · obtain ⟨b, off, rfl, _, hc⟩ := h3 (by omega)
    exact levels_yes b off cap zs w (by omega) hc hr
theorem levelsS_no (B : Nat) (v : Value) (zs : List Int) (w : World) (hs : IntS B w v zs) (j : Nat) (hj : j < zs.length) (hr : ∀ i (h : i < zs.length), i < j → 0 ≤ zs[i] ∧ zs[i] ≤ 65535) (hb : zs[j] < 0 ∨ 65535 < zs[j]) :
    Calls Try.prog 88 #[v] w fun e w' => e = .returned (.int .i64 1) ∧ w = w' := by
  obtain ⟨ao, cap, rfl, h1, h2, h3⟩ := hs
  obtain ⟨b, off, rfl, _, hc⟩ := h3 (by omega)
  exact levels_no b off cap zs w (by omega) hc j hj hr hb

/-! ### Highest -/
def maxL (zs : List Int) : Int := zs.foldl max 0
theorem maxL_snoc (zs : List Int) (k : Nat) (h : k < zs.length) : maxL (zs.take (k + 1)) = max (maxL (zs.take k)) zs[k] := by
  unfold maxL
  rw [List.take_succ_eq_append_getElem h, List.foldl_append]
  rfl
theorem maxL_lv {zs : List Int} : ∀ (k : Nat), (∀ i (h : i < zs.length), i < k → 0 ≤ zs[i] ∧ zs[i] ≤ 65535) → 0 ≤ maxL (zs.take k) ∧ maxL (zs.take k) ≤ 65535 := by
  intro k
  induction k with
  | zero => intro _; simp [maxL]
  | succ k ih =>
    intro h
    have h1 := ih fun i hi hk => h i hi (by omega)
    by_cases hk : k < zs.length
    · rw [maxL_snoc zs k hk]
      have h2 := h k hk (by omega)
      omega
    · rw [List.take_of_length_le (by omega)] at h1 ⊢
      exact h1

end Go.Proofs.Yteelomjknllcbaa
