/- Own rows of settings: where a row lies behind an append, a setting stored into a row. (printed by wip/gen/gen_aprow.py) slices.Clone at settings. (printed by wip/gen/gen_apruns.py, turned from XClones) Rows of running effects: as an argument, their cells. (printed by wip/gen/gen_apruns.py) Maps of levels and own rows of settings beside each other. No walk in it. -/
import Derived.Test.YtopmdeefcjdadaaT43M09
import Derived.Test.YtopmdeefcjdadaaT43M41
import Derived.Test.YtopmdeefcjdadaaT43M08
import Derived.OwnWalk
import Derived.Laws.AppendOwn
import Derived.Test.YtopmdeefcjdadaaT43M40
import Derived.Test.YtopmdeefcjdadaaT43M10
import Derived.Test.YtopmdeefcjdadaaT43M04
import Derived.Test.YtopmdeefcjdadaaT43M19

namespace Go.Proofs.Ytopmdeefcjdadaa
open Go.RowKit
open Go (info_parts)
set_option linter.unusedVariables false
set_option linter.unusedSimpArgs false

theorem OwnS.put {base g cap : Nat} {w : World} {l : List Stg} (h : OwnS base w (.slice (some ⟨g, 0, none⟩) l.length cap) l) (k : Nat) (hk : k < l.length) (u : Stg) :
    OwnS base (w.setCells g (k * 3) (stgC u)) (.slice (some ⟨g, 0, none⟩) l.length cap) (l.set k u) := by
  unfold OwnS at *
  obtain ⟨hx, hn | ⟨g', cap', cur, e1, hb, hg, hnc, hcm, hcs, hct⟩⟩ := h
  · exact absurd hn.1 (by simp)
  · injection e1 with e1 _ e2
    injection e1 with e1
    injection e1 with e1
    subst e1 e2
    have h1 : l.length * 3 ≤ cap * 3 := Nat.mul_le_mul_right _ hnc
    obtain ⟨c, f1, f2⟩ := setCells_row g _ (stgC u) (k * 3) w cur hg (by simp [stgC]; omega)
    have hl3 : (stgC u).length = 3 := rfl
    have hs : c.size = cur.size := by
      have := congrArg List.length f2
      simp only [List.length_append, hl3, List.length_take, List.length_drop, Array.length_toList] at this
      omega
    have hlen : (l.set k u).length = l.length := List.length_set
    rw [hlen]
    refine ⟨by rw [flat_len stgC 3 (fun _ => rfl), hlen], .inr ⟨g, cap, c, rfl, hb, f1, hnc, hcm, by omega, ?_⟩⟩
    have hA : (cur.toList.take (k * 3)).length = k * 3 := by rw [List.length_take, Array.length_toList]; omega
    have a1 : (cur.toList.take (k * 3)).take (l.length * 3) = cur.toList.take (k * 3) := List.take_of_length_le (by rw [hA]; omega)
    have a2 : (stgC u).take (l.length * 3 - k * 3) = stgC u := List.take_of_length_le (by rw [hl3]; omega)
    rw [f2, hl3, List.append_assoc, List.take_append, hA, List.take_append, hl3, a1, a2]
    have e3 : cur.toList.take (k * 3) = (l.take k).flatMap stgC := by
      rw [← flat_take stgC 3 (fun _ => rfl) l k (by omega), ← hct, List.take_take, Nat.min_eq_left (by omega)]
    have e4 : (cur.toList.drop (k * 3 + 3)).take (l.length * 3 - k * 3 - 3) = (l.drop (k + 1)).flatMap stgC := by
      have e5 : (l.flatMap stgC).drop ((k + 1) * 3) = (l.drop (k + 1)).flatMap stgC := by
        have h2 := congrArg (List.flatMap stgC) (List.take_append_drop (k + 1) l)
        rw [List.flatMap_append] at h2
        rw [← h2, List.drop_left' (by rw [flat_len stgC 3 (fun _ => rfl), List.length_take]; omega)]
      rw [← e5, ← hct, List.drop_take, show (k + 1) * 3 = k * 3 + 3 by omega, show l.length * 3 - (k * 3 + 3) = l.length * 3 - k * 3 - 3 by omega]
    rw [e3, e4, List.set_eq_take_append_cons_drop, if_pos hk, List.flatMap_append, List.flatMap_cons]


set_option maxRecDepth 100000 in
/-- append of one setting: the row stays in its block, or lies in a new one -/
theorem append_whereS {w : World} {base c : Nat} {v : Value} {l : List Stg} {y : Stg} {ad : Addr} (ty : TypeId) (ho : OwnS base w v l)
    (hc : ∀ (j : Nat) u, (stgC y)[j]? = some u → w.cell? (ad.add j) = some u) (hl : l.length ≤ 10000000) (hb : base ≤ w.heap.size) :
    ∃ v' w', (Builtin.append_ #[43, 43] ty #[v, .slice (some ad) 1 c]).run Try.prog w = .ok v' w' ∧ OwnS base w' v' (l ++ [y]) ∧ w.grownBy w' v.ownBlock ∧ ∀ g, v'.ownBlock = some g → v.ownBlock = some g ∨ w.heap.size ≤ g := by
  obtain ⟨i0, hi, hz0, hz1, hz2⟩ := info_parts infoOwnS
  have hone : ∀ u ∈ stgC y, u.oneCell' = true := by intro u hu; simp [stgC] at hu; rcases hu with rfl | rfl | rfl <;> rfl
  have ho' : w.ownsRow base 49 3 v l.length (l.flatMap stgC) := ho
  obtain ⟨v', w', hr, o1, o2, _⟩ := run_append_own (P := Try.prog) w base 43 ty 49 i0 (.agg #[.int .i64 0, .string ⟨#[]⟩, .int .i64 0]) 3 32 Try.underlying43 hi hz0 hz1 hz2 rfl (by decide) v l.length (l.flatMap stgC) ho' ad 1 c (stgC y) rfl hc hone (by unfold maxLen; omega) (by omega) hb
  refine ⟨v', w', hr, ?_, o2, ?_⟩
  · unfold OwnS
    rw [List.flatMap_append, List.length_append]
    simpa using o1
  · rcases ho'.2 with ⟨rfl, hl0⟩ | ⟨g2, cap2, cur, rfl, hbg, hg, hnc, hcm, hcs, htake⟩
    · obtain ⟨v2, w2, hr2, p1, _, _⟩ := run_append_own (P := Try.prog) w w.heap.size 43 ty 49 i0 (.agg #[.int .i64 0, .string ⟨#[]⟩, .int .i64 0]) 3 32 Try.underlying43 hi hz0 hz1 hz2 rfl (by decide) (.slice none 0 0) 0 [] (World.ownsRow_nil w _ _ _) ad 1 c (stgC y) rfl hc hone (by unfold maxLen; omega) (by omega) (Nat.le_refl _)
      rw [hr] at hr2
      injection hr2 with hr2 hr3
      subst hr2 hr3
      intro g hg
      exact .inr (World.ownsRow.lt p1 g hg).1
    · by_cases hroom : l.length + 1 ≤ cap2
      · obtain ⟨w2, hr2, _⟩ := run_append_fits (P := Try.prog) w base 43 ty 49 i0 3 Try.underlying43 hi hz1 g2 l.length cap2 (l.flatMap stgC) ho' ad 1 c (stgC y) rfl hc hone hroom
        rw [hr] at hr2
        injection hr2 with hr2 hr3
        subst hr2
        intro g hg
        exact .inl hg
      · have holds : ∀ j u, (l.flatMap stgC)[j]? = some u → w.cell? ((⟨g2, 0, none⟩ : Addr).add j) = some u := ho'.cells (g := g2) rfl
        have hr2 := run_append_grow (P := Try.prog) w 43 ty 49 i0 (.agg #[.int .i64 0, .string ⟨#[]⟩, .int .i64 0]) Try.underlying43 hi hz0 ⟨g2, 0, none⟩ l.length cap2 (l.flatMap stgC) (by rw [hz1]; exact ho'.1) holds ad 1 c (stgC y) (by rw [hz1]; rfl) hc (by omega) (by omega) (growslice_fits (by omega) (by rw [hz2]; omega))
        rw [hr] at hr2
        injection hr2 with hr2 hr3
        subst hr2
        intro g hg
        refine .inr ?_
        simp [Value.ownBlock] at hg
        omega
theorem wpList_ownSw {w : World} {ops : Array Oper} {rest : List Oper} {o : Oper} {a : Act} {Q : Exit → Act → World → Prop} (hgd : o.guard = none) (s x : Operand)
    (hop : o.op = .call { callee := .builtin .append, args := #[s, x], argTypes := #[43, 43] })
    (base c : Nat) (v : Value) (l : List Stg) (y : Stg) (ad : Addr) (hs : a.eval s = v) (hx : a.eval x = .slice (some ad) 1 c)
    (ho : OwnS base w v l) (hc : ∀ (j : Nat) u, (stgC y)[j]? = some u → w.cell? (ad.add j) = some u) (hl : l.length ≤ 10000000) (hb : base ≤ w.heap.size)
    (h : ∀ v' w', OwnS base w' v' (l ++ [y]) → w.grownBy w' v.ownBlock → (∀ g, v'.ownBlock = some g → v.ownBlock = some g ∨ w.heap.size ≤ g) → wpList Try.prog ops Q rest (a.put o.dst v') w') : wpList Try.prog ops Q (o :: rest) a w := by
  refine wpList_plain hgd fun K hK' => ?_
  obtain ⟨v', w', hrun, r1, r2, r3⟩ := append_whereS (c := c) o.type ho hc hl hb
  unfold Oper.wp execOp
  simp only [hop, resolve, invoke, builtin, Sem.run_bind, Sem.run_pure, Result.andThen_ok, List.map_toArray, List.map_cons, List.map_nil, hs, hx, hrun]
  exact hK' _ _ (h v' w' r1 r2 r3)
/-- own rows stay where another block grows -/
theorem OwnS.kept {base : Nat} {w w' : World} {v : Value} {l : List Stg} {r : Option Nat} (h : OwnS base w v l) (hg : w.grownBy w' r) (hne : v.ownBlock = none ∨ v.ownBlock ≠ r) : OwnS base w' v l := by
  unfold OwnS at *
  refine World.ownsRow.kept h hg ?_
  rcases h.2 with ⟨rfl, _⟩ | ⟨g2, cap2, cur, rfl, _⟩
  · exact .inl rfl
  · rcases hne with hne | hne
    · simp [Value.ownBlock] at hne
    · exact .inr hne
end Go.Proofs.Ytopmdeefcjdadaa

namespace Go.Proofs.Ytopmdeefcjdadaa
open Go.RowKit
open Go (info_parts)
set_option linter.unusedVariables false
set_option linter.unusedSimpArgs false

theorem stgs_info : (Try.prog.info? 49).map (fun i => (i.zero, i.size, i.bytes)) = some (some (.agg #[.int .i64 0, .string ⟨#[]⟩, .int .i64 0]), 3, 32) := by kernel_rfl
set_option maxHeartbeats 2000000 in
theorem stgs_clone (B : Nat) (v : Value) (n : Nat) (xs : List Value) (w : World) (hB : B ≤ w.heap.size) (hl : n ≤ 16000) (hxl : xs.length = n * 3) (hone : ∀ u ∈ xs, u.oneCell' = true) (h1 : RowC B w v n xs) :
    Calls Try.prog 61 #[v] w (CloneO 49 3 w n xs) := by
  obtain ⟨i0, hi, hz0, hz1, hz2⟩ := info_parts stgs_info
  have q22 : ∀ (w : World) (a : Option Addr) (n c n' c' : Nat), (binOp .eql 43 (.slice a n c) (.slice none n' c')).run Try.prog w = .ok (.bool a.isNone) w := fun w a n c n' c' => Lib.run_eql_slice_nil w _ _ a n c n' c' Try.underlying43
  obtain ⟨ao, cap, rfl, h4⟩ := h1
  cases ao with
  | none =>
    have hl0 : n = 0 := by
      rcases Nat.eq_zero_or_pos n with h | h
      · exact h
      · obtain ⟨b, off, e, _⟩ := h4 h; cases e
    subst hl0
    have hx0 : xs = [] := List.eq_nil_of_length_eq_zero (by omega)
    subst hx0
    go_enter Try.func61, Try.ntmps61
    go_wp2
    go_ret
    exact ⟨_, rfl, World.ownsRow_nil _ _ _ _, Below.refl _ _⟩
  | some a =>
    have hc := Lib.hid (show ∀ j u, xs[j]? = some u → (w.alloc (.cells #[] 49)).cell? (a.add j) = some u by
      intro j u hu
      have hn : 0 < n := by
        rcases Nat.eq_zero_or_pos n with h | h
        · subst h
          obtain rfl : xs = [] := List.eq_nil_of_length_eq_zero (by omega)
          simp at hu
        · exact h
      obtain ⟨b, off, e, hb, hc⟩ := h4 hn
      obtain rfl := Option.some.inj e
      rw [addr_plus]
      exact (World.cell?_alloc_lt w _ _ (show b < w.heap.size by omega)).trans (hc j u hu))
    have HX := Lib.hid hxl
    have HO := Lib.hid hone
    clear h4 hxl hone
    go_enter Try.func61, Try.ntmps61
    go_wp2_with (at_builtin; refine wpList_append_own _ rfl _ _ 43 rfl w.heap.size 49 i0 (.agg #[.int .i64 0, .string ⟨#[]⟩, .int .i64 0]) 3 32 Try.underlying43 hi hz0 hz1 hz2 rfl (by omega) _ _ _ rfl (World.ownsRow_made w #[] 0 (Nat.le_refl _) (Nat.zero_le _) (by simp)) a n cap xs rfl HX.out hc.out HO.out (by unfold maxLen; omega) (by omega) (by simp) ?_; intro v' w1 hown hgrow0 _)
    have hgrow : World.grownBy (w.alloc (.cells #[] 49)) w1 (some w.heap.size) := hgrow0
    go_ret
    rw [List.nil_append, Nat.zero_add] at hown
    exact ⟨v', rfl, hown, ((Below.refl _ w).alloc (Nat.le_refl _) _).grown hgrow (by simp) (by intro k hk; injection hk with hk; omega)⟩
theorem stgC_one (l : List Stg) : ∀ u ∈ l.flatMap stgC, u.oneCell' = true := by
  intro u hu
  obtain ⟨s, _, hs⟩ := List.mem_flatMap.1 hu
  simp [stgC] at hs
  rcases hs with rfl | rfl | rfl <;> rfl
theorem stgs_rowC {B : Nat} {w : World} {v : Value} {l : List Stg} (h : StgS B w v l) : RowC B w v l.length (l.flatMap stgC) := by
  obtain ⟨ao, cap, rfl, _, _, h3⟩ := h
  exact ⟨ao, cap, rfl, h3⟩
/-- a copy of settings is an own row of them -/
theorem stgs_copy (v : Value) (l : List Stg) (w : World) (hl : l.length ≤ 16000) (h : StgS w.heap.size w v l) :
    Calls Try.prog 61 #[v] w fun e w' => ∃ v', e = .returned v' ∧ OwnS w.heap.size w' v' l ∧ Below w.heap.size w w' :=
  stgs_clone w.heap.size v l.length (l.flatMap stgC) w (Nat.le_refl _) hl (flat_len stgC 3 (fun _ => rfl) l) (stgC_one l) (stgs_rowC h)
end Go.Proofs.Ytopmdeefcjdadaa

namespace Go.Proofs.Ytopmdeefcjdadaa
open Go.ChangeShapes Go.WideShapes Go.RowKit Go.Deep
set_option linter.unusedSimpArgs false
set_option linter.unusedVariables false

/-- a running effect and its three slices -/
structure RunR where
  x : Run
  sv : Value
  kv : Value
  rv : Value
instance : Inhabited RunR := ⟨⟨⟨⟨0, 0, 0, 0, 0, 0, false, false, []⟩, [], 0, [], 0, 0, 0⟩, undef, undef, undef⟩⟩
def runC (y : RunR) : List Value := [.int .i64 y.x.ef.form, .int .i64 y.x.ef.low, .int .i64 y.x.ef.high, .int .i64 y.x.ef.cycle, .int .i64 y.x.ef.width, .int .i64 y.x.ef.spread, .bool y.x.ef.back, .bool y.x.ef.rel, y.sv, y.kv, .int .i64 y.x.start, y.rv, .int .i64 y.x.tin, .int .i64 y.x.tend, .int .i64 y.x.tout]
/-- a slice of running effects: their cells, and their slices' -/
def RunsS (B : Nat) (w : World) (v : Value) (l : List Run) : Prop := ∃ lv : List RunR, lv.map (·.x) = l ∧ CellsS B w v lv.length (lv.flatMap runC) ∧ ∀ y ∈ lv, RunAt B w y.x y.sv y.kv y.rv
theorem RunsS.below {B : Nat} {w w' : World} {v : Value} {l : List Run} (h : RunsS B w v l) (hb : Below B w w') : RunsS B w' v l := by
  obtain ⟨lv, h1, h2, h3⟩ := h
  exact ⟨lv, h1, h2.below hb, fun y hy => (h3 y hy).below hb⟩
theorem RunsS.more {B B' : Nat} {w : World} {v : Value} {l : List Run} (h : RunsS B w v l) (hB : B ≤ B') : RunsS B' w v l := by
  obtain ⟨lv, h1, h2, h3⟩ := h
  exact ⟨lv, h1, h2.more hB, fun y hy => (h3 y hy).more hB⟩
theorem RunsS.shape {B : Nat} {w : World} {v : Value} {l : List Run} (h : RunsS B w v l) : ∃ ao cap, v = .slice ao l.length cap ∧ l.length ≤ maxLen := by
  obtain ⟨lv, rfl, h2, _⟩ := h
  obtain ⟨ao, cap, rfl, _⟩ := CellsS.shape h2
  have := CellsS.len h2
  exact ⟨ao, cap, by simp, by simpa using this⟩
theorem RunsS.nil (B : Nat) (w : World) : RunsS B w (.slice none 0 0) [] := ⟨[], rfl, CellsS.nil _ _, by simp⟩
/-- the cells of one of them -/
theorem RunsS.get {B : Nat} {w : World} {v : Value} {l : List Run} (h : RunsS B w v l) (hl : 0 < l.length) :
    ∃ b off cap, v = .slice (some ⟨b, off, none⟩) l.length cap ∧ b < B ∧ ∀ k (hk : k < l.length), ∃ sv kv rv, RunAt B w l[k] sv kv rv ∧ ∀ (W : World), Below B w W → ∀ j u, j < 15 → (runC ⟨l[k], sv, kv, rv⟩)[j]? = some u → W.cell? ⟨b, off + k * 15 + j, none⟩ = some u := by
  obtain ⟨lv, rfl, h1, h2⟩ := h
  obtain ⟨b, off, cap, rfl, h3, h4, h5⟩ := CellsS.rec h1 (n := 15) (fun _ => rfl) (by simpa using hl)
  refine ⟨b, off, cap, by simp, h3, fun k hk => ?_⟩
  have hk' : k < lv.length := by simpa using hk
  refine ⟨lv[k].sv, lv[k].kv, lv[k].rv, by simpa using h2 _ (List.getElem_mem hk'), fun W hW j u hj hu => ?_⟩
  have := h5 k hk' j u hj (by simpa using hu)
  rw [show off + k * 15 + j = off + (k * 15 + j) by omega]
  exact (hW.cell (p := ⟨b, off + (k * 15 + j), none⟩) h3).trans this
section
variable {H : Type} {enc : TypeId × Value → H} {w : World} {held : Bool}
set_option maxRecDepth 100000 in
theorem read_running {fuel : Nat} {cs : List Value} {x : DataW H × List MemPlace} (h : DataW.trod enc Try.prog w 0 (fun _ => true) held fuel 28 cs = some x) :
    ∃ y : RunR, cs = runC y ∧ RunAt w.heap.size w y.x y.sv y.kv y.rv ∧ RunFit y.x := by
  obtain ⟨hl, n, hf⟩ := open_fields Try.underlying28 h
  rw [cellsRunning_] at hl
  obtain ⟨u0, u1, u2, u3, u4, u5, u6, u7, u8, u9, u10, u11, u12, u13, u14, rfl⟩ := slist15 hl
  obtain ⟨y0, k0⟩ := hf 0 _ rfl
  obtain ⟨y1, k1⟩ := hf 1 _ rfl
  obtain ⟨y2, k2⟩ := hf 2 _ rfl
  obtain ⟨y3, k3⟩ := hf 3 _ rfl
  obtain ⟨y4, k4⟩ := hf 4 _ rfl
  obtain ⟨y5, k5⟩ := hf 5 _ rfl
  obtain ⟨y6, k6⟩ := hf 6 _ rfl
  simp only [List.getElem_toArray, List.getElem_cons_zero, List.getElem_cons_succ, cellsInt_, cellsEffect_, cellsKeys_, cellsRates_, List.drop_zero, List.drop_succ_cons, List.take_succ_cons, List.take_zero] at k0 k1 k2 k3 k4 k5 k6
  obtain ⟨y, sv, e0, h0, f0⟩ := read_effect k0
  simp at e0
  obtain ⟨rfl, rfl, rfl, rfl, rfl, rfl, rfl, rfl, rfl⟩ := e0
  obtain ⟨kv, kl, e1, h1, f1⟩ := read_keys k1
  simp at e1
  subst e1
  obtain ⟨a2, rfl, w2⟩ := field_int Try.underlying3 k2
  obtain ⟨rv, rl, e3, h3, f3⟩ := read_rates k3
  simp at e3
  subst e3
  obtain ⟨a4, rfl, w4⟩ := field_int Try.underlying3 k4
  obtain ⟨a5, rfl, w5⟩ := field_int Try.underlying3 k5
  obtain ⟨a6, rfl, w6⟩ := field_int Try.underlying3 k6
  exact ⟨⟨⟨y, kl, a2, rl, a4, a5, a6⟩, _, _, _⟩, rfl, ⟨h0, h1, h3⟩, f0, f1, f3, i64_of_wf w2, i64_of_wf w4, i64_of_wf w5, i64_of_wf w6⟩
/-- running effects as an argument -/
def RunsW (w : World) (v : Value) : Prop := ∃ l : List Run, RunsS w.heap.size w v l ∧ ∀ p ∈ l, RunFit p
set_option maxRecDepth 100000 in
theorem open_runnings {r : Reach} {b0 : Nat} {v : Value} {d : DataW H} {p : List MemPlace} (hv : Value.okWide Try.prog w r b0 51 v) (h : DataW.Trod enc Try.prog w 0 (fun _ => true) held 51 v d p) :
    ∃ a : Value, v = a ∧ RunsW w a := by
  obtain ⟨ao, len, cap, rfl⟩ := okWide_slice Try.underlying51 hv
  obtain ⟨fuel, hf⟩ := h
  obtain ⟨v, l, e, h1, h2⟩ := read_rows (n := 15) runC (fun y => RunAt w.heap.size w y.x y.sv y.kv y.rv ∧ RunFit y.x) (fun _ => rfl) (by omega) Try.underlying51 (by kernel_rfl) (fun _ _ _ h => read_running h) hf
  simp [Value.cells] at e
  subst e
  refine ⟨_, rfl, l.map (·.x), ⟨l, rfl, h1, fun y hy => (h2 y hy).1⟩, fun y hy => ?_⟩
  obtain ⟨z, hz, rfl⟩ := List.mem_map.1 hy
  exact (h2 z hz).2
end
end Go.Proofs.Ytopmdeefcjdadaa

namespace Go.Proofs.Ytopmdeefcjdadaa
open Go.RowKit
set_option linter.unusedVariables false
set_option linter.unusedSimpArgs false

theorem HasM.block {w : World} {mb m : Nat} {g : Int × ByteArray → Option Int} (h : HasM w mb m g) : ∃ es clock, w.heap[mb]? = some (.map es clock) := by
  obtain ⟨n, f, _, h2, _⟩ := h
  obtain ⟨D, ⟨es, clock, h3, _⟩, _⟩ := h2.own
  exact ⟨es, clock, h3⟩
theorem OwnS.block {base : Nat} {w : World} {v : Value} {l : List Stg} {g : Nat} (h : OwnS base w v l) (hg : v.ownBlock = some g) : ∃ cs fz, w.heap[g]? = some (.cells cs 49 fz) := by
  rcases h.2 with ⟨rfl, _⟩ | ⟨g', cap, cur, rfl, _, h1, _⟩
  · simp [Value.ownBlock] at hg
  · simp [Value.ownBlock] at hg
    subst hg
    exact ⟨_, _, h1⟩
theorem HasM.own {base : Nat} {w w' : World} {mb m : Nat} {g : Int × ByteArray → Option Int} {v : Value} {l : List Stg} (h : HasM w mb m g) (ho : OwnS base w v l) (hg : w.grownBy w' v.ownBlock) : HasM w' mb m g := by
  refine h.same (hg.block mb h.lt ?_)
  intro e
  obtain ⟨es, clock, h1⟩ := h.block
  obtain ⟨cs, fz, h2⟩ := ho.block e.symm
  rw [h1] at h2
  cases h2
theorem OwnS.map {base : Nat} {w w' : World} {mb m : Nat} {g : Int × ByteArray → Option Int} {v : Value} {l : List Stg} (ho : OwnS base w v l) (h : HasM w mb m g) (hg : w.grownBy w' (some mb)) : OwnS base w' v l := by
  refine ho.kept hg (.inr ?_)
  intro e
  obtain ⟨es, clock, h1⟩ := h.block
  obtain ⟨cs, fz, h2⟩ := ho.block e
  rw [h1] at h2
  cases h2
theorem OwnS.lower {base base' : Nat} {w : World} {v : Value} {l : List Stg} (h : OwnS base w v l) (hb : base' ≤ base) : OwnS base' w v l := own_base h hb
/-- a setting's cells in an own row -/
theorem OwnS.get {base : Nat} {w : World} {v : Value} {l : List Stg} (h : OwnS base w v l) (hl : 0 < l.length) :
    ∃ g cap cur, v = .slice (some ⟨g, 0, none⟩) l.length cap ∧ base ≤ g ∧ TBox w g 49 cur ∧ l.length * 3 ≤ cur.size ∧ ∀ k (hk : k < l.length), cur[k * 3]? = some (.int .i64 l[k].unit) ∧ cur[k * 3 + 1]? = some (.string l[k].par) ∧ cur[k * 3 + 2]? = some (.int .i64 l[k].lv) := by
  rcases h.2 with ⟨rfl, hn⟩ | ⟨g, cap, cur, rfl, hb, h1, hnc, hcm, hcs, hct⟩
  · omega
  · have h3 : l.length * 3 ≤ cap * 3 := Nat.mul_le_mul_right _ hnc
    refine ⟨g, cap, cur, rfl, hb, h1, by omega, fun k hk => ?_⟩
    have key : ∀ j, j < 3 → cur[k * 3 + j]? = (stgC l[k])[j]? := by
      intro j hj
      have h2 := flat_get stgC 3 (fun _ => rfl) l k hk j hj
      rw [← hct, List.getElem?_take_of_lt (by omega), Array.getElem?_toList] at h2
      exact h2
    exact ⟨key 0 (by omega), key 1 (by omega), key 2 (by omega)⟩
/-- the store of a setting into an own row, as the walk writes it -/
theorem OwnS.put3 {base g cap : Nat} {w : World} {l : List Stg} (h : OwnS base w (.slice (some ⟨g, 0, none⟩) l.length cap) l) (k : Nat) (hk : k < l.length) (y : Stg) :
    OwnS base (((w.setCell ⟨g, k * 3, none⟩ (.int .i64 y.unit)).setCell ⟨g, k * 3 + 1, none⟩ (.string y.par)).setCell ⟨g, k * 3 + 2, none⟩ (.int .i64 y.lv)) (.slice (some ⟨g, 0, none⟩) l.length cap) (l.set k y) := h.put k hk y
end Go.Proofs.Ytopmdeefcjdadaa
