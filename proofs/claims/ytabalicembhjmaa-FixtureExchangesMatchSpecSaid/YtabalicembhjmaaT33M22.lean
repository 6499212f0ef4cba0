/- slices.Insert at own rows of units: no room; all roads together. fixture.taken. (printed by wip/gen/gen_room.py) -/
import Derived.Test.YtabalicembhjmaaT33M21
import Derived.Laws.NewBlocks
import Derived.Test.YtabalicembhjmaaT33M14
import Derived.Test.YtabalicembhjmaaT33M18

namespace Go.Proofs.Ytabalicembhjmaa
open Go.RowKit Go.Lib
open Go (info_parts)
set_option linter.unusedVariables false
set_option linter.unusedSimpArgs false

set_option maxHeartbeats 4000000 in
set_option maxRecDepth 100000 in
theorem units_insert_grow (base g cap i vb : Nat) (l : List Unt) (y : Unt) (cur vcs : Array Value) (T : TypeId) (w : World) (hbase : base ≤ w.heap.size) (hg : w.heap[g]? = some (.cells cur 67 (0, 0))) (hi : i < l.length) (hnc : l.length ≤ cap) (hroom : cap < l.length + 1) (hcs : cur.size = cap * 4) (htake : cur.toList.take (l.length * 4) = l.flatMap untC) (hl : l.length ≤ 100000)
    (hv : w.heap[vb]? = some (.cells vcs T (0, 0))) (hvc : vcs.toList = untC y) (hne : vb ≠ g) :
    Calls Try.prog 62 #[.slice (some ⟨g, 0, none⟩) l.length cap, .int .i64 i, .slice (some ⟨vb, 0, none⟩) 1 1] w fun e w' => ∃ v', e = .returned v' ∧ OwnU base w' v' (insU l i y) ∧ w.grownBy w' (some g) := by
  obtain ⟨i0, hi0, hz0, hzs, hzb⟩ := info_parts units_info
  have hIF := Lib.hid (insU_flat l i (by omega) y)
  have hIL := Lib.hid (insU_len l (p := i) (by omega) y)
  generalize hn : l.length = n at *
  have hxl : (l.flatMap untC).length = n * 4 := by rw [flat_unt_len, hn]
  obtain ⟨ds, hds⟩ : ∃ ds, ds = (l.flatMap untC).drop (i * 4) := ⟨_, rfl⟩
  have hdl : ds.length = (n - i) * 4 := by rw [hds, List.length_drop, hxl]; omega
  have hall : ∀ t u, (l.flatMap untC)[t]? = some u → w.cell? ⟨g, t, none⟩ = some u := by
    intro t u ht
    rw [← htake, List.getElem?_take] at ht
    split at ht
    · rw [row_cell2 hg]
      simpa using ht
    · cases ht
  have hbw : g < w.heap.size := (Array.getElem?_eq_some_iff.1 hg).1
  have hvw : vb < w.heap.size := (Array.getElem?_eq_some_iff.1 hv).1
  have hkk : (n : Int) + 1 - (i : Int) = ((n + 1 - i : Nat) : Int) := by omega
  have hik : i + (n + 1 - i) = n + 1 := by omega
  have hold : (Builtin.firstCells i0.size i (.slice (some ⟨g, 0, none⟩) i cap)).run Try.prog w.drew = .ok ((l.flatMap untC).take (i * 4)).toArray w.drew := by
    rw [hzs]
    exact run_firstCells_some w.drew 4 i ⟨g, 0, none⟩ i cap _ (by rw [List.length_take, hxl]; omega) (fun j v hj => by
      rw [addr_plus, Nat.zero_add]
      rw [List.getElem?_take] at hj
      split at hj
      · exact hall j v hj
      · cases hj)
  have hrz : ∀ ty, (Builtin.append_ #[23, 3] ty #[.slice (some ⟨g, 0, none⟩) i cap, .int .i64 ((n : Int) + 1 - (i : Int))]).run Try.prog w =
      .ok (.slice (some ⟨w.heap.size, 0, none⟩) (n + 1) (grownCap w (n + 1) cap 67)) (w.drew.alloc (.cells (((l.flatMap untC).take (i * 4)).toArray ++ Builtin.zeroCells (Value.agg #[.int .i64 0, .string ⟨#[]⟩, .int .i64 0, .int .i64 0]).cells (n + 1 - i) ++ Builtin.zeroCells (Value.agg #[.int .i64 0, .string ⟨#[]⟩, .int .i64 0, .int .i64 0]).cells (grownCap w (n + 1) cap 67 - (n + 1))) 67)) := fun ty => by
    have h := Lib.run_append_grow_zeros w 23 3 ty 67 i0 _ .i64 .i64 Try.underlying23 Try.underlying3 hi0 hz0 (some ⟨g, 0, none⟩) i cap _ hold (n + 1 - i) (by omega) (by omega) (by omega) (by omega) (by rw [hzb]; omega) (by rw [hzb, hik]; exact growslice_fits hroom (by omega))
    rw [hik] at h
    rw [hkk]
    exact h
  obtain ⟨G, hG⟩ : ∃ G, G = grownCap w (n + 1) cap 67 := ⟨_, rfl⟩
  obtain ⟨ROW, hROW⟩ : ∃ ROW : Array Value, ROW = ((l.flatMap untC).take (i * 4)).toArray ++ Builtin.zeroCells (Value.agg #[.int .i64 0, .string ⟨#[]⟩, .int .i64 0, .int .i64 0]).cells (n + 1 - i) ++ Builtin.zeroCells (Value.agg #[.int .i64 0, .string ⟨#[]⟩, .int .i64 0, .int .i64 0]).cells (G - (n + 1)) := ⟨_, rfl⟩
  rw [← hG] at hrz
  rw [← hROW] at hrz
  have hGn : n + 1 ≤ G := by rw [hG]; exact grownCap_ge w _ _ _
  have hGm : G ≤ maxLen := by rw [hG]; exact grownCap_le_maxLen w (n + 1) cap _ (by unfold maxLen; omega)
  have hRl : ROW.size = G * 4 := by
    rw [hROW]
    simp only [Array.size_append, List.size_toArray, size_zeroCells, List.length_take, hxl]
    simp [Value.cells]
    omega
  have hRt : ROW.toList.take (i * 4) = (l.flatMap untC).take (i * 4) := by
    rw [hROW]
    simp only [Array.toList_append, List.append_assoc]
    rw [List.take_append_of_le_length (by simp only [List.length_take, hxl]; omega), List.take_of_length_le (by simp only [List.length_take]; exact Nat.min_le_left _ _)]
  obtain ⟨W1, hW1⟩ : ∃ W1, W1 = w.drew.alloc (.cells ROW 67) := ⟨_, rfl⟩
  rw [← hW1] at hrz
  have hg1 : W1.heap[w.heap.size]? = some (.cells ROW 67 (0, 0)) := by rw [hW1]; exact heap_alloc_new w.drew _
  have ho1 : ∀ k, k < w.heap.size → W1.heap[k]? = w.heap[k]? := fun k hk => by rw [hW1]; exact Below.heap_alloc w.drew _ k hk
  have hv1 : W1.heap[vb]? = some (.cells vcs T (0, 0)) := (ho1 vb hvw).trans hv
  have hgg1 : W1.heap[g]? = some (.cells cur 67 (0, 0)) := (ho1 g hbw).trans hg
  have hcpA : ∀ (W : World), (∀ x, W.cell? x = W1.cell? x) → (∀ x, W.frozen? x = W1.frozen? x) → ∀ ty dc, (Builtin.copy_ #[23, 23] ty #[.slice (some ⟨w.heap.size, i * 4, none⟩) (n + 1 - i) dc, .slice (some ⟨vb, 0, none⟩) 1 1]).run Try.prog W = .ok (goInt (1 : Nat)) (W.setCells w.heap.size (i * 4) (untC y)) := fun W hWc hWf ty dc =>
    run_copy_size W _ _ ty 67 4 w.heap.size (i * 4) (n + 1 - i) dc ⟨vb, 0, none⟩ 1 1 1 (untC y) Try.underlying23 infoUnit4 (by simp only [Nat.min_def]; split <;> omega) rfl
      (fun j v hj => by rw [addr_plus, hWc, row_cell2 hv1, Nat.zero_add, ← Array.getElem?_toList, hvc]; exact hj)
      (fun j hj => by rw [hWc]; exact row_isSome2 hg1 (by rw [hRl]; simp [untC] at hj; omega)) (fun j hj => by rw [hWf]; exact frozen_of_row W1 _ _ ROW _ hg1) (fun v hv => one_untC [y] v (by simpa using hv))
  obtain ⟨c2, e1, e2⟩ := setCells_row w.heap.size 67 (untC y) (i * 4) W1 ROW hg1 (by rw [hRl]; simp [untC]; omega)
  have sc2 : c2.size = G * 4 := by
    have := congrArg List.length e2
    simp only [List.length_append, List.length_take, List.length_drop, Array.length_toList, hRl] at this
    simp [untC] at this
    omega
  have hg2 : (W1.setCells w.heap.size (i * 4) (untC y)).heap[g]? = some (.cells cur 67 (0, 0)) := ((setCells_grown2 w.heap.size (untC y) _ W1).block g (by rw [hW1]; simp; omega) (by intro e; injection e with e; omega)).trans hgg1
  have hcpB : ∀ (W : World), (∀ x, W.cell? x = (W1.setCells w.heap.size (i * 4) (untC y)).cell? x) → (∀ x, W.frozen? x = (W1.setCells w.heap.size (i * 4) (untC y)).frozen? x) → ∀ ty dc sc, (Builtin.copy_ #[23, 23] ty #[.slice (some ⟨w.heap.size, (i + 1) * 4, none⟩) (n - i) dc, .slice (some ⟨g, i * 4, none⟩) (n - i) sc]).run Try.prog W = .ok (goInt (n - i : Nat)) (W.setCells w.heap.size ((i + 1) * 4) ds) := fun W hWc hWf ty dc sc =>
    run_copy_size W _ _ ty 67 4 w.heap.size ((i + 1) * 4) (n - i) dc ⟨g, i * 4, none⟩ (n - i) sc (n - i) ds Try.underlying23 infoUnit4 (by simp only [Nat.min_def]; split <;> omega) hdl
      (fun j v hj => by
        rw [addr_plus, hWc, row_cell2 hg2, ← row_cell2 hg]
        exact hall _ v (by rwa [hds, List.getElem?_drop] at hj))
      (fun j hj => by rw [hWc]; exact row_isSome2 e1 (by rw [sc2]; omega)) (fun j hj => by rw [hWf]; exact frozen_of_row _ _ _ c2 _ e1) (fun v hv => one_untC l v (List.mem_of_mem_drop (by rw [← hds]; exact hv)))
  have hfin : Hid (∀ A : World, (∀ k : Nat, A.heap[k]? = W1.heap[k]?) → A.heap.size = W1.heap.size → A.os = w.os → A.tape = w.tape → A.output = w.output → OwnU base ((A.setCells w.heap.size (i * 4) (untC y)).setCells w.heap.size ((i + 1) * 4) ds) (.slice (some ⟨w.heap.size, 0, none⟩) (n + 1) G) (insU l i y) ∧ w.grownBy ((A.setCells w.heap.size (i * 4) (untC y)).setCells w.heap.size ((i + 1) * 4) ds) (some g)) := by
    intro A hA1 hA2 hA3 hA4 hA5
    have hgA : A.heap[w.heap.size]? = some (.cells ROW 67 (0, 0)) := (hA1 _).trans hg1
    obtain ⟨c, f1, f2, f3⟩ := row_two hgA (untC y) ds (p := i * 4) (by rw [hRl, hdl]; simp [untC]; omega)
    have hp : i * 4 + (untC y).length = (i + 1) * 4 := by simp [untC]; omega
    rw [hp] at f1 f3
    have hq : (i + 1) * 4 + ds.length = (n + 1) * 4 := by rw [hdl]; omega
    rw [hq, hRt] at f3
    refine ⟨?_, ?_⟩
    · unfold OwnU
      rw [hIL.out, hIF.out]
      refine ⟨by simp only [List.length_append, List.length_take, List.length_drop, hxl]; simp [untC]; omega, .inr ⟨w.heap.size, G, c, rfl, hbase, f1, hGn, hGm, f2.trans hRl, ?_⟩⟩
      rw [f3, hds]
    · have h1 : w.grownBy A (some g) := ⟨hA3, hA4, hA5, by rw [hA2, hW1]; simp, fun k hk _ => (hA1 k).trans (ho1 k hk)⟩
      exact grown_new (grown_new h1 (setCells_grown2 _ _ _ _) (Nat.le_refl _)) (setCells_grown2 _ _ _ _) (Nat.le_refl _)
  have mixed : Try.prog.follows Departure.mixedOrders = true := by kernel_rfl
  have hz2 : ¬ ((i : Int) = (n : Int)) := by omega
  have hz3 : (cap : Int) < (n : Int) + 1 := by omega
  have hGi : ¬ (G = i) := by omega
  have hGim : ¬ (G = i + 1) := by omega
  have hci : ¬ (cap = i) := by omega
  unfold maxLen at hGm
  subst hW1
  have hE1 : ∀ x, ((w.alloc (.cells ROW 67)).drew).cell? x = (w.drew.alloc (.cells ROW 67)).cell? x := fun x => rfl
  have hE2 : ∀ x, ((w.alloc (.cells ROW 67)).drew).frozen? x = (w.drew.alloc (.cells ROW 67)).frozen? x := fun x => rfl
  have hF1 : ∀ x, (((w.alloc (.cells ROW 67)).drew.setCells w.heap.size (i * 4) (untC y)).drew).cell? x = ((w.drew.alloc (.cells ROW 67)).setCells w.heap.size (i * 4) (untC y)).cell? x := fun x => rfl
  have hF2 : ∀ x, (((w.alloc (.cells ROW 67)).drew.setCells w.heap.size (i * 4) (untC y)).drew).frozen? x = ((w.drew.alloc (.cells ROW 67)).setCells w.heap.size (i * 4) (untC y)).frozen? x := fun x => rfl
  have hw1 : IntKind.i64.wrap ((i : Int) + 1) = (i : Int) + 1 := by rw [IntKind.wrap_i64]; omega
  have hw2 : IntKind.i64.wrap ((n : Int) + 1) = (n : Int) + 1 := by rw [IntKind.wrap_i64]; omega
  have hw3 : IntKind.i64.wrap ((n : Int) + 1 - (i : Int)) = (n : Int) + 1 - (i : Int) := by rw [IntKind.wrap_i64]; omega
  have hb1 : (0 : Int) ≤ (i : Int) + 1 := by omega
  have hin : i ≤ n := by omega
  have htn : ((i : Int) + 1).toNat = i + 1 := by omega
  have hb3 : (i : Int) ≤ (n : Int) := by omega
  clear hkk hik hold hROW hG hRl hRt hg1 ho1 hv1 hgg1 e1 e2 sc2 hg2 hall hds hdl hvc hg hv htake hcs
  go_enter Try.func62, Try.ntmps62
  go_wp2_with (first
    | (at_builtin; refine Lib.wpList_append_run _ rfl _ _ _ _ rfl _ _ rfl rfl _ _ (hrz _) ?_)
    | (at_builtin; refine wpList_copy_runI _ rfl _ _ 23 23 rfl _ _ rfl rfl (hcpA _ hE1 hE2 _ _) ?_)
    | (at_builtin; refine wpList_copy_runI _ rfl _ _ 23 23 rfl _ _ rfl rfl (hcpB _ (fun _ => rfl) (fun _ => rfl) _ _ _) ?_))
  go_region_law_o (refine step_copy_runI rfl _ _ 23 23 rfl (.slice (some ⟨w.heap.size, (i + 1) * 4, none⟩) (n - i) (G - (i + 1))) (.slice (some ⟨g, i * 4, none⟩) (n - i) (cap - i)) (by simp [Act.eval, Act.put]) (by simp [Act.eval, Act.put]) (hcpB _ hF1 hF2 3 (G - (i + 1)) (cap - i)) ?_)
  go_wp2_with fail
  go_ret
  obtain ⟨f1, f2⟩ := hfin.out ((w.alloc (.cells ROW 67)).drew.drew) (fun k => rfl) rfl rfl rfl rfl
  rw [drew_setCells]
  exact ⟨_, rfl, f1, f2⟩
set_option maxHeartbeats 4000000 in
set_option maxRecDepth 100000 in
theorem units_insert_end (base vb : Nat) (v : Value) (l : List Unt) (y : Unt) (vcs : Array Value) (T : TypeId) (w : World) (h : OwnU base w v l) (hbase : base ≤ w.heap.size) (hl : l.length ≤ 100000)
    (hv : w.heap[vb]? = some (.cells vcs T (0, 0))) (hvc : vcs.toList = untC y) :
    Calls Try.prog 62 #[v, .int .i64 l.length, .slice (some ⟨vb, 0, none⟩) 1 1] w fun e w' => ∃ v', e = .returned v' ∧ OwnU base w' v' (insU l l.length y) ∧ w.grownBy w' v.ownBlock := by
  obtain ⟨i0, hi0, hz0, hz1, hz2⟩ := info_parts units_info
  have HO := Lib.hid h
  have HI := Lib.hid (show insU l l.length y = l ++ [y] by simp [insU])
  have hcap : ∃ ao cap, v = .slice ao l.length cap ∧ l.length ≤ cap ∧ cap ≤ maxLen ∧ (ao = none → l.length = 0 ∧ cap = 0) ∧ ∀ a, ao = some a → ∃ g, a = ⟨g, 0, none⟩ := by
    rcases h.2 with h' | ⟨g, cap, cur, e1, _, _, h3, h4, _⟩
    · exact ⟨none, 0, by rw [h'.1, h'.2], by omega, by simp, fun _ => ⟨h'.2, rfl⟩, by simp⟩
    · exact ⟨_, cap, e1, h3, h4, by simp, fun a ha => ⟨g, (Option.some.inj ha).symm⟩⟩
  obtain ⟨ao, cap, rfl, hc1, hc2, hc3, hc4⟩ := hcap
  have hc : Hid (∀ (j : Nat) u, (untC y)[j]? = some u → w.cell? ((⟨vb, 0, none⟩ : Addr).add j) = some u) := by
    intro j u hj
    rw [addr_plus, row_cell2 hv, Nat.zero_add, ← Array.getElem?_toList, hvc]
    exact hj
  unfold maxLen at hc2
  have hfin : Hid (∀ v' w', w'.ownsRow base 67 4 v' (l.length + 1) (l.flatMap untC ++ untC y) → OwnU base w' v' (insU l l.length y)) := by
    intro v' w' h1
    unfold OwnU
    rw [HI.out, List.flatMap_append, List.length_append]
    simpa using h1
  have h1y : Hid (∀ u ∈ untC y, u.oneCell' = true) := fun u hu => one_untC [y] u (by simpa using hu)
  generalize hn : l.length = n at *
  clear h hv hvc HI
  cases ao with
  | none =>
    obtain ⟨rfl, rfl⟩ := hc3 rfl
    clear hc3 hc4
    go_enter Try.func62, Try.ntmps62
    go_wp2_with (at_builtin; refine wpList_append_own _ rfl _ _ 23 rfl base 67 i0 (.agg #[.int .i64 0, .string ⟨#[]⟩, .int .i64 0, .int .i64 0]) 4 40 Try.underlying23 hi0 hz0 hz1 hz2 rfl (by omega) _ 0 (l.flatMap untC) rfl (by have h := HO.out; unfold OwnU at h; rw [hn] at h; exact h) ⟨vb, 0, none⟩ 1 1 (untC y) rfl rfl hc.out h1y.out (by unfold maxLen; omega) (by omega) hbase ?_)
    intro v' w' h1 h2 _
    go_wp2_with fail
    go_ret
    exact ⟨_, rfl, hfin.out _ _ h1, h2⟩
  | some a =>
    obtain ⟨g, rfl⟩ := hc4 a rfl
    clear hc3 hc4
    go_enter Try.func62, Try.ntmps62
    go_wp2_with (at_builtin; refine wpList_append_own _ rfl _ _ 23 rfl base 67 i0 (.agg #[.int .i64 0, .string ⟨#[]⟩, .int .i64 0, .int .i64 0]) 4 40 Try.underlying23 hi0 hz0 hz1 hz2 rfl (by omega) _ n (l.flatMap untC) rfl (by have h := HO.out; unfold OwnU at h; rw [hn] at h; exact h) ⟨vb, 0, none⟩ 1 1 (untC y) rfl rfl hc.out h1y.out (by unfold maxLen; omega) (by omega) hbase ?_)
    all_goals
      intro v' w' h1 h2 _
      go_wp2_with fail
      go_ret
      exact ⟨_, rfl, hfin.out _ _ h1, h2⟩
theorem units_insert (base vb i : Nat) (v : Value) (l : List Unt) (y : Unt) (vcs : Array Value) (T : TypeId) (w : World) (h : OwnU base w v l) (hbase : base ≤ w.heap.size) (hi : i ≤ l.length) (hl : l.length ≤ 100000)
    (hv : w.heap[vb]? = some (.cells vcs T (0, 0))) (hvc : vcs.toList = untC y) (hne : v.ownBlock ≠ some vb) :
    Calls Try.prog 62 #[v, .int .i64 i, .slice (some ⟨vb, 0, none⟩) 1 1] w fun e w' => ∃ v', e = .returned v' ∧ OwnU base w' v' (insU l i y) ∧ w.grownBy w' v.ownBlock := by
  by_cases c : i = l.length
  · subst c
    exact units_insert_end base vb v l y vcs T w h hbase hl hv hvc
  · obtain ⟨g, cap, cur, rfl, hbg, hg, hnc, hcm, hcs, htake⟩ : ∃ g cap cur, v = .slice (some ⟨g, 0, none⟩) l.length cap ∧ base ≤ g ∧ w.heap[g]? = some (.cells cur 67 (0, 0)) ∧ l.length ≤ cap ∧ cap ≤ maxLen ∧ cur.size = cap * 4 ∧ cur.toList.take (l.length * 4) = l.flatMap untC := by
      rcases h.2 with ⟨_, h'⟩ | h'
      · omega
      · exact h'
    have hn : vb ≠ g := fun e => hne (by simp [Value.ownBlock, e])
    by_cases d : l.length + 1 ≤ cap
    · exact units_insert_shift base g cap i vb l y cur vcs T w hbg hg (by omega) d hcm hcs htake hl hv hvc hn
    · exact units_insert_grow base g cap i vb l y cur vcs T w hbase hg (by omega) hnc (by omega) hcs htake hl hv hvc hn
end Go.Proofs.Ytabalicembhjmaa

namespace Go.Proofs.Ytabalicembhjmaa
open Go.RowKit
set_option linter.unusedVariables false
set_option linter.unusedSimpArgs false

theorem filt_snoc {α : Type} (p : α → Bool) (l : List α) (k : Nat) (h : k < l.length) : (l.take (k + 1)).filter p = if p l[k] then (l.take k).filter p ++ [l[k]] else (l.take k).filter p := by
  rw [List.take_succ_eq_append_getElem h, List.filter_append]
  by_cases c : p l[k] = true
  · rw [if_pos c]; simp [c]
  · rw [if_neg c]; simp [c]
def notNo (n : Int) (u : Unt) : Bool := decide (u.num ≠ n)
set_option maxRecDepth 100000 in
set_option maxHeartbeats 16000000 in
theorem taken_any (x : Rig) (lv uv : Value) (n : Int) (w : World) (h : RigAt w.heap.size w x lv uv) (hx : chkRig x = 0) (hf : RigFit x) :
    Calls Try.prog 45 #[rigV lv uv, .int .i64 n] w fun e w' => e = .returned (.map (some (w.heap.size + 1))) ∧ w.heap.size + 1 < w'.heap.size ∧ UsedS (w.heap.size + 1) w' (w.heap.size + 1) (usBut x n) ∧ Below w.heap.size w w' := by
  have CP := Lib.hid (fun (nm : ByteArray) W (hb : Below w.heap.size w W) => profile_base w.heap.size lv x.lib nm W hb.size (h.lib.below hb))
  have HG := Lib.hid (UntS.get h.units)
  have HUF := Lib.hid hf.2
  obtain ⟨uo, ucap, rfl, _⟩ := CellsS.shape h.units
  obtain ⟨lo, lcap, rfl⟩ := prfS_shape h.lib
  have hcp := untS_cap h.units
  have hun : x.units.length ≤ 400 := (chkRig_zero hx).2.1
  have HPR := Lib.hid (fun u (hu : u ∈ x.units) => par_right hx hu)
  have HPS := Lib.hid (fun (u : Unt) (p : Prf) (hp : profOf x.lib u.nm = some p) => (⟨size_of hp, size_pos (chkRig_zero hx).1 hp⟩ : sizeOf' x.lib u = p.size ∧ (1 ≤ p.size ∧ p.size ≤ 512)))
  have HUB := Lib.hid (show usOf x.lib ((x.units.take x.units.length).filter (notNo n)) = usBut x n by rw [List.take_length]; rfl)
  have HLN := Lib.hid (show ∀ k, (usOf x.lib ((x.units.take k).filter (notNo n))).length ≤ 100000 from fun k => by
    rw [usOf_len]
    have h1 := List.length_filter_le (notNo n) (x.units.take k)
    rw [List.length_take] at h1
    omega)
  have HSN := Lib.hid (fun k (hk : k < x.units.length) => filt_snoc (notNo n) x.units k hk)
  unfold rigV at *
  clear h hf hx
  generalize usBut x n = UBN at *
  have KC := Lib.hid (show ∀ W, Below (w.heap.size + 1) (w.alloc (.cells #[.slice lo x.lib.length lcap, .slice uo x.units.length ucap] 25)) W → (Below w.heap.size w W ∧ w.heap.size < W.heap.size ∧ W.cell? ⟨w.heap.size, 0, none⟩ = some (.slice lo x.lib.length lcap) ∧ W.cell? ⟨w.heap.size, 1, none⟩ = some (.slice uo x.units.length ucap)) from fun W hW => by
    have hz := hW.size
    simp at hz
    exact ⟨((Below.refl _ _).alloc (Nat.le_refl _) _).trans (hW.mono (by omega)), by omega, (hW.cell (p := ⟨w.heap.size, 0, none⟩) (by simp)).trans (by simp [go_sem]), (hW.cell (p := ⟨w.heap.size, 1, none⟩) (by simp)).trans (by simp [go_sem])⟩)
  have KM := Lib.hid (show ∀ W W1, Below (w.heap.size + 1) (w.alloc (.cells #[.slice lo x.lib.length lcap, .slice uo x.units.length ucap] 25)) W → Below W.heap.size W W1 → Below (w.heap.size + 1) (w.alloc (.cells #[.slice lo x.lib.length lcap, .slice uo x.units.length ucap] 25)) W1 from fun W W1 h1 h2 => h1.trans (h2.mono (by have := h1.size; simp at this; omega)))
  have KA := Lib.hid (show ∀ W o, Below (w.heap.size + 1) (w.alloc (.cells #[.slice lo x.lib.length lcap, .slice uo x.units.length ucap] 25)) W → Below (w.heap.size + 1) (w.alloc (.cells #[.slice lo x.lib.length lcap, .slice uo x.units.length ucap] 25)) (W.alloc o) from fun W o h => h.alloc (by have := h.size; simp at this; omega) o)
  have HBM := Lib.hid (KA.out _ (.map #[] 0) (Below.refl (w.heap.size + 1) (w.alloc (.cells #[.slice lo x.lib.length lcap, .slice uo x.units.length ucap] 25))))
  have HU0 := Lib.hid (show UsedS (w.heap.size + 1) ((w.alloc (.cells #[.slice lo x.lib.length lcap, .slice uo x.units.length ucap] 25)).alloc (.map #[] 0)) (w.heap.size + 1) [] by simpa using used_made (w.heap.size + 1) (w.alloc (.cells #[.slice lo x.lib.length lcap, .slice uo x.units.length ucap] 25)))
  have hmm := @run_makeMap Try.prog
  go_enter Try.func45, Try.ntmps45
  go_wp2_with fail
  clear hmm
  go_loopw [14] (fun i wx => ∃ k : Nat, k ≤ x.units.length ∧ i = .int .i64 k ∧ Hid (Below (w.heap.size + 1) (w.alloc (.cells #[.slice lo x.lib.length lcap, .slice uo x.units.length ucap] 25)) wx) ∧ Hid (UsedS (w.heap.size + 1) wx (w.heap.size + 1) (usOf x.lib ((x.units.take k).filter (notNo n)))) ∧ w.heap.size + 1 < wx.heap.size) (fun i _ => x.units.length - (intOf i).toNat)
  case atStart => exact ⟨0, Nat.zero_le _, rfl, HBM, Lib.hid (by simpa [usOf] using HU0.out), by simp⟩
  case round =>
    clear HBM HU0
    obtain ⟨k, hk, rfl, HBW, HUS, hlw⟩ := hrel
    obtain ⟨hB, hz, p0, p1⟩ := KC.out wr HBW.out
    by_cases hlt : k < x.units.length
    · obtain ⟨b, off, cap', hsl, hb, _, hc⟩ := HG.out (by omega)
      injection hsl with hs1 hs2 hs3
      subst hs1 hs3
      obtain ⟨d0, d1, d2, d3⟩ := hc k hlt wr hB
      have hbr : b < wr.heap.size := by have := hB.size; omega
      have HUI := Lib.hid (HUF.out _ (List.getElem_mem hlt)).2.1
      obtain ⟨p, hpo, _, ⟨ha1, ha2⟩, _⟩ := HPR.out _ (List.getElem_mem hlt)
      obtain ⟨hsz, hsp1, hsp2⟩ := HPS.out _ _ hpo
      have HSZ := Lib.hid hsz
      have HFS := Lib.hid (HSN.out k hlt)
      have HNO := Lib.hid (show notNo n x.units[k] = decide (x.units[k].num ≠ n) from rfl)
      have HLK := Lib.hid (HLN.out k)
      have HUX2 := Lib.hid (show ∀ L : List Unt, usOf x.lib (L ++ [x.units[k]]) = usOf x.lib L ++ [(x.units[k], sizeOf' x.lib x.units[k])] from fun L => by simp [usOf])
      have hnm : x.units[k].nm = x.units[k].prof.data.toList := rfl
      rw [hnm] at hpo
      rw [hsz] at HUX2
      have CP1 := Lib.hid (fun W (hb : Below w.heap.size w W) => by have := CP.out x.units[k].prof W hb; rw [hpo] at this; exact this)
      clear hc hnm hsz hpo hB HSZ
      generalize hrk : x.units[k] = rk at *
      clear hrk
      obtain ⟨un, up, uu, ua⟩ := rk
      obtain ⟨pn, pz, pl⟩ := p
      simp only at *
      have HBX := Lib.hid (KA.out _ (.cells #[.int .i64 un, .string up, .int .i64 uu, .int .i64 ua] 67) HBW.out)
      have HUX := Lib.hid (HUS.out.alloc (.cells #[.int .i64 un, .string up, .int .i64 uu, .int .i64 ua] 67))
      have CX := Lib.hid (CP1.out _ (KC.out _ HBX.out).1)
      clear HUS HBW
      go_wp2_with fail
      refine CX.out.mono ?_
      rintro e w5 ⟨pv0, rfl, ⟨qv, rfl, hps⟩, hb5⟩
      obtain ⟨po, pcap, rfl⟩ := parS_shape hps
      have hz5 := hb5.size
      simp only [World.size_alloc] at hz5
      have hwr5 : wr.heap.size < w5.heap.size := by omega
      have HB6 := Lib.hid (KA.out _ (.cells #[.string pn, .int .i64 pz, .slice po pl.length pcap] 70) (KM.out _ _ HBX.out hb5))
      have HU6 := Lib.hid ((HUX.out.below hb5).alloc (.cells #[.string pn, .int .i64 pz, .slice po pl.length pcap] 70))
      have f0 : w5.cell? ⟨wr.heap.size, 0, none⟩ = some (.int .i64 un) := (hb5.cell (p := ⟨wr.heap.size, 0, none⟩) (by simp)).trans (by simp [go_sem])
      have f1 : w5.cell? ⟨wr.heap.size, 1, none⟩ = some (.string up) := (hb5.cell (p := ⟨wr.heap.size, 1, none⟩) (by simp)).trans (by simp [go_sem])
      have f2 : w5.cell? ⟨wr.heap.size, 2, none⟩ = some (.int .i64 uu) := (hb5.cell (p := ⟨wr.heap.size, 2, none⟩) (by simp)).trans (by simp [go_sem])
      have f3 : w5.cell? ⟨wr.heap.size, 3, none⟩ = some (.int .i64 ua) := (hb5.cell (p := ⟨wr.heap.size, 3, none⟩) (by simp)).trans (by simp [go_sem])
      clear hb5 hps CX HBX HUX p0 p1 d0 d1 d2 d3 hz
      by_cases hno : un = n
      · have h2 : (un == n) = true := by simpa using hno
        have HV := Lib.hid (show UsedS (w.heap.size + 1) (w5.alloc (.cells #[.string pn, .int .i64 pz, .slice po pl.length pcap] 70)) (w.heap.size + 1) (usOf x.lib ((x.units.take (k + 1)).filter (notNo n))) by rw [HFS.out, if_neg (by rw [HNO.out]; simpa using hno)]; exact HU6.out)
        have h2' := Eq.symm hno
        clear hno h2
        subst h2'
        go_wp2_with fail
        go_roundw
        case rel => exact ⟨k + 1, by omega, by first | rfl | go_num, HB6, HV, by simp; omega⟩
        case measure => simp [intOf]; omega
      · have h2 : (un == n) = false := by simpa using hno
        have HTK := Lib.hid (take_any (w.heap.size + 1) (w.heap.size + 1) _ ⟨un, up, uu, ua⟩ pz _ HU6.out HLK.out (Nat.le_refl _) HUI.out (by simpa using ha1) (by omega) (by simpa using ha2))
        simp only at HTK
        have HFX := Lib.hid (show usOf x.lib ((x.units.take (k + 1)).filter (notNo n)) = usOf x.lib ((x.units.take k).filter (notNo n)) ++ [(⟨un, up, uu, ua⟩, pz)] by rw [HFS.out, if_pos (by rw [HNO.out]; simpa using hno), HUX2.out])
        clear HU6
        go_wp2_with fail
        refine HTK.out.mono ?_
        rintro e w7 ⟨rfl, hu7, hb7⟩
        have HB7 := Lib.hid (HB6.out.trans hb7)
        have HU7 := Lib.hid (show UsedS (w.heap.size + 1) w7 (w.heap.size + 1) (usOf x.lib ((x.units.take (k + 1)).filter (notNo n))) by rw [HFX.out]; exact hu7)
        have hz7 := hb7.size
        simp only [World.size_alloc] at hz7
        clear hu7 hb7 HTK f0 f1 f2 f3 hno
        go_wp2_with fail
        go_roundw
        case rel => exact ⟨k + 1, by omega, by first | rfl | go_num, HB7, HU7, by omega⟩
        case measure => simp [intOf]; omega
    · have HBO := Lib.hid hB
      have hkk : k = x.units.length := by omega
      clear hB
      subst hkk
      have HUE := Lib.hid (show UsedS (w.heap.size + 1) wr (w.heap.size + 1) UBN by have h := HUS.out; rwa [HUB.out] at h)
      go_wp2_with fail
      go_ret
      exact ⟨rfl, hlw, HUE.out, HBO.out⟩
end Go.Proofs.Ytabalicembhjmaa
