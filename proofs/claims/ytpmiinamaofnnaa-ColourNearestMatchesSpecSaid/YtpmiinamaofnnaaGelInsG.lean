/- slices.Insert at own rows of gels: no room; all roads. (printed by wip/gen/gen_gelins.py) -/
import Derived.Test.YtpmiinamaofnnaaGelIns
namespace Go.Proofs.Ytpmiinamaofnnaa
open Go.RowKit Go.Lib
open Go (info_parts)
set_option linter.unusedVariables false
set_option linter.unusedSimpArgs false

set_option maxHeartbeats 4000000 in
set_option maxRecDepth 100000 in
theorem gels_insert_grow (base g cap i vb : Nat) (l : List Gel) (y : Gel) (cur vcs : Array Value) (T : TypeId) (w : World) (hbase : base ≤ w.heap.size) (hg : w.heap[g]? = some (.cells cur 29 (0, 0))) (hi : i < l.length) (hnc : l.length ≤ cap) (hroom : cap < l.length + 1) (hcs : cur.size = cap * 5) (htake : cur.toList.take (l.length * 5) = l.flatMap gelC) (hl : l.length ≤ 100000)
    (hv : w.heap[vb]? = some (.cells vcs T (0, 0))) (hvc : vcs.toList = gelC y) (hne : vb ≠ g) :
    Calls Try.prog 28 #[.slice (some ⟨g, 0, none⟩) l.length cap, .int .i64 i, .slice (some ⟨vb, 0, none⟩) 1 1] w fun e w' => ∃ v', e = .returned v' ∧ OwnG base w' v' (insG l i y) ∧ w.grownBy w' (some g) := by
  obtain ⟨i0, hi0, hz0, hzs, hzb⟩ := info_parts infoOwnG
  have hIF := Lib.hid (insG_flat l i (by omega) y)
  have hIL := Lib.hid (insG_len l (p := i) (by omega) y)
  generalize hn : l.length = n at *
  have hxl : (l.flatMap gelC).length = n * 5 := by rw [flat_gel_len, hn]
  obtain ⟨ds, hds⟩ : ∃ ds, ds = (l.flatMap gelC).drop (i * 5) := ⟨_, rfl⟩
  have hdl : ds.length = (n - i) * 5 := by rw [hds, List.length_drop, hxl]; omega
  have hall : ∀ t u, (l.flatMap gelC)[t]? = some u → w.cell? ⟨g, t, none⟩ = some u := by
    intro t u ht
    rw [← htake, List.getElem?_take] at ht
    split at ht
    · rw [row_cell2 hg]
      simpa using ht
    · cases ht
  have hbw : g < w.heap.size := (Array.getElem?_eq_some_iff.1 hg).1
  have hvw : vb < w.heap.size := (Array.getElem?_eq_some_iff.1 hv).1
  have hkk : (n : Int) + 1 - (i : Int) = ((n + 1 - i : Nat) : Int) := by omega
  have hik : i + (n + 1 - i) = n + 1 := by omega
  have hold : (Builtin.firstCells i0.size i (.slice (some ⟨g, 0, none⟩) i cap)).run Try.prog w.drew = .ok ((l.flatMap gelC).take (i * 5)).toArray w.drew := by
    rw [hzs]
    exact run_firstCells_some w.drew 5 i ⟨g, 0, none⟩ i cap _ (by rw [List.length_take, hxl]; omega) (fun j v hj => by
      rw [addr_plus, Nat.zero_add]
      rw [List.getElem?_take] at hj
      split at hj
      · exact hall j v hj
      · cases hj)
  have hrz : ∀ ty, (Builtin.append_ #[22, 3] ty #[.slice (some ⟨g, 0, none⟩) i cap, .int .i64 ((n : Int) + 1 - (i : Int))]).run Try.prog w =
      .ok (.slice (some ⟨w.heap.size, 0, none⟩) (n + 1) (grownCap w (n + 1) cap 29)) (w.drew.alloc (.cells (((l.flatMap gelC).take (i * 5)).toArray ++ Builtin.zeroCells (Value.agg #[.int .i64 0, .string ⟨#[]⟩, .int .i64 0, .int .i64 0, .int .i64 0]).cells (n + 1 - i) ++ Builtin.zeroCells (Value.agg #[.int .i64 0, .string ⟨#[]⟩, .int .i64 0, .int .i64 0, .int .i64 0]).cells (grownCap w (n + 1) cap 29 - (n + 1))) 29)) := fun ty => by
    have h := Lib.run_append_grow_zeros w 22 3 ty 29 i0 _ .i64 .i64 Try.underlying22 Try.underlying3 hi0 hz0 (some ⟨g, 0, none⟩) i cap _ hold (n + 1 - i) (by omega) (by omega) (by omega) (by omega) (by rw [hzb]; omega) (by rw [hzb, hik]; exact growslice_fits hroom (by omega))
    rw [hik] at h
    rw [hkk]
    exact h
  obtain ⟨G, hG⟩ : ∃ G, G = grownCap w (n + 1) cap 29 := ⟨_, rfl⟩
  obtain ⟨ROW, hROW⟩ : ∃ ROW : Array Value, ROW = ((l.flatMap gelC).take (i * 5)).toArray ++ Builtin.zeroCells (Value.agg #[.int .i64 0, .string ⟨#[]⟩, .int .i64 0, .int .i64 0, .int .i64 0]).cells (n + 1 - i) ++ Builtin.zeroCells (Value.agg #[.int .i64 0, .string ⟨#[]⟩, .int .i64 0, .int .i64 0, .int .i64 0]).cells (G - (n + 1)) := ⟨_, rfl⟩
  rw [← hG] at hrz
  rw [← hROW] at hrz
  have hGn : n + 1 ≤ G := by rw [hG]; exact grownCap_ge w _ _ _
  have hGm : G ≤ maxLen := by rw [hG]; exact grownCap_le_maxLen w (n + 1) cap _ (by unfold maxLen; omega)
  have hRl : ROW.size = G * 5 := by
    rw [hROW]
    simp only [Array.size_append, List.size_toArray, size_zeroCells, List.length_take, hxl]
    simp [Value.cells]
    omega
  have hRt : ROW.toList.take (i * 5) = (l.flatMap gelC).take (i * 5) := by
    rw [hROW]
    simp only [Array.toList_append, List.append_assoc]
    rw [List.take_append_of_le_length (by simp only [List.length_take, hxl]; omega), List.take_of_length_le (by simp only [List.length_take]; exact Nat.min_le_left _ _)]
  obtain ⟨W1, hW1⟩ : ∃ W1, W1 = w.drew.alloc (.cells ROW 29) := ⟨_, rfl⟩
  rw [← hW1] at hrz
  have hg1 : W1.heap[w.heap.size]? = some (.cells ROW 29 (0, 0)) := by rw [hW1]; exact heap_alloc_new w.drew _
  have ho1 : ∀ k, k < w.heap.size → W1.heap[k]? = w.heap[k]? := fun k hk => by rw [hW1]; exact Below.heap_alloc w.drew _ k hk
  have hv1 : W1.heap[vb]? = some (.cells vcs T (0, 0)) := (ho1 vb hvw).trans hv
  have hgg1 : W1.heap[g]? = some (.cells cur 29 (0, 0)) := (ho1 g hbw).trans hg
  have hcpA : ∀ (W : World), (∀ x, W.cell? x = W1.cell? x) → (∀ x, W.frozen? x = W1.frozen? x) → ∀ ty dc, (Builtin.copy_ #[22, 22] ty #[.slice (some ⟨w.heap.size, i * 5, none⟩) (n + 1 - i) dc, .slice (some ⟨vb, 0, none⟩) 1 1]).run Try.prog W = .ok (goInt (1 : Nat)) (W.setCells w.heap.size (i * 5) (gelC y)) := fun W hWc hWf ty dc =>
    run_copy_size W _ _ ty 29 5 w.heap.size (i * 5) (n + 1 - i) dc ⟨vb, 0, none⟩ 1 1 1 (gelC y) Try.underlying22 infoGel5 (by simp only [Nat.min_def]; split <;> omega) rfl
      (fun j v hj => by rw [addr_plus, hWc, row_cell2 hv1, Nat.zero_add, ← Array.getElem?_toList, hvc]; exact hj)
      (fun j hj => by rw [hWc]; exact row_isSome2 hg1 (by rw [hRl]; simp [gelC] at hj; omega)) (fun j hj => by rw [hWf]; exact frozen_of_row W1 _ _ ROW _ hg1) (fun v hv => one_gelC [y] v (by simpa using hv))
  obtain ⟨c2, e1, e2⟩ := setCells_row w.heap.size 29 (gelC y) (i * 5) W1 ROW hg1 (by rw [hRl]; simp [gelC]; omega)
  have sc2 : c2.size = G * 5 := by
    have := congrArg List.length e2
    simp only [List.length_append, List.length_take, List.length_drop, Array.length_toList, hRl] at this
    simp [gelC] at this
    omega
  have hg2 : (W1.setCells w.heap.size (i * 5) (gelC y)).heap[g]? = some (.cells cur 29 (0, 0)) := ((setCells_grown2 w.heap.size (gelC y) _ W1).block g (by rw [hW1]; simp; omega) (by intro e; injection e with e; omega)).trans hgg1
  have hcpB : ∀ (W : World), (∀ x, W.cell? x = (W1.setCells w.heap.size (i * 5) (gelC y)).cell? x) → (∀ x, W.frozen? x = (W1.setCells w.heap.size (i * 5) (gelC y)).frozen? x) → ∀ ty dc sc, (Builtin.copy_ #[22, 22] ty #[.slice (some ⟨w.heap.size, (i + 1) * 5, none⟩) (n - i) dc, .slice (some ⟨g, i * 5, none⟩) (n - i) sc]).run Try.prog W = .ok (goInt (n - i : Nat)) (W.setCells w.heap.size ((i + 1) * 5) ds) := fun W hWc hWf ty dc sc =>
    run_copy_size W _ _ ty 29 5 w.heap.size ((i + 1) * 5) (n - i) dc ⟨g, i * 5, none⟩ (n - i) sc (n - i) ds Try.underlying22 infoGel5 (by simp only [Nat.min_def]; split <;> omega) hdl
      (fun j v hj => by
        rw [addr_plus, hWc, row_cell2 hg2, ← row_cell2 hg]
        exact hall _ v (by rwa [hds, List.getElem?_drop] at hj))
      (fun j hj => by rw [hWc]; exact row_isSome2 e1 (by rw [sc2]; omega)) (fun j hj => by rw [hWf]; exact frozen_of_row _ _ _ c2 _ e1) (fun v hv => one_gelC l v (List.mem_of_mem_drop (by rw [← hds]; exact hv)))
  have hfin : Hid (∀ A : World, (∀ k : Nat, A.heap[k]? = W1.heap[k]?) → A.heap.size = W1.heap.size → A.os = w.os → A.tape = w.tape → A.output = w.output → OwnG base ((A.setCells w.heap.size (i * 5) (gelC y)).setCells w.heap.size ((i + 1) * 5) ds) (.slice (some ⟨w.heap.size, 0, none⟩) (n + 1) G) (insG l i y) ∧ w.grownBy ((A.setCells w.heap.size (i * 5) (gelC y)).setCells w.heap.size ((i + 1) * 5) ds) (some g)) := by
    intro A hA1 hA2 hA3 hA4 hA5
    have hgA : A.heap[w.heap.size]? = some (.cells ROW 29 (0, 0)) := (hA1 _).trans hg1
    obtain ⟨c, f1, f2, f3⟩ := row_two hgA (gelC y) ds (p := i * 5) (by rw [hRl, hdl]; simp [gelC]; omega)
    have hp : i * 5 + (gelC y).length = (i + 1) * 5 := by simp [gelC]; omega
    rw [hp] at f1 f3
    have hq : (i + 1) * 5 + ds.length = (n + 1) * 5 := by rw [hdl]; omega
    rw [hq, hRt] at f3
    refine ⟨?_, ?_⟩
    · unfold OwnG
      rw [hIL.out, hIF.out]
      refine ⟨by simp only [List.length_append, List.length_take, List.length_drop, hxl]; simp [gelC]; omega, .inr ⟨w.heap.size, G, c, rfl, hbase, f1, hGn, hGm, f2.trans hRl, ?_⟩⟩
      rw [f3, hds]
    · have h1 : w.grownBy A (some g) := ⟨hA3, hA4, hA5, by rw [hA2, hW1]; simp, fun k hk _ => (hA1 k).trans (ho1 k hk)⟩
      exact grown_new (grown_new h1 (setCells_grown2 _ _ _ _) (Nat.le_refl _)) (setCells_grown2 _ _ _ _) (Nat.le_refl _)
  clear hkk hRl hRt e2 sc2 hall hds hdl hcs htake hxl
  have mixed : Try.prog.follows Departure.mixedOrders = true := by kernel_rfl
  have hz2 : ¬ ((i : Int) = (n : Int)) := by omega
  have hz3 : (cap : Int) < (n : Int) + 1 := by omega
  have hGi : ¬ (G = i) := by omega
  have hGim : ¬ (G = i + 1) := by omega
  have hci : ¬ (cap = i) := by omega
  unfold maxLen at hGm
  clear hvc
  generalize hys : gelC y = ys at *
  clear hys
  subst hW1
  have hDW : (w.alloc (.cells ROW 29)).drew = w.drew.alloc (.cells ROW 29) := rfl
  have hE1 : ∀ x, ((w.alloc (.cells ROW 29)).drew).cell? x = (w.drew.alloc (.cells ROW 29)).cell? x := fun x => rfl
  have hE2 : ∀ x, ((w.alloc (.cells ROW 29)).drew).frozen? x = (w.drew.alloc (.cells ROW 29)).frozen? x := fun x => rfl
  have hF1 : ∀ x, (((w.alloc (.cells ROW 29)).drew.setCells w.heap.size (i * 5) ys).drew).cell? x = ((w.drew.alloc (.cells ROW 29)).setCells w.heap.size (i * 5) ys).cell? x := fun x => by rw [hDW]; rfl
  have hF2 : ∀ x, (((w.alloc (.cells ROW 29)).drew.setCells w.heap.size (i * 5) ys).drew).frozen? x = ((w.drew.alloc (.cells ROW 29)).setCells w.heap.size (i * 5) ys).frozen? x := fun x => by rw [hDW]; rfl
  have hw1 : IntKind.i64.wrap ((i : Int) + 1) = (i : Int) + 1 := by rw [IntKind.wrap_i64]; omega
  have hw2 : IntKind.i64.wrap ((n : Int) + 1) = (n : Int) + 1 := by rw [IntKind.wrap_i64]; omega
  have hw3 : IntKind.i64.wrap ((n : Int) + 1 - (i : Int)) = (n : Int) + 1 - (i : Int) := by rw [IntKind.wrap_i64]; omega
  have hb1 : (0 : Int) ≤ (i : Int) + 1 := by omega
  have hin : i ≤ n := by omega
  have htn : ((i : Int) + 1).toNat = i + 1 := by omega
  have hb3 : (i : Int) ≤ (n : Int) := by omega
  clear hDW hik hold hROW hG hg1 ho1 hv1 hgg1 e1 hg2 hg hv
  go_enter Try.func28, Try.ntmps28
  go_wp2_with (first
    | (at_builtin; refine Lib.wpList_append_run _ rfl _ _ _ _ rfl _ _ rfl rfl _ _ (hrz _) ?_)
    | (at_builtin; refine wpList_copy_runI _ rfl _ _ 22 22 rfl _ _ rfl rfl (hcpA _ hE1 hE2 _ _) ?_)
    | (at_builtin; refine wpList_copy_runI _ rfl _ _ 22 22 rfl _ _ rfl rfl (hcpB _ (fun _ => rfl) (fun _ => rfl) _ _ _) ?_))
  go_region_law_o (refine step_copy_runI rfl _ _ 22 22 rfl (.slice (some ⟨w.heap.size, (i + 1) * 5, none⟩) (n - i) (G - (i + 1))) (.slice (some ⟨g, i * 5, none⟩) (n - i) (cap - i)) (by simp [Act.eval, Act.put]) (by simp [Act.eval, Act.put]) (hcpB _ hF1 hF2 3 (G - (i + 1)) (cap - i)) ?_)
  go_wp2_with fail
  go_ret
  obtain ⟨f1, f2⟩ := hfin.out ((w.alloc (.cells ROW 29)).drew.drew) (fun k => rfl) rfl rfl rfl rfl
  rw [drew_setCells]
  exact ⟨_, rfl, f1, f2⟩
set_option maxHeartbeats 4000000 in
set_option maxRecDepth 100000 in
theorem gels_insert_end (base vb : Nat) (v : Value) (l : List Gel) (y : Gel) (vcs : Array Value) (T : TypeId) (w : World) (h : OwnG base w v l) (hbase : base ≤ w.heap.size) (hl : l.length ≤ 100000)
    (hv : w.heap[vb]? = some (.cells vcs T (0, 0))) (hvc : vcs.toList = gelC y) :
    Calls Try.prog 28 #[v, .int .i64 l.length, .slice (some ⟨vb, 0, none⟩) 1 1] w fun e w' => ∃ v', e = .returned v' ∧ OwnG base w' v' (insG l l.length y) ∧ w.grownBy w' v.ownBlock := by
  obtain ⟨i0, hi0, hz0, hz1, hz2⟩ := info_parts infoOwnG
  have HO := Lib.hid h
  have HI := Lib.hid (show insG l l.length y = l ++ [y] by simp [insG])
  have hcap : ∃ ao cap, v = .slice ao l.length cap ∧ l.length ≤ cap ∧ cap ≤ maxLen ∧ (ao = none → l.length = 0 ∧ cap = 0) ∧ ∀ a, ao = some a → ∃ g, a = ⟨g, 0, none⟩ := by
    rcases h.2 with h' | ⟨g, cap, cur, e1, _, _, h3, h4, _⟩
    · exact ⟨none, 0, by rw [h'.1, h'.2], by omega, by simp, fun _ => ⟨h'.2, rfl⟩, by simp⟩
    · exact ⟨_, cap, e1, h3, h4, by simp, fun a ha => ⟨g, (Option.some.inj ha).symm⟩⟩
  obtain ⟨ao, cap, rfl, hc1, hc2, hc3, hc4⟩ := hcap
  have hc : Hid (∀ (j : Nat) u, (gelC y)[j]? = some u → w.cell? ((⟨vb, 0, none⟩ : Addr).add j) = some u) := by
    intro j u hj
    rw [addr_plus, row_cell2 hv, Nat.zero_add, ← Array.getElem?_toList, hvc]
    exact hj
  unfold maxLen at hc2
  have hfin : Hid (∀ v' w', w'.ownsRow base 29 5 v' (l.length + 1) (l.flatMap gelC ++ gelC y) → OwnG base w' v' (insG l l.length y)) := by
    intro v' w' h1
    unfold OwnG
    rw [HI.out, List.flatMap_append, List.length_append]
    simpa using h1
  have h1y : Hid (∀ u ∈ gelC y, u.oneCell' = true) := fun u hu => one_gelC [y] u (by simpa using hu)
  generalize hn : l.length = n at *
  clear h hv hvc HI
  cases ao with
  | none =>
    obtain ⟨rfl, rfl⟩ := hc3 rfl
    clear hc3 hc4
    go_enter Try.func28, Try.ntmps28
    go_wp2_with (at_builtin; refine wpList_append_own _ rfl _ _ 22 rfl base 29 i0 (.agg #[.int .i64 0, .string ⟨#[]⟩, .int .i64 0, .int .i64 0, .int .i64 0]) 5 48 Try.underlying22 hi0 hz0 hz1 hz2 rfl (by omega) _ 0 (l.flatMap gelC) rfl (by have h := HO.out; unfold OwnG at h; rw [hn] at h; exact h) ⟨vb, 0, none⟩ 1 1 (gelC y) rfl rfl hc.out h1y.out (by unfold maxLen; omega) (by omega) hbase ?_)
    intro v' w' h1 h2 _
    go_wp2_with fail
    go_ret
    exact ⟨_, rfl, hfin.out _ _ h1, h2⟩
  | some a =>
    obtain ⟨g, rfl⟩ := hc4 a rfl
    clear hc3 hc4
    go_enter Try.func28, Try.ntmps28
    go_wp2_with (at_builtin; refine wpList_append_own _ rfl _ _ 22 rfl base 29 i0 (.agg #[.int .i64 0, .string ⟨#[]⟩, .int .i64 0, .int .i64 0, .int .i64 0]) 5 48 Try.underlying22 hi0 hz0 hz1 hz2 rfl (by omega) _ n (l.flatMap gelC) rfl (by have h := HO.out; unfold OwnG at h; rw [hn] at h; exact h) ⟨vb, 0, none⟩ 1 1 (gelC y) rfl rfl hc.out h1y.out (by unfold maxLen; omega) (by omega) hbase ?_)
    all_goals
      intro v' w' h1 h2 _
      go_wp2_with fail
      go_ret
      exact ⟨_, rfl, hfin.out _ _ h1, h2⟩
theorem gels_insert (base vb i : Nat) (v : Value) (l : List Gel) (y : Gel) (vcs : Array Value) (T : TypeId) (w : World) (h : OwnG base w v l) (hbase : base ≤ w.heap.size) (hi : i ≤ l.length) (hl : l.length ≤ 100000)
    (hv : w.heap[vb]? = some (.cells vcs T (0, 0))) (hvc : vcs.toList = gelC y) (hne : v.ownBlock ≠ some vb) :
    Calls Try.prog 28 #[v, .int .i64 i, .slice (some ⟨vb, 0, none⟩) 1 1] w fun e w' => ∃ v', e = .returned v' ∧ OwnG base w' v' (insG l i y) ∧ w.grownBy w' v.ownBlock := by
  by_cases c : i = l.length
  · subst c
    exact gels_insert_end base vb v l y vcs T w h hbase hl hv hvc
  · obtain ⟨g, cap, cur, rfl, hbg, hg, hnc, hcm, hcs, htake⟩ : ∃ g cap cur, v = .slice (some ⟨g, 0, none⟩) l.length cap ∧ base ≤ g ∧ w.heap[g]? = some (.cells cur 29 (0, 0)) ∧ l.length ≤ cap ∧ cap ≤ maxLen ∧ cur.size = cap * 5 ∧ cur.toList.take (l.length * 5) = l.flatMap gelC := by
      rcases h.2 with ⟨_, h'⟩ | h'
      · omega
      · exact h'
    have hn : vb ≠ g := fun e => hne (by simp [Value.ownBlock, e])
    by_cases d : l.length + 1 ≤ cap
    · exact gels_insert_shift base g cap i vb l y cur vcs T w hbg hg (by omega) d hcm hcs htake hl hv hvc hn
    · exact gels_insert_grow base g cap i vb l y cur vcs T w hbase hg (by omega) hnc (by omega) hcs htake hl hv hvc hn
end Go.Proofs.Ytpmiinamaofnnaa
