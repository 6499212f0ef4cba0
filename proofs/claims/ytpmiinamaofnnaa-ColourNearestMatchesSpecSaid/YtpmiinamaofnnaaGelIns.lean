/- slices.Insert at own rows of gels. (printed by wip/gen/gen_gelins.py out of XUnitRow and XUnitGrow) -/
import Derived.Test.YtpmiinamaofnnaaGelOwn
import Derived.Test.YtpmiinamaofnnaaRowMut
import Derived.Shelf.Spec.SlicesInsert
import Derived.Laws.NewBlocks
import Derived.Lib.Hide
namespace Go.Proofs.Ytpmiinamaofnnaa
open Go.RowKit Go.Lib
open Go (info_parts)
set_option linter.unusedVariables false
set_option linter.unusedSimpArgs false

theorem flatG_len {α : Type} (f : α → List Value) (n : Nat) (hn : ∀ y, (f y).length = n) (l : List α) : (l.flatMap f).length = l.length * n := by
  induction l with
  | nil => simp
  | cons a l ih =>
    simp only [List.flatMap_cons, List.length_append, List.length_cons, hn, ih]
    rw [Nat.succ_mul]; omega
theorem flatG_take {α : Type} (f : α → List Value) (n : Nat) (hn : ∀ y, (f y).length = n) (l : List α) (k : Nat) (hk : k ≤ l.length) : (l.flatMap f).take (k * n) = (l.take k).flatMap f := by
  induction l generalizing k with
  | nil => simp
  | cons a l ih =>
    match k with
    | 0 => simp
    | k + 1 =>
      simp only [List.flatMap_cons, List.take_succ_cons]
      rw [Nat.succ_mul, Nat.add_comm (k * n) n, List.take_append, hn, List.take_of_length_le (by rw [hn]; omega)]
      rw [show n + k * n - n = k * n by omega, ih k (by simpa using hk)]
def insG (l : List Gel) (p : Nat) (u : Gel) : List Gel := l.take p ++ u :: l.drop p
theorem insG_len (l : List Gel) {p : Nat} (hp : p ≤ l.length) (u : Gel) : (insG l p u).length = l.length + 1 := by
  unfold insG
  simp
  omega
theorem zeroGel_ (w : World) : (zeroValue 29).run Try.prog w = .ok (.agg #[.int .i64 0, .string ⟨#[]⟩, .int .i64 0, .int .i64 0, .int .i64 0]) w := by kernel_rfl
theorem sizeGel_ (w : World) : (Go.sizeOf 29).run Try.prog w = .ok 5 w := by kernel_rfl
theorem infoGel5 : (Try.prog.info? 29).map (·.size) = some 5 := by kernel_rfl
theorem one_gelC (l : List Gel) : ∀ u ∈ l.flatMap gelC, u.oneCell' = true := by
  intro u hu
  obtain ⟨y, _, hy⟩ := List.mem_flatMap.1 hu
  simp [gelC] at hy
  rcases hy with rfl | rfl | rfl | rfl | rfl <;> rfl
theorem flat_gel_len (l : List Gel) : (l.flatMap gelC).length = l.length * 5 := flatG_len gelC 5 (fun _ => rfl) l
theorem insG_flat (l : List Gel) (i : Nat) (hi : i ≤ l.length) (y : Gel) : (insG l i y).flatMap gelC = (l.flatMap gelC).take (i * 5) ++ gelC y ++ (l.flatMap gelC).drop (i * 5) := by
  unfold insG
  rw [flatG_take gelC 5 (fun _ => rfl) l i hi]
  have h : l.flatMap gelC = (l.take i).flatMap gelC ++ (l.drop i).flatMap gelC := by rw [← List.flatMap_append, List.take_append_drop]
  have hd : (l.flatMap gelC).drop (i * 5) = (l.drop i).flatMap gelC := by
    rw [h, List.drop_append_of_le_length (by rw [flat_gel_len, List.length_take]; omega), List.drop_of_length_le (by rw [flat_gel_len, List.length_take]; omega), List.nil_append]
  rw [hd]
  simp
theorem shape_row {w : World} {g : Nat} {cur : Array Value} {T : TypeId} (h : w.heap[g]? = some (.cells cur T (0, 0))) : w.shape? g = some (T, cur.size) := by simp [World.shape?, h]
set_option maxHeartbeats 4000000 in
set_option maxRecDepth 100000 in
theorem gels_insert_shift (base g cap i vb : Nat) (l : List Gel) (y : Gel) (cur vcs : Array Value) (T : TypeId) (w : World) (hbg : base ≤ g) (hg : w.heap[g]? = some (.cells cur 29 (0, 0))) (hi : i < l.length) (hnc : l.length + 1 ≤ cap) (hcm : cap ≤ maxLen) (hcs : cur.size = cap * 5) (htake : cur.toList.take (l.length * 5) = l.flatMap gelC) (hl : l.length ≤ 100000)
    (hv : w.heap[vb]? = some (.cells vcs T (0, 0))) (hvc : vcs.toList = gelC y) (hne : vb ≠ g) :
    Calls Try.prog 28 #[.slice (some ⟨g, 0, none⟩) l.length cap, .int .i64 i, .slice (some ⟨vb, 0, none⟩) 1 1] w fun e w' => ∃ v', e = .returned v' ∧ OwnG base w' v' (insG l i y) ∧ w.grownBy w' (some g) := by
  have hov : ∀ lb cb, (callFunc 35 #[.slice (some ⟨vb, 0, none⟩) 1 1, .slice (some ⟨g, (i + 1) * 5, none⟩) lb cb]).run Try.prog w = .ok (.value (.bool false)) w := fun lb cb => by
    rw [run_callFunc_extern Try.func35 (by kernel_rfl) (by kernel_rfl) (by kernel_rfl) (e := Extern.SlicesOverlaps.overlaps #[22, 22] #[4]) (by kernel_rfl),
      Lib.run_overlaps_apart w 22 4 29 Try.underlying22 5 sizeGel_ ⟨vb, 0, none⟩ ⟨g, (i + 1) * 5, none⟩ 1 1 lb cb hne T 29 vcs.size cur.size (shape_row hv) (shape_row hg) (by omega) (frozen_of_row w vb _ vcs _ hv) (frozen_of_row w vb _ vcs _ hv)]
    rfl
  generalize hn : l.length = n at *
  have hxl : (l.flatMap gelC).length = n * 5 := by rw [flat_gel_len, hn]
  obtain ⟨ds, hds⟩ : ∃ ds, ds = (l.flatMap gelC).drop (i * 5) := ⟨_, rfl⟩
  have hdl : ds.length = (n - i) * 5 := by rw [hds, List.length_drop, hxl]; omega
  have hget : ∀ t u, ds[t]? = some u → w.cell? ⟨g, i * 5 + t, none⟩ = some u := by
    intro t u ht
    rw [hds, List.getElem?_drop, ← htake, List.getElem?_take] at ht
    split at ht
    · rw [row_cell2 hg]
      simpa using ht
    · cases ht
  have hcp1 : ∀ ty dc sc, (Builtin.copy_ #[22, 22] ty #[.slice (some ⟨g, (i + 1) * 5, none⟩) (n - i) dc, .slice (some ⟨g, i * 5, none⟩) (n + 1 - i) sc]).run Try.prog w.drew = .ok (goInt (n - i : Nat)) (w.drew.setCells g ((i + 1) * 5) ds) := fun ty dc sc =>
    run_copy_size w.drew _ _ ty 29 5 g ((i + 1) * 5) (n - i) dc ⟨g, i * 5, none⟩ (n + 1 - i) sc (n - i) ds Try.underlying22 infoGel5 (by simp only [Nat.min_def]; split <;> omega) hdl
      (fun j v hj => by rw [addr_plus]; exact hget j v hj)
      (fun j hj => row_isSome2 (w := w) hg (by omega)) (fun j hj => frozen_of_row w g _ cur _ hg) (fun v hv => one_gelC l v (List.mem_of_mem_drop (by rw [← hds]; exact hv)))
  obtain ⟨W1, hW1⟩ : ∃ W1, W1 = w.drew.setCells g ((i + 1) * 5) ds := ⟨_, rfl⟩
  have hgd : w.drew.heap[g]? = some (.cells cur 29 (0, 0)) := hg
  obtain ⟨c1, e1, e2⟩ := setCells_row g 29 ds ((i + 1) * 5) w.drew cur hgd (by rw [hdl]; omega)
  rw [← hW1] at e1
  have sc1 : c1.size = cap * 5 := by
    have := congrArg List.length e2
    simp only [List.length_append, List.length_take, List.length_drop, Array.length_toList, hdl] at this
    omega
  have hv1 : W1.heap[vb]? = some (.cells vcs T (0, 0)) := by
    rw [hW1]
    exact ((setCells_grown2 g ds _ w.drew).block vb (by have := (Array.getElem?_eq_some_iff.1 hv).1; exact this) (by intro e; injection e with e; exact hne e)).trans hv
  have hcp2 : ∀ (W : World), (∀ x, W.cell? x = W1.cell? x) → (∀ x, W.frozen? x = W1.frozen? x) → ∀ ty dc, (Builtin.copy_ #[22, 22] ty #[.slice (some ⟨g, i * 5, none⟩) (n + 1 - i) dc, .slice (some ⟨vb, 0, none⟩) 1 1]).run Try.prog W = .ok (goInt (1 : Nat)) (W.setCells g (i * 5) (gelC y)) := fun W hWc hWf ty dc =>
    run_copy_size W _ _ ty 29 5 g (i * 5) (n + 1 - i) dc ⟨vb, 0, none⟩ 1 1 1 (gelC y) Try.underlying22 infoGel5 (by simp only [Nat.min_def]; split <;> omega) rfl
      (fun j v hj => by rw [addr_plus, hWc, row_cell2 hv1, Nat.zero_add, ← Array.getElem?_toList, hvc]; exact hj)
      (fun j hj => by rw [hWc]; exact row_isSome2 e1 (by rw [sc1]; simp [gelC] at hj; omega)) (fun j hj => by rw [hWf]; exact frozen_of_row W1 g _ c1 _ e1) (fun v hv => one_gelC [y] v (by simpa using hv))
  have hfin : Hid (∃ v', v' = (Value.slice (some ⟨g, 0, none⟩) (n + 1) cap) ∧ OwnG base (W1.setCells g (i * 5) (gelC y)) v' (insG l i y) ∧ w.grownBy (W1.setCells g (i * 5) (gelC y)) (some g)) := by
    refine ⟨_, rfl, ?_, ?_⟩
    · obtain ⟨c, f1, f2, f3⟩ := row_ins (size := 5) hgd (i := i) (n := n) (by omega) hnc hcs (gelC y) rfl
      rw [htake, ← hds, ← hW1] at f1
      rw [htake] at f3
      unfold OwnG
      rw [insG_len l (by omega), insG_flat l i (by omega), hn]
      refine ⟨by simp only [List.length_append, List.length_take, List.length_drop, hxl]; simp [gelC]; omega, .inr ⟨g, cap, c, rfl, hbg, f1, by omega, hcm, f2, f3⟩⟩
    · rw [hW1]
      exact grown_trans (grown_trans (grown_drew w _) (setCells_grown2 g _ _ _)) (setCells_grown2 g _ _ _)
  rw [← hW1] at hcp1
  have mixed : Try.prog.follows Departure.mixedOrders = true := by kernel_rfl
  have hz2 : ¬ ((i : Int) = (n : Int)) := by omega
  have hz3 : ¬ ((cap : Int) < (n : Int) + 1) := by omega
  have hw1 : IntKind.i64.wrap ((i : Int) + 1) = (i : Int) + 1 := by rw [IntKind.wrap_i64]; omega
  have hw2 : IntKind.i64.wrap ((n : Int) + 1) = (n : Int) + 1 := by rw [IntKind.wrap_i64]; omega
  have hb1 : (0 : Int) ≤ (i : Int) + 1 := by omega
  have hin : i ≤ n := by omega
  have htn : ((i : Int) + 1).toNat = i + 1 := by omega
  have hb2 : ¬ (cap = i + 1) := by omega
  have hb3 : (i : Int) ≤ (n : Int) + 1 := by omega
  have hb4 : ¬ (cap = i) := by omega
  unfold maxLen at hcm
  clear hg hgd e1 e2 sc1 hv hv1 htake hcs hget hds hdl hvc
  go_enter Try.func28, Try.ntmps28
  go_wp2_with (simp only [hov])
  go_region_law_o (refine step_copy_runI rfl _ _ 22 22 rfl _ _ (by simp [Act.eval, Act.put]) (by simp [Act.eval, Act.put]) (hcp1 _ _ _) ?_)
  go_wp2_with (at_builtin; refine wpList_copy_runI _ rfl _ _ 22 22 rfl _ _ rfl rfl (hcp2 _ (fun _ => rfl) (fun _ => rfl) _ _) ?_)
  go_ret
  subst hW1
  obtain ⟨v', rfl, f1, f2⟩ := hfin.out
  exact ⟨_, rfl, f1, f2⟩
end Go.Proofs.Ytpmiinamaofnnaa
