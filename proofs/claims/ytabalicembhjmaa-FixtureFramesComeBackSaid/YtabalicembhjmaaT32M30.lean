/- slices.Insert and slices.Delete at own rows of units (walks after the kit's of int and string rows). -/
import Derived.Test.YtabalicembhjmaaT32M28
import Derived.Test.YtabalicembhjmaaT32M24
import Derived.Shelf.Spec.SlicesInsert

namespace Go.Proofs.Ytabalicembhjmaa
open Go.RowKit Go.Lib
open Go (info_parts)
set_option linter.unusedVariables false
set_option linter.unusedSimpArgs false

theorem zeroUnit_ (w : World) : (zeroValue 67).run Try.prog w = .ok (.agg #[.int .i64 0, .string ⟨#[]⟩, .int .i64 0, .int .i64 0]) w := by kernel_rfl
theorem sizeUnit_ (w : World) : (Go.sizeOf 67).run Try.prog w = .ok 4 w := by kernel_rfl
theorem infoUnit4 : (Try.prog.info? 67).map (·.size) = some 4 := by kernel_rfl
theorem one_untC (l : List Unt) : ∀ u ∈ l.flatMap untC, u.oneCell' = true := by
  intro u hu
  obtain ⟨y, _, hy⟩ := List.mem_flatMap.1 hu
  simp [untC] at hy
  rcases hy with rfl | rfl | rfl | rfl <;> rfl
theorem flat_unt_len (l : List Unt) : (l.flatMap untC).length = l.length * 4 := flat_len untC 4 (fun _ => rfl) l
theorem insU_flat (l : List Unt) (i : Nat) (hi : i ≤ l.length) (y : Unt) : (insU l i y).flatMap untC = (l.flatMap untC).take (i * 4) ++ untC y ++ (l.flatMap untC).drop (i * 4) := by
  unfold insU
  rw [flat_take untC 4 (fun _ => rfl) l i hi]
  have h : l.flatMap untC = (l.take i).flatMap untC ++ (l.drop i).flatMap untC := by rw [← List.flatMap_append, List.take_append_drop]
  have hd : (l.flatMap untC).drop (i * 4) = (l.drop i).flatMap untC := by
    rw [h, List.drop_append_of_le_length (by rw [flat_unt_len, List.length_take]; omega), List.drop_of_length_le (by rw [flat_unt_len, List.length_take]; omega), List.nil_append]
  rw [hd]
  simp
theorem delU_flat (l : List Unt) (i : Nat) (hi : i < l.length) : (delU l i).flatMap untC = (l.flatMap untC).take (i * 4) ++ (l.flatMap untC).drop ((i + 1) * 4) := by
  unfold delU
  rw [flat_take untC 4 (fun _ => rfl) l i (by omega)]
  have h : l.flatMap untC = (l.take (i + 1)).flatMap untC ++ (l.drop (i + 1)).flatMap untC := by rw [← List.flatMap_append, List.take_append_drop]
  have hd : (l.flatMap untC).drop ((i + 1) * 4) = (l.drop (i + 1)).flatMap untC := by
    rw [h, List.drop_append_of_le_length (by rw [flat_unt_len, List.length_take]; omega), List.drop_of_length_le (by rw [flat_unt_len, List.length_take]; omega), List.nil_append]
  rw [hd, List.flatMap_append]
theorem delU_len (l : List Unt) {i : Nat} (hi : i < l.length) : (delU l i).length = l.length - 1 := by
  unfold delU
  simp
  omega
set_option maxHeartbeats 4000000 in
set_option maxRecDepth 1000000 in
theorem units_delete (base : Nat) (v : Value) (l : List Unt) (i : Nat) (w : World) (h : OwnU base w v l) (hi : i < l.length) (hl : l.length ≤ 100000) :
    Calls Try.prog 65 #[v, .int .i64 i, .int .i64 ((i : Int) + 1)] w fun e w' => ∃ v', e = .returned v' ∧ OwnU base w' v' (delU l i) ∧ w.grownBy w' v.ownBlock := by
  obtain ⟨g, cap, cur, rfl, hbg, hg, hnc, hcm, hcs, htake⟩ : ∃ g cap cur, v = .slice (some ⟨g, 0, none⟩) l.length cap ∧ base ≤ g ∧ w.heap[g]? = some (.cells cur 67 (0, 0)) ∧ l.length ≤ cap ∧ cap ≤ maxLen ∧ cur.size = cap * 4 ∧ cur.toList.take (l.length * 4) = l.flatMap untC := by
    rcases h.2 with ⟨_, h'⟩ | h'
    · omega
    · exact h'
  obtain ⟨i0, hi0, hz0, hz1, hz2⟩ := info_parts units_info
  have hDF := Lib.hid (delU_flat l i hi)
  have hDL := Lib.hid (delU_len l hi)
  generalize hn : l.length = n at *
  obtain ⟨news, hnews⟩ : ∃ news, news = (l.flatMap untC).drop ((i + 1) * 4) := ⟨_, rfl⟩
  have hxl : (l.flatMap untC).length = n * 4 := by rw [flat_unt_len, hn]
  have hlen : news.length = (n - (i + 1)) * 4 := by rw [hnews, List.length_drop, hxl]; omega
  have hget : ∀ t u, news[t]? = some u → w.drew.cell? ⟨g, (i + 1) * 4 + t, none⟩ = some u := by
    intro t u ht
    rw [hnews, List.getElem?_drop, ← htake, List.getElem?_take] at ht
    split at ht
    · show w.cell? _ = _
      rw [row_cell2 hg]
      simpa using ht
    · cases ht
  obtain ⟨A, hA, hsrc⟩ : ∃ A : Addr, (if cap = i + 1 then some (⟨g, 0, none⟩ : Addr) else some ⟨g, (i + 1) * 4, none⟩) = some A ∧ Hid (∀ t u, news[t]? = some u → w.drew.cell? (A.add t) = some u) := by
    by_cases h : cap = i + 1
    · refine ⟨⟨g, 0, none⟩, by simp [h], fun t u hu => ?_⟩
      have h0 : news.length = 0 := by rw [hlen]; omega
      rw [List.length_eq_zero_iff.1 h0] at hu
      simp at hu
    · exact ⟨⟨g, (i + 1) * 4, none⟩, by simp [h], fun t u hu => by rw [addr_plus]; exact hget t u hu⟩
  have s1 : Hid (news.length = (n - (i + 1)) * 4) := hlen
  have s2 : Hid (∀ u ∈ news, u.oneCell' = true) := fun u hu => one_untC l u (List.mem_of_mem_drop (by rw [← hnews]; exact hu))
  have s3 : Hid (∀ t, t < news.length → (w.drew.cell? ⟨g, 0 + i * 4 + t, none⟩).isSome = true ∧ w.drew.frozen? ⟨g, 0 + i * 4 + t, none⟩ = false) := by
    intro t ht
    rw [hlen] at ht
    exact ⟨row_isSome2 (w := w) hg (by omega), frozen_of_row w g _ cur _ hg⟩
  obtain ⟨W1, hW1⟩ : ∃ W1, W1 = w.drew.setCells g (0 + i * 4) news := ⟨_, rfl⟩
  have hgd : w.drew.heap[g]? = some (.cells cur 67 (0, 0)) := hg
  obtain ⟨c1, e1, e2⟩ := setCells_row g 67 news (0 + i * 4) w.drew cur hgd (by rw [hlen]; omega)
  rw [← hW1] at e1
  have sc1 : c1.size = cap * 4 := by
    have := congrArg List.length e2
    simp only [List.length_append, List.length_take, List.length_drop, Array.length_toList, hlen] at this
    omega
  obtain ⟨Z, hZ, hcl⟩ := run_clear_any (P := Try.prog) W1 23 67 (.agg #[.int .i64 0, .string ⟨#[]⟩, .int .i64 0, .int .i64 0]) 4 Try.underlying23 zeroUnit_ rfl (by intro u hu; simp [Value.cells] at hu; rcases hu with rfl | rfl | rfl | rfl <;> rfl) g ((n - 1) * 4) (n - (n - 1)) (cap - (n - 1)) (by omega) (fun j hj => row_isSome2 e1 (by omega)) (fun j hj => frozen_of_row W1 g _ c1 _ e1)
  have hnn : n - (n - 1) = 1 := by omega
  rw [hnn] at hZ
  have hin : i + (n - (i + 1)) = n - 1 := by omega
  have hcl0 := hcl 0
  have hfin : Hid (∃ v', v' = (Value.slice (some ⟨g, 0, none⟩) (n - 1) cap) ∧ OwnU base (W1.setCells g ((n - 1) * 4) Z) v' (delU l i) ∧ w.grownBy (W1.setCells g ((n - 1) * 4) Z) (some g)) := by
    refine ⟨_, rfl, ?_, ?_⟩
    · obtain ⟨c, f1, f2, f3⟩ := row_del (size := 4) hgd hi hnc hcs Z (by simpa using hZ)
      rw [htake, ← hnews] at f1 f3
      rw [hW1, Nat.zero_add]
      unfold OwnU
      rw [hDL.out, hDF.out]
      refine ⟨by rw [List.length_append, List.length_take, ← hnews, hlen, hxl]; omega, .inr ⟨g, cap, c, rfl, hbg, f1, by omega, hcm, f2, ?_⟩⟩
      rw [f3, hnews]
    · rw [hW1]
      exact grown_trans (grown_trans (grown_drew w _) (setCells_grown2 g _ _ _)) (setCells_grown2 g _ _ _)
  have hW : Hid (W1 = w.drew.setCells g (0 + i * 4) news) := hW1
  have hic : i ≤ cap := by omega
  have hjc : i + 1 ≤ cap := by omega
  have hne : ¬ ((i : Int) = (i : Int) + 1) := by omega
  have hb5 : (0 : Int) ≤ (i : Int) + 1 ∧ (i : Int) + 1 ≤ (n : Int) := by omega
  have hb6 : (0 : Int) ≤ (i : Int) + 1 := by omega
  have hb7 : (i : Int) + 1 ≤ (n : Int) := by omega
  have mixed : Try.prog.follows Departure.mixedOrders = true := by kernel_rfl
  have hii : ((i : Int) + 1).toNat = i + 1 := by omega
  rw [← hin] at hcl0 hfin
  unfold maxLen at hcm
  clear hW1 hget hnews hlen hg hgd e1 e2 sc1 hcl hZ h htake hcs hnn hin
  go_enter Try.func65, Try.ntmps65
  go_wp2_with fail
  go_region_law_o (refine step_append_room rfl (.tmp 22) (.tmp 25) 23 rfl 67 i0 4 Try.underlying23 hi0 hz1 g 0 i cap (by simp [Act.eval, Act.put]) A (n - (i + 1)) (cap - (i + 1)) news (by simp [Act.eval, Act.put]) s1.out hsrc.out s2.out (by omega) s3.out ?_; rw [← hW.out])
  go_wp2_with fail
  go_ret
  obtain ⟨v', rfl, f1, f2⟩ := hfin.out
  exact ⟨_, rfl, f1, f2⟩
theorem shape_row {w : World} {g : Nat} {cur : Array Value} {T : TypeId} (h : w.heap[g]? = some (.cells cur T (0, 0))) : w.shape? g = some (T, cur.size) := by simp [World.shape?, h]
set_option maxHeartbeats 4000000 in
set_option maxRecDepth 100000 in
theorem units_insert_shift (base g cap i vb : Nat) (l : List Unt) (y : Unt) (cur vcs : Array Value) (T : TypeId) (w : World) (hbg : base ≤ g) (hg : w.heap[g]? = some (.cells cur 67 (0, 0))) (hi : i < l.length) (hnc : l.length + 1 ≤ cap) (hcm : cap ≤ maxLen) (hcs : cur.size = cap * 4) (htake : cur.toList.take (l.length * 4) = l.flatMap untC) (hl : l.length ≤ 100000)
    (hv : w.heap[vb]? = some (.cells vcs T (0, 0))) (hvc : vcs.toList = untC y) (hne : vb ≠ g) :
    Calls Try.prog 62 #[.slice (some ⟨g, 0, none⟩) l.length cap, .int .i64 i, .slice (some ⟨vb, 0, none⟩) 1 1] w fun e w' => ∃ v', e = .returned v' ∧ OwnU base w' v' (insU l i y) ∧ w.grownBy w' (some g) := by
  have hov : ∀ lb cb, (callFunc 90 #[.slice (some ⟨vb, 0, none⟩) 1 1, .slice (some ⟨g, (i + 1) * 4, none⟩) lb cb]).run Try.prog w = .ok (.value (.bool false)) w := fun lb cb => by
    rw [run_callFunc_extern Try.func90 (by kernel_rfl) (by kernel_rfl) (by kernel_rfl) (e := Extern.SlicesOverlaps.overlaps #[23, 23] #[4]) (by kernel_rfl),
      Lib.run_overlaps_apart w 23 4 67 Try.underlying23 4 sizeUnit_ ⟨vb, 0, none⟩ ⟨g, (i + 1) * 4, none⟩ 1 1 lb cb hne T 67 vcs.size cur.size (shape_row hv) (shape_row hg) (by omega) (frozen_of_row w vb _ vcs _ hv) (frozen_of_row w vb _ vcs _ hv)]
    rfl
  generalize hn : l.length = n at *
  have hxl : (l.flatMap untC).length = n * 4 := by rw [flat_unt_len, hn]
  obtain ⟨ds, hds⟩ : ∃ ds, ds = (l.flatMap untC).drop (i * 4) := ⟨_, rfl⟩
  have hdl : ds.length = (n - i) * 4 := by rw [hds, List.length_drop, hxl]; omega
  have hget : ∀ t u, ds[t]? = some u → w.cell? ⟨g, i * 4 + t, none⟩ = some u := by
    intro t u ht
    rw [hds, List.getElem?_drop, ← htake, List.getElem?_take] at ht
    split at ht
    · rw [row_cell2 hg]
      simpa using ht
    · cases ht
  have hcp1 : ∀ ty dc sc, (Builtin.copy_ #[23, 23] ty #[.slice (some ⟨g, (i + 1) * 4, none⟩) (n - i) dc, .slice (some ⟨g, i * 4, none⟩) (n + 1 - i) sc]).run Try.prog w.drew = .ok (goInt (n - i : Nat)) (w.drew.setCells g ((i + 1) * 4) ds) := fun ty dc sc =>
    run_copy_size w.drew _ _ ty 67 4 g ((i + 1) * 4) (n - i) dc ⟨g, i * 4, none⟩ (n + 1 - i) sc (n - i) ds Try.underlying23 infoUnit4 (by simp only [Nat.min_def]; split <;> omega) hdl
      (fun j v hj => by rw [addr_plus]; exact hget j v hj)
      (fun j hj => row_isSome2 (w := w) hg (by omega)) (fun j hj => frozen_of_row w g _ cur _ hg) (fun v hv => one_untC l v (List.mem_of_mem_drop (by rw [← hds]; exact hv)))
  obtain ⟨W1, hW1⟩ : ∃ W1, W1 = w.drew.setCells g ((i + 1) * 4) ds := ⟨_, rfl⟩
  have hgd : w.drew.heap[g]? = some (.cells cur 67 (0, 0)) := hg
  obtain ⟨c1, e1, e2⟩ := setCells_row g 67 ds ((i + 1) * 4) w.drew cur hgd (by rw [hdl]; omega)
  rw [← hW1] at e1
  have sc1 : c1.size = cap * 4 := by
    have := congrArg List.length e2
    simp only [List.length_append, List.length_take, List.length_drop, Array.length_toList, hdl] at this
    omega
  have hv1 : W1.heap[vb]? = some (.cells vcs T (0, 0)) := by
    rw [hW1]
    exact ((setCells_grown2 g ds _ w.drew).block vb (by have := (Array.getElem?_eq_some_iff.1 hv).1; exact this) (by intro e; injection e with e; exact hne e)).trans hv
  have hcp2 : ∀ (W : World), (∀ x, W.cell? x = W1.cell? x) → (∀ x, W.frozen? x = W1.frozen? x) → ∀ ty dc, (Builtin.copy_ #[23, 23] ty #[.slice (some ⟨g, i * 4, none⟩) (n + 1 - i) dc, .slice (some ⟨vb, 0, none⟩) 1 1]).run Try.prog W = .ok (goInt (1 : Nat)) (W.setCells g (i * 4) (untC y)) := fun W hWc hWf ty dc =>
    run_copy_size W _ _ ty 67 4 g (i * 4) (n + 1 - i) dc ⟨vb, 0, none⟩ 1 1 1 (untC y) Try.underlying23 infoUnit4 (by simp only [Nat.min_def]; split <;> omega) rfl
      (fun j v hj => by rw [addr_plus, hWc, row_cell2 hv1, Nat.zero_add, ← Array.getElem?_toList, hvc]; exact hj)
      (fun j hj => by rw [hWc]; exact row_isSome2 e1 (by rw [sc1]; simp [untC] at hj; omega)) (fun j hj => by rw [hWf]; exact frozen_of_row W1 g _ c1 _ e1) (fun v hv => one_untC [y] v (by simpa using hv))
  have hfin : Hid (∃ v', v' = (Value.slice (some ⟨g, 0, none⟩) (n + 1) cap) ∧ OwnU base (W1.setCells g (i * 4) (untC y)) v' (insU l i y) ∧ w.grownBy (W1.setCells g (i * 4) (untC y)) (some g)) := by
    refine ⟨_, rfl, ?_, ?_⟩
    · obtain ⟨c, f1, f2, f3⟩ := row_ins (size := 4) hgd (i := i) (n := n) (by omega) hnc hcs (untC y) rfl
      rw [htake, ← hds, ← hW1] at f1
      rw [htake] at f3
      unfold OwnU
      rw [insU_len l (by omega), insU_flat l i (by omega), hn]
      refine ⟨by simp only [List.length_append, List.length_take, List.length_drop, hxl]; simp [untC]; omega, .inr ⟨g, cap, c, rfl, hbg, f1, by omega, hcm, f2, f3⟩⟩
    · rw [hW1]
      exact grown_trans (grown_trans (grown_drew w _) (setCells_grown2 g _ _ _)) (setCells_grown2 g _ _ _)
  rw [← hW1] at hcp1
  have mixed : Try.prog.follows Departure.mixedOrders = true := by kernel_rfl
  have hz2 : ¬ ((i : Int) = (n : Int)) := by omega
  have hz3 : ¬ ((cap : Int) < (n : Int) + 1) := by omega
  have hw1 : IntKind.i64.wrap ((i : Int) + 1) = (i : Int) + 1 := by rw [IntKind.wrap_i64]; omega
  have hw2 : IntKind.i64.wrap ((n : Int) + 1) = (n : Int) + 1 := by rw [IntKind.wrap_i64]; omega
  have hb1 : (0 : Int) ≤ (i : Int) + 1 := by omega
  have hin : i ≤ n := by omega
  have htn : ((i : Int) + 1).toNat = i + 1 := by omega
  have hb2 : ¬ (cap = i + 1) := by omega
  have hb3 : (i : Int) ≤ (n : Int) + 1 := by omega
  have hb4 : ¬ (cap = i) := by omega
  unfold maxLen at hcm
  clear hg hgd e1 e2 sc1 hv hv1 htake hcs hget hds hdl hvc
  go_enter Try.func62, Try.ntmps62
  go_wp2_with (simp only [hov])
  go_region_law_o (refine step_copy_runI rfl _ _ 23 23 rfl _ _ (by simp [Act.eval, Act.put]) (by simp [Act.eval, Act.put]) (hcp1 _ _ _) ?_)
  go_wp2_with (at_builtin; refine wpList_copy_runI _ rfl _ _ 23 23 rfl _ _ rfl rfl (hcp2 _ (fun _ => rfl) (fun _ => rfl) _ _) ?_)
  go_ret
  subst hW1
  obtain ⟨v', rfl, f1, f2⟩ := hfin.out
  exact ⟨_, rfl, f1, f2⟩
end Go.Proofs.Ytabalicembhjmaa
