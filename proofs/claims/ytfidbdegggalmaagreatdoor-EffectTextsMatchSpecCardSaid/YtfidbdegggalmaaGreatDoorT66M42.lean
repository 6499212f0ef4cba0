/- slices.Clone of steps, keys and rates; boxes of fifteen cells. (printed by wip/gen/gen_copied.py) -/
import Derived.Test.YtfidbdegggalmaaGreatDoorT66M41
import Derived.Maps.AppendAt
import Derived.Lib.SliceRun
import Derived.OwnWalk

namespace Go.Proofs.YtfidbdegggalmaaGreatDoor
open Go.RowKit
set_option linter.unusedVariables false
set_option linter.unusedSimpArgs false

/-- a slice of n elements, its cells xs below block B -/
def RowC (B : Nat) (w : World) (v : Value) (n : Nat) (xs : List Value) : Prop :=
  ∃ ao cap, v = .slice ao n cap ∧ (0 < n → ∃ b off, ao = some ⟨b, off, none⟩ ∧ b < B ∧ ∀ j u, xs[j]? = some u → w.cell? ⟨b, off + j, none⟩ = some u)
theorem RowC.of_cells {B : Nat} {w : World} {v : Value} {n : Nat} {xs : List Value} (h : CellsS B w v n xs) : RowC B w v n xs := by
  obtain ⟨ao, cap, h1, _, _, h2⟩ := h
  exact ⟨ao, cap, h1, h2⟩
def stCells (l : List Stp) : List Value := cells3 (fun s : Stp => Value.int .i64 s.lv) (fun s => .int .i64 s.hold) (fun s => .int .i64 s.fade) l
theorem RowC.of_steps {B : Nat} {w : World} {v : Value} {l : List Stp} (h : StS B w v l) : RowC B w v l.length (stCells l) := by
  obtain ⟨ao, cap, h1, h2, h3⟩ := h
  refine ⟨ao, cap, h1, fun hl => ?_⟩
  obtain ⟨b, off, h4, h5, h6⟩ := h3 (List.length_pos_iff.1 hl)
  exact ⟨b, off, h4, h5, fun j u hu => cells3_at h6 j u hu⟩
theorem RowC.below {B : Nat} {w w' : World} {v : Value} {n : Nat} {xs : List Value} (h : RowC B w v n xs) (hb : Below B w w') : RowC B w' v n xs := by
  obtain ⟨ao, cap, rfl, h3⟩ := h
  refine ⟨ao, cap, rfl, fun hl => ?_⟩
  obtain ⟨b, off, rfl, h4, h5⟩ := h3 hl
  exact ⟨b, off, rfl, h4, fun j u hu => (hb.cell (p := ⟨b, off + j, none⟩) h4).trans (h5 j u hu)⟩
/-- an own row again as steps -/
theorem steps_of_own {base : Nat} {w : World} {T : TypeId} {v : Value} {l : List Stp} (h : w.ownsRow base T 3 v l.length (stCells l)) : StS w.heap.size w v l := by
  obtain ⟨ao, cap, rfl, h1, h2, h3⟩ := CellsS.of_own h
  refine ⟨ao, cap, rfl, Nat.le_trans h1 h2, fun hne => ?_⟩
  obtain ⟨b, off, h4, h5, h6⟩ := h3 (List.length_pos_iff.2 hne)
  refine ⟨b, off, h4, h5, fun i hi => ?_⟩
  obtain ⟨g1, g2, g3⟩ := cells3_get (fun s : Stp => Value.int .i64 s.lv) (fun s => .int .i64 s.hold) (fun s => .int .i64 s.fade) l i hi
  exact ⟨h6 _ _ g1, h6 (i * 3 + 1) _ g2, h6 (i * 3 + 2) _ g3⟩
def CloneO (T : TypeId) (m : Nat) (w : World) (n : Nat) (xs : List Value) (e : Ending) (w' : World) : Prop :=
  ∃ v', e = .returned v' ∧ w'.ownsRow w.heap.size T m v' n xs ∧ Below w.heap.size w w'
theorem own_same {base : Nat} {w w' : World} {T : TypeId} {m : Nat} {v : Value} {n : Nat} {xs : List Value} (h : w.ownsRow base T m v n xs) (hb : ∀ g, base ≤ g → w'.heap[g]? = w.heap[g]?) : w'.ownsRow base T m v n xs := by
  refine ⟨h.1, ?_⟩
  rcases h.2 with hn | ⟨g, cap, cur, hv, h1, h2, rest⟩
  · exact .inl hn
  · exact .inr ⟨g, cap, cur, hv, h1, (hb g h1).trans h2, rest⟩
theorem own_base' {w : World} {B B' e size n : Nat} {v : Value} {xs : List Value} (h : w.ownsRow B' e size v n xs) (hB : B ≤ B') : w.ownsRow B e size v n xs := by
  refine ⟨h.1, ?_⟩
  rcases h.2 with hn | ⟨g, cap, cur, hv, h1, rest⟩
  · exact .inl hn
  · exact .inr ⟨g, cap, cur, hv, Nat.le_trans hB h1, rest⟩
theorem own_below' {w w' : World} {B e size n : Nat} {v : Value} {xs : List Value} (h : w.ownsRow B e size v n xs) (hb : Below w.heap.size w w') : w'.ownsRow B e size v n xs := by
  refine ⟨h.1, ?_⟩
  rcases h.2 with hn | ⟨g, cap, cur, hv, h1, h2, rest⟩
  · exact .inl hn
  · exact .inr ⟨g, cap, cur, hv, h1, (hb.block _ (Array.getElem?_eq_some_iff.1 h2).1).trans h2, rest⟩
theorem steps_info : (Tryz.prog.info? 44).map (fun i => (i.zero, i.size, i.bytes)) = some (some (.agg #[.int .i64 0, .int .i64 0, .int .i64 0]), 3, 24) := by kernel_rfl
/-- a variable of fifteen cells -/
structure Box15 (W : World) (g : Nat) (c0 c1 c2 c3 c4 c5 c6 c7 c8 c9 c10 c11 c12 c13 c14 : Value) : Prop where
  c0 : W.cell? ⟨g, 0, none⟩ = some c0
  c1 : W.cell? ⟨g, 1, none⟩ = some c1
  c2 : W.cell? ⟨g, 2, none⟩ = some c2
  c3 : W.cell? ⟨g, 3, none⟩ = some c3
  c4 : W.cell? ⟨g, 4, none⟩ = some c4
  c5 : W.cell? ⟨g, 5, none⟩ = some c5
  c6 : W.cell? ⟨g, 6, none⟩ = some c6
  c7 : W.cell? ⟨g, 7, none⟩ = some c7
  c8 : W.cell? ⟨g, 8, none⟩ = some c8
  c9 : W.cell? ⟨g, 9, none⟩ = some c9
  c10 : W.cell? ⟨g, 10, none⟩ = some c10
  c11 : W.cell? ⟨g, 11, none⟩ = some c11
  c12 : W.cell? ⟨g, 12, none⟩ = some c12
  c13 : W.cell? ⟨g, 13, none⟩ = some c13
  c14 : W.cell? ⟨g, 14, none⟩ = some c14
  f0 : W.frozen? ⟨g, 0, none⟩ = false
  f1 : W.frozen? ⟨g, 1, none⟩ = false
  f2 : W.frozen? ⟨g, 2, none⟩ = false
  f3 : W.frozen? ⟨g, 3, none⟩ = false
  f4 : W.frozen? ⟨g, 4, none⟩ = false
  f5 : W.frozen? ⟨g, 5, none⟩ = false
  f6 : W.frozen? ⟨g, 6, none⟩ = false
  f7 : W.frozen? ⟨g, 7, none⟩ = false
  f8 : W.frozen? ⟨g, 8, none⟩ = false
  f9 : W.frozen? ⟨g, 9, none⟩ = false
  f10 : W.frozen? ⟨g, 10, none⟩ = false
  f11 : W.frozen? ⟨g, 11, none⟩ = false
  f12 : W.frozen? ⟨g, 12, none⟩ = false
  f13 : W.frozen? ⟨g, 13, none⟩ = false
  f14 : W.frozen? ⟨g, 14, none⟩ = false
theorem box15_new (w : World) (c0 c1 c2 c3 c4 c5 c6 c7 c8 c9 c10 c11 c12 c13 c14 : Value) (T : TypeId) : Box15 (w.alloc (.cells #[c0, c1, c2, c3, c4, c5, c6, c7, c8, c9, c10, c11, c12, c13, c14] T)) w.heap.size c0 c1 c2 c3 c4 c5 c6 c7 c8 c9 c10 c11 c12 c13 c14 :=
  ⟨by simp [go_sem], by simp [go_sem], by simp [go_sem], by simp [go_sem], by simp [go_sem], by simp [go_sem], by simp [go_sem], by simp [go_sem], by simp [go_sem], by simp [go_sem], by simp [go_sem], by simp [go_sem], by simp [go_sem], by simp [go_sem], by simp [go_sem], by simp [go_sem], by simp [go_sem], by simp [go_sem], by simp [go_sem], by simp [go_sem], by simp [go_sem], by simp [go_sem], by simp [go_sem], by simp [go_sem], by simp [go_sem], by simp [go_sem], by simp [go_sem], by simp [go_sem], by simp [go_sem], by simp [go_sem]⟩
theorem Box15.below {w W : World} {B g : Nat} {c0 c1 c2 c3 c4 c5 c6 c7 c8 c9 c10 c11 c12 c13 c14 : Value} (h : Box15 w g c0 c1 c2 c3 c4 c5 c6 c7 c8 c9 c10 c11 c12 c13 c14) (hb : Below B w W) (hg : g < B) : Box15 W g c0 c1 c2 c3 c4 c5 c6 c7 c8 c9 c10 c11 c12 c13 c14 :=
  ⟨(hb.cell (p := ⟨g, 0, none⟩) hg).trans h.c0, (hb.cell (p := ⟨g, 1, none⟩) hg).trans h.c1, (hb.cell (p := ⟨g, 2, none⟩) hg).trans h.c2, (hb.cell (p := ⟨g, 3, none⟩) hg).trans h.c3, (hb.cell (p := ⟨g, 4, none⟩) hg).trans h.c4, (hb.cell (p := ⟨g, 5, none⟩) hg).trans h.c5, (hb.cell (p := ⟨g, 6, none⟩) hg).trans h.c6, (hb.cell (p := ⟨g, 7, none⟩) hg).trans h.c7, (hb.cell (p := ⟨g, 8, none⟩) hg).trans h.c8, (hb.cell (p := ⟨g, 9, none⟩) hg).trans h.c9, (hb.cell (p := ⟨g, 10, none⟩) hg).trans h.c10, (hb.cell (p := ⟨g, 11, none⟩) hg).trans h.c11, (hb.cell (p := ⟨g, 12, none⟩) hg).trans h.c12, (hb.cell (p := ⟨g, 13, none⟩) hg).trans h.c13, (hb.cell (p := ⟨g, 14, none⟩) hg).trans h.c14,
   (hb.frozen (p := ⟨g, 0, none⟩) hg).trans h.f0, (hb.frozen (p := ⟨g, 1, none⟩) hg).trans h.f1, (hb.frozen (p := ⟨g, 2, none⟩) hg).trans h.f2, (hb.frozen (p := ⟨g, 3, none⟩) hg).trans h.f3, (hb.frozen (p := ⟨g, 4, none⟩) hg).trans h.f4, (hb.frozen (p := ⟨g, 5, none⟩) hg).trans h.f5, (hb.frozen (p := ⟨g, 6, none⟩) hg).trans h.f6, (hb.frozen (p := ⟨g, 7, none⟩) hg).trans h.f7, (hb.frozen (p := ⟨g, 8, none⟩) hg).trans h.f8, (hb.frozen (p := ⟨g, 9, none⟩) hg).trans h.f9, (hb.frozen (p := ⟨g, 10, none⟩) hg).trans h.f10, (hb.frozen (p := ⟨g, 11, none⟩) hg).trans h.f11, (hb.frozen (p := ⟨g, 12, none⟩) hg).trans h.f12, (hb.frozen (p := ⟨g, 13, none⟩) hg).trans h.f13, (hb.frozen (p := ⟨g, 14, none⟩) hg).trans h.f14⟩
theorem Box15.alloc {w : World} {g : Nat} {c0 c1 c2 c3 c4 c5 c6 c7 c8 c9 c10 c11 c12 c13 c14 : Value} (h : Box15 w g c0 c1 c2 c3 c4 c5 c6 c7 c8 c9 c10 c11 c12 c13 c14) (hg : g < w.heap.size) (o : Obj) : Box15 (w.alloc o) g c0 c1 c2 c3 c4 c5 c6 c7 c8 c9 c10 c11 c12 c13 c14 := h.below ((Below.refl _ _).alloc (Nat.le_refl _) o) hg
abbrev set15 (W : World) (g : Nat) (u0 u1 u2 u3 u4 u5 u6 u7 u8 u9 u10 u11 u12 u13 u14 : Value) : World := ((((((((((((((((((((((((((((((W).setCell ⟨g, 0, none⟩ u0)).setCell ⟨g, 1, none⟩ u1)).setCell ⟨g, 2, none⟩ u2)).setCell ⟨g, 3, none⟩ u3)).setCell ⟨g, 4, none⟩ u4)).setCell ⟨g, 5, none⟩ u5)).setCell ⟨g, 6, none⟩ u6)).setCell ⟨g, 7, none⟩ u7)).setCell ⟨g, 8, none⟩ u8)).setCell ⟨g, 9, none⟩ u9)).setCell ⟨g, 10, none⟩ u10)).setCell ⟨g, 11, none⟩ u11)).setCell ⟨g, 12, none⟩ u12)).setCell ⟨g, 13, none⟩ u13)).setCell ⟨g, 14, none⟩ u14)
theorem Box15.put {W : World} {g : Nat} {c0 c1 c2 c3 c4 c5 c6 c7 c8 c9 c10 c11 c12 c13 c14 u0 u1 u2 u3 u4 u5 u6 u7 u8 u9 u10 u11 u12 u13 u14 : Value} (h : Box15 W g c0 c1 c2 c3 c4 c5 c6 c7 c8 c9 c10 c11 c12 c13 c14) : Box15 (set15 W g u0 u1 u2 u3 u4 u5 u6 u7 u8 u9 u10 u11 u12 u13 u14) g u0 u1 u2 u3 u4 u5 u6 u7 u8 u9 u10 u11 u12 u13 u14 := by
  obtain ⟨a0, a1, a2, a3, a4, a5, a6, a7, a8, a9, a10, a11, a12, a13, a14, b0, b1, b2, b3, b4, b5, b6, b7, b8, b9, b10, b11, b12, b13, b14⟩ := h
  unfold set15
  exact ⟨by simp [go_sem, a0, a1, a2, a3, a4, a5, a6, a7, a8, a9, a10, a11, a12, a13, a14], by simp [go_sem, a0, a1, a2, a3, a4, a5, a6, a7, a8, a9, a10, a11, a12, a13, a14], by simp [go_sem, a0, a1, a2, a3, a4, a5, a6, a7, a8, a9, a10, a11, a12, a13, a14], by simp [go_sem, a0, a1, a2, a3, a4, a5, a6, a7, a8, a9, a10, a11, a12, a13, a14], by simp [go_sem, a0, a1, a2, a3, a4, a5, a6, a7, a8, a9, a10, a11, a12, a13, a14], by simp [go_sem, a0, a1, a2, a3, a4, a5, a6, a7, a8, a9, a10, a11, a12, a13, a14], by simp [go_sem, a0, a1, a2, a3, a4, a5, a6, a7, a8, a9, a10, a11, a12, a13, a14], by simp [go_sem, a0, a1, a2, a3, a4, a5, a6, a7, a8, a9, a10, a11, a12, a13, a14], by simp [go_sem, a0, a1, a2, a3, a4, a5, a6, a7, a8, a9, a10, a11, a12, a13, a14], by simp [go_sem, a0, a1, a2, a3, a4, a5, a6, a7, a8, a9, a10, a11, a12, a13, a14], by simp [go_sem, a0, a1, a2, a3, a4, a5, a6, a7, a8, a9, a10, a11, a12, a13, a14], by simp [go_sem, a0, a1, a2, a3, a4, a5, a6, a7, a8, a9, a10, a11, a12, a13, a14], by simp [go_sem, a0, a1, a2, a3, a4, a5, a6, a7, a8, a9, a10, a11, a12, a13, a14], by simp [go_sem, a0, a1, a2, a3, a4, a5, a6, a7, a8, a9, a10, a11, a12, a13, a14], by simp [go_sem, a0, a1, a2, a3, a4, a5, a6, a7, a8, a9, a10, a11, a12, a13, a14], by simp [go_sem, b0, b1, b2, b3, b4, b5, b6, b7, b8, b9, b10, b11, b12, b13, b14], by simp [go_sem, b0, b1, b2, b3, b4, b5, b6, b7, b8, b9, b10, b11, b12, b13, b14], by simp [go_sem, b0, b1, b2, b3, b4, b5, b6, b7, b8, b9, b10, b11, b12, b13, b14], by simp [go_sem, b0, b1, b2, b3, b4, b5, b6, b7, b8, b9, b10, b11, b12, b13, b14], by simp [go_sem, b0, b1, b2, b3, b4, b5, b6, b7, b8, b9, b10, b11, b12, b13, b14], by simp [go_sem, b0, b1, b2, b3, b4, b5, b6, b7, b8, b9, b10, b11, b12, b13, b14], by simp [go_sem, b0, b1, b2, b3, b4, b5, b6, b7, b8, b9, b10, b11, b12, b13, b14], by simp [go_sem, b0, b1, b2, b3, b4, b5, b6, b7, b8, b9, b10, b11, b12, b13, b14], by simp [go_sem, b0, b1, b2, b3, b4, b5, b6, b7, b8, b9, b10, b11, b12, b13, b14], by simp [go_sem, b0, b1, b2, b3, b4, b5, b6, b7, b8, b9, b10, b11, b12, b13, b14], by simp [go_sem, b0, b1, b2, b3, b4, b5, b6, b7, b8, b9, b10, b11, b12, b13, b14], by simp [go_sem, b0, b1, b2, b3, b4, b5, b6, b7, b8, b9, b10, b11, b12, b13, b14], by simp [go_sem, b0, b1, b2, b3, b4, b5, b6, b7, b8, b9, b10, b11, b12, b13, b14], by simp [go_sem, b0, b1, b2, b3, b4, b5, b6, b7, b8, b9, b10, b11, b12, b13, b14], by simp [go_sem, b0, b1, b2, b3, b4, b5, b6, b7, b8, b9, b10, b11, b12, b13, b14]⟩
theorem below_set15 {B g : Nat} {w W : World} {u0 u1 u2 u3 u4 u5 u6 u7 u8 u9 u10 u11 u12 u13 u14 : Value} (h : Below B w W) (hg : B ≤ g) : Below B w (set15 W g u0 u1 u2 u3 u4 u5 u6 u7 u8 u9 u10 u11 u12 u13 u14) :=
  ((((((((((((((h.setCell hg u0).setCell hg u1).setCell hg u2).setCell hg u3).setCell hg u4).setCell hg u5).setCell hg u6).setCell hg u7).setCell hg u8).setCell hg u9).setCell hg u10).setCell hg u11).setCell hg u12).setCell hg u13).setCell hg u14
theorem size_set15 {g : Nat} {W : World} {u0 u1 u2 u3 u4 u5 u6 u7 u8 u9 u10 u11 u12 u13 u14 : Value} : (set15 W g u0 u1 u2 u3 u4 u5 u6 u7 u8 u9 u10 u11 u12 u13 u14).heap.size = W.heap.size := by unfold set15; simp
theorem heap_set15 {g h : Nat} {W : World} {u0 u1 u2 u3 u4 u5 u6 u7 u8 u9 u10 u11 u12 u13 u14 : Value} (hn : h ≠ g) : (set15 W g u0 u1 u2 u3 u4 u5 u6 u7 u8 u9 u10 u11 u12 u13 u14).heap[h]? = W.heap[h]? := by
  unfold set15
  repeat rw [heap_setCell_other _ _ _ _ (by simpa using hn)]
theorem Box15.other {W : World} {h : Nat} {c0 c1 c2 c3 c4 c5 c6 c7 c8 c9 c10 c11 c12 c13 c14 : Value} {a : Addr} {u : Value} (hh : a.block ≠ h) (hb : Box15 W h c0 c1 c2 c3 c4 c5 c6 c7 c8 c9 c10 c11 c12 c13 c14) : Box15 (W.setCell a u) h c0 c1 c2 c3 c4 c5 c6 c7 c8 c9 c10 c11 c12 c13 c14 := by
  have e : (W.setCell a u).heap[h]? = W.heap[h]? := heap_setCell_other _ _ _ _ (by simpa using hh.symm)
  exact ⟨(World.cell?_of_block (a := ⟨h, 0, none⟩) e).trans hb.c0, (World.cell?_of_block (a := ⟨h, 1, none⟩) e).trans hb.c1, (World.cell?_of_block (a := ⟨h, 2, none⟩) e).trans hb.c2, (World.cell?_of_block (a := ⟨h, 3, none⟩) e).trans hb.c3, (World.cell?_of_block (a := ⟨h, 4, none⟩) e).trans hb.c4, (World.cell?_of_block (a := ⟨h, 5, none⟩) e).trans hb.c5, (World.cell?_of_block (a := ⟨h, 6, none⟩) e).trans hb.c6, (World.cell?_of_block (a := ⟨h, 7, none⟩) e).trans hb.c7, (World.cell?_of_block (a := ⟨h, 8, none⟩) e).trans hb.c8, (World.cell?_of_block (a := ⟨h, 9, none⟩) e).trans hb.c9, (World.cell?_of_block (a := ⟨h, 10, none⟩) e).trans hb.c10, (World.cell?_of_block (a := ⟨h, 11, none⟩) e).trans hb.c11, (World.cell?_of_block (a := ⟨h, 12, none⟩) e).trans hb.c12, (World.cell?_of_block (a := ⟨h, 13, none⟩) e).trans hb.c13, (World.cell?_of_block (a := ⟨h, 14, none⟩) e).trans hb.c14, (World.frozen?_of_block (a := ⟨h, 0, none⟩) e).trans hb.f0, (World.frozen?_of_block (a := ⟨h, 1, none⟩) e).trans hb.f1, (World.frozen?_of_block (a := ⟨h, 2, none⟩) e).trans hb.f2, (World.frozen?_of_block (a := ⟨h, 3, none⟩) e).trans hb.f3, (World.frozen?_of_block (a := ⟨h, 4, none⟩) e).trans hb.f4, (World.frozen?_of_block (a := ⟨h, 5, none⟩) e).trans hb.f5, (World.frozen?_of_block (a := ⟨h, 6, none⟩) e).trans hb.f6, (World.frozen?_of_block (a := ⟨h, 7, none⟩) e).trans hb.f7, (World.frozen?_of_block (a := ⟨h, 8, none⟩) e).trans hb.f8, (World.frozen?_of_block (a := ⟨h, 9, none⟩) e).trans hb.f9, (World.frozen?_of_block (a := ⟨h, 10, none⟩) e).trans hb.f10, (World.frozen?_of_block (a := ⟨h, 11, none⟩) e).trans hb.f11, (World.frozen?_of_block (a := ⟨h, 12, none⟩) e).trans hb.f12, (World.frozen?_of_block (a := ⟨h, 13, none⟩) e).trans hb.f13, (World.frozen?_of_block (a := ⟨h, 14, none⟩) e).trans hb.f14⟩
end Go.Proofs.YtfidbdegggalmaaGreatDoor
