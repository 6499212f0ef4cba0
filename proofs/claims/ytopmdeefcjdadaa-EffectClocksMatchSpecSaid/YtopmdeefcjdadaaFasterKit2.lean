/- What the reference's Faster and both sides' Stop share. (printed by wip/gen/gen_rfaster.py) -/
import Derived.Test.YtopmdeefcjdadaaFasterKit
import Derived.Test.YtopmdeefcjdadaaRCopied
namespace Go.Proofs.Ytopmdeefcjdadaa
open Go.RowKit
set_option linter.unusedVariables false
set_option linter.unusedSimpArgs false

/-- the state: the copy lies in block g, the result in block 'size + 1' -/
structure FT (w W : World) (form low high cycle width spread : Int) (back rel : Bool) (start tin tend tout : Int) (g : Nat) (vs vk u v : Value) (ls : List Stp) (lk : List (Int × ByteArray)) (lr : List (Int × Int)) : Prop where
  box : Box15 W g (.int .i64 form) (.int .i64 low) (.int .i64 high) (.int .i64 cycle) (.int .i64 width) (.int .i64 spread) (.bool back) (.bool rel) (vs) (vk) (.int .i64 start) (u) (.int .i64 tin) (.int .i64 tend) (.int .i64 tout)
  ty : Typed W g 28
  st : W.ownsRow (w.heap.size + 1 + 1) 108 3 vs ls.length (stCells ls)
  ke : W.ownsRow (w.heap.size + 1 + 1) 47 2 vk lk.length (kCells lk)
  ra : W.ownsRow (w.heap.size + 1 + 1) 67 2 v lr.length (rCells lr)
  res : Box15 W (w.heap.size + 1) (.int .i64 0) (.int .i64 0) (.int .i64 0) (.int .i64 0) (.int .i64 0) (.int .i64 0) (.bool false) (.bool false) (.slice none 0 0) (.slice none 0 0) (.int .i64 0) (.slice none 0 0) (.int .i64 0) (.int .i64 0) (.int .i64 0)
  bl : Below w.heap.size w W
  lo : (w.heap.size + 1 + 1) ≤ g
  sz : (w.heap.size + 1 + 1) ≤ W.heap.size
theorem FT.grow {w W W' : World} {form low high cycle width spread : Int} {back rel : Bool} {start tin tend tout : Int} {g : Nat} {vs vk u v v' : Value} {ls : List Stp} {lk : List (Int × ByteArray)} {lr lr' : List (Int × Int)} (h : FT w W form low high cycle width spread back rel start tin tend tout g vs vk u v ls lk lr) (hg : W.grownBy W' v.ownBlock) (hr : W'.ownsRow (w.heap.size + 1 + 1) 67 2 v' lr'.length (rCells lr')) :
    FT w W' form low high cycle width spread back rel start tin tend tout g vs vk u v' ls lk lr' := by
  have e1 := hg.block g h.ty.lt (own_not h.ra h.ty (by decide))
  have e2 := hg.block (w.heap.size + 1) (by have := h.sz; omega) (own_low h.ra (by omega))
  refine ⟨box15_keep h.box e1, h.ty.keep e1, own_beside h.st h.ra (by decide) hg, own_beside h.ke h.ra (by decide) hg, hr, box15_keep h.res e2, ?_, h.lo, Nat.le_trans h.sz hg.size⟩
  exact ⟨hg.os.trans h.bl.os, hg.tape.trans h.bl.tape, hg.output.trans h.bl.output, Nat.le_trans h.bl.size hg.size, fun k hk => (hg.block k (Nat.lt_of_lt_of_le hk h.bl.size) (own_low h.ra (by omega))).trans (h.bl.block k hk)⟩
theorem FT.put {w W : World} {form low high cycle width spread : Int} {back rel : Bool} {start tin tend tout : Int} {g : Nat} {vs vk u v : Value} {ls : List Stp} {lk : List (Int × ByteArray)} {lr : List (Int × Int)} (h : FT w W form low high cycle width spread back rel start tin tend tout g vs vk u v ls lk lr) :
    FT w (W.setCell ⟨g, 11, none⟩ v) form low high cycle width spread back rel start tin tend tout g vs vk v v ls lk lr := by
  have hne : ∀ {T : TypeId} {m n : Nat} {a : Value} {xs : List Value}, T ≠ 28 → W.ownsRow (w.heap.size + 1 + 1) T m a n xs → (W.setCell ⟨g, 11, none⟩ v).ownsRow (w.heap.size + 1 + 1) T m a n xs := by
    intro T m n a xs hT ho
    refine ⟨ho.1, ?_⟩
    rcases ho.2 with hn | ⟨k, cap, cur, rfl, h1, h2, rest⟩
    · exact .inl hn
    · refine .inr ⟨k, cap, cur, rfl, h1, (heap_setCell_other W ⟨g, 11, none⟩ k v ?_).trans h2, rest⟩
      intro e
      exact own_not ho h.ty hT (by simp [Value.ownBlock]; exact e.symm)
  refine ⟨box15_put11 h.box, h.ty.set _ _ _, hne (by decide) h.st, hne (by decide) h.ke, hne (by decide) h.ra, h.res.other (by have := h.lo; show g ≠ _; omega), h.bl.setCell (by have := h.lo; show w.heap.size ≤ g; omega) _, h.lo, by simpa using h.sz⟩
theorem FT.alloc {w W : World} {form low high cycle width spread : Int} {back rel : Bool} {start tin tend tout : Int} {g : Nat} {vs vk u v : Value} {ls : List Stp} {lk : List (Int × ByteArray)} {lr : List (Int × Int)} (h : FT w W form low high cycle width spread back rel start tin tend tout g vs vk u v ls lk lr) (o : Obj) :
    FT w (W.alloc o) form low high cycle width spread back rel start tin tend tout g vs vk u v ls lk lr := by
  have hg : W.grownBy (W.alloc o) v.ownBlock := World.grownBy_alloc _ _ _
  have hb : Below W.heap.size W (W.alloc o) := (Below.refl _ _).alloc (Nat.le_refl _) o
  exact FT.grow h hg (own_below' h.ra hb)
/-- what the copy is as a running effect -/
theorem FT.run {w W : World} {form low high cycle width spread : Int} {back rel : Bool} {start tin tend tout : Int} {g : Nat} {vs vk u v : Value} {ls : List Stp} {lk : List (Int × ByteArray)} {lr : List (Int × Int)} (h : FT w W form low high cycle width spread back rel start tin tend tout g vs vk u v ls lk lr) :
    RunAt W.heap.size W ⟨⟨form, low, high, cycle, width, spread, back, rel, ls⟩, lk, start, lr, tin, tend, tout⟩ vs vk v :=
  ⟨steps_of_own h.st, CellsS.of_own h.ke, CellsS.of_own h.ra⟩
/-- and behind the result's cells are written -/
theorem FT.runPut {w W : World} {form low high cycle width spread : Int} {back rel : Bool} {start tin tend tout : Int} {g : Nat} {vs vk u v : Value} {ls : List Stp} {lk : List (Int × ByteArray)} {lr : List (Int × Int)} {u0 u1 u2 u3 u4 u5 u6 u7 u8 u9 u10 u11 u12 u13 u14 : Value} (h : FT w W form low high cycle width spread back rel start tin tend tout g vs vk u v ls lk lr) :
    RunNew w.heap.size (set15 W (w.heap.size + 1) u0 u1 u2 u3 u4 u5 u6 u7 u8 u9 u10 u11 u12 u13 u14) ⟨⟨form, low, high, cycle, width, spread, back, rel, ls⟩, lk, start, lr, tin, tend, tout⟩ vs vk v := by
  have hk : ∀ {T : TypeId} {m n : Nat} {a : Value} {xs : List Value}, W.ownsRow (w.heap.size + 1 + 1) T m a n xs → (set15 W (w.heap.size + 1) u0 u1 u2 u3 u4 u5 u6 u7 u8 u9 u10 u11 u12 u13 u14).ownsRow (w.heap.size + 1 + 1) T m a n xs :=
    fun ho => own_same ho (fun k hk => heap_set15 (by omega))
  exact ⟨own_base' (hk h.st) (by omega), own_base' (hk h.ke) (by omega), own_base' (hk h.ra) (by omega)⟩
theorem own_take {W : World} {B L c k : Nat} {T : TypeId} {a : Option Addr} {xs : List Value} (h : W.ownsRow B T 2 (.slice a L c) L xs) (hk : k ≤ L) : W.ownsRow B T 2 (.slice a k c) k (xs.take (k * 2)) := by
  refine ⟨by rw [List.length_take, h.1, Nat.min_eq_left (by omega)], ?_⟩
  rcases h.2 with ⟨h1, h2⟩ | ⟨g, cap, cur, h1, h2, h3, h4, h5, h6, h7⟩
  · left
    injection h1 with e1 e2 e3
    subst e1 e3
    obtain rfl : k = 0 := by omega
    exact ⟨rfl, rfl⟩
  · right
    injection h1 with e1 _ e3
    subst e1 e3
    exact ⟨g, c, cur, rfl, h2, h3, Nat.le_trans hk h4, h5, h6, by rw [← h7, List.take_take, Nat.min_eq_left (by omega)]⟩
theorem FT.cut {w W : World} {form low high cycle width spread : Int} {back rel : Bool} {start tin tend tout : Int} {g c : Nat} {vs vk u : Value} {a : Option Addr} {ls : List Stp} {lk : List (Int × ByteArray)} {lr : List (Int × Int)} (k : Nat) (h : FT w W form low high cycle width spread back rel start tin tend tout g vs vk u (.slice a lr.length c) ls lk lr) (hk : k ≤ lr.length) :
    FT w W form low high cycle width spread back rel start tin tend tout g vs vk u (.slice a k c) ls lk (lr.take k) :=
  ⟨h.box, h.ty, h.st, h.ke, by rw [show (lr.take k).length = k by rw [List.length_take]; omega, show rCells (lr.take k) = (rCells lr).take (k * 2) from (cells2_take _ _ _ _).symm]; exact own_take h.ra hk, h.res, h.bl, h.lo, h.sz⟩
theorem FT.put2 {w W : World} {form low high cycle width spread : Int} {back rel : Bool} {start tin tend tout : Int} {g : Nat} {vs vk u v : Value} {ls : List Stp} {lk : List (Int × ByteArray)} {lr : List (Int × Int)} (x y : Int) (h : FT w W form low high cycle width spread back rel start tin tend tout g vs vk u v ls lk lr) :
    FT w ((W.setCell ⟨g, 13, none⟩ (.int .i64 x)).setCell ⟨g, 14, none⟩ (.int .i64 y)) form low high cycle width spread back rel start tin x y g vs vk u v ls lk lr := by
  have hb : ∀ k, k ≠ g → ((W.setCell ⟨g, 13, none⟩ (.int .i64 x)).setCell ⟨g, 14, none⟩ (.int .i64 y)).heap[k]? = W.heap[k]? := fun k hk => by
    rw [heap_setCell_other _ _ _ _ (by simpa using hk), heap_setCell_other _ _ _ _ (by simpa using hk)]
  have hne : ∀ {T : TypeId} {m n : Nat} {a : Value} {xs : List Value}, T ≠ 28 → W.ownsRow (w.heap.size + 1 + 1) T m a n xs → ((W.setCell ⟨g, 13, none⟩ (.int .i64 x)).setCell ⟨g, 14, none⟩ (.int .i64 y)).ownsRow (w.heap.size + 1 + 1) T m a n xs := by
    intro T m n a xs hT ho
    refine ⟨ho.1, ?_⟩
    rcases ho.2 with hn | ⟨k, cap, cur, rfl, h1, h2, rest⟩
    · exact .inl hn
    · refine .inr ⟨k, cap, cur, rfl, h1, (hb k ?_).trans h2, rest⟩
      intro e
      exact own_not ho h.ty hT (by simp [Value.ownBlock]; exact e.symm)
  exact ⟨box15_put1314 h.box, (h.ty.set _ _ _).set _ _ _, hne (by decide) h.st, hne (by decide) h.ke, hne (by decide) h.ra, box15_keep h.res (hb _ (by have := h.lo; omega)), (h.bl.setCell (by have := h.lo; show w.heap.size ≤ g; omega) _).setCell (by have := h.lo; show w.heap.size ≤ g; omega) _, h.lo, by simpa using h.sz⟩
end Go.Proofs.Ytopmdeefcjdadaa
