/- Contracts of level.Turn and of the reference's Turn. (printed by wip/gen/gen_turn.py) -/
import Derived.Test.YtdicoggpcobbpaaDoorPtsLib
import Derived.Test.YtdicoggpcobbpaaDoorAt
import Derived.Deep.DeepCutAuto
namespace Go.Proofs.YtdicoggpcobbpaaDoor
open Go.RowKit
set_option linter.unusedVariables false
set_option linter.unusedSimpArgs false

/-- a variable of seven cells -/
structure Box7 (W : World) (g : Nat) (c0 c1 c2 c3 c4 c5 c6 : Value) : Prop where
  c0 : W.cell? ⟨g, 0, none⟩ = some c0
  c1 : W.cell? ⟨g, 1, none⟩ = some c1
  c2 : W.cell? ⟨g, 2, none⟩ = some c2
  c3 : W.cell? ⟨g, 3, none⟩ = some c3
  c4 : W.cell? ⟨g, 4, none⟩ = some c4
  c5 : W.cell? ⟨g, 5, none⟩ = some c5
  c6 : W.cell? ⟨g, 6, none⟩ = some c6
  f0 : W.frozen? ⟨g, 0, none⟩ = false
  f1 : W.frozen? ⟨g, 1, none⟩ = false
  f2 : W.frozen? ⟨g, 2, none⟩ = false
  f3 : W.frozen? ⟨g, 3, none⟩ = false
  f4 : W.frozen? ⟨g, 4, none⟩ = false
  f5 : W.frozen? ⟨g, 5, none⟩ = false
  f6 : W.frozen? ⟨g, 6, none⟩ = false
theorem box7_new (w : World) (c0 c1 c2 c3 c4 c5 c6 : Value) (T : TypeId) : Box7 (w.alloc (.cells #[c0, c1, c2, c3, c4, c5, c6] T)) w.heap.size c0 c1 c2 c3 c4 c5 c6 :=
  ⟨by simp [go_sem], by simp [go_sem], by simp [go_sem], by simp [go_sem], by simp [go_sem], by simp [go_sem], by simp [go_sem], by simp [go_sem], by simp [go_sem], by simp [go_sem], by simp [go_sem], by simp [go_sem], by simp [go_sem], by simp [go_sem]⟩
theorem box7_newd (w : World) (c0 c1 c2 c3 c4 c5 c6 : Value) (T : TypeId) : Box7 (w.alloc (.cells #[c0, c1, c2, c3, c4, c5, c6] T)).drew w.heap.size c0 c1 c2 c3 c4 c5 c6 :=
  ⟨by simp [go_sem], by simp [go_sem], by simp [go_sem], by simp [go_sem], by simp [go_sem], by simp [go_sem], by simp [go_sem], by simp [go_sem], by simp [go_sem], by simp [go_sem], by simp [go_sem], by simp [go_sem], by simp [go_sem], by simp [go_sem]⟩
theorem Box7.below {w W : World} {B g : Nat} {c0 c1 c2 c3 c4 c5 c6 : Value} (h : Box7 w g c0 c1 c2 c3 c4 c5 c6) (hb : Below B w W) (hg : g < B) : Box7 W g c0 c1 c2 c3 c4 c5 c6 :=
  ⟨(hb.cell (p := ⟨g, 0, none⟩) hg).trans h.c0, (hb.cell (p := ⟨g, 1, none⟩) hg).trans h.c1, (hb.cell (p := ⟨g, 2, none⟩) hg).trans h.c2, (hb.cell (p := ⟨g, 3, none⟩) hg).trans h.c3, (hb.cell (p := ⟨g, 4, none⟩) hg).trans h.c4, (hb.cell (p := ⟨g, 5, none⟩) hg).trans h.c5, (hb.cell (p := ⟨g, 6, none⟩) hg).trans h.c6,
   (hb.frozen (p := ⟨g, 0, none⟩) hg).trans h.f0, (hb.frozen (p := ⟨g, 1, none⟩) hg).trans h.f1, (hb.frozen (p := ⟨g, 2, none⟩) hg).trans h.f2, (hb.frozen (p := ⟨g, 3, none⟩) hg).trans h.f3, (hb.frozen (p := ⟨g, 4, none⟩) hg).trans h.f4, (hb.frozen (p := ⟨g, 5, none⟩) hg).trans h.f5, (hb.frozen (p := ⟨g, 6, none⟩) hg).trans h.f6⟩
theorem Box7.alloc {w : World} {g : Nat} {c0 c1 c2 c3 c4 c5 c6 : Value} (h : Box7 w g c0 c1 c2 c3 c4 c5 c6) (hg : g < w.heap.size) (o : Obj) : Box7 (w.alloc o) g c0 c1 c2 c3 c4 c5 c6 := h.below ((Below.refl _ _).alloc (Nat.le_refl _) o) hg
abbrev set7 (W : World) (g : Nat) (u0 u1 u2 u3 u4 u5 u6 : Value) : World := ((((((W.setCell ⟨g, 0, none⟩ u0).setCell ⟨g, 1, none⟩ u1).setCell ⟨g, 2, none⟩ u2).setCell ⟨g, 3, none⟩ u3).setCell ⟨g, 4, none⟩ u4).setCell ⟨g, 5, none⟩ u5).setCell ⟨g, 6, none⟩ u6
theorem Box7.put {W : World} {g : Nat} {c0 c1 c2 c3 c4 c5 c6 u0 u1 u2 u3 u4 u5 u6 : Value} (h : Box7 W g c0 c1 c2 c3 c4 c5 c6) : Box7 (set7 W g u0 u1 u2 u3 u4 u5 u6) g u0 u1 u2 u3 u4 u5 u6 := by
  obtain ⟨a0, a1, a2, a3, a4, a5, a6, b0, b1, b2, b3, b4, b5, b6⟩ := h
  unfold set7
  exact ⟨by simp [go_sem, a0, a1, a2, a3, a4, a5, a6], by simp [go_sem, a0, a1, a2, a3, a4, a5, a6], by simp [go_sem, a0, a1, a2, a3, a4, a5, a6], by simp [go_sem, a0, a1, a2, a3, a4, a5, a6], by simp [go_sem, a0, a1, a2, a3, a4, a5, a6], by simp [go_sem, a0, a1, a2, a3, a4, a5, a6], by simp [go_sem, a0, a1, a2, a3, a4, a5, a6], by simp [go_sem, b0, b1, b2, b3, b4, b5, b6], by simp [go_sem, b0, b1, b2, b3, b4, b5, b6], by simp [go_sem, b0, b1, b2, b3, b4, b5, b6], by simp [go_sem, b0, b1, b2, b3, b4, b5, b6], by simp [go_sem, b0, b1, b2, b3, b4, b5, b6], by simp [go_sem, b0, b1, b2, b3, b4, b5, b6], by simp [go_sem, b0, b1, b2, b3, b4, b5, b6]⟩
theorem below_set7 {B g : Nat} {w W : World} {u0 u1 u2 u3 u4 u5 u6 : Value} (h : Below B w W) (hg : B ≤ g) : Below B w (set7 W g u0 u1 u2 u3 u4 u5 u6) :=
  ((((((h.setCell hg u0).setCell hg u1).setCell hg u2).setCell hg u3).setCell hg u4).setCell hg u5).setCell hg u6
theorem size_set7 {g : Nat} {W : World} {u0 u1 u2 u3 u4 u5 u6 : Value} : (set7 W g u0 u1 u2 u3 u4 u5 u6).heap.size = W.heap.size := by unfold set7; simp

/-- the fade that Turn makes, what it returns -/
noncomputable def turnG (f : Fd) (t tt delay time : Int) (c : Cv) : Fd := ⟨atV f t, tt, t, delay, time, c⟩
noncomputable def turnE (f : Fd) (t tt delay time : Int) (c : Cv) : Int := firstE (atE f t) (checkF (turnG f t tt delay time c))
noncomputable def turnR (f : Fd) (t tt delay time : Int) (c : Cv) : Fd := if turnE f t tt delay time c = 0 then turnG f t tt delay time c else ⟨0, 0, 0, 0, 0, ⟨0, []⟩⟩
def TurnP (g : Fd) (E : Int) (w : World) (e : Ending) (w' : World) : Prop := ∃ p, e = .returned (.tuple #[.agg #[.int .i64 g.fr, .int .i64 g.to, .int .i64 g.start, .int .i64 g.delay, .int .i64 g.time, .int .i64 g.curve.kind, p], .int .i64 E]) ∧ PtsV w' p g.curve.pts ∧ Below w.heap.size w w'
theorem first2e (b : Nat) (x y z : Int) (W : World) (hz : firstE x y = z) (h1 : W.cell? ⟨b, 0, none⟩ = some (.int .i64 x)) (h2 : W.cell? ⟨b, 1, none⟩ = some (.int .i64 y)) :
    Calls Tryd.prog 62 #[.slice (some ⟨b, 0, none⟩) 2 2] W fun e w' => e = .returned (.int .i64 z) ∧ W = w' := by subst hz; exact first2c b x y W h1 h2
theorem below_al (W : World) (o : Obj) : Below W.heap.size W (W.alloc o) := (Below.refl _ _).alloc (Nat.le_refl _) o
theorem pts_shape {W : World} {v : Value} {ps : List (Int × Int)} (h : PtsV W v ps) : ∃ ao cap, v = .slice ao ps.length cap := by
  rcases h with ⟨rfl, ao, cap, rfl⟩ | ⟨h, hm, b, off, cap, rfl, hb, hp⟩
  · exact ⟨ao, cap, rfl⟩
  · exact ⟨_, cap, rfl⟩
theorem ptsV_set7 {W : World} {v : Value} {ps : List (Int × Int)} {g : Nat} {u0 u1 u2 u3 u4 u5 u6 : Value} (h : PtsV W v ps) (hn : ps ≠ [] → ∀ b off n cap, v = .slice (some ⟨b, off, none⟩) n cap → b ≠ g) : PtsV (set7 W g u0 u1 u2 u3 u4 u5 u6) v ps := by
  rcases h with ⟨rfl, ao, cap, rfl⟩ | ⟨h, hm, b, off, cap, rfl, hb, hp⟩
  · exact .inl ⟨rfl, ao, cap, rfl⟩
  · have hne := hn h _ _ _ _ rfl
    refine .inr ⟨h, hm, b, off, cap, rfl, by rw [size_set7]; exact hb, fun i hi => ?_⟩
    obtain ⟨c1, c2⟩ := hp i hi
    unfold set7
    exact ⟨by simp [go_sem, hne, hne.symm, c1], by simp [go_sem, hne, hne.symm, c2]⟩

set_option maxHeartbeats 4000000 in
set_option maxRecDepth 100000 in
theorem turn_bad (p pc : Value) (f : Fd) (c : Cv) (t tt delay time : Int) (w : World) (hp : PtsV w p f.curve.pts) (hpc : PtsV w pc c.pts) (hl : c.pts.length ≤ 8796093022207) (hE : atE f t ≠ 0) :
    Calls Tryd.prog 29 #[.agg #[.int .i64 f.fr, .int .i64 f.to, .int .i64 f.start, .int .i64 f.delay, .int .i64 f.time, .int .i64 f.curve.kind, p], .int .i64 t, .int .i64 tt, .int .i64 delay, .int .i64 time, .agg #[.int .i64 c.kind, pc]] w (TurnP ⟨0, 0, 0, 0, 0, ⟨0, []⟩⟩ (atE f t) w) := by
  have KC := Lib.hid (show ∀ W, Below (w.heap.size + 1 + 1 + 1) (((w.alloc (.cells #[.int .i64 f.fr, .int .i64 f.to, .int .i64 f.start, .int .i64 f.delay, .int .i64 f.time, .int .i64 f.curve.kind, p] 40)).alloc (.cells #[.int .i64 c.kind, pc] 31)).alloc (.cells #[.int .i64 0, .int .i64 0, .int .i64 0, .int .i64 0, .int .i64 0, .int .i64 0, .slice none 0 0] 40)) W → Box7 W w.heap.size (.int .i64 f.fr) (.int .i64 f.to) (.int .i64 f.start) (.int .i64 f.delay) (.int .i64 f.time) (.int .i64 f.curve.kind) p ∧ (W.cell? ⟨w.heap.size + 1, 0, none⟩ = some (.int .i64 c.kind) ∧ W.cell? ⟨w.heap.size + 1, 1, none⟩ = some pc) ∧ Box7 W (w.heap.size + 1 + 1) (.int .i64 0) (.int .i64 0) (.int .i64 0) (.int .i64 0) (.int .i64 0) (.int .i64 0) (.slice none 0 0) from fun W hW => by
    refine ⟨(((box7_new w (.int .i64 f.fr) (.int .i64 f.to) (.int .i64 f.start) (.int .i64 f.delay) (.int .i64 f.time) (.int .i64 f.curve.kind) p 40).alloc (by simp) _).alloc (by simp; omega) _).below hW (by omega), ⟨(hW.cell (p := ⟨w.heap.size + 1, 0, none⟩) (by show w.heap.size + 1 < _; omega)).trans (by simp [go_sem]), (hW.cell (p := ⟨w.heap.size + 1, 1, none⟩) (by show w.heap.size + 1 < _; omega)).trans (by simp [go_sem])⟩, ?_⟩
    have c := (box7_new ((w.alloc (.cells #[.int .i64 f.fr, .int .i64 f.to, .int .i64 f.start, .int .i64 f.delay, .int .i64 f.time, .int .i64 f.curve.kind, p] 40)).alloc (.cells #[.int .i64 c.kind, pc] 31)) (.int .i64 0) (.int .i64 0) (.int .i64 0) (.int .i64 0) (.int .i64 0) (.int .i64 0) (.slice none 0 0) 40).below hW (by simp)
    simpa using c)
  have KZ := Lib.hid (show ∀ W, Below (w.heap.size + 1 + 1 + 1) (((w.alloc (.cells #[.int .i64 f.fr, .int .i64 f.to, .int .i64 f.start, .int .i64 f.delay, .int .i64 f.time, .int .i64 f.curve.kind, p] 40)).alloc (.cells #[.int .i64 c.kind, pc] 31)).alloc (.cells #[.int .i64 0, .int .i64 0, .int .i64 0, .int .i64 0, .int .i64 0, .int .i64 0, .slice none 0 0] 40)) W → (w.heap.size + 1 + 1 + 1) ≤ W.heap.size from fun W hW => by
    have := hW.size
    simp at this
    omega)
  have KB := Lib.hid (show ∀ W, Below (w.heap.size + 1 + 1 + 1) (((w.alloc (.cells #[.int .i64 f.fr, .int .i64 f.to, .int .i64 f.start, .int .i64 f.delay, .int .i64 f.time, .int .i64 f.curve.kind, p] 40)).alloc (.cells #[.int .i64 c.kind, pc] 31)).alloc (.cells #[.int .i64 0, .int .i64 0, .int .i64 0, .int .i64 0, .int .i64 0, .int .i64 0, .slice none 0 0] 40)) W → Below w.heap.size w W from fun W hW => ((((Below.refl _ _).alloc (Nat.le_refl _) _).alloc (by simp) _).alloc (by simp; omega) _).trans (hW.mono (by omega)))
  have KT := Lib.hid (show ∀ W W1, Below (w.heap.size + 1 + 1 + 1) (((w.alloc (.cells #[.int .i64 f.fr, .int .i64 f.to, .int .i64 f.start, .int .i64 f.delay, .int .i64 f.time, .int .i64 f.curve.kind, p] 40)).alloc (.cells #[.int .i64 c.kind, pc] 31)).alloc (.cells #[.int .i64 0, .int .i64 0, .int .i64 0, .int .i64 0, .int .i64 0, .int .i64 0, .slice none 0 0] 40)) W → Below W.heap.size W W1 → Below (w.heap.size + 1 + 1 + 1) (((w.alloc (.cells #[.int .i64 f.fr, .int .i64 f.to, .int .i64 f.start, .int .i64 f.delay, .int .i64 f.time, .int .i64 f.curve.kind, p] 40)).alloc (.cells #[.int .i64 c.kind, pc] 31)).alloc (.cells #[.int .i64 0, .int .i64 0, .int .i64 0, .int .i64 0, .int .i64 0, .int .i64 0, .slice none 0 0] 40)) W1 from fun W W1 h1 h2 => h1.trans (h2.mono (KZ.out W h1)))
  have KA := Lib.hid (show ∀ W o, Below (w.heap.size + 1 + 1 + 1) (((w.alloc (.cells #[.int .i64 f.fr, .int .i64 f.to, .int .i64 f.start, .int .i64 f.delay, .int .i64 f.time, .int .i64 f.curve.kind, p] 40)).alloc (.cells #[.int .i64 c.kind, pc] 31)).alloc (.cells #[.int .i64 0, .int .i64 0, .int .i64 0, .int .i64 0, .int .i64 0, .int .i64 0, .slice none 0 0] 40)) W → Below (w.heap.size + 1 + 1 + 1) (((w.alloc (.cells #[.int .i64 f.fr, .int .i64 f.to, .int .i64 f.start, .int .i64 f.delay, .int .i64 f.time, .int .i64 f.curve.kind, p] 40)).alloc (.cells #[.int .i64 c.kind, pc] 31)).alloc (.cells #[.int .i64 0, .int .i64 0, .int .i64 0, .int .i64 0, .int .i64 0, .int .i64 0, .slice none 0 0] 40)) (W.alloc o) from fun W o h1 => h1.alloc (KZ.out W h1) o)
  have KR := Lib.hid (show Below (w.heap.size + 1 + 1 + 1) (((w.alloc (.cells #[.int .i64 f.fr, .int .i64 f.to, .int .i64 f.start, .int .i64 f.delay, .int .i64 f.time, .int .i64 f.curve.kind, p] 40)).alloc (.cells #[.int .i64 c.kind, pc] 31)).alloc (.cells #[.int .i64 0, .int .i64 0, .int .i64 0, .int .i64 0, .int .i64 0, .int .i64 0, .slice none 0 0] 40)) (((w.alloc (.cells #[.int .i64 f.fr, .int .i64 f.to, .int .i64 f.start, .int .i64 f.delay, .int .i64 f.time, .int .i64 f.curve.kind, p] 40)).alloc (.cells #[.int .i64 c.kind, pc] 31)).alloc (.cells #[.int .i64 0, .int .i64 0, .int .i64 0, .int .i64 0, .int .i64 0, .int .i64 0, .slice none 0 0] 40)) from Below.refl _ _)
  have CF := Lib.hid (fun W (hW : Below w.heap.size w W) => checkFade_any (.agg #[.int .i64 f.fr, .int .i64 f.to, .int .i64 f.start, .int .i64 f.delay, .int .i64 f.time, .int .i64 f.curve.kind, p]) f W (fdV_below ⟨p, rfl, hp⟩ hW))
  have EE : Hid (atE f t = firstE (checkF f) (if IsTm t then 0 else 1)) := rfl
  generalize hc : checkF f = q at *
  generalize atE f t = ev at *
  clear hp hpc hl hc
  by_cases ht : IsTm t
  · have hx : ev = firstE q 0 := by rw [EE.out, if_pos ht]
    have HX := Lib.hid hx.symm
    have HT := Lib.hid (fun (W : World) => isTime_yes t W ht)
    have hEb : (ev != 0) = true := by simpa using hE
    clear ht EE hE hx
    go_enter Tryd.func29, Tryd.ntmps29
    go_wp2_with fail
    refine (CF.out _ (KB.out _ KR.out)).mono ?_
    rintro e w1 ⟨rfl, hb1⟩
    have hw1 := KT.out _ _ KR.out hb1
    clear hb1
    have hz := KZ.out w1 hw1
    go_upto_region 3 with (first
      | (go_at_call 42; refine (HT.out _).mono ?_; rintro e w' ⟨rfl, rfl⟩)
      | (go_at_call 55; refine (when_no _ _).mono ?_; rintro e w' ⟨rfl, rfl⟩)
      | (go_at_call 62; refine (first2e _ q 0 ev _ HX.out (by simp) (by simp)).mono ?_; rintro e w' ⟨rfl, rfl⟩))
    have hw2 := KA.out w1 (.cells #[.int .i64 q, .int .i64 0] 22) hw1
    generalize w1.alloc (.cells #[.int .i64 q, .int .i64 0] 22) = w2 at *
    have hbx := (KC.out w2 hw2).2.2
    have hz2 := KZ.out w2 hw2
    have HPUT := Lib.hid (hbx.put (u0 := (.int .i64 0)) (u1 := (.int .i64 0)) (u2 := (.int .i64 0)) (u3 := (.int .i64 0)) (u4 := (.int .i64 0)) (u5 := (.int .i64 0)) (u6 := (.slice none 0 0)))
    have HBEL := Lib.hid (below_set7 (g := (w.heap.size + 1 + 1)) (u0 := (.int .i64 0)) (u1 := (.int .i64 0)) (u2 := (.int .i64 0)) (u3 := (.int .i64 0)) (u4 := (.int .i64 0)) (u5 := (.int .i64 0)) (u6 := (.slice none 0 0)) (KB.out _ hw2) (by omega))
    obtain ⟨z0, z1, z2, z3, z4, z5, z6, y0, y1, y2, y3, y4, y5, y6⟩ := hbx
    clear KC KB KZ KT KA KR HX HT hw1 hw2 CF hz
    go_wp2
    change bodyPost _ _ _ _ _ (set7 w2 (w.heap.size + 1 + 1) (.int .i64 0) (.int .i64 0) (.int .i64 0) (.int .i64 0) (.int .i64 0) (.int .i64 0) (.slice none 0 0))
    have hcc := HPUT.out
    have hbel := HBEL.out
    generalize set7 w2 (w.heap.size + 1 + 1) (.int .i64 0) (.int .i64 0) (.int .i64 0) (.int .i64 0) (.int .i64 0) (.int .i64 0) (.slice none 0 0) = w3 at *
    obtain ⟨x0, x1, x2, x3, x4, x5, x6, _, _, _, _, _, _, _⟩ := hcc
    refine bodyPost_ret (v := .tuple #[.agg #[.int .i64 0, .int .i64 0, .int .i64 0, .int .i64 0, .int .i64 0, .int .i64 0, .slice none 0 0], .int .i64 ev]) (by simp [results, Tryd.results29, go_sem, x0, x1, x2, x3, x4, x5, x6]) rfl ⟨_, rfl, .inl ⟨rfl, none, 0, rfl⟩, hbel⟩
  · have hx : ev = firstE q 1 := by rw [EE.out, if_neg ht]
    have HX := Lib.hid hx.symm
    have HT := Lib.hid (fun (W : World) => isTime_no t W (by unfold IsTm at ht; omega))
    have hEb : (ev != 0) = true := by simpa using hE
    clear ht EE hE hx
    go_enter Tryd.func29, Tryd.ntmps29
    go_wp2_with fail
    refine (CF.out _ (KB.out _ KR.out)).mono ?_
    rintro e w1 ⟨rfl, hb1⟩
    have hw1 := KT.out _ _ KR.out hb1
    clear hb1
    have hz := KZ.out w1 hw1
    go_upto_region 3 with (first
      | (go_at_call 42; refine (HT.out _).mono ?_; rintro e w' ⟨rfl, rfl⟩)
      | (go_at_call 55; refine (when_yes _ _).mono ?_; rintro e w' ⟨rfl, rfl⟩)
      | (go_at_call 62; refine (first2e _ q 1 ev _ HX.out (by simp) (by simp)).mono ?_; rintro e w' ⟨rfl, rfl⟩))
    have hw2 := KA.out w1 (.cells #[.int .i64 q, .int .i64 1] 22) hw1
    generalize w1.alloc (.cells #[.int .i64 q, .int .i64 1] 22) = w2 at *
    have hbx := (KC.out w2 hw2).2.2
    have hz2 := KZ.out w2 hw2
    have HPUT := Lib.hid (hbx.put (u0 := (.int .i64 0)) (u1 := (.int .i64 0)) (u2 := (.int .i64 0)) (u3 := (.int .i64 0)) (u4 := (.int .i64 0)) (u5 := (.int .i64 0)) (u6 := (.slice none 0 0)))
    have HBEL := Lib.hid (below_set7 (g := (w.heap.size + 1 + 1)) (u0 := (.int .i64 0)) (u1 := (.int .i64 0)) (u2 := (.int .i64 0)) (u3 := (.int .i64 0)) (u4 := (.int .i64 0)) (u5 := (.int .i64 0)) (u6 := (.slice none 0 0)) (KB.out _ hw2) (by omega))
    obtain ⟨z0, z1, z2, z3, z4, z5, z6, y0, y1, y2, y3, y4, y5, y6⟩ := hbx
    clear KC KB KZ KT KA KR HX HT hw1 hw2 CF hz
    go_wp2
    change bodyPost _ _ _ _ _ (set7 w2 (w.heap.size + 1 + 1) (.int .i64 0) (.int .i64 0) (.int .i64 0) (.int .i64 0) (.int .i64 0) (.int .i64 0) (.slice none 0 0))
    have hcc := HPUT.out
    have hbel := HBEL.out
    generalize set7 w2 (w.heap.size + 1 + 1) (.int .i64 0) (.int .i64 0) (.int .i64 0) (.int .i64 0) (.int .i64 0) (.int .i64 0) (.slice none 0 0) = w3 at *
    obtain ⟨x0, x1, x2, x3, x4, x5, x6, _, _, _, _, _, _, _⟩ := hcc
    refine bodyPost_ret (v := .tuple #[.agg #[.int .i64 0, .int .i64 0, .int .i64 0, .int .i64 0, .int .i64 0, .int .i64 0, .slice none 0 0], .int .i64 ev]) (by simp [results, Tryd.results29, go_sem, x0, x1, x2, x3, x4, x5, x6]) rfl ⟨_, rfl, .inl ⟨rfl, none, 0, rfl⟩, hbel⟩

set_option maxHeartbeats 8000000 in
set_option maxRecDepth 100000 in
theorem turn_ok (p pc : Value) (f : Fd) (c : Cv) (t tt delay time : Int) (w : World) (hp : PtsV w p f.curve.pts) (hpc : PtsV w pc c.pts) (hl : c.pts.length ≤ 8796093022207) (hE : atE f t = 0) :
    Calls Tryd.prog 29 #[.agg #[.int .i64 f.fr, .int .i64 f.to, .int .i64 f.start, .int .i64 f.delay, .int .i64 f.time, .int .i64 f.curve.kind, p], .int .i64 t, .int .i64 tt, .int .i64 delay, .int .i64 time, .agg #[.int .i64 c.kind, pc]] w (TurnP (turnR f t tt delay time c) (turnE f t tt delay time c) w) := by
  have CF := Lib.hid (fun W (hW : Below w.heap.size w W) => checkFade_any (.agg #[.int .i64 f.fr, .int .i64 f.to, .int .i64 f.start, .int .i64 f.delay, .int .i64 f.time, .int .i64 f.curve.kind, p]) f W (fdV_below ⟨p, rfl, hp⟩ hW))
  have CG := Lib.hid (fun (pv : Value) W (hP : PtsV W pv c.pts) => checkFade_any (.agg #[.int .i64 (atV f t), .int .i64 tt, .int .i64 t, .int .i64 delay, .int .i64 time, .int .i64 c.kind, pv]) (turnG f t tt delay time c) W ⟨pv, rfl, hP⟩)
  have CL := Lib.hid (fun W (hW : Below w.heap.size w W) => ptsClone_any pc c.pts W hl (ptsV_below hpc hW))
  obtain ⟨hf, ht⟩ := (atE_ok f t).1 hE
  have AT := Lib.hid (fun W (hW : Below w.heap.size w W) => at_any (.agg #[.int .i64 f.fr, .int .i64 f.to, .int .i64 f.start, .int .i64 f.delay, .int .i64 f.time, .int .i64 f.curve.kind, p]) f t W (fdV_below ⟨p, rfl, hp⟩ hW) hf ht)
  rw [(checkF_right f).2 hf] at CF
  have HT := Lib.hid (fun (W : World) => isTime_yes t W ht)
  have EV := Lib.hid (show turnE f t tt delay time c = checkF (turnG f t tt delay time c) by unfold turnE firstE; rw [if_pos hE])
  have ER : Hid (turnR f t tt delay time c = if turnE f t tt delay time c = 0 then turnG f t tt delay time c else ⟨0, 0, 0, 0, 0, ⟨0, []⟩⟩) := rfl
  have EG : Hid (turnG f t tt delay time c = ⟨atV f t, tt, t, delay, time, c⟩) := rfl
  generalize turnG f t tt delay time c = g at *
  generalize turnE f t tt delay time c = ev at *
  generalize turnR f t tt delay time c = rv at *
  generalize checkF g = q at *
  generalize atV f t = av at *
  obtain rfl := EV.out
  obtain rfl := EG.out
  clear hp hpc hl hE ht hf EV EG
  obtain ⟨ck, ps⟩ := c
  simp only at CG CL
  have KC := Lib.hid (show ∀ W, Below (w.heap.size + 1 + 1 + 1) (((w.alloc (.cells #[.int .i64 f.fr, .int .i64 f.to, .int .i64 f.start, .int .i64 f.delay, .int .i64 f.time, .int .i64 f.curve.kind, p] 40)).alloc (.cells #[.int .i64 ck, pc] 31)).alloc (.cells #[.int .i64 0, .int .i64 0, .int .i64 0, .int .i64 0, .int .i64 0, .int .i64 0, .slice none 0 0] 40)) W → Box7 W w.heap.size (.int .i64 f.fr) (.int .i64 f.to) (.int .i64 f.start) (.int .i64 f.delay) (.int .i64 f.time) (.int .i64 f.curve.kind) p ∧ (W.cell? ⟨w.heap.size + 1, 0, none⟩ = some (.int .i64 ck) ∧ W.cell? ⟨w.heap.size + 1, 1, none⟩ = some pc) ∧ Box7 W (w.heap.size + 1 + 1) (.int .i64 0) (.int .i64 0) (.int .i64 0) (.int .i64 0) (.int .i64 0) (.int .i64 0) (.slice none 0 0) from fun W hW => by
    refine ⟨(((box7_new w (.int .i64 f.fr) (.int .i64 f.to) (.int .i64 f.start) (.int .i64 f.delay) (.int .i64 f.time) (.int .i64 f.curve.kind) p 40).alloc (by simp) _).alloc (by simp; omega) _).below hW (by omega), ⟨(hW.cell (p := ⟨w.heap.size + 1, 0, none⟩) (by show w.heap.size + 1 < _; omega)).trans (by simp [go_sem]), (hW.cell (p := ⟨w.heap.size + 1, 1, none⟩) (by show w.heap.size + 1 < _; omega)).trans (by simp [go_sem])⟩, ?_⟩
    have c := (box7_new ((w.alloc (.cells #[.int .i64 f.fr, .int .i64 f.to, .int .i64 f.start, .int .i64 f.delay, .int .i64 f.time, .int .i64 f.curve.kind, p] 40)).alloc (.cells #[.int .i64 ck, pc] 31)) (.int .i64 0) (.int .i64 0) (.int .i64 0) (.int .i64 0) (.int .i64 0) (.int .i64 0) (.slice none 0 0) 40).below hW (by simp)
    simpa using c)
  have KZ := Lib.hid (show ∀ W, Below (w.heap.size + 1 + 1 + 1) (((w.alloc (.cells #[.int .i64 f.fr, .int .i64 f.to, .int .i64 f.start, .int .i64 f.delay, .int .i64 f.time, .int .i64 f.curve.kind, p] 40)).alloc (.cells #[.int .i64 ck, pc] 31)).alloc (.cells #[.int .i64 0, .int .i64 0, .int .i64 0, .int .i64 0, .int .i64 0, .int .i64 0, .slice none 0 0] 40)) W → (w.heap.size + 1 + 1 + 1) ≤ W.heap.size from fun W hW => by
    have := hW.size
    simp at this
    omega)
  have KB := Lib.hid (show ∀ W, Below (w.heap.size + 1 + 1 + 1) (((w.alloc (.cells #[.int .i64 f.fr, .int .i64 f.to, .int .i64 f.start, .int .i64 f.delay, .int .i64 f.time, .int .i64 f.curve.kind, p] 40)).alloc (.cells #[.int .i64 ck, pc] 31)).alloc (.cells #[.int .i64 0, .int .i64 0, .int .i64 0, .int .i64 0, .int .i64 0, .int .i64 0, .slice none 0 0] 40)) W → Below w.heap.size w W from fun W hW => ((((Below.refl _ _).alloc (Nat.le_refl _) _).alloc (by simp) _).alloc (by simp; omega) _).trans (hW.mono (by omega)))
  have KT := Lib.hid (show ∀ W W1, Below (w.heap.size + 1 + 1 + 1) (((w.alloc (.cells #[.int .i64 f.fr, .int .i64 f.to, .int .i64 f.start, .int .i64 f.delay, .int .i64 f.time, .int .i64 f.curve.kind, p] 40)).alloc (.cells #[.int .i64 ck, pc] 31)).alloc (.cells #[.int .i64 0, .int .i64 0, .int .i64 0, .int .i64 0, .int .i64 0, .int .i64 0, .slice none 0 0] 40)) W → Below W.heap.size W W1 → Below (w.heap.size + 1 + 1 + 1) (((w.alloc (.cells #[.int .i64 f.fr, .int .i64 f.to, .int .i64 f.start, .int .i64 f.delay, .int .i64 f.time, .int .i64 f.curve.kind, p] 40)).alloc (.cells #[.int .i64 ck, pc] 31)).alloc (.cells #[.int .i64 0, .int .i64 0, .int .i64 0, .int .i64 0, .int .i64 0, .int .i64 0, .slice none 0 0] 40)) W1 from fun W W1 h1 h2 => h1.trans (h2.mono (KZ.out W h1)))
  have KA := Lib.hid (show ∀ W o, Below (w.heap.size + 1 + 1 + 1) (((w.alloc (.cells #[.int .i64 f.fr, .int .i64 f.to, .int .i64 f.start, .int .i64 f.delay, .int .i64 f.time, .int .i64 f.curve.kind, p] 40)).alloc (.cells #[.int .i64 ck, pc] 31)).alloc (.cells #[.int .i64 0, .int .i64 0, .int .i64 0, .int .i64 0, .int .i64 0, .int .i64 0, .slice none 0 0] 40)) W → Below (w.heap.size + 1 + 1 + 1) (((w.alloc (.cells #[.int .i64 f.fr, .int .i64 f.to, .int .i64 f.start, .int .i64 f.delay, .int .i64 f.time, .int .i64 f.curve.kind, p] 40)).alloc (.cells #[.int .i64 ck, pc] 31)).alloc (.cells #[.int .i64 0, .int .i64 0, .int .i64 0, .int .i64 0, .int .i64 0, .int .i64 0, .slice none 0 0] 40)) (W.alloc o) from fun W o h1 => h1.alloc (KZ.out W h1) o)
  have KR := Lib.hid (show Below (w.heap.size + 1 + 1 + 1) (((w.alloc (.cells #[.int .i64 f.fr, .int .i64 f.to, .int .i64 f.start, .int .i64 f.delay, .int .i64 f.time, .int .i64 f.curve.kind, p] 40)).alloc (.cells #[.int .i64 ck, pc] 31)).alloc (.cells #[.int .i64 0, .int .i64 0, .int .i64 0, .int .i64 0, .int .i64 0, .int .i64 0, .slice none 0 0] 40)) (((w.alloc (.cells #[.int .i64 f.fr, .int .i64 f.to, .int .i64 f.start, .int .i64 f.delay, .int .i64 f.time, .int .i64 f.curve.kind, p] 40)).alloc (.cells #[.int .i64 ck, pc] 31)).alloc (.cells #[.int .i64 0, .int .i64 0, .int .i64 0, .int .i64 0, .int .i64 0, .int .i64 0, .slice none 0 0] 40)) from Below.refl _ _)
  have KP := Lib.hid (show ∀ W, Below (w.heap.size + 1 + 1 + 1) (((w.alloc (.cells #[.int .i64 f.fr, .int .i64 f.to, .int .i64 f.start, .int .i64 f.delay, .int .i64 f.time, .int .i64 f.curve.kind, p] 40)).alloc (.cells #[.int .i64 ck, pc] 31)).alloc (.cells #[.int .i64 0, .int .i64 0, .int .i64 0, .int .i64 0, .int .i64 0, .int .i64 0, .slice none 0 0] 40)) W → (W.cell? ⟨w.heap.size, 0, none⟩ = some (.int .i64 f.fr) ∧ W.cell? ⟨w.heap.size, 1, none⟩ = some (.int .i64 f.to) ∧ W.cell? ⟨w.heap.size, 2, none⟩ = some (.int .i64 f.start) ∧ W.cell? ⟨w.heap.size, 3, none⟩ = some (.int .i64 f.delay) ∧ W.cell? ⟨w.heap.size, 4, none⟩ = some (.int .i64 f.time) ∧ W.cell? ⟨w.heap.size, 5, none⟩ = some (.int .i64 f.curve.kind) ∧ W.cell? ⟨w.heap.size, 6, none⟩ = some p ∧ W.cell? ⟨w.heap.size + 1, 0, none⟩ = some (.int .i64 ck) ∧ W.cell? ⟨w.heap.size + 1, 1, none⟩ = some pc) from fun W hW => ⟨(KC.out W hW).1.c0, (KC.out W hW).1.c1, (KC.out W hW).1.c2, (KC.out W hW).1.c3, (KC.out W hW).1.c4, (KC.out W hW).1.c5, (KC.out W hW).1.c6, (KC.out W hW).2.1.1, (KC.out W hW).2.1.2⟩)
  go_enter Tryd.func29, Tryd.ntmps29
  go_wp2_with fail
  refine (CF.out _ (KB.out _ KR.out)).mono ?_
  rintro e w1 ⟨rfl, hb1⟩
  have hw1 := KT.out _ _ KR.out hb1
  clear hb1
  go_upto_region 4 with (first
      | (go_at_call 42; refine (HT.out _).mono ?_; rintro e w' ⟨rfl, rfl⟩)
      | (go_at_call 55; refine (when_no _ _).mono ?_; rintro e w' ⟨rfl, rfl⟩)
      | (go_at_call 62; refine (first2e _ 0 0 0 _ rfl (by simp) (by simp)).mono ?_; rintro e w' ⟨rfl, rfl⟩))
  have hw2 := KA.out w1 (.cells #[.int .i64 0, .int .i64 0] 22) hw1
  generalize w1.alloc (.cells #[.int .i64 0, .int .i64 0] 22) = w2 at *
  clear HT CF
  have hwd := hw2.drew
  have hz2 := KZ.out w2 hw2
  go_cut [15] (fun s15 wx => ∃ (g : Nat) (pv : Value), s15 = .pointer (some ⟨g, 0, none⟩) ∧ (w.heap.size + 1 + 1 + 1) ≤ g ∧ g < wx.heap.size ∧ Box7 wx g (.int .i64 av) (.int .i64 tt) (.int .i64 t) (.int .i64 delay) (.int .i64 time) (.int .i64 ck) pv ∧ PtsV wx pv ps ∧ (ps ≠ [] → ∀ b off n cap, pv = .slice (some ⟨b, off, none⟩) n cap → (w.heap.size + 1 + 1 + 1) ≤ b) ∧ Below (w.heap.size + 1 + 1 + 1) (((w.alloc (.cells #[.int .i64 f.fr, .int .i64 f.to, .int .i64 f.start, .int .i64 f.delay, .int .i64 f.time, .int .i64 f.curve.kind, p] 40)).alloc (.cells #[.int .i64 ck, pc] 31)).alloc (.cells #[.int .i64 0, .int .i64 0, .int .i64 0, .int .i64 0, .int .i64 0, .int .i64 0, .slice none 0 0] 40)) wx)
  case first =>
    go_region_held3 (fun W => W.cell? ⟨w.heap.size, 0, none⟩ = some (.int .i64 f.fr) ∧ W.cell? ⟨w.heap.size, 1, none⟩ = some (.int .i64 f.to) ∧ W.cell? ⟨w.heap.size, 2, none⟩ = some (.int .i64 f.start) ∧ W.cell? ⟨w.heap.size, 3, none⟩ = some (.int .i64 f.delay) ∧ W.cell? ⟨w.heap.size, 4, none⟩ = some (.int .i64 f.time) ∧ W.cell? ⟨w.heap.size, 5, none⟩ = some (.int .i64 f.curve.kind) ∧ W.cell? ⟨w.heap.size, 6, none⟩ = some p ∧ W.cell? ⟨w.heap.size + 1, 0, none⟩ = some (.int .i64 ck) ∧ W.cell? ⟨w.heap.size + 1, 1, none⟩ = some pc)
      (exact KP.out _ (by with_reducible first | assumption | exact KA.out _ _ (by assumption) | exact (KA.out _ _ (by assumption)).drew | exact below_set7 (by assumption) (by first | omega | (simp <;> omega)) | exact below_set7 (KA.out _ _ (by assumption)) (by first | omega | (simp <;> omega))))
      (first
        | (go_at_call 64; ((with_reducible refine (AT.out _ (KB.out _ (by with_reducible first | assumption | exact KA.out _ _ (by assumption) | exact (KA.out _ _ (by assumption)).drew))).mono ?_); rintro e WA ⟨rfl, hb⟩; have hwA := KT.out _ _ (by with_reducible first | assumption | exact KA.out _ _ (by assumption) | exact (KA.out _ _ (by assumption)).drew) hb; have hzA := KZ.out _ hwA; have hsA := hb.size; (try (simp at hsA)); (try (with_reducible first | have HBX := Lib.hid (HBX.out.below hb (by first | omega | (simp <;> omega))) | have HBX := Lib.hid ((box7_new _ (.int .i64 0) (.int .i64 0) (.int .i64 0) (.int .i64 0) (.int .i64 0) (.int .i64 0) (.slice none 0 0) 40).below hb (by simp)) | have HBX := Lib.hid ((box7_newd _ (.int .i64 0) (.int .i64 0) (.int .i64 0) (.int .i64 0) (.int .i64 0) (.int .i64 0) (.slice none 0 0) 40).below hb (by simp)))); (try (with_reducible first | have HPC := Lib.hid (ptsV_below HPC.out hb) | have HPC := Lib.hid (ptsV_below (ptsV_below HPC.out (below_al _ _)) hb))); (try (obtain ⟨b0, b1, b2, b3, b4, b5, b6, e0, e1, e2, e3, e4, e5, e6⟩ := HBX.out)); clear hb))
        | (go_at_call 65; ((with_reducible refine (CL.out _ (KB.out _ (by with_reducible first | assumption | exact KA.out _ _ (by assumption) | exact (KA.out _ _ (by assumption)).drew))).mono ?_); rintro e WC ⟨pv, rfl, hpv, hnew, hb⟩; have hwC := KT.out _ _ (by with_reducible first | assumption | exact KA.out _ _ (by assumption) | exact (KA.out _ _ (by assumption)).drew) hb; have hzC := KZ.out _ hwC; have hsC := hb.size; (try (simp at hsC)); (try (with_reducible first | have HBX := Lib.hid (HBX.out.below hb (by first | omega | (simp <;> omega))) | have HBX := Lib.hid ((box7_new _ (.int .i64 0) (.int .i64 0) (.int .i64 0) (.int .i64 0) (.int .i64 0) (.int .i64 0) (.slice none 0 0) 40).below hb (by simp)) | have HBX := Lib.hid ((box7_newd _ (.int .i64 0) (.int .i64 0) (.int .i64 0) (.int .i64 0) (.int .i64 0) (.int .i64 0) (.slice none 0 0) 40).below hb (by simp)))); have HPC := Lib.hid hpv; have HNC := Lib.hid hnew; obtain ⟨aoC, capC, rfl⟩ := pts_shape hpv; (try (obtain ⟨b0, b1, b2, b3, b4, b5, b6, e0, e1, e2, e3, e4, e5, e6⟩ := HBX.out)); clear hb hpv hnew))
        | fail)
    all_goals
      go_wp2_with fail
      go_meet
      refine ⟨_, .slice aoC ps.length capC, rfl, ?_, ?_, ?_, ?_, ?_, ?_⟩
      · first | omega | (simp <;> omega)
      · first | omega | (simp <;> omega)
      · with_reducible first | exact box7_new _ _ _ _ _ _ _ _ _ | exact HBX.out.put
      · with_reducible first | exact ptsV_set7 HPC.out (fun hne b off n cap e => by have := HNC.out hne b off n cap e; (try simp at this); omega) | exact ptsV_below HPC.out (below_al _ _)
      · exact fun hne b off n cap e => by have := HNC.out hne b off n cap e; (try simp at this); omega
      · with_reducible first | exact KA.out _ _ (by assumption) | exact below_set7 (by assumption) (by first | omega | (simp <;> omega))
  case rest =>
    obtain ⟨g, pv, rfl, hg, hgl, hbox, hpv, hnb, hbx⟩ := hcut
    obtain ⟨wX, rfl⟩ : ∃ x, x = wc := ⟨wc, rfl⟩
    obtain ⟨aoP, capP, rfl⟩ := pts_shape hpv
    have HG := Lib.hid (CG.out _ wX hpv)
    have HBOX := Lib.hid hbox
    have HPV := Lib.hid hpv
    have HNB := Lib.hid hnb
    have HBX := Lib.hid hbx
    obtain ⟨c0, c1, c2, c3, c4, c5, c6, _, _, _, _, _, _, _⟩ := hbox
    clear hpv hnb hbx CG CL KA hw2 hwd hz2 KP
    go_wp2_with fail
    refine HG.out.mono ?_
    rintro e w3 ⟨rfl, hb3⟩
    have hw3 := KT.out _ _ HBX.out hb3
    have HB3 := Lib.hid (HBOX.out.below hb3 hgl)
    have HP3 := Lib.hid (ptsV_below HPV.out hb3)
    have hbx3 := (KC.out w3 hw3).2.2
    have hz3 := KZ.out w3 hw3
    have HBW := Lib.hid (KB.out _ hw3)
    clear hb3 hw3 HG HBX HBOX HPV c0 c1 c2 c3 c4 c5 c6 KC KZ KB KT KR
    by_cases hq : ev = 0
    · subst hq
      have hrv : rv = ⟨av, tt, t, delay, time, ⟨ck, ps⟩⟩ := by rw [ER.out, if_pos rfl]
      subst hrv
      clear ER
      have HPUT := Lib.hid (hbx3.put (u0 := .int .i64 av) (u1 := .int .i64 tt) (u2 := .int .i64 t) (u3 := .int .i64 delay) (u4 := .int .i64 time) (u5 := .int .i64 ck) (u6 := .slice aoP ps.length capP))
      have HBEL := Lib.hid (below_set7 (g := (w.heap.size + 1 + 1)) (u0 := .int .i64 av) (u1 := .int .i64 tt) (u2 := .int .i64 t) (u3 := .int .i64 delay) (u4 := .int .i64 time) (u5 := .int .i64 ck) (u6 := .slice aoP ps.length capP) HBW.out (by omega))
      have HPTS := Lib.hid (ptsV_set7 (g := (w.heap.size + 1 + 1)) (u0 := .int .i64 av) (u1 := .int .i64 tt) (u2 := .int .i64 t) (u3 := .int .i64 delay) (u4 := .int .i64 time) (u5 := .int .i64 ck) (u6 := .slice aoP ps.length capP) HP3.out (fun hne b off n cap e => by have := HNB.out hne b off n cap e; omega))
      obtain ⟨z0, z1, z2, z3, z4, z5, z6, y0, y1, y2, y3, y4, y5, y6⟩ := hbx3
      obtain ⟨c0, c1, c2, c3, c4, c5, c6, _, _, _, _, _, _, _⟩ := HB3.out
      have hne1 : g ≠ (w.heap.size + 1 + 1) := by omega
      clear HNB HP3 HB3 HBW hz3 hg hgl
      go_wp2
      change bodyPost _ _ _ _ _ (set7 w3 (w.heap.size + 1 + 1) (.int .i64 av) (.int .i64 tt) (.int .i64 t) (.int .i64 delay) (.int .i64 time) (.int .i64 ck) (.slice aoP ps.length capP))
      have hcc := HPUT.out
      have hbel := HBEL.out
      have hpts := HPTS.out
      generalize set7 w3 (w.heap.size + 1 + 1) (.int .i64 av) (.int .i64 tt) (.int .i64 t) (.int .i64 delay) (.int .i64 time) (.int .i64 ck) (.slice aoP ps.length capP) = w4 at *
      obtain ⟨x0, x1, x2, x3, x4, x5, x6, _, _, _, _, _, _, _⟩ := hcc
      refine bodyPost_ret (v := .tuple #[.agg #[.int .i64 av, .int .i64 tt, .int .i64 t, .int .i64 delay, .int .i64 time, .int .i64 ck, .slice aoP ps.length capP], .int .i64 0]) (by simp [results, Tryd.results29, go_sem, x0, x1, x2, x3, x4, x5, x6]) rfl ⟨_, rfl, hpts, hbel⟩
    · have hrv : rv = ⟨0, 0, 0, 0, 0, ⟨0, []⟩⟩ := by rw [ER.out, if_neg hq]
      subst hrv
      have hqb : (ev != 0) = true := by simpa using hq
      clear ER hq HNB HP3 HB3
      have HPUT := Lib.hid (hbx3.put (u0 := (.int .i64 0)) (u1 := (.int .i64 0)) (u2 := (.int .i64 0)) (u3 := (.int .i64 0)) (u4 := (.int .i64 0)) (u5 := (.int .i64 0)) (u6 := (.slice none 0 0)))
      have HBEL := Lib.hid (below_set7 (g := (w.heap.size + 1 + 1)) (u0 := (.int .i64 0)) (u1 := (.int .i64 0)) (u2 := (.int .i64 0)) (u3 := (.int .i64 0)) (u4 := (.int .i64 0)) (u5 := (.int .i64 0)) (u6 := (.slice none 0 0)) HBW.out (by omega))
      obtain ⟨z0, z1, z2, z3, z4, z5, z6, y0, y1, y2, y3, y4, y5, y6⟩ := hbx3
      clear HBW hz3 hg hgl
      go_wp2
      change bodyPost _ _ _ _ _ (set7 w3 (w.heap.size + 1 + 1) (.int .i64 0) (.int .i64 0) (.int .i64 0) (.int .i64 0) (.int .i64 0) (.int .i64 0) (.slice none 0 0))
      have hcc := HPUT.out
      have hbel := HBEL.out
      generalize set7 w3 (w.heap.size + 1 + 1) (.int .i64 0) (.int .i64 0) (.int .i64 0) (.int .i64 0) (.int .i64 0) (.int .i64 0) (.slice none 0 0) = w4 at *
      obtain ⟨x0, x1, x2, x3, x4, x5, x6, _, _, _, _, _, _, _⟩ := hcc
      refine bodyPost_ret (v := .tuple #[.agg #[.int .i64 0, .int .i64 0, .int .i64 0, .int .i64 0, .int .i64 0, .int .i64 0, .slice none 0 0], .int .i64 ev]) (by simp [results, Tryd.results29, go_sem, x0, x1, x2, x3, x4, x5, x6]) rfl ⟨_, rfl, .inl ⟨rfl, none, 0, rfl⟩, hbel⟩

/-- what it returns, whatever comes in -/
theorem Turn_any (v cv : Value) (f : Fd) (c : Cv) (t tt delay time : Int) (w : World) (hv : FdV w v f) (hc : CvV w cv c) (hl : c.pts.length ≤ 8796093022207) :
    Calls Tryd.prog 29 #[v, .int .i64 t, .int .i64 tt, .int .i64 delay, .int .i64 time, cv] w (TurnP (turnR f t tt delay time c) (turnE f t tt delay time c) w) := by
  obtain ⟨p, rfl, hp⟩ := hv
  obtain ⟨pc, rfl, hpc⟩ := hc
  by_cases hE : atE f t = 0
  · exact turn_ok p pc f c t tt delay time w hp hpc hl hE
  · have e1 : turnE f t tt delay time c = atE f t := by unfold turnE firstE; rw [if_neg hE]
    have e2 : turnR f t tt delay time c = ⟨0, 0, 0, 0, 0, ⟨0, []⟩⟩ := by unfold turnR; rw [if_neg (by rw [e1]; exact hE)]
    rw [e1, e2]
    exact turn_bad p pc f c t tt delay time w hp hpc hl hE

end Go.Proofs.YtdicoggpcobbpaaDoor
