/- Contracts of level.Changes and of the reference's Changes. (printed by wip/gen/gen_changes.py) -/
import Derived.Test.YthoiamaomhggiaaChgPlain
import Derived.Test.YthoiamaomhggiaaPtsLib
import Derived.Test.YthoiamaomhggiaaLFirst
import Derived.OwnWalk
namespace Go.Proofs.Ythoiamaomhggiaa
open Go.RowKit
open Go (info_parts)
set_option linter.unusedVariables false
set_option linter.unusedSimpArgs false

/-- an owned row of changes -/
def OwnC (base : Nat) (w : World) (v : Value) (l : List (Int × Int)) : Prop := w.ownsRow base 59 2 v l.length (ptCells l)
theorem ptsV_own {w : World} {base : Nat} {v : Value} {l : List (Int × Int)} (h : OwnC base w v l) (hm : l.length ≤ 9223372036854775807) : PtsV w v l := by
  unfold OwnC at h
  by_cases h0 : l = []
  · subst h0
    rcases h.2 with ⟨rfl, _⟩ | ⟨g, cap, cur, rfl, _⟩
    · exact .inl ⟨rfl, _, _, rfl⟩
    · exact .inl ⟨rfl, _, _, rfl⟩
  · have hpos : 0 < l.length := List.length_pos_iff.2 h0
    have hx := h.2
    rcases hx with ⟨rfl, hz⟩ | ⟨g, cap, cur, rfl, hb, hg, _⟩
    · omega
    · refine .inr ⟨h0, hm, g, 0, cap, rfl, ?_, ?_⟩
      · exact (Array.getElem?_eq_some_iff.1 hg).1
      · intro i hi
        have c1 := h.cellAt (i * 2) (by omega)
        have c2 := h.cellAt (i * 2 + 1) (by omega)
        have := ptCells_get l i hi
        rw [this.1] at c1
        rw [this.2] at c2
        simpa using ⟨c1, c2⟩
theorem OwnC.alloc {base : Nat} {w : World} {v : Value} {l : List (Int × Int)} (h : OwnC base w v l) (ob : Obj) : OwnC base (w.alloc ob) v l := World.ownsRow.alloc h ob
theorem OwnC.below {base : Nat} {w w' : World} {v : Value} {l : List (Int × Int)} (h : OwnC base w v l) (hb : Below w.heap.size w w') : OwnC base w' v l := by
  refine ⟨h.1, ?_⟩
  rcases h.2 with h' | ⟨g, cap, cur, rfl, h1, h2, h3⟩
  · exact .inl h'
  · exact .inr ⟨g, cap, cur, rfl, h1, (hb.block g (World.ownsRow.lt h g rfl).2).trans h2, h3⟩
theorem OwnC.shape {base : Nat} {w : World} {v : Value} {l : List (Int × Int)} (h : OwnC base w v l) : ∃ ao cap, v = .slice ao l.length cap := own_shape h
theorem ownC_one (w : World) (base : Nat) (x y : Int) (hb : base ≤ w.heap.size) : OwnC base (w.alloc (.cells #[.int .i64 x, .int .i64 y] 59)) (.slice (some ⟨w.heap.size, 0, none⟩) 1 1) [(x, y)] :=
  ⟨rfl, .inr ⟨w.heap.size, 1, #[.int .i64 x, .int .i64 y], rfl, hb, heap_alloc_new w _, Nat.le_refl _, by decide, rfl, rfl⟩⟩
theorem infoChange : (Try.prog.info? 59).map (fun i => (i.zero, i.size, i.bytes)) = some (some (.agg #[.int .i64 0, .int .i64 0]), 2, 16) := by kernel_rfl
theorem chg_two (x y : Int) : ∀ u ∈ [Value.int .i64 x, Value.int .i64 y], u.oneCell' = true := by intro u hu; simp at hu; rcases hu with rfl | rfl <;> rfl
theorem wpList_chg {w : World} {ops : Array Oper} {rest : List Oper} {o : Oper} {a : Act} {Q : Exit → Act → World → Prop} (hgd : o.guard = none) (s x : Operand)
    (hop : o.op = .call { callee := .builtin .append, args := #[s, x], argTypes := #[54, 54] })
    (base c : Nat) (v : Value) (l : List (Int × Int)) (y1 y2 : Int) (ad : Addr) (hs : a.eval s = v) (hx : a.eval x = .slice (some ad) 1 c)
    (ho : OwnC base w v l) (hc : ∀ (j : Nat) u, [Value.int .i64 y1, Value.int .i64 y2][j]? = some u → w.cell? (ad.add j) = some u) (hl : l.length ≤ 100000) (hb : base ≤ w.heap.size)
    (h : ∀ v' w', OwnC base w' v' (l ++ [(y1, y2)]) → w.grownBy w' v.ownBlock → wpList Try.prog ops Q rest (a.put o.dst v') w') : wpList Try.prog ops Q (o :: rest) a w := by
  obtain ⟨i0, hi, hz0, hz1, hz2⟩ := info_parts infoChange
  refine wpList_append_own w hgd s x 54 hop base 59 i0 (.agg #[.int .i64 0, .int .i64 0]) 2 16 Try.underlying54 hi hz0 hz1 hz2 rfl (by decide) v l.length (ptCells l) hs ho ad 1 c [.int .i64 y1, .int .i64 y2] hx rfl hc (chg_two y1 y2) (by unfold maxLen; omega) (by omega) hb ?_
  intro v' w' h1 h2 _
  refine h v' w' ?_ h2
  unfold OwnC
  rw [ptCells_snoc, List.length_append]
  exact h1
theorem two_new (w : World) (x y : Int) (T : TypeId) : ∀ (j : Nat) u, [Value.int .i64 x, Value.int .i64 y][j]? = some u → (w.alloc (.cells #[.int .i64 x, .int .i64 y] T)).cell? ((⟨w.heap.size, 0, none⟩ : Addr).add j) = some u := by
  intro j u hu
  match j, hu with
  | 0, hu => simp at hu; subst hu; simp [Addr.add, go_sem]
  | 1, hu => simp at hu; subst hu; simp [Addr.add, go_sem]
theorem grown_keeps {B base : Nat} {a w w' : World} {v : Value} {l : List (Int × Int)} (h : Below B a w) (g : w.grownBy w' v.ownBlock) (ho : OwnC base w v l) (hB : B ≤ base) (hs : B ≤ w.heap.size) : Below B a w' :=
  h.grown g hs (fun k hk => by have := (World.ownsRow.lt ho k hk).1; omega)

theorem below_alC (W : World) (o : Obj) : Below W.heap.size W (W.alloc o) := (Below.refl _ _).alloc (Nat.le_refl _) o
def ChgP (l : List (Int × Int)) (E : Int) (w : World) (e : Ending) (w' : World) : Prop := ∃ v, e = .returned (.tuple #[v, .int .i64 E]) ∧ PtsV w' v l ∧ Below w.heap.size w w'
theorem chgL_bad {f : Fd} (h : checkF f ≠ 0) : chgL f = [] := if_pos h
theorem chgE_bad {f : Fd} (h : checkF f ≠ 0) : chgE f 2 = checkF f := if_pos h
theorem chg_none {f : Fd} (h : checkF f = 0) (hc : cnt f 5000 0 = none) : chgL f = [] ∧ chgE f 2 = 2 := by
  unfold chgL chgE
  rw [if_neg (by omega), if_neg (by omega), hc]
  exact ⟨rfl, rfl⟩
theorem chg_some {f : Fd} {m : Nat} (h : checkF f = 0) (hc : cnt f 5000 0 = some m) : chgL f = chg f m ∧ chgE f 2 = 0 := by
  unfold chgL chgE
  rw [if_neg (by omega), if_neg (by omega), hc]
  exact ⟨rfl, rfl⟩
/-- where the loop stands: k changes behind the first one -/
structure ChgAt (f : Fd) (k : Nat) : Prop where
  lt : k < 5000
  cn : cnt f 5000 0 = cnt f (5000 - k) k
  ne : ∀ j, j < k → atV f (tm f j) ≠ f.to
theorem chgAt_zero (f : Fd) : ChgAt f 0 := ⟨by omega, rfl, fun j h => absurd h (by omega)⟩
theorem ChgAt.go {f : Fd} {k : Nat} (h : ChgAt f k) (hn : atV f (tm f k) ≠ f.to) (hk : k + 1 < 5000) : ChgAt f (k + 1) := by
  refine ⟨hk, ?_, fun j hj => ?_⟩
  · rw [h.cn, show 5000 - k = (5000 - (k + 1)) + 1 by omega]
    simp only [cnt]
    rw [if_neg hn]
  · by_cases e : j = k
    · subst e; exact hn
    · exact h.ne j (by omega)
theorem ChgAt.stop {f : Fd} {k : Nat} (h : ChgAt f k) (hn : atV f (tm f k) = f.to) : cnt f 5000 0 = some (k + 1) := by
  rw [h.cn, show 5000 - k = (5000 - (k + 1)) + 1 by have := h.lt; omega]
  simp only [cnt]
  rw [if_pos hn]
theorem ChgAt.over {f : Fd} {k : Nat} (h : ChgAt f k) (hn : atV f (tm f k) ≠ f.to) (hk : k + 1 = 5000) : cnt f 5000 0 = none := by
  rw [h.cn, show 5000 - k = 0 + 1 by omega]
  simp only [cnt]
  rw [if_neg hn]

theorem fade1 {w : World} {f : Fd} {p : Value} : ∀ W, Below (w.heap.size + 1) (w.alloc (.cells #[.int .i64 f.fr, .int .i64 f.to, .int .i64 f.start, .int .i64 f.delay, .int .i64 f.time, .int .i64 f.curve.kind, p] 46)) W → W.cell? ⟨w.heap.size, 0, none⟩ = some (.int .i64 f.fr) ∧ W.cell? ⟨w.heap.size, 1, none⟩ = some (.int .i64 f.to) ∧ W.cell? ⟨w.heap.size, 2, none⟩ = some (.int .i64 f.start) ∧ W.cell? ⟨w.heap.size, 3, none⟩ = some (.int .i64 f.delay) ∧ W.cell? ⟨w.heap.size, 4, none⟩ = some (.int .i64 f.time) ∧ W.cell? ⟨w.heap.size, 5, none⟩ = some (.int .i64 f.curve.kind) ∧ W.cell? ⟨w.heap.size, 6, none⟩ = some (p) := fun W hW => fade_cells W hW

set_option maxHeartbeats 1000000 in
theorem rChanges_bad (p : Value) (f : Fd) (w : World) (hp : PtsV w p f.curve.pts) (hE : checkF f ≠ 0) :
    Calls Try.prog 36 #[.agg #[.int .i64 f.fr, .int .i64 f.to, .int .i64 f.start, .int .i64 f.delay, .int .i64 f.time, .int .i64 f.curve.kind, p]] w (ChgP [] (checkF f) w) := by
  have CF := Lib.hid (fun W (hW : Below w.heap.size w W) => rcheckFade_any (.agg #[.int .i64 f.fr, .int .i64 f.to, .int .i64 f.start, .int .i64 f.delay, .int .i64 f.time, .int .i64 f.curve.kind, p]) f W (fdV_below ⟨p, rfl, hp⟩ hW))
  have hb : (checkF f != 0) = true := by simpa using hE
  generalize checkF f = c at *
  clear hp hE
  go_enter Try.func36, Try.ntmps36
  go_wp2_with fail
  refine (CF.out _ below1).mono ?_
  rintro e w1 ⟨rfl, hb1⟩
  have HB := Lib.hid (bt below1 hb1)
  clear hb1
  go_wp2
  go_ret2
  exact ⟨_, rfl, .inl ⟨rfl, none, 0, rfl⟩, HB.out⟩

set_option maxHeartbeats 8000000 in
set_option maxRecDepth 100000 in
theorem rChanges_ok (p : Value) (f : Fd) (w : World) (hp : PtsV w p f.curve.pts) (hE : checkF f = 0) :
    Calls Try.prog 36 #[.agg #[.int .i64 f.fr, .int .i64 f.to, .int .i64 f.start, .int .i64 f.delay, .int .i64 f.time, .int .i64 f.curve.kind, p]] w (ChgP (chgL f) (chgE f 2) w) := by
  have hf := (checkF_right f).1 hE
  have CF := Lib.hid (fun W (hW : Below w.heap.size w W) => rcheckFade_any (.agg #[.int .i64 f.fr, .int .i64 f.to, .int .i64 f.start, .int .i64 f.delay, .int .i64 f.time, .int .i64 f.curve.kind, p]) f W (fdV_below ⟨p, rfl, hp⟩ hW))
  rw [hE] at CF
  have CA := Lib.hid (fun (t : Int) (ht : IsTm t) W (hW : Below w.heap.size w W) => rLevelAt_any (.agg #[.int .i64 f.fr, .int .i64 f.to, .int .i64 f.start, .int .i64 f.delay, .int .i64 f.time, .int .i64 f.curve.kind, p]) f t W (fdV_below ⟨p, rfl, hp⟩ hW) hf ht)
  obtain ⟨_, _, b1, b2, b3, b4, _⟩ := hf
  have hf := (checkF_right f).1 hE
  unfold IsTm at b1 b2 b3 b4
  have TR := Lib.hid (fun k (hk : ∀ j, j < k → atV f (tm f j) ≠ f.to) => show 0 ≤ tm f k ∧ tm f k ≤ 36000000 from by
    have := tm_range f hf k hk
    unfold endT at this
    omega)
  have NF := Lib.hid (fun k (hn : atV f (tm f k) ≠ f.to) => show tm f k < 36000000 from by
    have := not_end f (tm f k) hn
    unfold endT at this
    omega)
  have CS := Lib.hid (fun k (hk : ∀ j, j < k → atV f (tm f j) ≠ f.to) (hn : atV f (tm f k) ≠ f.to) W (hW : Below w.heap.size w W) => show Calls Try.prog 69 #[.agg #[.int .i64 f.fr, .int .i64 f.to, .int .i64 f.start, .int .i64 f.delay, .int .i64 f.time, .int .i64 f.curve.kind, p], .int .i64 (tm f k + 1), .int .i64 (f.start + f.delay + f.time), .int .i64 (nextL f (atV f (tm f k)))] W fun e w' => e = .returned (.int .i64 (tm f (k + 1))) ∧ Below W.heap.size W w' from by
    have r := tm_range f hf k hk
    have e := not_end f (tm f k) hn
    have := rfirst_any (.agg #[.int .i64 f.fr, .int .i64 f.to, .int .i64 f.start, .int .i64 f.delay, .int .i64 f.time, .int .i64 f.curve.kind, p]) f (tm f k + 1) (f.start + f.delay + f.time) (nextL f (atV f (tm f k))) W (fdV_below ⟨p, rfl, hp⟩ hW) hf (by omega) (by unfold endT at e; omega) (by omega)
    rw [show bsV (fun t => reachB f (atV f t) (nextL f (atV f (tm f k)))) (tm f k + 1) (f.start + f.delay + f.time) = tm f (k + 1) from nxt_ref f hf (tm f k) hn] at this
    exact this)
  have LV := Lib.hid (fun t => show 0 ≤ atV f t ∧ atV f t ≤ 65535 from by
    have r := at_range f hf t
    obtain ⟨a1, a2, _⟩ := hf
    unfold LvOk at a1 a2
    rcases Int.le_total f.fr f.to with h | h
    · have := r.1 h; omega
    · have := r.2 h; omega)
  have HE := Lib.hid hE
  have HRF := Lib.hid hf
  clear hp hE hf
  have KC := Lib.hid (fade1 (w := w) (f := f) (p := p))
  have KZ := Lib.hid (show ∀ W, Below (w.heap.size + 1) (w.alloc (.cells #[.int .i64 f.fr, .int .i64 f.to, .int .i64 f.start, .int .i64 f.delay, .int .i64 f.time, .int .i64 f.curve.kind, p] 46)) W → (w.heap.size + 1) ≤ W.heap.size from fun W hW => by
    have := hW.size
    simpa using this)
  have KB := Lib.hid (show ∀ W, Below (w.heap.size + 1) (w.alloc (.cells #[.int .i64 f.fr, .int .i64 f.to, .int .i64 f.start, .int .i64 f.delay, .int .i64 f.time, .int .i64 f.curve.kind, p] 46)) W → Below w.heap.size w W from fun W hW => below1.trans (hW.mono (by omega)))
  have KT := Lib.hid (show ∀ W W1, Below (w.heap.size + 1) (w.alloc (.cells #[.int .i64 f.fr, .int .i64 f.to, .int .i64 f.start, .int .i64 f.delay, .int .i64 f.time, .int .i64 f.curve.kind, p] 46)) W → Below W.heap.size W W1 → Below (w.heap.size + 1) (w.alloc (.cells #[.int .i64 f.fr, .int .i64 f.to, .int .i64 f.start, .int .i64 f.delay, .int .i64 f.time, .int .i64 f.curve.kind, p] 46)) W1 from fun W W1 h1 h2 => h1.trans (h2.mono (KZ.out W h1)))
  have KA := Lib.hid (show ∀ W o, Below (w.heap.size + 1) (w.alloc (.cells #[.int .i64 f.fr, .int .i64 f.to, .int .i64 f.start, .int .i64 f.delay, .int .i64 f.time, .int .i64 f.curve.kind, p] 46)) W → Below (w.heap.size + 1) (w.alloc (.cells #[.int .i64 f.fr, .int .i64 f.to, .int .i64 f.start, .int .i64 f.delay, .int .i64 f.time, .int .i64 f.curve.kind, p] 46)) (W.alloc o) from fun W o h1 => h1.alloc (KZ.out W h1) o)
  have KR := Lib.hid (show Below (w.heap.size + 1) (w.alloc (.cells #[.int .i64 f.fr, .int .i64 f.to, .int .i64 f.start, .int .i64 f.delay, .int .i64 f.time, .int .i64 f.curve.kind, p] 46)) (w.alloc (.cells #[.int .i64 f.fr, .int .i64 f.to, .int .i64 f.start, .int .i64 f.delay, .int .i64 f.time, .int .i64 f.curve.kind, p] 46)) from Below.refl _ _)
  go_enter Try.func36, Try.ntmps36
  go_wp2_with fail
  refine (CF.out _ (KB.out _ KR.out)).mono ?_
  rintro e w1 ⟨rfl, hb1⟩
  have hw1 := KT.out _ _ KR.out hb1
  clear hb1 CF
  obtain ⟨d0, d1, d2, d3, d4, d5, d6⟩ := KC.out w1 hw1
  have hz := KZ.out w1 hw1
  go_upto_region 5 with fail
  have hwd := hw1.drew
  have CA0 := Lib.hid (CA.out f.start b1)
  go_region_held3 (fun W => W.cell? ⟨w.heap.size, 0, none⟩ = some (.int .i64 f.fr) ∧ W.cell? ⟨w.heap.size, 1, none⟩ = some (.int .i64 f.to) ∧ W.cell? ⟨w.heap.size, 2, none⟩ = some (.int .i64 f.start) ∧ W.cell? ⟨w.heap.size, 3, none⟩ = some (.int .i64 f.delay) ∧ W.cell? ⟨w.heap.size, 4, none⟩ = some (.int .i64 f.time) ∧ W.cell? ⟨w.heap.size, 5, none⟩ = some (.int .i64 f.curve.kind) ∧ W.cell? ⟨w.heap.size, 6, none⟩ = some (p))
    (exact KC.out _ (by assumption))
    (first
      | (go_at_call 68; ((with_reducible refine (CA0.out _ (KB.out _ (by assumption))).mono ?_); rintro e WA ⟨rfl, hb⟩; have hwA := KT.out _ _ (by assumption) hb; clear hb))
      | fail)
  have hzA := KZ.out _ hwA
  go_wp2_with fail
  have HO := Lib.hid (ownC_one WA (w.heap.size + 1) f.start (atV f f.start) hzA)
  have hw2 := KA.out WA (.cells #[.int .i64 f.start, .int .i64 (atV f f.start)] 59) hwA
  generalize WA.alloc (.cells #[.int .i64 f.start, .int .i64 (atV f f.start)] 59) = w2 at *
  have h0 : OwnC (w.heap.size + 1) w2 (.slice (some ⟨WA.heap.size, 0, none⟩) 1 1) (chg f (0 + 1)) := HO.out
  clear HO hwd hwA hw1 d0 d1 d2 d3 d4 d5 d6 CA0
  go_loopw [6, 7, 8] (fun s6 s7 s8 wr => ∃ (k : Nat) (v : Value), s6 = .int .i64 (tm f k) ∧ s7 = .int .i64 (atV f (tm f k)) ∧ s8 = v ∧ Hid (ChgAt f k) ∧ Hid (OwnC (w.heap.size + 1) wr v (chg f (k + 1))) ∧ Below (w.heap.size + 1) (w.alloc (.cells #[.int .i64 f.fr, .int .i64 f.to, .int .i64 f.start, .int .i64 f.delay, .int .i64 f.time, .int .i64 f.curve.kind, p] 46)) wr) (fun s6 _ _ _ => (36000000 - intOf s6).toNat)
  case atStart => exact ⟨0, _, rfl, rfl, rfl, Lib.hid (chgAt_zero f), Lib.hid h0, hw2⟩
  case round =>
    obtain ⟨k, v, rfl, rfl, rfl, HAT, HOW, hwr⟩ := hrel
    obtain ⟨ao, cap, hsh⟩ := HOW.out.shape
    rw [chg_len] at hsh
    subst hsh
    have TRk := TR.out k HAT.out.ne
    have LVk := LV.out (tm f k)
    obtain ⟨d0, d1, d2, d3, d4, d5, d6⟩ := KC.out wr hwr
    have hzr := KZ.out wr hwr
    clear h0 hw2
    by_cases hn : atV f (tm f k) = f.to
    · have HC := Lib.hid (chg_some HE.out (HAT.out.stop hn))
      have hnb : (atV f (tm f k) != f.to) = false := by simpa using hn
      have HPT := Lib.hid (ptsV_own HOW.out (by rw [chg_len]; have := HAT.out.lt; omega))
      have HWR := Lib.hid (KB.out _ hwr)
      clear hn HOW CA CS KC KZ KB KT KA KR
      go_wp2
      go_ret2
      exact ⟨_, by rw [HC.out.2]; rfl, by rw [HC.out.1]; exact HPT.out, HWR.out⟩
    · have NFk := NF.out k hn
      have HCS := Lib.hid (CS.out k HAT.out.ne hn)
      have HCA := Lib.hid (fun (h : IsTm (tm f (k + 1))) => CA.out (tm f (k + 1)) h)
      have TR1 := Lib.hid (fun (h : k + 1 < 5000) => TR.out (k + 1) (HAT.out.go hn h).ne)
      have HM := Lib.hid (nxt_facts f HRF.out (tm f k) hn).1
      have HN := Lib.hid hn
      have hnb : (atV f (tm f k) != f.to) = true := by simpa using hn
      have HTm : Hid (tm f k < tm f (k + 1)) := HM
      have HIT : Hid (IsTm (tm f (k + 1))) := Lib.hid (by
        have a := (nxt_facts f HRF.out (tm f k) hn).2.1
        have : nxt f (tm f k) = tm f (k + 1) := rfl
        unfold endT at a
        have := HM.out
        unfold IsTm
        omega)
      have HNX : Hid (nextL f (atV f (tm f k)) = if f.to < f.fr then atV f (tm f k) - 1 else atV f (tm f k) + 1) := rfl
      generalize hx : nextL f (atV f (tm f k)) = nx at *
      clear hn hx
      have HSN := Lib.hid (chg_snoc f (k + 1))
      have HATK := HAT.out.lt
      generalize htk : tm f k = T at *
      generalize hnk : atV f T = n at *
      have HTK := Lib.hid htk
      have HNK := Lib.hid hnk
      clear htk hnk
      have fin : True := trivial
      by_cases hlt : f.to < f.fr
      all_goals
        have HX2 : Hid (nx = _) := Lib.hid (by first | exact HNX.out.trans (if_pos hlt) | exact HNX.out.trans (if_neg hlt))
        rw [HX2.out] at HCS
        go_wp2_with fail
        refine (HCS.out _ (KB.out _ hwr)).mono ?_
        rintro e w3 ⟨rfl, hb3⟩
        have hw3 := KT.out _ _ hwr hb3
        have HO3 := Lib.hid (HOW.out.below hb3)
        clear hb3 d0 d1 d2 d3 d4 d5 d6 hzr
        obtain ⟨d0, d1, d2, d3, d4, d5, d6⟩ := KC.out w3 hw3
        go_wp2_with fail
        refine (HCA.out HIT.out _ (KB.out _ hw3)).mono ?_
        rintro e w4 ⟨rfl, hb4⟩
        have hw4 := KT.out _ _ hw3 hb4
        have HO4 := Lib.hid (HO3.out.below hb4)
        have hz4 := KZ.out w4 hw4
        clear hb4 d0 d1 d2 d3 d4 d5 d6
        generalize hn2 : atV f (tm f (k + 1)) = n2 at *
        generalize hT2 : tm f (k + 1) = T2 at *
        have HN2 := Lib.hid hn2
        have HT2 := Lib.hid hT2
        clear hn2 hT2
        go_wp2_with (at_builtin; refine wpList_chg rfl _ _ rfl (w.heap.size + 1) 1 _ (chg f (k + 1)) T2 n2 _ rfl rfl (HO4.out.alloc _) (two_new w4 T2 n2 59) (by rw [chg_len]; omega) (by simp; omega) ?_)
        intro v' w5 hown hgrow0
        have hw5 := grown_keeps (KA.out w4 _ hw4) hgrow0 (HO4.out.alloc _) (Nat.le_refl _) (by simp; omega)
        have HO5 := Lib.hid hown
        rw [← HSN.out] at HO5
        obtain ⟨ao2, cap2, hsh2⟩ := HO5.out.shape
        rw [chg_len] at hsh2
        subst hsh2
        have HNT := Lib.hid (show atV f (tm f k) ≠ f.to by rw [HTK.out, HNK.out]; exact HN.out)
        clear hown hgrow0 HCS HCA HM HNX HX2 hw4 HO3 HO4 hw3
        by_cases h5 : k + 1 < 5000
        · have hd : decide ((5000 : Int) < ((k + 1 + 1 : Nat) : Int)) = false := by simp; omega
          go_wp2
          go_roundw
          case rel => exact ⟨k + 1, _, by rw [HT2.out], by rw [HT2.out, HN2.out], rfl, Lib.hid (HAT.out.go HNT.out h5), HO5, hw5⟩
          case measure => simp [intOf]; have := HTm.out; omega
        · have HC := Lib.hid (chg_none HE.out (HAT.out.over HNT.out (by omega)))
          have h5' : 5000 ≤ k + 1 := by omega
          clear h5
          have hd : decide ((5000 : Int) < ((k + 1 + 1 : Nat) : Int)) = true := by simp; omega
          have HWR := Lib.hid (KB.out _ hw5)
          clear hw5 HO5 KC KZ KB KT KA KR
          go_wp2
          go_ret2
          exact ⟨_, by rw [HC.out.2]; rfl, by rw [HC.out.1]; exact .inl ⟨rfl, none, 0, rfl⟩, HWR.out⟩

set_option maxHeartbeats 1000000 in
theorem Changes_bad (p : Value) (f : Fd) (w : World) (hp : PtsV w p f.curve.pts) (hE : checkF f ≠ 0) :
    Calls Try.prog 35 #[.agg #[.int .i64 f.fr, .int .i64 f.to, .int .i64 f.start, .int .i64 f.delay, .int .i64 f.time, .int .i64 f.curve.kind, p]] w (ChgP [] (checkF f) w) := by
  have CF := Lib.hid (fun W (hW : Below w.heap.size w W) => checkFade_any (.agg #[.int .i64 f.fr, .int .i64 f.to, .int .i64 f.start, .int .i64 f.delay, .int .i64 f.time, .int .i64 f.curve.kind, p]) f W (fdV_below ⟨p, rfl, hp⟩ hW))
  have hb : (checkF f != 0) = true := by simpa using hE
  generalize checkF f = c at *
  clear hp hE
  go_enter Try.func35, Try.ntmps35
  go_wp2_with fail
  refine (CF.out _ below1).mono ?_
  rintro e w1 ⟨rfl, hb1⟩
  have HB := Lib.hid (bt below1 hb1)
  clear hb1
  go_wp2
  go_ret2
  exact ⟨_, rfl, .inl ⟨rfl, none, 0, rfl⟩, HB.out⟩

set_option maxHeartbeats 4000000 in
theorem chgHolds (f : Fd) (p : Value) (bf bk : Nat) (n t : Int) (w : World) (c0 c1 c2 c3 c4 c5 c6 : Value) (e0 : c0 = .int .i64 f.fr) (e1 : c1 = .int .i64 f.to) (e2 : c2 = .int .i64 f.start) (e3 : c3 = .int .i64 f.delay) (e4 : c4 = .int .i64 f.time) (e5 : c5 = .int .i64 f.curve.kind) (e6 : c6 = p)
    (hc : w.cell? ⟨bf, 0, none⟩ = some c0 ∧ w.cell? ⟨bf, 1, none⟩ = some c1 ∧ w.cell? ⟨bf, 2, none⟩ = some c2 ∧ w.cell? ⟨bf, 3, none⟩ = some c3 ∧ w.cell? ⟨bf, 4, none⟩ = some c4 ∧ w.cell? ⟨bf, 5, none⟩ = some c5 ∧ w.cell? ⟨bf, 6, none⟩ = some c6)
    (ck : w.cell? ⟨bk, 1, none⟩ = some (.int .i64 n)) (hbf : bf < w.heap.size) (hbk : bk < w.heap.size) (hp : PtsV w p f.curve.pts) (hf : RightF f) (ht : IsTm t) :
    Calls Try.prog 67 #[.int .i64 t, .pointer (some ⟨bf, 0, none⟩), .pointer (some ⟨bk, 0, none⟩)] w fun e w' => e = .returned (.bool (decide (atV f t ≠ n))) ∧ Below w.heap.size w w' := by
  subst e0 e1 e2 e3 e4 e5 e6
  have CA := Lib.hid (fun W (hW : Below w.heap.size w W) => at_any (.agg #[.int .i64 f.fr, .int .i64 f.to, .int .i64 f.start, .int .i64 f.delay, .int .i64 f.time, .int .i64 f.curve.kind, c6]) f t W (fdV_below ⟨c6, rfl, hp⟩ hW) hf ht)
  have KC := Lib.hid (show ∀ W, Below w.heap.size w W → W.cell? ⟨bf, 0, none⟩ = some (.int .i64 f.fr) ∧ W.cell? ⟨bf, 1, none⟩ = some (.int .i64 f.to) ∧ W.cell? ⟨bf, 2, none⟩ = some (.int .i64 f.start) ∧ W.cell? ⟨bf, 3, none⟩ = some (.int .i64 f.delay) ∧ W.cell? ⟨bf, 4, none⟩ = some (.int .i64 f.time) ∧ W.cell? ⟨bf, 5, none⟩ = some (.int .i64 f.curve.kind) ∧ W.cell? ⟨bf, 6, none⟩ = some c6 ∧ W.cell? ⟨bk, 1, none⟩ = some (.int .i64 n) from fun W hW =>
    ⟨(hW.cell (p := ⟨bf, 0, none⟩) hbf).trans hc.1, (hW.cell (p := ⟨bf, 1, none⟩) hbf).trans hc.2.1, (hW.cell (p := ⟨bf, 2, none⟩) hbf).trans hc.2.2.1, (hW.cell (p := ⟨bf, 3, none⟩) hbf).trans hc.2.2.2.1, (hW.cell (p := ⟨bf, 4, none⟩) hbf).trans hc.2.2.2.2.1, (hW.cell (p := ⟨bf, 5, none⟩) hbf).trans hc.2.2.2.2.2.1, (hW.cell (p := ⟨bf, 6, none⟩) hbf).trans hc.2.2.2.2.2.2, (hW.cell (p := ⟨bk, 1, none⟩) hbk).trans ck⟩)
  clear hp hf ht hc ck
  generalize atV f t = x at *
  have hwd : Below w.heap.size w w.drew := (Below.refl _ _).drew
  by_cases h : x = n
  all_goals
    first
      | (have hb : (x == n) = true := by simpa using h)
      | (have hb : (x == n) = false := by simpa using h)
    have HD : Hid (decide (x ≠ n) = !(x == n)) := Lib.hid (by rw [hb]; simp [h])
    have hb2 : (x != n) = !(x == n) := rfl
    rw [hb] at HD hb2
    have HXN := Lib.hid h
    clear h
    go_enter Try.func67, Try.ntmps67
    go_upto_region 1 with fail
    go_region_held3 (fun W => W.cell? ⟨bf, 0, none⟩ = some (.int .i64 f.fr) ∧ W.cell? ⟨bf, 1, none⟩ = some (.int .i64 f.to) ∧ W.cell? ⟨bf, 2, none⟩ = some (.int .i64 f.start) ∧ W.cell? ⟨bf, 3, none⟩ = some (.int .i64 f.delay) ∧ W.cell? ⟨bf, 4, none⟩ = some (.int .i64 f.time) ∧ W.cell? ⟨bf, 5, none⟩ = some (.int .i64 f.curve.kind) ∧ W.cell? ⟨bf, 6, none⟩ = some c6 ∧ W.cell? ⟨bk, 1, none⟩ = some (.int .i64 n))
      (exact KC.out _ (by assumption))
      (first
        | (go_at_call 63; ((with_reducible refine (CA.out _ (by assumption)).mono ?_); rintro e WA ⟨rfl, hb3⟩; have hwA := bt hwd hb3; clear hb3))
        | fail)
    all_goals
      have HZ := Lib.hid hwA
      go_wp2
      go_ret
      exact ⟨by rw [HD.out]; first | rfl | (simp [HXN.out]; done) | (have := HXN.out; simp; omega), HZ.out⟩
def lenS (v : Value) : Nat := match v with | .slice _ n _ => n | _ => 0

set_option maxHeartbeats 8000000 in
set_option maxRecDepth 100000 in
theorem Changes_ok (p : Value) (f : Fd) (w : World) (hp : PtsV w p f.curve.pts) (hE : checkF f = 0) :
    Calls Try.prog 35 #[.agg #[.int .i64 f.fr, .int .i64 f.to, .int .i64 f.start, .int .i64 f.delay, .int .i64 f.time, .int .i64 f.curve.kind, p]] w (ChgP (chgL f) (chgE f 2) w) := by
  have hf := (checkF_right f).1 hE
  have CF := Lib.hid (fun W (hW : Below w.heap.size w W) => checkFade_any (.agg #[.int .i64 f.fr, .int .i64 f.to, .int .i64 f.start, .int .i64 f.delay, .int .i64 f.time, .int .i64 f.curve.kind, p]) f W (fdV_below ⟨p, rfl, hp⟩ hW))
  rw [hE] at CF
  have CA := Lib.hid (fun (t : Int) (ht : IsTm t) W (hW : Below w.heap.size w W) => at_any (.agg #[.int .i64 f.fr, .int .i64 f.to, .int .i64 f.start, .int .i64 f.delay, .int .i64 f.time, .int .i64 f.curve.kind, p]) f t W (fdV_below ⟨p, rfl, hp⟩ hW) hf ht)
  obtain ⟨_, _, b1, b2, b3, b4, _⟩ := hf
  have hf := (checkF_right f).1 hE
  unfold IsTm at b1 b2 b3 b4
  have TR := Lib.hid (fun k (hk : ∀ j, j < k → atV f (tm f j) ≠ f.to) => show 0 ≤ tm f k ∧ tm f k ≤ 36000000 from by
    have := tm_range f hf k hk
    unfold endT at this
    omega)
  have LV := Lib.hid (fun t => show 0 ≤ atV f t ∧ atV f t ≤ 65535 from by
    have r := at_range f hf t
    obtain ⟨a1, a2, _⟩ := hf
    unfold LvOk at a1 a2
    rcases Int.le_total f.fr f.to with h | h
    · have := r.1 h; omega
    · have := r.2 h; omega)
  have HE := Lib.hid hE
  have HRF := Lib.hid hf
  have HPP := Lib.hid (fun W (hW : Below w.heap.size w W) => ptsV_below hp hW)
  clear hp hE hf
  have KC := Lib.hid (fade1 (w := w) (f := f) (p := p))
  have KZ := Lib.hid (show ∀ W, Below (w.heap.size + 1) (w.alloc (.cells #[.int .i64 f.fr, .int .i64 f.to, .int .i64 f.start, .int .i64 f.delay, .int .i64 f.time, .int .i64 f.curve.kind, p] 46)) W → (w.heap.size + 1) ≤ W.heap.size from fun W hW => by
    have := hW.size
    simpa using this)
  have KB := Lib.hid (show ∀ W, Below (w.heap.size + 1) (w.alloc (.cells #[.int .i64 f.fr, .int .i64 f.to, .int .i64 f.start, .int .i64 f.delay, .int .i64 f.time, .int .i64 f.curve.kind, p] 46)) W → Below w.heap.size w W from fun W hW => below1.trans (hW.mono (by omega)))
  have KT := Lib.hid (show ∀ W W1, Below (w.heap.size + 1) (w.alloc (.cells #[.int .i64 f.fr, .int .i64 f.to, .int .i64 f.start, .int .i64 f.delay, .int .i64 f.time, .int .i64 f.curve.kind, p] 46)) W → Below W.heap.size W W1 → Below (w.heap.size + 1) (w.alloc (.cells #[.int .i64 f.fr, .int .i64 f.to, .int .i64 f.start, .int .i64 f.delay, .int .i64 f.time, .int .i64 f.curve.kind, p] 46)) W1 from fun W W1 h1 h2 => h1.trans (h2.mono (KZ.out W h1)))
  have KA := Lib.hid (show ∀ W o, Below (w.heap.size + 1) (w.alloc (.cells #[.int .i64 f.fr, .int .i64 f.to, .int .i64 f.start, .int .i64 f.delay, .int .i64 f.time, .int .i64 f.curve.kind, p] 46)) W → Below (w.heap.size + 1) (w.alloc (.cells #[.int .i64 f.fr, .int .i64 f.to, .int .i64 f.start, .int .i64 f.delay, .int .i64 f.time, .int .i64 f.curve.kind, p] 46)) (W.alloc o) from fun W o h1 => h1.alloc (KZ.out W h1) o)
  have KR := Lib.hid (show Below (w.heap.size + 1) (w.alloc (.cells #[.int .i64 f.fr, .int .i64 f.to, .int .i64 f.start, .int .i64 f.delay, .int .i64 f.time, .int .i64 f.curve.kind, p] 46)) (w.alloc (.cells #[.int .i64 f.fr, .int .i64 f.to, .int .i64 f.start, .int .i64 f.delay, .int .i64 f.time, .int .i64 f.curve.kind, p] 46)) from Below.refl _ _)
  have CS := Lib.hid (fun k (hk : ∀ j, j < k → atV f (tm f j) ≠ f.to) (hn : atV f (tm f k) ≠ f.to) W (g : Nat) (hW : Below (w.heap.size + 1) (w.alloc (.cells #[.int .i64 f.fr, .int .i64 f.to, .int .i64 f.start, .int .i64 f.delay, .int .i64 f.time, .int .i64 f.curve.kind, p] 46)) W) (hg : g < W.heap.size) (hc : W.cell? ⟨g, 1, none⟩ = some (.int .i64 (atV f (tm f k)))) => show Calls Try.prog 66 #[.int .i64 (tm f k), .int .i64 (f.start + f.delay + f.time), .func (.func 67) #[] #[.pointer (some ⟨w.heap.size, 0, none⟩), .pointer (some ⟨g, 0, none⟩)]] W fun e w' => e = .returned (.int .i64 (tm f (k + 1))) ∧ Below W.heap.size W w' from by
    have r := tm_range f HRF.out k hk
    have e := not_end f (tm f k) hn
    have hz := KZ.out W hW
    refine lfirst_any 67 _ _ (fun u => decide (atV f u ≠ atV f (tm f k))) (tm f k) (f.start + f.delay + f.time) W (fun _ _ => rfl) (fun t W' t0 t9 hW' => ?_) (by omega) (by unfold endT at e; omega) (by omega)
    have hW2 := KT.out _ _ hW hW'
    have hz2 := hW'.size
    exact chgHolds f p w.heap.size g (atV f (tm f k)) t W' _ _ _ _ _ _ _ rfl rfl rfl rfl rfl rfl rfl (KC.out W' hW2) ((hW'.cell (p := ⟨g, 1, none⟩) hg).trans hc) (by omega) (by omega) (HPP.out W' (KB.out _ hW2)) HRF.out ⟨t0, t9⟩)
  clear HPP
  have hmf : ∀ (fn : Fn) (first cap : Array Value) (w : World), (Instr.makeFunc fn first cap).run Try.prog w = .ok (.func fn first cap) w := fun _ _ _ _ => rfl
  go_enter Try.func35, Try.ntmps35
  go_wp2_with fail
  refine (CF.out _ (KB.out _ KR.out)).mono ?_
  rintro e w1 ⟨rfl, hb1⟩
  have hw1 := KT.out _ _ KR.out hb1
  clear hb1 CF
  obtain ⟨d0, d1, d2, d3, d4, d5, d6⟩ := KC.out w1 hw1
  have hz := KZ.out w1 hw1
  go_upto_region 5 with fail
  have hwd := hw1.drew
  have CA0 := Lib.hid (CA.out f.start b1)
  go_region_held3 (fun W => W.cell? ⟨w.heap.size, 0, none⟩ = some (.int .i64 f.fr) ∧ W.cell? ⟨w.heap.size, 1, none⟩ = some (.int .i64 f.to) ∧ W.cell? ⟨w.heap.size, 2, none⟩ = some (.int .i64 f.start) ∧ W.cell? ⟨w.heap.size, 3, none⟩ = some (.int .i64 f.delay) ∧ W.cell? ⟨w.heap.size, 4, none⟩ = some (.int .i64 f.time) ∧ W.cell? ⟨w.heap.size, 5, none⟩ = some (.int .i64 f.curve.kind) ∧ W.cell? ⟨w.heap.size, 6, none⟩ = some (p))
    (exact KC.out _ (by with_reducible first | assumption | exact KA.out _ _ (by assumption)))
    (first
      | (go_at_call 63; ((with_reducible refine (CA0.out _ (KB.out _ (by assumption))).mono ?_); rintro e WA ⟨rfl, hb⟩; have hwA := KT.out _ _ (by assumption) hb; clear hb))
      | fail)
  have hzA := KZ.out _ hwA
  go_wp2_with fail
  have HO := Lib.hid (ownC_one WA (w.heap.size + 1) f.start (atV f f.start) hzA)
  have hw2 := KA.out WA (.cells #[.int .i64 f.start, .int .i64 (atV f f.start)] 59) hwA
  generalize WA.alloc (.cells #[.int .i64 f.start, .int .i64 (atV f f.start)] 59) = w2 at *
  have h0 : OwnC (w.heap.size + 1) w2 (.slice (some ⟨WA.heap.size, 0, none⟩) 1 1) (chg f (0 + 1)) := HO.out
  clear HO hwd hwA hw1 d0 d1 d2 d3 d4 d5 d6 CA0
  go_loopw [6] (fun s6 wr => ∃ (k : Nat) (v : Value), s6 = v ∧ Hid (ChgAt f k) ∧ Hid (OwnC (w.heap.size + 1) wr v (chg f (k + 1))) ∧ Below (w.heap.size + 1) (w.alloc (.cells #[.int .i64 f.fr, .int .i64 f.to, .int .i64 f.start, .int .i64 f.delay, .int .i64 f.time, .int .i64 f.curve.kind, p] 46)) wr) (fun s6 _ => 5000 - lenS s6)
  case atStart => exact ⟨0, _, rfl, Lib.hid (chgAt_zero f), Lib.hid h0, hw2⟩
  case round =>
    obtain ⟨k, v, rfl, HAT, HOW, hwr⟩ := hrel
    have hPV := ptsV_own HOW.out (by rw [chg_len]; have := HAT.out.lt; omega)
    have hlen : (chg f (k + 1)).length = k + 1 := chg_len f (k + 1)
    have hget : ∀ (h : k < (chg f (k + 1)).length), (chg f (k + 1))[k] = (tm f k, atV f (tm f k)) := fun h => chg_get f (k + 1) k h
    rcases hPV with ⟨h, _⟩ | ⟨_, _, b, off, cap, hsh, hbl, hpa⟩
    · rw [h] at hlen; simp at hlen
    · rw [hlen] at hsh
      subst hsh
      obtain ⟨p1, p2⟩ := hpa k (by omega)
      rw [hget] at p1 p2
      clear hpa hget hlen
      have TRk := TR.out k HAT.out.ne
      have LVk := LV.out (tm f k)
      obtain ⟨d0, d1, d2, d3, d4, d5, d6⟩ := KC.out wr hwr
      have hzr := KZ.out wr hwr
      have n0 : w.heap.size < wr.heap.size := by omega
      have HATK := HAT.out.lt
      have hi1 : ((k + 1 : Nat) : Int) - 1 = (k : Int) := by omega
      clear h0 hw2
      by_cases hn : atV f (tm f k) = f.to
      · have HC := Lib.hid (chg_some HE.out (HAT.out.stop hn))
        have hnb : (atV f (tm f k) == f.to) = true := by simpa using hn
        have HPT := Lib.hid (ptsV_below (ptsV_own HOW.out (by rw [chg_len]; omega)) (below_alC wr (.cells #[.int .i64 (tm f k), .int .i64 (atV f (tm f k))] 59)))
        rw [show chg f (k + 1) = chg f (k + 1) from rfl] at HPT
        have HWR := Lib.hid (KB.out _ (KA.out _ (.cells #[.int .i64 (tm f k), .int .i64 (atV f (tm f k))] 59) hwr))
        clear hn HOW CA CS KC KZ KB KT KA KR
        go_wp2
        go_ret2
        exact ⟨_, by rw [HC.out.2]; rfl, by rw [HC.out.1]; exact HPT.out, HWR.out⟩
      · have hnb : (atV f (tm f k) == f.to) = false := by simpa using hn
        by_cases h5 : k + 1 = 5000
        · have HC := Lib.hid (chg_none HE.out (HAT.out.over hn h5))
          have HWR := Lib.hid (KB.out _ (KA.out _ (.cells #[.int .i64 (tm f k), .int .i64 (atV f (tm f k))] 59) hwr))
          have h5c : (((k + 1 : Nat) : Int) == 5000) = true := by simp; omega
          have h5d : ((k : Int) + 1 == 5000) = true := by simp; omega
          clear h5
          clear hn HOW CA CS KC KZ KB KT KA KR
          go_wp2
          go_ret2
          exact ⟨_, by rw [HC.out.2]; rfl, by rw [HC.out.1]; exact .inl ⟨rfl, none, 0, rfl⟩, HWR.out⟩
        · have HW6 := Lib.hid (KA.out _ (.cells #[.int .i64 (tm f k), .int .i64 (atV f (tm f k))] 59) hwr)
          have HCS := Lib.hid (CS.out k HAT.out.ne hn (wr.alloc (.cells #[.int .i64 (tm f k), .int .i64 (atV f (tm f k))] 59)) wr.heap.size HW6.out (by simp) (by simp [go_sem]))
          have HSN := Lib.hid (chg_snoc f (k + 1))
          have HIT : Hid (IsTm (tm f (k + 1))) := Lib.hid (TR.out (k + 1) (HAT.out.go hn (by omega)).ne)
          have HCA := Lib.hid (CA.out (tm f (k + 1)) HIT.out)
          have HGO := Lib.hid (HAT.out.go hn (by omega))
          have HO6 := Lib.hid (HOW.out.alloc (.cells #[.int .i64 (tm f k), .int .i64 (atV f (tm f k))] 59))
          have h5b : decide (k + 1 = 5000) = false := by simpa using h5
          have h5c : (((k + 1 : Nat) : Int) == 5000) = false := by simp; omega
          have h5d : ((k : Int) + 1 == 5000) = false := by simp; omega
          clear hn CA CS HAT TR LV
          generalize hn2 : atV f (tm f (k + 1)) = n2 at *
          generalize hT2 : tm f (k + 1) = T2 at *
          generalize hT : tm f k = T at *
          generalize hnn : atV f T = n at *
          clear hn2 hT2 hT hnn
          go_wp2_with fail
          refine HCS.out.mono ?_
          rintro e w3 ⟨rfl, hb3⟩
          have hw3 := KT.out _ _ HW6.out hb3
          have HO3 := Lib.hid (HO6.out.below hb3)
          clear hb3 d0 d1 d2 d3 d4 d5 d6 hzr p1 p2 HCS HOW HW6 HO6
          obtain ⟨d0, d1, d2, d3, d4, d5, d6⟩ := KC.out w3 hw3
          go_wp2_with fail
          refine (HCA.out _ (KB.out _ hw3)).mono ?_
          rintro e w4 ⟨rfl, hb4⟩
          have hw4 := KT.out _ _ hw3 hb4
          have HO4 := Lib.hid (HO3.out.below hb4)
          have hz4 := KZ.out w4 hw4
          clear hb4 d0 d1 d2 d3 d4 d5 d6
          go_wp2_with (at_builtin; refine wpList_chg rfl _ _ rfl (w.heap.size + 1) 1 _ (chg f (k + 1)) T2 n2 _ rfl rfl (HO4.out.alloc _) (two_new w4 T2 n2 59) (by rw [chg_len]; omega) (by simp; omega) ?_)
          intro v' w5 hown hgrow0
          have hw5 := grown_keeps (KA.out w4 _ hw4) hgrow0 (HO4.out.alloc _) (Nat.le_refl _) (by simp; omega)
          have HO5 := Lib.hid hown
          rw [← HSN.out] at HO5
          obtain ⟨ao2, cap2, hsh2⟩ := HO5.out.shape
          rw [chg_len] at hsh2
          subst hsh2
          clear hown hgrow0 HCA hw4 HO3 HO4 hw3
          go_wp2
          go_roundw
          case rel => exact ⟨k + 1, _, rfl, HGO, HO5, hw5⟩
          case measure => simp [lenS]; omega

theorem Changes_any (v : Value) (f : Fd) (w : World) (hv : FdV w v f) : Calls Try.prog 35 #[v] w (ChgP (chgL f) (chgE f 2) w) := by
  obtain ⟨p, rfl, hp⟩ := hv
  by_cases h : checkF f = 0
  · exact Changes_ok p f w hp h
  · rw [chgL_bad h, chgE_bad h]
    exact Changes_bad p f w hp h

theorem rChanges_any (v : Value) (f : Fd) (w : World) (hv : FdV w v f) : Calls Try.prog 36 #[v] w (ChgP (chgL f) (chgE f 2) w) := by
  obtain ⟨p, rfl, hp⟩ := hv
  by_cases h : checkF f = 0
  · exact rChanges_ok p f w hp h
  · rw [chgL_bad h, chgE_bad h]
    exact rChanges_bad p f w hp h
end Go.Proofs.Ythoiamaomhggiaa
