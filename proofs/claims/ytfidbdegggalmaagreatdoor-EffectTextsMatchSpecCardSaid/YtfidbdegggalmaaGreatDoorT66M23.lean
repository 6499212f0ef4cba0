/- What the reader of effects keeps. (printed by wip/gen/gen_eread.py) -/
import Derived.Test.YtfidbdegggalmaaGreatDoorT66M22
import Derived.Laws.AppendOwn
import Derived.OwnWalk

namespace Go.Proofs.YtfidbdegggalmaaGreatDoor
open Go.RowKit
set_option linter.unusedVariables false
set_option linter.unusedSimpArgs false

theorem set9_box {w : World} {g : Nat} {T : TypeId} {u0 u1 u2 u3 u4 u5 u6 u7 u8 : Value} {c0 c1 c2 c3 c4 c5 c6 c7 c8 : Value} (h : TBox w g T #[c0, c1, c2, c3, c4, c5, c6, c7, c8]) : TBox (((((((((w.setCell ⟨g, 0, none⟩ u0).setCell ⟨g, 1, none⟩ u1).setCell ⟨g, 2, none⟩ u2).setCell ⟨g, 3, none⟩ u3).setCell ⟨g, 4, none⟩ u4).setCell ⟨g, 5, none⟩ u5).setCell ⟨g, 6, none⟩ u6).setCell ⟨g, 7, none⟩ u7).setCell ⟨g, 8, none⟩ u8) g T #[u0, u1, u2, u3, u4, u5, u6, u7, u8] := by
  have := ((((((((h.set 0 u0).set 1 u1).set 2 u2).set 3 u3).set 4 u4).set 5 u5).set 6 u6).set 7 u7).set 8 u8
  simpa using this
theorem set9_below {B g : Nat} {w W : World} (h : Below B w W) (hg : B ≤ g) (u0 : Value) (u1 : Value) (u2 : Value) (u3 : Value) (u4 : Value) (u5 : Value) (u6 : Value) (u7 : Value) (u8 : Value) : Below B w (((((((((W.setCell ⟨g, 0, none⟩ u0).setCell ⟨g, 1, none⟩ u1).setCell ⟨g, 2, none⟩ u2).setCell ⟨g, 3, none⟩ u3).setCell ⟨g, 4, none⟩ u4).setCell ⟨g, 5, none⟩ u5).setCell ⟨g, 6, none⟩ u6).setCell ⟨g, 7, none⟩ u7).setCell ⟨g, 8, none⟩ u8) :=
  ((((((((h.setCell (p := ⟨g, 0, none⟩) hg u0).setCell (p := ⟨g, 1, none⟩) hg u1).setCell (p := ⟨g, 2, none⟩) hg u2).setCell (p := ⟨g, 3, none⟩) hg u3).setCell (p := ⟨g, 4, none⟩) hg u4).setCell (p := ⟨g, 5, none⟩) hg u5).setCell (p := ⟨g, 6, none⟩) hg u6).setCell (p := ⟨g, 7, none⟩) hg u7).setCell (p := ⟨g, 8, none⟩) hg u8
/-- the text that is left, the effect, the result's cell -/
def RS (w : World) (wb : Nat) (R : List ByteArray) (cs : Array Value) (W : World) : Prop :=
  (∃ o cap, TBox W w.heap.size 32 #[.slice (some ⟨wb, o, none⟩) R.length cap] ∧ RowS W wb o R ∧ R.length ≤ cap ∧ cap ≤ 100000) ∧ TBox W (w.heap.size + 1 + 1) 24 cs ∧ TBox W (w.heap.size + 1) 24 #[.int .i64 0, .int .i64 0, .int .i64 0, .int .i64 0, .int .i64 0, .int .i64 0, .bool false, .bool false, .slice none 0 0] ∧ Below w.heap.size w W
section
variable {w W W' : World} {wb : Nat} {R R' : List ByteArray} {cs : Array Value}
theorem RS.below (h : RS w wb R cs W) (hw : wb < w.heap.size) (hb : Below W.heap.size W W') : RS w wb R cs W' := by
  obtain ⟨⟨o, cap, h1, h2, h3, h4⟩, h5, h6, h7⟩ := h
  exact ⟨⟨o, cap, h1.below hb, h2.keep (Nat.lt_of_lt_of_le hw h7.size) hb, h3, h4⟩, h5.below hb, h6.below hb, h7.trans (hb.mono h7.size)⟩
theorem RS.setE (h : RS w wb R cs W) (hw : wb < w.heap.size) (i : Nat) (v : Value) : RS w wb R (cs.setIfInBounds i v) (W.setCell ⟨(w.heap.size + 1 + 1), i, none⟩ v) := by
  obtain ⟨⟨o, cap, h1, h2, h3, h4⟩, h5, h6, h7⟩ := h
  have hb : Below w.heap.size W (W.setCell ⟨(w.heap.size + 1 + 1), i, none⟩ v) := (Below.refl _ _).setCell (p := ⟨(w.heap.size + 1 + 1), i, none⟩) (by show w.heap.size ≤ w.heap.size + 1 + 1; omega) v
  exact ⟨⟨o, cap, h1.setOther (by omega) v, h2.keep hw hb, h3, h4⟩, h5.set i v, h6.setOther (by omega) v, h7.trans hb⟩
theorem RS.setT (h : RS w wb R cs W) (hw : wb < w.heap.size) (o cap : Nat) (h1 : RowS W wb o R') (h2 : R'.length ≤ cap) (h3 : cap ≤ 100000) : RS w wb R' cs (W.setCell ⟨w.heap.size, 0, none⟩ (.slice (some ⟨wb, o, none⟩) R'.length cap)) := by
  obtain ⟨⟨_, _, k1, _, _, _⟩, h5, h6, h7⟩ := h
  have hb : Below w.heap.size W (W.setCell ⟨w.heap.size, 0, none⟩ (.slice (some ⟨wb, o, none⟩) R'.length cap)) := (Below.refl _ _).setCell (p := ⟨w.heap.size, 0, none⟩) (Nat.le_refl _) _
  exact ⟨⟨o, cap, k1.set 0 _, h1.keep hw hb, h2, h3⟩, h5.setOther (by omega) _, h6.setOther (by omega) _, h7.trans hb⟩
theorem RS.kv {word : ByteArray} {i o cap n : Nat} {e : Ending} {R1 : List ByteArray} {m : Int} (h : RS w wb R cs W) (hw : wb < w.heap.size) (hc : cap ≤ 100000) (hk : kvW word R = some (m, R1)) (hc1 : R.length ≤ cap) (hp : KvPost word R w.heap.size (w.heap.size + 1 + 1) i wb o cap cs W e W') :
    e = .returned (.bool true) ∧ RS w wb R1 (cs.setIfInBounds i (.int .i64 m)) W' ∧ (∀ x ∈ R1, x ∈ R) := by
  unfold KvPost at hp
  rw [hk] at hp
  obtain ⟨rfl, ⟨o2, p1, p2⟩, p3, p4, p5, p6⟩ := hp
  obtain ⟨_, h5, h6, h7⟩ := h
  have hb := p6.1 w.heap.size (Nat.le_refl _) (by omega) h7.size
  exact ⟨rfl, ⟨⟨o2, cap - 2, p1, p2.keep hw hb, by omega, by omega⟩, p3, p6.2.1 _ _ _ (by omega) (by omega) h6, h7.trans hb⟩, p5⟩
theorem RS.kvNo {word : ByteArray} {i o cap : Nat} {e : Ending} (h : RS w wb R cs W) (hk : kvW word R = none) (hp : KvPost word R w.heap.size (w.heap.size + 1 + 1) i wb o cap cs W e W') :
    e = .returned (.bool false) ∧ ∃ n, TBox W' (w.heap.size + 1 + 1) 24 (cs.setIfInBounds i (.int .i64 n)) ∧ TBox W' (w.heap.size + 1) 24 #[.int .i64 0, .int .i64 0, .int .i64 0, .int .i64 0, .int .i64 0, .int .i64 0, .bool false, .bool false, .slice none 0 0] ∧ Below w.heap.size w W' := by
  unfold KvPost at hp
  rw [hk] at hp
  obtain ⟨rfl, ⟨n, p1⟩, p6⟩ := hp
  obtain ⟨_, h5, h6, h7⟩ := h
  exact ⟨rfl, n, p1, p6.2.1 _ _ _ (by omega) (by omega) h6, h7.trans (p6.1 w.heap.size (Nat.le_refl _) (by omega) h7.size)⟩
end
/-- a slice's row lies at block B or behind -/
def FreshS (B : Nat) (v : Value) : Prop := ∀ a n c, v = .slice (some a) n c → B ≤ a.block
theorem StS.set {B B0 g i : Nat} {W : World} {v : Value} {l : List Stp} (h : StS B W v l) (hf : FreshS B0 v) (hg : g < B0) (u : Value) : StS B (W.setCell ⟨g, i, none⟩ u) v l := by
  obtain ⟨ao, cap, rfl, h1, h2⟩ := h
  refine ⟨ao, cap, rfl, h1, fun hne => ?_⟩
  obtain ⟨b, off, rfl, hb, hc⟩ := h2 hne
  have hB : B0 ≤ b := hf _ _ _ rfl
  have key : ∀ j, (W.setCell ⟨g, i, none⟩ u).cell? ⟨b, j, none⟩ = W.cell? ⟨b, j, none⟩ := fun j => World.cell?_setCell_other W _ _ u (fun e => by injection e with e; omega)
  refine ⟨b, off, rfl, hb, fun j hj => ?_⟩
  obtain ⟨c0, c1, c2⟩ := hc j hj
  exact ⟨(key _).trans c0, (key _).trans c1, (key _).trans c2⟩
theorem StS.set9 {B B0 g : Nat} {W : World} {v : Value} {l : List Stp} (h : StS B W v l) (hf : FreshS B0 v) (hg : g < B0) (u0 : Value) (u1 : Value) (u2 : Value) (u3 : Value) (u4 : Value) (u5 : Value) (u6 : Value) (u7 : Value) (u8 : Value) : StS B (((((((((W.setCell ⟨g, 0, none⟩ u0).setCell ⟨g, 1, none⟩ u1).setCell ⟨g, 2, none⟩ u2).setCell ⟨g, 3, none⟩ u3).setCell ⟨g, 4, none⟩ u4).setCell ⟨g, 5, none⟩ u5).setCell ⟨g, 6, none⟩ u6).setCell ⟨g, 7, none⟩ u7).setCell ⟨g, 8, none⟩ u8) v l :=
  ((((((((h.set hf hg u0).set hf hg u1).set hf hg u2).set hf hg u3).set hf hg u4).set hf hg u5).set hf hg u6).set hf hg u7).set hf hg u8
/-- what effect.read hands back -/
def RdPost (RES : Option Eff) (w : World) (e : Ending) (w' : World) : Prop := Below w.heap.size w w' ∧ match RES with
  | some E => ∃ sv, e = .returned (.tuple #[effV E sv, .bool true]) ∧ StS w'.heap.size w' sv E.steps ∧ FreshS w.heap.size sv
  | none => ∃ v, EffSh v ∧ e = .returned (.tuple #[v, .bool false])
/-! ### own rows of steps -/
theorem flatE_get {α : Type} (f : α → List Value) (n : Nat) (hn : ∀ y, (f y).length = n) (l : List α) (i : Nat) (h : i < l.length) (j : Nat) (hj : j < n) : (l.flatMap f)[i * n + j]? = (f l[i])[j]? := by
  induction l generalizing i with
  | nil => simp at h
  | cons a l ih =>
    simp only [List.flatMap_cons]
    match i with
    | 0 =>
      rw [List.getElem?_append_left (by rw [hn]; omega)]
      simp
    | i + 1 =>
      have := ih i (by simpa using h)
      rw [List.getElem?_append_right (by rw [hn, Nat.succ_mul]; omega), hn]
      rw [show (i + 1) * n + j - n = i * n + j by rw [Nat.succ_mul]; omega]
      simpa using this
def stC3 (s : Stp) : List Value := [.int .i64 s.lv, .int .i64 s.hold, .int .i64 s.fade]
def OwnP (base : Nat) (w : World) (v : Value) (l : List Stp) : Prop := w.ownsRow base 44 3 v l.length (l.flatMap stC3)
theorem OwnP.nil (base : Nat) (w : World) : OwnP base w (.slice none 0 0) [] := World.ownsRow_nil w base _ _
theorem OwnP.shape {base : Nat} {w : World} {v : Value} {l : List Stp} (h : OwnP base w v l) : ∃ ao cap, v = .slice ao l.length cap := by
  rcases h.2 with h' | ⟨g, cap, cur, e1, _⟩
  · exact ⟨none, 0, by rw [h'.1, h'.2]⟩
  · exact ⟨_, cap, e1⟩
theorem OwnP.below {base : Nat} {w w' : World} {v : Value} {l : List Stp} (h : OwnP base w v l) (hb : Below w.heap.size w w') : OwnP base w' v l := by
  refine ⟨h.1, ?_⟩
  rcases h.2 with h' | ⟨g, cap, cur, e1, h1, h2, h3⟩
  · exact .inl h'
  · exact .inr ⟨g, cap, cur, e1, h1, (hb.block g (World.ownsRow.lt h g (by rw [e1]; rfl)).2).trans h2, h3⟩
theorem OwnP.keeps {B base : Nat} {a w w' : World} {v : Value} {l : List Stp} (ho : OwnP base w v l) (h : Below B a w) (g : w.grownBy w' v.ownBlock) (hB : B ≤ base) (hs : B ≤ w.heap.size) : Below B a w' :=
  h.grown g hs (fun k hk => by have := (World.ownsRow.lt ho k hk).1; omega)
open Go (info_parts)
theorem infoOwnP : (Tryz.prog.info? 44).map (fun i => (i.zero, i.size, i.bytes)) = some (some (.agg #[.int .i64 0, .int .i64 0, .int .i64 0]), 3, 24) := by kernel_rfl
theorem wpList_ownP {w : World} {ops : Array Oper} {rest : List Oper} {o : Oper} {a : Act} {Q : Exit → Act → World → Prop} (hgd : o.guard = none) (s x : Operand)
    (hop : o.op = .call { callee := .builtin .append, args := #[s, x], argTypes := #[22, 22] })
    (base c : Nat) (v : Value) (l : List Stp) (y : Stp) (ad : Addr) (hs : a.eval s = v) (hx : a.eval x = .slice (some ad) 1 c)
    (ho : OwnP base w v l) (hc : ∀ (j : Nat) u, (stC3 y)[j]? = some u → w.cell? (ad.add j) = some u) (hl : l.length ≤ 10000000) (hb : base ≤ w.heap.size)
    (h : ∀ v' w', OwnP base w' v' (l ++ [y]) → w.grownBy w' v.ownBlock → wpList Tryz.prog ops Q rest (a.put o.dst v') w') : wpList Tryz.prog ops Q (o :: rest) a w := by
  obtain ⟨i0, hi, hz0, hz1, hz2⟩ := info_parts infoOwnP
  refine wpList_append_own w hgd s x 22 hop base 44 i0 (.agg #[.int .i64 0, .int .i64 0, .int .i64 0]) 3 24 Tryz.underlying22 hi hz0 hz1 hz2 rfl (by decide) v l.length (l.flatMap stC3) hs ho ad 1 c (stC3 y) hx rfl hc (by intro u hu; simp [stC3] at hu; rcases hu with rfl | rfl | rfl <;> rfl) (by unfold maxLen; omega) (by omega) hb ?_
  intro v' w' h1 h2 _
  refine h v' w' ?_ h2
  unfold OwnP
  rw [List.flatMap_append, List.length_append]
  simpa using h1
theorem ownP_new (w : World) (y : Stp) (T : TypeId) : ∀ (j : Nat) u, (stC3 y)[j]? = some u → (w.alloc (.cells #[.int .i64 y.lv, .int .i64 y.hold, .int .i64 y.fade] T)).cell? ((⟨w.heap.size, 0, none⟩ : Addr).add j) = some u := by
  intro j u hu
  match j, hu with
  | 0, hu => simp [stC3] at hu; subst hu; simp [Addr.add, go_sem]
  | 1, hu => simp [stC3] at hu; subst hu; simp [Addr.add, go_sem]
  | 2, hu => simp [stC3] at hu; subst hu; simp [Addr.add, go_sem]
  | j + 3, hu => simp [stC3] at hu
theorem OwnP.fresh {base : Nat} {w : World} {v : Value} {l : List Stp} (h : OwnP base w v l) : FreshS base v := by
  rcases h.2 with h' | ⟨g, cap, cur, e1, h1, _⟩
  · intro a n c e
    rw [h'.1] at e
    cases e
  · intro a n c e
    rw [e1] at e
    injection e with e
    injection e with e
    rw [← e]
    exact h1
theorem FreshS.more {B C : Nat} {v : Value} (h : FreshS B v) (hc : C ≤ B) : FreshS C v := fun a n c e => Nat.le_trans hc (h a n c e)
theorem FreshS.nil (B n c : Nat) : FreshS B (.slice none n c) := fun a n c e => by cases e
theorem OwnP.stS {base : Nat} {w : World} {v : Value} {l : List Stp} (h : OwnP base w v l) (hl : l.length ≤ maxLen) : StS w.heap.size w v l := by
  rcases h.2 with ⟨rfl, hn⟩ | ⟨g, cap, cur, rfl, hb, h1, hnc, hcm, hcs, hct⟩
  · obtain rfl : l = [] := List.length_eq_zero_iff.1 hn
    exact ⟨none, 0, rfl, Nat.zero_le _, fun h => absurd rfl h⟩
  · have hT : TBox w g 44 cur := h1
    refine ⟨_, cap, rfl, hl, fun _ => ⟨g, 0, rfl, hT.lt, fun i hi => ?_⟩⟩
    have key : ∀ j, j < 3 → cur[i * 3 + j]? = (stC3 l[i])[j]? := by
      intro j hj
      have h2 := flatE_get stC3 3 (fun _ => rfl) l i hi j hj
      rw [← hct, List.getElem?_take_of_lt (by omega), Array.getElem?_toList] at h2
      exact h2
    have c0 := hT.cell (i := i * 3) (v := .int .i64 l[i].lv) (key 0 (by omega))
    have c1 := hT.cell (i := i * 3 + 1) (v := .int .i64 l[i].hold) (key 1 (by omega))
    have c2 := hT.cell (i := i * 3 + 2) (v := .int .i64 l[i].fade) (key 2 (by omega))
    exact ⟨by rw [Nat.zero_add]; exact c0, by rw [Nat.zero_add]; exact c1, by rw [Nat.zero_add]; exact c2⟩
end Go.Proofs.YtfidbdegggalmaaGreatDoor
