/- The bytes of frames in a map from universes to rows of 512 bytes. No walk in it. level.Octet. (printed by wip/gen/gen_octet.py) The words of Place. (printed by wip/gen/gen_place.py) -/
import Derived.Test.YtabalicembhjmaaT45M27
import Derived.Test.YtabalicembhjmaaT45M15
import Derived.Deep.OwnRows
import Derived.Test.YtabalicembhjmaaT45M02
import Derived.Test.YtabalicembhjmaaT45M03
import Derived.Test.YtabalicembhjmaaT45M26
import Derived.StillTailTactics

namespace Go.Proofs.Ytabalicembhjmaa
open Go.RowKit
open Go (info_parts)
set_option linter.unusedVariables false
set_option linter.unusedSimpArgs false

def bytA (l : List Int) : Array Value := (l.map (fun b => Value.int .u8 b)).toArray
/-- block g is a row of 512 bytes -/
def BytesAt (w : World) (g : Nat) (l : List Int) : Prop := l.length = 512 ∧ TBox w g 5 (bytA l)
def frmV (g : Nat) : Value := .slice (some ⟨g, 0, none⟩) 512 512
theorem frmV_inj {g h : Nat} (e : frmV g = frmV h) : g = h := by unfold frmV at e; simpa using e
theorem bytA_get {l : List Int} {j : Nat} (h : j < l.length) : (bytA l)[j]? = some (.int .u8 l[j]) := by simp [bytA, h]
theorem bytA_set (l : List Int) (j : Nat) (v : Int) : (bytA l).setIfInBounds j (.int .u8 v) = bytA (l.set j v) := by simp [bytA, List.map_set]
theorem BytesAt.below {w w' : World} {g : Nat} {l : List Int} (h : BytesAt w g l) (hb : Below w.heap.size w w') : BytesAt w' g l := ⟨h.1, h.2.below hb⟩
theorem BytesAt.same {w w' : World} {g : Nat} {l : List Int} (h : BytesAt w g l) (hb : w'.heap[g]? = w.heap[g]?) : BytesAt w' g l := ⟨h.1, hb.trans h.2⟩
theorem BytesAt.lt {w : World} {g : Nat} {l : List Int} (h : BytesAt w g l) : g < w.heap.size := h.2.lt
theorem BytesAt.cell {w : World} {g : Nat} {l : List Int} (h : BytesAt w g l) (j : Nat) (hj : j < 512) : w.cell? ⟨g, j, none⟩ = some (.int .u8 (l[j]'(by rw [h.1]; exact hj))) := h.2.cell (bytA_get _)
theorem BytesAt.frozen {w : World} {g : Nat} {l : List Int} (h : BytesAt w g l) (j : Nat) : w.frozen? ⟨g, j, none⟩ = false := h.2.frozen j
theorem BytesAt.put {w : World} {g : Nat} {l : List Int} (h : BytesAt w g l) (j : Nat) (v : Int) : BytesAt (w.setCell ⟨g, j, none⟩ (.int .u8 v)) g (l.set j v) := by
  refine ⟨by rw [List.length_set]; exact h.1, ?_⟩
  have := h.2.set j (.int .u8 v)
  rwa [bytA_set] at this
theorem flat_byt (l : List Int) : l.flatMap bytC = l.map (fun b => Value.int .u8 b) := by
  induction l with
  | nil => rfl
  | cons a l ih => simp only [List.flatMap_cons, List.map_cons, ih, bytC]; rfl
theorem BytesAt.bytS {w : World} {g : Nat} {l : List Int} (h : BytesAt w g l) : BytS w.heap.size w (frmV g) l := by
  refine ⟨some ⟨g, 0, none⟩, 512, by rw [h.1]; rfl, by rw [h.1]; exact Nat.le_refl _, by unfold maxLen; omega, fun _ => ⟨g, 0, rfl, h.lt, fun j u hu => ?_⟩⟩
  rw [Nat.zero_add]
  rw [flat_byt] at hu
  obtain ⟨hj, e⟩ := List.getElem?_eq_some_iff.1 hu
  rw [List.getElem_map] at e
  rw [← e]
  exact h.2.cell (bytA_get (by simpa using hj))
theorem grown_set3 (W : World) (b i : Nat) (v : Value) : W.grownBy (W.setCell ⟨b, i, none⟩ v) (some b) :=
  ⟨rfl, rfl, rfl, by simp, fun k _ hne => heap_setCell_other W ⟨b, i, none⟩ k v (fun e => hne (by simp [e]))⟩
theorem grown_tr3 {a b c : World} {r : Option Nat} (h : a.grownBy b r) (g : b.grownBy c r) : a.grownBy c r :=
  ⟨g.os.trans h.os, g.tape.trans h.tape, g.output.trans h.output, Nat.le_trans h.size g.size, fun k hk hne => (g.block k (Nat.lt_of_lt_of_le hk h.size) hne).trans (h.block k hk hne)⟩
theorem grown_bel3 {a b c : World} {r : Option Nat} (h : a.grownBy b r) (g : Below b.heap.size b c) : a.grownBy c r :=
  ⟨g.os.trans h.os, g.tape.trans h.tape, g.output.trans h.output, Nat.le_trans h.size g.size, fun k hk hne => (g.block k (Nat.lt_of_lt_of_le hk h.size)).trans (h.block k hk hne)⟩
theorem bel_grown3 {B : Nat} {a b c : World} {g : Nat} (h : Below B a b) (k : b.grownBy c (some g)) (hB : B ≤ b.heap.size) (hg : B ≤ g) : Below B a c :=
  h.grown k hB (fun j hj => by cases hj; exact hg)

/-! ### the map of frames -/
def FrU (base : Nat) (w : World) (mb : Nat) (P : Int → Option (List Int)) (f : Lit → Option Value) (U : Int) : Prop :=
  (f (.int .i64 U) = none ∧ P U = none) ∨ ∃ g b, f (.int .i64 U) = some (frmV g) ∧ P U = some b ∧ base ≤ g ∧ g ≠ mb ∧ BytesAt w g b
/-- block mb is a map from universes to rows of bytes, in blocks from base on -/
def FrS (base : Nat) (w : World) (mb m : Nat) (P : Int → Option (List Int)) : Prop :=
  ∃ n f, n ≤ m ∧ MapM w Try.prog 3 mb n f ∧ (∀ U, FrU base w mb P f U) ∧ ∀ U V g, f (.int .i64 U) = some (frmV g) → f (.int .i64 V) = some (frmV g) → U = V
/-- .. the row of universe U is block g, whatever it holds -/
def FrG (base : Nat) (w : World) (mb m : Nat) (P : Int → Option (List Int)) (U : Int) (g : Nat) : Prop :=
  ∃ n f, n ≤ m ∧ MapM w Try.prog 3 mb n f ∧ f (.int .i64 U) = some (frmV g) ∧ base ≤ g ∧ g ≠ mb ∧ g < w.heap.size ∧ (∀ V, V ≠ U → FrU base w mb P f V) ∧ ∀ U V g, f (.int .i64 U) = some (frmV g) → f (.int .i64 V) = some (frmV g) → U = V
theorem frs_made (base : Nat) (w : World) : FrS base (w.alloc (.map #[] 0)) w.heap.size 0 (fun _ => none) :=
  ⟨0, fun _ => none, by simp, mapM_made w _ _, fun U => .inl ⟨rfl, rfl⟩, fun U V g h => by cases h⟩
theorem FrU.below {base mb : Nat} {w w' : World} {P : Int → Option (List Int)} {f : Lit → Option Value} {U : Int} (h : FrU base w mb P f U) (hb : Below w.heap.size w w') : FrU base w' mb P f U := by
  rcases h with h | ⟨g, b, h1, h2, h3, h4, h5⟩
  · exact .inl h
  · exact .inr ⟨g, b, h1, h2, h3, h4, h5.below hb⟩
theorem FrS.below {base mb m : Nat} {w w' : World} {P : Int → Option (List Int)} (h : FrS base w mb m P) (hb : Below w.heap.size w w') : FrS base w' mb m P := by
  obtain ⟨n, f, h1, h2, h3, h4⟩ := h
  exact ⟨n, f, h1, h2.same (hb.block _ h2.lt), fun U => (h3 U).below hb, h4⟩
theorem FrS.alloc {base mb m : Nat} {w : World} {P : Int → Option (List Int)} (h : FrS base w mb m P) (o : Obj) : FrS base (w.alloc o) mb m P := h.below ((Below.refl _ _).alloc (Nat.le_refl _) o)
theorem FrS.more {base mb m m' : Nat} {w : World} {P : Int → Option (List Int)} (h : FrS base w mb m P) (hm : m ≤ m') : FrS base w mb m' P := by
  obtain ⟨n, f, h1, h⟩ := h
  exact ⟨n, f, Nat.le_trans h1 hm, h⟩
theorem FrS.lt {base mb m : Nat} {w : World} {P : Int → Option (List Int)} (h : FrS base w mb m P) : mb < w.heap.size := by
  obtain ⟨n, f, h1, h2, _⟩ := h
  exact h2.lt
/-- the look-up, told by what is kept -/
theorem FrS.look {base mb m : Nat} {w : World} {P : Int → Option (List Int)} (h : FrS base w mb m P) (U : Int) (hU : I64 U) :
    ∃ a n c, (Instr.lookup 61 (.map (some mb)) (.int .i64 U) false).run Try.prog w = .ok (.slice a n c) w ∧ ((P U = none ∧ a = none) ∨ ∃ g b, P U = some b ∧ a = some ⟨g, 0, none⟩ ∧ n = 512 ∧ c = 512 ∧ base ≤ g ∧ g ≠ mb ∧ BytesAt w g b ∧ FrG base w mb m P U g) := by
  obtain ⟨n, f, h1, h2, h3, h4⟩ := h
  have hq := h2.look false keyI_ (t := 61) Try.underlying61 (zeroBy_ _) (keyOfI_ hU)
  rcases h3 U with ⟨e1, e2⟩ | ⟨g, b, e1, e2, e3, e4, e5⟩
  · rw [e1] at hq
    exact ⟨none, 0, 0, hq, .inl ⟨e2, rfl⟩⟩
  · rw [e1] at hq
    exact ⟨some ⟨g, 0, none⟩, 512, 512, hq, .inr ⟨g, b, e2, rfl, rfl, rfl, e3, e4, e5, n, f, h1, h2, e1, e3, e4, e5.lt, fun V _ => h3 V, h4⟩⟩
theorem bytA_no : bytA noB = Array.replicate 512 (.int .u8 0) := by
  unfold bytA noB
  rw [List.map_replicate, List.toArray_replicate]
theorem byteInfo_ : (Try.prog.info? 5).map (fun i => (i.zero, i.size, i.bytes)) = some (some (.int .u8 0), 1, 1) := by kernel_rfl
theorem made_noB : madeCells #[.int .u8 0] 512 = bytA noB := by
  rw [bytA_no]
  apply Array.ext
  · rw [size_madeCells, Array.size_replicate]
  · intro i h1 h2
    simp [madeCells, Nat.mod_one]
theorem make512_ (w : World) : (Instr.makeSlice 62 (.int .i64 512) (.int .i64 512)).run Try.prog w = .ok (.slice (some ⟨w.heap.size, 0, none⟩) 512 512) (w.alloc (.cells (bytA noB) 5)) := by
  have := run_make_row' (P := Try.prog) 62 5 (.int .u8 0) 1 Try.underlying62 byteInfo_ rfl .i64 .i64 512 (by omega) (by omega) w
  rw [made_noB] at this
  exact this
/-- a new row of a universe that has none -/
theorem FrS.put_new {base mb m : Nat} {w : World} {P : Int → Option (List Int)} (h : FrS base w mb m P) (U : Int) (hU : I64 U) (hP : P U = none) (hm : m < maxLen) (hb : base ≤ w.heap.size) {w1 : World} (h1 : Below w.heap.size w w1) (hg : TBox w1 w.heap.size 5 (bytA noB)) :
    ∃ w', (Instr.mapUpdate 61 (.map (some mb)) (.int .i64 U) (frmV w.heap.size)).run Try.prog w1 = .ok () w' ∧ w1.grownBy w' (some mb) ∧ FrG base w' mb (m + 1) P U w.heap.size ∧ BytesAt w' w.heap.size noB := by
  obtain ⟨n, f, e1, e2, e3, e4⟩ := h
  have hlt := e2.lt
  obtain ⟨w', hr, hM, hgr⟩ := (e2.same (h1.block _ hlt)).update keyI_ (t := 61) Try.underlying61 (by omega) (keyOfI_ hU) (val := frmV w.heap.size)
  have hS : BytesAt w' w.heap.size noB := ⟨List.length_replicate, (hgr.block _ hg.lt (by intro e; injection e with e; omega)).trans hg⟩
  have old : ∀ V g1, f (.int .i64 V) = some (frmV g1) → g1 < w.heap.size := fun V g1 hv => by
    rcases e3 V with ⟨k1, _⟩ | ⟨g', b, k1, _, _, _, k5⟩
    · rw [hv] at k1; cases k1
    · rw [hv] at k1
      have := frmV_inj (Option.some.inj k1)
      have := k5.lt
      omega
  refine ⟨w', hr, hgr, ⟨n + 1, _, by omega, hM, putF_same (keyLitI_ _), hb, by omega, hS.lt, fun V hV => ?_, fun A B g1 q1 q2 => ?_⟩, hS⟩
  · rcases e3 V with ⟨k1, k2⟩ | ⟨g', b, k1, k2, k3, k4, k5⟩
    · exact .inl ⟨(putF_other (litI_ne hV)).trans k1, k2⟩
    · exact .inr ⟨g', b, (putF_other (litI_ne hV)).trans k1, k2, k3, k4, (k5.below h1).same (hgr.block _ (Nat.lt_of_lt_of_le k5.lt h1.size) (by intro e; injection e with e; exact k4 e))⟩
  · by_cases c : A = U
    · by_cases d : B = U
      · rw [c, d]
      · rw [putF_other (litI_ne d)] at q2
        rw [c, putF_same (keyLitI_ _)] at q1
        have := frmV_inj (Option.some.inj q1)
        have := old _ _ q2
        omega
    · rw [putF_other (litI_ne c)] at q1
      by_cases d : B = U
      · rw [d, putF_same (keyLitI_ _)] at q2
        have := frmV_inj (Option.some.inj q2)
        have := old _ _ q1
        omega
      · rw [putF_other (litI_ne d)] at q2
        exact e4 A B g1 q1 q2
theorem FrG.grown {base mb m : Nat} {w w' : World} {P : Int → Option (List Int)} {U : Int} {g : Nat} (h : FrG base w mb m P U g) (hg : w.grownBy w' (some g)) : FrG base w' mb m P U g := by
  obtain ⟨n, f, h1, h2, h3, h4, h5, h6, h7, h8⟩ := h
  refine ⟨n, f, h1, h2.same (hg.block _ h2.lt (by intro e; injection e with e; exact h5 e.symm)), h3, h4, h5, Nat.lt_of_lt_of_le h6 hg.size, fun V hV => ?_, h8⟩
  rcases h7 V hV with k | ⟨g', b, k1, k2, k3, k4, k5⟩
  · exact .inl k
  · refine .inr ⟨g', b, k1, k2, k3, k4, k5.same (hg.block _ k5.lt ?_)⟩
    intro e
    injection e with e
    subst e
    exact hV (h8 V U g' k1 h3)
theorem FrG.back {base mb m : Nat} {w : World} {P P' : Int → Option (List Int)} {U : Int} {g : Nat} {b : List Int} (h : FrG base w mb m P U g) (hb : BytesAt w g b) (h1 : P' U = some b) (h2 : ∀ V, V ≠ U → P' V = P V) : FrS base w mb m P' := by
  obtain ⟨n, f, k1, k2, k3, k4, k5, k6, k7, k8⟩ := h
  refine ⟨n, f, k1, k2, fun V => ?_, k8⟩
  by_cases c : V = U
  · subst c
    exact .inr ⟨g, b, k3, h1, k4, k5, hb⟩
  · rcases k7 V c with ⟨q1, q2⟩ | ⟨g', b', q1, q2, q⟩
    · exact .inl ⟨q1, (h2 V c).trans q2⟩
    · exact .inr ⟨g', b', q1, (h2 V c).trans q2, q⟩

/-! ### own rows of frames -/
def OwnF (base : Nat) (w : World) (v : Value) (lv : List (Frm × Value)) : Prop := w.ownsRow base 64 2 v lv.length (lv.flatMap frmC)
theorem OwnF.nil (base : Nat) (w : World) : OwnF base w (.slice none 0 0) [] := World.ownsRow_nil w base _ _
theorem OwnF.shape {base : Nat} {w : World} {v : Value} {l : List (Frm × Value)} (h : OwnF base w v l) : ∃ ao cap, v = .slice ao l.length cap := by
  rcases h.2 with h' | ⟨g, cap, cur, e1, _⟩
  · exact ⟨none, 0, by rw [h'.1, h'.2]⟩
  · exact ⟨_, cap, e1⟩
theorem OwnF.below {base : Nat} {w w' : World} {v : Value} {l : List (Frm × Value)} (h : OwnF base w v l) (hb : Below w.heap.size w w') : OwnF base w' v l := by
  refine ⟨h.1, ?_⟩
  rcases h.2 with h' | ⟨g, cap, cur, e1, h1, h2, h3⟩
  · exact .inl h'
  · exact .inr ⟨g, cap, cur, e1, h1, (hb.block g (World.ownsRow.lt h g (by rw [e1]; rfl)).2).trans h2, h3⟩
theorem OwnF.keeps {B base : Nat} {a w w' : World} {v : Value} {l : List (Frm × Value)} (ho : OwnF base w v l) (h : Below B a w) (g : w.grownBy w' v.ownBlock) (hB : B ≤ base) (hs : B ≤ w.heap.size) : Below B a w' :=
  h.grown g hs (fun k hk => by have := (World.ownsRow.lt ho k hk).1; omega)
theorem infoOwnF : (Try.prog.info? 64).map (fun i => (i.zero, i.size, i.bytes)) = some (some (.agg #[.int .i64 0, .slice none 0 0]), 2, 32) := by kernel_rfl
theorem wpList_ownF {w : World} {ops : Array Oper} {rest : List Oper} {o : Oper} {a : Act} {Q : Exit → Act → World → Prop} (hgd : o.guard = none) (s x : Operand)
    (hop : o.op = .call { callee := .builtin .append, args := #[s, x], argTypes := #[26, 26] })
    (base c : Nat) (v : Value) (l : List (Frm × Value)) (U : Int) (b : List Int) (g : Nat) (ad : Addr) (hs : a.eval s = v) (hx : a.eval x = .slice (some ad) 1 c)
    (ho : OwnF base w v l) (hc : ∀ (j : Nat) u, (frmC (⟨U, b⟩, frmV g))[j]? = some u → w.cell? (ad.add j) = some u) (hl : l.length ≤ 10000000) (hb : base ≤ w.heap.size)
    (h : ∀ v' w', OwnF base w' v' (l ++ [(⟨U, b⟩, frmV g)]) → w.grownBy w' v.ownBlock → wpList Try.prog ops Q rest (a.put o.dst v') w') : wpList Try.prog ops Q (o :: rest) a w := by
  obtain ⟨i0, hi, hz0, hz1, hz2⟩ := info_parts infoOwnF
  refine wpList_append_own w hgd s x 26 hop base 64 i0 (.agg #[.int .i64 0, .slice none 0 0]) 2 32 Try.underlying26 hi hz0 hz1 hz2 rfl (by decide) v l.length (l.flatMap frmC) hs ho ad 1 c (frmC (⟨U, b⟩, frmV g)) hx rfl hc (by intro u hu; simp [frmC] at hu; rcases hu with rfl | rfl <;> rfl) (by unfold maxLen; omega) (by omega) hb ?_
  intro v' w' h1 h2 _
  refine h v' w' ?_ h2
  unfold OwnF
  rw [List.flatMap_append, List.length_append]
  simpa using h1
theorem ownF_new (w : World) (U : Int) (b : List Int) (g : Nat) (T : TypeId) : ∀ (j : Nat) u, (frmC (⟨U, b⟩, frmV g))[j]? = some u → (w.alloc (.cells #[.int .i64 U, frmV g] T)).cell? ((⟨w.heap.size, 0, none⟩ : Addr).add j) = some u := by
  intro j u hu
  match j, hu with
  | 0, hu => simp [frmC] at hu; subst hu; simp [Addr.add, go_sem]
  | 1, hu => simp [frmC] at hu; subst hu; simp [Addr.add, go_sem]
  | j + 2, hu => simp [frmC] at hu
/-- the rows of frames that a state of the map says -/
theorem OwnF.frmS {base : Nat} {w : World} {v : Value} {lv : List (Frm × Value)} (h : OwnF base w v lv) (hb : ∀ y ∈ lv, BytS w.heap.size w y.2 y.1.sl) : FrmS w.heap.size w v (lv.map (·.1)) :=
  ⟨lv, rfl, CellsS.of_own h, hb⟩
end Go.Proofs.Ytabalicembhjmaa

namespace Go.Proofs.Ytabalicembhjmaa
open Go.RowKit
set_option linter.unusedVariables false
set_option linter.unusedSimpArgs false
def LvIn (a : Int) : Prop := 0 ≤ a ∧ a ≤ 65535
instance (a : Int) : Decidable (LvIn a) := by unfold LvIn; infer_instance
def octR (n : Int) : Int := if LvIn n then rnd (n * 255) 65535 else 0
def octE (n : Int) : Int := if LvIn n then 0 else 1
theorem oct_byte {n : Int} (h : LvIn n) : 0 ≤ rnd (n * 255) 65535 ∧ rnd (n * 255) 65535 ≤ 255 := by
  unfold LvIn at h
  unfold rnd
  omega
set_option maxHeartbeats 1000000 in
theorem Octet_any (n : Int) (w : World) :
    Calls Try.prog 37 #[.int .i64 n] w fun e w' => e = .returned (.tuple #[.int .u8 (octR n), .int .i64 (octE n)]) ∧ w = w' := by
  by_cases h : LvIn n
  · have HV := Lib.hid (show octR n = rnd (n * 255) 65535 from if_pos h)
    have HF := Lib.hid (show octE n = 0 from if_pos h)
    obtain ⟨o0, o1⟩ := oct_byte h
    unfold LvIn at h
    have HR := Lib.hid (fun W => round_any (n * 255) 65535 W (by omega) (by omega) (by omega) (by omega))
    generalize rnd (n * 255) 65535 = r at *
    go_enter Try.func37, Try.ntmps37
    go_wp2_with (first | (go_at_call 72; refine (isLevel_yes _ _ h).mono ?_; rintro e w' ⟨rfl, rfl⟩) | (go_at_call 73; refine (HR.out _).mono ?_; rintro e w' ⟨rfl, rfl⟩))
    go_ret2
    exact ⟨by rw [HV.out, HF.out]; rfl, rfl⟩
  · have HV := Lib.hid (show octR n = 0 from if_neg h)
    have HF := Lib.hid (show octE n = 1 from if_neg h)
    have h2 : n < 0 ∨ 65535 < n := by unfold LvIn at h; omega
    have H2 := Lib.hid h2
    clear h h2
    go_enter Try.func37, Try.ntmps37
    go_wp2_with (first | (go_at_call 72; refine (isLevel_no _ _ H2.out).mono ?_; rintro e w' ⟨rfl, rfl⟩))
    go_ret2
    exact ⟨by rw [HV.out, HF.out]; rfl, rfl⟩

end Go.Proofs.Ytabalicembhjmaa

namespace Go.Proofs.Ytabalicembhjmaa
open Go.RowKit
set_option linter.unusedVariables false
set_option linter.unusedSimpArgs false

def pf4 (a b c d : Int) : Int := if a = 0 then (if b = 0 then (if c = 0 then d else c) else b) else a
theorem pf4_eq (a b c d : Int) : firstF [a, b, c, d] = pf4 a b c d := by
  unfold pf4
  by_cases h1 : a = 0 <;> by_cases h2 : b = 0 <;> by_cases h3 : c = 0 <;> by_cases h4 : d = 0 <;> simp [firstF, *]
theorem first4p (b : Nat) (x y z u r : Int) (W : World) (hr : pf4 x y z u = r) (h1 : W.cell? ⟨b, 0, none⟩ = some (.int .i64 x)) (h2 : W.cell? ⟨b, 1, none⟩ = some (.int .i64 y)) (h3 : W.cell? ⟨b, 2, none⟩ = some (.int .i64 z)) (h4 : W.cell? ⟨b, 3, none⟩ = some (.int .i64 u)) :
    Calls Try.prog 60 #[.slice (some ⟨b, 0, none⟩) 4 4] W fun e w' => e = .returned (.int .i64 r) ∧ W = w' := by
  rw [← hr, ← pf4_eq]
  refine first_any b 0 4 [x, y, z, u] W (by simp) ?_
  intro i h
  match i, h with
  | 0, _ => simpa using h1
  | 1, _ => simpa using h2
  | 2, _ => simpa using h3
  | 3, _ => simpa using h4
/-- the fault of Place where the profile is there, but for the room -/
def placeE (x : Rig) (n : Int) : Int := pf4 (whenW (!true) 5) (whenW (!inR n 1 9999) 1) (whenW (hasU x.units n) 6) (whenW ((x.units.length : Int) == 400) 2)
theorem placeF_E {x : Rig} {nm : ByteArray} {n : Int} {p : Prf} (h : chkRig x = 0) (hp : profOf x.lib nm.data.toList = some p) : placeF x nm n = if placeE x n = 0 then (if (roomO (usBut x 0) p.size).isNone then 13 else 0) else placeE x n := by
  rw [placeF_some h hp]
  unfold placeE pf4 whenW
  have e : ((x.units.length : Int) == 400) = decide (x.units.length = 400) := by
    by_cases c : x.units.length = 400
    · rw [c]; rfl
    · have c' : ¬ (x.units.length : Int) = 400 := by omega
      simp [c, c']
  rw [e]
  cases h2 : inR n 1 9999 <;> cases h3 : hasU x.units n <;> by_cases h4 : x.units.length = 400 <;> simp [h4]
theorem placeE_zero {x : Rig} {n : Int} (h : placeE x n = 0) : (1 ≤ n ∧ n ≤ 9999) ∧ hasU x.units n = false ∧ x.units.length ≠ 400 := by
  unfold placeE pf4 whenW at h
  cases h2 : inR n 1 9999
  · simp [h2] at h
  cases h3 : hasU x.units n
  rotate_left
  · simp [h2, h3] at h
  refine ⟨inR_true h2, rfl, fun c => ?_⟩
  have : ((x.units.length : Int) == 400) = true := by rw [c]; rfl
  rw [h2, h3, this] at h
  simp at h
theorem still_of {f : FuncId} {args : Array Value} {w : World} {v : Value} (h : Calls Try.prog f args w fun e w' => e = .returned v ∧ w = w') : Calls Try.prog f args w fun e w'' => e = .returned v ∧ w'' = w := h.mono fun _ _ ⟨a, b⟩ => ⟨a, b.symm⟩
theorem pf4_name (b c d : Int) : pf4 (whenW (!false) 5) b c d = 5 := rfl
theorem placeR_no {x : Rig} {nm : ByteArray} {n e : Int} (h : placeF x nm n = e) (he : e ≠ 0) : placeF x nm n = e ∧ placeR x nm n = noRig := ⟨h, placeR_bad (by rw [h]; exact he)⟩
theorem unt_cells (W : World) (y : Unt) (T : TypeId) : (W.alloc (.cells #[.int .i64 y.num, .string y.prof, .int .i64 y.univ, .int .i64 y.addr] T)).heap[W.heap.size]? = some (.cells #[.int .i64 y.num, .string y.prof, .int .i64 y.univ, .int .i64 y.addr] T (0, 0)) := heap_alloc_new W _
end Go.Proofs.Ytabalicembhjmaa
