/- What the walk of effect.read wants. (printed by wip/gen/gen_eread.py) -/
import Derived.Test.YtfidbdegggalmaaGreatDoorT66M23
import Derived.Test.YtfidbdegggalmaaGreatDoorT66M11
import Derived.Deep.QuietTactic
import Derived.BigQuiet
import Derived.Deep.DeepCutAuto

namespace Go.Proofs.YtfidbdegggalmaaGreatDoor
open Go.RowKit
set_option linter.unusedVariables false
set_option linter.unusedSimpArgs false

def snd1 : Code → Code
  | .seq _ b => b
  | c => c
def fst1 : Code → Code
  | .seq a _ => a
  | c => c
def bodyOf (f : Func) : Code := f.body.getD .skip
theorem rdPost_none {RES : Option Eff} {w w' : World} {v : Value} (h : RES = none) (hv : EffSh v) (hb : Below w.heap.size w w') : RdPost RES w (.returned (.tuple #[v, .bool false])) w' := by rw [h]; exact ⟨hb, v, hv, rfl⟩
theorem rdPost_some {RES : Option Eff} {w w' : World} {E : Eff} {sv : Value} (h : RES = some E) (hv : StS w'.heap.size w' sv E.steps) (hf : FreshS w.heap.size sv) (hb : Below w.heap.size w w') : RdPost RES w (.returned (.tuple #[effV E sv, .bool true])) w' := by rw [h]; exact ⟨hb, sv, rfl, hv, hf⟩
theorem bel_dN {B : Nat} {w W : World} (h : Below B w W) (n : Nat) : Below B w (W.drewN n) := ⟨h.os, h.tape, h.output, h.size, h.block⟩
theorem prsE_form {f : ByteArray} {R0 : List ByteArray} (h : fmI f 7 = 0) : prsE (f :: R0) = none := by
  rcases R0 with _ | ⟨a, _ | ⟨l, _ | ⟨b, _ | ⟨g, R⟩⟩⟩⟩
  all_goals first | rfl | simp [prsE, h]
theorem prsE_short {f : ByteArray} {R0 : List ByteArray} (h : R0.length < 4) : prsE (f :: R0) = none := by
  rcases R0 with _ | ⟨a, _ | ⟨l, _ | ⟨b, _ | ⟨g, R⟩⟩⟩⟩
  all_goals first | rfl | (simp at h; omega)
/-- what a failing way leaves -/
def FailC (w : World) (RES : Option Eff) (wx : World) : Prop := RES = none ∧ ∃ (u0 u1 u2 u3 u4 u5 : Int) (v6 v7 : Bool) (so : Option Addr) (sl sc : Nat), TBox wx (w.heap.size + 1 + 1) 24 #[.int .i64 u0, .int .i64 u1, .int .i64 u2, .int .i64 u3, .int .i64 u4, .int .i64 u5, .bool v6, .bool v7, .slice so sl sc] ∧ TBox wx (w.heap.size + 1) 24 #[.int .i64 0, .int .i64 0, .int .i64 0, .int .i64 0, .int .i64 0, .int .i64 0, .bool false, .bool false, .slice none 0 0] ∧ Below w.heap.size w wx
/-- is it a spread? -/
def tS : List ByteArray → Bool
  | a :: _ :: _ => decide (a = sprB)
  | _ => false
def tB : List ByteArray → Bool
  | a :: _ => decide (a = bckB)
  | _ => false
def tR : List ByteArray → Bool
  | a :: _ => decide (a = relB)
  | _ => false
theorem tS_yes {R : List ByteArray} (h : tS R = true) : ∃ b R3, R = sprB :: b :: R3 := by
  rcases R with _ | ⟨a, _ | ⟨b, R⟩⟩
  · cases h
  · cases h
  · exact ⟨b, R, by rw [of_decide_eq_true h]⟩
theorem tB_yes {R : List ByteArray} (h : tB R = true) : ∃ R3, R = bckB :: R3 := by
  rcases R with _ | ⟨a, R⟩
  · cases h
  · exact ⟨R, by rw [of_decide_eq_true h]⟩
theorem tR_yes {R : List ByteArray} (h : tR R = true) : ∃ R3, R = relB :: R3 := by
  rcases R with _ | ⟨a, R⟩
  · cases h
  · exact ⟨R, by rw [of_decide_eq_true h]⟩
theorem prsS_no {form lo hi c wd : Int} {R : List ByteArray} (h : tS R = false) : prsS form lo hi c wd R = prsB form lo hi c wd 0 R := by
  rcases R with _ | ⟨a, _ | ⟨b, R⟩⟩
  · rfl
  · rfl
  · show (if a = sprB then _ else prsB form lo hi c wd 0 (a :: b :: R)) = _
    rw [if_neg (of_decide_eq_false h)]
theorem prsB_no {form lo hi c wd sp : Int} {R : List ByteArray} (h : tB R = false) : prsB form lo hi c wd sp R = prsR form lo hi c wd sp false R := by
  rcases R with _ | ⟨a, R⟩
  · rfl
  · show (if a = bckB then _ else prsR form lo hi c wd sp false (a :: R)) = _
    rw [if_neg (of_decide_eq_false h)]
theorem prsR_no {form lo hi c wd sp : Int} {bk : Bool} {R : List ByteArray} (h : tR R = false) : prsR form lo hi c wd sp bk R = prsT form lo hi c wd sp bk false R := by
  rcases R with _ | ⟨a, R⟩
  · rfl
  · show (if a = relB then _ else prsT form lo hi c wd sp bk false (a :: R)) = _
    rw [if_neg (of_decide_eq_false h)]
theorem prsS_yes (form lo hi c wd : Int) (b : ByteArray) (R : List ByteArray) : prsS form lo hi c wd (sprB :: b :: R) = match spW b with | none => none | some n => prsB form lo hi c wd n R := by
  show (if sprB = sprB then (match spW b with | none => none | some n => prsB form lo hi c wd n R) else prsB form lo hi c wd 0 (sprB :: b :: R)) = _
  rw [if_pos rfl]
theorem prsB_yes (form lo hi c wd sp : Int) (R : List ByteArray) : prsB form lo hi c wd sp (bckB :: R) = prsR form lo hi c wd sp true R := by
  show (if bckB = bckB then prsR form lo hi c wd sp true R else prsR form lo hi c wd sp false (bckB :: R)) = _
  rw [if_pos rfl]
theorem prsR_yes (form lo hi c wd sp : Int) (bk : Bool) (R : List ByteArray) : prsR form lo hi c wd sp bk (relB :: R) = prsT form lo hi c wd sp bk true R := by
  show (if relB = relB then prsT form lo hi c wd sp bk true R else prsT form lo hi c wd sp bk false (relB :: R)) = _
  rw [if_pos rfl]
theorem spW_eq (b : ByteArray) : spW b = match nbW (dshT b) with | none => none | some n => if n = 0 then none else some (if dshB b then -n else n) := rfl
def badN : Option Int → Bool
  | none => true
  | some n => decide (n = 0)
theorem badN_yes {nb x : Option Int} {f : Int → Int} (hx : x = match nb with | none => none | some n => if n = 0 then none else some (f n)) (h : badN nb = true) : x = none := by
  rw [hx]
  cases nb with
  | none => rfl
  | some n => exact if_pos (of_decide_eq_true h)
theorem badN_no {nb : Option Int} (h : ¬ badN nb = true) : ∃ n, nb = some n ∧ ¬ n = 0 := by
  cases nb with
  | none => exact absurd rfl h
  | some n => exact ⟨n, rfl, fun e => h (decide_eq_true e)⟩
theorem dshT_le (s : ByteArray) : (dshT s).size ≤ s.size := by
  rw [Lib.size_eq, Lib.size_eq s]
  simp only [dshT, Lib.trimPrefix]
  split <;> simp
theorem callDsh (s : ByteArray) (W : World) : Calls Tryz.prog 24 #[.string s, .string ⟨#[45]⟩] W fun e w' => e = .returned (.tuple #[.string (dshT s), .bool (dshB s)]) ∧ w' = W := Tryz.strings_CutPrefix s ⟨#[45]⟩ W
theorem TBox.grownP {base : Nat} {W W' : World} {b : Nat} {T : TypeId} {cs : Array Value} {v : Value} {l : List Stp} (h : TBox W b T cs) (ho : OwnP base W v l) (hg : W.grownBy W' v.ownBlock) (hb : b < base) : TBox W' b T cs := by
  refine (hg.block b h.lt fun e => ?_).trans h
  rcases ho.2 with h' | ⟨g, cap, cur, e1, h1, _, _⟩
  · rw [h'.1] at e; simp [Value.ownBlock] at e
  · rw [e1] at e
    simp [Value.ownBlock] at e
    omega
theorem RS.grownP {w W W' : World} {wb base : Nat} {R : List ByteArray} {cs : Array Value} {v : Value} {l : List Stp} (h : RS w wb R cs W) (hw : wb < w.heap.size) (ho : OwnP base W v l) (hbase : w.heap.size + 1 + 1 < base) (hg : W.grownBy W' v.ownBlock) : RS w wb R cs W' := by
  obtain ⟨⟨o, cap, h1, h2, h3, h4⟩, h5, h6, h7⟩ := h
  have hb : Below w.heap.size W W' := ho.keeps (Below.refl _ _) hg (by omega) h7.size
  exact ⟨⟨o, cap, h1.grownP ho hg (by omega), h2.keep hw hb, h3, h4⟩, h5.grownP ho hg (by omega), h6.grownP ho hg (by omega), h7.trans hb⟩
theorem OwnP.setLow {base b i : Nat} {w : World} {v : Value} {l : List Stp} (h : OwnP base w v l) (hb : b < base) (u : Value) : OwnP base (w.setCell ⟨b, i, none⟩ u) v l := by
  refine ⟨h.1, ?_⟩
  rcases h.2 with h' | ⟨g, cap, cur, e1, h1, h2, h3⟩
  · exact .inl h'
  · exact .inr ⟨g, cap, cur, e1, h1, TBox.setOther (T := 44) h2 (by omega) u, h3⟩
theorem OwnP.set9 {base g : Nat} {W : World} {v : Value} {l : List Stp} (h : OwnP base W v l) (hg : g < base) (u0 : Value) (u1 : Value) (u2 : Value) (u3 : Value) (u4 : Value) (u5 : Value) (u6 : Value) (u7 : Value) (u8 : Value) : OwnP base (((((((((W.setCell ⟨g, 0, none⟩ u0).setCell ⟨g, 1, none⟩ u1).setCell ⟨g, 2, none⟩ u2).setCell ⟨g, 3, none⟩ u3).setCell ⟨g, 4, none⟩ u4).setCell ⟨g, 5, none⟩ u5).setCell ⟨g, 6, none⟩ u6).setCell ⟨g, 7, none⟩ u7).setCell ⟨g, 8, none⟩ u8) v l :=
  ((((((((h.setLow hg u0).setLow hg u1).setLow hg u2).setLow hg u3).setLow hg u4).setLow hg u5).setLow hg u6).setLow hg u7).setLow hg u8
/-- what the words of a step are -/
noncomputable def stWL (L : List ByteArray) : Option Stp := match L with
  | [a, b, c] => match lvW a, nbW b, nbW c with
    | some l, some h, some f => some ⟨l, h, f⟩
    | _, _, _ => none
  | _ => none
theorem stW_eq (s : ByteArray) : stW s = stWL (wordsB 58 s) := rfl
theorem stWL_no {L : List ByteArray} (h : L.length ≠ 3) : stWL L = none := by
  rcases L with _ | ⟨a, _ | ⟨b, _ | ⟨c, _ | ⟨d, R⟩⟩⟩⟩
  all_goals first | rfl | exact absurd rfl h
theorem beqT {s : ByteArray} {l : List UInt8} (h : s.toList = l) : (s.toList == l) = true := by rw [h]; simp
theorem beqF {s t : ByteArray} (h : s ≠ t) : (s.toList == t.toList) = false := beq_eq_false_iff_ne.2 (fun e => h (ByteArray.ext (Array.toList_inj.1 (by rw [← Lib.toList_data, ← Lib.toList_data]; exact e))))
theorem beqL {s t : ByteArray} {l : List UInt8} (h : s ≠ t) (ht : t.data.toList = l) : (s.toList == l) = false := by
  rw [← ht, ← Lib.toList_data]
  exact beqF h
theorem beqM {s t : ByteArray} {l : List UInt8} (h : s = t) (ht : t.data.toList = l) : (s.toList == l) = true := by
  rw [← ht, ← Lib.toList_data, h]
  simp
end Go.Proofs.YtfidbdegggalmaaGreatDoor
