/- Books of gels in plain Lean: what is wrong with them. -/
import Derived.Test.YtpmiinamaofnnaaGel
import Derived.Test.YtpmiinamaofnnaaTitle
import Derived.Test.YtpmiinamaofnnaaColour
namespace Go.Proofs.Ytpmiinamaofnnaa
open Go.RowKit
set_option linter.unusedVariables false

/-- what is wrong with a gel behind one of this number -/
def gelF (p : Option Int) (x : Gel) : Int :=
  if ¬ (1 ≤ x.n ∧ x.n ≤ 9999) then 1 else if (p.any fun q => decide (x.n ≤ q)) = true then 7 else if titleB x.name = false then 3 else chkC x.r x.g x.b
/-- the first thing that is wrong -/
def bookF : Option Int → List Gel → Int
  | _, [] => 0
  | p, x :: t => if gelF p x = 0 then bookF (some x.n) t else gelF p x
def chkBook (l : List Gel) : Int := if 500 < l.length then 2 else bookF none l
/-- the number of the gel ahead of place k -/
def prevN (l : List Gel) : Nat → Option Int
  | 0 => none
  | k + 1 => (l[k]?).map (·.n)
theorem bookF_drop (l : List Gel) (k : Nat) (h : k < l.length) : bookF (prevN l k) (l.drop k) = if gelF (prevN l k) l[k] = 0 then bookF (prevN l (k + 1)) (l.drop (k + 1)) else gelF (prevN l k) l[k] := by
  rw [List.drop_eq_getElem_cons h]
  show (if gelF (prevN l k) l[k] = 0 then bookF (some l[k].n) (l.drop (k + 1)) else _) = _
  have : prevN l (k + 1) = some l[k].n := by
    show (l[k]?).map (·.n) = _
    rw [List.getElem?_eq_getElem h]
    rfl
  rw [this]
theorem bookF_end (l : List Gel) (p : Option Int) : bookF p (l.drop l.length) = 0 := by
  rw [List.drop_length]; rfl
/-- a right gel -/
structure GelOk (x : Gel) : Prop where
  num : 1 ≤ x.n ∧ x.n ≤ 9999
  name : TitleOk x.name
  col : chkC x.r x.g x.b = 0
theorem gelF_ok {p : Option Int} {x : Gel} (h : gelF p x = 0) : GelOk x ∧ (p.any fun q => decide (x.n ≤ q)) = false := by
  unfold gelF at h
  split at h
  · cases h
  · rename_i h1
    split at h
    · cases h
    · rename_i h2
      split at h
      · cases h
      · rename_i h3
        refine ⟨⟨Classical.not_not.1 h1, ?_, h⟩, by simpa using h2⟩
        unfold titleB at h3
        simpa using h3
theorem gelF_zero {p : Option Int} {x : Gel} (h : GelOk x) (hp : (p.any fun q => decide (x.n ≤ q)) = false) : gelF p x = 0 := by
  unfold gelF
  rw [if_neg (by simp [h.num.1, h.num.2]), if_neg (by rw [hp]; decide), if_neg (by rw [title_yes h.name]; decide)]
  exact h.col
theorem bookF_ok : ∀ {l : List Gel} {p : Option Int}, bookF p l = 0 → ∀ x ∈ l, GelOk x := by
  intro l
  induction l with
  | nil => intro p _ x hx; simp at hx
  | cons a t ih =>
    intro p h x hx
    unfold bookF at h
    split at h
    · rename_i h0
      rcases List.mem_cons.1 hx with rfl | hx
      · exact (gelF_ok h0).1
      · exact ih h x hx
    · rename_i h0
      exact absurd h h0
theorem chkBook_ok {l : List Gel} (h : chkBook l = 0) : l.length ≤ 500 ∧ (∀ x ∈ l, GelOk x) := by
  unfold chkBook at h
  split at h
  · cases h
  · exact ⟨by omega, bookF_ok h⟩
end Go.Proofs.Ytpmiinamaofnnaa
