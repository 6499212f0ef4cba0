/- Books of gels in plain Lean: what is wrong with them. Hex digits in plain Lean: which bytes they are, what they are worth. -/
import Derived.Test.YtljgpiaihahneaaGreatDoorT65M02
import Derived.Test.YtljgpiaihahneaaGreatDoorT65M08
import Derived.Test.YtljgpiaihahneaaGreatDoorT65M09

namespace Go.Proofs.YtljgpiaihahneaaGreatDoor
open Go.RowKit
set_option linter.unusedVariables false

/-- what is wrong with a gel behind one of this number -/
def gelF (p : Option Int) (x : Gel) : Int :=
  if ¬ (1 ≤ x.n ∧ x.n ≤ 9999) then 1 else if (p.any fun q => decide (x.n ≤ q)) = true then 7 else if titleB x.name = false then 3 else chkC x.r x.g x.b
/-- the first thing that is wrong -/
def bookF : Option Int → List Gel → Int
  | _, [] => 0
  | p, x :: t => if gelF p x = 0 then bookF (some x.n) t else gelF p x
def chkBook (l : List Gel) : Int := if 500 < l.length then 2 else bookF none l
/-- the number of the gel ahead of place k -/
def prevN (l : List Gel) : Nat → Option Int
  | 0 => none
  | k + 1 => (l[k]?).map (·.n)
theorem bookF_drop (l : List Gel) (k : Nat) (h : k < l.length) : bookF (prevN l k) (l.drop k) = if gelF (prevN l k) l[k] = 0 then bookF (prevN l (k + 1)) (l.drop (k + 1)) else gelF (prevN l k) l[k] := by
  rw [List.drop_eq_getElem_cons h]
  show (if gelF (prevN l k) l[k] = 0 then bookF (some l[k].n) (l.drop (k + 1)) else _) = _
  have : prevN l (k + 1) = some l[k].n := by
    show (l[k]?).map (·.n) = _
    rw [List.getElem?_eq_getElem h]
    rfl
  rw [this]
theorem bookF_end (l : List Gel) (p : Option Int) : bookF p (l.drop l.length) = 0 := by
  rw [List.drop_length]; rfl
/-- a right gel -/
structure GelOk (x : Gel) : Prop where
  num : 1 ≤ x.n ∧ x.n ≤ 9999
  name : TitleOk x.name
  col : chkC x.r x.g x.b = 0
theorem gelF_ok {p : Option Int} {x : Gel} (h : gelF p x = 0) : GelOk x ∧ (p.any fun q => decide (x.n ≤ q)) = false := by
  unfold gelF at h
  split at h
  · cases h
  · rename_i h1
    split at h
    · cases h
    · rename_i h2
      split at h
      · cases h
      · rename_i h3
        refine ⟨⟨Classical.not_not.1 h1, ?_, h⟩, by simpa using h2⟩
        unfold titleB at h3
        simpa using h3
theorem gelF_zero {p : Option Int} {x : Gel} (h : GelOk x) (hp : (p.any fun q => decide (x.n ≤ q)) = false) : gelF p x = 0 := by
  unfold gelF
  rw [if_neg (by simp [h.num.1, h.num.2]), if_neg (by rw [hp]; decide), if_neg (by rw [title_yes h.name]; decide)]
  exact h.col
theorem bookF_ok : ∀ {l : List Gel} {p : Option Int}, bookF p l = 0 → ∀ x ∈ l, GelOk x := by
  intro l
  induction l with
  | nil => intro p _ x hx; simp at hx
  | cons a t ih =>
    intro p h x hx
    unfold bookF at h
    split at h
    · rename_i h0
      rcases List.mem_cons.1 hx with rfl | hx
      · exact (gelF_ok h0).1
      · exact ih h x hx
    · rename_i h0
      exact absurd h h0
theorem chkBook_ok {l : List Gel} (h : chkBook l = 0) : l.length ≤ 500 ∧ (∀ x ∈ l, GelOk x) := by
  unfold chkBook at h
  split at h
  · cases h
  · exact ⟨by omega, bookF_ok h⟩
end Go.Proofs.YtljgpiaihahneaaGreatDoor

namespace Go.Proofs.YtljgpiaihahneaaGreatDoor
open Go.Lib
set_option linter.unusedVariables false

def hexs : List UInt8 := [48, 49, 50, 51, 52, 53, 54, 55, 56, 57, 97, 98, 99, 100, 101, 102, 65, 66, 67, 68, 69, 70]
def IsHex (c : UInt8) : Prop := (48 ≤ c.toNat ∧ c.toNat ≤ 57) ∨ (97 ≤ c.toNat ∧ c.toNat ≤ 102) ∨ (65 ≤ c.toNat ∧ c.toNat ≤ 70)
instance (c : UInt8) : Decidable (IsHex c) := by unfold IsHex; infer_instance
/-- what a hex digit is worth -/
def hexV (c : UInt8) : Nat := if c.toNat ≤ 57 then c.toNat - 48 else if c.toNat ≤ 70 then c.toNat - 55 else c.toNat - 87
theorem hexV_lt {c : UInt8} (h : IsHex c) : hexV c < 16 := by
  unfold IsHex at h
  unfold hexV
  split
  · omega
  · split <;> omega
theorem hexs_iff (c : UInt8) : hexs.contains c = true ↔ IsHex c := by
  unfold IsHex
  rw [List.contains_iff_mem]
  constructor
  · intro h
    simp only [hexs, List.mem_cons, List.not_mem_nil, or_false] at h
    rcases h with rfl | rfl | rfl | rfl | rfl | rfl | rfl | rfl | rfl | rfl | rfl | rfl | rfl | rfl | rfl | rfl | rfl | rfl | rfl | rfl | rfl | rfl <;> decide
  · intro hx
    have e : c = UInt8.ofNat c.toNat := by simp
    have : c.toNat = 48 ∨ c.toNat = 49 ∨ c.toNat = 50 ∨ c.toNat = 51 ∨ c.toNat = 52 ∨ c.toNat = 53 ∨ c.toNat = 54 ∨ c.toNat = 55 ∨ c.toNat = 56 ∨ c.toNat = 57 ∨ c.toNat = 97 ∨ c.toNat = 98 ∨ c.toNat = 99 ∨ c.toNat = 100 ∨ c.toNat = 101 ∨ c.toNat = 102 ∨ c.toNat = 65 ∨ c.toNat = 66 ∨ c.toNat = 67 ∨ c.toNat = 68 ∨ c.toNat = 69 ∨ c.toNat = 70 := by omega
    rcases this with h | h | h | h | h | h | h | h | h | h | h | h | h | h | h | h | h | h | h | h | h | h <;> rw [e, h] <;> decide
def AllHex (s : ByteArray) : Prop := ∀ i (h : i < s.size), IsHex s[i]
instance (s : ByteArray) : Decidable (AllHex s) := by unfold AllHex; infer_instance
theorem allHex_cut {s : ByteArray} (h : AllHex s) (k : Nat) : AllHex (s.extract 0 k) := by
  intro i hi
  have : (s.extract 0 k)[i] = s[i]'(by simp at hi; omega) := by simp [ByteArray.getElem_extract]
  rw [this]
  exact h i _
theorem allHex_iff_cut {s : ByteArray} (h0 : 0 < s.size) (hd : IsHex s[s.size - 1]) : AllHex (s.extract 0 (s.size - 1)) ↔ AllHex s := by
  constructor
  · intro h i hi
    by_cases he : i = s.size - 1
    · subst he; exact hd
    · have hi' : i < (s.extract 0 (s.size - 1)).size := by simp; omega
      have := h i hi'
      rwa [show (s.extract 0 (s.size - 1))[i] = s[i] by simp [ByteArray.getElem_extract]] at this
  · intro h; exact allHex_cut h _
theorem allHex_iff_tail {s : ByteArray} (h0 : 0 < s.size) (hd : IsHex s[0]) : AllHex (s.extract 1 s.size) ↔ AllHex s := by
  constructor
  · intro h i hi
    by_cases he : i = 0
    · subst he; exact hd
    · have hi' : i - 1 < (s.extract 1 s.size).size := by simp; omega
      have := h (i - 1) hi'
      rwa [show (s.extract 1 s.size)[i - 1] = s[i] by simp [ByteArray.getElem_extract, show 1 + (i - 1) = i by omega]] at this
  · intro h i hi
    have hi' : i + 1 < s.size := by simp at hi; omega
    rw [show (s.extract 1 s.size)[i] = s[1 + i]'(by omega) by simp [ByteArray.getElem_extract]]
    exact h _ _
end Go.Proofs.YtljgpiaihahneaaGreatDoor
