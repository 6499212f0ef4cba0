/- A text cut at the first mark, seen as lists of bytes: plain Lean. -/
import Derived.Test.YtljgpiaihahneaaGreatDoorT65M24
import Derived.Lib.IndexLaws

namespace Go.Proofs.YtljgpiaihahneaaGreatDoor
open Go.Lib

theorem bytes_eq' {s t : ByteArray} (h : s.data.toList = t.data.toList) : s = t := by
  apply ByteArray.ext
  exact Array.toList_inj.1 h
theorem ext_list (s : ByteArray) (a b : Nat) : (s.extract a b).data.toList = (s.data.toList.drop a).take (b - a) := by
  rw [← toList_data]; exact extract_toList s a b
theorem index_at {l1 l2 : List UInt8} {c : UInt8} : (∀ x ∈ l1, x ≠ c) → indexByte (l1 ++ c :: l2) c = l1.length := by
  induction l1 with
  | nil => intro _; simp [indexByte]
  | cons a t ih =>
    intro h
    have h1 : (a == c) = false := beq_eq_false_iff_ne.2 (h a (by simp))
    have h2 := ih (fun x hx => h x (by simp [hx]))
    rw [List.cons_append, indexByte, h1, h2]
    have : (((t.length : Nat) : Int) == -1) = false := by rw [beq_eq_false_iff_ne]; omega
    rw [this]
    simp
theorem index_out {l : List UInt8} {c : UInt8} : (∀ x ∈ l, x ≠ c) → indexByte l c = -1 := by
  induction l with
  | nil => intro _; rfl
  | cons a t ih =>
    intro h
    have h1 : (a == c) = false := beq_eq_false_iff_ne.2 (h a (by simp))
    rw [indexByte, h1, ih (fun x hx => h x (by simp [hx]))]
    rfl
theorem cut_at {s : ByteArray} {l1 l2 : List UInt8} {c : UInt8} (e : s.data.toList = l1 ++ c :: l2) (h : ∀ x ∈ l1, x ≠ c) :
    cutI s c = l1.length ∧ (cutA s c).data.toList = l1 ∧ (cutB s c).data.toList = l2 := by
  have hi : cutI s c = l1.length := by unfold cutI; rw [e]; exact index_at h
  have hs : s.size = l1.length + (l2.length + 1) := by rw [size_eq, e]; simp
  refine ⟨hi, ?_, ?_⟩
  · unfold cutA
    rw [hi, if_pos (by omega), ext_list, e]
    simp
  · unfold cutB
    rw [hi, if_pos (by omega), ext_list, e]
    have hk : ((l1.length : Nat) : Int).toNat + 1 = (l1 ++ [c]).length := by simp
    rw [hk, hs, show (l1 ++ c :: l2) = (l1 ++ [c]) ++ l2 by simp, List.drop_left]
    exact List.take_of_length_le (by simp; omega)
theorem cut_out {s : ByteArray} {c : UInt8} (h : ∀ x ∈ s.data.toList, x ≠ c) : cutI s c = -1 ∧ cutA s c = s ∧ cutB s c = ⟨#[]⟩ := by
  have hi : cutI s c = -1 := by unfold cutI; exact index_out h
  refine ⟨hi, ?_, ?_⟩
  · unfold cutA; rw [hi, if_neg (by omega)]
  · unfold cutB; rw [hi, if_neg (by omega)]
theorem split_at : ∀ (l : List UInt8) (c : UInt8), (∀ x ∈ l, x ≠ c) ∨ ∃ l1 l2, l = l1 ++ c :: l2 ∧ ∀ x ∈ l1, x ≠ c
  | [], _ => .inl (by simp)
  | a :: t, c => by
    by_cases h : a = c
    · exact .inr ⟨[], t, by rw [h]; rfl, by simp⟩
    · rcases split_at t c with h1 | ⟨l1, l2, e, h1⟩
      · left
        intro x hx
        rcases List.mem_cons.1 hx with rfl | hx
        · exact h
        · exact h1 x hx
      · right
        refine ⟨a :: l1, l2, by rw [e]; rfl, ?_⟩
        intro x hx
        rcases List.mem_cons.1 hx with rfl | hx
        · exact h
        · exact h1 x hx
theorem cut_back {s : ByteArray} {c : UInt8} (h : 0 ≤ cutI s c) : s.data.toList = (cutA s c).data.toList ++ c :: (cutB s c).data.toList ∧ ∀ x ∈ (cutA s c).data.toList, x ≠ c := by
  rcases split_at s.data.toList c with h1 | ⟨l1, l2, e, h1⟩
  · have := (cut_out h1).1
    omega
  · obtain ⟨_, h2, h3⟩ := cut_at e h1
    rw [h2, h3]
    exact ⟨e, h1⟩
theorem cut_back' {s : ByteArray} {c : UInt8} (h : ¬ 0 ≤ cutI s c) : (∀ x ∈ s.data.toList, x ≠ c) ∧ cutA s c = s := by
  rcases split_at s.data.toList c with h1 | ⟨l1, l2, e, h1⟩
  · exact ⟨h1, (cut_out h1).2.1⟩
  · have := (cut_at e h1).1
    omega
end Go.Proofs.YtljgpiaihahneaaGreatDoor
