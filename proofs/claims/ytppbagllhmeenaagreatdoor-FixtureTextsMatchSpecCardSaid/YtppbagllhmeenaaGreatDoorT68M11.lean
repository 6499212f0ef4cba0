/- A text cut at the first mark, seen as lists of bytes: plain Lean. A text split at one mark: plain Lean, and strings.Split. -/
import Derived.Test.YtppbagllhmeenaaGreatDoorT68M06
import Derived.Lib.IndexLaws
import Derived.Lib.SplitLaws

namespace Go.Proofs.YtppbagllhmeenaaGreatDoor
open Go.Lib

theorem bytes_eq' {s t : ByteArray} (h : s.data.toList = t.data.toList) : s = t := by
  apply ByteArray.ext
  exact Array.toList_inj.1 h
theorem ext_list (s : ByteArray) (a b : Nat) : (s.extract a b).data.toList = (s.data.toList.drop a).take (b - a) := by
  rw [← toList_data]; exact extract_toList s a b
theorem index_at {l1 l2 : List UInt8} {c : UInt8} : (∀ x ∈ l1, x ≠ c) → indexByte (l1 ++ c :: l2) c = l1.length := by
  induction l1 with
  | nil => intro _; simp [indexByte]
  | cons a t ih =>
    intro h
    have h1 : (a == c) = false := beq_eq_false_iff_ne.2 (h a (by simp))
    have h2 := ih (fun x hx => h x (by simp [hx]))
    rw [List.cons_append, indexByte, h1, h2]
    have : (((t.length : Nat) : Int) == -1) = false := by rw [beq_eq_false_iff_ne]; omega
    rw [this]
    simp
theorem index_out {l : List UInt8} {c : UInt8} : (∀ x ∈ l, x ≠ c) → indexByte l c = -1 := by
  induction l with
  | nil => intro _; rfl
  | cons a t ih =>
    intro h
    have h1 : (a == c) = false := beq_eq_false_iff_ne.2 (h a (by simp))
    rw [indexByte, h1, ih (fun x hx => h x (by simp [hx]))]
    rfl
theorem cut_at {s : ByteArray} {l1 l2 : List UInt8} {c : UInt8} (e : s.data.toList = l1 ++ c :: l2) (h : ∀ x ∈ l1, x ≠ c) :
    cutI s c = l1.length ∧ (cutA s c).data.toList = l1 ∧ (cutB s c).data.toList = l2 := by
  have hi : cutI s c = l1.length := by unfold cutI; rw [e]; exact index_at h
  have hs : s.size = l1.length + (l2.length + 1) := by rw [size_eq, e]; simp
  refine ⟨hi, ?_, ?_⟩
  · unfold cutA
    rw [hi, if_pos (by omega), ext_list, e]
    simp
  · unfold cutB
    rw [hi, if_pos (by omega), ext_list, e]
    have hk : ((l1.length : Nat) : Int).toNat + 1 = (l1 ++ [c]).length := by simp
    rw [hk, hs, show (l1 ++ c :: l2) = (l1 ++ [c]) ++ l2 by simp, List.drop_left]
    exact List.take_of_length_le (by simp; omega)
theorem cut_out {s : ByteArray} {c : UInt8} (h : ∀ x ∈ s.data.toList, x ≠ c) : cutI s c = -1 ∧ cutA s c = s ∧ cutB s c = ⟨#[]⟩ := by
  have hi : cutI s c = -1 := by unfold cutI; exact index_out h
  refine ⟨hi, ?_, ?_⟩
  · unfold cutA; rw [hi, if_neg (by omega)]
  · unfold cutB; rw [hi, if_neg (by omega)]
theorem split_at : ∀ (l : List UInt8) (c : UInt8), (∀ x ∈ l, x ≠ c) ∨ ∃ l1 l2, l = l1 ++ c :: l2 ∧ ∀ x ∈ l1, x ≠ c
  | [], _ => .inl (by simp)
  | a :: t, c => by
    by_cases h : a = c
    · exact .inr ⟨[], t, by rw [h]; rfl, by simp⟩
    · rcases split_at t c with h1 | ⟨l1, l2, e, h1⟩
      · left
        intro x hx
        rcases List.mem_cons.1 hx with rfl | hx
        · exact h
        · exact h1 x hx
      · right
        refine ⟨a :: l1, l2, by rw [e]; rfl, ?_⟩
        intro x hx
        rcases List.mem_cons.1 hx with rfl | hx
        · exact h
        · exact h1 x hx
theorem cut_back {s : ByteArray} {c : UInt8} (h : 0 ≤ cutI s c) : s.data.toList = (cutA s c).data.toList ++ c :: (cutB s c).data.toList ∧ ∀ x ∈ (cutA s c).data.toList, x ≠ c := by
  rcases split_at s.data.toList c with h1 | ⟨l1, l2, e, h1⟩
  · have := (cut_out h1).1
    omega
  · obtain ⟨_, h2, h3⟩ := cut_at e h1
    rw [h2, h3]
    exact ⟨e, h1⟩
theorem cut_back' {s : ByteArray} {c : UInt8} (h : ¬ 0 ≤ cutI s c) : (∀ x ∈ s.data.toList, x ≠ c) ∧ cutA s c = s := by
  rcases split_at s.data.toList c with h1 | ⟨l1, l2, e, h1⟩
  · exact ⟨h1, (cut_out h1).2.1⟩
  · have := (cut_at e h1).1
    omega
end Go.Proofs.YtppbagllhmeenaaGreatDoor

namespace Go.Proofs.YtppbagllhmeenaaGreatDoor
open Go.Lib

/-- the pieces of a row of bytes -/
def spl (c : UInt8) : List UInt8 → List (List UInt8)
  | [] => [[]]
  | x :: t => if x = c then [] :: spl c t else (x :: (spl c t).headD []) :: (spl c t).tail
/-- pieces put together again -/
def joinW (c : UInt8) : List (List UInt8) → List UInt8
  | [] => []
  | [w] => w
  | w :: v :: r => w ++ c :: joinW c (v :: r)
theorem spl_ne (c : UInt8) (l : List UInt8) : spl c l ≠ [] := by
  cases l with
  | nil => simp [spl]
  | cons x t => unfold spl; split <;> simp
theorem spl_cons (c x : UInt8) (t : List UInt8) : spl c (x :: t) = if x = c then [] :: spl c t else (x :: (spl c t).headD []) :: (spl c t).tail := rfl
theorem spl_out {c : UInt8} : ∀ {l : List UInt8}, (∀ x ∈ l, x ≠ c) → spl c l = [l]
  | [], _ => rfl
  | x :: t, h => by
    unfold spl
    rw [if_neg (h x (by simp)), spl_out (fun y hy => h y (by simp [hy]))]
    rfl
theorem spl_at {c : UInt8} : ∀ {l1 l2 : List UInt8}, (∀ x ∈ l1, x ≠ c) → spl c (l1 ++ c :: l2) = l1 :: spl c l2
  | [], _, _ => by simp [spl]
  | x :: t, l2, h => by
    rw [List.cons_append, spl_cons, if_neg (h x (by simp)), spl_at (fun y hy => h y (by simp [hy]))]
    rfl
theorem join_spl (c : UInt8) : ∀ (k : Nat) (l : List UInt8), l.length ≤ k → joinW c (spl c l) = l := by
  intro k
  induction k with
  | zero =>
    intro l h
    obtain rfl : l = [] := List.length_eq_zero_iff.1 (by omega)
    rfl
  | succ k ih =>
    intro l h
    rcases split_at l c with h1 | ⟨l1, l2, rfl, h1⟩
    · rw [spl_out h1]; rfl
    · rw [spl_at h1]
      have h2 := ih l2 (by simp at h; omega)
      have h3 := spl_ne c l2
      cases h4 : spl c l2 with
      | nil => exact absurd h4 h3
      | cons w r =>
        rw [h4] at h2
        show l1 ++ c :: joinW c (w :: r) = _
        rw [h2]
theorem spl_join (c : UInt8) : ∀ (ws : List (List UInt8)), ws ≠ [] → (∀ w ∈ ws, ∀ x ∈ w, x ≠ c) → spl c (joinW c ws) = ws
  | [], h, _ => absurd rfl h
  | [w], _, h => by
    show spl c w = [w]
    exact spl_out (h w (by simp))
  | w :: v :: r, _, h => by
    show spl c (w ++ c :: joinW c (v :: r)) = _
    rw [spl_at (h w (by simp)), spl_join c (v :: r) (by simp) (fun u hu => h u (by simp [hu]))]
theorem spl_mem (c : UInt8) (l : List UInt8) : ∀ w ∈ spl c l, ∀ x ∈ w, x ≠ c := by
  have key : ∀ (k : Nat) (l : List UInt8), l.length ≤ k → ∀ w ∈ spl c l, ∀ x ∈ w, x ≠ c := by
    intro k
    induction k with
    | zero =>
      intro l h
      obtain rfl : l = [] := List.length_eq_zero_iff.1 (by omega)
      simp [spl]
    | succ k ih =>
      intro l h
      rcases split_at l c with h1 | ⟨l1, l2, rfl, h1⟩
      · rw [spl_out h1]; simpa using h1
      · rw [spl_at h1]
        intro w hw
        rcases List.mem_cons.1 hw with rfl | hw
        · exact h1
        · exact ih l2 (by simp at h; omega) w hw
  exact key _ l (Nat.le_refl _)

/-- the pieces of a text -/
def wordsB (c : UInt8) (s : ByteArray) : List ByteArray := splitB ⟨#[c]⟩ 0 (countB s ⟨#[c]⟩) s
theorem indexB_one (s : ByteArray) (c : UInt8) : indexB s ⟨#[c]⟩ = indexByte s.data.toList c := by
  unfold indexB
  exact index_one _ _
theorem wordsB_list (c : UInt8) : ∀ (k : Nat) (s : ByteArray), s.size ≤ k → (wordsB c s).map (·.data.toList) = spl c s.data.toList := by
  intro k
  induction k with
  | zero =>
    intro s h
    have h0 : s.data.toList = [] := List.length_eq_zero_iff.1 (by rw [← size_eq]; omega)
    unfold wordsB
    have hm : indexB s ⟨#[c]⟩ = -1 := by rw [indexB_one, h0]; rfl
    rw [splitB_miss _ _ _ _ hm, h0]
    simp [h0, spl]
  | succ k ih =>
    intro s h
    rcases split_at s.data.toList c with h1 | ⟨l1, l2, e, h1⟩
    · have hm : indexB s ⟨#[c]⟩ = -1 := by rw [indexB_one]; exact index_out h1
      unfold wordsB
      rw [splitB_miss _ _ _ _ hm, spl_out h1]
      rfl
    · have hi : indexB s ⟨#[c]⟩ = (l1.length : Nat) := by rw [indexB_one, e]; exact index_at h1
      have hsz : s.size = l1.length + (l2.length + 1) := by rw [size_eq, e]; simp
      have hone : (⟨#[c]⟩ : ByteArray).size = 1 := rfl
      have hrest : (s.extract (l1.length + 1) s.size).data.toList = l2 := by
        rw [ext_list, e, show (l1 ++ c :: l2) = (l1 ++ [c]) ++ l2 by simp, show l1.length + 1 = (l1 ++ [c]).length by simp, List.drop_left]
        exact List.take_of_length_le (by rw [hsz]; simp; omega)
      have hfirst : (s.extract 0 (l1.length + 0)).data.toList = l1 := by
        rw [ext_list, e]; simp
      unfold wordsB
      rw [countB_hit s ⟨#[c]⟩ l1.length (by rw [hone]; exact Nat.le_refl _) hi, hone, Nat.add_comm 1, splitB_hit _ _ _ _ _ hi, hone]
      rw [List.map_cons, hfirst, e, spl_at h1]
      have := ih (s.extract (l1.length + 1) s.size) (by simp; omega)
      unfold wordsB at this
      rw [this, hrest]
theorem wordsB_spl (c : UInt8) (s : ByteArray) : (wordsB c s).map (·.data.toList) = spl c s.data.toList := wordsB_list c _ s (Nat.le_refl _)
theorem wordsB_len (c : UInt8) (s : ByteArray) : (wordsB c s).length = countB s ⟨#[c]⟩ + 1 := splitB_all ⟨#[c]⟩ (Nat.le_refl 1) 0 _ s rfl
theorem wordsB_le (c : UInt8) (s : ByteArray) : (wordsB c s).length ≤ s.size + 1 := by
  rw [wordsB_len]
  have := countB_le ⟨#[c]⟩ (Nat.le_refl 1) _ s (Nat.le_refl _)
  omega
theorem wordsB_pos (c : UInt8) (s : ByteArray) : 0 < (wordsB c s).length := by rw [wordsB_len]; omega
theorem wordsB_size (c : UInt8) (s : ByteArray) : ∀ x ∈ wordsB c s, x.size ≤ s.size := by
  intro x hx
  have h1 : x.data.toList ∈ spl c s.data.toList := by rw [← wordsB_spl]; exact List.mem_map_of_mem hx
  have key : ∀ (k : Nat) (l : List UInt8), l.length ≤ k → ∀ w ∈ spl c l, w.length ≤ l.length := by
    intro k
    induction k with
    | zero =>
      intro l h
      obtain rfl : l = [] := List.length_eq_zero_iff.1 (by omega)
      simp [spl]
    | succ k ih =>
      intro l h
      rcases split_at l c with h1 | ⟨l1, l2, rfl, h1⟩
      · rw [spl_out h1]; simp
      · rw [spl_at h1]
        intro w hw
        rcases List.mem_cons.1 hw with rfl | hw
        · simp
        · have := ih l2 (by simp at h; omega) w hw
          simp; omega
  rw [size_eq, size_eq s]
  exact key _ _ (Nat.le_refl _) _ h1

open Go.RowKit
/-- a row of strings in memory -/
def RowS (w : World) (b off : Nat) (l : List ByteArray) : Prop := ∀ j (h : j < l.length), w.cell? ⟨b, off + j, none⟩ = some (.string l[j])
theorem RowS.below {w W : World} {b off : Nat} {l : List ByteArray} (h : RowS w b off l) (hb : b < w.heap.size) (hB : Below w.heap.size w W) : RowS W b off l := fun j hj => (hB.cell hb).trans (h j hj)
theorem RowS.keep {w W : World} {b off : Nat} {l : List ByteArray} (h : RowS w b off l) {B : Nat} (hb : b < B) (hB : Below B w W) : RowS W b off l := fun j hj => (hB.cell hb).trans (h j hj)

/-- what strings.Split hands back -/
def SplitPost (w : World) (L : List ByteArray) (e : Ending) (w' : World) : Prop :=
  e = .returned (.slice (some ⟨w.heap.size, 0, none⟩) L.length L.length) ∧ RowS w' w.heap.size 0 L ∧ Below w.heap.size w w' ∧ w.heap.size < w'.heap.size
theorem split_any (c : UInt8) (s : ByteArray) (w : World) (hT : TextW w) (hs : s.size < 4294967281) :
    Calls Tryz.prog 19 #[.string s, .string ⟨#[c]⟩] w (SplitPost w (wordsB c s)) := by
  obtain ⟨m, hm⟩ := hT.len
  refine (Tryz.strings_Split s ⟨#[c]⟩ m w hs hm (Nat.le_refl 1)).mono ?_
  rintro e w' ⟨rfl, rfl⟩
  refine ⟨by rw [wordsB_len], ?_, (Below.refl _ _).alloc (Nat.le_refl _) _, by simp⟩
  intro j hj
  have := World.cell?_alloc_new w ((wordsB c s).map Value.string).toArray 9 j
  rw [show ((splitB ⟨#[c]⟩ 0 (countB s ⟨#[c]⟩) s).map Value.string) = (wordsB c s).map Value.string from rfl, Nat.zero_add, this]
  simp [hj]
end Go.Proofs.YtppbagllhmeenaaGreatDoor
