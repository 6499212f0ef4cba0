/- The text of a book. No walk in it but Itoa's. (printed by wip/gen/gen_book.py) -/
import Derived.Test.YtljgpiaihahneaaDoorBookPlain
import Derived.Test.YtljgpiaihahneaaDoorColTextPlain
import Derived.Test.YtljgpiaihahneaaDoorText
import Derived.Lib.ItoaLen
namespace Go.Proofs.YtljgpiaihahneaaDoor
open Go.RowKit
set_option linter.unusedVariables false
set_option linter.unusedSimpArgs false

/-- the numeral of a number -/
def itT (n : Int) : ByteArray := ⟨(Lib.itoa n).toArray⟩
theorem itT_le (n : Int) (h0 : -9223372036854775808 ≤ n) (h1 : n ≤ 9223372036854775807) : (itT n).size ≤ 21 := by
  have := Lib.itoa_length_le n h0 h1
  unfold itT
  rw [Lib.size_eq]
  simpa using this
theorem itoa_int (n : Int) (w : World) (h0 : -9223372036854775808 ≤ n) (h1 : n ≤ 9223372036854775807) (hT : TextW w) :
    Calls Tryd.prog 24 #[.int .i64 n] w fun e w' => e = .returned (.string (itT n)) ∧ Below w.heap.size w w' := by
  refine (Tryd.strconv_Itoa n h0 h1 w hT.pow).mono ?_
  rintro e w' ⟨rfl, k, os, rfl⟩
  exact ⟨rfl, Lib.below_grow _ w (Nat.le_refl _) k os⟩
theorem colT_le (r g b : Nat) : (colT r g b).size ≤ 13 := by
  unfold colT
  split
  · exact (by decide : 7 ≤ 13)
  · exact (by decide : 13 ≤ 13)
theorem colS_le (r g b : Int) : (colS r g b).size ≤ 13 := by
  unfold colS
  split
  · exact colT_le _ _ _
  · exact Nat.zero_le _
/-- a line of a book -/
def lineB (x : Gel) : ByteArray := ((((itT x.n ++ (⟨#[32]⟩ : ByteArray)) ++ colS x.r x.g x.b) ++ (⟨#[32]⟩ : ByteArray)) ++ x.name) ++ (⟨#[10]⟩ : ByteArray)
def bookB (l : List Gel) : ByteArray := l.foldl (fun s u => s ++ lineB u) ⟨#[]⟩
theorem bookB_take (l : List Gel) (k : Nat) (h : k < l.length) : bookB (l.take (k + 1)) = bookB (l.take k) ++ lineB l[k] := by
  unfold bookB
  rw [List.take_succ_eq_append_getElem h, List.foldl_append]
  rfl
theorem lineB_le (x : Gel) (h1 : I64 x.n) (h2 : x.name.size ≤ 60) : (lineB x).size ≤ 100 := by
  have a1 := itT_le x.n h1.1 h1.2
  have a2 := colS_le x.r x.g x.b
  have e1 : (⟨#[32]⟩ : ByteArray).size = 1 := rfl
  have e3 : (⟨#[10]⟩ : ByteArray).size = 1 := rfl
  unfold lineB
  simp only [ByteArray.size_append, e1, e3]
  omega
theorem bookB_le {l : List Gel} (h : chkBook l = 0) (hf : ∀ x ∈ l, GelFit x) : ∀ k, k ≤ l.length → (bookB (l.take k)).size ≤ 100 * k := by
  intro k
  induction k with
  | zero => intro _; exact Nat.zero_le _
  | succ k ih =>
    intro hk
    rw [bookB_take _ k (by omega), ByteArray.size_append]
    have h1 := ih (by omega)
    have hm : l[k] ∈ l := List.getElem_mem _
    have h2 := lineB_le l[k] (hf _ hm).2.1 ((chkBook_ok h).2 _ hm).name.short
    omega
/-- what BookText writes -/
def bookT (l : List Gel) : ByteArray := if chkBook l = 0 then bookB l else ⟨#[]⟩
theorem bookT_ok {l : List Gel} (h : chkBook l = 0) : bookT l = bookB l := if_pos h
theorem bookT_bad {l : List Gel} (h : ¬ chkBook l = 0) : bookT l = ⟨#[]⟩ := if_neg h
theorem cells_app (a b : ByteArray) : Lib.strCells (a ++ b) = Lib.strCells a ++ Lib.strCells b := by
  unfold Lib.strCells
  rw [ByteArray.data_append, Array.toList_append, List.map_append]
end Go.Proofs.YtljgpiaihahneaaDoor
