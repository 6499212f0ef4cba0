/- What Show writes of a colour is a colour's text with these parts. (printed by wip/gen/gen_coltext.py) The text of a book. No walk in it but Itoa's. (printed by wip/gen/gen_book.py) -/
import Derived.Test.YtljgpiaihahneaaGreatDoorT65M16
import Derived.Test.YtljgpiaihahneaaGreatDoorT65M18
import Derived.Test.YtljgpiaihahneaaGreatDoorT65M10
import Derived.Test.YtljgpiaihahneaaGreatDoorT65M05
import Derived.Lib.ItoaLen

namespace Go.Proofs.YtljgpiaihahneaaGreatDoor
open Go.RowKit
set_option linter.unusedVariables false
set_option linter.unusedSimpArgs false

/-- the text of any colour, or none -/
def colS (r g b : Int) : ByteArray := if chkC r g b = 0 then colT r.toNat g.toNat b.toNat else ⟨#[]⟩
theorem chkC_cases (r g b : Int) : (chkC r g b = 0 ∧ (0 ≤ r ∧ r ≤ 65535) ∧ (0 ≤ g ∧ g ≤ 65535) ∧ (0 ≤ b ∧ b ≤ 65535)) ∨ chkC r g b = 1 := by
  by_cases h : LvOkC r ∧ LvOkC g ∧ LvOkC b
  · left
    exact ⟨if_pos h, h.1, h.2.1, h.2.2⟩
  · right
    exact if_neg h
theorem cshow_any (r g b : Int) (w : World) (hw : ColW w) :
    Calls Tryz.prog 11 #[.agg #[.int .i64 r, .int .i64 g, .int .i64 b]] w fun e w' => e = .returned (.tuple #[.string (colS r g b), .int .i64 (chkC r g b)]) ∧ Below w.heap.size w w' := by
  rcases chkC_cases r g b with ⟨h, ⟨h1, h2⟩, ⟨h3, h4⟩, h5, h6⟩ | h
  · unfold colS
    rw [if_pos h, h]
    obtain ⟨r, rfl⟩ := Int.eq_ofNat_of_zero_le h1
    obtain ⟨g, rfl⟩ := Int.eq_ofNat_of_zero_le h3
    obtain ⟨b, rfl⟩ := Int.eq_ofNat_of_zero_le h5
    simp only [Int.toNat_natCast]
    unfold colT
    by_cases hm : r % 257 = 0 ∧ g % 257 = 0 ∧ b % 257 = 0
    · rw [if_pos hm]
      exact cshow_2 r g b w (by omega) (by omega) (by omega) hm hw
    · rw [if_neg hm]
      exact cshow_4 r g b w (by omega) (by omega) (by omega) hm hw
  · unfold colS
    rw [if_neg (by rw [h]; decide), h]
    exact cshow_no r g b w h

theorem hs_2 (x0 x1 x2 x3 x4 x5 : UInt8) : hsB ⟨#[35, x0, x1, x2, x3, x4, x5]⟩ = true ∧ hsT ⟨#[35, x0, x1, x2, x3, x4, x5]⟩ = ⟨#[x0, x1, x2, x3, x4, x5]⟩ := ⟨rfl, rfl⟩
theorem allHex_2 (x0 x1 x2 x3 x4 x5 : UInt8) (h : IsHex x0 ∧ IsHex x1 ∧ IsHex x2 ∧ IsHex x3 ∧ IsHex x4 ∧ IsHex x5) : AllHex ⟨#[x0, x1, x2, x3, x4, x5]⟩ := by
  obtain ⟨h0, h1, h2, h3, h4, h5⟩ := h
  intro i hi
  have hi' : i < 6 := hi
  match i, hi' with
  | 0, _ => exact h0
  | 1, _ => exact h1
  | 2, _ => exact h2
  | 3, _ => exact h3
  | 4, _ => exact h4
  | 5, _ => exact h5
theorem colP_2_0 (x0 x1 x2 x3 x4 x5 : UInt8) : colP ⟨#[x0, x1, x2, x3, x4, x5]⟩ 0 = (16 * (16 * 0 + hexV x0) + hexV x1) * 257 := rfl
theorem colP_2_1 (x0 x1 x2 x3 x4 x5 : UInt8) : colP ⟨#[x0, x1, x2, x3, x4, x5]⟩ 1 = (16 * (16 * 0 + hexV x2) + hexV x3) * 257 := rfl
theorem colP_2_2 (x0 x1 x2 x3 x4 x5 : UInt8) : colP ⟨#[x0, x1, x2, x3, x4, x5]⟩ 2 = (16 * (16 * 0 + hexV x4) + hexV x5) * 257 := rfl

theorem hs_4 (x0 x1 x2 x3 x4 x5 x6 x7 x8 x9 x10 x11 : UInt8) : hsB ⟨#[35, x0, x1, x2, x3, x4, x5, x6, x7, x8, x9, x10, x11]⟩ = true ∧ hsT ⟨#[35, x0, x1, x2, x3, x4, x5, x6, x7, x8, x9, x10, x11]⟩ = ⟨#[x0, x1, x2, x3, x4, x5, x6, x7, x8, x9, x10, x11]⟩ := ⟨rfl, rfl⟩
theorem allHex_4 (x0 x1 x2 x3 x4 x5 x6 x7 x8 x9 x10 x11 : UInt8) (h : IsHex x0 ∧ IsHex x1 ∧ IsHex x2 ∧ IsHex x3 ∧ IsHex x4 ∧ IsHex x5 ∧ IsHex x6 ∧ IsHex x7 ∧ IsHex x8 ∧ IsHex x9 ∧ IsHex x10 ∧ IsHex x11) : AllHex ⟨#[x0, x1, x2, x3, x4, x5, x6, x7, x8, x9, x10, x11]⟩ := by
  obtain ⟨h0, h1, h2, h3, h4, h5, h6, h7, h8, h9, h10, h11⟩ := h
  intro i hi
  have hi' : i < 12 := hi
  match i, hi' with
  | 0, _ => exact h0
  | 1, _ => exact h1
  | 2, _ => exact h2
  | 3, _ => exact h3
  | 4, _ => exact h4
  | 5, _ => exact h5
  | 6, _ => exact h6
  | 7, _ => exact h7
  | 8, _ => exact h8
  | 9, _ => exact h9
  | 10, _ => exact h10
  | 11, _ => exact h11
theorem colP_4_0 (x0 x1 x2 x3 x4 x5 x6 x7 x8 x9 x10 x11 : UInt8) : colP ⟨#[x0, x1, x2, x3, x4, x5, x6, x7, x8, x9, x10, x11]⟩ 0 = (16 * (16 * (16 * (16 * 0 + hexV x0) + hexV x1) + hexV x2) + hexV x3) := rfl
theorem colP_4_1 (x0 x1 x2 x3 x4 x5 x6 x7 x8 x9 x10 x11 : UInt8) : colP ⟨#[x0, x1, x2, x3, x4, x5, x6, x7, x8, x9, x10, x11]⟩ 1 = (16 * (16 * (16 * (16 * 0 + hexV x4) + hexV x5) + hexV x6) + hexV x7) := rfl
theorem colP_4_2 (x0 x1 x2 x3 x4 x5 x6 x7 x8 x9 x10 x11 : UInt8) : colP ⟨#[x0, x1, x2, x3, x4, x5, x6, x7, x8, x9, x10, x11]⟩ 2 = (16 * (16 * (16 * (16 * 0 + hexV x8) + hexV x9) + hexV x10) + hexV x11) := rfl

theorem hx2_hex {n : Nat} (h : n < 256) : IsHex (hd (n / 16)) ∧ IsHex (hd (n % 16)) := ⟨hd_hex (by omega), hd_hex (by omega)⟩
theorem colT_ok (r g b : Nat) (hr : r ≤ 65535) (hg : g ≤ 65535) (hb : b ≤ 65535) : ColOk (colT r g b) ∧ colP (hsT (colT r g b)) 0 = r ∧ colP (hsT (colT r g b)) 1 = g ∧ colP (hsT (colT r g b)) 2 = b := by
  unfold colT
  by_cases hm : r % 257 = 0 ∧ g % 257 = 0 ∧ b % 257 = 0
  · rw [if_pos hm]
    have hs := hs_2 (hd (r / 257 / 16)) (hd (r / 257 % 16)) (hd (g / 257 / 16)) (hd (g / 257 % 16)) (hd (b / 257 / 16)) (hd (b / 257 % 16))
    have hh := allHex_2 (hd (r / 257 / 16)) (hd (r / 257 % 16)) (hd (g / 257 / 16)) (hd (g / 257 % 16)) (hd (b / 257 / 16)) (hd (b / 257 % 16)) ⟨hd_hex (by omega), hd_hex (by omega), hd_hex (by omega), hd_hex (by omega), hd_hex (by omega), hd_hex (by omega)⟩
    rw [show ((⟨#[35]⟩ : ByteArray) ++ hx2 (r / 257) ++ hx2 (g / 257)) ++ hx2 (b / 257) = ⟨#[35, hd (r / 257 / 16), hd (r / 257 % 16), hd (g / 257 / 16), hd (g / 257 % 16), hd (b / 257 / 16), hd (b / 257 % 16)]⟩ from rfl, hs.2]
    refine ⟨⟨hs.1, by rw [hs.2]; exact .inl rfl, by rw [hs.2]; exact hh⟩, ?_, ?_, ?_⟩
    · rw [colP_2_0, hd_val (d := (r / 257 / 16)) (by omega), hd_val (d := (r / 257 % 16)) (by omega)]; omega
    · rw [colP_2_1, hd_val (d := (g / 257 / 16)) (by omega), hd_val (d := (g / 257 % 16)) (by omega)]; omega
    · rw [colP_2_2, hd_val (d := (b / 257 / 16)) (by omega), hd_val (d := (b / 257 % 16)) (by omega)]; omega
  · rw [if_neg hm]
    have hs := hs_4 (hd (r / 4096)) (hd (r / 256 % 16)) (hd (r / 16 % 16)) (hd (r % 16)) (hd (g / 4096)) (hd (g / 256 % 16)) (hd (g / 16 % 16)) (hd (g % 16)) (hd (b / 4096)) (hd (b / 256 % 16)) (hd (b / 16 % 16)) (hd (b % 16))
    have hh := allHex_4 (hd (r / 4096)) (hd (r / 256 % 16)) (hd (r / 16 % 16)) (hd (r % 16)) (hd (g / 4096)) (hd (g / 256 % 16)) (hd (g / 16 % 16)) (hd (g % 16)) (hd (b / 4096)) (hd (b / 256 % 16)) (hd (b / 16 % 16)) (hd (b % 16)) ⟨hd_hex (by omega), hd_hex (by omega), hd_hex (by omega), hd_hex (by omega), hd_hex (by omega), hd_hex (by omega), hd_hex (by omega), hd_hex (by omega), hd_hex (by omega), hd_hex (by omega), hd_hex (by omega), hd_hex (by omega)⟩
    rw [show ((⟨#[35]⟩ : ByteArray) ++ hx4 (r) ++ hx4 (g)) ++ hx4 (b) = ⟨#[35, hd (r / 4096), hd (r / 256 % 16), hd (r / 16 % 16), hd (r % 16), hd (g / 4096), hd (g / 256 % 16), hd (g / 16 % 16), hd (g % 16), hd (b / 4096), hd (b / 256 % 16), hd (b / 16 % 16), hd (b % 16)]⟩ from rfl, hs.2]
    refine ⟨⟨hs.1, by rw [hs.2]; exact .inr rfl, by rw [hs.2]; exact hh⟩, ?_, ?_, ?_⟩
    · rw [colP_4_0, hd_val (d := (r / 4096)) (by omega), hd_val (d := (r / 256 % 16)) (by omega), hd_val (d := (r / 16 % 16)) (by omega), hd_val (d := (r % 16)) (by omega)]; omega
    · rw [colP_4_1, hd_val (d := (g / 4096)) (by omega), hd_val (d := (g / 256 % 16)) (by omega), hd_val (d := (g / 16 % 16)) (by omega), hd_val (d := (g % 16)) (by omega)]; omega
    · rw [colP_4_2, hd_val (d := (b / 4096)) (by omega), hd_val (d := (b / 256 % 16)) (by omega), hd_val (d := (b / 16 % 16)) (by omega), hd_val (d := (b % 16)) (by omega)]; omega
end Go.Proofs.YtljgpiaihahneaaGreatDoor

namespace Go.Proofs.YtljgpiaihahneaaGreatDoor
open Go.RowKit
set_option linter.unusedVariables false
set_option linter.unusedSimpArgs false

/-- the numeral of a number -/
def itT (n : Int) : ByteArray := ⟨(Lib.itoa n).toArray⟩
theorem itT_le (n : Int) (h0 : -9223372036854775808 ≤ n) (h1 : n ≤ 9223372036854775807) : (itT n).size ≤ 21 := by
  have := Lib.itoa_length_le n h0 h1
  unfold itT
  rw [Lib.size_eq]
  simpa using this
theorem itoa_int (n : Int) (w : World) (h0 : -9223372036854775808 ≤ n) (h1 : n ≤ 9223372036854775807) (hT : TextW w) :
    Calls Tryz.prog 13 #[.int .i64 n] w fun e w' => e = .returned (.string (itT n)) ∧ Below w.heap.size w w' := by
  refine (Tryz.strconv_Itoa n h0 h1 w hT.pow).mono ?_
  rintro e w' ⟨rfl, k, os, rfl⟩
  exact ⟨rfl, Lib.below_grow _ w (Nat.le_refl _) k os⟩
theorem colT_le (r g b : Nat) : (colT r g b).size ≤ 13 := by
  unfold colT
  split
  · exact (by decide : 7 ≤ 13)
  · exact (by decide : 13 ≤ 13)
theorem colS_le (r g b : Int) : (colS r g b).size ≤ 13 := by
  unfold colS
  split
  · exact colT_le _ _ _
  · exact Nat.zero_le _
/-- a line of a book -/
def lineB (x : Gel) : ByteArray := ((((itT x.n ++ (⟨#[32]⟩ : ByteArray)) ++ colS x.r x.g x.b) ++ (⟨#[32]⟩ : ByteArray)) ++ x.name) ++ (⟨#[10]⟩ : ByteArray)
def bookB (l : List Gel) : ByteArray := l.foldl (fun s u => s ++ lineB u) ⟨#[]⟩
theorem bookB_take (l : List Gel) (k : Nat) (h : k < l.length) : bookB (l.take (k + 1)) = bookB (l.take k) ++ lineB l[k] := by
  unfold bookB
  rw [List.take_succ_eq_append_getElem h, List.foldl_append]
  rfl
theorem lineB_le (x : Gel) (h1 : I64 x.n) (h2 : x.name.size ≤ 60) : (lineB x).size ≤ 100 := by
  have a1 := itT_le x.n h1.1 h1.2
  have a2 := colS_le x.r x.g x.b
  have e1 : (⟨#[32]⟩ : ByteArray).size = 1 := rfl
  have e3 : (⟨#[10]⟩ : ByteArray).size = 1 := rfl
  unfold lineB
  simp only [ByteArray.size_append, e1, e3]
  omega
theorem bookB_le {l : List Gel} (h : chkBook l = 0) (hf : ∀ x ∈ l, GelFit x) : ∀ k, k ≤ l.length → (bookB (l.take k)).size ≤ 100 * k := by
  intro k
  induction k with
  | zero => intro _; exact Nat.zero_le _
  | succ k ih =>
    intro hk
    rw [bookB_take _ k (by omega), ByteArray.size_append]
    have h1 := ih (by omega)
    have hm : l[k] ∈ l := List.getElem_mem _
    have h2 := lineB_le l[k] (hf _ hm).2.1 ((chkBook_ok h).2 _ hm).name.short
    omega
/-- what BookText writes -/
def bookT (l : List Gel) : ByteArray := if chkBook l = 0 then bookB l else ⟨#[]⟩
theorem bookT_ok {l : List Gel} (h : chkBook l = 0) : bookT l = bookB l := if_pos h
theorem bookT_bad {l : List Gel} (h : ¬ chkBook l = 0) : bookT l = ⟨#[]⟩ := if_neg h
theorem cells_app (a b : ByteArray) : Lib.strCells (a ++ b) = Lib.strCells a ++ Lib.strCells b := by
  unfold Lib.strCells
  rw [ByteArray.data_append, Array.toList_append, List.map_append]
end Go.Proofs.YtljgpiaihahneaaGreatDoor
