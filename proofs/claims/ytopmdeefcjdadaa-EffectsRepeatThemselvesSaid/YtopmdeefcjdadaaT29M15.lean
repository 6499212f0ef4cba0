/- Numbers of six words as values: their words, the value of a number, look-ups in an array of six. No walk in it. -/
import Derived.Test.YtopmdeefcjdadaaT29M14
import Derived.Test.YtopmdeefcjdadaaT29M11

namespace Go.Proofs.Ytopmdeefcjdadaa
open Go.RowKit
set_option linter.unusedVariables false
set_option linter.unusedSimpArgs false

def hugeA (l : List Int) : Array Value := (l.map (fun x => Value.int .u64 x)).toArray
def limbs : Nat → Int → List Int
  | 0, _ => []
  | n + 1, x => loW x :: limbs n (hiW x)
theorem limbs_len : ∀ n x, (limbs n x).length = n
  | 0, _ => rfl
  | n + 1, x => by simp [limbs, limbs_len n]
theorem limbs_words : ∀ n x, Words (limbs n x)
  | 0, _ => by simp [limbs, Words]
  | n + 1, x => words_cons (lo_range _) (limbs_words n _)
theorem limbs_val : ∀ n x, 0 ≤ x → x < powW n → valH (limbs n x) = x
  | 0, x, h0, h1 => by simp [powW] at h1; simp [limbs, valH]; omega
  | n + 1, x, h0, h1 => by
    have hs := split_W x
    have h2 : hiW x < powW n := le_of_W (by have := (lo_range x).1; simp only [powW] at h1; omega)
    rw [limbs, valH, limbs_val n _ (hi_nonneg h0) h2, hs]
theorem limbs_of : ∀ l : List Int, Words l → limbs l.length (valH l) = l
  | [], _ => rfl
  | a :: l, h => by
    obtain ⟨h0, h1⟩ := (oneW_iff a).1 h.head
    have hs := split_W (a + W64 * valH l)
    have hr := lo_range (a + W64 * valH l)
    have hv := (valH_bound l h.tail).1
    have e2 : hiW (a + W64 * valH l) = valH l := by unfold hiW W64 at *; omega
    have e1 : loW (a + W64 * valH l) = a := by rw [e2] at hs; omega
    rw [List.length_cons, limbs, valH, e1, e2, limbs_of l h.tail]
def hugeV (N : Int) : Value := .agg (hugeA (limbs 6 N))
theorem six {α : Type} {l : List α} (h : l.length = 6) : ∃ a b c d e f, l = [a, b, c, d, e, f] := by
  match l, h with
  | [a, b, c, d, e, f], _ => exact ⟨a, b, c, d, e, f, rfl⟩
theorem hugeV_of {l : List Int} (h : l.length = 6) (hw : Words l) : hugeV (valH l) = .agg (hugeA l) := by
  unfold hugeV
  rw [← h, limbs_of l hw]
theorem hugeA_get {l : List Int} {i : Nat} (h : i < l.length) : (hugeA l)[i]? = some (.int .u64 l[i]) := by simp [hugeA, h]
theorem hugeA_set (l : List Int) (i : Nat) (v : Int) : (hugeA l).setIfInBounds i (.int .u64 v) = hugeA (l.set i v) := by simp [hugeA, List.map_set]
theorem index_h0 (a b c d e f : Int) (w : World) : (Instr.index 77 (.agg #[.int .u64 a, .int .u64 b, .int .u64 c, .int .u64 d, .int .u64 e, .int .u64 f]) (.int .i64 0)).run Try.prog w = .ok (.int .u64 a) w := by kernel_rfl
theorem index_h1 (a b c d e f : Int) (w : World) : (Instr.index 77 (.agg #[.int .u64 a, .int .u64 b, .int .u64 c, .int .u64 d, .int .u64 e, .int .u64 f]) (.int .i64 1)).run Try.prog w = .ok (.int .u64 b) w := by kernel_rfl
theorem index_h2 (a b c d e f : Int) (w : World) : (Instr.index 77 (.agg #[.int .u64 a, .int .u64 b, .int .u64 c, .int .u64 d, .int .u64 e, .int .u64 f]) (.int .i64 2)).run Try.prog w = .ok (.int .u64 c) w := by kernel_rfl
theorem index_h3 (a b c d e f : Int) (w : World) : (Instr.index 77 (.agg #[.int .u64 a, .int .u64 b, .int .u64 c, .int .u64 d, .int .u64 e, .int .u64 f]) (.int .i64 3)).run Try.prog w = .ok (.int .u64 d) w := by kernel_rfl
theorem index_h4 (a b c d e f : Int) (w : World) : (Instr.index 77 (.agg #[.int .u64 a, .int .u64 b, .int .u64 c, .int .u64 d, .int .u64 e, .int .u64 f]) (.int .i64 4)).run Try.prog w = .ok (.int .u64 e) w := by kernel_rfl
theorem index_h5 (a b c d e f : Int) (w : World) : (Instr.index 77 (.agg #[.int .u64 a, .int .u64 b, .int .u64 c, .int .u64 d, .int .u64 e, .int .u64 f]) (.int .i64 5)).run Try.prog w = .ok (.int .u64 f) w := by kernel_rfl
theorem index_huge (a b c d e f : Int) (i : Nat) (hi : i < 6) (w : World) : (Instr.index 77 (.agg #[.int .u64 a, .int .u64 b, .int .u64 c, .int .u64 d, .int .u64 e, .int .u64 f]) (.int .i64 (i : Int))).run Try.prog w = .ok (.int .u64 ([a, b, c, d, e, f][i]'hi)) w := by
  have h : i = 0 ∨ i = 1 ∨ i = 2 ∨ i = 3 ∨ i = 4 ∨ i = 5 := by omega
  rcases h with rfl | rfl | rfl | rfl | rfl | rfl
  · exact index_h0 a b c d e f w
  · exact index_h1 a b c d e f w
  · exact index_h2 a b c d e f w
  · exact index_h3 a b c d e f w
  · exact index_h4 a b c d e f w
  · exact index_h5 a b c d e f w
def prodL (l : List Int) : Int := l.foldl (· * ·) 1
theorem prodL_take (l : List Int) (j : Nat) (h : j < l.length) : prodL (l.take (j + 1)) = prodL (l.take j) * l[j] := by
  unfold prodL
  rw [List.take_succ_eq_append_getElem h, List.foldl_append]
  rfl
/-- a product with a further number, word by word -/
theorem times_carry {x n c : Int} (hx : OneW x) (hn : OneW n) (hc : OneW c) : loW (loW (x * n) + c) = loW (x * n + c) ∧ IntKind.u64.wrap (hiW (x * n) + hiW (loW (x * n) + c)) = hiW (x * n + c) := by
  have h := carry_word hx hn hc
  have hp : 0 ≤ x * n := Int.mul_nonneg hx.1 hn.1
  generalize x * n = p at *
  obtain ⟨c0, c1⟩ := hc
  unfold OneW at h
  simp only [IntKind.wrap_u64]
  unfold hiW loW at *
  omega
theorem row_carry {o x y c : Int} (ho : OneW o) (hx : OneW x) (hy : OneW y) (hc : OneW c) :
    loW (o + loW (loW (x * y) + c)) = loW (o + x * y + c) ∧ IntKind.u64.wrap (hiW (x * y) + hiW (loW (x * y) + c)) = hiW (x * y + c) ∧ IntKind.u64.wrap (hiW (x * y + c) + hiW (o + loW (loW (x * y) + c))) = hiW (o + x * y + c) ∧ OneW (hiW (x * y + c)) := by
  have h := carry_word2 ho hx hy hc
  have h' := carry_word hx hy hc
  have hp : 0 ≤ x * y := Int.mul_nonneg hx.1 hy.1
  generalize x * y = p at *
  obtain ⟨c0, c1⟩ := hc
  obtain ⟨o0, o1⟩ := ho
  unfold OneW at *
  simp only [IntKind.wrap_u64]
  unfold hiW loW at *
  omega
end Go.Proofs.Ytopmdeefcjdadaa
