/- The nearest gels in plain Lean: none that is left out is nearer. -/
import Derived.Test.YtpmiinamaofnnaaDistTop
namespace Go.Proofs.Ytpmiinamaofnnaa
open Go.RowKit
set_option linter.unusedVariables false

theorem near_len (l : List Gel) (r g b : Int) (n : Nat) : (nearL l r g b n).length = min n l.length := by
  unfold nearL
  have : (stb (nearKey r g b) l).length = l.length := stb_len l
  rw [List.length_take, this, Int.toNat_natCast]
theorem near_mem {l : List Gel} {r g b n : Int} {h : Gel} (hh : h ∈ nearL l r g b n) : h ∈ l := by
  have := List.mem_of_mem_take hh
  exact ((stb_ok (f := nearKey r g b) l).2.mem h).1 this
theorem near_out {l : List Gel} {r g b n : Int} {x h : Gel} (hx : x ∈ l) (hn : x ∉ nearL l r g b n) (hh : h ∈ nearL l r g b n) : nearKey r g b h ≤ nearKey r g b x := by
  have hS := (stb_ok (f := nearKey r g b) l).1
  have hx2 : x ∈ stb (nearKey r g b) l := ((stb_ok (f := nearKey r g b) l).2.mem x).2 hx
  unfold nearL at hn hh
  generalize stb (nearKey r g b) l = s at *
  generalize n.toNat = k at *
  rw [← List.take_append_drop k s] at hx2 hS
  rcases List.mem_append.1 hx2 with h1 | h1
  · exact absurd h1 hn
  · exact (List.pairwise_append.1 hS).2.2 h hh x h1
end Go.Proofs.Ytpmiinamaofnnaa
