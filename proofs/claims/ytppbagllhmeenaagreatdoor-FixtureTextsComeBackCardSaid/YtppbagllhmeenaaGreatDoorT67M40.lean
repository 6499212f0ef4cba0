/- What one line adds to a library: the cases. Plain Lean. -/
import Derived.Test.YtppbagllhmeenaaGreatDoorT67M31

namespace Go.Proofs.YtppbagllhmeenaaGreatDoor
open Go.RowKit
set_option linter.unusedVariables false
set_option linter.unusedSimpArgs false

theorem add4_nil {s : ByteArray} (h : four s = true) : addL [] s = none := by
  unfold addL
  rw [if_pos h]
  cases rngW (wordsB 32 (cutN 4 s)) <;> rfl
theorem add4_none {s : ByteArray} {l : List Prf} (h : four s = true) (h2 : rngW (wordsB 32 (cutN 4 s)) = none) : addL l s = none := by
  unfold addL
  rw [if_pos h, h2]
  rfl
theorem add4_bare {s : ByteArray} {l0 : List Prf} {nm : ByteArray} {sz : Int} (h : four s = true) : addL (l0 ++ [⟨nm, sz, []⟩]) s = none := by
  unfold addL
  rw [if_pos h]
  cases rngW (wordsB 32 (cutN 4 s)) with
  | none => rfl
  | some r =>
    simp only [Option.bind_some]
    rw [onLast_snoc]
    rfl
theorem add4_some {s : ByteArray} {l0 : List Prf} {nm : ByteArray} {sz : Int} {ps : List Par} {x : Par} {r : Rng} (h : four s = true) (h2 : rngW (wordsB 32 (cutN 4 s)) = some r) :
    addL (l0 ++ [⟨nm, sz, ps ++ [x]⟩]) s = some (l0 ++ [⟨nm, sz, ps ++ [⟨x.name, x.grp, x.sl, x.fine, x.dflt, x.snap, x.rngs ++ [r]⟩]⟩]) := by
  unfold addL
  rw [if_pos h, h2]
  simp only [Option.bind_some]
  rw [onLast_snoc]
  unfold addRP
  rw [onLast_snoc]
  rfl
theorem add2_nil {s : ByteArray} (h : four s = false) (h2 : two s = true) : addL [] s = none := by
  unfold addL
  rw [if_neg (by rw [h]; decide), if_pos h2]
  cases parW (wordsB 32 (cutN 2 s)) <;> rfl
theorem add2_none {s : ByteArray} {l : List Prf} (h : four s = false) (h2 : two s = true) (h3 : parW (wordsB 32 (cutN 2 s)) = none) : addL l s = none := by
  unfold addL
  rw [if_neg (by rw [h]; decide), if_pos h2, h3]
  rfl
theorem add2_some {s : ByteArray} {l0 : List Prf} {nm : ByteArray} {sz : Int} {ps : List Par} {x : Par} (h : four s = false) (h2 : two s = true) (h3 : parW (wordsB 32 (cutN 2 s)) = some x) :
    addL (l0 ++ [⟨nm, sz, ps⟩]) s = some (l0 ++ [⟨nm, sz, ps ++ [x]⟩]) := by
  unfold addL
  rw [if_neg (by rw [h]; decide), if_pos h2, h3]
  simp only [Option.bind_some]
  rw [onLast_snoc]
  rfl
theorem add0_none {s : ByteArray} {l : List Prf} (h : four s = false) (h2 : two s = false) (h3 : prfW (wordsB 32 s) = none) : addL l s = none := by
  unfold addL
  rw [if_neg (by rw [h]; decide), if_neg (by rw [h2]; decide), h3]
  rfl
theorem add0_some {s : ByteArray} {l : List Prf} {p : Prf} (h : four s = false) (h2 : two s = false) (h3 : prfW (wordsB 32 s) = some p) : addL l s = some (l ++ [p]) := by
  unfold addL
  rw [if_neg (by rw [h]; decide), if_neg (by rw [h2]; decide), h3]
  rfl
theorem prfW_no {L : List ByteArray} (h : L.length ≠ 3) : prfW L = none := by
  unfold prfW
  split
  · simp at h
  · rfl
theorem prfW_three (a n s : ByteArray) : prfW [a, n, s] = if a = sProf ∧ rowB n.data.toList = true then (nbW s).map fun k => ⟨n, k, []⟩ else none := rfl
theorem parW_rngs {L : List ByteArray} {x : Par} (h : parW L = some x) : x.rngs = [] := by
  unfold parW at h
  split at h
  · split at h
    · obtain ⟨k, h1, h2⟩ := Option.bind_eq_some_iff.1 h
      unfold tailW at h2
      obtain ⟨a, _, h2⟩ := Option.bind_eq_some_iff.1 h2
      obtain ⟨b, _, h2⟩ := Option.bind_eq_some_iff.1 h2
      obtain ⟨c, _, h2⟩ := Option.map_eq_some_iff.1 h2
      subst h2
      rfl
    · cases h
  · cases h
theorem has_len {s : ByteArray} {p : List UInt8} (h : Lib.hasPrefix s.data.toList p = true) : p.length ≤ s.size := by
  rw [Lib.size_eq]
  unfold Lib.hasPrefix at h
  exact (List.isPrefixOf_iff_prefix.1 h).length_le
theorem four_len {s : ByteArray} (h : four s = true) : 4 ≤ s.size := has_len h
theorem two_len {s : ByteArray} (h : two s = true) : 2 ≤ s.size := has_len h
end Go.Proofs.YtppbagllhmeenaaGreatDoor
