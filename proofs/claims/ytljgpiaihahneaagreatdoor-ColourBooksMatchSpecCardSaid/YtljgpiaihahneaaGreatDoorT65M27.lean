/- word.Lines at any text. -/
import Derived.Test.YtljgpiaihahneaaGreatDoorT65M26

namespace Go.Proofs.YtljgpiaihahneaaGreatDoor
open Go.RowKit
set_option linter.unusedVariables false
set_option linter.unusedSimpArgs false

/-- the lines of a text; whether the last one has its end -/
def linesL (s : ByteArray) : List ByteArray :=
  if s.size = 0 then [] else if ((wordsB 10 s).getLast?.map (·.size)) = some 0 then (wordsB 10 s).dropLast else wordsB 10 s
def linesW (s : ByteArray) : Bool := decide (s.size = 0) || decide (((wordsB 10 s).getLast?.map (·.size)) = some 0)
theorem words_snoc (s : ByteArray) : ∃ L0 x, wordsB 10 s = L0 ++ [x] := by
  have h := wordsB_pos 10 s
  exact ⟨(wordsB 10 s).dropLast, (wordsB 10 s).getLast (by intro e; rw [e] at h; simp at h), (List.dropLast_concat_getLast _).symm⟩
/-- what Lines hands back -/
def LinesPost (w : World) (s : ByteArray) (e : Ending) (w' : World) : Prop :=
  ∃ ao cap, e = .returned (.tuple #[.slice ao (linesL s).length cap, .bool (linesW s)]) ∧ (linesL s ≠ [] → ao = some ⟨w.heap.size, 0, none⟩ ∧ w.heap.size < w'.heap.size ∧ RowS w' w.heap.size 0 (linesL s)) ∧ Below w.heap.size w w'
theorem linesL_le (s : ByteArray) : (linesL s).length ≤ s.size + 1 := by
  have := wordsB_le 10 s
  unfold linesL
  split
  · simp
  · split
    · rw [List.length_dropLast]; omega
    · exact this
theorem linesL_size (s : ByteArray) : ∀ x ∈ linesL s, x.size ≤ s.size := by
  intro x hx
  unfold linesL at hx
  split at hx
  · simp at hx
  · split at hx
    · exact wordsB_size 10 s x (List.dropLast_subset _ hx)
    · exact wordsB_size 10 s x hx

set_option maxHeartbeats 4000000 in
theorem lines_any (s : ByteArray) (w : World) (hT : TextW w) (hs : s.size < 4294967281) :
    Calls Tryz.prog 23 #[.string s] w (LinesPost w s) := by
  by_cases h0 : s.size = 0
  · have he : s = ⟨#[]⟩ := ByteArray.ext (by apply Array.ext <;> simp_all)
    subst he
    clear hs
    go_enter Tryz.func23, Tryz.ntmps23
    go_wp2
    go_ret2
    exact ⟨none, 0, rfl, fun h => absurd rfl h, Below.refl _ _⟩
  · have CS := Lib.hid (split_any 10 s w hT hs)
    have hl := bytes_some (s := s) (by omega)
    have hl2 := bytes_some' (s := s) (by omega)
    have HLL := Lib.hid (show linesL s = if ((wordsB 10 s).getLast?.map (·.size)) = some 0 then (wordsB 10 s).dropLast else wordsB 10 s from if_neg h0)
    have HLW := Lib.hid (show linesW s = decide (((wordsB 10 s).getLast?.map (·.size)) = some 0) by unfold linesW; rw [decide_eq_false h0]; rfl)
    have hle := wordsB_le 10 s
    obtain ⟨L0, x, hL⟩ := words_snoc s
    have HPOST := Lib.hid (show ∀ e w', (∃ ao cap, e = .returned (.tuple #[.slice ao (linesL s).length cap, .bool (linesW s)]) ∧ (linesL s ≠ [] → ao = some ⟨w.heap.size, 0, none⟩ ∧ w.heap.size < w'.heap.size ∧ RowS w' w.heap.size 0 (linesL s)) ∧ Below w.heap.size w w') → LinesPost w s e w' from fun e w' h => h)
    rw [hL] at CS HLL HLW hle
    have hlast : (L0 ++ [x]).getLast? = some x := by simp
    have hdl : (L0 ++ [x]).dropLast = L0 := by simp
    rw [hlast, hdl] at HLL
    rw [hlast] at HLW
    simp only [Option.map_some, Option.some.injEq] at HLL HLW
    have hlen : (L0 ++ [x]).length = L0.length + 1 := by simp
    generalize linesL s = LL at *
    generalize linesW s = LW at *
    generalize LinesPost w s = PO at *
    clear hT hL h0 hlast hdl
    go_enter Tryz.func23, Tryz.ntmps23
    go_wp2_with fail
    refine CS.out.mono ?_
    rintro e w1 ⟨rfl, hrow, hb, hlt⟩
    rw [hlen]
    have hc := hrow L0.length (by rw [hlen]; omega)
    rw [show (L0 ++ [x])[L0.length]'(by rw [hlen]; omega) = x by simp, Nat.zero_add] at hc
    have HR := Lib.hid hrow
    have HB := Lib.hid hb
    clear hrow hb
    have hsub : ((L0.length + 1 : Nat) : Int) - 1 = L0.length := by omega
    by_cases hx : x.size = 0
    · have he : x = ⟨#[]⟩ := ByteArray.ext (by apply Array.ext <;> simp_all)
      have HV1 := Lib.hid (show LL = L0 by rw [HLL.out, if_pos hx])
      have HV2 := Lib.hid (show LW = true by rw [HLW.out, decide_eq_true hx])
      subst he
      clear hx HLL HLW
      go_wp2_with fail
      refine HPOST.out _ _ ⟨_, _, by rw [HV1.out, HV2.out]; rfl, fun h => ⟨rfl, hlt, ?_⟩, HB.out⟩
      rw [HV1.out]
      intro j hj
      have := HR.out j (by rw [hlen]; omega)
      rwa [show (L0 ++ [(⟨#[]⟩ : ByteArray)])[j]'(by rw [hlen]; omega) = L0[j] from List.getElem_append_left hj] at this
    · have hx1 := bytes_some (s := x) (by omega)
      have hx2 := bytes_some' (s := x) (by omega)
      have HV1 := Lib.hid (show LL = L0 ++ [x] by rw [HLL.out, if_neg hx])
      have HV2 := Lib.hid (show LW = false by rw [HLW.out, decide_eq_false hx])
      clear hx HLL HLW
      go_wp2_with fail
      refine HPOST.out _ _ ⟨some ⟨w.heap.size, 0, none⟩, L0.length + 1, by rw [HV1.out, HV2.out, hlen]; rfl, fun h => ⟨rfl, hlt, ?_⟩, HB.out⟩
      rw [HV1.out]
      exact HR.out
end Go.Proofs.YtljgpiaihahneaaGreatDoor
