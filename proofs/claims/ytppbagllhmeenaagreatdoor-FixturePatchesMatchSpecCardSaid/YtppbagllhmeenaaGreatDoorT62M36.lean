/- The reference's Lines at any text. (printed by wip/gen/gen_rbook.py out of XLines) -/
import Derived.Test.YtppbagllhmeenaaGreatDoorT62M09

namespace Go.Proofs.YtppbagllhmeenaaGreatDoor
open Go.RowKit
set_option linter.unusedVariables false
set_option linter.unusedSimpArgs false

theorem rlinesL (s : ByteArray) : linesL s = if ((wordsB 10 s).getLast?.map (·.size)) = some 0 then (wordsB 10 s).dropLast else wordsB 10 s := by
  by_cases h0 : s.size = 0
  · have he : s = ⟨#[]⟩ := ByteArray.ext (by apply Array.ext <;> simp_all)
    subst he
    rfl
  · exact if_neg h0
theorem rlinesW (s : ByteArray) : linesW s = decide (((wordsB 10 s).getLast?.map (·.size)) = some 0) := by
  by_cases h0 : s.size = 0
  · have he : s = ⟨#[]⟩ := ByteArray.ext (by apply Array.ext <;> simp_all)
    subst he
    rfl
  · unfold linesW
    rw [decide_eq_false h0]
    rfl

set_option maxHeartbeats 4000000 in
theorem rlines_any (s : ByteArray) (w : World) (hT : TextW w) (hs : s.size < 4294967281) :
    Calls Tryz.prog 26 #[.string s] w (LinesPost w s) := by
  by_cases hdummy : True
  · have CS := Lib.hid (split_any 10 s w hT hs)
    have HLL := Lib.hid (show linesL s = if ((wordsB 10 s).getLast?.map (·.size)) = some 0 then (wordsB 10 s).dropLast else wordsB 10 s from rlinesL s)
    have HLW := Lib.hid (rlinesW s)
    have hle := wordsB_le 10 s
    obtain ⟨L0, x, hL⟩ := words_snoc s
    have HPOST := Lib.hid (show ∀ e w', (∃ ao cap, e = .returned (.tuple #[.slice ao (linesL s).length cap, .bool (linesW s)]) ∧ (linesL s ≠ [] → ao = some ⟨w.heap.size, 0, none⟩ ∧ w.heap.size < w'.heap.size ∧ RowS w' w.heap.size 0 (linesL s)) ∧ Below w.heap.size w w') → LinesPost w s e w' from fun e w' h => h)
    rw [hL] at CS HLL HLW hle
    have hlast : (L0 ++ [x]).getLast? = some x := by simp
    have hdl : (L0 ++ [x]).dropLast = L0 := by simp
    rw [hlast, hdl] at HLL
    rw [hlast] at HLW
    simp only [Option.map_some, Option.some.injEq] at HLL HLW
    have hlen : (L0 ++ [x]).length = L0.length + 1 := by simp
    generalize linesL s = LL at *
    generalize linesW s = LW at *
    generalize LinesPost w s = PO at *
    clear hT hL hlast hdl
    go_enter Tryz.func26, Tryz.ntmps26
    go_wp2_with fail
    refine CS.out.mono ?_
    rintro e w1 ⟨rfl, hrow, hb, hlt⟩
    rw [hlen]
    have hc := hrow L0.length (by rw [hlen]; omega)
    rw [show (L0 ++ [x])[L0.length]'(by rw [hlen]; omega) = x by simp, Nat.zero_add] at hc
    have HR := Lib.hid hrow
    have HB := Lib.hid hb
    clear hrow hb
    have hsub : ((L0.length + 1 : Nat) : Int) - 1 = L0.length := by omega
    by_cases hx : x.size = 0
    · have he : x = ⟨#[]⟩ := ByteArray.ext (by apply Array.ext <;> simp_all)
      have HV1 := Lib.hid (show LL = L0 by rw [HLL.out, if_pos hx])
      have HV2 := Lib.hid (show LW = true by rw [HLW.out, decide_eq_true hx])
      subst he
      clear hx HLL HLW
      go_wp2_with fail
      refine HPOST.out _ _ ⟨_, _, by rw [HV1.out, HV2.out]; rfl, fun h => ⟨rfl, hlt, ?_⟩, HB.out⟩
      rw [HV1.out]
      intro j hj
      have := HR.out j (by rw [hlen]; omega)
      rwa [show (L0 ++ [(⟨#[]⟩ : ByteArray)])[j]'(by rw [hlen]; omega) = L0[j] from List.getElem_append_left hj] at this
    · have hx1 := bytes_some (s := x) (by omega)
      have hx2 := bytes_some' (s := x) (by omega)
      have HV1 := Lib.hid (show LL = L0 ++ [x] by rw [HLL.out, if_neg hx])
      have HV2 := Lib.hid (show LW = false by rw [HLW.out, decide_eq_false hx])
      clear hx HLL HLW
      go_wp2_with fail
      refine HPOST.out _ _ ⟨some ⟨w.heap.size, 0, none⟩, L0.length + 1, by rw [HV1.out, HV2.out, hlen]; rfl, fun h => ⟨rfl, hlt, ?_⟩, HB.out⟩
      rw [HV1.out]
      exact HR.out
  · exact absurd trivial hdummy
end Go.Proofs.YtppbagllhmeenaaGreatDoor
