/- Plain: bytes with their sum in which one byte is another one are no bytes with their sum; what is decoded bears its sum. -/
import Derived.Test.YtfipkljefmfhmaaPacketBack
namespace Go.Proofs.Ytfipkljefmfhmaa
set_option linter.unusedVariables false
set_option linter.unusedSimpArgs false

theorem summed_len (y : List UInt8) : (summed y).length = y.length + 2 := by unfold summed; rw [List.length_append, b2_len]
theorem b2_inj {a b : Nat} (ha : a < 65536) (hb : b < 65536) (h : b2 a = b2 b) : a = b := by
  rw [← numB_b2 a ha, h, numB_b2 b hb]
theorem one_other (y y' : List UInt8) (i : Nat) (c : UInt8) (hi : i < (summed y).length) (hne : (summed y)[i]? ≠ some c) : (summed y).set i c ≠ summed y' := by
  intro h
  have hl := congrArg List.length h
  rw [List.length_set, summed_len, summed_len] at hl
  have hly : y.length = y'.length := by omega
  rw [summed_len] at hi
  by_cases hiy : i < y.length
  · have e : (summed y).set i c = y.set i c ++ b2 (crc y) := by
      unfold summed; rw [List.set_append_left _ _ hiy]
    rw [e] at h
    unfold summed at h
    obtain ⟨h1, h2⟩ := List.append_inj h (by rw [List.length_set]; exact hly)
    have h3 := b2_inj (crc_lt _) (crc_lt _) h2
    rw [← h1] at h3
    have ey : y = y.take i ++ y[i] :: y.drop (i + 1) := by
      rw [← List.drop_eq_getElem_cons hiy, List.take_append_drop]
    have es : y.set i c = y.take i ++ c :: y.drop (i + 1) := by
      rw [List.set_eq_take_append_cons_drop, if_pos hiy]
    have h4 : crc (y.take i ++ y[i] :: y.drop (i + 1)) = crc (y.take i ++ c :: y.drop (i + 1)) := by rw [← ey, ← es]; exact h3
    have h5 := crc_one _ _ _ _ h4
    apply hne
    unfold summed
    rw [List.getElem?_append_left hiy, List.getElem?_eq_getElem hiy, h5]
  · have e : (summed y).set i c = y ++ (b2 (crc y)).set (i - y.length) c := by
      unfold summed; rw [List.set_append_right _ _ (by omega)]
    rw [e] at h
    unfold summed at h
    obtain ⟨h1, h2⟩ := List.append_inj h hly
    rw [← h1] at h2
    apply hne
    unfold summed
    rw [List.getElem?_append_right (by omega)]
    have hj : i - y.length < ((b2 (crc y)).set (i - y.length) c).length := by rw [List.length_set, b2_len]; omega
    have h3 : ((b2 (crc y)).set (i - y.length) c)[i - y.length] = c := List.getElem_set_self _
    have h4 : ((b2 (crc y)).set (i - y.length) c)[i - y.length]? = (b2 (crc y))[i - y.length]? := by rw [h2]
    rw [List.getElem?_eq_getElem hj, h3] at h4
    exact h4.symm

theorem dec_summed (l : List UInt8) (h : decPF true l = 0) : ∃ y, l = summed y := ⟨_, (enc_dec l h).2.symm⟩
theorem decS_summed (l : List UInt8) (h : decSF true l = 0) : ∃ y, l = summed y := by
  unfold decSF at h
  by_cases hb : begF l 2 ≠ 0
  · rw [if_pos hb] at h; exact absurd h hb
  · rw [if_neg hb] at h
    by_cases hf : (readS true l).f ≠ 0
    · rw [if_pos hf] at h; exact absurd h hf
    · have hf0 : (readS true l).f = 0 := by simpa using hf
      have hb0 : begF l 2 = 0 := by simpa using hb
      have hl5 := begF_len hb0
      have hf1 : endF l (tkS true 2 (tkS true 2 (tkS true 2 (l.drop 5, false)))) (numB (tkB true 2 (tkS true 2 (tkS true 2 (l.drop 5, false))))) = 0 := by simpa only [readS] using hf0
      unfold endF at hf1
      by_cases hs : (tkS true 2 (tkS true 2 (tkS true 2 (l.drop 5, false)))).2 = true ∨ (tkS true 2 (tkS true 2 (tkS true 2 (l.drop 5, false)))).1 ≠ []
      · rw [if_pos hs] at hf1; omega
      · rw [if_neg hs] at hf1
        have hs1 : (tkS true 2 (tkS true 2 (tkS true 2 (l.drop 5, false)))).2 = false := by
          cases e : (tkS true 2 (tkS true 2 (tkS true 2 (l.drop 5, false)))).2
          · rfl
          · exact absurd (Or.inl e) hs
        have hs2 : (tkS true 2 (tkS true 2 (tkS true 2 (l.drop 5, false)))).1 = [] := by
          by_cases e : (tkS true 2 (tkS true 2 (tkS true 2 (l.drop 5, false)))).1 = []
          · exact e
          · exact absurd (Or.inr e) hs
        have hcrc : numB (tkB true 2 (tkS true 2 (tkS true 2 (l.drop 5, false)))) = crc (l.take (l.length - 2)) := by
          by_cases e : numB (tkB true 2 (tkS true 2 (tkS true 2 (l.drop 5, false)))) = crc (l.take (l.length - 2))
          · exact e
          · rw [if_pos e] at hf1; omega
        obtain ⟨q2, a2⟩ := tk_split _ _ _ hs1
        obtain ⟨q1, a1⟩ := tk_split _ _ _ a2
        obtain ⟨q0, a0⟩ := tk_split _ _ _ a1
        rw [hs2, List.append_nil] at q2
        rw [q2] at q1
        rw [q1] at q0
        have k2 := b2_two (tkB true 2 (tkS true 2 (tkS true 2 (l.drop 5, false)))) (tkB_len _ _ _)
        rw [hcrc] at k2
        have hl : l = (l.take 5 ++ tkB true 2 (l.drop 5, false) ++ tkB true 2 (tkS true 2 (l.drop 5, false))) ++ tkB true 2 (tkS true 2 (tkS true 2 (l.drop 5, false))) := by
          have e := (List.take_append_drop 5 l).symm
          have q0' : l.drop 5 = tkB true 2 (l.drop 5, false) ++ (tkB true 2 (tkS true 2 (l.drop 5, false)) ++ tkB true 2 (tkS true 2 (tkS true 2 (l.drop 5, false)))) := q0
          rw [List.append_assoc, List.append_assoc, ← q0']
          exact e
        generalize l.take 5 ++ tkB true 2 (l.drop 5, false) ++ tkB true 2 (tkS true 2 (l.drop 5, false)) = z at *
        rw [← k2] at hl
        have hz : l.take (l.length - 2) = z := by
          have hlen := congrArg List.length hl
          rw [List.length_append, b2_len] at hlen
          have hn : l.length - 2 = z.length := by omega
          rw [hn]
          generalize b2 (crc (List.take (l.length - 2) l)) = t at hl
          rw [hl]
          exact List.take_left
        rw [hz] at hl
        exact ⟨z, hl⟩
theorem err_found (y : List UInt8) (i : Nat) (c : UInt8) (hi : i < (summed y).length) (hne : (summed y)[i]? ≠ some c) : decPF true ((summed y).set i c) ≠ 0 ∧ decSF true ((summed y).set i c) ≠ 0 := by
  refine ⟨fun h => ?_, fun h => ?_⟩
  · obtain ⟨y', e⟩ := dec_summed _ h
    exact one_other y y' i c hi hne e
  · obtain ⟨y', e⟩ := decS_summed _ h
    exact one_other y y' i c hi hne e
end Go.Proofs.Ytfipkljefmfhmaa
