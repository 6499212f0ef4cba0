/- Plain laws of packets: what is written is read, and what is read is written. -/
import Derived.Test.YtfipkljefmfhmaaDecodeP
namespace Go.Proofs.Ytfipkljefmfhmaa
set_option linter.unusedVariables false
set_option linter.unusedSimpArgs false

theorem tk_app (k : Bool) (x y : List UInt8) (sh : Bool) (n : Nat) (hn : x.length = n) : tkB k n (x ++ y, sh) = x ∧ tkS k n (x ++ y, sh) = (y, sh) := by
  subst hn
  unfold tkB tkS
  have h : x.length ≤ (x ++ y).length := by rw [List.length_append]; omega
  rw [if_pos h, if_pos h]
  exact ⟨List.take_left, by rw [List.drop_left]⟩
theorem tk_split (k : Bool) (n : Nat) (s : RSt) (h : (tkS k n s).2 = false) : s.1 = tkB k n s ++ (tkS k n s).1 ∧ s.2 = false := by
  obtain ⟨h1, h2⟩ := tkS_short h
  refine ⟨?_, h1⟩
  unfold tkB tkS
  rw [if_pos h2, if_pos h2]
  exact (List.take_append_drop n s.1).symm
theorem numB_one (a : UInt8) : numB [a] = a.toNat := by simp [numB]
theorem ofNat_one (l : List UInt8) (h : l.length = 1) : [UInt8.ofNat (numB l)] = l := by
  match l, h with
  | [a], _ => rw [numB_one]; simp
theorem b2_two (l : List UInt8) (h : l.length = 2) : b2 (numB l) = l := by
  match l, h with
  | [a, b], _ => exact b2_numB a b

theorem drop5 (l : List UInt8) : headB ++ [1] ++ l = 67 :: 89 :: 67 :: 49 :: 1 :: l := rfl

theorem numB_ofNat (n : Nat) (h : n ≤ 255) : numB [UInt8.ofNat n] = n := by
  rw [numB_one, UInt8.toNat_ofNat']; omega

theorem encP_len (src pri seq uni syn : Nat) (en : Bool) (nm m : List UInt8) : (encP src pri seq uni syn en nm m).length = 18 + nm.length + m.length := by
  simp [encP, summed, bodyP, headB, b2, mid3, flg]; omega

theorem read_parts (k : Bool) (l p1 p2 p3 p4 p5 p6 p7 p8 p9 p10 p11 : List UInt8) (hd : l.drop 5 = p1 ++ (p2 ++ (p3 ++ (p4 ++ (p5 ++ (p6 ++ (p7 ++ (p8 ++ (p9 ++ (p10 ++ p11))))))))))
    (l1 : p1.length = 2) (l2 : p2.length = 1) (l3 : p3.length = 1) (l4 : p4.length = 1) (l5 : p5.length = 2) (l6 : p6.length = 1) (l7 : p7.length = 1) (l8 : p8.length = numB p7) (l9 : p9.length = 2) (l10 : p10.length = numB p9) (l11 : p11.length = 2) :
    readP k l = ⟨numB p1, numB p2, numB p3, numB p4, numB p5, numB p6, p8, p10, if numB p11 ≠ crc (l.take (l.length - 2)) then 15 else 0⟩ := by
  obtain ⟨t9, h9⟩ : ∃ t, t = p10 ++ p11 := ⟨_, rfl⟩
  obtain ⟨t8, h8⟩ : ∃ t, t = p9 ++ t9 := ⟨_, rfl⟩
  obtain ⟨t7, h7⟩ : ∃ t, t = p8 ++ t8 := ⟨_, rfl⟩
  obtain ⟨t6, h6⟩ : ∃ t, t = p7 ++ t7 := ⟨_, rfl⟩
  obtain ⟨t5, h5⟩ : ∃ t, t = p6 ++ t6 := ⟨_, rfl⟩
  obtain ⟨t4, h4⟩ : ∃ t, t = p5 ++ t5 := ⟨_, rfl⟩
  obtain ⟨t3, h3⟩ : ∃ t, t = p4 ++ t4 := ⟨_, rfl⟩
  obtain ⟨t2, h2⟩ : ∃ t, t = p3 ++ t3 := ⟨_, rfl⟩
  obtain ⟨t1, h1⟩ : ∃ t, t = p2 ++ t2 := ⟨_, rfl⟩
  rw [← h9, ← h8, ← h7, ← h6, ← h5, ← h4, ← h3, ← h2, ← h1] at hd
  have e0 := tk_app k p1 t1 false 2 l1
  have r1 : rd1 k l = (t1, false) := by unfold rd1; rw [hd]; exact e0.2
  have e1 := tk_app k p2 t2 false 1 l2
  rw [← h1] at e1
  have r2 : rd2 k l = (t2, false) := by unfold rd2; rw [r1]; exact e1.2
  have e2 := tk_app k p3 t3 false 1 l3
  rw [← h2] at e2
  have r3 : rd3 k l = (t3, false) := by unfold rd3; rw [r2]; exact e2.2
  have e3 := tk_app k p4 t4 false 1 l4
  rw [← h3] at e3
  have r4 : rd4 k l = (t4, false) := by unfold rd4; rw [r3]; exact e3.2
  have e4 := tk_app k p5 t5 false 2 l5
  rw [← h4] at e4
  have r5 : rd5 k l = (t5, false) := by unfold rd5; rw [r4]; exact e4.2
  have e5 := tk_app k p6 t6 false 1 l6
  rw [← h5] at e5
  have r6 : rd6 k l = (t6, false) := by unfold rd6; rw [r5]; exact e5.2
  have e6 := tk_app k p7 t7 false 1 l7
  rw [← h6] at e6
  have r7 : rd7 k l = (t7, false) := by unfold rd7; rw [r6]; exact e6.2
  have hn : nmL k l = numB p7 := by unfold nmL; rw [r6, e6.1]
  have e7 := tk_app k p8 t8 false (numB p7) l8
  rw [← h7] at e7
  have r8 : rd8 k l = (t8, false) := by unfold rd8; rw [r7, hn]; exact e7.2
  have e8 := tk_app k p9 t9 false 2 l9
  rw [← h8] at e8
  have r9 : rd9 k l = (t9, false) := by unfold rd9; rw [r8]; exact e8.2
  have hs : slL k l = numB p9 := by unfold slL; rw [r8, e8.1]
  have e9 := tk_app k p10 p11 false (numB p9) l10
  rw [← h9] at e9
  have r10 : rd10 k l = (p11, false) := by unfold rd10; rw [r9, hs]; exact e9.2
  have e10 := tk_app k p11 [] false 2 l11
  rw [List.append_nil] at e10
  have hf : endF l (tkS k 2 (rd10 k l)) (numB (tkB k 2 (rd10 k l))) = if numB p11 ≠ crc (l.take (l.length - 2)) then 15 else 0 := by
    rw [r10, e10.1, e10.2]
    unfold endF
    rw [if_neg (by simp)]
  unfold readP
  rw [hf, hd, r1, r2, r3, r4, r5, r7, r9, hn, hs, e0.1, e1.1, e2.1, e3.1, e4.1, e5.1, e7.1, e9.1]

theorem read_enc (k : Bool) (src pri seq uni syn : Nat) (en : Bool) (nm m : List UInt8) (h1 : src ≤ 65535) (h2 : pri ≤ 255) (h3 : seq ≤ 255) (h4 : uni ≤ 255) (h5 : syn ≤ 65535) (h6 : nm.length ≤ 255) (h7 : m.length ≤ 65535) :
    readP k (encP src pri seq uni syn en nm m) = ⟨src, pri, seq, uni, syn, if en then 1 else 0, nm, m, 0⟩ := by
  have hc := crc_lt (bodyP src pri seq uni syn en nm m)
  have ht : (encP src pri seq uni syn en nm m).take ((encP src pri seq uni syn en nm m).length - 2) = bodyP src pri seq uni syn en nm m := by
    unfold encP summed
    rw [List.length_append, b2_len, Nat.add_sub_cancel, List.take_left]
  have hd : (encP src pri seq uni syn en nm m).drop 5 = b2 src ++ ([UInt8.ofNat pri] ++ ([UInt8.ofNat seq] ++ ([UInt8.ofNat uni] ++ (b2 syn ++ ([if en then 1 else 0] ++ ([UInt8.ofNat nm.length] ++ (nm ++ (b2 m.length ++ (m ++ b2 (crc (bodyP src pri seq uni syn en nm m))))))))))) := by
    unfold encP summed
    generalize crc (bodyP src pri seq uni syn en nm m) = c
    simp [bodyP, headB, mid3, flg]
  rw [read_parts k _ _ _ _ _ _ _ _ _ _ _ _ hd rfl rfl rfl rfl rfl rfl rfl (numB_ofNat _ h6).symm rfl (numB_b2 _ (by omega)).symm rfl, ht, numB_b2 _ hc, numB_b2 _ (by omega), numB_ofNat _ h2, numB_ofNat _ h3, numB_ofNat _ h4, numB_b2 _ (by omega), numB_one]
  have hcc : (if crc (bodyP src pri seq uni syn en nm m) ≠ crc (bodyP src pri seq uni syn en nm m) then (15 : Int) else 0) = 0 := if_neg (fun h => h rfl)
  rw [hcc]
  cases en <;> rfl

theorem begF_enc (src pri seq uni syn : Nat) (en : Bool) (nm m : List UInt8) (h6 : nm.length ≤ 20) (h7 : m.length ≤ 512) : begF (encP src pri seq uni syn en nm m) 1 = 0 := by
  have hl := encP_len src pri seq uni syn en nm m
  unfold begF
  rw [if_neg (by omega), if_neg]
  · rw [if_neg]
    simp [encP, summed, bodyP, headB]
  · rintro (h | h)
    · omega
    · apply h
      simp [encP, summed, bodyP, headB]

theorem dec_enc (k : Bool) (src pri seq uni syn : Nat) (en : Bool) (nm m : List UInt8) (h : chkP src pri seq uni syn nm en m.length = 0) :
    decPF k (encP src pri seq uni syn en nm m) = 0 ∧ readP k (encP src pri seq uni syn en nm m) = ⟨src, pri, seq, uni, syn, if en then 1 else 0, nm, m, 0⟩ := by
  obtain ⟨g1, g2, g3, g4, g5, g6, g7, g8, g9⟩ := chkP_zero h
  have hr := read_enc k src pri seq uni syn en nm m (by omega) (by omega) (by omega) (by omega) (by omega) (by omega) (by omega)
  refine ⟨?_, hr⟩
  unfold decPF
  rw [begF_enc _ _ _ _ _ _ _ _ g7 g8, hr]
  cases en
  · simpa using h
  · simpa using h

/-- what is read is written -/
theorem enc_dec (l : List UInt8) (h : decPF true l = 0) :
    chkP (readP true l).src (readP true l).pri (readP true l).seq (readP true l).uni (readP true l).syn (readP true l).name ((readP true l).flags == 1) (readP true l).slots.length = 0 ∧
    encP (readP true l).src (readP true l).pri (readP true l).seq (readP true l).uni (readP true l).syn ((readP true l).flags == 1) (readP true l).name (readP true l).slots = l := by
  unfold decPF at h
  by_cases hb : begF l 1 ≠ 0
  · rw [if_pos hb] at h; exact absurd h hb
  · rw [if_neg hb] at h
    by_cases hf : (readP true l).f ≠ 0
    · rw [if_pos hf] at h; exact absurd h hf
    · rw [if_neg hf] at h
      by_cases hg : 1 < (readP true l).flags
      · rw [if_pos hg] at h; omega
      · rw [if_neg hg] at h
        refine ⟨h, ?_⟩
        have hb0 : begF l 1 = 0 := by simpa using hb
        have hf0 : (readP true l).f = 0 := by simpa using hf
        -- the head
        have hl5 := begF_len hb0
        unfold begF at hb0
        by_cases h6 : 600 < l.length
        · rw [if_pos h6] at hb0; omega
        · rw [if_neg h6] at hb0
          by_cases h5 : l.length < 5 ∨ l.take 4 ≠ headB
          · rw [if_pos h5] at hb0; omega
          · rw [if_neg h5] at hb0
            have ht4 : l.take 4 = headB := by
              by_cases e : l.take 4 = headB
              · exact e
              · exact absurd (Or.inr e) h5
            have h4 : (l.getD 4 0).toNat = 1 := by
              by_cases e : (l.getD 4 0).toNat = 1
              · exact e
              · rw [if_pos e] at hb0; omega
            have hhead : l = headB ++ [1] ++ l.drop 5 := by
              have e1 : l = l.take 4 ++ l.drop 4 := (List.take_append_drop 4 l).symm
              have e2 : l.drop 4 = l.getD 4 0 :: l.drop 5 := by
                rw [List.drop_eq_getElem_cons (by omega), List.getD_eq_getElem?_getD, List.getElem?_eq_getElem (by omega)]; rfl
              have e3 : l.getD 4 0 = 1 := by
                apply UInt8.toNat_inj.1; rw [h4]; rfl
              rw [e2, e3, ht4] at e1
              rw [e1]
              simp [headB]
            -- the pieces
            rw [readP_f] at hf0
            unfold endF at hf0
            by_cases hs : (tkS true 2 (rd10 true l)).2 = true ∨ (tkS true 2 (rd10 true l)).1 ≠ []
            · rw [if_pos hs] at hf0; omega
            · rw [if_neg hs] at hf0
              have hs1 : (tkS true 2 (rd10 true l)).2 = false := by
                cases e : (tkS true 2 (rd10 true l)).2
                · rfl
                · exact absurd (Or.inl e) hs
              have hs2 : (tkS true 2 (rd10 true l)).1 = [] := by
                by_cases e : (tkS true 2 (rd10 true l)).1 = []
                · exact e
                · exact absurd (Or.inr e) hs
              have hcrc : numB (tkB true 2 (rd10 true l)) = crc (l.take (l.length - 2)) := by
                by_cases e : numB (tkB true 2 (rd10 true l)) = crc (l.take (l.length - 2))
                · exact e
                · rw [if_pos e] at hf0; omega
              obtain ⟨q10, a10⟩ := tk_split _ _ _ hs1
              rw [hs2, List.append_nil] at q10
              obtain ⟨q9, a9⟩ := tk_split _ _ (rd9 true l) (show (tkS true (slL true l) (rd9 true l)).2 = false from a10)
              obtain ⟨q8, a8⟩ := tk_split _ _ (rd8 true l) (show (tkS true 2 (rd8 true l)).2 = false from a9)
              obtain ⟨q7, a7⟩ := tk_split _ _ (rd7 true l) (show (tkS true (nmL true l) (rd7 true l)).2 = false from a8)
              obtain ⟨q6, a6⟩ := tk_split _ _ (rd6 true l) (show (tkS true 1 (rd6 true l)).2 = false from a7)
              obtain ⟨q5, a5⟩ := tk_split _ _ (rd5 true l) (show (tkS true 1 (rd5 true l)).2 = false from a6)
              obtain ⟨q4, a4⟩ := tk_split _ _ (rd4 true l) (show (tkS true 2 (rd4 true l)).2 = false from a5)
              obtain ⟨q3, a3⟩ := tk_split _ _ (rd3 true l) (show (tkS true 1 (rd3 true l)).2 = false from a4)
              obtain ⟨q2, a2⟩ := tk_split _ _ (rd2 true l) (show (tkS true 1 (rd2 true l)).2 = false from a3)
              obtain ⟨q1, a1⟩ := tk_split _ _ (rd1 true l) (show (tkS true 1 (rd1 true l)).2 = false from a2)
              obtain ⟨q0, a0⟩ := tk_split true 2 (l.drop 5, false) (show (tkS true 2 (l.drop 5, false)).2 = false from a1)
              change (rd9 true l).1 = _ ++ (rd10 true l).1 at q9
              change (rd8 true l).1 = _ ++ (rd9 true l).1 at q8
              change (rd7 true l).1 = _ ++ (rd8 true l).1 at q7
              change (rd6 true l).1 = _ ++ (rd7 true l).1 at q6
              change (rd5 true l).1 = _ ++ (rd6 true l).1 at q5
              change (rd4 true l).1 = _ ++ (rd5 true l).1 at q4
              change (rd3 true l).1 = _ ++ (rd4 true l).1 at q3
              change (rd2 true l).1 = _ ++ (rd3 true l).1 at q2
              change (rd1 true l).1 = _ ++ (rd2 true l).1 at q1
              change l.drop 5 = _ ++ (rd1 true l).1 at q0
              have k0 := b2_two (tkB true 2 (l.drop 5, false)) (tkB_len _ _ _)
              have k1 := ofNat_one (tkB true 1 (rd1 true l)) (tkB_len _ _ _)
              have k2 := ofNat_one (tkB true 1 (rd2 true l)) (tkB_len _ _ _)
              have k3 := ofNat_one (tkB true 1 (rd3 true l)) (tkB_len _ _ _)
              have k4 := b2_two (tkB true 2 (rd4 true l)) (tkB_len _ _ _)
              have k5 := ofNat_one (tkB true 1 (rd5 true l)) (tkB_len _ _ _)
              have k6 := ofNat_one (tkB true 1 (rd6 true l)) (tkB_len _ _ _)
              have k8 := b2_two (tkB true 2 (rd8 true l)) (tkB_len _ _ _)
              have k10 := b2_two (tkB true 2 (rd10 true l)) (tkB_len _ _ _)
              have n7 : (tkB true (nmL true l) (rd7 true l)).length = nmL true l := tkB_len _ _ _
              have n9 : (tkB true (slL true l) (rd9 true l)).length = slL true l := tkB_len _ _ _
              have hall : l.drop 5 = tkB true 2 (l.drop 5, false) ++ (tkB true 1 (rd1 true l) ++ (tkB true 1 (rd2 true l) ++ (tkB true 1 (rd3 true l) ++ (tkB true 2 (rd4 true l) ++ (tkB true 1 (rd5 true l) ++ (tkB true 1 (rd6 true l) ++ (tkB true (nmL true l) (rd7 true l) ++ (tkB true 2 (rd8 true l) ++ (tkB true (slL true l) (rd9 true l) ++ tkB true 2 (rd10 true l)))))))))) := by
                rw [q10] at q9
                rw [q9] at q8
                rw [q8] at q7
                rw [q7] at q6
                rw [q6] at q5
                rw [q5] at q4
                rw [q4] at q3
                rw [q3] at q2
                rw [q2] at q1
                rw [q1] at q0
                exact q0
              have hflag : [if ((readP true l).flags == 1) then (1 : UInt8) else 0] = tkB true 1 (rd5 true l) := by
                have hfl : (readP true l).flags = numB (tkB true 1 (rd5 true l)) := by simp only [readP]
                rw [← k5, hfl]
                rw [hfl] at hg
                by_cases e : numB (tkB true 1 (rd5 true l)) = 1
                · rw [e]; rfl
                · have e0 : numB (tkB true 1 (rd5 true l)) = 0 := by omega
                  rw [e0]; rfl
              have hbody : bodyP (readP true l).src (readP true l).pri (readP true l).seq (readP true l).uni (readP true l).syn ((readP true l).flags == 1) (readP true l).name (readP true l).slots ++ tkB true 2 (rd10 true l) = l := by
                unfold bodyP flg mid3
                have e : [if ((readP true l).flags == 1) = true then (1 : UInt8) else 0, UInt8.ofNat (readP true l).name.length] = [if ((readP true l).flags == 1) = true then (1 : UInt8) else 0] ++ [UInt8.ofNat (readP true l).name.length] := rfl
                have e3 : ∀ a b c : UInt8, [a, b, c] = [a] ++ ([b] ++ [c]) := fun _ _ _ => rfl
                rw [e, e3, hflag]
                simp only [readP]
                rw [n7, n9]
                unfold nmL slL
                rw [k0, k1, k2, k3, k4, k6, k8]
                have hh := hhead
                rw [hall] at hh
                unfold nmL slL at hh
                simp only [List.append_assoc] at hh ⊢
                exact hh.symm
              have hbl : bodyP (readP true l).src (readP true l).pri (readP true l).seq (readP true l).uni (readP true l).syn ((readP true l).flags == 1) (readP true l).name (readP true l).slots = l.take (l.length - 2) := by
                have hlen := congrArg List.length hbody
                rw [List.length_append, tkB_len] at hlen
                have := congrArg (List.take (l.length - 2)) hbody
                rw [List.take_append_of_le_length (by omega), List.take_of_length_le (by omega)] at this
                exact this
              unfold encP summed
              rw [hbl, ← hcrc, k10, ← hbl, hbody]
end Go.Proofs.Ytfipkljefmfhmaa
