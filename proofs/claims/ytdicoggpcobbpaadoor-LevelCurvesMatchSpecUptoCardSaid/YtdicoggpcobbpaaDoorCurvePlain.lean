/- Texts of curves are read as they were written, and written as they were read: plain Lean. -/
import Derived.Test.YtdicoggpcobbpaaDoorCurveText
namespace Go.Proofs.YtdicoggpcobbpaaDoor
open Go.Lib
open Classical
set_option linter.unusedSimpArgs false

def pl (p : Int × Int) : List UInt8 := decDigits p.1.toNat ++ 58 :: decDigits p.2.toNat
theorem pieceT_list (p : Int × Int) : (pieceT p).data.toList = 32 :: pl p := by
  unfold pieceT pl
  rw [append_list, append_list, append_list, numT_list, numT_list]
  simp
theorem strTo_list (ps : List (Int × Int)) : ∀ b : ByteArray, (strTo b ps).data.toList = b.data.toList ++ ps.flatMap (fun p => 32 :: pl p) := by
  induction ps with
  | nil => intro b; simp [strTo]
  | cons p t ih =>
    intro b
    show (strTo (b ++ pieceT p) t).data.toList = _
    rw [ih, append_list, pieceT_list]
    simp
theorem join_flat (ps : List (Int × Int)) : ∀ a : List UInt8, joinW 32 (a :: ps.map pl) = a ++ ps.flatMap (fun p => 32 :: pl p) := by
  induction ps with
  | nil => intro a; simp [joinW]
  | cons p t ih =>
    intro a
    show a ++ 32 :: joinW 32 (pl p :: t.map pl) = _
    rw [ih]
    simp
theorem curveT_join (c : Cv) : (curveT c).data.toList = joinW 32 ((kindB c.kind.toNat).data.toList :: c.pts.map pl) := by
  rw [join_flat]
  exact strTo_list _ _
theorem pl_no (p : Int × Int) : ∀ x ∈ pl p, x ≠ 32 := by
  intro x hx
  unfold pl at hx
  rcases List.mem_append.1 hx with h | h
  · exact dig_ne (dd_digits _ x h) 32 (.inl (by decide))
  · rcases List.mem_cons.1 h with rfl | h
    · decide
    · exact dig_ne (dd_digits _ x h) 32 (.inl (by decide))
theorem kindB_no (k : Nat) : ∀ x ∈ (kindB k).data.toList, x ≠ 32 := by
  unfold kindB
  split <;> decide
theorem pl_pair (y : ByteArray) (p : Int × Int) (hp : inMil p) (e : y.data.toList = pl p) : PairOk 58 y ∧ pairV 58 y = p := by
  obtain ⟨⟨a0, a1⟩, b0, b1⟩ := hp
  obtain ⟨h1, h2, h3⟩ := cut_at (s := y) (c := 58) e (dd_ne58 _)
  obtain ⟨h4, h5⟩ := nums_dd _ _ 8 h2 (by omega)
  obtain ⟨h6, h7⟩ := nums_dd _ _ 8 h3 (by omega)
  refine ⟨⟨by omega, h4, h6⟩, ?_⟩
  unfold pairV
  rw [h5, h7]
  obtain ⟨x, z⟩ := p
  have ex : ((x.toNat : Nat) : Int) = x := Int.toNat_of_nonneg a0
  have ez : ((z.toNat : Nat) : Int) = z := Int.toNat_of_nonneg b0
  show (((x.toNat : Nat) : Int), ((z.toNat : Nat) : Int)) = (x, z)
  rw [ex, ez]
theorem pair_pl (y : ByteArray) (h : PairOk 58 y) : y.data.toList = pl (pairV 58 y) := by
  obtain ⟨h1, h2, h3⟩ := h
  obtain ⟨e, _⟩ := cut_back h1
  unfold pl pairV
  rw [e, h2.canon, h3.canon]
  simp
/-- what is written is read -/
theorem text_read (c : Cv) (h : checkC c = 0) : readC (wordsB 32 (curveT c)) = c ∧ readE (wordsB 32 (curveT c)) = 0 := by
  have hr := right_of h
  have hw := wordsB_spl 32 (curveT c)
  rw [curveT_join, spl_join 32 _ (by simp) (by
    intro w hw x hx
    rcases List.mem_cons.1 hw with rfl | hw
    · exact kindB_no _ x hx
    · obtain ⟨p, _, rfl⟩ := List.mem_map.1 hw
      exact pl_no p x hx)] at hw
  cases hL : wordsB 32 (curveT c) with
  | nil => rw [hL] at hw; cases hw
  | cons x r =>
    rw [hL] at hw
    rw [List.map_cons] at hw
    obtain ⟨hx, hrr⟩ := List.cons.inj hw
    have hxe : x = kindB c.kind.toNat := bytes_eq' hx
    have hk : kindTo x 7 = c.kind := by
      rw [kindTo_hit x 7 c.kind.toNat (by omega) (by omega) (by omega) hxe.symm]
      omega
    have hall : (∀ y ∈ r, PairOk 58 y) ∧ r.map (pairV 58) = c.pts := by
      have hin := hr.2.2.2.2
      clear hL hw hr hk
      generalize c.pts = ps at hrr hin
      induction ps generalizing r with
      | nil =>
        obtain rfl : r = [] := List.map_eq_nil_iff.1 hrr
        exact ⟨by simp, rfl⟩
      | cons p t ih =>
        cases r with
        | nil => cases hrr
        | cons y u =>
          rw [List.map_cons, List.map_cons] at hrr
          obtain ⟨h1, h2⟩ := List.cons.inj hrr
          obtain ⟨k1, k2⟩ := pl_pair y p (hin p (by simp)) h1
          obtain ⟨k3, k4⟩ := ih u h2 (fun z hz => hin z (by simp [hz]))
          refine ⟨?_, by rw [List.map_cons, k2, k4]⟩
          intro z hz
          rcases List.mem_cons.1 hz with rfl | hz
          · exact k1
          · exact k3 z hz
    have hg : GoodW (x :: r) := ⟨x, r, rfl, by rw [hk]; exact hr.1, by
      by_cases h6 : c.kind = 6
      · exact .inl (by rw [hk]; exact h6)
      · right
        have h0 := hr.2.2.1 h6
        rw [h0] at hrr
        exact List.map_eq_nil_iff.1 hrr, hall.1⟩
    have hc : rawC (x :: r) = c := by
      show (⟨kindTo x 7, r.map (pairV 58)⟩ : Cv) = c
      rw [hk, hall.2]
    unfold readC readE
    rw [hc, if_pos ⟨hg, h⟩, if_pos hg]
    exact ⟨rfl, h⟩
theorem kindTo_some (x : ByteArray) (k : Nat) (h : 1 ≤ kindTo x k) : ∃ j, 1 ≤ j ∧ j ≤ 6 ∧ kindB j = x ∧ kindTo x k = j := by
  by_cases hh : ∃ j, 1 ≤ j ∧ j < k ∧ j ≤ 6 ∧ kindB j = x
  · obtain ⟨j, a, b, c, d⟩ := hh
    exact ⟨j, a, c, d, kindTo_hit x k j a b c d⟩
  · rw [kindTo_miss x k (fun j a b c d => hh ⟨j, a, b, c, d⟩)] at h
    omega
/-- what is read is what is written -/
theorem read_text (s : ByteArray) (h : readE (wordsB 32 s) = 0) : checkC (readC (wordsB 32 s)) = 0 ∧ curveT (readC (wordsB 32 s)) = s := by
  unfold readE at h
  by_cases hg : GoodW (wordsB 32 s)
  · rw [if_pos hg] at h
    have e : readC (wordsB 32 s) = rawC (wordsB 32 s) := by unfold readC; rw [if_pos ⟨hg, h⟩]
    rw [e]
    refine ⟨h, ?_⟩
    obtain ⟨x, r, hL, h1, _, h3⟩ := hg
    have hw := wordsB_spl 32 s
    rw [hL] at hw ⊢
    obtain ⟨j, _, j6, hj, hk⟩ := kindTo_some x 7 h1
    apply bytes_eq'
    rw [curveT_join]
    have hpts : ∀ r : List ByteArray, (∀ y ∈ r, PairOk 58 y) → (r.map (pairV 58)).map pl = r.map (·.data.toList) := by
      intro r hr
      rw [List.map_map]
      exact List.map_congr_left (fun y hy => (pair_pl y (hr y hy)).symm)
    show joinW 32 ((kindB (kindTo x 7).toNat).data.toList :: (r.map (pairV 58)).map pl) = _
    rw [hk, show ((j : Nat) : Int).toNat = j by simp, hj, hpts r h3]
    rw [← join_spl 32 _ s.data.toList (Nat.le_refl _), ← hw, List.map_cons]
  · rw [if_neg hg] at h
    omega
theorem read_none (L : List ByteArray) (h : readE L ≠ 0) : readC L = ⟨0, []⟩ := by
  unfold readE at h
  unfold readC
  rw [if_neg]
  rintro ⟨hg, hc⟩
  rw [if_pos hg] at h
  exact h hc
theorem flip_flip (p : Int × Int) : flip (flip p) = p := by
  obtain ⟨a, b⟩ := p
  unfold flip
  show (1000 - (1000 - a), 1000 - (1000 - b)) = (a, b)
  rw [show 1000 - (1000 - a) = a by omega, show 1000 - (1000 - b) = b by omega]
theorem invPts_twice (l : List (Int × Int)) : invPts (invPts l) = l := by
  unfold invPts
  rw [List.map_reverse, List.reverse_reverse, List.map_map]
  have : (flip ∘ flip) = id := funext flip_flip
  rw [this, List.map_id]
theorem invC_twice (c : Cv) : invC (invC c) = c := by
  obtain ⟨k, l⟩ := c
  unfold invC
  simp only [invPts_twice]
  by_cases h2 : k = 2
  · subst h2; rfl
  · by_cases h3 : k = 3
    · subst h3; rfl
    · simp [h2, h3]
theorem inv_back (c : Cv) (h : invE c = 0) : checkC c = 0 ∧ invR c = invC c ∧ invE (invC c) = 0 ∧ invR (invC c) = c := by
  unfold invE at h
  by_cases hk : checkC c = 0
  · rw [if_neg (fun k => k hk)] at h
    by_cases h5 : c.kind = 5
    · rw [if_pos h5] at h; omega
    · have hr := (checkC_right c).1 hk
      have hr2 := (checkC_right _).2 (right_inv c hr h5)
      have h5' : (invC c).kind ≠ 5 := by
        show (if c.kind = 2 then 3 else if c.kind = 3 then 2 else c.kind) ≠ 5
        by_cases h2 : c.kind = 2
        · rw [if_pos h2]; omega
        · rw [if_neg h2]
          by_cases h3 : c.kind = 3
          · rw [if_pos h3]; omega
          · rw [if_neg h3]; exact h5
      refine ⟨hk, by unfold invR; rw [if_neg (fun k => k hk), if_neg h5], by unfold invE; rw [if_neg (fun k => k hr2), if_neg h5'], ?_⟩
      unfold invR
      rw [if_neg (fun k => k hr2), if_neg h5', invC_twice]
  · rw [if_pos hk] at h; exact absurd h hk
theorem inv_none (c : Cv) (h : invE c ≠ 0) : invR c = ⟨0, []⟩ := by
  unfold invE at h
  unfold invR
  by_cases hk : checkC c = 0
  · rw [if_neg (fun k => k hk)] at h ⊢
    by_cases h5 : c.kind = 5
    · rw [if_pos h5]
    · rw [if_neg h5] at h; exact absurd rfl h
  · rw [if_pos hk]
theorem curveT_le (c : Cv) (h : checkC c = 0) : (curveT c).size ≤ 1000 := by
  have hr := right_of h
  have := strTo_le (kindB c.kind.toNat) c.pts hr.2.2.2.2 c.pts.length (Nat.le_refl _)
  rw [List.take_length] at this
  have := kindB_le c.kind.toNat
  have := hr.2.2.2.1
  unfold curveT
  omega
end Go.Proofs.YtdicoggpcobbpaaDoor
