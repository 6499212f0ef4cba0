/- Plain laws of packets and syncs: what is read, by what is written. No program in sight. -/
import Derived.Test.YtfipkljefmfhmaaCrcPlain
namespace Go.Proofs.Ytfipkljefmfhmaa
/-- the two bytes of a number -/
def b2 (n : Nat) : List UInt8 := [UInt8.ofNat (n / 256), UInt8.ofNat n]
/-- bytes with their sum behind them -/
def summed (l : List UInt8) : List UInt8 := l ++ b2 (crc l)
def headB : List UInt8 := [67, 89, 67, 49]
/-- the number of some bytes -/
def numB (l : List UInt8) : Nat := l.foldl (fun n b => n * 256 + b.toNat) 0
theorem b2_len (n : Nat) : (b2 n).length = 2 := rfl
theorem numB_b2 (n : Nat) (h : n < 65536) : numB (b2 n) = n := by
  simp [numB, b2, UInt8.toNat_ofNat']
  omega
theorem b2_numB (a b : UInt8) : b2 (numB [a, b]) = [a, b] := by
  have h1 := a.toNat_lt
  have h2 := b.toNat_lt
  simp only [numB, b2, List.foldl_cons, List.foldl_nil]
  have e1 : (0 * 256 + a.toNat) * 256 + b.toNat = a.toNat * 256 + b.toNat := by omega
  rw [e1]
  congr 1
  · apply UInt8.toNat_inj.1
    rw [UInt8.toNat_ofNat']; omega
  · congr 1
    apply UInt8.toNat_inj.1
    rw [UInt8.toNat_ofNat']; omega
theorem numB_two_lt (l : List UInt8) (h : l.length ≤ 2) : numB l ≤ 65535 := by
  match l, h with
  | [], _ => simp [numB]
  | [a], _ => have := a.toNat_lt; simp [numB]; omega
  | [a, b], _ => have := a.toNat_lt; have := b.toNat_lt; simp [numB]; omega
theorem numB_one_lt (l : List UInt8) (h : l.length ≤ 1) : numB l ≤ 255 := by
  match l, h with
  | [], _ => simp [numB]
  | [a], _ => have := a.toNat_lt; simp [numB]; omega
theorem numB_snoc (l : List UInt8) (b : UInt8) : numB (l ++ [b]) = numB l * 256 + b.toNat := by simp [numB]

/-- a reader's state: what is left, and whether it was too short -/
abbrev RSt := List UInt8 × Bool
/-- so many bytes are taken; 'keep': what is left stays behind a short take -/
def tkB (_keep : Bool) (n : Nat) (s : RSt) : List UInt8 := if n ≤ s.1.length then s.1.take n else List.replicate n 0
def tkS (keep : Bool) (n : Nat) (s : RSt) : RSt := if n ≤ s.1.length then (s.1.drop n, s.2) else (if keep then s.1 else [], true)
theorem tkB_len (k : Bool) (n : Nat) (s : RSt) : (tkB k n s).length = n := by
  unfold tkB; split
  · simp; omega
  · simp
/-- both makes of readers are in like states -/
def Like (s t : RSt) : Prop := s.2 = t.2 ∧ (s.2 = false → s = t)
theorem Like.refl (s : RSt) : Like s s := ⟨rfl, fun _ => rfl⟩
theorem Like.tk {s t : RSt} (h : Like s t) (n m : Nat) (hn : s.2 = false → n = m) : Like (tkS true n s) (tkS false m t) ∧ ((tkS true n s).2 = false → tkB true n s = tkB false m t) := by
  obtain ⟨h1, h2⟩ := h
  by_cases hs : s.2 = false
  · obtain rfl := h2 hs
    obtain rfl := hn hs
    unfold tkS tkB
    split
    · exact ⟨⟨rfl, fun _ => rfl⟩, fun _ => rfl⟩
    · exact ⟨⟨rfl, fun h => by simp at h⟩, fun _ => rfl⟩
  · have hs1 : s.2 = true := by simpa using hs
    have ht1 : t.2 = true := by rw [← h1]; exact hs1
    have g1 : (tkS true n s).2 = true := by unfold tkS; split <;> simp [hs1]
    have g2 : (tkS false m t).2 = true := by unfold tkS; split <;> simp [ht1]
    exact ⟨⟨by rw [g1, g2], fun h => by rw [g1] at h; cases h⟩, fun h => by rw [g1] at h; cases h⟩
theorem tkS_short {k : Bool} {n : Nat} {s : RSt} (h : (tkS k n s).2 = false) : s.2 = false ∧ n ≤ s.1.length := by
  unfold tkS at h
  split at h
  · exact ⟨h, by assumption⟩
  · simp at h

/-- the fault of the beginning -/
def begF (l : List UInt8) (k : Nat) : Int := if 600 < l.length then 2 else if l.length < 5 ∨ l.take 4 ≠ headB then 9 else if (l.getD 4 0).toNat ≠ k then 4 else 0
/-- the fault of the end, with the number of the sum -/
def endF (l : List UInt8) (s : RSt) (sum : Nat) : Int := if s.2 = true ∨ s.1 ≠ [] then 9 else if sum ≠ crc (l.take (l.length - 2)) then 15 else 0

/-- a sync that is read -/
structure SyncR where
  s : Nat
  g : Nat
  f : Int
def readS (k : Bool) (l : List UInt8) : SyncR :=
  let r0 : RSt := (l.drop 5, false)
  let r1 := tkS k 2 r0
  let r2 := tkS k 2 r1
  let r3 := tkS k 2 r2
  ⟨numB (tkB k 2 r0), numB (tkB k 2 r1), endF l r3 (numB (tkB k 2 r2))⟩
def decSF (k : Bool) (l : List UInt8) : Int :=
  if begF l 2 ≠ 0 then begF l 2 else if (readS k l).f ≠ 0 then (readS k l).f else if (readS k l).s = 0 ∨ (readS k l).g = 0 then 1 else 0
def decS1 (k : Bool) (l : List UInt8) : Nat := if decSF k l = 0 then (readS k l).s else 0
def decS2 (k : Bool) (l : List UInt8) : Nat := if decSF k l = 0 then (readS k l).g else 0

theorem readS_like (l : List UInt8) : (readS true l).f = (readS false l).f ∧ ((readS true l).f = 0 → (readS true l) = (readS false l)) := by
  have h0 : Like (l.drop 5, false) (l.drop 5, false) := Like.refl _
  have h1 := h0.tk 2 2 (fun _ => rfl)
  have h2 := h1.1.tk 2 2 (fun _ => rfl)
  have h3 := h2.1.tk 2 2 (fun _ => rfl)
  unfold readS
  simp only
  generalize e1 : tkS true 2 (l.drop 5, false) = r1 at *
  generalize e1' : tkS false 2 (l.drop 5, false) = q1 at *
  generalize e2 : tkS true 2 r1 = r2 at *
  generalize e2' : tkS false 2 q1 = q2 at *
  generalize e3 : tkS true 2 r2 = r3 at *
  generalize e3' : tkS false 2 q2 = q3 at *
  by_cases hs : r3.2 = false
  · have a2 := tkS_short (by rw [e3]; exact hs)
    have a1 := tkS_short (by rw [e2]; exact a2.1)
    obtain rfl := h3.1.2 hs
    have b1 := h1.2 a1.1
    have b2 := h2.2 a2.1
    have b3 := h3.2 hs
    rw [b1, b2, b3]
    exact ⟨rfl, fun _ => rfl⟩
  · have hs1 : r3.2 = true := by simpa using hs
    have ht1 : q3.2 = true := by rw [← h3.1.1]; exact hs1
    have f1 : ∀ n, endF l r3 n = 9 := fun n => by unfold endF; rw [if_pos (Or.inl hs1)]
    have f2 : ∀ n, endF l q3 n = 9 := fun n => by unfold endF; rw [if_pos (Or.inl ht1)]
    rw [f1, f2]
    exact ⟨rfl, fun h => by simp at h⟩
theorem decS_like (l : List UInt8) : decSF true l = decSF false l ∧ decS1 true l = decS1 false l ∧ decS2 true l = decS2 false l := by
  obtain ⟨h1, h2⟩ := readS_like l
  have h : decSF true l = decSF false l := by
    unfold decSF
    by_cases hb : begF l 2 ≠ 0
    · rw [if_pos hb, if_pos hb]
    · rw [if_neg hb, if_neg hb]
      by_cases hf : (readS true l).f = 0
      · rw [h2 hf]
      · rw [if_pos hf, if_pos (by rw [← h1]; exact hf), h1]
  refine ⟨h, ?_, ?_⟩
  all_goals
    first | unfold decS1 | unfold decS2
    rw [h]
    by_cases hz : decSF false l = 0
    · rw [if_pos hz, if_pos hz]
      have : (readS true l).f = 0 := by
        rw [h1]
        unfold decSF at hz
        by_cases hb : begF l 2 ≠ 0
        · rw [if_pos hb] at hz; exact absurd hz hb
        · rw [if_neg hb] at hz
          by_cases hf : (readS false l).f ≠ 0
          · rw [if_pos hf] at hz; exact hz
          · simpa using hf
      rw [h2 this]
    · rw [if_neg hz, if_neg hz]

/-- the bytes of a sync -/
def encS (s g : Nat) : List UInt8 := summed (headB ++ [2] ++ b2 s ++ b2 g)
theorem dec_encS (k : Bool) (s g : Nat) (h1 : 1 ≤ s) (h2 : s ≤ 65535) (h3 : 1 ≤ g) (h4 : g ≤ 65535) : decSF k (encS s g) = 0 ∧ decS1 k (encS s g) = s ∧ decS2 k (encS s g) = g := by
  have hc := crc_lt (headB ++ [2] ++ b2 s ++ b2 g)
  have hr : readS k (encS s g) = ⟨s, g, 0⟩ := by
    have q1 := numB_b2 s (by omega)
    have q2 := numB_b2 g (by omega)
    have q3 := numB_b2 _ hc
    unfold encS summed
    generalize hcc : crc (headB ++ [2] ++ b2 s ++ b2 g) = c at *
    unfold readS
    simp [headB, b2, tkS, tkB, endF] at q1 q2 q3 hcc ⊢
    exact ⟨q1, q2, by rw [q3, ← hcc]⟩
  have hb : begF (encS s g) 2 = 0 := by
    simp [encS, summed, headB, b2, begF]
  have hf : decSF k (encS s g) = 0 := by
    unfold decSF
    rw [hb, hr]
    simp
    omega
  refine ⟨hf, ?_, ?_⟩
  · unfold decS1; rw [if_pos hf, hr]
  · unfold decS2; rw [if_pos hf, hr]
end Go.Proofs.Ytfipkljefmfhmaa
