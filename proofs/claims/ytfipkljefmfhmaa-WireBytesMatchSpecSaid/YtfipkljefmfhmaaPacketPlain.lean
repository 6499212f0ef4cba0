/- Plain laws of packets: what is read. No program in sight. -/
import Derived.Test.YtfipkljefmfhmaaWirePlain
namespace Go.Proofs.Ytfipkljefmfhmaa

/-- a packet that is read; 'k': as in tkS -/
structure PkR where
  src : Nat
  pri : Nat
  seq : Nat
  uni : Nat
  syn : Nat
  flags : Nat
  name : List UInt8
  slots : List UInt8
  f : Int
/-- the state behind the numbers ahead of the name, and behind the name, and behind the slots -/
def rd1 (k : Bool) (l : List UInt8) : RSt := tkS k 2 (l.drop 5, false)
def rd2 (k : Bool) (l : List UInt8) : RSt := tkS k 1 (rd1 k l)
def rd3 (k : Bool) (l : List UInt8) : RSt := tkS k 1 (rd2 k l)
def rd4 (k : Bool) (l : List UInt8) : RSt := tkS k 1 (rd3 k l)
def rd5 (k : Bool) (l : List UInt8) : RSt := tkS k 2 (rd4 k l)
def rd6 (k : Bool) (l : List UInt8) : RSt := tkS k 1 (rd5 k l)
def rd7 (k : Bool) (l : List UInt8) : RSt := tkS k 1 (rd6 k l)
def nmL (k : Bool) (l : List UInt8) : Nat := numB (tkB k 1 (rd6 k l))
def rd8 (k : Bool) (l : List UInt8) : RSt := tkS k (nmL k l) (rd7 k l)
def rd9 (k : Bool) (l : List UInt8) : RSt := tkS k 2 (rd8 k l)
def slL (k : Bool) (l : List UInt8) : Nat := numB (tkB k 2 (rd8 k l))
def rd10 (k : Bool) (l : List UInt8) : RSt := tkS k (slL k l) (rd9 k l)
def readP (k : Bool) (l : List UInt8) : PkR :=
  ⟨numB (tkB k 2 (l.drop 5, false)), numB (tkB k 1 (rd1 k l)), numB (tkB k 1 (rd2 k l)), numB (tkB k 1 (rd3 k l)), numB (tkB k 2 (rd4 k l)), numB (tkB k 1 (rd5 k l)),
   tkB k (nmL k l) (rd7 k l), tkB k (slL k l) (rd9 k l), endF l (tkS k 2 (rd10 k l)) (numB (tkB k 2 (rd10 k l)))⟩

theorem readP_f (k : Bool) (l : List UInt8) : (readP k l).f = endF l (tkS k 2 (rd10 k l)) (numB (tkB k 2 (rd10 k l))) := by simp only [readP]
theorem endF_short (l : List UInt8) (s : RSt) (n : Nat) (h : s.2 = true) : endF l s n = 9 := by unfold endF; rw [if_pos (Or.inl h)]

theorem readP_like (l : List UInt8) : (readP true l).f = (readP false l).f ∧ ((readP true l).f = 0 → readP true l = readP false l) := by
  have h0 : Like (l.drop 5, false) (l.drop 5, false) := Like.refl _
  have h1 : Like (rd1 true l) (rd1 false l) ∧ _ := h0.tk 2 2 (fun _ => rfl)
  have h2 : Like (rd2 true l) (rd2 false l) ∧ _ := h1.1.tk 1 1 (fun _ => rfl)
  have h3 : Like (rd3 true l) (rd3 false l) ∧ _ := h2.1.tk 1 1 (fun _ => rfl)
  have h4 : Like (rd4 true l) (rd4 false l) ∧ _ := h3.1.tk 1 1 (fun _ => rfl)
  have h5 : Like (rd5 true l) (rd5 false l) ∧ _ := h4.1.tk 2 2 (fun _ => rfl)
  have h6 : Like (rd6 true l) (rd6 false l) ∧ _ := h5.1.tk 1 1 (fun _ => rfl)
  have h7 : Like (rd7 true l) (rd7 false l) ∧ _ := h6.1.tk 1 1 (fun _ => rfl)
  have hn : (rd7 true l).2 = false → nmL true l = nmL false l := fun h => by unfold nmL; rw [h7.2 h]
  have h8 : Like (rd8 true l) (rd8 false l) ∧ _ := h7.1.tk _ _ hn
  have h9 : Like (rd9 true l) (rd9 false l) ∧ _ := h8.1.tk 2 2 (fun _ => rfl)
  have hs : (rd9 true l).2 = false → slL true l = slL false l := fun h => by unfold slL; rw [h9.2 h]
  have h10 : Like (rd10 true l) (rd10 false l) ∧ _ := h9.1.tk _ _ hs
  have h11 := h10.1.tk 2 2 (fun _ => rfl)
  by_cases hz : (tkS true 2 (rd10 true l)).2 = false
  · have a10 : (rd10 true l).2 = false := (tkS_short hz).1
    have a9 : (rd9 true l).2 = false := (tkS_short a10).1
    have a8 : (rd8 true l).2 = false := (tkS_short a9).1
    have a7 : (rd7 true l).2 = false := (tkS_short a8).1
    have a6 : (rd6 true l).2 = false := (tkS_short a7).1
    have a5 : (rd5 true l).2 = false := (tkS_short a6).1
    have a4 : (rd4 true l).2 = false := (tkS_short a5).1
    have a3 : (rd3 true l).2 = false := (tkS_short a4).1
    have a2 : (rd2 true l).2 = false := (tkS_short a3).1
    have a1 : (rd1 true l).2 = false := (tkS_short a2).1
    have e : readP true l = readP false l := by
      unfold readP
      rw [h1.2 a1, h2.2 a2, h3.2 a3, h4.2 a4, h5.2 a5, h6.2 a6, h8.2 a8, h10.2 a10, h11.1.2 hz, h11.2 hz]
    rw [e]
    exact ⟨rfl, fun _ => rfl⟩
  · have b1 : (tkS true 2 (rd10 true l)).2 = true := by simpa using hz
    have b2 : (tkS false 2 (rd10 false l)).2 = true := by rw [← h11.1.1]; exact b1
    have f1 : (readP true l).f = 9 := by rw [readP_f, endF_short _ _ _ b1]
    have f2 : (readP false l).f = 9 := by rw [readP_f, endF_short _ _ _ b2]
    rw [f1, f2]
    exact ⟨rfl, fun h => by omega⟩
end Go.Proofs.Ytfipkljefmfhmaa
