/- What Decode gives of what Encode writes, and the other way round. -/
import Derived.Test.YtfipkljefmfhmaaPacketOpen
namespace Go.Proofs.Ytfipkljefmfhmaa
open Go.RowKit
set_option linter.unusedVariables false
set_option linter.unusedSimpArgs false

theorem ba_eta (nm : ByteArray) : (⟨nm.data.toList.toArray⟩ : ByteArray) = nm := by simp
/-- what Decode gives of what Encode writes -/
def BackP (src : Int) (nm : ByteArray) (pri seq uni syn : Int) (en : Bool) (m : List UInt8) (w : World) (e : Ending) (w' : World) : Prop :=
  Below w.heap.size w w' ∧ ∃ so cap, ByS w'.heap.size w' (.slice so m.length cap) m ∧ e = .returned (.tuple #[pkV src nm pri seq uni syn en (.slice so m.length cap), .int .i64 0])
theorem decode_back (B : Nat) (v : Value) (src pri seq uni syn : Int) (nm : ByteArray) (en : Bool) (m : List UInt8) (w : World) (hB : B ≤ w.heap.size) (hc : chkP src pri seq uni syn nm.data.toList en m.length = 0) (h : ByS B w v (encPL src pri seq uni syn nm.data.toList en m)) :
    Calls Try.prog 24 #[v] w (BackP src nm pri seq uni syn en m w) := by
  obtain ⟨h1, h2, h3, h4, h5, _⟩ := chkP_zero hc
  rw [show encPL src pri seq uni syn nm.data.toList en m = encP src.toNat pri.toNat seq.toNat uni.toNat syn.toNat en nm.data.toList m from if_pos hc] at h
  have e1 : ((src.toNat : Nat) : Int) = src := by omega
  have e2 : ((pri.toNat : Nat) : Int) = pri := by omega
  have e3 : ((seq.toNat : Nat) : Int) = seq := by omega
  have e4 : ((uni.toNat : Nat) : Int) = uni := by omega
  have e5 : ((syn.toNat : Nat) : Int) = syn := by omega
  have hd := dec_enc true src.toNat pri.toNat seq.toNat uni.toNat syn.toNat en nm.data.toList m (by rw [e1, e2, e3, e4, e5]; exact hc)
  refine (decodeP_any B v _ w hB h).mono ?_
  rintro e w' ⟨hb, ⟨hn, _⟩ | ⟨h0, sl, hs, he⟩⟩
  · exact absurd hd.1 hn
  · rw [hd.2] at hs he
    obtain ⟨so, cap, rfl, c1, c2, c3⟩ := hs
    refine ⟨hb, so, cap, ⟨so, cap, rfl, c1, c2, c3⟩, ?_⟩
    rw [he]
    simp only [e1, e2, e3, e4, e5, ba_eta]
    cases en <;> rfl
/-- what Encode writes of what Decode has read -/
def AgainP (l : List UInt8) (w : World) (e : Ending) (w' : World) : Prop := ∃ v, e = .returned (.tuple #[v, .int .i64 0]) ∧ ByS w'.heap.size w' v l ∧ Below w.heap.size w w'
theorem encode_again (B : Nat) (l : List UInt8) (sl : Value) (w : World) (hB : B ≤ w.heap.size) (hd : decPF true l = 0) (h : ByS B w sl (readP true l).slots) :
    Calls Try.prog 23 #[pkV (readP true l).src ⟨(readP true l).name.toArray⟩ (readP true l).pri (readP true l).seq (readP true l).uni (readP true l).syn ((readP true l).flags == 1) sl] w (AgainP l w) := by
  obtain ⟨g1, g2⟩ := enc_dec l hd
  have hdt : (⟨(readP true l).name.toArray⟩ : ByteArray).data.toList = (readP true l).name := by simp
  have hnm : (readP true l).name.length ≤ 20 := (chkP_zero g1).2.2.2.2.2.2.1
  have hE := encodeP_any B (readP true l).src (readP true l).pri (readP true l).seq (readP true l).uni (readP true l).syn ⟨(readP true l).name.toArray⟩ ((readP true l).flags == 1) sl (readP true l).slots w hB (name_size _ (by omega)) h
  refine hE.mono ?_
  rintro e w' ⟨v, rfl, hv, hb⟩
  rw [hdt] at hv ⊢
  rw [g1]
  have he : encPL (readP true l).src (readP true l).pri (readP true l).seq (readP true l).uni (readP true l).syn (readP true l).name ((readP true l).flags == 1) (readP true l).slots = l := by
    unfold encPL
    rw [if_pos g1]
    simp only [Int.toNat_natCast]
    exact g2
  rw [he] at hv
  exact ⟨v, rfl, hv, hb⟩
/-- Decode of any bytes, said so that what it gives can be stored -/
def DecAny (l : List UInt8) (w : World) (e : Ending) (w' : World) : Prop :=
  Below w.heap.size w w' ∧ ((decPF true l ≠ 0 ∧ e = .returned (.tuple #[zpkV, .int .i64 (decPF true l)])) ∨
    (decPF true l = 0 ∧ ∃ so cap, ByS w'.heap.size w' (.slice so (readP true l).slots.length cap) (readP true l).slots ∧
      e = .returned (.tuple #[pkV (readP true l).src ⟨(readP true l).name.toArray⟩ (readP true l).pri (readP true l).seq (readP true l).uni (readP true l).syn ((readP true l).flags == 1) (.slice so (readP true l).slots.length cap), .int .i64 0])))
theorem decode_any (B : Nat) (v : Value) (l : List UInt8) (w : World) (hB : B ≤ w.heap.size) (h : ByS B w v l) : Calls Try.prog 24 #[v] w (DecAny l w) := by
  refine (decodeP_any B v l w hB h).mono ?_
  rintro e w' ⟨hb, hn | ⟨h0, sl, hs, he⟩⟩
  · exact ⟨hb, .inl hn⟩
  · obtain ⟨so, cap, rfl, c⟩ := hs
    exact ⟨hb, .inr ⟨h0, so, cap, ⟨so, cap, rfl, c⟩, he⟩⟩
end Go.Proofs.Ytfipkljefmfhmaa
