/- Packets as arguments of a law; samePacket of the laws at alike packets. -/
import Derived.Test.YtfipkljefmfhmaaBytesOpen
import Derived.Test.YtfipkljefmfhmaaOpens
import Derived.Test.YtfipkljefmfhmaaPacketBack
namespace Go.Proofs.Ytfipkljefmfhmaa
open Go.ChangeShapes Go.WideShapes Go.RowKit Go.Deep
set_option linter.unusedVariables false
set_option linter.unusedSimpArgs false

/-- a packet as an argument -/
def PkA (w : World) (v : Value) : Prop := ∃ (src : Int) (nm : ByteArray) (pri seq uni syn : Int) (en : Bool) (sl : Value) (m : List UInt8), v = pkV src nm pri seq uni syn en sl ∧ nm.size ≤ maxLen ∧ ByS w.heap.size w sl m
theorem list8 {α : Type} {l : List α} (h : l.length = 8) : ∃ a b c d e f g i, l = [a, b, c, d, e, f, g, i] := by
  match l, h with
  | [a, b, c, d, e, f, g, i], _ => exact ⟨a, b, c, d, e, f, g, i, rfl⟩
section
variable {H : Type} {enc : TypeId × Value → H} {w : World} {held : Bool}
set_option maxRecDepth 100000 in
theorem open_packet {r : Reach} {b0 : Nat} {v : Value} {d : DataW H} {p : List MemPlace} (hv : Value.okWide Try.prog w r b0 35 v) (h : DataW.Trod enc Try.prog w 0 (fun _ => true) held 35 v d p) :
    ∃ a : Value, v = a ∧ PkA w a := by
  obtain ⟨cs, n, rfl, hl, hf⟩ := open_struct1 Try.underlying35 (by kernel_rfl) (by kernel_rfl) hv h
  obtain ⟨u0, u1, u2, u3, u4, u5, u6, u7, rfl⟩ := list8 hl
  obtain ⟨x0, y0, q0, k0⟩ := hf 0 _ rfl
  obtain ⟨x1, y1, q1, k1⟩ := hf 1 _ rfl
  obtain ⟨x2, y2, q2, k2⟩ := hf 2 _ rfl
  obtain ⟨x3, y3, q3, k3⟩ := hf 3 _ rfl
  obtain ⟨x4, y4, q4, k4⟩ := hf 4 _ rfl
  obtain ⟨x5, y5, q5, k5⟩ := hf 5 _ rfl
  obtain ⟨x6, y6, q6, k6⟩ := hf 6 _ rfl
  obtain ⟨x7, y7, q7, k7⟩ := hf 7 _ rfl
  simp at q0 q1 q2 q3 q4 q5 q6 q7
  subst q0 q1 q2 q3 q4 q5 q6 q7
  obtain ⟨a0, rfl, w0⟩ := field_int Try.underlying3 k0
  obtain ⟨a2, rfl, w2⟩ := field_int Try.underlying3 k2
  obtain ⟨a3, rfl, w3⟩ := field_int Try.underlying3 k3
  obtain ⟨a4, rfl, w4⟩ := field_int Try.underlying3 k4
  obtain ⟨a5, rfl, w5⟩ := field_int Try.underlying3 k5
  obtain ⟨a1, e1, _, w1⟩ := DataW.trod_string Try.underlying9 k1
  simp at e1
  subst e1
  obtain ⟨a6, e6, _⟩ := DataW.trod_bool Try.underlying4 k6
  simp at e6
  subst e6
  obtain ⟨v7, l7, e7, h7⟩ := read_bytesS k7
  simp at e7
  subst e7
  exact ⟨_, rfl, a0, a1, a2, a3, a4, a5, a6, _, l7, rfl, w1, h7⟩
end

set_option maxHeartbeats 4000000 in
theorem samePacket_yes (B : Nat) (src pri seq uni syn : Int) (nm : ByteArray) (en : Bool) (s1 s2 : Value) (m : List UInt8) (w : World) (hB : B ≤ w.heap.size) (h1 : ByS B w s1 m) (h2 : ByS B w s2 m) :
    Calls Try.prog 25 #[pkV src nm pri seq uni syn en s1, pkV src nm pri seq uni syn en s2] w fun e w' => e = .returned (.bool true) ∧ Below w.heap.size w w' := by
  have EQ := Lib.hid (fun W (h : Below w.heap.size w W) => bEqual_any B s1 s2 m m W (h1.below (h.mono hB)) (h2.below (h.mono hB)))
  obtain ⟨a1, c1, rfl, _, _, hx⟩ := id h1
  obtain ⟨a2, c2, rfl, _, _, hy⟩ := id h2
  clear hx hy h1 h2
  rw [beq_self_eq_true] at EQ
  go_enter Try.func25, Try.ntmps25
  go_wp2_with fail
  refine (EQ.out _ (by go_grown)).mono ?_
  rintro e w' ⟨rfl, rfl⟩
  go_wp2
  go_ret
  exact ⟨rfl, by go_grown⟩
end Go.Proofs.Ytfipkljefmfhmaa
