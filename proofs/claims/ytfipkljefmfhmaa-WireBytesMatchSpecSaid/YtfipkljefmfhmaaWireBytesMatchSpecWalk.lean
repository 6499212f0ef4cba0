/- The walk of cycloramalaw9.WireBytesMatchSpec: for any packet and any bytes it returns true. -/
import Derived.Test.YtfipkljefmfhmaaBackP
import Derived.Test.YtfipkljefmfhmaaREncodeP
import Derived.Test.YtfipkljefmfhmaaRDecodeP
namespace Go.Proofs.Ytfipkljefmfhmaa.wireBytesMatchSpec
open Go.RowKit
set_option linter.unusedVariables false
set_option linter.unusedSimpArgs false

/-- what a Decode gives, flawed or not -/
def DecU (f p1 p2 p3 p4 p5 : Int) (nm : ByteArray) (en : Bool) (m : List UInt8) (w : World) (e : Ending) (w' : World) : Prop :=
  Below w.heap.size w w' ∧ ∃ so cap, ByS w'.heap.size w' (.slice so m.length cap) m ∧ e = .returned (.tuple #[pkV p1 nm p2 p3 p4 p5 en (.slice so m.length cap), .int .i64 f])

theorem decPF_like (l : List UInt8) : decPF true l = decPF false l ∧ (decPF true l = 0 → readP true l = readP false l) := by
  obtain ⟨h1, h2⟩ := readP_like l
  unfold decPF
  by_cases hb : begF l 1 ≠ 0
  · rw [if_pos hb, if_pos hb]
    exact ⟨rfl, fun h => absurd h hb⟩
  · rw [if_neg hb, if_neg hb, ← h1]
    by_cases hf : (readP true l).f ≠ 0
    · rw [if_pos hf, if_pos hf]
      exact ⟨rfl, fun h => absurd h hf⟩
    · have hz : (readP true l).f = 0 := by simpa using hf
      rw [if_neg hf, if_neg hf, ← h2 hz]
      exact ⟨rfl, fun _ => rfl⟩

theorem dec_both (l : List UInt8) : ∃ f p1 p2 p3 p4 p5 nm en m, (∀ B v w, B ≤ w.heap.size → ByS B w v l → Calls Try.prog 24 #[v] w (DecU f p1 p2 p3 p4 p5 nm en m w)) ∧
    (∀ B v w, B ≤ w.heap.size → ByS B w v l → Calls Try.prog 28 #[v] w (DecU f p1 p2 p3 p4 p5 nm en m w)) := by
  obtain ⟨h1, h2⟩ := decPF_like l
  by_cases h0 : decPF true l = 0
  · refine ⟨0, (readP true l).src, (readP true l).pri, (readP true l).seq, (readP true l).uni, (readP true l).syn, ⟨(readP true l).name.toArray⟩, ((readP true l).flags == 1), (readP true l).slots, fun B v w hB h => ?_, fun B v w hB h => ?_⟩
    · refine (decodeP_any B v l w hB h).mono ?_
      rintro e w' ⟨hb, ⟨hn, _⟩ | ⟨_, sl, hs, he⟩⟩
      · exact absurd h0 hn
      · obtain ⟨so, cap, rfl, c⟩ := hs
        exact ⟨hb, so, cap, ⟨so, cap, rfl, c⟩, he⟩
    · refine (rdecodeP_any B v l w hB h).mono ?_
      rintro e w' ⟨hb, ⟨hn, _⟩ | ⟨_, sl, hs, he⟩⟩
      · exact absurd (h1 ▸ h0) hn
      · rw [← h2 h0] at hs he
        obtain ⟨so, cap, rfl, c⟩ := hs
        exact ⟨hb, so, cap, ⟨so, cap, rfl, c⟩, he⟩
  · refine ⟨decPF true l, 0, 0, 0, 0, 0, ⟨#[]⟩, false, [], fun B v w hB h => ?_, fun B v w hB h => ?_⟩
    · refine (decodeP_any B v l w hB h).mono ?_
      rintro e w' ⟨hb, ⟨_, he⟩ | ⟨hz, _⟩⟩
      · exact ⟨hb, none, 0, nil_bytes _ _, he⟩
      · exact absurd hz h0
    · refine (rdecodeP_any B v l w hB h).mono ?_
      rintro e w' ⟨hb, ⟨_, he⟩ | ⟨hz, _⟩⟩
      · rw [← h1] at he
        exact ⟨hb, none, 0, nil_bytes _ _, he⟩
      · exact absurd (h1.trans hz) h0

set_option maxHeartbeats 4000000 in
set_option maxRecDepth 100000 in
theorem walk (a0 a1 : Value) (w : World) (w0 : PkA w a0) (w1 : ∃ l, ByS w.heap.size w a1 l) :
    Calls Try.prog 7 #[a0, a1] w fun e w' => e = .returned (.bool true) ∧ Below w.heap.size w w' := by
  obtain ⟨src, nm, pri, seq, uni, syn, en, sl, m, rfl, hn, hm⟩ := w0
  obtain ⟨l, hl⟩ := w1
  obtain ⟨so, cap, rfl, c1, c2, hx⟩ := id hm
  clear hx
  have EN := Lib.hid (fun W (h : Below w.heap.size w W) => encodeP_any w.heap.size src pri seq uni syn nm en (.slice so m.length cap) m W h.size hn (hm.below h))
  have RN := Lib.hid (fun W (h : Below w.heap.size w W) => rencodeP_any w.heap.size src pri seq uni syn nm en (.slice so m.length cap) m W h.size hn (hm.below h))
  unfold EncPP at EN RN
  obtain ⟨g, p1, p2, p3, p4, p5, pn, pe, pm, d1, d2⟩ := dec_both l
  have D1 := Lib.hid (fun W (h : Below w.heap.size w W) => d1 w.heap.size a1 W h.size (hl.below h))
  have D2 := Lib.hid (fun W (h : Below w.heap.size w W) => d2 w.heap.size a1 W h.size (hl.below h))
  unfold DecU at D1 D2
  clear hn hm hl d1 d2
  generalize chkP src pri seq uni syn nm.data.toList en m.length = f at *
  generalize encPL src pri seq uni syn nm.data.toList en m = x at *
  go_enter Try.func7, Try.ntmps7
  go_wp2_with fail
  refine (EN.out (pkW w src nm pri seq uni syn en (.slice so m.length cap)) ((Below.refl _ w).alloc (Nat.le_refl _) _)).mono ?_
  rintro e w2 ⟨v2, rfl, hv2, hb2⟩
  have HBa := Lib.hid (((Below.refl _ w).alloc (Nat.le_refl _) _).trans (hb2.mono (by simp)))
  obtain ⟨⟨k0, k1, k2, k3, k4, k5, k6, k7⟩, -⟩ := blk_cells ((hb2.block w.heap.size (by simp)).trans (heap_alloc_new w _))
  have HX := Lib.hid hv2
  have hs2 := hb2.size
  simp only [World.size_alloc] at hs2
  clear hv2 hb2 EN
  go_wp2_with fail
  refine (RN.out w2 HBa.out).mono ?_
  rintro e w3 ⟨v3, rfl, hv3, hb3⟩
  have HX3 := Lib.hid (HX.out.below hb3)
  have HY := Lib.hid hv3
  have hs3 := hb3.size
  have HBb := Lib.hid (HBa.out.trans (hb3.mono (by omega)))
  clear hv3 hb3 RN HX HBa k0 k1 k2 k3 k4 k5 k6 k7
  go_wp2_with fail
  refine (D1.out w3 HBb.out).mono ?_
  rintro e w4 ⟨hb4, so4, cap4, hs4, rfl⟩
  have HX4 := Lib.hid (HX3.out.below (hb4.mono hs3))
  have HY4 := Lib.hid (HY.out.below hb4)
  have HS4 := Lib.hid hs4
  have hz4 := hb4.size
  have HBc := Lib.hid (HBb.out.trans (hb4.mono (by omega)))
  clear hb4 hs4 D1 HX3 HY HBb
  have HBd := Lib.hid (HBc.out.alloc (by omega) (.cells #[.int .i64 p1, .string pn, .int .i64 p2, .int .i64 p3, .int .i64 p4, .int .i64 p5, .bool pe, .slice so4 pm.length cap4] 35))
  go_wp2_with fail
  refine (D2.out (w4.alloc (.cells #[.int .i64 p1, .string pn, .int .i64 p2, .int .i64 p3, .int .i64 p4, .int .i64 p5, .bool pe, .slice so4 pm.length cap4] 35)) HBd.out).mono ?_
  rintro e w5 ⟨hb5, so5, cap5, hs5, rfl⟩
  obtain ⟨⟨k0, k1, k2, k3, k4, k5, k6, k7⟩, -⟩ := blk_cells ((hb5.block w4.heap.size (by simp)).trans (heap_alloc_new w4 _))
  have hz5 := hb5.size
  simp only [World.size_alloc] at hz5
  have hw5 : w4.heap.size < w5.heap.size := by omega
  have hb45 := ((Below.refl w4.heap.size w4).alloc (Nat.le_refl _) (.cells #[.int .i64 p1, .string pn, .int .i64 p2, .int .i64 p3, .int .i64 p4, .int .i64 p5, .bool pe, .slice so4 pm.length cap4] 35)).trans (hb5.mono (by simp))
  have HBe := Lib.hid ((HBd.out.trans (hb5.mono (by simp; omega))).alloc (by omega) (.cells #[.int .i64 p1, .string pn, .int .i64 p2, .int .i64 p3, .int .i64 p4, .int .i64 p5, .bool pe, .slice so5 pm.length cap5] 35))
  have EQ := Lib.hid (bEqual_any w3.heap.size v2 v3 x x (w5.alloc (.cells #[.int .i64 p1, .string pn, .int .i64 p2, .int .i64 p3, .int .i64 p4, .int .i64 p5, .bool pe, .slice so5 pm.length cap5] 35)) (((HX4.out.below (hb45.mono (by omega))).alloc (by omega) _ (Nat.le_refl _)).more hs3) ((HY4.out.below (hb45.mono (by omega))).alloc (by omega) _ (Nat.le_refl _)))
  rw [beq_self_eq_true] at EQ
  have SP := Lib.hid (samePacket_yes w5.heap.size p1 p2 p3 p4 p5 pn pe (.slice so4 pm.length cap4) (.slice so5 pm.length cap5) pm (w5.alloc (.cells #[.int .i64 p1, .string pn, .int .i64 p2, .int .i64 p3, .int .i64 p4, .int .i64 p5, .bool pe, .slice so5 pm.length cap5] 35)) (by simp)
    (((HS4.out.below hb45).alloc (by omega) _ (Nat.le_refl _)).more (by omega)) (hs5.alloc (Nat.le_refl _) _ (Nat.le_refl _)))
  clear hb5 hs5 hb45 HX4 HY4 HS4 D2 HBc HBd
  go_wp2_with fail
  refine EQ.out.mono ?_
  rintro e w6 ⟨rfl, rfl⟩
  go_wp2_with fail
  refine SP.out.mono ?_
  rintro e w7 ⟨rfl, hb7⟩
  have HB7 := Lib.hid (HBe.out.trans (hb7.mono (by simp; omega)))
  clear hb7 SP EQ k0 k1 k2 k3 k4 k5 k6 k7
  go_wp2
  go_ret
  exact ⟨rfl, HB7.out⟩
end Go.Proofs.Ytfipkljefmfhmaa.wireBytesMatchSpec
