/- The walk of cycloramalaw9.WireBytesComeBack: for any packet and any bytes it returns true. -/
import Derived.Test.YtfipkljefmfhmaaBackP
namespace Go.Proofs.Ytfipkljefmfhmaa.wireBytesComeBack
open Go.RowKit
set_option linter.unusedVariables false
set_option linter.unusedSimpArgs false

set_option maxHeartbeats 4000000 in
set_option maxRecDepth 100000 in
theorem walk (a0 a1 : Value) (w : World) (w0 : PkA w a0) (w1 : ∃ l, ByS w.heap.size w a1 l) :
    Calls Try.prog 5 #[a0, a1] w fun e w' => e = .returned (.bool true) ∧ Below w.heap.size w w' := by
  obtain ⟨src, nm, pri, seq, uni, syn, en, sl, m, rfl, hn, hm⟩ := w0
  obtain ⟨l, hl⟩ := w1
  obtain ⟨so, cap, rfl, c1, c2, hx⟩ := id hm
  clear hx
  have EN := Lib.hid (fun W (h : Below w.heap.size w W) => encodeP_any w.heap.size src pri seq uni syn nm en (.slice so m.length cap) m W h.size hn (hm.below h))
  have HM := Lib.hid hm
  have HL := Lib.hid hl
  unfold EncPP at EN
  have D2 := Lib.hid (fun W (h : Below w.heap.size w W) => decode_any w.heap.size a1 l W h.size (hl.below h))
  have EA := Lib.hid (fun (hd : decPF true l = 0) sl W (h : ByS W.heap.size W sl (readP true l).slots) => encode_again W.heap.size l sl W (Nat.le_refl _) hd h)
  unfold DecAny at D2
  unfold AgainP at EA
  clear hn hm hl
  by_cases hc : chkP src pri seq uni syn nm.data.toList en m.length = 0
  · have DB := Lib.hid (fun v W (h : ByS W.heap.size W v (encPL src pri seq uni syn nm.data.toList en m)) => decode_back W.heap.size v src pri seq uni syn nm en m W (Nat.le_refl _) hc h)
    obtain ⟨-, -, -, -, -, -, g7, g8, -⟩ := chkP_zero hc
    have hel : (encPL src pri seq uni syn nm.data.toList en m).length ≤ 600 := by
      rw [show encPL src pri seq uni syn nm.data.toList en m = encP src.toNat pri.toNat seq.toNat uni.toNat syn.toNat en nm.data.toList m from if_pos hc, encP_len]; omega
    have SP := Lib.hid (fun W (s2 : Value) (hW : Below w.heap.size w W) (h : ByS W.heap.size W s2 m) => samePacket_yes W.heap.size src pri seq uni syn nm en s2 (.slice so m.length cap) m W (Nat.le_refl _) h ((HM.out.below hW).more hW.size))
    rw [hc] at EN
    unfold BackP at DB
    clear hc g7 g8
    generalize encPL src pri seq uni syn nm.data.toList en m = x at *
    go_enter Try.func5, Try.ntmps5
    go_wp2_with fail
    refine (EN.out (pkW w src nm pri seq uni syn en (.slice so m.length cap)) ((Below.refl _ w).alloc (Nat.le_refl _) _)).mono ?_
    rintro e w2 ⟨v2, rfl, hv2, hb2⟩
    have HBa := Lib.hid (((Below.refl _ w).alloc (Nat.le_refl _) _).trans (hb2.mono (by simp)))
    obtain ⟨⟨k0, k1, k2, k3, k4, k5, k6, k7⟩, -⟩ := blk_cells ((hb2.block w.heap.size (by simp)).trans (heap_alloc_new w _))
    have HX := Lib.hid hv2
    have hs2 := hb2.size
    simp only [World.size_alloc] at hs2
    obtain ⟨ao2, cap2, rfl, x1, x2, hxx⟩ := hv2
    clear hxx hb2
    go_wp2_with fail
    refine (DB.out _ _ HX.out).mono ?_
    rintro e w3 ⟨hb3, so3, cap3, hs3, rfl⟩
    have HS3 := Lib.hid hs3
    have HBb := Lib.hid (HBa.out.trans (hb3.mono (by omega)))
    have hz3 := hb3.size
    have kk : ∀ i, w3.cell? ⟨w.heap.size, i, none⟩ = w2.cell? ⟨w.heap.size, i, none⟩ := fun i => hb3.cell (p := ⟨w.heap.size, i, none⟩) (by simp; omega)
    rw [← kk] at k0 k1 k2 k3 k4 k5 k6 k7
    have hw3 : w.heap.size < w3.heap.size := by omega
    clear kk hb3 hs3 DB EN
    have hbx := HBb.out.alloc (by omega) (.cells #[.int .i64 src, .string nm, .int .i64 pri, .int .i64 seq, .int .i64 uni, .int .i64 syn, .bool en, .slice so3 m.length cap3] 35)
    have SP3 := Lib.hid (SP.out (w3.alloc (.cells #[.int .i64 src, .string nm, .int .i64 pri, .int .i64 seq, .int .i64 uni, .int .i64 syn, .bool en, .slice so3 m.length cap3] 35)) (.slice so3 m.length cap3) hbx ((HS3.out.below ((Below.refl _ w3).alloc (Nat.le_refl _) _)).more (by simp)))
    clear hbx SP
    go_wp2_with fail
    refine SP3.out.mono ?_
    rintro e w4 ⟨rfl, hb4⟩
    have HB4 := Lib.hid ((HBb.out.alloc (by omega) _).trans (hb4.mono (by simp; omega)))
    clear hb4 SP3 k0 k1 k2 k3 k4 k5 k6 k7
    go_wp2_with fail
    refine (D2.out _ (HB4.out)).mono ?_
    rintro e w5 ⟨hb5, h5⟩
    have HB5 := Lib.hid ((HB4.out).trans (hb5.mono (Below.size (HB4.out))))
    have HL5 := Lib.hid (HL.out.below HB5.out)
    clear hb5
    rcases h5 with ⟨hn5, rfl⟩ | ⟨h05, so5, cap5, hs5, rfl⟩
    · have d5 : (decPF true l != 0) = true := by rw [bne_iff_ne]; exact hn5
      clear hn5 EA D2
      generalize decPF true l = f5 at *
      go_wp2
      go_ret
      exact ⟨rfl, HB5.out.alloc HB5.out.size _⟩
    · have HS5 := Lib.hid hs5
      have EA5 := Lib.hid (fun W => EA.out h05 (.slice so5 (readP true l).slots.length cap5) W)
      clear h05 hs5 EA D2
      generalize (readP true l).src = p1 at *
      generalize (readP true l).pri = p2 at *
      generalize (readP true l).seq = p3 at *
      generalize (readP true l).uni = p4 at *
      generalize (readP true l).syn = p5 at *
      generalize (readP true l).flags = p6 at *
      generalize (p6 == 1) = p7 at *
      generalize (readP true l).name = p8 at *
      generalize (readP true l).slots = p9 at *
      have hz5 := HB5.out.size
      go_wp2_with fail
      refine (EA5.out (w5.alloc (.cells #[.int .i64 (p1 : Int), .string ⟨p8.toArray⟩, .int .i64 (p2 : Int), .int .i64 (p3 : Int), .int .i64 (p4 : Int), .int .i64 (p5 : Int), .bool p7, .slice so5 p9.length cap5] 35)) ((HS5.out.below ((Below.refl _ w5).alloc (Nat.le_refl _) _)).more (by simp))).mono ?_
      rintro e w6 ⟨v6, rfl, hv6, hb6⟩
      have hb65 := ((Below.refl w5.heap.size w5).alloc (Nat.le_refl _) (.cells #[.int .i64 (p1 : Int), .string ⟨p8.toArray⟩, .int .i64 (p2 : Int), .int .i64 (p3 : Int), .int .i64 (p4 : Int), .int .i64 (p5 : Int), .bool p7, .slice so5 p9.length cap5] 35)).trans (hb6.mono (by simp))
      have EQ := Lib.hid (bEqual_any w6.heap.size v6 a1 l l w6 hv6 ((HL5.out.below (hb65.mono hz5)).more (by have := hb65.size; omega)))
      have HB6 := Lib.hid (HB5.out.trans (hb65.mono hz5))
      rw [beq_self_eq_true] at EQ
      clear hv6 hb6 hb65 EA5
      go_wp2_with fail
      refine EQ.out.mono ?_
      rintro e w7 ⟨rfl, rfl⟩
      go_wp2
      go_ret
      exact ⟨rfl, HB6.out⟩
  · have d : (chkP src pri seq uni syn nm.data.toList en m.length == 0) = false := by rw [beq_eq_false_iff_ne]; exact hc
    clear hc
    generalize chkP src pri seq uni syn nm.data.toList en m.length = f at *
    generalize encPL src pri seq uni syn nm.data.toList en m = x at *
    go_enter Try.func5, Try.ntmps5
    go_wp2_with fail
    refine (EN.out (pkW w src nm pri seq uni syn en (.slice so m.length cap)) ((Below.refl _ w).alloc (Nat.le_refl _) _)).mono ?_
    rintro e w4 ⟨v2, rfl, hv2, hb2⟩
    have HB4 := Lib.hid (((Below.refl _ w).alloc (Nat.le_refl _) _).trans (hb2.mono (by simp)))
    clear hv2 hb2 EN
    go_wp2_with fail
    refine (D2.out _ (HB4.out)).mono ?_
    rintro e w5 ⟨hb5, h5⟩
    have HB5 := Lib.hid ((HB4.out).trans (hb5.mono (Below.size (HB4.out))))
    have HL5 := Lib.hid (HL.out.below HB5.out)
    clear hb5
    rcases h5 with ⟨hn5, rfl⟩ | ⟨h05, so5, cap5, hs5, rfl⟩
    · have d5 : (decPF true l != 0) = true := by rw [bne_iff_ne]; exact hn5
      clear hn5 EA D2
      generalize decPF true l = f5 at *
      go_wp2
      go_ret
      exact ⟨rfl, HB5.out.alloc HB5.out.size _⟩
    · have HS5 := Lib.hid hs5
      have EA5 := Lib.hid (fun W => EA.out h05 (.slice so5 (readP true l).slots.length cap5) W)
      clear h05 hs5 EA D2
      generalize (readP true l).src = p1 at *
      generalize (readP true l).pri = p2 at *
      generalize (readP true l).seq = p3 at *
      generalize (readP true l).uni = p4 at *
      generalize (readP true l).syn = p5 at *
      generalize (readP true l).flags = p6 at *
      generalize (p6 == 1) = p7 at *
      generalize (readP true l).name = p8 at *
      generalize (readP true l).slots = p9 at *
      have hz5 := HB5.out.size
      go_wp2_with fail
      refine (EA5.out (w5.alloc (.cells #[.int .i64 (p1 : Int), .string ⟨p8.toArray⟩, .int .i64 (p2 : Int), .int .i64 (p3 : Int), .int .i64 (p4 : Int), .int .i64 (p5 : Int), .bool p7, .slice so5 p9.length cap5] 35)) ((HS5.out.below ((Below.refl _ w5).alloc (Nat.le_refl _) _)).more (by simp))).mono ?_
      rintro e w6 ⟨v6, rfl, hv6, hb6⟩
      have hb65 := ((Below.refl w5.heap.size w5).alloc (Nat.le_refl _) (.cells #[.int .i64 (p1 : Int), .string ⟨p8.toArray⟩, .int .i64 (p2 : Int), .int .i64 (p3 : Int), .int .i64 (p4 : Int), .int .i64 (p5 : Int), .bool p7, .slice so5 p9.length cap5] 35)).trans (hb6.mono (by simp))
      have EQ := Lib.hid (bEqual_any w6.heap.size v6 a1 l l w6 hv6 ((HL5.out.below (hb65.mono hz5)).more (by have := hb65.size; omega)))
      have HB6 := Lib.hid (HB5.out.trans (hb65.mono hz5))
      rw [beq_self_eq_true] at EQ
      clear hv6 hb6 hb65 EA5
      go_wp2_with fail
      refine EQ.out.mono ?_
      rintro e w7 ⟨rfl, rfl⟩
      go_wp2
      go_ret
      exact ⟨rfl, HB6.out⟩
end Go.Proofs.Ytfipkljefmfhmaa.wireBytesComeBack
