/- The contracts of DecodeSync, of the program and of its reference. -/
import Derived.Test.YtfipkljefmfhmaaEnds
namespace Go.Proofs.Ytfipkljefmfhmaa
open Go.RowKit
set_option linter.unusedVariables false
set_option linter.unusedSimpArgs false

/-- the fault of a sync's numbers -/
def chkS (s g : Int) : Int := if (1 ≤ s ∧ s ≤ 65535) ∧ (1 ≤ g ∧ g ≤ 65535) then 0 else 1

set_option maxHeartbeats 600000 in
theorem checkSync_any (s g : Int) (w : World) :
    Calls Try.prog 55 #[.int .i64 s, .int .i64 g] w fun e w' => e = .returned (.int .i64 (chkS s g)) ∧ w = w' := by
  by_cases hs : 1 ≤ s ∧ s ≤ 65535
  · by_cases hg : 1 ≤ g ∧ g ≤ 65535
    · have HV := Lib.hid (show chkS s g = 0 from if_pos ⟨hs, hg⟩)
      have HA := Lib.hid hs
      have HB := Lib.hid hg
      clear hs hg
      go_enter Try.func55, Try.ntmps55
      go_wp2_with (first | (go_at_call 66; (with_reducible refine (within_yes s _ _ _ HA.out).mono ?_); rintro e w' ⟨rfl, rfl⟩) | (go_at_call 66; (with_reducible refine (within_yes g _ _ _ HB.out).mono ?_); rintro e w' ⟨rfl, rfl⟩) | (go_at_call 73; refine (when_B _ _ _).mono ?_; rintro e w' ⟨rfl, rfl⟩))
      go_ret
      exact ⟨by rw [HV.out]; rfl, rfl⟩
    · have HV := Lib.hid (show chkS s g = 1 from if_neg fun k => hg k.2)
      have HA := Lib.hid hs
      have HB := Lib.hid (show g < 1 ∨ 65535 < g by omega)
      clear hs hg
      go_enter Try.func55, Try.ntmps55
      go_wp2_with (first | (go_at_call 66; (with_reducible refine (within_yes s _ _ _ HA.out).mono ?_); rintro e w' ⟨rfl, rfl⟩) | (go_at_call 66; (with_reducible refine (within_no g _ _ _ HB.out).mono ?_); rintro e w' ⟨rfl, rfl⟩) | (go_at_call 73; refine (when_B _ _ _).mono ?_; rintro e w' ⟨rfl, rfl⟩))
      go_ret
      exact ⟨by rw [HV.out]; rfl, rfl⟩
  · have HV := Lib.hid (show chkS s g = 1 from if_neg fun k => hs k.1)
    have HA := Lib.hid (show s < 1 ∨ 65535 < s by omega)
    clear hs
    go_enter Try.func55, Try.ntmps55
    go_wp2_with (first | (go_at_call 66; (with_reducible refine (within_no s _ _ _ HA.out).mono ?_); rintro e w' ⟨rfl, rfl⟩) | (go_at_call 73; refine (when_B _ _ _).mono ?_; rintro e w' ⟨rfl, rfl⟩))
    go_ret
    exact ⟨by rw [HV.out]; rfl, rfl⟩

def fst2 (x y : Int) : Int := if x = 0 then y else x
set_option maxHeartbeats 600000 in
theorem first2c (b : Nat) (x y : Int) (W : World) (h1 : W.cell? ⟨b, 0, none⟩ = some (.int .i64 x)) (h2 : W.cell? ⟨b, 1, none⟩ = some (.int .i64 y)) :
    Calls Try.prog 61 #[.slice (some ⟨b, 0, none⟩) 2 2] W fun e w' => e = .returned (.int .i64 (fst2 x y)) ∧ W = w' := by
  by_cases hx : x = 0
  · by_cases hy : y = 0
    · subst hx hy
      go_enter Try.func61, Try.ntmps61
      go_wp2
      go_rounds 3
      go_ret
      exact ⟨rfl, rfl⟩
    · subst hx
      have H := Lib.hid (show fst2 0 y = y from if_pos rfl)
      have d : (y != 0) = true := by rw [bne_iff_ne]; exact hy
      clear hy
      go_enter Try.func61, Try.ntmps61
      go_wp2
      go_rounds 3
      go_ret
      exact ⟨by rw [H.out]; rfl, rfl⟩
  · have H := Lib.hid (show fst2 x y = x from if_neg hx)
    have d : (x != 0) = true := by rw [bne_iff_ne]; exact hx
    clear hx
    go_enter Try.func61, Try.ntmps61
    go_wp2
    go_rounds 3
    go_ret
    exact ⟨by rw [H.out]; rfl, rfl⟩

def DecSP (k : Bool) (l : List UInt8) (w : World) (e : Ending) (w' : World) : Prop :=
  e = .returned (.tuple #[.int .i64 (decS1 k l), .int .i64 (decS2 k l), .int .i64 (decSF k l)]) ∧ Below w.heap.size w w'

theorem numB_tk_lt (k : Bool) (s : RSt) : numB (tkB k 2 s) ≤ 65535 := numB_two_lt _ (by rw [tkB_len]; omega)
theorem below_grown {B rb : Nat} {w w1 w2 : World} (h : Below B w w1) (hg : w1.grownBy w2 (some rb)) (hB : B ≤ rb) (hs : B ≤ w1.heap.size) : Below B w w2 :=
  h.grown hg hs (by intro k hk; injection hk with hk; omega)

set_option maxHeartbeats 2000000 in
theorem decodeSync_any (B : Nat) (v : Value) (l : List UInt8) (w : World) (hB : B ≤ w.heap.size) (h : ByS B w v l) :
    Calls Try.prog 18 #[v] w (DecSP true l w) := by
  have BG := Lib.hid (begin_any B v l 2 w hB (by omega) h)
  have HV := Lib.hid h
  clear h
  go_enter Try.func18, Try.ntmps18
  go_wp2_with fail
  refine BG.out.mono ?_
  rintro e w1 ⟨hb1, h | h⟩
  · obtain ⟨hn, rfl⟩ := h
    have HF := Lib.hid (show decSF true l = begF l 2 from if_pos hn)
    have H1 := Lib.hid (show decS1 true l = 0 from if_neg (by rw [HF.out]; exact hn))
    have H2 := Lib.hid (show decS2 true l = 0 from if_neg (by rw [HF.out]; exact hn))
    have d : (begF l 2 != 0) = true := by rw [bne_iff_ne]; exact hn
    have HB := Lib.hid hb1
    clear hn hb1 BG
    generalize begF l 2 = f at *
    go_wp2
    go_ret3
    exact ⟨by rw [HF.out, H1.out, H2.out]; rfl, HB.out⟩
  · obtain ⟨hb0, rb, hrb, rfl, hr⟩ := h
    have hbelow := Lib.hid hb1
    have hs1 := hb1.size
    have hl5 : 5 ≤ l.length := by
      rcases Nat.lt_or_ge l.length 5 with hlt | hge
      · unfold begF at hb0
        by_cases h6 : 600 < l.length
        · omega
        · rw [if_neg h6, if_pos (Or.inl hlt)] at hb0; omega
      · exact hge
    have HV1 := Lib.hid (HV.out.below (hb1.mono hB))
    have N1 := Lib.hid (number_any B rb _ 2 w1 (by omega) (by omega) hr)
    have HB0 := Lib.hid hb0
    clear hb1 hr hb0 BG
    go_wp2_with fail
    refine N1.out.mono ?_
    rintro e w2 ⟨rfl, hr, hg⟩
    have HV2 := Lib.hid (HV1.out.grown hg (by omega) (by omega))
    have hs2 := hg.size
    have HG2 := Lib.hid hg
    have N2 := Lib.hid (number_any B rb _ 2 w2 (by omega) (by omega) hr)
    clear hr hg N1 HV1
    go_wp2_with fail
    refine N2.out.mono ?_
    rintro e w3 ⟨rfl, hr, hg⟩
    have HV3 := Lib.hid (HV2.out.grown hg (by omega) (by omega))
    have hs3 := hg.size
    have HG3 := Lib.hid hg
    have N3 := Lib.hid (end_any B rb v l _ w3 (by omega) hr HV3.out (by omega))
    have hm1 := numB_tk_lt true (l.drop 5, false)
    have hm2 := numB_tk_lt true (tkS true 2 (l.drop 5, false))
    have HR := Lib.hid (show readS true l = ⟨numB (tkB true 2 (l.drop 5, false)), numB (tkB true 2 (tkS true 2 (l.drop 5, false))), endF l (tkS true 2 (tkS true 2 (tkS true 2 (l.drop 5, false)))) (numB (tkB true 2 (tkS true 2 (tkS true 2 (l.drop 5, false)))))⟩ from rfl)
    unfold EndP at N3
    clear hr hg N2 HV2
    generalize endF l (tkS true 2 (tkS true 2 (tkS true 2 (l.drop 5, false)))) (numB (tkB true 2 (tkS true 2 (tkS true 2 (l.drop 5, false))))) = f at *
    generalize numB (tkB true 2 (l.drop 5, false)) = s1 at *
    generalize numB (tkB true 2 (tkS true 2 (l.drop 5, false))) = g1 at *
    go_wp2_with fail
    refine N3.out.mono ?_
    rintro e w4 ⟨rfl, hg⟩
    have hs4 := hg.size
    have HB4 := Lib.hid (below_grown (below_grown (below_grown hbelow.out HG2.out hrb (by omega)) HG3.out hrb (by omega)) hg hrb (by omega))
    clear hg N3
    have HF : Hid (decSF true l = fst2 f (chkS s1 g1)) := by
      show decSF true l = _
      unfold decSF fst2
      rw [HB0.out, HR.out]
      simp only [ne_eq, not_true_eq_false, if_false]
      by_cases hf : f = 0
      · rw [if_neg (by simpa using hf), if_pos hf]
        unfold chkS
        by_cases hz : s1 = 0 ∨ g1 = 0
        · rw [if_pos hz, if_neg (by omega)]
        · rw [if_neg hz, if_pos (by omega)]
      · rw [if_pos hf, if_neg hf]
    by_cases hz : fst2 f (chkS s1 g1) = 0
    · have HF0 := Lib.hid (show decSF true l = 0 by rw [HF.out]; exact hz)
      have H1 := Lib.hid (show decS1 true l = s1 by unfold decS1; rw [if_pos HF0.out, HR.out])
      have H2 := Lib.hid (show decS2 true l = g1 by unfold decS2; rw [if_pos HF0.out, HR.out])
      have HC := Lib.hid (checkSync_any s1 g1)
      have HT := Lib.hid (fun b W h1 h2 => first2c b f (chkS s1 g1) W h1 h2)
      rw [hz] at HT
      clear hz HF
      generalize chkS s1 g1 = c at *
      go_wp2_with (first | (go_at_call 55; refine (HC.out _).mono ?_; rintro e w' ⟨rfl, rfl⟩) | (go_at_call 61; refine (HT.out _ _ (by simp) (by simp)).mono ?_; rintro e w' ⟨rfl, rfl⟩))
      go_ret3
      exact ⟨by rw [HF0.out, H1.out, H2.out]; rfl, HB4.out.alloc (by omega) _⟩
    · have HFn := Lib.hid (show decSF true l ≠ 0 by rw [HF.out]; exact hz)
      have H1 := Lib.hid (show decS1 true l = 0 from if_neg HFn.out)
      have H2 := Lib.hid (show decS2 true l = 0 from if_neg HFn.out)
      have HC := Lib.hid (checkSync_any s1 g1)
      have HT := Lib.hid (fun b W h1 h2 => first2c b f (chkS s1 g1) W h1 h2)
      have d : (fst2 f (chkS s1 g1) != 0) = true := by rw [bne_iff_ne]; exact hz
      clear hz
      generalize fst2 f (chkS s1 g1) = z at *
      generalize chkS s1 g1 = c at *
      go_wp2_with (first | (go_at_call 55; refine (HC.out _).mono ?_; rintro e w' ⟨rfl, rfl⟩) | (go_at_call 61; refine (HT.out _ _ (by simp) (by simp)).mono ?_; rintro e w' ⟨rfl, rfl⟩))
      go_ret3
      exact ⟨by rw [HF.out, H1.out, H2.out]; rfl, HB4.out.alloc (by omega) _⟩

theorem begF_len {l : List UInt8} {k : Nat} (hb0 : begF l k = 0) : 5 ≤ l.length := by
  rcases Nat.lt_or_ge l.length 5 with hlt | hge
  · unfold begF at hb0
    by_cases h6 : 600 < l.length
    · omega
    · rw [if_neg h6, if_pos (Or.inl hlt)] at hb0; omega
  · exact hge

theorem elem_bytes : Try.prog.elem 22 = 5 := by kernel_rfl
/-- what is behind the first five bytes -/
theorem cut5 {B b off cap : Nat} {w : World} {l : List UInt8} (h : ByS B w (.slice (some ⟨b, off, none⟩) l.length cap) l) (hl : 5 ≤ l.length) :
    ∃ no : Option Addr, (∀ W : World, (Instr.slice 22 (.slice (some ⟨b, off, none⟩) l.length cap) (some (.int .i64 5)) none none).run Try.prog W = .ok (.slice no (l.length - 5) (cap - 5)) W) ∧ Hid (ByS B w (.slice no (l.length - 5) (cap - 5)) (l.drop 5)) := by
  have hk := h.back (n := 5) hl
  rw [Option.map_some, addr_add] at hk
  refine ⟨_, fun W => ?_, Lib.hid hk⟩
  have ht : Try.prog.underlying 22 = some (.slice (Try.prog.elem 22)) := by rw [elem_bytes]; exact Try.underlying22
  rw [run_slice_l W _ _ _ _ ht .i64 5 (by omega) (by omega), elem_bytes, Try.sizeOf5]
  simp only [Result.andThen, sliced]
  rw [show ((5 : Int).toNat * 1) = 5 from rfl, show (5 : Int).toNat = 5 from rfl, Option.map_some, addr_add]

set_option maxHeartbeats 4000000 in
theorem rdecodeSync_any (B : Nat) (v : Value) (l : List UInt8) (w : World) (hB : B ≤ w.heap.size) (h : ByS B w v l) :
    Calls Try.prog 19 #[v] w (DecSP false l w) := by
  have BG := Lib.hid (begins_any B v l 2 w (by omega) h)
  by_cases hn : begF l 2 = 0
  · have hl5 := begF_len hn
    have HB0 := Lib.hid hn
    rw [hn] at BG
    clear hn
    rcases h.cases with ⟨rfl, _⟩ | ⟨b, off, cap, rfl, g1, g2, g3, g4, hc⟩
    · simp at hl5
    · obtain ⟨no, hs, HK⟩ := cut5 h hl5
      have HV := Lib.hid h
      have hbw : b < w.heap.size := by omega
      have hl5' : (5 : Int) ≤ (l.length : Int) := by omega
      have HR0 := Lib.hid (show Rd 108 B (w.alloc (.cells #[.slice no (l.length - 5) (cap - 5), .bool false] 108)) w.heap.size (l.drop 5, false) from ⟨_, heap_alloc_new w _, HK.out.below ((Below.refl _ w).alloc hB _)⟩)
      clear h hc
      go_enter Try.func19, Try.ntmps19
      go_wp2_with fail
      refine BG.out.mono ?_
      rintro e w1 ⟨rfl, rfl⟩
      go_wp2_with fail
      have N1 := Lib.hid (two_any B w.heap.size _ _ (by omega) HR0.out)
      have HV1 := Lib.hid (HV.out.below ((Below.refl _ w).alloc hB (.cells #[.slice no (l.length - 5) (cap - 5), .bool false] 108)))
      have hbelow := Lib.hid ((Below.refl w.heap.size w).alloc (Nat.le_refl _) (.cells #[.slice no (l.length - 5) (cap - 5), .bool false] 108))
      have hs1 : w.heap.size < (w.alloc (.cells #[.slice no (l.length - 5) (cap - 5), .bool false] 108)).heap.size := by simp
      clear hs HR0 HK
      generalize hW : w.alloc (.cells #[.slice no (l.length - 5) (cap - 5), .bool false] 108) = w1 at *
      clear hW
      refine N1.out.mono ?_
      rintro e w2 ⟨rfl, hr, hg⟩
      have HV2 := Lib.hid (HV1.out.grown hg (by omega) (by omega))
      have hs2 := hg.size
      have HG2 := Lib.hid hg
      have N2 := Lib.hid (two_any B w.heap.size _ w2 (by omega) hr)
      clear hr hg N1 HV1
      go_wp2_with fail
      refine N2.out.mono ?_
      rintro e w3 ⟨rfl, hr, hg⟩
      have HV3 := Lib.hid (HV2.out.grown hg (by omega) (by omega))
      have hs3 := hg.size
      have HG3 := Lib.hid hg
      have N3 := Lib.hid (ends_any B w.heap.size _ l _ w3 (by omega) hr HV3.out (by omega))
      have hm1 := numB_tk_lt false (l.drop 5, false)
      have hm2 := numB_tk_lt false (tkS false 2 (l.drop 5, false))
      have HR := Lib.hid (show readS false l = ⟨numB (tkB false 2 (l.drop 5, false)), numB (tkB false 2 (tkS false 2 (l.drop 5, false))), endF l (tkS false 2 (tkS false 2 (tkS false 2 (l.drop 5, false)))) (numB (tkB false 2 (tkS false 2 (tkS false 2 (l.drop 5, false)))))⟩ from rfl)
      unfold EndP at N3
      clear hr hg N2 HV2
      generalize endF l (tkS false 2 (tkS false 2 (tkS false 2 (l.drop 5, false)))) (numB (tkB false 2 (tkS false 2 (tkS false 2 (l.drop 5, false))))) = f at *
      generalize numB (tkB false 2 (l.drop 5, false)) = s1 at *
      generalize numB (tkB false 2 (tkS false 2 (l.drop 5, false))) = g1' at *
      go_wp2_with fail
      refine N3.out.mono ?_
      rintro e w4 ⟨rfl, hg⟩
      have hs4 := hg.size
      have HB4 := Lib.hid (below_grown (below_grown (below_grown hbelow.out HG2.out (Nat.le_refl _) (by omega)) HG3.out (Nat.le_refl _) (by omega)) hg (Nat.le_refl _) (by omega))
      clear hg N3
      have HF : Hid (decSF false l = if f ≠ 0 then f else if s1 = 0 ∨ g1' = 0 then 1 else 0) := by
        show decSF false l = _
        unfold decSF
        rw [HB0.out, HR.out]
        simp only [ne_eq, not_true_eq_false, if_false]
      by_cases hf : f = 0
      · subst hf
        have d0 : ((0 : Int) != 0) = false := by simp
        by_cases hs0 : s1 = 0
        · subst hs0
          have HF1 := Lib.hid (show decSF false l = 1 by rw [HF.out]; simp)
          have H1 := Lib.hid (show decS1 false l = 0 from if_neg (by rw [HF1.out]; omega))
          have H2 := Lib.hid (show decS2 false l = 0 from if_neg (by rw [HF1.out]; omega))
          clear HF
          go_wp2
          go_ret3
          exact ⟨by rw [HF1.out, H1.out, H2.out]; rfl, HB4.out⟩
        · have d1 : ((s1 : Int) == 0) = false := by rw [beq_eq_false_iff_ne]; omega
          by_cases hg0 : g1' = 0
          · subst hg0
            have HF1 := Lib.hid (show decSF false l = 1 by rw [HF.out]; simp)
            have H1 := Lib.hid (show decS1 false l = 0 from if_neg (by rw [HF1.out]; omega))
            have H2 := Lib.hid (show decS2 false l = 0 from if_neg (by rw [HF1.out]; omega))
            clear HF hs0
            go_wp2
            go_ret3
            exact ⟨by rw [HF1.out, H1.out, H2.out]; rfl, HB4.out⟩
          · have d2 : ((g1' : Int) == 0) = false := by rw [beq_eq_false_iff_ne]; omega
            have HF1 := Lib.hid (show decSF false l = 0 by rw [HF.out, if_neg (by simp), if_neg (by omega)])
            have H1 := Lib.hid (show decS1 false l = s1 by unfold decS1; rw [if_pos HF1.out, HR.out])
            have H2 := Lib.hid (show decS2 false l = g1' by unfold decS2; rw [if_pos HF1.out, HR.out])
            clear HF hs0 hg0
            go_wp2
            go_ret3
            exact ⟨by rw [HF1.out, H1.out, H2.out]; rfl, HB4.out⟩
      · have HF1 := Lib.hid (show decSF false l = f by rw [HF.out, if_pos hf])
        have H1 := Lib.hid (show decS1 false l = 0 from if_neg (by rw [HF1.out]; exact hf))
        have H2 := Lib.hid (show decS2 false l = 0 from if_neg (by rw [HF1.out]; exact hf))
        have d : (f != 0) = true := by rw [bne_iff_ne]; exact hf
        clear HF hf
        go_wp2
        go_ret3
        exact ⟨by rw [HF1.out, H1.out, H2.out]; rfl, HB4.out⟩
  · have HF := Lib.hid (show decSF false l = begF l 2 from if_pos hn)
    have H1 := Lib.hid (show decS1 false l = 0 from if_neg (by rw [HF.out]; exact hn))
    have H2 := Lib.hid (show decS2 false l = 0 from if_neg (by rw [HF.out]; exact hn))
    have d : (begF l 2 != 0) = true := by rw [bne_iff_ne]; exact hn
    clear hn h
    generalize begF l 2 = f at *
    go_enter Try.func19, Try.ntmps19
    go_wp2_with fail
    refine BG.out.mono ?_
    rintro e w1 ⟨rfl, rfl⟩
    go_wp2
    go_ret3
    exact ⟨by rw [HF.out, H1.out, H2.out]; rfl, Below.refl _ _⟩
end Go.Proofs.Ytfipkljefmfhmaa
