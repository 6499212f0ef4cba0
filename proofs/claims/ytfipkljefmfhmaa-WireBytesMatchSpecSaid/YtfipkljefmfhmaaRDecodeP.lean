/- The contract of Decode of the reference. -/
import Derived.Test.YtfipkljefmfhmaaDecodeP
import Derived.Test.YtfipkljefmfhmaaSClone
namespace Go.Proofs.Ytfipkljefmfhmaa
open Go.RowKit
set_option linter.unusedVariables false
set_option linter.unusedSimpArgs false

theorem two_R {B : Nat} {w : World} {v : Value} {l : List UInt8} {rb : Nat} {s : RSt} {wi : World} (h : DSt 108 B w v l rb s wi) :
    Calls Try.prog 64 #[.pointer (some ⟨rb, 0, none⟩)] wi (NumD 108 B false w v l rb s 2 wi) := by
  refine (two_any B rb s wi (by have := h.2.2.2.2.1; have := h.2.2.2.2.2.2; omega) h.1).mono ?_
  rintro e w' ⟨rfl, hr, hg⟩
  exact ⟨rfl, h.next hr hg, hg⟩
theorem one_R {B : Nat} {w : World} {v : Value} {l : List UInt8} {rb : Nat} {s : RSt} {wi : World} (h : DSt 108 B w v l rb s wi) :
    Calls Try.prog 76 #[.pointer (some ⟨rb, 0, none⟩)] wi (NumD 108 B false w v l rb s 1 wi) := by
  refine (one_any B rb s wi (by have := h.2.2.2.2.1; have := h.2.2.2.2.2.2; omega) h.1).mono ?_
  rintro e w' ⟨rfl, hr, hg⟩
  exact ⟨rfl, h.next hr hg, hg⟩
theorem take_R {B : Nat} {w : World} {v : Value} {l : List UInt8} {rb : Nat} {s : RSt} {wi : World} (n : Nat) (hn : n ≤ 65535) (h : DSt 108 B w v l rb s wi) :
    Calls Try.prog 77 #[.pointer (some ⟨rb, 0, none⟩), .int .i64 n] wi (TakeD 108 B false w v l rb s n wi) := by
  refine (rtake_any B rb s n wi (by have := h.2.2.2.2.1; have := h.2.2.2.2.2.2; omega) hn h.1).mono ?_
  rintro e w' ⟨u, rfl, hu, hr, hg⟩
  exact ⟨u, rfl, hu, h.next hr hg, hg⟩
theorem ends_R {B : Nat} {w : World} {v : Value} {l : List UInt8} {rb : Nat} {s : RSt} {wi : World} (hl : 2 ≤ l.length) (h : DSt 108 B w v l rb s wi) :
    Calls Try.prog 65 #[.pointer (some ⟨rb, 0, none⟩), v] wi (EndD 108 B false w v l rb s wi) := by
  obtain ⟨h1, h2, h3, h4, h5, h6, h7⟩ := h
  have hw : w.heap.size < wi.heap.size := block_lt h3
  refine (ends_any B rb v l s wi (by omega) h1 h2 hl).mono ?_
  rintro e w' ⟨rfl, hg⟩
  exact ⟨rfl, (hg.block _ hw (by intro e; injection e with e; omega)).trans h3, below_grown h4 hg (by omega) (by omega), hg⟩

set_option maxHeartbeats 4000000 in
set_option maxRecDepth 100000 in
theorem rdecodeP_any (B : Nat) (v : Value) (l : List UInt8) (w : World) (hB : B ≤ w.heap.size) (h : ByS B w v l) :
    Calls Try.prog 28 #[v] w (DecPP false l w) := by
  have BG := Lib.hid (begins_any B v l 1 (w.alloc (.cells zcs 35)) (by omega) (h.below ((Below.refl _ w).alloc hB _)))
  by_cases hn : begF l 1 = 0
  · have hl5 := begF_len hn
    have hb0 := hn
    rw [hn] at BG
    rcases h.cases with ⟨rfl, _⟩ | ⟨b, off, cap, rfl, g1, g2, g3, g4, hc⟩
    · simp at hl5
    · obtain ⟨no, hs, HK⟩ := cut5 h hl5
      have hl5' : (5 : Int) ≤ (l.length : Int) := by omega
      have hbw : b < w.heap.size := by omega
      have hD0 : DSt 108 B w (.slice (some ⟨b, off, none⟩) l.length cap) l (w.heap.size + 1) (l.drop 5, false) ((w.alloc (.cells zcs 35)).alloc (.cells #[.slice no (l.length - 5) (cap - 5), .bool false] 108)) := by
        have e1 : (w.alloc (.cells zcs 35)).heap.size = w.heap.size + 1 := by simp
        refine ⟨⟨_, by rw [← e1]; exact heap_alloc_new _ _, (HK.out.below ((Below.refl _ w).alloc hB _)).below ((Below.refl _ _).alloc (by omega) _)⟩, (h.below ((Below.refl _ w).alloc hB _)).below ((Below.refl _ _).alloc (by omega) _),
          (Below.heap_alloc _ _ _ (by simp)).trans (heap_alloc_new w _), ((Below.refl _ w).alloc (Nat.le_refl _) _).alloc (by omega) _, by omega, by simp, hB⟩
      have hD := Lib.hid hD0
      obtain ⟨rb, hrb⟩ : ∃ rb, w.heap.size + 1 = rb := ⟨_, rfl⟩
      have HRB := Lib.hid hrb
      rw [hrb] at hD
      clear h hc hD0 hn hrb
      go_enter Try.func28, Try.ntmps28
      go_wp2_with fail
      refine BG.out.mono ?_
      rintro e w0 ⟨rfl, rfl⟩
      go_wp2_with fail
      rw [HRB.out]
      have HB0 := Lib.hid hb0
      clear hb0 hs HK BG g3
      generalize hvv : Value.slice (some ⟨b, off, none⟩) l.length cap = v at *
      clear hvv
      refine (two_R hD.out).mono ?_
      rintro e w2 ⟨rfl, hD2, -⟩
      have HD2 := Lib.hid (show DSt 108 B w v l rb (rd1 false l) w2 from hD2)
      clear hD2 hD
      go_wp2_with fail
      refine (one_R HD2.out).mono ?_
      rintro e w3 ⟨rfl, hD3, -⟩
      have HD3 := Lib.hid (show DSt 108 B w v l rb (rd2 false l) w3 from hD3)
      clear hD3 HD2
      go_wp2_with fail
      refine (one_R HD3.out).mono ?_
      rintro e w4 ⟨rfl, hD4, -⟩
      have HD4 := Lib.hid (show DSt 108 B w v l rb (rd3 false l) w4 from hD4)
      clear hD4 HD3
      go_wp2_with fail
      refine (one_R HD4.out).mono ?_
      rintro e w5 ⟨rfl, hD5, -⟩
      have HD5 := Lib.hid (show DSt 108 B w v l rb (rd4 false l) w5 from hD5)
      clear hD5 HD4
      go_wp2_with fail
      refine (two_R HD5.out).mono ?_
      rintro e w6 ⟨rfl, hD6, -⟩
      have HD6 := Lib.hid (show DSt 108 B w v l rb (rd5 false l) w6 from hD6)
      clear hD6 HD5
      have b1 : numB (tkB false 2 (l.drop 5, false)) ≤ 65535 := numB_tk_lt _ _
      have b2' : numB (tkB false 1 (rd1 false l)) ≤ 255 := numB_one_lt _ (by rw [tkB_len]; omega)
      have b3 : numB (tkB false 1 (rd2 false l)) ≤ 255 := numB_one_lt _ (by rw [tkB_len]; omega)
      have b4 : numB (tkB false 1 (rd3 false l)) ≤ 255 := numB_one_lt _ (by rw [tkB_len]; omega)
      have b5 : numB (tkB false 2 (rd4 false l)) ≤ 65535 := numB_tk_lt _ _
      have HR := Lib.hid (show readP false l = ⟨numB (tkB false 2 (l.drop 5, false)), numB (tkB false 1 (rd1 false l)), numB (tkB false 1 (rd2 false l)), numB (tkB false 1 (rd3 false l)), numB (tkB false 2 (rd4 false l)), numB (tkB false 1 (rd5 false l)),
         tkB false (nmL false l) (rd7 false l), tkB false (slL false l) (rd9 false l), endF l (tkS false 2 (rd10 false l)) (numB (tkB false 2 (rd10 false l)))⟩ from rfl)
      generalize numB (tkB false 2 (l.drop 5, false)) = src at *
      generalize numB (tkB false 1 (rd1 false l)) = pri at *
      generalize numB (tkB false 1 (rd2 false l)) = seq at *
      generalize numB (tkB false 1 (rd3 false l)) = uni at *
      generalize numB (tkB false 2 (rd4 false l)) = syn at *
      have HP6 := Lib.hid (heap_alloc_new w6 (.cells #[.int .i64 (src : Int), .string ⟨#[]⟩, .int .i64 (pri : Int), .int .i64 (seq : Int), .int .i64 (uni : Int), .int .i64 (syn : Int), .bool false, .slice none 0 0] 35))
      have hpr : w6.heap.size ≠ rb := by have := HD6.out.2.2.2.2.2.1; omega
      have hpw : w.heap.size < w6.heap.size := block_lt HD6.out.2.2.1
      generalize hpb : w6.heap.size = pb at *
      have HPB := Lib.hid hpb
      clear hpb
      go_wp2_with fail
      rw [HPB.out]
      refine (one_R (HD6.out.alloc _)).mono ?_
      rintro e w7 ⟨rfl, hD7, hg7⟩
      have HD7 := Lib.hid (show DSt 108 B w v l rb (rd6 false l) w7 from hD7)
      have HP7 := Lib.hid ((hg7.block pb (by simp; have := HPB.out; omega) (by intro e; injection e with e; exact hpr e)).trans HP6.out)
      have b6 : numB (tkB false 1 (rd5 false l)) ≤ 255 := numB_one_lt _ (by rw [tkB_len]; omega)
      generalize numB (tkB false 1 (rd5 false l)) = flags at *
      clear hD7 hg7 HD6 HP6
      go_wp2_with fail
      refine (one_R HD7.out).mono ?_
      rintro e w8 ⟨rfl, hD8, hg8⟩
      have HD8 := Lib.hid (show DSt 108 B w v l rb (rd7 false l) w8 from hD8)
      have HP8 := Lib.hid ((hg8.block pb (block_lt HP7.out) (by intro e; injection e with e; exact hpr e)).trans HP7.out)
      have b7 : nmL false l ≤ 255 := numB_one_lt _ (by rw [tkB_len]; omega)
      have HNM := Lib.hid (show numB (tkB false 1 (rd6 false l)) = nmL false l from rfl)
      rw [HNM.out]
      clear hD8 hg8 HD7 HP7 HNM
      go_wp2_with fail
      refine (take_R (nmL false l) (by omega) HD8.out).mono ?_
      rintro e w9 ⟨u9, rfl, hu9, hD9, hg9⟩
      have HD9 := Lib.hid (show DSt 108 B w v l rb (rd8 false l) w9 from hD9)
      have HP9 := Lib.hid ((hg9.block pb (block_lt HP8.out) (by intro e; injection e with e; exact hpr e)).trans HP8.out)
      have c9 := conv_bytes hu9
      have hnl : (tkB false (nmL false l) (rd7 false l)).length = nmL false l := tkB_len _ _ _
      have HNL := Lib.hid hnl
      generalize tkB false (nmL false l) (rd7 false l) = name at *
      have HD9s := Lib.hid (HD9.out.setCell pb 1 (.string ⟨name.toArray⟩) hpr hpw)
      have HP9s := Lib.hid (set_block (i := 1) (.string ⟨name.toArray⟩) HP9.out)
      obtain ⟨⟨-, k1, -, -, -, -, -, -⟩, kf⟩ := blk_cells HP9.out
      have kf1 := kf 1
      clear hD9 hg9 HD8 HP8 hu9 kf hnl
      go_wp2_with fail
      refine (two_R HD9s.out).mono ?_
      rintro e w10 ⟨rfl, hD10, hg10⟩
      have HD10 := Lib.hid (show DSt 108 B w v l rb (rd9 false l) w10 from hD10)
      have HP10 := Lib.hid ((hg10.block pb (by have := block_lt HP9.out; simpa using this) (by intro e; injection e with e; exact hpr e)).trans HP9s.out)
      have b8 : slL false l ≤ 65535 := numB_tk_lt _ _
      have HSM := Lib.hid (show numB (tkB false 2 (rd8 false l)) = slL false l from rfl)
      rw [HSM.out]
      clear hD10 hg10 HD9 HD9s HP9 HP9s HSM k1 kf1 c9
      go_wp2_with fail
      refine (take_R (slL false l) b8 HD10.out).mono ?_
      rintro e w11 ⟨u11, rfl, hu11, hD11, hg11⟩
      have HD11 := Lib.hid (show DSt 108 B w v l rb (rd10 false l) w11 from hD11)
      have HP11 := Lib.hid ((hg11.block pb (block_lt HP10.out) (by intro e; injection e with e; exact hpr e)).trans HP10.out)
      have hsl : (tkB false (slL false l) (rd9 false l)).length = slL false l := tkB_len _ _ _
      have CL := Lib.hid (sClone_any w11.heap.size u11 _ w11 (Nat.le_refl _) (by rw [hsl]; omega) hu11)
      have HSL := Lib.hid hsl
      have hsl9 : (tkB false (slL false l) (rd9 false l)).length ≤ 65535 := by omega
      generalize tkB false (slL false l) (rd9 false l) = slots at *
      clear hD11 hg11 HD10 HP10 hu11 hsl
      go_wp2_with fail
      refine CL.out.mono ?_
      rintro e w12 ⟨u12, rfl, hu12, hb12⟩
      have HD12 := Lib.hid (HD11.out.below hb12)
      have HP12 := Lib.hid ((hb12.block pb (block_lt HP11.out)).trans HP11.out)
      have HO12 := Lib.hid hu12
      obtain ⟨so, scap, rfl, s1, s2, hx⟩ := ByS.of_own hu12
      clear hx hu12
      have hp11 := block_lt HP11.out
      have HD11r := Lib.hid (show rb < w11.heap.size from HD11.out.2.2.2.2.2.1)
      have HD12s := Lib.hid (HD12.out.setCell pb 7 (.slice so slots.length scap) hpr hpw)
      have HP12s := Lib.hid (set_block (i := 7) (.slice so slots.length scap) HP12.out)
      have hs12 := hb12.size
      obtain ⟨⟨-, -, -, -, -, -, k6, k7⟩, kf⟩ := blk_cells HP12.out
      have kf6 := kf 6
      have kf7 := kf 7
      have hpl := block_lt HP12.out
      clear hb12 HD11 HP11 CL kf
      have HP12s' := Lib.hid (show (w12.setCell ⟨pb, 7, none⟩ (.slice so slots.length scap)).heap[pb]? = some (.cells #[.int .i64 (src : Int), .string ⟨name.toArray⟩, .int .i64 (pri : Int), .int .i64 (seq : Int), .int .i64 (uni : Int), .int .i64 (syn : Int), .bool false, .slice so slots.length scap] 35 (0, 0)) from HP12s.out)
      have EN := Lib.hid (ends_R (by omega) HD12s.out)
      unfold EndD at EN
      have HD13l : rb < w11.heap.size := HD11r.out
      have HOS := Lib.hid (HO12.out.kept (grown_set w12 pb 7 (.slice so slots.length scap)) (by
        rcases hv : (Value.slice so slots.length scap).ownBlock with _ | k
        · exact .inl rfl
        · right; intro e; injection e with e; subst e; have := (HO12.out.lt _ hv).1; omega))
      generalize endF l (tkS false 2 (rd10 false l)) (numB (tkB false 2 (rd10 false l))) = f at *
      clear HO12 HD12 HP12 HD12s HP12s
      go_wp2_with fail
      refine EN.out.mono ?_
      rintro e w14 ⟨rfl, hr14, hb14, hg14⟩
      have HP := Lib.hid ((hg14.block pb (block_lt HP12s'.out) (by intro e; injection e with e; exact hpr e)).trans HP12s'.out)
      have HO14 := HOS.out.kept hg14 (by
        rcases hv : (Value.slice so slots.length scap).ownBlock with _ | k
        · exact .inl rfl
        · right; intro e; injection e with e; subst e; have := (HOS.out.lt _ hv).1; omega)
      have HS14 := Lib.hid HO14
      have HR14 := Lib.hid hr14
      have HB14 := Lib.hid hb14
      have hz14 := block_lt hr14
      have hz14b := block_lt HP.out
      have hnm : name.length ≤ 255 := by have := HNL.out; omega
      clear hr14 hb14 hg14 HP12s' HO14 HOS EN k6 k7 kf6 kf7 HD13l
      by_cases hf : f = 0
      · subst hf
        by_cases h1f : 1 < flags
        · have HF := Lib.hid (show decPF false l = 3 by
            unfold decPF
            rw [HB0.out, HR.out]
            simp only [ne_eq, not_true_eq_false, if_false]
            rw [if_pos h1f])
          have HN := Lib.hid (show decPF false l ≠ 0 by rw [HF.out]; omega)
          have d : decide ((1 : Int) < (flags : Int)) = true := by simp; omega
          obtain ⟨⟨j0, j1, j2, j3, j4, j5, j6, j7⟩, jf⟩ := blk_cells HR14.out
          clear h1f
          go_wp2
          refine bodyPost_ret (v := .tuple #[zpkV, .int .i64 3]) (by simp [results, Try.results28, go_sem, j0, j1, j2, j3, j4, j5, j6, j7, jf, hz14]) rfl ⟨?_, .inl ⟨HN.out, by rw [HF.out]⟩⟩
          iterate 8 refine Below.setCell ?_ (by exact Nat.le_refl _) _
          exact HB14.out
        · have d : decide ((1 : Int) < (flags : Int)) = false := by simp; omega
          have d1 : ((flags : Int) == 1) = (flags == 1) := by
            by_cases h : flags = 1
            · subst h; rfl
            · rw [beq_eq_false_iff_ne.2 h, beq_eq_false_iff_ne]; omega
          have HDC0 := Lib.hid (show decPF false l = chkP src pri seq uni syn name (flags == 1) slots.length by
            unfold decPF
            rw [HB0.out, HR.out]
            simp only [ne_eq, not_true_eq_false, if_false]
            rw [if_neg h1f])
          have HRF := Lib.hid (show (readP false l).flags = flags by rw [HR.out])
          generalize hfb : (flags == 1) = fb at *
          have HFB := Lib.hid hfb
          clear hfb h1f
          have CK := Lib.hid (fun W => rcheck_any src pri seq uni syn ⟨name.toArray⟩ fb so slots.length scap W (name_size name hnm) (by omega))
          have hdt : (⟨name.toArray⟩ : ByteArray).data.toList = name := by simp
          simp only [hdt] at CK
          clear hdt
          obtain ⟨⟨-, -, -, -, -, -, k6, -⟩, kf⟩ := blk_cells HP.out
          have kf6 := kf 6
          have HP15 := Lib.hid (show (w14.setCell ⟨pb, 6, none⟩ (.bool fb)).heap[pb]? = some (.cells #[.int .i64 (src : Int), .string ⟨name.toArray⟩, .int .i64 (pri : Int), .int .i64 (seq : Int), .int .i64 (uni : Int), .int .i64 (syn : Int), .bool fb, .slice so slots.length scap] 35 (0, 0)) from set_block (i := 6) (.bool fb) HP.out)
          have HR15 := Lib.hid ((Below.heap_setCell w14 ⟨pb, 6, none⟩ (.bool fb) _ (by simp; omega)).trans HR14.out)
          have HB15 := Lib.hid (HB14.out.setCell (p := ⟨pb, 6, none⟩) (by simp; omega) (.bool fb))
          have HS15 := Lib.hid (HS14.out.kept (grown_set w14 pb 6 (.bool fb)) (by
            rcases hv : (Value.slice so slots.length scap).ownBlock with _ | k
            · exact .inl rfl
            · right; intro e; injection e with e; subst e; have := (HS14.out.lt _ hv).1; omega))
          obtain ⟨⟨i0, i1, i2, i3, i4, i5, i6, i7⟩, _⟩ := blk_cells HP.out
          have HDC := Lib.hid HDC0.out
          clear kf HDC0
          generalize chkP src pri seq uni syn name fb slots.length = ch at *
          go_wp2_with fail
          clear i0 i1 i2 i3 i4 i5 i6 i7 k6 kf6
          generalize hW15 : w14.setCell ⟨pb, 6, none⟩ (.bool fb) = w15 at *
          clear hW15
          have hpb15 := block_lt HP15.out
          have hz15' := block_lt HR15.out
          have hr16 := (Below.heap_alloc w15 (.cells #[.int .i64 (src : Int), .string ⟨name.toArray⟩, .int .i64 (pri : Int), .int .i64 (seq : Int), .int .i64 (uni : Int), .int .i64 (syn : Int), .bool fb, .slice so slots.length scap] 35) _ hz15').trans HR15.out
          have hp16 := (Below.heap_alloc w15 (.cells #[.int .i64 (src : Int), .string ⟨name.toArray⟩, .int .i64 (pri : Int), .int .i64 (seq : Int), .int .i64 (uni : Int), .int .i64 (syn : Int), .bool fb, .slice so slots.length scap] 35) _ hpb15).trans HP15.out
          have hb16 := HB15.out.alloc (by omega) (.cells #[.int .i64 (src : Int), .string ⟨name.toArray⟩, .int .i64 (pri : Int), .int .i64 (seq : Int), .int .i64 (uni : Int), .int .i64 (syn : Int), .bool fb, .slice so slots.length scap] 35)
          have hs16 := HS15.out.alloc (.cells #[.int .i64 (src : Int), .string ⟨name.toArray⟩, .int .i64 (pri : Int), .int .i64 (seq : Int), .int .i64 (uni : Int), .int .i64 (syn : Int), .bool fb, .slice so slots.length scap] 35)
          refine (CK.out _).mono ?_
          rintro e w16 ⟨rfl, hW⟩
          have hW' : w15.alloc (.cells #[.int .i64 (src : Int), .string ⟨name.toArray⟩, .int .i64 (pri : Int), .int .i64 (seq : Int), .int .i64 (uni : Int), .int .i64 (syn : Int), .bool fb, .slice so slots.length scap] 35) = w16 := hW
          rw [hW'] at hr16 hp16 hb16 hs16
          clear hW hW' CK
          obtain ⟨⟨i0, i1, i2, i3, i4, i5, i6, i7⟩, _⟩ := blk_cells hp16
          obtain ⟨⟨j0, j1, j2, j3, j4, j5, j6, j7⟩, jf⟩ := blk_cells hr16
          have hz16 := block_lt hr16
          have HB16 := Lib.hid hb16
          have HS16 := Lib.hid hs16
          clear hr16 hp16 hb16 hs16 HB15 HS15 HR15 HP15 hpb15
          by_cases hc0 : ch = 0
          · subst hc0
            go_wp2
            refine bodyPost_ret (v := .tuple #[pkV src ⟨name.toArray⟩ pri seq uni syn fb (.slice so slots.length scap), .int .i64 0]) (by simp [results, Try.results28, go_sem, World.cell?_alloc_past, j0, j1, j2, j3, j4, j5, j6, j7, jf, hz16]) rfl ⟨?_, .inr ⟨HDC.out, .slice so slots.length scap, ?_, ?_⟩⟩
            · iterate 8 refine Below.setCell ?_ (by exact Nat.le_refl _) _
              exact HB16.out
            · rw [show (readP false l).slots = slots by rw [HR.out]]
              refine ByS.of_own (base := w11.heap.size) (e := 5) (n := slots.length) ?_
              iterate 8 refine own_set ?_ _ _ (by omega)
              exact HS16.out
            · rw [HR.out, HFB.out]
          · have HF := Lib.hid HDC.out
            have HN := Lib.hid (show decPF false l ≠ 0 by rw [HDC.out]; exact hc0)
            have d' : (ch != 0) = true := by rw [bne_iff_ne]; exact hc0
            clear hc0
            go_wp2
            refine bodyPost_ret (v := .tuple #[zpkV, .int .i64 ch]) (by simp [results, Try.results28, go_sem, World.cell?_alloc_past, j0, j1, j2, j3, j4, j5, j6, j7, jf, hz16]) rfl ⟨?_, .inl ⟨HN.out, by rw [HF.out]⟩⟩
            iterate 8 refine Below.setCell ?_ (by exact Nat.le_refl _) _
            exact HB16.out
      · have HF := Lib.hid (show decPF false l = f by
          unfold decPF
          rw [HB0.out, HR.out]
          simp only [ne_eq, not_true_eq_false, if_false]
          rw [if_pos hf])
        have HN := Lib.hid (show decPF false l ≠ 0 by rw [HF.out]; exact hf)
        have d : (f != 0) = true := by rw [bne_iff_ne]; exact hf
        obtain ⟨⟨j0, j1, j2, j3, j4, j5, j6, j7⟩, jf⟩ := blk_cells HR14.out
        clear hf
        go_wp2
        refine bodyPost_ret (v := .tuple #[zpkV, .int .i64 f]) (by simp [results, Try.results28, go_sem, j0, j1, j2, j3, j4, j5, j6, j7, jf, hz14]) rfl ⟨?_, .inl ⟨HN.out, by rw [HF.out]⟩⟩
        iterate 8 refine Below.setCell ?_ (by exact Nat.le_refl _) _
        exact HB14.out
  · have HF := Lib.hid (show decPF false l = begF l 1 from if_pos hn)
    have d : (begF l 1 != 0) = true := by rw [bne_iff_ne]; exact hn
    have HN := Lib.hid (show decPF false l ≠ 0 by rw [HF.out]; exact hn)
    clear hn h
    generalize begF l 1 = f at *
    go_enter Try.func28, Try.ntmps28
    go_wp2_with fail
    refine BG.out.mono ?_
    rintro e w0 ⟨rfl, rfl⟩
    go_wp2
    refine bodyPost_ret (v := .tuple #[zpkV, .int .i64 f]) (by simp [results, Try.results28, go_sem]) rfl ⟨?_, .inl ⟨HN.out, by rw [HF.out]⟩⟩
    exact (Below.refl _ w).alloc (Nat.le_refl _) _
end Go.Proofs.Ytfipkljefmfhmaa
