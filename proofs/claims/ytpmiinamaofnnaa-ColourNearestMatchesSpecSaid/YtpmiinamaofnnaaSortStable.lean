/- slices.stableCmpFunc at gels: the merge in all cases; blocks sorted each by itself, then merged. -/
import Derived.Test.YtpmiinamaofnnaaSortSymA
import Derived.Test.YtpmiinamaofnnaaSortSymB
import Derived.Test.YtpmiinamaofnnaaSortSymC
namespace Go.Proofs.Ytpmiinamaofnnaa
open Go.RowKit
set_option linter.unusedVariables false
set_option linter.unusedSimpArgs false

theorem symMerge_any (g N cap : Nat) (fn : FuncId) (cp : Value) (key : Gel → Int) (W0 : World) (hC : CmpC fn cp key W0 g) (hN : N ≤ 100000) : ∀ (sz a m b : Nat) (D : Nat → Gel) (W : World), b - a < sz → W0.grownBy W (some g) → RowF W g N D → a < m → m < b → b ≤ N → SrtOn key D a m → SrtOn key D m b →
    Calls Try.prog 38 #[.slice (some ⟨g, 0, none⟩) N cap, .int .i64 a, .int .i64 m, .int .i64 b, .func (.func fn) #[] #[cp]] W fun e w' => e = .returned (.tuple #[]) ∧ ∃ E, RowF w' g N E ∧ Moved key D E a b ∧ SrtOn key E a b ∧ W0.grownBy w' (some g) := by
  intro sz
  induction sz with
  | zero => intro a m b D W h; omega
  | succ k ih =>
    intro a m b D W h hG hR h1 h2 h3 hA hB
    by_cases c1 : m = a + 1
    · exact symFirst_any g N cap a m b D fn cp key W0 W hC hG hR h1 h2 h3 hN hA hB c1
    by_cases c2 : b = m + 1
    · exact symLast_any g N cap a m b D fn cp key W0 W hC hG hR h1 h2 h3 hN hA hB c2 c1
    exact symBoth_any g N cap a m b D fn cp key W0 W hC hG hR h1 h2 h3 hN hA hB c1 c2 (b - a) rfl (fun a' m' b' D' W' hs => ih a' m' b' D' W' (by omega))
theorem symMerge_at (g N cap a m b : Nat) (D : Nat → Gel) (fn : FuncId) (cp : Value) (key : Gel → Int) (W0 W : World) (hC : CmpC fn cp key W0 g) (hN : N ≤ 100000) (hG : W0.grownBy W (some g)) (hR : RowF W g N D) (h1 : a < m) (h2 : m < b) (h3 : b ≤ N) (hA : SrtOn key D a m) (hB : SrtOn key D m b) :
    Calls Try.prog 38 #[.slice (some ⟨g, 0, none⟩) N cap, .int .i64 a, .int .i64 m, .int .i64 b, .func (.func fn) #[] #[cp]] W fun e w' => e = .returned (.tuple #[]) ∧ ∃ E, RowF w' g N E ∧ Moved key D E a b ∧ SrtOn key E a b ∧ W0.grownBy w' (some g) :=
  symMerge_any g N cap fn cp key W0 hC hN (b - a + 1) a m b D W (by omega) hG hR h1 h2 h3 hA hB

/-! ### blocks -/
theorem dv {i bs k : Nat} (h : 0 < bs) : i / bs = k ↔ bs * k ≤ i ∧ i < bs * k + bs := by
  constructor
  · rintro rfl
    have h1 := Nat.div_add_mod i bs
    have h2 := Nat.mod_lt i h
    omega
  · rintro ⟨h1, h2⟩
    exact Nat.div_eq_of_lt_le (by rw [Nat.mul_comm]; exact h1) (by rw [Nat.add_mul, Nat.one_mul, Nat.mul_comm k bs]; exact h2)
/-- each block of bs from a up to x is in order -/
def Blk (key : Gel → Int) (E : Nat → Gel) (bs a x : Nat) : Prop := ∀ i j, a ≤ i → i ≤ j → j < x → i / bs = j / bs → key (E i) ≤ key (E j)
theorem blk_none (key : Gel → Int) (E : Nat → Gel) (bs a : Nat) : Blk key E bs a a := fun i j h1 h2 h3 _ => by omega
theorem Blk.more {key : Gel → Int} {E F : Nat → Gel} {bs a b k : Nat} (h : Blk key E bs 0 a) (h0 : 0 < bs) (ha : a = bs * k) (hab : a ≤ b) (hM : Moved key E F a b) (hS : SrtOn key F a b) : Blk key F bs 0 b := by
  intro i j _ hij hj he
  by_cases hja : j < a
  · rw [hM.out i (.inl (by omega)), hM.out j (.inl hja)]
    exact h i j (Nat.zero_le _) hij hja he
  · by_cases hia : i < a
    · exfalso
      have h1 := (dv (i := i) (k := j / bs) h0).1 he
      have h2 := (dv (i := j) (k := j / bs) h0).1 rfl
      have h3 : k ≤ j / bs := by rw [Nat.le_div_iff_mul_le h0, Nat.mul_comm]; omega
      have h4 : bs * k ≤ bs * (j / bs) := Nat.mul_le_mul (Nat.le_refl _) h3
      omega
    · exact hS i j (by omega) hij hj
theorem Blk.rest {key : Gel → Int} {E F : Nat → Gel} {bs a b n : Nat} (h : Blk key E bs a n) (hab : a ≤ b) (hM : Moved key E F a b) : Blk key F bs b n := by
  intro i j h1 h2 h3 he
  rw [hM.out i (.inr h1), hM.out j (.inr (by omega))]
  exact h i j (by omega) h2 h3 he
theorem Blk.srt {key : Gel → Int} {E : Nat → Gel} {bs a n c x k : Nat} (h : Blk key E bs a n) (h0 : 0 < bs) (hc : c = bs * k) (hac : a ≤ c) (hx : x ≤ n) (hxc : x ≤ c + bs) : SrtOn key E c x := by
  intro i j h1 h2 h3
  refine h i j (by omega) h2 (by omega) ?_
  rw [(dv h0).2 (show bs * k ≤ i ∧ i < bs * k + bs from ⟨by omega, by omega⟩), (dv h0).2 (show bs * k ≤ j ∧ j < bs * k + bs from ⟨by omega, by omega⟩)]theorem two_blk {d bs a k : Nat} (h : d = bs + bs) (ha : a = d * k) : a = bs * (2 * k) := by rw [ha, h, Nat.add_mul, Nat.mul_left_comm, Nat.two_mul]
theorem two_blk1 {d bs a k p : Nat} (h : d = bs + bs) (ha : a = d * k) (hp : p = a + bs) : p = bs * (2 * k + 1) := by rw [hp, two_blk h ha, Nat.mul_add, Nat.mul_one]

set_option maxRecDepth 100000 in
set_option maxHeartbeats 16000000 in
theorem stableCmp_any (g N cap : Nat) (D : Nat → Gel) (fn : FuncId) (cp : Value) (key : Gel → Int) (W0 W : World) (hC : CmpC fn cp key W0 g) (hG : W0.grownBy W (some g)) (h : RowF W g N D) (hN : N ≤ 100000) :
    Calls Try.prog 31 #[.slice (some ⟨g, 0, none⟩) N cap, .int .i64 N, .func (.func fn) #[] #[cp]] W fun e w' => e = .returned (.tuple #[]) ∧ ∃ E, RowF w' g N E ∧ Moved key D E 0 N ∧ SrtOn key E 0 N ∧ W0.grownBy w' (some g) := by
  have HC := Lib.hid hC
  have HR0 := Lib.hid h
  have HG0 := Lib.hid hG
  clear hC h hG
  go_enter Try.func31, Try.ntmps31
  go_wp2_with fail
  go_loopw [7, 8] (fun va vb wr => ∃ (a b : Nat) (E : Nat → Gel), a ≤ N ∧ b = a + 20 ∧ va = .int .i64 a ∧ vb = .int .i64 b ∧ Hid (∃ k, a = 20 * k) ∧ Hid (Blk key E 20 0 a) ∧ Hid (Moved key D E 0 N) ∧ Hid (RowF wr g N E) ∧ Hid (W0.grownBy wr (some g))) (fun va _ _ => N + 20 - (intOf va).toNat)
  case atStart => exact ⟨0, 20, D, Nat.zero_le _, rfl, rfl, rfl, Lib.hid ⟨0, rfl⟩, Lib.hid (blk_none key D 20 0), Lib.hid (Moved.refl D 0 N), HR0, HG0⟩
  case round =>
    obtain ⟨a, b, E, ha, hb, rfl, rfl, HK, HB, HM, HR, HG⟩ := hrel
    by_cases hbn : b ≤ N
    · have hbni : (b : Int) ≤ N := by omega
      obtain ⟨c, hc⟩ : ∃ c : Nat, (c : Int) = (b : Int) + 20 := ⟨b + 20, by omega⟩
      have hcb : c = b + 20 := by omega
      have CI := Lib.hid (insSort_any g N cap a b E fn cp key W0 wr HC.out HG.out HR.out (by omega) hbn hN)
      have HHB := Lib.hid hb
      clear hb
      go_wp2_with fail
      refine CI.out.mono ?_
      rintro e w' ⟨rfl, F, hR, hM, hS, hG⟩
      obtain ⟨k, hk⟩ := HK.out
      have HBF := Lib.hid (HB.out.more (by omega) hk (by have := HHB.out; omega) hM hS)
      have HMF := Lib.hid (HM.out.trans (hM.wide (Nat.zero_le a) (by have := HHB.out; omega) hbn))
      have HRF := Lib.hid hR
      have HGF := Lib.hid hG
      have HKF := Lib.hid (show ∃ k, b = 20 * k from ⟨k + 1, by have := HHB.out; omega⟩)
      clear hR hM hS hG hk CI HK HB HM HR HG
      go_wp2_with fail
      go_roundw
      case rel => exact ⟨b, c, F, hbn, hcb, rfl, by rw [hc], HKF, HBF, HMF, HRF, HGF⟩
      case measure => have := HHB.out; simp [intOf]; omega
    have hbni : ¬ (b : Int) ≤ N := by omega
    have CI := Lib.hid (insSort_any g N cap a N E fn cp key W0 wr HC.out HG.out HR.out ha (Nat.le_refl _) hN)
    have HHB := Lib.hid hb
    clear hb
    go_wp2_with fail
    refine CI.out.mono ?_
    rintro e w' ⟨rfl, F, hR, hM, hS, hG⟩
    obtain ⟨k, hk⟩ := HK.out
    have HBF := Lib.hid (HB.out.more (by omega) hk ha hM hS)
    have HMF := Lib.hid (HM.out.trans (hM.wide (Nat.zero_le a) ha (Nat.le_refl _)))
    have HRF := Lib.hid hR
    have HGF := Lib.hid hG
    clear hR hM hS hG hk CI HK HB HM HR HG HHB hbni hbn ha HR0 HG0
    go_wp2_with fail
    go_loopw [6] (fun vs wr => ∃ (bs : Nat) (E : Nat → Gel), 0 < bs ∧ bs ≤ 200000 ∧ vs = .int .i64 bs ∧ Hid (Blk key E bs 0 N) ∧ Hid (Moved key D E 0 N) ∧ Hid (RowF wr g N E) ∧ Hid (W0.grownBy wr (some g))) (fun vs _ => N - (intOf vs).toNat)
    case atStart => exact ⟨20, F, by omega, by omega, rfl, HBF, HMF, HRF, HGF⟩
    case round =>
      obtain ⟨bs, E, hb0, hb1, rfl, HB, HM, HR, HG⟩ := hrel
      by_cases hlt : bs < N
      rotate_left
      · have hlti : ¬ (bs : Int) < N := by omega
        have HF := Lib.hid (HB.out.srt (c := 0) (x := N) (k := 0) hb0 (by omega) (Nat.le_refl _) (Nat.le_refl _) (by omega))
        go_wp2_with fail
        go_end0
        exact ⟨rfl, E, HR.out, HM.out, HF.out, HG.out⟩
      have hlti : (bs : Int) < N := by omega
      obtain ⟨d, hd⟩ : ∃ d : Nat, 2 * (bs : Int) = d := ⟨2 * bs, by omega⟩
      have hdb : d = bs + bs := by omega
      have hd2 : (bs : Int) * 2 = d := by omega
      have HDB := Lib.hid hdb
      have hd0 : 0 < d := by omega
      have hd1 : d ≤ 200000 := by omega
      have HB0 := HB
      have HM0 := HM
      have HR0 := HR
      have HG0 := HG
      clear HB HM HR HG hdb
      go_wp2_with fail
      go_loopw [7, 8] (fun va vb wr => ∃ (a b : Nat) (F : Nat → Gel), a ≤ N ∧ b = a + d ∧ va = .int .i64 a ∧ vb = .int .i64 b ∧ Hid (∃ k, a = d * k) ∧ Hid (Blk key F d 0 a) ∧ Hid (Blk key F bs a N) ∧ Hid (Moved key D F 0 N) ∧ Hid (RowF wr g N F) ∧ Hid (W0.grownBy wr (some g))) (fun va _ _ => N + 1 - (intOf va).toNat)
      case atStart => exact ⟨0, d, E, Nat.zero_le _, by omega, rfl, rfl, Lib.hid ⟨0, rfl⟩, Lib.hid (blk_none key E d 0), HB0, HM0, HR0, HG0⟩
      case round =>
        obtain ⟨a, b, F, ha, hb, rfl, rfl, HK, HB, HL, HM, HR, HG⟩ := hrel
        obtain ⟨p, hp⟩ : ∃ p : Nat, (a : Int) + bs = p := ⟨a + bs, by omega⟩
        have hpa : p = a + bs := by omega
        have HPA := Lib.hid hpa
        have HHB := Lib.hid hb
        clear hpa hb
        by_cases hbn : b ≤ N
        · have hbni : (b : Int) ≤ N := by omega
          obtain ⟨c, hc⟩ : ∃ c : Nat, (b : Int) + d = c := ⟨b + d, by omega⟩
          have HCB := Lib.hid (show c = b + d by omega)
          have CI := Lib.hid (symMerge_at g N cap a p b F fn cp key W0 wr HC.out hN HG.out HR.out (by have := HPA.out; omega) (by have := HPA.out; have := HHB.out; have := HDB.out; omega) hbn
            (by obtain ⟨k, hk⟩ := HK.out; exact HL.out.srt hb0 (two_blk HDB.out hk) (Nat.le_refl _) (by have := HPA.out; have := HHB.out; have := HDB.out; omega) (by have := HPA.out; omega))
            (by obtain ⟨k, hk⟩ := HK.out; exact HL.out.srt hb0 (two_blk1 HDB.out hk HPA.out) (by have := HPA.out; omega) hbn (by have := HPA.out; have := HHB.out; have := HDB.out; omega)))
          go_wp2_with fail
          refine CI.out.mono ?_
          rintro e w' ⟨rfl, G, hR, hM, hS, hG⟩
          obtain ⟨k, hk⟩ := HK.out
          have hab : a ≤ b := by have := HHB.out; omega
          have HBF := Lib.hid (HB.out.more hd0 hk hab hM hS)
          have HLF := Lib.hid (HL.out.rest hab hM)
          have HMF := Lib.hid (HM.out.trans (hM.wide (Nat.zero_le a) hab hbn))
          have HRF := Lib.hid hR
          have HGF := Lib.hid hG
          have HKF := Lib.hid (show ∃ k, b = d * k from ⟨k + 1, by rw [HHB.out, hk, Nat.mul_add, Nat.mul_one]⟩)
          clear hR hM hS hG hk hab CI HK HB HL HM HR HG HB0 HM0 HR0 HG0
          go_wp2_with fail
          go_roundw
          case rel => exact ⟨b, c, G, hbn, HCB.out, rfl, rfl, HKF, HBF, HLF, HMF, HRF, HGF⟩
          case measure => have := HHB.out; simp [intOf]; omega
        have hbni : ¬ (b : Int) ≤ N := by omega
        by_cases hpn : p < N
        · have hpni : (p : Int) < N := by omega
          have CI := Lib.hid (symMerge_at g N cap a p N F fn cp key W0 wr HC.out hN HG.out HR.out (by have := HPA.out; omega) hpn (Nat.le_refl _)
            (by obtain ⟨k, hk⟩ := HK.out; exact HL.out.srt hb0 (two_blk HDB.out hk) (Nat.le_refl _) (by omega) (by have := HPA.out; omega))
            (by obtain ⟨k, hk⟩ := HK.out; exact HL.out.srt hb0 (two_blk1 HDB.out hk HPA.out) (by have := HPA.out; omega) (Nat.le_refl _) (by have := HPA.out; have := HHB.out; have := HDB.out; omega)))
          go_wp2_with fail
          refine CI.out.mono ?_
          rintro e w' ⟨rfl, G, hR, hM, hS, hG⟩
          obtain ⟨k, hk⟩ := HK.out
          have HBF := Lib.hid (HB.out.more hd0 hk ha hM hS)
          have HMF := Lib.hid (HM.out.trans (hM.wide (Nat.zero_le a) ha (Nat.le_refl _)))
          have HRF := Lib.hid hR
          have HGF := Lib.hid hG
          clear hR hM hS hG hk CI HK HB HL HM HR HG HB0 HM0 HR0 HG0
          go_wp2_with fail
          go_roundw
          case rel => exact ⟨d, G, hd0, hd1, rfl, HBF, HMF, HRF, HGF⟩
          case measure => simp [intOf]; omega
        have hpni : ¬ (p : Int) < N := by omega
        have HBF := Lib.hid (show Blk key F d 0 N by
          obtain ⟨k, hk⟩ := HK.out
          exact HB.out.more hd0 hk ha (Moved.refl F a N) (HL.out.srt hb0 (two_blk HDB.out hk) (Nat.le_refl _) (Nat.le_refl _) (by have := HPA.out; omega)))
        clear HK HB HL HB0 HM0 HR0 HG0
        go_wp2_with fail
        go_roundw
        case rel => exact ⟨d, F, hd0, hd1, rfl, HBF, HM, HR, HG⟩
        case measure => simp [intOf]; omega

theorem srt_of_on {key : Gel → Int} {E : Nat → Gel} {N : Nat} (h : SrtOn key E 0 N) : Srt key (sgm E 0 N) := by
  unfold Srt
  rw [List.pairwise_iff_getElem]
  intro i j hi hj hij
  rw [sgm_get, sgm_get]
  rw [sgm_len] at hi hj
  exact h _ _ (Nat.zero_le _) (by omega) (by omega)
set_option maxRecDepth 100000 in
set_option maxHeartbeats 16000000 in
theorem sortStable_any (g N cap : Nat) (D : Nat → Gel) (fn : FuncId) (cp : Value) (key : Gel → Int) (W0 W : World) (hC : CmpC fn cp key W0 g) (hG : W0.grownBy W (some g)) (h : RowF W g N D) (hN : N ≤ 100000) :
    Calls Try.prog 17 #[.slice (some ⟨g, 0, none⟩) N cap, .func (.func fn) #[] #[cp]] W fun e w' => e = .returned (.tuple #[]) ∧ ∃ E, RowF w' g N E ∧ sgm E 0 N = stb key (sgm D 0 N) ∧ W0.grownBy w' (some g) := by
  have CR := Lib.hid (stableCmp_any g N cap D fn cp key W0 W hC hG h hN)
  clear hC hG h
  go_enter Try.func17, Try.ntmps17
  go_wp2_with fail
  refine CR.out.mono ?_
  rintro e w' ⟨rfl, E, h1, h2, h3, h4⟩
  have HR := Lib.hid h1
  have HE := Lib.hid (stb_of (srt_of_on h3) h2.eqv)
  have HG := Lib.hid h4
  clear h1 h2 h3 h4 CR
  go_wp2_with fail
  go_end0
  exact ⟨rfl, E, HR.out, HE.out, HG.out⟩
end Go.Proofs.Ytpmiinamaofnnaa
