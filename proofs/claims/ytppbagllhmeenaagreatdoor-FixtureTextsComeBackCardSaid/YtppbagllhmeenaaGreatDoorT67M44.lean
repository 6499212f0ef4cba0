/- The walk of cycloramalaw2.FixtureTextsComeBack. (printed by wip/gen/gen_libwalk.py) -/
import Derived.Test.YtppbagllhmeenaaGreatDoorT67M22
import Derived.Test.YtppbagllhmeenaaGreatDoorT67M41
import Derived.Test.YtppbagllhmeenaaGreatDoorT67M42
import Derived.Test.YtppbagllhmeenaaGreatDoorT67M43
import Derived.Test.YtppbagllhmeenaaGreatDoorT67M10

namespace Go.Proofs.YtppbagllhmeenaaGreatDoor
open Go.RowKit
theorem chk_fit {l : List Prf} (h : chkLib l = 0) : ∀ p ∈ l, PrfFit p := by
  intro p hp
  have hk := (libOk_of h).prfs p hp
  have hm : (20 : Nat) ≤ maxLen := by unfold maxLen; omega
  have i64 : ∀ {n : Int}, 0 ≤ n → n ≤ 1000000000 → I64 n := fun h0 h1 => i64_small h0 h1
  refine ⟨i64 (by have := hk.sz; omega) (by have := hk.sz; omega), Nat.le_trans hk.nm hm, fun x hx => ?_⟩
  have hx := hk.pars x hx
  refine ⟨i64 (by have := hx.grp; omega) (by have := hx.grp; omega), i64 (by have := hx.sl; omega) (by have := hx.sl; omega), i64 (by have := hx.fine; omega) (by have := hx.fine; omega), i64 (by have := hx.dflt; omega) (by have := hx.dflt; omega), Nat.le_trans hx.nm hm, fun r hr => ?_⟩
  have hr := hx.rngs r hr
  exact ⟨i64 (by have := hr.lo; omega) (by have := hr.lo; omega), i64 (by have := hr.hi; omega) (by have := hr.hi; omega), Nat.le_trans hr.nm hm⟩
theorem libT_cases {l : List Prf} (h : chkLib l = 0) : (libT l = (⟨#[]⟩, 2) ∧ 200000 < (libB l).size) ∨ (libT l = (libB l, 0) ∧ ¬ 200000 < (libB l).size) := by
  by_cases h2 : 200000 < (libB l).size
  · exact .inl ⟨libT_long h h2, h2⟩
  · exact .inr ⟨libT_ok h h2, h2⟩
end Go.Proofs.YtppbagllhmeenaaGreatDoor
namespace Go.Proofs.YtppbagllhmeenaaGreatDoor.fixtureTextsComeBack
open Go.RowKit
set_option linter.unusedVariables false
set_option linter.unusedSimpArgs false

set_option maxRecDepth 100000 in
set_option maxHeartbeats 16000000 in
theorem walk (a0 : Value) (s : ByteArray) (w : World) (w0 : LibV w a0) (w1 : s.size ≤ maxLen) (hT : TextW w) :
    Calls Tryz.prog 5 #[a0, .string s] w fun e w' => e = .returned (.bool true) ∧ Below w.heap.size w w' := by
  obtain ⟨l, hl, hf⟩ := w0
  have hs : s.size ≤ 9223372036854775807 := by unfold maxLen at w1; omega
  have KT := Lib.hid (fun v l W (hb : Below w.heap.size w W) (hp : PrfS W.heap.size W v l) hf => libText_any v l W (hT.below hb) hp hf)
  have KR := Lib.hid (fun (t : ByteArray) (ht : t.size ≤ 9223372036854775807) W (hb : Below w.heap.size w W) => libRead_any t W (hT.below hb) ht)
  have KS := Lib.hid (fun v u l W hv hu => sameLibrary_any v u l W hv hu)
  have HC := Lib.hid (rd_cases s)
  unfold RlPost at KR
  have C1 := Lib.hid (KT.out a0 l w (Below.refl _ _) hl hf)
  have HL := Lib.hid hl
  obtain ⟨lo, lcap, rfl⟩ := prfS_shape hl
  clear hl hf w1 hT
  by_cases hE : chkLib l = 0 ∧ ¬ 200000 < (libB l).size
  · have C2 := Lib.hid (KR.out (libB l) (by omega))
    rw [lib_back hE.1 hE.2] at C2
    rw [libT_ok hE.1 hE.2] at C1
    simp only at C1 C2
    clear hE
    generalize libB l = bt1 at *
    go_enter Tryz.func5, Tryz.ntmps5
    go_wp2_with fail
    refine C1.out.mono ?_
    rintro e w1 ⟨rfl, hb⟩
    have HB1 := Lib.hid hb
    have HL1 := Lib.hid ((HL.out.below hb).more hb.size)
    clear hb C1 HL
    go_wp2_with fail
    refine (C2.out _ HB1.out).mono ?_
    rintro e w2 ⟨v2, rfl, hp, hb⟩
    have HB2 := Lib.hid (HB1.out.trans (hb.mono HB1.out.size))
    have CS := Lib.hid (KS.out v2 _ l w2 hp ((HL1.out.below hb).more hb.size))
    obtain ⟨o2, c2, rfl⟩ := prfS_shape hp
    clear hb hp C2
    go_wp2_with fail
    refine CS.out.mono ?_
    rintro e w3 ⟨rfl, hb⟩
    have HB3 := Lib.hid (HB2.out.trans (hb.mono HB2.out.size))
    clear hb CS HB1 HB2 HL1
    have C6 := Lib.hid (KR.out s hs w3 HB3.out)
    rcases HC.out with ⟨hne, hno⟩ | ⟨l2, he, hch⟩
    · rw [hno] at C6
      generalize rdX s = rp at *
      obtain ⟨f, ln, rr⟩ := rp
      simp only at hne C6
      have hf1 : (f != 0) = true := by simpa using hne
      have hf2 : (f == 0) = false := by simpa using hne
      clear HC hno hne
      go_wp2_with fail
      refine C6.out.mono ?_
      rintro e wA ⟨v2, rfl, hp, hb⟩
      obtain ⟨o2, c2, rfl⟩ := prfS_shape hp
      have HBA := Lib.hid (HB3.out.trans (hb.mono HB3.out.size))
      clear hb hp C6
      go_wp2_with fail
      exact bodyPost_ret (v := .bool true) (by simp [results, Tryz.results5, go_sem]) rfl ⟨rfl, HBA.out⟩
    · rw [he] at C6
      have HF2 := Lib.hid (chk_fit hch)
      have HLT := Lib.hid (libT_cases hch)
      have HBK2 := Lib.hid (fun h => lib_back hch h)
      clear HC he hch
      simp only at C6
      go_wp2_with fail
      refine C6.out.mono ?_
      rintro e wA ⟨v2, rfl, hp, hb⟩
      have HBA := Lib.hid (HB3.out.trans (hb.mono HB3.out.size))
      have HP2 := Lib.hid hp
      obtain ⟨o2, c2, rfl⟩ := prfS_shape hp
      have CT := Lib.hid (KT.out _ l2 wA HBA.out hp HF2.out)
      clear hb hp C6
      rcases HLT.out with ⟨h1, h2⟩ | ⟨h1, h2⟩
      · rw [h1] at CT
        simp only at CT
        clear HLT HBK2 h1 h2
        go_wp2_with fail
        refine CT.out.mono ?_
        rintro e wB ⟨rfl, hb⟩
        have HBB := Lib.hid (HBA.out.trans (hb.mono HBA.out.size))
        clear hb CT
        go_wp2_with fail
        exact bodyPost_ret (v := .bool true) (by simp [results, Tryz.results5, go_sem]) rfl ⟨rfl, HBB.out⟩
      · rw [h1] at CT
        simp only at CT
        have C7 := Lib.hid (KR.out (libB l2) (by omega))
        rw [HBK2.out h2] at C7
        simp only at C7
        clear HLT HBK2 h1 h2
        generalize libB l2 = bt at *
        go_wp2_with fail
        refine CT.out.mono ?_
        rintro e wB ⟨rfl, hb⟩
        have HBB := Lib.hid (HBA.out.trans (hb.mono HBA.out.size))
        have HP3 := Lib.hid ((HP2.out.below hb).more hb.size)
        clear hb CT
        go_wp2_with fail
        refine (C7.out _ HBB.out).mono ?_
        rintro e wC ⟨v3, rfl, hp, hb⟩
        have HBC := Lib.hid (HBB.out.trans (hb.mono HBB.out.size))
        have CS := Lib.hid (KS.out _ v3 l2 wC ((HP3.out.below hb).more hb.size) hp)
        obtain ⟨o3, c3, rfl⟩ := prfS_shape hp
        clear hb hp C7
        go_wp2_with fail
        refine CS.out.mono ?_
        rintro e wD ⟨rfl, hb⟩
        have HBD := Lib.hid (HBC.out.trans (hb.mono HBC.out.size))
        clear hb CS
        go_wp2_with fail
        exact bodyPost_ret (v := .bool true) (by simp [results, Tryz.results5, go_sem]) rfl ⟨rfl, HBD.out⟩
  · have hT2 : (libT l).2 ≠ 0 := by
      by_cases h1 : chkLib l = 0
      · rw [libT_long h1 (Classical.not_not.1 fun h => hE ⟨h1, h⟩)]
        show (2 : Int) ≠ 0
        decide
      · rw [libT_bad h1]; exact h1
    generalize libT l = R at *
    obtain ⟨tx, fx⟩ := R
    simp only at hT2 C1
    have hf0 : (fx == 0) = false := by simpa using hT2
    clear hE hT2
    go_enter Tryz.func5, Tryz.ntmps5
    go_wp2_with fail
    refine C1.out.mono ?_
    rintro e w1 ⟨rfl, hb⟩
    have HB1 := Lib.hid hb
    clear hb C1 HL
    have C6 := Lib.hid (KR.out s hs w1 HB1.out)
    rcases HC.out with ⟨hne, hno⟩ | ⟨l2, he, hch⟩
    · rw [hno] at C6
      generalize rdX s = rp at *
      obtain ⟨f, ln, rr⟩ := rp
      simp only at hne C6
      have hf1 : (f != 0) = true := by simpa using hne
      have hf2 : (f == 0) = false := by simpa using hne
      clear HC hno hne
      go_wp2_with fail
      refine C6.out.mono ?_
      rintro e wA ⟨v2, rfl, hp, hb⟩
      obtain ⟨o2, c2, rfl⟩ := prfS_shape hp
      have HBA := Lib.hid (HB1.out.trans (hb.mono HB1.out.size))
      clear hb hp C6
      go_wp2_with fail
      exact bodyPost_ret (v := .bool true) (by simp [results, Tryz.results5, go_sem]) rfl ⟨rfl, HBA.out⟩
    · rw [he] at C6
      have HF2 := Lib.hid (chk_fit hch)
      have HLT := Lib.hid (libT_cases hch)
      have HBK2 := Lib.hid (fun h => lib_back hch h)
      clear HC he hch
      simp only at C6
      go_wp2_with fail
      refine C6.out.mono ?_
      rintro e wA ⟨v2, rfl, hp, hb⟩
      have HBA := Lib.hid (HB1.out.trans (hb.mono HB1.out.size))
      have HP2 := Lib.hid hp
      obtain ⟨o2, c2, rfl⟩ := prfS_shape hp
      have CT := Lib.hid (KT.out _ l2 wA HBA.out hp HF2.out)
      clear hb hp C6
      rcases HLT.out with ⟨h1, h2⟩ | ⟨h1, h2⟩
      · rw [h1] at CT
        simp only at CT
        clear HLT HBK2 h1 h2
        go_wp2_with fail
        refine CT.out.mono ?_
        rintro e wB ⟨rfl, hb⟩
        have HBB := Lib.hid (HBA.out.trans (hb.mono HBA.out.size))
        clear hb CT
        go_wp2_with fail
        exact bodyPost_ret (v := .bool true) (by simp [results, Tryz.results5, go_sem]) rfl ⟨rfl, HBB.out⟩
      · rw [h1] at CT
        simp only at CT
        have C7 := Lib.hid (KR.out (libB l2) (by omega))
        rw [HBK2.out h2] at C7
        simp only at C7
        clear HLT HBK2 h1 h2
        generalize libB l2 = bt at *
        go_wp2_with fail
        refine CT.out.mono ?_
        rintro e wB ⟨rfl, hb⟩
        have HBB := Lib.hid (HBA.out.trans (hb.mono HBA.out.size))
        have HP3 := Lib.hid ((HP2.out.below hb).more hb.size)
        clear hb CT
        go_wp2_with fail
        refine (C7.out _ HBB.out).mono ?_
        rintro e wC ⟨v3, rfl, hp, hb⟩
        have HBC := Lib.hid (HBB.out.trans (hb.mono HBB.out.size))
        have CS := Lib.hid (KS.out _ v3 l2 wC ((HP3.out.below hb).more hb.size) hp)
        obtain ⟨o3, c3, rfl⟩ := prfS_shape hp
        clear hb hp C7
        go_wp2_with fail
        refine CS.out.mono ?_
        rintro e wD ⟨rfl, hb⟩
        have HBD := Lib.hid (HBC.out.trans (hb.mono HBC.out.size))
        clear hb CS
        go_wp2_with fail
        exact bodyPost_ret (v := .bool true) (by simp [results, Tryz.results5, go_sem]) rfl ⟨rfl, HBD.out⟩
end Go.Proofs.YtppbagllhmeenaaGreatDoor.fixtureTextsComeBack
