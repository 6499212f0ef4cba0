/- The contract of Encode of the program. -/
import Derived.Test.YtfipkljefmfhmaaEncode
namespace Go.Proofs.Ytfipkljefmfhmaa
open Go.RowKit
set_option linter.unusedVariables false
set_option linter.unusedSimpArgs false

def encPL (src pri seq uni syn : Int) (nm : List UInt8) (en : Bool) (m : List UInt8) : List UInt8 :=
  if chkP src pri seq uni syn nm en m.length = 0 then encP src.toNat pri.toNat seq.toNat uni.toNat syn.toNat en nm m else []
def EncPP (src pri seq uni syn : Int) (nm : List UInt8) (en : Bool) (m : List UInt8) (w : World) (e : Ending) (w' : World) : Prop :=
  ∃ v, e = .returned (.tuple #[v, .int .i64 (chkP src pri seq uni syn nm en m.length)]) ∧ ByS w'.heap.size w' v (encPL src pri seq uni syn nm en m) ∧ Below w.heap.size w w'

theorem chkP_zero {src pri seq uni syn : Int} {nm : List UInt8} {en : Bool} {n : Nat} (h : chkP src pri seq uni syn nm en n = 0) :
    (1 ≤ src ∧ src ≤ 65535) ∧ (0 ≤ pri ∧ pri ≤ 100) ∧ (0 ≤ seq ∧ seq ≤ 255) ∧ (1 ≤ uni ∧ uni ≤ 64) ∧ (0 ≤ syn ∧ syn ≤ 65535) ∧ nameB nm = true ∧ nm.length ≤ 20 ∧ n ≤ 512 ∧ en = (n == 0) := by
  unfold chkP at h
  by_cases hr : rngB src pri seq uni syn = false
  · rw [if_pos hr] at h; omega
  · rw [if_neg hr] at h
    by_cases hm : nameB nm = false
    · rw [if_pos hm] at h; omega
    · rw [if_neg hm] at h
      by_cases h5 : 512 < n
      · rw [if_pos h5] at h; omega
      · rw [if_neg h5] at h
        by_cases he : en ≠ (n == 0)
        · rw [if_pos he] at h; omega
        · have hr' : rngB src pri seq uni syn = true := by simpa using hr
          have hm' : nameB nm = true := by simpa using hm
          simp [rngB, inB] at hr'
          have hl : nm.length ≤ 20 := by
            unfold nameB at hm'
            simp at hm'
            exact hm'.1.1.2
          exact ⟨hr'.1.1.1.1, hr'.1.1.1.2, hr'.1.1.2, hr'.1.2, hr'.2, hm', hl, by omega, by simpa using he⟩

set_option maxHeartbeats 2000000 in
theorem encodeP_any (B : Nat) (src pri seq uni syn : Int) (nm : ByteArray) (en : Bool) (sl : Value) (m : List UInt8) (w : World) (hB : B ≤ w.heap.size) (hn : nm.size ≤ maxLen) (hs : ByS B w sl m) :
    Calls Try.prog 23 #[pkV src nm pri seq uni syn en sl] w (EncPP src pri seq uni syn nm.data.toList en m w) := by
  obtain ⟨ao, cap, rfl, c1, c2, hx⟩ := id hs
  clear hx
  have CK := Lib.hid (fun W => check_any src pri seq uni syn nm en ao m.length cap W hn (by omega))
  clear hn
  by_cases hc : chkP src pri seq uni syn nm.data.toList en m.length = 0
  · obtain ⟨h1, h2, h3, h4, h5, h6, h7, h8, h9⟩ := chkP_zero hc
    have HE := Lib.hid (show encPL src pri seq uni syn nm.data.toList en m = encP src.toNat pri.toNat seq.toNat uni.toNat syn.toNat en nm.data.toList m from if_pos hc)
    have HZ := Lib.hid hc
    rw [hc] at CK
    have hn7 : nm.size ≤ 255 := by simp at h7; omega
    clear hc h6 h7 h9
    obtain ⟨src, rfl⟩ : ∃ n : Nat, src = n := ⟨src.toNat, by omega⟩
    obtain ⟨pri, rfl⟩ : ∃ n : Nat, pri = n := ⟨pri.toNat, by omega⟩
    obtain ⟨seq, rfl⟩ : ∃ n : Nat, seq = n := ⟨seq.toNat, by omega⟩
    obtain ⟨uni, rfl⟩ : ∃ n : Nat, uni = n := ⟨uni.toNat, by omega⟩
    obtain ⟨syn, rfl⟩ : ∃ n : Nat, syn = n := ⟨syn.toNat, by omega⟩
    simp only [Int.toNat_natCast] at HE
    have EN := Lib.hid (fun W hs => encode_any B src pri seq uni syn nm en (.slice ao m.length cap) m W hs (by omega) (by omega) (by omega) (by omega) (by omega) hn7 h8)
    have HS := Lib.hid hs
    have hbe := Lib.hid ((Below.refl w.heap.size w).alloc (Nat.le_refl _))
    clear hs h1 h2 h3 h4 h5
    go_enter Try.func23, Try.ntmps23
    go_wp2_with fail
    refine (CK.out _).mono ?_
    rintro e w1 ⟨rfl, rfl⟩
    go_wp2_with fail
    refine (EN.out _ (by simp; omega) ((HS.out.below (((Below.refl _ w).alloc hB _).alloc (by simp; omega) _)))).mono ?_
    rintro e w1 ⟨v, rfl, hv, hb⟩
    have HV := Lib.hid hv
    have HB := Lib.hid ((((Below.refl _ w).alloc (Nat.le_refl _) _).alloc (by simp) _).trans (hb.mono (by simp; omega)))
    clear hv hb
    go_wp2
    go_ret2
    exact ⟨v, by rw [HZ.out]; rfl, by rw [HE.out]; exact HV.out, HB.out⟩
  · have HE := Lib.hid (show encPL src pri seq uni syn nm.data.toList en m = [] from if_neg hc)
    have d : (chkP src pri seq uni syn nm.data.toList en m.length != 0) = true := by rw [bne_iff_ne]; exact hc
    unfold EncPP
    clear hc hs
    generalize chkP src pri seq uni syn nm.data.toList en m.length = f at *
    go_enter Try.func23, Try.ntmps23
    go_wp2_with fail
    refine (CK.out _).mono ?_
    rintro e w1 ⟨rfl, rfl⟩
    go_wp2
    go_ret2
    exact ⟨_, rfl, by rw [HE.out]; exact nil_bytes _ _, ((Below.refl _ w).alloc (Nat.le_refl _) _).alloc (by simp) _⟩
end Go.Proofs.Ytfipkljefmfhmaa
