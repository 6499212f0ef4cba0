/- The beginning and the end of bytes that are read: begin, end, begins, ends. -/
import Derived.Test.YtfipkljefmfhmaaNumber
import Derived.Test.YtfipkljefmfhmaaWireWords
import Derived.Lib.SlBytesConst
namespace Go.Proofs.Ytfipkljefmfhmaa
open Go.RowKit
set_option linter.unusedVariables false
set_option linter.unusedSimpArgs false

set_option maxHeartbeats 400000 in
theorem when_B (b : Bool) (f : Int) (w : World) :
    Calls Try.prog 73 #[.bool b, .int .i64 f] w fun e w' => e = .returned (.int .i64 (if b then f else 0)) ∧ w = w' := by
  cases b
  all_goals
    go_enter Try.func73, Try.ntmps73
    go_wp2
    go_ret
    exact ⟨rfl, rfl⟩

def BeginP (T B : Nat) (l : List UInt8) (k : Nat) (w : World) (e : Ending) (w' : World) : Prop :=
  Below w.heap.size w w' ∧ ((begF l k ≠ 0 ∧ e = .returned (.tuple #[.pointer none, .int .i64 (begF l k)])) ∨
    (begF l k = 0 ∧ ∃ rb, w.heap.size ≤ rb ∧ e = .returned (.tuple #[.pointer (some ⟨rb, 0, none⟩), .int .i64 0]) ∧ Rd T B w' rb (l.drop 5, false)))

theorem size_alloc1 (w : World) : (w.alloc (.cells #[.int .u8 67, .int .u8 89, .int .u8 67, .int .u8 49] 5 (4, 5))).heap.size = w.heap.size + 1 := by simp

theorem head_bytes (w : World) : ByS (w.heap.size + 1) (w.alloc (.cells #[.int .u8 67, .int .u8 89, .int .u8 67, .int .u8 49] 5 (4, 5))) (.slice (some ⟨w.heap.size, 0, none⟩) 4 4) headB := by
  refine ⟨_, 4, rfl, Nat.le_refl _, by omega, fun _ => ⟨w.heap.size, 0, rfl, by omega, fun i hi => ?_⟩⟩
  rw [cell_of_row _ w.heap.size (0 + i) _ _ _ (heap_alloc_new w _)]
  match i, hi with
  | 0, _ => rfl
  | 1, _ => rfl
  | 2, _ => rfl
  | 3, _ => rfl

set_option maxHeartbeats 2000000 in
theorem begin_any (B : Nat) (v : Value) (l : List UInt8) (k : Nat) (w : World) (hB : B ≤ w.heap.size) (hk : k ≤ 255) (h : ByS B w v l) :
    Calls Try.prog 59 #[v, .int .u8 k] w (BeginP 169 B l k w) := by
  have kc := fun (w : World) (C : Array Value) (n c : Nat) => Lib.run_convert_bytes_const (P := Try.prog) w 22 5 C n c Try.underlying22 Try.underlying5
  obtain ⟨ao, cap, rfl, k1, k2, hx⟩ := id h
  clear hx
  by_cases h6 : 600 < l.length
  · have HB := Lib.hid (show begF l k = 2 from if_pos h6)
    have d : decide ((600 : Int) < (l.length : Int)) = true := by simp; omega
    clear h
    generalize l.length = L at *
    go_enter Try.func59, Try.ntmps59
    go_wp2
    go_ret2
    exact ⟨Below.refl _ _, .inl ⟨by rw [HB.out]; simp, by rw [HB.out]; rfl⟩⟩
  · have d : decide ((600 : Int) < (l.length : Int)) = false := by simp; omega
    have hh := head_bytes w
    have h' : ByS (w.heap.size + 1) (w.alloc (.cells #[.int .u8 67, .int .u8 89, .int .u8 67, .int .u8 49] 5 (4, 5))) (.slice ao l.length cap) l :=
      (h.below ((Below.refl _ w).alloc hB _)).more (by omega)
    have hbel : Below w.heap.size w (w.alloc (.cells #[.int .u8 67, .int .u8 89, .int .u8 67, .int .u8 49] 5 (4, 5))) := (Below.refl _ w).alloc (Nat.le_refl _) _
    have HBL := Lib.hid hbel
    clear hbel
    by_cases hp : l.take 4 = headB
    · have hl4 : 4 ≤ l.length := by
        have := congrArg List.length hp
        simp [headB] at this; omega
      have HP := Lib.hid (hasPrefix_yes _ _ _ l headB _ h' hh (by simpa [headB] using hl4) (by simpa [headB] using hp))
      by_cases h5 : l.length < 5
      · have HB := Lib.hid (show begF l k = 9 by unfold begF; rw [if_neg h6, if_pos (Or.inl h5)])
        have d5 : decide ((l.length : Int) < 5) = true := by simp; omega
        clear h h' hh hp
        generalize l.length = L at *
        go_enter Try.func59, Try.ntmps59
        go_wp2_with fail
        refine HP.out.mono ?_; rintro e w' ⟨rfl, rfl⟩
        go_wp2
        go_ret2
        exact ⟨HBL.out, .inl ⟨by rw [HB.out]; simp, by rw [HB.out]; rfl⟩⟩
      · have d5 : decide ((l.length : Int) < 5) = false := by simp; omega
        rcases h.cases with ⟨rfl, _⟩ | ⟨b, off, cap', e, g1, g2, g3, g4, hc⟩
        · simp at h5
        · injection e with e1 e2 e3
          subst e1 e3
          have c4 : w.cell? ⟨b, off + 4, none⟩ = some (.int .u8 ((l.getD 4 0).toNat : Int)) := by
            rw [hc 4 (by omega), List.getD_eq_getElem?_getD, List.getElem?_eq_getElem (by omega)]; rfl
          have hb4 := (l.getD 4 0).toNat_lt
          have hbw : b < w.heap.size := by omega
          by_cases hk4 : (l.getD 4 0).toNat = k
          · have HB := Lib.hid (show begF l k = 0 by unfold begF; rw [if_neg h6, if_neg (by rintro (e | e); exact h5 e; exact e hp), if_neg (by simpa using hk4)])
            rw [hk4] at c4
            have HK := Lib.hid (show ByS B w (.slice (if cap = 5 then some ⟨b, off, none⟩ else some ⟨b, off + 5, none⟩) (l.length - 5) (cap - 5)) (l.drop 5) by
              have := h.back (n := 5) (by omega)
              rwa [Option.map_some, addr_add] at this)
            have d6 : ((k : Int) != (k : Int)) = false := by simp
            have hcap5 : 5 ≤ cap := by omega
            have HC := Lib.hid hc
            clear h h' hh hp hk4 hb4 hc
            generalize l.length = L at *
            by_cases hc5 : cap = 5
            · have HK' := Lib.hid (show ByS B w (.slice (some ⟨b, off, none⟩) 0 0) (l.drop 5) by
                have := HK.out; rwa [if_pos hc5, show L - 5 = 0 by omega, show cap - 5 = 0 by omega] at this)
              obtain rfl : L = 5 := by omega
              subst hc5
              clear HK
              go_enter Try.func59, Try.ntmps59
              go_wp2_with fail
              refine HP.out.mono ?_; rintro e w' ⟨rfl, rfl⟩
              go_wp2
              go_ret2
              exact ⟨HBL.out.alloc (by simp) _, .inr ⟨HB.out, w.heap.size + 1, by omega, rfl, _, by rw [← size_alloc1 w]; exact heap_alloc_new _ _, HK'.out.below (((Below.refl _ w).alloc hB _).alloc (by simp; omega) _)⟩⟩
            · have HK' := Lib.hid (show ByS B w (.slice (some ⟨b, off + 5, none⟩) (L - 5) (cap - 5)) (l.drop 5) by
                have := HK.out; rwa [if_neg hc5] at this)
              have hc5' : 5 < cap := by omega
              clear HK hc5
              go_enter Try.func59, Try.ntmps59
              go_wp2_with fail
              refine HP.out.mono ?_; rintro e w' ⟨rfl, rfl⟩
              go_wp2
              go_ret2
              exact ⟨HBL.out.alloc (by simp) _, .inr ⟨HB.out, w.heap.size + 1, by omega, rfl, _, by rw [← size_alloc1 w]; exact heap_alloc_new _ _, HK'.out.below (((Below.refl _ w).alloc hB _).alloc (by simp; omega) _)⟩⟩
          · have HB := Lib.hid (show begF l k = 4 by unfold begF; rw [if_neg h6, if_neg (by rintro (e | e); exact h5 e; exact e hp), if_pos hk4])
            have d6 : (((l.getD 4 0).toNat : Int) != (k : Int)) = true := by rw [bne_iff_ne]; omega
            clear h h' hh hp hc
            generalize (l.getD 4 0).toNat = x at *
            generalize l.length = L at *
            go_enter Try.func59, Try.ntmps59
            go_wp2_with fail
            refine HP.out.mono ?_; rintro e w' ⟨rfl, rfl⟩
            go_wp2
            go_ret2
            exact ⟨HBL.out, .inl ⟨by rw [HB.out]; simp, by rw [HB.out]; rfl⟩⟩
    · have HP := Lib.hid (hasPrefix_no _ _ _ l headB _ h' hh (by simpa [headB] using hp))
      have HB := Lib.hid (show begF l k = 9 by unfold begF; rw [if_neg h6, if_pos (Or.inr hp)])
      clear h h' hh hp
      generalize l.length = L at *
      go_enter Try.func59, Try.ntmps59
      go_wp2_with fail
      refine HP.out.mono ?_; rintro e w' ⟨rfl, rfl⟩
      go_wp2
      go_ret2
      exact ⟨HBL.out, .inl ⟨by rw [HB.out]; simp, by rw [HB.out]; rfl⟩⟩
end Go.Proofs.Ytfipkljefmfhmaa
