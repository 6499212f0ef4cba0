/- The readers of numbers: number of the program, one and two of its reference. -/
import Derived.Test.YtfipkljefmfhmaaReader
import Derived.Deep.QuietTactic
import Derived.BigQuiet
import Derived.IntWalk
namespace Go.Proofs.Ytfipkljefmfhmaa
open Go.RowKit

def NumP (T B : Nat) (k : Bool) (rb : Nat) (s : RSt) (n : Nat) (w : World) (e : Ending) (w' : World) : Prop :=
  e = .returned (.int .i64 (numB (tkB k n s))) ∧ Rd T B w' rb (tkS k n s) ∧ w.grownBy w' (some rb)

theorem numB_take (l : List UInt8) (k : Nat) (h : k < l.length) : numB (l.take (k + 1)) = numB (l.take k) * 256 + l[k].toNat := by
  rw [List.take_succ_eq_append_getElem h, numB_snoc]

set_option maxHeartbeats 2000000 in
theorem number_any (B rb : Nat) (s : RSt) (n : Nat) (w : World) (hB : B ≤ rb) (hn : 1 ≤ n ∧ n ≤ 2) (h : Rd 169 B w rb s) :
    Calls Try.prog 60 #[.pointer (some ⟨rb, 0, none⟩), .int .i64 n] w (NumP 169 B true rb s n w) := by
  have TK := Lib.hid (take_any B rb s n w hB (by omega) h)
  have hlt : rb < w.heap.size := by obtain ⟨v, hb, _⟩ := h; exact block_lt hb
  clear h
  obtain ⟨hn1, hn2⟩ := hn
  go_enter Try.func60, Try.ntmps60
  go_wp2_with fail
  refine TK.out.mono ?_
  rintro e w1 ⟨v, rfl, hv, hr, hg⟩
  have hlen := tkB_len true n s
  have HR := Lib.hid hr
  have HG := Lib.hid hg
  clear hr hg TK
  generalize hL0 : tkB true n s = l at *
  have HL0 := Lib.hid hL0
  clear hL0
  rcases hv.cases with ⟨hl, _⟩ | ⟨b, off, cap, rfl, k1, k2, k3, k4, hc⟩
  · subst hl; simp at hlen; omega
  · have HC := Lib.hid hc
    have HL := Lib.hid hlen
    have hl2 : l.length ≤ 2 := by omega
    clear hv hc hlen
    go_wp2
    go_loop [5, 12] (fun o i => ∃ k : Nat, k ≤ l.length ∧ i = .int .i64 k ∧ o = .int .i64 (numB (l.take k))) (fun _ i => l.length - (intOf i).toNat)
    case atStart => exact ⟨0, Nat.zero_le _, rfl, rfl⟩
    case round =>
      obtain ⟨k, hk, rfl, rfl⟩ := hrel
      by_cases hlt2 : k < l.length
      · have hcell := HC.out k hlt2
        have HT := Lib.hid (numB_take l k hlt2)
        have hs : numB (l.take k) ≤ 255 := numB_one_lt _ (by simp; omega)
        have hb := l[k].toNat_lt
        generalize hsk : numB (l.take k) = t at *
        generalize hbk : l[k].toNat = x at *
        clear hsk hbk
        go_wp2
        go_round
        case rel => exact ⟨k + 1, by omega, by go_num, by rw [HT.out]; go_num⟩
        case measure => simp [intOf]; omega
      · have hkl : k = l.length := by omega
        have HK := Lib.hid (show numB (l.take k) = numB l by rw [hkl, List.take_length])
        clear hkl
        go_wp2
        go_ret
        exact ⟨by rw [HL0.out, ← HK.out]; rfl, HR.out, HG.out⟩

theorem list_len1 {l : List UInt8} (h : l.length = 1) : ∃ a, l = [a] := by
  match l, h with
  | [a], _ => exact ⟨a, rfl⟩
theorem list_len2 {l : List UInt8} (h : l.length = 2) : ∃ a b, l = [a, b] := by
  match l, h with
  | [a, b], _ => exact ⟨a, b, rfl⟩

set_option maxHeartbeats 2000000 in
theorem one_any (B rb : Nat) (s : RSt) (w : World) (hB : B ≤ rb) (h : Rd 108 B w rb s) :
    Calls Try.prog 76 #[.pointer (some ⟨rb, 0, none⟩)] w (NumP 108 B false rb s 1 w) := by
  have TK := Lib.hid (rtake_any B rb s 1 w hB (by omega) h)
  clear h
  go_enter Try.func76, Try.ntmps76
  go_wp2_with fail
  refine TK.out.mono ?_
  rintro e w1 ⟨v, rfl, hv, hr, hg⟩
  obtain ⟨a, hl⟩ := list_len1 (tkB_len false 1 s)
  have HR := Lib.hid hr
  have HG := Lib.hid hg
  have HL := Lib.hid (show numB (tkB false 1 s) = a.toNat by rw [hl]; simp [numB])
  rw [hl] at hv
  clear hr hg TK hl
  rcases hv.cases with ⟨hl, _⟩ | ⟨b, off, cap, rfl, k1, k2, k3, k4, hc⟩
  · cases hl
  · have c0 := hc 0 (by simp)
    simp at c0
    have hb := a.toNat_lt
    clear hv hc k1 k3
    go_wp2
    go_ret
    exact ⟨by rw [HL.out]; rfl, HR.out, HG.out⟩

set_option maxHeartbeats 2000000 in
theorem two_any (B rb : Nat) (s : RSt) (w : World) (hB : B ≤ rb) (h : Rd 108 B w rb s) :
    Calls Try.prog 64 #[.pointer (some ⟨rb, 0, none⟩)] w (NumP 108 B false rb s 2 w) := by
  have TK := Lib.hid (rtake_any B rb s 2 w hB (by omega) h)
  clear h
  go_enter Try.func64, Try.ntmps64
  go_wp2_with fail
  refine TK.out.mono ?_
  rintro e w1 ⟨v, rfl, hv, hr, hg⟩
  obtain ⟨a, a', hl⟩ := list_len2 (tkB_len false 2 s)
  have HR := Lib.hid hr
  have HG := Lib.hid hg
  have HL := Lib.hid (show numB (tkB false 2 s) = a.toNat * 256 + a'.toNat by rw [hl]; simp [numB])
  rw [hl] at hv
  clear hr hg TK hl
  rcases hv.cases with ⟨hl, _⟩ | ⟨b, off, cap, rfl, k1, k2, k3, k4, hc⟩
  · cases hl
  · have c0 := hc 0 (by simp)
    have c1 := hc 1 (by simp)
    simp at c0 c1
    have hb := a.toNat_lt
    have hb' := a'.toNat_lt
    generalize a.toNat = x at *
    generalize a'.toNat = y at *
    have e1 : IntKind.i64.wrap ((x : Int) * 256) = (x : Int) * 256 := IntWalk.i64_in _ (by omega)
    have e2 : IntKind.i64.wrap ((x : Int) * 256 + (y : Int)) = (x : Int) * 256 + (y : Int) := IntWalk.i64_in _ (by omega)
    clear hv hc k1 k3
    go_wp2
    go_quiet (fail)
    go_wp2
    go_ret
    exact ⟨by rw [HL.out]; simp, by obtain ⟨v, g1, g2⟩ := HR.out; exact ⟨v, g1, g2⟩, by have := HG.out; exact ⟨this.os, this.tape, this.output, this.size, this.block⟩⟩
end Go.Proofs.Ytfipkljefmfhmaa
