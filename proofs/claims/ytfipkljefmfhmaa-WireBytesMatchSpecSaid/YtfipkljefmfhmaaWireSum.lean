/- The contracts of wire.Sum and of its reference. -/
import Derived.Test.YtfipkljefmfhmaaProg
import Derived.Test.YtfipkljefmfhmaaCrcPlain
import Derived.WalkKit
import Derived.WalkSpells
import Derived.WalkLawsBesides
import Derived.Lib.Hide
namespace Go.Proofs.Ytfipkljefmfhmaa
open Go.RowKit

/-- the cells of a row of bytes -/
def BytesAt (w : World) (b off : Nat) (l : List UInt8) : Prop := ∀ i (h : i < l.length), w.cell? ⟨b, off + i, none⟩ = some (.int .u8 (l[i].toNat : Int))

theorem i64_xor (a b : Nat) (ha : a < 65536) (hb : b < 65536) : bits .xor .i64 (a : Int) (b : Int) = ((a ^^^ b : Nat) : Int) := by
  show IntKind.i64.wrap ((BitVec.ofInt 64 (a : Int) ^^^ BitVec.ofInt 64 (b : Int)).toNat : Int) = _
  rw [BitVec.toNat_xor, ofInt_u64 a (by omega), ofInt_u64 b (by omega)]
  have : a ^^^ b < 2 ^ 16 := Nat.xor_lt_two_pow (by omega) (by omega)
  simp [IntKind.wrap, IntKind.bits, IntKind.signed]
  omega

theorem i64_xor' (s x : Nat) (hs : s < 65536) (hx : x < 256) : bits .xor .i64 (s : Int) ((x : Int) * 256) = ((s ^^^ (x * 256) : Nat) : Int) := by
  have := i64_xor s (x * 256) hs (by omega)
  simpa using this
theorem xor_lt16 (s x : Nat) (hs : s < 65536) (hx : x < 256) : s ^^^ (x * 256) < 65536 := Nat.xor_lt_two_pow (n := 16) hs (by omega)
theorem step_hi (t : Nat) (_ht : t < 65536) (h : 32768 ≤ t) : ((bitStep t : Nat) : Int) = bits .xor .i64 ((t : Int) * 2 % 65536) 4129 := by
  unfold bitStep
  rw [if_pos h]
  have := i64_xor (t * 2 % 65536) 4129 (by omega) (by omega)
  simpa using this.symm
theorem step_lo (t : Nat) (h : t < 32768) : ((bitStep t : Nat) : Int) = (t : Int) * 2 % 65536 := by
  unfold bitStep
  rw [if_neg (by omega)]
  omega

set_option maxHeartbeats 1000000 in
theorem sum_any (b off cap : Nat) (l : List UInt8) (w : World) (hm : l.length ≤ 9223372036854775807) (hc : BytesAt w b off l) :
    Calls Try.prog 14 #[.slice (some ⟨b, off, none⟩) l.length cap] w fun e w' => e = .returned (.int .i64 (crc l)) ∧ w = w' := by
  go_enter Try.func14, Try.ntmps14
  go_wp2
  go_loop [3, 9] (fun s i => ∃ k : Nat, k ≤ l.length ∧ i = .int .i64 k ∧ s = .int .i64 (crc (l.take k))) (fun _ i => l.length - (intOf i).toNat)
  case atStart => exact ⟨0, Nat.zero_le _, rfl, rfl⟩
  case round =>
    obtain ⟨k, hk, rfl, rfl⟩ := hrel
    by_cases hlt : k < l.length
    · have hcell := hc k hlt
      have HT := Lib.hid (crc_take l k hlt)
      have hs := crc_lt (l.take k)
      have hb := l[k].toNat_lt
      generalize hsk : crc (l.take k) = s at *
      generalize hbk : l[k].toNat = x at *
      clear hsk hbk
      have HX := Lib.hid (i64_xor' s x hs hb)
      have hx := xor_lt16 s x hs hb
      go_wp2
      go_loop [3, 18] (fun u j => ∃ m : Nat, m ≤ 8 ∧ j = .int .i64 m ∧ u = .int .i64 (bitN m (s ^^^ (x * 256)))) (fun _ j => 8 - (intOf j).toNat)
      case atStart => exact ⟨0, Nat.zero_le _, rfl, by rw [HX.out]; rfl⟩
      case round =>
        obtain ⟨m, hm8, rfl, rfl⟩ := hrel
        by_cases hml : m < 8
        · have ht := bitN_lt m _ hx
          have HB := Lib.hid (show bitN (m + 1) (s ^^^ (x * 256)) = bitStep (bitN m (s ^^^ (x * 256))) from rfl)
          generalize bitN m (s ^^^ (x * 256)) = t at *
          by_cases hh : 32768 ≤ t
          · have HS := Lib.hid (step_hi t ht hh)
            have hh' : (32768 : Int) ≤ (t : Int) := by omega
            have ht' : (t : Int) ≤ 65535 := by omega
            clear hx hs hb ht hh
            go_wp2
            go_round
            case rel => exact ⟨m + 1, by omega, by go_num, by rw [HB.out, HS.out]⟩
            case measure => simp [intOf]; omega
          · have HS := Lib.hid (step_lo t (by omega))
            have hh' : (t : Int) ≤ 32767 := by omega
            have hd : decide ((32768 : Int) ≤ (t : Int)) = false := by simp; omega
            clear hx hs hb ht hh
            go_wp2
            go_round
            case rel => exact ⟨m + 1, by omega, by go_num, by rw [HB.out, HS.out]⟩
            case measure => simp [intOf]; omega
        · obtain rfl : m = 8 := by omega
          go_wp2
          go_round
          case rel => exact ⟨k + 1, by omega, by go_num, by rw [HT.out]; rfl⟩
          case measure => simp [intOf]; omega
    · have hkl : k = l.length := by omega
      have HK := Lib.hid (show crc (l.take k) = crc l by rw [hkl, List.take_length])
      clear hkl
      go_wp2
      go_ret
      exact ⟨by rw [HK.out]; rfl, rfl⟩

set_option maxHeartbeats 1000000 in
theorem refSum_any (b off cap : Nat) (l : List UInt8) (w : World) (hm : l.length ≤ 9223372036854775807) (hc : BytesAt w b off l) :
    Calls Try.prog 15 #[.slice (some ⟨b, off, none⟩) l.length cap] w fun e w' => e = .returned (.int .i64 (crc l)) ∧ w = w' := by
  go_enter Try.func15, Try.ntmps15
  go_wp2
  go_loop [3, 9] (fun s i => ∃ k : Nat, k ≤ l.length ∧ i = .int .i64 k ∧ s = .int .i64 (crc (l.take k))) (fun _ i => l.length - (intOf i).toNat)
  case atStart => exact ⟨0, Nat.zero_le _, rfl, rfl⟩
  case round =>
    obtain ⟨k, hk, rfl, rfl⟩ := hrel
    by_cases hlt : k < l.length
    · have hcell := hc k hlt
      have HT := Lib.hid (crc_take l k hlt)
      have hs := crc_lt (l.take k)
      have hb := l[k].toNat_lt
      generalize hsk : crc (l.take k) = s at *
      generalize hbk : l[k].toNat = x at *
      clear hsk hbk
      have HX := Lib.hid (i64_xor' s x hs hb)
      have hx := xor_lt16 s x hs hb
      go_wp2
      go_loop [3, 18] (fun u j => ∃ m : Nat, m ≤ 8 ∧ j = .int .i64 m ∧ u = .int .i64 (bitN m (s ^^^ (x * 256)))) (fun _ j => 8 - (intOf j).toNat)
      case atStart => exact ⟨0, Nat.zero_le _, rfl, by rw [HX.out]; rfl⟩
      case round =>
        obtain ⟨m, hm8, rfl, rfl⟩ := hrel
        by_cases hml : m < 8
        · have ht := bitN_lt m _ hx
          have HB := Lib.hid (show bitN (m + 1) (s ^^^ (x * 256)) = bitStep (bitN m (s ^^^ (x * 256))) from rfl)
          generalize bitN m (s ^^^ (x * 256)) = t at *
          by_cases hh : 32768 ≤ t
          · have HS := Lib.hid (step_hi t ht hh)
            have hh' : (32768 : Int) ≤ (t : Int) := by omega
            have ht' : (t : Int) ≤ 65535 := by omega
            clear hx hs hb ht hh
            go_wp2
            go_round
            case rel => exact ⟨m + 1, by omega, by go_num, by rw [HB.out, HS.out]⟩
            case measure => simp [intOf]; omega
          · have HS := Lib.hid (step_lo t (by omega))
            have hh' : (t : Int) ≤ 32767 := by omega
            have hd : decide ((32768 : Int) ≤ (t : Int)) = false := by simp; omega
            clear hx hs hb ht hh
            go_wp2
            go_round
            case rel => exact ⟨m + 1, by omega, by go_num, by rw [HB.out, HS.out]⟩
            case measure => simp [intOf]; omega
        · obtain rfl : m = 8 := by omega
          go_wp2
          go_round
          case rel => exact ⟨k + 1, by omega, by go_num, by rw [HT.out]; rfl⟩
          case measure => simp [intOf]; omega
    · have hkl : k = l.length := by omega
      have HK := Lib.hid (show crc (l.take k) = crc l by rw [hkl, List.take_length])
      clear hkl
      go_wp2
      go_ret
      exact ⟨by rw [HK.out]; rfl, rfl⟩
end Go.Proofs.Ytfipkljefmfhmaa
