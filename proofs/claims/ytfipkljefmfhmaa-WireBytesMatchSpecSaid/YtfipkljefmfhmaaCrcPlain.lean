/- Plain laws of the sum of bytes: one byte that is another one gives another sum. No program in sight. -/
namespace Go.Proofs.Ytfipkljefmfhmaa

/-- one bit of the sum -/
def bitStep (s : Nat) : Nat := if 32768 ≤ s then (s * 2 % 65536) ^^^ 4129 else s * 2 % 65536
/-- eight bits -/
def byteStep (s : Nat) : Nat := bitStep (bitStep (bitStep (bitStep (bitStep (bitStep (bitStep (bitStep s)))))))
/-- the sum of bytes -/
def crc (l : List UInt8) : Nat := l.foldl (fun s b => byteStep (s ^^^ (b.toNat * 256))) 65535

theorem bitStep_lt (s : Nat) : bitStep s < 65536 := by
  unfold bitStep
  split
  · exact Nat.xor_lt_two_pow (n := 16) (by omega) (by omega)
  · omega

theorem xor_cancel (a b c : Nat) (h : a ^^^ c = b ^^^ c) : a = b := by
  have := congrArg (· ^^^ c) h
  simpa [Nat.xor_assoc] using this

theorem xor_odd (a : Nat) : (a ^^^ 4129) % 2 = 1 - a % 2 := by
  have h := Nat.testBit_xor a 4129 0
  rw [Nat.testBit_zero, Nat.testBit_zero, Nat.testBit_zero] at h
  by_cases h1 : a % 2 = 1 <;> by_cases h2 : (a ^^^ 4129) % 2 = 1 <;> simp [h1, h2] at h ⊢ <;> omega

theorem bitStep_inj {a b : Nat} (ha : a < 65536) (hb : b < 65536) (h : bitStep a = bitStep b) : a = b := by
  unfold bitStep at h
  have ea : (a * 2 % 65536) % 2 = 0 := by omega
  have eb : (b * 2 % 65536) % 2 = 0 := by omega
  split at h <;> split at h
  · have := xor_cancel _ _ _ h; omega
  · have := xor_odd (a * 2 % 65536); omega
  · have := xor_odd (b * 2 % 65536); omega
  · omega

theorem byteStep_inj {a b : Nat} (ha : a < 65536) (hb : b < 65536) (h : byteStep a = byteStep b) : a = b := by
  unfold byteStep at h
  have l := bitStep_lt
  exact bitStep_inj ha hb (bitStep_inj (l _) (l _) (bitStep_inj (l _) (l _) (bitStep_inj (l _) (l _) (bitStep_inj (l _) (l _) (bitStep_inj (l _) (l _) (bitStep_inj (l _) (l _) (bitStep_inj (l _) (l _) h)))))))

theorem byteStep_lt (s : Nat) : byteStep s < 65536 := by unfold byteStep; exact bitStep_lt _

theorem crc_lt_from (l : List UInt8) (s : Nat) (hs : s < 65536) : l.foldl (fun s b => byteStep (s ^^^ (b.toNat * 256))) s < 65536 := by
  induction l generalizing s with
  | nil => exact hs
  | cons b l ih =>
    rw [List.foldl_cons]
    exact ih (byteStep (s ^^^ (b.toNat * 256))) (byteStep_lt (s ^^^ (b.toNat * 256)))
theorem crc_lt (l : List UInt8) : crc l < 65536 := by unfold crc; exact crc_lt_from l 65535 (by omega)

theorem byte_lt (s : Nat) (b : UInt8) (hs : s < 65536) : s ^^^ (b.toNat * 256) < 65536 := Nat.xor_lt_two_pow (n := 16) (by omega) (by have := b.toNat_lt; omega)

/-- the sums of two rows that begin alike from different states differ -/
theorem crc_from_inj (l : List UInt8) (s t : Nat) (hs : s < 65536) (ht : t < 65536) (h : l.foldl (fun s b => byteStep (s ^^^ (b.toNat * 256))) s = l.foldl (fun s b => byteStep (s ^^^ (b.toNat * 256))) t) : s = t := by
  induction l generalizing s t with
  | nil => exact h
  | cons b l ih =>
    rw [List.foldl_cons, List.foldl_cons] at h
    have := ih (byteStep (s ^^^ (b.toNat * 256))) (byteStep (t ^^^ (b.toNat * 256))) (byteStep_lt _) (byteStep_lt _) h
    have := byteStep_inj (byte_lt s b hs) (byte_lt t b ht) this
    exact xor_cancel _ _ _ this

/-- ONE BYTE IS ANOTHER ONE: ANOTHER SUM -/
theorem crc_one (p q : List UInt8) (b c : UInt8) (h : crc (p ++ b :: q) = crc (p ++ c :: q)) : b = c := by
  unfold crc at h
  simp only [List.foldl_append, List.foldl_cons] at h
  have hs : p.foldl (fun s b => byteStep (s ^^^ (b.toNat * 256))) 65535 < 65536 := crc_lt_from p 65535 (by omega)
  generalize p.foldl (fun s b => byteStep (s ^^^ (b.toNat * 256))) 65535 = s at *
  have h1 := crc_from_inj q _ _ (byteStep_lt _) (byteStep_lt _) h
  have h2 := byteStep_inj (byte_lt s b hs) (byte_lt s c hs) h1
  rw [Nat.xor_comm s, Nat.xor_comm s] at h2
  have h3 := xor_cancel _ _ _ h2
  have : b.toNat = c.toNat := by omega
  exact UInt8.toNat_inj.1 this

theorem crc_snoc (l : List UInt8) (b : UInt8) : crc (l ++ [b]) = byteStep (crc l ^^^ (b.toNat * 256)) := by
  unfold crc; simp

/-- k bits of a byte's eight -/
def bitN : Nat → Nat → Nat
  | 0, s => s
  | k + 1, s => bitStep (bitN k s)
theorem bitN_8 (s : Nat) : bitN 8 s = byteStep s := rfl
theorem bitN_lt (k s : Nat) (h : s < 65536) : bitN k s < 65536 := by
  cases k with
  | zero => exact h
  | succ k => exact bitStep_lt _
theorem crc_take (l : List UInt8) (k : Nat) (h : k < l.length) : crc (l.take (k + 1)) = byteStep (crc (l.take k) ^^^ (l[k].toNat * 256)) := by
  rw [List.take_succ_eq_append_getElem h, crc_snoc]
end Go.Proofs.Ytfipkljefmfhmaa
