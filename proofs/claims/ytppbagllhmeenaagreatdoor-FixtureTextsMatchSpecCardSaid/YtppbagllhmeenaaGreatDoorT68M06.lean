/- Trim, Digits, NumberOf, Cut at one mark: contracts at texts of any kind. -/
import Derived.Test.YtppbagllhmeenaaGreatDoorT68M05

namespace Go.Proofs.YtppbagllhmeenaaGreatDoor
open Go.RowKit
set_option linter.unusedVariables false
set_option linter.unusedSimpArgs false

theorem ten_no {c : UInt8} (h : ¬ IsDig c) : ten.contains c = false := by
  cases e : ten.contains c with
  | false => rfl
  | true => exact absurd ((ten_iff c).1 e) h
theorem nil_of {t : ByteArray} (h : ¬ 0 < t.size) : t = ⟨#[]⟩ := by
  have : t.size = 0 := by omega
  exact ByteArray.ext (by apply Array.ext <;> simp_all)
theorem nodig_pos {t : ByteArray} (h : ¬ AllDig t) : 0 < t.size := by
  rcases Nat.eq_zero_or_pos t.size with h0 | h0
  · exact absurd (fun i hi => by omega) h
  · exact h0

set_option maxHeartbeats 1000000 in
theorem trimR_any (g : Nat) (s : ByteArray) (w : World) (hn : s.size ≤ 9223372036854775807) (hc : ∀ c : UInt8, w.cell? ⟨g, c.toNat, none⟩ = some (.bool (ten.contains c))) :
    Calls Tryz.prog 123 #[.string s, .pointer (some ⟨g, 0, none⟩)] w fun e w' => (∃ t : ByteArray, e = .returned (.string t) ∧ t.size ≤ s.size ∧ ((t = ⟨#[]⟩ ∧ AllDig s) ∨ (¬ AllDig t ∧ ¬ AllDig s))) ∧ w = w' := by
  have CC := Lib.hid (fun (c : UInt8) => contains_any g (c.toNat : Int) (ten.contains c) w (by omega) (by have := UInt8.toNat_lt c; omega) (hc c))
  clear hc
  go_enter Tryz.func123, Tryz.ntmps123
  go_wp2_with fail
  go_loop [0] (fun x => ∃ t : ByteArray, x = .string t ∧ t.size ≤ 9223372036854775807 ∧ Hid (t.size ≤ s.size ∧ (AllDig t ↔ AllDig s))) (fun x => match x with | .string b => b.size | _ => 0)
  case atStart => exact ⟨s, rfl, hn, Nat.le_refl _, Iff.rfl⟩
  case round =>
    obtain ⟨t, rfl, ht, HT⟩ := hrel
    clear hn
    by_cases h0 : 0 < t.size
    · by_cases hd : IsDig (t[t.size - 1])
      · have HCUT := Lib.hid (allDig_iff_cut h0 hd)
        have HSZ := Lib.hid (show (t.extract 0 (t.size - 1)).size = t.size - 1 by simp)
        have CT := Lib.hid (CC.out t[t.size - 1])
        rw [(ten_iff _).2 hd] at CT
        clear hd
        go_wp2_with fail
        refine CT.out.mono ?_
        rintro e w' ⟨rfl, rfl⟩
        go_wp2
        go_round
        case rel => exact ⟨_, rfl, by rw [HSZ.out]; omega, by rw [HSZ.out]; have := HT.out.1; omega, HCUT.out.trans HT.out.2⟩
        case measure => show (t.extract 0 (t.size - 1)).size < t.size; rw [HSZ.out]; omega
      · have CT := Lib.hid (CC.out t[t.size - 1])
        rw [ten_no hd] at CT
        have HN := Lib.hid (show ¬ AllDig t from fun h => hd (h _ _))
        clear hd
        go_wp2_with fail
        refine CT.out.mono ?_
        rintro e w' ⟨rfl, rfl⟩
        go_wp2
        go_ret
        exact ⟨⟨_, rfl, HT.out.1, .inr ⟨HN.out, fun h => HN.out (HT.out.2.2 h)⟩⟩, rfl⟩
    · have he := nil_of h0
      subst he
      have HA := Lib.hid (HT.out.2.1 (fun i hi => absurd hi (by show ¬ i < 0; omega)))
      go_wp2
      go_ret
      exact ⟨⟨_, rfl, Nat.zero_le _, .inl ⟨rfl, HA.out⟩⟩, rfl⟩

set_option maxHeartbeats 1000000 in
theorem trimL_any (g : Nat) (s : ByteArray) (w : World) (hn : s.size ≤ 9223372036854775807) (hd : ¬ AllDig s) (hc : ∀ c : UInt8, w.cell? ⟨g, c.toNat, none⟩ = some (.bool (ten.contains c))) :
    Calls Tryz.prog 91 #[.string s, .pointer (some ⟨g, 0, none⟩)] w fun e w' => (∃ t : ByteArray, e = .returned (.string t) ∧ 0 < t.size) ∧ w = w' := by
  have CC := Lib.hid (fun (c : UInt8) => contains_any g (c.toNat : Int) (ten.contains c) w (by omega) (by have := UInt8.toNat_lt c; omega) (hc c))
  have HD := Lib.hid hd
  clear hc hd
  go_enter Tryz.func91, Tryz.ntmps91
  go_wp2_with fail
  go_loop [0] (fun x => ∃ t : ByteArray, x = .string t ∧ t.size ≤ 9223372036854775807 ∧ Hid (¬ AllDig t)) (fun x => match x with | .string b => b.size | _ => 0)
  case atStart => exact ⟨s, rfl, hn, HD⟩
  case round =>
    obtain ⟨t, rfl, ht, HT⟩ := hrel
    clear hn HD
    have h0 := nodig_pos HT.out
    by_cases hd : IsDig (t[0])
    · have HCUT := Lib.hid (allDig_iff_tail h0 hd)
      have HSZ := Lib.hid (show (t.extract 1 t.size).size = t.size - 1 by simp)
      have CT := Lib.hid (CC.out t[0])
      rw [(ten_iff _).2 hd] at CT
      clear hd
      go_wp2_with fail
      refine CT.out.mono ?_
      rintro e w' ⟨rfl, rfl⟩
      go_wp2
      go_round
      case rel => exact ⟨_, rfl, by rw [HSZ.out]; omega, fun h => HT.out (HCUT.out.1 h)⟩
      case measure => show (t.extract 1 t.size).size < t.size; rw [HSZ.out]; omega
    · have CT := Lib.hid (CC.out t[0])
      rw [ten_no hd] at CT
      clear hd
      go_wp2_with fail
      refine CT.out.mono ?_
      rintro e w' ⟨rfl, rfl⟩
      go_wp2
      go_ret
      exact ⟨⟨_, rfl, h0⟩, rfl⟩

set_option maxHeartbeats 4000000 in
set_option maxRecDepth 100000 in
theorem trimS_any (s : ByteArray) (w : World) (h0 : 0 < s.size) (hn : s.size ≤ 9223372036854775807) :
    Calls Tryz.prog 100 #[.string s, .string ⟨#[48, 49, 50, 51, 52, 53, 54, 55, 56, 57]⟩] w fun e w' => (∃ t : ByteArray, e = .returned (.string t) ∧ ((t = ⟨#[]⟩ ∧ AllDig s) ∨ (0 < t.size ∧ ¬ AllDig s))) ∧ Below w.heap.size w w' := by
  have CM := Lib.hid (fun W => Tryz.strings_makeASCIISet hv99 ⟨#[48, 49, 50, 51, 52, 53, 54, 55, 56, 57]⟩ W (by decide) (by
    intro j b h
    have h2 : ten[j]? = some b := h
    have : b ∈ ten := List.mem_of_getElem? h2
    simp [ten] at this
    rcases this with rfl | rfl | rfl | rfl | rfl | rfl | rfl | rfl | rfl | rfl <;> decide))
  have HC := Lib.hid (fun (c : UInt8) => Lib.setCells_at ten c)
  have HT : Hid ((⟨#[48, 49, 50, 51, 52, 53, 54, 55, 56, 57]⟩ : ByteArray).data.toList = ten) := rfl
  rw [HT.out] at CM
  have HSZ := Lib.hid (Lib.setCells_size ten)
  have HONE := Lib.hid (Lib.setCells_one ten)
  generalize Lib.setCells ten = cs at *
  have hne : s ≠ ⟨#[]⟩ := by intro e; subst e; exact absurd h0 (by decide)
  have hl := bytes_some h0
  have hl2 := bytes_some' h0
  clear hne
  go_enter Tryz.func100, Tryz.ntmps100
  go_wp2_with fail
  refine (CM.out _).mono ?_
  rintro e w1 ⟨rfl, rfl⟩
  have hv := hv99
  have hst : (storeCells ⟨w.heap.size + 1, 0, none⟩ cs.toList).run Tryz.prog ((w.alloc (.cells cs 132)).alloc (.cells (Array.replicate 256 (.bool false)) 132)) = .ok () ((w.alloc (.cells cs 132)).alloc (.cells cs 132)) := by
    have h := run_storeCells_new (P := Tryz.prog) (w.alloc (.cells cs 132)) 132 (Array.replicate 256 (.bool false)) cs (by rw [HSZ.out]; kernel_rfl) (by rw [HSZ.out]; simp) HONE.out
    simpa using h
  have hsz := HSZ.out
  go_upto_region 7 with fail
  have HCC := Lib.hid (show ∀ c : UInt8, ((w.alloc (.cells cs 132)).alloc (.cells cs 132)).cell? ⟨w.heap.size + 1, c.toNat, none⟩ = some (.bool (ten.contains c)) from fun c => by
    have := World.cell?_alloc_new (w.alloc (.cells cs 132)) cs 132 c.toNat
    rw [HC.out c] at this
    simpa using this)
  have CR := Lib.hid (trimR_any (w.heap.size + 1) s ((w.alloc (.cells cs 132)).alloc (.cells cs 132)) hn HCC.out)
  clear hst hv hsz
  go_wp2_with fail
  refine CR.out.mono ?_
  rintro e w' ⟨⟨t, rfl, ht, hcase⟩, rfl⟩
  rcases hcase with ⟨rfl, hA⟩ | ⟨hA, hB⟩
  · have HA := Lib.hid hA
    clear hA ht
    go_wp2_with fail
    refine (trimL_nil _ _).mono ?_
    rintro e w' ⟨rfl, rfl⟩
    go_wp2
    go_ret
    exact ⟨⟨_, rfl, .inl ⟨rfl, HA.out⟩⟩, below2⟩
  · have CL := Lib.hid (trimL_any (w.heap.size + 1) t _ (Nat.le_trans ht hn) hA HCC.out)
    have HB := Lib.hid hB
    clear hA ht hB
    go_wp2_with fail
    refine CL.out.mono ?_
    rintro e w' ⟨⟨t2, rfl, h2⟩, rfl⟩
    go_wp2
    go_ret
    exact ⟨⟨_, rfl, .inr ⟨h2, HB.out⟩⟩, below2⟩

set_option maxHeartbeats 1000000 in
theorem digits_yes (s : ByteArray) (w : World) (h0 : 0 < s.size) (hn : s.size ≤ 9223372036854775807) (hd : AllDig s) :
    Calls Tryz.prog 74 #[.string s] w fun e w' => e = .returned (.bool true) ∧ Below w.heap.size w w' := by
  have CT := Lib.hid (fun W => trimS_any s W h0 hn)
  have HD := Lib.hid hd
  have hl := bytes_some h0
  have hl2 := bytes_some' h0
  clear hd
  go_enter Tryz.func74, Tryz.ntmps74
  go_wp2_with fail
  refine (CT.out _).mono ?_
  rintro e w1 ⟨⟨t, rfl, hc⟩, hb⟩
  have HB := Lib.hid hb
  clear hb
  rcases hc with ⟨rfl, _⟩ | ⟨_, hA⟩
  · go_wp2
    go_ret
    exact ⟨rfl, HB.out⟩
  · exact absurd HD.out hA
set_option maxHeartbeats 1000000 in
theorem digits_no (s : ByteArray) (w : World) (hn : s.size ≤ 9223372036854775807) (hd : ¬ (0 < s.size ∧ AllDig s)) :
    Calls Tryz.prog 74 #[.string s] w fun e w' => e = .returned (.bool false) ∧ Below w.heap.size w w' := by
  by_cases h0 : 0 < s.size
  · have HD := Lib.hid (show ¬ AllDig s from fun h => hd ⟨h0, h⟩)
    have CT := Lib.hid (fun W => trimS_any s W h0 hn)
    have hl := bytes_some h0
    have hl2 := bytes_some' h0
    clear hd
    go_enter Tryz.func74, Tryz.ntmps74
    go_wp2_with fail
    refine (CT.out _).mono ?_
    rintro e w1 ⟨⟨t, rfl, hc⟩, hb⟩
    have HB := Lib.hid hb
    clear hb
    rcases hc with ⟨_, hA⟩ | ⟨ht, _⟩
    · exact absurd hA HD.out
    · have hl3 := bytes_some ht
      have hl4 := bytes_some' ht
      go_wp2
      go_ret
      exact ⟨by simp [hl4], HB.out⟩
  · have he := nil_of h0
    subst he
    clear hd
    go_enter Tryz.func74, Tryz.ntmps74
    go_wp2
    go_ret
    exact ⟨rfl, Below.refl _ _⟩

set_option maxHeartbeats 4000000 in
theorem numOf_yes (s : ByteArray) (m : Nat) (w : World) (hm : m ≤ 18) (h : NumS s m) : Calls Tryz.prog 44 #[.string s, .int .i64 m] w fun e w' => e = .returned (.tuple #[.int .i64 (valS s), .bool true]) ∧ Below w.heap.size w w' := by
  have CA := Lib.hid (fun W => Tryz.strconv_Atoi s (valS s) (by have := h.short; omega) h.atoi W)
  have CD := Lib.hid (fun W => digits_yes s W h.pos (by have := h.short; omega) h.dig)
  obtain ⟨h0, h9, _, hh⟩ := h
  have h0' : 0 < s.size := h0
  generalize valS s = n at *
  rcases hh with h1 | h1
  · have h1' : s.size = 1 := by omega
    go_enter Tryz.func44, Tryz.ntmps44
    go_wp2_with fail
    refine (CD.out _).mono ?_
    rintro e w1 ⟨rfl, hb⟩
    have HB := Lib.hid hb
    clear hb
    go_wp2_with fail
    refine (CA.out _).mono ?_
    rintro e w2 ⟨rfl, t, rfl⟩
    have HB2 := Lib.hid (bt HB.out (Lib.bytesWorld_below w1 5 t))
    generalize Lib.bytesWorld w1 5 t = w2 at *
    go_wp2_with fail
    go_quiet (fail)
    go_wp2
    go_ret2
    exact ⟨rfl, below_drewN' HB2.out⟩
  · have hb0 := h1 h0
    have hb1 : (((s[0].toNat : Nat) : Int) == 48) = false := by
      have : s[0].toNat ≠ 48 := fun e => hb0 (by
        have : s[0] = UInt8.ofNat 48 := by rw [← e]; simp
        exact this)
      simp; omega
    clear h1 hb0
    go_enter Tryz.func44, Tryz.ntmps44
    go_wp2_with fail
    refine (CD.out _).mono ?_
    rintro e w1 ⟨rfl, hb⟩
    have HB := Lib.hid hb
    clear hb
    by_cases hs1 : 1 < s.size
    all_goals
      go_wp2_with fail
      refine (CA.out _).mono ?_
      rintro e w2 ⟨rfl, t, rfl⟩
      have HB2 := Lib.hid (bt HB.out (Lib.bytesWorld_below w1 5 t))
      generalize Lib.bytesWorld w1 5 t = w2 at *
      go_wp2_with fail
      go_quiet (fail)
      go_wp2
      go_ret2
      exact ⟨rfl, below_drewN' HB2.out⟩
set_option maxHeartbeats 4000000 in
theorem numOf_no (s : ByteArray) (m : Nat) (w : World) (hm : m ≤ 18) (hn : s.size ≤ 9223372036854775807) (h : ¬ NumS s m) : Calls Tryz.prog 44 #[.string s, .int .i64 m] w fun e w' => e = .returned (.tuple #[.int .i64 0, .bool false]) ∧ Below w.heap.size w w' := by
  by_cases hd : 0 < s.size ∧ AllDig s
  · have CD := Lib.hid (fun W => digits_yes s W hd.1 hn hd.2)
    have h0 := hd.1
    by_cases hs : s.size ≤ m
    · have h1 : 1 < s.size := by
        rcases Nat.lt_or_ge 1 s.size with h1 | h1
        · exact h1
        · exact absurd ⟨hd.1, hs, hd.2, .inl h1⟩ h
      have h2 : s[0] = 48 := by
        rcases Classical.em (s[0] = 48) with h2 | h2
        · exact h2
        · exact absurd ⟨hd.1, hs, hd.2, .inr (fun _ => h2)⟩ h
      have hb1 : (((s[0].toNat : Nat) : Int) == 48) = true := by rw [h2]; rfl
      clear h hd h2
      go_enter Tryz.func44, Tryz.ntmps44
      go_wp2_with fail
      refine (CD.out _).mono ?_
      rintro e w1 ⟨rfl, hb⟩
      have HB := Lib.hid hb
      clear hb
      go_wp2
      go_ret2
      exact ⟨rfl, HB.out⟩
    · clear h hd
      go_enter Tryz.func44, Tryz.ntmps44
      go_wp2_with fail
      refine (CD.out _).mono ?_
      rintro e w1 ⟨rfl, hb⟩
      have HB := Lib.hid hb
      clear hb
      go_wp2
      go_ret2
      exact ⟨rfl, HB.out⟩
  · have CD := Lib.hid (fun W => digits_no s W hn hd)
    clear h hd
    go_enter Tryz.func44, Tryz.ntmps44
    go_wp2_with fail
    refine (CD.out _).mono ?_
    rintro e w1 ⟨rfl, hb⟩
    have HB := Lib.hid hb
    clear hb
    go_wp2
    go_ret2
    exact ⟨rfl, HB.out⟩
set_option maxHeartbeats 1000000 in
theorem number_yes (s : ByteArray) (w : World) (h : NumS s 9) : Calls Tryz.prog 21 #[.string s] w fun e w' => e = .returned (.tuple #[.int .i64 (valS s), .bool true]) ∧ Below w.heap.size w w' := by
  have CN := Lib.hid (fun W => numOf_yes s 9 W (by omega) h)
  clear h
  go_enter Tryz.func21, Tryz.ntmps21
  go_wp2_with fail
  refine (CN.out _).mono ?_
  rintro e w1 ⟨rfl, hb⟩
  have HB := Lib.hid hb
  clear hb
  go_wp2
  go_ret2
  exact ⟨rfl, HB.out⟩
set_option maxHeartbeats 1000000 in
theorem number_no (s : ByteArray) (w : World) (hn : s.size ≤ 9223372036854775807) (h : ¬ NumS s 9) : Calls Tryz.prog 21 #[.string s] w fun e w' => e = .returned (.tuple #[.int .i64 0, .bool false]) ∧ Below w.heap.size w w' := by
  have CN := Lib.hid (fun W => numOf_no s 9 W (by omega) hn h)
  clear h
  go_enter Tryz.func21, Tryz.ntmps21
  go_wp2_with fail
  refine (CN.out _).mono ?_
  rintro e w1 ⟨rfl, hb⟩
  have HB := Lib.hid hb
  clear hb
  go_wp2
  go_ret2
  exact ⟨rfl, HB.out⟩

/-- what stands ahead of the first mark, what behind it, whether there is one -/
def cutI (s : ByteArray) (c : UInt8) : Int := Lib.indexByte s.data.toList c
def cutA (s : ByteArray) (c : UInt8) : ByteArray := if 0 ≤ cutI s c then s.extract 0 (cutI s c).toNat else s
def cutB (s : ByteArray) (c : UInt8) : ByteArray := if 0 ≤ cutI s c then s.extract ((cutI s c).toNat + 1) s.size else ⟨#[]⟩
theorem cutI_lt (s : ByteArray) (c : UInt8) : -1 ≤ cutI s c ∧ cutI s c < s.size ∨ cutI s c = -1 := by
  have h := Lib.indexByte_piece s 0 s.size c
  have e : s.extract 0 s.size = s := by
    apply ByteArray.ext
    apply Array.toList_inj.1
    rw [← Lib.toList_data, Lib.extract_toList]
    simp only [List.drop_zero, Nat.sub_zero]
    exact List.take_of_length_le (by rw [← Lib.size_eq]; exact Nat.le_refl _)
  rw [e] at h
  unfold cutI
  rcases h with h | ⟨o, h, h2⟩ <;> omega
theorem cutA_le (s : ByteArray) (c : UInt8) : (cutA s c).size ≤ s.size := by
  unfold cutA
  split
  · simp; omega
  · exact Nat.le_refl _
theorem cutB_le (s : ByteArray) (c : UInt8) : (cutB s c).size ≤ s.size := by
  unfold cutB
  split
  · simp
  · exact Nat.zero_le _

set_option maxHeartbeats 2000000 in
theorem lite_cut (s : ByteArray) (c : UInt8) (w : World) (hn : s.size ≤ 9223372036854775807) :
    Calls Tryz.prog 76 #[.string s, .string ⟨#[c]⟩] w fun e w' => e = .returned (.tuple #[.string (cutA s c), .string (cutB s c), .bool (decide (0 ≤ cutI s c))]) ∧ ∃ n, w' = w.drewN n := by
  have CI := Lib.hid (fun W => show Calls Tryz.prog 99 #[.string s, .string ⟨#[c]⟩] W fun e w' => e = .returned (.int .i64 (cutI s c)) ∧ w' = W from Tryz.stringslite_Index_one s c W)
  have hl := cutI_lt s c
  have HA := Lib.hid (show cutA s c = if 0 ≤ cutI s c then s.extract 0 (cutI s c).toNat else s from rfl)
  have HB := Lib.hid (show cutB s c = if 0 ≤ cutI s c then s.extract ((cutI s c).toNat + 1) s.size else ⟨#[]⟩ from rfl)
  generalize cutA s c = a at *
  generalize cutB s c = b at *
  generalize cutI s c = i at *
  by_cases h0 : 0 ≤ i
  · obtain ⟨k, rfl⟩ := Int.eq_ofNat_of_zero_le h0
    have hk : k < s.size := by omega
    have HA2 : a = s.extract 0 k := by rw [HA.out, if_pos h0]; rfl
    have HB2 : b = s.extract (k + 1) s.size := by rw [HB.out, if_pos h0]; rfl
    subst HA2 HB2
    have hd : decide ((0 : Int) ≤ (k : Int)) = true := by simp
    rw [hd]
    have c1 : (0 : Int) ≤ (k : Int) := by omega
    have c2 : (k : Int) ≤ (s.size : Int) := by omega
    have c3 : (0 : Int) ≤ (k : Int) + 1 := by omega
    have c4 : (k : Int) + 1 ≤ (s.size : Int) := by omega
    clear hl HA HB
    go_enter Tryz.func76, Tryz.ntmps76
    go_wp2_with fail
    refine (CI.out _).mono ?_
    rintro e w' ⟨rfl, rfl⟩
    go_wp2_with fail
    go_region_o
    go_wp2
    go_ret3
    exact ⟨rfl, 1, rfl⟩
  · have hi : i = -1 := by omega
    subst hi
    have HA2 : a = s := by rw [HA.out]; rfl
    have HB2 : b = ⟨#[]⟩ := by rw [HB.out]; rfl
    subst HA2 HB2
    clear hl h0 HA HB
    go_enter Tryz.func76, Tryz.ntmps76
    go_wp2_with fail
    refine (CI.out _).mono ?_
    rintro e w' ⟨rfl, rfl⟩
    go_wp2
    go_ret3
    exact ⟨rfl, 0, rfl⟩

set_option maxHeartbeats 2000000 in
theorem cut_one (s : ByteArray) (c : UInt8) (w : World) (hn : s.size ≤ 9223372036854775807) :
    Calls Tryz.prog 45 #[.string s, .string ⟨#[c]⟩] w fun e w' => e = .returned (.tuple #[.string (cutA s c), .string (cutB s c), .bool (decide (0 ≤ cutI s c))]) ∧ Below w.heap.size w w' := by
  have CI := Lib.hid (fun W => lite_cut s c W hn)
  generalize cutA s c = a at *
  generalize cutB s c = b at *
  generalize cutI s c = i at *
  go_enter Tryz.func45, Tryz.ntmps45
  go_wp2_with fail
  refine (CI.out _).mono ?_
  rintro e w' ⟨rfl, n, rfl⟩
  go_wp2
  go_ret3
  exact ⟨rfl, below_drewN' (Below.refl _ _)⟩
end Go.Proofs.YtppbagllhmeenaaGreatDoor
