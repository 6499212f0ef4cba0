/- strings.Trim at the hex digits: a contract at any text. -/
import Derived.Test.YtljgpiaihahneaaGreatDoorT65M10
import Derived.Test.YtljgpiaihahneaaGreatDoorT65M07

namespace Go.Proofs.YtljgpiaihahneaaGreatDoor
open Go.RowKit
set_option linter.unusedVariables false
set_option linter.unusedSimpArgs false

theorem hexs_no {c : UInt8} (h : ¬ IsHex c) : hexs.contains c = false := by
  cases e : hexs.contains c with
  | false => rfl
  | true => exact absurd ((hexs_iff c).1 e) h
theorem nilh_of {t : ByteArray} (h : ¬ 0 < t.size) : t = ⟨#[]⟩ := by
  have : t.size = 0 := by omega
  exact ByteArray.ext (by apply Array.ext <;> simp_all)
theorem nohex_pos {t : ByteArray} (h : ¬ AllHex t) : 0 < t.size := by
  rcases Nat.eq_zero_or_pos t.size with h0 | h0
  · exact absurd (fun i hi => by omega) h
  · exact h0

set_option maxHeartbeats 1000000 in
theorem trimRh_any (g : Nat) (s : ByteArray) (w : World) (hn : s.size ≤ 9223372036854775807) (hc : ∀ c : UInt8, w.cell? ⟨g, c.toNat, none⟩ = some (.bool (hexs.contains c))) :
    Calls Tryz.prog 59 #[.string s, .pointer (some ⟨g, 0, none⟩)] w fun e w' => (∃ t : ByteArray, e = .returned (.string t) ∧ t.size ≤ s.size ∧ ((t = ⟨#[]⟩ ∧ AllHex s) ∨ (¬ AllHex t ∧ ¬ AllHex s))) ∧ w = w' := by
  have CC := Lib.hid (fun (c : UInt8) => contains_any g (c.toNat : Int) (hexs.contains c) w (by omega) (by have := UInt8.toNat_lt c; omega) (hc c))
  clear hc
  go_enter Tryz.func59, Tryz.ntmps59
  go_wp2_with fail
  go_loop [0] (fun x => ∃ t : ByteArray, x = .string t ∧ t.size ≤ 9223372036854775807 ∧ Hid (t.size ≤ s.size ∧ (AllHex t ↔ AllHex s))) (fun x => match x with | .string b => b.size | _ => 0)
  case atStart => exact ⟨s, rfl, hn, Nat.le_refl _, Iff.rfl⟩
  case round =>
    obtain ⟨t, rfl, ht, HT⟩ := hrel
    clear hn
    by_cases h0 : 0 < t.size
    · by_cases hd : IsHex (t[t.size - 1])
      · have HCUT := Lib.hid (allHex_iff_cut h0 hd)
        have HSZ := Lib.hid (show (t.extract 0 (t.size - 1)).size = t.size - 1 by simp)
        have CT := Lib.hid (CC.out t[t.size - 1])
        rw [(hexs_iff _).2 hd] at CT
        clear hd
        go_wp2_with fail
        refine CT.out.mono ?_
        rintro e w' ⟨rfl, rfl⟩
        go_wp2
        go_round
        case rel => exact ⟨_, rfl, by rw [HSZ.out]; omega, by rw [HSZ.out]; have := HT.out.1; omega, HCUT.out.trans HT.out.2⟩
        case measure => show (t.extract 0 (t.size - 1)).size < t.size; rw [HSZ.out]; omega
      · have CT := Lib.hid (CC.out t[t.size - 1])
        rw [hexs_no hd] at CT
        have HN := Lib.hid (show ¬ AllHex t from fun h => hd (h _ _))
        clear hd
        go_wp2_with fail
        refine CT.out.mono ?_
        rintro e w' ⟨rfl, rfl⟩
        go_wp2
        go_ret
        exact ⟨⟨_, rfl, HT.out.1, .inr ⟨HN.out, fun h => HN.out (HT.out.2.2 h)⟩⟩, rfl⟩
    · have he := nilh_of h0
      subst he
      have HA := Lib.hid (HT.out.2.1 (fun i hi => absurd hi (by show ¬ i < 0; omega)))
      go_wp2
      go_ret
      exact ⟨⟨_, rfl, Nat.zero_le _, .inl ⟨rfl, HA.out⟩⟩, rfl⟩

set_option maxHeartbeats 1000000 in
theorem trimLh_any (g : Nat) (s : ByteArray) (w : World) (hn : s.size ≤ 9223372036854775807) (hd : ¬ AllHex s) (hc : ∀ c : UInt8, w.cell? ⟨g, c.toNat, none⟩ = some (.bool (hexs.contains c))) :
    Calls Tryz.prog 58 #[.string s, .pointer (some ⟨g, 0, none⟩)] w fun e w' => (∃ t : ByteArray, e = .returned (.string t) ∧ 0 < t.size) ∧ w = w' := by
  have CC := Lib.hid (fun (c : UInt8) => contains_any g (c.toNat : Int) (hexs.contains c) w (by omega) (by have := UInt8.toNat_lt c; omega) (hc c))
  have HD := Lib.hid hd
  clear hc hd
  go_enter Tryz.func58, Tryz.ntmps58
  go_wp2_with fail
  go_loop [0] (fun x => ∃ t : ByteArray, x = .string t ∧ t.size ≤ 9223372036854775807 ∧ Hid (¬ AllHex t)) (fun x => match x with | .string b => b.size | _ => 0)
  case atStart => exact ⟨s, rfl, hn, HD⟩
  case round =>
    obtain ⟨t, rfl, ht, HT⟩ := hrel
    clear hn HD
    have h0 := nohex_pos HT.out
    by_cases hd : IsHex (t[0])
    · have HCUT := Lib.hid (allHex_iff_tail h0 hd)
      have HSZ := Lib.hid (show (t.extract 1 t.size).size = t.size - 1 by simp)
      have CT := Lib.hid (CC.out t[0])
      rw [(hexs_iff _).2 hd] at CT
      clear hd
      go_wp2_with fail
      refine CT.out.mono ?_
      rintro e w' ⟨rfl, rfl⟩
      go_wp2
      go_round
      case rel => exact ⟨_, rfl, by rw [HSZ.out]; omega, fun h => HT.out (HCUT.out.1 h)⟩
      case measure => show (t.extract 1 t.size).size < t.size; rw [HSZ.out]; omega
    · have CT := Lib.hid (CC.out t[0])
      rw [hexs_no hd] at CT
      clear hd
      go_wp2_with fail
      refine CT.out.mono ?_
      rintro e w' ⟨rfl, rfl⟩
      go_wp2
      go_ret
      exact ⟨⟨_, rfl, h0⟩, rfl⟩

set_option maxHeartbeats 4000000 in
set_option maxRecDepth 100000 in
theorem trimH_any (s : ByteArray) (w : World) (h0 : 0 < s.size) (hn : s.size ≤ 9223372036854775807) :
    Calls Tryz.prog 41 #[.string s, .string ⟨#[48, 49, 50, 51, 52, 53, 54, 55, 56, 57, 97, 98, 99, 100, 101, 102, 65, 66, 67, 68, 69, 70]⟩] w fun e w' => (∃ t : ByteArray, e = .returned (.string t) ∧ ((t = ⟨#[]⟩ ∧ AllHex s) ∨ (0 < t.size ∧ ¬ AllHex s))) ∧ Below w.heap.size w w' := by
  have CM := Lib.hid (fun W => Tryz.strings_makeASCIISet hv99 ⟨#[48, 49, 50, 51, 52, 53, 54, 55, 56, 57, 97, 98, 99, 100, 101, 102, 65, 66, 67, 68, 69, 70]⟩ W (by decide) (by
    intro j b h
    have h2 : hexs[j]? = some b := h
    have : b ∈ hexs := List.mem_of_getElem? h2
    simp [hexs] at this
    rcases this with rfl | rfl | rfl | rfl | rfl | rfl | rfl | rfl | rfl | rfl | rfl | rfl | rfl | rfl | rfl | rfl | rfl | rfl | rfl | rfl | rfl | rfl <;> decide))
  have HC := Lib.hid (fun (c : UInt8) => Lib.setCells_at hexs c)
  have HT : Hid ((⟨#[48, 49, 50, 51, 52, 53, 54, 55, 56, 57, 97, 98, 99, 100, 101, 102, 65, 66, 67, 68, 69, 70]⟩ : ByteArray).data.toList = hexs) := rfl
  rw [HT.out] at CM
  have HSZ := Lib.hid (Lib.setCells_size hexs)
  have HONE := Lib.hid (Lib.setCells_one hexs)
  generalize Lib.setCells hexs = cs at *
  have hne : s ≠ ⟨#[]⟩ := by intro e; subst e; exact absurd h0 (by decide)
  have hl := bytes_some h0
  have hl2 := bytes_some' h0
  clear hne
  go_enter Tryz.func41, Tryz.ntmps41
  go_wp2_with fail
  refine (CM.out _).mono ?_
  rintro e w1 ⟨rfl, rfl⟩
  have hv := hv99
  have hst : (storeCells ⟨w.heap.size + 1, 0, none⟩ cs.toList).run Tryz.prog ((w.alloc (.cells cs 84)).alloc (.cells (Array.replicate 256 (.bool false)) 84)) = .ok () ((w.alloc (.cells cs 84)).alloc (.cells cs 84)) := by
    have h := run_storeCells_new (P := Tryz.prog) (w.alloc (.cells cs 84)) 84 (Array.replicate 256 (.bool false)) cs (by rw [HSZ.out]; kernel_rfl) (by rw [HSZ.out]; simp) HONE.out
    simpa using h
  have hsz := HSZ.out
  go_upto_region 7 with fail
  have HCC := Lib.hid (show ∀ c : UInt8, ((w.alloc (.cells cs 84)).alloc (.cells cs 84)).cell? ⟨w.heap.size + 1, c.toNat, none⟩ = some (.bool (hexs.contains c)) from fun c => by
    have := World.cell?_alloc_new (w.alloc (.cells cs 84)) cs 84 c.toNat
    rw [HC.out c] at this
    simpa using this)
  have CR := Lib.hid (trimRh_any (w.heap.size + 1) s ((w.alloc (.cells cs 84)).alloc (.cells cs 84)) hn HCC.out)
  clear hst hv hsz
  go_wp2_with fail
  refine CR.out.mono ?_
  rintro e w' ⟨⟨t, rfl, ht, hcase⟩, rfl⟩
  rcases hcase with ⟨rfl, hA⟩ | ⟨hA, hB⟩
  · have HA := Lib.hid hA
    clear hA ht
    go_wp2_with fail
    refine (trimL_nil _ _).mono ?_
    rintro e w' ⟨rfl, rfl⟩
    go_wp2
    go_ret
    exact ⟨⟨_, rfl, .inl ⟨rfl, HA.out⟩⟩, below2⟩
  · have CL := Lib.hid (trimLh_any (w.heap.size + 1) t _ (Nat.le_trans ht hn) hA HCC.out)
    have HB := Lib.hid hB
    clear hA ht hB
    go_wp2_with fail
    refine CL.out.mono ?_
    rintro e w' ⟨⟨t2, rfl, h2⟩, rfl⟩
    go_wp2
    go_ret
    exact ⟨⟨_, rfl, .inr ⟨h2, HB.out⟩⟩, below2⟩

end Go.Proofs.YtljgpiaihahneaaGreatDoor
