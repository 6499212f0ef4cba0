/- The reference's slots, Profile, last. (printed by wip/gen/gen_rfix.py) Prefixes of slices of records. No walk in it. -/
import Derived.Test.YtppbagllhmeenaaGreatDoorShelf
import Derived.Test.YtppbagllhmeenaaGreatDoorT68M38
import Derived.Test.YtppbagllhmeenaaGreatDoorT68M39
import Derived.Test.YtppbagllhmeenaaGreatDoorT68M22

namespace Go.Proofs.YtppbagllhmeenaaGreatDoor
open Go.RowKit
set_option linter.unusedVariables false
set_option linter.unusedSimpArgs false

/-- a row of ints in a block of its own -/
theorem contains_row (g : Nat) (zs : List Int) (x : Int) (w : World) (hl : zs.length ≤ 100) (hc : ∀ j (h : j < zs.length), w.cell? ⟨g, j, none⟩ = some (.int .i64 zs[j])) :
    Calls Tryz.prog 105 #[.slice (some ⟨g, 0, none⟩) zs.length zs.length, .int .i64 x] w fun e w' => e = .returned (.bool (decide (x ∈ zs))) ∧ w = w' := by
  refine (Tryz.slices_Contains_int g 0 zs.length zs.length zs x w (Nat.le_refl _) (by omega) (fun j hj => ?_)).mono ?_
  · have := hc j hj
    rw [List.getD_eq_getElem?_getD, List.getElem?_eq_getElem hj]
    simpa using this
  · rintro e w' ⟨rfl, rfl⟩
    rw [List.take_length]
    exact ⟨by simp, rfl⟩
set_option maxRecDepth 100000 in
set_option maxHeartbeats 2000000 in
theorem rslots_any (p : Par) (ro : Option Addr) (rn rcap : Nat) (w : World) (hf : 0 ≤ p.fine) :
    Calls Tryz.prog 104 #[.agg #[.string p.name, .int .i64 p.grp, .int .i64 p.sl, .int .i64 p.fine, .int .i64 p.dflt, .bool p.snap, .slice ro rn rcap]] w fun e w' =>
      ∃ g, e = .returned (.slice (some ⟨g, 0, none⟩) (slotsP p).length (slotsP p).length) ∧ g < w'.heap.size ∧ w.heap.size ≤ g ∧ (∀ j (h : j < (slotsP p).length), w'.cell? ⟨g, j, none⟩ = some (.int .i64 (slotsP p)[j])) ∧ Below w.heap.size w w' := by
  obtain ⟨xn, xg, xs, xf, xd, xb, xr⟩ := p
  simp only at *
  by_cases h0 : xf = 0
  · have hs : slotsP ⟨xn, xg, xs, xf, xd, xb, xr⟩ = [xs] := by simp [slotsP, h0]
    rw [hs]
    clear hs
    subst h0
    go_enter Tryz.func104, Tryz.ntmps104
    go_wp2_with fail
    go_ret
    refine ⟨w.heap.size + 1, rfl, by simp, by omega, ?_, ((Below.refl _ _).alloc (Nat.le_refl _) _).alloc (by simp) _⟩
    intro j h
    simp at h
    subst h
    simp [go_sem]
  · have hs : slotsP ⟨xn, xg, xs, xf, xd, xb, xr⟩ = [xs, xf] := by simp [slotsP]; omega
    rw [hs]
    clear hs
    have h1 : (xf == 0) = false := by simpa using h0
    go_enter Tryz.func104, Tryz.ntmps104
    go_wp2_with fail
    go_ret
    refine ⟨w.heap.size + 1, rfl, by simp, by omega, ?_, ((Below.refl _ _).alloc (Nat.le_refl _) _).alloc (by simp) _⟩
    intro j h
    match j, h with
    | 0, _ => simp [go_sem]
    | 1, _ => simp [go_sem]
set_option maxRecDepth 100000 in
set_option maxHeartbeats 8000000 in
theorem rprofile_any (v : Value) (l : List Prf) (nm : ByteArray) (w : World) (h : PrfS w.heap.size w v l) :
    Calls Tryz.prog 55 #[v, .string nm] w fun e w' => ∃ pv, e = .returned (.tuple #[pv, .bool (profOf l nm.data.toList).isSome]) ∧ PrfR w.heap.size w' (profOf l nm.data.toList) pv ∧ Below w.heap.size w w' := by
  have HG := Lib.hid (PrfS.get h)
  obtain ⟨ao, cap, rfl⟩ := prfS_shape h
  have hm : l.length ≤ 9223372036854775807 := by
    by_cases c : 0 < l.length
    · obtain ⟨_, _, _, _, _, hm, _⟩ := PrfS.get h c
      unfold maxLen at hm; exact hm
    · omega
  have HS := Lib.hid (idxF_spec (hasNm nm.data.toList) l)
  have HSP := Lib.hid (show (idxF (hasNm nm.data.toList) l 0 = -1 → profOf l nm.data.toList = none) ∧ ∀ (k : Nat) (h : k < l.length), idxF (hasNm nm.data.toList) l 0 = (k : Int) → profOf l nm.data.toList = some l[k] from by
    rcases HS.out with ⟨h1, h2⟩ | ⟨k, hk, h1, h2⟩
    · exact ⟨fun _ => h2, fun k hk h => by rw [h1] at h; omega⟩
    · refine ⟨fun h => by rw [h1] at h; omega, fun j hj h => ?_⟩
      rw [h1] at h
      have : j = k := by omega
      subst this
      exact h2)
  have HC := Lib.hid (show idxF (hasNm nm.data.toList) l 0 = idxF (hasNm nm.data.toList) (l.drop 0) 0 by simp)
  generalize idxF (hasNm nm.data.toList) l 0 = IX at *
  generalize hPO : profOf l nm.data.toList = PO at *
  clear hPO HS h
  go_enter Tryz.func55, Tryz.ntmps55
  go_wp2_with fail
  go_loopw [10] (fun i wr => ∃ k : Nat, k ≤ l.length ∧ i = .int .i64 k ∧ Hid (IX = idxF (hasNm nm.data.toList) (l.drop k) k) ∧ Hid (Below (w.heap.size + 1) (w.alloc (.cells #[.string ⟨#[]⟩, .int .i64 0, .slice none 0 0] 70)) wr)) (fun i _ => l.length - (intOf i).toNat)
  case atStart => exact ⟨0, Nat.zero_le _, rfl, HC, Lib.hid (Below.refl _ _)⟩
  case round =>
    obtain ⟨k, hk, rfl, HR, HBW⟩ := hrel
    have hzr := HBW.out.size
    simp only [World.size_alloc] at hzr
    have hBB : Below w.heap.size w wr := ((Below.refl _ _).alloc (Nat.le_refl _) _).trans (HBW.out.mono (by omega))
    have z0 : wr.cell? ⟨w.heap.size, 0, none⟩ = some (.string ⟨#[]⟩) := (HBW.out.cell (p := ⟨w.heap.size, 0, none⟩) (by simp)).trans (by simp [go_sem])
    have z1 : wr.cell? ⟨w.heap.size, 1, none⟩ = some (.int .i64 0) := (HBW.out.cell (p := ⟨w.heap.size, 1, none⟩) (by simp)).trans (by simp [go_sem])
    have z2 : wr.cell? ⟨w.heap.size, 2, none⟩ = some (.slice none 0 0) := (HBW.out.cell (p := ⟨w.heap.size, 2, none⟩) (by simp)).trans (by simp [go_sem])
    have y0 : wr.frozen? ⟨w.heap.size, 0, none⟩ = false := (HBW.out.frozen (p := ⟨w.heap.size, 0, none⟩) (by simp)).trans (by simp [go_sem])
    have y1 : wr.frozen? ⟨w.heap.size, 1, none⟩ = false := (HBW.out.frozen (p := ⟨w.heap.size, 1, none⟩) (by simp)).trans (by simp [go_sem])
    have y2 : wr.frozen? ⟨w.heap.size, 2, none⟩ = false := (HBW.out.frozen (p := ⟨w.heap.size, 2, none⟩) (by simp)).trans (by simp [go_sem])
    have hwr : w.heap.size < wr.heap.size := by omega
    have KSB := Lib.hid (show ∀ W, Below w.heap.size w W → ∀ u0 u1 u2, Below w.heap.size w (((W.setCell ⟨w.heap.size, 0, none⟩ u0).setCell ⟨w.heap.size, 1, none⟩ u1).setCell ⟨w.heap.size, 2, none⟩ u2) from fun W hW u0 u1 u2 => ((hW.setCell (p := ⟨w.heap.size, 0, none⟩) (by simp) u0).setCell (p := ⟨w.heap.size, 1, none⟩) (by simp) u1).setCell (p := ⟨w.heap.size, 2, none⟩) (by simp) u2)
    by_cases hlt : k < l.length
    · obtain ⟨b, off, cap', hsl, hbb, _, hc⟩ := HG.out (by omega)
      injection hsl with hs1 hs2 hs3
      subst hs1 hs3
      obtain ⟨pv, hpv, hcc⟩ := hc k hlt
      obtain ⟨d0, d1, d2⟩ := hcc wr hBB
      have HPV := Lib.hid hpv
      have hbr : b < wr.heap.size := by omega
      have HY := Lib.hid (idxF_yes (hasNm nm.data.toList) l k hlt)
      have HN := Lib.hid (idxF_no (hasNm nm.data.toList) l k hlt)
      have HT := Lib.hid (show hasNm nm.data.toList l[k] = decide (l[k].name.data.toList = nm.data.toList) from rfl)
      have HPS := Lib.hid (HSP.out.2 k hlt)
      obtain ⟨po, pcap, rfl⟩ := parS_shape hpv
      have HBB := Lib.hid hBB
      clear hc hcc hpv HSP hBB
      generalize hasNm nm.data.toList l[k] = T at *
      generalize hrk : l[k] = rk at *
      clear hrk
      obtain ⟨pn, pz, pl⟩ := rk
      simp only at *
      by_cases he : pn.data.toList = nm.data.toList
      · have h2 : (pn.toList == nm.toList) = true := by rw [Lib.toList_data, Lib.toList_data]; simpa using he
        have HV := Lib.hid (HPS.out (HR.out.trans (HY.out (by rw [HT.out]; simpa using he))))
        clear he
        have HV1 : PO = some ⟨pn, pz, pl⟩ := HV.out
        go_wp2_with fail
        exact bodyPost_ret (v := .tuple #[.agg #[.string pn, .int .i64 pz, .slice po pl.length pcap], .bool true]) (by simp [results, Tryz.results55, go_sem, z0, z1, z2, hwr]) rfl ⟨_, by rw [HV.out] <;> rfl, by rw [HV.out]; exact ⟨_, rfl, HPV.out.below ((KSB.out _ HBB.out _ _ _).alloc (by simp; omega) _)⟩, (KSB.out _ HBB.out _ _ _).alloc (by simp; omega) _⟩
      · have h2 : (pn.toList == nm.toList) = false := by rw [Lib.toList_data, Lib.toList_data]; simpa using he
        have HV := Lib.hid (HR.out.trans (HN.out (by rw [HT.out]; simpa using he)))
        clear he
        have HBW2 := Lib.hid (HBW.out.alloc (by omega) (.cells #[.string pn, .int .i64 pz, .slice po pl.length pcap] 70))
        go_wp2_with fail
        go_roundw
        case rel => exact ⟨k + 1, by omega, by go_num, HV, HBW2⟩
        case measure => simp [intOf]; omega
    · have HV := Lib.hid (HSP.out.1 (by rw [HR.out, idxF_end _ l k (by omega)]))
      have HBB := Lib.hid hBB
      clear hBB
      have hkk : k = l.length := by omega
      subst hkk
      go_wp2_with fail
      exact bodyPost_ret (v := .tuple #[.agg #[.string ⟨#[]⟩, .int .i64 0, .slice none 0 0], .bool false]) (by simp [results, Tryz.results55, go_sem, z0, z1, z2]) rfl ⟨_, by rw [HV.out] <;> rfl, by rw [HV.out]; rfl, KSB.out _ HBB.out _ _ _⟩
set_option maxRecDepth 100000 in
set_option maxHeartbeats 4000000 in
theorem rlast_any (lo uo : Option Addr) (lcap ulen ucap : Nat) (lib : List Prf) (u : Unt) (w : World) (h : PrfS w.heap.size w (.slice lo lib.length lcap) lib) (h1 : -100000 ≤ u.addr) (h2 : u.addr ≤ 100000) (h3 : -100000 ≤ sizeOf' lib u) (h4 : sizeOf' lib u ≤ 100000) :
    Calls Tryz.prog 57 #[.agg #[.slice lo lib.length lcap, .slice uo ulen ucap], .agg #[.int .i64 u.num, .string u.prof, .int .i64 u.univ, .int .i64 u.addr]] w fun e w' => e = .returned (.int .i64 (lastOf lib u)) ∧ Below w.heap.size w w' := by
  obtain ⟨un, up, uu, ua⟩ := u
  simp only at *
  have HV := Lib.hid (show lastOf lib ⟨un, up, uu, ua⟩ = ua + sizeOf' lib ⟨un, up, uu, ua⟩ - 1 from rfl)
  have HSZ := Lib.hid (show sizeOf' lib ⟨un, up, uu, ua⟩ = ((profOf lib up.data.toList).map Prf.size).getD 0 from rfl)
  have HP := Lib.hid (rprofile_any _ lib up ((w.alloc (.cells #[.slice lo lib.length lcap, .slice uo ulen ucap] 25)).alloc (.cells #[.int .i64 un, .string up, .int .i64 uu, .int .i64 ua] 51)) ((h.below (((Below.refl _ _).alloc (Nat.le_refl _) _).alloc (by simp) _)).more (by simp; omega)))
  generalize lastOf lib ⟨un, up, uu, ua⟩ = RES at *
  generalize sizeOf' lib ⟨un, up, uu, ua⟩ = SZ at *
  clear h
  go_enter Tryz.func57, Tryz.ntmps57
  go_wp2_with fail
  refine HP.out.mono ?_
  rintro e w1 ⟨pv, rfl, hpv, hb1⟩
  have hz1 := hb1.size
  simp only [World.size_alloc] at hz1
  have c3 : w1.cell? ⟨w.heap.size + 1, 3, none⟩ = some (.int .i64 ua) := (hb1.cell (p := ⟨w.heap.size + 1, 3, none⟩) (by simp)).trans (by simp [go_sem])
  have hw1 : w.heap.size + 1 < w1.heap.size := by omega
  have HB1 := Lib.hid (((((Below.refl w.heap.size w).alloc (Nat.le_refl _) (.cells #[.slice lo lib.length lcap, .slice uo ulen ucap] 25)).alloc (by simp) (.cells #[.int .i64 un, .string up, .int .i64 uu, .int .i64 ua] 51))).trans (hb1.mono (by simp; omega)))
  clear hb1 HP
  have hwle : w.heap.size ≤ w1.heap.size := by omega
  generalize profOf lib up.data.toList = PO at *
  cases PO with
  | none =>
    obtain rfl : pv = .agg #[.string ⟨#[]⟩, .int .i64 0, .slice none 0 0] := hpv
    have hsz : SZ = 0 := by rw [HSZ.out]; rfl
    subst hsz
    have HB2 := Lib.hid (HB1.out.alloc hwle (.cells #[.string ⟨#[]⟩, .int .i64 0, .slice none 0 0] 70))
    go_wp2_with fail
    go_ret
    have HV0 := Lib.hid (show RES = ua - 1 by rw [HV.out]; omega)
    exact ⟨by first | (rw [HV.out] <;> rfl) | (rw [HV0.out] <;> rfl), HB2.out⟩
  | some p =>
    obtain ⟨sv, rfl, hps⟩ := hpv
    obtain ⟨pn, pz, pl⟩ := p
    obtain ⟨po, pcap, rfl⟩ := parS_shape hps
    have hsz : SZ = pz := by rw [HSZ.out]; rfl
    subst hsz
    simp only at *
    have HB2 := Lib.hid (HB1.out.alloc hwle (.cells #[.string pn, .int .i64 SZ, .slice po pl.length pcap] 70))
    go_wp2_with fail
    go_ret
    exact ⟨by rw [HV.out] <;> rfl, HB2.out⟩
end Go.Proofs.YtppbagllhmeenaaGreatDoor

namespace Go.Proofs.YtppbagllhmeenaaGreatDoor
open Go.RowKit
set_option linter.unusedVariables false
set_option linter.unusedSimpArgs false

theorem CellsS.take {α : Type} {f : α → List Value} {n : Nat} {B : Nat} {w : World} {ao : Option Addr} {cap : Nat} {l : List α} (hn : ∀ y, (f y).length = n) (h : CellsS B w (.slice ao l.length cap) l.length (l.flatMap f)) (k : Nat) (hk : k ≤ l.length) : CellsS B w (.slice ao k cap) (l.take k).length ((l.take k).flatMap f) := by
  obtain ⟨ao', cap', e, h1, h2, h3⟩ := h
  injection e with e1 _ e3
  subst e1 e3
  rw [List.length_take, Nat.min_eq_left hk]
  refine ⟨ao, cap, rfl, by omega, h2, fun hp => ?_⟩
  obtain ⟨b, off, rfl, h4, h5⟩ := h3 (by omega)
  refine ⟨b, off, rfl, h4, fun j u hu => h5 j u ?_⟩
  rw [← flat_take f n hn l k hk] at hu
  rw [List.getElem?_take] at hu
  split at hu
  · exact hu
  · cases hu
theorem RngS.take {B : Nat} {w : World} {ao : Option Addr} {cap : Nat} {l : List Rng} (h : RngS B w (.slice ao l.length cap) l) (k : Nat) (hk : k ≤ l.length) : RngS B w (.slice ao k cap) (l.take k) := CellsS.take (n := 3) (fun _ => rfl) h k hk
theorem UntS.take {B : Nat} {w : World} {ao : Option Addr} {cap : Nat} {l : List Unt} (h : UntS B w (.slice ao l.length cap) l) (k : Nat) (hk : k ≤ l.length) : UntS B w (.slice ao k cap) (l.take k) := CellsS.take (n := 4) (fun _ => rfl) h k hk
theorem ParS.take {B : Nat} {w : World} {ao : Option Addr} {cap : Nat} {l : List Par} (h : ParS B w (.slice ao l.length cap) l) (k : Nat) (hk : k ≤ l.length) : ParS B w (.slice ao k cap) (l.take k) := by
  obtain ⟨lv, rfl, h1, h2⟩ := h
  refine ⟨lv.take k, by rw [List.map_take], ?_, fun y hy => h2 y (List.mem_of_mem_take hy)⟩
  rw [List.length_map] at h1 hk
  exact CellsS.take (n := 7) (fun _ => rfl) h1 k hk
theorem PrfS.take {B : Nat} {w : World} {ao : Option Addr} {cap : Nat} {l : List Prf} (h : PrfS B w (.slice ao l.length cap) l) (k : Nat) (hk : k ≤ l.length) : PrfS B w (.slice ao k cap) (l.take k) := by
  obtain ⟨lv, rfl, h1, h2⟩ := h
  refine ⟨lv.take k, by rw [List.map_take], ?_, fun y hy => h2 y (List.mem_of_mem_take hy)⟩
  rw [List.length_map] at h1 hk
  exact CellsS.take (n := 3) (fun _ => rfl) h1 k hk
theorem not_mem_snoc {α : Type} (f : α → List UInt8) (l : List α) (k : Nat) (h : k < l.length) (x : List UInt8) (h1 : x ∉ (l.take k).map f) (h2 : ¬ f l[k] = x) : x ∉ (l.take (k + 1)).map f := by
  rw [List.take_succ_eq_append_getElem h, List.map_append, List.mem_append]
  rintro (h3 | h3)
  · exact h1 h3
  · simp at h3; exact h2 h3.symm
theorem mem_at {α : Type} (f : α → List UInt8) (l : List α) (k : Nat) (h : k < l.length) (x : List UInt8) (h2 : f l[k] = x) : x ∈ l.map f := List.mem_map.2 ⟨_, List.getElem_mem h, h2⟩
end Go.Proofs.YtppbagllhmeenaaGreatDoor
