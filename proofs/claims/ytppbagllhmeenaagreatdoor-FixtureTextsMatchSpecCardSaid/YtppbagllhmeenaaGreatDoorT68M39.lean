/- fixture.profile: the profile with a name. (printed by wip/gen/gen_index.py) -/
import Derived.Test.YtppbagllhmeenaaGreatDoorT68M21
import Derived.Test.YtppbagllhmeenaaGreatDoorT68M38
import Derived.WalkSpells
import Derived.Deep.QuietTactic
import Derived.BigQuiet
import Derived.Lib.Bytes

namespace Go.Proofs.YtppbagllhmeenaaGreatDoor
open Go.RowKit
set_option linter.unusedVariables false
set_option linter.unusedSimpArgs false

/-- the function of profile: does a profile have the name in cell tb? -/
def prfFn (tb : Nat) : Value := .func (.func 78) #[] #[.pointer (some ⟨tb, 0, none⟩)]
def hasNm (nm : List UInt8) (p : Prf) : Bool := decide (p.nm = nm)
set_option maxHeartbeats 400000 in
theorem prfFn_any (pn : ByteArray) (pz : Int) (po : Option Addr) (pl pc : Nat) (nm : ByteArray) (tb : Nat) (w : World) (ht : w.cell? ⟨tb, 0, none⟩ = some (.string nm)) (hb : tb < w.heap.size) :
    Calls Tryz.prog 78 #[.agg #[.string pn, .int .i64 pz, .slice po pl pc], .pointer (some ⟨tb, 0, none⟩)] w fun e w' => e = .returned (.bool (decide (pn.data.toList = nm.data.toList))) ∧ Below w.heap.size w w' := by
  by_cases hc : pn.data.toList = nm.data.toList
  · have h2 : (pn.toList == nm.toList) = true := by rw [Lib.toList_data, Lib.toList_data]; simpa using hc
    have HV := Lib.hid (show decide (pn.data.toList = nm.data.toList) = true by simpa using hc)
    clear hc
    go_enter Tryz.func78, Tryz.ntmps78
    go_wp2
    go_ret
    exact ⟨by rw [HV.out] <;> rfl, (Below.refl _ _).alloc (Nat.le_refl _) _⟩
  · have h2 : (pn.toList == nm.toList) = false := by rw [Lib.toList_data, Lib.toList_data]; simpa using hc
    have HV := Lib.hid (show decide (pn.data.toList = nm.data.toList) = false by simpa using hc)
    go_enter Tryz.func78, Tryz.ntmps78
    go_wp2
    go_ret
    exact ⟨by rw [HV.out] <;> rfl, (Below.refl _ _).alloc (Nat.le_refl _) _⟩
theorem prfFn_call (args : Array Value) (W : World) : Sem.run Tryz.prog (callFunc 78 args) W = .ok (.enter 78 args) W := by simp [go_sem]
set_option maxRecDepth 100000 in
set_option maxHeartbeats 4000000 in
theorem prf_index (v : Value) (l : List Prf) (nm : ByteArray) (tb : Nat) (w : World) (h : PrfS w.heap.size w v l) (ht : w.cell? ⟨tb, 0, none⟩ = some (.string nm)) (hb : tb < w.heap.size) :
    Calls Tryz.prog 77 #[v, prfFn tb] w fun e w' => e = .returned (.int .i64 (idxF (hasNm nm.data.toList) l 0)) ∧ Below w.heap.size w w' := by
  have HG := Lib.hid (PrfS.get h)
  obtain ⟨lv, hlv, hcs, _⟩ := h
  obtain ⟨ao, cap, rfl, _⟩ := CellsS.shape hcs
  have hm := CellsS.len hcs
  rw [show lv.length = l.length by rw [← hlv]; simp] at *
  clear hcs hlv
  unfold maxLen at hm
  have CF := Lib.hid (fun (pn : ByteArray) (pz : Int) (po : Option Addr) (pl pc : Nat) W (hB : Below w.heap.size w W) => prfFn_any pn pz po pl pc nm tb W ((hB.cell (p := ⟨tb, 0, none⟩) hb).trans ht) (Nat.lt_of_lt_of_le hb hB.size))
  have hcf := prfFn_call
  have HC := Lib.hid (show idxF (hasNm nm.data.toList) l 0 = idxF (hasNm nm.data.toList) (l.drop 0) 0 by simp)
  generalize idxF (hasNm nm.data.toList) l 0 = RES at *
  clear ht
  unfold prfFn
  go_enter Tryz.func77, Tryz.ntmps77
  go_wp2_with fail
  go_loopw [8] (fun i wr => ∃ k : Nat, k ≤ l.length ∧ i = .int .i64 k ∧ Hid (RES = idxF (hasNm nm.data.toList) (l.drop k) k) ∧ Hid (Below w.heap.size w wr)) (fun i _ => l.length - (intOf i).toNat)
  case atStart => exact ⟨0, Nat.zero_le _, rfl, HC, Lib.hid (Below.refl _ _)⟩
  case round =>
    obtain ⟨k, hk, rfl, HR, HBW⟩ := hrel
    by_cases hlt : k < l.length
    · obtain ⟨b, off, cap', hsl, hbb, _, hc⟩ := HG.out (by omega)
      injection hsl with hs1 hs2 hs3
      subst hs1 hs3
      obtain ⟨pv, hpv, hcc⟩ := hc k hlt
      obtain ⟨d0, d1, d2⟩ := hcc wr HBW.out
      have hbr : b < wr.heap.size := by have := HBW.out.size; omega
      have HY := Lib.hid (idxF_yes (hasNm nm.data.toList) l k hlt)
      have HN := Lib.hid (idxF_no (hasNm nm.data.toList) l k hlt)
      have HT := Lib.hid (show hasNm nm.data.toList l[k] = decide (l[k].name.data.toList = nm.data.toList) from rfl)
      obtain ⟨lv, hlv, hcs, _⟩ := hpv
      obtain ⟨po, pcap, rfl, _⟩ := CellsS.shape hcs
      clear hc hcc hcs hlv
      generalize hasNm nm.data.toList l[k] = T at *
      generalize hrk : l[k] = rk at *
      clear hrk
      obtain ⟨pn, pz, pl⟩ := rk
      simp only at *
      have CX := Lib.hid (CF.out pn pz po lv.length pcap _ HBW.out)
      rw [← HT.out] at CX
      cases T
      · have HV := Lib.hid (HR.out.trans (HN.out rfl))
        go_wp2_with fail
        refine CX.out.mono ?_
        rintro e w1 ⟨rfl, hb1⟩
        have HB2 := Lib.hid (HBW.out.trans (hb1.mono HBW.out.size))
        clear hb1
        go_wp2_with fail
        go_roundw
        case rel => exact ⟨k + 1, by omega, by go_num, HV, HB2⟩
        case measure => simp [intOf]; omega
      · have HV := Lib.hid (HR.out.trans (HY.out rfl))
        go_wp2_with fail
        refine CX.out.mono ?_
        rintro e w1 ⟨rfl, hb1⟩
        have HB2 := Lib.hid (HBW.out.trans (hb1.mono HBW.out.size))
        clear hb1
        go_wp2_with fail
        go_ret
        exact ⟨by rw [HV.out] <;> rfl, HB2.out⟩
    · have HV := Lib.hid (show RES = -1 by rw [HR.out, idxF_end _ l k (by omega)])
      have hkk : k = l.length := by omega
      subst hkk
      go_wp2_with fail
      go_ret
      exact ⟨by rw [HV.out] <;> rfl, HBW.out⟩
/-- the value of a profile, or of none: its parameters' slice lies below block B -/
def PrfR (B : Nat) (w : World) (o : Option Prf) (v : Value) : Prop :=
  match o with
  | some p => ∃ pv, v = .agg #[.string p.name, .int .i64 p.size, pv] ∧ ParS B w pv p.pars
  | none => v = .agg #[.string ⟨#[]⟩, .int .i64 0, .slice none 0 0]
theorem PrfR.below {B : Nat} {w w' : World} {o : Option Prf} {v : Value} (h : PrfR B w o v) (hb : Below B w w') : PrfR B w' o v := by
  cases o with
  | none => exact h
  | some p =>
    obtain ⟨pv, h1, h2⟩ := h
    exact ⟨pv, h1, h2.below hb⟩
theorem PrfR.more {B B' : Nat} {w : World} {o : Option Prf} {v : Value} (h : PrfR B w o v) (hB : B ≤ B') : PrfR B' w o v := by
  cases o with
  | none => exact h
  | some p =>
    obtain ⟨pv, h1, h2⟩ := h
    exact ⟨pv, h1, h2.more hB⟩
def sizeO (o : Option Prf) : Int := (o.map Prf.size).getD 0
set_option maxRecDepth 100000 in
set_option maxHeartbeats 4000000 in
theorem profile_any (v : Value) (l : List Prf) (nm : ByteArray) (w : World) (h : PrfS w.heap.size w v l) :
    Calls Tryz.prog 47 #[v, .string nm] w fun e w' => ∃ pv, e = .returned (.tuple #[pv, .bool (profOf l nm.data.toList).isSome]) ∧ PrfR w.heap.size w' (profOf l nm.data.toList) pv ∧ Below w.heap.size w w' := by
  have HG := Lib.hid (PrfS.get h)
  have HSP := Lib.hid (idxF_spec (hasNm nm.data.toList) l)
  have HPO := Lib.hid (show profOf l nm.data.toList = l.find? (hasNm nm.data.toList) from rfl)
  have HCI := Lib.hid (fun W (hW : Below w.heap.size w W) tb (ht : W.cell? ⟨tb, 0, none⟩ = some (.string nm)) (hb : tb < W.heap.size) => prf_index v l nm tb W ((h.below hW).more hW.size) ht hb)
  obtain ⟨lv, hlv, hcs, _⟩ := h
  obtain ⟨ao, cap, rfl, _⟩ := CellsS.shape hcs
  have hm := CellsS.len hcs
  rw [show lv.length = l.length by rw [← hlv]; simp] at *
  clear hcs hlv
  unfold maxLen at hm
  generalize idxF (hasNm nm.data.toList) l 0 = IX at *
  rw [HPO.out]
  generalize l.find? (hasNm nm.data.toList) = RES at *
  have HX := Lib.hid (HCI.out ((w.alloc (.cells #[.string nm] 9)).alloc (.cells #[.string ⟨#[]⟩, .int .i64 0, .slice none 0 0] 70)) (((Below.refl _ _).alloc (Nat.le_refl _) _).alloc (by simp) _) w.heap.size (by simp [go_sem]) (by simp; omega))
  unfold prfFn at HX
  clear HCI HPO
  go_enter Tryz.func47, Tryz.ntmps47
  go_wp2_with fail
  refine HX.out.mono ?_
  rintro e w1 ⟨rfl, hb1⟩
  have HB1 := Lib.hid ((((Below.refl w.heap.size w).alloc (Nat.le_refl _) (.cells #[.string nm] 9)).alloc (by simp) (.cells #[.string ⟨#[]⟩, .int .i64 0, .slice none 0 0] 70)).trans (hb1.mono (by simp; omega)))
  have hz1 := hb1.size
  simp only [World.size_alloc] at hz1
  have c0 : w1.cell? ⟨w.heap.size + 1, 0, none⟩ = some (.string ⟨#[]⟩) := (hb1.cell (p := ⟨w.heap.size + 1, 0, none⟩) (by simp)).trans (by simp [go_sem])
  have c1 : w1.cell? ⟨w.heap.size + 1, 1, none⟩ = some (.int .i64 0) := (hb1.cell (p := ⟨w.heap.size + 1, 1, none⟩) (by simp)).trans (by simp [go_sem])
  have c2 : w1.cell? ⟨w.heap.size + 1, 2, none⟩ = some (.slice none 0 0) := (hb1.cell (p := ⟨w.heap.size + 1, 2, none⟩) (by simp)).trans (by simp [go_sem])
  have f0 : w1.frozen? ⟨w.heap.size + 1, 0, none⟩ = false := (hb1.frozen (p := ⟨w.heap.size + 1, 0, none⟩) (by simp)).trans (by simp [go_sem])
  have f1 : w1.frozen? ⟨w.heap.size + 1, 1, none⟩ = false := (hb1.frozen (p := ⟨w.heap.size + 1, 1, none⟩) (by simp)).trans (by simp [go_sem])
  have f2 : w1.frozen? ⟨w.heap.size + 1, 2, none⟩ = false := (hb1.frozen (p := ⟨w.heap.size + 1, 2, none⟩) (by simp)).trans (by simp [go_sem])
  have KSB := Lib.hid (show ∀ u0 u1 u2, Below w.heap.size w (((w1.setCell ⟨w.heap.size + 1, 0, none⟩ u0).setCell ⟨w.heap.size + 1, 1, none⟩ u1).setCell ⟨w.heap.size + 1, 2, none⟩ u2) from fun u0 u1 u2 => ((HB1.out.setCell (p := ⟨w.heap.size + 1, 0, none⟩) (by simp) u0).setCell (p := ⟨w.heap.size + 1, 1, none⟩) (by simp) u1).setCell (p := ⟨w.heap.size + 1, 2, none⟩) (by simp) u2)
  have KST := Lib.hid (show ∀ u0 u1 u2 {v : Value} {l : List Par}, ParS w.heap.size w1 v l → ParS w.heap.size (((w1.setCell ⟨w.heap.size + 1, 0, none⟩ u0).setCell ⟨w.heap.size + 1, 1, none⟩ u1).setCell ⟨w.heap.size + 1, 2, none⟩ u2) v l from fun u0 u1 u2 _ _ h => h.below ((((Below.refl w.heap.size w1).setCell (p := ⟨w.heap.size + 1, 0, none⟩) (by simp) u0).setCell (p := ⟨w.heap.size + 1, 1, none⟩) (by simp) u1).setCell (p := ⟨w.heap.size + 1, 2, none⟩) (by simp) u2))
  clear hb1 HX
  rcases HSP.out with ⟨rfl, rfl⟩ | ⟨k, hk, rfl, rfl⟩
  · go_wp2_with fail
    exact bodyPost_ret (v := .tuple #[.agg #[.string ⟨#[]⟩, .int .i64 0, .slice none 0 0], .bool false]) (by simp [results, Tryz.results47, go_sem, c0, c1, c2]) rfl ⟨_, rfl, rfl, KSB.out _ _ _⟩
  · obtain ⟨b, off, cap', hsl, hbb, _, hc⟩ := HG.out (by omega)
    injection hsl with hs1 hs2 hs3
    subst hs1 hs3
    obtain ⟨pv, hpv, hcc⟩ := hc k hk
    have HPV := Lib.hid (hpv.below HB1.out)
    obtain ⟨d0, d1, d2⟩ := hcc w1 HB1.out
    have hbr : b < w1.heap.size := by omega
    obtain ⟨lv, hlv, hcs, _⟩ := hpv
    obtain ⟨po, pcap, rfl, _⟩ := CellsS.shape hcs
    rw [show lv.length = l[k].pars.length by rw [← hlv]; simp] at *
    clear hc hcc hcs hlv HG HSP
    generalize hrk : l[k] = rk at *
    have HRK := Lib.hid hrk
    clear hrk
    obtain ⟨pn, pz, pl⟩ := rk
    simp only at *
    go_wp2_with fail
    exact bodyPost_ret (v := .tuple #[.agg #[.string pn, .int .i64 pz, .slice po pl.length pcap], .bool true]) (by simp [results, Tryz.results47, go_sem, c0, c1, c2]) rfl ⟨_, rfl, by rw [HRK.out]; exact ⟨_, rfl, KST.out _ _ _ HPV.out⟩, KSB.out _ _ _⟩
end Go.Proofs.YtppbagllhmeenaaGreatDoor
