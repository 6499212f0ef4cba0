/- fixture.profile: the profile with a name. (printed by wip/gen/gen_index.py) fixture.checkRanges: the first fault of named ranges. (printed by wip/gen/gen_ckrng.py) -/
import Derived.Test.YtabalicembhjmaaT45M06
import Derived.WalkSpells
import Derived.Deep.QuietTactic
import Derived.BigQuiet
import Derived.Lib.Bytes
import Derived.Deep.RegionHeld3
import Derived.Deep.DeepCutAuto

namespace Go.Proofs.Ytabalicembhjmaa
open Go.RowKit
set_option linter.unusedVariables false
set_option linter.unusedSimpArgs false

/-- the function of profile: does a profile have the name in cell tb? -/
def prfFn (tb : Nat) : Value := .func (.func 68) #[] #[.pointer (some ⟨tb, 0, none⟩)]
def hasNm (nm : List UInt8) (p : Prf) : Bool := decide (p.nm = nm)
set_option maxHeartbeats 400000 in
theorem prfFn_any (pn : ByteArray) (pz : Int) (po : Option Addr) (pl pc : Nat) (nm : ByteArray) (tb : Nat) (w : World) (ht : w.cell? ⟨tb, 0, none⟩ = some (.string nm)) (hb : tb < w.heap.size) :
    Calls Try.prog 68 #[.agg #[.string pn, .int .i64 pz, .slice po pl pc], .pointer (some ⟨tb, 0, none⟩)] w fun e w' => e = .returned (.bool (decide (pn.data.toList = nm.data.toList))) ∧ Below w.heap.size w w' := by
  by_cases hc : pn.data.toList = nm.data.toList
  · have h2 : (pn.toList == nm.toList) = true := by rw [Lib.toList_data, Lib.toList_data]; simpa using hc
    have HV := Lib.hid (show decide (pn.data.toList = nm.data.toList) = true by simpa using hc)
    clear hc
    go_enter Try.func68, Try.ntmps68
    go_wp2
    go_ret
    exact ⟨by rw [HV.out] <;> rfl, (Below.refl _ _).alloc (Nat.le_refl _) _⟩
  · have h2 : (pn.toList == nm.toList) = false := by rw [Lib.toList_data, Lib.toList_data]; simpa using hc
    have HV := Lib.hid (show decide (pn.data.toList = nm.data.toList) = false by simpa using hc)
    go_enter Try.func68, Try.ntmps68
    go_wp2
    go_ret
    exact ⟨by rw [HV.out] <;> rfl, (Below.refl _ _).alloc (Nat.le_refl _) _⟩
theorem prfFn_call (args : Array Value) (W : World) : Sem.run Try.prog (callFunc 68 args) W = .ok (.enter 68 args) W := by simp [go_sem]
set_option maxRecDepth 100000 in
set_option maxHeartbeats 4000000 in
theorem prf_index (v : Value) (l : List Prf) (nm : ByteArray) (tb : Nat) (w : World) (h : PrfS w.heap.size w v l) (ht : w.cell? ⟨tb, 0, none⟩ = some (.string nm)) (hb : tb < w.heap.size) :
    Calls Try.prog 67 #[v, prfFn tb] w fun e w' => e = .returned (.int .i64 (idxF (hasNm nm.data.toList) l 0)) ∧ Below w.heap.size w w' := by
  have HG := Lib.hid (PrfS.get h)
  obtain ⟨lv, hlv, hcs, _⟩ := h
  obtain ⟨ao, cap, rfl, _⟩ := CellsS.shape hcs
  have hm := CellsS.len hcs
  rw [show lv.length = l.length by rw [← hlv]; simp] at *
  clear hcs hlv
  unfold maxLen at hm
  have CF := Lib.hid (fun (pn : ByteArray) (pz : Int) (po : Option Addr) (pl pc : Nat) W (hB : Below w.heap.size w W) => prfFn_any pn pz po pl pc nm tb W ((hB.cell (p := ⟨tb, 0, none⟩) hb).trans ht) (Nat.lt_of_lt_of_le hb hB.size))
  have hcf := prfFn_call
  have HC := Lib.hid (show idxF (hasNm nm.data.toList) l 0 = idxF (hasNm nm.data.toList) (l.drop 0) 0 by simp)
  generalize idxF (hasNm nm.data.toList) l 0 = RES at *
  clear ht
  unfold prfFn
  go_enter Try.func67, Try.ntmps67
  go_wp2_with fail
  go_loopw [8] (fun i wr => ∃ k : Nat, k ≤ l.length ∧ i = .int .i64 k ∧ Hid (RES = idxF (hasNm nm.data.toList) (l.drop k) k) ∧ Hid (Below w.heap.size w wr)) (fun i _ => l.length - (intOf i).toNat)
  case atStart => exact ⟨0, Nat.zero_le _, rfl, HC, Lib.hid (Below.refl _ _)⟩
  case round =>
    obtain ⟨k, hk, rfl, HR, HBW⟩ := hrel
    by_cases hlt : k < l.length
    · obtain ⟨b, off, cap', hsl, hbb, _, hc⟩ := HG.out (by omega)
      injection hsl with hs1 hs2 hs3
      subst hs1 hs3
      obtain ⟨pv, hpv, hcc⟩ := hc k hlt
      obtain ⟨d0, d1, d2⟩ := hcc wr HBW.out
      have hbr : b < wr.heap.size := by have := HBW.out.size; omega
      have HY := Lib.hid (idxF_yes (hasNm nm.data.toList) l k hlt)
      have HN := Lib.hid (idxF_no (hasNm nm.data.toList) l k hlt)
      have HT := Lib.hid (show hasNm nm.data.toList l[k] = decide (l[k].name.data.toList = nm.data.toList) from rfl)
      obtain ⟨lv, hlv, hcs, _⟩ := hpv
      obtain ⟨po, pcap, rfl, _⟩ := CellsS.shape hcs
      clear hc hcc hcs hlv
      generalize hasNm nm.data.toList l[k] = T at *
      generalize hrk : l[k] = rk at *
      clear hrk
      obtain ⟨pn, pz, pl⟩ := rk
      simp only at *
      have CX := Lib.hid (CF.out pn pz po lv.length pcap _ HBW.out)
      rw [← HT.out] at CX
      cases T
      · have HV := Lib.hid (HR.out.trans (HN.out rfl))
        go_wp2_with fail
        refine CX.out.mono ?_
        rintro e w1 ⟨rfl, hb1⟩
        have HB2 := Lib.hid (HBW.out.trans (hb1.mono HBW.out.size))
        clear hb1
        go_wp2_with fail
        go_roundw
        case rel => exact ⟨k + 1, by omega, by go_num, HV, HB2⟩
        case measure => simp [intOf]; omega
      · have HV := Lib.hid (HR.out.trans (HY.out rfl))
        go_wp2_with fail
        refine CX.out.mono ?_
        rintro e w1 ⟨rfl, hb1⟩
        have HB2 := Lib.hid (HBW.out.trans (hb1.mono HBW.out.size))
        clear hb1
        go_wp2_with fail
        go_ret
        exact ⟨by rw [HV.out] <;> rfl, HB2.out⟩
    · have HV := Lib.hid (show RES = -1 by rw [HR.out, idxF_end _ l k (by omega)])
      have hkk : k = l.length := by omega
      subst hkk
      go_wp2_with fail
      go_ret
      exact ⟨by rw [HV.out] <;> rfl, HBW.out⟩
/-- the value of a profile, or of none: its parameters' slice lies below block B -/
def PrfR (B : Nat) (w : World) (o : Option Prf) (v : Value) : Prop :=
  match o with
  | some p => ∃ pv, v = .agg #[.string p.name, .int .i64 p.size, pv] ∧ ParS B w pv p.pars
  | none => v = .agg #[.string ⟨#[]⟩, .int .i64 0, .slice none 0 0]
theorem PrfR.below {B : Nat} {w w' : World} {o : Option Prf} {v : Value} (h : PrfR B w o v) (hb : Below B w w') : PrfR B w' o v := by
  cases o with
  | none => exact h
  | some p =>
    obtain ⟨pv, h1, h2⟩ := h
    exact ⟨pv, h1, h2.below hb⟩
theorem PrfR.more {B B' : Nat} {w : World} {o : Option Prf} {v : Value} (h : PrfR B w o v) (hB : B ≤ B') : PrfR B' w o v := by
  cases o with
  | none => exact h
  | some p =>
    obtain ⟨pv, h1, h2⟩ := h
    exact ⟨pv, h1, h2.more hB⟩
def sizeO (o : Option Prf) : Int := (o.map Prf.size).getD 0
set_option maxRecDepth 100000 in
set_option maxHeartbeats 4000000 in
theorem profile_any (v : Value) (l : List Prf) (nm : ByteArray) (w : World) (h : PrfS w.heap.size w v l) :
    Calls Try.prog 30 #[v, .string nm] w fun e w' => ∃ pv, e = .returned (.tuple #[pv, .bool (profOf l nm.data.toList).isSome]) ∧ PrfR w.heap.size w' (profOf l nm.data.toList) pv ∧ Below w.heap.size w w' := by
  have HG := Lib.hid (PrfS.get h)
  have HSP := Lib.hid (idxF_spec (hasNm nm.data.toList) l)
  have HPO := Lib.hid (show profOf l nm.data.toList = l.find? (hasNm nm.data.toList) from rfl)
  have HCI := Lib.hid (fun W (hW : Below w.heap.size w W) tb (ht : W.cell? ⟨tb, 0, none⟩ = some (.string nm)) (hb : tb < W.heap.size) => prf_index v l nm tb W ((h.below hW).more hW.size) ht hb)
  obtain ⟨lv, hlv, hcs, _⟩ := h
  obtain ⟨ao, cap, rfl, _⟩ := CellsS.shape hcs
  have hm := CellsS.len hcs
  rw [show lv.length = l.length by rw [← hlv]; simp] at *
  clear hcs hlv
  unfold maxLen at hm
  generalize idxF (hasNm nm.data.toList) l 0 = IX at *
  rw [HPO.out]
  generalize l.find? (hasNm nm.data.toList) = RES at *
  have HX := Lib.hid (HCI.out ((w.alloc (.cells #[.string nm] 9)).alloc (.cells #[.string ⟨#[]⟩, .int .i64 0, .slice none 0 0] 70)) (((Below.refl _ _).alloc (Nat.le_refl _) _).alloc (by simp) _) w.heap.size (by simp [go_sem]) (by simp; omega))
  unfold prfFn at HX
  clear HCI HPO
  go_enter Try.func30, Try.ntmps30
  go_wp2_with fail
  refine HX.out.mono ?_
  rintro e w1 ⟨rfl, hb1⟩
  have HB1 := Lib.hid ((((Below.refl w.heap.size w).alloc (Nat.le_refl _) (.cells #[.string nm] 9)).alloc (by simp) (.cells #[.string ⟨#[]⟩, .int .i64 0, .slice none 0 0] 70)).trans (hb1.mono (by simp; omega)))
  have hz1 := hb1.size
  simp only [World.size_alloc] at hz1
  have c0 : w1.cell? ⟨w.heap.size + 1, 0, none⟩ = some (.string ⟨#[]⟩) := (hb1.cell (p := ⟨w.heap.size + 1, 0, none⟩) (by simp)).trans (by simp [go_sem])
  have c1 : w1.cell? ⟨w.heap.size + 1, 1, none⟩ = some (.int .i64 0) := (hb1.cell (p := ⟨w.heap.size + 1, 1, none⟩) (by simp)).trans (by simp [go_sem])
  have c2 : w1.cell? ⟨w.heap.size + 1, 2, none⟩ = some (.slice none 0 0) := (hb1.cell (p := ⟨w.heap.size + 1, 2, none⟩) (by simp)).trans (by simp [go_sem])
  have f0 : w1.frozen? ⟨w.heap.size + 1, 0, none⟩ = false := (hb1.frozen (p := ⟨w.heap.size + 1, 0, none⟩) (by simp)).trans (by simp [go_sem])
  have f1 : w1.frozen? ⟨w.heap.size + 1, 1, none⟩ = false := (hb1.frozen (p := ⟨w.heap.size + 1, 1, none⟩) (by simp)).trans (by simp [go_sem])
  have f2 : w1.frozen? ⟨w.heap.size + 1, 2, none⟩ = false := (hb1.frozen (p := ⟨w.heap.size + 1, 2, none⟩) (by simp)).trans (by simp [go_sem])
  have KSB := Lib.hid (show ∀ u0 u1 u2, Below w.heap.size w (((w1.setCell ⟨w.heap.size + 1, 0, none⟩ u0).setCell ⟨w.heap.size + 1, 1, none⟩ u1).setCell ⟨w.heap.size + 1, 2, none⟩ u2) from fun u0 u1 u2 => ((HB1.out.setCell (p := ⟨w.heap.size + 1, 0, none⟩) (by simp) u0).setCell (p := ⟨w.heap.size + 1, 1, none⟩) (by simp) u1).setCell (p := ⟨w.heap.size + 1, 2, none⟩) (by simp) u2)
  have KST := Lib.hid (show ∀ u0 u1 u2 {v : Value} {l : List Par}, ParS w.heap.size w1 v l → ParS w.heap.size (((w1.setCell ⟨w.heap.size + 1, 0, none⟩ u0).setCell ⟨w.heap.size + 1, 1, none⟩ u1).setCell ⟨w.heap.size + 1, 2, none⟩ u2) v l from fun u0 u1 u2 _ _ h => h.below ((((Below.refl w.heap.size w1).setCell (p := ⟨w.heap.size + 1, 0, none⟩) (by simp) u0).setCell (p := ⟨w.heap.size + 1, 1, none⟩) (by simp) u1).setCell (p := ⟨w.heap.size + 1, 2, none⟩) (by simp) u2))
  clear hb1 HX
  rcases HSP.out with ⟨rfl, rfl⟩ | ⟨k, hk, rfl, rfl⟩
  · go_wp2_with fail
    exact bodyPost_ret (v := .tuple #[.agg #[.string ⟨#[]⟩, .int .i64 0, .slice none 0 0], .bool false]) (by simp [results, Try.results30, go_sem, c0, c1, c2]) rfl ⟨_, rfl, rfl, KSB.out _ _ _⟩
  · obtain ⟨b, off, cap', hsl, hbb, _, hc⟩ := HG.out (by omega)
    injection hsl with hs1 hs2 hs3
    subst hs1 hs3
    obtain ⟨pv, hpv, hcc⟩ := hc k hk
    have HPV := Lib.hid (hpv.below HB1.out)
    obtain ⟨d0, d1, d2⟩ := hcc w1 HB1.out
    have hbr : b < w1.heap.size := by omega
    obtain ⟨lv, hlv, hcs, _⟩ := hpv
    obtain ⟨po, pcap, rfl, _⟩ := CellsS.shape hcs
    rw [show lv.length = l[k].pars.length by rw [← hlv]; simp] at *
    clear hc hcc hcs hlv HG HSP
    generalize hrk : l[k] = rk at *
    have HRK := Lib.hid hrk
    clear hrk
    obtain ⟨pn, pz, pl⟩ := rk
    simp only at *
    go_wp2_with fail
    exact bodyPost_ret (v := .tuple #[.agg #[.string pn, .int .i64 pz, .slice po pl.length pcap], .bool true]) (by simp [results, Try.results30, go_sem, c0, c1, c2]) rfl ⟨_, rfl, by rw [HRK.out]; exact ⟨_, rfl, KST.out _ _ _ HPV.out⟩, KSB.out _ _ _⟩
end Go.Proofs.Ytabalicembhjmaa

namespace Go.Proofs.Ytabalicembhjmaa
open Go.RowKit
set_option linter.unusedVariables false
set_option linter.unusedSimpArgs false

theorem bel_drewF {B : Nat} {w W : World} (h : Below B w W) (n : Nat) : Below B w (W.drewN n) := ⟨h.os, h.tape, h.output, h.size, h.block⟩
set_option maxRecDepth 100000 in
set_option maxHeartbeats 16000000 in
theorem ckRanges_any (v : Value) (l : List Rng) (w : World) (h : RngS w.heap.size w v l) (hf : ∀ r ∈ l, RngFit r) :
    Calls Try.prog 109 #[v] w fun e w' => e = .returned (.int .i64 (chkRngs l)) ∧ Below w.heap.size w w' := by
  have hm := CellsS.len h
  unfold maxLen at hm
  have HG := Lib.hid (RngS.get h)
  have HF := Lib.hid hf
  obtain ⟨ao, cap, rfl, _⟩ := CellsS.shape h
  clear h hf
  have HC0 := Lib.hid (show chkRngs l = if 30 < l.length then 2 else scanF rngF l 0 from rfl)
  generalize chkRngs l = RES at *
  go_enter Try.func109, Try.ntmps109
  by_cases h30 : 30 < l.length
  · have HV := Lib.hid (show RES = 2 by rw [HC0.out, if_pos h30])
    go_wp2_with fail
    go_ret
    exact ⟨by rw [HV.out] <;> rfl, Below.refl _ _⟩
  have HC := Lib.hid (show RES = scanF rngF l 0 by rw [HC0.out, if_neg h30])
  have h31 : l.length ≤ 30 := by omega
  clear HC0 h30
  have hmm := @run_makeMap Try.prog
  go_wp2_with fail
  clear hmm
  go_loopw [12] (fun i wr => ∃ k : Nat, k ≤ l.length ∧ i = .int .i64 k ∧ Hid (RES = scanF rngF l k) ∧ Hid (Below w.heap.size w wr) ∧ Hid (SeenM wr Try.prog 9 4 w.heap.size k ((l.take k).map (fun y => Lit.string y.nm))) ∧ w.heap.size < wr.heap.size) (fun i _ => l.length - (intOf i).toNat)
  case atStart => exact ⟨0, Nat.zero_le _, rfl, HC, Lib.hid ((Below.refl _ _).alloc (Nat.le_refl _) _), Lib.hid (by simpa using seen_made w _ _ _), by simp⟩
  case round =>
    obtain ⟨k, hk, rfl, HRF, HBW, HSE, hlw⟩ := hrel
    by_cases hlt : k < l.length
    · obtain ⟨b, off, cap', hsl, hb, _, hc⟩ := HG.out (by omega)
      injection hsl with hs1 hs2 hs3
      subst hs1 hs3
      obtain ⟨d0, d1, d2⟩ := hc k hlt wr HBW.out
      have HPR := Lib.hid (fun (h0 : 0 < k) => hc (k - 1) (by omega))
      have hbr : b < wr.heap.size := by have := HBW.out.size; omega
      obtain ⟨g0, g1, hns⟩ := HF.out _ (List.getElem_mem hlt)
      have HSG := Lib.hid (scanF_good rngF l k hlt)
      have HSB := Lib.hid (scanF_bad rngF l k hlt)
      have HFD := Lib.hid (show rngF (l.take k) l[k] = if rngBad l[k] then 1 else if rngLow (l.take k) l[k] then 7 else if !nameB l[k].nm then 5 else if l[k].nm ∈ (l.take k).map Rng.nm then 6 else 0 from rfl)
      have HKEY := Lib.hid (keyOfS_ hns)
      have HIN := Lib.hid (mem_strs Rng.nm (l.take k) l[k].nm)
      have HTK := Lib.hid (strs_snoc Rng.nm l k hlt)
      have HKV := Lib.hid (show ∀ o, SeenM (wr.alloc o) Try.prog 9 4 w.heap.size k ((l.take k).map (fun y => Lit.string y.nm)) from fun o => HSE.out.kept (World.grownBy_alloc _ _ none) (by simp))
      have HLW0 := Lib.hid (show k = 0 → rngLow (l.take k) l[k] = false from fun h0 => by subst h0; rfl)
      have HLW := Lib.hid (show ∀ h0 : 0 < k, rngLow (l.take k) l[k] = decide (l[k].low ≤ (l[k - 1]'(by omega)).high) from fun h0 => by unfold rngLow; rw [last_take l k hlt h0]; rfl)
      have HBD := Lib.hid (show rngBad l[k] = (!inR l[k].low 0 65535 || !inR l[k].high 0 65535 || decide (l[k].high < l[k].low)) from rfl)
      generalize rngLow (l.take k) l[k] = LW at *
      generalize rngBad l[k] = BD at *
      generalize rngF (l.take k) l[k] = FF at *
      have hnm : l[k].nm = l[k].name.data.toList := rfl
      rw [hnm] at HFD HIN HTK
      clear hnm hc g0 g1
      generalize (l.take k).map Rng.nm = SN at *
      generalize (l.take k).map (fun y => Lit.string y.nm) = S at *
      generalize hrk : l[k] = rk at *
      clear hrk
      obtain ⟨rlo, rhi, rnm⟩ := rk
      simp only at d0 d1 d2 hns
      go_upto_region 7 with fail
      have HKA := Lib.hid (HKV.out (.cells #[.int .i64 rlo, .int .i64 rhi, .string rnm] 86))
      have HBA := Lib.hid (HBW.out.alloc (Nat.le_of_lt hlw) (.cells #[.int .i64 rlo, .int .i64 rhi, .string rnm] 86))
      go_cut [17] (fun s17 wx => s17 = .bool BD ∧ wx = wr.alloc (.cells #[.int .i64 rlo, .int .i64 rhi, .string rnm] 86))
      case first =>
        rcases Bool.eq_false_or_eq_true (inR rlo 0 65535) with k0 | k0
        rotate_left
        · skip
          have HV := Lib.hid (show BD = true by rw [HBD.out]; simp [k0])
          go_wp2_with (first | (go_at_call 71; ((with_reducible refine (fLevel_R _ _).mono ?_); rintro e w' ⟨rfl, rfl⟩)) | (go_at_call 108; ((with_reducible refine (name_any _ _ hns).mono ?_); rintro e w' ⟨rfl, rfl⟩)) | fail)
          all_goals go_meet
          all_goals exact ⟨by rw [HV.out] <;> rfl, rfl⟩
        rcases Bool.eq_false_or_eq_true (inR rhi 0 65535) with k1 | k1
        rotate_left
        · skip
          have HV := Lib.hid (show BD = true by rw [HBD.out]; simp [k0, k1])
          go_wp2_with (first | (go_at_call 71; ((with_reducible refine (fLevel_R _ _).mono ?_); rintro e w' ⟨rfl, rfl⟩)) | (go_at_call 108; ((with_reducible refine (name_any _ _ hns).mono ?_); rintro e w' ⟨rfl, rfl⟩)) | fail)
          all_goals go_meet
          all_goals exact ⟨by rw [HV.out] <;> rfl, rfl⟩
        by_cases k2 : rhi < rlo
        · skip
          have HV := Lib.hid (show BD = true by rw [HBD.out]; simp [k0, k1, k2])
          go_wp2_with (first | (go_at_call 71; ((with_reducible refine (fLevel_R _ _).mono ?_); rintro e w' ⟨rfl, rfl⟩)) | (go_at_call 108; ((with_reducible refine (name_any _ _ hns).mono ?_); rintro e w' ⟨rfl, rfl⟩)) | fail)
          all_goals go_meet
          all_goals exact ⟨by rw [HV.out] <;> rfl, rfl⟩
        · skip
          have HV := Lib.hid (show BD = false by rw [HBD.out]; simp [k0, k1]; omega)
          have k3 : decide (rhi < rlo) = false := by simpa using k2
          go_wp2_with (first | (go_at_call 71; ((with_reducible refine (fLevel_R _ _).mono ?_); rintro e w' ⟨rfl, rfl⟩)) | (go_at_call 108; ((with_reducible refine (name_any _ _ hns).mono ?_); rintro e w' ⟨rfl, rfl⟩)) | fail)
          all_goals go_meet
          all_goals exact ⟨by rw [HV.out] <;> rfl, rfl⟩
      case rest =>
        obtain ⟨rfl, rfl⟩ := hcut
        cases BD
        rotate_left
        · have HE : FF = 1 := by rw [HFD.out]; rfl
          have HV := Lib.hid (show RES = 1 by rw [HRF.out, HSB.out (by rw [HE]; decide), HE])
          clear HE
          go_wp2_with fail
          go_ret
          exact ⟨by rw [HV.out] <;> rfl, HBA.out⟩
        have HFE := Lib.hid (show FF = if LW then 7 else if !nameB rnm.data.toList then 5 else if rnm.data.toList ∈ SN then 6 else 0 by rw [HFD.out]; rfl)
        clear HFD HBD
        go_upto_region 9 with fail
        go_cut [35] (fun s35 wx => s35 = .bool LW ∧ Below wx.heap.size (wr.alloc (.cells #[.int .i64 rlo, .int .i64 rhi, .string rnm] 86)) wx ∧ wx.heap.size = wr.heap.size + 1)
        case first =>
          by_cases h0 : k = 0
          · subst h0
            have HV := Lib.hid (HLW0.out rfl)
            clear HPR HLW HLW0
            go_quiet (fail)
            go_wp2_with fail
            all_goals go_meet
            all_goals exact ⟨by rw [HV.out] <;> rfl, bel_drewF (Below.refl _ _) _, by simp⟩
          · obtain ⟨j, rfl⟩ : ∃ j, k = j + 1 := ⟨k - 1, by omega⟩
            have HLX := Lib.hid (HLW.out (by omega))
            obtain ⟨_, d4, _⟩ := HPR.out (by omega) wr HBW.out
            clear HPR HLW HLW0
            simp only [Nat.add_sub_cancel] at d4
            have hlow : (l[j + 1 - 1]'(by omega)) = l[j] := by simp
            rw [hlow] at HLX
            clear hlow
            generalize l[j] = rj at *
            obtain ⟨jl, jh, jn⟩ := rj
            simp only at d4
            have hji : ((j + 1 : Nat) : Int) - 1 = (j : Int) := by omega
            by_cases hle : rlo ≤ jh
            · skip
              have HV := Lib.hid (show LW = true by rw [HLX.out]; simpa using hle)
              clear HLX
              go_quiet (fail)
              go_wp2_with fail
              all_goals go_meet
              all_goals exact ⟨by rw [HV.out] <;> rfl, bel_drewF (Below.refl _ _) _, by simp⟩
            · skip
              have HV := Lib.hid (show LW = false by rw [HLX.out]; simpa using hle)
              clear HLX
              have hled : decide (rlo ≤ jh) = false := by simpa using hle
              go_quiet (fail)
              go_wp2_with fail
              all_goals go_meet
              all_goals exact ⟨by rw [HV.out] <;> rfl, bel_drewF (Below.refl _ _) _, by simp⟩
        case rest =>
          obtain ⟨rfl, hb3, hz3⟩ := hcut
          have HBC := Lib.hid (HBA.out.trans (hb3.mono (by omega)))
          have HKW := Lib.hid (HKA.out.below hb3 (by omega))
          have e2 : wc.cell? ⟨wr.heap.size, 2, none⟩ = some (.string rnm) := (hb3.cell (p := ⟨wr.heap.size, 2, none⟩) (by simp; omega)).trans (by simp [go_sem])
          have hwc : w.heap.size < wc.heap.size := by omega
          clear hb3 d0 d1 d2 HLW HLW0 HPR HKA HBA HKV HBW HSE
          cases LW
          rotate_left
          · skip
            have HE : FF = 7 := by rw [HFE.out]; rfl
            have HV := Lib.hid (show RES = 7 by rw [HRF.out, HSB.out (by rw [HE]; decide), HE])
            clear HE
            go_wp2_with fail
            go_ret
            exact ⟨by rw [HV.out] <;> rfl, HBC.out⟩
          rcases Bool.eq_false_or_eq_true (nameB rnm.data.toList) with k0 | k0
          rotate_left
          · skip
            have HE : FF = 5 := by rw [HFE.out]; simp [k0]
            have HV := Lib.hid (show RES = 5 by rw [HRF.out, HSB.out (by rw [HE]; decide), HE])
            clear HE
            go_wp2_with (first | (go_at_call 71; ((with_reducible refine (fLevel_R _ _).mono ?_); rintro e w' ⟨rfl, rfl⟩)) | (go_at_call 108; ((with_reducible refine (name_any _ _ hns).mono ?_); rintro e w' ⟨rfl, rfl⟩)) | fail)
            go_ret
            exact ⟨by rw [HV.out] <;> rfl, HBC.out⟩
          by_cases hin : rnm.data.toList ∈ SN
          · skip
            have HE : FF = 6 := by rw [HFE.out]; simp [k0, hin]
            have HV := Lib.hid (show RES = 6 by rw [HRF.out, HSB.out (by rw [HE]; decide), HE])
            clear HE
            go_wp2_with (first | (at_lookup; refine wpList_seen _ rfl _ _ 137 rfl 9 4 keyS_ Try.underlying137 Try.underlying4 (zeroB_ _) w.heap.size _ S rfl HKW.out (.string rnm) (.string rnm.data.toList) rfl HKEY.out ?_; intro c hc; obtain rfl : c = true := hc.2 (HIN.out.2 hin); clear hc) | (first | (go_at_call 71; ((with_reducible refine (fLevel_R _ _).mono ?_); rintro e w' ⟨rfl, rfl⟩)) | (go_at_call 108; ((with_reducible refine (name_any _ _ hns).mono ?_); rintro e w' ⟨rfl, rfl⟩)) | fail))
            go_ret
            exact ⟨by rw [HV.out] <;> rfl, HBC.out⟩
          · have HE : FF = 0 := by rw [HFE.out]; simp [k0, hin]
            have HV := Lib.hid (show RES = scanF rngF l (k + 1) by rw [HRF.out, HSG.out HE])
            clear HE
            go_wp2_with (first | (at_lookup; refine wpList_seen _ rfl _ _ 137 rfl 9 4 keyS_ Try.underlying137 Try.underlying4 (zeroB_ _) w.heap.size _ S rfl HKW.out (.string rnm) (.string rnm.data.toList) rfl HKEY.out ?_; intro c hc; obtain rfl : c = false := (by cases c; rfl; exact absurd (HIN.out.1 (hc.1 rfl)) hin); clear hc) | (at_mapUpdate; refine wpList_seen_put _ rfl _ _ _ 137 rfl 9 4 keyS_ Try.underlying137 Try.underlying4 w.heap.size _ S rfl HKW.out (by unfold maxLen; omega) (.string rnm) (.string rnm.data.toList) rfl rfl HKEY.out ?_; intro w3 hown3 hgrow3) | (first | (go_at_call 71; ((with_reducible refine (fLevel_R _ _).mono ?_); rintro e w' ⟨rfl, rfl⟩)) | (go_at_call 108; ((with_reducible refine (name_any _ _ hns).mono ?_); rintro e w' ⟨rfl, rfl⟩)) | fail))
            go_roundw
            case rel => exact ⟨k + 1, by omega, by first | rfl | go_num, HV, Lib.hid (HBC.out.grown hgrow3 (by omega) (fun j hj => by cases hj; omega)), Lib.hid (by rw [HTK.out]; exact hown3), hown3.lt⟩
            case measure => simp [intOf]; omega
    · have HV := Lib.hid (show RES = 0 by rw [HRF.out, scanF_end rngF l k (by omega)])
      have hkk : k = l.length := by omega
      subst hkk
      go_wp2_with fail
      go_ret
      exact ⟨by rw [HV.out] <;> rfl, HBW.out⟩
end Go.Proofs.Ytabalicembhjmaa
