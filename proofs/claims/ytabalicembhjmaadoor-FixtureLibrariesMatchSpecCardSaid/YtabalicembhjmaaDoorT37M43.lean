/- The reference's Named. (printed by wip/gen/gen_named.py) -/
import Derived.Test.YtabalicembhjmaaDoorT37M29
import Derived.Test.YtabalicembhjmaaDoorT37M42
import Derived.Test.YtabalicembhjmaaDoorT37M37

namespace Go.Proofs.YtabalicembhjmaaDoor
open Go.RowKit
set_option linter.unusedVariables false
set_option linter.unusedSimpArgs false
set_option maxRecDepth 100000 in
set_option maxHeartbeats 8000000 in
theorem rnamed_any (p : Prf) (pv : Value) (a b : ByteArray) (w : World) (h : ParS w.heap.size w pv p.pars) (hf : PrfFit p) :
    Calls Tryd.prog 10 #[.agg #[.string p.name, .int .i64 p.size, pv], .string a, .string b] w fun e w' => e = .returned (.tuple #[.int .i64 (namedV p a b).1, .int .i64 (namedV p a b).2]) ∧ Below w.heap.size w w' := by
  have CC := Lib.hid (fun W (hb : Below w.heap.size w W) => rckProfile_any p pv W ((h.below hb).more hb.size) hf)
  have CP := Lib.hid (fun W (hb : Below w.heap.size w W) => rparam_any w.heap.size p.name p.size pv p.pars a W hb.size (h.below hb))
  have HVB := Lib.hid (fun (h : ¬ chkPrf p = 0) => namedV_bad h a b)
  have HVO := Lib.hid (fun (h : chkPrf p = 0) => namedV_ok h a b)
  have HFT := Lib.hid (fun (h : chkPrf p = 0) (q : Par) (hq : parOf p.pars a.data.toList = some q) => rngO_fit (b := b.data.toList) h hq)
  obtain ⟨po, pcap, rfl⟩ := parS_shape h
  have hm := parS_cap h
  generalize namedV p a b = RES at *
  generalize chkPrf p = E at *
  obtain ⟨pn, pz, pl⟩ := p
  simp only at *
  generalize parOf pl a.data.toList = O at *
  clear h hf
  have HB0 := Lib.hid (Below.refl (w.heap.size + 1) (w.alloc (.cells #[.string pn, .int .i64 pz, .slice po pl.length pcap] 29)))
  have HK := Lib.hid (show ∀ W, Below (w.heap.size + 1) (w.alloc (.cells #[.string pn, .int .i64 pz, .slice po pl.length pcap] 29)) W → Below w.heap.size w W from fun W hW => ((Below.refl _ _).alloc (Nat.le_refl _) _).trans (hW.mono (by omega)))
  have HTP := Lib.hid (show ∀ W, Below (w.heap.size + 1) (w.alloc (.cells #[.string pn, .int .i64 pz, .slice po pl.length pcap] 29)) W → TBox W w.heap.size 29 #[.string pn, .int .i64 pz, .slice po pl.length pcap] from fun W hW => (hW.block w.heap.size (by omega)).trans (by exact TBox.new w _ _))
  have C1 := Lib.hid (CC.out _ (HK.out _ HB0.out))
  clear CC
  go_enter Tryd.func10, Tryd.ntmps10
  go_wp2_with fail
  refine C1.out.mono ?_
  rintro e w1 ⟨rfl, hb⟩
  have hs0 : ((w.alloc (.cells #[.string pn, .int .i64 pz, .slice po pl.length pcap] 29))).heap.size = w.heap.size + 1 := by simp
  rw [hs0] at hb
  have HB1 := Lib.hid (HB0.out.trans hb)
  have HTP1 := Lib.hid (HTP.out _ HB1.out)
  clear hb C1
  have p0 := HTP1.out.cell (i := 0) rfl
  have p1 := HTP1.out.cell (i := 1) rfl
  have p2 := HTP1.out.cell (i := 2) rfl
  have hp0 := HTP1.out.lt
  have hz1 := HB1.out.size
  rw [hs0] at hz1
  by_cases hE : E = 0
  rotate_left
  · have HV := Lib.hid (HVB.out hE)
    have HBB := Lib.hid (HK.out _ HB1.out)
    go_wp2_with fail
    exact bodyPost_ret (v := .tuple #[.int .i64 0, .int .i64 E]) (by simp [results, Tryd.results10, go_sem]) rfl ⟨by rw [HV.out], HBB.out⟩
  subst hE
  have HV := Lib.hid (HVO.out rfl)
  have HF2 := Lib.hid (HFT.out rfl)
  have C2 := Lib.hid (CP.out _ (HK.out _ HB1.out))
  clear HVO HVB CP HFT
  go_wp2_with fail
  refine C2.out.mono ?_
  rintro e w2 ⟨xv, rfl, hR, hb⟩
  have HB2 := Lib.hid (HB1.out.trans (hb.mono hz1))
  have hz2 := HB2.out.size
  rw [hs0] at hz2
  clear hb C2 p0 p1 p2 hp0 hz1
  obtain ⟨qn, qg, qs, qf, qd, qb, qo, ql, qc, rfl⟩ := parR_shape hR
  have HTQ := Lib.hid (TBox.new w2 #[.string qn, .int .i64 qg, .int .i64 qs, .int .i64 qf, .int .i64 qd, .bool qb, .slice qo ql qc] 46)
  have HA := Lib.hid (HB2.out.alloc hz2 (.cells #[.string qn, .int .i64 qg, .int .i64 qs, .int .i64 qf, .int .i64 qd, .bool qb, .slice qo ql qc] 46))
  have HR := Lib.hid hR
  clear hR

  have HRS := Lib.hid (show RngS w.heap.size w2 (.slice qo ql qc) ((O.map Par.rngs).getD []) from by
    have h := HR.out
    cases O with
    | none => injection h with h; simp only [Array.mk.injEq, List.cons.injEq, Value.slice.injEq, and_true, true_and] at h; obtain ⟨_, _, _, _, _, _, rfl, rfl, rfl⟩ := h; exact CellsS.nil _ _
    | some q => obtain ⟨rv, h1, h2⟩ := h; injection h1 with h1; simp only [Array.mk.injEq, List.cons.injEq, and_true] at h1; rw [h1.2.2.2.2.2.2]; exact h2)
  obtain ⟨rs, hrs⟩ : ∃ rs, (O.map Par.rngs).getD [] = rs := ⟨_, rfl⟩
  have HV2 := Lib.hid (show RES = midO (rs.find? (hasRn b.data.toList)) from by rw [HV.out, ← hrs]; cases O <;> rfl)
  have HFR := Lib.hid (show ∀ r ∈ rs, (0 ≤ r.low ∧ r.low ≤ 65535) ∧ (0 ≤ r.high ∧ r.high ≤ 65535) from by
    intro r hr
    rw [← hrs] at hr
    cases O with
    | none => exact absurd hr (by simp)
    | some q => exact HF2.out q rfl r hr)
  rw [hrs] at HRS
  clear hrs HR HF2 HV
  have HSP := Lib.hid (idxF_spec (hasRn b.data.toList) rs)
  have HFI := Lib.hid (show (idxF (hasRn b.data.toList) rs 0 = -1 → RES = (0, 8)) ∧ ∀ (k : Nat) (h : k < rs.length), idxF (hasRn b.data.toList) rs 0 = (k : Int) → RES = ((rs[k].low + rs[k].high) / 2, 0) from by
    rw [HV2.out]
    rcases HSP.out with ⟨h1, h2⟩ | ⟨j, hj, h1, h2⟩
    · exact ⟨fun _ => by rw [h2]; rfl, fun k hk h => by rw [h1] at h; omega⟩
    · refine ⟨fun h => by rw [h1] at h; omega, fun k hk h => ?_⟩
      rw [h1] at h
      have : k = j := by omega
      subst this
      rw [h2]
      rfl)
  have HC := Lib.hid (show idxF (hasRn b.data.toList) rs 0 = idxF (hasRn b.data.toList) (rs.drop 0) 0 by simp)
  generalize idxF (hasRn b.data.toList) rs 0 = IX at *
  have HRG := Lib.hid (RngS.get HRS.out)
  have hlm := CellsS.len HRS.out
  obtain ⟨ro2, rc2, hsh⟩ := rngS_shape HRS.out
  injection hsh with e1 e2 e3
  subst e1
  subst e2
  subst e3
  unfold maxLen at hlm
  clear HSP HV2 HRS
  have hq0 := (HTQ.out).cell (i := 6) rfl
  go_wp2_with fail
  go_loopw [27] (fun i wr => ∃ k : Nat, k ≤ rs.length ∧ i = .int .i64 k ∧ Hid (IX = idxF (hasRn b.data.toList) (rs.drop k) k) ∧ Hid (Below (w2.heap.size + 1) (w2.alloc (.cells #[.string qn, .int .i64 qg, .int .i64 qs, .int .i64 qf, .int .i64 qd, .bool qb, .slice qo rs.length qc] 46)) wr)) (fun i _ => rs.length - (intOf i).toNat)
  case atStart => exact ⟨0, Nat.zero_le _, rfl, HC, Lib.hid (Below.refl _ _)⟩
  case round =>
    obtain ⟨k, hk, rfl, HX, HBW⟩ := hrel
    have hzr := HBW.out.size
    simp only [World.size_alloc] at hzr
    have HBB := Lib.hid (HK.out _ (HA.out.trans (HBW.out.mono (by omega))))
    by_cases hlt : k < rs.length
    · have H2r := (((Below.refl w2.heap.size w2).alloc (Nat.le_refl _) (.cells #[.string qn, .int .i64 qg, .int .i64 qs, .int .i64 qf, .int .i64 qd, .bool qb, .slice qo rs.length qc] 46)).trans (HBW.out.mono (by omega)))
      obtain ⟨bb, off, cap', hsl, hbb, _, hc⟩ := HRG.out (by omega)
      injection hsl with hs1 hs2 hs3
      subst hs1 hs3
      obtain ⟨d0, d1, d2⟩ := hc k hlt wr (H2r.mono (by omega))
      have hbr : bb < wr.heap.size := by omega
      have HY := Lib.hid (idxF_yes (hasRn b.data.toList) rs k hlt)
      have HN := Lib.hid (idxF_no (hasRn b.data.toList) rs k hlt)
      have HT := Lib.hid (show hasRn b.data.toList rs[k] = decide (rs[k].name.data.toList = b.data.toList) from rfl)
      have HPS := Lib.hid (HFI.out.2 k hlt)
      obtain ⟨l1, l2⟩ := HFR.out _ (List.getElem_mem hlt)
      clear hc H2r
      generalize hasRn b.data.toList rs[k] = T at *
      generalize hrk : rs[k] = rk at *
      clear hrk
      obtain ⟨rl, rh, rn⟩ := rk
      simp only at *
      have ht := tdiv2 (a := rl + rh) (by omega)
      have hw1 : IntKind.i64.wrap (rl + rh) = rl + rh := IntWalk.i64_in _ (by omega)
      by_cases he : rn.data.toList = b.data.toList
      · have h2 : (rn.toList == b.toList) = true := by rw [Lib.toList_data, Lib.toList_data]; simpa using he
        have HV := Lib.hid (HPS.out (HX.out.trans (HY.out (by rw [HT.out]; simpa using he))))
        have HBF := Lib.hid (HBB.out.alloc (by have := HBB.out.size; omega) (.cells #[.int .i64 rl, .int .i64 rh, .string rn] 62))
        clear he
        go_wp2_with fail
        exact bodyPost_ret (v := .tuple #[.int .i64 ((rl + rh) / 2), .int .i64 0]) (by simp [results, Tryd.results10, go_sem]) rfl ⟨by rw [HV.out], HBF.out⟩
      · have h2 : (rn.toList == b.toList) = false := by rw [Lib.toList_data, Lib.toList_data]; simpa using he
        have HV := Lib.hid (HX.out.trans (HN.out (by rw [HT.out]; simpa using he)))
        clear he
        have HBW2 := Lib.hid (HBW.out.alloc hzr (.cells #[.int .i64 rl, .int .i64 rh, .string rn] 62))
        go_wp2_with fail
        go_roundw
        case rel => exact ⟨k + 1, by omega, by go_num, HV, HBW2⟩
        case measure => simp [intOf]; omega
    · have HV := Lib.hid (HFI.out.1 (by rw [HX.out, idxF_end _ rs k (by omega)]))
      have hkk : k = rs.length := by omega
      subst hkk
      go_wp2_with fail
      exact bodyPost_ret (v := .tuple #[.int .i64 0, .int .i64 8]) (by simp [results, Tryd.results10, go_sem]) rfl ⟨by rw [HV.out], HBB.out⟩
end Go.Proofs.YtabalicembhjmaaDoor
