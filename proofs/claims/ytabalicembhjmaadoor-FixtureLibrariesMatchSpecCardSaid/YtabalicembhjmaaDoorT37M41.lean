/- fixture.Named. (printed by wip/gen/gen_named.py) -/
import Derived.Test.YtabalicembhjmaaDoorT37M40
import Derived.Test.YtabalicembhjmaaDoorT37M37
import Derived.Deep.QuietTactic
import Derived.BigQuiet

namespace Go.Proofs.YtabalicembhjmaaDoor
open Go.RowKit
set_option linter.unusedVariables false
set_option linter.unusedSimpArgs false
theorem named_drewN {B : Nat} {w w1 : World} (h : Below B w w1) (n : Nat) : Below B w (w1.drewN n) := ⟨h.os, h.tape, h.output, h.size, h.block⟩
set_option maxRecDepth 100000 in
set_option maxHeartbeats 8000000 in
theorem named_any (p : Prf) (pv : Value) (a b : ByteArray) (w : World) (h : ParS w.heap.size w pv p.pars) (hf : PrfFit p) :
    Calls Tryd.prog 9 #[.agg #[.string p.name, .int .i64 p.size, pv], .string a, .string b] w fun e w' => e = .returned (.tuple #[.int .i64 (namedV p a b).1, .int .i64 (namedV p a b).2]) ∧ Below w.heap.size w w' := by
  have CC := Lib.hid (fun W (hb : Below w.heap.size w W) => ckProfile_any p pv W ((h.below hb).more hb.size) hf)
  have CP := Lib.hid (fun W (hb : Below w.heap.size w W) => parameter_any w.heap.size p.name p.size pv p.pars a W hb.size (h.below hb))
  have HVB := Lib.hid (fun (h : ¬ chkPrf p = 0) => namedV_bad h a b)
  have HVO := Lib.hid (fun (h : chkPrf p = 0) => namedV_ok h a b)
  have HFT := Lib.hid (fun (h : chkPrf p = 0) (q : Par) (hq : parOf p.pars a.data.toList = some q) => rngO_fit (b := b.data.toList) h hq)
  obtain ⟨po, pcap, rfl⟩ := parS_shape h
  have hm := parS_cap h
  generalize namedV p a b = RES at *
  generalize chkPrf p = E at *
  obtain ⟨pn, pz, pl⟩ := p
  simp only at *
  generalize parOf pl a.data.toList = O at *
  clear h hf
  have HB0 := Lib.hid (Below.refl (w.heap.size + 2) ((w.alloc (.cells #[.string pn, .int .i64 pz, .slice po pl.length pcap] 29)).alloc (.cells #[.string b] 9)))
  have HK := Lib.hid (show ∀ W, Below (w.heap.size + 2) ((w.alloc (.cells #[.string pn, .int .i64 pz, .slice po pl.length pcap] 29)).alloc (.cells #[.string b] 9)) W → Below w.heap.size w W from fun W hW => (((Below.refl _ _).alloc (Nat.le_refl _) _).alloc (by simp) _).trans (hW.mono (by omega)))
  have HTP := Lib.hid (show ∀ W, Below (w.heap.size + 2) ((w.alloc (.cells #[.string pn, .int .i64 pz, .slice po pl.length pcap] 29)).alloc (.cells #[.string b] 9)) W → TBox W w.heap.size 29 #[.string pn, .int .i64 pz, .slice po pl.length pcap] from fun W hW => (hW.block w.heap.size (by omega)).trans (by exact (TBox.new w _ _).below ((Below.refl _ _).alloc (Nat.le_refl _) _)))
  have HTS := Lib.hid (show ∀ W, Below (w.heap.size + 2) ((w.alloc (.cells #[.string pn, .int .i64 pz, .slice po pl.length pcap] 29)).alloc (.cells #[.string b] 9)) W → TBox W (w.heap.size + 1) 9 #[.string b] from fun W hW => (hW.block (w.heap.size + 1) (by omega)).trans (by have h1 := TBox.new (w.alloc (.cells #[.string pn, .int .i64 pz, .slice po pl.length pcap] 29)) #[.string b] 9; rw [World.size_alloc] at h1; exact h1))
  have C1 := Lib.hid (CC.out _ (HK.out _ HB0.out))
  clear CC
  go_enter Tryd.func9, Tryd.ntmps9
  go_wp2_with fail
  refine C1.out.mono ?_
  rintro e w1 ⟨rfl, hb⟩
  have hs0 : (((w.alloc (.cells #[.string pn, .int .i64 pz, .slice po pl.length pcap] 29)).alloc (.cells #[.string b] 9))).heap.size = w.heap.size + 2 := by simp
  rw [hs0] at hb
  have HB1 := Lib.hid (HB0.out.trans hb)
  have HTP1 := Lib.hid (HTP.out _ HB1.out)
  clear hb C1
  have p0 := HTP1.out.cell (i := 0) rfl
  have p1 := HTP1.out.cell (i := 1) rfl
  have p2 := HTP1.out.cell (i := 2) rfl
  have hp0 := HTP1.out.lt
  have hz1 := HB1.out.size
  rw [hs0] at hz1
  by_cases hE : E = 0
  rotate_left
  · have HV := Lib.hid (HVB.out hE)
    have HBB := Lib.hid (HK.out _ HB1.out)
    go_wp2_with fail
    exact bodyPost_ret (v := .tuple #[.int .i64 0, .int .i64 E]) (by simp [results, Tryd.results9, go_sem]) rfl ⟨by rw [HV.out], HBB.out⟩
  subst hE
  have HV := Lib.hid (HVO.out rfl)
  have HF2 := Lib.hid (HFT.out rfl)
  have C2 := Lib.hid (CP.out _ (HK.out _ HB1.out))
  clear HVO HVB CP HFT
  go_wp2_with fail
  refine C2.out.mono ?_
  rintro e w2 ⟨xv, rfl, hR, hb⟩
  have HB2 := Lib.hid (HB1.out.trans (hb.mono hz1))
  have hz2 := HB2.out.size
  rw [hs0] at hz2
  clear hb C2 p0 p1 p2 hp0 hz1
  obtain ⟨qn, qg, qs, qf, qd, qb, qo, ql, qc, rfl⟩ := parR_shape hR
  have HTQ := Lib.hid (TBox.new w2 #[.string qn, .int .i64 qg, .int .i64 qs, .int .i64 qf, .int .i64 qd, .bool qb, .slice qo ql qc] 46)
  have HA := Lib.hid (HB2.out.alloc hz2 (.cells #[.string qn, .int .i64 qg, .int .i64 qs, .int .i64 qf, .int .i64 qd, .bool qb, .slice qo ql qc] 46))
  have HR := Lib.hid hR
  clear hR

  have HRS := Lib.hid (show RngS w.heap.size w2 (.slice qo ql qc) ((O.map Par.rngs).getD []) from by
    have h := HR.out
    cases O with
    | none => injection h with h; simp only [Array.mk.injEq, List.cons.injEq, Value.slice.injEq, and_true, true_and] at h; obtain ⟨_, _, _, _, _, _, rfl, rfl, rfl⟩ := h; exact CellsS.nil _ _
    | some q => obtain ⟨rv, h1, h2⟩ := h; injection h1 with h1; simp only [Array.mk.injEq, List.cons.injEq, and_true] at h1; rw [h1.2.2.2.2.2.2]; exact h2)
  have HIX := Lib.hid (fun W (hW : Below (w.heap.size + 2) (((w.alloc (.cells #[.string pn, .int .i64 pz, .slice po pl.length pcap] 29)).alloc (.cells #[.string b] 9))) W) (hW2 : Below w2.heap.size w2 W) => rng_index (.slice qo ql qc) ((O.map Par.rngs).getD []) b (w.heap.size + 1) W ((HRS.out.below (hW2.mono (by omega))).more (by have := hW2.size; omega)) ((HTS.out _ hW).cell (i := 0) rfl) (HTS.out _ hW).lt)
  have C3 := Lib.hid (HIX.out _ HA.out ((Below.refl _ _).alloc (Nat.le_refl _) _))
  have HSP := Lib.hid (idxF_spec (hasRn b.data.toList) ((O.map Par.rngs).getD []))
  have HRG := Lib.hid (RngS.get HRS.out)
  have hq0 := (HTQ.out).cell (i := 6) rfl
  unfold rngFn at C3
  clear HIX
  generalize idxF (hasRn b.data.toList) ((O.map Par.rngs).getD []) 0 = IX at *
  go_wp2_with fail
  refine C3.out.mono ?_
  rintro e w3 ⟨rfl, hb⟩
  have hz3 := hb.size
  simp only [World.size_alloc] at hz3
  have HB3 := Lib.hid (HA.out.trans (hb.mono (by simp; omega)))
  have HTQ3 := Lib.hid (HTQ.out.below hb)
  have HBB := Lib.hid (HK.out _ HB3.out)
  have H23 := Lib.hid (((Below.refl w2.heap.size w2).alloc (Nat.le_refl _) (.cells #[.string qn, .int .i64 qg, .int .i64 qs, .int .i64 qf, .int .i64 qd, .bool qb, .slice qo ql qc] 46)).trans (hb.mono (by simp)))
  have q6 := HTQ3.out.cell (i := 6) rfl
  have hq := HTQ3.out.lt
  clear hb C3 hq0
  cases O with
  | none =>
    rcases HSP.out with ⟨rfl, h2⟩ | ⟨k, hk, _, _⟩
    · go_wp2_with fail
      exact bodyPost_ret (v := .tuple #[.int .i64 0, .int .i64 8]) (by simp [results, Tryd.results9, go_sem]) rfl ⟨by rw [HV.out] <;> rfl, HBB.out⟩
    · exact absurd hk (by simp)
  | some q =>
    rcases HSP.out with ⟨rfl, h2⟩ | ⟨k, hk, rfl, h2⟩
    · have HV2 := Lib.hid (show RES = (0, 8) by rw [HV.out, rngO_some, show q.rngs.find? (hasRn b.data.toList) = none from h2]; rfl)
      clear h2
      go_wp2_with fail
      exact bodyPost_ret (v := .tuple #[.int .i64 0, .int .i64 8]) (by simp [results, Tryd.results9, go_sem]) rfl ⟨by rw [HV2.out], HBB.out⟩
    · have hk2 : k < q.rngs.length := hk
      have HV2 := Lib.hid (show RES = ((q.rngs[k].low + q.rngs[k].high) / 2, 0) by rw [HV.out, rngO_some, show q.rngs.find? (hasRn b.data.toList) = some q.rngs[k] from h2]; rfl)
      obtain ⟨l1, l2⟩ := HF2.out q rfl q.rngs[k] (List.getElem_mem hk2)
      obtain ⟨bb, off, cap', hsl, hbb, hlm, hc⟩ := HRG.out (by show 0 < q.rngs.length; omega)
      injection hsl with hs1 hs2 hs3
      subst hs1 hs2 hs3
      obtain ⟨d0, d1, d2⟩ := hc k hk w3 (H23.out.mono (by omega))
      have hbr : bb < w3.heap.size := by omega
      have e0 : ((some q).map Par.rngs).getD [] = q.rngs := rfl
      simp only [e0] at *
      clear h2 hc HSP HRG HF2 e0
      generalize hrk : q.rngs[k] = rk at *
      clear hrk
      obtain ⟨rl, rh, rn⟩ := rk
      simp only at *
      have ht := tdiv2 (a := rl + rh) (by omega)
      have hw1 : IntKind.i64.wrap (rl + rh) = rl + rh := IntWalk.i64_in _ (by omega)
      have hlen : k < q.rngs.length := hk2
      unfold maxLen at hlm
      go_upto_region 8 with fail
      go_quiet (fail)
      go_wp2_with fail
      exact bodyPost_ret (v := .tuple #[.int .i64 ((rl + rh) / 2), .int .i64 0]) (by simp [results, Tryd.results9, go_sem]) rfl ⟨by rw [HV2.out], named_drewN HBB.out _⟩
end Go.Proofs.YtabalicembhjmaaDoor
