/- The walk of cycloramalaw2.FixtureLibrariesMatchSpec. (printed by wip/gen/gen_libswalk.py) -/
import Derived.Test.YtabalicembhjmaaDoorT37M33
import Derived.Test.YtabalicembhjmaaDoorT37M39
import Derived.Test.YtabalicembhjmaaDoorT37M41
import Derived.Test.YtabalicembhjmaaDoorT37M43
import Derived.Test.YtabalicembhjmaaDoorT37M14
import Derived.Deep.DeepCutAuto

namespace Go.Proofs.YtabalicembhjmaaDoor.fixtureLibrariesMatchSpec
open Go.RowKit
set_option linter.unusedVariables false
set_option linter.unusedSimpArgs false

set_option maxRecDepth 100000 in
set_option maxHeartbeats 16000000 in
theorem walk (a0 : Value) (a1 a2 : ByteArray) (w : World) (w0 : LibV w a0) (w1 : a1.size ≤ maxLen) (w2 : a2.size ≤ maxLen) (hT : TextW w) :
    Calls Tryd.prog 3 #[a0, .string a1, .string a2] w fun e w' => e = .returned (.bool true) ∧ Below w.heap.size w w' := by
  obtain ⟨l, hl, hf⟩ := w0
  have K1 := Lib.hid (fun W (hb : Below w.heap.size w W) => libText_any a0 l W (hT.below hb) ((hl.below hb).more hb.size) hf)
  have K2 := Lib.hid (fun W (hb : Below w.heap.size w W) => rlibText_any a0 l W (hT.below hb) ((hl.below hb).more hb.size) hf)
  have K3 := Lib.hid (fun W (hb : Below w.heap.size w W) => ckLibrary_any a0 l W ((hl.below hb).more hb.size) hf)
  have K4 := Lib.hid (fun W (hb : Below w.heap.size w W) => rckLibrary_any a0 l W ((hl.below hb).more hb.size) hf)
  have HG := Lib.hid (PrfS.get hl)
  have HF := Lib.hid hf
  obtain ⟨lo, lcap, rfl⟩ := prfS_shape hl
  have hcp := prfS_cap hl
  clear hl hf hT w1 w2
  generalize libT l = R at *
  generalize chkLib l = CK at *
  obtain ⟨T, FR⟩ := R
  simp only at *
  have C1 := Lib.hid (K1.out _ (Below.refl _ _))
  clear K1
  go_enter Tryd.func3, Tryd.ntmps3
  go_wp2_with fail
  refine C1.out.mono ?_
  rintro e wA ⟨rfl, hb⟩
  have HB1 := Lib.hid hb
  have C2 := Lib.hid (K2.out _ hb)
  clear hb C1 K2
  go_wp2_with fail
  refine C2.out.mono ?_
  rintro e wB ⟨rfl, hb⟩
  have HB2 := Lib.hid (HB1.out.trans (hb.mono HB1.out.size))
  have C3 := Lib.hid (K3.out _ HB2.out)
  clear hb C2 K3 HB1
  go_wp2_with fail
  refine C3.out.mono ?_
  rintro e wC ⟨rfl, hb⟩
  have HB3 := Lib.hid (HB2.out.trans (hb.mono HB2.out.size))
  have C4 := Lib.hid (K4.out _ HB3.out)
  clear hb C3 K4 HB2
  go_wp2_with fail
  refine C4.out.mono ?_
  rintro e wD ⟨rfl, hb⟩
  have HB4 := Lib.hid (HB3.out.trans (hb.mono HB3.out.size))
  clear hb C4 HB3
  go_wp2_with fail
  go_loopw [44] (fun i wx => ∃ k : Nat, k ≤ l.length ∧ i = .int .i64 k ∧ Hid (Below w.heap.size w wx)) (fun i _ => l.length - (intOf i).toNat)
  case atStart => exact ⟨0, Nat.zero_le _, rfl, HB4⟩
  case round =>
    obtain ⟨k, hk, rfl, HBR⟩ := hrel
    have hzr := HBR.out.size
    by_cases hlt : k < l.length
    · skip
      obtain ⟨b, off, cap', hsl, hbb, _, hc⟩ := HG.out (by omega)
      injection hsl with hs1 hs2 hs3
      subst hs1
      subst hs3
      obtain ⟨pv, hpv, hcc⟩ := hc k hlt
      obtain ⟨d0, d1, d2⟩ := hcc wr HBR.out
      have hbr : b < wr.heap.size := by omega
      have hff := HF.out _ (List.getElem_mem hlt)
      have N1 := Lib.hid (fun W (hW : Below w.heap.size w W) => named_any l[k] pv a1 a2 W ((hpv.below hW).more hW.size) hff)
      have N2 := Lib.hid (fun W (hW : Below w.heap.size w W) => rnamed_any l[k] pv a1 a2 W ((hpv.below hW).more hW.size) hff)
      have N3 := Lib.hid (fun W (hW : Below w.heap.size w W) => ckProfile_any l[k] pv W ((hpv.below hW).more hW.size) hff)
      have N4 := Lib.hid (fun W (hW : Below w.heap.size w W) => rckProfile_any l[k] pv W ((hpv.below hW).more hW.size) hff)
      obtain ⟨po, pcap, rfl⟩ := parS_shape hpv
      have hpc := parS_cap hpv
      clear hc hcc hpv hff
      generalize namedV l[k] a1 a2 = V at *
      generalize chkPrf l[k] = CP at *
      generalize hrk : l[k] = rk at *
      clear hrk
      obtain ⟨pn, pz, pl⟩ := rk
      obtain ⟨V1, V2⟩ := V
      simp only at *
      have hA := (Below.refl wr.heap.size wr).alloc (Nat.le_refl _) (.cells #[.string pn, .int .i64 pz, .slice po pl.length pcap] 29)
      have HTU := Lib.hid (TBox.new wr #[.string pn, .int .i64 pz, .slice po pl.length pcap] 29)
      have HWA := Lib.hid (HBR.out.trans (hA.mono hzr))
      clear hA
      go_upto_region 8 with fail
      obtain ⟨w3, hw3⟩ : ∃ w3 : World, w3 = wr.alloc (.cells #[.string pn, .int .i64 pz, .slice po pl.length pcap] 29) := ⟨_, rfl⟩
      rw [← hw3] at HTU HWA ⊢
      clear hw3
      have x0 := HTU.out.cell (i := 0) rfl
      have x1 := HTU.out.cell (i := 1) rfl
      have x2 := HTU.out.cell (i := 2) rfl
      have hx := HTU.out.lt
      have C1 := Lib.hid (N1.out _ HWA.out)
      go_wp2_with fail
      refine C1.out.mono ?_
      rintro e w4 ⟨rfl, hb⟩
      have HW4 := Lib.hid (HWA.out.trans (hb.mono HWA.out.size))
      have HT4 := Lib.hid (HTU.out.below hb)
      clear hb C1 HWA HTU x0 x1 x2 hx N1
      have x0 := HT4.out.cell (i := 0) rfl
      have x1 := HT4.out.cell (i := 1) rfl
      have x2 := HT4.out.cell (i := 2) rfl
      have hx := HT4.out.lt
      have C2 := Lib.hid (N2.out _ HW4.out)
      go_wp2_with fail
      refine C2.out.mono ?_
      rintro e w5 ⟨rfl, hb⟩
      have HW5 := Lib.hid (HW4.out.trans (hb.mono HW4.out.size))
      have HT5 := Lib.hid (HT4.out.below hb)
      clear hb C2 HW4 HT4 x0 x1 x2 hx N2
      have hx := HT5.out.lt
      go_upto_region 10 with fail
      go_cut [76] (fun s wx => s = .bool false ∧ Below w5.heap.size w5 wx)
      case first =>
        have KP := Lib.hid (show ∀ W, Below w5.heap.size w5 W → (W.cell? ⟨wr.heap.size, 0, none⟩ = some (.string pn) ∧ W.cell? ⟨wr.heap.size, 1, none⟩ = some (.int .i64 pz) ∧ W.cell? ⟨wr.heap.size, 2, none⟩ = some (.slice po pl.length pcap)) from fun W hW => ⟨(HT5.out.below hW).cell rfl, (HT5.out.below hW).cell rfl, (HT5.out.below hW).cell rfl⟩)
        have KM := Lib.hid (show ∀ W W1, Below w5.heap.size w5 W → Below W.heap.size W W1 → Below w5.heap.size w5 W1 from fun W W1 h1 h2 => h1.trans (h2.mono h1.size))
        have KB := Lib.hid (show ∀ W, Below w5.heap.size w5 W → Below w.heap.size w W from fun W hW => HW5.out.trans (hW.mono HW5.out.size))
        have hw0 := Below.refl w5.heap.size w5
        have hw1 := (Below.refl w5.heap.size w5).drew
        go_region_held3 (fun W => W.cell? ⟨wr.heap.size, 0, none⟩ = some (.string pn) ∧ W.cell? ⟨wr.heap.size, 1, none⟩ = some (.int .i64 pz) ∧ W.cell? ⟨wr.heap.size, 2, none⟩ = some (.slice po pl.length pcap))
          (with_reducible first | assumption | exact KP.out _ (by assumption) | exact KP.out _ (Below.drew (by assumption)))
          (first
            | (go_at_call 11; (with_reducible refine (N3.out _ (KB.out _ (by with_reducible first | assumption | exact Below.drew (by assumption)))).mono ?_); rintro e W1 ⟨rfl, hb1⟩; have hA1 := KM.out _ _ (by with_reducible first | assumption | exact Below.drew (by assumption)) hb1; clear hb1)
            | (go_at_call 12; (with_reducible refine (N4.out _ (KB.out _ (by with_reducible first | assumption | exact Below.drew (by assumption)))).mono ?_); rintro e W2 ⟨rfl, hb2⟩; have hA2 := KM.out _ _ (by with_reducible first | assumption | exact Below.drew (by assumption)) hb2; clear hb2)
            | fail)
        all_goals go_wp2_with fail
        all_goals go_meet
        all_goals exact ⟨by first | rfl | simp, by first | exact hA2 | exact hA2.drew | exact hA1⟩
      case rest =>
        obtain ⟨rfl, hbc⟩ := hcut
        have HBN := Lib.hid (HW5.out.trans (hbc.mono HW5.out.size))
        clear hbc
        go_wp2_with fail
        go_roundw
        case rel => first | exact ⟨k + 1, by omega, by first | rfl | go_num, HBN⟩ | ((repeat apply Exists.intro); refine ⟨⟨k + 1, by omega, by first | rfl | go_num, HBN⟩, ?_⟩; rfl)
        case measure => simp [intOf]; omega
    · have hkk : k = l.length := by omega
      subst hkk
      go_wp2_with fail
      go_ret
      exact ⟨by first | rfl | simp, HBR.out⟩
end Go.Proofs.YtabalicembhjmaaDoor.fixtureLibrariesMatchSpec
