/- fixture.checkSettings. (printed by wip/gen/gen_ckstg.py) -/
import Derived.Test.YtabalicembhjmaaT32M19
import Derived.Test.YtabalicembhjmaaT32M20
import Derived.Test.YtabalicembhjmaaT32M09

namespace Go.Proofs.Ytabalicembhjmaa
open Go.RowKit
set_option linter.unusedVariables false
set_option linter.unusedSimpArgs false

set_option maxRecDepth 100000 in
set_option maxHeartbeats 16000000 in
theorem ckStgs_any (x : Rig) (lv uv : Value) (l : List Stg) (sv : Value) (w : World) (h : RigAt w.heap.size w x lv uv) (hx : chkRig x = 0) (hS : StgS w.heap.size w sv l) (hs : ∀ s ∈ l, StgFit s) :
    Calls Try.prog 36 #[rigV lv uv, sv] w fun e w' => ∃ mv, e = .returned (.tuple #[mv, .int .i64 (chkStgs x l)]) ∧ (chkStgs x l = 0 → ∃ (mb n : Nat) (f : Lit → Option Value), mv = .map (some mb) ∧ w.heap.size ≤ mb ∧ mb < w'.heap.size ∧ n ≤ l.length ∧ MapM w' Try.prog 33 mb n f ∧ ∀ k, KeyFit k → f (keyL k) = (l.reverse.find? (isK k)).map lvV) ∧ Below w.heap.size w w' := by
  have CF := Lib.hid (fun (n : Int) (nm : ByteArray) W (hb : Below w.heap.size w W) (hn : I64 n) => find_any x lv uv w.heap.size n nm W hb.size (h.below hb) hx hn)
  have HG := Lib.hid (StgS.get hS)
  have hml := CellsS.len hS
  unfold maxLen at hml
  have HSF := Lib.hid hs
  obtain ⟨uo, ucap, rfl, _⟩ := CellsS.shape h.units
  obtain ⟨lo, lcap, rfl⟩ := prfS_shape h.lib
  obtain ⟨so, scap, rfl, _⟩ := CellsS.shape hS
  unfold rigV at *
  have HC := Lib.hid (show chkStgs x l = scanF (stgF x) l 0 from rfl)
  clear h hS hs hx
  generalize chkStgs x l = RES at *
  have KC := Lib.hid (show ∀ W, Below (w.heap.size + 1) (w.alloc (.cells #[.slice lo x.lib.length lcap, .slice uo x.units.length ucap] 25)) W → (Below w.heap.size w W ∧ w.heap.size < W.heap.size ∧ W.cell? ⟨w.heap.size, 0, none⟩ = some (.slice lo x.lib.length lcap) ∧ W.cell? ⟨w.heap.size, 1, none⟩ = some (.slice uo x.units.length ucap)) from fun W hW => by
    have hz := hW.size
    simp at hz
    exact ⟨((Below.refl _ _).alloc (Nat.le_refl _) _).trans (hW.mono (by omega)), by omega, (hW.cell (p := ⟨w.heap.size, 0, none⟩) (by simp)).trans (by simp [go_sem]), (hW.cell (p := ⟨w.heap.size, 1, none⟩) (by simp)).trans (by simp [go_sem])⟩)
  have KM := Lib.hid (show ∀ W W1, Below (w.heap.size + 1) (w.alloc (.cells #[.slice lo x.lib.length lcap, .slice uo x.units.length ucap] 25)) W → Below W.heap.size W W1 → Below (w.heap.size + 1) (w.alloc (.cells #[.slice lo x.lib.length lcap, .slice uo x.units.length ucap] 25)) W1 from fun W W1 h1 h2 => h1.trans (h2.mono (by have := h1.size; simp at this; omega)))
  have KA := Lib.hid (show ∀ W o, Below (w.heap.size + 1) (w.alloc (.cells #[.slice lo x.lib.length lcap, .slice uo x.units.length ucap] 25)) W → Below (w.heap.size + 1) (w.alloc (.cells #[.slice lo x.lib.length lcap, .slice uo x.units.length ucap] 25)) (W.alloc o) from fun W o h => h.alloc (by have := h.size; simp at this; omega) o)
  have HBM := Lib.hid (KA.out _ (.map #[] 0) (Below.refl (w.heap.size + 1) (w.alloc (.cells #[.slice lo x.lib.length lcap, .slice uo x.units.length ucap] 25))))
  go_enter Try.func36, Try.ntmps36
  have hmm := @run_makeMap Try.prog
  go_wp2_with fail
  clear hmm
  go_loopw [16] (fun i wx => ∃ k : Nat, k ≤ l.length ∧ i = .int .i64 k ∧ Hid (RES = scanF (stgF x) l k) ∧ Hid (Below (w.heap.size + 1) (w.alloc (.cells #[.slice lo x.lib.length lcap, .slice uo x.units.length ucap] 25)) wx) ∧ (∃ f, Hid (MapM wx Try.prog 33 (w.heap.size + 1) k f) ∧ Hid (∀ k', KeyFit k' → f (keyL k') = ((l.take k).reverse.find? (isK k')).map lvV)) ∧ w.heap.size + 1 < wx.heap.size) (fun i _ => l.length - (intOf i).toNat)
  case atStart => exact ⟨0, Nat.zero_le _, rfl, HC, HBM, ⟨_, Lib.hid (by simpa using mapM_made (w.alloc (.cells #[.slice lo x.lib.length lcap, .slice uo x.units.length ucap] 25)) Try.prog 33), Lib.hid (fun k' _ => by simp)⟩, by simp⟩
  case round =>
    clear HC HBM
    obtain ⟨k, hk, rfl, HRF, HBW, ⟨f, HM, HMF⟩, hlw⟩ := hrel
    obtain ⟨hB, hz, p0, p1⟩ := KC.out wr HBW.out
    by_cases hlt : k < l.length
    · obtain ⟨b, off, cap', hsl, hb, _, hc⟩ := HG.out (by omega)
      injection hsl with hs1 hs2 hs3
      subst hs1 hs3
      obtain ⟨d0, d1, d2⟩ := hc k hlt wr hB
      have hbr : b < wr.heap.size := by have := hB.size; omega
      have hfit := HSF.out _ (List.getElem_mem hlt)
      have HSG := Lib.hid (scanF_good (stgF x) l k hlt)
      have HSB := Lib.hid (scanF_bad (stgF x) l k hlt)
      have HFD := Lib.hid (show stgF x (l.take k) l[k] = if (findO x l[k].unit l[k].par.data.toList).isNone then 8 else if !inR l[k].lv 0 65535 then 1 else if (l.take k).any (isK l[k].k) then 6 else 0 from rfl)
      have HNF := Lib.hid (put_key hlt HSF.out HMF.out)
      have HLK := Lib.hid (HMF.out _ (keyS_fit hfit))
      have HRI := Lib.hid (rev_some_iff (l.take k) l[k].k)
      have HKEY := Lib.hid (keyOf_key (keyS_fit hfit))
      have HUI := Lib.hid hfit.1
      generalize stgF x (l.take k) l[k] = FF at *
      clear hc hfit HMF
      have hkv : l[k].k = (l[k].unit, l[k].par) := rfl
      have hlv : lvV l[k] = .int .i64 l[k].lv := rfl
      rw [hkv] at HFD HLK HRI HKEY
      rw [hkv, hlv] at HNF
      clear hkv hlv
      generalize (l.take k).reverse.find? (isK (l[k].unit, l[k].par)) = FO at *
      generalize (l.take k).any (isK (l[k].unit, l[k].par)) = SN at *
      generalize hrk : l[k] = rk at *
      clear hrk
      obtain ⟨su, sp, sl⟩ := rk
      simp only at *
      unfold keyV at HKEY
      simp only at HKEY
      have HBX := Lib.hid (KA.out _ (.cells #[.int .i64 su, .string sp, .int .i64 sl] 35) HBW.out)
      have HMX := Lib.hid (HM.out.below (((Below.refl wr.heap.size wr).alloc (Nat.le_refl _) (.cells #[.int .i64 su, .string sp, .int .i64 sl] 35))) hlw)
      have CX := Lib.hid (CF.out su sp _ (KC.out _ HBX.out).1 HUI.out)
      clear hB HM
      generalize findO x su sp.data.toList = PO at *
      go_wp2_with fail
      refine CX.out.mono ?_
      rintro e w5 ⟨xv, rfl, hxr, hb5⟩
      obtain ⟨qn, qg, qs, qf, qd, qb, qo, ql, qc, rfl⟩ := parR_shape hxr
      have hz5 := hb5.size
      simp only [World.size_alloc] at hz5
      have hwr5 : wr.heap.size < w5.heap.size := by omega
      have HB5 := Lib.hid (KM.out _ _ HBX.out hb5)
      have HM5 := Lib.hid (HMX.out.below hb5 (by simp; omega))
      have f0 : w5.cell? ⟨wr.heap.size, 0, none⟩ = some (.int .i64 su) := (hb5.cell (p := ⟨wr.heap.size, 0, none⟩) (by simp)).trans (by simp [go_sem])
      have f1 : w5.cell? ⟨wr.heap.size, 1, none⟩ = some (.string sp) := (hb5.cell (p := ⟨wr.heap.size, 1, none⟩) (by simp)).trans (by simp [go_sem])
      have f2 : w5.cell? ⟨wr.heap.size, 2, none⟩ = some (.int .i64 sl) := (hb5.cell (p := ⟨wr.heap.size, 2, none⟩) (by simp)).trans (by simp [go_sem])
      have hnI : PO.isNone = !PO.isSome := by cases PO <;> rfl
      rw [hnI] at HFD
      generalize PO.isSome = IS at *
      clear hb5 hxr CX HBX HMX HBW hnI p0 p1 d0 d1 d2 hz
      have HB6 := Lib.hid (KA.out _ (.cells #[.string qn, .int .i64 qg, .int .i64 qs, .int .i64 qf, .int .i64 qd, .bool qb, .slice qo ql qc] 42) HB5.out)
      have HM6 := Lib.hid (HM5.out.below (((Below.refl w5.heap.size w5).alloc (Nat.le_refl _) (.cells #[.string qn, .int .i64 qg, .int .i64 qs, .int .i64 qf, .int .i64 qd, .bool qb, .slice qo ql qc] 42))) (by omega))
      clear HB5 HM5
      cases IS
      · skip
        have HE : FF = 8 := by rw [HFD.out]; rfl
        have HV := Lib.hid (show RES = 8 by rw [HRF.out, HSB.out (by rw [HE]; decide), HE])
        clear HE
        go_wp2_with fail
        exact bodyPost_ret (v := .tuple #[.map none, .int .i64 8]) (by simp [results, Try.results36, go_sem]) rfl ⟨.map none, by rw [HV.out] <;> rfl, (fun h => by rw [HV.out] at h; cases h), (KC.out _ HB6.out).1⟩
      rcases Bool.eq_false_or_eq_true (inR sl 0 65535) with k0 | k0
      rotate_left
      · skip
        have HE : FF = 1 := by rw [HFD.out]; simp [k0]
        have HV := Lib.hid (show RES = 1 by rw [HRF.out, HSB.out (by rw [HE]; decide), HE])
        clear HE
        go_wp2_with (first | (go_at_call 71; ((with_reducible refine (fLevel_R _ _).mono ?_); rintro e w' ⟨rfl, rfl⟩)) | fail)
        exact bodyPost_ret (v := .tuple #[.map none, .int .i64 1]) (by simp [results, Try.results36, go_sem]) rfl ⟨.map none, by rw [HV.out] <;> rfl, (fun h => by rw [HV.out] at h; cases h), (KC.out _ HB6.out).1⟩
      have HFX := Lib.hid (show FF = if SN then 6 else 0 by rw [HFD.out]; simp [k0])
      clear HFD
      have HFD := HFX
      clear HFX
      have hq := HM6.out.look true keyed_ (t := 74) Try.underlying74 (zeroI_ _) HKEY.out
      rw [HLK.out] at hq
      cases SN
      rotate_left
      · have hso := HRI.out
        obtain ⟨s0, hs0⟩ := Option.isSome_iff_exists.1 hso
        rw [hs0] at hq
        simp only [Option.map_some, Option.getD_some, Option.isSome_some, if_true, lvV] at hq
        clear hso hs0 HRI HLK
        have HE : FF = 6 := by rw [HFD.out]; rfl
        have HV := Lib.hid (show RES = 6 by rw [HRF.out, HSB.out (by rw [HE]; decide), HE])
        clear HE
        go_wp2_with (first | (go_at_call 71; ((with_reducible refine (fLevel_R _ _).mono ?_); rintro e w' ⟨rfl, rfl⟩)) | fail)
        exact bodyPost_ret (v := .tuple #[.map none, .int .i64 6]) (by simp [results, Try.results36, go_sem]) rfl ⟨.map none, by rw [HV.out] <;> rfl, (fun h => by rw [HV.out] at h; cases h), (KC.out _ HB6.out).1⟩
      · have hso : FO = none := by
          cases FO with
          | none => rfl
          | some s => have := HRI.out; cases this
        rw [hso] at hq
        simp only [Option.map_none, Option.getD_none, Option.isSome_none, if_true] at hq
        have HE : FF = 0 := by rw [HFD.out]; rfl
        have HV := Lib.hid (show RES = scanF (stgF x) l (k + 1) by rw [HRF.out, HSG.out HE])
        obtain ⟨wz, rz, sz, gz⟩ := HM6.out.update keyed_ (t := 74) Try.underlying74 (by unfold maxLen; omega) HKEY.out (val := .int .i64 sl)
        have HBZ := Lib.hid (HB6.out.grown gz (by simp; omega) (fun j hj => by cases hj; omega))
        have HSZ := Lib.hid sz
        have hzz := gz.size
        simp only [World.size_alloc] at hzz
        clear HE HM6 gz sz hso HRI HLK HB6
        go_wp2_with (first | (go_at_call 71; ((with_reducible refine (fLevel_R _ _).mono ?_); rintro e w' ⟨rfl, rfl⟩)) | fail)
        go_roundw
        case rel => exact ⟨k + 1, by omega, by first | rfl | go_num, HV, HBZ, ⟨_, HSZ, HNF⟩, by omega⟩
        case measure => simp [intOf]; omega
    · have HV := Lib.hid (show RES = 0 by rw [HRF.out, scanF_end (stgF x) l k (by omega)])
      have HBO := Lib.hid hB
      have hkk : k = l.length := by omega
      clear hB
      subst hkk
      have HMN := Lib.hid (show ∀ k', KeyFit k' → f (keyL k') = (l.reverse.find? (isK k')).map lvV from fun k' h => by have := HMF.out k' h; rwa [List.take_length] at this)
      go_wp2_with fail
      exact bodyPost_ret (v := .tuple #[.map (some (w.heap.size + 1)), .int .i64 0]) (by simp [results, Try.results36, go_sem]) rfl ⟨.map (some (w.heap.size + 1)), by rw [HV.out] <;> rfl, (fun _ => ⟨_, _, f, rfl, by omega, hlw, Nat.le_refl _, HM.out, HMN.out⟩), HBO.out⟩
end Go.Proofs.Ytabalicembhjmaa
