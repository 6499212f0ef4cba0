/- The reference's param. (printed by wip/gen/gen_param.py) -/
import Derived.Test.YtabalicembhjmaaDoorT37M28

namespace Go.Proofs.YtabalicembhjmaaDoor
open Go.RowKit
set_option linter.unusedVariables false
set_option linter.unusedSimpArgs false

set_option maxRecDepth 100000 in
set_option maxHeartbeats 8000000 in
theorem rparam_any (B : Nat) (pn : ByteArray) (pz : Int) (pv : Value) (l : List Par) (nm : ByteArray) (w : World) (hBw : B ≤ w.heap.size) (h : ParS B w pv l) :
    Calls Tryd.prog 33 #[.agg #[.string pn, .int .i64 pz, pv], .string nm] w fun e w' => ∃ xv, e = .returned (.tuple #[xv, .bool (parOf l nm.data.toList).isSome]) ∧ ParR B w' (parOf l nm.data.toList) xv ∧ Below w.heap.size w w' := by
  have HG := Lib.hid (ParS.get h)
  have HS := Lib.hid (idxF_spec (hasPn nm.data.toList) l)
  have HSP := Lib.hid (show (idxF (hasPn nm.data.toList) l 0 = -1 → parOf l nm.data.toList = none) ∧ ∀ (k : Nat) (h : k < l.length), idxF (hasPn nm.data.toList) l 0 = (k : Int) → parOf l nm.data.toList = some l[k] from by
    rcases HS.out with ⟨h1, h2⟩ | ⟨k, hk, h1, h2⟩
    · exact ⟨fun _ => h2, fun k hk h => by rw [h1] at h; omega⟩
    · refine ⟨fun h => by rw [h1] at h; omega, fun j hj h => ?_⟩
      rw [h1] at h
      have : j = k := by omega
      subst this
      exact h2)
  have HC := Lib.hid (show idxF (hasPn nm.data.toList) l 0 = idxF (hasPn nm.data.toList) (l.drop 0) 0 by simp)
  obtain ⟨po, pcap, rfl⟩ := parS_shape h
  have hm := parS_cap h
  generalize idxF (hasPn nm.data.toList) l 0 = IX at *
  generalize hPO : parOf l nm.data.toList = PO at *
  clear hPO HS h
  go_enter Tryd.func33, Tryd.ntmps33
  go_wp2_with fail
  go_loopw [11] (fun i wr => ∃ k : Nat, k ≤ l.length ∧ i = .int .i64 k ∧ Hid (IX = idxF (hasPn nm.data.toList) (l.drop k) k) ∧ Hid (Below (w.heap.size + 1 + 1) ((w.alloc (.cells #[.string pn, .int .i64 pz, .slice po l.length pcap] 29)).alloc (.cells #[.string ⟨#[]⟩, .int .i64 0, .int .i64 0, .int .i64 0, .int .i64 0, .bool false, .slice none 0 0] 46)) wr)) (fun i _ => l.length - (intOf i).toNat)
  case atStart => exact ⟨0, Nat.zero_le _, rfl, HC, Lib.hid (Below.refl _ _)⟩
  case round =>
    obtain ⟨k, hk, rfl, HR, HBW⟩ := hrel
    have hzr := HBW.out.size
    simp only [World.size_alloc] at hzr
    have hBB : Below w.heap.size w wr := (((Below.refl _ _).alloc (Nat.le_refl _) _).alloc (by simp) _).trans (HBW.out.mono (by omega))
    have z0 : wr.cell? ⟨w.heap.size + 1, 0, none⟩ = some (.string ⟨#[]⟩) := (HBW.out.cell (p := ⟨w.heap.size + 1, 0, none⟩) (by simp)).trans (by simp [go_sem])
    have z1 : wr.cell? ⟨w.heap.size + 1, 1, none⟩ = some (.int .i64 0) := (HBW.out.cell (p := ⟨w.heap.size + 1, 1, none⟩) (by simp)).trans (by simp [go_sem])
    have z2 : wr.cell? ⟨w.heap.size + 1, 2, none⟩ = some (.int .i64 0) := (HBW.out.cell (p := ⟨w.heap.size + 1, 2, none⟩) (by simp)).trans (by simp [go_sem])
    have z3 : wr.cell? ⟨w.heap.size + 1, 3, none⟩ = some (.int .i64 0) := (HBW.out.cell (p := ⟨w.heap.size + 1, 3, none⟩) (by simp)).trans (by simp [go_sem])
    have z4 : wr.cell? ⟨w.heap.size + 1, 4, none⟩ = some (.int .i64 0) := (HBW.out.cell (p := ⟨w.heap.size + 1, 4, none⟩) (by simp)).trans (by simp [go_sem])
    have z5 : wr.cell? ⟨w.heap.size + 1, 5, none⟩ = some (.bool false) := (HBW.out.cell (p := ⟨w.heap.size + 1, 5, none⟩) (by simp)).trans (by simp [go_sem])
    have z6 : wr.cell? ⟨w.heap.size + 1, 6, none⟩ = some (.slice none 0 0) := (HBW.out.cell (p := ⟨w.heap.size + 1, 6, none⟩) (by simp)).trans (by simp [go_sem])
    have y0 : wr.frozen? ⟨w.heap.size + 1, 0, none⟩ = false := (HBW.out.frozen (p := ⟨w.heap.size + 1, 0, none⟩) (by simp)).trans (by simp [go_sem])
    have y1 : wr.frozen? ⟨w.heap.size + 1, 1, none⟩ = false := (HBW.out.frozen (p := ⟨w.heap.size + 1, 1, none⟩) (by simp)).trans (by simp [go_sem])
    have y2 : wr.frozen? ⟨w.heap.size + 1, 2, none⟩ = false := (HBW.out.frozen (p := ⟨w.heap.size + 1, 2, none⟩) (by simp)).trans (by simp [go_sem])
    have y3 : wr.frozen? ⟨w.heap.size + 1, 3, none⟩ = false := (HBW.out.frozen (p := ⟨w.heap.size + 1, 3, none⟩) (by simp)).trans (by simp [go_sem])
    have y4 : wr.frozen? ⟨w.heap.size + 1, 4, none⟩ = false := (HBW.out.frozen (p := ⟨w.heap.size + 1, 4, none⟩) (by simp)).trans (by simp [go_sem])
    have y5 : wr.frozen? ⟨w.heap.size + 1, 5, none⟩ = false := (HBW.out.frozen (p := ⟨w.heap.size + 1, 5, none⟩) (by simp)).trans (by simp [go_sem])
    have y6 : wr.frozen? ⟨w.heap.size + 1, 6, none⟩ = false := (HBW.out.frozen (p := ⟨w.heap.size + 1, 6, none⟩) (by simp)).trans (by simp [go_sem])
    have hwr : w.heap.size + 1 < wr.heap.size := by omega
    have KSB := Lib.hid (show ∀ W, Below w.heap.size w W → ∀ u0 u1 u2 u3 u4 u5 u6, Below w.heap.size w (((((((W.setCell ⟨w.heap.size + 1, 0, none⟩ u0).setCell ⟨w.heap.size + 1, 1, none⟩ u1).setCell ⟨w.heap.size + 1, 2, none⟩ u2).setCell ⟨w.heap.size + 1, 3, none⟩ u3).setCell ⟨w.heap.size + 1, 4, none⟩ u4).setCell ⟨w.heap.size + 1, 5, none⟩ u5).setCell ⟨w.heap.size + 1, 6, none⟩ u6) from fun W hW u0 u1 u2 u3 u4 u5 u6 => (((((((hW.setCell (p := ⟨w.heap.size + 1, 0, none⟩) (by simp; try omega) u0).setCell (p := ⟨w.heap.size + 1, 1, none⟩) (by simp; try omega) u1).setCell (p := ⟨w.heap.size + 1, 2, none⟩) (by simp; try omega) u2).setCell (p := ⟨w.heap.size + 1, 3, none⟩) (by simp; try omega) u3).setCell (p := ⟨w.heap.size + 1, 4, none⟩) (by simp; try omega) u4).setCell (p := ⟨w.heap.size + 1, 5, none⟩) (by simp; try omega) u5).setCell (p := ⟨w.heap.size + 1, 6, none⟩) (by simp; try omega) u6))
    by_cases hlt : k < l.length
    · obtain ⟨b, off, cap', hsl, hbb, _, hc⟩ := HG.out (by omega)
      injection hsl with hs1 hs2 hs3
      subst hs1 hs3
      obtain ⟨rv, hrv, hcc⟩ := hc k hlt
      obtain ⟨d0, d1, d2, d3, d4, d5, d6⟩ := hcc wr (hBB.mono hBw)
      have HPV := Lib.hid hrv
      have hbr : b < wr.heap.size := by omega
      have HY := Lib.hid (idxF_yes (hasPn nm.data.toList) l k hlt)
      have HN := Lib.hid (idxF_no (hasPn nm.data.toList) l k hlt)
      have HT := Lib.hid (show hasPn nm.data.toList l[k] = decide (l[k].name.data.toList = nm.data.toList) from rfl)
      have HPS := Lib.hid (HSP.out.2 k hlt)
      obtain ⟨ro, rcap, rfl⟩ := rngS_shape hrv
      have HBB := Lib.hid hBB
      clear hc hcc hrv HSP hBB
      generalize hasPn nm.data.toList l[k] = T at *
      generalize hrk : l[k] = rk at *
      clear hrk
      obtain ⟨xn, xg, xs, xf, xd, xb, xl⟩ := rk
      simp only at *
      by_cases he : xn.data.toList = nm.data.toList
      · have h2 : (xn.toList == nm.toList) = true := by rw [Lib.toList_data, Lib.toList_data]; simpa using he
        have HV := Lib.hid (HPS.out (HR.out.trans (HY.out (by rw [HT.out]; simpa using he))))
        clear he
        go_wp2_with fail
        exact bodyPost_ret (v := .tuple #[.agg #[.string xn, .int .i64 xg, .int .i64 xs, .int .i64 xf, .int .i64 xd, .bool xb, .slice ro xl.length rcap], .bool true]) (by simp [results, Tryd.results33, go_sem, z0, z1, z2, z3, z4, z5, z6, hwr]) rfl ⟨_, by rw [HV.out] <;> rfl, by rw [HV.out]; exact ⟨_, rfl, HPV.out.below (((KSB.out _ HBB.out _ _ _ _ _ _ _).alloc (by simp; omega) _).mono hBw)⟩, (KSB.out _ HBB.out _ _ _ _ _ _ _).alloc (by simp; omega) _⟩
      · have h2 : (xn.toList == nm.toList) = false := by rw [Lib.toList_data, Lib.toList_data]; simpa using he
        have HV := Lib.hid (HR.out.trans (HN.out (by rw [HT.out]; simpa using he)))
        clear he
        have HBW2 := Lib.hid (HBW.out.alloc (by omega) (.cells #[.string xn, .int .i64 xg, .int .i64 xs, .int .i64 xf, .int .i64 xd, .bool xb, .slice ro xl.length rcap] 46))
        go_wp2_with fail
        go_roundw
        case rel => exact ⟨k + 1, by omega, by go_num, HV, HBW2⟩
        case measure => simp [intOf]; omega
    · have HV := Lib.hid (HSP.out.1 (by rw [HR.out, idxF_end _ l k (by omega)]))
      have HBB := Lib.hid hBB
      clear hBB
      have hkk : k = l.length := by omega
      subst hkk
      go_wp2_with fail
      exact bodyPost_ret (v := .tuple #[.agg #[.string ⟨#[]⟩, .int .i64 0, .int .i64 0, .int .i64 0, .int .i64 0, .bool false, .slice none 0 0], .bool false]) (by simp [results, Tryd.results33, go_sem, z0, z1, z2, z3, z4, z5, z6]) rfl ⟨_, by rw [HV.out] <;> rfl, by rw [HV.out]; rfl, KSB.out _ HBB.out _ _ _ _ _ _ _⟩
end Go.Proofs.YtabalicembhjmaaDoor
