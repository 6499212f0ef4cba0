/- The reference's fits. (printed by wip/gen/gen_rfits.py) fixture.room. (printed by wip/gen/gen_room.py) The reference's room. (printed by wip/gen/gen_rfits.py) fixture.Room, the reference's Room. (printed by wip/gen/gen_roomtop.py) -/
import Derived.Test.YtabalicembhjmaaT33M15
import Derived.Test.YtabalicembhjmaaT33M23
import Derived.Test.YtabalicembhjmaaT33M14
import Derived.Test.YtabalicembhjmaaT33M22

namespace Go.Proofs.Ytabalicembhjmaa
open Go.RowKit
set_option linter.unusedVariables false
set_option linter.unusedSimpArgs false

set_option maxRecDepth 100000 in
set_option maxHeartbeats 16000000 in
theorem rfits_any (x : Rig) (lv uv : Value) (U a s but : Int) (w : World) (h : RigAt w.heap.size w x lv uv) (hx : chkRig x = 0) (h1 : 1 ≤ a) (h2 : a ≤ 512) (h3 : 1 ≤ s) (h4 : s ≤ 512) :
    Calls Try.prog 53 #[rigV lv uv, .int .i64 U, .int .i64 a, .int .i64 s, .int .i64 but] w fun e w' => e = .returned (.bool (fitsV x U a s but)) ∧ Below w.heap.size w w' := by
  have HPL := Lib.hid (fun W (hb : Below w.heap.size w W) => (h.lib.below hb).more hb.size)
  have HG := Lib.hid (UntS.get h.units)
  obtain ⟨uo, ucap, rfl, _⟩ := CellsS.shape h.units
  obtain ⟨lo, lcap, rfl⟩ := prfS_shape h.lib
  have hcp := untS_cap h.units
  have HUS := Lib.hid (fun u (hu : u ∈ x.units) => unit_sound hx hu)
  have HC := Lib.hid (show fitsV x U a s but = (decide (a + s - 1 ≤ 512) && !(x.units.any (hitU x.lib U a s but))) from rfl)
  unfold rigV at *
  clear h hx
  generalize fitsV x U a s but = RES at *
  have KC := Lib.hid (show ∀ W, Below (w.heap.size + 1) (w.alloc (.cells #[.slice lo x.lib.length lcap, .slice uo x.units.length ucap] 25)) W → (Below w.heap.size w W ∧ w.heap.size < W.heap.size ∧ W.cell? ⟨w.heap.size, 0, none⟩ = some (.slice lo x.lib.length lcap) ∧ W.cell? ⟨w.heap.size, 1, none⟩ = some (.slice uo x.units.length ucap)) from fun W hW => by
    have hz := hW.size
    simp at hz
    exact ⟨((Below.refl _ _).alloc (Nat.le_refl _) _).trans (hW.mono (by omega)), by omega, (hW.cell (p := ⟨w.heap.size, 0, none⟩) (by simp)).trans (by simp [go_sem]), (hW.cell (p := ⟨w.heap.size, 1, none⟩) (by simp)).trans (by simp [go_sem])⟩)
  have KM := Lib.hid (show ∀ W W1, Below (w.heap.size + 1) (w.alloc (.cells #[.slice lo x.lib.length lcap, .slice uo x.units.length ucap] 25)) W → Below W.heap.size W W1 → Below (w.heap.size + 1) (w.alloc (.cells #[.slice lo x.lib.length lcap, .slice uo x.units.length ucap] 25)) W1 from fun W W1 h1 h2 => h1.trans (h2.mono (by have := h1.size; simp at this; omega)))
  have KA := Lib.hid (show ∀ W o, Below (w.heap.size + 1) (w.alloc (.cells #[.slice lo x.lib.length lcap, .slice uo x.units.length ucap] 25)) W → Below (w.heap.size + 1) (w.alloc (.cells #[.slice lo x.lib.length lcap, .slice uo x.units.length ucap] 25)) (W.alloc o) from fun W o h => h.alloc (by have := h.size; simp at this; omega) o)
  have HB0 := Lib.hid (Below.refl (w.heap.size + 1) (w.alloc (.cells #[.slice lo x.lib.length lcap, .slice uo x.units.length ucap] 25)))
  have e1 : IntKind.i64.wrap (a + s) = a + s := IntWalk.i64_in _ (by omega)
  have e2 : IntKind.i64.wrap (a + s - 1) = a + s - 1 := IntWalk.i64_in _ (by omega)
  go_enter Try.func53, Try.ntmps53
  by_cases ha : 512 < a + s - 1
  · have HV := Lib.hid (show RES = false by rw [HC.out, decide_eq_false (by omega)]; rfl)
    go_wp2_with fail
    go_ret
    exact ⟨by rw [HV.out] <;> rfl, (KC.out _ HB0.out).1⟩
  have hd : decide (512 < a + s - 1) = false := by simpa using ha
  have HC1 := Lib.hid (show RES = !(x.units.any (hitU x.lib U a s but)) by rw [HC.out, decide_eq_true (by omega)]; rfl)
  clear HC
  go_wp2_with fail
  go_loopw [21] (fun i wx => ∃ k : Nat, k ≤ x.units.length ∧ i = .int .i64 k ∧ Hid ((x.units.take k).any (hitU x.lib U a s but) = false) ∧ Hid (Below (w.heap.size + 1) (w.alloc (.cells #[.slice lo x.lib.length lcap, .slice uo x.units.length ucap] 25)) wx)) (fun i _ => x.units.length - (intOf i).toNat)
  case atStart => exact ⟨0, Nat.zero_le _, rfl, Lib.hid (by simp), HB0⟩
  case round =>
    clear HB0
    obtain ⟨k, hk, rfl, HNI, HBW⟩ := hrel
    obtain ⟨hB, hz, p0, p1⟩ := KC.out wr HBW.out
    by_cases hlt : k < x.units.length
    · obtain ⟨b, off, cap', hsl, hb, _, hc⟩ := HG.out (by omega)
      injection hsl with hs1 hs2 hs3
      subst hs1 hs3
      obtain ⟨d0, d1, d2, d3⟩ := hc k hlt wr hB
      have hbr : b < wr.heap.size := by have := hB.size; omega
      obtain ⟨⟨u1, u2⟩, u3, u4⟩ := HUS.out _ (List.getElem_mem hlt)
      have HLU := Lib.hid (fun W (hb : Below w.heap.size w W) => rlast_any lo (some ⟨b, off, none⟩) lcap x.units.length ucap x.lib x.units[k] W (HPL.out W hb) (by omega) (by omega) (by omega) (by omega))
      have HSN := Lib.hid (any_snoc (hitU x.lib U a s but) x.units k hlt)
      have HAT := Lib.hid (fun (h : hitU x.lib U a s but x.units[k] = true) => (List.any_eq_true.2 ⟨_, List.getElem_mem hlt, h⟩ : x.units.any (hitU x.lib U a s but) = true))
      have HHD := Lib.hid (show hitU x.lib U a s but x.units[k] = (decide (x.units[k].num ≠ but) && (decide (x.units[k].univ = U) && (decide (x.units[k].addr ≤ a + s - 1) && decide (a ≤ lastOf x.lib x.units[k])))) from rfl)
      generalize hitU x.lib U a s but x.units[k] = HIT at *
      generalize lastOf x.lib x.units[k] = LU at *
      clear hc hB u3 u4
      generalize hrk : x.units[k] = rk at *
      clear hrk
      obtain ⟨un, up, uu, ua⟩ := rk
      simp only at *
      have HBX := Lib.hid (KA.out _ (.cells #[.int .i64 un, .string up, .int .i64 uu, .int .i64 ua] 67) HBW.out)
      clear HBW
      by_cases c1 : un = but
      · have HH := Lib.hid (show HIT = false by rw [HHD.out]; simp [c1])
        have c2 : (un == but) = true := by simpa using c1
        have HBY := HBX
        have c1' := Eq.symm c1
        clear c1 c2
        subst c1'
        have HV := Lib.hid (show (x.units.take (k + 1)).any (hitU x.lib U a s but) = false by rw [HSN.out, HNI.out, HH.out]; rfl)
        go_wp2_with fail
        go_roundw
        case rel => exact ⟨k + 1, by omega, by first | rfl | go_num, HV, HBX⟩
        case measure => simp [intOf]; omega
      have c2 : (un == but) = false := by simpa using c1
      by_cases c3 : uu = U
      rotate_left
      · have HH := Lib.hid (show HIT = false by rw [HHD.out]; simp [c3])
        have c4 : (uu == U) = false := by simpa using c3
        have HV := Lib.hid (show (x.units.take (k + 1)).any (hitU x.lib U a s but) = false by rw [HSN.out, HNI.out, HH.out]; rfl)
        go_wp2_with fail
        go_roundw
        case rel => exact ⟨k + 1, by omega, by first | rfl | go_num, HV, HBX⟩
        case measure => simp [intOf]; omega
      have HHE := Lib.hid (show HIT = (decide (ua ≤ a + s - 1) && decide (a ≤ LU)) by rw [HHD.out, decide_eq_true c1, decide_eq_true c3]; rfl)
      clear HHD
      have c3' := Eq.symm c3
      clear c3
      subst c3'
      by_cases c5 : ua ≤ a + s - 1
      rotate_left
      · have HH := Lib.hid (show HIT = false by rw [HHE.out, decide_eq_false c5]; rfl)
        have c6 : decide (ua ≤ a + s - 1) = false := by simpa using c5
        have HV := Lib.hid (show (x.units.take (k + 1)).any (hitU x.lib U a s but) = false by rw [HSN.out, HNI.out, HH.out]; rfl)
        go_wp2_with fail
        go_roundw
        case rel => exact ⟨k + 1, by omega, by first | rfl | go_num, HV, HBX⟩
        case measure => simp [intOf]; omega
      have c6 : decide (ua ≤ a + s - 1) = true := by simpa using c5
      have HHF := Lib.hid (show HIT = decide (a ≤ LU) by rw [HHE.out, decide_eq_true c5]; rfl)
      have HLX := Lib.hid (HLU.out _ (KC.out _ HBX.out).1)
      clear HHE HLU
      by_cases c7 : a ≤ LU
      · have HV := Lib.hid (show RES = false by rw [HC1.out, HAT.out (by rw [HHF.out]; simpa using c7)]; rfl)
        have c8 : decide (a ≤ LU) = true := by simpa using c7
        clear HAT HHF
        go_wp2_with fail
        refine HLX.out.mono ?_
        rintro e w' ⟨rfl, hbl⟩
        have HBZ := Lib.hid (KC.out _ (KM.out _ _ HBX.out hbl)).1
        clear hbl HLX
        go_wp2_with fail
        go_ret
        exact ⟨by rw [HV.out] <;> rfl, HBZ.out⟩
      · have HH := Lib.hid (show HIT = false by rw [HHF.out]; simpa using c7)
        have c8 : decide (a ≤ LU) = false := by simpa using c7
        have HV := Lib.hid (show (x.units.take (k + 1)).any (hitU x.lib U a s but) = false by rw [HSN.out, HNI.out, HH.out]; rfl)
        clear HAT HHF
        go_wp2_with fail
        refine HLX.out.mono ?_
        rintro e w' ⟨rfl, hbl⟩
        have HBZ := Lib.hid (KM.out _ _ HBX.out hbl)
        clear hbl HLX
        go_wp2_with fail
        go_roundw
        case rel => exact ⟨k + 1, by omega, by first | rfl | go_num, HV, HBZ⟩
        case measure => simp [intOf]; omega
    · have hkk : k = x.units.length := by omega
      have HBO := Lib.hid hB
      subst hkk
      have HV := Lib.hid (show RES = true by have h := HNI.out; rw [List.take_length] at h; rw [HC1.out, h]; rfl)
      clear hB
      go_wp2_with fail
      go_ret
      exact ⟨by rw [HV.out] <;> rfl, HBO.out⟩
end Go.Proofs.Ytabalicembhjmaa

namespace Go.Proofs.Ytabalicembhjmaa
open Go.RowKit
set_option linter.unusedVariables false
set_option linter.unusedSimpArgs false

def roomV (o : Option (Int × Int)) : Value := match o with
  | none => .tuple #[.int .i64 0, .int .i64 0, .bool false]
  | some (n, a) => .tuple #[.int .i64 n, .int .i64 a, .bool true]
set_option maxRecDepth 100000 in
set_option maxHeartbeats 8000000 in
theorem room_any (base mb : Nat) (us : List (Unt × Int)) (s : Int) (w : World) (h : UsedS base w mb us) (h1 : 1 ≤ s) (h2 : s ≤ 512) :
    Calls Try.prog 47 #[.map (some mb), .int .i64 s] w fun e w' => e = .returned (roomV (roomO us s)) ∧ w = w' := by
  have HU := Lib.hid h
  have HC := Lib.hid (show roomO us s = roomRN us s 1 from rfl)
  clear h
  generalize roomO us s = RES at *
  go_enter Try.func47, Try.ntmps47
  go_wp2_with fail
  go_loopw [7] (fun i wx => ∃ n : Int, i = .int .i64 n ∧ 1 ≤ n ∧ n ≤ 65 ∧ Hid (RES = roomRN us s n) ∧ wx = w) (fun i _ => (65 - intOf i).toNat)
  case atStart => exact ⟨1, rfl, by omega, by omega, HC, rfl⟩
  case round =>
    clear HC
    obtain ⟨n, rfl, hn1, hn2, HR, rfl⟩ := hrel
    by_cases hn : n ≤ 64
    · have HY := Lib.hid (fun a (h : roomRA us n s 1 = some a) => HR.out.trans (roomRN_yes hn h))
      have HN := Lib.hid (fun (h : roomRA us n s 1 = none) => HR.out.trans (roomRN_no hn h))
      obtain ⟨RA, hRA⟩ : ∃ r, r = roomRA us n s 1 := ⟨_, rfl⟩
      rw [← hRA] at HY HN
      have HA := Lib.hid hRA
      clear HR hRA
      go_wp2_with fail
      go_loopw [8] (fun i wx => ∃ a : Int, i = .int .i64 a ∧ 1 ≤ a ∧ a ≤ 513 ∧ Hid (RA = roomRA us n s a) ∧ wx = wr) (fun i _ => (513 - intOf i).toNat)
      case atStart => exact ⟨1, rfl, by omega, by omega, HA, rfl⟩
      case round =>
        clear HA
        rename_i wr0
        obtain ⟨a, rfl, ha1, ha2, HA, rfl⟩ := hrel
        have e1 : IntKind.i64.wrap (a + s) = a + s := IntWalk.i64_in _ (by omega)
        have e2 : IntKind.i64.wrap (a + s - 1) = a + s - 1 := IntWalk.i64_in _ (by omega)
        by_cases ha : a + s - 1 ≤ 512
        · have HAY := Lib.hid (fun (h : freeAt us n a s = true) => HA.out.trans (roomRA_yes h1 ha h))
          have HAN := Lib.hid (fun (h : freeAt us n a s = false) => HA.out.trans (roomRA_no h1 ha h))
          have hk : I64 n := by unfold I64; omega
          obtain ⟨m, f, hm, hM, hU, hI⟩ := HU.out
          have hq := hM.look false keyI_ (t := 90) Try.underlying90 (zeroPtr_ _) (keyOfI_ hk)
          rcases hU n with ⟨hf, hno⟩ | ⟨g, hf, hbg, hgm, hgl, hS⟩
          · rw [hf] at hq
            simp only [Option.getD_none, Bool.false_eq_true, if_false] at hq
            have HV := Lib.hid (HY.out _ (HAY.out (freeAt_none hno (by omega) ha)))
            have hd : decide (a + s - 1 ≤ 512) = true := by simpa using ha
            have HFN := Lib.hid (free_nil a s wr (by omega) (by omega) (by omega) (by omega))
            rw [hd] at HFN
            clear hM hU hI hno hf HAY HAN HA
            go_wp2_with (first | (go_at_call 46; ((with_reducible refine HFN.out.mono ?_); rintro e w' ⟨rfl, rfl⟩)) | fail)
            exact bodyPost_ret (v := .tuple #[.int .i64 n, .int .i64 a, .bool true]) (by simp [results, Try.results47, go_sem]) rfl ⟨by rw [HV.out] <;> rfl, rfl⟩
          · rw [hf] at hq
            simp only [Option.getD_some, Bool.false_eq_true, if_false, ptrV] at hq
            have HFP := Lib.hid (free_ptr g _ a s _ hS hgl (by omega) (by omega) (by omega) (by omega))
            have HFE := Lib.hid (show freeAt us n a s = freeN (usedB us n) a s.toNat from rfl)
            rw [← HFE.out] at HFP
            clear hM hU hI hf hS HFE
            generalize freeAt us n a s = FA at *
            cases FA
            · have HV := Lib.hid (HAN.out rfl)
              clear HAY HAN HA
              go_wp2_with (first | (go_at_call 46; ((with_reducible refine HFP.out.mono ?_); rintro e w' ⟨rfl, rfl⟩)) | fail)
              go_roundw
              case rel => exact ⟨a + 1, by first | rfl | go_num, by omega, by omega, HV, by first | rfl | trivial⟩
              case measure => simp [intOf]; omega
            · have HV := Lib.hid (HY.out _ (HAY.out rfl))
              clear HAY HAN HA
              go_wp2_with (first | (go_at_call 46; ((with_reducible refine HFP.out.mono ?_); rintro e w' ⟨rfl, rfl⟩)) | fail)
              exact bodyPost_ret (v := .tuple #[.int .i64 n, .int .i64 a, .bool true]) (by simp [results, Try.results47, go_sem]) rfl ⟨by rw [HV.out] <;> rfl, rfl⟩
        · have HV := Lib.hid (HN.out (HA.out.trans (roomRA_end ha)))
          clear HA HY HN
          go_wp2_with fail
          go_roundw
          case rel => exact ⟨n + 1, by first | rfl | go_num, by omega, by omega, HV, by first | rfl | trivial⟩
          case measure => simp [intOf]; omega
    · have HV := Lib.hid (HR.out.trans (roomRN_end (by omega)))
      go_wp2_with fail
      exact bodyPost_ret (v := .tuple #[.int .i64 0, .int .i64 0, .bool false]) (by simp [results, Try.results47, go_sem]) rfl ⟨by rw [HV.out] <;> rfl, rfl⟩
end Go.Proofs.Ytabalicembhjmaa

namespace Go.Proofs.Ytabalicembhjmaa
open Go.RowKit
set_option linter.unusedVariables false
set_option linter.unusedSimpArgs false

set_option maxRecDepth 100000 in
set_option maxHeartbeats 16000000 in
theorem rroom_any (x : Rig) (lv uv : Value) (s but : Int) (w : World) (h : RigAt w.heap.size w x lv uv) (hx : chkRig x = 0) (h3 : 1 ≤ s) (h4 : s ≤ 512) :
    Calls Try.prog 54 #[rigV lv uv, .int .i64 s, .int .i64 but] w fun e w' => e = .returned (roomV (roomO (usBut x but) s)) ∧ Below w.heap.size w w' := by
  have CF := Lib.hid (fun (n a : Int) W (hb : Below w.heap.size w W) (h1 : 1 ≤ a) (h2 : a ≤ 512) => rfits_any x lv uv n a s but W ((h.below hb).more hb.size) hx h1 h2 h3 h4)
  have HFR := Lib.hid (fun (n a : Int) => fits_ra (U := n) (a := a) (but := but) hx h3)
  obtain ⟨uo, ucap, rfl, _⟩ := CellsS.shape h.units
  obtain ⟨lo, lcap, rfl⟩ := prfS_shape h.lib
  unfold rigV at *
  clear h hx
  generalize usBut x but = us at *
  have HC := Lib.hid (show roomO us s = roomRN us s 1 from rfl)
  generalize roomO us s = RES at *
  have KC := Lib.hid (show ∀ W, Below (w.heap.size + 1) (w.alloc (.cells #[.slice lo x.lib.length lcap, .slice uo x.units.length ucap] 25)) W → (Below w.heap.size w W ∧ w.heap.size < W.heap.size ∧ W.cell? ⟨w.heap.size, 0, none⟩ = some (.slice lo x.lib.length lcap) ∧ W.cell? ⟨w.heap.size, 1, none⟩ = some (.slice uo x.units.length ucap)) from fun W hW => by
    have hz := hW.size
    simp at hz
    exact ⟨((Below.refl _ _).alloc (Nat.le_refl _) _).trans (hW.mono (by omega)), by omega, (hW.cell (p := ⟨w.heap.size, 0, none⟩) (by simp)).trans (by simp [go_sem]), (hW.cell (p := ⟨w.heap.size, 1, none⟩) (by simp)).trans (by simp [go_sem])⟩)
  have KM := Lib.hid (show ∀ W W1, Below (w.heap.size + 1) (w.alloc (.cells #[.slice lo x.lib.length lcap, .slice uo x.units.length ucap] 25)) W → Below W.heap.size W W1 → Below (w.heap.size + 1) (w.alloc (.cells #[.slice lo x.lib.length lcap, .slice uo x.units.length ucap] 25)) W1 from fun W W1 h1 h2 => h1.trans (h2.mono (by have := h1.size; simp at this; omega)))
  have KA := Lib.hid (show ∀ W o, Below (w.heap.size + 1) (w.alloc (.cells #[.slice lo x.lib.length lcap, .slice uo x.units.length ucap] 25)) W → Below (w.heap.size + 1) (w.alloc (.cells #[.slice lo x.lib.length lcap, .slice uo x.units.length ucap] 25)) (W.alloc o) from fun W o h => h.alloc (by have := h.size; simp at this; omega) o)
  have HB0 := Lib.hid (Below.refl (w.heap.size + 1) (w.alloc (.cells #[.slice lo x.lib.length lcap, .slice uo x.units.length ucap] 25)))
  go_enter Try.func54, Try.ntmps54
  go_wp2_with fail
  go_loopw [9] (fun i wx => ∃ n : Int, i = .int .i64 n ∧ 1 ≤ n ∧ n ≤ 65 ∧ Hid (RES = roomRN us s n) ∧ Hid (Below (w.heap.size + 1) (w.alloc (.cells #[.slice lo x.lib.length lcap, .slice uo x.units.length ucap] 25)) wx)) (fun i _ => (65 - intOf i).toNat)
  case atStart => exact ⟨1, rfl, by omega, by omega, HC, HB0⟩
  case round =>
    clear HC HB0
    obtain ⟨n, rfl, hn1, hn2, HR, HBW⟩ := hrel
    by_cases hn : n ≤ 64
    · have HY := Lib.hid (fun a (h : roomRA us n s 1 = some a) => HR.out.trans (roomRN_yes hn h))
      have HN := Lib.hid (fun (h : roomRA us n s 1 = none) => HR.out.trans (roomRN_no hn h))
      obtain ⟨RA, hRA⟩ : ∃ r, r = roomRA us n s 1 := ⟨_, rfl⟩
      rw [← hRA] at HY HN
      have HA := Lib.hid hRA
      clear HR hRA
      go_wp2_with fail
      go_loopw [10] (fun i wx => ∃ a : Int, i = .int .i64 a ∧ 1 ≤ a ∧ a ≤ 513 ∧ Hid (RA = roomRA us n s a) ∧ Hid (Below (w.heap.size + 1) (w.alloc (.cells #[.slice lo x.lib.length lcap, .slice uo x.units.length ucap] 25)) wx)) (fun i _ => (513 - intOf i).toNat)
      case atStart => exact ⟨1, rfl, by omega, by omega, HA, HBW⟩
      case round =>
        clear HA HBW
        obtain ⟨a, rfl, ha1, ha2, HA, HBW⟩ := hrel
        by_cases ha : a ≤ 512
        · have HFA := Lib.hid (HFR.out n a)
          obtain ⟨hB, hz, p0, p1⟩ := KC.out wr HBW.out
          have CX := Lib.hid (CF.out n a wr hB ha1 ha)
          clear hB
          generalize fitsV x n a s but = FV at *
          cases FV
          · have HV := Lib.hid (HA.out.trans (HFA.out.2 rfl))
            clear HFA HA
            go_wp2_with fail
            refine CX.out.mono ?_
            rintro e w' ⟨rfl, hb⟩
            have HBZ := Lib.hid (KM.out _ _ HBW.out hb)
            clear hb CX p0 p1 hz
            go_wp2_with fail
            go_roundw
            case rel => exact ⟨a + 1, by first | rfl | go_num, by omega, by omega, HV, HBZ⟩
            case measure => simp [intOf]; omega
          · have HV := Lib.hid (HY.out _ (HA.out.trans (HFA.out.1 rfl)))
            clear HFA HA HY HN
            go_wp2_with fail
            refine CX.out.mono ?_
            rintro e w' ⟨rfl, hb⟩
            have HBZ := Lib.hid (KC.out _ (KM.out _ _ HBW.out hb)).1
            clear hb CX p0 p1 hz
            go_wp2_with fail
            exact bodyPost_ret (v := .tuple #[.int .i64 n, .int .i64 a, .bool true]) (by simp [results, Try.results54, go_sem]) rfl ⟨by rw [HV.out] <;> rfl, HBZ.out⟩
        · have HV := Lib.hid (HN.out (HA.out.trans (roomRA_end (by omega))))
          clear HA HY HN
          go_wp2_with fail
          go_roundw
          case rel => exact ⟨n + 1, by first | rfl | go_num, by omega, by omega, HV, HBW⟩
          case measure => simp [intOf]; omega
    · have HV := Lib.hid (HR.out.trans (roomRN_end (by omega)))
      have HBO := Lib.hid (KC.out _ HBW.out).1
      go_wp2_with fail
      exact bodyPost_ret (v := .tuple #[.int .i64 0, .int .i64 0, .bool false]) (by simp [results, Try.results54, go_sem]) rfl ⟨by rw [HV.out] <;> rfl, HBO.out⟩
end Go.Proofs.Ytabalicembhjmaa

namespace Go.Proofs.Ytabalicembhjmaa
open Go.RowKit
set_option linter.unusedVariables false
set_option linter.unusedSimpArgs false

theorem first2r (b : Nat) (x y : Int) (W : World) (h1 : W.cell? ⟨b, 0, none⟩ = some (.int .i64 x)) (h2 : W.cell? ⟨b, 1, none⟩ = some (.int .i64 y)) :
    Calls Try.prog 60 #[.slice (some ⟨b, 0, none⟩) 2 2] W fun e w' => e = .returned (.int .i64 (if x = 0 then y else x)) ∧ W = w' := by
  refine (first_any b 0 2 [x, y] W (by simp) (fun i hi => ?_)).mono ?_
  · match i, hi with
    | 0, _ => simpa using h1
    | 1, _ => simpa using h2
  · rintro e w' ⟨rfl, rfl⟩
    refine ⟨?_, rfl⟩
    simp only [firstF]
    congr 2
    split
    · split <;> omega
    · rfl
def roomT (x : Rig) (s : Int) : Value :=
  if chkRig x ≠ 0 then .tuple #[.int .i64 0, .int .i64 0, .int .i64 (chkRig x)]
  else if !inR s 1 512 then .tuple #[.int .i64 0, .int .i64 0, .int .i64 1]
  else match roomO (usBut x 0) s with
    | none => .tuple #[.int .i64 0, .int .i64 0, .int .i64 13]
    | some (n, a) => .tuple #[.int .i64 n, .int .i64 a, .int .i64 0]
theorem taken2_any (x : Rig) (lv uv : Value) (n : Int) (w : World) (h : RigAt w.heap.size w x lv uv) (hx : chkRig x = 0) (hf : RigFit x) :
    Calls Try.prog 45 #[rigV lv uv, .int .i64 n] w fun e w' => ∃ mb : Nat, e = .returned (.map (some mb)) ∧ w.heap.size ≤ mb ∧ mb < w'.heap.size ∧ UsedS mb w' mb (usBut x n) ∧ Below w.heap.size w w' := by
  refine (taken_any x lv uv n w h hx hf).mono ?_
  rintro e w' ⟨h1, h2, h3, h4⟩
  exact ⟨_, h1, by omega, h2, h3, h4⟩
theorem roomT_bad {x : Rig} {s : Int} (h : ¬ chkRig x = 0) : roomT x s = .tuple #[.int .i64 0, .int .i64 0, .int .i64 (chkRig x)] := by unfold roomT; rw [if_pos h]
theorem roomT_range {x : Rig} {s : Int} (h : chkRig x = 0) (k : inR s 1 512 = false) : roomT x s = .tuple #[.int .i64 0, .int .i64 0, .int .i64 1] := by unfold roomT; rw [if_neg (by simpa using h), k]; simp
theorem roomT_none {x : Rig} {s : Int} (h : chkRig x = 0) (k : inR s 1 512 = true) (hr : roomO (usBut x 0) s = none) : roomT x s = .tuple #[.int .i64 0, .int .i64 0, .int .i64 13] := by unfold roomT; rw [if_neg (by simpa using h), k, hr]; simp
theorem roomT_some {x : Rig} {s n a : Int} (h : chkRig x = 0) (k : inR s 1 512 = true) (hr : roomO (usBut x 0) s = some (n, a)) : roomT x s = .tuple #[.int .i64 n, .int .i64 a, .int .i64 0] := by unfold roomT; rw [if_neg (by simpa using h), k, hr]; simp
set_option maxRecDepth 100000 in
set_option maxHeartbeats 8000000 in
theorem roomTop_any (x : Rig) (lv uv : Value) (s : Int) (w : World) (h : RigAt w.heap.size w x lv uv) (hf : RigFit x) :
    Calls Try.prog 24 #[rigV lv uv, .int .i64 s] w fun e w' => e = .returned (roomT x s) ∧ Below w.heap.size w w' := by
  have CC := Lib.hid (fun W (hb : Below w.heap.size w W) => ckRig_any x lv uv W ((h.below hb).more hb.size) hf)
  have CT := Lib.hid (fun (hx : chkRig x = 0) W (hb : Below w.heap.size w W) => taken2_any x lv uv 0 W ((h.below hb).more hb.size) hx hf)
  obtain ⟨uo, ucap, rfl, _⟩ := CellsS.shape h.units
  obtain ⟨lo, lcap, rfl⟩ := prfS_shape h.lib
  unfold rigV at *
  clear h hf
  have HR1 := Lib.hid (@roomT_bad x s)
  have HR2 := Lib.hid (@roomT_range x s)
  have HR3 := Lib.hid (fun (h : chkRig x = 0) (k : inR s 1 512 = true) (hr : roomO (usBut x 0) s = none) => roomT_none h k hr)
  have HR4 := Lib.hid (fun (n a : Int) (h : chkRig x = 0) (k : inR s 1 512 = true) (hr : roomO (usBut x 0) s = some (n, a)) => roomT_some h k hr)
  generalize roomT x s = RES at *
  have KC := Lib.hid (show ∀ W, Below (w.heap.size + 1) (w.alloc (.cells #[.slice lo x.lib.length lcap, .slice uo x.units.length ucap] 25)) W → (Below w.heap.size w W ∧ w.heap.size < W.heap.size ∧ W.cell? ⟨w.heap.size, 0, none⟩ = some (.slice lo x.lib.length lcap) ∧ W.cell? ⟨w.heap.size, 1, none⟩ = some (.slice uo x.units.length ucap)) from fun W hW => by
    have hz := hW.size
    simp at hz
    exact ⟨((Below.refl _ _).alloc (Nat.le_refl _) _).trans (hW.mono (by omega)), by omega, (hW.cell (p := ⟨w.heap.size, 0, none⟩) (by simp)).trans (by simp [go_sem]), (hW.cell (p := ⟨w.heap.size, 1, none⟩) (by simp)).trans (by simp [go_sem])⟩)
  have KM := Lib.hid (show ∀ W W1, Below (w.heap.size + 1) (w.alloc (.cells #[.slice lo x.lib.length lcap, .slice uo x.units.length ucap] 25)) W → Below W.heap.size W W1 → Below (w.heap.size + 1) (w.alloc (.cells #[.slice lo x.lib.length lcap, .slice uo x.units.length ucap] 25)) W1 from fun W W1 h1 h2 => h1.trans (h2.mono (by have := h1.size; simp at this; omega)))
  have KA := Lib.hid (show ∀ W o, Below (w.heap.size + 1) (w.alloc (.cells #[.slice lo x.lib.length lcap, .slice uo x.units.length ucap] 25)) W → Below (w.heap.size + 1) (w.alloc (.cells #[.slice lo x.lib.length lcap, .slice uo x.units.length ucap] 25)) (W.alloc o) from fun W o h => h.alloc (by have := h.size; simp at this; omega) o)
  have HB0 := Lib.hid (Below.refl (w.heap.size + 1) (w.alloc (.cells #[.slice lo x.lib.length lcap, .slice uo x.units.length ucap] 25)))
  have C1 := Lib.hid (CC.out _ (KC.out _ HB0.out).1)
  clear CC
  go_enter Try.func24, Try.ntmps24
  go_wp2_with fail
  refine C1.out.mono ?_
  rintro e w1 ⟨rfl, hb⟩
  have HB1 := Lib.hid (KM.out _ _ HB0.out hb)
  clear hb C1
  obtain ⟨hB, hz, p0, p1⟩ := KC.out _ HB1.out
  have HBB := Lib.hid hB
  have HBA := Lib.hid (show ∀ o, Below w.heap.size w (w1.alloc o) from fun o => (KC.out _ (KA.out _ o HB1.out)).1)
  by_cases hE : chkRig x = 0
  rotate_left
  · have HV := Lib.hid (show RES = .tuple #[.int .i64 0, .int .i64 0, .int .i64 (chkRig x)] from HR1.out hE)
    have hq : (if chkRig x = 0 then (1 : Int) else chkRig x) = chkRig x := if_neg hE
    have hq2 : (if chkRig x = 0 then (0 : Int) else chkRig x) = chkRig x := if_neg hE
    clear hB
    rcases Bool.eq_false_or_eq_true (inR s 1 512) with k0 | k0
    · go_wp2_with (first | (go_at_call 29; ((with_reducible refine (within_R _ _ _ _).mono ?_); rintro e w' ⟨rfl, rfl⟩)) | (go_at_call 61; ((with_reducible refine (when_yes _ _).mono ?_); rintro e w' ⟨rfl, rfl⟩)) | (go_at_call 61; ((with_reducible refine (when_no _ _).mono ?_); rintro e w' ⟨rfl, rfl⟩)) | (go_at_call 60; refine (first2r _ (chkRig x) 0 _ (by simp [go_sem]) (by simp [go_sem])).mono ?_; rintro e w' ⟨rfl, rfl⟩) | fail)
      exact bodyPost_ret (v := .tuple #[.int .i64 0, .int .i64 0, .int .i64 (chkRig x)]) (by simp [results, Try.results24, go_sem]) rfl ⟨by rw [HV.out], HBA.out _⟩
    · go_wp2_with (first | (go_at_call 29; ((with_reducible refine (within_R _ _ _ _).mono ?_); rintro e w' ⟨rfl, rfl⟩)) | (go_at_call 61; ((with_reducible refine (when_yes _ _).mono ?_); rintro e w' ⟨rfl, rfl⟩)) | (go_at_call 61; ((with_reducible refine (when_no _ _).mono ?_); rintro e w' ⟨rfl, rfl⟩)) | (go_at_call 60; refine (first2r _ (chkRig x) 1 _ (by simp [go_sem]) (by simp [go_sem])).mono ?_; rintro e w' ⟨rfl, rfl⟩) | fail)
      exact bodyPost_ret (v := .tuple #[.int .i64 0, .int .i64 0, .int .i64 (chkRig x)]) (by simp [results, Try.results24, go_sem]) rfl ⟨by rw [HV.out], HBA.out _⟩
  rw [hE]
  rcases Bool.eq_false_or_eq_true (inR s 1 512) with k0 | k0
  rotate_left
  · have HV := Lib.hid (show RES = .tuple #[.int .i64 0, .int .i64 0, .int .i64 1] from HR2.out hE k0)
    clear hB
    go_wp2_with (first | (go_at_call 29; ((with_reducible refine (within_R _ _ _ _).mono ?_); rintro e w' ⟨rfl, rfl⟩)) | (go_at_call 61; ((with_reducible refine (when_yes _ _).mono ?_); rintro e w' ⟨rfl, rfl⟩)) | (go_at_call 61; ((with_reducible refine (when_no _ _).mono ?_); rintro e w' ⟨rfl, rfl⟩)) | (go_at_call 60; refine (first2r _ 0 1 _ (by simp [go_sem]) (by simp [go_sem])).mono ?_; rintro e w' ⟨rfl, rfl⟩) | fail)
    exact bodyPost_ret (v := .tuple #[.int .i64 0, .int .i64 0, .int .i64 1]) (by simp [results, Try.results24, go_sem]) rfl ⟨by rw [HV.out], HBA.out _⟩
  have HR5 := Lib.hid (HR3.out hE k0)
  have HR6 := Lib.hid (fun n a => HR4.out n a hE k0)
  obtain ⟨j1, j2⟩ := inR_true k0
  have CT1 := Lib.hid (CT.out hE)
  clear hB CT hE HR1 HR2 HR3 HR4
  go_wp2_with (first | (go_at_call 29; ((with_reducible refine (within_R _ _ _ _).mono ?_); rintro e w' ⟨rfl, rfl⟩)) | (go_at_call 61; ((with_reducible refine (when_yes _ _).mono ?_); rintro e w' ⟨rfl, rfl⟩)) | (go_at_call 61; ((with_reducible refine (when_no _ _).mono ?_); rintro e w' ⟨rfl, rfl⟩)) | (go_at_call 60; refine (first2r _ 0 0 _ (by simp [go_sem]) (by simp [go_sem])).mono ?_; rintro e w' ⟨rfl, rfl⟩) | fail)
  refine (CT1.out _ (HBA.out _)).mono ?_
  rintro e w3 ⟨mb, rfl, hl2, hl3, hu3, hb3⟩
  have HB3 := Lib.hid ((HBA.out _).trans (hb3.mono (by simp; omega)))
  have CR := Lib.hid (room_any _ _ _ s w3 hu3 j1 j2)
  clear hu3 hb3 CT1 p0 p1 hz
  generalize roomO (usBut x 0) s = RO at *
  cases RO with
  | none =>
    have HV := Lib.hid (HR5.out rfl)
    have CR0 := Lib.hid (show Calls Try.prog 47 _ w3 fun e w' => e = .returned (.tuple #[.int .i64 0, .int .i64 0, .bool false]) ∧ w3 = w' from CR.out)
    clear CR HR5 HR6
    go_wp2_with fail
    refine CR0.out.mono ?_
    rintro e w' ⟨rfl, rfl⟩
    clear CR0
    go_wp2_with fail
    exact bodyPost_ret (v := .tuple #[.int .i64 0, .int .i64 0, .int .i64 13]) (by simp [results, Try.results24, go_sem]) rfl ⟨by rw [HV.out], HB3.out⟩
  | some r =>
    obtain ⟨n, a⟩ := r
    have HV := Lib.hid (HR6.out n a rfl)
    have CR0 := Lib.hid (show Calls Try.prog 47 _ w3 fun e w' => e = .returned (.tuple #[.int .i64 n, .int .i64 a, .bool true]) ∧ w3 = w' from CR.out)
    clear CR HR5 HR6
    go_wp2_with fail
    refine CR0.out.mono ?_
    rintro e w' ⟨rfl, rfl⟩
    clear CR0
    go_wp2_with fail
    exact bodyPost_ret (v := .tuple #[.int .i64 n, .int .i64 a, .int .i64 0]) (by simp [results, Try.results24, go_sem]) rfl ⟨by rw [HV.out], HB3.out⟩
end Go.Proofs.Ytabalicembhjmaa
