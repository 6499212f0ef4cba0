/- The reference's Read at any text. (printed by wip/gen/gen_rlibread.py) The profile with a name, of both sides, the library below any block. (printed by wip/gen/gen_profb.py) -/
import Derived.Test.YtppbagllhmeenaaGreatDoorT68M34
import Derived.Test.YtppbagllhmeenaaGreatDoorT68M37
import Derived.Test.YtppbagllhmeenaaGreatDoorT68M38
import Derived.Test.YtppbagllhmeenaaGreatDoorT68M42
import Derived.Test.YtppbagllhmeenaaGreatDoorT68M40

namespace Go.Proofs.YtppbagllhmeenaaGreatDoor
open Go.RowKit
open Go.ChangeShapes
set_option linter.unusedVariables false
set_option linter.unusedSimpArgs false

set_option maxRecDepth 100000 in
set_option maxHeartbeats 16000000 in
theorem rlibRead_any (s : ByteArray) (w : World) (hT : TextW w) (hn : s.size ≤ 9223372036854775807) :
    Calls Tryz.prog 14 #[.string s] w (RlPost w s) := by
  have HPO := Lib.hid (show ∀ e w', (∃ v, e = .returned (.tuple #[v, .int .i64 (rdX s).2.1, .int .i64 (rdX s).1]) ∧ PrfS w'.heap.size w' v (rdX s).2.2 ∧ Below w.heap.size w w') → RlPost w s e w' from fun e w' h => h)
  have HT := Lib.hid hT
  generalize RlPost w s = PO at *
  clear hT
  by_cases hL : 200000 < s.size
  · have HRP := Lib.hid (rdX_large hL)
    have hl2 : (200000 : Int) < (s.size : Int) := by omega
    generalize rdX s = rp at *
    go_enter Tryz.func14, Tryz.ntmps14
    go_wp2_with fail
    exact bodyPost_ret (v := .tuple #[.slice none 0 0, .int .i64 0, .int .i64 2]) (by simp [results, Tryz.results14, go_sem]) rfl (HPO.out _ _ ⟨.slice none 0 0, by rw [HRP.out], by rw [HRP.out]; exact nolib_at _ _, Below.refl _ _⟩)
  have hl2 : ¬ (200000 : Int) < (s.size : Int) := by omega
  have CL := Lib.hid (rlines_any s w HT.out (by omega))
  have hll : (linesL s).length ≤ 200001 := by have := linesL_le s; omega
  have hls : ∀ k (hk : k < (linesL s).length), (linesL s)[k].size ≤ 200000 := fun k hk => by have := linesL_size s _ (List.getElem_mem hk); omega
  have HRP0 := Lib.hid (rdX_ok hL)
  unfold LinesPost at CL
  generalize rdX s = rp at *
  generalize linesL s = L at *
  generalize linesW s = wh at *
  clear hL
  go_enter Tryz.func14, Tryz.ntmps14
  go_wp2_with fail
  refine CL.out.mono ?_
  rintro e1 w3 ⟨lo, lcap, rfl, hrow, hb⟩
  have HB3 := Lib.hid hb
  have HROW := Lib.hid hrow
  clear hb hrow CL
  go_upto_region 6 with fail
  go_loopw [23, 7] (fun i v wr => ∃ (k : Nat) (l : List Prf), k ≤ L.length ∧ i = .int .i64 k ∧ Hid (LibO w3.heap.size wr v l) ∧ Hid (LibFit k l) ∧ Hid (rp = rdF (rdGo wh k (L.drop k) l)) ∧ Hid (Below w3.heap.size w3 wr)) (fun i _ _ => L.length - (intOf i).toNat)
  case atStart => exact ⟨0, [], Nat.zero_le _, rfl, Lib.hid (.inl ⟨rfl, rfl⟩), Lib.hid LibFit.nil, HRP0, Lib.hid (Below.refl _ _)⟩
  case round =>
    obtain ⟨k, l, hk, rfl, HLO, HFT, HRP, HBW⟩ := hrel
    have hzw := HBW.out.size
    by_cases hlt : k < L.length
    · obtain ⟨hao, hg, hrw⟩ := HROW.out (by intro e; subst e; simp at hlt)
      subst hao
      have hck := hrw k hlt
      rw [Nat.zero_add] at hck
      have d0 : wr.cell? ⟨w.heap.size, k, none⟩ = some (.string L[k]) := (HBW.out.cell (p := ⟨w.heap.size, k, none⟩) hg).trans hck
      have hxs := hls k hlt
      have HTW := Lib.hid (HT.out.below (HB3.out.trans (HBW.out.mono HB3.out.size)))
      have HBAD := Lib.hid (fun (h : addL l L[k] = none) => HRP.out.trans (rdGo_bad (wh := wh) hlt h))
      have HLAST := Lib.hid (fun (h1 : wh = false) (h2 : k + 1 = L.length) => HRP.out.trans (rdGo_last (l := l) hlt h1 h2))
      have HNEXT := Lib.hid (fun (h1 : ¬ (wh = false ∧ k + 1 = L.length)) m (h2 : addL l L[k] = some m) => HRP.out.trans (congrArg rdF (rdGo_step (wh := wh) hlt h1 h2)))
      have HFN := Lib.hid (fun m (h2 : addL l L[k] = some m) => addL_fit (by unfold maxLen; omega) HFT.out h2)
      obtain ⟨ao, cap, rfl⟩ := HLO.out.shape
      have CA := Lib.hid (radd_any w3.heap.size l ao l.length cap k L[k] wr HTW.out hxs rfl HLO.out HFT.out (by omega) hzw)
      unfold RAddPost at CA
      generalize L[k] = lk at *
      have hlts : (k : Int) < (L.length : Int) := by omega
      have hgr : w.heap.size < wr.heap.size := by omega
      clear hck hrw HROW hls HRP0 HRP
      go_wp2_with fail
      refine CA.out.mono ?_
      rintro e1 w5 ⟨ao5, n5, cap5, hres, hb5⟩
      have HB5 := Lib.hid (HBW.out.trans (hb5.mono (Nat.le_refl _)))
      have HBF := Lib.hid (HB3.out.trans (HB5.out.mono HB3.out.size))
      clear hb5 CA d0
      rcases hres with ⟨hno, rfl⟩ | ⟨m, hyes, rfl, hlo⟩
      · have HG := Lib.hid (HBAD.out hno)
        clear HBAD HLAST HNEXT HFN hno
        go_wp2_with fail
        exact bodyPost_ret (v := .tuple #[.slice none 0 0, .int .i64 ((k : Int) + 1), .int .i64 9]) (by simp [results, Tryz.results14, go_sem]) rfl (HPO.out _ _ ⟨.slice none 0 0, by rw [HG.out], by rw [HG.out]; exact nolib_at _ _, HBF.out⟩)
      · have HLO5 := Lib.hid hlo
        clear hlo
        by_cases hwl : wh = false ∧ k + 1 = L.length
        · have HG := Lib.hid (HLAST.out hwl.1 hwl.2)
          obtain ⟨hwf, hkl⟩ := hwl
          have hkk : ((L.length : Nat) : Int) - 1 = k := by omega
          subst hwf
          clear HBAD HLAST HNEXT HFN hyes hkl
          go_wp2_with fail
          exact bodyPost_ret (v := .tuple #[.slice none 0 0, .int .i64 ((k : Int) + 1), .int .i64 9]) (by simp [results, Tryz.results14, go_sem]) rfl (HPO.out _ _ ⟨.slice none 0 0, by rw [HG.out], by rw [HG.out]; exact nolib_at _ _, HBF.out⟩)
        · have HRN := Lib.hid (HNEXT.out hwl m hyes)
          have HFT2 := Lib.hid (HFN.out m hyes)
          have hwc : wh = true ∨ (wh = false ∧ ¬ ((k : Int) = (L.length : Int) - 1)) := by
            cases wh
            · right
              refine ⟨rfl, fun h => hwl ⟨rfl, by omega⟩⟩
            · left; rfl
          clear HBAD HLAST HNEXT HFN hyes hwl
          rcases hwc with rfl | ⟨rfl, hkn⟩
          all_goals
            go_wp2_with fail
            go_roundw
            case rel => exact ⟨k + 1, m, by omega, by go_num, HLO5, HFT2, HRN, HB5⟩
            case measure => simp [intOf]; omega
    · have hkk : k = L.length := by omega
      subst hkk
      have HGD := Lib.hid (HRP.out.trans (rdGo_end wh L l))
      obtain ⟨ao, cap, rfl⟩ := HLO.out.shape
      have CK := Lib.hid (rckLibrary_any (.slice ao l.length cap) l wr HLO.out.prfS (fun p hp => (HFT.out.2 p hp).1))
      have HBF := Lib.hid (HB3.out.trans (HBW.out.mono HB3.out.size))
      have HPS := Lib.hid HLO.out.prfS
      have hlts : ¬ ((L.length : Nat) : Int) < (L.length : Int) := by omega
      by_cases hE : chkLib l = 0
      · rw [if_pos hE] at HGD
        rw [hE] at CK
        clear HRP HROW hls HRP0
        go_wp2_with fail
        refine CK.out.mono ?_
        rintro e w5 ⟨rfl, hb⟩
        have HB5 := Lib.hid (HBF.out.trans (hb.mono HBF.out.size))
        have HP5 := Lib.hid ((HPS.out.below hb).more hb.size)
        clear hb CK
        go_wp2_with fail
        exact bodyPost_ret (v := .tuple #[.slice ao l.length cap, .int .i64 0, .int .i64 0]) (by simp [results, Tryz.results14, go_sem]) rfl (HPO.out _ _ ⟨.slice ao l.length cap, by rw [HGD.out], by rw [HGD.out]; exact HP5.out, HB5.out⟩)
      · rw [if_neg hE] at HGD
        have he2 : (chkLib l == 0) = false := by simpa using hE
        clear HRP HROW hls HRP0
        generalize chkLib l = cr at *
        go_wp2_with fail
        refine CK.out.mono ?_
        rintro e w5 ⟨rfl, hb⟩
        have HB5 := Lib.hid (HBF.out.trans (hb.mono HBF.out.size))
        clear hb CK
        go_wp2_with fail
        exact bodyPost_ret (v := .tuple #[.slice none 0 0, .int .i64 0, .int .i64 cr]) (by simp [results, Tryz.results14, go_sem]) rfl (HPO.out _ _ ⟨.slice none 0 0, by rw [HGD.out], by rw [HGD.out]; exact nolib_at _ _, HB5.out⟩)
end Go.Proofs.YtppbagllhmeenaaGreatDoor

namespace Go.Proofs.YtppbagllhmeenaaGreatDoor
open Go.RowKit
set_option linter.unusedVariables false
set_option linter.unusedSimpArgs false

set_option maxRecDepth 100000 in
set_option maxHeartbeats 4000000 in
theorem profile_base (B : Nat) (v : Value) (l : List Prf) (nm : ByteArray) (w : World) (hBw : B ≤ w.heap.size) (h : PrfS B w v l) :
    Calls Tryz.prog 47 #[v, .string nm] w fun e w' => ∃ pv, e = .returned (.tuple #[pv, .bool (profOf l nm.data.toList).isSome]) ∧ PrfR B w' (profOf l nm.data.toList) pv ∧ Below w.heap.size w w' := by
  have HG := Lib.hid (PrfS.get h)
  have HSP := Lib.hid (idxF_spec (hasNm nm.data.toList) l)
  have HPO := Lib.hid (show profOf l nm.data.toList = l.find? (hasNm nm.data.toList) from rfl)
  have HCI := Lib.hid (fun W (hW : Below w.heap.size w W) tb (ht : W.cell? ⟨tb, 0, none⟩ = some (.string nm)) (hb : tb < W.heap.size) => prf_index v l nm tb W ((h.below (hW.mono hBw)).more (Nat.le_trans hBw hW.size)) ht hb)
  obtain ⟨lv, hlv, hcs, _⟩ := h
  obtain ⟨ao, cap, rfl, _⟩ := CellsS.shape hcs
  have hm := CellsS.len hcs
  rw [show lv.length = l.length by rw [← hlv]; simp] at *
  clear hcs hlv
  unfold maxLen at hm
  generalize idxF (hasNm nm.data.toList) l 0 = IX at *
  rw [HPO.out]
  generalize l.find? (hasNm nm.data.toList) = RES at *
  have HX := Lib.hid (HCI.out ((w.alloc (.cells #[.string nm] 9)).alloc (.cells #[.string ⟨#[]⟩, .int .i64 0, .slice none 0 0] 70)) (((Below.refl _ _).alloc (Nat.le_refl _) _).alloc (by simp) _) w.heap.size (by simp [go_sem]) (by simp; omega))
  unfold prfFn at HX
  clear HCI HPO
  go_enter Tryz.func47, Tryz.ntmps47
  go_wp2_with fail
  refine HX.out.mono ?_
  rintro e w1 ⟨rfl, hb1⟩
  have HB1 := Lib.hid ((((Below.refl w.heap.size w).alloc (Nat.le_refl _) (.cells #[.string nm] 9)).alloc (by simp) (.cells #[.string ⟨#[]⟩, .int .i64 0, .slice none 0 0] 70)).trans (hb1.mono (by simp; omega)))
  have hz1 := hb1.size
  simp only [World.size_alloc] at hz1
  have c0 : w1.cell? ⟨w.heap.size + 1, 0, none⟩ = some (.string ⟨#[]⟩) := (hb1.cell (p := ⟨w.heap.size + 1, 0, none⟩) (by simp)).trans (by simp [go_sem])
  have c1 : w1.cell? ⟨w.heap.size + 1, 1, none⟩ = some (.int .i64 0) := (hb1.cell (p := ⟨w.heap.size + 1, 1, none⟩) (by simp)).trans (by simp [go_sem])
  have c2 : w1.cell? ⟨w.heap.size + 1, 2, none⟩ = some (.slice none 0 0) := (hb1.cell (p := ⟨w.heap.size + 1, 2, none⟩) (by simp)).trans (by simp [go_sem])
  have f0 : w1.frozen? ⟨w.heap.size + 1, 0, none⟩ = false := (hb1.frozen (p := ⟨w.heap.size + 1, 0, none⟩) (by simp)).trans (by simp [go_sem])
  have f1 : w1.frozen? ⟨w.heap.size + 1, 1, none⟩ = false := (hb1.frozen (p := ⟨w.heap.size + 1, 1, none⟩) (by simp)).trans (by simp [go_sem])
  have f2 : w1.frozen? ⟨w.heap.size + 1, 2, none⟩ = false := (hb1.frozen (p := ⟨w.heap.size + 1, 2, none⟩) (by simp)).trans (by simp [go_sem])
  have KSB := Lib.hid (show ∀ u0 u1 u2, Below w.heap.size w (((w1.setCell ⟨w.heap.size + 1, 0, none⟩ u0).setCell ⟨w.heap.size + 1, 1, none⟩ u1).setCell ⟨w.heap.size + 1, 2, none⟩ u2) from fun u0 u1 u2 => ((HB1.out.setCell (p := ⟨w.heap.size + 1, 0, none⟩) (by simp) u0).setCell (p := ⟨w.heap.size + 1, 1, none⟩) (by simp) u1).setCell (p := ⟨w.heap.size + 1, 2, none⟩) (by simp) u2)
  have KST := Lib.hid (show ∀ u0 u1 u2 {v : Value} {l : List Par}, ParS B w1 v l → ParS B (((w1.setCell ⟨w.heap.size + 1, 0, none⟩ u0).setCell ⟨w.heap.size + 1, 1, none⟩ u1).setCell ⟨w.heap.size + 1, 2, none⟩ u2) v l from fun u0 u1 u2 _ _ h => h.below ((((Below.refl B w1).setCell (p := ⟨w.heap.size + 1, 0, none⟩) (by show B ≤ w.heap.size + 1; omega) u0).setCell (p := ⟨w.heap.size + 1, 1, none⟩) (by show B ≤ w.heap.size + 1; omega) u1).setCell (p := ⟨w.heap.size + 1, 2, none⟩) (by show B ≤ w.heap.size + 1; omega) u2))
  clear hb1 HX
  rcases HSP.out with ⟨rfl, rfl⟩ | ⟨k, hk, rfl, rfl⟩
  · go_wp2_with fail
    exact bodyPost_ret (v := .tuple #[.agg #[.string ⟨#[]⟩, .int .i64 0, .slice none 0 0], .bool false]) (by simp [results, Tryz.results47, go_sem, c0, c1, c2]) rfl ⟨_, rfl, rfl, KSB.out _ _ _⟩
  · obtain ⟨b, off, cap', hsl, hbb, _, hc⟩ := HG.out (by omega)
    injection hsl with hs1 hs2 hs3
    subst hs1 hs3
    obtain ⟨pv, hpv, hcc⟩ := hc k hk
    have HPV := Lib.hid (hpv.below (HB1.out.mono hBw))
    obtain ⟨d0, d1, d2⟩ := hcc w1 (HB1.out.mono hBw)
    have hbr : b < w1.heap.size := by omega
    obtain ⟨lv, hlv, hcs, _⟩ := hpv
    obtain ⟨po, pcap, rfl, _⟩ := CellsS.shape hcs
    rw [show lv.length = l[k].pars.length by rw [← hlv]; simp] at *
    clear hc hcc hcs hlv HG HSP
    generalize hrk : l[k] = rk at *
    have HRK := Lib.hid hrk
    clear hrk
    obtain ⟨pn, pz, pl⟩ := rk
    simp only at *
    go_wp2_with fail
    exact bodyPost_ret (v := .tuple #[.agg #[.string pn, .int .i64 pz, .slice po pl.length pcap], .bool true]) (by simp [results, Tryz.results47, go_sem, c0, c1, c2]) rfl ⟨_, rfl, by rw [HRK.out]; exact ⟨_, rfl, KST.out _ _ _ HPV.out⟩, KSB.out _ _ _⟩
set_option maxRecDepth 100000 in
set_option maxHeartbeats 8000000 in
theorem rprofile_base (B : Nat) (v : Value) (l : List Prf) (nm : ByteArray) (w : World) (hBw : B ≤ w.heap.size) (h : PrfS B w v l) :
    Calls Tryz.prog 55 #[v, .string nm] w fun e w' => ∃ pv, e = .returned (.tuple #[pv, .bool (profOf l nm.data.toList).isSome]) ∧ PrfR B w' (profOf l nm.data.toList) pv ∧ Below w.heap.size w w' := by
  have HG := Lib.hid (PrfS.get h)
  obtain ⟨ao, cap, rfl⟩ := prfS_shape h
  have hm : l.length ≤ 9223372036854775807 := by
    by_cases c : 0 < l.length
    · obtain ⟨_, _, _, _, _, hm, _⟩ := PrfS.get h c
      unfold maxLen at hm; exact hm
    · omega
  have HS := Lib.hid (idxF_spec (hasNm nm.data.toList) l)
  have HSP := Lib.hid (show (idxF (hasNm nm.data.toList) l 0 = -1 → profOf l nm.data.toList = none) ∧ ∀ (k : Nat) (h : k < l.length), idxF (hasNm nm.data.toList) l 0 = (k : Int) → profOf l nm.data.toList = some l[k] from by
    rcases HS.out with ⟨h1, h2⟩ | ⟨k, hk, h1, h2⟩
    · exact ⟨fun _ => h2, fun k hk h => by rw [h1] at h; omega⟩
    · refine ⟨fun h => by rw [h1] at h; omega, fun j hj h => ?_⟩
      rw [h1] at h
      have : j = k := by omega
      subst this
      exact h2)
  have HC := Lib.hid (show idxF (hasNm nm.data.toList) l 0 = idxF (hasNm nm.data.toList) (l.drop 0) 0 by simp)
  generalize idxF (hasNm nm.data.toList) l 0 = IX at *
  generalize hPO : profOf l nm.data.toList = PO at *
  clear hPO HS h
  go_enter Tryz.func55, Tryz.ntmps55
  go_wp2_with fail
  go_loopw [10] (fun i wr => ∃ k : Nat, k ≤ l.length ∧ i = .int .i64 k ∧ Hid (IX = idxF (hasNm nm.data.toList) (l.drop k) k) ∧ Hid (Below (w.heap.size + 1) (w.alloc (.cells #[.string ⟨#[]⟩, .int .i64 0, .slice none 0 0] 70)) wr)) (fun i _ => l.length - (intOf i).toNat)
  case atStart => exact ⟨0, Nat.zero_le _, rfl, HC, Lib.hid (Below.refl _ _)⟩
  case round =>
    obtain ⟨k, hk, rfl, HR, HBW⟩ := hrel
    have hzr := HBW.out.size
    simp only [World.size_alloc] at hzr
    have hBB : Below w.heap.size w wr := ((Below.refl _ _).alloc (Nat.le_refl _) _).trans (HBW.out.mono (by omega))
    have z0 : wr.cell? ⟨w.heap.size, 0, none⟩ = some (.string ⟨#[]⟩) := (HBW.out.cell (p := ⟨w.heap.size, 0, none⟩) (by simp)).trans (by simp [go_sem])
    have z1 : wr.cell? ⟨w.heap.size, 1, none⟩ = some (.int .i64 0) := (HBW.out.cell (p := ⟨w.heap.size, 1, none⟩) (by simp)).trans (by simp [go_sem])
    have z2 : wr.cell? ⟨w.heap.size, 2, none⟩ = some (.slice none 0 0) := (HBW.out.cell (p := ⟨w.heap.size, 2, none⟩) (by simp)).trans (by simp [go_sem])
    have y0 : wr.frozen? ⟨w.heap.size, 0, none⟩ = false := (HBW.out.frozen (p := ⟨w.heap.size, 0, none⟩) (by simp)).trans (by simp [go_sem])
    have y1 : wr.frozen? ⟨w.heap.size, 1, none⟩ = false := (HBW.out.frozen (p := ⟨w.heap.size, 1, none⟩) (by simp)).trans (by simp [go_sem])
    have y2 : wr.frozen? ⟨w.heap.size, 2, none⟩ = false := (HBW.out.frozen (p := ⟨w.heap.size, 2, none⟩) (by simp)).trans (by simp [go_sem])
    have hwr : w.heap.size < wr.heap.size := by omega
    have KSB := Lib.hid (show ∀ W, Below w.heap.size w W → ∀ u0 u1 u2, Below w.heap.size w (((W.setCell ⟨w.heap.size, 0, none⟩ u0).setCell ⟨w.heap.size, 1, none⟩ u1).setCell ⟨w.heap.size, 2, none⟩ u2) from fun W hW u0 u1 u2 => ((hW.setCell (p := ⟨w.heap.size, 0, none⟩) (by simp) u0).setCell (p := ⟨w.heap.size, 1, none⟩) (by simp) u1).setCell (p := ⟨w.heap.size, 2, none⟩) (by simp) u2)
    by_cases hlt : k < l.length
    · obtain ⟨b, off, cap', hsl, hbb, _, hc⟩ := HG.out (by omega)
      injection hsl with hs1 hs2 hs3
      subst hs1 hs3
      obtain ⟨pv, hpv, hcc⟩ := hc k hlt
      obtain ⟨d0, d1, d2⟩ := hcc wr (hBB.mono hBw)
      have HPV := Lib.hid hpv
      have hbr : b < wr.heap.size := by omega
      have HY := Lib.hid (idxF_yes (hasNm nm.data.toList) l k hlt)
      have HN := Lib.hid (idxF_no (hasNm nm.data.toList) l k hlt)
      have HT := Lib.hid (show hasNm nm.data.toList l[k] = decide (l[k].name.data.toList = nm.data.toList) from rfl)
      have HPS := Lib.hid (HSP.out.2 k hlt)
      obtain ⟨po, pcap, rfl⟩ := parS_shape hpv
      have HBB := Lib.hid hBB
      clear hc hcc hpv HSP hBB
      generalize hasNm nm.data.toList l[k] = T at *
      generalize hrk : l[k] = rk at *
      clear hrk
      obtain ⟨pn, pz, pl⟩ := rk
      simp only at *
      by_cases he : pn.data.toList = nm.data.toList
      · have h2 : (pn.toList == nm.toList) = true := by rw [Lib.toList_data, Lib.toList_data]; simpa using he
        have HV := Lib.hid (HPS.out (HR.out.trans (HY.out (by rw [HT.out]; simpa using he))))
        clear he
        have HV1 : PO = some ⟨pn, pz, pl⟩ := HV.out
        go_wp2_with fail
        exact bodyPost_ret (v := .tuple #[.agg #[.string pn, .int .i64 pz, .slice po pl.length pcap], .bool true]) (by simp [results, Tryz.results55, go_sem, z0, z1, z2, hwr]) rfl ⟨_, by rw [HV.out] <;> rfl, by rw [HV.out]; exact ⟨_, rfl, HPV.out.below (((KSB.out _ HBB.out _ _ _).alloc (by simp; omega) _).mono hBw)⟩, (KSB.out _ HBB.out _ _ _).alloc (by simp; omega) _⟩
      · have h2 : (pn.toList == nm.toList) = false := by rw [Lib.toList_data, Lib.toList_data]; simpa using he
        have HV := Lib.hid (HR.out.trans (HN.out (by rw [HT.out]; simpa using he)))
        clear he
        have HBW2 := Lib.hid (HBW.out.alloc (by omega) (.cells #[.string pn, .int .i64 pz, .slice po pl.length pcap] 70))
        go_wp2_with fail
        go_roundw
        case rel => exact ⟨k + 1, by omega, by go_num, HV, HBW2⟩
        case measure => simp [intOf]; omega
    · have HV := Lib.hid (HSP.out.1 (by rw [HR.out, idxF_end _ l k (by omega)]))
      have HBB := Lib.hid hBB
      clear hBB
      have hkk : k = l.length := by omega
      subst hkk
      go_wp2_with fail
      exact bodyPost_ret (v := .tuple #[.agg #[.string ⟨#[]⟩, .int .i64 0, .slice none 0 0], .bool false]) (by simp [results, Tryz.results55, go_sem, z0, z1, z2]) rfl ⟨_, by rw [HV.out] <;> rfl, by rw [HV.out]; rfl, KSB.out _ HBB.out _ _ _⟩
end Go.Proofs.YtppbagllhmeenaaGreatDoor
