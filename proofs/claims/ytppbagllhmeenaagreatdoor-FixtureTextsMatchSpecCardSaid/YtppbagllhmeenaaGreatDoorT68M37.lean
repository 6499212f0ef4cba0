/- fixture.Read at any text. (printed by wip/gen/gen_libread.py) -/
import Derived.Test.YtppbagllhmeenaaGreatDoorT68M26
import Derived.Test.YtppbagllhmeenaaGreatDoorT68M33
import Derived.Test.YtppbagllhmeenaaGreatDoorT68M30
import Derived.Test.YtppbagllhmeenaaGreatDoorT68M36

namespace Go.Proofs.YtppbagllhmeenaaGreatDoor
open Go.RowKit
open Go.ChangeShapes
set_option linter.unusedVariables false
set_option linter.unusedSimpArgs false

theorem nolib_at (B : Nat) (w : World) : PrfS B w (.slice none 0 0) [] := ⟨[], rfl, CellsS.nil _ _, by simp⟩
/-- what Read hands back -/
def RlPost (w : World) (s : ByteArray) (e : Ending) (w' : World) : Prop :=
  ∃ v, e = .returned (.tuple #[v, .int .i64 (rdX s).2.1, .int .i64 (rdX s).1]) ∧ PrfS w'.heap.size w' v (rdX s).2.2 ∧ Below w.heap.size w w'
/-- the pointer to the last profile -/
def PtrOf (s v : Value) (l : List Prf) : Prop :=
  (l = [] ∧ s = .pointer none) ∨ ∃ l0 p g cap, l = l0 ++ [p] ∧ v = .slice (some ⟨g, 0, none⟩) (l0.length + 1) cap ∧ s = .pointer (some ⟨g, l0.length * 3, none⟩)

set_option maxRecDepth 100000 in
set_option maxHeartbeats 16000000 in
theorem libRead_any (s : ByteArray) (w : World) (hT : TextW w) (hn : s.size ≤ 9223372036854775807) :
    Calls Tryz.prog 12 #[.string s] w (RlPost w s) := by
  have HPO := Lib.hid (show ∀ e w', (∃ v, e = .returned (.tuple #[v, .int .i64 (rdX s).2.1, .int .i64 (rdX s).1]) ∧ PrfS w'.heap.size w' v (rdX s).2.2 ∧ Below w.heap.size w w') → RlPost w s e w' from fun e w' h => h)
  have HT := Lib.hid hT
  generalize RlPost w s = PO at *
  clear hT
  by_cases hL : 200000 < s.size
  · have HRP := Lib.hid (rdX_large hL)
    have hl2 : (200000 : Int) < (s.size : Int) := by omega
    generalize rdX s = rp at *
    go_enter Tryz.func12, Tryz.ntmps12
    go_wp2_with fail
    exact bodyPost_ret (v := .tuple #[.slice none 0 0, .int .i64 0, .int .i64 2]) (by simp [results, Tryz.results12, go_sem]) rfl (HPO.out _ _ ⟨.slice none 0 0, by rw [HRP.out], by rw [HRP.out]; exact nolib_at _ _, Below.refl _ _⟩)
  have hl2 : ¬ (200000 : Int) < (s.size : Int) := by omega
  have CL := Lib.hid (lines_any s w HT.out (by omega))
  have hll : (linesL s).length ≤ 200001 := by have := linesL_le s; omega
  have hls : ∀ k (hk : k < (linesL s).length), (linesL s)[k].size ≤ 200000 := fun k hk => by have := linesL_size s _ (List.getElem_mem hk); omega
  have HRP0 := Lib.hid (rdX_ok hL)
  unfold LinesPost at CL
  generalize rdX s = rp at *
  generalize linesL s = L at *
  generalize linesW s = wh at *
  clear hL
  go_enter Tryz.func12, Tryz.ntmps12
  go_wp2_with fail
  refine CL.out.mono ?_
  rintro e1 w3 ⟨lo, lcap, rfl, hrow, hb⟩
  have HB3 := Lib.hid hb
  have HROW := Lib.hid hrow
  clear hb hrow CL
  go_upto_region 6 with fail
  go_loopw [29, 7] (fun i v wr => ∃ (k : Nat) (l : List Prf), k ≤ L.length ∧ i = .int .i64 k ∧ Hid (LibO w3.heap.size wr v l) ∧ Hid (LibFit k l) ∧ Hid (rp = rdF (rdGo wh k (L.drop k) l)) ∧ Hid (Below w3.heap.size w3 wr)) (fun i _ _ => L.length - (intOf i).toNat)
  case atStart => exact ⟨0, [], Nat.zero_le _, rfl, Lib.hid (.inl ⟨rfl, rfl⟩), Lib.hid LibFit.nil, HRP0, Lib.hid (Below.refl _ _)⟩
  case round =>
    obtain ⟨k, l, hk, rfl, HLO, HFT, HRP, HBW⟩ := hrel
    have hzw := HBW.out.size
    by_cases hlt : k < L.length
    · obtain ⟨hao, hg, hrw⟩ := HROW.out (by intro e; subst e; simp at hlt)
      subst hao
      have hck := hrw k hlt
      rw [Nat.zero_add] at hck
      have d0 : wr.cell? ⟨w.heap.size, k, none⟩ = some (.string L[k]) := (HBW.out.cell (p := ⟨w.heap.size, k, none⟩) hg).trans hck
      have hxs := hls k hlt
      have HTW := Lib.hid (HT.out.below (HB3.out.trans (HBW.out.mono HB3.out.size)))
      have HBAD := Lib.hid (fun (h : addL l L[k] = none) => HRP.out.trans (rdGo_bad (wh := wh) hlt h))
      have HLAST := Lib.hid (fun (h1 : wh = false) (h2 : k + 1 = L.length) => HRP.out.trans (rdGo_last (l := l) hlt h1 h2))
      have HNEXT := Lib.hid (fun (h1 : ¬ (wh = false ∧ k + 1 = L.length)) m (h2 : addL l L[k] = some m) => HRP.out.trans (congrArg rdF (rdGo_step (wh := wh) hlt h1 h2)))
      have HFN := Lib.hid (fun m (h2 : addL l L[k] = some m) => addL_fit (by unfold maxLen; omega) HFT.out h2)
      obtain ⟨ao, cap, rfl⟩ := HLO.out.shape
      have hl0 : l.length ≤ k := HFT.out.1
      obtain ⟨n, hn⟩ : ∃ n : Nat, n = l.length := ⟨_, rfl⟩
      rw [← hn] at HLO hl0 ⊢
      have HNL := Lib.hid hn
      clear hn
      generalize L[k] = lk at *
      have hlts : (k : Int) < (L.length : Int) := by omega
      have hgr : w.heap.size < wr.heap.size := by omega
      clear hck hrw HROW hls HRP0 HRP
      obtain ⟨rt, hrt⟩ : ∃ rt : Bool, (rt = false ↔ (wh = false ∧ k + 1 = L.length)) := by
        by_cases h : wh = false ∧ k + 1 = L.length
        · exact ⟨false, fun _ => h, fun _ => rfl⟩
        · exact ⟨true, fun h => (by cases h), fun h2 => absurd h2 h⟩
      go_upto_region 8 with fail
      go_cut [10] (fun s wx => s = .bool rt ∧ wr = wx)
      case first =>
        cases wh
        · by_cases hkl : k + 1 = L.length
          · have hrv : rt = false := hrt.2 ⟨rfl, hkl⟩
            have hki : ¬ (k : Int) < (L.length : Int) - 1 := by omega
            go_wp2_with fail
            go_meet
            exact ⟨by rw [hrv], rfl⟩
          · have hrv : rt = true := by
              cases rt
              · exact absurd (hrt.1 rfl).2 hkl
              · rfl
            have hki : (k : Int) < (L.length : Int) - 1 := by omega
            go_wp2_with fail
            go_meet
            exact ⟨by rw [hrv], rfl⟩
        · have hrv : rt = true := by
            cases rt
            · exact absurd (hrt.1 rfl).1 (by decide)
            · rfl
          go_wp2_with fail
          go_meet
          exact ⟨by rw [hrv], rfl⟩
      case rest =>
      obtain ⟨rfl, rfl⟩ := hcut
      clear d0
      go_upto_if 44 with fail
      go_cut [11] (fun s wx => wr = wx ∧ PtrOf s (.slice ao n cap) l)
      case first =>
        rcases HLO.out with ⟨rfl, _⟩ | ⟨l0, nm, sz, pv, ps, rfl, hN⟩
        · have hn0 : n = 0 := HNL.out
          subst hn0
          go_wp2_with fail
          go_meet
          exact ⟨rfl, .inl ⟨rfl, rfl⟩⟩
        · obtain ⟨g, gc, e2, hg1, hg2⟩ := hN.at
          injection e2 with e2 e3 e4
          subst e2
          have hsub : ((n : Nat) : Int) - 1 = l0.length := by omega
          have hn0 : (0 : Int) < n := by omega
          have hsn := e3
          have HSN := Lib.hid hsn
          clear hN e3 hsn
          go_wp2_with fail
          all_goals first
            | (exfalso; omega)
            | (go_meet; exact ⟨rfl, .inr ⟨l0, _, g, cap, rfl, by rw [HSN.out], rfl⟩⟩)
      case rest =>
      obtain ⟨rfl, hp⟩ := hcut
      have HPT := Lib.hid hp
      clear hp
      have HBF := Lib.hid (HB3.out.trans (HBW.out.mono HB3.out.size))
      cases rt
      · have HG := Lib.hid (HLAST.out (hrt.1 rfl).1 (hrt.1 rfl).2)
        clear HBAD HNEXT HFN HLAST
        go_wp2_with fail
        exact bodyPost_ret (v := .tuple #[.slice none 0 0, .int .i64 ((k : Int) + 1), .int .i64 9]) (by simp [results, Tryz.results12, go_sem]) rfl (HPO.out _ _ ⟨.slice none 0 0, by rw [HG.out], by rw [HG.out]; exact nolib_at _ _, HBF.out⟩)
      have HNX := Lib.hid (fun m h => HNEXT.out (fun h => by have := hrt.2 h; cases this) m h)
      have C4 := Lib.hid (fun W => Tryz.strings_HasPrefix lk ⟨#[32, 32, 32, 32]⟩ W)
      have C2 := Lib.hid (fun W => Tryz.strings_HasPrefix lk ⟨#[32, 32]⟩ W)
      clear HLAST HNEXT hrt
      cases h4 : four lk
      rotate_left
      · have C4 := Lib.hid (fun W => (C4.out W).mono fun e w' h => (show e = .returned (.bool true) ∧ W = w' from ⟨by rw [h.1, show Lib.hasPrefix lk.data.toList [32, 32, 32, 32] = true from h4], h.2.symm⟩))
        have hsz4 := four_len h4
        have hsi : (4 : Int) ≤ lk.size := by omega
        have CR := Lib.hid (fun W (hb : Below wr.heap.size wr W) => readRange_any (cutN 4 lk) W (HTW.out.below hb) (by have := cutN_size 4 lk; omega))
        have HA4 := Lib.hid (fun (h : rngW (wordsB 32 (cutN 4 lk)) = none) => HBAD.out (add4_none h4 h))
        have HS4 := Lib.hid (fun l0 nm sz ps x r (e : l = l0 ++ [⟨nm, sz, ps ++ [x]⟩]) (h : rngW (wordsB 32 (cutN 4 lk)) = some r) => (show addL l lk = some (l0 ++ [⟨nm, sz, ps ++ [⟨x.name, x.grp, x.sl, x.fine, x.dflt, x.snap, x.rngs ++ [r]⟩]⟩]) from by rw [e]; exact add4_some h4 h))
        have HN4 := Lib.hid (fun (e : l = []) => HBAD.out (by rw [e]; exact add4_nil h4))
        have HB4R := Lib.hid (fun l0 nm sz (e : l = l0 ++ [⟨nm, sz, []⟩]) => HBAD.out (by rw [e]; exact add4_bare h4))
        generalize rngW (wordsB 32 (cutN 4 lk)) = RW at *
        unfold cutN at CR
        unfold RdR at CR
        clear HBAD h4 hsz4 C2
        rcases HPT.out with ⟨hle, rfl⟩ | ⟨l0, p, g, gc, rfl, hv, rfl⟩
        · have HG := Lib.hid (HN4.out hle)
          clear HA4 HS4 HN4 HPT HB4R
          go_wp2_with (first
            | (go_at_call 36; (with_reducible refine (C4.out _).mono ?_); rintro e w' ⟨rfl, rfl⟩)
            | fail)
          exact bodyPost_ret (v := .tuple #[.slice none 0 0, .int .i64 ((k : Int) + 1), .int .i64 9]) (by simp [results, Tryz.results12, go_sem]) rfl (HPO.out _ _ ⟨.slice none 0 0, by rw [HG.out], by rw [HG.out]; exact nolib_at _ _, HBF.out⟩)
        obtain ⟨l1, nm, sz, pv, ps, e1, hN⟩ := HLO.out.resolve_left (by simp)
        obtain ⟨e5, e6⟩ := List.append_inj' e1 rfl
        obtain rfl : l0 = l1 := e5
        obtain rfl : p = ⟨nm, sz, ps⟩ := by simpa using e6
        injection hv with hv1 hv2 hv3
        subst hv1 hv2 hv3
        have c2 := hN.cell.1
        have y2 := hN.cell.2
        obtain ⟨hg3, hg6⟩ : w3.heap.size ≤ g ∧ g < wr.heap.size := by obtain ⟨_, _, e, h0, h⟩ := hN.at; injection e with e; injection e with e; injection e with e; omega
        rcases snoc_cases ps with rfl | ⟨p0, x, rfl⟩
        · have HG := Lib.hid (HB4R.out l0 nm sz rfl)
          obtain ⟨pa, pc, hpv⟩ : ∃ pa pc, pv = .slice pa 0 pc := by
            obtain ⟨C, lv, _, _, _, _, _, h6⟩ := hN
            exact h6.shape
          subst hpv
          clear HA4 HS4 HN4 HPT HB4R hN
          go_wp2_with (first
            | (go_at_call 36; (with_reducible refine (C4.out _).mono ?_); rintro e w' ⟨rfl, rfl⟩)
            | fail)
          exact bodyPost_ret (v := .tuple #[.slice none 0 0, .int .i64 ((k : Int) + 1), .int .i64 9]) (by simp [results, Tryz.results12, go_sem]) rfl (HPO.out _ _ ⟨.slice none 0 0, by rw [HG.out], by rw [HG.out]; exact nolib_at _ _, HBF.out⟩)
        obtain ⟨rv, hM⟩ := hN.deep
        obtain ⟨_, ⟨g2, gc2, hpv, hk1, hk2⟩, ⟨rva, rvc, hrv⟩⟩ := hM.at
        subst hpv hrv
        have hsub2 : ((p0.length + 1 : Nat) : Int) - 1 = p0.length := by omega
        have hp0 : (0 : Int) < (p0.length : Int) + 1 := by omega
        have hp1 : (0 : Int) ≤ (p0.length : Int) := by omega
        have hp2 : (p0.length : Int) < (p0.length : Int) + 1 := by omega
        have hrl : x.rngs.length ≤ 1000000 := by have : x.rngs.length ≤ k := (HFT.out.2 ⟨nm, sz, p0 ++ [x]⟩ (by simp)).2.2 x (by simp); omega
        have hp3 : p0.length ≤ 1000000 := by have : (p0 ++ [x]).length ≤ k := (HFT.out.2 ⟨nm, sz, p0 ++ [x]⟩ (by simp)).2.1; simp at this; omega
        have hwp : IntKind.i64.wrap (p0.length : Int) = p0.length := IntWalk.i64_in _ (by omega)
        have HM := Lib.hid hM
        clear hN hM e1 e6 HPT HN4 HB4R
        go_upto_region 23 with (first
          | (go_at_call 36; (with_reducible refine (C4.out _).mono ?_); rintro e w' ⟨rfl, rfl⟩)
          | fail)
        go_cut [12] (fun s wx => s = .pointer (some ⟨g2, p0.length * 7, none⟩) ∧ Below wr.heap.size wr wx ∧ wx.heap.size = wr.heap.size)
        case first =>
          go_region
          all_goals go_wp2_with fail
          all_goals go_meet
          all_goals exact ⟨rfl, by first | exact Below.refl _ _ | exact (Below.refl _ _).drew, rfl⟩
        case rest =>
        obtain ⟨rfl, hbc, hzc⟩ := hcut
        have HC := Lib.hid hbc
        have HZC := Lib.hid hzc
        clear hzc hwp
        have HM := Lib.hid (HM.out.below hbc)
        clear hbc c2 y2 C4
        have HB4 := Lib.hid (show Below wc.heap.size wc (wc.alloc (.cells #[.int .i64 0, .int .i64 0, .string ⟨#[]⟩] 75)) from (Below.refl _ _).alloc (Nat.le_refl _) _)
        have BQ4 := Lib.hid (TBox.new wc #[.int .i64 0, .int .i64 0, .string ⟨#[]⟩] 75)
        go_upto_region 25 with fail
        obtain ⟨w4, hw4⟩ : ∃ y : World, y = wc.alloc (.cells #[.int .i64 0, .int .i64 0, .string ⟨#[]⟩] 75) := ⟨_, rfl⟩
        rw [← hw4] at HB4 BQ4 ⊢
        clear hw4
        have CR4 := Lib.hid (CR.out _ (HC.out.trans (HB4.out.mono (by have := HZC.out; omega))))
        clear CR
        go_wp2_with fail
        refine CR4.out.mono ?_
        rintro e1 w5 ⟨ra, rb, rn, rfl, hxv, hb⟩
        have hb45 := HB4.out.trans (hb.mono HB4.out.size)
        have BQ := BQ4.out.below hb
        have q0 := BQ.cell (i := 0) rfl
        have f0 := BQ.frozen 0
        have q1 := BQ.cell (i := 1) rfl
        have f1 := BQ.frozen 1
        have q2 := BQ.cell (i := 2) rfl
        have f2 := BQ.frozen 2
        have ql := BQ.lt
        have HB6 := Lib.hid (show Below wc.heap.size wc (((w5.setCell ⟨wc.heap.size, 0, none⟩ (.int .i64 ra)).setCell ⟨wc.heap.size, 1, none⟩ (.int .i64 rb)).setCell ⟨wc.heap.size, 2, none⟩ (.string rn)) from ((((hb45).setCell (Nat.le_refl _) (.int .i64 ra)).setCell (Nat.le_refl _) (.int .i64 rb)).setCell (Nat.le_refl _) (.string rn)))
        have BQ6 := Lib.hid (show TBox (((w5.setCell ⟨wc.heap.size, 0, none⟩ (.int .i64 ra)).setCell ⟨wc.heap.size, 1, none⟩ (.int .i64 rb)).setCell ⟨wc.heap.size, 2, none⟩ (.string rn)) wc.heap.size 75 #[.int .i64 ra, .int .i64 rb, .string rn] from (((BQ.set 0 (.int .i64 ra)).set 1 (.int .i64 rb)).set 2 (.string rn)))
        have HXV := Lib.hid hxv
        clear hb CR4 hb45 BQ BQ4 HB4 hxv
        go_upto_region 26 with fail
        obtain ⟨w6, hw6⟩ : ∃ y : World, y = (((w5.setCell ⟨wc.heap.size, 0, none⟩ (.int .i64 ra)).setCell ⟨wc.heap.size, 1, none⟩ (.int .i64 rb)).setCell ⟨wc.heap.size, 2, none⟩ (.string rn)) := ⟨_, rfl⟩
        rw [← hw6] at HB6 BQ6 ⊢
        clear hw6 ql q0 f0 q1 f1 q2 f2
        have HX6 := Lib.hid (HBW.out.trans ((HC.out.trans (HB6.out.mono (by have := HZC.out; omega))).mono HBW.out.size))
        have hM6 := HM.out.below HB6.out
        have c2 := hM6.cellR.1
        have y2 := hM6.cellR.2
        have BQ := BQ6.out
        have q0 := BQ.cell (i := 0) rfl
        have f0 := BQ.frozen 0
        have q1 := BQ.cell (i := 1) rfl
        have f1 := BQ.frozen 1
        have q2 := BQ.cell (i := 2) rfl
        have f2 := BQ.frozen 2
        have ql := BQ.lt
        have hg2 : g2 < w6.heap.size := by have := HB6.out.size; have := HZC.out; omega
        have hz6 : w3.heap.size ≤ w6.heap.size := by have := HB6.out.size; have := HZC.out; omega
        have OW1 := Lib.hid (hM6.drew.below ((Below.refl _ _).alloc (Nat.le_refl _) (.cells #[.int .i64 ra, .int .i64 rb, .string rn] 75)))
        have OW2 := Lib.hid ((hM6.below ((Below.refl _ _).alloc (Nat.le_refl _) (.cells #[.int .i64 ra, .int .i64 rb, .string rn] 75))).drew)
        clear hM6 HM BQ HC
        go_region_law (first
          | (refine step_libR rfl _ _ rfl rfl w3.heap.size _ l0 nm sz _ p0 x (.slice rva x.rngs.length rvc) (.slice rva x.rngs.length rvc) x.rngs ⟨ra, rb, rn⟩ ⟨w6.heap.size, 0, none⟩ rfl rfl (by first | exact OW1.out | exact OW2.out) (by first | exact libR_new w6 ⟨ra, rb, rn⟩ _ | exact libR_new w6.drew ⟨ra, rb, rn⟩ _) hrl ?_
             intro v' w8 hown8 hshape hgrow hbase
             obtain ⟨oa8, oc8, rfl⟩ := hshape
             have z1 := hown8.cellR.1
             have y1 := hown8.cellR.2)
          | fail)
        all_goals
          have HO9 := Lib.hid hown8.store.up
          have HB9 : Hid (Below w3.heap.size w3 (w8.setCell ⟨g2, p0.length * 7 + 6, none⟩ (.slice oa8 (x.rngs.length + 1) oc8))) := Lib.hid (Below.setCell (by
            first
              | exact (HX6.out.drew.alloc (by simpa using hz6) (.cells #[.int .i64 ra, .int .i64 rb, .string rn] 75)).grown hgrow (by simp; omega) hbase
              | exact ((HX6.out.alloc hz6 (.cells #[.int .i64 ra, .int .i64 rb, .string rn] 75)).drew).grown hgrow (by simp; omega) hbase) hk1 _)
          clear hown8 hgrow hbase OW1 OW2 HX6 c2 y2 z1 y1 HB6 BQ6 ql q0 f0 q1 f1 q2 f2
          generalize w8.setCell ⟨g2, p0.length * 7 + 6, none⟩ (.slice oa8 (x.rngs.length + 1) oc8) = w9 at *
          have HBF9 := Lib.hid (HB3.out.trans (HB9.out.mono HB3.out.size))
          cases RW with
          | none =>
            have HG := Lib.hid (HA4.out rfl)
            clear HA4 HS4 HXV
            try simp only [Option.isSome_none]
            go_wp2_with fail
            exact bodyPost_ret (v := .tuple #[.slice none 0 0, .int .i64 ((k : Int) + 1), .int .i64 9]) (by simp [results, Tryz.results12, go_sem]) rfl (HPO.out _ _ ⟨.slice none 0 0, by rw [HG.out], by rw [HG.out]; exact nolib_at _ _, HBF9.out⟩)
          | some y =>
            try simp only [Option.isSome_some]
            obtain rfl := HXV.out y rfl
            have hm := HS4.out l0 nm sz p0 x _ rfl rfl
            have HRN := Lib.hid (HNX.out _ hm)
            have HFT2 := Lib.hid (HFN.out _ hm)
            clear hm HA4 HS4 HXV HNX HFN HFT HNL
            go_wp2
            go_roundw
            case rel =>
              first
                | exact ⟨k + 1, _, by omega, by go_num, Lib.hid (.inr ⟨l0, nm, sz, _, _, rfl, HO9.out⟩), HFT2, HRN, HB9⟩
                | ((repeat apply Exists.intro); refine ⟨⟨k + 1, _, by omega, by go_num, Lib.hid (.inr ⟨l0, nm, sz, _, _, rfl, HO9.out⟩), HFT2, HRN, HB9⟩, ?_⟩; rfl)
            case measure => simp [intOf]; omega
      have C4 := Lib.hid (fun W => (C4.out W).mono fun e w' h => (show e = .returned (.bool false) ∧ W = w' from ⟨by rw [h.1, show Lib.hasPrefix lk.data.toList [32, 32, 32, 32] = false from h4], h.2.symm⟩))
      cases h2 : two lk
      rotate_left
      · have C2 := Lib.hid (fun W => (C2.out W).mono fun e w' h => (show e = .returned (.bool true) ∧ W = w' from ⟨by rw [h.1, show Lib.hasPrefix lk.data.toList [32, 32] = true from h2], h.2.symm⟩))
        have hsz2 := two_len h2
        have hsi : (2 : Int) ≤ lk.size := by omega
        have CP := Lib.hid (fun W (hb : Below wr.heap.size wr W) => readParam_any (cutN 2 lk) W (HTW.out.below hb) (by have := cutN_size 2 lk; omega))
        have HA2 := Lib.hid (fun (h : parW (wordsB 32 (cutN 2 lk)) = none) => HBAD.out (add2_none h4 h2 h))
        have HS2 := Lib.hid (fun l0 nm sz ps x (e : l = l0 ++ [⟨nm, sz, ps⟩]) (h : parW (wordsB 32 (cutN 2 lk)) = some x) => (show addL l lk = some (l0 ++ [⟨nm, sz, ps ++ [x]⟩]) from by rw [e]; exact add2_some h4 h2 h))
        have HN2 := Lib.hid (fun (e : l = []) => HBAD.out (by rw [e]; exact add2_nil h4 h2))
        generalize parW (wordsB 32 (cutN 2 lk)) = PW at *
        unfold cutN at CP
        unfold RdP at CP
        clear HBAD h4 h2 hsz2
        have HB4 := Lib.hid (show Below wr.heap.size wr (wr.alloc (.cells #[.string ⟨#[]⟩, .int .i64 0, .int .i64 0, .int .i64 0, .int .i64 0, .bool false, .slice none 0 0] 73)) from (Below.refl _ _).alloc (Nat.le_refl _) _)
        have BQ4 := Lib.hid (TBox.new wr #[.string ⟨#[]⟩, .int .i64 0, .int .i64 0, .int .i64 0, .int .i64 0, .bool false, .slice none 0 0] 73)
        go_upto_region 29 with (first
          | (go_at_call 36; (with_reducible refine (C4.out _).mono ?_); rintro e w' ⟨rfl, rfl⟩)
          | (go_at_call 36; (with_reducible refine (C2.out _).mono ?_); rintro e w' ⟨rfl, rfl⟩)
          | fail)
        obtain ⟨w4, hw4⟩ : ∃ x : World, x = wr.alloc (.cells #[.string ⟨#[]⟩, .int .i64 0, .int .i64 0, .int .i64 0, .int .i64 0, .bool false, .slice none 0 0] 73) := ⟨_, rfl⟩
        rw [← hw4] at HB4 BQ4 ⊢
        clear hw4 C4 C2
        have CP4 := Lib.hid (CP.out _ HB4.out)
        clear CP
        go_wp2_with fail
        refine CP4.out.mono ?_
        rintro e1 w5 ⟨⟨xn, xg, xs, xf, xd, xb, xr⟩, hxr, rfl, hxv, hb⟩
        simp only at hxr hxv
        subst hxr
        have hb45 := HB4.out.trans (hb.mono HB4.out.size)
        have BQ := BQ4.out.below hb
        have q0 := BQ.cell (i := 0) rfl
        have f0 := BQ.frozen 0
        have q1 := BQ.cell (i := 1) rfl
        have f1 := BQ.frozen 1
        have q2 := BQ.cell (i := 2) rfl
        have f2 := BQ.frozen 2
        have q3 := BQ.cell (i := 3) rfl
        have f3 := BQ.frozen 3
        have q4 := BQ.cell (i := 4) rfl
        have f4 := BQ.frozen 4
        have q5 := BQ.cell (i := 5) rfl
        have f5 := BQ.frozen 5
        have q6 := BQ.cell (i := 6) rfl
        have f6 := BQ.frozen 6
        have ql := BQ.lt
        have HB6 := Lib.hid (show Below wr.heap.size wr (((((((w5.setCell ⟨wr.heap.size, 0, none⟩ (.string xn)).setCell ⟨wr.heap.size, 1, none⟩ (.int .i64 xg)).setCell ⟨wr.heap.size, 2, none⟩ (.int .i64 xs)).setCell ⟨wr.heap.size, 3, none⟩ (.int .i64 xf)).setCell ⟨wr.heap.size, 4, none⟩ (.int .i64 xd)).setCell ⟨wr.heap.size, 5, none⟩ (.bool xb)).setCell ⟨wr.heap.size, 6, none⟩ (.slice none 0 0)) from ((((((((hb45).setCell (Nat.le_refl _) (.string xn)).setCell (Nat.le_refl _) (.int .i64 xg)).setCell (Nat.le_refl _) (.int .i64 xs)).setCell (Nat.le_refl _) (.int .i64 xf)).setCell (Nat.le_refl _) (.int .i64 xd)).setCell (Nat.le_refl _) (.bool xb)).setCell (Nat.le_refl _) (.slice none 0 0)))
        have BQ6 := Lib.hid (show TBox (((((((w5.setCell ⟨wr.heap.size, 0, none⟩ (.string xn)).setCell ⟨wr.heap.size, 1, none⟩ (.int .i64 xg)).setCell ⟨wr.heap.size, 2, none⟩ (.int .i64 xs)).setCell ⟨wr.heap.size, 3, none⟩ (.int .i64 xf)).setCell ⟨wr.heap.size, 4, none⟩ (.int .i64 xd)).setCell ⟨wr.heap.size, 5, none⟩ (.bool xb)).setCell ⟨wr.heap.size, 6, none⟩ (.slice none 0 0)) wr.heap.size 73 #[.string xn, .int .i64 xg, .int .i64 xs, .int .i64 xf, .int .i64 xd, .bool xb, .slice none 0 0] from (((((((BQ.set 0 (.string xn)).set 1 (.int .i64 xg)).set 2 (.int .i64 xs)).set 3 (.int .i64 xf)).set 4 (.int .i64 xd)).set 5 (.bool xb)).set 6 (.slice none 0 0)))
        have HXV := Lib.hid hxv
        clear hb CP4 hb45 BQ BQ4 HB4 hxv
        go_upto_region 30 with fail
        obtain ⟨w6, hw6⟩ : ∃ x : World, x = (((((((w5.setCell ⟨wr.heap.size, 0, none⟩ (.string xn)).setCell ⟨wr.heap.size, 1, none⟩ (.int .i64 xg)).setCell ⟨wr.heap.size, 2, none⟩ (.int .i64 xs)).setCell ⟨wr.heap.size, 3, none⟩ (.int .i64 xf)).setCell ⟨wr.heap.size, 4, none⟩ (.int .i64 xd)).setCell ⟨wr.heap.size, 5, none⟩ (.bool xb)).setCell ⟨wr.heap.size, 6, none⟩ (.slice none 0 0)) := ⟨_, rfl⟩
        rw [← hw6] at HB6 BQ6 ⊢
        clear hw6 ql q0 f0 q1 f1 q2 f2 q3 f3 q4 f4 q5 f5 q6 f6
        have HBF6 := Lib.hid (HBF.out.trans (HB6.out.mono HBF.out.size))
        rcases HPT.out with ⟨hle, rfl⟩ | ⟨l0, p, g, gc, rfl, hv, rfl⟩
        · have HG := Lib.hid (HN2.out hle)
          clear HA2 HS2 HN2 HPT HXV
          cases PW with
          | none =>
            try simp only [Option.isSome_none]
            go_wp2_with fail
            exact bodyPost_ret (v := .tuple #[.slice none 0 0, .int .i64 ((k : Int) + 1), .int .i64 9]) (by simp [results, Tryz.results12, go_sem]) rfl (HPO.out _ _ ⟨.slice none 0 0, by rw [HG.out], by rw [HG.out]; exact nolib_at _ _, HBF6.out⟩)
          | some y =>
            try simp only [Option.isSome_some]
            go_wp2_with fail
            exact bodyPost_ret (v := .tuple #[.slice none 0 0, .int .i64 ((k : Int) + 1), .int .i64 9]) (by simp [results, Tryz.results12, go_sem]) rfl (HPO.out _ _ ⟨.slice none 0 0, by rw [HG.out], by rw [HG.out]; exact nolib_at _ _, HBF6.out⟩)
        cases PW with
        | none =>
          have HG := Lib.hid (HA2.out rfl)
          clear HA2 HS2 HN2 HPT HXV
          try simp only [Option.isSome_none]
          go_wp2_with fail
          exact bodyPost_ret (v := .tuple #[.slice none 0 0, .int .i64 ((k : Int) + 1), .int .i64 9]) (by simp [results, Tryz.results12, go_sem]) rfl (HPO.out _ _ ⟨.slice none 0 0, by rw [HG.out], by rw [HG.out]; exact nolib_at _ _, HBF6.out⟩)
        | some y =>
        try simp only [Option.isSome_some]
        obtain rfl := HXV.out y rfl
        obtain ⟨l1, nm, sz, pv, ps, e1, hN⟩ := HLO.out.resolve_left (by simp)
        obtain ⟨e5, e6⟩ := List.append_inj' e1 rfl
        obtain rfl : l0 = l1 := e5
        obtain rfl : p = ⟨nm, sz, ps⟩ := by simpa using e6
        injection hv with hv1 hv2 hv3
        subst hv1 hv2 hv3
        have hm := HS2.out l0 nm sz ps _ rfl rfl
        have HRN := Lib.hid (HNX.out _ hm)
        have HFT2 := Lib.hid (HFN.out _ hm)
        have hpl : ps.length ≤ 1000000 := by have : ps.length ≤ k := (HFT.out.2 ⟨nm, sz, ps⟩ (by simp)).2.1; omega
        have hN6 := hN.below HB6.out
        clear hm e1 e6 HA2 HS2 HN2 HPT HXV HNX HFN HFT HNL
        obtain ⟨pa, pc, hpv⟩ : ∃ pa pc, pv = .slice pa ps.length pc := by
          obtain ⟨C, lv, _, _, _, _, _, h6⟩ := hN6
          exact h6.shape
        subst hpv
        have c2 := hN6.cell.1
        have y2 := hN6.cell.2
        have BQ := BQ6.out
        have q0 := BQ.cell (i := 0) rfl
        have f0 := BQ.frozen 0
        have q1 := BQ.cell (i := 1) rfl
        have f1 := BQ.frozen 1
        have q2 := BQ.cell (i := 2) rfl
        have f2 := BQ.frozen 2
        have q3 := BQ.cell (i := 3) rfl
        have f3 := BQ.frozen 3
        have q4 := BQ.cell (i := 4) rfl
        have f4 := BQ.frozen 4
        have q5 := BQ.cell (i := 5) rfl
        have f5 := BQ.frozen 5
        have q6 := BQ.cell (i := 6) rfl
        have f6 := BQ.frozen 6
        have ql := BQ.lt
        obtain ⟨hg3, hg6⟩ : w3.heap.size ≤ g ∧ g < w6.heap.size := by obtain ⟨_, _, e, h0, h⟩ := hN6.at; injection e with e; injection e with e; injection e with e; omega
        have HN6 := Lib.hid hN6
        clear hN hN6 BQ
        go_upto_region 32 with fail
        have OW1 := Lib.hid (HN6.out.drew.below ((Below.refl _ _).alloc (Nat.le_refl _) (.cells #[.string xn, .int .i64 xg, .int .i64 xs, .int .i64 xf, .int .i64 xd, .bool xb, .slice none 0 0] 73)))
        have OW2 := Lib.hid ((HN6.out.below ((Below.refl _ _).alloc (Nat.le_refl _) (.cells #[.string xn, .int .i64 xg, .int .i64 xs, .int .i64 xf, .int .i64 xd, .bool xb, .slice none 0 0] 73))).drew)
        have hz6 : w3.heap.size ≤ w6.heap.size := by have := HB6.out.size; omega
        have HX6 := Lib.hid (HBW.out.trans (HB6.out.mono HBW.out.size))
        go_region_law (first
          | (refine step_libP rfl _ _ rfl rfl w3.heap.size _ l0 nm sz (.slice pa ps.length pc) (.slice pa ps.length pc) ps ⟨xn, xg, xs, xf, xd, xb, []⟩ ⟨w6.heap.size, 0, none⟩ rfl rfl rfl (by first | exact OW1.out | exact OW2.out) (by first | exact ownP_new w6 (⟨xn, xg, xs, xf, xd, xb, []⟩, .slice none 0 0) _ | exact ownP_new w6.drew (⟨xn, xg, xs, xf, xd, xb, []⟩, .slice none 0 0) _) hpl ?_
             intro v' w8 hown8 hshape hgrow hbase
             obtain ⟨oa8, oc8, rfl⟩ := hshape
             have z1 := hown8.cell.1
             have y1 := hown8.cell.2)
          | fail)
        all_goals
          have HO9 := Lib.hid hown8.store
          have HB9 : Hid (Below w3.heap.size w3 (w8.setCell ⟨g, l0.length * 3 + 2, none⟩ (.slice oa8 (ps.length + 1) oc8))) := Lib.hid (Below.setCell (by
            first
              | exact (HX6.out.drew.alloc (by simpa using hz6) (.cells #[.string xn, .int .i64 xg, .int .i64 xs, .int .i64 xf, .int .i64 xd, .bool xb, .slice none 0 0] 73)).grown hgrow (by simp; omega) hbase
              | exact ((HX6.out.alloc hz6 (.cells #[.string xn, .int .i64 xg, .int .i64 xs, .int .i64 xf, .int .i64 xd, .bool xb, .slice none 0 0] 73)).drew).grown hgrow (by simp; omega) hbase) hg3 _)
          clear hown8 hgrow hbase OW1 OW2 HX6 HN6 c2 y2 z1 y1 HB6 HBF6 BQ6 ql q0 f0 q1 f1 q2 f2 q3 f3 q4 f4 q5 f5 q6 f6
          generalize w8.setCell ⟨g, l0.length * 3 + 2, none⟩ (.slice oa8 (ps.length + 1) oc8) = w9 at *
          go_wp2
          go_roundw
          case rel =>
            first
              | exact ⟨k + 1, _, by omega, by go_num, Lib.hid (.inr ⟨l0, nm, sz, _, _, rfl, HO9.out⟩), HFT2, HRN, HB9⟩
              | ((repeat apply Exists.intro); refine ⟨⟨k + 1, _, by omega, by go_num, Lib.hid (.inr ⟨l0, nm, sz, _, _, rfl, HO9.out⟩), HFT2, HRN, HB9⟩, ?_⟩; rfl)
          case measure => simp [intOf]; omega
      · have C2 := Lib.hid (fun W => (C2.out W).mono fun e w' h => (show e = .returned (.bool false) ∧ W = w' from ⟨by rw [h.1, show Lib.hasPrefix lk.data.toList [32, 32] = false from h2], h.2.symm⟩))
        have CS := Lib.hid (split_any 32 lk wr HTW.out (by omega))
        unfold SplitPost at CS
        have HWS := Lib.hid (fun x hx => Nat.le_trans (wordsB_size 32 lk x hx) hxs)
        have hwle : (wordsB 32 lk).length ≤ 200001 := by have := wordsB_le 32 lk; omega
        have HA0 := Lib.hid (fun (h : prfW (wordsB 32 lk) = none) => HBAD.out (add0_none h4 h2 h))
        have HS0 := Lib.hid (fun p (h : prfW (wordsB 32 lk) = some p) => (show addL l lk = some (l ++ [p]) from add0_some h4 h2 h))
        generalize wordsB 32 lk = WL at *
        clear HBAD h4 h2 HPT
        go_wp2_with (first
          | (go_at_call 36; (with_reducible refine (C4.out _).mono ?_); rintro e w' ⟨rfl, rfl⟩)
          | (go_at_call 36; (with_reducible refine (C2.out _).mono ?_); rintro e w' ⟨rfl, rfl⟩)
          | fail)
        refine CS.out.mono ?_
        rintro e1 w5 ⟨rfl, hr, hb, hlt5⟩
        have HR := Lib.hid hb
        have HBF5 := Lib.hid (HBF.out.trans (hb.mono HBF.out.size))
        clear hb CS C4 C2
        by_cases h3 : WL.length = 3
        rotate_left
        · have HG := Lib.hid (HA0.out (prfW_no h3))
          have h3i : (((WL.length : Nat) : Int) == 3) = false := by simp; omega
          have h3j : ¬ ((WL.length : Nat) : Int) = 3 := by omega
          clear HA0 HS0 hr h3
          go_wp2_with fail
          exact bodyPost_ret (v := .tuple #[.slice none 0 0, .int .i64 ((k : Int) + 1), .int .i64 9]) (by simp [results, Tryz.results12, go_sem]) rfl (HPO.out _ _ ⟨.slice none 0 0, by rw [HG.out], by rw [HG.out]; exact nolib_at _ _, HBF5.out⟩)
        obtain ⟨a, b, c, rfl⟩ := slist3 h3
        have r0 : w5.cell? ⟨wr.heap.size, 0, none⟩ = some (.string a) := hr 0 (by simp)
        have r1 : w5.cell? ⟨wr.heap.size, 1, none⟩ = some (.string b) := hr 1 (by simp)
        have r2 : w5.cell? ⟨wr.heap.size, 2, none⟩ = some (.string c) := hr 2 (by simp)
        have sb : b.size ≤ 200000 := HWS.out b (by simp)
        have sc : c.size ≤ 200000 := HWS.out c (by simp)
        have HRW := Lib.hid (fun W => row_any b W (by unfold maxLen; omega))
        have HE := Lib.hid (prfW_three a b c)
        obtain ⟨nv, nf, hn1, hn2⟩ := num_f c (by omega)
        have CN := Lib.hid hn1
        have HNV := Lib.hid hn2
        generalize prfW [a, b, c] = RES at *
        clear hr h3 HWS hwle hn1 hn2
        generalize rowB b.data.toList = rb at *
        go_wp2_with fail
        refine (CN.out _).mono ?_
        rintro e1 w6 ⟨rfl, hb⟩
        have r0 := (hb.cell (p := ⟨wr.heap.size, 0, none⟩) hlt5).trans r0
        have r1 := (hb.cell (p := ⟨wr.heap.size, 1, none⟩) hlt5).trans r1
        have hlt6 : wr.heap.size < w6.heap.size := Nat.lt_of_lt_of_le hlt5 hb.size
        have HR6 := Lib.hid (HR.out.trans (hb.mono HR.out.size))
        have HBF6 := Lib.hid (HBF5.out.trans (hb.mono HBF5.out.size))
        clear hb CN r2 hlt5 HR HBF5
        cases nf
        · have HG := Lib.hid (HA0.out (by
            rw [HE.out]
            rcases HNV.out with ⟨h, _⟩ | ⟨_, h⟩
            · cases h
            · rw [h]; simp))
          clear HA0 HS0 HE HNV
          go_wp2_with fail
          exact bodyPost_ret (v := .tuple #[.slice none 0 0, .int .i64 ((k : Int) + 1), .int .i64 9]) (by simp [results, Tryz.results12, go_sem]) rfl (HPO.out _ _ ⟨.slice none 0 0, by rw [HG.out], by rw [HG.out]; exact nolib_at _ _, HBF6.out⟩)
        by_cases ha : a = sProf
        rotate_left
        · have HG := Lib.hid (HA0.out (by rw [HE.out, if_neg (fun h => ha h.1)]))
          have hq : (a.toList == [112, 114, 111, 102, 105, 108, 101]) = false := beqL ha rfl
          clear HA0 HS0 HE HNV ha
          go_wp2_with fail
          exact bodyPost_ret (v := .tuple #[.slice none 0 0, .int .i64 ((k : Int) + 1), .int .i64 9]) (by simp [results, Tryz.results12, go_sem]) rfl (HPO.out _ _ ⟨.slice none 0 0, by rw [HG.out], by rw [HG.out]; exact nolib_at _ _, HBF6.out⟩)
        have HE2 := Lib.hid (show RES = if rb = true then (nbW c).map fun k => ⟨b, k, []⟩ else none by
          rw [HE.out]
          by_cases h : rb = true
          · rw [if_pos ⟨ha, h⟩, if_pos h]
          · rw [if_neg (fun k => h k.2), if_neg h])
        clear HE
        subst ha
        unfold sProf at *
        cases rb
        · have HG := Lib.hid (HA0.out HE2.out)
          clear HA0 HS0 HE2 HNV
          go_wp2_with fail
          refine (HRW.out _).mono ?_
          rintro e1 w' ⟨rfl, rfl⟩
          go_wp2_with fail
          exact bodyPost_ret (v := .tuple #[.slice none 0 0, .int .i64 ((k : Int) + 1), .int .i64 9]) (by simp [results, Tryz.results12, go_sem]) rfl (HPO.out _ _ ⟨.slice none 0 0, by rw [HG.out], by rw [HG.out]; exact nolib_at _ _, HBF6.out⟩)
        have hres : RES = some ⟨b, nv, []⟩ := by
          rw [HE2.out, if_pos rfl]
          rcases HNV.out with ⟨_, h⟩ | ⟨h, _⟩
          · rw [h]; rfl
          · cases h
        have hm := HS0.out _ hres
        have HRN := Lib.hid (HNX.out _ hm)
        have HFT2 := Lib.hid (HFN.out _ hm)
        have hll2 : l.length ≤ 1000000 := by have := HNL.out; omega
        have hL6 := HLO.out.below HR6.out
        have OW1 := Lib.hid (hL6.below ((Below.refl _ _).alloc (Nat.le_refl _) (.cells #[.string b, .int .i64 nv, .slice none 0 0] 70)))
        have hz6 : w3.heap.size ≤ w6.heap.size := by have := HR6.out.size; omega
        have HX6 := Lib.hid ((HBW.out.trans (HR6.out.mono HBW.out.size)).alloc hz6 (.cells #[.string b, .int .i64 nv, .slice none 0 0] 70))
        clear hm hres HA0 HS0 HE2 HNV HNX HFN hL6
        go_wp2_with fail
        refine (HRW.out _).mono ?_
        rintro e1 w' ⟨rfl, rfl⟩
        clear HRW
        go_wp2_with (first
          | (refine wpList_libL rfl _ _ rfl w3.heap.size _ (.slice ao n cap) l b nv ⟨w6.heap.size, 0, none⟩ rfl rfl OW1.out (ownL_new w6 (⟨b, nv, []⟩, .slice none 0 0) _) hll2 (by simp; omega) ?_
             intro v' w8 hown8 hshape hgrow hbase hOther
             obtain ⟨oa8, oc8, rfl⟩ := hshape
             have HO9 := Lib.hid hown8
             have HB9 := Lib.hid (HX6.out.grown hgrow (by simp; omega) hbase)
             clear hown8 hgrow hbase hOther)
          | fail)
        go_roundw
        case rel => exact ⟨k + 1, _, by omega, by go_num, HO9, HFT2, HRN, HB9⟩
        case measure => simp [intOf]; omega
    · have hkk : k = L.length := by omega
      subst hkk
      have HGD := Lib.hid (HRP.out.trans (rdGo_end wh L l))
      obtain ⟨ao, cap, rfl⟩ := HLO.out.shape
      have CK := Lib.hid (ckLibrary_any (.slice ao l.length cap) l wr HLO.out.prfS (fun p hp => (HFT.out.2 p hp).1))
      have HBF := Lib.hid (HB3.out.trans (HBW.out.mono HB3.out.size))
      have HPS := Lib.hid HLO.out.prfS
      have hlts : ¬ ((L.length : Nat) : Int) < (L.length : Int) := by omega
      by_cases hE : chkLib l = 0
      · rw [if_pos hE] at HGD
        rw [hE] at CK
        clear HRP HROW hls HRP0
        go_wp2_with fail
        refine CK.out.mono ?_
        rintro e w5 ⟨rfl, hb⟩
        have HB5 := Lib.hid (HBF.out.trans (hb.mono HBF.out.size))
        have HP5 := Lib.hid ((HPS.out.below hb).more hb.size)
        clear hb CK
        go_wp2_with fail
        exact bodyPost_ret (v := .tuple #[.slice ao l.length cap, .int .i64 0, .int .i64 0]) (by simp [results, Tryz.results12, go_sem]) rfl (HPO.out _ _ ⟨.slice ao l.length cap, by rw [HGD.out], by rw [HGD.out]; exact HP5.out, HB5.out⟩)
      · rw [if_neg hE] at HGD
        have he2 : (chkLib l == 0) = false := by simpa using hE
        clear HRP HROW hls HRP0
        generalize chkLib l = cr at *
        go_wp2_with fail
        refine CK.out.mono ?_
        rintro e w5 ⟨rfl, hb⟩
        have HB5 := Lib.hid (HBF.out.trans (hb.mono HBF.out.size))
        clear hb CK
        go_wp2_with fail
        exact bodyPost_ret (v := .tuple #[.slice none 0 0, .int .i64 0, .int .i64 cr]) (by simp [results, Tryz.results12, go_sem]) rfl (HPO.out _ _ ⟨.slice none 0 0, by rw [HGD.out], by rw [HGD.out]; exact nolib_at _ _, HB5.out⟩)
end Go.Proofs.YtppbagllhmeenaaGreatDoor
