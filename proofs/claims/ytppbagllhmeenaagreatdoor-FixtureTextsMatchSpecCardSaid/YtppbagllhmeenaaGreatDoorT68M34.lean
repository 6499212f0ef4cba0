/- The reference's add: any library under way, any line. (printed by wip/gen/gen_rlibadd.py) -/
import Derived.Test.YtppbagllhmeenaaGreatDoorT68M29
import Derived.Test.YtppbagllhmeenaaGreatDoorT68M30
import Derived.Test.YtppbagllhmeenaaGreatDoorT68M33

namespace Go.Proofs.YtppbagllhmeenaaGreatDoor
open Go.RowKit
open Go.ChangeShapes
set_option linter.unusedVariables false
set_option linter.unusedSimpArgs false

/-- what add hands back -/
def RAddPost (base : Nat) (w : World) (l : List Prf) (s : ByteArray) (e : Ending) (w' : World) : Prop :=
  ∃ ao n cap, ((addL l s = none ∧ e = .returned (.tuple #[.slice ao n cap, .bool false])) ∨ ∃ m, addL l s = some m ∧ e = .returned (.tuple #[.slice ao n cap, .bool true]) ∧ LibO base w' (.slice ao n cap) m) ∧ Below base w w'

set_option maxRecDepth 100000 in
set_option maxHeartbeats 16000000 in
theorem radd_any (base : Nat) (l : List Prf) (ao : Option Addr) (n cap k : Nat) (s : ByteArray) (w : World) (hT : TextW w) (hs : s.size ≤ 200000) (hnl : n = l.length) (hO : LibO base w (.slice ao n cap) l) (hF : LibFit k l) (hk : k ≤ 200001) (hb : base ≤ w.heap.size) :
    Calls Tryz.prog 41 #[.slice ao n cap, .string s] w (RAddPost base w l s) := by
  have HPO := Lib.hid (show ∀ e w', (∃ ao n cap, ((addL l s = none ∧ e = .returned (.tuple #[.slice ao n cap, .bool false])) ∨ ∃ m, addL l s = some m ∧ e = .returned (.tuple #[.slice ao n cap, .bool true]) ∧ LibO base w' (.slice ao n cap) m) ∧ Below base w w') → RAddPost base w l s e w' from fun e w' h => h)
  generalize RAddPost base w l s = PO at *
  have HLO := Lib.hid hO
  have HFT := Lib.hid hF
  have HNL := Lib.hid hnl
  have hll2 : n ≤ 1000000 := by have := hF.1; omega
  have hll3 : l.length ≤ 1000000 := by have := hF.1; omega
  have CT := Lib.hid (fun W => rtrim_any s W (by omega))
  have hre := rest_le s
  have HAD := Lib.hid (add_eq l s)
  unfold addR' at HAD
  have hld : (s.size : Int) - ((restB s).size : Int) = (leadN s : Int) := by unfold leadN; omega
  have CS := Lib.hid (split_any 32 (restB s) w hT (by omega))
  unfold SplitPost at CS
  have HWS := Lib.hid (fun x hx => Nat.le_trans (wordsB_size 32 (restB s) x hx) (Nat.le_trans hre hs))
  have hwle : (wordsB 32 (restB s)).length ≤ 200001 := by have := wordsB_le 32 (restB s); omega
  generalize wordsB 32 (restB s) = WL at *
  generalize leadN s = ld at *
  generalize hrs : restB s = rs at *
  clear hT hO hF hnl hrs
  go_enter Tryz.func41, Tryz.ntmps41
  go_wp2_with fail
  refine (CT.out _).mono ?_
  rintro e1 w' ⟨rfl, rfl⟩
  go_wp2_with fail
  refine CS.out.mono ?_
  rintro e1 w5 ⟨rfl, hr, hb5, hlt5⟩
  have HR := Lib.hid hr
  have HB := Lib.hid hb5
  have HB5 := Lib.hid (hb5.mono hb)
  clear hr hb5 CS CT
  by_cases h0 : ld = 0
  · subst h0
    have hll2 := hll3
    have HA := Lib.hid (show addL l s = (prfW WL).map fun p => l ++ [p] by rw [HAD.out]; rfl)
    clear HAD
    by_cases h3 : WL.length = 3
    rotate_left
    · have HG := Lib.hid (show addL l s = none by rw [HA.out, prfW_no h3]; rfl)
      have h3i : (((WL.length : Nat) : Int) != 3) = true := by simp; omega
      have h3j : ¬ ((WL.length : Nat) : Int) = 3 := by omega
      clear HA HR h3
      go_wp2_with fail
      exact HPO.out _ _ ⟨none, 0, 0, .inl ⟨HG.out, rfl⟩, HB5.out⟩
    obtain ⟨a, b, c, rfl⟩ := slist3 h3
    have r0 : w5.cell? ⟨w.heap.size, 0, none⟩ = some (.string a) := HR.out 0 (by simp)
    have r1 : w5.cell? ⟨w.heap.size, 1, none⟩ = some (.string b) := HR.out 1 (by simp)
    have r2 : w5.cell? ⟨w.heap.size, 2, none⟩ = some (.string c) := HR.out 2 (by simp)
    have sb : b.size ≤ 200000 := HWS.out b (by simp)
    have sc : c.size ≤ 200000 := HWS.out c (by simp)
    have HRW := Lib.hid (fun W => isWord_any b W (by unfold maxLen; omega))
    have HE := Lib.hid (prfW_three a b c)
    obtain ⟨nv, nf, hn1, hn2⟩ := rnum_f c (by omega)
    have CN := Lib.hid hn1
    have HNV := Lib.hid hn2
    generalize prfW [a, b, c] = RES at *
    clear HR h3 HWS hwle hn1 hn2
    generalize rowB b.data.toList = rb at *
    by_cases ha : a = sProf
    rotate_left
    · have HG := Lib.hid (show addL l s = none by rw [HA.out, HE.out, if_neg (fun h => ha h.1)]; rfl)
      have hq : (a.toList == [112, 114, 111, 102, 105, 108, 101]) = false := beqL ha rfl
      clear HA HE HNV ha
      go_wp2_with fail
      exact HPO.out _ _ ⟨none, 0, 0, .inl ⟨HG.out, rfl⟩, HB5.out⟩
    have HE2 := Lib.hid (show RES = if rb = true then (nbW c).map fun k => ⟨b, k, []⟩ else none by
      rw [HE.out]
      by_cases h : rb = true
      · rw [if_pos ⟨ha, h⟩, if_pos h]
      · rw [if_neg (fun k => h k.2), if_neg h])
    clear HE
    subst ha
    unfold sProf at *
    cases rb
    · have HG := Lib.hid (show addL l s = none by rw [HA.out, HE2.out]; rfl)
      clear HA HE2 HNV
      go_wp2_with fail
      refine (HRW.out _).mono ?_
      rintro e1 w' ⟨rfl, rfl⟩
      go_wp2_with fail
      exact HPO.out _ _ ⟨none, 0, 0, .inl ⟨HG.out, rfl⟩, HB5.out⟩
    go_wp2_with fail
    refine (HRW.out _).mono ?_
    rintro e1 w' ⟨rfl, rfl⟩
    clear HRW
    go_wp2_with fail
    refine (CN.out _).mono ?_
    rintro e1 w6 ⟨rfl, hb⟩
    have r1 := (hb.cell (p := ⟨w.heap.size, 1, none⟩) hlt5).trans r1
    have hlt6 : w.heap.size < w6.heap.size := Nat.lt_of_lt_of_le hlt5 hb.size
    have HR6 := Lib.hid (HB.out.trans (hb.mono HB.out.size))
    have HB6 := Lib.hid (HB5.out.trans (hb.mono (by omega)))
    clear hb CN r2 r0 hlt5 HB HB5
    have hL6 := HLO.out.below HR6.out
    have OW1 := Lib.hid (hL6.below ((Below.refl _ _).alloc (Nat.le_refl _) (.cells #[.string b, .int .i64 nv, .slice none 0 0] 70)))
    have hz6 : base ≤ w6.heap.size := by omega
    have HX6 := Lib.hid (HB6.out.alloc hz6 (.cells #[.string b, .int .i64 nv, .slice none 0 0] 70))
    clear hL6
    go_wp2_with (first
      | (refine wpList_libL rfl _ _ rfl base _ (.slice ao n cap) l b nv ⟨w6.heap.size, 0, none⟩ rfl rfl OW1.out (ownL_new w6 (⟨b, nv, []⟩, .slice none 0 0) _) hll2 (by simp; omega) ?_
         intro v' w8 hown8 hshape hgrow hbase hOther
         obtain ⟨oa8, oc8, rfl⟩ := hshape
         have HO9 := Lib.hid hown8
         have HB9 := Lib.hid (HX6.out.grown hgrow (by simp; omega) hbase)
         clear hown8 hgrow hbase hOther)
      | fail)
    exact (HPO.out _ _ ⟨oa8, _, oc8, by
      rcases HNV.out with ⟨rfl, h⟩ | ⟨rfl, h⟩
      · exact .inr ⟨_, by rw [HA.out, HE2.out, if_pos trivial, h]; rfl, rfl, HO9.out⟩
      · exact .inl ⟨by rw [HA.out, HE2.out, if_pos trivial, h]; rfl, rfl⟩, HB9.out⟩)
  by_cases h2 : ld = 2
  · subst h2
    have HA := Lib.hid (show addL l s = (parW WL).bind fun x => onLast (fun p => some (addP x p)) l by rw [HAD.out]; rfl)
    clear HAD
    have CP := Lib.hid (rreadParam_any WL w.heap.size w5 HR.out hlt5 HWS.out hwle)
    unfold RdP at CP
    generalize parW WL = PW at *
    clear HR
    go_wp2_with fail
    refine CP.out.mono ?_
    rintro e1 w6 ⟨⟨xn, xg, xs, xf, xd, xb, xr⟩, hxr, rfl, hxv, hb⟩
    simp only at hxr hxv
    subst hxr
    have HXV := Lib.hid hxv
    have HR6 := Lib.hid (HB.out.trans (hb.mono HB.out.size))
    have HB6 := Lib.hid (HB5.out.trans (hb.mono (by omega)))
    have hz6 : base ≤ w6.heap.size := by have := HR6.out.size; omega
    clear hb CP hxv HB HB5
    have HR7 := Lib.hid (HR6.out.alloc HR6.out.size (.cells #[.string xn, .int .i64 xg, .int .i64 xs, .int .i64 xf, .int .i64 xd, .bool xb, .slice none 0 0] 73))
    have HB7 := Lib.hid (HB6.out.alloc hz6 (.cells #[.string xn, .int .i64 xg, .int .i64 xs, .int .i64 xf, .int .i64 xd, .bool xb, .slice none 0 0] 73))
    have BQ7 := Lib.hid (TBox.new w6 #[.string xn, .int .i64 xg, .int .i64 xs, .int .i64 xf, .int .i64 xd, .bool xb, .slice none 0 0] 73)
    go_upto_region 11 with fail
    obtain ⟨w7, hw7⟩ : ∃ x : World, x = w6.alloc (.cells #[.string xn, .int .i64 xg, .int .i64 xs, .int .i64 xf, .int .i64 xd, .bool xb, .slice none 0 0] 73) := ⟨_, rfl⟩
    rw [← hw7] at HR7 HB7 BQ7 ⊢
    clear hw7
    cases PW with
    | none =>
      have HG := Lib.hid (show addL l s = none from HA.out)
      clear HA HXV
      try simp only [Option.isSome_none]
      go_wp2_with fail
      exact HPO.out _ _ ⟨none, 0, 0, .inl ⟨HG.out, rfl⟩, HB7.out⟩
    | some y =>
    try simp only [Option.isSome_some]
    obtain rfl := HXV.out y rfl
    clear HXV
    rcases snoc_cases l with rfl | ⟨l0, p, rfl⟩
    · have HG := Lib.hid (show addL [] s = none by rw [HA.out]; rfl)
      obtain rfl : n = 0 := HNL.out
      clear HA
      go_wp2_with fail
      exact HPO.out _ _ ⟨none, 0, 0, .inl ⟨HG.out, rfl⟩, HB7.out⟩
    obtain ⟨l1, nm, sz, pv, ps, e1, hN⟩ := HLO.out.resolve_left (fun h => by simp at h)
    obtain ⟨e5, e6⟩ := List.append_inj' e1 rfl
    obtain rfl : l0 = l1 := e5
    obtain rfl : p = ⟨nm, sz, ps⟩ := by simpa using e6
    obtain ⟨g, gc, hv, hg3, hg6⟩ := hN.at
    injection hv with hv1 hv2 hv3
    subst hv1 hv2 hv3
    have HM := Lib.hid (show addL (l0 ++ [⟨nm, sz, ps⟩]) s = some (l0 ++ [⟨nm, sz, ps ++ [⟨xn, xg, xs, xf, xd, xb, []⟩]⟩]) by rw [HA.out]; simp only [Option.bind_some]; rw [onLast_snoc]; rfl)
    have hpl : ps.length ≤ 1000000 := by have : ps.length ≤ k := (HFT.out.2 ⟨nm, sz, ps⟩ (by simp)).2.1; omega
    have hN7 := hN.below HR7.out
    clear e1 e6 HA HFT HNL
    obtain ⟨pa, pc, hpv⟩ : ∃ pa pc, pv = .slice pa ps.length pc := by
      obtain ⟨C, lv, _, _, _, _, _, h6⟩ := hN7
      exact h6.shape
    subst hpv
    have c2 := hN7.cell.1
    have y2 := hN7.cell.2
    have hg7 : g < w7.heap.size := by have := HR7.out.size; omega
    have hsub : ((l0.length + 1 : Nat) : Int) - 1 = l0.length := by omega
    have hn0 : ¬ ((l0.length : Int) + 1 = 0) := by omega
    have hn1 : (0 : Int) < (l0.length : Int) + 1 := by omega
    have BQ := BQ7.out
    have q0 := BQ.cell (i := 0) rfl
    have f0 := BQ.frozen 0
    have q1 := BQ.cell (i := 1) rfl
    have f1 := BQ.frozen 1
    have q2 := BQ.cell (i := 2) rfl
    have f2 := BQ.frozen 2
    have q3 := BQ.cell (i := 3) rfl
    have f3 := BQ.frozen 3
    have q4 := BQ.cell (i := 4) rfl
    have f4 := BQ.frozen 4
    have q5 := BQ.cell (i := 5) rfl
    have f5 := BQ.frozen 5
    have q6 := BQ.cell (i := 6) rfl
    have f6 := BQ.frozen 6
    have ql := BQ.lt
    have HN7 := Lib.hid hN7
    clear hN hN7 BQ
    go_upto_region 14 with fail
    have OW1 := Lib.hid (HN7.out.drew.below ((Below.refl _ _).alloc (Nat.le_refl _) (.cells #[.string xn, .int .i64 xg, .int .i64 xs, .int .i64 xf, .int .i64 xd, .bool xb, .slice none 0 0] 73)))
    have OW2 := Lib.hid ((HN7.out.below ((Below.refl _ _).alloc (Nat.le_refl _) (.cells #[.string xn, .int .i64 xg, .int .i64 xs, .int .i64 xf, .int .i64 xd, .bool xb, .slice none 0 0] 73))).drew)
    have hz7 : base ≤ w7.heap.size := by have := HR7.out.size; omega
    go_region_law (first
      | (refine step_libP rfl _ _ rfl rfl base _ l0 nm sz (.slice pa ps.length pc) (.slice pa ps.length pc) ps ⟨xn, xg, xs, xf, xd, xb, []⟩ ⟨w7.heap.size, 0, none⟩ rfl rfl rfl (by first | exact OW1.out | exact OW2.out) (by first | exact ownP_new w7 (⟨xn, xg, xs, xf, xd, xb, []⟩, .slice none 0 0) _ | exact ownP_new w7.drew (⟨xn, xg, xs, xf, xd, xb, []⟩, .slice none 0 0) _) hpl ?_
         intro v' w8 hown8 hshape hgrow hbase
         obtain ⟨oa8, oc8, rfl⟩ := hshape
         have z1 := hown8.cell.1
         have y1 := hown8.cell.2)
      | fail)
    all_goals
      have HO9 := Lib.hid hown8.store
      have HB9 : Hid (Below base w (w8.setCell ⟨g, l0.length * 3 + 2, none⟩ (.slice oa8 (ps.length + 1) oc8))) := Lib.hid (Below.setCell (by
        first
          | exact (HB7.out.drew.alloc (by simpa using hz7) (.cells #[.string xn, .int .i64 xg, .int .i64 xs, .int .i64 xf, .int .i64 xd, .bool xb, .slice none 0 0] 73)).grown hgrow (by simp; omega) hbase
          | exact ((HB7.out.alloc hz7 (.cells #[.string xn, .int .i64 xg, .int .i64 xs, .int .i64 xf, .int .i64 xd, .bool xb, .slice none 0 0] 73)).drew).grown hgrow (by simp; omega) hbase) hg3 _)
      clear hown8 hgrow hbase OW1 OW2 HN7 c2 y2 z1 y1 BQ7 ql q0 f0 q1 f1 q2 f2 q3 f3 q4 f4 q5 f5 q6 f6
      generalize w8.setCell ⟨g, l0.length * 3 + 2, none⟩ (.slice oa8 (ps.length + 1) oc8) = w9 at *
      go_wp2
      exact (HPO.out _ _ ⟨some ⟨g, 0, none⟩, l0.length + 1, cap, .inr ⟨_, HM.out, rfl, .inr ⟨l0, nm, sz, _, _, rfl, HO9.out⟩⟩, HB9.out⟩)
  by_cases h4 : ld = 4
  · subst h4
    have HA := Lib.hid (show addL l s = (rngW WL).bind fun r => onLast (addRP r) l by rw [HAD.out]; rfl)
    clear HAD
    have CP := Lib.hid (rreadRange_any WL w.heap.size w5 HR.out hlt5 HWS.out hwle)
    unfold RdR at CP
    generalize rngW WL = PW at *
    clear HR
    go_wp2_with fail
    refine CP.out.mono ?_
    rintro e1 w6 ⟨ra, rb, rn, rfl, hxv, hb⟩
    have HXV := Lib.hid hxv
    have HR6 := Lib.hid (HB.out.trans (hb.mono HB.out.size))
    have HB6 := Lib.hid (HB5.out.trans (hb.mono (by omega)))
    have hz6 : base ≤ w6.heap.size := by have := HR6.out.size; omega
    clear hb CP hxv HB HB5
    have HR7 := Lib.hid (HR6.out.alloc HR6.out.size (.cells #[.int .i64 ra, .int .i64 rb, .string rn] 75))
    have HB7 := Lib.hid (HB6.out.alloc hz6 (.cells #[.int .i64 ra, .int .i64 rb, .string rn] 75))
    have BQ7 := Lib.hid (TBox.new w6 #[.int .i64 ra, .int .i64 rb, .string rn] 75)
    go_upto_region 18 with fail
    obtain ⟨w7, hw7⟩ : ∃ x : World, x = w6.alloc (.cells #[.int .i64 ra, .int .i64 rb, .string rn] 75) := ⟨_, rfl⟩
    rw [← hw7] at HR7 HB7 BQ7 ⊢
    clear hw7
    cases PW with
    | none =>
      have HG := Lib.hid (show addL l s = none from HA.out)
      clear HA HXV
      try simp only [Option.isSome_none]
      go_wp2_with fail
      exact HPO.out _ _ ⟨none, 0, 0, .inl ⟨HG.out, rfl⟩, HB7.out⟩
    | some y =>
    try simp only [Option.isSome_some]
    obtain rfl := HXV.out y rfl
    clear HXV
    rcases snoc_cases l with rfl | ⟨l0, p, rfl⟩
    · have HG := Lib.hid (show addL [] s = none by rw [HA.out]; rfl)
      obtain rfl : n = 0 := HNL.out
      clear HA
      go_wp2_with fail
      exact HPO.out _ _ ⟨none, 0, 0, .inl ⟨HG.out, rfl⟩, HB7.out⟩
    obtain ⟨l1, nm, sz, pv, ps, e1, hN⟩ := HLO.out.resolve_left (fun h => by simp at h)
    obtain ⟨e5, e6⟩ := List.append_inj' e1 rfl
    obtain rfl : l0 = l1 := e5
    obtain rfl : p = ⟨nm, sz, ps⟩ := by simpa using e6
    obtain ⟨g, gc, hv, hg3, hg6⟩ := hN.at
    injection hv with hv1 hv2 hv3
    subst hv1 hv2 hv3
    have hN7 := hN.below HR7.out
    have c2 := hN7.cell.1
    have y2 := hN7.cell.2
    have hg7 : g < w7.heap.size := by have := HR7.out.size; omega
    have hsub : ((l0.length + 1 : Nat) : Int) - 1 = l0.length := by omega
    have hn0 : ¬ ((l0.length : Int) + 1 = 0) := by omega
    have hn1 : (0 : Int) < (l0.length : Int) + 1 := by omega
    rcases snoc_cases ps with rfl | ⟨p0, x, rfl⟩
    · have HG := Lib.hid (show addL (l0 ++ [⟨nm, sz, []⟩]) s = none by rw [HA.out]; simp only [Option.bind_some]; rw [onLast_snoc]; rfl)
      obtain ⟨pa, pc, hpv⟩ : ∃ pa pc, pv = .slice pa 0 pc := by
        obtain ⟨C, lv, _, _, _, _, _, h6⟩ := hN
        exact h6.shape
      subst hpv
      clear HA hN hN7
      go_wp2_with fail
      exact HPO.out _ _ ⟨none, 0, 0, .inl ⟨HG.out, rfl⟩, HB7.out⟩
    have HM := Lib.hid (show addL (l0 ++ [⟨nm, sz, p0 ++ [x]⟩]) s = some (l0 ++ [⟨nm, sz, p0 ++ [⟨x.name, x.grp, x.sl, x.fine, x.dflt, x.snap, x.rngs ++ [⟨ra, rb, rn⟩]⟩]⟩]) by
      rw [HA.out]
      simp only [Option.bind_some]
      rw [onLast_snoc]
      unfold addRP
      rw [onLast_snoc]
      rfl)
    obtain ⟨rv, hM⟩ := hN7.deep
    obtain ⟨_, ⟨g2, gc2, hpv, hk1, hk2⟩, ⟨rva, rvc, hrv⟩⟩ := hM.at
    subst hpv hrv
    have hsub2 : ((p0.length + 1 : Nat) : Int) - 1 = p0.length := by omega
    have hp0 : (0 : Int) < (p0.length : Int) + 1 := by omega
    have hp1 : (0 : Int) ≤ (p0.length : Int) := by omega
    have hp2 : (p0.length : Int) < (p0.length : Int) + 1 := by omega
    have hp4 : ¬ ((p0.length : Int) + 1 = 0) := by omega
    have hp5 : (((p0.length : Int) + 1) == 0) = false := by simpa using hp4
    have hp6 : ((((p0.length + 1 : Nat) : Int)) == 0) = false := by simp; omega
    have hp3 : p0.length ≤ 1000000 := by have : (p0 ++ [x]).length ≤ k := (HFT.out.2 ⟨nm, sz, p0 ++ [x]⟩ (by simp)).2.1; simp at this; omega
    have hwp : IntKind.i64.wrap (p0.length : Int) = p0.length := IntWalk.i64_in _ (by omega)
    have hrl : x.rngs.length ≤ 1000000 := by have : x.rngs.length ≤ k := (HFT.out.2 ⟨nm, sz, p0 ++ [x]⟩ (by simp)).2.2 x (by simp); omega
    have z2 := hM.cellR.1
    have z3 := hM.cellR.2
    have BQ := BQ7.out
    have q0 := BQ.cell (i := 0) rfl
    have f0 := BQ.frozen 0
    have q1 := BQ.cell (i := 1) rfl
    have f1 := BQ.frozen 1
    have q2 := BQ.cell (i := 2) rfl
    have f2 := BQ.frozen 2
    have ql := BQ.lt
    have HM7 := Lib.hid hM
    clear hN hN7 hM e1 e6 HA HFT HNL BQ
    go_upto_region 22 with fail
    have OW1 := Lib.hid (HM7.out.drew.below ((Below.refl _ _).alloc (Nat.le_refl _) (.cells #[.int .i64 ra, .int .i64 rb, .string rn] 75)))
    have OW2 := Lib.hid ((HM7.out.below ((Below.refl _ _).alloc (Nat.le_refl _) (.cells #[.int .i64 ra, .int .i64 rb, .string rn] 75))).drew)
    have hz7 : base ≤ w7.heap.size := by have := HR7.out.size; omega
    go_region_law (first
      | (refine step_libR rfl _ _ rfl rfl base _ l0 nm sz _ p0 x (.slice rva x.rngs.length rvc) (.slice rva x.rngs.length rvc) x.rngs ⟨ra, rb, rn⟩ ⟨w7.heap.size, 0, none⟩ rfl rfl (by first | exact OW1.out | exact OW2.out) (by first | exact libR_new w7 ⟨ra, rb, rn⟩ _ | exact libR_new w7.drew ⟨ra, rb, rn⟩ _) hrl ?_
         intro v' w8 hown8 hshape hgrow hbase
         obtain ⟨oa8, oc8, rfl⟩ := hshape
         have z1 := hown8.cellR.1
         have y1 := hown8.cellR.2)
      | fail)
    all_goals
      have HO9 := Lib.hid hown8.store.up
      have HB9 : Hid (Below base w (w8.setCell ⟨g2, p0.length * 7 + 6, none⟩ (.slice oa8 (x.rngs.length + 1) oc8))) := Lib.hid (Below.setCell (by
        first
          | exact (HB7.out.drew.alloc (by simpa using hz7) (.cells #[.int .i64 ra, .int .i64 rb, .string rn] 75)).grown hgrow (by simp; omega) hbase
          | exact ((HB7.out.alloc hz7 (.cells #[.int .i64 ra, .int .i64 rb, .string rn] 75)).drew).grown hgrow (by simp; omega) hbase) hk1 _)
      clear hown8 hgrow hbase OW1 OW2 HM7 c2 y2 z1 y1 z2 z3 BQ7 ql q0 f0 q1 f1 q2 f2
      generalize w8.setCell ⟨g2, p0.length * 7 + 6, none⟩ (.slice oa8 (x.rngs.length + 1) oc8) = w9 at *
      go_wp2
      exact (HPO.out _ _ ⟨some ⟨g, 0, none⟩, l0.length + 1, cap, .inr ⟨_, HM.out, rfl, .inr ⟨l0, nm, sz, _, _, rfl, HO9.out⟩⟩, HB9.out⟩)
  have HG := Lib.hid (show addL l s = none by rw [HAD.out, if_neg h0, if_neg h2, if_neg h4])
  have i0 : ((ld : Int) == 0) = false := by simp; omega
  have i2 : ((ld : Int) == 2) = false := by simp; omega
  have i4 : ((ld : Int) == 4) = false := by simp; omega
  have j0 : ¬ (ld : Int) = 0 := by omega
  have j2 : ¬ (ld : Int) = 2 := by omega
  have j4 : ¬ (ld : Int) = 4 := by omega
  clear HAD
  go_wp2_with fail
  exact HPO.out _ _ ⟨none, 0, 0, .inl ⟨HG.out, rfl⟩, HB5.out⟩
end Go.Proofs.YtppbagllhmeenaaGreatDoor
