/- slices.symMergeCmpFunc at gels: a stretch before a stretch of one element. (printed by wip/gen/gen_sort.py) -/
import Derived.Test.YtpmiinamaofnnaaSortIns
namespace Go.Proofs.Ytpmiinamaofnnaa
open Go.RowKit
set_option linter.unusedVariables false
set_option linter.unusedSimpArgs false

set_option maxRecDepth 100000 in
set_option maxHeartbeats 16000000 in
theorem symLast_any (g N cap a m b : Nat) (D : Nat → Gel) (fn : FuncId) (cp : Value) (key : Gel → Int) (W0 W : World) (hC : CmpC fn cp key W0 g) (hG : W0.grownBy W (some g)) (h : RowF W g N D) (ham : a < m) (hmb : m < b) (hb : b ≤ N) (hN : N ≤ 100000) (hA : SrtOn key D a m) (hB : SrtOn key D m b) (hm1 : b = m + 1) (hna : ¬ m = a + 1) :
    Calls Try.prog 38 #[.slice (some ⟨g, 0, none⟩) N cap, .int .i64 a, .int .i64 m, .int .i64 b, .func (.func fn) #[] #[cp]] W fun e w' => e = .returned (.tuple #[]) ∧ ∃ E, RowF w' g N E ∧ Moved key D E a b ∧ SrtOn key E a b ∧ W0.grownBy w' (some g) := by
  have hcf := hC.enter
  have HC := Lib.hid hC
  have HR0 := Lib.hid h
  have HG0 := Lib.hid hG
  have HSA := Lib.hid hA
  have hma : ¬ (m : Int) - (a : Int) = 1 := by omega
  have hmab : (((m : Int) - (a : Int)) == 1) = false := by simpa using hma
  have hbm : (b : Int) - (m : Int) = 1 := by omega
  have hmn : m < N := by omega
  have hmz : (m : Int) < N := by omega
  have HM := Lib.hid hm1
  clear hC h hG hA hB hm1 hna
  go_enter Try.func38, Try.ntmps38
  go_wp2_with fail
  go_loopw [14, 15] (fun vi vj wr => ∃ i j : Nat, a ≤ i ∧ i ≤ j ∧ j ≤ m ∧ vi = .int .i64 i ∧ vj = .int .i64 j ∧ Hid (∀ z, a ≤ z → z < i → key (D z) ≤ key (D m)) ∧ Hid (∀ z, j ≤ z → z < m → key (D m) < key (D z)) ∧ Hid (RowF wr g N D) ∧ Hid (W0.grownBy wr (some g))) (fun vi vj _ => (intOf vj).toNat - (intOf vi).toNat)
  case atStart => exact ⟨a, m, Nat.le_refl _, by omega, Nat.le_refl _, rfl, rfl, Lib.hid (fun z h1 h2 => by omega), Lib.hid (fun z h1 h2 => by omega), HR0, HG0⟩
  case round =>
    obtain ⟨i, j, hai, hij, hjm, rfl, rfl, HLO, HHI, HR, HG⟩ := hrel
    by_cases hlt : i < j
    · have hlti : (i : Int) < j := by omega
      obtain ⟨h, hh⟩ : ∃ h : Nat, ((i : Int) + j) / 2 = (h : Int) := ⟨(i + j) / 2, by omega⟩
      have hh1 : i ≤ h := by omega
      have hh2 : h < j := by omega
      have hhn : h < N := by omega
      have hhz : (h : Int) < N := by omega
      have hgl := HR.out.lt
      have HP := HR.out.elem hmn
      have HQ := HR.out.elem hhn
      have KP := Lib.hid (fun W' (hb : Below wr.heap.size wr W') => show W'.cell? ⟨g, m * 5, none⟩ = some (.int .i64 (D m).n) ∧ W'.cell? ⟨g, m * 5 + 1, none⟩ = some (.string (D m).name) ∧ W'.cell? ⟨g, m * 5 + 2, none⟩ = some (.int .i64 (D m).r) ∧ W'.cell? ⟨g, m * 5 + 3, none⟩ = some (.int .i64 (D m).g) ∧ W'.cell? ⟨g, m * 5 + 4, none⟩ = some (.int .i64 (D m).b) ∧ W'.cell? ⟨g, h * 5, none⟩ = some (.int .i64 (D h).n) ∧ W'.cell? ⟨g, h * 5 + 1, none⟩ = some (.string (D h).name) ∧ W'.cell? ⟨g, h * 5 + 2, none⟩ = some (.int .i64 (D h).r) ∧ W'.cell? ⟨g, h * 5 + 3, none⟩ = some (.int .i64 (D h).g) ∧ W'.cell? ⟨g, h * 5 + 4, none⟩ = some (.int .i64 (D h).b) from ⟨(hb.cell (p := ⟨g, m * 5, none⟩) hgl).trans HP.c0, (hb.cell (p := ⟨g, m * 5 + 1, none⟩) hgl).trans HP.c1, (hb.cell (p := ⟨g, m * 5 + 2, none⟩) hgl).trans HP.c2, (hb.cell (p := ⟨g, m * 5 + 3, none⟩) hgl).trans HP.c3, (hb.cell (p := ⟨g, m * 5 + 4, none⟩) hgl).trans HP.c4, (hb.cell (p := ⟨g, h * 5, none⟩) hgl).trans HQ.c0, (hb.cell (p := ⟨g, h * 5 + 1, none⟩) hgl).trans HQ.c1, (hb.cell (p := ⟨g, h * 5 + 2, none⟩) hgl).trans HQ.c2, (hb.cell (p := ⟨g, h * 5 + 3, none⟩) hgl).trans HQ.c3, (hb.cell (p := ⟨g, h * 5 + 4, none⟩) hgl).trans HQ.c4⟩)
      obtain ⟨x, hx⟩ : ∃ x, D m = x := ⟨_, rfl⟩
      obtain ⟨y, hy⟩ : ∃ y, D h = y := ⟨_, rfl⟩
      obtain ⟨bk, hbk⟩ : ∃ bk : Bool, (bk = true ↔ key x < key y) := ⟨decide (key x < key y), by simp⟩
      have HBK := Lib.hid (show bk = true ↔ key (D m) < key (D h) by rw [hx, hy]; exact hbk)
      rw [hx, hy] at KP
      rw [hx] at HP
      rw [hy] at HQ
      clear hx hy
      have c0 := HP.c0
      have f0 := HP.f0
      have c1 := HP.c1
      have f1 := HP.f1
      have c2 := HP.c2
      have f2 := HP.f2
      have c3 := HP.c3
      have f3 := HP.f3
      have c4 := HP.c4
      have f4 := HP.f4
      have d0 := HQ.c0
      have e0 := HQ.f0
      have d1 := HQ.c1
      have e1 := HQ.f1
      have d2 := HQ.c2
      have e2 := HQ.f2
      have d3 := HQ.c3
      have e3 := HQ.f3
      have d4 := HQ.c4
      have e4 := HQ.f4
      clear HP HQ
      go_upto_region 17 with fail
      go_cut [103] (fun s wx => s = .bool (!bk) ∧ Hid (Below wr.heap.size wr wx))
      case first =>
        cases bk
        · have hk : ¬ key x < key y := fun h => by have := hbk.2 h; cases this
          have HC1 := Lib.hid (HC.out.no hk (show W0.grownBy wr.drew (some g) from ⟨HG.out.os, HG.out.tape, HG.out.output, HG.out.size, HG.out.block⟩))
          have HC0 := Lib.hid (HC.out.no hk HG.out)
          clear hk hbk
          go_upto_region 17 with fail
          go_region_held3 (fun W' => W'.cell? ⟨g, m * 5, none⟩ = some (.int .i64 x.n) ∧ W'.cell? ⟨g, m * 5 + 1, none⟩ = some (.string x.name) ∧ W'.cell? ⟨g, m * 5 + 2, none⟩ = some (.int .i64 x.r) ∧ W'.cell? ⟨g, m * 5 + 3, none⟩ = some (.int .i64 x.g) ∧ W'.cell? ⟨g, m * 5 + 4, none⟩ = some (.int .i64 x.b) ∧ W'.cell? ⟨g, h * 5, none⟩ = some (.int .i64 y.n) ∧ W'.cell? ⟨g, h * 5 + 1, none⟩ = some (.string y.name) ∧ W'.cell? ⟨g, h * 5 + 2, none⟩ = some (.int .i64 y.r) ∧ W'.cell? ⟨g, h * 5 + 3, none⟩ = some (.int .i64 y.g) ∧ W'.cell? ⟨g, h * 5 + 4, none⟩ = some (.int .i64 y.b))
            (exact KP.out _ (by repeat' first | (with_reducible assumption) | (with_reducible exact Below.refl _ _) | (with_reducible refine Below.drew ?_)))
            (first
              | ((with_reducible refine HC1.out.mono ?_); rintro e wz ⟨c, rfl, hcn, hbz⟩; have hwz : Below wr.heap.size wr wz := ⟨hbz.os, hbz.tape, hbz.output, hbz.size, hbz.block⟩)
              | ((with_reducible refine HC0.out.mono ?_); rintro e wz ⟨c, rfl, hcn, hwz⟩)
              | fail)
          all_goals go_wp2_with fail
          all_goals go_meet
          all_goals exact ⟨by first | rw [decide_eq_false hcn] | rw [decide_eq_true hcn] | rw [decide_eq_false (by omega)] | (rw [decide_eq_false hcn]; rfl) | (rw [decide_eq_true hcn]; rfl) | (rw [decide_eq_false (by omega)]; rfl) | simp [hcn] | rfl, Lib.hid (by first | exact hwz | exact hwz.drew)⟩
        · have hk : key x < key y := hbk.1 rfl
          have HC1 := Lib.hid (HC.out.yes hk (show W0.grownBy wr.drew (some g) from ⟨HG.out.os, HG.out.tape, HG.out.output, HG.out.size, HG.out.block⟩))
          have HC0 := Lib.hid (HC.out.yes hk HG.out)
          clear hk hbk
          go_upto_region 17 with fail
          go_region_held3 (fun W' => W'.cell? ⟨g, m * 5, none⟩ = some (.int .i64 x.n) ∧ W'.cell? ⟨g, m * 5 + 1, none⟩ = some (.string x.name) ∧ W'.cell? ⟨g, m * 5 + 2, none⟩ = some (.int .i64 x.r) ∧ W'.cell? ⟨g, m * 5 + 3, none⟩ = some (.int .i64 x.g) ∧ W'.cell? ⟨g, m * 5 + 4, none⟩ = some (.int .i64 x.b) ∧ W'.cell? ⟨g, h * 5, none⟩ = some (.int .i64 y.n) ∧ W'.cell? ⟨g, h * 5 + 1, none⟩ = some (.string y.name) ∧ W'.cell? ⟨g, h * 5 + 2, none⟩ = some (.int .i64 y.r) ∧ W'.cell? ⟨g, h * 5 + 3, none⟩ = some (.int .i64 y.g) ∧ W'.cell? ⟨g, h * 5 + 4, none⟩ = some (.int .i64 y.b))
            (exact KP.out _ (by repeat' first | (with_reducible assumption) | (with_reducible exact Below.refl _ _) | (with_reducible refine Below.drew ?_)))
            (first
              | ((with_reducible refine HC1.out.mono ?_); rintro e wz ⟨c, rfl, hcn, hbz⟩; have hwz : Below wr.heap.size wr wz := ⟨hbz.os, hbz.tape, hbz.output, hbz.size, hbz.block⟩)
              | ((with_reducible refine HC0.out.mono ?_); rintro e wz ⟨c, rfl, hcn, hwz⟩)
              | fail)
          all_goals go_wp2_with fail
          all_goals go_meet
          all_goals exact ⟨by first | rw [decide_eq_false hcn] | rw [decide_eq_true hcn] | rw [decide_eq_false (by omega)] | (rw [decide_eq_false hcn]; rfl) | (rw [decide_eq_true hcn]; rfl) | (rw [decide_eq_false (by omega)]; rfl) | simp [hcn] | rfl, Lib.hid (by first | exact hwz | exact hwz.drew)⟩
      case rest =>
      obtain ⟨rfl, HBZ⟩ := hcut
      obtain ⟨wz, rfl⟩ : ∃ z, z = wc := ⟨wc, rfl⟩
      have HGZ := Lib.hid (grown_below HG.out HBZ.out)
      have HRZ := Lib.hid (HR.out.below HBZ.out)
      clear c0 f0 d0 e0 c1 f1 d1 e1 c2 f2 d2 e2 c3 f3 d3 e3 c4 f4 d4 e4 KP HG HR hbk hgl
      cases bk
      · have hk : ¬ key (D m) < key (D h) := fun k => by have := HBK.out.2 k; cases this
        have HL2 := Lib.hid (show ∀ z, a ≤ z → z < h + 1 → key (D z) ≤ key (D m) from fun z h1 h2 => by have := HSA.out z h h1 (by omega) (by omega); omega)
        clear hk HBK hh
        go_wp2_with fail
        go_roundw
        case rel => exact ⟨h + 1, j, by omega, by omega, hjm, by go_num, rfl, HL2, HHI, HRZ, HGZ⟩
        case measure => simp [intOf]; omega
      · have hk : key (D m) < key (D h) := HBK.out.1 rfl
        have HH2 := Lib.hid (show ∀ z, h ≤ z → z < m → key (D m) < key (D z) from fun z h1 h2 => by have := HSA.out h z (by omega) h1 h2; omega)
        clear hk HBK hh
        go_wp2_with fail
        go_roundw
        case rel => exact ⟨i, h, hai, hh1, by omega, rfl, rfl, HLO, HH2, HRZ, HGZ⟩
        case measure => simp [intOf]; omega
    · obtain rfl : i = j := by omega
      have hnl : ¬ (i : Int) < i := by omega
      obtain ⟨hm9, hs9⟩ := put_last (f := key) (D := D) (a := a) (i := i) (m := m) hai hjm HSA.out HLO.out HHI.out
      rw [← HM.out] at hm9 hs9
      have HM9 := Lib.hid hm9
      have HS9 := Lib.hid hs9
      have HRS := Lib.hid (show RowF wr g N (rot D m m b) by rw [HM.out, rot_start2]; exact HR.out)
      have HGS := HG
      clear hm9 hs9 HLO HHI HR HG HR0 HG0
      go_wp2_with fail
      go_loopw [17] (fun vk wr => ∃ k : Nat, i ≤ k ∧ k ≤ m ∧ vk = .int .i64 k ∧ Hid (RowF wr g N (rot D k m b)) ∧ Hid (W0.grownBy wr (some g))) (fun vk _ => (intOf vk).toNat)
      case atStart => exact ⟨m, hjm, Nat.le_refl _, rfl, HRS, HGS⟩
      case round =>
        obtain ⟨k, hik, hkm, rfl, HR, HG⟩ := hrel
        by_cases hlk : i < k
        · have hlki : (i : Int) < k := by omega
          obtain ⟨q, hq⟩ : ∃ q, k = q + 1 := ⟨k - 1, by omega⟩
          have hqi : (k : Int) - 1 = q := by omega
          have hkn : k < N := by omega
          have hqn : q < N := by omega
          have hkz : (k : Int) < N := by omega
          have hqz : (q : Int) < N := by omega
          have hwq : IntKind.i64.wrap (q : Int) = q := IntWalk.i64_in _ (by omega)
          obtain ⟨E2, hE2⟩ : ∃ E2, E2 = rot D k m b := ⟨_, rfl⟩
          have HSTEP := Lib.hid (show swp2 E2 k q = rot D q m b by rw [hE2, hq, HM.out]; exact rot_down D (by omega))
          have HQ1 := Lib.hid hq
          rw [← hE2] at HR
          clear hE2 hq
          have HT2 := HR.out.two hkn hqn
          obtain ⟨x, hx⟩ : ∃ x, E2 k = x := ⟨_, rfl⟩
          obtain ⟨y, hy⟩ : ∃ y, E2 q = y := ⟨_, rfl⟩
          have HP := HR.out.elem hkn
          have HQ := HR.out.elem hqn
          have hgl := HR.out.lt
          rw [HSTEP.out, hx, hy] at HT2
          have HT := Lib.hid HT2
          rw [hx] at HP
          rw [hy] at HQ
          have c0 := HP.c0
          have f0 := HP.f0
          have c1 := HP.c1
          have f1 := HP.f1
          have c2 := HP.c2
          have f2 := HP.f2
          have c3 := HP.c3
          have f3 := HP.f3
          have c4 := HP.c4
          have f4 := HP.f4
          have d0 := HQ.c0
          have e0 := HQ.f0
          have d1 := HQ.c1
          have e1 := HQ.f1
          have d2 := HQ.c2
          have e2 := HQ.f2
          have d3 := HQ.c3
          have e3 := HQ.f3
          have d4 := HQ.c4
          have e4 := HQ.f4
          have HGT := Lib.hid (grown_trans HG.out (grown_trans (grown_two wr g k q y x) (grown_drew _ _)))
          clear HP HQ hx hy HT2
          go_upto_region 23 with fail
          go_region
          all_goals go_wp2_with fail
          all_goals go_roundw
          case rel => exact ⟨q, by have := HQ1.out; omega, by have := HQ1.out; omega, rfl, Lib.hid HT.out.drew, HGT⟩
          case measure => have := HQ1.out; simp [intOf]; omega
        · obtain rfl : i = k := by omega
          have hnk : ¬ (i : Int) < i := by omega
          go_wp2_with fail
          exact bodyPost_ret (v := .tuple #[]) (by simp [results, Try.results38, go_sem]) rfl ⟨rfl, _, HR.out, HM9.out, HS9.out, HG.out⟩
end Go.Proofs.Ytpmiinamaofnnaa
