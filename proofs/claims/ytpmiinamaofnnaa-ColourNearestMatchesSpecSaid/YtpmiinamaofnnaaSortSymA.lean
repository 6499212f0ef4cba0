/- slices.symMergeCmpFunc at gels: a stretch of one element before a stretch. (printed by wip/gen/gen_sort.py) -/
import Derived.Test.YtpmiinamaofnnaaSortIns
namespace Go.Proofs.Ytpmiinamaofnnaa
open Go.RowKit
set_option linter.unusedVariables false
set_option linter.unusedSimpArgs false

set_option maxRecDepth 100000 in
set_option maxHeartbeats 16000000 in
theorem symFirst_any (g N cap a m b : Nat) (D : Nat → Gel) (fn : FuncId) (cp : Value) (key : Gel → Int) (W0 W : World) (hC : CmpC fn cp key W0 g) (hG : W0.grownBy W (some g)) (h : RowF W g N D) (ham : a < m) (hmb : m < b) (hb : b ≤ N) (hN : N ≤ 100000) (hA : SrtOn key D a m) (hB : SrtOn key D m b) (hm1 : m = a + 1) :
    Calls Try.prog 38 #[.slice (some ⟨g, 0, none⟩) N cap, .int .i64 a, .int .i64 m, .int .i64 b, .func (.func fn) #[] #[cp]] W fun e w' => e = .returned (.tuple #[]) ∧ ∃ E, RowF w' g N E ∧ Moved key D E a b ∧ SrtOn key E a b ∧ W0.grownBy w' (some g) := by
  have hcf := hC.enter
  have HC := Lib.hid hC
  have HR0 := Lib.hid h
  have HG0 := Lib.hid hG
  have HSB := Lib.hid hB
  have hma : (m : Int) - (a : Int) = 1 := by omega
  have han : a < N := by omega
  have haz : (a : Int) < N := by omega
  have HM := Lib.hid hm1
  clear hC h hG hA hB hm1
  go_enter Try.func38, Try.ntmps38
  go_wp2_with fail
  go_loopw [10, 11] (fun vi vj wr => ∃ i j : Nat, m ≤ i ∧ i ≤ j ∧ j ≤ b ∧ vi = .int .i64 i ∧ vj = .int .i64 j ∧ Hid (∀ z, m ≤ z → z < i → key (D z) < key (D a)) ∧ Hid (∀ z, j ≤ z → z < b → key (D a) ≤ key (D z)) ∧ Hid (RowF wr g N D) ∧ Hid (W0.grownBy wr (some g))) (fun vi vj _ => (intOf vj).toNat - (intOf vi).toNat)
  case atStart => exact ⟨m, b, Nat.le_refl _, by omega, Nat.le_refl _, rfl, rfl, Lib.hid (fun z h1 h2 => by omega), Lib.hid (fun z h1 h2 => by omega), HR0, HG0⟩
  case round =>
    obtain ⟨i, j, hmi, hij, hjb, rfl, rfl, HLO, HHI, HR, HG⟩ := hrel
    by_cases hlt : i < j
    · have hlti : (i : Int) < j := by omega
      obtain ⟨h, hh⟩ : ∃ h : Nat, ((i : Int) + j) / 2 = (h : Int) := ⟨(i + j) / 2, by omega⟩
      have hh1 : i ≤ h := by omega
      have hh2 : h < j := by omega
      have hhn : h < N := by omega
      have hhz : (h : Int) < N := by omega
      have hgl := HR.out.lt
      have HP := HR.out.elem hhn
      have HQ := HR.out.elem han
      have KP := Lib.hid (fun W' (hb : Below wr.heap.size wr W') => show W'.cell? ⟨g, h * 5, none⟩ = some (.int .i64 (D h).n) ∧ W'.cell? ⟨g, h * 5 + 1, none⟩ = some (.string (D h).name) ∧ W'.cell? ⟨g, h * 5 + 2, none⟩ = some (.int .i64 (D h).r) ∧ W'.cell? ⟨g, h * 5 + 3, none⟩ = some (.int .i64 (D h).g) ∧ W'.cell? ⟨g, h * 5 + 4, none⟩ = some (.int .i64 (D h).b) ∧ W'.cell? ⟨g, a * 5, none⟩ = some (.int .i64 (D a).n) ∧ W'.cell? ⟨g, a * 5 + 1, none⟩ = some (.string (D a).name) ∧ W'.cell? ⟨g, a * 5 + 2, none⟩ = some (.int .i64 (D a).r) ∧ W'.cell? ⟨g, a * 5 + 3, none⟩ = some (.int .i64 (D a).g) ∧ W'.cell? ⟨g, a * 5 + 4, none⟩ = some (.int .i64 (D a).b) from ⟨(hb.cell (p := ⟨g, h * 5, none⟩) hgl).trans HP.c0, (hb.cell (p := ⟨g, h * 5 + 1, none⟩) hgl).trans HP.c1, (hb.cell (p := ⟨g, h * 5 + 2, none⟩) hgl).trans HP.c2, (hb.cell (p := ⟨g, h * 5 + 3, none⟩) hgl).trans HP.c3, (hb.cell (p := ⟨g, h * 5 + 4, none⟩) hgl).trans HP.c4, (hb.cell (p := ⟨g, a * 5, none⟩) hgl).trans HQ.c0, (hb.cell (p := ⟨g, a * 5 + 1, none⟩) hgl).trans HQ.c1, (hb.cell (p := ⟨g, a * 5 + 2, none⟩) hgl).trans HQ.c2, (hb.cell (p := ⟨g, a * 5 + 3, none⟩) hgl).trans HQ.c3, (hb.cell (p := ⟨g, a * 5 + 4, none⟩) hgl).trans HQ.c4⟩)
      obtain ⟨x, hx⟩ : ∃ x, D h = x := ⟨_, rfl⟩
      obtain ⟨y, hy⟩ : ∃ y, D a = y := ⟨_, rfl⟩
      obtain ⟨bk, hbk⟩ : ∃ bk : Bool, (bk = true ↔ key x < key y) := ⟨decide (key x < key y), by simp⟩
      have HBK := Lib.hid (show bk = true ↔ key (D h) < key (D a) by rw [hx, hy]; exact hbk)
      rw [hx, hy] at KP
      rw [hx] at HP
      rw [hy] at HQ
      clear hx hy
      have c0 := HP.c0
      have f0 := HP.f0
      have c1 := HP.c1
      have f1 := HP.f1
      have c2 := HP.c2
      have f2 := HP.f2
      have c3 := HP.c3
      have f3 := HP.f3
      have c4 := HP.c4
      have f4 := HP.f4
      have d0 := HQ.c0
      have e0 := HQ.f0
      have d1 := HQ.c1
      have e1 := HQ.f1
      have d2 := HQ.c2
      have e2 := HQ.f2
      have d3 := HQ.c3
      have e3 := HQ.f3
      have d4 := HQ.c4
      have e4 := HQ.f4
      clear HP HQ
      go_upto_region 5 with fail
      go_cut [50] (fun s wx => s = .bool bk ∧ Hid (Below wr.heap.size wr wx))
      case first =>
        cases bk
        · have hk : ¬ key x < key y := fun h => by have := hbk.2 h; cases this
          have HC1 := Lib.hid (HC.out.no hk (show W0.grownBy wr.drew (some g) from ⟨HG.out.os, HG.out.tape, HG.out.output, HG.out.size, HG.out.block⟩))
          have HC0 := Lib.hid (HC.out.no hk HG.out)
          clear hk hbk
          go_upto_region 5 with fail
          go_region_held3 (fun W' => W'.cell? ⟨g, h * 5, none⟩ = some (.int .i64 x.n) ∧ W'.cell? ⟨g, h * 5 + 1, none⟩ = some (.string x.name) ∧ W'.cell? ⟨g, h * 5 + 2, none⟩ = some (.int .i64 x.r) ∧ W'.cell? ⟨g, h * 5 + 3, none⟩ = some (.int .i64 x.g) ∧ W'.cell? ⟨g, h * 5 + 4, none⟩ = some (.int .i64 x.b) ∧ W'.cell? ⟨g, a * 5, none⟩ = some (.int .i64 y.n) ∧ W'.cell? ⟨g, a * 5 + 1, none⟩ = some (.string y.name) ∧ W'.cell? ⟨g, a * 5 + 2, none⟩ = some (.int .i64 y.r) ∧ W'.cell? ⟨g, a * 5 + 3, none⟩ = some (.int .i64 y.g) ∧ W'.cell? ⟨g, a * 5 + 4, none⟩ = some (.int .i64 y.b))
            (exact KP.out _ (by repeat' first | (with_reducible assumption) | (with_reducible exact Below.refl _ _) | (with_reducible refine Below.drew ?_)))
            (first
              | ((with_reducible refine HC1.out.mono ?_); rintro e wz ⟨c, rfl, hcn, hbz⟩; have hwz : Below wr.heap.size wr wz := ⟨hbz.os, hbz.tape, hbz.output, hbz.size, hbz.block⟩)
              | ((with_reducible refine HC0.out.mono ?_); rintro e wz ⟨c, rfl, hcn, hwz⟩)
              | fail)
          all_goals go_wp2_with fail
          all_goals go_meet
          all_goals exact ⟨by first | rw [decide_eq_false hcn] | rw [decide_eq_true hcn] | rw [decide_eq_false (by omega)] | (rw [decide_eq_false hcn]; rfl) | (rw [decide_eq_true hcn]; rfl) | (rw [decide_eq_false (by omega)]; rfl) | simp [hcn] | rfl, Lib.hid (by first | exact hwz | exact hwz.drew)⟩
        · have hk : key x < key y := hbk.1 rfl
          have HC1 := Lib.hid (HC.out.yes hk (show W0.grownBy wr.drew (some g) from ⟨HG.out.os, HG.out.tape, HG.out.output, HG.out.size, HG.out.block⟩))
          have HC0 := Lib.hid (HC.out.yes hk HG.out)
          clear hk hbk
          go_upto_region 5 with fail
          go_region_held3 (fun W' => W'.cell? ⟨g, h * 5, none⟩ = some (.int .i64 x.n) ∧ W'.cell? ⟨g, h * 5 + 1, none⟩ = some (.string x.name) ∧ W'.cell? ⟨g, h * 5 + 2, none⟩ = some (.int .i64 x.r) ∧ W'.cell? ⟨g, h * 5 + 3, none⟩ = some (.int .i64 x.g) ∧ W'.cell? ⟨g, h * 5 + 4, none⟩ = some (.int .i64 x.b) ∧ W'.cell? ⟨g, a * 5, none⟩ = some (.int .i64 y.n) ∧ W'.cell? ⟨g, a * 5 + 1, none⟩ = some (.string y.name) ∧ W'.cell? ⟨g, a * 5 + 2, none⟩ = some (.int .i64 y.r) ∧ W'.cell? ⟨g, a * 5 + 3, none⟩ = some (.int .i64 y.g) ∧ W'.cell? ⟨g, a * 5 + 4, none⟩ = some (.int .i64 y.b))
            (exact KP.out _ (by repeat' first | (with_reducible assumption) | (with_reducible exact Below.refl _ _) | (with_reducible refine Below.drew ?_)))
            (first
              | ((with_reducible refine HC1.out.mono ?_); rintro e wz ⟨c, rfl, hcn, hbz⟩; have hwz : Below wr.heap.size wr wz := ⟨hbz.os, hbz.tape, hbz.output, hbz.size, hbz.block⟩)
              | ((with_reducible refine HC0.out.mono ?_); rintro e wz ⟨c, rfl, hcn, hwz⟩)
              | fail)
          all_goals go_wp2_with fail
          all_goals go_meet
          all_goals exact ⟨by first | rw [decide_eq_false hcn] | rw [decide_eq_true hcn] | rw [decide_eq_false (by omega)] | (rw [decide_eq_false hcn]; rfl) | (rw [decide_eq_true hcn]; rfl) | (rw [decide_eq_false (by omega)]; rfl) | simp [hcn] | rfl, Lib.hid (by first | exact hwz | exact hwz.drew)⟩
      case rest =>
      obtain ⟨rfl, HBZ⟩ := hcut
      obtain ⟨wz, rfl⟩ : ∃ z, z = wc := ⟨wc, rfl⟩
      have HGZ := Lib.hid (grown_below HG.out HBZ.out)
      have HRZ := Lib.hid (HR.out.below HBZ.out)
      clear c0 f0 d0 e0 c1 f1 d1 e1 c2 f2 d2 e2 c3 f3 d3 e3 c4 f4 d4 e4 KP HG HR hbk hgl
      cases bk
      · have hk : ¬ key (D h) < key (D a) := fun k => by have := HBK.out.2 k; cases this
        have HH2 := Lib.hid (show ∀ z, h ≤ z → z < b → key (D a) ≤ key (D z) from fun z h1 h2 => by have := HSB.out h z (by omega) h1 h2; omega)
        clear hk HBK hh
        go_wp2_with fail
        go_roundw
        case rel => exact ⟨i, h, hmi, hh1, by omega, rfl, rfl, HLO, HH2, HRZ, HGZ⟩
        case measure => simp [intOf]; omega
      · have hk : key (D h) < key (D a) := HBK.out.1 rfl
        have HL2 := Lib.hid (show ∀ z, m ≤ z → z < h + 1 → key (D z) < key (D a) from fun z h1 h2 => by have := HSB.out z h h1 (by omega) (by omega); omega)
        clear hk HBK hh
        go_wp2_with fail
        go_roundw
        case rel => exact ⟨h + 1, j, by omega, by omega, hjb, by go_num, rfl, HL2, HHI, HRZ, HGZ⟩
        case measure => simp [intOf]; omega
    · obtain rfl : i = j := by omega
      have hnl : ¬ (i : Int) < i := by omega
      obtain ⟨hm9, hs9⟩ := put_first (f := key) (D := D) (a := a) (i := i) (b := b) (by have := HM.out; omega) hjb (by rw [← HM.out]; exact HSB.out) (fun z h1 h2 => HLO.out z (by have := HM.out; omega) h2) HHI.out
      have HM9 := Lib.hid hm9
      have HS9 := Lib.hid hs9
      obtain ⟨i1, hi1⟩ : ∃ i1, i = i1 + 1 := ⟨i - 1, by omega⟩
      have hi1i : (i : Int) - 1 = i1 := by omega
      have hai1 : a ≤ i1 := by have := HM.out; omega
      have HRS := Lib.hid (show RowF wr g N (rot D a (a + 1) (a + 1)) by rw [rot_start]; exact HR.out)
      have HGS := HG
      have HI1 := Lib.hid hi1
      clear hm9 hs9 HLO HHI HR HG hi1 HR0 HG0
      go_wp2_with fail
      go_loopw [13] (fun vk wr => ∃ k : Nat, a ≤ k ∧ k ≤ i1 ∧ vk = .int .i64 k ∧ Hid (RowF wr g N (rot D a (a + 1) (k + 1))) ∧ Hid (W0.grownBy wr (some g))) (fun vk _ => i1 - (intOf vk).toNat)
      case atStart => exact ⟨a, Nat.le_refl _, hai1, rfl, HRS, HGS⟩
      case round =>
        obtain ⟨k, hak, hki, rfl, HR, HG⟩ := hrel
        by_cases hlk : k < i1
        · have hlki : (k : Int) < i1 := by omega
          obtain ⟨q, hq⟩ : ∃ q, q = k + 1 := ⟨_, rfl⟩
          have hqi : (k : Int) + 1 = q := by omega
          have hkn : k < N := by have := HI1.out; omega
          have hqn : q < N := by have := HI1.out; omega
          have hkz : (k : Int) < N := by omega
          have hqz : (q : Int) < N := by omega
          have hwq : IntKind.i64.wrap (q : Int) = q := IntWalk.i64_in _ (by omega)
          obtain ⟨E2, hE2⟩ : ∃ E2, E2 = rot D a (a + 1) (k + 1) := ⟨_, rfl⟩
          have HSTEP := Lib.hid (show swp2 E2 k q = rot D a (a + 1) (q + 1) by rw [hE2, hq]; exact rot_up D hak)
          have HQ1 := Lib.hid hq
          rw [← hE2] at HR
          clear hE2 hq
          have HT2 := HR.out.two hkn hqn
          obtain ⟨x, hx⟩ : ∃ x, E2 k = x := ⟨_, rfl⟩
          obtain ⟨y, hy⟩ : ∃ y, E2 q = y := ⟨_, rfl⟩
          have HP := HR.out.elem hkn
          have HQ := HR.out.elem hqn
          have hgl := HR.out.lt
          rw [HSTEP.out, hx, hy] at HT2
          have HT := Lib.hid HT2
          rw [hx] at HP
          rw [hy] at HQ
          have c0 := HP.c0
          have f0 := HP.f0
          have c1 := HP.c1
          have f1 := HP.f1
          have c2 := HP.c2
          have f2 := HP.f2
          have c3 := HP.c3
          have f3 := HP.f3
          have c4 := HP.c4
          have f4 := HP.f4
          have d0 := HQ.c0
          have e0 := HQ.f0
          have d1 := HQ.c1
          have e1 := HQ.f1
          have d2 := HQ.c2
          have e2 := HQ.f2
          have d3 := HQ.c3
          have e3 := HQ.f3
          have d4 := HQ.c4
          have e4 := HQ.f4
          have HGT := Lib.hid (grown_trans HG.out (grown_trans (grown_two wr g k q y x) (grown_drew _ _)))
          clear HP HQ hx hy HT2
          go_upto_region 11 with fail
          go_region
          all_goals go_wp2_with fail
          all_goals go_roundw
          case rel => exact ⟨q, by have := HQ1.out; omega, by have := HQ1.out; omega, rfl, Lib.hid HT.out.drew, HGT⟩
          case measure => have := HQ1.out; simp [intOf]; omega
        · obtain rfl : k = i1 := by omega
          have hnk : ¬ (k : Int) < k := by omega
          have HRF := Lib.hid (show RowF wr g N (rot D a (a + 1) i) by rw [HI1.out]; exact HR.out)
          go_wp2_with fail
          exact bodyPost_ret (v := .tuple #[]) (by simp [results, Try.results38, go_sem]) rfl ⟨rfl, _, HRF.out, HM9.out, HS9.out, HG.out⟩
end Go.Proofs.Ytpmiinamaofnnaa
