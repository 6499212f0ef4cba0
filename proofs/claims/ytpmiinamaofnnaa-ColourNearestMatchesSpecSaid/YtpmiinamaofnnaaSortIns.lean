/- slices.insertionSortCmpFunc at gels and a comparison by a key. (printed by wip/gen/gen_sort.py) -/
import Derived.Test.YtpmiinamaofnnaaSortSwap
import Derived.Deep.RegionLaw
namespace Go.Proofs.Ytpmiinamaofnnaa
open Go.RowKit
set_option linter.unusedVariables false
set_option linter.unusedSimpArgs false

/-- a function value that compares by a key, whatever has become of the row in block g since W0 -/
structure CmpC (fn : FuncId) (cp : Value) (key : Gel → Int) (W0 : World) (g : Nat) : Prop where
  enter : ∀ args W, Sem.run Try.prog (callFunc fn args) W = .ok (.enter fn args) W
  call : ∀ (x y : Gel) W, W0.grownBy W (some g) → Calls Try.prog fn #[.agg #[.int .i64 x.n, .string x.name, .int .i64 x.r, .int .i64 x.g, .int .i64 x.b], .agg #[.int .i64 y.n, .string y.name, .int .i64 y.r, .int .i64 y.g, .int .i64 y.b], cp] W fun e w' => ∃ c : Int, e = .returned (.int .i64 c) ∧ (c < 0 ↔ key x < key y) ∧ Below W.heap.size W w'
theorem srt_one (key : Gel → Int) (D : Nat → Gel) (a : Nat) : SrtOn key D a (a + 1) := fun x y h1 h2 h3 => by
  obtain rfl : x = y := by omega
  exact Int.le_refl _
theorem grown_below {w w1 w2 : World} {r : Option Nat} (h1 : w.grownBy w1 r) (h2 : Below w1.heap.size w1 w2) : w.grownBy w2 r := grown_trans h1 (grown_of_below2 h2)
theorem CmpC.yes {fn : FuncId} {cp : Value} {key : Gel → Int} {W0 W : World} {g : Nat} (h : CmpC fn cp key W0 g) {x y : Gel} (hk : key x < key y) (hg : W0.grownBy W (some g)) : Calls Try.prog fn #[.agg #[.int .i64 x.n, .string x.name, .int .i64 x.r, .int .i64 x.g, .int .i64 x.b], .agg #[.int .i64 y.n, .string y.name, .int .i64 y.r, .int .i64 y.g, .int .i64 y.b], cp] W fun e w' => ∃ c : Int, e = .returned (.int .i64 c) ∧ c < 0 ∧ Below W.heap.size W w' :=
  (h.call x y W hg).mono fun e w' ⟨c, h1, h2, h3⟩ => ⟨c, h1, h2.2 hk, h3⟩
theorem CmpC.no {fn : FuncId} {cp : Value} {key : Gel → Int} {W0 W : World} {g : Nat} (h : CmpC fn cp key W0 g) {x y : Gel} (hk : ¬ key x < key y) (hg : W0.grownBy W (some g)) : Calls Try.prog fn #[.agg #[.int .i64 x.n, .string x.name, .int .i64 x.r, .int .i64 x.g, .int .i64 x.b], .agg #[.int .i64 y.n, .string y.name, .int .i64 y.r, .int .i64 y.g, .int .i64 y.b], cp] W fun e w' => ∃ c : Int, e = .returned (.int .i64 c) ∧ ¬ c < 0 ∧ Below W.heap.size W w' :=
  (h.call x y W hg).mono fun e w' ⟨c, h1, h2, h3⟩ => ⟨c, h1, fun hc => hk (h2.1 hc), h3⟩

set_option maxRecDepth 100000 in
set_option maxHeartbeats 16000000 in
theorem insSort_any (g N cap a b : Nat) (D : Nat → Gel) (fn : FuncId) (cp : Value) (key : Gel → Int) (W0 W : World) (hC : CmpC fn cp key W0 g) (hG : W0.grownBy W (some g)) (h : RowF W g N D) (hab : a ≤ b) (hb : b ≤ N) (hN : N ≤ 100000) :
    Calls Try.prog 37 #[.slice (some ⟨g, 0, none⟩) N cap, .int .i64 a, .int .i64 b, .func (.func fn) #[] #[cp]] W fun e w' => e = .returned (.tuple #[]) ∧ ∃ E, RowF w' g N E ∧ Moved key D E a b ∧ SrtOn key E a b ∧ W0.grownBy w' (some g) := by
  have hcf := hC.enter
  have HC := Lib.hid hC
  have HR0 := Lib.hid h
  have HG0 := Lib.hid hG
  clear hC h hG
  go_enter Try.func37, Try.ntmps37
  go_wp2_with fail
  go_loopw [8] (fun vi wr => ∃ (i : Nat) (E : Nat → Gel), a + 1 ≤ i ∧ (i ≤ b ∨ i = a + 1) ∧ vi = .int .i64 i ∧ Hid (SrtOn key E a i) ∧ Hid (Moved key D E a b) ∧ Hid (RowF wr g N E) ∧ Hid (W0.grownBy wr (some g))) (fun vi _ => b + 1 - (intOf vi).toNat)
  case atStart => exact ⟨a + 1, D, Nat.le_refl _, .inr rfl, by go_num, Lib.hid (srt_one key D a), Lib.hid (Moved.refl D a b), HR0, HG0⟩
  case round =>
    obtain ⟨i, E, hi1, hi2, rfl, HS, HM, HR, HG⟩ := hrel
    by_cases hlt : i < b
    rotate_left
    · have hge : ¬ (i : Int) < b := by omega
      have HF := Lib.hid (show SrtOn key E a b from fun x y h1 h2 h3 => HS.out x y h1 h2 (by omega))
      go_wp2_with fail
      go_end0
      exact ⟨rfl, E, HR.out, HM.out, HF.out, HG.out⟩
    have hlti : (i : Int) < b := by omega
    have hiN : i < N := by omega
    have HR1 := Lib.hid (show RowF wr g N (rot E i i (i + 1)) by rw [rot_start2]; exact HR.out)
    have HG1 := HG
    have HS1 := HS
    have HM1 := HM
    clear HR HG HS HM
    go_wp2_with fail
    go_loopw [9] (fun vj wr => ∃ j : Nat, a ≤ j ∧ j ≤ i ∧ vj = .int .i64 j ∧ Hid (∀ x, j ≤ x → x < i → key (E i) < key (E x)) ∧ Hid (RowF wr g N (rot E j i (i + 1))) ∧ Hid (W0.grownBy wr (some g))) (fun vj _ => (intOf vj).toNat)
    case atStart => exact ⟨i, by omega, Nat.le_refl _, rfl, Lib.hid (fun x h1 h2 => by omega), HR1, HG1⟩
    case round =>
      obtain ⟨j, hja, hji, rfl, HL, HR, HG⟩ := hrel
      have HEND := Lib.hid (fun (h : ∀ x, a ≤ x → x < j → key (E x) ≤ key (E i)) => put_last (f := key) hja hji HS1.out h HL.out)
      by_cases haj : a < j
      rotate_left
      · have hna : ¬ (a : Int) < j := by omega
        obtain ⟨hm9, hs9⟩ := HEND.out (fun x h1 h2 => by omega)
        have HM9 := Lib.hid (HM1.out.trans (hm9.wide (Nat.le_refl a) (by omega) (show i + 1 ≤ b by omega)))
        have HS9 := Lib.hid hs9
        have HRd := Lib.hid HR.out.drew
        have HGd := Lib.hid (grown_trans HG.out (grown_drew wr (some g)))
        clear hm9 hs9 HEND
        go_upto_region 4 with fail
        go_region
        all_goals go_wp2_with fail
        all_goals go_roundw
        case rel => exact ⟨i + 1, _, by omega, .inl (by omega), by go_num, HS9, HM9, HRd, HGd⟩
        case measure => simp [intOf]; omega
      have hai : (a : Int) < j := by omega
      obtain ⟨q, hq⟩ : ∃ q, j = q + 1 := ⟨j - 1, by omega⟩
      obtain ⟨p, hp⟩ : ∃ p, p = j := ⟨_, rfl⟩
      have hqi : (p : Int) - 1 = q := by omega
      have hpn : p < N := by omega
      have hqn : q < N := by omega
      have hpz : (p : Int) < N := by omega
      have hqz : (q : Int) < N := by omega
      have hp0 : (0 : Int) ≤ p := by omega
      have hq0 : (0 : Int) ≤ q := by omega
      have hwq : IntKind.i64.wrap (q : Int) = q := IntWalk.i64_in _ (by omega)
      have hgl := HR.out.lt
      have HPJ := Lib.hid hp
      have HQJ := Lib.hid hq
      have e1 : rot E j i (i + 1) p = E i := by
        have := rot_fst E hji (show i ≤ i + 1 by omega) (i := 0) (by omega)
        rw [Nat.add_zero, Nat.add_zero] at this
        rw [hp]; exact this
      have e2 : rot E j i (i + 1) q = E q := rot_out E hji (by omega) (.inl (by omega))
      have HSTEP := Lib.hid (show swp2 (rot E j i (i + 1)) p q = rot E q i (i + 1) by rw [hp, hq]; exact rot_down E (by omega))
      obtain ⟨E2, hE2⟩ : ∃ E2, E2 = rot E j i (i + 1) := ⟨_, rfl⟩
      rw [← hE2] at HR HSTEP e1 e2
      have HE2E := Lib.hid hE2
      rw [← hp] at hji hja hai ⊢
      clear hp hq hE2
      have HP := HR.out.elem hpn
      have HQ := HR.out.elem hqn
      have KP := Lib.hid (fun W' (hb : Below wr.heap.size wr W') => show W'.cell? ⟨g, p * 5, none⟩ = some (.int .i64 (E2 p).n) ∧ W'.cell? ⟨g, p * 5 + 1, none⟩ = some (.string (E2 p).name) ∧ W'.cell? ⟨g, p * 5 + 2, none⟩ = some (.int .i64 (E2 p).r) ∧ W'.cell? ⟨g, p * 5 + 3, none⟩ = some (.int .i64 (E2 p).g) ∧ W'.cell? ⟨g, p * 5 + 4, none⟩ = some (.int .i64 (E2 p).b) ∧ W'.cell? ⟨g, q * 5, none⟩ = some (.int .i64 (E2 q).n) ∧ W'.cell? ⟨g, q * 5 + 1, none⟩ = some (.string (E2 q).name) ∧ W'.cell? ⟨g, q * 5 + 2, none⟩ = some (.int .i64 (E2 q).r) ∧ W'.cell? ⟨g, q * 5 + 3, none⟩ = some (.int .i64 (E2 q).g) ∧ W'.cell? ⟨g, q * 5 + 4, none⟩ = some (.int .i64 (E2 q).b) from ⟨(hb.cell (p := ⟨g, p * 5, none⟩) hgl).trans HP.c0, (hb.cell (p := ⟨g, p * 5 + 1, none⟩) hgl).trans HP.c1, (hb.cell (p := ⟨g, p * 5 + 2, none⟩) hgl).trans HP.c2, (hb.cell (p := ⟨g, p * 5 + 3, none⟩) hgl).trans HP.c3, (hb.cell (p := ⟨g, p * 5 + 4, none⟩) hgl).trans HP.c4, (hb.cell (p := ⟨g, q * 5, none⟩) hgl).trans HQ.c0, (hb.cell (p := ⟨g, q * 5 + 1, none⟩) hgl).trans HQ.c1, (hb.cell (p := ⟨g, q * 5 + 2, none⟩) hgl).trans HQ.c2, (hb.cell (p := ⟨g, q * 5 + 3, none⟩) hgl).trans HQ.c3, (hb.cell (p := ⟨g, q * 5 + 4, none⟩) hgl).trans HQ.c4⟩)
      obtain ⟨x, hx⟩ : ∃ x, E2 p = x := ⟨_, rfl⟩
      obtain ⟨y, hy⟩ : ∃ y, E2 q = y := ⟨_, rfl⟩
      rw [hx, hy] at KP
      rw [hx] at HP
      rw [hy] at HQ
      have HXI := Lib.hid (show x = E i by rw [← hx]; exact e1)
      have HYQ := Lib.hid (show y = E q by rw [← hy]; exact e2)
      have HX := Lib.hid hx
      have HY := Lib.hid hy
      have c0 := HP.c0
      have f0 := HP.f0
      have c1 := HP.c1
      have f1 := HP.f1
      have c2 := HP.c2
      have f2 := HP.f2
      have c3 := HP.c3
      have f3 := HP.f3
      have c4 := HP.c4
      have f4 := HP.f4
      have d0 := HQ.c0
      have e0 := HQ.f0
      have d1 := HQ.c1
      have e1 := HQ.f1
      have d2 := HQ.c2
      have e2 := HQ.f2
      have d3 := HQ.c3
      have e3 := HQ.f3
      have d4 := HQ.c4
      have e4 := HQ.f4
      clear HP HQ hx hy e1 e2
      obtain ⟨bk, hbk⟩ : ∃ bk : Bool, (bk = true ↔ key x < key y) := ⟨decide (key x < key y), by simp⟩
      go_upto_region 4 with fail
      go_cut [34] (fun s wx => s = .bool bk ∧ Hid (Below wr.heap.size wr wx))
      case first =>
        cases bk
        · have hk : ¬ key x < key y := fun h => by have := hbk.2 h; cases this
          have HC1 := Lib.hid (HC.out.no hk (show W0.grownBy wr.drew (some g) from ⟨HG.out.os, HG.out.tape, HG.out.output, HG.out.size, HG.out.block⟩))
          have HC0 := Lib.hid (HC.out.no hk HG.out)
          clear hk hbk
          go_upto_region 4 with fail
          go_region_held3 (fun W' => W'.cell? ⟨g, p * 5, none⟩ = some (.int .i64 x.n) ∧ W'.cell? ⟨g, p * 5 + 1, none⟩ = some (.string x.name) ∧ W'.cell? ⟨g, p * 5 + 2, none⟩ = some (.int .i64 x.r) ∧ W'.cell? ⟨g, p * 5 + 3, none⟩ = some (.int .i64 x.g) ∧ W'.cell? ⟨g, p * 5 + 4, none⟩ = some (.int .i64 x.b) ∧ W'.cell? ⟨g, q * 5, none⟩ = some (.int .i64 y.n) ∧ W'.cell? ⟨g, q * 5 + 1, none⟩ = some (.string y.name) ∧ W'.cell? ⟨g, q * 5 + 2, none⟩ = some (.int .i64 y.r) ∧ W'.cell? ⟨g, q * 5 + 3, none⟩ = some (.int .i64 y.g) ∧ W'.cell? ⟨g, q * 5 + 4, none⟩ = some (.int .i64 y.b))
            (exact KP.out _ (by repeat' first | (with_reducible assumption) | (with_reducible exact Below.refl _ _) | (with_reducible refine Below.drew ?_)))
            (first
              | ((with_reducible refine HC1.out.mono ?_); rintro e wz ⟨c, rfl, hcn, hbz⟩; have hwz : Below wr.heap.size wr wz := ⟨hbz.os, hbz.tape, hbz.output, hbz.size, hbz.block⟩)
              | ((with_reducible refine HC0.out.mono ?_); rintro e wz ⟨c, rfl, hcn, hwz⟩)
              | fail)
          all_goals go_wp2_with fail
          all_goals go_meet
          all_goals exact ⟨by first | rw [decide_eq_false hcn] | rw [decide_eq_true hcn] | (rw [decide_eq_false (by omega)]) | rfl, Lib.hid (by first | exact hwz | exact hwz.drew)⟩
        · have hk : key x < key y := hbk.1 rfl
          have HC1 := Lib.hid (HC.out.yes hk (show W0.grownBy wr.drew (some g) from ⟨HG.out.os, HG.out.tape, HG.out.output, HG.out.size, HG.out.block⟩))
          have HC0 := Lib.hid (HC.out.yes hk HG.out)
          clear hk hbk
          go_upto_region 4 with fail
          go_region_held3 (fun W' => W'.cell? ⟨g, p * 5, none⟩ = some (.int .i64 x.n) ∧ W'.cell? ⟨g, p * 5 + 1, none⟩ = some (.string x.name) ∧ W'.cell? ⟨g, p * 5 + 2, none⟩ = some (.int .i64 x.r) ∧ W'.cell? ⟨g, p * 5 + 3, none⟩ = some (.int .i64 x.g) ∧ W'.cell? ⟨g, p * 5 + 4, none⟩ = some (.int .i64 x.b) ∧ W'.cell? ⟨g, q * 5, none⟩ = some (.int .i64 y.n) ∧ W'.cell? ⟨g, q * 5 + 1, none⟩ = some (.string y.name) ∧ W'.cell? ⟨g, q * 5 + 2, none⟩ = some (.int .i64 y.r) ∧ W'.cell? ⟨g, q * 5 + 3, none⟩ = some (.int .i64 y.g) ∧ W'.cell? ⟨g, q * 5 + 4, none⟩ = some (.int .i64 y.b))
            (exact KP.out _ (by repeat' first | (with_reducible assumption) | (with_reducible exact Below.refl _ _) | (with_reducible refine Below.drew ?_)))
            (first
              | ((with_reducible refine HC1.out.mono ?_); rintro e wz ⟨c, rfl, hcn, hbz⟩; have hwz : Below wr.heap.size wr wz := ⟨hbz.os, hbz.tape, hbz.output, hbz.size, hbz.block⟩)
              | ((with_reducible refine HC0.out.mono ?_); rintro e wz ⟨c, rfl, hcn, hwz⟩)
              | fail)
          all_goals go_wp2_with fail
          all_goals go_meet
          all_goals exact ⟨by first | rw [decide_eq_false hcn] | rw [decide_eq_true hcn] | (rw [decide_eq_false (by omega)]) | rfl, Lib.hid (by first | exact hwz | exact hwz.drew)⟩
      case rest =>
      obtain ⟨rfl, HBZ⟩ := hcut
      obtain ⟨wz, rfl⟩ : ∃ z, z = wc := ⟨wc, rfl⟩
      have HGZ := Lib.hid (grown_below HG.out HBZ.out)
      have HRZ := Lib.hid (HR.out.below HBZ.out)
      clear c0 f0 d0 e0 c1 f1 d1 e1 c2 f2 d2 e2 c3 f3 d3 e3 c4 f4 d4 e4 KP HG HR
      cases bk
      · have hk : ¬ key x < key y := fun h => by have := hbk.2 h; cases this
        obtain ⟨hm9, hs9⟩ := HEND.out (fun z h1 h2 => by
          have h3 : key (E z) ≤ key (E q) := HS1.out z q h1 (by have := HQJ.out; have := HPJ.out; omega) (by have := HQJ.out; have := HPJ.out; omega)
          have h4 : ¬ key (E i) < key (E q) := by rw [← HXI.out, ← HYQ.out]; exact hk
          omega)
        rw [← HE2E.out] at hm9 hs9
        have HM9 := Lib.hid (HM1.out.trans (hm9.wide (Nat.le_refl a) (by omega) (show i + 1 ≤ b by omega)))
        have HS9 := Lib.hid hs9
        clear hm9 hs9 HEND HX HY HXI HYQ HL HSTEP hbk hk
        go_wp2_with fail
        go_roundw
        case rel => exact ⟨i + 1, E2, by omega, .inl (by omega), by go_num, HS9, HM9, HRZ, HGZ⟩
        case measure => simp [intOf]; omega
      · have hk : key x < key y := hbk.1 rfl
        have HL2 := Lib.hid (show ∀ z, q ≤ z → z < i → key (E i) < key (E z) from fun z h1 h2 => by
          by_cases c : z = q
          · rw [c, ← HXI.out, ← HYQ.out]; exact hk
          · exact HL.out z (by have := HQJ.out; have := HPJ.out; omega) h2)
        have hqa : a ≤ q := by have := HQJ.out; have := HPJ.out; omega
        have hqi2 : q ≤ i := by have := HQJ.out; have := HPJ.out; omega
        have HT2 := Lib.hid (show RowF ((((((((((wz.setCell ⟨g, p * 5, none⟩ (.int .i64 y.n)).setCell ⟨g, p * 5 + 1, none⟩ (.string y.name)).setCell ⟨g, p * 5 + 2, none⟩ (.int .i64 y.r)).setCell ⟨g, p * 5 + 3, none⟩ (.int .i64 y.g)).setCell ⟨g, p * 5 + 4, none⟩ (.int .i64 y.b)).setCell ⟨g, q * 5, none⟩ (.int .i64 x.n)).setCell ⟨g, q * 5 + 1, none⟩ (.string x.name)).setCell ⟨g, q * 5 + 2, none⟩ (.int .i64 x.r)).setCell ⟨g, q * 5 + 3, none⟩ (.int .i64 x.g)).setCell ⟨g, q * 5 + 4, none⟩ (.int .i64 x.b)) g N (rot E q i (i + 1)) by
          have := HRZ.out.two hpn hqn
          rw [HSTEP.out, HX.out, HY.out] at this
          exact this)
        have HP := HRZ.out.elem hpn
        have HQ := HRZ.out.elem hqn
        rw [HX.out] at HP
        rw [HY.out] at HQ
        have c0 := HP.c0
        have f0 := HP.f0
        have c1 := HP.c1
        have f1 := HP.f1
        have c2 := HP.c2
        have f2 := HP.f2
        have c3 := HP.c3
        have f3 := HP.f3
        have c4 := HP.c4
        have f4 := HP.f4
        have d0 := HQ.c0
        have e0 := HQ.f0
        have d1 := HQ.c1
        have e1 := HQ.f1
        have d2 := HQ.c2
        have e2 := HQ.f2
        have d3 := HQ.c3
        have e3 := HQ.f3
        have d4 := HQ.c4
        have e4 := HQ.f4
        clear HP HQ HX HY HXI HYQ HL HEND HSTEP hbk hk
        go_upto_region 6 with fail
        go_region
        all_goals go_wp2_with fail
        all_goals go_roundw
        case rel => exact ⟨q, hqa, hqi2, rfl, HL2, Lib.hid HT2.out.drew, Lib.hid (grown_trans HGZ.out (grown_trans (grown_two wz g p q y x) (grown_drew _ _)))⟩
        case measure => simp [intOf]; omega
end Go.Proofs.Ytpmiinamaofnnaa
