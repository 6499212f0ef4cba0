/- The contract of level.toward: a level plus a part of the way to another one, rounded. -/
import Derived.Test.YtdicoggpcobbpaaDoorWide
import Derived.Deep.QuietTactic
import Derived.BigQuiet
import Derived.Deep.DeepCutAuto
namespace Go.Proofs.YtdicoggpcobbpaaDoor
open Go.RowKit

set_option maxHeartbeats 1000000 in
theorem toward_up (fr tt n d : Int) (w : World) (h0 : 0 ≤ fr) (h1 : fr ≤ tt) (h2 : tt ≤ 65535) (n0 : 0 ≤ n) (nd : n ≤ d) (hd : 0 < d) (hf : d < 324518553658426726783156020576256) :
    Calls Tryd.prog 82 #[.int .i64 fr, .int .i64 tt, .agg #[.int .u64 (hiW n), .int .u64 (loW n)], .agg #[.int .u64 (hiW d), .int .u64 (loW d)]] w fun e w' => e = .returned (.int .i64 (fr + rnd ((tt - fr) * n) d)) ∧ Below w.heap.size w w' := by
  have hm0 : 0 ≤ tt - fr := by omega
  have hm1 : tt - fr ≤ 65535 := by omega
  have fn : FitW n := ⟨n0, by omega⟩
  have fd : FitW d := ⟨by omega, by omega⟩
  have mB : n * (2 * (tt - fr)) ≤ d * 131070 := Int.mul_le_mul nd (by omega) (by omega) (by omega)
  have m0 : 0 ≤ n * (2 * (tt - fr)) := Int.mul_nonneg n0 (by omega)
  have fnm : FitW (n * (2 * (tt - fr))) := ⟨m0, by omega⟩
  have fb : FitW (n * (2 * (tt - fr)) + d) := ⟨by omega, by omega⟩
  have hr := rnd_range (tt - fr) n d hd hm0 n0 nd
  have HT := Lib.hid fun W => times_any n (2 * (tt - fr)) fn (by omega) (by omega) fnm W
  have HP := Lib.hid fun W => plus_any (n * (2 * (tt - fr))) d fnm fd fb W
  have HD := Lib.hid fun k (k0 : 0 ≤ k) (k1 : k ≤ tt - fr) => fun W => times_any d (2 * k) fd (by omega) (by omega) ⟨Int.mul_nonneg (by omega) (by omega), by
    have := Int.mul_le_mul_of_nonneg_left (show 2 * k ≤ 131070 by omega) (show 0 ≤ d by omega)
    omega⟩ W
  have HU := Lib.hid fun k => up_iff (m := tt - fr) (n := n) (k := k) hd
  clear mB m0 fnm fb fn fd hf nd n0
  go_enter Tryd.func82, Tryd.ntmps82
  have hwr : IntKind.i64.wrap (2 * (tt - fr)) = 2 * (tt - fr) := IntWalk.i64_in _ (by omega)
  go_upto_region 3 with fail
  go_cut [10] (fun s10 wx => ∃ g : Nat, s10 = .pointer (some ⟨g, 0, none⟩) ∧ wx.cell? ⟨g, 0, none⟩ = some (.int .u64 (hiW (n * (2 * (tt - fr)) + d))) ∧ wx.cell? ⟨g, 1, none⟩ = some (.int .u64 (loW (n * (2 * (tt - fr)) + d))) ∧ g < wx.heap.size ∧
      wx.cell? ⟨w.heap.size + 1, 0, none⟩ = some (.int .u64 (hiW d)) ∧ wx.cell? ⟨w.heap.size + 1, 1, none⟩ = some (.int .u64 (loW d)) ∧ w.heap.size + 1 < wx.heap.size ∧ Below w.heap.size w wx)
  case first =>
    go_region_held3 (fun w' => w'.cell? ⟨w.heap.size, 0, none⟩ = some (.int .u64 (hiW n)) ∧ w'.cell? ⟨w.heap.size, 1, none⟩ = some (.int .u64 (loW n)) ∧ w'.cell? ⟨w.heap.size + 1, 0, none⟩ = some (.int .u64 (hiW d)) ∧ w'.cell? ⟨w.heap.size + 1, 1, none⟩ = some (.int .u64 (loW d)))
      (simp [go_sem, World.cell?_alloc_past])
      (first
        | (go_at_call 105; refine (HT.out _).mono ?_; rintro e w1 ⟨rfl, o1, o2, rfl⟩)
        | (go_at_call 106; refine (HP.out _).mono ?_; rintro e w1 ⟨rfl, o1, o2, o3, rfl⟩))
    all_goals (go_wp2_with fail; go_meet; refine ⟨_, rfl, ?_, ?_, ?_, ?_, ?_, ?_, ?_⟩)
    all_goals (first | (simp [go_sem, World.cell?_alloc_past]; done) | (simp; omega; done) | (repeat' first | exact Below.refl _ _ | apply Below.drew | refine Below.alloc ?_ (by simp <;> omega) _))
  case rest =>
    obtain ⟨g, rfl, g1, g2, g3, b1, b2, b3, hbw⟩ := hcut
    have HR := Lib.hid hr
    clear hr hwr
    go_wp2
    generalize hR : rnd ((tt - fr) * n) d = R at *
    obtain ⟨r0, r1⟩ := HR.out
    have HRR := Lib.hid hR
    clear hR HR
    go_loopw [11, 12] (fun lo hi wr => ∃ l h : Int, lo = .int .i64 l ∧ hi = .int .i64 h ∧ 0 ≤ l ∧ l ≤ R ∧ R ≤ h ∧ h ≤ tt - fr ∧ Below wc.heap.size wc wr) (fun lo hi _ => (intOf hi - intOf lo).toNat)
    case atStart => exact ⟨0, tt - fr, rfl, rfl, Int.le_refl _, r0, r1, Int.le_refl _, Below.refl _ _⟩
    case round =>
      obtain ⟨l, h, rfl, rfl, l0, l1, h1', h2', hb⟩ := hrel
      by_cases hlt : l < h
      · have k1 : l < (l + h + 1) / 2 := by omega
        have k2 : (l + h + 1) / 2 ≤ h := by omega
        have c1 : wr.cell? ⟨g, 0, none⟩ = some (.int .u64 (hiW (n * (2 * (tt - fr)) + d))) := (hb.cell g3).trans g1
        have c2 : wr.cell? ⟨g, 1, none⟩ = some (.int .u64 (loW (n * (2 * (tt - fr)) + d))) := (hb.cell g3).trans g2
        have c3 : wr.cell? ⟨w.heap.size + 1, 0, none⟩ = some (.int .u64 (hiW d)) := (hb.cell b3).trans b1
        have c4 : wr.cell? ⟨w.heap.size + 1, 1, none⟩ = some (.int .u64 (loW d)) := (hb.cell b3).trans b2
        have g3' : g < wr.heap.size := Nat.lt_of_lt_of_le g3 hb.size
        have b3' : w.heap.size + 1 < wr.heap.size := Nat.lt_of_lt_of_le b3 hb.size
        have KP := Lib.hid (show ∀ w', Below wr.heap.size wr w' → w'.cell? ⟨g, 0, none⟩ = some (.int .u64 (hiW (n * (2 * (tt - fr)) + d))) ∧ w'.cell? ⟨g, 1, none⟩ = some (.int .u64 (loW (n * (2 * (tt - fr)) + d))) ∧ w'.cell? ⟨w.heap.size + 1, 0, none⟩ = some (.int .u64 (hiW d)) ∧ w'.cell? ⟨w.heap.size + 1, 1, none⟩ = some (.int .u64 (loW d)) from
          fun w' k => ⟨(k.cell g3').trans c1, (k.cell g3').trans c2, (k.cell b3').trans c3, (k.cell b3').trans c4⟩)
        have HDk := Lib.hid (HD.out ((l + h + 1) / 2) (by omega) (by omega))
        have HUk := Lib.hid (HU.out ((l + h + 1) / 2))
        clear c1 c2 c3 c4
        generalize hk : (l + h + 1) / 2 = k at *
        have HK := Lib.hid hk
        by_cases hRk : R < k
        · have hd1 : decide (n * (2 * (tt - fr)) + d < d * (2 * k)) = true := by simp; exact HUk.out.2 hRk
          go_wp2
          have hw2 : IntKind.i64.wrap (2 * k) = 2 * k := IntWalk.i64_in _ (by omega)
          go_region_held3 (fun w' => w'.cell? ⟨g, 0, none⟩ = some (.int .u64 (hiW (n * (2 * (tt - fr)) + d))) ∧ w'.cell? ⟨g, 1, none⟩ = some (.int .u64 (loW (n * (2 * (tt - fr)) + d))) ∧ w'.cell? ⟨w.heap.size + 1, 0, none⟩ = some (.int .u64 (hiW d)) ∧ w'.cell? ⟨w.heap.size + 1, 1, none⟩ = some (.int .u64 (loW d)))
            ((refine KP.out _ ?_; (repeat' first | exact Below.refl _ _ | apply Below.drew | refine Below.alloc ?_ (by simp <;> omega) _)))
            (first
              | (go_at_call 105; refine (HDk.out _).mono ?_; rintro e w1 ⟨rfl, o1, o2, rfl⟩)
              | (go_at_call 107; refine (less_any _ _ _).mono ?_; rintro e w1 ⟨rfl, o1, o2, rfl⟩))
          all_goals
            clear hw2
            go_wp2
            go_roundw
            case rel => exact ⟨l, k - 1, by go_num, by go_num, by omega, by omega, by omega, by omega, hb.trans (by (repeat' first | exact Below.refl _ _ | apply Below.drew | refine Below.alloc ?_ (by have := hb.size; simp <;> omega) _))⟩
            case measure => simp [intOf]; omega
        · have hd1 : decide (n * (2 * (tt - fr)) + d < d * (2 * k)) = false := by simp; exact Int.not_lt.1 fun q => hRk (HUk.out.1 q)
          go_wp2
          have hw2 : IntKind.i64.wrap (2 * k) = 2 * k := IntWalk.i64_in _ (by omega)
          go_region_held3 (fun w' => w'.cell? ⟨g, 0, none⟩ = some (.int .u64 (hiW (n * (2 * (tt - fr)) + d))) ∧ w'.cell? ⟨g, 1, none⟩ = some (.int .u64 (loW (n * (2 * (tt - fr)) + d))) ∧ w'.cell? ⟨w.heap.size + 1, 0, none⟩ = some (.int .u64 (hiW d)) ∧ w'.cell? ⟨w.heap.size + 1, 1, none⟩ = some (.int .u64 (loW d)))
            ((refine KP.out _ ?_; (repeat' first | exact Below.refl _ _ | apply Below.drew | refine Below.alloc ?_ (by simp <;> omega) _)))
            (first
              | (go_at_call 105; refine (HDk.out _).mono ?_; rintro e w1 ⟨rfl, o1, o2, rfl⟩)
              | (go_at_call 107; refine (less_any _ _ _).mono ?_; rintro e w1 ⟨rfl, o1, o2, rfl⟩))
          all_goals
            clear hw2
            go_wp2
            go_roundw
            case rel => exact ⟨k, h, by go_num, by go_num, by omega, by omega, by omega, by omega, hb.trans (by (repeat' first | exact Below.refl _ _ | apply Below.drew | refine Below.alloc ?_ (by have := hb.size; simp <;> omega) _))⟩
            case measure => simp [intOf]; omega
      · go_wp2
        go_ret
        have : l = R := by omega
        exact ⟨by rw [HRR.out, this]; rfl, hbw.trans (hb.mono hbw.size)⟩

set_option maxHeartbeats 1000000 in
theorem toward_down (fr tt n d : Int) (w : World) (h0 : 0 ≤ tt) (h1 : tt < fr) (h2 : fr ≤ 65535) (n0 : 0 ≤ n) (nd : n ≤ d) (hd : 0 < d) (hf : d < 324518553658426726783156020576256) :
    Calls Tryd.prog 82 #[.int .i64 fr, .int .i64 tt, .agg #[.int .u64 (hiW n), .int .u64 (loW n)], .agg #[.int .u64 (hiW d), .int .u64 (loW d)]] w fun e w' => e = .returned (.int .i64 (fr + rnd ((tt - fr) * n) d)) ∧ Below w.heap.size w w' := by
  have fn : FitW n := ⟨n0, by omega⟩
  have fd : FitW d := ⟨by omega, by omega⟩
  have mB : n * (2 * (fr - tt)) ≤ d * 131070 := Int.mul_le_mul nd (by omega) (by omega) (by omega)
  have m0 : 0 ≤ n * (2 * (fr - tt)) := Int.mul_nonneg n0 (by omega)
  have fnm : FitW (n * (2 * (fr - tt))) := ⟨m0, by omega⟩
  have hr := rnd_neg_range (tt - fr) n d hd (by omega) n0 nd
  have hm1 : fr - tt ≤ 65535 := by omega
  have HT := Lib.hid fun W => times_any n (2 * (fr - tt)) fn (by omega) (by omega) fnm W
  have HD := Lib.hid fun k (k0 : 0 ≤ k) (k1 : k ≤ fr - tt) => fun W => times_any d (2 * k + 1) fd (by omega) (by omega) ⟨Int.mul_nonneg (by omega) (by omega), by
    have := Int.mul_le_mul_of_nonneg_left (show 2 * k + 1 ≤ 131072 by omega) (show 0 ≤ d by omega)
    omega⟩ W
  have HU := Lib.hid fun k => down_iff (m := fr - tt) (n := n) (k := k) hd
  have eneg : -(fr - tt) = tt - fr := by omega
  rw [eneg] at HU
  clear mB m0 fnm fn fd hf nd n0 eneg
  generalize hR : rnd ((tt - fr) * n) d = Q at *
  go_enter Tryd.func82, Tryd.ntmps82
  go_upto_region 12 with fail
  go_cut [14, 15] (fun s14 s15 wx => s14 = .int .i64 (fr - tt) ∧ ∃ g : Nat, s15 = .pointer (some ⟨g, 0, none⟩) ∧ wx.cell? ⟨g, 0, none⟩ = some (.int .u64 (hiW (n * (2 * (fr - tt))))) ∧ wx.cell? ⟨g, 1, none⟩ = some (.int .u64 (loW (n * (2 * (fr - tt))))) ∧ g < wx.heap.size ∧
      wx.cell? ⟨w.heap.size + 1, 0, none⟩ = some (.int .u64 (hiW d)) ∧ wx.cell? ⟨w.heap.size + 1, 1, none⟩ = some (.int .u64 (loW d)) ∧ w.heap.size + 1 < wx.heap.size ∧ Below w.heap.size w wx)
  case first =>
    go_wp2_with (first | (go_at_call 105; refine (HT.out _).mono ?_; rintro e w1 ⟨rfl, o1, o2, rfl⟩))
    go_meet
    refine ⟨rfl, _, rfl, ?_, ?_, ?_, ?_, ?_, ?_, ?_⟩
    all_goals (first | (simp [go_sem, World.cell?_alloc_past]; done) | (simp; omega; done) | (repeat' first | exact Below.refl _ _ | apply Below.drew | refine Below.alloc ?_ (by simp <;> omega) _))
  case rest =>
    obtain ⟨rfl, g, rfl, g1, g2, g3, b1, b2, b3, hbw⟩ := hcut
    go_wp2
    obtain ⟨r0, r1⟩ := hr
    go_loopw [16, 17] (fun lo hi wr => ∃ l h : Int, lo = .int .i64 l ∧ hi = .int .i64 h ∧ 0 ≤ l ∧ l ≤ -Q ∧ -Q ≤ h ∧ h ≤ fr - tt ∧ Below wc.heap.size wc wr) (fun lo hi _ => (intOf hi - intOf lo).toNat)
    case atStart => exact ⟨0, fr - tt, rfl, rfl, Int.le_refl _, by omega, by omega, Int.le_refl _, Below.refl _ _⟩
    case round =>
      obtain ⟨l, h, rfl, rfl, l0, l1, h1', h2', hb⟩ := hrel
      by_cases hlt : l < h
      · have k1 : l ≤ (l + h) / 2 := by omega
        have k2 : (l + h) / 2 < h := by omega
        have c1 : wr.cell? ⟨g, 0, none⟩ = some (.int .u64 (hiW (n * (2 * (fr - tt))))) := (hb.cell g3).trans g1
        have c2 : wr.cell? ⟨g, 1, none⟩ = some (.int .u64 (loW (n * (2 * (fr - tt))))) := (hb.cell g3).trans g2
        have c3 : wr.cell? ⟨w.heap.size + 1, 0, none⟩ = some (.int .u64 (hiW d)) := (hb.cell b3).trans b1
        have c4 : wr.cell? ⟨w.heap.size + 1, 1, none⟩ = some (.int .u64 (loW d)) := (hb.cell b3).trans b2
        have g3' : g < wr.heap.size := Nat.lt_of_lt_of_le g3 hb.size
        have b3' : w.heap.size + 1 < wr.heap.size := Nat.lt_of_lt_of_le b3 hb.size
        have KP := Lib.hid (show ∀ w', Below wr.heap.size wr w' → w'.cell? ⟨g, 0, none⟩ = some (.int .u64 (hiW (n * (2 * (fr - tt))))) ∧ w'.cell? ⟨g, 1, none⟩ = some (.int .u64 (loW (n * (2 * (fr - tt))))) ∧ w'.cell? ⟨w.heap.size + 1, 0, none⟩ = some (.int .u64 (hiW d)) ∧ w'.cell? ⟨w.heap.size + 1, 1, none⟩ = some (.int .u64 (loW d)) from
          fun w' k => ⟨(k.cell g3').trans c1, (k.cell g3').trans c2, (k.cell b3').trans c3, (k.cell b3').trans c4⟩)
        have HDk := Lib.hid (HD.out ((l + h) / 2) (by omega) (by omega))
        have HUk := Lib.hid (HU.out ((l + h) / 2))
        clear c1 c2 c3 c4
        generalize hk : (l + h) / 2 = k at *
        have HK := Lib.hid hk
        by_cases hRk : k < -Q
        · have hd1 : decide (d * (2 * k + 1) < n * (2 * (fr - tt))) = true := by simp; exact HUk.out.2 hRk
          go_wp2
          have hw2 : IntKind.i64.wrap (2 * k) = 2 * k := IntWalk.i64_in _ (by omega)
          have hw3 : IntKind.i64.wrap (2 * k + 1) = 2 * k + 1 := IntWalk.i64_in _ (by omega)
          go_region_held3 (fun w' => w'.cell? ⟨g, 0, none⟩ = some (.int .u64 (hiW (n * (2 * (fr - tt))))) ∧ w'.cell? ⟨g, 1, none⟩ = some (.int .u64 (loW (n * (2 * (fr - tt))))) ∧ w'.cell? ⟨w.heap.size + 1, 0, none⟩ = some (.int .u64 (hiW d)) ∧ w'.cell? ⟨w.heap.size + 1, 1, none⟩ = some (.int .u64 (loW d)))
            ((refine KP.out _ ?_; (repeat' first | exact Below.refl _ _ | apply Below.drew | refine Below.alloc ?_ (by simp <;> omega) _)))
            (first
              | (go_at_call 105; refine (HDk.out _).mono ?_; rintro e w1 ⟨rfl, o1, o2, rfl⟩)
              | (go_at_call 107; refine (less_any _ _ _).mono ?_; rintro e w1 ⟨rfl, o1, o2, rfl⟩))
          all_goals
            clear hw2 hw3
            go_wp2
            go_roundw
            case rel => exact ⟨k + 1, h, by go_num, by go_num, by omega, by omega, by omega, by omega, hb.trans (by (repeat' first | exact Below.refl _ _ | apply Below.drew | refine Below.alloc ?_ (by have := hb.size; simp <;> omega) _))⟩
            case measure => simp [intOf]; omega
        · have hd1 : decide (d * (2 * k + 1) < n * (2 * (fr - tt))) = false := by simp; exact Int.not_lt.1 fun q => hRk (HUk.out.1 q)
          go_wp2
          have hw2 : IntKind.i64.wrap (2 * k) = 2 * k := IntWalk.i64_in _ (by omega)
          have hw3 : IntKind.i64.wrap (2 * k + 1) = 2 * k + 1 := IntWalk.i64_in _ (by omega)
          go_region_held3 (fun w' => w'.cell? ⟨g, 0, none⟩ = some (.int .u64 (hiW (n * (2 * (fr - tt))))) ∧ w'.cell? ⟨g, 1, none⟩ = some (.int .u64 (loW (n * (2 * (fr - tt))))) ∧ w'.cell? ⟨w.heap.size + 1, 0, none⟩ = some (.int .u64 (hiW d)) ∧ w'.cell? ⟨w.heap.size + 1, 1, none⟩ = some (.int .u64 (loW d)))
            ((refine KP.out _ ?_; (repeat' first | exact Below.refl _ _ | apply Below.drew | refine Below.alloc ?_ (by simp <;> omega) _)))
            (first
              | (go_at_call 105; refine (HDk.out _).mono ?_; rintro e w1 ⟨rfl, o1, o2, rfl⟩)
              | (go_at_call 107; refine (less_any _ _ _).mono ?_; rintro e w1 ⟨rfl, o1, o2, rfl⟩))
          all_goals
            clear hw2 hw3
            go_wp2
            go_roundw
            case rel => exact ⟨l, k, by go_num, by go_num, by omega, by omega, by omega, by omega, hb.trans (by (repeat' first | exact Below.refl _ _ | apply Below.drew | refine Below.alloc ?_ (by have := hb.size; simp <;> omega) _))⟩
            case measure => simp [intOf]; omega
      · go_wp2
        go_ret
        have : l = -Q := by omega
        exact ⟨by rw [this]; exact congrArg (fun x => Ending.returned (.int .i64 x)) (by omega), hbw.trans (hb.mono hbw.size)⟩

theorem toward_any (fr tt n d : Int) (w : World) (hf : LvOk fr) (ht : LvOk tt) (n0 : 0 ≤ n) (nd : n ≤ d) (hd : 0 < d) (hb : d < 324518553658426726783156020576256) :
    Calls Tryd.prog 82 #[.int .i64 fr, .int .i64 tt, .agg #[.int .u64 (hiW n), .int .u64 (loW n)], .agg #[.int .u64 (hiW d), .int .u64 (loW d)]] w fun e w' => e = .returned (.int .i64 (fr + rnd ((tt - fr) * n) d)) ∧ Below w.heap.size w w' := by
  by_cases h : fr ≤ tt
  · exact toward_up fr tt n d w hf.1 h ht.2 n0 nd hd hb
  · exact toward_down fr tt n d w ht.1 (by omega) hf.2 n0 nd hd hb
end Go.Proofs.YtdicoggpcobbpaaDoor
