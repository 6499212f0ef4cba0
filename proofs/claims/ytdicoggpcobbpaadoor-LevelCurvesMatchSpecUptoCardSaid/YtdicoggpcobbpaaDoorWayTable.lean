/- The contract of level.way for tables, and for every right curve. -/
import Derived.Test.YtdicoggpcobbpaaDoorWay
import Derived.RegionTactic
import Derived.ChangeAlike
namespace Go.Proofs.YtdicoggpcobbpaaDoor
open Go.RowKit

theorem seg_drop (p q : Int) (ps : List (Int × Int)) (i : Nat) (h : i + 1 < ps.length) :
    seg p q (ps.drop i) = if h2 : i + 2 < ps.length then (if (ps[i + 1]'h).1 * q ≤ 1000 * p then seg p q (ps.drop (i + 1)) else (ps[i]'(by omega), ps[i + 1]'h)) else (ps[i]'(by omega), ps[i + 1]'h) := by
  by_cases h2 : i + 2 < ps.length
  · rw [dif_pos h2, List.drop_eq_getElem_cons (show i < ps.length by omega), List.drop_eq_getElem_cons h, List.drop_eq_getElem_cons h2]
    simp only [seg]
  · rw [dif_neg h2, List.drop_eq_getElem_cons (show i < ps.length by omega), List.drop_eq_getElem_cons h, List.drop_eq_nil_of_le (by omega)]
    simp only [seg]

set_option maxRecDepth 100000 in
set_option maxHeartbeats 2000000 in
theorem way6 (p q : Int) (b off cap : Nat) (ps : List (Int × Int)) (w : World) (p0 : 0 ≤ p) (p1 : p ≤ q) (q0 : 0 < q) (q1 : q ≤ 36000000)
    (hb : b < w.heap.size) (hp : PtsAt w b off ps) (h2 : 2 ≤ ps.length) (h20 : ps.length ≤ 20) (hr : ∀ x ∈ ps, 0 ≤ x.1 ∧ x.1 ≤ 1000 ∧ 0 ≤ x.2 ∧ x.2 ≤ 1000)
    (hin : (seg p q ps).1.1 * q ≤ 1000 * p ∧ 1000 * p ≤ (seg p q ps).2.1 * q ∧ (seg p q ps).1.1 < (seg p q ps).2.1 ∧ (seg p q ps).1.2 ≤ (seg p q ps).2.2) :
    Calls Tryd.prog 81 #[.agg #[.int .i64 6, .slice (some ⟨b, off, none⟩) ps.length cap], .int .i64 p, .int .i64 q] w fun e w' => e = .returned (.tuple #[.agg #[.int .u64 (hiW (segN (seg p q ps).1 (seg p q ps).2 p q)), .int .u64 (loW (segN (seg p q ps).1 (seg p q ps).2 p q))], .agg #[.int .u64 (hiW (segD (seg p q ps).1 (seg p q ps).2 q)), .int .u64 (loW (segD (seg p q ps).1 (seg p q ps).2 q))]]) ∧ Below w.heap.size w w' := by
  have b2 : q * q ≤ 36000000 * 36000000 := Int.mul_le_mul (by omega) (by omega) (by omega) (by omega)
  have b4 : 0 ≤ q * q := Int.mul_nonneg (by omega) (by omega)
  have O1 := Lib.hid fun W => of_any q (by omega) (by omega) W
  have T1 := Lib.hid fun W => times_any q q ⟨by omega, by omega⟩ (by omega) (by omega) ⟨b4, by omega⟩ W
  have HR := Lib.hid hr
  have HP := Lib.hid hp
  have HIN := Lib.hid hin
  clear b2 b4 hr hp hin
  go_enter Tryd.func81, Tryd.ntmps81
  go_wp2_with (first | (go_at_call 104; ((with_reducible refine (O1.out _).mono ?_); rintro e w1 ⟨rfl, o1, rfl⟩)) | (go_at_call 105; ((with_reducible refine (T1.out _).mono ?_); rintro e w1 ⟨rfl, o1, o2, rfl⟩)))
  go_loopw [10] (fun i wr => ∃ k : Nat, i = .int .i64 k ∧ k + 1 < ps.length ∧ seg p q ps = seg p q (ps.drop k) ∧ Below w.heap.size w wr ∧ w.heap.size + 1 + 1 < wr.heap.size ∧ wr.cell? ⟨w.heap.size + 1, 0, none⟩ = some (.int .u64 0) ∧ wr.cell? ⟨w.heap.size + 1, 1, none⟩ = some (.int .u64 0) ∧ wr.cell? ⟨w.heap.size + 1 + 1, 0, none⟩ = some (.int .u64 0) ∧ wr.cell? ⟨w.heap.size + 1 + 1, 1, none⟩ = some (.int .u64 0) ∧ wr.frozen? ⟨w.heap.size + 1, 0, none⟩ = false ∧ wr.frozen? ⟨w.heap.size + 1, 1, none⟩ = false ∧ wr.frozen? ⟨w.heap.size + 1 + 1, 0, none⟩ = false ∧ wr.frozen? ⟨w.heap.size + 1 + 1, 1, none⟩ = false) (fun i _ => ps.length - (intOf i).toNat)
  case atStart =>
    refine ⟨0, rfl, by omega, rfl, by (repeat' first | exact Below.refl _ _ | apply Below.drew | refine Below.alloc ?_ (by simp <;> omega) _), by simp <;> omega, ?_⟩
    simp [go_sem, World.cell?_alloc_past, World.frozen?_alloc_past]
  case round =>
    obtain ⟨k, rfl, hk, hs, hbw, hz, f1, f2, f3, f4, f5, f6, f7, f8⟩ := hrel
    have HS := Lib.hid hs
    have HD := Lib.hid (seg_drop p q ps k hk)
    clear hs
    have r1 := HR.out ps[k] (List.getElem_mem _)
    have r2 := HR.out ps[k + 1] (List.getElem_mem _)
    have hc1 : wr.cell? ⟨b, off + k * 2, none⟩ = some (.int .i64 ps[k].1) := (hbw.cell hb).trans (HP.out k (by omega)).1
    have hc2 : wr.cell? ⟨b, off + k * 2 + 1, none⟩ = some (.int .i64 ps[k].2) := (hbw.cell hb).trans (HP.out k (by omega)).2
    have hd1 : wr.cell? ⟨b, off + (k + 1) * 2, none⟩ = some (.int .i64 ps[k + 1].1) := (hbw.cell hb).trans (HP.out (k + 1) hk).1
    have hd2 : wr.cell? ⟨b, off + (k + 1) * 2 + 1, none⟩ = some (.int .i64 ps[k + 1].2) := (hbw.cell hb).trans (HP.out (k + 1) hk).2
    obtain ⟨r11, r12, r13, r14⟩ := r1
    obtain ⟨r21, r22, r23, r24⟩ := r2
    by_cases hgo : ∃ h : k + 2 < ps.length, (ps[k + 1]).1 * q ≤ 1000 * p
    · obtain ⟨hlt, ht⟩ := hgo
      have hm : 0 ≤ ps[k + 1].1 * q ∧ ps[k + 1].1 * q ≤ 1000 * 36000000 := ⟨Int.mul_nonneg r21 (by omega), Int.mul_le_mul r22 q1 (by omega) (by omega)⟩
      obtain ⟨hm1, hm2⟩ := hm
      go_wp2
      go_roundw
      case rel => exact ⟨k + 1, by go_num, by omega, by rw [HS.out, HD.out, dif_pos hlt, if_pos ht], hbw, hz, f1, f2, f3, f4, f5, f6, f7, f8⟩
      case measure => simp [intOf]; omega
    · have hseg : seg p q ps = (ps[k], ps[k + 1]) := by
        rw [HS.out, HD.out]
        by_cases hlt : k + 2 < ps.length
        · rw [dif_pos hlt, if_neg fun ht => hgo ⟨hlt, ht⟩]
        · rw [dif_neg hlt]
      have HG := Lib.hid hseg
      have hin := HIN.out
      rw [hseg] at hin
      obtain ⟨i1, i2, i3, i4⟩ := hin
      simp only at i1 i2 i3 i4
      have HGN := Lib.hid (show segN (seg p q ps).1 (seg p q ps).2 p q = ps[k].2 * (ps[k + 1].1 - ps[k].1) * q + (ps[k + 1].2 - ps[k].2) * (1000 * p - ps[k].1 * q) by rw [hseg]; rfl)
      have HGD := Lib.hid (show segD (seg p q ps).1 (seg p q ps).2 q = 1000 * (ps[k + 1].1 - ps[k].1) * q by rw [hseg]; rfl)
      clear hseg HG
      have hb' : b < wr.heap.size := Nat.lt_of_lt_of_le hb hbw.size
      have hm : 0 ≤ ps[k + 1].1 * q ∧ ps[k + 1].1 * q ≤ 1000 * 36000000 := ⟨Int.mul_nonneg r21 (by omega), Int.mul_le_mul r22 q1 (by omega) (by omega)⟩
      obtain ⟨hm1, hm2⟩ := hm
      have hex : (k + 2 < ps.length ∧ ¬ ps[k + 1].1 * q ≤ 1000 * p) ∨ ¬ k + 2 < ps.length := by
        by_cases hlt : k + 2 < ps.length
        · exact .inl ⟨hlt, fun ht => hgo ⟨hlt, ht⟩⟩
        · exact .inr hlt
      have HKP := Lib.hid (show ∀ w', Below wr.heap.size wr w' → w'.cell? ⟨b, off + k * 2, none⟩ = some (.int .i64 ps[k].1) ∧ w'.cell? ⟨b, off + k * 2 + 1, none⟩ = some (.int .i64 ps[k].2) ∧ w'.cell? ⟨b, off + (k + 1) * 2, none⟩ = some (.int .i64 ps[k + 1].1) ∧ w'.cell? ⟨b, off + (k + 1) * 2 + 1, none⟩ = some (.int .i64 ps[k + 1].2) from
        fun w' kk => ⟨(kk.cell hb').trans hc1, (kk.cell hb').trans hc2, (kk.cell hb').trans hd1, (kk.cell hb').trans hd2⟩)
      clear hgo HS HD HIN HR HP
      generalize ps[k].1 = x1 at *
      generalize ps[k].2 = y1 at *
      generalize ps[k + 1].1 = x2 at *
      generalize ps[k + 1].2 = y2 at *
      rcases hex with ⟨hlt, ht⟩ | hlt
      all_goals
        go_upto_region 18 with fail
        clear hc1 hc2 hd1 hd2
        have z1 : (0 : Int) ≤ (k : Int) := by omega
        have z2 : (k : Int) < (ps.length : Int) := by omega
        have z3 : IntKind.i64.wrap ((k : Int) + 1) = (k : Int) + 1 := IntWalk.i64_in _ (by omega)
        have z4 : (k : Int) + 1 < (ps.length : Int) := by omega
        have z5 : ((k : Int) + 1).toNat = k + 1 := by omega
        have z6 : (0 : Int) ≤ (k : Int) + 1 := by omega
        go_cut [11, 12] (fun s11 s12 wx => ∃ g h : Nat, s11 = .pointer (some ⟨g, 0, none⟩) ∧ s12 = .pointer (some ⟨h, 0, none⟩) ∧ wx.cell? ⟨g, 0, none⟩ = some (.int .i64 x1) ∧ wx.cell? ⟨g, 1, none⟩ = some (.int .i64 y1) ∧ wx.cell? ⟨h, 0, none⟩ = some (.int .i64 x2) ∧ wx.cell? ⟨h, 1, none⟩ = some (.int .i64 y2) ∧ Below wr.heap.size wr wx)
        case first =>
          go_region_held3 (fun w' => w'.cell? ⟨b, off + k * 2, none⟩ = some (.int .i64 x1) ∧ w'.cell? ⟨b, off + k * 2 + 1, none⟩ = some (.int .i64 y1) ∧ w'.cell? ⟨b, off + (k + 1) * 2, none⟩ = some (.int .i64 x2) ∧ w'.cell? ⟨b, off + (k + 1) * 2 + 1, none⟩ = some (.int .i64 y2))
            ((refine HKP.out _ ?_; (repeat' first | exact Below.refl _ _ | apply Below.drew | refine Below.alloc ?_ (by simp <;> omega) _)))
            (first | fail)
          all_goals (go_wp2_with fail; go_meet; exact ⟨_, _, rfl, rfl, by simp [go_sem, World.cell?_alloc_past], by simp [go_sem, World.cell?_alloc_past], by simp [go_sem, World.cell?_alloc_past], by simp [go_sem, World.cell?_alloc_past], by (repeat' first | exact Below.refl _ _ | apply Below.drew | refine Below.alloc ?_ (by simp <;> omega) _)⟩)
        case rest =>
          obtain ⟨g, h, rfl, rfl, g1, g2, g3, g4, hbx⟩ := hcut
          clear z1 z2 z3 z4 z5 z6 HKP
          have sz1 : w.heap.size + 1 < wr.heap.size := by omega
          have f1' := (hbx.cell (p := ⟨w.heap.size + 1, 0, none⟩) sz1).trans f1
          have f2' := (hbx.cell (p := ⟨w.heap.size + 1, 1, none⟩) sz1).trans f2
          have f3' := (hbx.cell (p := ⟨w.heap.size + 1 + 1, 0, none⟩) hz).trans f3
          have f4' := (hbx.cell (p := ⟨w.heap.size + 1 + 1, 1, none⟩) hz).trans f4
          have f5' := (hbx.frozen (p := ⟨w.heap.size + 1, 0, none⟩) sz1).trans f5
          have f6' := (hbx.frozen (p := ⟨w.heap.size + 1, 1, none⟩) sz1).trans f6
          have f7' := (hbx.frozen (p := ⟨w.heap.size + 1 + 1, 0, none⟩) hz).trans f7
          have f8' := (hbx.frozen (p := ⟨w.heap.size + 1 + 1, 1, none⟩) hz).trans f8
          have hzx : w.heap.size + 1 + 1 < wc.heap.size := Nat.lt_of_lt_of_le hz hbx.size
          have hbwx : Below w.heap.size w wc := hbw.trans (hbx.mono hbw.size)
          clear f1 f2 f3 f4 f5 f6 f7 f8 hbx hbw hb'
          have n1 : 0 ≤ y1 * (x2 - x1) := Int.mul_nonneg r13 (by omega)
          have n2 : y1 * (x2 - x1) ≤ 1000 * 1000 := Int.mul_le_mul r14 (by omega) (by omega) (by omega)
          have n3 : 0 ≤ y1 * (x2 - x1) * q := Int.mul_nonneg n1 (by omega)
          have n4 : y1 * (x2 - x1) * q ≤ (1000 * 1000) * 36000000 := Int.mul_le_mul n2 q1 (by omega) (by omega)
          have n5 : 0 ≤ x1 * q := Int.mul_nonneg r11 (by omega)
          have n6 : 0 ≤ (y2 - y1) * (1000 * p - x1 * q) := Int.mul_nonneg (by omega) (by omega)
          have n7 : (y2 - y1) * (1000 * p - x1 * q) ≤ 1000 * 36000000000 := Int.mul_le_mul (by omega) (by omega) (by omega) (by omega)
          have n8 : 0 ≤ 1000 * (x2 - x1) * q := Int.mul_nonneg (by omega) (by omega)
          have n9 : 1000 * (x2 - x1) * q ≤ 1000000 * 36000000 := Int.mul_le_mul (by omega) q1 (by omega) (by omega)
          have sz2 : w.heap.size + 1 < wc.heap.size := by omega
          have CARRY := Lib.hid (show ∀ W, Below wc.heap.size wc W → W.cell? ⟨w.heap.size + 1, 0, none⟩ = some (.int .u64 0) ∧ W.cell? ⟨w.heap.size + 1, 1, none⟩ = some (.int .u64 0) ∧ W.cell? ⟨w.heap.size + 1 + 1, 0, none⟩ = some (.int .u64 0) ∧ W.cell? ⟨w.heap.size + 1 + 1, 1, none⟩ = some (.int .u64 0) ∧ W.frozen? ⟨w.heap.size + 1, 0, none⟩ = false ∧ W.frozen? ⟨w.heap.size + 1, 1, none⟩ = false ∧ W.frozen? ⟨w.heap.size + 1 + 1, 0, none⟩ = false ∧ W.frozen? ⟨w.heap.size + 1 + 1, 1, none⟩ = false from
            fun W k => ⟨(k.cell sz2).trans f1', (k.cell sz2).trans f2', (k.cell hzx).trans f3', (k.cell hzx).trans f4', (k.frozen sz2).trans f5', (k.frozen sz2).trans f6', (k.frozen hzx).trans f7', (k.frozen hzx).trans f8'⟩)
          have Q1 := Lib.hid fun W (hW : Below wc.heap.size wc W) => (of_any (y1 * (x2 - x1) * q + (y2 - y1) * (1000 * p - x1 * q)) (by omega) (by omega) W).mono fun e w' ⟨he, c1, hw'⟩ => (⟨he, by rw [hw']; exact bt hW below1⟩ : _ ∧ Below wc.heap.size wc w')
          have Q2 := Lib.hid fun W (hW : Below wc.heap.size wc W) => (of_any (1000 * (x2 - x1)) (by omega) (by omega) W).mono fun e w' ⟨he, c1, hw'⟩ => (⟨he, by rw [hw']; exact bt hW below1⟩ : _ ∧ Below wc.heap.size wc w')
          have Q3 := Lib.hid fun W (hW : Below wc.heap.size wc W) => (times_any (1000 * (x2 - x1)) q ⟨by omega, by omega⟩ (by omega) (by omega) ⟨n8, by omega⟩ W).mono fun e w' ⟨he, c1, c2, hw'⟩ => (⟨he, by rw [hw']; exact bt hW below2⟩ : _ ∧ Below wc.heap.size wc w')
          clear n8 n9 O1 T1 f1' f2' f3' f4' f5' f6' f7' f8'
          go_wp2_with fail
          refine (Q1.out _ (Below.refl _ _)).mono ?_
          rintro e v1 ⟨rfl, hv1⟩
          go_wp2_with fail
          refine (Q2.out _ hv1).mono ?_
          rintro e v2 ⟨rfl, hv2⟩
          go_wp2_with fail
          refine (Q3.out _ hv2).mono ?_
          rintro e v3 ⟨rfl, hv3⟩
          obtain ⟨f1, f2, f3, f4, f5, f6, f7, f8⟩ := CARRY.out _ hv3
          clear hv1 hv2 g1 g2 g3 g4
          go_wp2
          refine bodyPost_ret (v := .tuple #[.agg #[.int .u64 (hiW (y1 * (x2 - x1) * q + (y2 - y1) * (1000 * p - x1 * q))), .int .u64 (loW (y1 * (x2 - x1) * q + (y2 - y1) * (1000 * p - x1 * q)))], .agg #[.int .u64 (hiW (1000 * (x2 - x1) * q)), .int .u64 (loW (1000 * (x2 - x1) * q))]]) ?_ rfl ⟨by rw [HGN.out, HGD.out], ?_⟩
          · simp [results, Tryd.results81, go_sem, *]
          · exact ((((hbwx.trans (hv3.mono hbwx.size)).setCell (by simp) _).setCell (by simp) _).setCell (by simp; omega) _).setCell (by simp; omega) _

theorem steps_ends {c : Cv} (hc : RightC c) (h6 : c.kind = 6) (p q : Int) (q0 : 0 < q) (p0 : 0 ≤ p) (p1 : p ≤ q) :
    (seg p q c.pts).1.1 * q ≤ 1000 * p ∧ 1000 * p ≤ (seg p q c.pts).2.1 * q ∧ (seg p q c.pts).1.1 < (seg p q c.pts).2.1 ∧ (seg p q c.pts).1.2 ≤ (seg p q c.pts).2.2 := by
  obtain ⟨l2, _, lr, lh, ll, ls⟩ := hc.2.2.2 h6
  have := seg_in p q q0 c.pts l2 ls (fun a ha => by rw [lh] at ha; simp at ha; subst ha; simp; omega) (fun b hb => by rw [ll] at hb; simp at hb; subst hb; show _ ≤ 1000 * q; omega)
  exact ⟨this.1, this.2.1, this.2.2.1, this.2.2.2.1⟩

/-- way, for every right curve -/
theorem way_any (v : Value) (c : Cv) (p q : Int) (w : World) (hv : CvV w v c) (hc : RightC c) (p0 : 0 ≤ p) (p1 : p ≤ q) (q0 : 0 < q) (q1 : q ≤ 36000000) :
    Calls Tryd.prog 81 #[v, .int .i64 p, .int .i64 q] w fun e w' => e = .returned (.tuple #[.agg #[.int .u64 (hiW (wayN c p q)), .int .u64 (loW (wayN c p q))], .agg #[.int .u64 (hiW (wayD c p q)), .int .u64 (loW (wayD c p q))]]) ∧ Below w.heap.size w w' := by
  obtain ⟨pv, rfl, hp⟩ := hv
  have hk := hc.1
  have hk' := hc.2.1
  have ends := steps_ends hc
  unfold wayN wayD
  by_cases e2 : c.kind = 2
  · simp only [if_pos e2]; rw [e2]; exact way2 p q pv w p0 p1 q0 q1
  simp only [if_neg e2]
  by_cases e3 : c.kind = 3
  · simp only [if_pos e3]; rw [e3]; exact way3 p q pv w p0 p1 q0 q1
  simp only [if_neg e3]
  by_cases e4 : c.kind = 4
  · simp only [if_pos e4]; rw [e4]; exact way4 p q pv w p0 p1 q0 q1
  simp only [if_neg e4]
  by_cases e5 : c.kind = 5
  · simp only [if_pos e5]; rw [e5]
    by_cases hpq : p < q
    · rw [if_pos hpq]; exact way5a p q pv w p0 p1 q0 q1 hpq
    · rw [if_neg hpq]; exact way5b p q pv w p0 p1 q0 q1 hpq
  simp only [if_neg e5]
  by_cases e6 : c.kind = 6
  · simp only [if_pos e6]; rw [e6]
    obtain ⟨l2, l20, lr, _⟩ := hc.2.2.2 e6
    rcases hp with ⟨h, _⟩ | ⟨_, _, b, off, cap, rfl, hb, hp⟩
    · rw [h] at l2; simp at l2
    · exact way6 p q b off cap c.pts w p0 p1 q0 q1 hb hp l2 l20 lr (ends e6 p q q0 p0 p1)
  simp only [if_neg e6]
  have e1 : c.kind = 1 := by omega
  rw [e1]
  exact way1 p q pv w p0 p1 q0 q1

theorem wayD_bound (c : Cv) (hc : RightC c) (p q : Int) (p0 : 0 ≤ p) (p1 : p ≤ q) (q0 : 0 < q) (q1 : q ≤ 36000000) : wayD c p q < 324518553658426726783156020576256 := by
  have b2 : q * q ≤ 36000000 * 36000000 := Int.mul_le_mul (by omega) (by omega) (by omega) (by omega)
  have b4 : 0 ≤ q * q := Int.mul_nonneg (by omega) (by omega)
  have b8 : q * q * q ≤ (36000000 * 36000000) * 36000000 := Int.mul_le_mul b2 q1 (by omega) (by omega)
  have ends := steps_ends hc
  unfold wayD
  by_cases e2 : c.kind = 2
  · rw [if_pos e2]; omega
  rw [if_neg e2]
  by_cases e3 : c.kind = 3
  · rw [if_pos e3]; omega
  rw [if_neg e3]
  by_cases e4 : c.kind = 4
  · rw [if_pos e4]; omega
  rw [if_neg e4]
  by_cases e5 : c.kind = 5
  · rw [if_pos e5]; omega
  rw [if_neg e5]
  by_cases e6 : c.kind = 6
  · rw [if_pos e6]
    obtain ⟨l2, l20, lr, lh, ll, ls⟩ := hc.2.2.2 e6
    have := seg_in p q q0 c.pts l2 ls (fun a ha => by rw [lh] at ha; simp at ha; subst ha; simp; omega) (fun b hb => by rw [ll] at hb; simp at hb; subst hb; show _ ≤ 1000 * q; omega)
    have ra := lr _ this.2.2.2.2.1
    have rb := lr _ this.2.2.2.2.2
    unfold segD
    have : 1000 * ((seg p q c.pts).2.1 - (seg p q c.pts).1.1) * q ≤ 1000000 * 36000000 := Int.mul_le_mul (by omega) q1 (by omega) (by omega)
    omega
  rw [if_neg e6]; omega
end Go.Proofs.YtdicoggpcobbpaaDoor
