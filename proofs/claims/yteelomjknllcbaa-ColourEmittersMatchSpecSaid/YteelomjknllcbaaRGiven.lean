/- What emitters give, by the reference. (printed by wip/gen/gen_rgiven.py) -/
import Derived.Test.YteelomjknllcbaaDriveP
import Derived.Test.YteelomjknllcbaaREmCheck
import Derived.StillTailTactics
namespace Go.Proofs.Yteelomjknllcbaa
open Go.RowKit
set_option linter.unusedVariables false
set_option linter.unusedSimpArgs false

set_option maxHeartbeats 1000000 in
theorem parts3_any (r g b : Int) (w : World) :
    Calls Try.prog 53 #[.agg #[.int .i64 r, .int .i64 g, .int .i64 b]] w fun e w' => e = .returned (.agg #[.int .i64 r, .int .i64 g, .int .i64 b]) ∧ Below w.heap.size w w' := by
  go_enter Try.func53, Try.ntmps53
  go_wp2
  exact bodyPost_ret (v := .agg #[.int .i64 r, .int .i64 g, .int .i64 b]) (by simp [results, Try.results53, go_sem, World.cell?_alloc_past]) rfl ⟨rfl, by repeat' first | exact Below.refl _ _ | refine Below.alloc ?_ (by simp <;> omega) _⟩

/-- what is known of a world within the reference's given: the sums lie in the second block -/
structure GrS (w : World) (a b c : Int) (W : World) : Prop where
  bl : Below w.heap.size w W
  sz : w.heap.size + 2 ≤ W.heap.size
  res : Box3 W w.heap.size (.int .i64 0) (.int .i64 0) (.int .i64 0)
  box : Box3 W (w.heap.size + 1) (.int .i64 a) (.int .i64 b) (.int .i64 c)
theorem GrS.below {w : World} {a b c : Int} {W W1 : World} (h : GrS w a b c W) (hb : Below W.heap.size W W1) : GrS w a b c W1 := by
  have hz := h.sz
  exact ⟨h.bl.trans (hb.mono (by omega)), by have := hb.size; omega, h.res.below hb (by omega), h.box.below hb (by omega)⟩
theorem GrS.set {w : World} {a b c : Int} {W : World} (h : GrS w a b c W) (i : Nat) (u : Int) (hi : i < 3) : GrS w (if i = 0 then u else a) (if i = 1 then u else b) (if i = 2 then u else c) (W.setCell ⟨w.heap.size + 1, i, none⟩ (.int .i64 u)) := by
  refine ⟨below_set h.bl _ _ _ (by omega), by simpa using h.sz, bx_set1 (by omega) h.res, ?_⟩
  have hi3 : i = 0 ∨ i = 1 ∨ i = 2 := by omega
  rcases hi3 with rfl | rfl | rfl
  · exact bx_set0 h.box
  · exact bx_s1 h.box
  · exact bx_s2 h.box
theorem GrS.drew {w : World} {a b c : Int} {W : World} (h : GrS w a b c W) : GrS w a b c W.drew := ⟨h.bl.drew, h.sz, bx_drew h.res, bx_drew h.box⟩
theorem grS_of (w : World) : GrS w 0 0 0 ((w.alloc (.cells #[.int .i64 0, .int .i64 0, .int .i64 0] 23)).alloc (.cells #[.int .i64 0, .int .i64 0, .int .i64 0] 67)) :=
  ⟨by repeat' first | exact Below.refl _ _ | refine Below.alloc ?_ (by simp <;> omega) _, by simp, bx_alloc (by simp) (bx_new rfl), bx_new (by simp)⟩
/-- a part of the whole, rounded, by the reference -/
theorem rdiv_any (n : Nat) (h : n ≤ 60000000000) (W : World) (v : Value) (hq : IsQ W.heap.size W v (n : Int) 65535) :
    Calls Try.prog 68 #[v] W fun e w' => e = .returned (.int .i64 (rnd (n : Int) 65535)) ∧ Below W.heap.size W w' := by
  have := roundQ W.heap.size 65535 (n : Int) v W (Nat.le_refl _) (sm_mid (by omega) (by omega)) (sm_mid (by omega) (by omega)) (by omega) (Nat.le_trans (Nat.div_le_self _ _) (by omega)) hq
  rw [rndQ_rnd'] at this
  exact this

set_option maxRecDepth 100000 in
set_option maxHeartbeats 16000000 in
theorem rgiven_any (ev zv : Value) (l : List Emi) (zs : List Int) (w : World) (hl : 0 < l.length) (he : EmS w.heap.size w ev l) (hz : IntS w.heap.size w zv zs) (hok : GvOk l zs) :
    Calls Try.prog 48 #[ev, zv] w fun e w' => e = .returned (.agg #[.int .i64 (endV (gsum Emi.r l zs l.length)), .int .i64 (endV (gsum Emi.g l zs l.length)), .int .i64 (endV (gsum Emi.b l zs l.length))]) ∧ Below w.heap.size w w' := by
  obtain ⟨ao, cap, rfl, ⟨hcap, hmax⟩, hcl, hfit⟩ := he
  obtain ⟨bo, zcap, rfl, hz1, hz2, hz3⟩ := hz
  obtain ⟨b, off, rfl, hb, hcc⟩ := hcl (by intro h; subst h; simp at hl)
  obtain ⟨zb, zoff, rfl, hzb, hrow⟩ := hz3 (by rw [hok.len]; exact hl)
  have hlen := hok.len
  have h12 := hok.l12
  rw [hlen] at hz1
  have HCL := Lib.hid (fun k (hk : k < l.length) => (show EmiC w b (off + k * 4) (l.getD k default) by rw [List.getD_eq_getElem?_getD, List.getElem?_eq_getElem hk]; exact hcc k hk))
  have HRW := Lib.hid (fun k (hk : k < l.length) => (show w.cell? ⟨zb, zoff + k, none⟩ = some (.int .i64 (zs.getD k 0)) by rw [List.getD_eq_getElem?_getD, List.getElem?_eq_getElem (by omega)]; exact hrow k (by omega)))
  have HOK := Lib.hid hok
  have HR := Lib.hid (fun k hk => gsum_le Emi.r l zs (fun k hk => ⟨(hok.col k hk).1, hok.lev k hk⟩) k hk)
  have HG := Lib.hid (fun k hk => gsum_le Emi.g l zs (fun k hk => ⟨(hok.col k hk).2.1, hok.lev k hk⟩) k hk)
  have HB := Lib.hid (fun k hk => gsum_le Emi.b l zs (fun k hk => ⟨(hok.col k hk).2.2, hok.lev k hk⟩) k hk)
  have HNX := Lib.hid (fun (f : Emi → Int) k => (show gsum f l zs (k + 1) = gsum f l zs k + f (l.getD k default) * zs.getD k 0 from rfl))
  have HPT := Lib.hid (fun (x y z : Int) => parts3_any x y z)
  rw [hlen]
  clear hcl hcc hz3 hrow hok hfit
  go_enter Try.func48, Try.ntmps48
  go_wp2_with fail
  go_loopw [14] (fun i wr => ∃ k : Nat, k ≤ l.length ∧ i = .int .i64 k ∧ GrS w (gsum Emi.r l zs k) (gsum Emi.g l zs k) (gsum Emi.b l zs k) wr) (fun i _ => l.length - (intOf i).toNat)
  case atStart => exact ⟨0, Nat.zero_le _, rfl, grS_of _⟩
  case round =>
    obtain ⟨k, hk, rfl, hS⟩ := hrel
    have HS := Lib.hid hS
    have hbw := hS.bl
    have hzw := hS.sz
    by_cases hlt : k < l.length
    · obtain ⟨c0, c1, c2, c3⟩ := HCL.out k hlt
      have d0 : wr.cell? ⟨b, off + k * 4, none⟩ = some (.string (l.getD k default).name) := (hbw.cell (p := ⟨b, off + k * 4, none⟩) hb).trans c0
      have d1 : wr.cell? ⟨b, off + k * 4 + 1, none⟩ = some (.int .i64 (l.getD k default).r) := (hbw.cell (p := ⟨b, off + k * 4 + 1, none⟩) hb).trans c1
      have d2 : wr.cell? ⟨b, off + k * 4 + 2, none⟩ = some (.int .i64 (l.getD k default).g) := (hbw.cell (p := ⟨b, off + k * 4 + 2, none⟩) hb).trans c2
      have d3 : wr.cell? ⟨b, off + k * 4 + 3, none⟩ = some (.int .i64 (l.getD k default).b) := (hbw.cell (p := ⟨b, off + k * 4 + 3, none⟩) hb).trans c3
      have hbr : b < wr.heap.size := Nat.lt_of_lt_of_le hb hbw.size
      have HZ := Lib.hid (HRW.out k hlt)
      have P1 := prod_le (HOK.out.col k hlt).1 (HOK.out.lev k hlt)
      have P2 := prod_le (HOK.out.col k hlt).2.1 (HOK.out.lev k hlt)
      have P3 := prod_le (HOK.out.col k hlt).2.2 (HOK.out.lev k hlt)
      have Q1 := HR.out k hk
      have Q2 := HG.out k hk
      have Q3 := HB.out k hk
      have N1 := Lib.hid (HNX.out Emi.r k)
      have N2 := Lib.hid (HNX.out Emi.g k)
      have N3 := Lib.hid (HNX.out Emi.b k)
      generalize gsum Emi.r l zs k = A at *
      generalize gsum Emi.g l zs k = B at *
      generalize gsum Emi.b l zs k = C at *
      generalize zs.getD k 0 = z at *
      generalize l.getD k default = x at *
      obtain ⟨nm, xr, xg, xb⟩ := x
      simp only at d0 d1 d2 d3 P1 P2 P3 N1 N2 N3
      have q1 : A ≤ 60000000000 := by omega
      have q2 : B ≤ 60000000000 := by omega
      have q3 : C ≤ 60000000000 := by omega
      obtain ⟨P10, P11⟩ := P1
      obtain ⟨P20, P21⟩ := P2
      obtain ⟨P30, P31⟩ := P3
      have q4 : 0 ≤ A := Q1.1
      have q5 : 0 ≤ B := Q2.1
      have q6 : 0 ≤ C := Q3.1
      have i0 : ∀ w, (Instr.index 67 (.agg #[.int .i64 xr, .int .i64 xg, .int .i64 xb]) (.int .i64 0)).run Try.prog w = .ok (.int .i64 xr) w := fun _ => by kernel_rfl
      have i1 : ∀ w, (Instr.index 67 (.agg #[.int .i64 xr, .int .i64 xg, .int .i64 xb]) (.int .i64 1)).run Try.prog w = .ok (.int .i64 xg) w := fun _ => by kernel_rfl
      have i2 : ∀ w, (Instr.index 67 (.agg #[.int .i64 xr, .int .i64 xg, .int .i64 xb]) (.int .i64 2)).run Try.prog w = .ok (.int .i64 xb) w := fun _ => by kernel_rfl
      clear hbw c0 c1 c2 c3 hS Q1 Q2 Q3
      go_wp2_with fail
      refine (HPT.out _ _ _ _).mono ?_
      rintro e w2 ⟨rfl, hb2⟩
      have HS0 := Lib.hid ((HS.out.below ((Below.refl _ _).alloc (Nat.le_refl _) _)).below hb2)
      clear hb2 d0 d1 d2 d3
      go_wp2_with fail
      go_loopw [22] (fun j wq => ∃ m : Nat, m ≤ 3 ∧ j = .int .i64 m ∧ GrS w (rsQ A (A + xr * z) 0 m) (rsQ B (B + xg * z) 1 m) (rsQ C (C + xb * z) 2 m) wq) (fun j _ => 3 - (intOf j).toNat)
      case atStart => exact ⟨0, by omega, rfl, HS0.out⟩
      case round =>
        obtain ⟨m, hm, rfl, hS2⟩ := hrel
        have HS2 := Lib.hid hS2
        have hzq := hS2.sz
        have hw2q : w.heap.size + 1 < wr.heap.size := by omega
        have dz : wr.cell? ⟨zb, zoff + k, none⟩ = some (.int .i64 z) := (hS2.bl.cell (p := ⟨zb, zoff + k, none⟩) hzb).trans HZ.out
        have hzr : zb < wr.heap.size := Nat.lt_of_lt_of_le hzb hS2.bl.size
        obtain ⟨y0, y1, y2, y3, y4, y5⟩ := hS2.box
        have hm4 : m = 0 ∨ m = 1 ∨ m = 2 ∨ m = 3 := by omega
        clear hm hS2
        rcases hm4 with rfl | rfl | rfl | rfl
        · simp only [rsQ, Nat.lt_irrefl, if_false, Nat.not_lt_zero] at y0 y1 y2
          have y0' : wr.drew.cell? ⟨w.heap.size + 1, 0, none⟩ = _ := y0
          have y1' : wr.drew.cell? ⟨w.heap.size + 1, 1, none⟩ = _ := y1
          have y2' : wr.drew.cell? ⟨w.heap.size + 1, 2, none⟩ = _ := y2
          go_upto_region 8 with fail
          go_still_tail 11, (by kernel_rfl)
          all_goals go_wp2_with fail
          go_roundw
          case rel =>
            first
              | exact ⟨1, by omega, by first | rfl | go_num, by first | exact HS2.out.set 0 (A + xr * z) (by omega) | exact HS2.out.drew.set 0 (A + xr * z) (by omega) | exact (HS2.out.set 0 (A + xr * z) (by omega)).drew⟩
              | ((repeat apply Exists.intro); refine ⟨⟨1, by omega, by first | rfl | go_num, by first | exact HS2.out.set 0 (A + xr * z) (by omega) | exact HS2.out.drew.set 0 (A + xr * z) (by omega) | exact (HS2.out.set 0 (A + xr * z) (by omega)).drew⟩, ?_⟩; rfl)
          case measure => simp [intOf]
        · simp only [rsQ, Nat.lt_irrefl, if_false, Nat.not_lt_zero] at y0 y1 y2
          have y0' : wr.drew.cell? ⟨w.heap.size + 1, 0, none⟩ = _ := y0
          have y1' : wr.drew.cell? ⟨w.heap.size + 1, 1, none⟩ = _ := y1
          have y2' : wr.drew.cell? ⟨w.heap.size + 1, 2, none⟩ = _ := y2
          go_upto_region 8 with fail
          go_still_tail 11, (by kernel_rfl)
          all_goals go_wp2_with fail
          go_roundw
          case rel =>
            first
              | exact ⟨2, by omega, by first | rfl | go_num, by first | exact HS2.out.set 1 (B + xg * z) (by omega) | exact HS2.out.drew.set 1 (B + xg * z) (by omega) | exact (HS2.out.set 1 (B + xg * z) (by omega)).drew⟩
              | ((repeat apply Exists.intro); refine ⟨⟨2, by omega, by first | rfl | go_num, by first | exact HS2.out.set 1 (B + xg * z) (by omega) | exact HS2.out.drew.set 1 (B + xg * z) (by omega) | exact (HS2.out.set 1 (B + xg * z) (by omega)).drew⟩, ?_⟩; rfl)
          case measure => simp [intOf]
        · simp only [rsQ, Nat.lt_irrefl, if_false, Nat.not_lt_zero] at y0 y1 y2
          have y0' : wr.drew.cell? ⟨w.heap.size + 1, 0, none⟩ = _ := y0
          have y1' : wr.drew.cell? ⟨w.heap.size + 1, 1, none⟩ = _ := y1
          have y2' : wr.drew.cell? ⟨w.heap.size + 1, 2, none⟩ = _ := y2
          go_upto_region 8 with fail
          go_still_tail 11, (by kernel_rfl)
          all_goals go_wp2_with fail
          go_roundw
          case rel =>
            first
              | exact ⟨3, by omega, by first | rfl | go_num, by first | exact HS2.out.set 2 (C + xb * z) (by omega) | exact HS2.out.drew.set 2 (C + xb * z) (by omega) | exact (HS2.out.set 2 (C + xb * z) (by omega)).drew⟩
              | ((repeat apply Exists.intro); refine ⟨⟨3, by omega, by first | rfl | go_num, by first | exact HS2.out.set 2 (C + xb * z) (by omega) | exact HS2.out.drew.set 2 (C + xb * z) (by omega) | exact (HS2.out.set 2 (C + xb * z) (by omega)).drew⟩, ?_⟩; rfl)
          case measure => simp [intOf]
        · clear y0 y1 y2 y3 y4 y5
          go_wp2_with fail
          go_roundw
          case rel =>
            first
              | exact ⟨k + 1, by omega, by go_num, by rw [N1.out, N2.out, N3.out]; exact HS2.out⟩
              | ((repeat apply Exists.intro); refine ⟨⟨k + 1, by omega, by go_num, by rw [N1.out, N2.out, N3.out]; exact HS2.out⟩, ?_⟩; rfl)
          case measure => simp [intOf]; omega
    · have hkk : k = l.length := by omega
      have Q1 := HR.out k hk
      have Q2 := HG.out k hk
      have Q3 := HB.out k hk
      subst hkk
      obtain ⟨nA, hnA⟩ : ∃ n : Nat, gsum Emi.r l zs l.length = (n : Int) := ⟨(gsum Emi.r l zs l.length).toNat, by omega⟩
      obtain ⟨nB, hnB⟩ : ∃ n : Nat, gsum Emi.g l zs l.length = (n : Int) := ⟨(gsum Emi.g l zs l.length).toNat, by omega⟩
      obtain ⟨nC, hnC⟩ : ∃ n : Nat, gsum Emi.b l zs l.length = (n : Int) := ⟨(gsum Emi.b l zs l.length).toNat, by omega⟩
      have HPA := Lib.hid (fun W => part_any nA 65535 W (by omega) (by omega))
      have HPB := Lib.hid (fun W => part_any nB 65535 W (by omega) (by omega))
      have HPC := Lib.hid (fun W => part_any nC 65535 W (by omega) (by omega))
      have HRA := Lib.hid (fun W v hq => rdiv_any nA (by omega) W v hq)
      have HRB := Lib.hid (fun W v hq => rdiv_any nB (by omega) W v hq)
      have HRC := Lib.hid (fun W v hq => rdiv_any nC (by omega) W v hq)
      obtain ⟨eA, hA⟩ : ∃ e, endV (gsum Emi.r l zs l.length) = e := ⟨_, rfl⟩
      obtain ⟨eB, hB⟩ : ∃ e, endV (gsum Emi.g l zs l.length) = e := ⟨_, rfl⟩
      obtain ⟨eC, hC⟩ : ∃ e, endV (gsum Emi.b l zs l.length) = e := ⟨_, rfl⟩
      have GA := Lib.hid hA
      have GB := Lib.hid hB
      have GC := Lib.hid hC
      have HEA := Lib.hid (show eA = if rnd (nA : Int) 65535 < 65535 then rnd (nA : Int) 65535 else 65535 by rw [← hA, hnA]; rfl)
      have HEB := Lib.hid (show eB = if rnd (nB : Int) 65535 < 65535 then rnd (nB : Int) 65535 else 65535 by rw [← hB, hnB]; rfl)
      have HEC := Lib.hid (show eC = if rnd (nC : Int) 65535 < 65535 then rnd (nC : Int) 65535 else 65535 by rw [← hC, hnC]; rfl)
      rw [hnA, hnB, hnC] at HS
      have hS9 := HS.out
      obtain ⟨y0, y1, y2, y3, y4, y5⟩ := hS9.box
      have hw2q : w.heap.size + 1 < wr.heap.size := by omega
      have hb1 : rnd (nA : Int) 65535 ≤ 1000000 := by unfold rnd; omega
      have hb2 : rnd (nB : Int) 65535 ≤ 1000000 := by unfold rnd; omega
      have hb3 : rnd (nC : Int) 65535 ≤ 1000000 := by unfold rnd; omega
      generalize rnd (nA : Int) 65535 = qA at *
      generalize rnd (nB : Int) 65535 = qB at *
      generalize rnd (nC : Int) 65535 = qC at *
      have i0 : ∀ w, (Instr.index 67 (.agg #[.int .i64 nA, .int .i64 nB, .int .i64 nC]) (.int .i64 0)).run Try.prog w = .ok (.int .i64 nA) w := fun _ => by kernel_rfl
      have i1 : ∀ w, (Instr.index 67 (.agg #[.int .i64 nA, .int .i64 nB, .int .i64 nC]) (.int .i64 1)).run Try.prog w = .ok (.int .i64 nB) w := fun _ => by kernel_rfl
      have i2 : ∀ w, (Instr.index 67 (.agg #[.int .i64 nA, .int .i64 nB, .int .i64 nC]) (.int .i64 2)).run Try.prog w = .ok (.int .i64 nC) w := fun _ => by kernel_rfl
      clear Q1 Q2 Q3 hA hB hC hnA hnB hnC hbw hS hS9
      go_wp2_with fail
      go_loopw [40] (fun j wq => ∃ m : Nat, m ≤ 3 ∧ j = .int .i64 m ∧ GrS w (rsQ nA eA 0 m) (rsQ nB eB 1 m) (rsQ nC eC 2 m) wq) (fun j _ => 3 - (intOf j).toNat)
      case atStart => exact ⟨0, by omega, rfl, HS.out⟩
      case round =>
        obtain ⟨m, hm, rfl, hS2⟩ := hrel
        have HS2 := Lib.hid hS2
        have hzq := hS2.sz
        have hw2q : w.heap.size + 1 < wr.heap.size := by omega
        clear y0 y1 y2 y3 y4 y5
        obtain ⟨y0, y1, y2, y3, y4, y5⟩ := hS2.box
        have hm4 : m = 0 ∨ m = 1 ∨ m = 2 ∨ m = 3 := by omega
        clear hm hS2
        rcases hm4 with rfl | rfl | rfl | rfl
        · simp only [rsQ, Nat.lt_irrefl, if_false, Nat.not_lt_zero] at y0 y1 y2
          go_wp2_with fail
          refine (HPA.out _).mono ?_
          rintro e W1 ⟨v1, rfl, hq1, _, hb1⟩
          have HQ1 := Lib.hid hq1
          have HS3 := Lib.hid (HS2.out.below hb1)
          obtain ⟨s1, ao1, L1, cap1, bo1, M1, capm1, rfl⟩ := isQ_shape hq1
          clear hq1 hb1 y0 y1 y2 y3 y4 y5
          go_wp2_with fail
          refine (HRA.out _ _ HQ1.out).mono ?_
          rintro e W2 ⟨rfl, hb2⟩
          have HS4 := Lib.hid (HS3.out.below hb2)
          obtain ⟨y0, y1, y2, y3, y4, y5⟩ := HS4.out.box
          simp only [rsQ, Nat.lt_irrefl, if_false, Nat.not_lt_zero] at y0 y1 y2
          have hz4 := HS4.out.sz
          have hw4 : w.heap.size + 1 < W2.heap.size := by omega
          clear hb2
          by_cases hlt2 : qA < 65535
          · have HV := Lib.hid (show eA = qA by rw [HEA.out, if_pos hlt2])
            go_wp2_with fail
            go_roundw
            case rel =>
              first
                | exact ⟨1, by omega, by first | rfl | go_num, by rw [HV.out]; exact HS4.out.set 0 qA (by omega)⟩
                | ((repeat apply Exists.intro); refine ⟨⟨1, by omega, by first | rfl | go_num, by rw [HV.out]; exact HS4.out.set 0 qA (by omega)⟩, ?_⟩; rfl)
            case measure => simp [intOf]
          · have HV := Lib.hid (show eA = 65535 by rw [HEA.out, if_neg hlt2])
            have hle2 : 65535 ≤ qA := by omega
            clear hlt2
            go_wp2_with fail
            go_roundw
            case rel =>
              first
                | exact ⟨1, by omega, by first | rfl | go_num, by rw [HV.out]; exact HS4.out.set 0 65535 (by omega)⟩
                | ((repeat apply Exists.intro); refine ⟨⟨1, by omega, by first | rfl | go_num, by rw [HV.out]; exact HS4.out.set 0 65535 (by omega)⟩, ?_⟩; rfl)
            case measure => simp [intOf]
        · simp only [rsQ, Nat.lt_irrefl, if_false, Nat.not_lt_zero] at y0 y1 y2
          go_wp2_with fail
          refine (HPB.out _).mono ?_
          rintro e W1 ⟨v1, rfl, hq1, _, hb1⟩
          have HQ1 := Lib.hid hq1
          have HS3 := Lib.hid (HS2.out.below hb1)
          obtain ⟨s1, ao1, L1, cap1, bo1, M1, capm1, rfl⟩ := isQ_shape hq1
          clear hq1 hb1 y0 y1 y2 y3 y4 y5
          go_wp2_with fail
          refine (HRB.out _ _ HQ1.out).mono ?_
          rintro e W2 ⟨rfl, hb2⟩
          have HS4 := Lib.hid (HS3.out.below hb2)
          obtain ⟨y0, y1, y2, y3, y4, y5⟩ := HS4.out.box
          simp only [rsQ, Nat.lt_irrefl, if_false, Nat.not_lt_zero] at y0 y1 y2
          have hz4 := HS4.out.sz
          have hw4 : w.heap.size + 1 < W2.heap.size := by omega
          clear hb2
          by_cases hlt2 : qB < 65535
          · have HV := Lib.hid (show eB = qB by rw [HEB.out, if_pos hlt2])
            go_wp2_with fail
            go_roundw
            case rel =>
              first
                | exact ⟨2, by omega, by first | rfl | go_num, by rw [HV.out]; exact HS4.out.set 1 qB (by omega)⟩
                | ((repeat apply Exists.intro); refine ⟨⟨2, by omega, by first | rfl | go_num, by rw [HV.out]; exact HS4.out.set 1 qB (by omega)⟩, ?_⟩; rfl)
            case measure => simp [intOf]
          · have HV := Lib.hid (show eB = 65535 by rw [HEB.out, if_neg hlt2])
            have hle2 : 65535 ≤ qB := by omega
            clear hlt2
            go_wp2_with fail
            go_roundw
            case rel =>
              first
                | exact ⟨2, by omega, by first | rfl | go_num, by rw [HV.out]; exact HS4.out.set 1 65535 (by omega)⟩
                | ((repeat apply Exists.intro); refine ⟨⟨2, by omega, by first | rfl | go_num, by rw [HV.out]; exact HS4.out.set 1 65535 (by omega)⟩, ?_⟩; rfl)
            case measure => simp [intOf]
        · simp only [rsQ, Nat.lt_irrefl, if_false, Nat.not_lt_zero] at y0 y1 y2
          go_wp2_with fail
          refine (HPC.out _).mono ?_
          rintro e W1 ⟨v1, rfl, hq1, _, hb1⟩
          have HQ1 := Lib.hid hq1
          have HS3 := Lib.hid (HS2.out.below hb1)
          obtain ⟨s1, ao1, L1, cap1, bo1, M1, capm1, rfl⟩ := isQ_shape hq1
          clear hq1 hb1 y0 y1 y2 y3 y4 y5
          go_wp2_with fail
          refine (HRC.out _ _ HQ1.out).mono ?_
          rintro e W2 ⟨rfl, hb2⟩
          have HS4 := Lib.hid (HS3.out.below hb2)
          obtain ⟨y0, y1, y2, y3, y4, y5⟩ := HS4.out.box
          simp only [rsQ, Nat.lt_irrefl, if_false, Nat.not_lt_zero] at y0 y1 y2
          have hz4 := HS4.out.sz
          have hw4 : w.heap.size + 1 < W2.heap.size := by omega
          clear hb2
          by_cases hlt2 : qC < 65535
          · have HV := Lib.hid (show eC = qC by rw [HEC.out, if_pos hlt2])
            go_wp2_with fail
            go_roundw
            case rel =>
              first
                | exact ⟨3, by omega, by first | rfl | go_num, by rw [HV.out]; exact HS4.out.set 2 qC (by omega)⟩
                | ((repeat apply Exists.intro); refine ⟨⟨3, by omega, by first | rfl | go_num, by rw [HV.out]; exact HS4.out.set 2 qC (by omega)⟩, ?_⟩; rfl)
            case measure => simp [intOf]
          · have HV := Lib.hid (show eC = 65535 by rw [HEC.out, if_neg hlt2])
            have hle2 : 65535 ≤ qC := by omega
            clear hlt2
            go_wp2_with fail
            go_roundw
            case rel =>
              first
                | exact ⟨3, by omega, by first | rfl | go_num, by rw [HV.out]; exact HS4.out.set 2 65535 (by omega)⟩
                | ((repeat apply Exists.intro); refine ⟨⟨3, by omega, by first | rfl | go_num, by rw [HV.out]; exact HS4.out.set 2 65535 (by omega)⟩, ?_⟩; rfl)
            case measure => simp [intOf]
        · have y0' : wr.cell? ⟨w.heap.size + 1, 0, none⟩ = some (.int .i64 eA) := y0
          have y1' : wr.cell? ⟨w.heap.size + 1, 1, none⟩ = some (.int .i64 eB) := y1
          have y2' : wr.cell? ⟨w.heap.size + 1, 2, none⟩ = some (.int .i64 eC) := y2
          obtain ⟨t0, t1, t2, t3, t4, t5⟩ := HS2.out.res
          have BE := Lib.hid HS2.out.bl
          have z9 : w.heap.size < wr.heap.size := by omega
          clear y0 y1 y2
          go_wp2
          refine bodyPost_ret (v := .agg #[.int .i64 eA, .int .i64 eB, .int .i64 eC]) (by simp [results, Try.results48, go_sem, *]) rfl ⟨by rw [GA.out, GB.out, GC.out], below_set3 BE.out (by omega)⟩
end Go.Proofs.Yteelomjknllcbaa
