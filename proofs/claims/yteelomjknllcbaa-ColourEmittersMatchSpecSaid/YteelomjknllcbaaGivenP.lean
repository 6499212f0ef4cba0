/- colour.given: what emitters give, by the program. -/
import Derived.Test.YteelomjknllcbaaGiven
namespace Go.Proofs.Yteelomjknllcbaa
open Go.RowKit
set_option linter.unusedVariables false
set_option linter.unusedSimpArgs false

set_option maxHeartbeats 8000000 in
theorem given_any (ev zv : Value) (l : List Emi) (zs : List Int) (w : World) (hl : 0 < l.length) (he : EmS w.heap.size w ev l) (hz : IntS w.heap.size w zv zs) (hok : GvOk l zs) :
    Calls Try.prog 45 #[ev, zv] w fun e w' => e = .returned (.agg #[.int .i64 (endV (gsum Emi.r l zs l.length)), .int .i64 (endV (gsum Emi.g l zs l.length)), .int .i64 (endV (gsum Emi.b l zs l.length))]) ∧ Below w.heap.size w w' := by
  obtain ⟨ao, cap, rfl, ⟨hcap, hmax⟩, hcl, hfit⟩ := he
  obtain ⟨bo, zcap, rfl, hz1, hz2, hz3⟩ := hz
  obtain ⟨b, off, rfl, hb, hcc⟩ := hcl (by intro h; subst h; simp at hl)
  obtain ⟨zb, zoff, rfl, hzb, hrow⟩ := hz3 (by rw [hok.len]; exact hl)
  have hlen := hok.len
  have h12 := hok.l12
  rw [hlen] at hz1
  have HCL := Lib.hid (fun k (hk : k < l.length) => (show EmiC w b (off + k * 4) (l.getD k default) by rw [List.getD_eq_getElem?_getD, List.getElem?_eq_getElem hk]; exact hcc k hk))
  have HRW := Lib.hid (fun k (hk : k < l.length) => (show w.cell? ⟨zb, zoff + k, none⟩ = some (.int .i64 (zs.getD k 0)) by rw [List.getD_eq_getElem?_getD, List.getElem?_eq_getElem (by omega)]; exact hrow k (by omega)))
  have HOK := Lib.hid hok
  have HR := Lib.hid (fun k hk => gsum_le Emi.r l zs (fun k hk => ⟨(hok.col k hk).1, hok.lev k hk⟩) k hk)
  have HG := Lib.hid (fun k hk => gsum_le Emi.g l zs (fun k hk => ⟨(hok.col k hk).2.1, hok.lev k hk⟩) k hk)
  have HB := Lib.hid (fun k hk => gsum_le Emi.b l zs (fun k hk => ⟨(hok.col k hk).2.2, hok.lev k hk⟩) k hk)
  have HNX := Lib.hid (fun (f : Emi → Int) k => (show gsum f l zs (k + 1) = gsum f l zs k + f (l.getD k default) * zs.getD k 0 from rfl))
  rw [hlen]
  clear hcl hcc hz3 hrow hok hfit
  go_enter Try.func45, Try.ntmps45
  go_wp2_with fail
  go_loopw [10] (fun i wr => ∃ k : Nat, k ≤ l.length ∧ i = .int .i64 k ∧ GvS w (.slice (some ⟨zb, zoff, none⟩) l.length zcap) (gsum Emi.r l zs k) (gsum Emi.g l zs k) (gsum Emi.b l zs k) wr) (fun i _ => l.length - (intOf i).toNat)
  case atStart => exact ⟨0, Nat.zero_le _, rfl, gvS_of _ _⟩
  case round =>
    obtain ⟨k, hk, rfl, hS⟩ := hrel
    have HS := Lib.hid hS
    obtain ⟨hbw, hzw, hlv, ⟨r0, r1, r2, r3, r4, r5⟩, s0, s1, s2, s3, s4, s5⟩ := hS
    have z0 : w.heap.size < wr.heap.size := by omega
    have z1 : w.heap.size + 1 < wr.heap.size := by omega
    have z2 : w.heap.size + 1 + 1 < wr.heap.size := by omega
    have HBW := Lib.hid hbw
    by_cases hlt : k < l.length
    · obtain ⟨c0, c1, c2, c3⟩ := HCL.out k hlt
      have d0 : wr.cell? ⟨b, off + k * 4, none⟩ = some (.string (l.getD k default).name) := (hbw.cell (p := ⟨b, off + k * 4, none⟩) hb).trans c0
      have d1 : wr.cell? ⟨b, off + k * 4 + 1, none⟩ = some (.int .i64 (l.getD k default).r) := (hbw.cell (p := ⟨b, off + k * 4 + 1, none⟩) hb).trans c1
      have d2 : wr.cell? ⟨b, off + k * 4 + 2, none⟩ = some (.int .i64 (l.getD k default).g) := (hbw.cell (p := ⟨b, off + k * 4 + 2, none⟩) hb).trans c2
      have d3 : wr.cell? ⟨b, off + k * 4 + 3, none⟩ = some (.int .i64 (l.getD k default).b) := (hbw.cell (p := ⟨b, off + k * 4 + 3, none⟩) hb).trans c3
      have hbr : b < wr.heap.size := Nat.lt_of_lt_of_le hb hbw.size
      have HZ := Lib.hid (HRW.out k hlt)
      have P1 := Lib.hid (prod_le (HOK.out.col k hlt).1 (HOK.out.lev k hlt))
      have P2 := Lib.hid (prod_le (HOK.out.col k hlt).2.1 (HOK.out.lev k hlt))
      have P3 := Lib.hid (prod_le (HOK.out.col k hlt).2.2 (HOK.out.lev k hlt))
      have Q1 := Lib.hid (HR.out k hk)
      have Q2 := Lib.hid (HG.out k hk)
      have Q3 := Lib.hid (HB.out k hk)
      have N1 := Lib.hid (HNX.out Emi.r k)
      have N2 := Lib.hid (HNX.out Emi.g k)
      have N3 := Lib.hid (HNX.out Emi.b k)
      generalize gsum Emi.r l zs k = A at *
      generalize gsum Emi.g l zs k = B at *
      generalize gsum Emi.b l zs k = C at *
      generalize zs.getD k 0 = z at *
      generalize l.getD k default = x at *
      obtain ⟨nm, xr, xg, xb⟩ := x
      simp only at d0 d1 d2 d3
      have CC := Lib.hid (show ∀ (a xx : Int), (0 ≤ a ∧ a ≤ 60000000000) → (0 ≤ xx * z ∧ xx * z ≤ 4294836225) → ∀ W, Below ((wr.alloc (.cells #[.int .i64 k] 3)).alloc (.cells #[.string nm, .int .i64 xr, .int .i64 xg, .int .i64 xb] 40)).heap.size ((wr.alloc (.cells #[.int .i64 k] 3)).alloc (.cells #[.string nm, .int .i64 xr, .int .i64 xg, .int .i64 xb] 40)) W →
          Calls Try.prog 82 #[.int .i64 a, .int .i64 xx, .pointer (some ⟨w.heap.size, 0, none⟩), .pointer (some ⟨wr.heap.size, 0, none⟩)] W fun e w' => e = .returned (.int .i64 (a + xx * z)) ∧ Below W.heap.size W w' from fun a xx ha hx W hW => by
        have hb2 : Below w.heap.size w W := (HBW.out.alloc HBW.out.size _).alloc (by have := HBW.out.size; simp; omega) _ |>.trans (hW.mono (by have := HBW.out.size; simp; omega))
        refine cg_sum a xx z k l.length zcap zb zoff _ _ W ((hW.cell (p := ⟨w.heap.size, 0, none⟩) (by simp; omega)).trans ?_) ((hW.cell (p := ⟨wr.heap.size, 0, none⟩) (by simp; omega)).trans ?_) hlt h12 ((hb2.cell (p := ⟨zb, zoff + k, none⟩) hzb).trans HZ.out) ha hx
        · exact ((World.cell?_alloc_lt _ _ _ (by simp; omega)).trans (World.cell?_alloc_lt _ _ _ z0)).trans hlv
        · simp [go_sem])
      clear hbw c0 c1 c2 c3
      go_wp2_with fail
      refine (each_sum A B C xr xg xb _ _ _ _ _ _ (CC.out A xr (by have := Q1.out; omega) P1.out) (CC.out B xg (by have := Q2.out; omega) P2.out) (CC.out C xb (by have := Q3.out; omega) P3.out)).mono ?_
      rintro e w2 ⟨rfl, hb2⟩
      have hS2 := (HS.out.below (((Below.refl _ _).alloc (Nat.le_refl _) _).alloc (by simp) _)).below hb2
      have HS2 := Lib.hid hS2
      obtain ⟨_, y9, y8, _, y0, y1, y2, y3, y4, y5⟩ := hS2
      have y7 : w.heap.size + 1 + 1 < w2.heap.size := by omega
      clear hb2
      go_wp2_with fail
      go_roundw
      case rel =>
        first
          | exact ⟨k + 1, by omega, by go_num, by rw [N1.out, N2.out, N3.out]; exact HS2.out.put⟩
          | ((repeat apply Exists.intro); refine ⟨⟨k + 1, by omega, by go_num, by rw [N1.out, N2.out, N3.out]; exact HS2.out.put⟩, ?_⟩; rfl)
      case measure => simp [intOf]; omega
    · have hkk : k = l.length := by omega
      have Q1 := HR.out k hk
      have Q2 := HG.out k hk
      have Q3 := HB.out k hk
      subst hkk
      have E1 := Lib.hid (fun c W => cg_end (gsum Emi.r l zs l.length) c W (by omega))
      have E2 := Lib.hid (fun c W => cg_end (gsum Emi.g l zs l.length) c W (by omega))
      have E3 := Lib.hid (fun c W => cg_end (gsum Emi.b l zs l.length) c W (by omega))
      obtain ⟨eA, hA⟩ : ∃ e, endV (gsum Emi.r l zs l.length) = e := ⟨_, rfl⟩
      obtain ⟨eB, hB⟩ : ∃ e, endV (gsum Emi.g l zs l.length) = e := ⟨_, rfl⟩
      obtain ⟨eC, hC⟩ : ∃ e, endV (gsum Emi.b l zs l.length) = e := ⟨_, rfl⟩
      rw [hA] at E1
      rw [hB] at E2
      rw [hC] at E3
      have GA := Lib.hid hA
      have GB := Lib.hid hB
      have GC := Lib.hid hC
      clear hA hB hC
      clear Q1 Q2 Q3 hbw
      go_wp2_with fail
      refine (each_end _ _ _ _ _ _ eA eB eC wr (fun W _ => E1.out _ W) (fun W _ => E2.out _ W) (fun W _ => E3.out _ W)).mono ?_
      rintro e w5 ⟨rfl, hb5⟩
      have hS5 := HS.out.below hb5
      obtain ⟨bE, y9, _, ⟨t0, t1, t2, t3, t4, t5⟩, _⟩ := hS5
      have BE := Lib.hid bE
      have y7 : w.heap.size + 1 < w5.heap.size := by omega
      clear hb5 bE r0 r1 r2 r3 r4 r5 s0 s1 s2 s3 s4 s5
      go_wp2
      refine bodyPost_ret (v := .agg #[.int .i64 eA, .int .i64 eB, .int .i64 eC]) (by simp [results, Try.results45, go_sem, *]) rfl ⟨by rw [GA.out, GB.out, GC.out], below_set3 BE.out (by omega)⟩
end Go.Proofs.Yteelomjknllcbaa
