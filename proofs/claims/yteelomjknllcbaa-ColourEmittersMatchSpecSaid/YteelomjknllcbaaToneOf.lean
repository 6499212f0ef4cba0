/- Tones of colours: colour.toneOf and the reference's tone. (printed by wip/gen/gen_tone.py) -/
import Derived.Test.YteelomjknllcbaaTone
namespace Go.Proofs.Yteelomjknllcbaa
open Go.RowKit
set_option linter.unusedVariables false
set_option linter.unusedSimpArgs false

def topV (r g b : Int) : Int := if (if r < g then g else r) < b then b else if r < g then g else r
def lowV (r g b : Int) : Int := if b < if g < r then g else r then b else if g < r then g else r
def hueN (r g b : Int) : Int := if r = topV r g b then (g - b) * 65535 else if g = topV r g b then (b - r) * 65535 else (r - g) * 65535
def hueO (r g b : Int) : Int := if r = topV r g b then 0 else if g = topV r g b then 131070 else 262140
def toneH (r g b : Int) : Int := if topV r g b = lowV r g b then 0 else (rnd (hueN r g b) (topV r g b - lowV r g b) + hueO r g b) % 393210
def toneS (r g b : Int) : Int := if topV r g b = lowV r g b then 0 else rnd ((topV r g b - lowV r g b) * 65535) (topV r g b)
theorem top_low {r g b : Int} (hr : LvOkC r) (hg : LvOkC g) (hb : LvOkC b) : 0 ≤ lowV r g b ∧ lowV r g b ≤ topV r g b ∧ topV r g b ≤ 65535 := by
  unfold LvOkC at *
  unfold topV lowV
  omega
theorem top_is (r g b : Int) : r ≤ topV r g b ∧ g ≤ topV r g b ∧ b ≤ topV r g b ∧ (topV r g b = r ∨ topV r g b = g ∨ topV r g b = b) := by
  unfold topV
  omega
theorem low_is (r g b : Int) : lowV r g b ≤ r ∧ lowV r g b ≤ g ∧ lowV r g b ≤ b ∧ (lowV r g b = r ∨ lowV r g b = g ∨ lowV r g b = b) := by
  unfold lowV
  omega
theorem set3_box {W : World} {g : Nat} {c0 c1 c2 u0 u1 u2 : Value} (h : Box3 W g c0 c1 c2) : Box3 (((W.setCell ⟨g, 0, none⟩ u0).setCell ⟨g, 1, none⟩ u1).setCell ⟨g, 2, none⟩ u2) g u0 u1 u2 := by
  obtain ⟨a0, a1, a2, f0, f1, f2⟩ := h
  exact ⟨by simp [go_sem, a0, a1, a2], by simp [go_sem, a0, a1, a2], by simp [go_sem, a0, a1, a2], by simp [go_sem, f0, f1, f2], by simp [go_sem, f0, f1, f2], by simp [go_sem, f0, f1, f2]⟩

set_option maxHeartbeats 4000000 in
set_option maxRecDepth 100000 in
theorem toneOf_any (r g b : Int) (w : World) (hr : LvOkC r) (hg : LvOkC g) (hb : LvOkC b) :
    Calls Try.prog 35 #[.agg #[.int .i64 r, .int .i64 g, .int .i64 b]] w fun e w' => e = .returned (.agg #[.int .i64 (toneH r g b), .int .i64 (toneS r g b), .int .i64 (topV r g b)]) ∧ Below w.heap.size w w' := by
  have htl := top_low hr hg hb
  have HT := Lib.hid (show topV r g b = if (if r < g then g else r) < b then b else if r < g then g else r from rfl)
  have HL := Lib.hid (show lowV r g b = if b < if g < r then g else r then b else if g < r then g else r from rfl)
  have HTT := Lib.hid (top_is r g b)
  have HLL := Lib.hid (low_is r g b)
  have HH : Hid (toneH r g b = if topV r g b = lowV r g b then 0 else (rnd (hueN r g b) (topV r g b - lowV r g b) + hueO r g b) % 393210) := rfl
  have HS : Hid (toneS r g b = if topV r g b = lowV r g b then 0 else rnd ((topV r g b - lowV r g b) * 65535) (topV r g b)) := rfl
  have HN : Hid (hueN r g b = if r = topV r g b then (g - b) * 65535 else if g = topV r g b then (b - r) * 65535 else (r - g) * 65535) := rfl
  have HO : Hid (hueO r g b = if r = topV r g b then 0 else if g = topV r g b then 131070 else 262140) := rfl
  generalize topV r g b = t at *
  generalize lowV r g b = l at *
  generalize toneH r g b = th at *
  generalize toneS r g b = ts at *
  generalize hueN r g b = hn at *
  generalize hueO r g b = ho at *
  obtain ⟨l0, lt, t9⟩ := htl
  unfold LvOkC at hr hg hb
  obtain ⟨r0, r9⟩ := hr
  obtain ⟨g0, g9⟩ := hg
  obtain ⟨b0, b9⟩ := hb
  have KZ := Lib.hid (show ∀ W, Below (w.heap.size + 1 + 1) ((w.alloc (.cells #[.int .i64 r, .int .i64 g, .int .i64 b] 23)).alloc (.cells #[.int .i64 0, .int .i64 0, .int .i64 0] 25)) W → (w.heap.size + 1 + 1) ≤ W.heap.size from fun W hW => by
    have := hW.size
    simp at this
    omega)
  have KB := Lib.hid (show ∀ W, Below (w.heap.size + 1 + 1) ((w.alloc (.cells #[.int .i64 r, .int .i64 g, .int .i64 b] 23)).alloc (.cells #[.int .i64 0, .int .i64 0, .int .i64 0] 25)) W → Below w.heap.size w W from fun W hW => (((Below.refl _ _).alloc (Nat.le_refl _) _).alloc (by simp) _).trans (hW.mono (by omega)))
  have KC := Lib.hid (show ∀ W, Below (w.heap.size + 1 + 1) ((w.alloc (.cells #[.int .i64 r, .int .i64 g, .int .i64 b] 23)).alloc (.cells #[.int .i64 0, .int .i64 0, .int .i64 0] 25)) W → W.cell? ⟨w.heap.size, 0, none⟩ = some (.int .i64 r) ∧ W.cell? ⟨w.heap.size, 1, none⟩ = some (.int .i64 g) ∧ W.cell? ⟨w.heap.size, 2, none⟩ = some (.int .i64 b) from fun W hW => by
    have a := ((box_new w (.int .i64 r) (.int .i64 g) (.int .i64 b) 23).alloc (by simp) (.cells #[.int .i64 0, .int .i64 0, .int .i64 0] 25)).below hW (by omega)
    exact ⟨a.c0, a.c1, a.c2⟩)
  have KR := Lib.hid (show ∀ W, Below (w.heap.size + 1 + 1) ((w.alloc (.cells #[.int .i64 r, .int .i64 g, .int .i64 b] 23)).alloc (.cells #[.int .i64 0, .int .i64 0, .int .i64 0] 25)) W → Box3 W (w.heap.size + 1) (.int .i64 0) (.int .i64 0) (.int .i64 0) from fun W hW => by
    have c := (box_new (w.alloc (.cells #[.int .i64 r, .int .i64 g, .int .i64 b] 23)) (.int .i64 0) (.int .i64 0) (.int .i64 0) 25).below hW (by simp)
    simpa using c)
  go_enter Try.func35, Try.ntmps35
  go_upto_region 1 with fail
  go_cut [3, 4] (fun a c wx => a = .int .i64 t ∧ c = .int .i64 l ∧ Below (w.heap.size + 1 + 1) ((w.alloc (.cells #[.int .i64 r, .int .i64 g, .int .i64 b] 23)).alloc (.cells #[.int .i64 0, .int .i64 0, .int .i64 0] 25)) wx)
  case first =>
    go_region_held3 (fun W => W.cell? ⟨w.heap.size, 0, none⟩ = some (.int .i64 r) ∧ W.cell? ⟨w.heap.size, 1, none⟩ = some (.int .i64 g) ∧ W.cell? ⟨w.heap.size, 2, none⟩ = some (.int .i64 b))
      (simp [go_sem, World.cell?_alloc_past])
      (first | fail)
    all_goals go_wp2_with fail
    all_goals go_meet
    all_goals exact ⟨congrArg (Value.int .i64) (by have := HTT.out; omega), congrArg (Value.int .i64) (by have := HLL.out; omega), by (repeat' first | exact Below.refl _ _ | apply Below.drew)⟩
  case rest =>
    obtain ⟨rfl, rfl, hbx⟩ := hcut
    obtain ⟨wA, rfl⟩ : ∃ x, x = wc := ⟨wc, rfl⟩
    obtain ⟨x0, x1, x2⟩ := KC.out _ hbx
    have HBW := Lib.hid (KB.out _ hbx)
    have HRS := Lib.hid (KR.out _ hbx)
    have hz := KZ.out _ hbx
    obtain ⟨q0, q1, q2, q3, q4, q5⟩ := HRS.out
    have z0 : w.heap.size < wA.heap.size := by omega
    have z1 : w.heap.size + 1 < wA.heap.size := by omega
    have HX := Lib.hid (show ∀ W, Below wA.heap.size wA W → W.cell? ⟨w.heap.size, 0, none⟩ = some (.int .i64 r) ∧ W.cell? ⟨w.heap.size, 1, none⟩ = some (.int .i64 g) ∧ W.cell? ⟨w.heap.size, 2, none⟩ = some (.int .i64 b) from fun W hW => ⟨(hW.cell z0).trans x0, (hW.cell z0).trans x1, (hW.cell z0).trans x2⟩)
    clear hbx KC KB KR KZ HT HL HTT HLL hz
    by_cases htl : t = l
    · have e1 : th = 0 := by rw [HH.out, if_pos htl]
      have e2 : ts = 0 := by rw [HS.out, if_pos htl]
      subst e1 e2
      have htb : (t == l) = true := by simpa using htl
      clear HH HS HN HO
      go_wp2
      refine bodyPost_ret (v := .agg #[.int .i64 0, .int .i64 0, .int .i64 t]) (by simp [results, Try.results35, go_sem, World.cell?_alloc_past, q0, q1, q2, z0, z1, htl]) rfl ⟨rfl, ?_⟩
      first
        | exact (below_set3 HBW.out (by omega)).alloc (by rw [size_set3]; omega) _
        | exact below_set3 HBW.out (by omega)
    · have htb : (t == l) = false := by simpa using htl
      have hd : 0 < t - l := by omega
      have e2 : ts = rnd ((t - l) * 65535) t := by rw [HS.out, if_neg htl]
      have e1 : th = (rnd hn (t - l) + ho) % 393210 := by rw [HH.out, if_neg htl]
      obtain ⟨tn, rfl⟩ : ∃ n : Nat, t = (n : Int) := ⟨t.toNat, by omega⟩
      obtain ⟨dn, hdn⟩ : ∃ n : Nat, (tn : Int) - l = (n : Int) := ⟨((tn : Int) - l).toNat, by omega⟩
      clear HH HS
      have hcase : (r = tn ∧ hn = (g - b) * 65535 ∧ ho = 0) ∨ (r ≠ tn ∧ g = tn ∧ hn = (b - r) * 65535 ∧ ho = 131070) ∨ (r ≠ tn ∧ g ≠ tn ∧ hn = (r - g) * 65535 ∧ ho = 262140) := by
        by_cases h1 : r = tn
        · exact .inl ⟨h1, by rw [HN.out, if_pos h1], by rw [HO.out, if_pos h1]⟩
        · by_cases h2 : g = tn
          · exact .inr (.inl ⟨h1, h2, by rw [HN.out, if_neg h1, if_pos h2], by rw [HO.out, if_neg h1, if_pos h2]⟩)
          · exact .inr (.inr ⟨h1, h2, by rw [HN.out, if_neg h1, if_neg h2], by rw [HO.out, if_neg h1, if_neg h2]⟩)
      clear HN HO
      rcases hcase with ⟨k1, k2, k3⟩ | ⟨k1, k1', k2, k3⟩ | ⟨k1, k1', k2, k3⟩
      · have k1b : (r == (tn : Int)) = true := by simpa using k1
        have k1c : ((tn : Int) == r) = true := by simpa using k1.symm
        subst k2 k3
        have hx := rnd_mid (n := (g - b) * 65535) (d := (tn : Int) - l) hd (by omega) (by omega) (by omega)
        have HE1 := Lib.hid e1
        have HE2 := Lib.hid e2
        have HD := Lib.hid hdn
        have HR1 := Lib.hid (fun W => round_any (((tn : Int) - l) * 65535) tn W (by omega) (by omega) (by omega) (by omega))
        have HR2 := Lib.hid (fun W => round_any ((g - b) * 65535) ((tn : Int) - l) W (by omega) (by omega) (by omega) (by omega))
        generalize hxe : rnd ((g - b) * 65535) ((tn : Int) - l) = x at *
        rw [← e2] at HR1
        obtain ⟨hx1, hx2⟩ := hx
        have HM := Lib.hid (fun W => cmod_any (x) W (by omega) (by omega))
        have HV := Lib.hid (show (x) % 393210 = th by rw [e1, Int.add_zero])
        rw [HV.out] at HM
        clear e1 e2 hxe k1 hdn
        go_wp2_with fail
        refine (HR1.out _).mono ?_
        rintro e w1 ⟨rfl, rfl⟩
        go_wp2_with fail
        refine (HR2.out _).mono ?_
        rintro e w1 ⟨rfl, rfl⟩
        go_wp2_with fail
        refine (HM.out _).mono ?_
        rintro e w1 ⟨rfl, rfl⟩
        go_wp2
        refine bodyPost_ret (v := .agg #[.int .i64 th, .int .i64 ts, .int .i64 tn]) (by simp [results, Try.results35, go_sem, World.cell?_alloc_past, q0, q1, q2, z0, z1]) rfl ⟨rfl, ?_⟩
        first
          | exact (below_set3 HBW.out (by omega)).alloc (by rw [size_set3]; omega) _
          | exact below_set3 HBW.out (by omega)
      · have k1b : (r == (tn : Int)) = false := by simpa using k1
        have k1c : ((tn : Int) == r) = false := by simpa using (Ne.symm k1)
        have k1d : (g == (tn : Int)) = true := by simpa using k1'
        have k1e : ((tn : Int) == g) = true := by simpa using k1'.symm
        subst k2 k3
        have hx := rnd_mid (n := (b - r) * 65535) (d := (tn : Int) - l) hd (by omega) (by omega) (by omega)
        have HE1 := Lib.hid e1
        have HE2 := Lib.hid e2
        have HD := Lib.hid hdn
        have HR1 := Lib.hid (fun W => round_any (((tn : Int) - l) * 65535) tn W (by omega) (by omega) (by omega) (by omega))
        have HR2 := Lib.hid (fun W => round_any ((b - r) * 65535) ((tn : Int) - l) W (by omega) (by omega) (by omega) (by omega))
        generalize hxe : rnd ((b - r) * 65535) ((tn : Int) - l) = x at *
        rw [← e2] at HR1
        obtain ⟨hx1, hx2⟩ := hx
        have HM := Lib.hid (fun W => cmod_any (131070 + x) W (by omega) (by omega))
        have HV := Lib.hid (show (131070 + x) % 393210 = th by rw [e1, Int.add_comm])
        rw [HV.out] at HM
        clear e1 e2 hxe k1 k1' hdn
        go_wp2_with fail
        refine (HR1.out _).mono ?_
        rintro e w1 ⟨rfl, rfl⟩
        go_wp2_with fail
        refine (HR2.out _).mono ?_
        rintro e w1 ⟨rfl, rfl⟩
        go_wp2_with fail
        refine (HM.out _).mono ?_
        rintro e w1 ⟨rfl, rfl⟩
        go_wp2
        refine bodyPost_ret (v := .agg #[.int .i64 th, .int .i64 ts, .int .i64 tn]) (by simp [results, Try.results35, go_sem, World.cell?_alloc_past, q0, q1, q2, z0, z1]) rfl ⟨rfl, ?_⟩
        first
          | exact (below_set3 HBW.out (by omega)).alloc (by rw [size_set3]; omega) _
          | exact below_set3 HBW.out (by omega)
      · have k1b : (r == (tn : Int)) = false := by simpa using k1
        have k1c : ((tn : Int) == r) = false := by simpa using (Ne.symm k1)
        have k1d : (g == (tn : Int)) = false := by simpa using k1'
        have k1e : ((tn : Int) == g) = false := by simpa using (Ne.symm k1')
        subst k2 k3
        have hx := rnd_mid (n := (r - g) * 65535) (d := (tn : Int) - l) hd (by omega) (by omega) (by omega)
        have HE1 := Lib.hid e1
        have HE2 := Lib.hid e2
        have HD := Lib.hid hdn
        have HR1 := Lib.hid (fun W => round_any (((tn : Int) - l) * 65535) tn W (by omega) (by omega) (by omega) (by omega))
        have HR2 := Lib.hid (fun W => round_any ((r - g) * 65535) ((tn : Int) - l) W (by omega) (by omega) (by omega) (by omega))
        generalize hxe : rnd ((r - g) * 65535) ((tn : Int) - l) = x at *
        rw [← e2] at HR1
        obtain ⟨hx1, hx2⟩ := hx
        have HM := Lib.hid (fun W => cmod_any (262140 + x) W (by omega) (by omega))
        have HV := Lib.hid (show (262140 + x) % 393210 = th by rw [e1, Int.add_comm])
        rw [HV.out] at HM
        clear e1 e2 hxe k1 k1' hdn
        go_wp2_with fail
        refine (HR1.out _).mono ?_
        rintro e w1 ⟨rfl, rfl⟩
        go_wp2_with fail
        refine (HR2.out _).mono ?_
        rintro e w1 ⟨rfl, rfl⟩
        go_wp2_with fail
        refine (HM.out _).mono ?_
        rintro e w1 ⟨rfl, rfl⟩
        go_wp2
        refine bodyPost_ret (v := .agg #[.int .i64 th, .int .i64 ts, .int .i64 tn]) (by simp [results, Try.results35, go_sem, World.cell?_alloc_past, q0, q1, q2, z0, z1]) rfl ⟨rfl, ?_⟩
        first
          | exact (below_set3 HBW.out (by omega)).alloc (by rw [size_set3]; omega) _
          | exact below_set3 HBW.out (by omega)

set_option maxHeartbeats 4000000 in
set_option maxRecDepth 100000 in
theorem rtone_any (r g b : Int) (w : World) (hr : LvOkC r) (hg : LvOkC g) (hb : LvOkC b) :
    Calls Try.prog 36 #[.agg #[.int .i64 r, .int .i64 g, .int .i64 b]] w fun e w' => e = .returned (.agg #[.int .i64 (toneH r g b), .int .i64 (toneS r g b), .int .i64 (topV r g b)]) ∧ Below w.heap.size w w' := by
  have htl := top_low hr hg hb
  have HT := Lib.hid (show topV r g b = if (if r < g then g else r) < b then b else if r < g then g else r from rfl)
  have HL := Lib.hid (show lowV r g b = if b < if g < r then g else r then b else if g < r then g else r from rfl)
  have HTT := Lib.hid (top_is r g b)
  have HLL := Lib.hid (low_is r g b)
  have HH : Hid (toneH r g b = if topV r g b = lowV r g b then 0 else (rnd (hueN r g b) (topV r g b - lowV r g b) + hueO r g b) % 393210) := rfl
  have HS : Hid (toneS r g b = if topV r g b = lowV r g b then 0 else rnd ((topV r g b - lowV r g b) * 65535) (topV r g b)) := rfl
  have HN : Hid (hueN r g b = if r = topV r g b then (g - b) * 65535 else if g = topV r g b then (b - r) * 65535 else (r - g) * 65535) := rfl
  have HO : Hid (hueO r g b = if r = topV r g b then 0 else if g = topV r g b then 131070 else 262140) := rfl
  generalize topV r g b = t at *
  generalize lowV r g b = l at *
  generalize toneH r g b = th at *
  generalize toneS r g b = ts at *
  generalize hueN r g b = hn at *
  generalize hueO r g b = ho at *
  obtain ⟨l0, lt, t9⟩ := htl
  unfold LvOkC at hr hg hb
  obtain ⟨r0, r9⟩ := hr
  obtain ⟨g0, g9⟩ := hg
  obtain ⟨b0, b9⟩ := hb
  have KZ := Lib.hid (show ∀ W, Below (w.heap.size + 1 + 1) ((w.alloc (.cells #[.int .i64 r, .int .i64 g, .int .i64 b] 23)).alloc (.cells #[.int .i64 0, .int .i64 0, .int .i64 0] 25)) W → (w.heap.size + 1 + 1) ≤ W.heap.size from fun W hW => by
    have := hW.size
    simp at this
    omega)
  have KB := Lib.hid (show ∀ W, Below (w.heap.size + 1 + 1) ((w.alloc (.cells #[.int .i64 r, .int .i64 g, .int .i64 b] 23)).alloc (.cells #[.int .i64 0, .int .i64 0, .int .i64 0] 25)) W → Below w.heap.size w W from fun W hW => (((Below.refl _ _).alloc (Nat.le_refl _) _).alloc (by simp) _).trans (hW.mono (by omega)))
  have KC := Lib.hid (show ∀ W, Below (w.heap.size + 1 + 1) ((w.alloc (.cells #[.int .i64 r, .int .i64 g, .int .i64 b] 23)).alloc (.cells #[.int .i64 0, .int .i64 0, .int .i64 0] 25)) W → W.cell? ⟨w.heap.size, 0, none⟩ = some (.int .i64 r) ∧ W.cell? ⟨w.heap.size, 1, none⟩ = some (.int .i64 g) ∧ W.cell? ⟨w.heap.size, 2, none⟩ = some (.int .i64 b) from fun W hW => by
    have a := ((box_new w (.int .i64 r) (.int .i64 g) (.int .i64 b) 23).alloc (by simp) (.cells #[.int .i64 0, .int .i64 0, .int .i64 0] 25)).below hW (by omega)
    exact ⟨a.c0, a.c1, a.c2⟩)
  have KR := Lib.hid (show ∀ W, Below (w.heap.size + 1 + 1) ((w.alloc (.cells #[.int .i64 r, .int .i64 g, .int .i64 b] 23)).alloc (.cells #[.int .i64 0, .int .i64 0, .int .i64 0] 25)) W → Box3 W (w.heap.size + 1) (.int .i64 0) (.int .i64 0) (.int .i64 0) from fun W hW => by
    have c := (box_new (w.alloc (.cells #[.int .i64 r, .int .i64 g, .int .i64 b] 23)) (.int .i64 0) (.int .i64 0) (.int .i64 0) 25).below hW (by simp)
    simpa using c)
  go_enter Try.func36, Try.ntmps36
  go_upto_region 1 with fail
  go_cut [3, 4] (fun a c wx => a = .int .i64 t ∧ c = .int .i64 l ∧ Below (w.heap.size + 1 + 1) ((w.alloc (.cells #[.int .i64 r, .int .i64 g, .int .i64 b] 23)).alloc (.cells #[.int .i64 0, .int .i64 0, .int .i64 0] 25)) wx)
  case first =>
    go_region_held3 (fun W => W.cell? ⟨w.heap.size, 0, none⟩ = some (.int .i64 r) ∧ W.cell? ⟨w.heap.size, 1, none⟩ = some (.int .i64 g) ∧ W.cell? ⟨w.heap.size, 2, none⟩ = some (.int .i64 b))
      (simp [go_sem, World.cell?_alloc_past])
      (first | fail)
    all_goals go_wp2_with fail
    all_goals go_meet
    all_goals exact ⟨congrArg (Value.int .i64) (by have := HTT.out; omega), congrArg (Value.int .i64) (by have := HLL.out; omega), by (repeat' first | exact Below.refl _ _ | apply Below.drew)⟩
  case rest =>
    obtain ⟨rfl, rfl, hbx⟩ := hcut
    obtain ⟨wA, rfl⟩ : ∃ x, x = wc := ⟨wc, rfl⟩
    obtain ⟨x0, x1, x2⟩ := KC.out _ hbx
    have HBW := Lib.hid (KB.out _ hbx)
    have HRS := Lib.hid (KR.out _ hbx)
    have hz := KZ.out _ hbx
    obtain ⟨q0, q1, q2, q3, q4, q5⟩ := HRS.out
    have z0 : w.heap.size < wA.heap.size := by omega
    have z1 : w.heap.size + 1 < wA.heap.size := by omega
    have HX := Lib.hid (show ∀ W, Below wA.heap.size wA W → W.cell? ⟨w.heap.size, 0, none⟩ = some (.int .i64 r) ∧ W.cell? ⟨w.heap.size, 1, none⟩ = some (.int .i64 g) ∧ W.cell? ⟨w.heap.size, 2, none⟩ = some (.int .i64 b) from fun W hW => ⟨(hW.cell z0).trans x0, (hW.cell z0).trans x1, (hW.cell z0).trans x2⟩)
    clear hbx KC KB KR KZ HT HL HTT HLL hz
    by_cases htl : t = l
    · have e1 : th = 0 := by rw [HH.out, if_pos htl]
      have e2 : ts = 0 := by rw [HS.out, if_pos htl]
      subst e1 e2
      have htb : (t == l) = true := by simpa using htl
      clear HH HS HN HO
      go_wp2
      refine bodyPost_ret (v := .agg #[.int .i64 0, .int .i64 0, .int .i64 t]) (by simp [results, Try.results36, go_sem, World.cell?_alloc_past, q0, q1, q2, z0, z1, htl]) rfl ⟨rfl, ?_⟩
      first
        | exact (below_set3 HBW.out (by omega)).alloc (by rw [size_set3]; omega) _
        | exact below_set3 HBW.out (by omega)
    · have htb : (t == l) = false := by simpa using htl
      have hd : 0 < t - l := by omega
      have e2 : ts = rnd ((t - l) * 65535) t := by rw [HS.out, if_neg htl]
      have e1 : th = (rnd hn (t - l) + ho) % 393210 := by rw [HH.out, if_neg htl]
      obtain ⟨tn, rfl⟩ : ∃ n : Nat, t = (n : Int) := ⟨t.toNat, by omega⟩
      obtain ⟨dn, hdn⟩ : ∃ n : Nat, (tn : Int) - l = (n : Int) := ⟨((tn : Int) - l).toNat, by omega⟩
      clear HH HS
      have hcase : (r = tn ∧ hn = (g - b) * 65535 ∧ ho = 0) ∨ (r ≠ tn ∧ g = tn ∧ hn = (b - r) * 65535 ∧ ho = 131070) ∨ (r ≠ tn ∧ g ≠ tn ∧ hn = (r - g) * 65535 ∧ ho = 262140) := by
        by_cases h1 : r = tn
        · exact .inl ⟨h1, by rw [HN.out, if_pos h1], by rw [HO.out, if_pos h1]⟩
        · by_cases h2 : g = tn
          · exact .inr (.inl ⟨h1, h2, by rw [HN.out, if_neg h1, if_pos h2], by rw [HO.out, if_neg h1, if_pos h2]⟩)
          · exact .inr (.inr ⟨h1, h2, by rw [HN.out, if_neg h1, if_neg h2], by rw [HO.out, if_neg h1, if_neg h2]⟩)
      clear HN HO
      rcases hcase with ⟨k1, k2, k3⟩ | ⟨k1, k1', k2, k3⟩ | ⟨k1, k1', k2, k3⟩
      · have k1b : (r == (tn : Int)) = true := by simpa using k1
        have k1c : ((tn : Int) == r) = true := by simpa using k1.symm
        subst k2 k3
        have hx := rnd_mid (n := (g - b) * 65535) (d := (tn : Int) - l) hd (by omega) (by omega) (by omega)
        have HE1 := Lib.hid e1
        have HE2 := Lib.hid e2
        have HD := Lib.hid hdn
        have HR1 := Lib.hid (fun W => signed_any (((tn : Int) - l) * 65535) tn W ⟨by omega, by omega⟩ (by omega) (by omega))
        have HR2 := Lib.hid (fun W => signed_any ((g - b) * 65535) dn W ⟨by omega, by omega⟩ (by omega) (by omega))
        rw [← hdn] at HR2
        generalize hxe : rnd ((g - b) * 65535) ((tn : Int) - l) = x at *
        rw [← e2] at HR1
        obtain ⟨hx1, hx2⟩ := hx
        have HM := Lib.hid (fun W => rmod_any (x) W)
        have HV := Lib.hid (show (x) % 393210 = th by rw [e1, Int.add_zero])
        rw [HV.out] at HM
        clear e1 e2 hxe k1 hdn
        go_wp2_with fail
        refine (HR2.out _).mono ?_
        rintro e w1 ⟨rfl, hb1⟩
        obtain ⟨x3, x4, x5⟩ := HX.out _ hb1
        have HB1 := Lib.hid hb1
        clear hb1
        go_wp2_with fail
        refine (HM.out _).mono ?_
        rintro e w1' ⟨rfl, rfl⟩
        go_wp2_with fail
        refine (HR1.out _).mono ?_
        rintro e w2 ⟨rfl, hb2⟩
        have HB2 := Lib.hid (bt' HB1.out hb2)
        clear hb2
        obtain ⟨p0, p1, p2, p3, p4, p5⟩ := HRS.out.below HB2.out z1
        go_wp2
        refine bodyPost_ret (v := .agg #[.int .i64 th, .int .i64 ts, .int .i64 tn]) (by simp [results, Try.results36, go_sem, p0, p1, p2]) rfl ⟨rfl, ?_⟩
        exact below_set3 (bt' HBW.out HB2.out) (by omega)
      · have k1b : (r == (tn : Int)) = false := by simpa using k1
        have k1c : ((tn : Int) == r) = false := by simpa using (Ne.symm k1)
        have k1d : (g == (tn : Int)) = true := by simpa using k1'
        have k1e : ((tn : Int) == g) = true := by simpa using k1'.symm
        subst k2 k3
        have hx := rnd_mid (n := (b - r) * 65535) (d := (tn : Int) - l) hd (by omega) (by omega) (by omega)
        have HE1 := Lib.hid e1
        have HE2 := Lib.hid e2
        have HD := Lib.hid hdn
        have HR1 := Lib.hid (fun W => signed_any (((tn : Int) - l) * 65535) tn W ⟨by omega, by omega⟩ (by omega) (by omega))
        have HR2 := Lib.hid (fun W => signed_any ((b - r) * 65535) dn W ⟨by omega, by omega⟩ (by omega) (by omega))
        rw [← hdn] at HR2
        generalize hxe : rnd ((b - r) * 65535) ((tn : Int) - l) = x at *
        rw [← e2] at HR1
        obtain ⟨hx1, hx2⟩ := hx
        have HM := Lib.hid (fun W => rmod_any (x + 131070) W)
        have HV := Lib.hid (show (x + 131070) % 393210 = th by rw [e1])
        rw [HV.out] at HM
        clear e1 e2 hxe k1 k1' hdn
        go_wp2_with fail
        refine (HR2.out _).mono ?_
        rintro e w1 ⟨rfl, hb1⟩
        obtain ⟨x3, x4, x5⟩ := HX.out _ hb1
        have HB1 := Lib.hid hb1
        clear hb1
        go_wp2_with fail
        refine (HM.out _).mono ?_
        rintro e w1' ⟨rfl, rfl⟩
        go_wp2_with fail
        refine (HR1.out _).mono ?_
        rintro e w2 ⟨rfl, hb2⟩
        have HB2 := Lib.hid (bt' HB1.out hb2)
        clear hb2
        obtain ⟨p0, p1, p2, p3, p4, p5⟩ := HRS.out.below HB2.out z1
        go_wp2
        refine bodyPost_ret (v := .agg #[.int .i64 th, .int .i64 ts, .int .i64 tn]) (by simp [results, Try.results36, go_sem, p0, p1, p2]) rfl ⟨rfl, ?_⟩
        exact below_set3 (bt' HBW.out HB2.out) (by omega)
      · have k1b : (r == (tn : Int)) = false := by simpa using k1
        have k1c : ((tn : Int) == r) = false := by simpa using (Ne.symm k1)
        have k1d : (g == (tn : Int)) = false := by simpa using k1'
        have k1e : ((tn : Int) == g) = false := by simpa using (Ne.symm k1')
        subst k2 k3
        have hx := rnd_mid (n := (r - g) * 65535) (d := (tn : Int) - l) hd (by omega) (by omega) (by omega)
        have HE1 := Lib.hid e1
        have HE2 := Lib.hid e2
        have HD := Lib.hid hdn
        have HR1 := Lib.hid (fun W => signed_any (((tn : Int) - l) * 65535) tn W ⟨by omega, by omega⟩ (by omega) (by omega))
        have HR2 := Lib.hid (fun W => signed_any ((r - g) * 65535) dn W ⟨by omega, by omega⟩ (by omega) (by omega))
        rw [← hdn] at HR2
        generalize hxe : rnd ((r - g) * 65535) ((tn : Int) - l) = x at *
        rw [← e2] at HR1
        obtain ⟨hx1, hx2⟩ := hx
        have HM := Lib.hid (fun W => rmod_any (x + 262140) W)
        have HV := Lib.hid (show (x + 262140) % 393210 = th by rw [e1])
        rw [HV.out] at HM
        clear e1 e2 hxe k1 k1' hdn
        go_wp2_with fail
        refine (HR2.out _).mono ?_
        rintro e w1 ⟨rfl, hb1⟩
        obtain ⟨x3, x4, x5⟩ := HX.out _ hb1
        have HB1 := Lib.hid hb1
        clear hb1
        go_wp2_with fail
        refine (HM.out _).mono ?_
        rintro e w1' ⟨rfl, rfl⟩
        go_wp2_with fail
        refine (HR1.out _).mono ?_
        rintro e w2 ⟨rfl, hb2⟩
        have HB2 := Lib.hid (bt' HB1.out hb2)
        clear hb2
        obtain ⟨p0, p1, p2, p3, p4, p5⟩ := HRS.out.below HB2.out z1
        go_wp2
        refine bodyPost_ret (v := .agg #[.int .i64 th, .int .i64 ts, .int .i64 tn]) (by simp [results, Try.results36, go_sem, p0, p1, p2]) rfl ⟨rfl, ?_⟩
        exact below_set3 (bt' HBW.out HB2.out) (by omega)
end Go.Proofs.Yteelomjknllcbaa
