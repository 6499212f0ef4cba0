/- Colours of tones: colour.fromTone and the reference's from. (printed by wip/gen/gen_from.py) -/
import Derived.Test.YteelomjknllcbaaToneOf
namespace Go.Proofs.Yteelomjknllcbaa
open Go.RowKit
set_option linter.unusedVariables false
set_option linter.unusedSimpArgs false

def frP (s v : Int) : Int := rnd (v * (65535 - s)) 65535
def frQ (f s v : Int) : Int := rnd (v * (4294836225 - s * f)) 4294836225
def frU (f s v : Int) : Int := rnd (v * (4294836225 - s * (65535 - f))) 4294836225
def frK (k v p q u : Int) : Int × Int × Int :=
  if k = 0 then (v, u, p) else if k = 1 then (q, v, p) else if k = 2 then (p, v, u) else if k = 3 then (p, q, v) else if k = 4 then (u, p, v) else (v, p, q)
def frT (h s v : Int) : Int × Int × Int := frK (h / 65535) v (frP s v) (frQ (h % 65535) s v) (frU (h % 65535) s v)
theorem fr_bounds {s v f : Int} (hs : LvOkC s) (hv : LvOkC v) (f0 : 0 ≤ f) (f9 : f ≤ 65535) :
    (0 ≤ v * (65535 - s) ∧ v * (65535 - s) ≤ 4294836225) ∧ (0 ≤ s * f ∧ s * f ≤ 4294836225) ∧ (0 ≤ v * (4294836225 - s * f) ∧ v * (4294836225 - s * f) ≤ 281462092005375) ∧ (0 ≤ s * (65535 - f) ∧ s * (65535 - f) ≤ 4294836225) ∧ (0 ≤ v * (4294836225 - s * (65535 - f)) ∧ v * (4294836225 - s * (65535 - f)) ≤ 281462092005375) := by
  unfold LvOkC at *
  have m : ∀ a b A B : Int, 0 ≤ a → a ≤ A → 0 ≤ b → b ≤ B → 0 ≤ a * b ∧ a * b ≤ A * B := fun a b A B h1 h2 h3 h4 => ⟨Int.mul_nonneg h1 h3, Int.mul_le_mul h2 h4 h3 (by omega)⟩
  have a1 := m v (65535 - s) 65535 65535 hv.1 hv.2 (by omega) (by omega)
  have a2 := m s f 65535 65535 hs.1 hs.2 f0 f9
  have a3 := m s (65535 - f) 65535 65535 hs.1 hs.2 (by omega) (by omega)
  have a4 := m v (4294836225 - s * f) 65535 4294836225 hv.1 hv.2 (by omega) (by omega)
  have a5 := m v (4294836225 - s * (65535 - f)) 65535 4294836225 hv.1 hv.2 (by omega) (by omega)
  exact ⟨⟨a1.1, by omega⟩, ⟨a2.1, by omega⟩, ⟨a4.1, by omega⟩, ⟨a3.1, by omega⟩, ⟨a5.1, by omega⟩⟩

set_option maxHeartbeats 4000000 in
set_option maxRecDepth 100000 in
theorem fromTone_any (h s v : Int) (w : World) (hh : 0 ≤ h ∧ h ≤ 393209) (hs : LvOkC s) (hv : LvOkC v) :
    Calls Try.prog 39 #[.agg #[.int .i64 h, .int .i64 s, .int .i64 v]] w fun e w' => e = .returned (.agg #[.int .i64 (frT h s v).1, .int .i64 (frT h s v).2.1, .int .i64 (frT h s v).2.2]) ∧ Below w.heap.size w w' := by
  obtain ⟨h0, h9⟩ := hh
  obtain ⟨k, hk⟩ : ∃ k, k = h / 65535 := ⟨_, rfl⟩
  obtain ⟨f, hf⟩ : ∃ f, f = h % 65535 := ⟨_, rfl⟩
  have f0 : 0 ≤ f := by omega
  have f9 : f ≤ 65535 := by omega
  have k6 : k = 0 ∨ k = 1 ∨ k = 2 ∨ k = 3 ∨ k = 4 ∨ k = 5 := by omega
  obtain ⟨⟨c1, c2⟩, ⟨c3, c4⟩, ⟨c5, c6⟩, ⟨c7, c8⟩, ⟨c9, c10⟩⟩ := fr_bounds hs hv f0 f9
  have HF : Hid (frT h s v = frK k v (frP s v) (frQ f s v) (frU f s v)) := Lib.hid (by rw [hk, hf]; rfl)
  have HP := Lib.hid (fun W => round_any (v * (65535 - s)) 65535 W (by omega) (by omega) (by omega) (by omega))
  have HQ := Lib.hid (fun W => round_any (v * (4294836225 - s * f)) 4294836225 W (by omega) (by omega) (by omega) (by omega))
  have HU := Lib.hid (fun W => round_any (v * (4294836225 - s * (65535 - f))) 4294836225 W (by omega) (by omega) (by omega) (by omega))
  rw [show rnd (v * (65535 - s)) 65535 = frP s v from rfl] at HP
  rw [show rnd (v * (4294836225 - s * f)) 4294836225 = frQ f s v from rfl] at HQ
  rw [show rnd (v * (4294836225 - s * (65535 - f))) 4294836225 = frU f s v from rfl] at HU
  generalize frP s v = p at *
  generalize frQ f s v = q at *
  generalize frU f s v = u at *
  generalize frT h s v = ft at *
  have HD1 := Lib.hid (Int.tdiv_eq_ediv_of_nonneg h0 (b := 65535))
  have HD2 := Lib.hid (Int.tmod_eq_emod_of_nonneg h0 (b := 65535))
  have HK := Lib.hid hk
  have HFF := Lib.hid hf
  clear hk hf
  unfold LvOkC at hs hv
  obtain ⟨s0, s9⟩ := hs
  obtain ⟨v0, v9⟩ := hv
  have KZ := Lib.hid (show ∀ W, Below (w.heap.size + 1 + 1) ((w.alloc (.cells #[.int .i64 h, .int .i64 s, .int .i64 v] 25)).alloc (.cells #[.int .i64 0, .int .i64 0, .int .i64 0] 23)) W → (w.heap.size + 1 + 1) ≤ W.heap.size from fun W hW => by
    have := hW.size
    simp at this
    omega)
  have KB := Lib.hid (show ∀ W, Below (w.heap.size + 1 + 1) ((w.alloc (.cells #[.int .i64 h, .int .i64 s, .int .i64 v] 25)).alloc (.cells #[.int .i64 0, .int .i64 0, .int .i64 0] 23)) W → Below w.heap.size w W from fun W hW => (((Below.refl _ _).alloc (Nat.le_refl _) _).alloc (by simp) _).trans (hW.mono (by omega)))
  have KC := Lib.hid (show ∀ W, Below (w.heap.size + 1 + 1) ((w.alloc (.cells #[.int .i64 h, .int .i64 s, .int .i64 v] 25)).alloc (.cells #[.int .i64 0, .int .i64 0, .int .i64 0] 23)) W → W.cell? ⟨w.heap.size, 0, none⟩ = some (.int .i64 h) ∧ W.cell? ⟨w.heap.size, 1, none⟩ = some (.int .i64 s) ∧ W.cell? ⟨w.heap.size, 2, none⟩ = some (.int .i64 v) from fun W hW => by
    have a := ((box_new w (.int .i64 h) (.int .i64 s) (.int .i64 v) 25).alloc (by simp) (.cells #[.int .i64 0, .int .i64 0, .int .i64 0] 23)).below hW (by omega)
    exact ⟨a.c0, a.c1, a.c2⟩)
  have KR := Lib.hid (show ∀ W, Below (w.heap.size + 1 + 1) ((w.alloc (.cells #[.int .i64 h, .int .i64 s, .int .i64 v] 25)).alloc (.cells #[.int .i64 0, .int .i64 0, .int .i64 0] 23)) W → Box3 W (w.heap.size + 1) (.int .i64 0) (.int .i64 0) (.int .i64 0) from fun W hW => by
    have c := (box_new (w.alloc (.cells #[.int .i64 h, .int .i64 s, .int .i64 v] 25)) (.int .i64 0) (.int .i64 0) (.int .i64 0) 23).below hW (by simp)
    simpa using c)
  go_enter Try.func39, Try.ntmps39
  go_upto_region 1 with fail
  go_cut [3, 4] (fun a c wx => a = .int .i64 k ∧ c = .int .i64 f ∧ Below (w.heap.size + 1 + 1) ((w.alloc (.cells #[.int .i64 h, .int .i64 s, .int .i64 v] 25)).alloc (.cells #[.int .i64 0, .int .i64 0, .int .i64 0] 23)) wx)
  case first =>
    go_region_held3 (fun W => W.cell? ⟨w.heap.size, 0, none⟩ = some (.int .i64 h) ∧ W.cell? ⟨w.heap.size, 1, none⟩ = some (.int .i64 s) ∧ W.cell? ⟨w.heap.size, 2, none⟩ = some (.int .i64 v))
      (simp [go_sem, World.cell?_alloc_past])
      (first | fail)
    all_goals go_wp2_with fail
    all_goals go_meet
    all_goals exact ⟨congrArg (Value.int .i64) (by rw [HK.out]; rw [HD1.out]; first | rfl | exact IntWalk.i64_in _ (by omega)), congrArg (Value.int .i64) (by rw [HFF.out]; first | exact HD2.out | (rw [HD2.out]; exact IntWalk.i64_in _ (by omega))), by (repeat' first | exact Below.refl _ _ | apply Below.drew)⟩
  case rest =>
    obtain ⟨rfl, rfl, hbx⟩ := hcut
    obtain ⟨wB, rfl⟩ : ∃ x, x = wc := ⟨wc, rfl⟩
    go_upto_region 2 with fail
    have hw0 : Below (w.heap.size + 1 + 1) ((w.alloc (.cells #[.int .i64 h, .int .i64 s, .int .i64 v] 25)).alloc (.cells #[.int .i64 0, .int .i64 0, .int .i64 0] 23)) (World.drew wB) := hbx.drew
    go_cut [5, 6] (fun a c wx => a = .int .i64 s ∧ c = .int .i64 v ∧ Below (w.heap.size + 1 + 1) ((w.alloc (.cells #[.int .i64 h, .int .i64 s, .int .i64 v] 25)).alloc (.cells #[.int .i64 0, .int .i64 0, .int .i64 0] 23)) wx)
    case first =>
      go_region_held3 (fun W => W.cell? ⟨w.heap.size, 0, none⟩ = some (.int .i64 h) ∧ W.cell? ⟨w.heap.size, 1, none⟩ = some (.int .i64 s) ∧ W.cell? ⟨w.heap.size, 2, none⟩ = some (.int .i64 v))
        (first | exact KC.out _ hw0 | exact KC.out _ hbx)
        (first | fail)
      all_goals go_wp2_with fail
      all_goals go_meet
      all_goals exact ⟨rfl, rfl, by first | exact hw0 | exact hbx⟩
    case rest =>
      obtain ⟨rfl, rfl, hby⟩ := hcut
      obtain ⟨wA, rfl⟩ : ∃ x, x = wc := ⟨wc, rfl⟩
      have HBW := Lib.hid (KB.out _ hby)
      have HRS := Lib.hid (KR.out _ hby)
      have hz := KZ.out _ hby
      obtain ⟨q0, q1, q2, q3, q4, q5⟩ := HRS.out
      have z1 : w.heap.size + 1 < wA.heap.size := by omega
      clear hbx hby hw0 KC KB KR KZ hz
      rcases k6 with rfl | rfl | rfl | rfl | rfl | rfl
      · have hft : ft = (v, u, p) := by rw [HF.out]; simp [frK]
        subst hft
        go_wp2_with fail
        refine (HP.out _).mono ?_
        rintro e w1 ⟨rfl, rfl⟩
        go_wp2_with fail
        refine (HQ.out _).mono ?_
        rintro e w1 ⟨rfl, rfl⟩
        go_wp2_with fail
        refine (HU.out _).mono ?_
        rintro e w1 ⟨rfl, rfl⟩
        go_wp2
        refine bodyPost_ret (v := .agg #[.int .i64 v, .int .i64 u, .int .i64 p]) (by simp [results, Try.results39, go_sem, q0, q1, q2]) rfl ⟨rfl, ?_⟩
        exact below_set3 HBW.out (by omega)
      · have hft : ft = (q, v, p) := by rw [HF.out]; simp [frK]
        subst hft
        go_wp2_with fail
        refine (HP.out _).mono ?_
        rintro e w1 ⟨rfl, rfl⟩
        go_wp2_with fail
        refine (HQ.out _).mono ?_
        rintro e w1 ⟨rfl, rfl⟩
        go_wp2_with fail
        refine (HU.out _).mono ?_
        rintro e w1 ⟨rfl, rfl⟩
        go_wp2
        refine bodyPost_ret (v := .agg #[.int .i64 q, .int .i64 v, .int .i64 p]) (by simp [results, Try.results39, go_sem, q0, q1, q2]) rfl ⟨rfl, ?_⟩
        exact below_set3 HBW.out (by omega)
      · have hft : ft = (p, v, u) := by rw [HF.out]; simp [frK]
        subst hft
        go_wp2_with fail
        refine (HP.out _).mono ?_
        rintro e w1 ⟨rfl, rfl⟩
        go_wp2_with fail
        refine (HQ.out _).mono ?_
        rintro e w1 ⟨rfl, rfl⟩
        go_wp2_with fail
        refine (HU.out _).mono ?_
        rintro e w1 ⟨rfl, rfl⟩
        go_wp2
        refine bodyPost_ret (v := .agg #[.int .i64 p, .int .i64 v, .int .i64 u]) (by simp [results, Try.results39, go_sem, q0, q1, q2]) rfl ⟨rfl, ?_⟩
        exact below_set3 HBW.out (by omega)
      · have hft : ft = (p, q, v) := by rw [HF.out]; simp [frK]
        subst hft
        go_wp2_with fail
        refine (HP.out _).mono ?_
        rintro e w1 ⟨rfl, rfl⟩
        go_wp2_with fail
        refine (HQ.out _).mono ?_
        rintro e w1 ⟨rfl, rfl⟩
        go_wp2_with fail
        refine (HU.out _).mono ?_
        rintro e w1 ⟨rfl, rfl⟩
        go_wp2
        refine bodyPost_ret (v := .agg #[.int .i64 p, .int .i64 q, .int .i64 v]) (by simp [results, Try.results39, go_sem, q0, q1, q2]) rfl ⟨rfl, ?_⟩
        exact below_set3 HBW.out (by omega)
      · have hft : ft = (u, p, v) := by rw [HF.out]; simp [frK]
        subst hft
        go_wp2_with fail
        refine (HP.out _).mono ?_
        rintro e w1 ⟨rfl, rfl⟩
        go_wp2_with fail
        refine (HQ.out _).mono ?_
        rintro e w1 ⟨rfl, rfl⟩
        go_wp2_with fail
        refine (HU.out _).mono ?_
        rintro e w1 ⟨rfl, rfl⟩
        go_wp2
        refine bodyPost_ret (v := .agg #[.int .i64 u, .int .i64 p, .int .i64 v]) (by simp [results, Try.results39, go_sem, q0, q1, q2]) rfl ⟨rfl, ?_⟩
        exact below_set3 HBW.out (by omega)
      · have hft : ft = (v, p, q) := by rw [HF.out]; simp [frK]
        subst hft
        go_wp2_with fail
        refine (HP.out _).mono ?_
        rintro e w1 ⟨rfl, rfl⟩
        go_wp2_with fail
        refine (HQ.out _).mono ?_
        rintro e w1 ⟨rfl, rfl⟩
        go_wp2_with fail
        refine (HU.out _).mono ?_
        rintro e w1 ⟨rfl, rfl⟩
        go_wp2
        refine bodyPost_ret (v := .agg #[.int .i64 v, .int .i64 p, .int .i64 q]) (by simp [results, Try.results39, go_sem, q0, q1, q2]) rfl ⟨rfl, ?_⟩
        exact below_set3 HBW.out (by omega)

set_option maxHeartbeats 4000000 in
set_option maxRecDepth 100000 in
theorem rfrom_any (h s v : Int) (w : World) (hh : 0 ≤ h ∧ h ≤ 393209) (hs : LvOkC s) (hv : LvOkC v) :
    Calls Try.prog 42 #[.agg #[.int .i64 h, .int .i64 s, .int .i64 v]] w fun e w' => e = .returned (.agg #[.int .i64 (frT h s v).1, .int .i64 (frT h s v).2.1, .int .i64 (frT h s v).2.2]) ∧ Below w.heap.size w w' := by
  obtain ⟨h0, h9⟩ := hh
  obtain ⟨k, hk⟩ : ∃ k, k = h / 65535 := ⟨_, rfl⟩
  obtain ⟨f, hf⟩ : ∃ f, f = h % 65535 := ⟨_, rfl⟩
  have f0 : 0 ≤ f := by omega
  have f9 : f ≤ 65535 := by omega
  have k6 : k = 0 ∨ k = 1 ∨ k = 2 ∨ k = 3 ∨ k = 4 ∨ k = 5 := by omega
  obtain ⟨⟨c1, c2⟩, ⟨c3, c4⟩, ⟨c5, c6⟩, ⟨c7, c8⟩, ⟨c9, c10⟩⟩ := fr_bounds hs hv f0 f9
  have HF : Hid (frT h s v = frK k v (frP s v) (frQ f s v) (frU f s v)) := Lib.hid (by rw [hk, hf]; rfl)
  have HP := Lib.hid (fun W => signed_any (v * (65535 - s)) 65535 W ⟨by omega, by omega⟩ (by omega) (by omega))
  have HQ := Lib.hid (fun W => signed_any (v * (4294836225 - s * f)) 4294836225 W ⟨by omega, by omega⟩ (by omega) (by omega))
  have HU := Lib.hid (fun W => signed_any (v * (4294836225 - s * (65535 - f))) 4294836225 W ⟨by omega, by omega⟩ (by omega) (by omega))
  rw [show ((65535 : Nat) : Int) = 65535 from rfl] at HP
  rw [show ((4294836225 : Nat) : Int) = 4294836225 from rfl] at HQ HU
  rw [show rnd (v * (65535 - s)) 65535 = frP s v from rfl] at HP
  rw [show rnd (v * (4294836225 - s * f)) 4294836225 = frQ f s v from rfl] at HQ
  rw [show rnd (v * (4294836225 - s * (65535 - f))) 4294836225 = frU f s v from rfl] at HU
  generalize frP s v = p at *
  generalize frQ f s v = q at *
  generalize frU f s v = u at *
  generalize frT h s v = ft at *
  have HD1 := Lib.hid (Int.tdiv_eq_ediv_of_nonneg h0 (b := 65535))
  have HD2 := Lib.hid (Int.tmod_eq_emod_of_nonneg h0 (b := 65535))
  have HK := Lib.hid hk
  have HFF := Lib.hid hf
  clear hk hf
  unfold LvOkC at hs hv
  obtain ⟨s0, s9⟩ := hs
  obtain ⟨v0, v9⟩ := hv
  have KZ := Lib.hid (show ∀ W, Below (w.heap.size + 1 + 1) ((w.alloc (.cells #[.int .i64 h, .int .i64 s, .int .i64 v] 25)).alloc (.cells #[.int .i64 0, .int .i64 0, .int .i64 0] 23)) W → (w.heap.size + 1 + 1) ≤ W.heap.size from fun W hW => by
    have := hW.size
    simp at this
    omega)
  have KB := Lib.hid (show ∀ W, Below (w.heap.size + 1 + 1) ((w.alloc (.cells #[.int .i64 h, .int .i64 s, .int .i64 v] 25)).alloc (.cells #[.int .i64 0, .int .i64 0, .int .i64 0] 23)) W → Below w.heap.size w W from fun W hW => (((Below.refl _ _).alloc (Nat.le_refl _) _).alloc (by simp) _).trans (hW.mono (by omega)))
  have KC := Lib.hid (show ∀ W, Below (w.heap.size + 1 + 1) ((w.alloc (.cells #[.int .i64 h, .int .i64 s, .int .i64 v] 25)).alloc (.cells #[.int .i64 0, .int .i64 0, .int .i64 0] 23)) W → W.cell? ⟨w.heap.size, 0, none⟩ = some (.int .i64 h) ∧ W.cell? ⟨w.heap.size, 1, none⟩ = some (.int .i64 s) ∧ W.cell? ⟨w.heap.size, 2, none⟩ = some (.int .i64 v) from fun W hW => by
    have a := ((box_new w (.int .i64 h) (.int .i64 s) (.int .i64 v) 25).alloc (by simp) (.cells #[.int .i64 0, .int .i64 0, .int .i64 0] 23)).below hW (by omega)
    exact ⟨a.c0, a.c1, a.c2⟩)
  have KR := Lib.hid (show ∀ W, Below (w.heap.size + 1 + 1) ((w.alloc (.cells #[.int .i64 h, .int .i64 s, .int .i64 v] 25)).alloc (.cells #[.int .i64 0, .int .i64 0, .int .i64 0] 23)) W → Box3 W (w.heap.size + 1) (.int .i64 0) (.int .i64 0) (.int .i64 0) from fun W hW => by
    have c := (box_new (w.alloc (.cells #[.int .i64 h, .int .i64 s, .int .i64 v] 25)) (.int .i64 0) (.int .i64 0) (.int .i64 0) 23).below hW (by simp)
    simpa using c)
  go_enter Try.func42, Try.ntmps42
  go_upto_region 1 with fail
  go_cut [3, 4, 5] (fun d a c wx => d = .int .i64 v ∧ a = .int .i64 k ∧ c = .int .i64 f ∧ Below (w.heap.size + 1 + 1) ((w.alloc (.cells #[.int .i64 h, .int .i64 s, .int .i64 v] 25)).alloc (.cells #[.int .i64 0, .int .i64 0, .int .i64 0] 23)) wx)
  case first =>
    go_region_held3 (fun W => W.cell? ⟨w.heap.size, 0, none⟩ = some (.int .i64 h) ∧ W.cell? ⟨w.heap.size, 1, none⟩ = some (.int .i64 s) ∧ W.cell? ⟨w.heap.size, 2, none⟩ = some (.int .i64 v))
      (simp [go_sem, World.cell?_alloc_past])
      (first | fail)
    all_goals go_wp2_with fail
    all_goals go_meet
    all_goals exact ⟨rfl, congrArg (Value.int .i64) (by rw [HK.out]; rw [HD1.out]; first | rfl | exact IntWalk.i64_in _ (by omega)), congrArg (Value.int .i64) (by rw [HFF.out]; first | exact HD2.out | (rw [HD2.out]; exact IntWalk.i64_in _ (by omega))), by (repeat' first | exact Below.refl _ _ | apply Below.drew)⟩
  case rest =>
    obtain ⟨rfl, rfl, rfl, hby⟩ := hcut
    obtain ⟨wA, rfl⟩ : ∃ x, x = wc := ⟨wc, rfl⟩
    have HBW := Lib.hid (KB.out _ hby)
    have HRS := Lib.hid (KR.out _ hby)
    have hz := KZ.out _ hby
    have z0 : w.heap.size < wA.heap.size := by omega
    have z1 : w.heap.size + 1 < wA.heap.size := by omega
    obtain ⟨x0, x1, x2⟩ := KC.out _ hby
    have HX := Lib.hid (show ∀ W, Below wA.heap.size wA W → W.cell? ⟨w.heap.size, 0, none⟩ = some (.int .i64 h) ∧ W.cell? ⟨w.heap.size, 1, none⟩ = some (.int .i64 s) ∧ W.cell? ⟨w.heap.size, 2, none⟩ = some (.int .i64 v) from fun W hW => ⟨(hW.cell z0).trans x0, (hW.cell z0).trans x1, (hW.cell z0).trans x2⟩)
    clear hby KC KB KR KZ hz
    rcases k6 with rfl | rfl | rfl | rfl | rfl | rfl
    · have hft : ft = (v, u, p) := by rw [HF.out]; simp [frK]
      subst hft
      go_wp2_with fail
      refine (HP.out _).mono ?_
      rintro e w1 ⟨rfl, hb1⟩
      obtain ⟨x3, x4, x5⟩ := HX.out _ hb1
      have HB1 := Lib.hid hb1
      clear hb1
      go_wp2_with fail
      refine (HQ.out _).mono ?_
      rintro e w2 ⟨rfl, hb2⟩
      have HB2 := Lib.hid (bt' HB1.out hb2)
      clear hb2
      obtain ⟨x6, x7, x8⟩ := HX.out _ HB2.out
      go_wp2_with fail
      refine (HU.out _).mono ?_
      rintro e w3 ⟨rfl, hb3⟩
      have HB3 := Lib.hid (bt' HB2.out hb3)
      clear hb3
      obtain ⟨p0, p1, p2, p3, p4, p5⟩ := HRS.out.below HB3.out z1
      go_wp2
      refine bodyPost_ret (v := .agg #[.int .i64 v, .int .i64 u, .int .i64 p]) (by simp [results, Try.results42, go_sem, p0, p1, p2]) rfl ⟨rfl, ?_⟩
      exact below_set3 (bt' HBW.out HB3.out) (by omega)
    · have hft : ft = (q, v, p) := by rw [HF.out]; simp [frK]
      subst hft
      go_wp2_with fail
      refine (HP.out _).mono ?_
      rintro e w1 ⟨rfl, hb1⟩
      obtain ⟨x3, x4, x5⟩ := HX.out _ hb1
      have HB1 := Lib.hid hb1
      clear hb1
      go_wp2_with fail
      refine (HQ.out _).mono ?_
      rintro e w2 ⟨rfl, hb2⟩
      have HB2 := Lib.hid (bt' HB1.out hb2)
      clear hb2
      obtain ⟨x6, x7, x8⟩ := HX.out _ HB2.out
      go_wp2_with fail
      refine (HU.out _).mono ?_
      rintro e w3 ⟨rfl, hb3⟩
      have HB3 := Lib.hid (bt' HB2.out hb3)
      clear hb3
      obtain ⟨p0, p1, p2, p3, p4, p5⟩ := HRS.out.below HB3.out z1
      go_wp2
      refine bodyPost_ret (v := .agg #[.int .i64 q, .int .i64 v, .int .i64 p]) (by simp [results, Try.results42, go_sem, p0, p1, p2]) rfl ⟨rfl, ?_⟩
      exact below_set3 (bt' HBW.out HB3.out) (by omega)
    · have hft : ft = (p, v, u) := by rw [HF.out]; simp [frK]
      subst hft
      go_wp2_with fail
      refine (HP.out _).mono ?_
      rintro e w1 ⟨rfl, hb1⟩
      obtain ⟨x3, x4, x5⟩ := HX.out _ hb1
      have HB1 := Lib.hid hb1
      clear hb1
      go_wp2_with fail
      refine (HQ.out _).mono ?_
      rintro e w2 ⟨rfl, hb2⟩
      have HB2 := Lib.hid (bt' HB1.out hb2)
      clear hb2
      obtain ⟨x6, x7, x8⟩ := HX.out _ HB2.out
      go_wp2_with fail
      refine (HU.out _).mono ?_
      rintro e w3 ⟨rfl, hb3⟩
      have HB3 := Lib.hid (bt' HB2.out hb3)
      clear hb3
      obtain ⟨p0, p1, p2, p3, p4, p5⟩ := HRS.out.below HB3.out z1
      go_wp2
      refine bodyPost_ret (v := .agg #[.int .i64 p, .int .i64 v, .int .i64 u]) (by simp [results, Try.results42, go_sem, p0, p1, p2]) rfl ⟨rfl, ?_⟩
      exact below_set3 (bt' HBW.out HB3.out) (by omega)
    · have hft : ft = (p, q, v) := by rw [HF.out]; simp [frK]
      subst hft
      go_wp2_with fail
      refine (HP.out _).mono ?_
      rintro e w1 ⟨rfl, hb1⟩
      obtain ⟨x3, x4, x5⟩ := HX.out _ hb1
      have HB1 := Lib.hid hb1
      clear hb1
      go_wp2_with fail
      refine (HQ.out _).mono ?_
      rintro e w2 ⟨rfl, hb2⟩
      have HB2 := Lib.hid (bt' HB1.out hb2)
      clear hb2
      obtain ⟨x6, x7, x8⟩ := HX.out _ HB2.out
      go_wp2_with fail
      refine (HU.out _).mono ?_
      rintro e w3 ⟨rfl, hb3⟩
      have HB3 := Lib.hid (bt' HB2.out hb3)
      clear hb3
      obtain ⟨p0, p1, p2, p3, p4, p5⟩ := HRS.out.below HB3.out z1
      go_wp2
      refine bodyPost_ret (v := .agg #[.int .i64 p, .int .i64 q, .int .i64 v]) (by simp [results, Try.results42, go_sem, p0, p1, p2]) rfl ⟨rfl, ?_⟩
      exact below_set3 (bt' HBW.out HB3.out) (by omega)
    · have hft : ft = (u, p, v) := by rw [HF.out]; simp [frK]
      subst hft
      go_wp2_with fail
      refine (HP.out _).mono ?_
      rintro e w1 ⟨rfl, hb1⟩
      obtain ⟨x3, x4, x5⟩ := HX.out _ hb1
      have HB1 := Lib.hid hb1
      clear hb1
      go_wp2_with fail
      refine (HQ.out _).mono ?_
      rintro e w2 ⟨rfl, hb2⟩
      have HB2 := Lib.hid (bt' HB1.out hb2)
      clear hb2
      obtain ⟨x6, x7, x8⟩ := HX.out _ HB2.out
      go_wp2_with fail
      refine (HU.out _).mono ?_
      rintro e w3 ⟨rfl, hb3⟩
      have HB3 := Lib.hid (bt' HB2.out hb3)
      clear hb3
      obtain ⟨p0, p1, p2, p3, p4, p5⟩ := HRS.out.below HB3.out z1
      go_wp2
      refine bodyPost_ret (v := .agg #[.int .i64 u, .int .i64 p, .int .i64 v]) (by simp [results, Try.results42, go_sem, p0, p1, p2]) rfl ⟨rfl, ?_⟩
      exact below_set3 (bt' HBW.out HB3.out) (by omega)
    · have hft : ft = (v, p, q) := by rw [HF.out]; simp [frK]
      subst hft
      go_wp2_with fail
      refine (HP.out _).mono ?_
      rintro e w1 ⟨rfl, hb1⟩
      obtain ⟨x3, x4, x5⟩ := HX.out _ hb1
      have HB1 := Lib.hid hb1
      clear hb1
      go_wp2_with fail
      refine (HQ.out _).mono ?_
      rintro e w2 ⟨rfl, hb2⟩
      have HB2 := Lib.hid (bt' HB1.out hb2)
      clear hb2
      obtain ⟨x6, x7, x8⟩ := HX.out _ HB2.out
      go_wp2_with fail
      refine (HU.out _).mono ?_
      rintro e w3 ⟨rfl, hb3⟩
      have HB3 := Lib.hid (bt' HB2.out hb3)
      clear hb3
      obtain ⟨p0, p1, p2, p3, p4, p5⟩ := HRS.out.below HB3.out z1
      go_wp2
      refine bodyPost_ret (v := .agg #[.int .i64 v, .int .i64 p, .int .i64 q]) (by simp [results, Try.results42, go_sem, p0, p1, p2]) rfl ⟨rfl, ?_⟩
      exact below_set3 (bt' HBW.out HB3.out) (by omega)
end Go.Proofs.Yteelomjknllcbaa
