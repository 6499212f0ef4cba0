/- The contract of level.way. -/
import Derived.Test.YtdicoggpcobbpaaDoorToward
import Derived.Test.YtdicoggpcobbpaaDoorCheckAny
namespace Go.Proofs.YtdicoggpcobbpaaDoor
open Go.RowKit

set_option linter.unusedVariables false
def Wd (x : Int) : Value := .agg #[.int .u64 (hiW x), .int .u64 (loW x)]

set_option maxHeartbeats 1000000 in
theorem way2 (p q : Int) (v : Value) (w : World) (p0 : 0 ≤ p) (p1 : p ≤ q) (q0 : 0 < q) (q1 : q ≤ 36000000) :
    Calls Tryd.prog 81 #[.agg #[.int .i64 2, v], .int .i64 p, .int .i64 q] w fun e w' => e = .returned (.tuple #[.agg #[.int .u64 (hiW (p * p)), .int .u64 (loW (p * p))], .agg #[.int .u64 (hiW (q * q)), .int .u64 (loW (q * q))]]) ∧ Below w.heap.size w w' := by
  have b1 : p * p ≤ 36000000 * 36000000 := Int.mul_le_mul (by omega) (by omega) p0 (by omega)
  have b2 : q * q ≤ 36000000 * 36000000 := Int.mul_le_mul (by omega) (by omega) (by omega) (by omega)
  have b3 : 0 ≤ p * p := Int.mul_nonneg p0 p0
  have b4 : 0 ≤ q * q := Int.mul_nonneg (by omega) (by omega)
  have O1 := Lib.hid fun W => of_any q (by omega) (by omega) W
  have O2 := Lib.hid fun W => of_any p (by omega) (by omega) W
  have T1 := Lib.hid fun W => times_any q q ⟨by omega, by omega⟩ (by omega) (by omega) ⟨b4, by omega⟩ W
  have T2 := Lib.hid fun W => times_any p p ⟨by omega, by omega⟩ (by omega) (by omega) ⟨b3, by omega⟩ W
  clear b1 b2 b3 b4
  go_enter Tryd.func81, Tryd.ntmps81
  go_wp2_with (first | (go_at_call 104; refine (O1.out _).mono ?_; rintro e w1 ⟨rfl, o1, rfl⟩) | (go_at_call 105; refine (T1.out _).mono ?_; rintro e w1 ⟨rfl, o1, o2, rfl⟩))
  go_region_held3 (fun w' => w'.cell? ⟨w.heap.size + 1 + 1 + 1 + 1 + 1 + 1, 0, none⟩ = some (.int .u64 (hiW (q * q))) ∧ w'.cell? ⟨w.heap.size + 1 + 1 + 1 + 1 + 1 + 1, 1, none⟩ = some (.int .u64 (loW (q * q))))
    (simp [go_sem, World.cell?_alloc_past])
    (first | (go_at_call 104; refine (O2.out _).mono ?_; rintro e w1 ⟨rfl, o1, rfl⟩) | (go_at_call 105; refine (T2.out _).mono ?_; rintro e w1 ⟨rfl, o1, o2, rfl⟩))
  go_wp2
  refine bodyPost_ret (v := .tuple #[.agg #[.int .u64 (hiW (p * p)), .int .u64 (loW (p * p))], .agg #[.int .u64 (hiW (q * q)), .int .u64 (loW (q * q))]]) (by simp [results, Tryd.results81, go_sem, World.cell?_alloc_past]) rfl ⟨rfl, ?_⟩
  (repeat' first | exact Below.refl _ _ | apply Below.drew | refine Below.alloc ?_ (by simp <;> omega) _)

set_option maxHeartbeats 1000000 in
theorem way3 (p q : Int) (v : Value) (w : World) (p0 : 0 ≤ p) (p1 : p ≤ q) (q0 : 0 < q) (q1 : q ≤ 36000000) :
    Calls Tryd.prog 81 #[.agg #[.int .i64 3, v], .int .i64 p, .int .i64 q] w fun e w' => e = .returned (.tuple #[.agg #[.int .u64 (hiW (p * (2 * q - p))), .int .u64 (loW (p * (2 * q - p)))], .agg #[.int .u64 (hiW (q * q)), .int .u64 (loW (q * q))]]) ∧ Below w.heap.size w w' := by
  have b1 : p * p ≤ 36000000 * 36000000 := Int.mul_le_mul (by omega) (by omega) p0 (by omega)
  have b2 : q * q ≤ 36000000 * 36000000 := Int.mul_le_mul (by omega) (by omega) (by omega) (by omega)
  have b3 : 0 ≤ p * p := Int.mul_nonneg p0 p0
  have b4 : 0 ≤ q * q := Int.mul_nonneg (by omega) (by omega)
  have O1 := Lib.hid fun W => of_any q (by omega) (by omega) W
  have O2 := Lib.hid fun W => of_any p (by omega) (by omega) W
  have T1 := Lib.hid fun W => times_any q q ⟨by omega, by omega⟩ (by omega) (by omega) ⟨b4, by omega⟩ W
  have T2 := Lib.hid fun W => times_any p p ⟨by omega, by omega⟩ (by omega) (by omega) ⟨b3, by omega⟩ W
  have b5 : 0 ≤ p * (2 * q - p) := Int.mul_nonneg p0 (by omega)
  have b6 : p * (2 * q - p) ≤ 36000000 * 72000000 := Int.mul_le_mul (by omega) (by omega) (by omega) (by omega)
  have T3 := Lib.hid fun W => times_any p (2 * q - p) ⟨by omega, by omega⟩ (by omega) (by omega) ⟨b5, by omega⟩ W
  clear b1 b2 b3 b4 b5 b6 T2
  go_enter Tryd.func81, Tryd.ntmps81
  go_wp2_with (first | (go_at_call 104; ((with_reducible refine (O1.out _).mono ?_); rintro e w1 ⟨rfl, o1, rfl⟩)) | (go_at_call 105; ((with_reducible refine (T1.out _).mono ?_); rintro e w1 ⟨rfl, o1, o2, rfl⟩)))
  have h1 : IntKind.i64.wrap (2 * q) = 2 * q := IntWalk.i64_in _ (by omega)
  have h2 : IntKind.i64.wrap (2 * q - p) = 2 * q - p := IntWalk.i64_in _ (by omega)
  go_region_held3 (fun w' => w'.cell? ⟨w.heap.size + 1 + 1 + 1 + 1 + 1 + 1, 0, none⟩ = some (.int .u64 (hiW (q * q))) ∧ w'.cell? ⟨w.heap.size + 1 + 1 + 1 + 1 + 1 + 1, 1, none⟩ = some (.int .u64 (loW (q * q))))
    (simp [go_sem, World.cell?_alloc_past])
    (first | (go_at_call 104; ((with_reducible refine (O2.out _).mono ?_); rintro e w1 ⟨rfl, o1, rfl⟩)) | (go_at_call 105; ((with_reducible refine (T3.out _).mono ?_); rintro e w1 ⟨rfl, o1, o2, rfl⟩)))
  clear h1 h2
  (go_wp2; refine bodyPost_ret (v := .tuple #[.agg #[.int .u64 (hiW (p * (2 * q - p))), .int .u64 (loW (p * (2 * q - p)))], .agg #[.int .u64 (hiW (q * q)), .int .u64 (loW (q * q))]]) (by simp [results, Tryd.results81, go_sem, World.cell?_alloc_past]) rfl ⟨rfl, ?_⟩)
  (repeat' first | exact Below.refl _ _ | apply Below.drew | refine Below.alloc ?_ (by simp <;> omega) _)

set_option maxHeartbeats 1000000 in
theorem way4 (p q : Int) (v : Value) (w : World) (p0 : 0 ≤ p) (p1 : p ≤ q) (q0 : 0 < q) (q1 : q ≤ 36000000) :
    Calls Tryd.prog 81 #[.agg #[.int .i64 4, v], .int .i64 p, .int .i64 q] w fun e w' => e = .returned (.tuple #[.agg #[.int .u64 (hiW (p * p * (3 * q - 2 * p))), .int .u64 (loW (p * p * (3 * q - 2 * p)))], .agg #[.int .u64 (hiW (q * q * q)), .int .u64 (loW (q * q * q))]]) ∧ Below w.heap.size w w' := by
  have b1 : p * p ≤ 36000000 * 36000000 := Int.mul_le_mul (by omega) (by omega) p0 (by omega)
  have b2 : q * q ≤ 36000000 * 36000000 := Int.mul_le_mul (by omega) (by omega) (by omega) (by omega)
  have b3 : 0 ≤ p * p := Int.mul_nonneg p0 p0
  have b4 : 0 ≤ q * q := Int.mul_nonneg (by omega) (by omega)
  have O1 := Lib.hid fun W => of_any q (by omega) (by omega) W
  have O2 := Lib.hid fun W => of_any p (by omega) (by omega) W
  have T1 := Lib.hid fun W => times_any q q ⟨by omega, by omega⟩ (by omega) (by omega) ⟨b4, by omega⟩ W
  have T2 := Lib.hid fun W => times_any p p ⟨by omega, by omega⟩ (by omega) (by omega) ⟨b3, by omega⟩ W
  have b5 : 0 ≤ p * p * (3 * q - 2 * p) := Int.mul_nonneg b3 (by omega)
  have b6 : p * p * (3 * q - 2 * p) ≤ (36000000 * 36000000) * 108000000 := Int.mul_le_mul b1 (by omega) (by omega) (by omega)
  have b7 : 0 ≤ q * q * q := Int.mul_nonneg b4 (by omega)
  have b8 : q * q * q ≤ (36000000 * 36000000) * 36000000 := Int.mul_le_mul b2 q1 (by omega) (by omega)
  have T3 := Lib.hid fun W => times_any (p * p) (3 * q - 2 * p) ⟨by omega, by omega⟩ (by omega) (by omega) ⟨b5, by omega⟩ W
  have T4 := Lib.hid fun W => times_any (q * q) q ⟨by omega, by omega⟩ (by omega) (by omega) ⟨b7, by omega⟩ W
  clear b1 b2 b3 b4 b5 b6 b7 b8
  go_enter Tryd.func81, Tryd.ntmps81
  go_wp2_with (first | (go_at_call 104; ((with_reducible refine (O1.out _).mono ?_); rintro e w1 ⟨rfl, o1, rfl⟩)) | (go_at_call 105; ((with_reducible refine (T1.out _).mono ?_); rintro e w1 ⟨rfl, o1, o2, rfl⟩)))
  have h1 : IntKind.i64.wrap (3 * q) = 3 * q := IntWalk.i64_in _ (by omega)
  have h2 : IntKind.i64.wrap (2 * p) = 2 * p := IntWalk.i64_in _ (by omega)
  have h3 : IntKind.i64.wrap (3 * q - 2 * p) = 3 * q - 2 * p := IntWalk.i64_in _ (by omega)
  go_region_held3 (fun w' => w'.cell? ⟨w.heap.size + 1 + 1 + 1 + 1 + 1 + 1, 0, none⟩ = some (.int .u64 (hiW (q * q))) ∧ w'.cell? ⟨w.heap.size + 1 + 1 + 1 + 1 + 1 + 1, 1, none⟩ = some (.int .u64 (loW (q * q))))
    (simp [go_sem, World.cell?_alloc_past])
    (first | (go_at_call 104; ((with_reducible refine (O2.out _).mono ?_); rintro e w1 ⟨rfl, o1, rfl⟩)) | (go_at_call 105; ((with_reducible refine (T2.out _).mono ?_); rintro e w1 ⟨rfl, o1, o2, rfl⟩)) | (go_at_call 105; ((with_reducible refine (T3.out _).mono ?_); rintro e w1 ⟨rfl, o1, o2, rfl⟩)) | (go_at_call 105; ((with_reducible refine (T4.out _).mono ?_); rintro e w1 ⟨rfl, o1, o2, rfl⟩)))
  all_goals clear h1 h2 h3
  all_goals (go_wp2; refine bodyPost_ret (v := .tuple #[.agg #[.int .u64 (hiW (p * p * (3 * q - 2 * p))), .int .u64 (loW (p * p * (3 * q - 2 * p)))], .agg #[.int .u64 (hiW (q * q * q)), .int .u64 (loW (q * q * q))]]) (by simp [results, Tryd.results81, go_sem, World.cell?_alloc_past]) rfl ⟨rfl, ?_⟩)
  all_goals (repeat' first | exact Below.refl _ _ | apply Below.drew | refine Below.alloc ?_ (by simp <;> omega) _)

set_option maxHeartbeats 1000000 in
theorem way5a (p q : Int) (v : Value) (w : World) (p0 : 0 ≤ p) (p1 : p ≤ q) (q0 : 0 < q) (q1 : q ≤ 36000000) (hpq : p < q) :
    Calls Tryd.prog 81 #[.agg #[.int .i64 5, v], .int .i64 p, .int .i64 q] w fun e w' => e = .returned (.tuple #[.agg #[.int .u64 (hiW (0)), .int .u64 (loW (0))], .agg #[.int .u64 (hiW (1)), .int .u64 (loW (1))]]) ∧ Below w.heap.size w w' := by
  have b1 : p * p ≤ 36000000 * 36000000 := Int.mul_le_mul (by omega) (by omega) p0 (by omega)
  have b2 : q * q ≤ 36000000 * 36000000 := Int.mul_le_mul (by omega) (by omega) (by omega) (by omega)
  have b3 : 0 ≤ p * p := Int.mul_nonneg p0 p0
  have b4 : 0 ≤ q * q := Int.mul_nonneg (by omega) (by omega)
  have O1 := Lib.hid fun W => of_any q (by omega) (by omega) W
  have O2 := Lib.hid fun W => of_any p (by omega) (by omega) W
  have T1 := Lib.hid fun W => times_any q q ⟨by omega, by omega⟩ (by omega) (by omega) ⟨b4, by omega⟩ W
  have T2 := Lib.hid fun W => times_any p p ⟨by omega, by omega⟩ (by omega) (by omega) ⟨b3, by omega⟩ W
  have Z0 := Lib.hid fun W => of_any 0 (by omega) (by omega) W
  have Z1 := Lib.hid fun W => of_any 1 (by omega) (by omega) W
  clear b1 b2 b3 b4 T2 O2
  go_enter Tryd.func81, Tryd.ntmps81
  go_wp2_with (first | (go_at_call 104; ((with_reducible refine (O1.out _).mono ?_); rintro e w1 ⟨rfl, o1, rfl⟩)) | (go_at_call 105; ((with_reducible refine (T1.out _).mono ?_); rintro e w1 ⟨rfl, o1, o2, rfl⟩)) | (go_at_call 104; ((with_reducible refine (Z0.out _).mono ?_); rintro e w1 ⟨rfl, o1, rfl⟩)) | (go_at_call 104; ((with_reducible refine (Z1.out _).mono ?_); rintro e w1 ⟨rfl, o1, rfl⟩)))
  (go_wp2; refine bodyPost_ret (v := .tuple #[.agg #[.int .u64 (hiW (0)), .int .u64 (loW (0))], .agg #[.int .u64 (hiW (1)), .int .u64 (loW (1))]]) (by simp [results, Tryd.results81, go_sem, World.cell?_alloc_past]) rfl ⟨rfl, ?_⟩)
  (repeat' first | exact Below.refl _ _ | apply Below.drew | refine Below.alloc ?_ (by simp <;> omega) _)

set_option maxHeartbeats 1000000 in
theorem way5b (p q : Int) (v : Value) (w : World) (p0 : 0 ≤ p) (p1 : p ≤ q) (q0 : 0 < q) (q1 : q ≤ 36000000) (hpq : ¬ p < q) :
    Calls Tryd.prog 81 #[.agg #[.int .i64 5, v], .int .i64 p, .int .i64 q] w fun e w' => e = .returned (.tuple #[.agg #[.int .u64 (hiW (1)), .int .u64 (loW (1))], .agg #[.int .u64 (hiW (1)), .int .u64 (loW (1))]]) ∧ Below w.heap.size w w' := by
  have b1 : p * p ≤ 36000000 * 36000000 := Int.mul_le_mul (by omega) (by omega) p0 (by omega)
  have b2 : q * q ≤ 36000000 * 36000000 := Int.mul_le_mul (by omega) (by omega) (by omega) (by omega)
  have b3 : 0 ≤ p * p := Int.mul_nonneg p0 p0
  have b4 : 0 ≤ q * q := Int.mul_nonneg (by omega) (by omega)
  have O1 := Lib.hid fun W => of_any q (by omega) (by omega) W
  have O2 := Lib.hid fun W => of_any p (by omega) (by omega) W
  have T1 := Lib.hid fun W => times_any q q ⟨by omega, by omega⟩ (by omega) (by omega) ⟨b4, by omega⟩ W
  have T2 := Lib.hid fun W => times_any p p ⟨by omega, by omega⟩ (by omega) (by omega) ⟨b3, by omega⟩ W
  have Z1 := Lib.hid fun W => of_any 1 (by omega) (by omega) W
  clear b1 b2 b3 b4 T2 O2
  go_enter Tryd.func81, Tryd.ntmps81
  go_wp2_with (first | (go_at_call 104; ((with_reducible refine (O1.out _).mono ?_); rintro e w1 ⟨rfl, o1, rfl⟩)) | (go_at_call 105; ((with_reducible refine (T1.out _).mono ?_); rintro e w1 ⟨rfl, o1, o2, rfl⟩)) | (go_at_call 104; ((with_reducible refine (Z1.out _).mono ?_); rintro e w1 ⟨rfl, o1, rfl⟩)))
  (go_wp2; refine bodyPost_ret (v := .tuple #[.agg #[.int .u64 (hiW (1)), .int .u64 (loW (1))], .agg #[.int .u64 (hiW (1)), .int .u64 (loW (1))]]) (by simp [results, Tryd.results81, go_sem, World.cell?_alloc_past]) rfl ⟨rfl, ?_⟩)
  (repeat' first | exact Below.refl _ _ | apply Below.drew | refine Below.alloc ?_ (by simp <;> omega) _)

set_option maxHeartbeats 1000000 in
theorem way1 (p q : Int) (v : Value) (w : World) (p0 : 0 ≤ p) (p1 : p ≤ q) (q0 : 0 < q) (q1 : q ≤ 36000000) :
    Calls Tryd.prog 81 #[.agg #[.int .i64 1, v], .int .i64 p, .int .i64 q] w fun e w' => e = .returned (.tuple #[.agg #[.int .u64 (hiW (p)), .int .u64 (loW (p))], .agg #[.int .u64 (hiW (q)), .int .u64 (loW (q))]]) ∧ Below w.heap.size w w' := by
  have b1 : p * p ≤ 36000000 * 36000000 := Int.mul_le_mul (by omega) (by omega) p0 (by omega)
  have b2 : q * q ≤ 36000000 * 36000000 := Int.mul_le_mul (by omega) (by omega) (by omega) (by omega)
  have b3 : 0 ≤ p * p := Int.mul_nonneg p0 p0
  have b4 : 0 ≤ q * q := Int.mul_nonneg (by omega) (by omega)
  have O1 := Lib.hid fun W => of_any q (by omega) (by omega) W
  have O2 := Lib.hid fun W => of_any p (by omega) (by omega) W
  have T1 := Lib.hid fun W => times_any q q ⟨by omega, by omega⟩ (by omega) (by omega) ⟨b4, by omega⟩ W
  have T2 := Lib.hid fun W => times_any p p ⟨by omega, by omega⟩ (by omega) (by omega) ⟨b3, by omega⟩ W
  clear b1 b2 b3 b4 T2
  go_enter Tryd.func81, Tryd.ntmps81
  go_wp2_with (first | (go_at_call 104; ((with_reducible refine (O1.out _).mono ?_); rintro e w1 ⟨rfl, o1, rfl⟩)) | (go_at_call 105; ((with_reducible refine (T1.out _).mono ?_); rintro e w1 ⟨rfl, o1, o2, rfl⟩)) | (go_at_call 104; ((with_reducible refine (O2.out _).mono ?_); rintro e w1 ⟨rfl, o1, rfl⟩)))
  (go_wp2; refine bodyPost_ret (v := .tuple #[.agg #[.int .u64 (hiW (p)), .int .u64 (loW (p))], .agg #[.int .u64 (hiW (q)), .int .u64 (loW (q))]]) (by simp [results, Tryd.results81, go_sem, World.cell?_alloc_past]) rfl ⟨rfl, ?_⟩)
  (repeat' first | exact Below.refl _ _ | apply Below.drew | refine Below.alloc ?_ (by simp <;> omega) _)
end Go.Proofs.YtdicoggpcobbpaaDoor
