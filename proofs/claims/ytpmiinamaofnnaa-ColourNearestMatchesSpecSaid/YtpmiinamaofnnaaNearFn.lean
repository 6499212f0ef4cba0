/- colour.Nearest's comparing closure: the nearer gel is the lesser one. -/
import Derived.Test.YtpmiinamaofnnaaSortIns
import Derived.Test.YtpmiinamaofnnaaDistanceW
import Derived.Test.YtpmiinamaofnnaaCmpInt
namespace Go.Proofs.Ytpmiinamaofnnaa
open Go.RowKit
set_option linter.unusedVariables false
set_option linter.unusedSimpArgs false

theorem nearFn_call (args : Array Value) (W : World) : Sem.run Try.prog (callFunc 18 args) W = .ok (.enter 18 args) W := by simp [go_sem]
def nearKey (r g b : Int) (x : Gel) : Int := distW x.r x.g x.b r g b
set_option maxRecDepth 100000 in
set_option maxHeartbeats 4000000 in
theorem near_any (x y : Gel) (q : Nat) (r g b : Int) (W : World)
    (c0 : W.cell? ⟨q, 0, none⟩ = some (.int .i64 r)) (c1 : W.cell? ⟨q, 1, none⟩ = some (.int .i64 g)) (c2 : W.cell? ⟨q, 2, none⟩ = some (.int .i64 b)) (hq : q < W.heap.size) :
    Calls Try.prog 18 #[.agg #[.int .i64 x.n, .string x.name, .int .i64 x.r, .int .i64 x.g, .int .i64 x.b], .agg #[.int .i64 y.n, .string y.name, .int .i64 y.r, .int .i64 y.g, .int .i64 y.b], .pointer (some ⟨q, 0, none⟩)] W fun e w' => ∃ c : Int, e = .returned (.int .i64 c) ∧ (c < 0 ↔ nearKey r g b x < nearKey r g b y) ∧ Below W.heap.size W w' := by
  have D1 := Lib.hid (fun w => distance_w x.r x.g x.b r g b w)
  have D2 := Lib.hid (fun w => distance_w y.r y.g y.b r g b w)
  obtain ⟨xn, xs, x1, x2, x3⟩ := x
  obtain ⟨yn, ys, y1, y2, y3⟩ := y
  have HK1 := Lib.hid (show nearKey r g b ⟨xn, xs, x1, x2, x3⟩ = distW x1 x2 x3 r g b from rfl)
  have HK2 := Lib.hid (show nearKey r g b ⟨yn, ys, y1, y2, y3⟩ = distW y1 y2 y3 r g b from rfl)
  generalize distW x1 x2 x3 r g b = dx at *
  generalize distW y1 y2 y3 r g b = dy at *
  have hq2 : q < W.heap.size + 1 := by omega
  have KP := Lib.hid (fun W' (hb : Below (W.heap.size + 2) ((W.alloc (.cells #[.int .i64 xn, .string xs, .int .i64 x1, .int .i64 x2, .int .i64 x3] 29)).alloc (.cells #[.int .i64 yn, .string ys, .int .i64 y1, .int .i64 y2, .int .i64 y3] 29)) W') =>
    show W'.cell? ⟨W.heap.size, 2, none⟩ = some (.int .i64 x1) ∧ W'.cell? ⟨W.heap.size, 3, none⟩ = some (.int .i64 x2) ∧ W'.cell? ⟨W.heap.size, 4, none⟩ = some (.int .i64 x3) ∧ W'.cell? ⟨W.heap.size + 1, 2, none⟩ = some (.int .i64 y1) ∧ W'.cell? ⟨W.heap.size + 1, 3, none⟩ = some (.int .i64 y2) ∧ W'.cell? ⟨W.heap.size + 1, 4, none⟩ = some (.int .i64 y3) ∧ W'.cell? ⟨q, 0, none⟩ = some (.int .i64 r) ∧ W'.cell? ⟨q, 1, none⟩ = some (.int .i64 g) ∧ W'.cell? ⟨q, 2, none⟩ = some (.int .i64 b) from by
      refine ⟨?_, ?_, ?_, ?_, ?_, ?_, ?_, ?_, ?_⟩
      all_goals rw [hb.cell (by show _ < _; dsimp only; omega)]
      all_goals simp [go_sem, World.cell?_alloc_past, World.cell?_alloc_lt, hq, hq2, c0, c1, c2])
  have KB := Lib.hid (fun W' (hb : Below (W.heap.size + 2) ((W.alloc (.cells #[.int .i64 xn, .string xs, .int .i64 x1, .int .i64 x2, .int .i64 x3] 29)).alloc (.cells #[.int .i64 yn, .string ys, .int .i64 y1, .int .i64 y2, .int .i64 y3] 29)) W') =>
    show Below W.heap.size W W' from (((Below.refl _ W).alloc (Nat.le_refl _) _).alloc (by simp) _).trans (hb.mono (by omega)))
  have KD := Lib.hid (show Below (W.heap.size + 2) ((W.alloc (.cells #[.int .i64 xn, .string xs, .int .i64 x1, .int .i64 x2, .int .i64 x3] 29)).alloc (.cells #[.int .i64 yn, .string ys, .int .i64 y1, .int .i64 y2, .int .i64 y3] 29)) ((W.alloc (.cells #[.int .i64 xn, .string xs, .int .i64 x1, .int .i64 x2, .int .i64 x3] 29)).alloc (.cells #[.int .i64 yn, .string ys, .int .i64 y1, .int .i64 y2, .int .i64 y3] 29)).drew from (Below.refl _ _).drew)
  have KR := Lib.hid (Below.refl (W.heap.size + 2) ((W.alloc (.cells #[.int .i64 xn, .string xs, .int .i64 x1, .int .i64 x2, .int .i64 x3] 29)).alloc (.cells #[.int .i64 yn, .string ys, .int .i64 y1, .int .i64 y2, .int .i64 y3] 29)))
  have hsz : ((W.alloc (.cells #[.int .i64 xn, .string xs, .int .i64 x1, .int .i64 x2, .int .i64 x3] 29)).alloc (.cells #[.int .i64 yn, .string ys, .int .i64 y1, .int .i64 y2, .int .i64 y3] 29)).heap.size = W.heap.size + 2 := by simp
  have HSZ := Lib.hid hsz
  clear hsz
  dsimp only at *
  clear c0 c1 c2 hq hq2
  go_enter Try.func18, Try.ntmps18
  go_upto_region 1 with fail
  generalize hW2 : ((W.alloc (.cells #[.int .i64 xn, .string xs, .int .i64 x1, .int .i64 x2, .int .i64 x3] 29)).alloc (.cells #[.int .i64 yn, .string ys, .int .i64 y1, .int .i64 y2, .int .i64 y3] 29)) = W2 at *
  have HE := Lib.hid hW2
  clear hW2
  have D1 := Lib.hid (fun w (hb : Below (W.heap.size + 2) W2 w) => (D1.out w).mono fun e w' h => (⟨h.1, hb.trans (h.2.mono (Nat.le_trans (Nat.le_of_eq HSZ.out.symm) hb.size))⟩ : _ ∧ Below (W.heap.size + 2) W2 w'))
  have D2 := Lib.hid (fun w (hb : Below (W.heap.size + 2) W2 w) => (D2.out w).mono fun e w' h => (⟨h.1, hb.trans (h.2.mono (Nat.le_trans (Nat.le_of_eq HSZ.out.symm) hb.size))⟩ : _ ∧ Below (W.heap.size + 2) W2 w'))
  go_cut [5] (fun s wx => Hid (∃ c : Int, s = .int .i64 c ∧ (c < 0 ↔ dx < dy)) ∧ Hid (Below (W.heap.size + 2) W2 wx))
  case first =>
    go_region_held3 (fun W' => W'.cell? ⟨W.heap.size, 2, none⟩ = some (.int .i64 x1) ∧ W'.cell? ⟨W.heap.size, 3, none⟩ = some (.int .i64 x2) ∧ W'.cell? ⟨W.heap.size, 4, none⟩ = some (.int .i64 x3) ∧ W'.cell? ⟨W.heap.size + 1, 2, none⟩ = some (.int .i64 y1) ∧ W'.cell? ⟨W.heap.size + 1, 3, none⟩ = some (.int .i64 y2) ∧ W'.cell? ⟨W.heap.size + 1, 4, none⟩ = some (.int .i64 y3) ∧ W'.cell? ⟨q, 0, none⟩ = some (.int .i64 r) ∧ W'.cell? ⟨q, 1, none⟩ = some (.int .i64 g) ∧ W'.cell? ⟨q, 2, none⟩ = some (.int .i64 b))
      (exact KP.out _ (by repeat' first | (with_reducible assumption) | (with_reducible exact Below.refl _ _) | (with_reducible exact KD.out) | (with_reducible refine Below.drew ?_)))
      (first
        | ((with_reducible refine (D1.out _ (by first | (with_reducible assumption) | (with_reducible exact KD.out) | (with_reducible exact KR.out))).mono ?_); rintro e wz ⟨rfl, hwz⟩)
        | ((with_reducible refine (D2.out _ (by first | (with_reducible assumption) | (with_reducible exact KD.out) | (with_reducible exact KR.out))).mono ?_); rintro e wz ⟨rfl, hwz⟩)
        | ((with_reducible refine (cmpInt_any _ _ _).mono ?_); rintro e wz ⟨c, rfl, hcn, rfl⟩)
        | fail)
    all_goals go_wp2_with fail
    all_goals go_meet
    all_goals exact ⟨Lib.hid ⟨c, rfl, hcn⟩, Lib.hid (by assumption)⟩
  case rest =>
  obtain ⟨HS, HBL⟩ := hcut
  obtain ⟨c, rfl, hc⟩ := HS.out
  have HC := Lib.hid hc
  clear hc HS
  go_wp2_with fail
  go_ret
  exact ⟨c, rfl, by rw [HK1.out, HK2.out]; exact HC.out, KB.out _ HBL.out⟩
theorem near_cmp (q gb : Nat) (r g b : Int) (W0 : World) (c0 : W0.cell? ⟨q, 0, none⟩ = some (.int .i64 r)) (c1 : W0.cell? ⟨q, 1, none⟩ = some (.int .i64 g)) (c2 : W0.cell? ⟨q, 2, none⟩ = some (.int .i64 b)) (hq : q < W0.heap.size) (hne : q ≠ gb) :
    CmpC 18 (.pointer (some ⟨q, 0, none⟩)) (nearKey r g b) W0 gb :=
  ⟨nearFn_call, fun x y W hg => by
    have hk : ∀ i, W.cell? ⟨q, i, none⟩ = W0.cell? ⟨q, i, none⟩ := fun i => by
      have := hg.block q hq (by intro e; injection e with e; exact hne e)
      simp only [World.cell?, this]
    exact near_any x y q r g b W ((hk 0).trans c0) ((hk 1).trans c1) ((hk 2).trans c2) (Nat.lt_of_lt_of_le hq hg.size)⟩
end Go.Proofs.Ytpmiinamaofnnaa
