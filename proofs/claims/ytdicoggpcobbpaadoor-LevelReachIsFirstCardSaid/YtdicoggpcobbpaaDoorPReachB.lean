/- level.Reach. (printed by wip/gen/gen_preach.py) -/
import Derived.Test.YtdicoggpcobbpaaDoorPReach
namespace Go.Proofs.YtdicoggpcobbpaaDoor
open Go.RowKit
set_option linter.unusedVariables false
set_option linter.unusedSimpArgs false

theorem row1c {k : IntKind} {W : World} {b : Nat} {x : Int} (h1 : W.cell? ⟨b, 0, none⟩ = some (.int k x)) : RowAt k W b 0 [x] := by
  intro i h
  match i, h with
  | 0, _ => simpa using h1
theorem levels1c_yes (b : Nat) (x : Int) (W : World) (h1 : W.cell? ⟨b, 0, none⟩ = some (.int .i64 x)) (hx : LvOk x) :
    Calls Tryd.prog 66 #[.slice (some ⟨b, 0, none⟩) 1 1] W fun e w' => e = .returned (.int .i64 0) ∧ W = w' := by
  refine levels_yes b 0 1 [x] W (by simp) (row1c h1) ?_
  intro i h
  match i, h with
  | 0, _ => exact hx
theorem levels1c_no (b : Nat) (x : Int) (W : World) (h1 : W.cell? ⟨b, 0, none⟩ = some (.int .i64 x)) (hx : ¬ LvOk x) :
    Calls Tryd.prog 66 #[.slice (some ⟨b, 0, none⟩) 1 1] W fun e w' => e = .returned (.int .i64 1) ∧ W = w' := by
  refine levels_no b 0 1 [x] W (by simp) (row1c h1) 0 (by simp) (fun i _ h => absurd h (by omega)) ?_
  show x < 0 ∨ 65535 < x
  unfold LvOk at hx
  omega

set_option maxHeartbeats 8000000 in
set_option maxRecDepth 100000 in
theorem Reach_any (v : Value) (f : Fd) (k : Int) (w : World) (hv : FdV w v f) :
    Calls Tryd.prog 32 #[v, .int .i64 k] w fun e w' => e = .returned (.tuple #[.int .i64 (rchT f k), .bool (rchB f k), .int .i64 (rchE f k)]) ∧ Below w.heap.size w w' := by
  have CF := Lib.hid (fun W (hW : Below w.heap.size w W) => checkFade_any v f W (fdV_below hv hW))
  have CR := Lib.hid (checkF_right f)
  have EE : Hid (rchE f k = firstE (checkF f) (if LvOk k then 0 else 1)) := rfl
  have EB : Hid (rchB f k = if rchE f k = 0 then reachB f f.to k else false) := rfl
  have ET : Hid (rchT f k = if rchB f k = true then bsV (fun t => reachB f (atV f t) k) f.start (f.start + f.delay + f.time) else 0) := rfl
  have HAE := Lib.hid (at_end f)
  obtain ⟨p, rfl, hp⟩ := hv
  have HP := Lib.hid (fun W (hW : Below w.heap.size w W) => ptsV_below hp hW)
  clear hp
  have KC := Lib.hid (show ∀ W, Below (w.heap.size + 1 + 1) ((w.alloc (.cells #[.int .i64 f.fr, .int .i64 f.to, .int .i64 f.start, .int .i64 f.delay, .int .i64 f.time, .int .i64 f.curve.kind, p] 40)).alloc (.cells #[.int .i64 k] 3)) W → (W.cell? ⟨w.heap.size, 0, none⟩ = some (.int .i64 f.fr) ∧ W.cell? ⟨w.heap.size, 1, none⟩ = some (.int .i64 f.to) ∧ W.cell? ⟨w.heap.size, 2, none⟩ = some (.int .i64 f.start) ∧ W.cell? ⟨w.heap.size, 3, none⟩ = some (.int .i64 f.delay) ∧ W.cell? ⟨w.heap.size, 4, none⟩ = some (.int .i64 f.time) ∧ W.cell? ⟨w.heap.size, 5, none⟩ = some (.int .i64 f.curve.kind) ∧ W.cell? ⟨w.heap.size, 6, none⟩ = some (p) ∧ W.cell? ⟨w.heap.size + 1, 0, none⟩ = some (.int .i64 k)) from fun W hW => by
    have hW' : Below (w.alloc (.cells #[.int .i64 f.fr, .int .i64 f.to, .int .i64 f.start, .int .i64 f.delay, .int .i64 f.time, .int .i64 f.curve.kind, p] 40)).heap.size (w.alloc (.cells #[.int .i64 f.fr, .int .i64 f.to, .int .i64 f.start, .int .i64 f.delay, .int .i64 f.time, .int .i64 f.curve.kind, p] 40)) W := (Below.alloc (Below.refl _ _) (Nat.le_refl _) _).trans (hW.mono (by simp))
    have c : W.cell? ⟨(w.alloc (.cells #[.int .i64 f.fr, .int .i64 f.to, .int .i64 f.start, .int .i64 f.delay, .int .i64 f.time, .int .i64 f.curve.kind, p] 40)).heap.size, 0, none⟩ = some (.int .i64 k) := boxAt (hW.mono (by simp)) 0 rfl
    exact ⟨boxAt hW' 0 rfl, boxAt hW' 1 rfl, boxAt hW' 2 rfl, boxAt hW' 3 rfl, boxAt hW' 4 rfl, boxAt hW' 5 rfl, boxAt hW' 6 rfl, by simpa using c⟩)
  have KZ := Lib.hid (show ∀ W, Below (w.heap.size + 1 + 1) ((w.alloc (.cells #[.int .i64 f.fr, .int .i64 f.to, .int .i64 f.start, .int .i64 f.delay, .int .i64 f.time, .int .i64 f.curve.kind, p] 40)).alloc (.cells #[.int .i64 k] 3)) W → (w.heap.size + 1 + 1) ≤ W.heap.size from fun W hW => by
    have := hW.size
    simpa using this)
  have KB := Lib.hid (show ∀ W, Below (w.heap.size + 1 + 1) ((w.alloc (.cells #[.int .i64 f.fr, .int .i64 f.to, .int .i64 f.start, .int .i64 f.delay, .int .i64 f.time, .int .i64 f.curve.kind, p] 40)).alloc (.cells #[.int .i64 k] 3)) W → Below w.heap.size w W from fun W hW => below2.trans (hW.mono (by omega)))
  have KT := Lib.hid (show ∀ W W1, Below (w.heap.size + 1 + 1) ((w.alloc (.cells #[.int .i64 f.fr, .int .i64 f.to, .int .i64 f.start, .int .i64 f.delay, .int .i64 f.time, .int .i64 f.curve.kind, p] 40)).alloc (.cells #[.int .i64 k] 3)) W → Below W.heap.size W W1 → Below (w.heap.size + 1 + 1) ((w.alloc (.cells #[.int .i64 f.fr, .int .i64 f.to, .int .i64 f.start, .int .i64 f.delay, .int .i64 f.time, .int .i64 f.curve.kind, p] 40)).alloc (.cells #[.int .i64 k] 3)) W1 from fun W W1 h1 h2 => h1.trans (h2.mono (KZ.out W h1)))
  have KA := Lib.hid (show ∀ W o, Below (w.heap.size + 1 + 1) ((w.alloc (.cells #[.int .i64 f.fr, .int .i64 f.to, .int .i64 f.start, .int .i64 f.delay, .int .i64 f.time, .int .i64 f.curve.kind, p] 40)).alloc (.cells #[.int .i64 k] 3)) W → Below (w.heap.size + 1 + 1) ((w.alloc (.cells #[.int .i64 f.fr, .int .i64 f.to, .int .i64 f.start, .int .i64 f.delay, .int .i64 f.time, .int .i64 f.curve.kind, p] 40)).alloc (.cells #[.int .i64 k] 3)) (W.alloc o) from fun W o h1 => h1.alloc (KZ.out W h1) o)
  have KD := Lib.hid (show ∀ o, Below (w.heap.size + 1 + 1) ((w.alloc (.cells #[.int .i64 f.fr, .int .i64 f.to, .int .i64 f.start, .int .i64 f.delay, .int .i64 f.time, .int .i64 f.curve.kind, p] 40)).alloc (.cells #[.int .i64 k] 3)) (World.drew (((w.alloc (.cells #[.int .i64 f.fr, .int .i64 f.to, .int .i64 f.start, .int .i64 f.delay, .int .i64 f.time, .int .i64 f.curve.kind, p] 40)).alloc (.cells #[.int .i64 k] 3)).alloc o)) from fun o => ((Below.refl _ _).alloc (by simp) o).drew)
  have HH := Lib.hid (fun (hf : RightF f) (t : Int) (ht : IsTm t) W (hW : Below (w.heap.size + 1 + 1) ((w.alloc (.cells #[.int .i64 f.fr, .int .i64 f.to, .int .i64 f.start, .int .i64 f.delay, .int .i64 f.time, .int .i64 f.curve.kind, p] 40)).alloc (.cells #[.int .i64 k] 3)) W) => by
    obtain ⟨c0, c1, c2, c3, c4, c5, c6, ck⟩ := KC.out W hW
    have hz := KZ.out W hW
    exact holds_any f p w.heap.size (w.heap.size + 1) k t W c0 c1 c2 c3 c4 c5 c6 ck (by omega) (by omega) (HP.out W (KB.out W hW)) hf ht)
  clear HP
  generalize hc : checkF f = c at *
  generalize rchE f k = ev at *
  generalize rchB f k = bv at *
  generalize rchT f k = tv at *
  have hmf : ∀ (fn : Fn) (first cap : Array Value) (w : World), (Instr.makeFunc fn first cap).run Tryd.prog w = .ok (.func fn first cap) w := fun _ _ _ _ => rfl
  by_cases h0 : c = 0
  · subst h0
    have HF := Lib.hid (CR.out.1 rfl)
    by_cases hk : LvOk k
    · have he : ev = 0 := by rw [EE.out, firstE, if_pos rfl, if_pos hk]
      have hbv : bv = reachB f f.to k := by rw [EB.out, if_pos he]
      have HK := Lib.hid hk
      obtain ⟨_, _, b1, b2, b3, b4, _⟩ := HF.out
      unfold IsTm at b1 b2 b3 b4
      have H9 := Lib.hid (fun W hW => HH.out HF.out (f.start + f.delay + f.time) ⟨by omega, by omega⟩ W hW)
      rw [HAE.out] at H9
      have HS := Lib.hid (fun W (hW : Below (w.heap.size + 1 + 1) ((w.alloc (.cells #[.int .i64 f.fr, .int .i64 f.to, .int .i64 f.start, .int .i64 f.delay, .int .i64 f.time, .int .i64 f.curve.kind, p] 40)).alloc (.cells #[.int .i64 k] 3)) W) => lfirst_any 67 (.pointer (some ⟨w.heap.size, 0, none⟩)) (.pointer (some ⟨w.heap.size + 1, 0, none⟩)) (fun t => reachB f (atV f t) k) f.start (f.start + f.delay + f.time) W (fun _ _ => rfl) (fun t W' t0 t9 hW' => HH.out HF.out t ⟨t0, t9⟩ W' (KT.out _ _ hW hW')) (by omega) (by omega) (by omega))
      generalize bsV (fun t => reachB f (atV f t) k) f.start (f.start + f.delay + f.time) = sv at *
      clear HH
      cases hrb : reachB f f.to k
      · rw [hrb] at H9 hbv
        have ht : tv = 0 := by rw [ET.out, hbv]; rfl
        have HE := Lib.hid he
        have HB := Lib.hid hbv
        have HT := Lib.hid ht
        clear he hbv ht hk EE EB ET hc hrb
        go_enter Tryd.func32, Tryd.ntmps32
        go_upto_region 1 with fail
        have hw0 : Below (w.heap.size + 1 + 1) ((w.alloc (.cells #[.int .i64 f.fr, .int .i64 f.to, .int .i64 f.start, .int .i64 f.delay, .int .i64 f.time, .int .i64 f.curve.kind, p] 40)).alloc (.cells #[.int .i64 k] 3)) (World.drew ((w.alloc (.cells #[.int .i64 f.fr, .int .i64 f.to, .int .i64 f.start, .int .i64 f.delay, .int .i64 f.time, .int .i64 f.curve.kind, p] 40)).alloc (.cells #[.int .i64 k] 3))) := (Below.refl _ _).drew
        go_region_held3 (fun W => W.cell? ⟨w.heap.size, 0, none⟩ = some (.int .i64 f.fr) ∧ W.cell? ⟨w.heap.size, 1, none⟩ = some (.int .i64 f.to) ∧ W.cell? ⟨w.heap.size, 2, none⟩ = some (.int .i64 f.start) ∧ W.cell? ⟨w.heap.size, 3, none⟩ = some (.int .i64 f.delay) ∧ W.cell? ⟨w.heap.size, 4, none⟩ = some (.int .i64 f.time) ∧ W.cell? ⟨w.heap.size, 5, none⟩ = some (.int .i64 f.curve.kind) ∧ W.cell? ⟨w.heap.size, 6, none⟩ = some (p) ∧ W.cell? ⟨w.heap.size + 1, 0, none⟩ = some (.int .i64 k))
          (exact KC.out _ (by first | assumption | exact KD.out _ | exact KA.out _ _ (KD.out _) | exact KA.out _ _ (by assumption) | exact KA.out _ _ (KA.out _ _ (by assumption))))
          (first
            | (go_at_call 63; ((with_reducible refine (CF.out _ (KB.out _ (by first | assumption | exact KD.out _ | exact KA.out _ _ (KD.out _) | exact KA.out _ _ (by assumption) | exact KA.out _ _ (KA.out _ _ (by assumption))))).mono ?_); rintro e WC ⟨rfl, hb⟩; have hwC := KT.out _ _ (by first | assumption | exact KD.out _ | exact KA.out _ _ (KD.out _) | exact KA.out _ _ (by assumption) | exact KA.out _ _ (KA.out _ _ (by assumption))) hb; (first | have hs2 : WC.cell? ⟨w.heap.size + 1 + 1, 0, none⟩ = some (.int .i64 k) := (hb.cell (by first | (simp; done) | fail)).trans (by first | (simp [go_sem]; done) | fail) | skip); clear hb))
            | (go_at_call 66; ((with_reducible refine (levels1c_yes _ k _ (by first | exact hs2 | (simp [go_sem]; done)) HK.out).mono ?_); rintro e WL ⟨rfl, rfl⟩))
            | (go_at_call 62; (refine (first2c _ 0 0 _ (by simp) (by simp)).mono ?_; rintro e WF ⟨rfl, rfl⟩))
            | fail)
        all_goals
          go_wp2_with fail
          refine (H9.out _ (by first | assumption | exact KD.out _ | exact KA.out _ _ (KD.out _) | exact KA.out _ _ (by assumption) | exact KA.out _ _ (KA.out _ _ (by assumption)))).mono ?_
          rintro e w3 ⟨rfl, hb3⟩
          have hw3 := KT.out _ _ (by first | assumption | exact KD.out _ | exact KA.out _ _ (KD.out _) | exact KA.out _ _ (by assumption) | exact KA.out _ _ (KA.out _ _ (by assumption))) hb3
          obtain ⟨c0, c1, c2, c3, c4, c5, c6, ck⟩ := KC.out _ hw3
          clear hb3
          go_wp2
          exact bodyPost_ret (v := .tuple #[.int .i64 0, .bool false, .int .i64 0]) (by simp [results, Tryd.results32, go_sem]) rfl ⟨by rw [HE.out, HB.out, HT.out], KB.out _ hw3⟩
      · rw [hrb] at H9 hbv
        have ht : tv = sv := by rw [ET.out, hbv]; rfl
        have HE := Lib.hid he
        have HB := Lib.hid hbv
        have HT := Lib.hid ht
        clear he hbv ht hk EE EB ET hc hrb
        go_enter Tryd.func32, Tryd.ntmps32
        go_upto_region 1 with fail
        have hw0 : Below (w.heap.size + 1 + 1) ((w.alloc (.cells #[.int .i64 f.fr, .int .i64 f.to, .int .i64 f.start, .int .i64 f.delay, .int .i64 f.time, .int .i64 f.curve.kind, p] 40)).alloc (.cells #[.int .i64 k] 3)) (World.drew ((w.alloc (.cells #[.int .i64 f.fr, .int .i64 f.to, .int .i64 f.start, .int .i64 f.delay, .int .i64 f.time, .int .i64 f.curve.kind, p] 40)).alloc (.cells #[.int .i64 k] 3))) := (Below.refl _ _).drew
        go_region_held3 (fun W => W.cell? ⟨w.heap.size, 0, none⟩ = some (.int .i64 f.fr) ∧ W.cell? ⟨w.heap.size, 1, none⟩ = some (.int .i64 f.to) ∧ W.cell? ⟨w.heap.size, 2, none⟩ = some (.int .i64 f.start) ∧ W.cell? ⟨w.heap.size, 3, none⟩ = some (.int .i64 f.delay) ∧ W.cell? ⟨w.heap.size, 4, none⟩ = some (.int .i64 f.time) ∧ W.cell? ⟨w.heap.size, 5, none⟩ = some (.int .i64 f.curve.kind) ∧ W.cell? ⟨w.heap.size, 6, none⟩ = some (p) ∧ W.cell? ⟨w.heap.size + 1, 0, none⟩ = some (.int .i64 k))
          (exact KC.out _ (by first | assumption | exact KD.out _ | exact KA.out _ _ (KD.out _) | exact KA.out _ _ (by assumption) | exact KA.out _ _ (KA.out _ _ (by assumption))))
          (first
            | (go_at_call 63; ((with_reducible refine (CF.out _ (KB.out _ (by first | assumption | exact KD.out _ | exact KA.out _ _ (KD.out _) | exact KA.out _ _ (by assumption) | exact KA.out _ _ (KA.out _ _ (by assumption))))).mono ?_); rintro e WC ⟨rfl, hb⟩; have hwC := KT.out _ _ (by first | assumption | exact KD.out _ | exact KA.out _ _ (KD.out _) | exact KA.out _ _ (by assumption) | exact KA.out _ _ (KA.out _ _ (by assumption))) hb; (first | have hs2 : WC.cell? ⟨w.heap.size + 1 + 1, 0, none⟩ = some (.int .i64 k) := (hb.cell (by first | (simp; done) | fail)).trans (by first | (simp [go_sem]; done) | fail) | skip); clear hb))
            | (go_at_call 66; ((with_reducible refine (levels1c_yes _ k _ (by first | exact hs2 | (simp [go_sem]; done)) HK.out).mono ?_); rintro e WL ⟨rfl, rfl⟩))
            | (go_at_call 62; (refine (first2c _ 0 0 _ (by simp) (by simp)).mono ?_; rintro e WF ⟨rfl, rfl⟩))
            | fail)
        all_goals
          go_wp2_with fail
          refine (H9.out _ (by first | assumption | exact KD.out _ | exact KA.out _ _ (KD.out _) | exact KA.out _ _ (by assumption) | exact KA.out _ _ (KA.out _ _ (by assumption)))).mono ?_
          rintro e w3 ⟨rfl, hb3⟩
          have hw3 := KT.out _ _ (by first | assumption | exact KD.out _ | exact KA.out _ _ (KD.out _) | exact KA.out _ _ (by assumption) | exact KA.out _ _ (KA.out _ _ (by assumption))) hb3
          obtain ⟨c0, c1, c2, c3, c4, c5, c6, ck⟩ := KC.out _ hw3
          clear hb3
          go_wp2_with fail
          refine (HS.out _ hw3).mono ?_
          rintro e w4 ⟨rfl, hb4⟩
          have HW4 := Lib.hid (bt (KB.out _ hw3) hb4)
          clear hb4
          go_wp2
          exact bodyPost_ret (v := .tuple #[.int .i64 sv, .bool true, .int .i64 0]) (by simp [results, Tryd.results32, go_sem]) rfl ⟨by rw [HE.out, HB.out, HT.out], HW4.out⟩
    · have he : ev = 1 := by rw [EE.out, firstE, if_pos rfl, if_neg hk]
      have hbv : bv = false := by rw [EB.out, if_neg (by omega)]
      have ht : tv = 0 := by rw [ET.out, hbv]; rfl
      have HE := Lib.hid he
      have HB := Lib.hid hbv
      have HT := Lib.hid ht
      have HK := Lib.hid hk
      clear HH he hbv ht hk EE EB ET hc
      go_enter Tryd.func32, Tryd.ntmps32
      go_upto_region 1 with fail
      have hw0 : Below (w.heap.size + 1 + 1) ((w.alloc (.cells #[.int .i64 f.fr, .int .i64 f.to, .int .i64 f.start, .int .i64 f.delay, .int .i64 f.time, .int .i64 f.curve.kind, p] 40)).alloc (.cells #[.int .i64 k] 3)) (World.drew ((w.alloc (.cells #[.int .i64 f.fr, .int .i64 f.to, .int .i64 f.start, .int .i64 f.delay, .int .i64 f.time, .int .i64 f.curve.kind, p] 40)).alloc (.cells #[.int .i64 k] 3))) := (Below.refl _ _).drew
      go_region_held3 (fun W => W.cell? ⟨w.heap.size, 0, none⟩ = some (.int .i64 f.fr) ∧ W.cell? ⟨w.heap.size, 1, none⟩ = some (.int .i64 f.to) ∧ W.cell? ⟨w.heap.size, 2, none⟩ = some (.int .i64 f.start) ∧ W.cell? ⟨w.heap.size, 3, none⟩ = some (.int .i64 f.delay) ∧ W.cell? ⟨w.heap.size, 4, none⟩ = some (.int .i64 f.time) ∧ W.cell? ⟨w.heap.size, 5, none⟩ = some (.int .i64 f.curve.kind) ∧ W.cell? ⟨w.heap.size, 6, none⟩ = some (p) ∧ W.cell? ⟨w.heap.size + 1, 0, none⟩ = some (.int .i64 k))
        (exact KC.out _ (by first | assumption | exact KD.out _ | exact KA.out _ _ (KD.out _) | exact KA.out _ _ (by assumption) | exact KA.out _ _ (KA.out _ _ (by assumption))))
        (first
          | (go_at_call 63; ((with_reducible refine (CF.out _ (KB.out _ (by first | assumption | exact KD.out _ | exact KA.out _ _ (KD.out _) | exact KA.out _ _ (by assumption) | exact KA.out _ _ (KA.out _ _ (by assumption))))).mono ?_); rintro e WC ⟨rfl, hb⟩; have hwC := KT.out _ _ (by first | assumption | exact KD.out _ | exact KA.out _ _ (KD.out _) | exact KA.out _ _ (by assumption) | exact KA.out _ _ (KA.out _ _ (by assumption))) hb; (first | have hs2 : WC.cell? ⟨w.heap.size + 1 + 1, 0, none⟩ = some (.int .i64 k) := (hb.cell (by first | (simp; done) | fail)).trans (by first | (simp [go_sem]; done) | fail) | skip); clear hb))
          | (go_at_call 66; ((with_reducible refine (levels1c_no _ k _ (by first | exact hs2 | (simp [go_sem]; done)) HK.out).mono ?_); rintro e WL ⟨rfl, rfl⟩))
          | (go_at_call 62; (refine (first2c _ 0 1 _ (by simp) (by simp)).mono ?_; rintro e WF ⟨rfl, rfl⟩))
          | fail)
      all_goals
        go_wp2
        exact bodyPost_ret (v := .tuple #[.int .i64 0, .bool false, .int .i64 1]) (by simp [results, Tryd.results32, go_sem]) rfl ⟨by rw [HE.out, HB.out, HT.out], KB.out _ (by first | assumption | exact KD.out _ | exact KA.out _ _ (KD.out _) | exact KA.out _ _ (by assumption) | exact KA.out _ _ (KA.out _ _ (by assumption)))⟩
  · have hbv' : ev = c := by rw [EE.out, firstE, if_neg h0]
    have hbv : bv = false := by rw [EB.out, if_neg (by omega)]
    have ht : tv = 0 := by rw [ET.out, hbv]; rfl
    have he := hbv'
    have hcb : (c != 0) = true := by simpa using h0
    by_cases hk : LvOk k
    · skip
      have HE := Lib.hid he
      have HB := Lib.hid hbv
      have HT := Lib.hid ht
      have HK := Lib.hid hk
      clear hbv' HH he hbv ht hk EE EB ET hc
      go_enter Tryd.func32, Tryd.ntmps32
      go_upto_region 1 with fail
      have hw0 : Below (w.heap.size + 1 + 1) ((w.alloc (.cells #[.int .i64 f.fr, .int .i64 f.to, .int .i64 f.start, .int .i64 f.delay, .int .i64 f.time, .int .i64 f.curve.kind, p] 40)).alloc (.cells #[.int .i64 k] 3)) (World.drew ((w.alloc (.cells #[.int .i64 f.fr, .int .i64 f.to, .int .i64 f.start, .int .i64 f.delay, .int .i64 f.time, .int .i64 f.curve.kind, p] 40)).alloc (.cells #[.int .i64 k] 3))) := (Below.refl _ _).drew
      go_region_held3 (fun W => W.cell? ⟨w.heap.size, 0, none⟩ = some (.int .i64 f.fr) ∧ W.cell? ⟨w.heap.size, 1, none⟩ = some (.int .i64 f.to) ∧ W.cell? ⟨w.heap.size, 2, none⟩ = some (.int .i64 f.start) ∧ W.cell? ⟨w.heap.size, 3, none⟩ = some (.int .i64 f.delay) ∧ W.cell? ⟨w.heap.size, 4, none⟩ = some (.int .i64 f.time) ∧ W.cell? ⟨w.heap.size, 5, none⟩ = some (.int .i64 f.curve.kind) ∧ W.cell? ⟨w.heap.size, 6, none⟩ = some (p) ∧ W.cell? ⟨w.heap.size + 1, 0, none⟩ = some (.int .i64 k))
        (exact KC.out _ (by first | assumption | exact KD.out _ | exact KA.out _ _ (KD.out _) | exact KA.out _ _ (by assumption) | exact KA.out _ _ (KA.out _ _ (by assumption))))
        (first
          | (go_at_call 63; ((with_reducible refine (CF.out _ (KB.out _ (by first | assumption | exact KD.out _ | exact KA.out _ _ (KD.out _) | exact KA.out _ _ (by assumption) | exact KA.out _ _ (KA.out _ _ (by assumption))))).mono ?_); rintro e WC ⟨rfl, hb⟩; have hwC := KT.out _ _ (by first | assumption | exact KD.out _ | exact KA.out _ _ (KD.out _) | exact KA.out _ _ (by assumption) | exact KA.out _ _ (KA.out _ _ (by assumption))) hb; (first | have hs2 : WC.cell? ⟨w.heap.size + 1 + 1, 0, none⟩ = some (.int .i64 k) := (hb.cell (by first | (simp; done) | fail)).trans (by first | (simp [go_sem]; done) | fail) | skip); clear hb))
          | (go_at_call 66; ((with_reducible refine (levels1c_yes _ k _ (by first | exact hs2 | (simp [go_sem]; done)) HK.out).mono ?_); rintro e WL ⟨rfl, rfl⟩))
          | (go_at_call 62; (refine (first2c _ c 0 _ (by simp) (by simp)).mono ?_; rintro e WF ⟨rfl, rfl⟩))
          | fail)
      all_goals
        go_wp2
        exact bodyPost_ret (v := .tuple #[.int .i64 0, .bool false, .int .i64 c]) (by simp [results, Tryd.results32, go_sem]) rfl ⟨by rw [HE.out, HB.out, HT.out], KB.out _ (by first | assumption | exact KD.out _ | exact KA.out _ _ (KD.out _) | exact KA.out _ _ (by assumption) | exact KA.out _ _ (KA.out _ _ (by assumption)))⟩
    · skip
      have HE := Lib.hid he
      have HB := Lib.hid hbv
      have HT := Lib.hid ht
      have HK := Lib.hid hk
      clear hbv' HH he hbv ht hk EE EB ET hc
      go_enter Tryd.func32, Tryd.ntmps32
      go_upto_region 1 with fail
      have hw0 : Below (w.heap.size + 1 + 1) ((w.alloc (.cells #[.int .i64 f.fr, .int .i64 f.to, .int .i64 f.start, .int .i64 f.delay, .int .i64 f.time, .int .i64 f.curve.kind, p] 40)).alloc (.cells #[.int .i64 k] 3)) (World.drew ((w.alloc (.cells #[.int .i64 f.fr, .int .i64 f.to, .int .i64 f.start, .int .i64 f.delay, .int .i64 f.time, .int .i64 f.curve.kind, p] 40)).alloc (.cells #[.int .i64 k] 3))) := (Below.refl _ _).drew
      go_region_held3 (fun W => W.cell? ⟨w.heap.size, 0, none⟩ = some (.int .i64 f.fr) ∧ W.cell? ⟨w.heap.size, 1, none⟩ = some (.int .i64 f.to) ∧ W.cell? ⟨w.heap.size, 2, none⟩ = some (.int .i64 f.start) ∧ W.cell? ⟨w.heap.size, 3, none⟩ = some (.int .i64 f.delay) ∧ W.cell? ⟨w.heap.size, 4, none⟩ = some (.int .i64 f.time) ∧ W.cell? ⟨w.heap.size, 5, none⟩ = some (.int .i64 f.curve.kind) ∧ W.cell? ⟨w.heap.size, 6, none⟩ = some (p) ∧ W.cell? ⟨w.heap.size + 1, 0, none⟩ = some (.int .i64 k))
        (exact KC.out _ (by first | assumption | exact KD.out _ | exact KA.out _ _ (KD.out _) | exact KA.out _ _ (by assumption) | exact KA.out _ _ (KA.out _ _ (by assumption))))
        (first
          | (go_at_call 63; ((with_reducible refine (CF.out _ (KB.out _ (by first | assumption | exact KD.out _ | exact KA.out _ _ (KD.out _) | exact KA.out _ _ (by assumption) | exact KA.out _ _ (KA.out _ _ (by assumption))))).mono ?_); rintro e WC ⟨rfl, hb⟩; have hwC := KT.out _ _ (by first | assumption | exact KD.out _ | exact KA.out _ _ (KD.out _) | exact KA.out _ _ (by assumption) | exact KA.out _ _ (KA.out _ _ (by assumption))) hb; (first | have hs2 : WC.cell? ⟨w.heap.size + 1 + 1, 0, none⟩ = some (.int .i64 k) := (hb.cell (by first | (simp; done) | fail)).trans (by first | (simp [go_sem]; done) | fail) | skip); clear hb))
          | (go_at_call 66; ((with_reducible refine (levels1c_no _ k _ (by first | exact hs2 | (simp [go_sem]; done)) HK.out).mono ?_); rintro e WL ⟨rfl, rfl⟩))
          | (go_at_call 62; (refine (first2c _ c 1 _ (by simp) (by simp)).mono ?_; rintro e WF ⟨rfl, rfl⟩))
          | fail)
      all_goals
        go_wp2
        exact bodyPost_ret (v := .tuple #[.int .i64 0, .bool false, .int .i64 c]) (by simp [results, Tryd.results32, go_sem]) rfl ⟨by rw [HE.out, HB.out, HT.out], KB.out _ (by first | assumption | exact KD.out _ | exact KA.out _ _ (KD.out _) | exact KA.out _ _ (by assumption) | exact KA.out _ _ (KA.out _ _ (by assumption)))⟩
end Go.Proofs.YtdicoggpcobbpaaDoor
