/- The reference's words and CurveText (printed by gen/gen_rctext.py). -/
import Derived.Test.YtdicoggpcobbpaaDoorCurveText
import Derived.Test.YtdicoggpcobbpaaDoorRCheck
import Derived.Deep.RegionHeld3
import Derived.Deep.RegionWith
namespace Go.Proofs.YtdicoggpcobbpaaDoor
open Go.RowKit
open Classical
set_option linter.unusedVariables false
set_option linter.unusedSimpArgs false

def kindsL : List ByteArray := [⟨#[]⟩, ⟨#[108, 105, 110, 101, 97, 114]⟩, ⟨#[115, 108, 111, 119]⟩, ⟨#[102, 97, 115, 116]⟩, ⟨#[115, 111, 102, 116]⟩, ⟨#[115, 116, 101, 112]⟩]
def kindsO : Obj := .cells #[.string ⟨#[]⟩, .string ⟨#[108, 105, 110, 101, 97, 114]⟩, .string ⟨#[115, 108, 111, 119]⟩, .string ⟨#[102, 97, 115, 116]⟩, .string ⟨#[115, 111, 102, 116]⟩, .string ⟨#[115, 116, 101, 112]⟩] 9
theorem kindB_at (k : Nat) (h1 : 1 ≤ k) (h5 : k ≤ 5) : kindsL[k]? = some (kindB k) := by
  have hk : k = 1 ∨ k = 2 ∨ k = 3 ∨ k = 4 ∨ k = 5 := by omega
  rcases hk with rfl | rfl | rfl | rfl | rfl <;> rfl
theorem kindsO_cell (w : World) (j : Nat) (h : j < 6) : (w.alloc kindsO).cell? ⟨w.heap.size, j, none⟩ = (kindsL[j]?).map Value.string := by
  unfold kindsO
  rw [World.cell?_alloc_new]
  have hk : j = 0 ∨ j = 1 ∨ j = 2 ∨ j = 3 ∨ j = 4 ∨ j = 5 := by omega
  rcases hk with rfl | rfl | rfl | rfl | rfl | rfl <;> rfl
set_option maxHeartbeats 1000000 in
theorem words_any (w : World) : Calls Tryd.prog 53 #[] w fun e w' => e = .returned (.slice (some ⟨w.heap.size, 0, none⟩) 6 6) ∧ w' = w.alloc kindsO := by
  go_enter Tryd.func53, Tryd.ntmps53
  go_wp2
  go_ret
  exact ⟨rfl, rfl⟩

theorem words_lit (w : World) : Calls Tryd.prog 53 #[] w fun e w' => e = .returned (.slice (some ⟨w.heap.size, 0, none⟩) 6 6) ∧ w' = w.alloc (.cells #[.string ⟨#[]⟩, .string ⟨#[108, 105, 110, 101, 97, 114]⟩, .string ⟨#[115, 108, 111, 119]⟩, .string ⟨#[102, 97, 115, 116]⟩, .string ⟨#[115, 111, 102, 116]⟩, .string ⟨#[115, 116, 101, 112]⟩] 9) := words_any w

set_option maxHeartbeats 2000000 in
theorem rcurveText_bad (v : Value) (c : Cv) (w : World) (hv : CvV w v c) (h : checkC c ≠ 0) :
    Calls Tryd.prog 20 #[v] w fun e w' => e = .returned (.tuple #[.string ⟨#[]⟩, .int .i64 (checkC c)]) ∧ Below w.heap.size w w' := by
  obtain ⟨pv, rfl, hp⟩ := hv
  have CF := Lib.hid (fun W (hW : Below w.heap.size w W) => rcheckCurve_any (.agg #[.int .i64 c.kind, pv]) c W ⟨_, rfl, ptsV_below hp hW⟩)
  generalize checkC c = k at *
  have hkb : (k != 0) = true := by simpa using h
  obtain ⟨K, ps⟩ := c
  clear h hp
  go_enter Tryd.func20, Tryd.ntmps20
  go_wp2_with fail
  refine (CF.out _ ((Below.refl _ _).alloc (Nat.le_refl _) _)).mono ?_
  rintro e w1 ⟨rfl, hb1⟩
  have HB := Lib.hid (bt ((Below.refl _ _).alloc (Nat.le_refl _) _) hb1)
  clear hb1
  go_wp2
  go_ret2
  exact ⟨rfl, HB.out⟩

set_option maxHeartbeats 4000000 in
theorem rcurveText_0 (K : Nat) (ao : Option Addr) (cap : Nat) (w : World) (hK : K ≤ 5) (hck : checkC ⟨K, []⟩ = 0) :
    Calls Tryd.prog 20 #[.agg #[.int .i64 K, .slice ao 0 cap]] w fun e w' => e = .returned (.tuple #[.string (kindB K), .int .i64 0]) ∧ Below w.heap.size w w' := by
  have hr := right_of hck
  have hK1 : 1 ≤ K := by have := hr.1; have e : (1 : Int) ≤ (K : Int) := this; omega
  have CF := Lib.hid (fun W => rcheckCurve_any (.agg #[.int .i64 K, .slice ao 0 cap]) ⟨K, []⟩ W ⟨_, rfl, .inl ⟨rfl, _, _, rfl⟩⟩)
  rw [hck] at CF
  clear hr hck
  have hk : K = 1 ∨ K = 2 ∨ K = 3 ∨ K = 4 ∨ K = 5 := by omega
  rcases hk with rfl | rfl | rfl | rfl | rfl
  · clear hK hK1
    have CF := Lib.hid (show ∀ W, Calls Tryd.prog 22 #[.agg #[.int .i64 1, .slice ao 0 cap]] W fun e w' => e = .returned (.int .i64 0) ∧ Below W.heap.size W w' from CF.out)
    show Calls Tryd.prog 20 #[.agg #[.int .i64 1, .slice ao 0 cap]] w fun e w' => e = .returned (.tuple #[.string (kindB 1), .int .i64 0]) ∧ Below w.heap.size w w'
    go_enter Tryd.func20, Tryd.ntmps20
    go_wp2_with fail
    refine (CF.out _).mono ?_
    rintro e w1 ⟨rfl, hb1⟩
    have HB := Lib.hid (bt ((Below.refl _ _).alloc (Nat.le_refl _) _) hb1)
    have hsz : w.heap.size < w1.heap.size := by have := hb1.size; simp at this; omega
    have e0 : w1.cell? ⟨w.heap.size, 0, none⟩ = some (.int .i64 1) := (hb1.cell (p := ⟨w.heap.size, 0, none⟩) (by simp)).trans (by simp [go_sem])
    clear hb1
    go_wp2_with fail
    go_region_with ((go_at_call 53; refine (words_lit _).mono ?_; rintro e W1 ⟨rfl, rfl⟩))
    all_goals
      go_wp2
      go_ret2
      exact ⟨rfl, by first | exact HB.out.alloc (by have := HB.out.size; omega) _ | exact (HB.out.drew).alloc (by have := HB.out.size; simp; omega) _ | exact (HB.out.alloc (by have := HB.out.size; omega) _).drew⟩
  · clear hK hK1
    have CF := Lib.hid (show ∀ W, Calls Tryd.prog 22 #[.agg #[.int .i64 2, .slice ao 0 cap]] W fun e w' => e = .returned (.int .i64 0) ∧ Below W.heap.size W w' from CF.out)
    show Calls Tryd.prog 20 #[.agg #[.int .i64 2, .slice ao 0 cap]] w fun e w' => e = .returned (.tuple #[.string (kindB 2), .int .i64 0]) ∧ Below w.heap.size w w'
    go_enter Tryd.func20, Tryd.ntmps20
    go_wp2_with fail
    refine (CF.out _).mono ?_
    rintro e w1 ⟨rfl, hb1⟩
    have HB := Lib.hid (bt ((Below.refl _ _).alloc (Nat.le_refl _) _) hb1)
    have hsz : w.heap.size < w1.heap.size := by have := hb1.size; simp at this; omega
    have e0 : w1.cell? ⟨w.heap.size, 0, none⟩ = some (.int .i64 2) := (hb1.cell (p := ⟨w.heap.size, 0, none⟩) (by simp)).trans (by simp [go_sem])
    clear hb1
    go_wp2_with fail
    go_region_with ((go_at_call 53; refine (words_lit _).mono ?_; rintro e W1 ⟨rfl, rfl⟩))
    all_goals
      go_wp2
      go_ret2
      exact ⟨rfl, by first | exact HB.out.alloc (by have := HB.out.size; omega) _ | exact (HB.out.drew).alloc (by have := HB.out.size; simp; omega) _ | exact (HB.out.alloc (by have := HB.out.size; omega) _).drew⟩
  · clear hK hK1
    have CF := Lib.hid (show ∀ W, Calls Tryd.prog 22 #[.agg #[.int .i64 3, .slice ao 0 cap]] W fun e w' => e = .returned (.int .i64 0) ∧ Below W.heap.size W w' from CF.out)
    show Calls Tryd.prog 20 #[.agg #[.int .i64 3, .slice ao 0 cap]] w fun e w' => e = .returned (.tuple #[.string (kindB 3), .int .i64 0]) ∧ Below w.heap.size w w'
    go_enter Tryd.func20, Tryd.ntmps20
    go_wp2_with fail
    refine (CF.out _).mono ?_
    rintro e w1 ⟨rfl, hb1⟩
    have HB := Lib.hid (bt ((Below.refl _ _).alloc (Nat.le_refl _) _) hb1)
    have hsz : w.heap.size < w1.heap.size := by have := hb1.size; simp at this; omega
    have e0 : w1.cell? ⟨w.heap.size, 0, none⟩ = some (.int .i64 3) := (hb1.cell (p := ⟨w.heap.size, 0, none⟩) (by simp)).trans (by simp [go_sem])
    clear hb1
    go_wp2_with fail
    go_region_with ((go_at_call 53; refine (words_lit _).mono ?_; rintro e W1 ⟨rfl, rfl⟩))
    all_goals
      go_wp2
      go_ret2
      exact ⟨rfl, by first | exact HB.out.alloc (by have := HB.out.size; omega) _ | exact (HB.out.drew).alloc (by have := HB.out.size; simp; omega) _ | exact (HB.out.alloc (by have := HB.out.size; omega) _).drew⟩
  · clear hK hK1
    have CF := Lib.hid (show ∀ W, Calls Tryd.prog 22 #[.agg #[.int .i64 4, .slice ao 0 cap]] W fun e w' => e = .returned (.int .i64 0) ∧ Below W.heap.size W w' from CF.out)
    show Calls Tryd.prog 20 #[.agg #[.int .i64 4, .slice ao 0 cap]] w fun e w' => e = .returned (.tuple #[.string (kindB 4), .int .i64 0]) ∧ Below w.heap.size w w'
    go_enter Tryd.func20, Tryd.ntmps20
    go_wp2_with fail
    refine (CF.out _).mono ?_
    rintro e w1 ⟨rfl, hb1⟩
    have HB := Lib.hid (bt ((Below.refl _ _).alloc (Nat.le_refl _) _) hb1)
    have hsz : w.heap.size < w1.heap.size := by have := hb1.size; simp at this; omega
    have e0 : w1.cell? ⟨w.heap.size, 0, none⟩ = some (.int .i64 4) := (hb1.cell (p := ⟨w.heap.size, 0, none⟩) (by simp)).trans (by simp [go_sem])
    clear hb1
    go_wp2_with fail
    go_region_with ((go_at_call 53; refine (words_lit _).mono ?_; rintro e W1 ⟨rfl, rfl⟩))
    all_goals
      go_wp2
      go_ret2
      exact ⟨rfl, by first | exact HB.out.alloc (by have := HB.out.size; omega) _ | exact (HB.out.drew).alloc (by have := HB.out.size; simp; omega) _ | exact (HB.out.alloc (by have := HB.out.size; omega) _).drew⟩
  · clear hK hK1
    have CF := Lib.hid (show ∀ W, Calls Tryd.prog 22 #[.agg #[.int .i64 5, .slice ao 0 cap]] W fun e w' => e = .returned (.int .i64 0) ∧ Below W.heap.size W w' from CF.out)
    show Calls Tryd.prog 20 #[.agg #[.int .i64 5, .slice ao 0 cap]] w fun e w' => e = .returned (.tuple #[.string (kindB 5), .int .i64 0]) ∧ Below w.heap.size w w'
    go_enter Tryd.func20, Tryd.ntmps20
    go_wp2_with fail
    refine (CF.out _).mono ?_
    rintro e w1 ⟨rfl, hb1⟩
    have HB := Lib.hid (bt ((Below.refl _ _).alloc (Nat.le_refl _) _) hb1)
    have hsz : w.heap.size < w1.heap.size := by have := hb1.size; simp at this; omega
    have e0 : w1.cell? ⟨w.heap.size, 0, none⟩ = some (.int .i64 5) := (hb1.cell (p := ⟨w.heap.size, 0, none⟩) (by simp)).trans (by simp [go_sem])
    clear hb1
    go_wp2_with fail
    go_region_with ((go_at_call 53; refine (words_lit _).mono ?_; rintro e W1 ⟨rfl, rfl⟩))
    all_goals
      go_wp2
      go_ret2
      exact ⟨rfl, by first | exact HB.out.alloc (by have := HB.out.size; omega) _ | exact (HB.out.drew).alloc (by have := HB.out.size; simp; omega) _ | exact (HB.out.alloc (by have := HB.out.size; omega) _).drew⟩

set_option maxHeartbeats 8000000 in
theorem rcurveText_n (b off cap : Nat) (ps : List (Int × Int)) (w : World) (hT : TextW w) (hb : b < w.heap.size) (hp : PtsAt w b off ps) (h2 : 0 < ps.length) (hck : checkC ⟨6, ps⟩ = 0) :
    Calls Tryd.prog 20 #[.agg #[.int .i64 6, .slice (some ⟨b, off, none⟩) ps.length cap]] w fun e w' => e = .returned (.tuple #[.string (strTo (kindB 6) ps), .int .i64 0]) ∧ Below w.heap.size w w' := by
  have hr := right_of hck
  have h20 : ps.length ≤ 20 := hr.2.2.2.1
  have HM := Lib.hid hr.2.2.2.2
  have CF := Lib.hid (fun W (hW : Below w.heap.size w W) => rcheckCurve_any (.agg #[.int .i64 6, .slice (some ⟨b, off, none⟩) ps.length cap]) ⟨6, ps⟩ W ⟨_, rfl, ptsV_below (.inr ⟨by intro (h : ps = []); rw [h] at h2; simp at h2, show ps.length ≤ _ by omega, b, off, cap, rfl, hb, hp⟩) hW⟩)
  rw [hck] at CF
  have hx6 := kindB_le 6
  have HLE := Lib.hid (fun k hk => strTo_le (kindB 6) ps HM.out k hk)
  have HTK := Lib.hid (fun k hk => strTo_take (kindB 6) ps k hk)
  have HP := Lib.hid hp
  have HT := Lib.hid hT
  have HWH := Lib.hid (show strTo (kindB 6) (ps.take ps.length) = strTo (kindB 6) ps by rw [List.take_length])
  have HST := Lib.hid (show strTo (kindB 6) (ps.take 0) = kindB 6 from rfl)
  obtain ⟨x, hxx⟩ : ∃ x, kindB 6 = x := ⟨_, rfl⟩
  rw [hxx] at hx6 HLE HTK HWH HST ⊢
  have HXX := Lib.hid (show x = ⟨#[116, 97, 98, 108, 101]⟩ from hxx.symm)
  clear hxx
  clear hr hck hp hT
  go_enter Tryd.func20, Tryd.ntmps20
  go_wp2_with fail
  refine (CF.out _ ((Below.refl _ _).alloc (Nat.le_refl _) _)).mono ?_
  rintro e w1 ⟨rfl, hb1⟩
  have hbw : Below w.heap.size w w1 := bt ((Below.refl _ _).alloc (Nat.le_refl _) _) hb1
  have hs1 := hb1.size
  have hsz : w.heap.size < w1.heap.size := by simp at hs1; omega
  have e0 : w1.cell? ⟨w.heap.size, 0, none⟩ = some (.int .i64 6) := (hb1.cell (by simp)).trans (by simp [go_sem])
  have e1 : w1.cell? ⟨w.heap.size, 1, none⟩ = some (.slice (some ⟨b, off, none⟩) ps.length cap) := (hb1.cell (by simp)).trans (by simp [go_sem])
  clear hb1 hs1
  go_wp2_with fail
  go_loopw [5, 24] (fun s i wr => ∃ k : Nat, k ≤ ps.length ∧ i = .int .i64 k ∧ s = .string (strTo x (ps.take k)) ∧ Below w.heap.size w wr) (fun _ i _ => ps.length - (intOf i).toNat)
  case atStart => exact ⟨0, by omega, rfl, by rw [HST.out, HXX.out], hbw⟩
  case round =>
    obtain ⟨k, hk, rfl, rfl, hbr⟩ := hrel
    clear e0 e1 hbw
    by_cases hlt : k < ps.length
    · have hm := HM.out ps[k] (List.getElem_mem _)
      have hle := HLE.out k hk
      have HS := Lib.hid (HTK.out k hlt)
      have hbr1 := hbr.size
      have hp1 : wr.cell? ⟨b, off + k * 2, none⟩ = some (.int .i64 ps[k].1) := (hbr.cell hb).trans (HP.out k hlt).1
      have hp2 : wr.cell? ⟨b, off + k * 2 + 1, none⟩ = some (.int .i64 ps[k].2) := (hbr.cell hb).trans (HP.out k hlt).2
      have hbb : b < wr.heap.size := by omega
      have PC := Lib.hid (show pieceT ps[k] = (((⟨#[32]⟩ : ByteArray) ++ numT ps[k].1.toNat) ++ (⟨#[58]⟩ : ByteArray)) ++ numT ps[k].2.toNat from rfl)
      generalize strTo x (ps.take k) = X at *
      generalize ps[k] = p at *
      obtain ⟨p1, p2⟩ := p
      obtain ⟨n1, rfl⟩ := Int.eq_ofNat_of_zero_le hm.1.1
      obtain ⟨n2, rfl⟩ := Int.eq_ofNat_of_zero_le hm.2.1
      have b1 : n1 ≤ 1000 := by have := hm.1.2; simp at this; omega
      have b2 : n2 ≤ 1000 := by have := hm.2.2; simp at this; omega
      have l1 := (numT_len n1 3 (by omega)).2
      have l2 := (numT_len n2 3 (by omega)).2
      have HBR := Lib.hid hbr
      have KM := Lib.hid (show ∀ W W', Below (wr.heap.size + 1) (wr.alloc (.cells #[.int .i64 n1, .int .i64 n2] 63)) W → Below W.heap.size W W' → Below (wr.heap.size + 1) (wr.alloc (.cells #[.int .i64 n1, .int .i64 n2] 63)) W' from fun W W' h1 h2 => h1.trans (h2.mono (by have := h1.size; simp at this; omega)))
      have KW := Lib.hid (show ∀ W, Below (wr.heap.size + 1) (wr.alloc (.cells #[.int .i64 n1, .int .i64 n2] 63)) W → Below w.heap.size w W from fun W h => hbr.trans (((Below.refl _ _).alloc (Nat.le_refl _) _ |>.mono hbr1).trans (h.mono (by omega))))
      have KP := Lib.hid (show ∀ W, Below (wr.heap.size + 1) (wr.alloc (.cells #[.int .i64 n1, .int .i64 n2] 63)) W → (Below (wr.heap.size + 1) (wr.alloc (.cells #[.int .i64 n1, .int .i64 n2] 63)) W ∧ W.cell? ⟨wr.heap.size, 0, none⟩ = some (.int .i64 n1) ∧ W.cell? ⟨wr.heap.size, 1, none⟩ = some (.int .i64 n2)) from fun W h =>
        ⟨h, (h.cell (p := ⟨wr.heap.size, 0, none⟩) (by show wr.heap.size < _; omega)).trans (by simp [go_sem]), (h.cell (p := ⟨wr.heap.size, 1, none⟩) (by show wr.heap.size < _; omega)).trans (by simp [go_sem])⟩)
      have C1 := Lib.hid (show ∀ W, Below (wr.heap.size + 1) (wr.alloc (.cells #[.int .i64 n1, .int .i64 n2] 63)) W → Calls Tryd.prog 36 #[.int .i64 n1] W fun e w' => e = .returned (.string (numT n1)) ∧ Below W.heap.size W w' from fun W h => itoa_nat n1 W (by omega) (HT.out.below (KW.out W h)))
      have C2 := Lib.hid (show ∀ W, Below (wr.heap.size + 1) (wr.alloc (.cells #[.int .i64 n1, .int .i64 n2] 63)) W → Calls Tryd.prog 36 #[.int .i64 n2] W fun e w' => e = .returned (.string (numT n2)) ∧ Below W.heap.size W w' from fun W h => itoa_nat n2 W (by omega) (HT.out.below (KW.out W h)))
      have t1 : ((n1 : Nat) : Int).toNat = n1 := by simp
      have t2 : ((n2 : Nat) : Int).toNat = n2 := by simp
      rw [t1, t2] at PC
      rw [PC.out] at HS
      generalize numT n1 = y1 at *
      generalize numT n2 = y2 at *
      have e32 : (⟨#[32]⟩ : ByteArray).size = 1 := rfl
      have e58 : (⟨#[58]⟩ : ByteArray).size = 1 := rfl
      obtain ⟨z1, q1⟩ : ∃ z, (⟨#[32]⟩ : ByteArray) ++ y1 = z := ⟨_, rfl⟩
      have s1 : z1.size = 1 + y1.size := by rw [← q1, ByteArray.size_append, e32]
      obtain ⟨z2, q2⟩ : ∃ z, z1 ++ (⟨#[58]⟩ : ByteArray) = z := ⟨_, rfl⟩
      have s2 : z2.size = z1.size + 1 := by rw [← q2, ByteArray.size_append, e58]
      obtain ⟨z3, q3⟩ : ∃ z, z2 ++ y2 = z := ⟨_, rfl⟩
      have s3 : z3.size = z2.size + y2.size := by rw [← q3, ByteArray.size_append]
      rw [q1, q2, q3] at HS
      have c1 : (9223372036854775807 < 1 + y1.size) = False := eq_false (by omega)
      have c1' : (9223372036854775807 ≤ y1.size) = False := eq_false (by omega)
      have c2 : (9223372036854775807 < z1.size + 1) = False := eq_false (by omega)
      have c2' : (9223372036854775807 ≤ z1.size) = False := eq_false (by omega)
      have c3 : (9223372036854775807 < z2.size + y2.size) = False := eq_false (by omega)
      have c4 : (9223372036854775807 < X.size + z3.size) = False := eq_false (by omega)
      clear hm hbr hbr1 b1 b2 t1 t2 PC e32 e58 s1 s2 s3
      go_wp2_with fail
      have hw0 : Below (wr.heap.size + 1) (wr.alloc (.cells #[.int .i64 n1, .int .i64 n2] 63)) (wr.alloc (.cells #[.int .i64 n1, .int .i64 n2] 63)).drew := (Below.refl _ _).drew
      have hw00 : Below (wr.heap.size + 1) (wr.alloc (.cells #[.int .i64 n1, .int .i64 n2] 63)) (wr.alloc (.cells #[.int .i64 n1, .int .i64 n2] 63)) := Below.refl _ _
      go_region_held3 (fun W => Below (wr.heap.size + 1) (wr.alloc (.cells #[.int .i64 n1, .int .i64 n2] 63)) W ∧ W.cell? ⟨wr.heap.size, 0, none⟩ = some (.int .i64 n1) ∧ W.cell? ⟨wr.heap.size, 1, none⟩ = some (.int .i64 n2))
        (exact KP.out _ (by assumption))
        (first
          | (go_at_call 36; (with_reducible refine (C1.out _ (by assumption)).mono ?_); rintro e W1 ⟨rfl, hb1⟩; have hA := KM.out _ _ (by assumption) hb1; clear hb1)
          | (go_at_call 36; (with_reducible refine (C2.out _ (by assumption)).mono ?_); rintro e W2 ⟨rfl, hb2⟩; have hB := KM.out _ _ (by assumption) hb2; clear hb2)
          | fail)
      all_goals
        go_wp2
        go_roundw
        case rel => exact ⟨k + 1, by omega, by go_num, by rw [HS.out], KW.out _ (by assumption)⟩
        case measure => simp [intOf]; omega
    · have hkr : k = ps.length := by omega
      subst hkr
      rw [HWH.out]
      have HB := Lib.hid hbr
      clear hbr
      go_wp2
      go_ret2
      exact ⟨rfl, HB.out⟩

theorem rcurveText_ok (v : Value) (c : Cv) (w : World) (hT : TextW w) (hv : CvV w v c) (h : checkC c = 0) :
    Calls Tryd.prog 20 #[v] w fun e w' => e = .returned (.tuple #[.string (curveT c), .int .i64 0]) ∧ Below w.heap.size w w' := by
  obtain ⟨pv, rfl, hp⟩ := hv
  obtain ⟨K, ps⟩ := c
  have hr := right_of h
  rcases hp with ⟨h0, ao, cap, rfl⟩ | ⟨h0, hm, b, off, cap, rfl, hb, hp⟩
  · obtain rfl : ps = [] := h0
    obtain ⟨n, rfl⟩ := Int.eq_ofNat_of_zero_le (show 0 ≤ K by have := hr.1; have e : 1 ≤ K := this; omega)
    have h6 : n ≤ 6 := by have := hr.2.1; have e : (n : Int) ≤ 6 := this; omega
    have h5 : n ≠ 6 := by
      rintro rfl
      unfold checkC at h
      simp at h
    exact rcurveText_0 n ao cap w (by omega) h
  · have h6 : K = 6 := Classical.byContradiction fun h6 => h0 (hr.2.2.1 h6)
    subst h6
    exact rcurveText_n b off cap ps w hT hb hp (List.length_pos_iff.2 h0) h
end Go.Proofs.YtdicoggpcobbpaaDoor
