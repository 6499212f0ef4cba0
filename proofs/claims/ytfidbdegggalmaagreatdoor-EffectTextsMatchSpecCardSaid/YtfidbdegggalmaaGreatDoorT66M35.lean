/- The reference's reader of effects' words. (printed by wip/gen/gen_erread.py) -/
import Derived.Test.YtfidbdegggalmaaGreatDoorT66M22
import Derived.Test.YtfidbdegggalmaaGreatDoorT66M15
import Derived.Deep.DeepCutAuto

namespace Go.Proofs.YtfidbdegggalmaaGreatDoor
open Go.RowKit
set_option linter.unusedVariables false
set_option linter.unusedSimpArgs false

theorem rread_outE (w : World) :
    Calls Tryz.prog 30 #[.string ⟨#[111, 117, 116]⟩] w fun e w' => e = .returned (.tuple #[.int .i64 0, .int .i64 0]) ∧ w = w' := by
  go_enter Tryz.func30, Tryz.ntmps30
  go_wp2
  go_ret2
  exact ⟨rfl, rfl⟩
theorem rread_fullE (w : World) :
    Calls Tryz.prog 30 #[.string ⟨#[102, 117, 108, 108]⟩] w fun e w' => e = .returned (.tuple #[.int .i64 65535, .int .i64 0]) ∧ w = w' := by
  go_enter Tryz.func30, Tryz.ntmps30
  go_wp2
  go_ret2
  exact ⟨rfl, rfl⟩
theorem rlread_any (s : ByteArray) (w : World) (hn : s.size ≤ 9223372036854775807) :
    Calls Tryz.prog 30 #[.string s] w fun e w' => e = .returned (.tuple #[.int .i64 ((lvW s).getD 0), .int .i64 (if (lvW s).isSome then 0 else 9)]) ∧ Below w.heap.size w w' := by
  by_cases e1 : s.toList = [111, 117, 116]
  · have e0 : lvW s = some 0 := by unfold lvW; rw [if_pos e1]
    rw [e0, ba_of_list e1]
    refine (rread_outE w).mono ?_
    rintro e w' ⟨rfl, rfl⟩
    exact ⟨rfl, Below.refl _ _⟩
  by_cases e2 : s.toList = [102, 117, 108, 108]
  · have e0 : lvW s = some 65535 := by unfold lvW; rw [if_neg e1, if_pos e2]
    rw [e0, ba_of_list e2]
    refine (rread_fullE w).mono ?_
    rintro e w' ⟨rfl, rfl⟩
    exact ⟨rfl, Below.refl _ _⟩
  by_cases h : ∃ v, RdS 9 s v
  · have e0 : lvW s = some h.choose := by unfold lvW; rw [if_neg e1, if_neg e2, dif_pos h]
    rw [e0]
    exact rread_good s h.choose w hn e1 e2 ((rd_same s _).1 h.choose_spec)
  · have e0 : lvW s = none := by unfold lvW; rw [if_neg e1, if_neg e2, dif_neg h]
    rw [e0]
    exact rread_wrong s w hn e1 e2 (fun ⟨v, hv⟩ => h ⟨v, (rd_same s v).2 hv⟩)
theorem rnumber_any (s : ByteArray) (w : World) (hn : s.size ≤ 9223372036854775807) :
    Calls Tryz.prog 31 #[.string s, .int .i64 9] w fun e w' => e = .returned (.tuple #[.int .i64 ((nbW s).getD 0), .bool (nbW s).isSome]) ∧ Below w.heap.size w w' := by
  by_cases h : NumS s 9
  · have e0 : nbW s = some (valS s : Int) := by unfold nbW; rw [if_pos h]
    rw [e0]
    exact rnumber_ok s 9 w (by decide) h
  · have e0 : nbW s = none := by unfold nbW; rw [if_neg h]
    rw [e0]
    exact rnumber_no s 9 w (by decide) hn h
/-! ### the reader's words -/
def RX (w : World) (g wb : Nat) (R : List ByteArray) (bad : Bool) : Prop := ∃ o cap, TBox w g 37 #[.slice (some ⟨wb, o, none⟩) R.length cap, .bool bad] ∧ RowS w wb o R ∧ R.length ≤ cap ∧ cap ≤ 100000
def isH (s : ByteArray) : List ByteArray → Bool
  | a :: _ => decide (a = s)
  | [] => false
def isT (s : ByteArray) : List ByteArray → List ByteArray
  | a :: R => if a = s then R else a :: R
  | [] => []
def nxV : List ByteArray → ByteArray
  | a :: _ => a
  | [] => ⟨#[]⟩
theorem isT_mem {s : ByteArray} {R : List ByteArray} : ∀ x ∈ isT s R, x ∈ R := by
  intro x hx
  rcases R with _ | ⟨a, R⟩
  · exact hx
  · by_cases c : a = s
    · rw [show isT s (a :: R) = R from if_pos c] at hx
      exact List.mem_cons_of_mem _ hx
    · rw [show isT s (a :: R) = a :: R from if_neg c] at hx
      exact hx
theorem nxV_le {R : List ByteArray} {n : Nat} (h : ∀ x ∈ R, x.size ≤ n) : (nxV R).size ≤ n := by
  cases R with
  | nil => exact Nat.zero_le _
  | cons a R => exact h a (by simp)
section
variable {w W W' : World} {g wb : Nat} {R R' : List ByteArray} {bad : Bool}
theorem RX.below (h : RX W g wb R bad) (hwb : wb < W.heap.size) (hb : Below W.heap.size W W') : RX W' g wb R bad := by
  obtain ⟨o, cap, h1, h2, h3, h4⟩ := h
  exact ⟨o, cap, h1.below hb, h2.below hwb hb, h3, h4⟩
theorem RowS.setO {o i b : Nat} {v : Value} (h : RowS W wb o R) (hne : wb ≠ b) : RowS (W.setCell ⟨b, i, none⟩ v) wb o R := fun j hj => (World.cell?_setCell_other W _ _ v (fun e => by injection e with e; first | exact hne e | exact hne e.symm)).trans (h j hj)
theorem RX.setB (h : RX W g wb R bad) (hne : wb ≠ g) (b : Bool) : RX (W.setCell ⟨g, 1, none⟩ (.bool b)) g wb R b := by
  obtain ⟨o, cap, h1, h2, h3, h4⟩ := h
  exact ⟨o, cap, h1.set 1 _, h2.setO hne, h3, h4⟩
theorem RX.setT (h : RX W g wb R bad) (hne : wb ≠ g) (o cap : Nat) (h1 : RowS W wb o R') (h2 : R'.length ≤ cap) (h3 : cap ≤ 100000) : RX (W.setCell ⟨g, 0, none⟩ (.slice (some ⟨wb, o, none⟩) R'.length cap)) g wb R' bad := by
  obtain ⟨_, _, k1, _, _, _⟩ := h
  exact ⟨o, cap, k1.set 0 _, h1.setO hne, h2, h3⟩
end
set_option maxRecDepth 100000 in
set_option maxHeartbeats 4000000 in
theorem is_any (s : ByteArray) (R : List ByteArray) (bad : Bool) (g wb : Nat) (w : World) (h : RX w g wb R bad) (hne : wb ≠ g) (hwb : wb < w.heap.size) :
    Calls Tryz.prog 16 #[.pointer (some ⟨g, 0, none⟩), .string s] w fun e w' => e = .returned (.bool (isH s R)) ∧ RX w' g wb (isT s R) bad ∧ KeepX g g w w' := by
  have H := Lib.hid h
  clear h
  rcases R with _ | ⟨a, R⟩
  · obtain ⟨o, cap, hB, hR, hc1, hc2⟩ := H.out
    have t0 : w.cell? ⟨g, 0, none⟩ = some (Value.slice (some ⟨wb, o, none⟩) 0 cap) := hB.cell (i := 0) rfl
    have t1 := hB.cell (i := 1) rfl
    have tl := hB.lt
    clear hB hR hc1 hc2
    go_enter Tryz.func16, Tryz.ntmps16
    go_wp2_with fail
    go_ret
    exact ⟨rfl, H.out, KeepX.of (Below.refl _ _)⟩
  have HRow := Lib.hid (show ∀ o, RowS w wb o (a :: R) → RowS w wb (o + 1) R from fun o h => h.tail)
  obtain ⟨o, cap, hB, hR, hc1, hc2⟩ := H.out
  have t0 : w.cell? ⟨g, 0, none⟩ = some (Value.slice (some ⟨wb, o, none⟩) (R.length + 1) cap) := hB.cell (i := 0) rfl
  have t1 := hB.cell (i := 1) rfl
  have tl := hB.lt
  have z0 := hB.frozen 0
  have z1 := hB.frozen 1
  have d0 : w.cell? ⟨wb, o, none⟩ = some (.string a) := hR.head
  have HR1 := Lib.hid hR.tail
  have hc3 : R.length + 1 ≤ cap := by simpa using hc1
  have h5 : ¬ ((R.length : Int) + 1 = 0) := by omega
  have h6 : ((R.length : Int) + 1 == 0) = false := by simp [h5]
  clear hB hR hc1
  by_cases c : a = s
  · subst c
    have HV := Lib.hid (show isH a (a :: R) = true from decide_eq_true rfl)
    have HT := Lib.hid (show isT a (a :: R) = R from if_pos rfl)
    by_cases hcz : cap = 1
    · subst hcz
      obtain rfl : R = [] := List.length_eq_zero_iff.1 (by omega)
      have HN := Lib.hid (H.out.setT (R' := []) hne o 0 (fun j hj => absurd hj (by simp)) (by simp) (by omega))
      clear hc2 hc3 H HR1 HRow
      go_enter Tryz.func16, Tryz.ntmps16
      go_wp2_with fail
      go_ret
      exact ⟨by rw [HV.out]; rfl, by rw [HT.out]; exact HN.out, KeepX.setL 0 _⟩
    · have HN := Lib.hid (H.out.setT hne (o + 1) (cap - 1) HR1.out (by omega) (by omega))
      have hc4 : (1 : Int) ≤ cap := by omega
      clear hc2 H HR1 HRow
      go_enter Tryz.func16, Tryz.ntmps16
      go_wp2_with fail
      go_ret
      exact ⟨by rw [HV.out]; rfl, by rw [HT.out]; exact HN.out, KeepX.setL 0 _⟩
  · have HV := Lib.hid (show isH s (a :: R) = false from decide_eq_false c)
    have HT := Lib.hid (show isT s (a :: R) = a :: R from if_neg c)
    have hne2 : (a.toList == s.toList) = false := beq_eq_false_iff_ne.2 (fun h => c (ByteArray.ext (Array.toList_inj.1 (by rw [← Lib.toList_data, ← Lib.toList_data]; exact h))))
    clear hc2 hc3 c HR1 HRow
    go_enter Tryz.func16, Tryz.ntmps16
    go_wp2_with fail
    go_ret
    exact ⟨by rw [HV.out]; rfl, by rw [HT.out]; exact H.out, KeepX.of (Below.refl _ _)⟩
set_option maxRecDepth 100000 in
set_option maxHeartbeats 4000000 in
theorem next_any (R : List ByteArray) (bad : Bool) (g wb : Nat) (w : World) (h : RX w g wb R bad) (hne : wb ≠ g) (hwb : wb < w.heap.size) :
    Calls Tryz.prog 12 #[.pointer (some ⟨g, 0, none⟩)] w fun e w' => e = .returned (.string (nxV R)) ∧ RX w' g wb R.tail (bad || R.isEmpty) ∧ KeepX g g w w' := by
  have H := Lib.hid h
  clear h
  rcases R with _ | ⟨a, R⟩
  · obtain ⟨o, cap, hB, hR, hc1, hc2⟩ := H.out
    have t0 : w.cell? ⟨g, 0, none⟩ = some (Value.slice (some ⟨wb, o, none⟩) 0 cap) := hB.cell (i := 0) rfl
    have t1 := hB.cell (i := 1) rfl
    have tl := hB.lt
    have z0 := hB.frozen 0
    have z1 := hB.frozen 1
    clear hB hR hc1 hc2
    have HN := Lib.hid (show RX (w.setCell ⟨g, 1, none⟩ (.bool true)) g wb [] (bad || true) from by rw [Bool.or_true]; exact H.out.setB hne true)
    clear H
    go_enter Tryz.func12, Tryz.ntmps12
    go_wp2_with fail
    go_ret
    exact ⟨rfl, HN.out, KeepX.setL 1 _⟩
  obtain ⟨o, cap, hB, hR, hc1, hc2⟩ := H.out
  have t0 : w.cell? ⟨g, 0, none⟩ = some (Value.slice (some ⟨wb, o, none⟩) (R.length + 1) cap) := hB.cell (i := 0) rfl
  have t1 := hB.cell (i := 1) rfl
  have tl := hB.lt
  have z0 := hB.frozen 0
  have z1 := hB.frozen 1
  have d0 : w.cell? ⟨wb, o, none⟩ = some (.string a) := hR.head
  have HR1 := Lib.hid hR.tail
  have hc3 : R.length + 1 ≤ cap := by simpa using hc1
  have h5 : ¬ ((R.length : Int) + 1 = 0) := by omega
  have h6 : ((R.length : Int) + 1 == 0) = false := by simp [h5]
  clear hB hR hc1
  by_cases hcz : cap = 1
  · subst hcz
    obtain rfl : R = [] := List.length_eq_zero_iff.1 (by omega)
    have HN := Lib.hid (show RX (w.setCell ⟨g, 0, none⟩ (.slice (some ⟨wb, o, none⟩) 0 0)) g wb [] (bad || false) from by rw [Bool.or_false]; exact H.out.setT (R' := []) hne o 0 (fun j hj => absurd hj (by simp)) (by simp) (by omega))
    clear hc2 hc3 H HR1
    go_enter Tryz.func12, Tryz.ntmps12
    go_wp2_with fail
    go_ret
    exact ⟨rfl, HN.out, KeepX.setL 0 _⟩
  · have HN := Lib.hid (show RX (w.setCell ⟨g, 0, none⟩ (.slice (some ⟨wb, o + 1, none⟩) R.length (cap - 1))) g wb R (bad || false) from by rw [Bool.or_false]; exact H.out.setT hne (o + 1) (cap - 1) HR1.out (by omega) (by omega))
    have hc4 : (1 : Int) ≤ cap := by omega
    clear hc2 H HR1
    go_enter Tryz.func12, Tryz.ntmps12
    go_wp2_with fail
    go_ret
    exact ⟨rfl, HN.out, KeepX.setL 0 _⟩
/-- a word behind a word: what is bad, what is left -/
def wdT (s : ByteArray) (R : List ByteArray) : List ByteArray := (isT s R).tail
def wdB (s : ByteArray) (R : List ByteArray) (bad : Bool) : Bool := (bad || !isH s R) || (isT s R).isEmpty
def wdV (s : ByteArray) (R : List ByteArray) : ByteArray := nxV (isT s R)
set_option maxRecDepth 100000 in
set_option maxHeartbeats 4000000 in
theorem level_r (s : ByteArray) (R : List ByteArray) (bad : Bool) (g wb : Nat) (w : World) (h : RX w g wb R bad) (hne : wb ≠ g) (hwb : wb < w.heap.size) (hsz : ∀ x ∈ R, x.size ≤ 5000) :
    Calls Tryz.prog 13 #[.pointer (some ⟨g, 0, none⟩), .string s] w fun e w' => e = .returned (.int .i64 ((lvW (wdV s R)).getD 0)) ∧ RX w' g wb (wdT s R) (wdB s R bad || (lvW (wdV s R)).isNone) ∧ KeepX g g w w' := by
  have HI := Lib.hid (is_any s R bad g wb w h hne hwb)
  have hsx : (wdV s R).size ≤ 9223372036854775807 := Nat.le_trans (nxV_le (fun x hx => hsz x (isT_mem x hx))) (by decide)
  have HC := Lib.hid (fun W => rlread_any (wdV s R) W hsx)
  have HB := Lib.hid (show wdB s R bad = ((bad || !isH s R) || (isT s R).isEmpty) from rfl)
  rw [show wdT s R = (isT s R).tail from rfl]
  have HX := Lib.hid (show ∀ b W, RX W g wb (isT s R) b → wb < W.heap.size → Calls Tryz.prog 12 #[.pointer (some ⟨g, 0, none⟩)] W fun e w' => e = .returned (.string (wdV s R)) ∧ RX w' g wb (isT s R).tail (b || (isT s R).isEmpty) ∧ KeepX g g W w' from fun b W hh hw => next_any (isT s R) b g wb W hh hne hw)
  generalize wdB s R bad = b3 at *
  generalize isH s R = ih at *
  generalize (isT s R).isEmpty = em at *
  generalize wdV s R = x at *
  generalize (isT s R).tail = T at *
  generalize isT s R = R1 at *
  obtain ⟨vx, hvx⟩ : ∃ vx, lvW x = vx := ⟨_, rfl⟩
  rw [hvx] at HC ⊢
  clear h hsz hsx hvx
  go_enter Tryz.func13, Tryz.ntmps13
  go_wp2_with fail
  refine HI.out.mono ?_
  rintro e w1 ⟨rfl, h1, k1⟩
  have HW := Nat.lt_of_lt_of_le hwb k1.2.2
  have H1 := Lib.hid h1
  have K1 := Lib.hid k1
  obtain ⟨o, cap, hB, _, _, _⟩ := h1
  have t1 := hB.cell (i := 1) rfl
  have tl := hB.lt
  have z1 := hB.frozen 1
  clear hB k1
  cases ih with
  | true =>
    have HBB := Lib.hid (show b3 = (bad || em) by rw [HB.out]; simp)
    clear z1
    go_wp2_with fail
    refine (HX.out _ _ H1.out HW).mono ?_
    rintro e w2 ⟨rfl, h2, k2⟩
    have H2 := Lib.hid (show RX w2 g wb T b3 by rw [HBB.out]; exact h2)
    have K2 := Lib.hid (K1.out.trans k2)
    have HW2 := Nat.lt_of_lt_of_le HW k2.2.2
    clear h2 k2 H1 K1 HW t1 tl HBB HB HX HI
    go_wp2_with fail
    refine (HC.out _).mono ?_
    rintro e w3 ⟨rfl, hb3⟩
    have H3 := Lib.hid (H2.out.below HW2 hb3)
    have K3 := Lib.hid (K2.out.trans (KeepX.of hb3))
    clear hb3 H2 K2 HC HW2
    obtain ⟨o, cap, hB, _, _, _⟩ := H3.out
    have t1 := hB.cell (i := 1) rfl
    have tl := hB.lt
    have z1 := hB.frozen 1
    clear hB
    rcases vx with _ | v
    · have HE := Lib.hid (show RX (w3.setCell ⟨g, 1, none⟩ (.bool true)) g wb T (b3 || (none : Option Int).isNone) from by rw [show (b3 || (none : Option Int).isNone) = true by simp]; exact H3.out.setB hne true)
      have KE := Lib.hid (K3.out.trans (KeepX.setL 1 (.bool true)))
      simp only [Option.isSome_none, Option.getD_none, Bool.false_eq_true, if_false]
      clear H3 K3
      cases b3
      all_goals
        go_wp2_with fail
        go_ret
        exact ⟨rfl, HE.out, KE.out⟩
    · have HE := Lib.hid (show RX (w3.setCell ⟨g, 1, none⟩ (.bool b3)) g wb T (b3 || (some v).isNone) from by rw [show (b3 || (some v).isNone) = b3 by simp]; exact H3.out.setB hne b3)
      have KE := Lib.hid (K3.out.trans (KeepX.setL 1 (.bool b3)))
      simp only [Option.isSome_some, Option.getD_some, if_true]
      clear H3 K3
      cases b3
      all_goals
        go_wp2_with fail
        go_ret
        exact ⟨rfl, HE.out, KE.out⟩
  | false =>
    have HBB := Lib.hid (show b3 = (true || em) by rw [HB.out]; simp)
    go_upto_region 3 with fail
    have H1' := Lib.hid (H1.out.setB hne true)
    have K1' := Lib.hid (K1.out.trans (KeepX.setL 1 (.bool true)))
    have HW' : wb < (w1.setCell ⟨g, 1, none⟩ (.bool true)).heap.size := by simp; exact HW
    generalize w1.setCell ⟨g, 1, none⟩ (.bool true) = w1' at *
    clear z1 H1 K1 HW t1 tl
    go_wp2_with fail
    refine (HX.out _ _ H1'.out HW').mono ?_
    rintro e w2 ⟨rfl, h2, k2⟩
    have H2 := Lib.hid (show RX w2 g wb T b3 by rw [HBB.out]; exact h2)
    have K2 := Lib.hid (K1'.out.trans k2)
    have HW2 := Nat.lt_of_lt_of_le HW' k2.2.2
    clear h2 k2 H1' K1' HW' HBB HB HX HI
    go_wp2_with fail
    refine (HC.out _).mono ?_
    rintro e w3 ⟨rfl, hb3⟩
    have H3 := Lib.hid (H2.out.below HW2 hb3)
    have K3 := Lib.hid (K2.out.trans (KeepX.of hb3))
    clear hb3 H2 K2 HC HW2
    obtain ⟨o, cap, hB, _, _, _⟩ := H3.out
    have t1 := hB.cell (i := 1) rfl
    have tl := hB.lt
    have z1 := hB.frozen 1
    clear hB
    rcases vx with _ | v
    · have HE := Lib.hid (show RX (w3.setCell ⟨g, 1, none⟩ (.bool true)) g wb T (b3 || (none : Option Int).isNone) from by rw [show (b3 || (none : Option Int).isNone) = true by simp]; exact H3.out.setB hne true)
      have KE := Lib.hid (K3.out.trans (KeepX.setL 1 (.bool true)))
      simp only [Option.isSome_none, Option.getD_none, Bool.false_eq_true, if_false]
      clear H3 K3
      cases b3
      all_goals
        go_wp2_with fail
        go_ret
        exact ⟨rfl, HE.out, KE.out⟩
    · have HE := Lib.hid (show RX (w3.setCell ⟨g, 1, none⟩ (.bool b3)) g wb T (b3 || (some v).isNone) from by rw [show (b3 || (some v).isNone) = b3 by simp]; exact H3.out.setB hne b3)
      have KE := Lib.hid (K3.out.trans (KeepX.setL 1 (.bool b3)))
      simp only [Option.isSome_some, Option.getD_some, if_true]
      clear H3 K3
      cases b3
      all_goals
        go_wp2_with fail
        go_ret
        exact ⟨rfl, HE.out, KE.out⟩
set_option maxRecDepth 100000 in
set_option maxHeartbeats 4000000 in
theorem number_r (s : ByteArray) (R : List ByteArray) (bad : Bool) (g wb : Nat) (w : World) (h : RX w g wb R bad) (hne : wb ≠ g) (hwb : wb < w.heap.size) (hsz : ∀ x ∈ R, x.size ≤ 5000) :
    Calls Tryz.prog 14 #[.pointer (some ⟨g, 0, none⟩), .string s] w fun e w' => e = .returned (.int .i64 ((nbW (wdV s R)).getD 0)) ∧ RX w' g wb (wdT s R) (wdB s R bad || (nbW (wdV s R)).isNone) ∧ KeepX g g w w' := by
  have HI := Lib.hid (is_any s R bad g wb w h hne hwb)
  have hsx : (wdV s R).size ≤ 9223372036854775807 := Nat.le_trans (nxV_le (fun x hx => hsz x (isT_mem x hx))) (by decide)
  have HC := Lib.hid (fun W => rnumber_any (wdV s R) W hsx)
  have HB := Lib.hid (show wdB s R bad = ((bad || !isH s R) || (isT s R).isEmpty) from rfl)
  rw [show wdT s R = (isT s R).tail from rfl]
  have HX := Lib.hid (show ∀ b W, RX W g wb (isT s R) b → wb < W.heap.size → Calls Tryz.prog 12 #[.pointer (some ⟨g, 0, none⟩)] W fun e w' => e = .returned (.string (wdV s R)) ∧ RX w' g wb (isT s R).tail (b || (isT s R).isEmpty) ∧ KeepX g g W w' from fun b W hh hw => next_any (isT s R) b g wb W hh hne hw)
  generalize wdB s R bad = b3 at *
  generalize isH s R = ih at *
  generalize (isT s R).isEmpty = em at *
  generalize wdV s R = x at *
  generalize (isT s R).tail = T at *
  generalize isT s R = R1 at *
  obtain ⟨vx, hvx⟩ : ∃ vx, nbW x = vx := ⟨_, rfl⟩
  rw [hvx] at HC ⊢
  clear h hsz hsx hvx
  go_enter Tryz.func14, Tryz.ntmps14
  go_wp2_with fail
  refine HI.out.mono ?_
  rintro e w1 ⟨rfl, h1, k1⟩
  have HW := Nat.lt_of_lt_of_le hwb k1.2.2
  have H1 := Lib.hid h1
  have K1 := Lib.hid k1
  obtain ⟨o, cap, hB, _, _, _⟩ := h1
  have t1 := hB.cell (i := 1) rfl
  have tl := hB.lt
  have z1 := hB.frozen 1
  clear hB k1
  cases ih with
  | true =>
    have HBB := Lib.hid (show b3 = (bad || em) by rw [HB.out]; simp)
    clear z1
    go_wp2_with fail
    refine (HX.out _ _ H1.out HW).mono ?_
    rintro e w2 ⟨rfl, h2, k2⟩
    have H2 := Lib.hid (show RX w2 g wb T b3 by rw [HBB.out]; exact h2)
    have K2 := Lib.hid (K1.out.trans k2)
    have HW2 := Nat.lt_of_lt_of_le HW k2.2.2
    clear h2 k2 H1 K1 HW t1 tl HBB HB HX HI
    go_wp2_with fail
    refine (HC.out _).mono ?_
    rintro e w3 ⟨rfl, hb3⟩
    have H3 := Lib.hid (H2.out.below HW2 hb3)
    have K3 := Lib.hid (K2.out.trans (KeepX.of hb3))
    clear hb3 H2 K2 HC HW2
    obtain ⟨o, cap, hB, _, _, _⟩ := H3.out
    have t1 := hB.cell (i := 1) rfl
    have tl := hB.lt
    have z1 := hB.frozen 1
    clear hB
    rcases vx with _ | v
    · have HE := Lib.hid (show RX (w3.setCell ⟨g, 1, none⟩ (.bool true)) g wb T (b3 || (none : Option Int).isNone) from by rw [show (b3 || (none : Option Int).isNone) = true by simp]; exact H3.out.setB hne true)
      have KE := Lib.hid (K3.out.trans (KeepX.setL 1 (.bool true)))
      simp only [Option.isSome_none, Option.getD_none]
      clear H3 K3
      cases b3
      all_goals
        go_wp2_with fail
        go_ret
        exact ⟨rfl, HE.out, KE.out⟩
    · have HE := Lib.hid (show RX (w3.setCell ⟨g, 1, none⟩ (.bool b3)) g wb T (b3 || (some v).isNone) from by rw [show (b3 || (some v).isNone) = b3 by simp]; exact H3.out.setB hne b3)
      have KE := Lib.hid (K3.out.trans (KeepX.setL 1 (.bool b3)))
      simp only [Option.isSome_some, Option.getD_some]
      clear H3 K3
      cases b3
      all_goals
        go_wp2_with fail
        go_ret
        exact ⟨rfl, HE.out, KE.out⟩
  | false =>
    have HBB := Lib.hid (show b3 = (true || em) by rw [HB.out]; simp)
    go_upto_region 3 with fail
    have H1' := Lib.hid (H1.out.setB hne true)
    have K1' := Lib.hid (K1.out.trans (KeepX.setL 1 (.bool true)))
    have HW' : wb < (w1.setCell ⟨g, 1, none⟩ (.bool true)).heap.size := by simp; exact HW
    generalize w1.setCell ⟨g, 1, none⟩ (.bool true) = w1' at *
    clear z1 H1 K1 HW t1 tl
    go_wp2_with fail
    refine (HX.out _ _ H1'.out HW').mono ?_
    rintro e w2 ⟨rfl, h2, k2⟩
    have H2 := Lib.hid (show RX w2 g wb T b3 by rw [HBB.out]; exact h2)
    have K2 := Lib.hid (K1'.out.trans k2)
    have HW2 := Nat.lt_of_lt_of_le HW' k2.2.2
    clear h2 k2 H1' K1' HW' HBB HB HX HI
    go_wp2_with fail
    refine (HC.out _).mono ?_
    rintro e w3 ⟨rfl, hb3⟩
    have H3 := Lib.hid (H2.out.below HW2 hb3)
    have K3 := Lib.hid (K2.out.trans (KeepX.of hb3))
    clear hb3 H2 K2 HC HW2
    obtain ⟨o, cap, hB, _, _, _⟩ := H3.out
    have t1 := hB.cell (i := 1) rfl
    have tl := hB.lt
    have z1 := hB.frozen 1
    clear hB
    rcases vx with _ | v
    · have HE := Lib.hid (show RX (w3.setCell ⟨g, 1, none⟩ (.bool true)) g wb T (b3 || (none : Option Int).isNone) from by rw [show (b3 || (none : Option Int).isNone) = true by simp]; exact H3.out.setB hne true)
      have KE := Lib.hid (K3.out.trans (KeepX.setL 1 (.bool true)))
      simp only [Option.isSome_none, Option.getD_none]
      clear H3 K3
      cases b3
      all_goals
        go_wp2_with fail
        go_ret
        exact ⟨rfl, HE.out, KE.out⟩
    · have HE := Lib.hid (show RX (w3.setCell ⟨g, 1, none⟩ (.bool b3)) g wb T (b3 || (some v).isNone) from by rw [show (b3 || (some v).isNone) = b3 by simp]; exact H3.out.setB hne b3)
      have KE := Lib.hid (K3.out.trans (KeepX.setL 1 (.bool b3)))
      simp only [Option.isSome_some, Option.getD_some]
      clear H3 K3
      cases b3
      all_goals
        go_wp2_with fail
        go_ret
        exact ⟨rfl, HE.out, KE.out⟩
/-- the spread -/
noncomputable def spV (R : List ByteArray) : Int := if isH sprB R = true then (if dshB (wdV sprB R) = true then -((nbW (dshT (wdV sprB R))).getD 0) else (nbW (dshT (wdV sprB R))).getD 0) else 0
noncomputable def spT (R : List ByteArray) : List ByteArray := if isH sprB R = true then (isT sprB R).tail else isT sprB R
noncomputable def spB (R : List ByteArray) (bad : Bool) : Bool := if isH sprB R = true then (((bad || (isT sprB R).isEmpty) || (nbW (dshT (wdV sprB R))).isNone) || decide ((nbW (dshT (wdV sprB R))).getD 0 = 0)) else bad
theorem dshT_leR (s : ByteArray) : (dshT s).size ≤ s.size := by
  rw [Lib.size_eq, Lib.size_eq s]
  simp only [dshT, Lib.trimPrefix]
  split <;> simp
theorem callDshR (s : ByteArray) (W : World) : Calls Tryz.prog 24 #[.string s, .string ⟨#[45]⟩] W fun e w' => e = .returned (.tuple #[.string (dshT s), .bool (dshB s)]) ∧ w' = W := Tryz.strings_CutPrefix s ⟨#[45]⟩ W
set_option maxRecDepth 100000 in
set_option maxHeartbeats 4000000 in
theorem spread_any (R : List ByteArray) (bad : Bool) (g wb : Nat) (w : World) (h : RX w g wb R bad) (hne : wb ≠ g) (hwb : wb < w.heap.size) (hsz : ∀ x ∈ R, x.size ≤ 5000) :
    Calls Tryz.prog 15 #[.pointer (some ⟨g, 0, none⟩)] w fun e w' => e = .returned (.int .i64 (spV R)) ∧ RX w' g wb (spT R) (spB R bad) ∧ KeepX g g w w' := by
  have HI := Lib.hid (is_any sprB R bad g wb w h hne hwb)
  have hsx : (dshT (wdV sprB R)).size ≤ 9223372036854775807 := Nat.le_trans (dshT_leR _) (Nat.le_trans (nxV_le (fun x hx => hsz x (isT_mem x hx))) (by decide))
  have HC := Lib.hid (fun W => rnumber_any (dshT (wdV sprB R)) W hsx)
  have HNR := Lib.hid (fun n (h : nbW (dshT (wdV sprB R)) = some n) => nbW_range h)
  have HD := Lib.hid (fun W => callDshR (wdV sprB R) W)
  have HX := Lib.hid (show ∀ b W, RX W g wb (isT sprB R) b → wb < W.heap.size → Calls Tryz.prog 12 #[.pointer (some ⟨g, 0, none⟩)] W fun e w' => e = .returned (.string (wdV sprB R)) ∧ RX w' g wb (isT sprB R).tail (b || (isT sprB R).isEmpty) ∧ KeepX g g W w' from fun b W hh hw => next_any (isT sprB R) b g wb W hh hne hw)
  unfold spV spT spB
  generalize isH sprB R = ih at *
  generalize (isT sprB R).isEmpty = em at *
  generalize nbW (dshT (wdV sprB R)) = vx at *
  generalize dshT (wdV sprB R) = dt at *
  generalize dshB (wdV sprB R) = db at *
  generalize wdV sprB R = x at *
  generalize (isT sprB R).tail = T at *
  generalize isT sprB R = R1 at *
  clear h hsz hsx
  go_enter Tryz.func15, Tryz.ntmps15
  go_wp2_with fail
  refine HI.out.mono ?_
  rintro e w1 ⟨rfl, h1, k1⟩
  have HW := Nat.lt_of_lt_of_le hwb k1.2.2
  have H1 := Lib.hid h1
  have K1 := Lib.hid k1
  clear h1 k1 HI
  cases ih with
  | false =>
    go_wp2_with fail
    go_ret
    exact ⟨by simp, by simpa using H1.out, K1.out⟩
  | true =>
    simp only [if_true]
    go_wp2_with fail
    refine (HX.out _ _ H1.out HW).mono ?_
    rintro e w2 ⟨rfl, h2, k2⟩
    have H2 := Lib.hid h2
    have K2 := Lib.hid (K1.out.trans k2)
    have HW2 := Nat.lt_of_lt_of_le HW k2.2.2
    clear h2 k2 H1 K1 HW HX
    go_wp2_with fail
    refine (HD.out _).mono ?_
    rintro e w2' ⟨rfl, rfl⟩
    go_wp2_with fail
    refine (HC.out _).mono ?_
    rintro e w3 ⟨rfl, hb3⟩
    have H3 := Lib.hid (H2.out.below HW2 hb3)
    have K3 := Lib.hid (K2.out.trans (KeepX.of hb3))
    clear hb3 H2 K2 HC HW2
    obtain ⟨o, cap, hB, _, _, _⟩ := H3.out
    have t1 := hB.cell (i := 1) rfl
    have tl := hB.lt
    have z1 := hB.frozen 1
    clear hB
    rcases vx with _ | v
    · have HE := Lib.hid (H3.out.setB hne true)
      have KE := Lib.hid (K3.out.trans (KeepX.setL 1 (.bool true)))
      simp only [Option.isSome_none, Option.getD_none, Option.isNone_none]
      clear H3 K3
      cases bad <;> cases em <;> cases db
      all_goals
        go_wp2_with fail
        go_ret
        exact ⟨by simp, HE.out, KE.out⟩
    · have hv := HNR.out v rfl
      have hng : IntKind.i64.wrap (-v) = -v := IntWalk.i64_in _ (by omega)
      simp only [Option.isSome_some, Option.getD_some, Option.isNone_some]
      by_cases hv0 : v = 0
      · subst hv0
        have HE := Lib.hid (H3.out.setB hne true)
        have KE := Lib.hid (K3.out.trans (KeepX.setL 1 (.bool true)))
        clear H3 K3 HNR hv
        cases bad <;> cases em <;> cases db
        all_goals
          go_wp2_with fail
          go_ret
          exact ⟨by simp, HE.out, KE.out⟩
      · have hvb : (v == 0) = false := by simp [hv0]
        have HEB := Lib.hid (show decide (v = 0) = false by simp [hv0])
        have HE := Lib.hid (H3.out.setB hne (bad || em))
        have KE := Lib.hid (K3.out.trans (KeepX.setL 1 (.bool (bad || em))))
        clear H3 K3 HNR hv hv0
        cases bad <;> cases em <;> cases db
        all_goals
          go_wp2_with fail
          go_ret
          exact ⟨by simp, by first | exact HE.out | (rw [HEB.out]; exact HE.out), KE.out⟩
/-- the words of a step as the reference takes them -/
noncomputable def stV (L : List ByteArray) : Stp := match L with
  | [a, b, c] => ⟨(lvW a).getD 0, (nbW b).getD 0, (nbW c).getD 0⟩
  | _ => ⟨0, 0, 0⟩
noncomputable def stN (L : List ByteArray) : Bool := match L with
  | [a, b, c] => ((lvW a).isNone || (nbW b).isNone) || (nbW c).isNone
  | _ => true
theorem stV_no {L : List ByteArray} (h : L.length ≠ 3) : stV L = ⟨0, 0, 0⟩ ∧ stN L = true := by
  rcases L with _ | ⟨a, _ | ⟨b, _ | ⟨c, _ | ⟨d, R⟩⟩⟩⟩
  all_goals first | exact ⟨rfl, rfl⟩ | exact absurd rfl h
def KeepG (g n : Nat) (w w' : World) : Prop := (∀ B, B ≤ g → B ≤ n → Below B w w') ∧ (∀ c T ds, c ≠ g → c < n → TBox w c T ds → TBox w' c T ds) ∧ w.heap.size ≤ w'.heap.size
theorem KeepG.of {g n : Nat} {w w' : World} (h : KeepX g g w w') (hn : n ≤ w.heap.size) : KeepG g n w w' := ⟨fun B h1 h2 => h.1 B h1 h1 (Nat.le_trans h2 hn), fun c T ds h1 _ hc => h.2.1 c T ds h1 h1 hc, h.2.2⟩
theorem KeepG.trans {g n : Nat} {w w1 w2 : World} (h : KeepG g n w w1) (k : KeepG g n w1 w2) : KeepG g n w w2 := ⟨fun B h1 h2 => (h.1 B h1 h2).trans (k.1 B h1 h2), fun c T ds h1 h2 hc => k.2.1 c T ds h1 h2 (h.2.1 c T ds h1 h2 hc), Nat.le_trans h.2.2 k.2.2⟩
theorem KeepG.set {g n c i : Nat} {w : World} {v : Value} (hc : n ≤ c) : KeepG g n w (w.setCell ⟨c, i, none⟩ v) :=
  ⟨fun B _ h2 => (Below.refl B w).setCell (p := ⟨c, i, none⟩) (Nat.le_trans h2 hc) v, fun d T ds _ h2 hd => hd.setOther (by omega) v, by simp⟩
theorem KeepG.keepX {g : Nat} {w w' : World} (h : KeepG g w.heap.size w w') : KeepX g g w w' := ⟨fun B h1 _ h2 => h.1 B h1 h2, fun c T ds h1 _ hc => h.2.1 c T ds h1 hc.lt hc, h.2.2⟩
theorem RX.setO {W : World} {g wb b i : Nat} {R : List ByteArray} {bad : Bool} {v : Value} (h : RX W g wb R bad) (h1 : g ≠ b) (h2 : wb ≠ b) : RX (W.setCell ⟨b, i, none⟩ v) g wb R bad := by
  obtain ⟨o, cap, k1, k2, k3, k4⟩ := h
  exact ⟨o, cap, k1.setOther h1 v, k2.setO h2, k3, k4⟩
set_option maxRecDepth 100000 in
set_option maxHeartbeats 8000000 in
theorem step_any (x : ByteArray) (R : List ByteArray) (g wb : Nat) (w : World) (h : RX w g wb (x :: R) false) (hne : wb ≠ g) (hwb : wb < w.heap.size) (hg : g < w.heap.size) (hx : x.size ≤ 5000) (hTx : ∀ W, KeepX g g w W → TextW W) :
    Calls Tryz.prog 17 #[.pointer (some ⟨g, 0, none⟩)] w fun e w' => e = .returned (.agg #[.int .i64 (stV (wordsB 58 x)).lv, .int .i64 (stV (wordsB 58 x)).hold, .int .i64 (stV (wordsB 58 x)).fade]) ∧ RX w' g wb R (stN (wordsB 58 x)) ∧ KeepX g g w w' := by
  have HB1 : Below w.heap.size w (w.alloc (.cells #[.int .i64 0, .int .i64 0, .int .i64 0] 44)) := (Below.refl _ _).alloc (Nat.le_refl _) _
  have HNX := Lib.hid (show Calls Tryz.prog 12 #[.pointer (some ⟨g, 0, none⟩)] (w.alloc (.cells #[.int .i64 0, .int .i64 0, .int .i64 0] 44)) fun e w' => e = .returned (.string x) ∧ RX w' g wb R false ∧ KeepX g g (w.alloc (.cells #[.int .i64 0, .int .i64 0, .int .i64 0] 44)) w' from next_any (x :: R) false g wb _ (h.below hwb HB1) hne (by simp; omega))
  have HZ1 := Lib.hid (show TBox (w.alloc (.cells #[.int .i64 0, .int .i64 0, .int .i64 0] 44)) w.heap.size 44 #[.int .i64 0, .int .i64 0, .int .i64 0] from TBox.new _ _ _)
  have K1 := Lib.hid (KeepX.of (a := g) (b := g) HB1)
  have HTX := Lib.hid hTx
  have HS1 : w.heap.size + 1 = (w.alloc (.cells #[.int .i64 0, .int .i64 0, .int .i64 0] 44)).heap.size := by simp
  have HSZ := Lib.hid HS1
  have CS := Lib.hid (fun W (hT : TextW W) => split_any 58 x W hT (by omega))
  have HSZW := Lib.hid (show ∀ y ∈ wordsB 58 x, y.size ≤ 5000 from fun y hy => Nat.le_trans (wordsB_size 58 x y hy) hx)
  have HPOST := Lib.hid (show ∀ (a b c : Int) (nn : Bool) (w' : World), (stV (wordsB 58 x)).lv = a → (stV (wordsB 58 x)).hold = b → (stV (wordsB 58 x)).fade = c → stN (wordsB 58 x) = nn → RX w' g wb R nn → KeepX g g w w' → (Ending.returned (.agg #[.int .i64 a, .int .i64 b, .int .i64 c]) = .returned (.agg #[.int .i64 (stV (wordsB 58 x)).lv, .int .i64 (stV (wordsB 58 x)).hold, .int .i64 (stV (wordsB 58 x)).fade]) ∧ RX w' g wb R (stN (wordsB 58 x)) ∧ KeepX g g w w') from fun a b c nn w' h1 h2 h3 h4 h5 h6 => by
    subst h1 h2 h3 h4
    exact ⟨rfl, h5, h6⟩)
  generalize wordsB 58 x = L at *
  clear h HB1 hTx hx HS1
  go_enter Tryz.func17, Tryz.ntmps17
  go_wp2_with fail
  refine HNX.out.mono ?_
  rintro e w2 ⟨rfl, h2, k2⟩
  have H2 := Lib.hid h2
  have K2 := Lib.hid (K1.out.trans k2)
  have HZ2 := Lib.hid (k2.2.1 _ _ _ (by omega) (by omega) HZ1.out)
  have HW2 : wb < w2.heap.size := Nat.lt_of_lt_of_le hwb K2.out.2.2
  have HG2 := Lib.hid (show w.heap.size + 1 ≤ w2.heap.size by rw [HSZ.out]; exact k2.2.2)
  clear h2 k2 HNX HZ1 K1 HSZ
  go_wp2_with fail
  refine (CS.out _ (HTX.out _ K2.out)).mono ?_
  rintro e w3 ⟨rfl, hrow, hb3, hlt3⟩
  have H3 := Lib.hid (H2.out.below HW2 hb3)
  have K3 := Lib.hid (K2.out.trans (KeepX.of hb3))
  have HZ3 := Lib.hid (HZ2.out.below hb3)
  have HW3 := Nat.lt_of_lt_of_le HW2 hb3.size
  have HG3 := Lib.hid (Nat.le_trans HG2.out hb3.size)
  clear hb3 H2 K2 HZ2 HW2 CS HTX
  by_cases h3 : L.length = 3
  rotate_left
  · obtain ⟨hv1, hv2⟩ := stV_no h3
    have HPO := Lib.hid (HPOST.out 0 0 0 true · (by rw [hv1]) (by rw [hv1]) (by rw [hv1]) hv2)
    have h3i : ¬ ((L.length : Int) = 3) := by omega
    have h3b : ((L.length : Int) != 3) = true := by simp [h3i]
    obtain ⟨o, cap, hB, _, _, _⟩ := H3.out
    have t1 := hB.cell (i := 1) rfl
    have tl := hB.lt
    have z1 := hB.frozen 1
    clear hB h3 hv1 hv2 hrow HSZW
    go_upto_region 4 with fail
    have H4 := Lib.hid (H3.out.setB hne true)
    have K4 := Lib.hid ((KeepG.of K3.out (Nat.le_refl _)).trans (KeepG.of (KeepX.setL 1 (.bool true)) (by have := HG3.out; omega)))
    have hZ := HZ3.out.setOther (i := 1) (show w.heap.size ≠ g by omega) (.bool true)
    clear t1 tl z1 H3 K3 HZ3
    generalize w3.setCell ⟨g, 1, none⟩ (.bool true) = w4 at *
    have HE := Lib.hid (((H4.out.setO (i := 0) (v := .int .i64 0) (show g ≠ w.heap.size by omega) (show wb ≠ w.heap.size by omega)).setO (i := 1) (v := .int .i64 0) (show g ≠ w.heap.size by omega) (show wb ≠ w.heap.size by omega)).setO (i := 2) (v := .int .i64 0) (show g ≠ w.heap.size by omega) (show wb ≠ w.heap.size by omega))
    have KE := Lib.hid ((((K4.out.trans (KeepG.set (i := 0) (v := .int .i64 0) (Nat.le_refl _))).trans (KeepG.set (i := 1) (v := .int .i64 0) (Nat.le_refl _))).trans (KeepG.set (i := 2) (v := .int .i64 0) (Nat.le_refl _))).keepX)
    have r0 := hZ.cell (i := 0) rfl
    have r1 := hZ.cell (i := 1) rfl
    have r2 := hZ.cell (i := 2) rfl
    have z0 := hZ.frozen 0
    have z1' := hZ.frozen 1
    have z2 := hZ.frozen 2
    have zl := hZ.lt
    have HXB : TBox (((w4.setCell ⟨w.heap.size, 0, none⟩ (.int .i64 0)).setCell ⟨w.heap.size, 1, none⟩ (.int .i64 0)).setCell ⟨w.heap.size, 2, none⟩ (.int .i64 0)) w.heap.size 44 #[.int .i64 0, .int .i64 0, .int .i64 0] := by
      have := ((hZ.set 0 (.int .i64 0)).set 1 (.int .i64 0)).set 2 (.int .i64 0)
      simpa using this
    have x0 := Lib.hid (HXB.cell (i := 0) rfl)
    have x1 := Lib.hid (HXB.cell (i := 1) rfl)
    have x2 := Lib.hid (HXB.cell (i := 2) rfl)
    clear hZ HXB
    go_wp2_with fail
    exact bodyPost_ret (v := .agg #[.int .i64 0, .int .i64 0, .int .i64 0]) (by have x0 := x0.out; have x1 := x1.out; have x2 := x2.out; simp [results, Tryz.results17, go_sem, x0, x1, x2]) rfl (HPO.out _ HE.out KE.out)
  obtain ⟨pa, pb, pc, rfl⟩ := slist3 h3
  clear h3
  have e0 : w3.cell? ⟨w2.heap.size, 0, none⟩ = some (.string pa) := hrow.head
  have e1 : w3.cell? ⟨w2.heap.size, 1, none⟩ = some (.string pb) := hrow.tail.head
  have e2 : w3.cell? ⟨w2.heap.size, 2, none⟩ = some (.string pc) := hrow.tail.tail.head
  have CA := Lib.hid (fun W => rlread_any pa W (Nat.le_trans (HSZW.out pa (by simp)) (by decide)))
  have CB := Lib.hid (fun W => rnumber_any pb W (Nat.le_trans (HSZW.out pb (by simp)) (by decide)))
  have CC := Lib.hid (fun W => rnumber_any pc W (Nat.le_trans (HSZW.out pc (by simp)) (by decide)))
  have HPO := Lib.hid (fun (a b c : Int) (nn : Bool) (w' : World) (h1 : (lvW pa).getD 0 = a) (h2 : (nbW pb).getD 0 = b) (h3 : (nbW pc).getD 0 = c) (h4 : (((lvW pa).isNone || (nbW pb).isNone) || (nbW pc).isNone) = nn) => HPOST.out a b c nn w' h1 h2 h3 h4)
  clear HPOST
  generalize lvW pa = va at *
  generalize nbW pb = vb at *
  generalize nbW pc = vc at *
  clear hrow HSZW
  go_wp2_with fail
  refine (CA.out _).mono ?_
  rintro e w4 ⟨rfl, hb⟩
  have e1 := (hb.cell (p := ⟨w2.heap.size, 1, none⟩) hlt3).trans e1
  have e2 := (hb.cell (p := ⟨w2.heap.size, 2, none⟩) hlt3).trans e2
  have H4 := Lib.hid (H3.out.below HW3 hb)
  have K4 := Lib.hid (K3.out.trans (KeepX.of hb))
  have HZ4 := Lib.hid (HZ3.out.below hb)
  have HW4 := Nat.lt_of_lt_of_le HW3 hb.size
  have HG4 := Lib.hid (Nat.le_trans HG3.out hb.size)
  have hlt4 := Nat.lt_of_lt_of_le hlt3 hb.size
  clear hb H3 K3 HZ3 HW3 HG3 hlt3 CA e0
  obtain ⟨fa, hfa⟩ : ∃ fa, (if va.isSome = true then (0 : Int) else 9) = fa := ⟨_, rfl⟩
  obtain ⟨ga, hga⟩ : ∃ ga, va.getD 0 = ga := ⟨_, rfl⟩
  rw [hfa, hga]
  have HFA := Lib.hid hfa
  have HGA := Lib.hid hga
  clear hfa hga
  go_wp2_with fail
  refine (CB.out _).mono ?_
  rintro e w5 ⟨rfl, hb⟩
  have e2 := (hb.cell (p := ⟨w2.heap.size, 2, none⟩) hlt4).trans e2
  have H5 := Lib.hid (H4.out.below HW4 hb)
  have K5 := Lib.hid (K4.out.trans (KeepX.of hb))
  have HZ5 := Lib.hid (HZ4.out.below hb)
  have HW5 := Nat.lt_of_lt_of_le HW4 hb.size
  have HG5 := Lib.hid (Nat.le_trans HG4.out hb.size)
  have hlt5 := Nat.lt_of_lt_of_le hlt4 hb.size
  clear hb H4 K4 HZ4 HW4 HG4 hlt4 CB e1
  obtain ⟨fb, hfb⟩ : ∃ fb, vb.isSome = fb := ⟨_, rfl⟩
  obtain ⟨gb, hgb⟩ : ∃ gb, vb.getD 0 = gb := ⟨_, rfl⟩
  rw [hfb, hgb]
  have HFB := Lib.hid hfb
  have HGB := Lib.hid hgb
  clear hfb hgb
  go_wp2_with fail
  refine (CC.out _).mono ?_
  rintro e w6 ⟨rfl, hb⟩
  have H6 := Lib.hid (H5.out.below HW5 hb)
  have K6 := Lib.hid (K5.out.trans (KeepX.of hb))
  have HZ6 := Lib.hid (HZ5.out.below hb)
  have HG6 := Lib.hid (Nat.le_trans HG5.out hb.size)
  clear hb H5 K5 HZ5 HW5 HG5 hlt5 CC e2
  obtain ⟨fc, hfc⟩ : ∃ fc, vc.isSome = fc := ⟨_, rfl⟩
  obtain ⟨gc, hgc⟩ : ∃ gc, vc.getD 0 = gc := ⟨_, rfl⟩
  rw [hfc, hgc]
  have HFC := Lib.hid hfc
  have HGC := Lib.hid hgc
  clear hfc hgc
  obtain ⟨nn, hnn⟩ : ∃ nn, ((va.isNone || vb.isNone) || vc.isNone) = nn := ⟨_, rfl⟩
  have HNN := Lib.hid hnn
  clear hnn
  go_upto_region 8 with fail
  have H7 := Lib.hid (H6.out.setB hne nn)
  have K7 := Lib.hid ((KeepG.of K6.out (Nat.le_refl _)).trans (KeepG.of (KeepX.setL 1 (.bool nn)) (by have := HG6.out; omega)))
  have HZ7 := Lib.hid (HZ6.out.setOther (i := 1) (show w.heap.size ≠ g by omega) (.bool nn))
  have HCUT := Lib.hid (show fa = (if va.isSome = true then 0 else 9) ∧ fb = vb.isSome ∧ fc = vc.isSome ∧ nn = ((va.isNone || vb.isNone) || vc.isNone) from ⟨HFA.out.symm, HFB.out.symm, HFC.out.symm, HNN.out.symm⟩)
  obtain ⟨o, cap, hB, _, _, _⟩ := H6.out
  have t1 := hB.cell (i := 1) rfl
  have tl := hB.lt
  have z1 := hB.frozen 1
  have HPE := Lib.hid (HPO.out ga gb gc nn · HGA.out HGB.out HGC.out HNN.out)
  clear hB H6 K6 HZ6 HFA HFB HFC HNN HGA HGB HGC HPO
  go_cut [] (fun wx => wx = w6.setCell ⟨g, 1, none⟩ (.bool nn))
  case first =>
    cases va <;> cases vb <;> cases vc
    all_goals
      obtain ⟨k1, k2, k3, k4⟩ := HCUT.out
      simp only [Option.isSome_none, Option.isSome_some, Option.isNone_none, Option.isNone_some, Bool.false_eq_true, if_false, if_true, Bool.or_true, Bool.true_or, Bool.or_false] at k1 k2 k3 k4
      subst k1 k2 k3 k4
      clear H7 K7 HZ7 HCUT HPE
      go_wp2_with fail
      go_meet
      rfl
  case rest =>
  subst hcut
  clear t1 tl z1
  generalize w6.setCell ⟨g, 1, none⟩ (.bool nn) = w7 at *
  have hZ := HZ7.out
  have HE := Lib.hid (((H7.out.setO (i := 0) (v := .int .i64 ga) (show g ≠ w.heap.size by omega) (show wb ≠ w.heap.size by omega)).setO (i := 1) (v := .int .i64 gb) (show g ≠ w.heap.size by omega) (show wb ≠ w.heap.size by omega)).setO (i := 2) (v := .int .i64 gc) (show g ≠ w.heap.size by omega) (show wb ≠ w.heap.size by omega))
  have KE := Lib.hid ((((K7.out.trans (KeepG.set (i := 0) (v := .int .i64 ga) (Nat.le_refl _))).trans (KeepG.set (i := 1) (v := .int .i64 gb) (Nat.le_refl _))).trans (KeepG.set (i := 2) (v := .int .i64 gc) (Nat.le_refl _))).keepX)
  have r0 := hZ.cell (i := 0) rfl
  have r1 := hZ.cell (i := 1) rfl
  have r2 := hZ.cell (i := 2) rfl
  have z0 := hZ.frozen 0
  have z1' := hZ.frozen 1
  have z2 := hZ.frozen 2
  have zl := hZ.lt
  have HXB : TBox (((w7.setCell ⟨w.heap.size, 0, none⟩ (.int .i64 ga)).setCell ⟨w.heap.size, 1, none⟩ (.int .i64 gb)).setCell ⟨w.heap.size, 2, none⟩ (.int .i64 gc)) w.heap.size 44 #[.int .i64 ga, .int .i64 gb, .int .i64 gc] := by
    have := ((hZ.set 0 (.int .i64 ga)).set 1 (.int .i64 gb)).set 2 (.int .i64 gc)
    simpa using this
  have x0 := Lib.hid (HXB.cell (i := 0) rfl)
  have x1 := Lib.hid (HXB.cell (i := 1) rfl)
  have x2 := Lib.hid (HXB.cell (i := 2) rfl)
  clear hZ HXB
  go_wp2_with fail
  exact bodyPost_ret (v := .agg #[.int .i64 ga, .int .i64 gb, .int .i64 gc]) (by have x0 := x0.out; have x1 := x1.out; have x2 := x2.out; simp [results, Tryz.results17, go_sem, x0, x1, x2]) rfl (HPE.out _ HE.out KE.out)
end Go.Proofs.YtfidbdegggalmaaGreatDoor
