/- The reference's ReadCurve at any text (printed by gen/gen_rreadcurve.py). -/
import Derived.Test.YtdicoggpcobbpaaDoorRCurveText
import Derived.Test.YtdicoggpcobbpaaDoorCurvePlain
import Derived.Test.YtdicoggpcobbpaaDoorRNumber
namespace Go.Proofs.YtdicoggpcobbpaaDoor
open Go.RowKit
open Classical
set_option linter.unusedVariables false
set_option linter.unusedSimpArgs false

theorem bytes_ne {a b : ByteArray} (h : a.data.toList ≠ b.data.toList) : ¬ a = b := fun e => h (by rw [e])
theorem idx_hit (k : Nat) (h1 : 1 ≤ k) (h5 : k ≤ 5) : Lib.idxOfS (kindsL.take 6) (kindB k) = k := by
  have hk : k = 1 ∨ k = 2 ∨ k = 3 ∨ k = 4 ∨ k = 5 := by omega
  rw [show kindsL.take 6 = kindsL from rfl]
  rcases hk with rfl | rfl | rfl | rfl | rfl
  · rw [show kindB 1 = ⟨#[108, 105, 110, 101, 97, 114]⟩ from rfl, show ((1 : Nat) : Int) = 1 from rfl]
    unfold Lib.idxOfS kindsL
    simp only [Lib.idxFromS, if_neg (bytes_ne (a := ⟨#[]⟩) (b := ⟨#[108, 105, 110, 101, 97, 114]⟩) (by decide)), if_true]
    first | rfl | (simp; done)
  · rw [show kindB 2 = ⟨#[115, 108, 111, 119]⟩ from rfl, show ((2 : Nat) : Int) = 2 from rfl]
    unfold Lib.idxOfS kindsL
    simp only [Lib.idxFromS, if_neg (bytes_ne (a := ⟨#[]⟩) (b := ⟨#[115, 108, 111, 119]⟩) (by decide)), if_neg (bytes_ne (a := ⟨#[108, 105, 110, 101, 97, 114]⟩) (b := ⟨#[115, 108, 111, 119]⟩) (by decide)), if_true]
    first | rfl | (simp; done)
  · rw [show kindB 3 = ⟨#[102, 97, 115, 116]⟩ from rfl, show ((3 : Nat) : Int) = 3 from rfl]
    unfold Lib.idxOfS kindsL
    simp only [Lib.idxFromS, if_neg (bytes_ne (a := ⟨#[]⟩) (b := ⟨#[102, 97, 115, 116]⟩) (by decide)), if_neg (bytes_ne (a := ⟨#[108, 105, 110, 101, 97, 114]⟩) (b := ⟨#[102, 97, 115, 116]⟩) (by decide)), if_neg (bytes_ne (a := ⟨#[115, 108, 111, 119]⟩) (b := ⟨#[102, 97, 115, 116]⟩) (by decide)), if_true]
    first | rfl | (simp; done)
  · rw [show kindB 4 = ⟨#[115, 111, 102, 116]⟩ from rfl, show ((4 : Nat) : Int) = 4 from rfl]
    unfold Lib.idxOfS kindsL
    simp only [Lib.idxFromS, if_neg (bytes_ne (a := ⟨#[]⟩) (b := ⟨#[115, 111, 102, 116]⟩) (by decide)), if_neg (bytes_ne (a := ⟨#[108, 105, 110, 101, 97, 114]⟩) (b := ⟨#[115, 111, 102, 116]⟩) (by decide)), if_neg (bytes_ne (a := ⟨#[115, 108, 111, 119]⟩) (b := ⟨#[115, 111, 102, 116]⟩) (by decide)), if_neg (bytes_ne (a := ⟨#[102, 97, 115, 116]⟩) (b := ⟨#[115, 111, 102, 116]⟩) (by decide)), if_true]
    first | rfl | (simp; done)
  · rw [show kindB 5 = ⟨#[115, 116, 101, 112]⟩ from rfl, show ((5 : Nat) : Int) = 5 from rfl]
    unfold Lib.idxOfS kindsL
    simp only [Lib.idxFromS, if_neg (bytes_ne (a := ⟨#[]⟩) (b := ⟨#[115, 116, 101, 112]⟩) (by decide)), if_neg (bytes_ne (a := ⟨#[108, 105, 110, 101, 97, 114]⟩) (b := ⟨#[115, 116, 101, 112]⟩) (by decide)), if_neg (bytes_ne (a := ⟨#[115, 108, 111, 119]⟩) (b := ⟨#[115, 116, 101, 112]⟩) (by decide)), if_neg (bytes_ne (a := ⟨#[102, 97, 115, 116]⟩) (b := ⟨#[115, 116, 101, 112]⟩) (by decide)), if_neg (bytes_ne (a := ⟨#[115, 111, 102, 116]⟩) (b := ⟨#[115, 116, 101, 112]⟩) (by decide)), if_true]
    first | rfl | (simp; done)
theorem idx_miss (s : ByteArray) (h : ∀ k, 1 ≤ k → k ≤ 5 → kindB k ≠ s) : Lib.idxOfS (kindsL.take 6) s ≤ 0 := by
  have h1 : ¬ (⟨#[108, 105, 110, 101, 97, 114]⟩ : ByteArray) = s := h 1 (by omega) (by omega)
  have h2 : ¬ (⟨#[115, 108, 111, 119]⟩ : ByteArray) = s := h 2 (by omega) (by omega)
  have h3 : ¬ (⟨#[102, 97, 115, 116]⟩ : ByteArray) = s := h 3 (by omega) (by omega)
  have h4 : ¬ (⟨#[115, 111, 102, 116]⟩ : ByteArray) = s := h 4 (by omega) (by omega)
  have h5 : ¬ (⟨#[115, 116, 101, 112]⟩ : ByteArray) = s := h 5 (by omega) (by omega)
  rw [show kindsL.take 6 = kindsL from rfl]
  unfold Lib.idxOfS kindsL
  simp only [Lib.idxFromS, if_neg h1, if_neg h2, if_neg h3, if_neg h4, if_neg h5]
  split <;> omega
theorem callIdx (s : ByteArray) (w : World) : Calls Tryd.prog 56 #[.slice (some ⟨w.heap.size, 0, none⟩) 6 6, .string s] (w.alloc kindsO) fun e w' => e = .returned (.int .i64 (Lib.idxOfS (kindsL.take 6) s)) ∧ w' = w.alloc kindsO :=
  Tryd.slices_Index_string w.heap.size 0 6 6 kindsL s (w.alloc kindsO) (by decide) (by omega) (fun j hj => by
    have h6 : j < 6 := hj
    rw [Nat.zero_add, kindsO_cell w j h6, List.getElem?_eq_getElem (show j < kindsL.length from hj)]
    rw [List.getD_eq_getElem?_getD, List.getElem?_eq_getElem (show j < kindsL.length from hj)]
    rfl)
/-- a kind without points, alone -/
theorem read_kind (k : Nat) (h1 : 1 ≤ k) (h5 : k ≤ 5) : readC (wordsB 32 (kindB k)) = ⟨k, []⟩ ∧ readE (wordsB 32 (kindB k)) = 0 := by
  have hc : checkC ⟨(k : Int), []⟩ = 0 := by
    unfold checkC
    have e1 : ¬ ¬ (1 ≤ (k : Int) ∧ (k : Int) ≤ 6) := fun h => h ⟨by omega, by omega⟩
    rw [if_neg e1, if_pos (show (k : Int) ≠ 6 by omega), if_neg (by simp)]
  have := text_read ⟨(k : Int), []⟩ hc
  have e : curveT ⟨(k : Int), []⟩ = kindB k := by
    show strTo (kindB ((k : Nat) : Int).toNat) [] = kindB k
    rw [show ((k : Nat) : Int).toNat = k by simp]
    rfl
  rwa [e] at this
/-- a text that is no such kind, and does not begin with 'table', is not read -/
theorem read_other (s x : ByteArray) (r : List ByteArray) (hL : wordsB 32 s = x :: r) (h : ∀ k, 1 ≤ k → k ≤ 5 → kindB k ≠ s) (hx : kindB 6 ≠ x) : ¬ GoodW (x :: r) := by
  rintro ⟨a, b, hab, h1, h2, _⟩
  obtain ⟨rfl, rfl⟩ := List.cons.inj hab
  obtain ⟨j, j1, j6, hj, hk⟩ := kindTo_some x 7 h1
  have hj6 : j ≠ 6 := by rintro rfl; exact hx hj
  rcases h2 with h2 | h2
  · omega
  · subst h2
    have hw := wordsB_spl 32 s
    rw [hL] at hw
    have hs := join_spl 32 _ s.data.toList (Nat.le_refl _)
    rw [← hw] at hs
    exact h j j1 (by omega) (hj.trans (bytes_eq' hs))
theorem kind_six : kindTo (kindB 6) 7 = 6 := kindTo_hit _ 7 6 (by omega) (by omega) (by omega) rfl

set_option maxHeartbeats 4000000 in
set_option maxRecDepth 100000 in
theorem rreadCurve_k (k : Nat) (w : World) (h1 : 1 ≤ k) (h5 : k ≤ 5) :
    Calls Tryd.prog 23 #[.string (kindB k)] w (InvPost w ⟨k, []⟩ 0) := by
  have CI := Lib.hid (show Calls Tryd.prog 56 #[.slice (some ⟨w.heap.size + 1, 0, none⟩) 6 6, .string (kindB k)] ((w.alloc (.cells #[.int .i64 0, .slice none 0 0] 31)).alloc kindsO) fun e w' => e = .returned (.int .i64 (Lib.idxOfS (kindsL.take 6) (kindB k))) ∧ w' = (w.alloc (.cells #[.int .i64 0, .slice none 0 0] 31)).alloc kindsO from by
    have h := callIdx (kindB k) (w.alloc (.cells #[.int .i64 0, .slice none 0 0] 31))
    rw [show (w.alloc (.cells #[.int .i64 0, .slice none 0 0] 31)).heap.size = w.heap.size + 1 from by simp] at h
    exact h)
  rw [idx_hit k h1 h5] at CI
  generalize kindB k = s at *
  go_enter Tryd.func23, Tryd.ntmps23
  go_wp2_with fail
  refine (words_any _).mono ?_
  rintro e w1 ⟨rfl, rfl⟩
  go_wp2_with fail
  refine CI.out.mono ?_
  rintro e w1 ⟨rfl, rfl⟩
  have HB := Lib.hid (show Below w.heap.size w ((w.alloc (.cells #[.int .i64 0, .slice none 0 0] 31)).alloc kindsO) from ((Below.refl _ _).alloc (Nat.le_refl _) _).alloc (by simp) _)
  generalize kindsO = ko at *
  go_wp2
  refine bodyPost_ret (v := .tuple #[.agg #[.int .i64 k, .slice none 0 0], .int .i64 0]) (by simp [results, Tryd.results23, go_sem, *]) rfl ⟨.agg #[.int .i64 k, .slice none 0 0], rfl, ⟨_, rfl, .inl ⟨rfl, _, _, rfl⟩⟩, ((Below.refl _ _).alloc (Nat.le_refl _) _).alloc (by simp) _⟩

set_option maxHeartbeats 8000000 in
set_option maxRecDepth 100000 in
theorem rreadCurve_a (s : ByteArray) (x : ByteArray) (r : List ByteArray) (w : World) (hT : TextW w) (hs : s.size < 4294967281) (hL : wordsB 32 s = x :: r) (hno : ∀ k, 1 ≤ k → k ≤ 5 → kindB k ≠ s) :
    Calls Tryd.prog 23 #[.string s] w (InvPost w (readC (x :: r)) (readE (x :: r))) := by
  have CI := Lib.hid (show Calls Tryd.prog 56 #[.slice (some ⟨w.heap.size + 1, 0, none⟩) 6 6, .string s] ((w.alloc (.cells #[.int .i64 0, .slice none 0 0] 31)).alloc kindsO) fun e w' => e = .returned (.int .i64 (Lib.idxOfS (kindsL.take 6) s)) ∧ w' = (w.alloc (.cells #[.int .i64 0, .slice none 0 0] 31)).alloc kindsO from by
    have h := callIdx s (w.alloc (.cells #[.int .i64 0, .slice none 0 0] 31))
    rw [show (w.alloc (.cells #[.int .i64 0, .slice none 0 0] 31)).heap.size = w.heap.size + 1 from by simp] at h
    exact h)
  have hi0 := idx_miss s hno
  have CS := Lib.hid (fun W (hb : Below w.heap.size w W) => split_any 32 s W (hT.below hb) hs)
  rw [hL] at CS
  have hlen : r.length ≤ s.size := by have := wordsB_le 32 s; rw [hL] at this; simpa using this
  have HSZ := Lib.hid (fun y (hy : y ∈ x :: r) => wordsB_size 32 s y (by rw [hL]; exact hy))
  have HOTH := Lib.hid (fun hx => read_other s x r hL hno hx)
  generalize Lib.idxOfS (kindsL.take 6) s = ix at *
  have hix : ¬ (0 < ix) := by omega
  clear hT hL hno
  go_enter Tryd.func23, Tryd.ntmps23
  go_wp2_with fail
  refine (words_any _).mono ?_
  rintro e w0 ⟨rfl, rfl⟩
  go_wp2_with fail
  refine CI.out.mono ?_
  rintro e w0 ⟨rfl, rfl⟩
  have hX0 : Below (w.heap.size + 1) (w.alloc (.cells #[.int .i64 0, .slice none 0 0] 31)) ((w.alloc (.cells #[.int .i64 0, .slice none 0 0] 31)).alloc kindsO) := (Below.refl _ _).alloc (by simp) _
  generalize ((w.alloc (.cells #[.int .i64 0, .slice none 0 0] 31)).alloc kindsO) = wa at *
  have hbwa : Below w.heap.size w wa := ((Below.refl _ _).alloc (Nat.le_refl _) _).trans (hX0.mono (by omega))
  have hza : w.heap.size + 1 ≤ wa.heap.size := by have := hX0.size; simp at this; omega
  go_wp2_with fail
  refine (CS.out _ hbwa).mono ?_
  rintro e w1 ⟨rfl, hrow, hb1, hz1⟩
  have hX1 : Below (w.heap.size + 1) (w.alloc (.cells #[.int .i64 0, .slice none 0 0] 31)) w1 := hX0.trans (hb1.mono hza)
  have hbw : Below w.heap.size w w1 := ((Below.refl _ _).alloc (Nat.le_refl _) _).trans (hX1.mono (by omega))
  have HR := Lib.hid hrow
  have HX1 := Lib.hid hX1
  have hx0 : w1.cell? ⟨wa.heap.size, 0, none⟩ = some (.string x) := by have := hrow 0 (by simp); simpa using this
  have r0 : w1.cell? ⟨w.heap.size, 0, none⟩ = some (.int .i64 0) := (hX1.cell (p := ⟨w.heap.size, 0, none⟩) (by show w.heap.size < _; omega)).trans (by simp [go_sem])
  have r1 : w1.cell? ⟨w.heap.size, 1, none⟩ = some (.slice none 0 0) := (hX1.cell (p := ⟨w.heap.size, 1, none⟩) (by show w.heap.size < _; omega)).trans (by simp [go_sem])
  have q0 : w1.frozen? ⟨w.heap.size, 0, none⟩ = false := (hX1.frozen (p := ⟨w.heap.size, 0, none⟩) (by show w.heap.size < _; omega)).trans (by simp [go_sem])
  have q1 : w1.frozen? ⟨w.heap.size, 1, none⟩ = false := (hX1.frozen (p := ⟨w.heap.size, 1, none⟩) (by show w.heap.size < _; omega)).trans (by simp [go_sem])
  have hz0 : wa.heap.size < w1.heap.size := hz1
  clear hrow hb1 hX0 hX1 hz1 hbwa CI
  by_cases hx : kindB 6 = x
  · have HG := Lib.hid (show GoodW (x :: r) ↔ ∀ y ∈ r, PairOk 58 y from by
      constructor
      · rintro ⟨a, b, hab, _, _, h3⟩
        obtain ⟨rfl, rfl⟩ := List.cons.inj hab
        exact h3
      · intro h
        refine ⟨x, r, rfl, ?_, ?_, h⟩
        · rw [← hx, kind_six]; omega
        · left; rw [← hx, kind_six])
    have HC := Lib.hid (show rawC (x :: r) = ⟨6, r.map (pairV 58)⟩ from by
      show (⟨kindTo x 7, r.map (pairV 58)⟩ : Cv) = _
      rw [← hx, kind_six])
    have hxl2 : x.toList = [116, 97, 98, 108, 101] := by rw [← hx, Lib.toList_data]; rfl
    have hxl : (x.toList == [116, 97, 98, 108, 101]) = true := by rw [hxl2]; rfl
    clear hx HOTH
    obtain ⟨i0, hi, hz0', hz1', hz2'⟩ := info_parts infoPoint
    have HBW := Lib.hid hbw
    clear hbw
    by_cases hr : r = []
    · subst hr
      have HGood := Lib.hid (HG.out.2 (by simp))
      rw [List.map_nil] at HC
      have CK := Lib.hid (fun (W : World) => rcheckCurve_any (.agg #[.int .i64 6, .slice none 0 0]) ⟨6, []⟩ W ⟨_, rfl, .inl ⟨rfl, _, _, rfl⟩⟩)
      have hF : checkC ⟨6, []⟩ = 8 := by unfold checkC; simp
      have HN := Lib.hid (show readC [x] = ⟨0, []⟩ ∧ readE [x] = 8 from by
        unfold readC readE
        rw [HC.out, hF, if_neg (fun h => by have := h.2; omega), if_pos HGood.out]
        exact ⟨rfl, rfl⟩)
      rw [hF] at CK
      clear HG HC HGood hF
      go_wp2_with fail
      go_loop [35] (fun i => i = .int .i64 0) (fun _ => 0)
      case atStart => rfl
      case round =>
        subst hrel
        go_wp2_with fail
        refine (CK.out _).mono ?_
        rintro e w2 ⟨rfl, hb2⟩
        have hal : Below w1.heap.size w1 (w1.alloc (.cells #[.int .i64 6, .slice none 0 0] 31)) := (Below.refl _ _).alloc (Nat.le_refl _) _
        have hlw : ∀ o, (⟨w.heap.size, o, none⟩ : Addr).block < (w1.alloc (.cells #[.int .i64 6, .slice none 0 0] 31)).heap.size := fun o => by show w.heap.size < _; simp; omega
        have s0 := (hb2.cell (p := ⟨w.heap.size, 0, none⟩) (hlw 0)).trans ((hal.cell (p := ⟨w.heap.size, 0, none⟩) (by show w.heap.size < _; omega)).trans r0)
        have s1 := (hb2.cell (p := ⟨w.heap.size, 1, none⟩) (hlw 1)).trans ((hal.cell (p := ⟨w.heap.size, 1, none⟩) (by show w.heap.size < _; omega)).trans r1)
        have p0 := (hb2.frozen (p := ⟨w.heap.size, 0, none⟩) (hlw 0)).trans ((hal.frozen (p := ⟨w.heap.size, 0, none⟩) (by show w.heap.size < _; omega)).trans q0)
        have p1 := (hb2.frozen (p := ⟨w.heap.size, 1, none⟩) (hlw 1)).trans ((hal.frozen (p := ⟨w.heap.size, 1, none⟩) (by show w.heap.size < _; omega)).trans q1)
        clear hal hlw
        have hsz2 := hb2.size
        have HB2 := Lib.hid (HBW.out.trans (((Below.refl _ _).alloc (Nat.le_refl _) _ |>.mono HBW.out.size).trans (hb2.mono (by have := HBW.out.size; simp; omega))))
        clear hb2 r0 r1 q0 q1
        go_wp2
        refine bodyPost_ret (v := .tuple #[.agg #[.int .i64 0, .slice none 0 0], .int .i64 8]) (by simp [results, Tryd.results23, go_sem, *]) rfl ⟨.agg #[.int .i64 0, .slice none 0 0], by rw [HN.out.2], by rw [HN.out.1]; exact ⟨_, rfl, .inl ⟨rfl, _, _, rfl⟩⟩, (HB2.out.setCell (by simp) _).setCell (by simp) _⟩
    · have hr1 : 1 ≤ r.length := List.length_pos_iff.2 hr
      go_wp2_with fail
      go_loopw [35] (fun i wq => ∃ (k : Nat) (v : Value), k ≤ r.length ∧ i = .int .i64 k ∧ Hid (∀ j (h : j < r.length), j < k → PairOk 58 r[j]) ∧ wq.cell? ⟨w1.heap.size, 0, none⟩ = some (.int .i64 6) ∧ wq.cell? ⟨w1.heap.size, 1, none⟩ = some v ∧ wq.frozen? ⟨w1.heap.size, 1, none⟩ = false ∧
          wq.ownsRow (w1.heap.size + 1) 63 2 v k (ptCells ((r.map (pairV 58)).take k)) ∧ Below w1.heap.size w1 wq ∧ w1.heap.size < wq.heap.size) (fun i _ => r.length - (intOf i).toNat)
      case atStart => exact ⟨0, .slice none 0 0, by omega, rfl, fun j h hj => absurd hj (by omega), by simp [go_sem], by simp [go_sem], by simp [go_sem], by rw [List.take_zero]; exact World.ownsRow_nil _ _ _ _, below1, by simp⟩
      case round =>
        obtain ⟨k, v, hk, rfl, HALL, f0, f1, f3, hown, hbq, hz⟩ := hrel
        obtain ⟨ao, vc, rfl⟩ := own_shape hown
        have OWN := Lib.hid hown
        have z0 := (hbq.cell (p := ⟨w.heap.size, 0, none⟩) (by show w.heap.size < _; omega)).trans r0
        have z1 := (hbq.cell (p := ⟨w.heap.size, 1, none⟩) (by show w.heap.size < _; omega)).trans r1
        have y0 := (hbq.frozen (p := ⟨w.heap.size, 0, none⟩) (by show w.heap.size < _; omega)).trans q0
        have y1 := (hbq.frozen (p := ⟨w.heap.size, 1, none⟩) (by show w.heap.size < _; omega)).trans q1
        clear r0 r1 q0 q1
        have hbwr2 : Below w.heap.size w wr := HBW.out.trans (hbq.mono (by omega))
        by_cases hlt : k < r.length
        · have hcell : wr.cell? ⟨wa.heap.size, 1 + k, none⟩ = some (.string r[k]) := by
            have h1 := (hbq.cell (p := ⟨wa.heap.size, 1 + k, none⟩) (by exact hz0))
            have h2 := HR.out (k + 1) (by simp; omega)
            simp only [Nat.zero_add, List.getElem_cons_succ] at h2
            rw [h1, Nat.add_comm 1 k]
            exact h2
          have hrs := HSZ.out r[k] (by simp)
          have CC := Lib.hid (fun W => cut_one r[k] 58 W (by omega))
          have la := cutA_le r[k] 58
          have lb := cutB_le r[k] 58
          by_cases hp : PairOk 58 r[k]
          · have HNX := Lib.hid (show ∀ j (h : j < r.length), j < k + 1 → PairOk 58 r[j] from fun j h hj => by
              by_cases e : j = k
              · subst e; exact hp
              · exact HALL.out j h (by omega))
            have HT := Lib.hid (show ptCells ((r.map (pairV 58)).take (k + 1)) = ptCells ((r.map (pairV 58)).take k) ++ [.int .i64 (pairV 58 r[k]).1, .int .i64 (pairV 58 r[k]).2] from by
              rw [List.take_succ_eq_append_getElem (by simpa using hlt), ptCells_snoc, List.getElem_map])
            have CA := Lib.hid (fun W => rnumber_ok (cutA r[k] 58) 9 W (by omega) hp.2.1)
            have CB := Lib.hid (fun W => rnumber_ok (cutB r[k] 58) 9 W (by omega) hp.2.2)
            rw [decide_eq_true hp.1] at CC
            rw [show pairV 58 r[k] = ((valS (cutA r[k] 58) : Int), (valS (cutB r[k] 58) : Int)) from rfl] at HT
            generalize cutA r[k] 58 = ca at *
            generalize cutB r[k] 58 = cb at *
            generalize (valS ca : Int) = pv1 at *
            generalize (valS cb : Int) = pv2 at *
            clear hp hown HALL
            go_wp2_with fail
            refine (CC.out _).mono ?_
            rintro e wb ⟨rfl, hb3⟩
            have hbb := hb3
            clear hb3
            go_wp2_with fail
            refine (CA.out _).mono ?_
            rintro e wc ⟨rfl, hb3⟩
            have hbc := bt hbb hb3
            clear hb3 hbb
            go_wp2_with fail
            refine (CB.out _).mono ?_
            rintro e w3 ⟨rfl, hb4⟩
            have hb3 := bt hbc hb4
            clear hb4 hbc
            have hown3 := own_up OWN.out hb3 (fun g hg => (OWN.out.lt g hg).2)
            have f0' := (hb3.cell (p := ⟨w1.heap.size, 0, none⟩) hz).trans f0
            have f1' := (hb3.cell (p := ⟨w1.heap.size, 1, none⟩) hz).trans f1
            have f3' := (hb3.frozen (p := ⟨w1.heap.size, 1, none⟩) hz).trans f3
            have hbq3 : Below w1.heap.size w1 w3 := hbq.trans (hb3.mono hbq.size)
            have hz3 : w1.heap.size < w3.heap.size := Nat.lt_of_lt_of_le hz hb3.size
            have hsz1 : w1.heap.size < w3.heap.size + 1 := by omega
            clear hb3 f0 f1 f3 hbq hz z0 z1 y0 y1 hbwr2 hcell OWN
            go_wp2_with (first
              | (at_builtin; refine wpList_append_own _ rfl _ _ 29 rfl (w1.heap.size + 1) 63 i0 (.agg #[.int .i64 0, .int .i64 0]) 2 16 Tryd.underlying29 hi hz0' hz1' hz2' rfl (by decide) _ _ _ rfl (hown3.alloc _) ⟨w3.heap.size, 0, none⟩ 1 1 [.int .i64 pv1, .int .i64 pv2] rfl rfl ?c1 ?c2 ?c3 ?c4 ?c5 ?_))
            case c1 =>
              intro q u hq
              match q, hq with
              | 0, hq => simp at hq; subst hq; simp [Addr.add, go_sem]
              | 1, hq => simp at hq; subst hq; simp [Addr.add, go_sem]
            case c2 => intro u hu; simp at hu; rcases hu with rfl | rfl <;> rfl
            case c3 => unfold maxLen; omega
            case c4 => omega
            case c5 => simp; omega
            · intro v' w4 hown4 hgrow _
              have hlt4 := hown3.lt
              have hne : some w1.heap.size ≠ (Value.slice ao k vc).ownBlock := fun e => by have := (hlt4 _ e.symm).1; omega
              have g0 : w4.cell? ⟨w1.heap.size, 0, none⟩ = some (.int .i64 6) := hgrow.cell (by simp [go_sem, f0', hz3, hsz1]) hne
              have g1 : w4.cell? ⟨w1.heap.size, 1, none⟩ = some (.slice ao k vc) := hgrow.cell (by simp [go_sem, f1', hz3, hsz1]) hne
              have g2 : w4.frozen? ⟨w1.heap.size, 1, none⟩ = false := by
                refine (World.frozen?_of_block (hgrow.block w1.heap.size (by simp; omega) hne)).trans ?_
                simp [go_sem, f3', hz3, hsz1]
              have hb4 : Below w1.heap.size w1 w4 := (hbq3.alloc (by omega) _).grown hgrow (by simp; omega) (fun k e => by have := (hlt4 _ e).1; omega)
              have hz4 : w1.heap.size < w4.heap.size := by have := hgrow.size; simp at this; omega
              rw [← HT.out] at hown4
              obtain ⟨ao2, vc2, hv2⟩ := own_shape hown4
              rw [hv2] at hown4 ⊢
              have HO4 := Lib.hid hown4
              clear hv2
              have HLT := Lib.hid hlt4
              have HNE := Lib.hid hne
              clear hown4 hown3 hgrow hlt4 hne f0' f1' f3'
              go_wp2
              go_roundw
              case rel =>
                first
                  | exact ⟨k + 1, .slice ao2 (k + 1) vc2, by omega, by go_num, HNX, by simp [go_sem, g0], by simp [go_sem, g1], by simp [go_sem, g2], ownsRow_setCell_below HO4.out (by show w1.heap.size < _; omega) _, hb4.setCell (Nat.le_refl _) _, by simpa [World.setCell] using hz4⟩
                  | ((repeat apply Exists.intro); refine ⟨⟨k + 1, .slice ao2 (k + 1) vc2, by omega, by go_num, HNX, by simp [go_sem, g0], by simp [go_sem, g1], by simp [go_sem, g2], ownsRow_setCell_below HO4.out (by show w1.heap.size < _; omega) _, hb4.setCell (Nat.le_refl _) _, by simpa [World.setCell] using hz4⟩, ?_⟩; (first | exact rfl | (repeat (first | exact rfl | refine ⟨rfl, ?_⟩))))
              case measure => simp [intOf]; omega
          · have HN := Lib.hid (show readC (x :: r) = ⟨0, []⟩ ∧ readE (x :: r) = 9 from by
              have hn : ¬ GoodW (x :: r) := fun h => hp (HG.out.1 h _ (List.getElem_mem _))
              unfold readC readE
              rw [if_neg (fun h => hn h.1), if_neg hn]
              exact ⟨rfl, rfl⟩)
            have nine : ∀ t : ByteArray, t.size ≤ r[k].size → ∃ (n : Int) (y : Bool), (y = true ↔ NumS t 9) ∧ ∀ W, Calls Tryd.prog 57 #[.string t, .int .i64 9] W fun e w' => e = .returned (.tuple #[.int .i64 n, .bool y]) ∧ Below W.heap.size W w' := by
              intro t ht
              by_cases hN : NumS t 9
              · exact ⟨_, true, by simp [hN], fun W => rnumber_ok t 9 W (by omega) hN⟩
              · exact ⟨_, false, by simp [hN], fun W => rnumber_no t 9 W (by omega) (by omega) hN⟩
            obtain ⟨n1, y1', hy1, hA⟩ := nine _ la
            obtain ⟨n2, y2', hy2, hB⟩ := nine _ lb
            have CA := Lib.hid hA
            have CB := Lib.hid hB
            have hall : ¬ (decide (0 ≤ cutI r[k] 58) = true ∧ y1' = true ∧ y2' = true) := fun h => hp ⟨of_decide_eq_true h.1, hy1.1 h.2.1, hy2.1 h.2.2⟩
            generalize cutA r[k] 58 = ca at *
            generalize cutB r[k] 58 = cb at *
            generalize decide (0 ≤ cutI r[k] 58) = ci at *
            clear hp hown HALL OWN f0 f1 f3 nine hA hB hy1 hy2
            cases ci <;> cases y1' <;> cases y2'
            all_goals first
              | exact absurd ⟨rfl, rfl, rfl⟩ hall
              | (clear hall
                 go_wp2_with fail
                 refine (CC.out _).mono ?_
                 rintro e wb ⟨rfl, hb3⟩
                 have hbb := hb3
                 clear hb3
                 go_wp2_with fail
                 refine (CA.out _).mono ?_
                 rintro e wc ⟨rfl, hb3⟩
                 have hbc := bt hbb hb3
                 clear hb3 hbb
                 go_wp2_with fail
                 refine (CB.out _).mono ?_
                 rintro e w2 ⟨rfl, hb4⟩
                 have hb2 := bt hbc hb4
                 clear hb4 hbc
                 have s0 := (hb2.cell (p := ⟨w.heap.size, 0, none⟩) (by show w.heap.size < _; omega)).trans z0
                 have s1 := (hb2.cell (p := ⟨w.heap.size, 1, none⟩) (by show w.heap.size < _; omega)).trans z1
                 have p0 := (hb2.frozen (p := ⟨w.heap.size, 0, none⟩) (by show w.heap.size < _; omega)).trans y0
                 have p1 := (hb2.frozen (p := ⟨w.heap.size, 1, none⟩) (by show w.heap.size < _; omega)).trans y1
                 have hsz2 := hb2.size
                 have HB2 := Lib.hid (hbwr2.trans (hb2.mono hbwr2.size))
                 clear hb2 z0 z1 y0 y1 hbq hbwr2
                 go_wp2
                 refine bodyPost_ret (v := .tuple #[.agg #[.int .i64 0, .slice none 0 0], .int .i64 9]) (by simp [results, Tryd.results23, go_sem, *]) rfl ⟨.agg #[.int .i64 0, .slice none 0 0], by rw [HN.out.2], by rw [HN.out.1]; exact ⟨_, rfl, .inl ⟨rfl, _, _, rfl⟩⟩, (HB2.out.setCell (by simp) _).setCell (by simp) _⟩)
        · have hkr : k = r.length := by omega
          subst hkr
          have HGood := Lib.hid (HG.out.2 (fun y hy => by
            obtain ⟨j, hj, rfl⟩ := List.getElem_of_mem hy
            exact HALL.out j hj hj))
          have hR : (r.map (pairV 58)).take r.length = r.map (pairV 58) := List.take_of_length_le (by simp)
          rw [hR] at OWN
          have PV := Lib.hid (ptsV_of_own OWN.out (by simp; omega))
          have CK := Lib.hid (fun (W : World) (hb : Below wr.heap.size wr W) => rcheckCurve_any (.agg #[.int .i64 6, .slice ao r.length vc]) ⟨6, r.map (pairV 58)⟩ W ⟨_, rfl, ptsV_below PV.out hb⟩)
          have HR1 := Lib.hid (show readE (x :: r) = checkC ⟨6, r.map (pairV 58)⟩ by unfold readE; rw [if_pos HGood.out, HC.out])
          have HR2 := Lib.hid (show readC (x :: r) = if checkC ⟨6, r.map (pairV 58)⟩ = 0 then ⟨6, r.map (pairV 58)⟩ else ⟨0, []⟩ from by
            unfold readC
            by_cases h : checkC ⟨6, r.map (pairV 58)⟩ = 0
            · rw [if_pos ⟨HGood.out, by rw [HC.out]; exact h⟩, if_pos h, HC.out]
            · rw [if_neg (fun h2 => h (by rw [← HC.out]; exact h2.2)), if_neg h])
          clear HG HC HGood hown hR HALL hlt
          generalize checkC ⟨6, r.map (pairV 58)⟩ = F at *
          by_cases hF : F = 0
          · subst hF
            have HRC := Lib.hid (show readC (x :: r) = ⟨6, r.map (pairV 58)⟩ by rw [HR2.out, if_pos rfl])
            clear HR2
            go_wp2_with fail
            refine (CK.out _ (Below.refl _ _)).mono ?_
            rintro e w2 ⟨rfl, hb2⟩
            have s0 := (hb2.cell (p := ⟨w.heap.size, 0, none⟩) (by show w.heap.size < _; omega)).trans z0
            have s1 := (hb2.cell (p := ⟨w.heap.size, 1, none⟩) (by show w.heap.size < _; omega)).trans z1
            have p0 := (hb2.frozen (p := ⟨w.heap.size, 0, none⟩) (by show w.heap.size < _; omega)).trans y0
            have p1 := (hb2.frozen (p := ⟨w.heap.size, 1, none⟩) (by show w.heap.size < _; omega)).trans y1
            have hsz2 := hb2.size
            have t0 := (hb2.cell (p := ⟨w1.heap.size, 0, none⟩) (by show w1.heap.size < _; omega)).trans f0
            have t1 := (hb2.cell (p := ⟨w1.heap.size, 1, none⟩) (by show w1.heap.size < _; omega)).trans f1
            have HB2 := Lib.hid (hbwr2.trans (hb2.mono hbwr2.size))
            have HP2 := Lib.hid (own_up OWN.out hb2 (fun g hg => (OWN.out.lt g hg).2))
            clear hb2 z0 z1 y0 y1 f0 f1 f3 hbq hbwr2 OWN PV
            go_wp2
            refine bodyPost_ret (v := .tuple #[.agg #[.int .i64 6, .slice ao r.length vc], .int .i64 0]) (by simp [results, Tryd.results23, go_sem, *]) rfl ⟨.agg #[.int .i64 6, .slice ao r.length vc], by rw [HR1.out], by rw [HRC.out]; exact ⟨_, rfl, ptsV_of_own (ownsRow_setCell_below (ownsRow_setCell_below HP2.out (by show w.heap.size < _; omega) _) (by show w.heap.size < _; omega) _) (by simp; omega)⟩, (HB2.out.setCell (by simp) _).setCell (by simp) _⟩
          · have HRC := Lib.hid (show readC (x :: r) = ⟨0, []⟩ by rw [HR2.out, if_neg hF])
            have hFb : (F == 0) = false := by simpa using hF
            have hFb' : (F != 0) = true := by simpa using hF
            clear HR2 hF
            go_wp2_with fail
            refine (CK.out _ (Below.refl _ _)).mono ?_
            rintro e w2 ⟨rfl, hb2⟩
            have s0 := (hb2.cell (p := ⟨w.heap.size, 0, none⟩) (by show w.heap.size < _; omega)).trans z0
            have s1 := (hb2.cell (p := ⟨w.heap.size, 1, none⟩) (by show w.heap.size < _; omega)).trans z1
            have p0 := (hb2.frozen (p := ⟨w.heap.size, 0, none⟩) (by show w.heap.size < _; omega)).trans y0
            have p1 := (hb2.frozen (p := ⟨w.heap.size, 1, none⟩) (by show w.heap.size < _; omega)).trans y1
            have hsz2 := hb2.size
            have HB2 := Lib.hid (hbwr2.trans (hb2.mono hbwr2.size))
            clear hb2 z0 z1 y0 y1 f0 f1 f3 hbq hbwr2 OWN PV
            go_wp2
            refine bodyPost_ret (v := .tuple #[.agg #[.int .i64 0, .slice none 0 0], .int .i64 F]) (by simp [results, Tryd.results23, go_sem, *]) rfl ⟨.agg #[.int .i64 0, .slice none 0 0], by rw [HR1.out], by rw [HRC.out]; exact ⟨_, rfl, .inl ⟨rfl, _, _, rfl⟩⟩, (HB2.out.setCell (by simp) _).setCell (by simp) _⟩
  · have HN := Lib.hid (show readC (x :: r) = ⟨0, []⟩ ∧ readE (x :: r) = 9 from by
      have hn := HOTH.out hx
      unfold readC readE
      rw [if_neg (fun h => hn h.1), if_neg hn]
      exact ⟨rfl, rfl⟩)
    have hxl2 : ¬ x.toList = [116, 97, 98, 108, 101] := fun e => hx (bytes_eq' (by rw [← Lib.toList_data x, e]; rfl))
    have hxl : (x.toList == [116, 97, 98, 108, 101]) = false := beq_eq_false_iff_ne.2 hxl2
    clear hx HOTH
    go_wp2
    refine bodyPost_ret (v := .tuple #[.agg #[.int .i64 0, .slice none 0 0], .int .i64 9]) (by simp [results, Tryd.results23, go_sem, *]) rfl ⟨.agg #[.int .i64 0, .slice none 0 0], by rw [HN.out.2], by rw [HN.out.1]; exact ⟨_, rfl, .inl ⟨rfl, _, _, rfl⟩⟩, (hbw.setCell (by simp) _).setCell (by simp) _⟩

theorem rreadCurve_any (s : ByteArray) (w : World) (hT : TextW w) (hs : s.size < 4294967281) :
    Calls Tryd.prog 23 #[.string s] w (InvPost w (readC (wordsB 32 s)) (readE (wordsB 32 s))) := by
  by_cases h : ∃ k, 1 ≤ k ∧ k ≤ 5 ∧ kindB k = s
  · obtain ⟨k, h1, h5, rfl⟩ := h
    rw [(read_kind k h1 h5).1, (read_kind k h1 h5).2]
    exact rreadCurve_k k w h1 h5
  · have hp := wordsB_pos 32 s
    cases hL : wordsB 32 s with
    | nil => rw [hL] at hp; exact absurd hp (by simp)
    | cons x r => exact rreadCurve_a s x r w hT hs hL (fun k h1 h5 e => h ⟨k, h1, h5, e⟩)
end Go.Proofs.YtdicoggpcobbpaaDoor
