/- level.ReadCurve at any text. -/
import Derived.Test.YtdicoggpcobbpaaDoorWords
import Derived.Test.YtdicoggpcobbpaaDoorPair
import Derived.Test.YtdicoggpcobbpaaDoorInverse
import Derived.Test.YtdicoggpcobbpaaDoorPtsLib
namespace Go.Proofs.YtdicoggpcobbpaaDoor
open Go.RowKit
open Classical
set_option linter.unusedVariables false
set_option linter.unusedSimpArgs false

/-- the words of the kinds -/
def kindB : Nat → ByteArray
  | 1 => ⟨#[108, 105, 110, 101, 97, 114]⟩
  | 2 => ⟨#[115, 108, 111, 119]⟩
  | 3 => ⟨#[102, 97, 115, 116]⟩
  | 4 => ⟨#[115, 111, 102, 116]⟩
  | 5 => ⟨#[115, 116, 101, 112]⟩
  | _ => ⟨#[116, 97, 98, 108, 101]⟩
theorem kindB_inj (j k : Nat) (h1 : 1 ≤ j) (h2 : j ≤ 6) (h3 : 1 ≤ k) (h4 : k ≤ 6) (h : kindB j = kindB k) : j = k := by
  have hj : j = 1 ∨ j = 2 ∨ j = 3 ∨ j = 4 ∨ j = 5 ∨ j = 6 := by omega
  have hk : k = 1 ∨ k = 2 ∨ k = 3 ∨ k = 4 ∨ k = 5 ∨ k = 6 := by omega
  have h' := congrArg (fun b => b.data.toList) h
  rcases hj with rfl | rfl | rfl | rfl | rfl | rfl <;> rcases hk with rfl | rfl | rfl | rfl | rfl | rfl <;> first | rfl | exact absurd h' (by decide)
/-- the kind of a word, of those below k; 0 for none -/
noncomputable def kindTo (x : ByteArray) (k : Nat) : Int := if h : ∃ j, 1 ≤ j ∧ j < k ∧ j ≤ 6 ∧ kindB j = x then ((Classical.choose h : Nat) : Int) else 0
theorem kindTo_hit (x : ByteArray) (k j : Nat) (h1 : 1 ≤ j) (h2 : j < k) (h3 : j ≤ 6) (h : kindB j = x) : kindTo x k = j := by
  have hx : ∃ j, 1 ≤ j ∧ j < k ∧ j ≤ 6 ∧ kindB j = x := ⟨j, h1, h2, h3, h⟩
  unfold kindTo
  rw [dif_pos hx]
  obtain ⟨a, _, b, c⟩ := Classical.choose_spec hx
  rw [kindB_inj _ j a b h1 h3 (c.trans h.symm)]
theorem kindTo_miss (x : ByteArray) (k : Nat) (h : ∀ j, 1 ≤ j → j < k → j ≤ 6 → kindB j ≠ x) : kindTo x k = 0 := by
  unfold kindTo
  rw [dif_neg (fun ⟨j, a, b, c, d⟩ => h j a b c d)]
theorem kindTo_one (x : ByteArray) : kindTo x 1 = 0 := kindTo_miss x 1 (fun j a b _ => by omega)
theorem kindTo_skip (x : ByteArray) (k : Nat) (hne : kindB k ≠ x) : kindTo x (k + 1) = kindTo x k := by
  by_cases h : ∃ j, 1 ≤ j ∧ j < k ∧ j ≤ 6 ∧ kindB j = x
  · obtain ⟨j, a, b, c, d⟩ := h
    rw [kindTo_hit x (k + 1) j a (by omega) c d, kindTo_hit x k j a b c d]
  · rw [kindTo_miss x (k + 1), kindTo_miss x k (fun j a b c d => h ⟨j, a, b, c, d⟩)]
    intro j a b c d
    by_cases e : j = k
    · subst e; exact hne d
    · exact h ⟨j, a, by omega, c, d⟩
theorem kindTo_range (x : ByteArray) (k : Nat) : 0 ≤ kindTo x k ∧ kindTo x k ≤ 6 := by
  by_cases h : ∃ j, 1 ≤ j ∧ j < k ∧ j ≤ 6 ∧ kindB j = x
  · obtain ⟨j, a, b, c, d⟩ := h
    rw [kindTo_hit x k j a b c d]; omega
  · rw [kindTo_miss x k (fun j a b c d => h ⟨j, a, b, c, d⟩)]; omega

set_option maxHeartbeats 1000000 in
theorem curveWord_any (k : Nat) (w : World) (h1 : 1 ≤ k) (h2 : k ≤ 6) : Calls Tryd.prog 49 #[.int .i64 k] w fun e w' => e = .returned (.string (kindB k)) ∧ w = w' := by
  have hk : k = 1 ∨ k = 2 ∨ k = 3 ∨ k = 4 ∨ k = 5 ∨ k = 6 := by omega
  rcases hk with rfl | rfl | rfl | rfl | rfl | rfl
  all_goals
    go_enter Tryd.func49, Tryd.ntmps49
    go_wp2
    go_ret
    exact ⟨rfl, rfl⟩

/-- what is read of the words of a text -/
def GoodW (L : List ByteArray) : Prop := ∃ x r, L = x :: r ∧ 1 ≤ kindTo x 7 ∧ (kindTo x 7 = 6 ∨ r = []) ∧ ∀ y ∈ r, PairOk 58 y
noncomputable def rawC (L : List ByteArray) : Cv := ⟨kindTo (L.headD ⟨#[]⟩) 7, L.tail.map (pairV 58)⟩
noncomputable def readC (L : List ByteArray) : Cv := if GoodW L ∧ checkC (rawC L) = 0 then rawC L else ⟨0, []⟩
noncomputable def readE (L : List ByteArray) : Int := if GoodW L then checkC (rawC L) else 9

theorem own_up {w w' : World} {B base e size n : Nat} {v : Value} {xs : List Value} (h : w.ownsRow base e size v n xs) (hb : Below B w w') (hv : ∀ g, v.ownBlock = some g → g < B) : w'.ownsRow base e size v n xs := by
  refine ⟨h.1, ?_⟩
  rcases h.2 with h' | ⟨g, cap, cur, rfl, h1, h2, h3⟩
  · exact .inl h'
  · exact .inr ⟨g, cap, cur, rfl, h1, (hb.block g (hv g rfl)).trans h2, h3⟩
set_option maxHeartbeats 4000000 in
set_option maxRecDepth 100000 in
theorem readCurve_a (s : ByteArray) (x : ByteArray) (r : List ByteArray) (w : World) (hT : TextW w) (hs : s.size < 4294967281) (hL : wordsB 32 s = x :: r) :
    Calls Tryd.prog 17 #[.string s] w (InvPost w (readC (x :: r)) (readE (x :: r))) := by
  have CS := Lib.hid (fun W (hb : Below w.heap.size w W) => split_any 32 s W (hT.below hb) hs)
  rw [hL] at CS
  have hlen : r.length ≤ s.size := by have := wordsB_le 32 s; rw [hL] at this; simpa using this
  have HSZ := Lib.hid (fun y (hy : y ∈ x :: r) => wordsB_size 32 s y (by rw [hL]; exact hy))
  clear hT hL
  go_enter Tryd.func17, Tryd.ntmps17
  go_wp2_with fail
  refine (CS.out _ ((Below.refl _ _).alloc (Nat.le_refl _) _)).mono ?_
  rintro e w1 ⟨rfl, hrow, hb1, hz1⟩
  go_wp2_with fail
  have HR := Lib.hid hrow
  have HB1 := Lib.hid hb1
  have hz0 : w.heap.size + 1 < w1.heap.size := by simpa using hz1
  clear hrow hb1 hz1
  have hx0 : w1.cell? ⟨w.heap.size + 1, 0, none⟩ = some (.string x) := by have := HR.out 0 (by simp); simpa using this
  go_loopw [6] (fun i wr => ∃ k : Nat, 1 ≤ k ∧ k ≤ 7 ∧ i = .int .i64 k ∧ wr.cell? ⟨w1.heap.size, 0, none⟩ = some (.int .i64 (kindTo x k)) ∧ wr.cell? ⟨w1.heap.size, 1, none⟩ = some (.slice none 0 0) ∧ wr.frozen? ⟨w1.heap.size, 0, none⟩ = false ∧ wr.frozen? ⟨w1.heap.size, 1, none⟩ = false ∧ Below w1.heap.size w1 wr ∧ w1.heap.size < wr.heap.size) (fun i _ => 7 - (intOf i).toNat)
  case atStart => exact ⟨1, by omega, by omega, rfl, by rw [kindTo_one]; simp [go_sem], by simp [go_sem], by simp [go_sem], by simp [go_sem], below1, by simp⟩
  case round =>
    obtain ⟨k, k1, k7, rfl, f0, f1, f2, f3, hbr, hz⟩ := hrel
    by_cases hk : k ≤ 6
    · have HK1 := Lib.hid (fun h : kindB k = x => kindTo_hit x (k + 1) k k1 (by omega) hk h)
      have HK2 := Lib.hid (fun h : kindB k ≠ x => kindTo_skip x k h)
      have CW := Lib.hid (fun W => show Calls Tryd.prog 49 #[.int .i64 k] W fun e w' => e = .returned (.string (kindB k)) ∧ w' = W from (curveWord_any k W k1 hk).mono (by rintro e w' ⟨rfl, rfl⟩; exact ⟨rfl, rfl⟩))
      have hx1 : wr.cell? ⟨w.heap.size + 1, 0, none⟩ = some (.string x) := (hbr.cell (by exact hz0)).trans hx0
      have hzr : w.heap.size + 1 < wr.heap.size := by omega
      generalize kindB k = y at *
      by_cases hy : y = x
      · subst hy
        have HKK := Lib.hid (HK1.out rfl)
        clear HK1 HK2
        go_wp2_with fail
        go_quiet ((go_at_call 49; exact Calls.quiet_of_same (CW.out _)))
        go_wp2
        go_roundw
        case rel => exact ⟨k + 1, by omega, by omega, by go_num, by rw [HKK.out]; simp [go_sem, f0], by simp [go_sem, f1], by simp [go_sem, f2], by simp [go_sem, f3], (below_drewP hbr).setCell (Nat.le_refl _) _, by simpa [World.setCell] using hz⟩
        case measure => simp [intOf]; omega
      · have hyb : (y.toList == x.toList) = false := beq_eq_false_iff_ne.2 (fun e => hy (bytes_eq' (by rw [← Lib.toList_data, ← Lib.toList_data]; exact e)))
        go_wp2_with fail
        go_quiet ((go_at_call 49; exact Calls.quiet_of_same (CW.out _)))
        go_wp2
        go_roundw
        case rel => exact ⟨k + 1, by omega, by omega, by go_num, by rw [HK2.out hy]; simp [go_sem, f0], by simp [go_sem, f1], by simp [go_sem, f2], by simp [go_sem, f3], below_drewP hbr, by simpa using hz⟩
        case measure => simp [intOf]; omega
    · have hk7 : k = 7 := by omega
      subst hk7
      have HK := Lib.hid (kindTo_range x 7)
      have hbw := bt ((Below.refl _ _).alloc (Nat.le_refl _) _) HB1.out
      have hbwr : Below w.heap.size w wr := hbw.trans (hbr.mono (by omega))
      have hres : ∀ o, wr.cell? ⟨w.heap.size, o, none⟩ = (w.alloc (.cells #[.int .i64 0, .slice none 0 0] 31)).cell? ⟨w.heap.size, o, none⟩ := fun o => (hbr.cell (by show w.heap.size < _; omega)).trans (HB1.out.cell (by simp))
      have hfro : ∀ o, wr.frozen? ⟨w.heap.size, o, none⟩ = (w.alloc (.cells #[.int .i64 0, .slice none 0 0] 31)).frozen? ⟨w.heap.size, o, none⟩ := fun o => (hbr.frozen (by show w.heap.size < _; omega)).trans (HB1.out.frozen (by simp))
      have r0 : wr.cell? ⟨w.heap.size, 0, none⟩ = some (.int .i64 0) := (hres 0).trans (by simp [go_sem])
      have r1 : wr.cell? ⟨w.heap.size, 1, none⟩ = some (.slice none 0 0) := (hres 1).trans (by simp [go_sem])
      have q0 : wr.frozen? ⟨w.heap.size, 0, none⟩ = false := (hfro 0).trans (by simp [go_sem])
      have q1 : wr.frozen? ⟨w.heap.size, 1, none⟩ = false := (hfro 1).trans (by simp [go_sem])
      clear hres hfro
      have HG := Lib.hid (show ∀ K, kindTo x 7 = K → (GoodW (x :: r) ↔ (1 ≤ K ∧ (K = 6 ∨ r = []) ∧ ∀ y ∈ r, PairOk 58 y)) from fun K hK => by
        unfold GoodW
        constructor
        · rintro ⟨a, b, hab, h1, h2, h3⟩
          obtain ⟨rfl, rfl⟩ := List.cons.inj hab
          rw [← hK]; exact ⟨h1, h2, h3⟩
        · rintro ⟨h1, h2, h3⟩
          rw [← hK] at h1 h2
          exact ⟨x, r, rfl, h1, h2, h3⟩)
      have HC := Lib.hid (show ∀ K, kindTo x 7 = K → rawC (x :: r) = ⟨K, r.map (pairV 58)⟩ from fun K hK => by rw [← hK]; rfl)
      generalize hKK : kindTo x 7 = K at *
      have HG := Lib.hid (HG.out K rfl)
      have HC := Lib.hid (HC.out K rfl)
      have hK6 := HK.out
      clear hKK HK hx0
      -- no kind, or more words than a kind without points has
      by_cases hbad : K = 0 ∨ (K ≠ 6 ∧ r ≠ [])
      · have HN := Lib.hid (show readC (x :: r) = ⟨0, []⟩ ∧ readE (x :: r) = 9 from by
          have hn : ¬ GoodW (x :: r) := fun h => by
            obtain ⟨h1, h2, _⟩ := HG.out.1 h
            rcases hbad with h3 | ⟨h3, h4⟩
            · omega
            · rcases h2 with h2 | h2
              · exact h3 h2
              · exact h4 h2
          unfold readC readE
          rw [if_neg (fun h => hn h.1), if_neg hn]
          exact ⟨rfl, rfl⟩)
        rcases hbad with rfl | ⟨h6, hr⟩
        · go_wp2
          refine bodyPost_ret (v := .tuple #[.agg #[.int .i64 0, .slice none 0 0], .int .i64 9]) (by simp [results, Tryd.results17, go_sem, *]) rfl ⟨.agg #[.int .i64 0, .slice none 0 0], by rw [HN.out.2], by rw [HN.out.1]; exact ⟨_, rfl, .inl ⟨rfl, _, _, rfl⟩⟩, (hbwr.setCell (by simp) _).setCell (by simp) _⟩
        · by_cases h0 : K = 0
          · subst h0
            go_wp2
            refine bodyPost_ret (v := .tuple #[.agg #[.int .i64 0, .slice none 0 0], .int .i64 9]) (by simp [results, Tryd.results17, go_sem, *]) rfl ⟨.agg #[.int .i64 0, .slice none 0 0], by rw [HN.out.2], by rw [HN.out.1]; exact ⟨_, rfl, .inl ⟨rfl, _, _, rfl⟩⟩, (hbwr.setCell (by simp) _).setCell (by simp) _⟩
          · have hr1 : 1 ≤ r.length := List.length_pos_iff.2 hr
            have b0 : (K == 0) = false := by simpa using h0
            have b6 : (K == 6) = false := by simpa using h6
            have b6' : (K != 6) = true := by simpa using h6
            clear h0 h6 hr
            go_wp2
            refine bodyPost_ret (v := .tuple #[.agg #[.int .i64 0, .slice none 0 0], .int .i64 9]) (by simp [results, Tryd.results17, go_sem, *]) rfl ⟨.agg #[.int .i64 0, .slice none 0 0], by rw [HN.out.2], by rw [HN.out.1]; exact ⟨_, rfl, .inl ⟨rfl, _, _, rfl⟩⟩, (hbwr.setCell (by simp) _).setCell (by simp) _⟩
      · have k1 : 1 ≤ K := by omega
        have hor : K = 6 ∨ r = [] := by
          by_cases h : K = 6
          · exact .inl h
          · exact .inr (Classical.byContradiction fun hr => hbad (.inr ⟨h, hr⟩))
        clear hbad
        have b0 : (K == 0) = false := by rw [beq_eq_false_iff_ne]; omega
        have hp0 : b0 = b0 := rfl
        clear hp0
        -- how it ends, once the points are read
        by_cases hr : r = []
        · subst hr
          have HGood := Lib.hid (HG.out.2 ⟨k1, .inr rfl, by simp⟩)
          rw [List.map_nil] at HC
          have CK := Lib.hid (fun (W : World) => checkCurve_any (.agg #[.int .i64 K, .slice none 0 0]) ⟨K, []⟩ W ⟨_, rfl, .inl ⟨rfl, _, _, rfl⟩⟩)
          have HR1 := Lib.hid (show readE [x] = checkC ⟨K, []⟩ by unfold readE; rw [if_pos HGood.out, HC.out])
          have HR2 := Lib.hid (show readC [x] = if checkC ⟨K, []⟩ = 0 then ⟨K, []⟩ else ⟨0, []⟩ from by
            unfold readC
            by_cases h : checkC ⟨K, []⟩ = 0
            · rw [if_pos ⟨HGood.out, by rw [HC.out]; exact h⟩, if_pos h, HC.out]
            · rw [if_neg (fun h2 => h (by rw [← HC.out]; exact h2.2)), if_neg h])
          clear HG HC HGood
          generalize checkC ⟨K, []⟩ = F at *
          have hz1 : w1.heap.size < wr.heap.size := hz
          have hw1 : w.heap.size < w1.heap.size := by omega
          have k6' : K = 6 ∨ K ≠ 6 := by omega
          by_cases hF : F = 0
          · subst hF
            have HRC := Lib.hid (show readC [x] = ⟨K, []⟩ by rw [HR2.out, if_pos rfl])
            clear HR2
            rcases k6' with h6 | h6
            all_goals
              first
                | (have b6 : (K == 6) = false := by first | (rw [beq_eq_false_iff_ne]; exact h6) | fail
                   have b6' : (K != 6) = true := by first | (simpa using h6) | fail)
                | (have b6 : (K == 6) = true := by first | (simpa using h6) | fail
                   have b6' : (K != 6) = false := by first | (simp [h6]; done) | fail)
              clear h6
              go_wp2_with fail
              go_loop [45] (fun i => i = .int .i64 0) (fun _ => 0)
              case atStart => rfl
              case round =>
                subst hrel
                go_wp2_with fail
                refine (CK.out _).mono ?_
                rintro e w2 ⟨rfl, hb2⟩
                have s0 := (hb2.cell (p := ⟨w.heap.size, 0, none⟩) (by show w.heap.size < _; omega)).trans r0
                have s1 := (hb2.cell (p := ⟨w.heap.size, 1, none⟩) (by show w.heap.size < _; omega)).trans r1
                have p0 := (hb2.frozen (p := ⟨w.heap.size, 0, none⟩) (by show w.heap.size < _; omega)).trans q0
                have p1 := (hb2.frozen (p := ⟨w.heap.size, 1, none⟩) (by show w.heap.size < _; omega)).trans q1
                have hsz2 := hb2.size
                have t0 := (hb2.cell (p := ⟨w1.heap.size, 0, none⟩) (by show w1.heap.size < _; omega)).trans f0
                have t1 := (hb2.cell (p := ⟨w1.heap.size, 1, none⟩) (by show w1.heap.size < _; omega)).trans f1
                have HB2 := Lib.hid (hbwr.trans (hb2.mono hbwr.size))
                clear hb2 r0 r1 q0 q1 f0 f1 f2 f3 hbr hbwr hbw
                go_wp2
                refine bodyPost_ret (v := .tuple #[.agg #[.int .i64 K, .slice none 0 0], .int .i64 0]) (by simp [results, Tryd.results17, go_sem, *]) rfl ⟨.agg #[.int .i64 K, .slice none 0 0], by rw [HR1.out], by rw [HRC.out]; exact ⟨_, rfl, .inl ⟨rfl, _, _, rfl⟩⟩, (HB2.out.setCell (by simp) _).setCell (by simp) _⟩
          · have HRC := Lib.hid (show readC [x] = ⟨0, []⟩ by rw [HR2.out, if_neg hF])
            have hFb : (F == 0) = false := by simpa using hF
            have hFb' : (F != 0) = true := by simpa using hF
            clear HR2 hF
            rcases k6' with h6 | h6
            all_goals
              first
                | (have b6 : (K == 6) = false := by first | (rw [beq_eq_false_iff_ne]; exact h6) | fail
                   have b6' : (K != 6) = true := by first | (simpa using h6) | fail)
                | (have b6 : (K == 6) = true := by first | (simpa using h6) | fail
                   have b6' : (K != 6) = false := by first | (simp [h6]; done) | fail)
              clear h6
              go_wp2_with fail
              go_loop [45] (fun i => i = .int .i64 0) (fun _ => 0)
              case atStart => rfl
              case round =>
                subst hrel
                go_wp2_with fail
                refine (CK.out _).mono ?_
                rintro e w2 ⟨rfl, hb2⟩
                have s0 := (hb2.cell (p := ⟨w.heap.size, 0, none⟩) (by show w.heap.size < _; omega)).trans r0
                have s1 := (hb2.cell (p := ⟨w.heap.size, 1, none⟩) (by show w.heap.size < _; omega)).trans r1
                have p0 := (hb2.frozen (p := ⟨w.heap.size, 0, none⟩) (by show w.heap.size < _; omega)).trans q0
                have p1 := (hb2.frozen (p := ⟨w.heap.size, 1, none⟩) (by show w.heap.size < _; omega)).trans q1
                have hsz2 := hb2.size
                have HB2 := Lib.hid (hbwr.trans (hb2.mono hbwr.size))
                clear hb2 r0 r1 q0 q1 f0 f1 f2 f3 hbr hbwr hbw
                go_wp2
                refine bodyPost_ret (v := .tuple #[.agg #[.int .i64 0, .slice none 0 0], .int .i64 F]) (by simp [results, Tryd.results17, go_sem, *]) rfl ⟨.agg #[.int .i64 0, .slice none 0 0], by rw [HR1.out], by rw [HRC.out]; exact ⟨_, rfl, .inl ⟨rfl, _, _, rfl⟩⟩, (HB2.out.setCell (by simp) _).setCell (by simp) _⟩
        · have h6 : K = 6 := by
            rcases hor with h | h
            · exact h
            · exact absurd h hr
          subst h6
          have HGM := Lib.hid (show (∀ y ∈ r, PairOk 58 y) → GoodW (x :: r) from fun h => HG.out.2 ⟨by omega, .inl rfl, h⟩)
          have HGN := Lib.hid (show GoodW (x :: r) → ∀ y ∈ r, PairOk 58 y from fun h => (HG.out.1 h).2.2)
          clear HG
          have hr1 : 1 ≤ r.length := List.length_pos_iff.2 hr
          obtain ⟨i0, hi, hz0', hz1', hz2'⟩ := info_parts infoPoint
          have hw1 : w.heap.size < w1.heap.size := by omega
          have HBW := Lib.hid hbw
          have HZ := Lib.hid HB1.out.size
          clear hor b0 hbwr hbw k1
          go_wp2_with fail
          go_loopw [45] (fun i wq => ∃ (k : Nat) (v : Value), k ≤ r.length ∧ i = .int .i64 k ∧ Hid (∀ j (h : j < r.length), j < k → PairOk 58 r[j]) ∧ wq.cell? ⟨w1.heap.size, 0, none⟩ = some (.int .i64 6) ∧ wq.cell? ⟨w1.heap.size, 1, none⟩ = some v ∧ wq.frozen? ⟨w1.heap.size, 1, none⟩ = false ∧
              wq.ownsRow (w1.heap.size + 1) 63 2 v k (ptCells ((r.map (pairV 58)).take k)) ∧ Below w1.heap.size w1 wq ∧ w1.heap.size < wq.heap.size) (fun i _ => r.length - (intOf i).toNat)
          case atStart => exact ⟨0, _, by omega, rfl, fun j h hj => absurd hj (by omega), f0, f1, f3, by rw [List.take_zero]; exact World.ownsRow_nil _ _ _ _, hbr, hz⟩
          case round =>
            clear r0 r1 q0 q1 f0 f1 f2 f3 hbr hz
            obtain ⟨k, v, hk, rfl, HALL, f0, f1, f3, hown, hbq, hz⟩ := hrel
            obtain ⟨ao, vc, rfl⟩ := own_shape hown
            have OWN := Lib.hid hown
            have hsz0 : w.heap.size + 1 < w1.heap.size := hz0
            have hres : ∀ o, wr.cell? ⟨w.heap.size, o, none⟩ = (w.alloc (.cells #[.int .i64 0, .slice none 0 0] 31)).cell? ⟨w.heap.size, o, none⟩ := fun o => (hbq.cell (by show w.heap.size < _; omega)).trans (HB1.out.cell (by simp))
            have hfro : ∀ o, wr.frozen? ⟨w.heap.size, o, none⟩ = (w.alloc (.cells #[.int .i64 0, .slice none 0 0] 31)).frozen? ⟨w.heap.size, o, none⟩ := fun o => (hbq.frozen (by show w.heap.size < _; omega)).trans (HB1.out.frozen (by simp))
            have z0 : wr.cell? ⟨w.heap.size, 0, none⟩ = some (.int .i64 0) := (hres 0).trans (by simp [go_sem])
            have z1 : wr.cell? ⟨w.heap.size, 1, none⟩ = some (.slice none 0 0) := (hres 1).trans (by simp [go_sem])
            have y0 : wr.frozen? ⟨w.heap.size, 0, none⟩ = false := (hfro 0).trans (by simp [go_sem])
            have y1 : wr.frozen? ⟨w.heap.size, 1, none⟩ = false := (hfro 1).trans (by simp [go_sem])
            have hbwr2 : Below w.heap.size w wr := HBW.out.trans (hbq.mono (by omega))
            clear hres hfro
            by_cases hlt : k < r.length
            · have hcell : wr.cell? ⟨w.heap.size + 1, 1 + k, none⟩ = some (.string r[k]) := by
                have h1 := (hbq.cell (p := ⟨w.heap.size + 1, 1 + k, none⟩) (by exact hz0))
                have h2 := HR.out (k + 1) (by simp; omega)
                have e : (w.alloc (.cells #[.int .i64 0, .slice none 0 0] 31)).heap.size = w.heap.size + 1 := by simp
                simp only [Nat.zero_add, List.getElem_cons_succ, e] at h2
                rw [h1, Nat.add_comm 1 k]
                exact h2
              have hrs := HSZ.out r[k] (by simp)
              by_cases hp : PairOk 58 r[k]
              · have CP := Lib.hid (fun W => pair_yes 58 r[k] W (by omega) hp)
                have HNX := Lib.hid (show ∀ j (h : j < r.length), j < k + 1 → PairOk 58 r[j] from fun j h hj => by
                  by_cases e : j = k
                  · subst e; exact hp
                  · exact HALL.out j h (by omega))
                have HT := Lib.hid (show ptCells ((r.map (pairV 58)).take (k + 1)) = ptCells ((r.map (pairV 58)).take k) ++ [.int .i64 (pairV 58 r[k]).1, .int .i64 (pairV 58 r[k]).2] from by
                  rw [List.take_succ_eq_append_getElem (by simpa using hlt), ptCells_snoc, List.getElem_map])
                generalize pairV 58 r[k] = pv at *
                clear hp hown HALL
                go_wp2_with fail
                refine (CP.out _).mono ?_
                rintro e w3 ⟨rfl, hb3⟩
                have hown3 := own_up OWN.out hb3 (fun g hg => (OWN.out.lt g hg).2)
                have f0' := (hb3.cell (p := ⟨w1.heap.size, 0, none⟩) hz).trans f0
                have f1' := (hb3.cell (p := ⟨w1.heap.size, 1, none⟩) hz).trans f1
                have f3' := (hb3.frozen (p := ⟨w1.heap.size, 1, none⟩) hz).trans f3
                have hbq3 : Below w1.heap.size w1 w3 := hbq.trans (hb3.mono hbq.size)
                have hz3 : w1.heap.size < w3.heap.size := Nat.lt_of_lt_of_le hz hb3.size
                have hsz1 : w1.heap.size < w3.heap.size + 1 := by omega
                clear hb3 f0 f1 f3 hbq hz z0 z1 y0 y1 hbwr2 hcell OWN
                go_wp2_with (first
                  | (at_builtin; refine wpList_append_own _ rfl _ _ 29 rfl (w1.heap.size + 1) 63 i0 (.agg #[.int .i64 0, .int .i64 0]) 2 16 Tryd.underlying29 hi hz0' hz1' hz2' rfl (by decide) _ _ _ rfl (hown3.alloc _) ⟨w3.heap.size, 0, none⟩ 1 1 [.int .i64 pv.1, .int .i64 pv.2] rfl rfl ?c1 ?c2 ?c3 ?c4 ?c5 ?_))
                case c1 =>
                  intro q u hq
                  match q, hq with
                  | 0, hq => simp at hq; subst hq; simp [Addr.add, go_sem]
                  | 1, hq => simp at hq; subst hq; simp [Addr.add, go_sem]
                case c2 => intro u hu; simp at hu; rcases hu with rfl | rfl <;> rfl
                case c3 => unfold maxLen; omega
                case c4 => omega
                case c5 => simp; omega
                · intro v' w4 hown4 hgrow _
                  have hlt4 := hown3.lt
                  have hne : some w1.heap.size ≠ (Value.slice ao k vc).ownBlock := fun e => by have := (hlt4 _ e.symm).1; omega
                  have g0 : w4.cell? ⟨w1.heap.size, 0, none⟩ = some (.int .i64 6) := hgrow.cell (by simp [go_sem, f0', hz3, hsz1]) hne
                  have g1 : w4.cell? ⟨w1.heap.size, 1, none⟩ = some (.slice ao k vc) := hgrow.cell (by simp [go_sem, f1', hz3, hsz1]) hne
                  have g2 : w4.frozen? ⟨w1.heap.size, 1, none⟩ = false := by
                    refine (World.frozen?_of_block (hgrow.block w1.heap.size (by simp; omega) hne)).trans ?_
                    simp [go_sem, f3', hz3, hsz1]
                  have hb4 : Below w1.heap.size w1 w4 := (hbq3.alloc (by omega) _).grown hgrow (by simp; omega) (fun k e => by have := (hlt4 _ e).1; omega)
                  have hz4 : w1.heap.size < w4.heap.size := by have := hgrow.size; simp at this; omega
                  rw [← HT.out] at hown4
                  obtain ⟨ao2, vc2, hv2⟩ := own_shape hown4
                  rw [hv2] at hown4 ⊢
                  have HO4 := Lib.hid hown4
                  clear hv2
                  have HLT := Lib.hid hlt4
                  have HNE := Lib.hid hne
                  clear hown4 hown3 hgrow hlt4 hne f0' f1' f3'
                  go_wp2
                  go_roundw
                  case rel =>
                    (repeat apply Exists.intro)
                    refine ⟨⟨k + 1, .slice ao2 (k + 1) vc2, by omega, by go_num, HNX, by simp [go_sem, g0], by simp [go_sem, g1], by simp [go_sem, g2], ownsRow_setCell_below HO4.out (by show w1.heap.size < _; omega) _, hb4.setCell (Nat.le_refl _) _, by simpa [World.setCell] using hz4⟩, ?_⟩
                    first | exact rfl | (repeat (first | exact rfl | refine ⟨rfl, ?_⟩))
                  case measure => simp [intOf]; omega
              · have CP := Lib.hid (fun W => pair_no 58 r[k] W (by omega) hp)
                have HN := Lib.hid (show readC (x :: r) = ⟨0, []⟩ ∧ readE (x :: r) = 9 from by
                  have hn : ¬ GoodW (x :: r) := fun h => hp (HGN.out h _ (List.getElem_mem _))
                  unfold readC readE
                  rw [if_neg (fun h => hn h.1), if_neg hn]
                  exact ⟨rfl, rfl⟩)
                clear hp hown HALL OWN f0 f1 f3
                go_wp2_with fail
                refine (CP.out _).mono ?_
                rintro e w2 ⟨⟨n, m, rfl⟩, hb2⟩
                have s0 := (hb2.cell (p := ⟨w.heap.size, 0, none⟩) (by show w.heap.size < _; omega)).trans z0
                have s1 := (hb2.cell (p := ⟨w.heap.size, 1, none⟩) (by show w.heap.size < _; omega)).trans z1
                have p0 := (hb2.frozen (p := ⟨w.heap.size, 0, none⟩) (by show w.heap.size < _; omega)).trans y0
                have p1 := (hb2.frozen (p := ⟨w.heap.size, 1, none⟩) (by show w.heap.size < _; omega)).trans y1
                have hsz2 := hb2.size
                have HB2 := Lib.hid (hbwr2.trans (hb2.mono hbwr2.size))
                clear hb2 z0 z1 y0 y1 hbq hbwr2
                go_wp2
                refine bodyPost_ret (v := .tuple #[.agg #[.int .i64 0, .slice none 0 0], .int .i64 9]) (by simp [results, Tryd.results17, go_sem, *]) rfl ⟨.agg #[.int .i64 0, .slice none 0 0], by rw [HN.out.2], by rw [HN.out.1]; exact ⟨_, rfl, .inl ⟨rfl, _, _, rfl⟩⟩, (HB2.out.setCell (by simp) _).setCell (by simp) _⟩
            · have hkr : k = r.length := by omega
              subst hkr
              have HGood := Lib.hid (HGM.out (fun y hy => by
                obtain ⟨j, hj, rfl⟩ := List.getElem_of_mem hy
                exact HALL.out j hj hj))
              have hR : (r.map (pairV 58)).take r.length = r.map (pairV 58) := List.take_of_length_le (by simp)
              rw [hR] at OWN
              have PV := Lib.hid (ptsV_of_own OWN.out (by simp; omega))
              have CK := Lib.hid (fun (W : World) (hb : Below wr.heap.size wr W) => checkCurve_any (.agg #[.int .i64 6, .slice ao r.length vc]) ⟨6, r.map (pairV 58)⟩ W ⟨_, rfl, ptsV_below PV.out hb⟩)
              have HR1 := Lib.hid (show readE (x :: r) = checkC ⟨6, r.map (pairV 58)⟩ by unfold readE; rw [if_pos HGood.out, HC.out])
              have HR2 := Lib.hid (show readC (x :: r) = if checkC ⟨6, r.map (pairV 58)⟩ = 0 then ⟨6, r.map (pairV 58)⟩ else ⟨0, []⟩ from by
                unfold readC
                by_cases h : checkC ⟨6, r.map (pairV 58)⟩ = 0
                · rw [if_pos ⟨HGood.out, by rw [HC.out]; exact h⟩, if_pos h, HC.out]
                · rw [if_neg (fun h2 => h (by rw [← HC.out]; exact h2.2)), if_neg h])
              clear HGM HGN HC HGood hown hR HALL hlt
              generalize checkC ⟨6, r.map (pairV 58)⟩ = F at *
              by_cases hF : F = 0
              · subst hF
                have HRC := Lib.hid (show readC (x :: r) = ⟨6, r.map (pairV 58)⟩ by rw [HR2.out, if_pos rfl])
                clear HR2
                go_wp2_with fail
                refine (CK.out _ (Below.refl _ _)).mono ?_
                rintro e w2 ⟨rfl, hb2⟩
                have s0 := (hb2.cell (p := ⟨w.heap.size, 0, none⟩) (by show w.heap.size < _; omega)).trans z0
                have s1 := (hb2.cell (p := ⟨w.heap.size, 1, none⟩) (by show w.heap.size < _; omega)).trans z1
                have p0 := (hb2.frozen (p := ⟨w.heap.size, 0, none⟩) (by show w.heap.size < _; omega)).trans y0
                have p1 := (hb2.frozen (p := ⟨w.heap.size, 1, none⟩) (by show w.heap.size < _; omega)).trans y1
                have hsz2 := hb2.size
                have t0 := (hb2.cell (p := ⟨w1.heap.size, 0, none⟩) (by show w1.heap.size < _; omega)).trans f0
                have t1 := (hb2.cell (p := ⟨w1.heap.size, 1, none⟩) (by show w1.heap.size < _; omega)).trans f1
                have HB2 := Lib.hid (hbwr2.trans (hb2.mono hbwr2.size))
                have HP2 := Lib.hid (own_up OWN.out hb2 (fun g hg => (OWN.out.lt g hg).2))
                clear hb2 z0 z1 y0 y1 f0 f1 f3 hbq hbwr2 OWN PV
                go_wp2
                refine bodyPost_ret (v := .tuple #[.agg #[.int .i64 6, .slice ao r.length vc], .int .i64 0]) (by simp [results, Tryd.results17, go_sem, *]) rfl ⟨.agg #[.int .i64 6, .slice ao r.length vc], by rw [HR1.out], by rw [HRC.out]; exact ⟨_, rfl, ptsV_of_own (ownsRow_setCell_below (ownsRow_setCell_below HP2.out (by show w.heap.size < _; omega) _) (by show w.heap.size < _; omega) _) (by simp; omega)⟩, (HB2.out.setCell (by simp) _).setCell (by simp) _⟩
              · have HRC := Lib.hid (show readC (x :: r) = ⟨0, []⟩ by rw [HR2.out, if_neg hF])
                have hFb : (F == 0) = false := by simpa using hF
                have hFb' : (F != 0) = true := by simpa using hF
                clear HR2 hF
                go_wp2_with fail
                refine (CK.out _ (Below.refl _ _)).mono ?_
                rintro e w2 ⟨rfl, hb2⟩
                have s0 := (hb2.cell (p := ⟨w.heap.size, 0, none⟩) (by show w.heap.size < _; omega)).trans z0
                have s1 := (hb2.cell (p := ⟨w.heap.size, 1, none⟩) (by show w.heap.size < _; omega)).trans z1
                have p0 := (hb2.frozen (p := ⟨w.heap.size, 0, none⟩) (by show w.heap.size < _; omega)).trans y0
                have p1 := (hb2.frozen (p := ⟨w.heap.size, 1, none⟩) (by show w.heap.size < _; omega)).trans y1
                have hsz2 := hb2.size
                have HB2 := Lib.hid (hbwr2.trans (hb2.mono hbwr2.size))
                clear hb2 z0 z1 y0 y1 f0 f1 f3 hbq hbwr2 OWN PV
                go_wp2
                refine bodyPost_ret (v := .tuple #[.agg #[.int .i64 0, .slice none 0 0], .int .i64 F]) (by simp [results, Tryd.results17, go_sem, *]) rfl ⟨.agg #[.int .i64 0, .slice none 0 0], by rw [HR1.out], by rw [HRC.out]; exact ⟨_, rfl, .inl ⟨rfl, _, _, rfl⟩⟩, (HB2.out.setCell (by simp) _).setCell (by simp) _⟩

theorem readCurve_any (s : ByteArray) (w : World) (hT : TextW w) (hs : s.size < 4294967281) :
    Calls Tryd.prog 17 #[.string s] w (InvPost w (readC (wordsB 32 s)) (readE (wordsB 32 s))) := by
  have hp := wordsB_pos 32 s
  cases hL : wordsB 32 s with
  | nil => rw [hL] at hp; exact absurd hp (by simp)
  | cons x r => exact readCurve_a s x r w hT hs hL
end Go.Proofs.YtdicoggpcobbpaaDoor
