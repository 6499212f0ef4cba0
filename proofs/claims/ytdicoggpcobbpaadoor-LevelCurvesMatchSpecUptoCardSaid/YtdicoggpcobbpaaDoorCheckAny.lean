/- The contract of level.CheckCurve, for every curve. -/
import Derived.Test.YtdicoggpcobbpaaDoorCheckTable
namespace Go.Proofs.YtdicoggpcobbpaaDoor
open Go.RowKit

theorem kind6 (c : Cv) (h : c.kind = 6) : checkC c = open Classical in (if c.pts.length < 2 then 8
  else if 20 < c.pts.length then 2
  else if ¬ ∀ x ∈ c.pts, inMil x then 1
  else if c.pts.head? ≠ some (0, 0) ∨ c.pts.getLast? ≠ some (1000, 1000) then 3
  else if ¬ Steps c.pts then 7 else 0) := by
  unfold checkC
  rw [if_neg (by omega), if_neg (by omega)]

set_option maxHeartbeats 1000000 in
theorem table_short (ao : Option Addr) (n cap : Nat) (w : World) (h : n < 2) :
    Calls Tryd.prog 21 #[.agg #[.int .i64 6, .slice ao n cap]] w fun e w' => e = .returned (.int .i64 8) ∧ Below w.heap.size w w' := by
  go_enter Tryd.func21, Tryd.ntmps21
  go_wp2_with (first | (go_at_call 54; refine (within_yes _ _ _ _ (by omega)).mono ?_; rintro e w' ⟨rfl, rfl⟩))
  go_ret
  exact ⟨rfl, (Below.refl _ _).alloc (Nat.le_refl _) _⟩
set_option maxHeartbeats 1000000 in
theorem table_long (ao : Option Addr) (n cap : Nat) (w : World) (h : 20 < n) :
    Calls Tryd.prog 21 #[.agg #[.int .i64 6, .slice ao n cap]] w fun e w' => e = .returned (.int .i64 2) ∧ Below w.heap.size w w' := by
  go_enter Tryd.func21, Tryd.ntmps21
  go_wp2_with (first | (go_at_call 54; refine (within_yes _ _ _ _ (by omega)).mono ?_; rintro e w' ⟨rfl, rfl⟩))
  go_ret
  exact ⟨rfl, (Below.refl _ _).alloc (Nat.le_refl _) _⟩

theorem steps_iff (ps : List (Int × Int)) : Steps ps ↔ ∀ i, 1 ≤ i → i < ps.length → okStep ps i := by
  constructor
  · intro h i h1 h2 h3 h4
    have := steps_lt h (i - 1) i ps[i - 1] ps[i] (by omega) (List.getElem?_eq_getElem h4) (List.getElem?_eq_getElem h3)
    exact this
  · intro h
    refine steps_of fun i a b ha hb => ?_
    obtain ⟨l1, rfl⟩ := List.getElem?_eq_some_iff.1 ha
    obtain ⟨l2, rfl⟩ := List.getElem?_eq_some_iff.1 hb
    exact h (i + 1) (by omega) l2 l2 (by simpa using l1)

theorem getLast?_get (ps : List (Int × Int)) (h : 2 ≤ ps.length) : ps.getLast? = some (ps[ps.length - 1]'(by omega)) := by
  rw [List.getLast?_eq_getElem?, List.getElem?_eq_getElem]
theorem head?_get (ps : List (Int × Int)) (h : 2 ≤ ps.length) : ps.head? = some (ps[0]'(by omega)) := by
  rw [List.head?_eq_getElem?, List.getElem?_eq_getElem]

theorem checkCurve_any (v : Value) (c : Cv) (w : World) (hv : CvV w v c) :
    Calls Tryd.prog 21 #[v] w fun e w' => e = .returned (.int .i64 (checkC c)) ∧ Below w.heap.size w w' := by
  by_cases hk : 1 ≤ c.kind ∧ c.kind ≤ 6
  · by_cases h6 : c.kind = 6
    · obtain ⟨p, rfl, hp⟩ := hv
      rw [kind6 c h6, h6]
      have hl : ∃ ao cap, p = .slice ao c.pts.length cap := by
        rcases hp with ⟨h, ao, cap, rfl⟩ | ⟨_, _, b, off, cap, rfl, _⟩
        · exact ⟨ao, cap, by rw [h]; rfl⟩
        · exact ⟨_, cap, rfl⟩
      by_cases h2 : c.pts.length < 2
      · rw [if_pos h2]
        obtain ⟨ao, cap, rfl⟩ := hl
        exact table_short _ _ _ _ h2
      · rw [if_neg h2]
        by_cases h20 : 20 < c.pts.length
        · rw [if_pos h20]
          obtain ⟨ao, cap, rfl⟩ := hl
          exact table_long _ _ _ _ h20
        · rw [if_neg h20]
          rcases hp with ⟨h, _⟩ | ⟨_, _, b, off, cap, rfl, hb, hp⟩
          · rw [h] at h2; simp at h2
          generalize hps : c.pts = ps at *
          rcases all_or_first (fun i => ∀ (h : i < ps.length), inMil ps[i]) ps.length with ha | ⟨j, hj, hb1, hg⟩
          · have ha' : ∀ x ∈ ps, inMil x := by
              intro x hx
              obtain ⟨i, hi, rfl⟩ := List.getElem_of_mem hx
              exact ha i hi hi
            rw [if_neg (by simpa using ha')]
            have ha2 : ∀ i (h : i < ps.length), inMil ps[i] := fun i h => ha i h h
            rw [getLast?_get ps (by omega), head?_get ps (by omega)]
            by_cases e0 : ps[0] = (0, 0)
            · by_cases el : ps[ps.length - 1] = (1000, 1000)
              · rw [if_neg (by rw [e0, el]; simp)]
                rcases all_or_first (fun i => 1 ≤ i → okStep ps i) ps.length with hs | ⟨j, hj, hb1, hg⟩
                · have : Steps ps := (steps_iff ps).2 fun i h1 h2 => hs i h2 h1
                  rw [if_neg (by simpa using this)]
                  exact table_order b off cap ps w hb hp (by omega) (by omega) ha2 e0 el ps.length (by omega) (Nat.le_refl _) (fun i h1 h2 => hs i h2 h1) (fun h => absurd h (by omega)) 0 (by rw [if_neg (by omega)])
                · have hj1 : 1 ≤ j := by
                    rcases Nat.eq_zero_or_pos j with h | h
                    · subst h; exact absurd (fun h => absurd h (by omega)) hb1
                    · exact h
                  have hb2 : ¬ okStep ps j := fun h => hb1 fun _ => h
                  have : ¬ Steps ps := fun h => hb2 ((steps_iff ps).1 h j hj1 hj)
                  rw [if_pos this]
                  exact table_order b off cap ps w hb hp (by omega) (by omega) ha2 e0 el j hj1 (by omega) (fun i h1 h2 => hg i h2 h1) (fun _ => hb2) 7 (by rw [if_pos hj])
              · rw [if_pos (.inr (by simpa using el))]
                exact table_last b off cap ps w hb hp (by omega) (by omega) ha2 e0 el
            · rw [if_pos (.inl (by simpa using e0))]
              exact table_head b off cap ps w hb hp (by omega) (by omega) ha2 e0
          · have hb2 : ¬ inMil ps[j] := fun h => hb1 fun _ => h
            rw [if_pos (fun h => hb2 (h _ (List.getElem_mem hj)))]
            exact table_range b off cap ps w hb hp (by omega) (by omega) j hj (fun i h hi => hg i hi h) hb2
    · exact checkCurve_plain v c w hv hk h6
  · exact checkCurve_kind v c w hv hk
end Go.Proofs.YtdicoggpcobbpaaDoor
