/- The reference's way of reading effects' words comes to what prsE says: plain Lean. -/
import Derived.Test.YtfidbdegggalmaaGreatDoorT66M35

namespace Go.Proofs.YtfidbdegggalmaaGreatDoor
open Go.RowKit
set_option linter.unusedVariables false
set_option linter.unusedSimpArgs false

/-- nothing where a word was wrong -/
def bN (b : Bool) (x : Option Eff) : Option Eff := if b = true then none else x
theorem bN_true (x : Option Eff) : bN true x = none := rfl
theorem bN_false (x : Option Eff) : bN false x = x := rfl
theorem bN_none (b : Bool) : bN b none = none := by cases b <;> rfl
/-- a level behind a word -/
noncomputable def lvC (s : ByteArray) (R : List ByteArray) (K : Int → List ByteArray → Option Eff) : Option Eff := match R with
  | a :: l :: R1 => if a = s then (match lvW l with
    | none => none
    | some v => K v R1) else none
  | _ => none
theorem isH_yes (s : ByteArray) (R : List ByteArray) : isH s (s :: R) = true := decide_eq_true rfl
theorem isH_no {a s : ByteArray} (h : a ≠ s) (R : List ByteArray) : isH s (a :: R) = false := decide_eq_false h
theorem isT_yes (s : ByteArray) (R : List ByteArray) : isT s (s :: R) = R := if_pos rfl
theorem isT_no {a s : ByteArray} (h : a ≠ s) (R : List ByteArray) : isT s (a :: R) = a :: R := if_neg h
theorem lv_step (s : ByteArray) (R : List ByteArray) (bad : Bool) (K : Int → List ByteArray → Option Eff) :
    bN bad (lvC s R K) = bN (wdB s R bad || (lvW (wdV s R)).isNone) (K ((lvW (wdV s R)).getD 0) (wdT s R)) := by
  have hb : ∀ (b : Bool) X, wdB s R bad = true → bN (wdB s R bad || b) X = none := fun b X h => by rw [h, Bool.true_or]; rfl
  rcases R with _ | ⟨a, _ | ⟨l, R⟩⟩
  · rw [hb _ _ (by unfold wdB isH isT; cases bad <;> rfl)]
    exact bN_none _
  · rw [hb]
    · exact bN_none _
    · unfold wdB
      by_cases c : a = s
      · subst c
        rw [isT_yes]
        cases bad <;> simp
      · rw [isH_no c]
        simp
  · by_cases c : a = s
    · subst c
      unfold wdB wdV wdT
      rw [isH_yes, isT_yes]
      show bN bad (if a = a then _ else _) = bN (((bad || !true) || false) || (lvW l).isNone) (K ((lvW l).getD 0) R)
      rw [if_pos rfl]
      cases lvW l <;> cases bad <;> rfl
    · rw [hb]
      · show bN bad (if a = s then _ else none) = none
        rw [if_neg c]
        exact bN_none _
      · unfold wdB
        rw [isH_no c]
        simp
theorem kv_step (s : ByteArray) (R : List ByteArray) (bad : Bool) (K : Int → List ByteArray → Option Eff) :
    bN bad (match kvW s R with | none => none | some (n, R1) => K n R1) = bN (wdB s R bad || (nbW (wdV s R)).isNone) (K ((nbW (wdV s R)).getD 0) (wdT s R)) := by
  have hb : ∀ (b : Bool) X, wdB s R bad = true → bN (wdB s R bad || b) X = none := fun b X h => by rw [h, Bool.true_or]; rfl
  rcases R with _ | ⟨a, _ | ⟨l, R⟩⟩
  · rw [hb _ _ (by unfold wdB isH isT; cases bad <;> rfl)]
    exact bN_none _
  · rw [hb]
    · exact bN_none _
    · unfold wdB
      by_cases c : a = s
      · subst c
        rw [isT_yes]
        cases bad <;> simp
      · rw [isH_no c]
        simp
  · by_cases c : a = s
    · subst c
      rw [show kvW a (a :: l :: R) = (nbW l).map (fun n => (n, R)) from if_pos rfl]
      unfold wdB wdV wdT
      rw [isH_yes, isT_yes]
      show bN bad _ = bN (((bad || !true) || false) || (nbW l).isNone) (K ((nbW l).getD 0) R)
      cases nbW l <;> cases bad <;> rfl
    · rw [hb, show kvW s (a :: l :: R) = none from if_neg c]
      · exact bN_none _
      · unfold wdB
        rw [isH_no c]
        simp
theorem stW_eqN (s : ByteArray) : stW s = if stN (wordsB 58 s) = true then none else some (stV (wordsB 58 s)) := by
  unfold stW
  generalize wordsB 58 s = L
  rcases L with _ | ⟨a, _ | ⟨b, _ | ⟨c, _ | ⟨d, R⟩⟩⟩⟩
  all_goals try rfl
  show (match lvW a, nbW b, nbW c with
    | some l, some h, some f => some (⟨l, h, f⟩ : Stp)
    | _, _, _ => none) = if (((lvW a).isNone || (nbW b).isNone) || (nbW c).isNone) = true then none else some ⟨(lvW a).getD 0, (nbW b).getD 0, (nbW c).getD 0⟩
  cases lvW a <;> cases nbW b <;> cases nbW c <;> rfl
theorem stW_spr : stW sprB = none := by
  have hw := wordsB_spl 58 sprB
  rw [spl_out (by decide)] at hw
  rw [stW_eqN]
  cases h : wordsB 58 sprB with
  | nil => rfl
  | cons a r =>
    rw [h] at hw
    obtain ⟨_, h2⟩ := List.cons.inj hw
    obtain rfl : r = [] := List.map_eq_nil_iff.1 h2
    rfl
theorem prsT_spr (form lo hi c wd sp : Int) (bk rl : Bool) : prsT form lo hi c wd sp bk rl [sprB] = none := by
  unfold prsT
  split
  · show Option.map _ (match stW sprB with | none => none | some x => (prsL []).map (x :: ·)) = none
    rw [stW_spr]
    rfl
  · rw [if_neg (by simp)]
theorem prsB_spr (form lo hi c wd sp : Int) : prsB form lo hi c wd sp [sprB] = none := by
  show (if sprB = bckB then prsR form lo hi c wd sp true [] else (if sprB = relB then prsT form lo hi c wd sp false true [] else prsT form lo hi c wd sp false false [sprB])) = none
  rw [if_neg (by decide), if_neg (by decide)]
  exact prsT_spr ..
theorem sp_step (form lo hi c wd : Int) (R : List ByteArray) (bad : Bool) : bN bad (prsS form lo hi c wd R) = bN (spB R bad) (prsB form lo hi c wd (spV R) (spT R)) := by
  rcases R with _ | ⟨a, _ | ⟨b, R⟩⟩
  · rfl
  · by_cases e : a = sprB
    · subst e
      have h1 : spB [sprB] bad = true := by
        unfold spB
        rw [if_pos (isH_yes _ _), isT_yes]
        cases bad <;> simp
      rw [h1]
      show bN bad (prsB form lo hi c wd 0 [sprB]) = none
      rw [prsB_spr]
      exact bN_none _
    · unfold spB spV spT
      rw [isH_no e, isT_no e]
      rfl
  · by_cases e : a = sprB
    · subst e
      unfold spB spV spT
      rw [if_pos (isH_yes _ _), if_pos (isH_yes _ _), if_pos (isH_yes _ _)]
      unfold wdV
      rw [isT_yes]
      show bN bad (if sprB = sprB then (match spW b with | none => none | some n => prsB form lo hi c wd n R) else prsB form lo hi c wd 0 (sprB :: b :: R)) = bN (((bad || false) || (nbW (dshT b)).isNone) || decide ((nbW (dshT b)).getD 0 = 0)) (prsB form lo hi c wd (if dshB b = true then -((nbW (dshT b)).getD 0) else (nbW (dshT b)).getD 0) R)
      rw [if_pos rfl]
      unfold spW
      cases nbW (dshT b) with
      | none => cases bad <;> rfl
      | some n =>
        by_cases h0 : n = 0
        · subst h0
          cases bad <;> rfl
        · have hd : decide ((some n).getD 0 = 0) = false := decide_eq_false h0
          rw [hd]
          simp only [if_neg h0]
          cases bad <;> rfl
    · unfold spB spV spT
      rw [isH_no e, isT_no e]
      show bN bad (if a = sprB then _ else prsB form lo hi c wd 0 (a :: b :: R)) = bN bad (prsB form lo hi c wd 0 (a :: b :: R))
      rw [if_neg e]
theorem bk_step (form lo hi c wd sp : Int) (R : List ByteArray) : prsB form lo hi c wd sp R = prsR form lo hi c wd sp (isH bckB R) (isT bckB R) := by
  rcases R with _ | ⟨a, R⟩
  · rfl
  · by_cases e : a = bckB
    · subst e
      rw [isH_yes, isT_yes]
      show (if bckB = bckB then prsR form lo hi c wd sp true R else prsR form lo hi c wd sp false (bckB :: R)) = _
      rw [if_pos rfl]
    · rw [isH_no e, isT_no e]
      exact if_neg e
theorem rl_step (form lo hi c wd sp : Int) (bk : Bool) (R : List ByteArray) : prsR form lo hi c wd sp bk R = prsT form lo hi c wd sp bk (isH relB R) (isT relB R) := by
  rcases R with _ | ⟨a, R⟩
  · rfl
  · by_cases e : a = relB
    · subst e
      rw [isH_yes, isT_yes]
      show (if relB = relB then prsT form lo hi c wd sp bk true R else prsT form lo hi c wd sp bk false (relB :: R)) = _
      rw [if_pos rfl]
    · rw [isH_no e, isT_no e]
      exact if_neg e
theorem prsE_lv (f : ByteArray) (R0 : List ByteArray) : prsE (f :: R0) = if fmI f 7 = 0 then none else lvC froB R0 (fun lo R => lvC toB R (fun hi R => prsC (fmI f 7) lo hi R)) := by
  by_cases h : fmI f 7 = 0
  · rw [if_pos h]
    rcases R0 with _ | ⟨a, _ | ⟨l, _ | ⟨b, _ | ⟨g, R⟩⟩⟩⟩
    all_goals first | rfl | simp [prsE, h]
  · rw [if_neg h]
    rcases R0 with _ | ⟨a, _ | ⟨l, _ | ⟨b, _ | ⟨g, R⟩⟩⟩⟩
    · rfl
    · rfl
    · show none = if a = froB then (match lvW l with | none => none | some v => none) else none
      split
      · cases lvW l <;> rfl
      · rfl
    · show none = if a = froB then (match lvW l with | none => none | some v => none) else none
      split
      · cases lvW l <;> rfl
      · rfl
    · show (if fmI f 7 = 0 ∨ a ≠ froB ∨ b ≠ toB then none else match lvW l, lvW g with
        | some lo, some hi => prsC (fmI f 7) lo hi R
        | _, _ => none) = if a = froB then (match lvW l with | none => none | some v => (if b = toB then (match lvW g with | none => none | some u => prsC (fmI f 7) v u R) else none)) else none
      by_cases ha : a = froB
      · by_cases hb : b = toB
        · rw [if_neg (by simp [h, ha, hb]), if_pos ha]
          simp only [if_pos hb]
          cases lvW l <;> cases lvW g <;> rfl
        · rw [if_pos (.inr (.inr hb)), if_pos ha]
          simp only [if_neg hb]
          cases lvW l <;> rfl
      · rw [if_pos (.inr (.inl ha)), if_neg ha]
theorem pC_step (form lo hi : Int) (R : List ByteArray) : prsC form lo hi R = if form = 7 then prsS form lo hi 0 0 R else (match kvW cycB R with | none => none | some (n, R1) => if form = 4 then (match kvW widB R1 with | none => none | some (m, R2) => prsS form lo hi n m R2) else prsS form lo hi n 0 R1) := rfl
/-- what is left to be read, acc the steps that are read -/
noncomputable def tlP (form lo hi c wd sp : Int) (bk rl : Bool) (acc : List Stp) (R : List ByteArray) : Option Eff :=
  if form = 7 then (prsL R).map (fun l => ⟨form, lo, hi, c, wd, sp, bk, rl, acc ++ l⟩) else if R = [] then some ⟨form, lo, hi, c, wd, sp, bk, rl, acc⟩ else none
theorem tlP_nil (form lo hi c wd sp : Int) (bk rl : Bool) (R : List ByteArray) : prsT form lo hi c wd sp bk rl R = tlP form lo hi c wd sp bk rl [] R := rfl
theorem tlP_end (form lo hi c wd sp : Int) (bk rl : Bool) (acc : List Stp) : tlP form lo hi c wd sp bk rl acc [] = some ⟨form, lo, hi, c, wd, sp, bk, rl, acc⟩ := by
  unfold tlP
  split
  · simp [prsL]
  · rw [if_pos rfl]
theorem tlP_more (form lo hi c wd sp : Int) (bk rl : Bool) (acc : List Stp) (x : ByteArray) (R : List ByteArray) (h : form ≠ 7) : tlP form lo hi c wd sp bk rl acc (x :: R) = none := by
  unfold tlP
  rw [if_neg h, if_neg (by simp)]
theorem tlP_step (form lo hi c wd sp : Int) (bk rl : Bool) (acc : List Stp) (x : ByteArray) (R : List ByteArray) (h : form = 7) : tlP form lo hi c wd sp bk rl acc (x :: R) = bN (stN (wordsB 58 x)) (tlP form lo hi c wd sp bk rl (acc ++ [stV (wordsB 58 x)]) R) := by
  unfold tlP
  rw [if_pos h, if_pos h]
  show Option.map _ (match stW x with | none => none | some y => (prsL R).map (y :: ·)) = _
  rw [stW_eqN]
  cases stN (wordsB 58 x) with
  | true => rfl
  | false =>
    show Option.map _ ((prsL R).map (stV (wordsB 58 x) :: ·)) = (prsL R).map _
    cases prsL R <;> simp
/-- the reference's words -/
def wdsL : List ByteArray := [⟨#[]⟩, ⟨#[116, 114, 105, 97, 110, 103, 108, 101]⟩, ⟨#[117, 112]⟩, ⟨#[100, 111, 119, 110]⟩, ⟨#[115, 113, 117, 97, 114, 101]⟩, ⟨#[115, 111, 102, 116]⟩, ⟨#[99, 104, 97, 110, 99, 101]⟩, ⟨#[115, 116, 101, 112, 115]⟩]
theorem idx_fm (f : ByteArray) : (fmI f 7 = 0 ∧ Lib.idxOfS wdsL f ≤ 0) ∨ (1 ≤ fmI f 7 ∧ fmI f 7 ≤ 7 ∧ Lib.idxOfS wdsL f = fmI f 7) := by
  by_cases c : ∃ k, 1 ≤ k ∧ k ≤ 7 ∧ formT k = f
  · obtain ⟨k, h1, h7, rfl⟩ := c
    have hk : k = 1 ∨ k = 2 ∨ k = 3 ∨ k = 4 ∨ k = 5 ∨ k = 6 ∨ k = 7 := by omega
    rcases hk with rfl | rfl | rfl | rfl | rfl | rfl | rfl <;> exact .inr (by decide)
  · have hn : ∀ k, 1 ≤ k → k ≤ 7 → ¬ formT k = f := fun k h1 h7 h => c ⟨k, h1, h7, h⟩
    have n1 := hn 1 (by decide) (by decide)
    have n2 := hn 2 (by decide) (by decide)
    have n3 := hn 3 (by decide) (by decide)
    have n4 := hn 4 (by decide) (by decide)
    have n5 := hn 5 (by decide) (by decide)
    have n6 := hn 6 (by decide) (by decide)
    have n7 := hn 7 (by decide) (by decide)
    refine .inl ⟨?_, ?_⟩
    · simp only [fmI, if_neg n1, if_neg n2, if_neg n3, if_neg n4, if_neg n5, if_neg n6, if_neg n7]
    · have m1 : ¬ (⟨#[116, 114, 105, 97, 110, 103, 108, 101]⟩ : ByteArray) = f := n1
      have m2 : ¬ (⟨#[117, 112]⟩ : ByteArray) = f := n2
      have m3 : ¬ (⟨#[100, 111, 119, 110]⟩ : ByteArray) = f := n3
      have m4 : ¬ (⟨#[115, 113, 117, 97, 114, 101]⟩ : ByteArray) = f := n4
      have m5 : ¬ (⟨#[115, 111, 102, 116]⟩ : ByteArray) = f := n5
      have m6 : ¬ (⟨#[99, 104, 97, 110, 99, 101]⟩ : ByteArray) = f := n6
      have m7 : ¬ (⟨#[115, 116, 101, 112, 115]⟩ : ByteArray) = f := n7
      unfold Lib.idxOfS wdsL
      simp only [Lib.idxFromS, if_neg m1, if_neg m2, if_neg m3, if_neg m4, if_neg m5, if_neg m6, if_neg m7]
      split <;> omega
end Go.Proofs.YtfidbdegggalmaaGreatDoor
