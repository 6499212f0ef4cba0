/- What effect.Read makes of words: plain. Contracts of level.Read and word.Number at any text. -/
import Derived.Test.YtfidbdegggalmaaGreatDoorT66M11
import Derived.Test.YtfidbdegggalmaaGreatDoorT66M17
import Derived.Test.YtfidbdegggalmaaGreatDoorT66M10
import Derived.Test.YtfidbdegggalmaaGreatDoorT66M18

namespace Go.Proofs.YtfidbdegggalmaaGreatDoor
open Go.RowKit
set_option linter.unusedVariables false
set_option linter.unusedSimpArgs false

noncomputable def lvW (s : ByteArray) : Option Int := by
  classical exact if s.toList = [111, 117, 116] then some 0 else if s.toList = [102, 117, 108, 108] then some 65535 else if h : ∃ v, RdS 9 s v then some h.choose else none
noncomputable def nbW (s : ByteArray) : Option Int := by
  classical exact if NumS s 9 then some (valS s : Int) else none
theorem ba_of_list {s : ByteArray} {l : List UInt8} (h : s.toList = l) : s = ⟨l.toArray⟩ := by
  rw [Lib.toList_data] at h
  exact ByteArray.ext (by rw [← h])
theorem lread_any (s : ByteArray) (w : World) (hn : s.size ≤ 9223372036854775807) :
    Calls Tryz.prog 21 #[.string s] w fun e w' => e = .returned (.tuple #[.int .i64 ((lvW s).getD 0), .int .i64 (if (lvW s).isSome then 0 else 9)]) ∧ Below w.heap.size w w' := by
  by_cases e1 : s.toList = [111, 117, 116]
  · have e0 : lvW s = some 0 := by unfold lvW; rw [if_pos e1]
    rw [e0, ba_of_list e1]
    refine (read_out w).mono ?_
    rintro e w' ⟨rfl, rfl⟩
    exact ⟨rfl, Below.refl _ _⟩
  by_cases e2 : s.toList = [102, 117, 108, 108]
  · have e0 : lvW s = some 65535 := by unfold lvW; rw [if_neg e1, if_pos e2]
    rw [e0, ba_of_list e2]
    refine (read_full w).mono ?_
    rintro e w' ⟨rfl, rfl⟩
    exact ⟨rfl, Below.refl _ _⟩
  by_cases h : ∃ v, RdS 9 s v
  · have e0 : lvW s = some h.choose := by unfold lvW; rw [if_neg e1, if_neg e2, dif_pos h]
    rw [e0]
    exact read_good s h.choose w hn e1 e2 h.choose_spec
  · have e0 : lvW s = none := by unfold lvW; rw [if_neg e1, if_neg e2, dif_neg h]
    rw [e0]
    exact read_wrong s w hn e1 e2 h
theorem number_any (s : ByteArray) (w : World) (hn : s.size ≤ 9223372036854775807) :
    Calls Tryz.prog 23 #[.string s] w fun e w' => e = .returned (.tuple #[.int .i64 ((nbW s).getD 0), .bool (nbW s).isSome]) ∧ Below w.heap.size w w' := by
  by_cases h : NumS s 9
  · have e0 : nbW s = some (valS s : Int) := by unfold nbW; rw [if_pos h]
    rw [e0]
    exact number_yes s w h
  · have e0 : nbW s = none := by unfold nbW; rw [if_neg h]
    rw [e0]
    exact number_no s w hn h
theorem nbW_range {s : ByteArray} {n : Int} (h : nbW s = some n) : 0 ≤ n ∧ n ≤ 1000000000 := by
  unfold nbW at h
  split at h
  · rename_i hs
    injection h with h
    subst h
    have h1 : valS s < 10 ^ s.size := hs.lt
    have h2 : 10 ^ s.size ≤ 10 ^ 9 := Nat.pow_le_pow_right (by omega) hs.short
    have h3 : (10 : Nat) ^ 9 = 1000000000 := by decide
    omega
  · cases h

/-- the form of a word: the last of n forms that has it -/
def fmI (s : ByteArray) : Nat → Int
  | 0 => 0
  | n + 1 => if formT (n + 1) = s then ((n + 1 : Nat) : Int) else fmI s n
def cycB : ByteArray := ⟨#[99, 121, 99, 108, 101]⟩
def widB : ByteArray := ⟨#[119, 105, 100, 116, 104]⟩
def sprB : ByteArray := ⟨#[115, 112, 114, 101, 97, 100]⟩
def bckB : ByteArray := ⟨#[98, 97, 99, 107]⟩
def relB : ByteArray := ⟨#[114, 101, 108, 97, 116, 105, 118, 101]⟩
def froB : ByteArray := ⟨#[102, 114, 111, 109]⟩
def toB : ByteArray := ⟨#[116, 111]⟩
/-- a word and a number behind it -/
noncomputable def kvW (word : ByteArray) : List ByteArray → Option (Int × List ByteArray)
  | a :: b :: R => if a = word then (nbW b).map (fun n => (n, R)) else none
  | _ => none
def dshT (s : ByteArray) : ByteArray := ⟨(Lib.trimPrefix s.data.toList [45]).toArray⟩
def dshB (s : ByteArray) : Bool := Lib.hasPrefix s.data.toList [45]
/-- a spread -/
noncomputable def spW (s : ByteArray) : Option Int := match nbW (dshT s) with
  | none => none
  | some n => if n = 0 then none else some (if dshB s then -n else n)
/-- a step -/
noncomputable def stW (s : ByteArray) : Option Stp := match wordsB 58 s with
  | [a, b, c] => match lvW a, nbW b, nbW c with
    | some l, some h, some f => some ⟨l, h, f⟩
    | _, _, _ => none
  | _ => none
noncomputable def prsL : List ByteArray → Option (List Stp)
  | [] => some []
  | s :: R => match stW s with
    | none => none
    | some x => (prsL R).map (x :: ·)
noncomputable def prsT (form lo hi c wd sp : Int) (bk rl : Bool) (R : List ByteArray) : Option Eff :=
  if form = 7 then (prsL R).map (fun l => ⟨form, lo, hi, c, wd, sp, bk, rl, l⟩) else if R = [] then some ⟨form, lo, hi, c, wd, sp, bk, rl, []⟩ else none
noncomputable def prsR (form lo hi c wd sp : Int) (bk : Bool) : List ByteArray → Option Eff
  | a :: R => if a = relB then prsT form lo hi c wd sp bk true R else prsT form lo hi c wd sp bk false (a :: R)
  | [] => prsT form lo hi c wd sp bk false []
noncomputable def prsB (form lo hi c wd sp : Int) : List ByteArray → Option Eff
  | a :: R => if a = bckB then prsR form lo hi c wd sp true R else prsR form lo hi c wd sp false (a :: R)
  | [] => prsR form lo hi c wd sp false []
noncomputable def prsS (form lo hi c wd : Int) : List ByteArray → Option Eff
  | a :: b :: R => if a = sprB then (match spW b with
    | none => none
    | some n => prsB form lo hi c wd n R) else prsB form lo hi c wd 0 (a :: b :: R)
  | R => prsB form lo hi c wd 0 R
noncomputable def prsC (form lo hi : Int) (R : List ByteArray) : Option Eff :=
  if form = 7 then prsS form lo hi 0 0 R else match kvW cycB R with
    | none => none
    | some (n, R1) => if form = 4 then (match kvW widB R1 with
      | none => none
      | some (m, R2) => prsS form lo hi n m R2) else prsS form lo hi n 0 R1
noncomputable def prsE (ws : List ByteArray) : Option Eff := match ws with
  | f :: a :: l :: b :: h :: R => if fmI f 7 = 0 ∨ a ≠ froB ∨ b ≠ toB then none else match lvW l, lvW h with
    | some lo, some hi => prsC (fmI f 7) lo hi R
    | _, _ => none
  | _ => none
/-- an effect's value, of any kind -/
def EffSh (v : Value) : Prop := ∃ form low high cycle width spread back rel so sl scap, v = .agg #[.int .i64 form, .int .i64 low, .int .i64 high, .int .i64 cycle, .int .i64 width, .int .i64 spread, .bool back, .bool rel, .slice so sl scap]
end Go.Proofs.YtfidbdegggalmaaGreatDoor
