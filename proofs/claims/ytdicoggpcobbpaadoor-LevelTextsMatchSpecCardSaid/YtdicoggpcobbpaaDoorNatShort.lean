/- The contract of the reference's short: the division by a number of one digit. -/
import Derived.Test.YtdicoggpcobbpaaDoorNatScaled
namespace Go.Proofs.YtdicoggpcobbpaaDoor
open Go.RowKit
set_option linter.unusedVariables false
set_option linter.unusedSimpArgs false

/-- a new number and a rest -/
def ShortO (base q r : Nat) (w : World) (e : Ending) (w' : World) : Prop := ∃ v L, e = .returned (.tuple #[v, .int .i64 (r : Nat)]) ∧ LenOf q L ∧ w'.ownsRow base 3 1 v L (dcells q L) ∧ Below base w w'
theorem quo_facts {s d q : Nat} (h : s / d = q) : Int.tdiv (s : Int) (d : Int) = (q : Int) ∧ (s : Int) / (d : Int) = (q : Int) := by
  subst h
  exact ⟨tdiv_nat s d, (Int.natCast_ediv s d).symm⟩
theorem rem_facts {s d r : Nat} (h : s % d = r) : Int.tmod (s : Int) (d : Int) = (r : Int) ∧ (s : Int) % (d : Int) = (r : Int) := by
  subst h
  exact ⟨tmod_nat s d, (Int.natCast_emod s d).symm⟩
theorem quot_lt {a d L : Nat} (h : a < BB ^ L) : a / d < BB ^ L := Nat.lt_of_le_of_lt (Nat.div_le_self _ _) h

end Go.Proofs.YtdicoggpcobbpaaDoor
