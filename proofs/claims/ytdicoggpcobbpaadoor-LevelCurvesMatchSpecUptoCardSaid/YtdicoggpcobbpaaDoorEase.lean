/- Contracts of level.parts and level.Ease. -/
import Derived.Test.YtdicoggpcobbpaaDoorAt
namespace Go.Proofs.YtdicoggpcobbpaaDoor
open Go.RowKit

def PartOk (p q : Int) : Prop := (1 ≤ q ∧ q ≤ 36000000) ∧ 0 ≤ p ∧ p ≤ q
instance (p q : Int) : Decidable (PartOk p q) := by unfold PartOk; infer_instance

noncomputable def easeE (c : Cv) (p q : Int) : Int := firstE (checkC c) (if PartOk p q then 0 else 1)
noncomputable def easeV (c : Cv) (p q : Int) : Int := if easeE c p q = 0 then rnd (65535 * wayN c p q) (wayD c p q) else 0

theorem easeE_ok (c : Cv) (p q : Int) : easeE c p q = 0 ↔ RightC c ∧ PartOk p q := by
  unfold easeE firstE
  rw [← checkC_right]
  by_cases h : checkC c = 0
  · rw [if_pos h]
    by_cases k : PartOk p q
    · rw [if_pos k]; exact ⟨fun _ => ⟨h, k⟩, fun _ => rfl⟩
    · rw [if_neg k]; exact ⟨fun e => by omega, fun e => absurd e.2 k⟩
  · rw [if_neg h]; exact ⟨fun e => absurd e h, fun e => absurd e.1 h⟩

end Go.Proofs.YtdicoggpcobbpaaDoor
