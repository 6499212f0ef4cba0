/- Prefixes of slices of records. No walk in it. -/
import Derived.Test.YtppbagllhmeenaaGreatDoorT64M38

namespace Go.Proofs.YtppbagllhmeenaaGreatDoor
open Go.RowKit
set_option linter.unusedVariables false
set_option linter.unusedSimpArgs false

theorem CellsS.take {α : Type} {f : α → List Value} {n : Nat} {B : Nat} {w : World} {ao : Option Addr} {cap : Nat} {l : List α} (hn : ∀ y, (f y).length = n) (h : CellsS B w (.slice ao l.length cap) l.length (l.flatMap f)) (k : Nat) (hk : k ≤ l.length) : CellsS B w (.slice ao k cap) (l.take k).length ((l.take k).flatMap f) := by
  obtain ⟨ao', cap', e, h1, h2, h3⟩ := h
  injection e with e1 _ e3
  subst e1 e3
  rw [List.length_take, Nat.min_eq_left hk]
  refine ⟨ao, cap, rfl, by omega, h2, fun hp => ?_⟩
  obtain ⟨b, off, rfl, h4, h5⟩ := h3 (by omega)
  refine ⟨b, off, rfl, h4, fun j u hu => h5 j u ?_⟩
  rw [← flat_take f n hn l k hk] at hu
  rw [List.getElem?_take] at hu
  split at hu
  · exact hu
  · cases hu
theorem RngS.take {B : Nat} {w : World} {ao : Option Addr} {cap : Nat} {l : List Rng} (h : RngS B w (.slice ao l.length cap) l) (k : Nat) (hk : k ≤ l.length) : RngS B w (.slice ao k cap) (l.take k) := CellsS.take (n := 3) (fun _ => rfl) h k hk
theorem UntS.take {B : Nat} {w : World} {ao : Option Addr} {cap : Nat} {l : List Unt} (h : UntS B w (.slice ao l.length cap) l) (k : Nat) (hk : k ≤ l.length) : UntS B w (.slice ao k cap) (l.take k) := CellsS.take (n := 4) (fun _ => rfl) h k hk
theorem ParS.take {B : Nat} {w : World} {ao : Option Addr} {cap : Nat} {l : List Par} (h : ParS B w (.slice ao l.length cap) l) (k : Nat) (hk : k ≤ l.length) : ParS B w (.slice ao k cap) (l.take k) := by
  obtain ⟨lv, rfl, h1, h2⟩ := h
  refine ⟨lv.take k, by rw [List.map_take], ?_, fun y hy => h2 y (List.mem_of_mem_take hy)⟩
  rw [List.length_map] at h1 hk
  exact CellsS.take (n := 7) (fun _ => rfl) h1 k hk
theorem PrfS.take {B : Nat} {w : World} {ao : Option Addr} {cap : Nat} {l : List Prf} (h : PrfS B w (.slice ao l.length cap) l) (k : Nat) (hk : k ≤ l.length) : PrfS B w (.slice ao k cap) (l.take k) := by
  obtain ⟨lv, rfl, h1, h2⟩ := h
  refine ⟨lv.take k, by rw [List.map_take], ?_, fun y hy => h2 y (List.mem_of_mem_take hy)⟩
  rw [List.length_map] at h1 hk
  exact CellsS.take (n := 3) (fun _ => rfl) h1 k hk
theorem not_mem_snoc {α : Type} (f : α → List UInt8) (l : List α) (k : Nat) (h : k < l.length) (x : List UInt8) (h1 : x ∉ (l.take k).map f) (h2 : ¬ f l[k] = x) : x ∉ (l.take (k + 1)).map f := by
  rw [List.take_succ_eq_append_getElem h, List.map_append, List.mem_append]
  rintro (h3 | h3)
  · exact h1 h3
  · simp at h3; exact h2 h3.symm
theorem mem_at {α : Type} (f : α → List UInt8) (l : List α) (k : Nat) (h : k < l.length) (x : List UInt8) (h2 : f l[k] = x) : x ∈ l.map f := List.mem_map.2 ⟨_, List.getElem_mem h, h2⟩
end Go.Proofs.YtppbagllhmeenaaGreatDoor
