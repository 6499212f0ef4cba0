/- Words of fixtures' checks: levels, zero values, strings and ints as keys of maps. (printed by wip/gen/gen_ckrng.py) -/
import Derived.Test.YtabalicembhjmaaFixOpen
import Derived.Test.YtabalicembhjmaaSeen
import Derived.Test.YtabalicembhjmaaMapM
import Derived.Maps.Keyed
import Derived.StringKeys
namespace Go.Proofs.Ytabalicembhjmaa
open Go.RowKit
set_option linter.unusedVariables false
set_option linter.unusedSimpArgs false

set_option maxHeartbeats 400000 in
theorem fLevel_R (n : Int) (w : World) : Calls Try.prog 71 #[.int .i64 n] w fun e w' => e = .returned (.bool (inR n 0 65535)) ∧ w = w' := by
  go_enter Try.func71, Try.ntmps71
  go_wp2_with (go_at_call 29; refine (within_R _ _ _ _).mono ?_; rintro e w' ⟨rfl, rfl⟩)
  go_ret
  exact ⟨rfl, rfl⟩
theorem zeroI_ (w : World) : (zeroValue 3).run Try.prog w = .ok (.int .i64 0) w := by kernel_rfl
theorem zeroB_ (w : World) : (zeroValue 4).run Try.prog w = .ok (.bool false) w := by kernel_rfl
theorem keyS_ : Maps.Keyed Try.prog 9 := Maps.string_keyed Try.underlying9
theorem keyI_ : Maps.Keyed Try.prog 3 := Maps.int_keyed Try.underlying3
theorem keyOfS_ {s : ByteArray} (h : s.size ≤ maxLen) : keyOf Try.prog 9 (.string s) = some (.string s.data.toList) := WideMaps.keyOf_string_mk Try.underlying9 h
theorem i64wf_ {a : Int} (h : I64 a) : (Lit.int .i64 a).wf = true := by
  unfold I64 at h
  simp [Lit.wf, IntKind.min, IntKind.max, IntKind.signed, IntKind.bits]
  omega
theorem keyOfI_ {a : Int} (h : I64 a) : keyOf Try.prog 3 (.int .i64 a) = some (.int .i64 a) := Maps.keyOf_int_mk Try.underlying3 (i64wf_ h)
theorem mem_strs {α : Type} (f : α → List UInt8) (l : List α) (x : List UInt8) : Lit.string x ∈ l.map (fun y => Lit.string (f y)) ↔ x ∈ l.map f := by
  rw [List.mem_map, List.mem_map]
  constructor
  · rintro ⟨y, h1, h2⟩; injection h2 with h2; exact ⟨y, h1, h2⟩
  · rintro ⟨y, h1, h2⟩; exact ⟨y, h1, by rw [h2]⟩
theorem mem_ints (l : List Int) (x : Int) : Lit.int .i64 x ∈ l.map (Lit.int .i64) ↔ x ∈ l := by
  rw [List.mem_map]
  constructor
  · rintro ⟨y, h1, h2⟩; injection h2 with _ h2; subst h2; exact h1
  · intro h; exact ⟨x, h, rfl⟩
theorem strs_snoc {α : Type} (f : α → List UInt8) (l : List α) (k : Nat) (h : k < l.length) : (l.take (k + 1)).map (fun y => Lit.string (f y)) = (l.take k).map (fun y => Lit.string (f y)) ++ [Lit.string (f l[k])] := by
  rw [List.take_succ_eq_append_getElem h, List.map_append]; rfl
end Go.Proofs.Ytabalicembhjmaa
