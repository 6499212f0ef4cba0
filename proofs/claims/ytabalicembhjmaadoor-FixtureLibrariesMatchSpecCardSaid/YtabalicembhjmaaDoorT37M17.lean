/- Words of fixtures' checks: levels, zero values, strings and ints as keys of maps. (printed by wip/gen/gen_ckrng.py) Look-ups and stores of a map of marks as run equations. No walk in it. -/
import Derived.Test.YtabalicembhjmaaDoorT37M14
import Derived.Test.YtabalicembhjmaaDoorT37M15
import Derived.Test.YtabalicembhjmaaDoorT37M16
import Derived.Maps.Keyed
import Derived.StringKeys

namespace Go.Proofs.YtabalicembhjmaaDoor
open Go.RowKit
set_option linter.unusedVariables false
set_option linter.unusedSimpArgs false

set_option maxHeartbeats 400000 in
theorem fLevel_R (n : Int) (w : World) : Calls Tryd.prog 36 #[.int .i64 n] w fun e w' => e = .returned (.bool (inR n 0 65535)) ∧ w = w' := by
  go_enter Tryd.func36, Tryd.ntmps36
  go_wp2_with (go_at_call 35; refine (within_R _ _ _ _).mono ?_; rintro e w' ⟨rfl, rfl⟩)
  go_ret
  exact ⟨rfl, rfl⟩
theorem zeroI_ (w : World) : (zeroValue 3).run Tryd.prog w = .ok (.int .i64 0) w := by kernel_rfl
theorem zeroB_ (w : World) : (zeroValue 4).run Tryd.prog w = .ok (.bool false) w := by kernel_rfl
theorem keyS_ : Maps.Keyed Tryd.prog 9 := Maps.string_keyed Tryd.underlying9
theorem keyI_ : Maps.Keyed Tryd.prog 3 := Maps.int_keyed Tryd.underlying3
theorem keyOfS_ {s : ByteArray} (h : s.size ≤ maxLen) : keyOf Tryd.prog 9 (.string s) = some (.string s.data.toList) := WideMaps.keyOf_string_mk Tryd.underlying9 h
theorem i64wf_ {a : Int} (h : I64 a) : (Lit.int .i64 a).wf = true := by
  unfold I64 at h
  simp [Lit.wf, IntKind.min, IntKind.max, IntKind.signed, IntKind.bits]
  omega
theorem keyOfI_ {a : Int} (h : I64 a) : keyOf Tryd.prog 3 (.int .i64 a) = some (.int .i64 a) := Maps.keyOf_int_mk Tryd.underlying3 (i64wf_ h)
theorem mem_strs {α : Type} (f : α → List UInt8) (l : List α) (x : List UInt8) : Lit.string x ∈ l.map (fun y => Lit.string (f y)) ↔ x ∈ l.map f := by
  rw [List.mem_map, List.mem_map]
  constructor
  · rintro ⟨y, h1, h2⟩; injection h2 with h2; exact ⟨y, h1, h2⟩
  · rintro ⟨y, h1, h2⟩; exact ⟨y, h1, by rw [h2]⟩
theorem mem_ints (l : List Int) (x : Int) : Lit.int .i64 x ∈ l.map (Lit.int .i64) ↔ x ∈ l := by
  rw [List.mem_map]
  constructor
  · rintro ⟨y, h1, h2⟩; injection h2 with _ h2; subst h2; exact h1
  · intro h; exact ⟨x, h, rfl⟩
theorem strs_snoc {α : Type} (f : α → List UInt8) (l : List α) (k : Nat) (h : k < l.length) : (l.take (k + 1)).map (fun y => Lit.string (f y)) = (l.take k).map (fun y => Lit.string (f y)) ++ [Lit.string (f l[k])] := by
  rw [List.take_succ_eq_append_getElem h, List.map_append]; rfl
end Go.Proofs.YtabalicembhjmaaDoor

namespace Go.Proofs.YtabalicembhjmaaDoor
open Go.RowKit
set_option linter.unusedVariables false
set_option linter.unusedSimpArgs false

open Go.Maps (Keyed)
section
variable {w : World} {P : Program} {k e : TypeId} {b n : Nat} {S : List Lit}
theorem SeenM.mono (h : SeenM w P k e b n S) {m : Nat} (hm : n ≤ m) : SeenM w P k e b m S := by
  obtain ⟨D, h1, h2⟩ := h.own
  exact ⟨D, h1.mono hm, h2⟩
theorem SeenM.drew (h : SeenM w P k e b n S) : SeenM w.drew P k e b n S := by
  obtain ⟨D, h1, h2⟩ := h.own
  exact ⟨D, h1.drew, h2⟩
theorem SeenM.look (h : SeenM w P k e b n S) (K : Keyed P k) {t : TypeId} (ht : P.underlying t = some (.map k e)) (he : P.underlying e = some .bool) (hz : (zeroValue e).run P w = .ok (.bool false) w) {key : Value} {kl : Lit} (hkey : keyOf P k key = some kl) (c : Bool) (hc : c = true ↔ kl ∈ S) :
    (Instr.lookup t (.map (some b)) key false).run P w = .ok (.bool c) w := by
  obtain ⟨D, h1, h2, h3⟩ := h.own
  obtain ⟨v, ps, hrun, hv⟩ := h1.lookup K ht hz (plainElem_bool he false) hkey
  obtain ⟨x', rfl, hx'⟩ := plainElem_bool_inv he hv
  obtain ⟨c', h4, h5⟩ := h3 kl
  rw [h4] at hx'
  simp at hx'
  obtain ⟨hxe, rfl⟩ := hx'
  subst hxe
  rw [hrun]
  have : c = c' := by
    cases c <;> cases c' <;> simp_all
  rw [this]
theorem SeenM.look_in (h : SeenM w P k e b n S) (K : Keyed P k) {t : TypeId} (ht : P.underlying t = some (.map k e)) (he : P.underlying e = some .bool) (hz : (zeroValue e).run P w = .ok (.bool false) w) {key : Value} {kl : Lit} (hkey : keyOf P k key = some kl) (hc : kl ∈ S) :
    (Instr.lookup t (.map (some b)) key false).run P w = .ok (.bool true) w := h.look K ht he hz hkey true (by simp [hc])
theorem SeenM.look_out (h : SeenM w P k e b n S) (K : Keyed P k) {t : TypeId} (ht : P.underlying t = some (.map k e)) (he : P.underlying e = some .bool) (hz : (zeroValue e).run P w = .ok (.bool false) w) {key : Value} {kl : Lit} (hkey : keyOf P k key = some kl) (hc : kl ∉ S) :
    (Instr.lookup t (.map (some b)) key false).run P w = .ok (.bool false) w := h.look K ht he hz hkey false (by simp [hc])
theorem SeenM.update (h : SeenM w P k e b n S) (K : Keyed P k) {t : TypeId} (ht : P.underlying t = some (.map k e)) (he : P.underlying e = some .bool) (hn : n < maxLen) {key : Value} {kl : Lit} (hkey : keyOf P k key = some kl) :
    ∃ w', (Instr.mapUpdate t (.map (some b)) key (.bool true)).run P w = .ok () w' ∧ SeenM w' P k e b (n + 1) (S ++ [kl]) ∧ w.grownBy w' (some b) := by
  obtain ⟨D, h1, h2, h3⟩ := h.own
  obtain ⟨w', hrun, r1, r2⟩ := h1.update K ht hn hkey (plainElem_bool he true)
  exact ⟨w', hrun, SeenM.put h2 h3 (K.key hkey) r1, r2⟩
end
theorem grown_cell {w w' : World} {row b off : Nat} (h : w.grownBy w' (some row)) (hb : b < w.heap.size) (hne : b ≠ row) : w'.cell? ⟨b, off, none⟩ = w.cell? ⟨b, off, none⟩ :=
  World.cell?_of_block (h.block b hb (by intro e; injection e with e; exact hne e))
end Go.Proofs.YtabalicembhjmaaDoor
