/- The level of a named range. No walk in it. (printed by wip/gen/gen_named.py) -/
import Derived.Test.YtabalicembhjmaaDoorT37M28

namespace Go.Proofs.YtabalicembhjmaaDoor
open Go.RowKit
set_option linter.unusedVariables false
set_option linter.unusedSimpArgs false

def hasRn (nm : List UInt8) (r : Rng) : Bool := decide (r.nm = nm)
/-- the range of a parameter, or of none, that has a name -/
def rngO (o : Option Par) (b : List UInt8) : Option Rng := match o with | some q => q.rngs.find? (hasRn b) | none => none
def midO (o : Option Rng) : Int × Int := match o with | some r => ((r.low + r.high) / 2, 0) | none => (0, 8)
/-- what Named answers -/
def namedV (p : Prf) (a b : ByteArray) : Int × Int := if chkPrf p = 0 then midO (rngO (parOf p.pars a.data.toList) b.data.toList) else (0, chkPrf p)
theorem namedV_ok {p : Prf} (h : chkPrf p = 0) (a b : ByteArray) : namedV p a b = midO (rngO (parOf p.pars a.data.toList) b.data.toList) := if_pos h
theorem namedV_bad {p : Prf} (h : ¬ chkPrf p = 0) (a b : ByteArray) : namedV p a b = (0, chkPrf p) := if_neg h
theorem parOf_mem {l : List Par} {n : List UInt8} {q : Par} (h : parOf l n = some q) : q ∈ l := List.mem_of_find?_eq_some h
theorem par_chk {p : Prf} (h : chkPrf p = 0) {q : Par} (hq : q ∈ p.pars) : nameB q.nm = true ∧ (1 ≤ q.grp ∧ q.grp ≤ 4) ∧ (0 ≤ q.fine ∧ q.fine ≤ 512) ∧ (0 ≤ q.dflt ∧ q.dflt ≤ 65535) ∧ (1 ≤ q.sl ∧ q.sl ≤ 512) ∧ chkRngs q.rngs = 0 := by
  obtain ⟨k, hk, rfl⟩ := List.getElem_of_mem hq
  obtain ⟨h1, h2, h3, h4, h5⟩ := chkPrf_zero h
  obtain ⟨g1, _, g3, g4, _, g6⟩ := parF_zero (scanF_zero _ _ h5 k hk)
  obtain ⟨b1, b2, b3⟩ := parBad_false g4
  exact ⟨g1, g3, ⟨b2.1, by omega⟩, b3, ⟨b1.1, by omega⟩, g6⟩
theorem rngF_zero {pre : List Rng} {r : Rng} (h : rngF pre r = 0) : (0 ≤ r.low ∧ r.low ≤ 65535) ∧ (0 ≤ r.high ∧ r.high ≤ 65535) ∧ nameB r.nm = true := by
  unfold rngF at h
  cases h1 : rngBad r
  · have h2 := h1
    simp only [rngBad, Bool.or_eq_false_iff, Bool.not_eq_false'] at h2
    refine ⟨inR_true h2.1.1, inR_true h2.1.2, ?_⟩
    cases h3 : rngLow pre r
    · cases h4 : nameB r.nm
      · rw [h1, h3, h4] at h; simp at h
      · rfl
    · rw [h1, h3] at h; simp at h
  · rw [h1] at h; simp at h
theorem rng_chk {l : List Rng} (h : chkRngs l = 0) : l.length ≤ 30 ∧ ∀ r ∈ l, (0 ≤ r.low ∧ r.low ≤ 65535) ∧ (0 ≤ r.high ∧ r.high ≤ 65535) ∧ nameB r.nm = true := by
  unfold chkRngs at h
  by_cases c : 30 < l.length
  · rw [if_pos c] at h; simp at h
  rw [if_neg c] at h
  refine ⟨by omega, fun r hr => ?_⟩
  obtain ⟨k, hk, rfl⟩ := List.getElem_of_mem hr
  exact rngF_zero (scanF_zero _ _ h k hk)
theorem rngO_fit {p : Prf} (h : chkPrf p = 0) {n b : List UInt8} {q : Par} (hq : parOf p.pars n = some q) : ∀ r ∈ q.rngs, (0 ≤ r.low ∧ r.low ≤ 65535) ∧ (0 ≤ r.high ∧ r.high ≤ 65535) := by
  intro r hr
  have h1 := (rng_chk (par_chk h (parOf_mem hq)).2.2.2.2.2).2 r hr
  exact ⟨h1.1, h1.2.1⟩
theorem rngO_some (q : Par) (b : List UInt8) : rngO (some q) b = q.rngs.find? (hasRn b) := rfl
theorem midO_some (r : Rng) : midO (some r) = ((r.low + r.high) / 2, 0) := rfl
theorem midO_none : midO none = (0, 8) := rfl
theorem tdiv2 {a : Int} (h : 0 ≤ a) : a.tdiv 2 = a / 2 := Int.tdiv_eq_ediv_of_nonneg h
end Go.Proofs.YtabalicembhjmaaDoor
