/- A stretch of slots is free: as marks and as no unit that meets it. No walk in it. (printed by wip/gen/gen_rfits.py) A unit gets another profile: its place; the rig behind it is right. No walk in it. The level of a named range. No walk in it. (printed by wip/gen/gen_named.py) The level of a setting with another profile. No walk in it. (printed by wip/gen/gen_carried.py) The settings of a unit that gets another profile: carried over or lost. No walk in it. slices.Clone at ranges and at units. (printed by wip/gen/gen_fixclones.py) -/
import Derived.Test.YtabalicembhjmaaT45M19
import Derived.Test.YtabalicembhjmaaT45M14
import Derived.Test.YtabalicembhjmaaT45M15
import Derived.Test.YtabalicembhjmaaT45M13
import Derived.Test.YtabalicembhjmaaT45M02
import Derived.Lib.SliceRun
import Derived.OwnWalk
import Derived.Laws.AppendOwn

namespace Go.Proofs.Ytabalicembhjmaa
open Go.RowKit
set_option linter.unusedVariables false
set_option linter.unusedSimpArgs false

def hitU (lib : List Prf) (U a s but : Int) (u : Unt) : Bool := decide (u.num ≠ but) && (decide (u.univ = U) && (decide (u.addr ≤ a + s - 1) && decide (a ≤ lastOf lib u)))
def fitsV (x : Rig) (U a s but : Int) : Bool := decide (a + s - 1 ≤ 512) && !(x.units.any (hitU x.lib U a s but))
theorem unit_sound {x : Rig} (hx : chkRig x = 0) {u : Unt} (hu : u ∈ x.units) : (1 ≤ u.addr ∧ u.addr ≤ 512) ∧ (1 ≤ sizeOf' x.lib u ∧ sizeOf' x.lib u ≤ 512) := by
  obtain ⟨h1, _, h3⟩ := chkRig_zero hx
  obtain ⟨k, hk, rfl⟩ := List.getElem_of_mem hu
  obtain ⟨_, _, ⟨p, h4, h5⟩, _⟩ := untF_zero (scanF_zero _ _ h3 k hk)
  exact ⟨(untBad_false h5).2.1, by rw [size_of h4]; exact size_pos h1 h4⟩
theorem usedB_but (x : Rig) (but U k : Int) : usedB (usBut x but) U k = true ↔ ∃ u ∈ x.units, u.num ≠ but ∧ u.univ = U ∧ u.addr ≤ k ∧ k < u.addr + sizeOf' x.lib u := by
  unfold usedB usBut usOf
  rw [List.any_eq_true]
  constructor
  · rintro ⟨y, hy, h⟩
    obtain ⟨u, hu, rfl⟩ := List.mem_map.1 hy
    rw [List.mem_filter] at hu
    simp only [Bool.and_eq_true, decide_eq_true_eq] at h hu
    exact ⟨u, hu.1, hu.2, h.1, h.2.1, h.2.2⟩
  · rintro ⟨u, hu, h1, h2, h3, h4⟩
    refine ⟨(u, sizeOf' x.lib u), List.mem_map.2 ⟨u, List.mem_filter.2 ⟨hu, by simpa using h1⟩, rfl⟩, ?_⟩
    simp only [Bool.and_eq_true, decide_eq_true_eq]
    exact ⟨h2, h3, h4⟩
theorem fits_free {x : Rig} (hx : chkRig x = 0) (U a s but : Int) (hs : 1 ≤ s) (h2 : a + s - 1 ≤ 512) : freeAt (usBut x but) U a s = fitsV x U a s but := by
  unfold fitsV
  rw [decide_eq_true h2, Bool.true_and, Bool.eq_iff_iff]
  unfold freeAt
  rw [freeN_iff]
  rw [Bool.not_eq_true', List.any_eq_false]
  constructor
  · intro h u hu hc
    simp only [hitU, Bool.and_eq_true, decide_eq_true_eq] at hc
    obtain ⟨h3, h4, h5, h6⟩ := hc
    obtain ⟨h7, h8⟩ := unit_sound hx hu
    unfold lastOf at h6
    have h9 : usedB (usBut x but) U (max a u.addr) = true := (usedB_but x but U _).2 ⟨u, hu, h3, h4, by omega, by omega⟩
    have h10 := (h (max a u.addr) (by omega) (by omega)).2
    rw [h9] at h10; cases h10
  · intro h k h3 h4
    refine ⟨by omega, ?_⟩
    cases c : usedB (usBut x but) U k
    · rfl
    · obtain ⟨u, hu, h5, h6, h7, h8⟩ := (usedB_but x but U k).1 c
      refine absurd ?_ (h u hu)
      simp only [hitU, Bool.and_eq_true, decide_eq_true_eq]
      refine ⟨h5, h6, by omega, ?_⟩
      unfold lastOf
      omega
theorem fits_ra {x : Rig} (hx : chkRig x = 0) {U a s but : Int} (hs : 1 ≤ s) : (fitsV x U a s but = true → roomRA (usBut x but) U s a = some a) ∧ (fitsV x U a s but = false → roomRA (usBut x but) U s a = roomRA (usBut x but) U s (a + 1)) := by
  by_cases h2 : a + s - 1 ≤ 512
  · have h3 := fits_free hx U a s but hs h2
    exact ⟨fun h => roomRA_yes hs h2 (by rw [h3, h]), fun h => roomRA_no hs h2 (by rw [h3, h])⟩
  · refine ⟨fun h => ?_, fun _ => by rw [roomRA_end h2, roomRA_end (by omega)]⟩
    unfold fitsV at h
    rw [decide_eq_false h2] at h
    cases h
end Go.Proofs.Ytabalicembhjmaa

namespace Go.Proofs.Ytabalicembhjmaa
open Go.RowKit
set_option linter.unusedVariables false
set_option linter.unusedSimpArgs false

/-- the place of a unit with another profile: its own, or where there is room -/
def exAt (x : Rig) (n s : Int) (u : Unt) : Option (Int × Int) := if freeAt (usBut x n) u.univ u.addr s then some (u.univ, u.addr) else roomO (usBut x n) s
theorem exAt_free {x : Rig} {n s : Int} {u : Unt} (h : freeAt (usBut x n) u.univ u.addr s = true) : exAt x n s u = some (u.univ, u.addr) := by unfold exAt; rw [if_pos h]
theorem exAt_room {x : Rig} {n s : Int} {u : Unt} (h : freeAt (usBut x n) u.univ u.addr s = false) : exAt x n s u = roomO (usBut x n) s := by unfold exAt; rw [h]; rfl
theorem exAt_spec {x : Rig} (hx : chkRig x = 0) {n s : Int} {u : Unt} (hu : u ∈ x.units) (hs : 1 ≤ s) {r : Int × Int} (h : exAt x n s u = some r) :
    (1 ≤ r.1 ∧ r.1 ≤ 64) ∧ 1 ≤ r.2 ∧ r.2 + s - 1 ≤ 512 ∧ freeAt (usBut x n) r.1 r.2 s = true := by
  cases c : freeAt (usBut x n) u.univ u.addr s
  · rw [exAt_room c] at h
    exact room_spec h
  · rw [exAt_free c] at h
    obtain rfl := Option.some.inj h
    obtain ⟨_, q, _, hq⟩ := ((chkRig_iff x).1 hx).2.2.1 u hu
    obtain ⟨b1, b2, _⟩ := untBad_false hq
    have c2 := c
    unfold freeAt at c2
    rw [freeN_iff] at c2
    have h3 := (c2 (u.addr + s - 1) (by omega) (by omega)).1
    exact ⟨b1, b2.1, h3, c⟩
/-- the rig in which a unit is another one -/
def setUn (x : Rig) (n : Int) (v : Unt) : Rig := ⟨x.lib, x.units.set (posU x.units n) v⟩
theorem ex_ok {x : Rig} (hx : chkRig x = 0) {n : Int} {nm : ByteArray} {p : Prf} {u : Unt} {r : Int × Int} (hn : 1 ≤ n ∧ n ≤ 9999) (hu : u ∈ x.units) (hp : profOf x.lib nm.data.toList = some p) (hr : exAt x n p.size u = some r) :
    OkU x.lib ⟨n, nm, r.1, r.2⟩ ∧ ∀ y ∈ x.units, y.num ≠ n → clashU x.lib ⟨n, nm, r.1, r.2⟩ y = false := by
  obtain ⟨k1, _, k3, _⟩ := (chkRig_iff x).1 hx
  have hs := size_pos k1 (u := ⟨n, nm, r.1, r.2⟩) hp
  obtain ⟨r1, r2, r3, r4⟩ := exAt_spec hx hu hs.1 hr
  have hb : untBad ⟨n, nm, r.1, r.2⟩ p.size = false := by
    unfold untBad
    have e1 : inR r.1 1 64 = true := decide_eq_true r1
    have e2 : inR r.2 1 512 = true := decide_eq_true ⟨r2, by omega⟩
    rw [e1, e2]
    simp
    omega
  refine ⟨⟨hn, p, hp, hb⟩, fun y hy hne => ?_⟩
  rw [fits_free hx r.1 r.2 p.size n hs.1 r3] at r4
  unfold fitsV at r4
  rw [Bool.and_eq_true, Bool.not_eq_true', List.any_eq_false] at r4
  have h1 := r4.2 y hy
  have hsz : sizeOf' x.lib ⟨n, nm, r.1, r.2⟩ = p.size := size_of (u := ⟨n, nm, r.1, r.2⟩) hp
  unfold clashU
  simp only [hitU, Bool.and_eq_true, decide_eq_true_eq] at h1
  rw [Bool.and_eq_false_iff, Bool.and_eq_false_iff, decide_eq_false_iff_not, decide_eq_false_iff_not, decide_eq_false_iff_not]
  show (¬ y.univ = r.1 ∨ ¬ y.addr ≤ lastOf x.lib ⟨n, nm, r.1, r.2⟩) ∨ ¬ r.2 ≤ lastOf x.lib y
  have hl : lastOf x.lib ⟨n, nm, r.1, r.2⟩ = r.2 + p.size - 1 := by unfold lastOf; rw [hsz]
  rw [hl]
  by_cases c1 : y.univ = r.1
  · by_cases c2 : y.addr ≤ r.2 + p.size - 1
    · exact .inr fun c3 => h1 ⟨hne, c1, c2, c3⟩
    · exact .inl (.inr c2)
  · exact .inl (.inl c1)
theorem ex_right {x : Rig} (hx : chkRig x = 0) {n : Int} {nm : ByteArray} {p : Prf} {r : Int × Int} (hk : posU x.units n < x.units.length) (hn : (x.units[posU x.units n]'hk).num = n) (hp : profOf x.lib nm.data.toList = some p) (hr : exAt x n p.size (x.units[posU x.units n]'hk) = some r) :
    chkRig (setUn x n ⟨n, nm, r.1, r.2⟩) = 0 := by
  obtain ⟨k1, k2, k3, k4⟩ := (chkRig_iff x).1 hx
  have hr9 : 1 ≤ n ∧ n ≤ 9999 := by have := num_range hx (List.getElem_mem hk); rw [hn] at this; exact this
  obtain ⟨ho, hc⟩ := ex_ok hx hr9 (List.getElem_mem hk) hp hr
  have hpw := List.pairwise_iff_getElem.1 k4
  have ha := asc_units hx
  rw [chkRig_iff]
  unfold setUn
  refine ⟨k1, by simpa using k2, fun v hv => ?_, List.pairwise_iff_getElem.2 fun i j hi hj hij => ?_⟩
  · rcases List.mem_or_eq_of_mem_set hv with h | rfl
    · exact k3 v h
    · exact ho
  · simp only [List.length_set] at hi hj
    rw [List.getElem_set, List.getElem_set]
    by_cases ci : posU x.units n = i
    · rw [if_pos ci]
      subst ci
      rw [if_neg (by omega)]
      have h1 := ha _ _ hk hj hij
      refine ⟨by show n < _; omega, ?_⟩
      rw [clashU_comm]
      exact hc _ (List.getElem_mem hj) (by omega)
    · rw [if_neg ci]
      by_cases cj : posU x.units n = j
      · rw [if_pos cj]
        subst cj
        have h1 := ha _ _ hi hk hij
        exact ⟨by show _ < n; omega, hc _ (List.getElem_mem hi) (by omega)⟩
      · rw [if_neg cj]
        exact hpw i j hi hj hij
end Go.Proofs.Ytabalicembhjmaa

namespace Go.Proofs.Ytabalicembhjmaa
open Go.RowKit
set_option linter.unusedVariables false
set_option linter.unusedSimpArgs false

def hasRn (nm : List UInt8) (r : Rng) : Bool := decide (r.nm = nm)
/-- the range of a parameter, or of none, that has a name -/
def rngO (o : Option Par) (b : List UInt8) : Option Rng := match o with | some q => q.rngs.find? (hasRn b) | none => none
def midO (o : Option Rng) : Int × Int := match o with | some r => ((r.low + r.high) / 2, 0) | none => (0, 8)
/-- what Named answers -/
def namedV (p : Prf) (a b : ByteArray) : Int × Int := if chkPrf p = 0 then midO (rngO (parOf p.pars a.data.toList) b.data.toList) else (0, chkPrf p)
theorem namedV_ok {p : Prf} (h : chkPrf p = 0) (a b : ByteArray) : namedV p a b = midO (rngO (parOf p.pars a.data.toList) b.data.toList) := if_pos h
theorem namedV_bad {p : Prf} (h : ¬ chkPrf p = 0) (a b : ByteArray) : namedV p a b = (0, chkPrf p) := if_neg h
theorem parOf_mem {l : List Par} {n : List UInt8} {q : Par} (h : parOf l n = some q) : q ∈ l := List.mem_of_find?_eq_some h
theorem par_chk {p : Prf} (h : chkPrf p = 0) {q : Par} (hq : q ∈ p.pars) : nameB q.nm = true ∧ (1 ≤ q.grp ∧ q.grp ≤ 4) ∧ (0 ≤ q.fine ∧ q.fine ≤ 512) ∧ (0 ≤ q.dflt ∧ q.dflt ≤ 65535) ∧ (1 ≤ q.sl ∧ q.sl ≤ 512) ∧ chkRngs q.rngs = 0 := by
  obtain ⟨k, hk, rfl⟩ := List.getElem_of_mem hq
  obtain ⟨h1, h2, h3, h4, h5⟩ := chkPrf_zero h
  obtain ⟨g1, _, g3, g4, _, g6⟩ := parF_zero (scanF_zero _ _ h5 k hk)
  obtain ⟨b1, b2, b3⟩ := parBad_false g4
  exact ⟨g1, g3, ⟨b2.1, by omega⟩, b3, ⟨b1.1, by omega⟩, g6⟩
theorem rngF_zero {pre : List Rng} {r : Rng} (h : rngF pre r = 0) : (0 ≤ r.low ∧ r.low ≤ 65535) ∧ (0 ≤ r.high ∧ r.high ≤ 65535) ∧ nameB r.nm = true := by
  unfold rngF at h
  cases h1 : rngBad r
  · have h2 := h1
    simp only [rngBad, Bool.or_eq_false_iff, Bool.not_eq_false'] at h2
    refine ⟨inR_true h2.1.1, inR_true h2.1.2, ?_⟩
    cases h3 : rngLow pre r
    · cases h4 : nameB r.nm
      · rw [h1, h3, h4] at h; simp at h
      · rfl
    · rw [h1, h3] at h; simp at h
  · rw [h1] at h; simp at h
theorem rng_chk {l : List Rng} (h : chkRngs l = 0) : l.length ≤ 30 ∧ ∀ r ∈ l, (0 ≤ r.low ∧ r.low ≤ 65535) ∧ (0 ≤ r.high ∧ r.high ≤ 65535) ∧ nameB r.nm = true := by
  unfold chkRngs at h
  by_cases c : 30 < l.length
  · rw [if_pos c] at h; simp at h
  rw [if_neg c] at h
  refine ⟨by omega, fun r hr => ?_⟩
  obtain ⟨k, hk, rfl⟩ := List.getElem_of_mem hr
  exact rngF_zero (scanF_zero _ _ h k hk)
theorem rngO_fit {p : Prf} (h : chkPrf p = 0) {n b : List UInt8} {q : Par} (hq : parOf p.pars n = some q) : ∀ r ∈ q.rngs, (0 ≤ r.low ∧ r.low ≤ 65535) ∧ (0 ≤ r.high ∧ r.high ≤ 65535) := by
  intro r hr
  have h1 := (rng_chk (par_chk h (parOf_mem hq)).2.2.2.2.2).2 r hr
  exact ⟨h1.1, h1.2.1⟩
theorem rngO_some (q : Par) (b : List UInt8) : rngO (some q) b = q.rngs.find? (hasRn b) := rfl
theorem midO_some (r : Rng) : midO (some r) = ((r.low + r.high) / 2, 0) := rfl
theorem midO_none : midO none = (0, 8) := rfl
theorem tdiv2 {a : Int} (h : 0 ≤ a) : a.tdiv 2 = a / 2 := Int.tdiv_eq_ediv_of_nonneg h
end Go.Proofs.Ytabalicembhjmaa

namespace Go.Proofs.Ytabalicembhjmaa
open Go.RowKit
set_option linter.unusedVariables false
set_option linter.unusedSimpArgs false

def holds (n : Int) (r : Rng) : Bool := decide (r.low ≤ n ∧ n ≤ r.high)
/-- the level that is carried over; false: it is lost -/
def carV (o q : List Rng) (n : Int) : Int × Bool :=
  if o.length = 0 ∨ q.length = 0 then (n, true) else
  match o.find? (holds n) with
  | none => (n, true)
  | some a => match q.find? (hasRn a.nm) with
    | none => (0, false)
    | some b => if a.low = a.high then (b.low, true) else (rnd (b.low * (a.high - a.low) + (n - a.low) * (b.high - b.low)) (a.high - a.low), true)
theorem carV_none {o q : List Rng} {n : Int} (h : o.length = 0 ∨ q.length = 0) : carV o q n = (n, true) := by unfold carV; rw [if_pos h]
theorem carV_out {o q : List Rng} {n : Int} (h : o.find? (holds n) = none) : carV o q n = (n, true) := by
  unfold carV
  split
  · rfl
  · rw [h]
theorem carV_lost {o q : List Rng} {n : Int} {a : Rng} (h1 : ¬ (o.length = 0 ∨ q.length = 0)) (h : o.find? (holds n) = some a) (h2 : q.find? (hasRn a.nm) = none) : carV o q n = (0, false) := by
  unfold carV
  rw [if_neg h1, h]
  simp only [h2]
theorem carV_low {o q : List Rng} {n : Int} {a b : Rng} (h1 : ¬ (o.length = 0 ∨ q.length = 0)) (h : o.find? (holds n) = some a) (h2 : q.find? (hasRn a.nm) = some b) (h3 : a.low = a.high) : carV o q n = (b.low, true) := by
  unfold carV
  rw [if_neg h1, h]
  simp only [h2]
  rw [if_pos h3]
theorem carV_way {o q : List Rng} {n : Int} {a b : Rng} (h1 : ¬ (o.length = 0 ∨ q.length = 0)) (h : o.find? (holds n) = some a) (h2 : q.find? (hasRn a.nm) = some b) (h3 : ¬ a.low = a.high) : carV o q n = (rnd (b.low * (a.high - a.low) + (n - a.low) * (b.high - b.low)) (a.high - a.low), true) := by
  unfold carV
  rw [if_neg h1, h]
  simp only [h2]
  rw [if_neg h3]
/-- what is known of right ranges -/
def RngsOk (l : List Rng) : Prop := ∀ r ∈ l, (0 ≤ r.low ∧ r.low ≤ 65535) ∧ (0 ≤ r.high ∧ r.high ≤ 65535) ∧ r.low ≤ r.high
theorem rngF_le {pre : List Rng} {r : Rng} (h : rngF pre r = 0) : r.low ≤ r.high := by
  unfold rngF at h
  cases h1 : rngBad r
  · simp only [rngBad, Bool.or_eq_false_iff, Bool.not_eq_false', decide_eq_false_iff_not] at h1
    have := h1.2
    omega
  · rw [h1] at h; simp at h
theorem rngsOk_of {l : List Rng} (h : chkRngs l = 0) : RngsOk l := by
  intro r hr
  have h1 := (rng_chk h).2 r hr
  refine ⟨h1.1, h1.2.1, ?_⟩
  unfold chkRngs at h
  by_cases c : 30 < l.length
  · rw [if_pos c] at h; simp at h
  rw [if_neg c] at h
  obtain ⟨k, hk, rfl⟩ := List.getElem_of_mem hr
  exact rngF_le (scanF_zero _ _ h k hk)
theorem mul_le_sq {a b : Int} (h0 : 0 ≤ a) (h1 : a ≤ 65535) (g0 : 0 ≤ b) (g1 : b ≤ 65535) : 0 ≤ a * b ∧ a * b ≤ 4294836225 :=
  ⟨Int.mul_nonneg h0 g0, Int.le_trans (Int.mul_le_mul h1 g1 g0 (by omega)) (by omega)⟩
end Go.Proofs.Ytabalicembhjmaa

namespace Go.Proofs.Ytabalicembhjmaa
open Go.RowKit
set_option linter.unusedVariables false
set_option linter.unusedSimpArgs false

theorem rnd_between {a b m d : Int} (hd : 0 < d) (h1 : a * d ≤ m) (h2 : m ≤ b * d) : a ≤ rnd m d ∧ rnd m d ≤ b := by
  unfold rnd
  constructor
  · rw [Int.le_ediv_iff_mul_le (by omega)]
    have : a * (2 * d) = 2 * (a * d) := by rw [← Int.mul_assoc, Int.mul_comm a 2, Int.mul_assoc]
    omega
  · have h3 : (2 * m + d) / (2 * d) < b + 1 := by
      rw [Int.ediv_lt_iff_lt_mul (by omega), Int.add_mul]
      have : b * (2 * d) = 2 * (b * d) := by rw [← Int.mul_assoc, Int.mul_comm b 2, Int.mul_assoc]
      omega
    omega
theorem carV_range {o q : List Rng} {n : Int} (ho : RngsOk o) (hq : RngsOk q) (n0 : 0 ≤ n) (n1 : n ≤ 65535) : 0 ≤ (carV o q n).1 ∧ (carV o q n).1 ≤ 65535 := by
  by_cases c : o.length = 0 ∨ q.length = 0
  · rw [carV_none c]; exact ⟨n0, n1⟩
  cases ha : o.find? (holds n) with
  | none => rw [carV_out ha]; exact ⟨n0, n1⟩
  | some a =>
    cases hb : q.find? (hasRn a.nm) with
    | none => rw [carV_lost c ha hb]; exact ⟨by decide, by decide⟩
    | some b =>
      have ga := ho a (List.mem_of_find?_eq_some ha)
      have gb := hq b (List.mem_of_find?_eq_some hb)
      have hh := List.find?_some ha
      simp only [holds, decide_eq_true_eq] at hh
      by_cases e : a.low = a.high
      · rw [carV_low c ha hb e]; exact gb.1
      · rw [carV_way c ha hb e]
        have h1 : 0 ≤ (n - a.low) * (b.high - b.low) := Int.mul_nonneg (by omega) (by omega)
        have h2 : (n - a.low) * (b.high - b.low) ≤ (a.high - a.low) * (b.high - b.low) := Int.mul_le_mul_of_nonneg_right (by omega) (by omega)
        have h3 : (a.high - a.low) * (b.high - b.low) = b.high * (a.high - a.low) - b.low * (a.high - a.low) := by rw [Int.mul_comm, Int.sub_mul]
        have h4 := rnd_between (a := b.low) (b := b.high) (m := b.low * (a.high - a.low) + (n - a.low) * (b.high - b.low)) (d := a.high - a.low) (by omega) (by omega) (by omega)
        exact ⟨by have := gb.1; omega, by have := gb.2.1; omega⟩
/-- the level that a setting has with another profile; none: it is lost -/
def carO (old p : Prf) (s : Stg) : Option Int :=
  match parOf p.pars s.par.data.toList with
  | none => none
  | some b => if (carV (((parOf old.pars s.par.data.toList).map Par.rngs).getD []) b.rngs s.lv).2 = true then some (carV (((parOf old.pars s.par.data.toList).map Par.rngs).getD []) b.rngs s.lv).1 else none
def keepS (n : Int) (old p : Prf) (s : Stg) : Option Stg := if s.unit = n then (carO old p s).map (fun v => ⟨s.unit, s.par, v⟩) else some s
def keptS (n : Int) (old p : Prf) (l : List Stg) : List Stg := l.filterMap (keepS n old p)
def lostS (n : Int) (old p : Prf) (l : List Stg) : List (Int × ByteArray) := (l.filter (fun s => (keepS n old p s).isNone)).map Stg.k
theorem kept_len (n : Int) (old p : Prf) (l : List Stg) : (keptS n old p l).length + (lostS n old p l).length = l.length := by
  unfold keptS lostS
  rw [List.length_map]
  induction l with
  | nil => rfl
  | cons s l ih =>
    cases h : keepS n old p s with
    | none => rw [List.filterMap_cons_none h, List.filter_cons_of_pos (by rw [h]; rfl)]; simp only [List.length_cons]; omega
    | some t => rw [List.filterMap_cons_some h, List.filter_cons_of_neg (by rw [h]; simp)]; simp only [List.length_cons]; omega
theorem keep_k {n : Int} {old p : Prf} {s t : Stg} (h : keepS n old p s = some t) : t.k = s.k := by
  unfold keepS at h
  split at h
  · cases hc : carO old p s with
    | none => rw [hc] at h; cases h
    | some v => rw [hc] at h; obtain rfl := Option.some.inj h; rfl
  · obtain rfl := Option.some.inj h; rfl
theorem find_set {α : Type} (f : α → Bool) (v : α) (hv : f v = false) : ∀ (l : List α) (k : Nat) (hk : k < l.length), f l[k] = false → (l.set k v).find? f = l.find? f
  | [], k, hk, _ => absurd hk (by simp)
  | a :: l, 0, _, h => by
    simp only [List.getElem_cons_zero] at h
    rw [List.set_cons_zero, List.find?_cons, List.find?_cons, hv, h]
  | a :: l, k + 1, hk, h => by
    simp only [List.length_cons] at hk
    simp only [List.getElem_cons_succ] at h
    rw [List.set_cons_succ, List.find?_cons, List.find?_cons, find_set f v hv l k (by omega) h]
theorem stgs_iff (x : Rig) (l : List Stg) : chkStgs x l = 0 ↔ (∀ s ∈ l, (findO x s.unit s.par.data.toList).isSome = true ∧ (0 ≤ s.lv ∧ s.lv ≤ 65535)) ∧ l.Pairwise (fun s t => s.k ≠ t.k) := by
  have key : ∀ (pre : List Stg) (s : Stg), stgF x pre s = 0 ↔ (findO x s.unit s.par.data.toList).isSome = true ∧ (0 ≤ s.lv ∧ s.lv ≤ 65535) ∧ ∀ t ∈ pre, t.k ≠ s.k := by
    intro pre s
    unfold stgF
    cases h1 : findO x s.unit s.par.data.toList with
    | none => simp
    | some q =>
      cases h2 : inR s.lv 0 65535
      · have := inR_false h2
        simp
        intro a b; omega
      · have h3 := inR_true h2
        cases h4 : pre.any (isK s.k)
        · have := List.any_eq_false.1 h4
          simp
          refine ⟨h3, fun t ht e => this t ht (by simp [isK, e])⟩
        · obtain ⟨t, ht, e⟩ := List.any_eq_true.1 h4
          simp
          intro _ _
          exact ⟨t, ht, by simpa [isK] using e⟩
  unfold chkStgs
  constructor
  · intro h
    have hz := fun k hk => (key _ _).1 (scanF_zero _ _ h k hk)
    refine ⟨fun s hs => ?_, List.pairwise_iff_getElem.2 fun i j hi hj hij => (hz j hj).2.2 _ (List.mem_take_iff_getElem.2 ⟨i, by omega, rfl⟩)⟩
    obtain ⟨k, hk, rfl⟩ := List.getElem_of_mem hs
    exact ⟨(hz k hk).1, (hz k hk).2.1⟩
  · rintro ⟨h1, h2⟩
    have hp := List.pairwise_iff_getElem.1 h2
    refine scanF_all _ _ fun k hk => (key _ _).2 ⟨(h1 _ (List.getElem_mem hk)).1, (h1 _ (List.getElem_mem hk)).2, fun t ht => ?_⟩
    obtain ⟨i, hi, rfl⟩ := List.mem_take_iff_getElem.1 ht
    exact hp i k (by omega) hk (by omega)
theorem set_find {x : Rig} (hx : chkRig x = 0) {n : Int} {v : Unt} (hv : v.num = n) (hk : posU x.units n < x.units.length) (hn : (x.units[posU x.units n]'hk).num = n) (hy : chkRig (setUn x n v) = 0) {p : Prf} (hp : profOf x.lib v.nm = some p) (m : Int) (q : List UInt8) :
    findO (setUn x n v) m q = if m = n then parOf p.pars q else findO x m q := by
  by_cases c : m = n
  · rw [if_pos c]
    subst c
    have hm : v ∈ (setUn x m v).units := by
      have h1 : ((x.units.set (posU x.units m) v)[posU x.units m]'(by simpa using hk)) = v := List.getElem_set_self ..
      have h2 : (x.units.set (posU x.units m) v)[posU x.units m]'(by simpa using hk) ∈ x.units.set (posU x.units m) v := List.getElem_mem _
      rw [h1] at h2
      exact h2
    have hh : hasU (setUn x m v).units m = true := List.any_eq_true.2 ⟨v, hm, by simpa using hv⟩
    obtain ⟨hq, p', g1, g2, g3⟩ := findO_yes hy hh q
    have e : (setUn x m v).units[posU (setUn x m v).units m]'hq = v := by
      obtain ⟨i, hi, e⟩ := List.getElem_of_mem hm
      have ha := asc_units hy
      have e2 : i = posU (setUn x m v).units m := by
        rcases Nat.lt_trichotomy i (posU (setUn x m v).units m) with h | h | h
        · have := ha _ _ hi hq h; rw [e] at this; omega
        · exact h
        · have := ha _ _ hq hi h; rw [e] at this; omega
      subst e2
      exact e
    rw [e] at g2
    rw [show (setUn x m v).lib = x.lib from rfl, hp] at g2
    rw [g3, ← Option.some.inj g2]
  · rw [if_neg c]
    have h1 : (setUn x n v).units.find? (isNo m) = x.units.find? (isNo m) := find_set (isNo m) v (by simp [isNo]; omega) x.units _ hk (by simp [isNo]; omega)
    unfold findO
    rw [h1]
    rfl
theorem kept_right {x : Rig} (hx : chkRig x = 0) {n : Int} {v : Unt} (hv : v.num = n) (hk : posU x.units n < x.units.length) (hn : (x.units[posU x.units n]'hk).num = n) (hy : chkRig (setUn x n v) = 0) {p old : Prf} (hp : profOf x.lib v.nm = some p) (ho : chkPrf old = 0) {l : List Stg} (hl : chkStgs x l = 0) :
    chkStgs (setUn x n v) (keptS n old p l) = 0 := by
  obtain ⟨h1, h2⟩ := (stgs_iff x l).1 hl
  have hpp := chkLib_prf (chkRig_zero hx).1 (profOf_some hp).1
  rw [stgs_iff]
  constructor
  · intro t ht
    obtain ⟨s, hs, e⟩ := List.mem_filterMap.1 ht
    obtain ⟨g1, g2⟩ := h1 s hs
    have hkey := keep_k e
    have eu : t.unit = s.unit := congrArg Prod.fst hkey
    have ep : t.par = s.par := congrArg Prod.snd hkey
    rw [set_find hx hv hk hn hy hp, eu, ep]
    unfold keepS at e
    by_cases c : s.unit = n
    · rw [if_pos c] at e ⊢
      cases hc : carO old p s with
      | none => rw [hc] at e; cases e
      | some u =>
        rw [hc] at e
        obtain rfl := Option.some.inj e
        unfold carO at hc
        cases hb : parOf p.pars s.par.data.toList with
        | none => rw [hb] at hc; cases hc
        | some b =>
          rw [hb] at hc
          simp only at hc
          split at hc
          · obtain rfl := Option.some.inj hc
            refine ⟨rfl, carV_range ?_ (rngsOk_of (par_chk hpp (parOf_mem hb)).2.2.2.2.2) g2.1 g2.2⟩
            cases ha : parOf old.pars s.par.data.toList with
            | none => intro r hr; exact absurd hr (by simp)
            | some a => exact rngsOk_of (par_chk ho (parOf_mem ha)).2.2.2.2.2
          · cases hc
    · rw [if_neg c] at e ⊢
      obtain rfl := Option.some.inj e
      exact ⟨g1, g2⟩
  · exact List.Pairwise.filterMap _ (fun a b hab c hc d hd => by rw [keep_k hc, keep_k hd]; exact hab) h2
end Go.Proofs.Ytabalicembhjmaa

namespace Go.Proofs.Ytabalicembhjmaa
open Go.RowKit
open Go (info_parts)
set_option linter.unusedVariables false
set_option linter.unusedSimpArgs false

/-- a slice of n elements, its cells xs below block B -/
def RowC (B : Nat) (w : World) (v : Value) (n : Nat) (xs : List Value) : Prop :=
  ∃ ao cap, v = .slice ao n cap ∧ (0 < n → ∃ b off, ao = some ⟨b, off, none⟩ ∧ b < B ∧ ∀ j u, xs[j]? = some u → w.cell? ⟨b, off + j, none⟩ = some u)
def CloneO (T : TypeId) (m : Nat) (w : World) (n : Nat) (xs : List Value) (e : Ending) (w' : World) : Prop :=
  ∃ v', e = .returned v' ∧ w'.ownsRow w.heap.size T m v' n xs ∧ Below w.heap.size w w'
theorem ranges_info : (Try.prog.info? 86).map (fun i => (i.zero, i.size, i.bytes)) = some (some (.agg #[.int .i64 0, .int .i64 0, .string ⟨#[]⟩]), 3, 32) := by kernel_rfl
set_option maxHeartbeats 2000000 in
theorem ranges_clone (B : Nat) (v : Value) (n : Nat) (xs : List Value) (w : World) (hB : B ≤ w.heap.size) (hl : n ≤ 1000) (hxl : xs.length = n * 3) (hone : ∀ u ∈ xs, u.oneCell' = true) (h1 : RowC B w v n xs) :
    Calls Try.prog 41 #[v] w (CloneO 86 3 w n xs) := by
  obtain ⟨i0, hi, hz0, hz1, hz2⟩ := info_parts ranges_info
  have q22 : ∀ (w : World) (a : Option Addr) (n c n' c' : Nat), (binOp .eql 40 (.slice a n c) (.slice none n' c')).run Try.prog w = .ok (.bool a.isNone) w := fun w a n c n' c' => Lib.run_eql_slice_nil w _ _ a n c n' c' Try.underlying40
  obtain ⟨ao, cap, rfl, h4⟩ := h1
  cases ao with
  | none =>
    have hl0 : n = 0 := by
      rcases Nat.eq_zero_or_pos n with h | h
      · exact h
      · obtain ⟨b, off, e, _⟩ := h4 h; cases e
    subst hl0
    have hx0 : xs = [] := List.eq_nil_of_length_eq_zero (by omega)
    subst hx0
    go_enter Try.func41, Try.ntmps41
    go_wp2
    go_ret
    exact ⟨_, rfl, World.ownsRow_nil _ _ _ _, Below.refl _ _⟩
  | some a =>
    have hc := Lib.hid (show ∀ j u, xs[j]? = some u → (w.alloc (.cells #[] 86)).cell? (a.add j) = some u by
      intro j u hu
      have hn : 0 < n := by
        rcases Nat.eq_zero_or_pos n with h | h
        · subst h
          obtain rfl : xs = [] := List.eq_nil_of_length_eq_zero (by omega)
          simp at hu
        · exact h
      obtain ⟨b, off, e, hb, hc⟩ := h4 hn
      obtain rfl := Option.some.inj e
      rw [addr_plus]
      exact (World.cell?_alloc_lt w _ _ (show b < w.heap.size by omega)).trans (hc j u hu))
    have HX := Lib.hid hxl
    have HO := Lib.hid hone
    clear h4 hxl hone
    go_enter Try.func41, Try.ntmps41
    go_wp2_with (at_builtin; refine wpList_append_own _ rfl _ _ 40 rfl w.heap.size 86 i0 (.agg #[.int .i64 0, .int .i64 0, .string ⟨#[]⟩]) 3 32 Try.underlying40 hi hz0 hz1 hz2 rfl (by omega) _ _ _ rfl (World.ownsRow_made w #[] 0 (Nat.le_refl _) (Nat.zero_le _) (by simp)) a n cap xs rfl HX.out hc.out HO.out (by unfold maxLen; omega) (by omega) (by simp) ?_; intro v' w1 hown hgrow0 _)
    have hgrow : World.grownBy (w.alloc (.cells #[] 86)) w1 (some w.heap.size) := hgrow0
    go_ret
    rw [List.nil_append, Nat.zero_add] at hown
    exact ⟨v', rfl, hown, ((Below.refl _ w).alloc (Nat.le_refl _) _).grown hgrow (by simp) (by intro k hk; injection hk with hk; omega)⟩
theorem units_info : (Try.prog.info? 67).map (fun i => (i.zero, i.size, i.bytes)) = some (some (.agg #[.int .i64 0, .string ⟨#[]⟩, .int .i64 0, .int .i64 0]), 4, 40) := by kernel_rfl
set_option maxHeartbeats 2000000 in
theorem units_clone (B : Nat) (v : Value) (n : Nat) (xs : List Value) (w : World) (hB : B ≤ w.heap.size) (hl : n ≤ 1000) (hxl : xs.length = n * 4) (hone : ∀ u ∈ xs, u.oneCell' = true) (h1 : RowC B w v n xs) :
    Calls Try.prog 55 #[v] w (CloneO 67 4 w n xs) := by
  obtain ⟨i0, hi, hz0, hz1, hz2⟩ := info_parts units_info
  have q22 : ∀ (w : World) (a : Option Addr) (n c n' c' : Nat), (binOp .eql 23 (.slice a n c) (.slice none n' c')).run Try.prog w = .ok (.bool a.isNone) w := fun w a n c n' c' => Lib.run_eql_slice_nil w _ _ a n c n' c' Try.underlying23
  obtain ⟨ao, cap, rfl, h4⟩ := h1
  cases ao with
  | none =>
    have hl0 : n = 0 := by
      rcases Nat.eq_zero_or_pos n with h | h
      · exact h
      · obtain ⟨b, off, e, _⟩ := h4 h; cases e
    subst hl0
    have hx0 : xs = [] := List.eq_nil_of_length_eq_zero (by omega)
    subst hx0
    go_enter Try.func55, Try.ntmps55
    go_wp2
    go_ret
    exact ⟨_, rfl, World.ownsRow_nil _ _ _ _, Below.refl _ _⟩
  | some a =>
    have hc := Lib.hid (show ∀ j u, xs[j]? = some u → (w.alloc (.cells #[] 67)).cell? (a.add j) = some u by
      intro j u hu
      have hn : 0 < n := by
        rcases Nat.eq_zero_or_pos n with h | h
        · subst h
          obtain rfl : xs = [] := List.eq_nil_of_length_eq_zero (by omega)
          simp at hu
        · exact h
      obtain ⟨b, off, e, hb, hc⟩ := h4 hn
      obtain rfl := Option.some.inj e
      rw [addr_plus]
      exact (World.cell?_alloc_lt w _ _ (show b < w.heap.size by omega)).trans (hc j u hu))
    have HX := Lib.hid hxl
    have HO := Lib.hid hone
    clear h4 hxl hone
    go_enter Try.func55, Try.ntmps55
    go_wp2_with (at_builtin; refine wpList_append_own _ rfl _ _ 23 rfl w.heap.size 67 i0 (.agg #[.int .i64 0, .string ⟨#[]⟩, .int .i64 0, .int .i64 0]) 4 40 Try.underlying23 hi hz0 hz1 hz2 rfl (by omega) _ _ _ rfl (World.ownsRow_made w #[] 0 (Nat.le_refl _) (Nat.zero_le _) (by simp)) a n cap xs rfl HX.out hc.out HO.out (by unfold maxLen; omega) (by omega) (by simp) ?_; intro v' w1 hown hgrow0 _)
    have hgrow : World.grownBy (w.alloc (.cells #[] 67)) w1 (some w.heap.size) := hgrow0
    go_ret
    rw [List.nil_append, Nat.zero_add] at hown
    exact ⟨v', rfl, hown, ((Below.refl _ w).alloc (Nat.le_refl _) _).grown hgrow (by simp) (by intro k hk; injection hk with hk; omega)⟩
end Go.Proofs.Ytabalicembhjmaa
