/- Contracts of level.levels, word.First and word.When. levels and First take a slice: a row of cells in memory. Tests of bounds as one Bool, of both sides; When. (cut out of XEfWords) Arguments of struct types, opened to cells: for any program. The faults of ranges, parameters, profiles, libraries, units, rigs as plain functions. No walk in it. -/
import Derived.Test.YtppbagllhmeenaaGreatDoorT68M02
import Derived.Test.YtppbagllhmeenaaGreatDoorT68M09
import Derived.Test.YtppbagllhmeenaaGreatDoorProg
import Derived.WalkKit
import Derived.ProofKit
import Derived.OpenShut
import Derived.Deep.Slices
import Derived.Deep.Fields
import Derived.Test.YtppbagllhmeenaaGreatDoorT68M16
import Derived.Test.YtppbagllhmeenaaGreatDoorT68M14

namespace Go.Proofs.YtppbagllhmeenaaGreatDoor
open Go.RowKit

/-- the cells of a row of numbers -/
def RowAt (k : IntKind) (w : World) (b off : Nat) (zs : List Int) : Prop := ∀ i (h : i < zs.length), w.cell? ⟨b, off + i, none⟩ = some (.int k zs[i])
def Levels (zs : List Int) : Prop := ∀ i (h : i < zs.length), 0 ≤ zs[i] ∧ zs[i] ≤ 65535

/-- either all are levels, or there is a first one that is none -/
theorem levels_cases (zs : List Int) : Levels zs ∨ ∃ j, ∃ h : j < zs.length, (∀ i (h : i < zs.length), i < j → 0 ≤ zs[i] ∧ zs[i] ≤ 65535) ∧ (zs[j] < 0 ∨ 65535 < zs[j]) := by
  induction zs with
  | nil => left; intro i h; simp at h
  | cons z zs ih =>
    by_cases hz : 0 ≤ z ∧ z ≤ 65535
    · rcases ih with ih | ⟨j, hj, h1, h2⟩
      · left
        intro i h
        match i with
        | 0 => simpa using hz
        | i + 1 => simpa using ih i (by simpa using h)
      · right
        refine ⟨j + 1, by simpa using hj, ?_, by simpa using h2⟩
        intro i h hij
        match i with
        | 0 => simpa using hz
        | i + 1 => simpa using h1 i (by simpa using h) (by omega)
    · right
      exact ⟨0, by simp, fun i h hi => by omega, by simp; omega⟩

/-- First: the first fault that is not 0. -/
def firstF : List Int → Int
  | [] => 0
  | e :: l => if e = 0 then firstF l else e

theorem firstF_drop (l : List Int) (k : Nat) (h : k < l.length) : firstF (l.drop k) = if l[k] = 0 then firstF (l.drop (k + 1)) else l[k] := by
  rw [List.drop_eq_getElem_cons h]; rfl

set_option maxHeartbeats 400000 in
theorem first_any (b off cap : Nat) (zs : List Int) (w : World) (hm : zs.length ≤ 9223372036854775807)
    (hc : RowAt .i64 w b off zs) :
    Calls Tryz.prog 15 #[.slice (some ⟨b, off, none⟩) zs.length cap] w fun e w' => e = .returned (.int .i64 (firstF zs)) ∧ w = w' := by
  go_enter Tryz.func15, Tryz.ntmps15
  go_wp2
  go_loop [7] (fun i => ∃ k : Nat, k ≤ zs.length ∧ i = .int .i64 k ∧ firstF zs = firstF (zs.drop k)) (fun i => zs.length - (intOf i).toNat)
  case atStart => exact ⟨0, Nat.zero_le _, rfl, rfl⟩
  case round =>
    obtain ⟨k, hk, rfl, he⟩ := hrel
    have HE := Lib.hid he
    clear he
    by_cases hlt : k < zs.length
    · have hcell := hc k hlt
      have HD := Lib.hid (firstF_drop zs k hlt)
      by_cases h0 : (zs[k] != 0) = true
      · go_wp2
        go_ret
        exact ⟨by rw [HE.out, HD.out, if_neg (by simpa using h0)]; rfl, rfl⟩
      · have h1 : (zs[k] != 0) = false := by simpa using h0
        clear h0
        go_wp2
        go_round
        case rel => exact ⟨k + 1, by omega, by go_num, by rw [HE.out, HD.out, if_pos (by simpa using h1)]⟩
        case measure => simp [intOf]; omega
    · have HD : Hid (firstF (zs.drop k) = 0) := by
        rw [List.drop_eq_nil_of_le (by omega)]; exact rfl
      go_wp2
      go_ret
      exact ⟨by rw [HE.out, HD.out]; rfl, rfl⟩

set_option maxHeartbeats 400000 in
theorem when_yes (f : Int) (w : World) : Calls Tryz.prog 17 #[.bool true, .int .i64 f] w fun e w' => e = .returned (.int .i64 f) ∧ w = w' := by
  go_enter Tryz.func17, Tryz.ntmps17
  go_wp2
  go_ret
  exact ⟨rfl, rfl⟩
set_option maxHeartbeats 400000 in
theorem when_no (f : Int) (w : World) : Calls Tryz.prog 17 #[.bool false, .int .i64 f] w fun e w' => e = .returned (.int .i64 0) ∧ w = w' := by
  go_enter Tryz.func17, Tryz.ntmps17
  go_wp2
  go_ret
  exact ⟨rfl, rfl⟩
end Go.Proofs.YtppbagllhmeenaaGreatDoor

namespace Go.Proofs.YtppbagllhmeenaaGreatDoor
open Go.RowKit
set_option linter.unusedVariables false
set_option linter.unusedSimpArgs false

def inR (n lo hi : Int) : Bool := decide (lo ≤ n ∧ n ≤ hi)
def whenW (b : Bool) (f : Int) : Int := if b then f else 0
theorem within_R (n lo hi : Int) (w : World) : Calls Tryz.prog 46 #[.int .i64 n, .int .i64 lo, .int .i64 hi] w fun e w' => e = .returned (.bool (inR n lo hi)) ∧ w = w' := by
  by_cases h : lo ≤ n ∧ n ≤ hi
  · have : inR n lo hi = true := decide_eq_true h
    rw [this]; exact within_yes n lo hi w h
  · have : inR n lo hi = false := decide_eq_false h
    rw [this]; exact within_no n lo hi w (by omega)
theorem when_R (b : Bool) (f : Int) (w : World) : Calls Tryz.prog 17 #[.bool b, .int .i64 f] w fun e w' => e = .returned (.int .i64 (whenW b f)) ∧ w = w' := by
  cases b
  · exact when_no f w
  · exact when_yes f w
theorem rwithin_R (n lo hi : Int) (w : World) : Calls Tryz.prog 56 #[.int .i64 n, .int .i64 lo, .int .i64 hi] w fun e w' => e = .returned (.bool (inR n lo hi)) ∧ w = w' := by
  by_cases h : lo ≤ n ∧ n ≤ hi
  · have : inR n lo hi = true := decide_eq_true h
    rw [this]; exact r1within_yes n lo hi w h
  · have : inR n lo hi = false := decide_eq_false h
    rw [this]; exact r1within_no n lo hi w (by omega)
set_option maxHeartbeats 400000 in
theorem rLevel_R (n : Int) (w : World) : Calls Tryz.prog 103 #[.int .i64 n] w fun e w' => e = .returned (.bool (inR n 0 65535)) ∧ w = w' := by
  go_enter Tryz.func103, Tryz.ntmps103
  go_wp2_with (go_at_call 56; refine (rwithin_R _ _ _ _).mono ?_; rintro e w' ⟨rfl, rfl⟩)
  go_ret
  exact ⟨rfl, rfl⟩
end Go.Proofs.YtppbagllhmeenaaGreatDoor

namespace Go.Proofs.YtppbagllhmeenaaGreatDoor
open Go.ChangeShapes Go.WideShapes Go.RowKit Go.Deep

section
variable {H : Type} {enc : TypeId × Value → H} {P : Program} {w : World} {base : Nat} {spare : Nat → Bool} {held : Bool}

/-- a struct that came in by value: its cells, and each field's own reading -/
theorem open_struct {r : Reach} {b0 : Nat} {t : TypeId} {fs : Array Field} {v : Value} {d : DataW H} {p : List MemPlace} (hs : P.underlying t = some (.struct fs))
    (hv : Value.okWide P w r b0 t v) (h : DataW.Trod enc P w base spare held t v d p) :
    ∃ (cs : List Value) (n : Nat), v = .agg cs.toArray ∧ cs.length = P.cellsOf t ∧ ∀ (i : Nat) (f : Field), fs[i]? = some f → ∃ y, DataW.trod enc P w base spare held n f.type ((cs.drop f.offset).take (P.cellsOf f.type)) = some y := by
  obtain ⟨cs, rfl, hsz⟩ := okWide_struct hs hv
  obtain ⟨fuel, hf⟩ := h
  obtain ⟨xs, n, _, _, hlen, hl, hg⟩ := DataW.trod_struct hs hf
  have hc : (Value.agg cs).cells = cs := by simp [Value.cells]
  rw [hc] at hg
  refine ⟨cs.toList, n, by simp, by simpa using hsz, fun i f hf => ?_⟩
  have hi : i < xs.length := by rw [hl]; exact (Array.getElem?_eq_some_iff.1 hf).1
  exact ⟨xs[i], by rw [hg i f hf, List.getElem?_eq_getElem hi]⟩

theorem take1_drop {α : Type} (l : List α) (i : Nat) (h : i < l.length) : (l.drop i).take 1 = [l[i]] := by
  rw [List.drop_eq_getElem_cons h]; rfl

/-- .. where each field is one cell -/
theorem open_struct1 {r : Reach} {b0 : Nat} {t : TypeId} {fs : Array Field} {v : Value} {d : DataW H} {p : List MemPlace} (hs : P.underlying t = some (.struct fs)) (hone : oneCellFields P fs = true) (hC : P.cellsOf t = fs.size)
    (hv : Value.okWide P w r b0 t v) (h : DataW.Trod enc P w base spare held t v d p) :
    ∃ (cs : List Value) (n : Nat), v = .agg cs.toArray ∧ cs.length = fs.size ∧ ∀ (i : Nat) (f : Field), fs[i]? = some f → ∃ u y, cs[i]? = some u ∧ DataW.trod enc P w base spare held n f.type [u] = some y := by
  obtain ⟨cs, n, hv, hl, hf⟩ := open_struct hs hv h
  refine ⟨cs, n, hv, hl.trans hC, fun i f hif => ?_⟩
  obtain ⟨o, c⟩ := hone_of hone i f hif
  obtain ⟨y, hy⟩ := hf i f hif
  have hi : i < cs.length := by rw [hl, hC]; exact (Array.getElem?_eq_some_iff.1 hif).1
  rw [o, c, take1_drop cs i hi] at hy
  exact ⟨_, y, List.getElem?_eq_getElem hi, hy⟩

/-- a struct among cells: each field's own reading -/
theorem open_fields {t : TypeId} {fs : Array Field} {fuel : Nat} {cs : List Value} {x : DataW H × List MemPlace} (hs : P.underlying t = some (.struct fs)) (h : DataW.trod enc P w base spare held fuel t cs = some x) :
    cs.length = P.cellsOf t ∧ ∃ n : Nat, ∀ (i : Nat) (f : Field), fs[i]? = some f → ∃ y, DataW.trod enc P w base spare held n f.type ((cs.drop f.offset).take (P.cellsOf f.type)) = some y := by
  obtain ⟨xs, n, _, _, hlen, hl, hg⟩ := DataW.trod_struct hs h
  refine ⟨hlen, n, fun i f hf => ?_⟩
  have hi : i < xs.length := by rw [hl]; exact (Array.getElem?_eq_some_iff.1 hf).1
  exact ⟨xs[i], by rw [hg i f hf, List.getElem?_eq_getElem hi]⟩

theorem open_fields1 {t : TypeId} {fs : Array Field} {fuel : Nat} {cs : List Value} {x : DataW H × List MemPlace} (hs : P.underlying t = some (.struct fs)) (hone : oneCellFields P fs = true) (hC : P.cellsOf t = fs.size)
    (h : DataW.trod enc P w base spare held fuel t cs = some x) :
    cs.length = fs.size ∧ ∃ n : Nat, ∀ (i : Nat) (f : Field), fs[i]? = some f → ∃ u y, cs[i]? = some u ∧ DataW.trod enc P w base spare held n f.type [u] = some y := by
  obtain ⟨hl, n, hf⟩ := open_fields hs h
  refine ⟨hl.trans hC, n, fun i f hif => ?_⟩
  obtain ⟨o, c⟩ := hone_of hone i f hif
  obtain ⟨y, hy⟩ := hf i f hif
  have hi : i < cs.length := by rw [hl, hC]; exact (Array.getElem?_eq_some_iff.1 hif).1
  rw [o, c, take1_drop cs i hi] at hy
  exact ⟨_, y, List.getElem?_eq_getElem hi, hy⟩

theorem field_int {fuel : Nat} {t : TypeId} {k : IntKind} {u : Value} {y : DataW H × List MemPlace} (ht : P.underlying t = some (.int k)) (h : DataW.trod enc P w base spare held fuel t [u] = some y) : ∃ a, u = .int k a ∧ (Lit.int k a).wf = true := by
  obtain ⟨a, e, _, hw⟩ := DataW.trod_int ht h
  simp at e
  exact ⟨a, e, hw⟩
end

theorem list2 {α : Type} {l : List α} (h : l.length = 2) : ∃ a b, l = [a, b] := by
  match l, h with
  | [a, b], _ => exact ⟨a, b, rfl⟩

/-- integers that fit -/
def I64 (a : Int) : Prop := -9223372036854775808 ≤ a ∧ a ≤ 9223372036854775807

theorem i64_of_wf {a : Int} (h : (Lit.int .i64 a).wf = true) : I64 a := by
  simp [Lit.wf, IntKind.min, IntKind.max, IntKind.signed, IntKind.bits] at h
  unfold I64; omega

theorem list3 {α : Type} {l : List α} (h : l.length = 3) : ∃ a b c, l = [a, b, c] := by
  match l, h with
  | [a, b, c], _ => exact ⟨a, b, c, rfl⟩
end Go.Proofs.YtppbagllhmeenaaGreatDoor

namespace Go.Proofs.YtppbagllhmeenaaGreatDoor
open Go.RowKit
set_option linter.unusedVariables false
set_option linter.unusedSimpArgs false

def Rng.nm (r : Rng) : List UInt8 := r.name.data.toList
def Par.nm (r : Par) : List UInt8 := r.name.data.toList
def Prf.nm (r : Prf) : List UInt8 := r.name.data.toList
def Unt.nm (r : Unt) : List UInt8 := r.prof.data.toList
/-- a range behind others -/
def rngBad (r : Rng) : Bool := !inR r.low 0 65535 || !inR r.high 0 65535 || decide (r.high < r.low)
def rngLow (pre : List Rng) (r : Rng) : Bool := pre.getLast?.any (fun q => decide (r.low ≤ q.high))
def rngF (pre : List Rng) (r : Rng) : Int :=
  if rngBad r then 1 else if rngLow pre r then 7 else if !nameB r.nm then 5 else if r.nm ∈ pre.map Rng.nm then 6 else 0
def chkRngs (l : List Rng) : Int := if 30 < l.length then 2 else scanF rngF l 0
/-- the slots of a parameter -/
def slotsP (p : Par) : List Int := if 0 < p.fine then [p.sl, p.fine] else [p.sl]
def usedS (pre : List Par) : List Int := pre.flatMap slotsP
def parBad (size : Int) (x : Par) : Bool := !inR x.sl 1 size || !inR x.fine 0 size || !inR x.dflt 0 65535
def parClash (pre : List Par) (x : Par) : Bool := decide (x.sl = x.fine) || decide (x.sl ∈ usedS pre) || (decide (0 < x.fine) && decide (x.fine ∈ usedS pre))
/-- a parameter behind others -/
def parF (size : Int) (pre : List Par) (x : Par) : Int :=
  if !nameB x.nm then 5 else if x.nm ∈ pre.map Par.nm then 6 else if !inR x.grp 1 4 then 4 else if parBad size x then 1 else if parClash pre x then 12 else chkRngs x.rngs
/-- the fault of a profile -/
def chkPrf (p : Prf) : Int :=
  if !nameB p.nm then 5 else if !inR p.size 1 512 then 1 else if p.pars.length = 0 then 8 else if 40 < p.pars.length then 2 else scanF (parF p.size) p.pars 0
def prfF (pre : List Prf) (p : Prf) : Int := if chkPrf p ≠ 0 then chkPrf p else if p.nm ∈ pre.map Prf.nm then 6 else 0
/-- the fault of a library -/
def chkLib (l : List Prf) : Int := if 60 < l.length then 2 else scanF prfF l 0
/-- the profile with a name -/
def profOf (lib : List Prf) (n : List UInt8) : Option Prf := lib.find? (fun p => decide (p.nm = n))
def sizeOf' (lib : List Prf) (u : Unt) : Int := ((profOf lib u.nm).map Prf.size).getD 0
def lastOf (lib : List Prf) (u : Unt) : Int := u.addr + sizeOf' lib u - 1
/-- two units at one place -/
def clashU (lib : List Prf) (u x : Unt) : Bool := decide (x.univ = u.univ) && decide (x.addr ≤ lastOf lib u) && decide (u.addr ≤ lastOf lib x)
def untBad (u : Unt) (size : Int) : Bool := !inR u.univ 1 64 || !inR u.addr 1 512 || decide (512 < u.addr + size - 1)
def untLow (pre : List Unt) (u : Unt) : Bool := pre.getLast?.any (fun q => decide (u.num ≤ q.num))
/-- a unit behind others -/
def untF (lib : List Prf) (pre : List Unt) (u : Unt) : Int :=
  if !inR u.num 1 9999 then 1 else if untLow pre u then 7 else if (profOf lib u.nm).isNone then 5 else if untBad u (sizeOf' lib u) then 1 else if pre.any (clashU lib u) then 12 else 0
/-- the fault of a rig -/
def chkRig (r : Rig) : Int := if chkLib r.lib ≠ 0 then chkLib r.lib else if 400 < r.units.length then 2 else scanF (untF r.lib) r.units 0

/-! ### what fits into memory -/
def RngFit (r : Rng) : Prop := I64 r.low ∧ I64 r.high ∧ r.name.size ≤ maxLen
def ParFit (p : Par) : Prop := I64 p.grp ∧ I64 p.sl ∧ I64 p.fine ∧ I64 p.dflt ∧ p.name.size ≤ maxLen ∧ ∀ r ∈ p.rngs, RngFit r
def PrfFit (p : Prf) : Prop := I64 p.size ∧ p.name.size ≤ maxLen ∧ ∀ x ∈ p.pars, ParFit x
def UntFit (u : Unt) : Prop := I64 u.num ∧ I64 u.univ ∧ I64 u.addr ∧ u.prof.size ≤ maxLen
def RigFit (r : Rig) : Prop := (∀ p ∈ r.lib, PrfFit p) ∧ ∀ u ∈ r.units, UntFit u

/-! ### what a right one has -/
theorem last_take {α : Type} (l : List α) (k : Nat) (h : k < l.length) (h0 : 0 < k) : (l.take k).getLast? = some (l[k - 1]'(by omega)) := by
  rw [List.getLast?_eq_getElem?, List.length_take, Nat.min_eq_left (by omega), List.getElem?_take_of_lt (by omega), List.getElem?_eq_getElem (by omega)]
theorem last_take0 {α : Type} (l : List α) : (l.take 0).getLast? = none := by simp
theorem inR_true {n lo hi : Int} (h : inR n lo hi = true) : lo ≤ n ∧ n ≤ hi := of_decide_eq_true h
theorem inR_false {n lo hi : Int} (h : inR n lo hi = false) : n < lo ∨ hi < n := by
  have := of_decide_eq_false h
  omega
theorem parBad_false {size : Int} {x : Par} (h : parBad size x = false) : (1 ≤ x.sl ∧ x.sl ≤ size) ∧ (0 ≤ x.fine ∧ x.fine ≤ size) ∧ 0 ≤ x.dflt ∧ x.dflt ≤ 65535 := by
  simp only [parBad, Bool.or_eq_false_iff, Bool.not_eq_false'] at h
  exact ⟨inR_true h.1.1, inR_true h.1.2, inR_true h.2⟩
theorem parF_zero {size : Int} {pre : List Par} {x : Par} (h : parF size pre x = 0) : nameB x.nm = true ∧ x.nm ∉ pre.map Par.nm ∧ (1 ≤ x.grp ∧ x.grp ≤ 4) ∧ parBad size x = false ∧ parClash pre x = false ∧ chkRngs x.rngs = 0 := by
  unfold parF at h
  cases h1 : nameB x.nm
  · simp [h1] at h
  by_cases h2 : x.nm ∈ pre.map Par.nm
  · rw [h1, if_pos h2] at h; simp at h
  cases h3 : inR x.grp 1 4
  · rw [h1, if_neg h2, h3] at h; simp at h
  cases h4 : parBad size x
  · cases h5 : parClash pre x
    · rw [h1, if_neg h2, h3, h4, h5] at h
      simp at h
      exact ⟨rfl, h2, inR_true h3, rfl, rfl, h⟩
    · rw [h1, if_neg h2, h3, h4, h5] at h; simp at h
  · rw [h1, if_neg h2, h3, h4] at h; simp at h
theorem chkPrf_zero {p : Prf} (h : chkPrf p = 0) : nameB p.nm = true ∧ (1 ≤ p.size ∧ p.size ≤ 512) ∧ 0 < p.pars.length ∧ p.pars.length ≤ 40 ∧ scanF (parF p.size) p.pars 0 = 0 := by
  unfold chkPrf at h
  cases h1 : nameB p.nm
  · simp [h1] at h
  cases h2 : inR p.size 1 512
  · simp [h1, h2] at h
  by_cases h3 : p.pars.length = 0
  · rw [h1, h2, if_pos h3] at h; simp at h
  by_cases h4 : 40 < p.pars.length
  · rw [h1, h2, if_neg h3, if_pos h4] at h; simp at h
  rw [h1, h2, if_neg h3, if_neg h4] at h
  simp at h
  exact ⟨rfl, inR_true h2, by omega, by omega, h⟩
theorem prfF_zero {pre : List Prf} {p : Prf} (h : prfF pre p = 0) : chkPrf p = 0 ∧ p.nm ∉ pre.map Prf.nm := by
  unfold prfF at h
  by_cases h1 : chkPrf p = 0
  · rw [if_neg (by simpa using h1)] at h
    by_cases h2 : p.nm ∈ pre.map Prf.nm
    · rw [if_pos h2] at h; simp at h
    · exact ⟨h1, h2⟩
  · rw [if_pos h1] at h; exact absurd h h1
theorem scanF_zero {α : Type} (f : List α → α → Int) (l : List α) (h : scanF f l 0 = 0) (k : Nat) (hk : k < l.length) : f (l.take k) l[k] = 0 := scan_zero f l (by rw [← scanF_start]; exact h) k hk
theorem chkLib_zero {l : List Prf} (h : chkLib l = 0) : l.length ≤ 60 ∧ scanF prfF l 0 = 0 := by
  unfold chkLib at h
  by_cases h1 : 60 < l.length
  · rw [if_pos h1] at h; simp at h
  · rw [if_neg h1] at h; exact ⟨by omega, h⟩
theorem chkLib_prf {l : List Prf} (h : chkLib l = 0) {p : Prf} (hp : p ∈ l) : chkPrf p = 0 := by
  obtain ⟨k, hk, rfl⟩ := List.getElem_of_mem hp
  exact (prfF_zero (scanF_zero _ _ (chkLib_zero h).2 k hk)).1
theorem chkRig_zero {r : Rig} (h : chkRig r = 0) : chkLib r.lib = 0 ∧ r.units.length ≤ 400 ∧ scanF (untF r.lib) r.units 0 = 0 := by
  unfold chkRig at h
  by_cases h1 : chkLib r.lib = 0
  · rw [if_neg (by simpa using h1)] at h
    by_cases h2 : 400 < r.units.length
    · rw [if_pos h2] at h; simp at h
    · rw [if_neg h2] at h; exact ⟨h1, by omega, h⟩
  · rw [if_pos h1] at h; exact absurd h h1
theorem profOf_some {lib : List Prf} {n : List UInt8} {p : Prf} (h : profOf lib n = some p) : p ∈ lib ∧ p.nm = n :=
  by
  unfold profOf at h
  exact ⟨List.mem_of_find?_eq_some h, by simpa using List.find?_some h⟩
theorem untF_zero {lib : List Prf} {pre : List Unt} {u : Unt} (h : untF lib pre u = 0) : (1 ≤ u.num ∧ u.num ≤ 9999) ∧ untLow pre u = false ∧ (∃ p, profOf lib u.nm = some p ∧ untBad u p.size = false) ∧ pre.any (clashU lib u) = false := by
  unfold untF at h
  cases h1 : inR u.num 1 9999
  · simp [h1] at h
  cases h2 : untLow pre u
  rotate_left
  · simp [h1, h2] at h
  cases h3 : profOf lib u.nm with
  | none => simp [h1, h2, h3] at h
  | some p =>
    have hs : sizeOf' lib u = p.size := by simp [sizeOf', h3]
    rw [h1, h2, h3, hs] at h
    cases h4 : untBad u p.size
    · cases h5 : pre.any (clashU lib u)
      · exact ⟨inR_true h1, rfl, ⟨p, rfl, h4⟩, rfl⟩
      · simp [h4, h5] at h
    · simp [h4] at h
theorem untBad_false {u : Unt} {size : Int} (h : untBad u size = false) : (1 ≤ u.univ ∧ u.univ ≤ 64) ∧ (1 ≤ u.addr ∧ u.addr ≤ 512) ∧ u.addr + size - 1 ≤ 512 := by
  simp only [untBad, Bool.or_eq_false_iff, Bool.not_eq_false', decide_eq_false_iff_not] at h
  exact ⟨inR_true h.1.1, inR_true h.1.2, by omega⟩
end Go.Proofs.YtppbagllhmeenaaGreatDoor
