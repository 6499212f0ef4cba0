/- The reference's Within and IsLevel (cut out of XRMix, for seats without fractions). Contracts of level.levels, word.First and word.When. levels and First take a slice: a row of cells in memory. Tests of bounds as one Bool, of both sides; When. (cut out of XEfWords) Arguments of struct types, opened to cells: for any program. -/
import Derived.Test.YtppbagllhmeenaaGreatDoorT62M02
import Derived.Test.YtppbagllhmeenaaGreatDoorT62M01
import Derived.Test.YtppbagllhmeenaaGreatDoorProg
import Derived.WalkKit
import Derived.ProofKit
import Derived.OpenShut
import Derived.Deep.Slices
import Derived.Deep.Fields

namespace Go.Proofs.YtppbagllhmeenaaGreatDoor
open Go.RowKit
set_option linter.unusedVariables false
set_option linter.unusedSimpArgs false

theorem below_drewR {B n : Nat} {a w : World} (h : Below B a w) : Below B a (w.drewN n) := ⟨h.os, h.tape, h.output, h.size, h.block⟩

set_option maxHeartbeats 400000 in
theorem r1within_yes (n lo hi : Int) (w : World) (h : lo ≤ n ∧ n ≤ hi) :
    Calls Tryz.prog 56 #[.int .i64 n, .int .i64 lo, .int .i64 hi] w fun e w' => e = .returned (.bool true) ∧ w = w' := by
  obtain ⟨h1, h2⟩ := h
  have e2 : decide (n ≤ hi) = true := by simpa using h2
  go_enter Tryz.func56, Tryz.ntmps56
  go_wp2
  go_ret
  exact ⟨rfl, rfl⟩
set_option maxHeartbeats 400000 in
theorem r1within_no (n lo hi : Int) (w : World) (h : n < lo ∨ hi < n) :
    Calls Tryz.prog 56 #[.int .i64 n, .int .i64 lo, .int .i64 hi] w fun e w' => e = .returned (.bool false) ∧ w = w' := by
  by_cases h1 : lo ≤ n
  · have e2 : decide (n ≤ hi) = false := by simp; omega
    have h2 : hi < n := by omega
    clear h
    go_enter Tryz.func56, Tryz.ntmps56
    go_wp2
    go_ret
    exact ⟨rfl, rfl⟩
  · have h2 : n < lo := by omega
    clear h
    go_enter Tryz.func56, Tryz.ntmps56
    go_wp2
    go_ret
    exact ⟨rfl, rfl⟩
set_option maxHeartbeats 400000 in
theorem rIsLevel_yes (n : Int) (w : World) (h : 0 ≤ n ∧ n ≤ 65535) :
    Calls Tryz.prog 103 #[.int .i64 n] w fun e w' => e = .returned (.bool true) ∧ w = w' := by
  go_enter Tryz.func103, Tryz.ntmps103
  go_wp2_with (go_at_call 56; refine (r1within_yes _ _ _ _ h).mono ?_; rintro e w' ⟨rfl, rfl⟩)
  go_ret
  exact ⟨rfl, rfl⟩
set_option maxHeartbeats 400000 in
theorem rIsLevel_no (n : Int) (w : World) (h : n < 0 ∨ 65535 < n) :
    Calls Tryz.prog 103 #[.int .i64 n] w fun e w' => e = .returned (.bool false) ∧ w = w' := by
  go_enter Tryz.func103, Tryz.ntmps103
  go_wp2_with (go_at_call 56; refine (r1within_no _ _ _ _ h).mono ?_; rintro e w' ⟨rfl, rfl⟩)
  go_ret
  exact ⟨rfl, rfl⟩
end Go.Proofs.YtppbagllhmeenaaGreatDoor

namespace Go.Proofs.YtppbagllhmeenaaGreatDoor
open Go.RowKit

/-- the cells of a row of numbers -/
def RowAt (k : IntKind) (w : World) (b off : Nat) (zs : List Int) : Prop := ∀ i (h : i < zs.length), w.cell? ⟨b, off + i, none⟩ = some (.int k zs[i])
def Levels (zs : List Int) : Prop := ∀ i (h : i < zs.length), 0 ≤ zs[i] ∧ zs[i] ≤ 65535

/-- either all are levels, or there is a first one that is none -/
theorem levels_cases (zs : List Int) : Levels zs ∨ ∃ j, ∃ h : j < zs.length, (∀ i (h : i < zs.length), i < j → 0 ≤ zs[i] ∧ zs[i] ≤ 65535) ∧ (zs[j] < 0 ∨ 65535 < zs[j]) := by
  induction zs with
  | nil => left; intro i h; simp at h
  | cons z zs ih =>
    by_cases hz : 0 ≤ z ∧ z ≤ 65535
    · rcases ih with ih | ⟨j, hj, h1, h2⟩
      · left
        intro i h
        match i with
        | 0 => simpa using hz
        | i + 1 => simpa using ih i (by simpa using h)
      · right
        refine ⟨j + 1, by simpa using hj, ?_, by simpa using h2⟩
        intro i h hij
        match i with
        | 0 => simpa using hz
        | i + 1 => simpa using h1 i (by simpa using h) (by omega)
    · right
      exact ⟨0, by simp, fun i h hi => by omega, by simp; omega⟩

/-- First: the first fault that is not 0. -/
def firstF : List Int → Int
  | [] => 0
  | e :: l => if e = 0 then firstF l else e

theorem firstF_drop (l : List Int) (k : Nat) (h : k < l.length) : firstF (l.drop k) = if l[k] = 0 then firstF (l.drop (k + 1)) else l[k] := by
  rw [List.drop_eq_getElem_cons h]; rfl

set_option maxHeartbeats 400000 in
theorem first_any (b off cap : Nat) (zs : List Int) (w : World) (hm : zs.length ≤ 9223372036854775807)
    (hc : RowAt .i64 w b off zs) :
    Calls Tryz.prog 15 #[.slice (some ⟨b, off, none⟩) zs.length cap] w fun e w' => e = .returned (.int .i64 (firstF zs)) ∧ w = w' := by
  go_enter Tryz.func15, Tryz.ntmps15
  go_wp2
  go_loop [7] (fun i => ∃ k : Nat, k ≤ zs.length ∧ i = .int .i64 k ∧ firstF zs = firstF (zs.drop k)) (fun i => zs.length - (intOf i).toNat)
  case atStart => exact ⟨0, Nat.zero_le _, rfl, rfl⟩
  case round =>
    obtain ⟨k, hk, rfl, he⟩ := hrel
    have HE := Lib.hid he
    clear he
    by_cases hlt : k < zs.length
    · have hcell := hc k hlt
      have HD := Lib.hid (firstF_drop zs k hlt)
      by_cases h0 : (zs[k] != 0) = true
      · go_wp2
        go_ret
        exact ⟨by rw [HE.out, HD.out, if_neg (by simpa using h0)]; rfl, rfl⟩
      · have h1 : (zs[k] != 0) = false := by simpa using h0
        clear h0
        go_wp2
        go_round
        case rel => exact ⟨k + 1, by omega, by go_num, by rw [HE.out, HD.out, if_pos (by simpa using h1)]⟩
        case measure => simp [intOf]; omega
    · have HD : Hid (firstF (zs.drop k) = 0) := by
        rw [List.drop_eq_nil_of_le (by omega)]; exact rfl
      go_wp2
      go_ret
      exact ⟨by rw [HE.out, HD.out]; rfl, rfl⟩

set_option maxHeartbeats 400000 in
theorem when_yes (f : Int) (w : World) : Calls Tryz.prog 17 #[.bool true, .int .i64 f] w fun e w' => e = .returned (.int .i64 f) ∧ w = w' := by
  go_enter Tryz.func17, Tryz.ntmps17
  go_wp2
  go_ret
  exact ⟨rfl, rfl⟩
set_option maxHeartbeats 400000 in
theorem when_no (f : Int) (w : World) : Calls Tryz.prog 17 #[.bool false, .int .i64 f] w fun e w' => e = .returned (.int .i64 0) ∧ w = w' := by
  go_enter Tryz.func17, Tryz.ntmps17
  go_wp2
  go_ret
  exact ⟨rfl, rfl⟩
end Go.Proofs.YtppbagllhmeenaaGreatDoor

namespace Go.Proofs.YtppbagllhmeenaaGreatDoor
open Go.RowKit
set_option linter.unusedVariables false
set_option linter.unusedSimpArgs false

def inR (n lo hi : Int) : Bool := decide (lo ≤ n ∧ n ≤ hi)
def whenW (b : Bool) (f : Int) : Int := if b then f else 0
theorem within_R (n lo hi : Int) (w : World) : Calls Tryz.prog 46 #[.int .i64 n, .int .i64 lo, .int .i64 hi] w fun e w' => e = .returned (.bool (inR n lo hi)) ∧ w = w' := by
  by_cases h : lo ≤ n ∧ n ≤ hi
  · have : inR n lo hi = true := decide_eq_true h
    rw [this]; exact within_yes n lo hi w h
  · have : inR n lo hi = false := decide_eq_false h
    rw [this]; exact within_no n lo hi w (by omega)
theorem when_R (b : Bool) (f : Int) (w : World) : Calls Tryz.prog 17 #[.bool b, .int .i64 f] w fun e w' => e = .returned (.int .i64 (whenW b f)) ∧ w = w' := by
  cases b
  · exact when_no f w
  · exact when_yes f w
theorem rwithin_R (n lo hi : Int) (w : World) : Calls Tryz.prog 56 #[.int .i64 n, .int .i64 lo, .int .i64 hi] w fun e w' => e = .returned (.bool (inR n lo hi)) ∧ w = w' := by
  by_cases h : lo ≤ n ∧ n ≤ hi
  · have : inR n lo hi = true := decide_eq_true h
    rw [this]; exact r1within_yes n lo hi w h
  · have : inR n lo hi = false := decide_eq_false h
    rw [this]; exact r1within_no n lo hi w (by omega)
set_option maxHeartbeats 400000 in
theorem rLevel_R (n : Int) (w : World) : Calls Tryz.prog 103 #[.int .i64 n] w fun e w' => e = .returned (.bool (inR n 0 65535)) ∧ w = w' := by
  go_enter Tryz.func103, Tryz.ntmps103
  go_wp2_with (go_at_call 56; refine (rwithin_R _ _ _ _).mono ?_; rintro e w' ⟨rfl, rfl⟩)
  go_ret
  exact ⟨rfl, rfl⟩
end Go.Proofs.YtppbagllhmeenaaGreatDoor

namespace Go.Proofs.YtppbagllhmeenaaGreatDoor
open Go.ChangeShapes Go.WideShapes Go.RowKit Go.Deep

section
variable {H : Type} {enc : TypeId × Value → H} {P : Program} {w : World} {base : Nat} {spare : Nat → Bool} {held : Bool}

/-- a struct that came in by value: its cells, and each field's own reading -/
theorem open_struct {r : Reach} {b0 : Nat} {t : TypeId} {fs : Array Field} {v : Value} {d : DataW H} {p : List MemPlace} (hs : P.underlying t = some (.struct fs))
    (hv : Value.okWide P w r b0 t v) (h : DataW.Trod enc P w base spare held t v d p) :
    ∃ (cs : List Value) (n : Nat), v = .agg cs.toArray ∧ cs.length = P.cellsOf t ∧ ∀ (i : Nat) (f : Field), fs[i]? = some f → ∃ y, DataW.trod enc P w base spare held n f.type ((cs.drop f.offset).take (P.cellsOf f.type)) = some y := by
  obtain ⟨cs, rfl, hsz⟩ := okWide_struct hs hv
  obtain ⟨fuel, hf⟩ := h
  obtain ⟨xs, n, _, _, hlen, hl, hg⟩ := DataW.trod_struct hs hf
  have hc : (Value.agg cs).cells = cs := by simp [Value.cells]
  rw [hc] at hg
  refine ⟨cs.toList, n, by simp, by simpa using hsz, fun i f hf => ?_⟩
  have hi : i < xs.length := by rw [hl]; exact (Array.getElem?_eq_some_iff.1 hf).1
  exact ⟨xs[i], by rw [hg i f hf, List.getElem?_eq_getElem hi]⟩

theorem take1_drop {α : Type} (l : List α) (i : Nat) (h : i < l.length) : (l.drop i).take 1 = [l[i]] := by
  rw [List.drop_eq_getElem_cons h]; rfl

/-- .. where each field is one cell -/
theorem open_struct1 {r : Reach} {b0 : Nat} {t : TypeId} {fs : Array Field} {v : Value} {d : DataW H} {p : List MemPlace} (hs : P.underlying t = some (.struct fs)) (hone : oneCellFields P fs = true) (hC : P.cellsOf t = fs.size)
    (hv : Value.okWide P w r b0 t v) (h : DataW.Trod enc P w base spare held t v d p) :
    ∃ (cs : List Value) (n : Nat), v = .agg cs.toArray ∧ cs.length = fs.size ∧ ∀ (i : Nat) (f : Field), fs[i]? = some f → ∃ u y, cs[i]? = some u ∧ DataW.trod enc P w base spare held n f.type [u] = some y := by
  obtain ⟨cs, n, hv, hl, hf⟩ := open_struct hs hv h
  refine ⟨cs, n, hv, hl.trans hC, fun i f hif => ?_⟩
  obtain ⟨o, c⟩ := hone_of hone i f hif
  obtain ⟨y, hy⟩ := hf i f hif
  have hi : i < cs.length := by rw [hl, hC]; exact (Array.getElem?_eq_some_iff.1 hif).1
  rw [o, c, take1_drop cs i hi] at hy
  exact ⟨_, y, List.getElem?_eq_getElem hi, hy⟩

/-- a struct among cells: each field's own reading -/
theorem open_fields {t : TypeId} {fs : Array Field} {fuel : Nat} {cs : List Value} {x : DataW H × List MemPlace} (hs : P.underlying t = some (.struct fs)) (h : DataW.trod enc P w base spare held fuel t cs = some x) :
    cs.length = P.cellsOf t ∧ ∃ n : Nat, ∀ (i : Nat) (f : Field), fs[i]? = some f → ∃ y, DataW.trod enc P w base spare held n f.type ((cs.drop f.offset).take (P.cellsOf f.type)) = some y := by
  obtain ⟨xs, n, _, _, hlen, hl, hg⟩ := DataW.trod_struct hs h
  refine ⟨hlen, n, fun i f hf => ?_⟩
  have hi : i < xs.length := by rw [hl]; exact (Array.getElem?_eq_some_iff.1 hf).1
  exact ⟨xs[i], by rw [hg i f hf, List.getElem?_eq_getElem hi]⟩

theorem open_fields1 {t : TypeId} {fs : Array Field} {fuel : Nat} {cs : List Value} {x : DataW H × List MemPlace} (hs : P.underlying t = some (.struct fs)) (hone : oneCellFields P fs = true) (hC : P.cellsOf t = fs.size)
    (h : DataW.trod enc P w base spare held fuel t cs = some x) :
    cs.length = fs.size ∧ ∃ n : Nat, ∀ (i : Nat) (f : Field), fs[i]? = some f → ∃ u y, cs[i]? = some u ∧ DataW.trod enc P w base spare held n f.type [u] = some y := by
  obtain ⟨hl, n, hf⟩ := open_fields hs h
  refine ⟨hl.trans hC, n, fun i f hif => ?_⟩
  obtain ⟨o, c⟩ := hone_of hone i f hif
  obtain ⟨y, hy⟩ := hf i f hif
  have hi : i < cs.length := by rw [hl, hC]; exact (Array.getElem?_eq_some_iff.1 hif).1
  rw [o, c, take1_drop cs i hi] at hy
  exact ⟨_, y, List.getElem?_eq_getElem hi, hy⟩

theorem field_int {fuel : Nat} {t : TypeId} {k : IntKind} {u : Value} {y : DataW H × List MemPlace} (ht : P.underlying t = some (.int k)) (h : DataW.trod enc P w base spare held fuel t [u] = some y) : ∃ a, u = .int k a ∧ (Lit.int k a).wf = true := by
  obtain ⟨a, e, _, hw⟩ := DataW.trod_int ht h
  simp at e
  exact ⟨a, e, hw⟩
end

theorem list2 {α : Type} {l : List α} (h : l.length = 2) : ∃ a b, l = [a, b] := by
  match l, h with
  | [a, b], _ => exact ⟨a, b, rfl⟩

/-- integers that fit -/
def I64 (a : Int) : Prop := -9223372036854775808 ≤ a ∧ a ≤ 9223372036854775807

theorem i64_of_wf {a : Int} (h : (Lit.int .i64 a).wf = true) : I64 a := by
  simp [Lit.wf, IntKind.min, IntKind.max, IntKind.signed, IntKind.bits] at h
  unfold I64; omega

theorem list3 {α : Type} {l : List α} (h : l.length = 3) : ∃ a b c, l = [a, b, c] := by
  match l, h with
  | [a, b, c], _ => exact ⟨a, b, c, rfl⟩
end Go.Proofs.YtppbagllhmeenaaGreatDoor
