/- fixture.parameter. (printed by wip/gen/gen_param.py) The level of a named range. No walk in it. (printed by wip/gen/gen_named.py) strconv.Itoa over XText's world. The text of a library. No walk in it. (printed by wip/gen/gen_libtext.py) -/
import Derived.Test.YtppbagllhmeenaaGreatDoorT67M16
import Derived.Test.YtppbagllhmeenaaGreatDoorT67M19
import Derived.Test.YtppbagllhmeenaaGreatDoorT67M03
import Derived.Lib.AppendIntMem
import Derived.Lib.ItoaLen
import Derived.Test.YtppbagllhmeenaaGreatDoorT67M06

namespace Go.Proofs.YtppbagllhmeenaaGreatDoor
open Go.RowKit
set_option linter.unusedVariables false
set_option linter.unusedSimpArgs false

def hasPn (nm : List UInt8) (p : Par) : Bool := decide (p.nm = nm)
def parOf (l : List Par) (nm : List UInt8) : Option Par := l.find? (hasPn nm)
/-- the value of a parameter, or of none: its ranges' slice lies below block B -/
def ParR (B : Nat) (w : World) (o : Option Par) (v : Value) : Prop :=
  match o with
  | some p => ∃ rv, v = .agg #[.string p.name, .int .i64 p.grp, .int .i64 p.sl, .int .i64 p.fine, .int .i64 p.dflt, .bool p.snap, rv] ∧ RngS B w rv p.rngs
  | none => v = .agg #[.string ⟨#[]⟩, .int .i64 0, .int .i64 0, .int .i64 0, .int .i64 0, .bool false, .slice none 0 0]
theorem ParR.below {B : Nat} {w w' : World} {o : Option Par} {v : Value} (h : ParR B w o v) (hb : Below B w w') : ParR B w' o v := by
  cases o with
  | none => exact h
  | some p =>
    obtain ⟨pv, h1, h2⟩ := h
    exact ⟨pv, h1, h2.below hb⟩
theorem rngS_shape {B : Nat} {w : World} {v : Value} {l : List Rng} (h : RngS B w v l) : ∃ ao cap, v = .slice ao l.length cap := by
  obtain ⟨ao, cap, rfl, _⟩ := CellsS.shape h
  exact ⟨ao, cap, rfl⟩
theorem parR_shape {B : Nat} {w : World} {o : Option Par} {v : Value} (h : ParR B w o v) : ∃ qn qg qs qf qd qb qo ql qc, v = .agg #[.string qn, .int .i64 qg, .int .i64 qs, .int .i64 qf, .int .i64 qd, .bool qb, .slice qo ql qc] := by
  cases o with
  | none => exact ⟨_, _, _, _, _, _, _, _, _, h⟩
  | some p =>
    obtain ⟨pv, rfl, hp⟩ := h
    obtain ⟨ao, cap, rfl⟩ := rngS_shape hp
    exact ⟨_, _, _, _, _, _, _, _, _, rfl⟩
end Go.Proofs.YtppbagllhmeenaaGreatDoor

namespace Go.Proofs.YtppbagllhmeenaaGreatDoor
open Go.RowKit
set_option linter.unusedVariables false
set_option linter.unusedSimpArgs false

def hasRn (nm : List UInt8) (r : Rng) : Bool := decide (r.nm = nm)
/-- the range of a parameter, or of none, that has a name -/
def rngO (o : Option Par) (b : List UInt8) : Option Rng := match o with | some q => q.rngs.find? (hasRn b) | none => none
def midO (o : Option Rng) : Int × Int := match o with | some r => ((r.low + r.high) / 2, 0) | none => (0, 8)
/-- what Named answers -/
def namedV (p : Prf) (a b : ByteArray) : Int × Int := if chkPrf p = 0 then midO (rngO (parOf p.pars a.data.toList) b.data.toList) else (0, chkPrf p)
theorem namedV_ok {p : Prf} (h : chkPrf p = 0) (a b : ByteArray) : namedV p a b = midO (rngO (parOf p.pars a.data.toList) b.data.toList) := if_pos h
theorem namedV_bad {p : Prf} (h : ¬ chkPrf p = 0) (a b : ByteArray) : namedV p a b = (0, chkPrf p) := if_neg h
theorem parOf_mem {l : List Par} {n : List UInt8} {q : Par} (h : parOf l n = some q) : q ∈ l := List.mem_of_find?_eq_some h
theorem par_chk {p : Prf} (h : chkPrf p = 0) {q : Par} (hq : q ∈ p.pars) : nameB q.nm = true ∧ (1 ≤ q.grp ∧ q.grp ≤ 4) ∧ (0 ≤ q.fine ∧ q.fine ≤ 512) ∧ (0 ≤ q.dflt ∧ q.dflt ≤ 65535) ∧ (1 ≤ q.sl ∧ q.sl ≤ 512) ∧ chkRngs q.rngs = 0 := by
  obtain ⟨k, hk, rfl⟩ := List.getElem_of_mem hq
  obtain ⟨h1, h2, h3, h4, h5⟩ := chkPrf_zero h
  obtain ⟨g1, _, g3, g4, _, g6⟩ := parF_zero (scanF_zero _ _ h5 k hk)
  obtain ⟨b1, b2, b3⟩ := parBad_false g4
  exact ⟨g1, g3, ⟨b2.1, by omega⟩, b3, ⟨b1.1, by omega⟩, g6⟩
theorem rngF_zero {pre : List Rng} {r : Rng} (h : rngF pre r = 0) : (0 ≤ r.low ∧ r.low ≤ 65535) ∧ (0 ≤ r.high ∧ r.high ≤ 65535) ∧ nameB r.nm = true := by
  unfold rngF at h
  cases h1 : rngBad r
  · have h2 := h1
    simp only [rngBad, Bool.or_eq_false_iff, Bool.not_eq_false'] at h2
    refine ⟨inR_true h2.1.1, inR_true h2.1.2, ?_⟩
    cases h3 : rngLow pre r
    · cases h4 : nameB r.nm
      · rw [h1, h3, h4] at h; simp at h
      · rfl
    · rw [h1, h3] at h; simp at h
  · rw [h1] at h; simp at h
theorem rng_chk {l : List Rng} (h : chkRngs l = 0) : l.length ≤ 30 ∧ ∀ r ∈ l, (0 ≤ r.low ∧ r.low ≤ 65535) ∧ (0 ≤ r.high ∧ r.high ≤ 65535) ∧ nameB r.nm = true := by
  unfold chkRngs at h
  by_cases c : 30 < l.length
  · rw [if_pos c] at h; simp at h
  rw [if_neg c] at h
  refine ⟨by omega, fun r hr => ?_⟩
  obtain ⟨k, hk, rfl⟩ := List.getElem_of_mem hr
  exact rngF_zero (scanF_zero _ _ h k hk)
theorem rngO_fit {p : Prf} (h : chkPrf p = 0) {n b : List UInt8} {q : Par} (hq : parOf p.pars n = some q) : ∀ r ∈ q.rngs, (0 ≤ r.low ∧ r.low ≤ 65535) ∧ (0 ≤ r.high ∧ r.high ≤ 65535) := by
  intro r hr
  have h1 := (rng_chk (par_chk h (parOf_mem hq)).2.2.2.2.2).2 r hr
  exact ⟨h1.1, h1.2.1⟩
theorem rngO_some (q : Par) (b : List UInt8) : rngO (some q) b = q.rngs.find? (hasRn b) := rfl
theorem midO_some (r : Rng) : midO (some r) = ((r.low + r.high) / 2, 0) := rfl
theorem midO_none : midO none = (0, 8) := rfl
theorem tdiv2 {a : Int} (h : 0 ≤ a) : a.tdiv 2 = a / 2 := Int.tdiv_eq_ediv_of_nonneg h
end Go.Proofs.YtppbagllhmeenaaGreatDoor

namespace Go.Proofs.YtppbagllhmeenaaGreatDoor
open Go.RowKit
set_option linter.unusedVariables false
set_option linter.unusedSimpArgs false

/-- the numeral of a number -/
def itT (n : Int) : ByteArray := ⟨(Lib.itoa n).toArray⟩
theorem itT_le (n : Int) (h0 : -9223372036854775808 ≤ n) (h1 : n ≤ 9223372036854775807) : (itT n).size ≤ 21 := by
  have := Lib.itoa_length_le n h0 h1
  unfold itT
  rw [Lib.size_eq]
  simpa using this
theorem itoa_int (n : Int) (w : World) (h0 : -9223372036854775808 ≤ n) (h1 : n ≤ 9223372036854775807) (hT : TextW w) :
    Calls Tryz.prog 31 #[.int .i64 n] w fun e w' => e = .returned (.string (itT n)) ∧ Below w.heap.size w w' := by
  refine (Tryz.strconv_Itoa n h0 h1 w hT.pow).mono ?_
  rintro e w' ⟨rfl, k, os, rfl⟩
  exact ⟨rfl, Lib.below_grow _ w (Nat.le_refl _) k os⟩
end Go.Proofs.YtppbagllhmeenaaGreatDoor

namespace Go.Proofs.YtppbagllhmeenaaGreatDoor
open Go.RowKit
set_option linter.unusedVariables false
set_option linter.unusedSimpArgs false

/-- a range's line -/
noncomputable def rngT (r : Rng) : ByteArray := (((((⟨#[32, 32, 32, 32]⟩ : ByteArray) ++ showT r.low) ++ (⟨#[32]⟩ : ByteArray)) ++ showT r.high) ++ (⟨#[32]⟩ : ByteArray)) ++ r.name ++ (⟨#[10]⟩ : ByteArray)
/-- a parameter's first words -/
def parHd (x : Par) : ByteArray := (((((⟨#[32, 32]⟩ : ByteArray) ++ grpT x.grp) ++ (⟨#[32]⟩ : ByteArray)) ++ x.name) ++ (⟨#[32, 97, 116, 32]⟩ : ByteArray)) ++ itT x.sl
def fineA (x : Par) (s : ByteArray) : ByteArray := if 0 < x.fine then s ++ ((⟨#[32, 102, 105, 110, 101, 32]⟩ : ByteArray) ++ itT x.fine) else s
noncomputable def dfltA (x : Par) (s : ByteArray) : ByteArray := if 0 < x.dflt then s ++ ((⟨#[32, 100, 101, 102, 97, 117, 108, 116, 32]⟩ : ByteArray) ++ showT x.dflt) else s
def snapA (x : Par) (s : ByteArray) : ByteArray := if x.snap = true then s ++ (⟨#[32, 115, 110, 97, 112]⟩ : ByteArray) else s
def nlA (s : ByteArray) : ByteArray := s ++ (⟨#[10]⟩ : ByteArray)
noncomputable def rngA (s : ByteArray) (l : List Rng) : ByteArray := l.foldl (fun s r => s ++ rngT r) s
noncomputable def lineA (x : Par) (s : ByteArray) : ByteArray := nlA (snapA x (dfltA x (fineA x (s ++ parHd x))))
/-- a text, a parameter's behind it -/
noncomputable def parA (s : ByteArray) (x : Par) : ByteArray := rngA (lineA x s) x.rngs
noncomputable def parsA (s : ByteArray) (l : List Par) : ByteArray := l.foldl parA s
def prfHd (p : Prf) : ByteArray := ((((⟨#[112, 114, 111, 102, 105, 108, 101, 32]⟩ : ByteArray) ++ p.name) ++ (⟨#[32]⟩ : ByteArray)) ++ itT p.size) ++ (⟨#[10]⟩ : ByteArray)
noncomputable def prfA (s : ByteArray) (p : Prf) : ByteArray := parsA (s ++ prfHd p) p.pars
noncomputable def libB (l : List Prf) : ByteArray := l.foldl prfA ⟨#[]⟩
/-- the reference's text of a parameter -/
noncomputable def parT (x : Par) : ByteArray := rngA (nlA (snapA x (dfltA x (fineA x (parHd x))))) x.rngs
theorem fold_step {α β : Type} (f : β → α → β) (s : β) (l : List α) (k : Nat) (h : k < l.length) : (l.take (k + 1)).foldl f s = f ((l.take k).foldl f s) l[k] := by
  rw [List.take_succ_eq_append_getElem h, List.foldl_append]
  rfl
theorem rngA_take (s : ByteArray) (l : List Rng) (k : Nat) (h : k < l.length) : rngA s (l.take (k + 1)) = rngA s (l.take k) ++ rngT l[k] := fold_step _ s l k h
theorem parsA_take (s : ByteArray) (l : List Par) (k : Nat) (h : k < l.length) : parsA s (l.take (k + 1)) = parA (parsA s (l.take k)) l[k] := fold_step _ s l k h
theorem libB_take (l : List Prf) (k : Nat) (h : k < l.length) : libB (l.take (k + 1)) = prfA (libB (l.take k)) l[k] := fold_step _ _ l k h
theorem fineA_app (x : Par) (s t : ByteArray) : fineA x (s ++ t) = s ++ fineA x t := by unfold fineA; split <;> simp only [ByteArray.append_assoc]
theorem dfltA_app (x : Par) (s t : ByteArray) : dfltA x (s ++ t) = s ++ dfltA x t := by unfold dfltA; split <;> simp only [ByteArray.append_assoc]
theorem snapA_app (x : Par) (s t : ByteArray) : snapA x (s ++ t) = s ++ snapA x t := by unfold snapA; split <;> simp only [ByteArray.append_assoc]
theorem nlA_app (s t : ByteArray) : nlA (s ++ t) = s ++ nlA t := by unfold nlA; simp only [ByteArray.append_assoc]
theorem rngA_app (s : ByteArray) (l : List Rng) : ∀ t : ByteArray, rngA (s ++ t) l = s ++ rngA t l := by
  induction l with
  | nil => intro t; rfl
  | cons r l ih => intro t; show rngA ((s ++ t) ++ rngT r) l = s ++ rngA (t ++ rngT r) l; rw [ByteArray.append_assoc, ih]
theorem parA_eq (s : ByteArray) (x : Par) : parA s x = s ++ parT x := by
  unfold parA lineA parT
  rw [fineA_app, dfltA_app, snapA_app, nlA_app, rngA_app]
/-! ### how long the texts are -/
theorem nameB_le {b : ByteArray} (h : nameB b.data.toList = true) : b.size ≤ 20 := by
  unfold nameB at h
  simp only [Bool.and_eq_true, decide_eq_true_eq] at h
  have := h.1.1.2
  rwa [← Lib.size_eq] at this
/-- what is known of a right range, parameter, profile -/
structure RngOk (r : Rng) : Prop where
  lo : 0 ≤ r.low ∧ r.low ≤ 65535
  hi : 0 ≤ r.high ∧ r.high ≤ 65535
  nm : r.name.size ≤ 20
structure ParOk (x : Par) : Prop where
  nm : x.name.size ≤ 20
  grp : 1 ≤ x.grp ∧ x.grp ≤ 4
  fine : 0 ≤ x.fine ∧ x.fine ≤ 512
  dflt : 0 ≤ x.dflt ∧ x.dflt ≤ 65535
  sl : 1 ≤ x.sl ∧ x.sl ≤ 512
  len : x.rngs.length ≤ 30
  rngs : ∀ r ∈ x.rngs, RngOk r
structure PrfOk (p : Prf) : Prop where
  nm : p.name.size ≤ 20
  sz : 1 ≤ p.size ∧ p.size ≤ 512
  len : p.pars.length ≤ 40
  pars : ∀ x ∈ p.pars, ParOk x
structure LibOk (l : List Prf) : Prop where
  len : l.length ≤ 60
  prfs : ∀ p ∈ l, PrfOk p
theorem prfOk_of {p : Prf} (h : chkPrf p = 0) : PrfOk p := by
  obtain ⟨h1, h2, h3, h4, h5⟩ := chkPrf_zero h
  refine ⟨nameB_le h1, h2, h4, fun x hx => ?_⟩
  obtain ⟨g1, g2, g3, g4, g5, g6⟩ := par_chk h hx
  obtain ⟨r1, r2⟩ := rng_chk g6
  exact ⟨nameB_le g1, g2, g3, g4, g5, r1, fun r hr => ⟨(r2 r hr).1, (r2 r hr).2.1, nameB_le (r2 r hr).2.2⟩⟩
theorem libOk_of {l : List Prf} (h : chkLib l = 0) : LibOk l := ⟨(chkLib_zero h).1, fun p hp => prfOk_of (chkLib_prf h hp)⟩
theorem sz_1 (a : UInt8) : (⟨#[a]⟩ : ByteArray).size = 1 := rfl
theorem rngT_le {r : Rng} (h : RngOk r) : (rngT r).size ≤ 40 := by
  have a1 := showT_le r.low h.lo.1 h.lo.2
  have a2 := showT_le r.high h.hi.1 h.hi.2
  have a3 := h.nm
  have e1 : (⟨#[32, 32, 32, 32]⟩ : ByteArray).size = 4 := rfl
  have e2 : (⟨#[32]⟩ : ByteArray).size = 1 := rfl
  have e3 : (⟨#[10]⟩ : ByteArray).size = 1 := rfl
  unfold rngT
  simp only [ByteArray.size_append, e1, e2, e3]
  omega
theorem parHd_le {x : Par} (h : ParOk x) : (parHd x).size ≤ 60 := by
  have a1 := grpT_le x.grp
  have a2 := itT_le x.sl (by have := h.sl; omega) (by have := h.sl; omega)
  have a3 := h.nm
  have e1 : (⟨#[32, 32]⟩ : ByteArray).size = 2 := rfl
  have e2 : (⟨#[32]⟩ : ByteArray).size = 1 := rfl
  have e3 : (⟨#[32, 97, 116, 32]⟩ : ByteArray).size = 4 := rfl
  unfold parHd
  simp only [ByteArray.size_append, e1, e2, e3]
  omega
theorem fineA_le {x : Par} (h : ParOk x) (s : ByteArray) : (fineA x s).size ≤ s.size + 30 := by
  have a2 := itT_le x.fine (by have := h.fine; omega) (by have := h.fine; omega)
  have e1 : (⟨#[32, 102, 105, 110, 101, 32]⟩ : ByteArray).size = 6 := rfl
  unfold fineA
  split
  · simp only [ByteArray.size_append, e1]; omega
  · omega
theorem dfltA_le {x : Par} (h : ParOk x) (s : ByteArray) : (dfltA x s).size ≤ s.size + 20 := by
  have a2 := showT_le x.dflt h.dflt.1 h.dflt.2
  have e1 : (⟨#[32, 100, 101, 102, 97, 117, 108, 116, 32]⟩ : ByteArray).size = 9 := rfl
  unfold dfltA
  split
  · simp only [ByteArray.size_append, e1]; omega
  · omega
theorem snapA_le (x : Par) (s : ByteArray) : (snapA x s).size ≤ s.size + 5 := by
  have e1 : (⟨#[32, 115, 110, 97, 112]⟩ : ByteArray).size = 5 := rfl
  unfold snapA
  split
  · simp only [ByteArray.size_append, e1]; omega
  · omega
theorem nlA_le (s : ByteArray) : (nlA s).size ≤ s.size + 1 := by
  have e1 : (⟨#[10]⟩ : ByteArray).size = 1 := rfl
  unfold nlA
  simp only [ByteArray.size_append, e1]; omega
theorem lineA_le {x : Par} (h : ParOk x) (s : ByteArray) : (lineA x s).size ≤ s.size + 116 := by
  unfold lineA
  have h1 := parHd_le h
  have h2 := fineA_le h (s ++ parHd x)
  have h3 := dfltA_le h (fineA x (s ++ parHd x))
  have h4 := snapA_le x (dfltA x (fineA x (s ++ parHd x)))
  have h5 := nlA_le (snapA x (dfltA x (fineA x (s ++ parHd x))))
  rw [ByteArray.size_append] at h2
  omega
theorem rngA_le (s : ByteArray) (l : List Rng) (h : ∀ r ∈ l, RngOk r) : ∀ k, k ≤ l.length → (rngA s (l.take k)).size ≤ s.size + 40 * k := by
  intro k
  induction k with
  | zero => intro _; simp [rngA]
  | succ k ih =>
    intro hk
    rw [rngA_take s l k (by omega), ByteArray.size_append]
    have := ih (by omega)
    have := rngT_le (h _ (List.getElem_mem (show k < l.length by omega)))
    omega
theorem parA_le {x : Par} (h : ParOk x) (s : ByteArray) : (parA s x).size ≤ s.size + 1316 := by
  have h1 := lineA_le h s
  have h2 := rngA_le (lineA x s) x.rngs h.rngs x.rngs.length (Nat.le_refl _)
  rw [List.take_length] at h2
  have := h.len
  unfold parA
  omega
theorem parsA_le (s : ByteArray) (l : List Par) (h : ∀ x ∈ l, ParOk x) : ∀ k, k ≤ l.length → (parsA s (l.take k)).size ≤ s.size + 1316 * k := by
  intro k
  induction k with
  | zero => intro _; simp [parsA]
  | succ k ih =>
    intro hk
    rw [parsA_take s l k (by omega)]
    have h1 := ih (by omega)
    have h2 := parA_le (h _ (List.getElem_mem (show k < l.length by omega))) (parsA s (l.take k))
    rw [Nat.mul_succ, ← Nat.add_assoc]
    exact Nat.le_trans h2 (Nat.add_le_add_right h1 1316)
theorem prfHd_le {p : Prf} (h : PrfOk p) : (prfHd p).size ≤ 60 := by
  have a2 := itT_le p.size (by have := h.sz; omega) (by have := h.sz; omega)
  have a3 := h.nm
  have e1 : (⟨#[112, 114, 111, 102, 105, 108, 101, 32]⟩ : ByteArray).size = 8 := rfl
  have e2 : (⟨#[32]⟩ : ByteArray).size = 1 := rfl
  have e3 : (⟨#[10]⟩ : ByteArray).size = 1 := rfl
  unfold prfHd
  simp only [ByteArray.size_append, e1, e2, e3]
  omega
theorem prfA_le {p : Prf} (h : PrfOk p) (s : ByteArray) : (prfA s p).size ≤ s.size + 52700 := by
  have h1 := prfHd_le h
  have h2 := parsA_le (s ++ prfHd p) p.pars h.pars p.pars.length (Nat.le_refl _)
  rw [List.take_length, ByteArray.size_append] at h2
  have := h.len
  unfold prfA
  omega
theorem libB_le {l : List Prf} (h : LibOk l) : ∀ k, k ≤ l.length → (libB (l.take k)).size ≤ 52700 * k := by
  intro k
  induction k with
  | zero => intro _; exact Nat.zero_le _
  | succ k ih =>
    intro hk
    rw [libB_take l k (by omega)]
    have h1 := ih (by omega)
    have h2 := prfA_le (h.prfs _ (List.getElem_mem (show k < l.length by omega))) (libB (l.take k))
    rw [Nat.mul_succ]
    exact Nat.le_trans h2 (Nat.add_le_add_right h1 52700)
theorem parT_le {x : Par} (h : ParOk x) : (parT x).size ≤ 1316 := by
  have h1 := parA_le h ⟨#[]⟩
  rw [parA_eq, ByteArray.size_append] at h1
  have : (⟨#[]⟩ : ByteArray).size = 0 := rfl
  omega
/-- what Text answers -/
noncomputable def libT (l : List Prf) : ByteArray × Int := if chkLib l = 0 then (if 200000 < (libB l).size then (⟨#[]⟩, 2) else (libB l, 0)) else (⟨#[]⟩, chkLib l)
theorem libT_bad {l : List Prf} (h : ¬ chkLib l = 0) : libT l = (⟨#[]⟩, chkLib l) := if_neg h
theorem libT_long {l : List Prf} (h : chkLib l = 0) (h2 : 200000 < (libB l).size) : libT l = (⟨#[]⟩, 2) := by unfold libT; rw [if_pos h, if_pos h2]
theorem libT_ok {l : List Prf} (h : chkLib l = 0) (h2 : ¬ 200000 < (libB l).size) : libT l = (libB l, 0) := by unfold libT; rw [if_pos h, if_neg h2]
theorem cells_app (a b : ByteArray) : Lib.strCells (a ++ b) = Lib.strCells a ++ Lib.strCells b := by
  unfold Lib.strCells
  rw [ByteArray.data_append, Array.toList_append, List.map_append]
end Go.Proofs.YtppbagllhmeenaaGreatDoor
