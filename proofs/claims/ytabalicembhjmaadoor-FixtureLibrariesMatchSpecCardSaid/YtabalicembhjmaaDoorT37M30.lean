/- The text of a library. No walk in it. (printed by wip/gen/gen_libtext.py) -/
import Derived.Test.YtabalicembhjmaaDoorT37M07
import Derived.Test.YtabalicembhjmaaDoorT37M29

namespace Go.Proofs.YtabalicembhjmaaDoor
open Go.RowKit
set_option linter.unusedVariables false
set_option linter.unusedSimpArgs false

/-- a range's line -/
noncomputable def rngT (r : Rng) : ByteArray := (((((⟨#[32, 32, 32, 32]⟩ : ByteArray) ++ showT r.low) ++ (⟨#[32]⟩ : ByteArray)) ++ showT r.high) ++ (⟨#[32]⟩ : ByteArray)) ++ r.name ++ (⟨#[10]⟩ : ByteArray)
/-- a parameter's first words -/
def parHd (x : Par) : ByteArray := (((((⟨#[32, 32]⟩ : ByteArray) ++ grpT x.grp) ++ (⟨#[32]⟩ : ByteArray)) ++ x.name) ++ (⟨#[32, 97, 116, 32]⟩ : ByteArray)) ++ itT x.sl
def fineA (x : Par) (s : ByteArray) : ByteArray := if 0 < x.fine then s ++ ((⟨#[32, 102, 105, 110, 101, 32]⟩ : ByteArray) ++ itT x.fine) else s
noncomputable def dfltA (x : Par) (s : ByteArray) : ByteArray := if 0 < x.dflt then s ++ ((⟨#[32, 100, 101, 102, 97, 117, 108, 116, 32]⟩ : ByteArray) ++ showT x.dflt) else s
def snapA (x : Par) (s : ByteArray) : ByteArray := if x.snap = true then s ++ (⟨#[32, 115, 110, 97, 112]⟩ : ByteArray) else s
def nlA (s : ByteArray) : ByteArray := s ++ (⟨#[10]⟩ : ByteArray)
noncomputable def rngA (s : ByteArray) (l : List Rng) : ByteArray := l.foldl (fun s r => s ++ rngT r) s
noncomputable def lineA (x : Par) (s : ByteArray) : ByteArray := nlA (snapA x (dfltA x (fineA x (s ++ parHd x))))
/-- a text, a parameter's behind it -/
noncomputable def parA (s : ByteArray) (x : Par) : ByteArray := rngA (lineA x s) x.rngs
noncomputable def parsA (s : ByteArray) (l : List Par) : ByteArray := l.foldl parA s
def prfHd (p : Prf) : ByteArray := ((((⟨#[112, 114, 111, 102, 105, 108, 101, 32]⟩ : ByteArray) ++ p.name) ++ (⟨#[32]⟩ : ByteArray)) ++ itT p.size) ++ (⟨#[10]⟩ : ByteArray)
noncomputable def prfA (s : ByteArray) (p : Prf) : ByteArray := parsA (s ++ prfHd p) p.pars
noncomputable def libB (l : List Prf) : ByteArray := l.foldl prfA ⟨#[]⟩
/-- the reference's text of a parameter -/
noncomputable def parT (x : Par) : ByteArray := rngA (nlA (snapA x (dfltA x (fineA x (parHd x))))) x.rngs
theorem fold_step {α β : Type} (f : β → α → β) (s : β) (l : List α) (k : Nat) (h : k < l.length) : (l.take (k + 1)).foldl f s = f ((l.take k).foldl f s) l[k] := by
  rw [List.take_succ_eq_append_getElem h, List.foldl_append]
  rfl
theorem rngA_take (s : ByteArray) (l : List Rng) (k : Nat) (h : k < l.length) : rngA s (l.take (k + 1)) = rngA s (l.take k) ++ rngT l[k] := fold_step _ s l k h
theorem parsA_take (s : ByteArray) (l : List Par) (k : Nat) (h : k < l.length) : parsA s (l.take (k + 1)) = parA (parsA s (l.take k)) l[k] := fold_step _ s l k h
theorem libB_take (l : List Prf) (k : Nat) (h : k < l.length) : libB (l.take (k + 1)) = prfA (libB (l.take k)) l[k] := fold_step _ _ l k h
theorem fineA_app (x : Par) (s t : ByteArray) : fineA x (s ++ t) = s ++ fineA x t := by unfold fineA; split <;> simp only [ByteArray.append_assoc]
theorem dfltA_app (x : Par) (s t : ByteArray) : dfltA x (s ++ t) = s ++ dfltA x t := by unfold dfltA; split <;> simp only [ByteArray.append_assoc]
theorem snapA_app (x : Par) (s t : ByteArray) : snapA x (s ++ t) = s ++ snapA x t := by unfold snapA; split <;> simp only [ByteArray.append_assoc]
theorem nlA_app (s t : ByteArray) : nlA (s ++ t) = s ++ nlA t := by unfold nlA; simp only [ByteArray.append_assoc]
theorem rngA_app (s : ByteArray) (l : List Rng) : ∀ t : ByteArray, rngA (s ++ t) l = s ++ rngA t l := by
  induction l with
  | nil => intro t; rfl
  | cons r l ih => intro t; show rngA ((s ++ t) ++ rngT r) l = s ++ rngA (t ++ rngT r) l; rw [ByteArray.append_assoc, ih]
theorem parA_eq (s : ByteArray) (x : Par) : parA s x = s ++ parT x := by
  unfold parA lineA parT
  rw [fineA_app, dfltA_app, snapA_app, nlA_app, rngA_app]
/-! ### how long the texts are -/
theorem nameB_le {b : ByteArray} (h : nameB b.data.toList = true) : b.size ≤ 20 := by
  unfold nameB at h
  simp only [Bool.and_eq_true, decide_eq_true_eq] at h
  have := h.1.1.2
  rwa [← Lib.size_eq] at this
/-- what is known of a right range, parameter, profile -/
structure RngOk (r : Rng) : Prop where
  lo : 0 ≤ r.low ∧ r.low ≤ 65535
  hi : 0 ≤ r.high ∧ r.high ≤ 65535
  nm : r.name.size ≤ 20
structure ParOk (x : Par) : Prop where
  nm : x.name.size ≤ 20
  grp : 1 ≤ x.grp ∧ x.grp ≤ 4
  fine : 0 ≤ x.fine ∧ x.fine ≤ 512
  dflt : 0 ≤ x.dflt ∧ x.dflt ≤ 65535
  sl : 1 ≤ x.sl ∧ x.sl ≤ 512
  len : x.rngs.length ≤ 30
  rngs : ∀ r ∈ x.rngs, RngOk r
structure PrfOk (p : Prf) : Prop where
  nm : p.name.size ≤ 20
  sz : 1 ≤ p.size ∧ p.size ≤ 512
  len : p.pars.length ≤ 40
  pars : ∀ x ∈ p.pars, ParOk x
structure LibOk (l : List Prf) : Prop where
  len : l.length ≤ 60
  prfs : ∀ p ∈ l, PrfOk p
theorem prfOk_of {p : Prf} (h : chkPrf p = 0) : PrfOk p := by
  obtain ⟨h1, h2, h3, h4, h5⟩ := chkPrf_zero h
  refine ⟨nameB_le h1, h2, h4, fun x hx => ?_⟩
  obtain ⟨g1, g2, g3, g4, g5, g6⟩ := par_chk h hx
  obtain ⟨r1, r2⟩ := rng_chk g6
  exact ⟨nameB_le g1, g2, g3, g4, g5, r1, fun r hr => ⟨(r2 r hr).1, (r2 r hr).2.1, nameB_le (r2 r hr).2.2⟩⟩
theorem libOk_of {l : List Prf} (h : chkLib l = 0) : LibOk l := ⟨(chkLib_zero h).1, fun p hp => prfOk_of (chkLib_prf h hp)⟩
theorem sz_1 (a : UInt8) : (⟨#[a]⟩ : ByteArray).size = 1 := rfl
theorem rngT_le {r : Rng} (h : RngOk r) : (rngT r).size ≤ 40 := by
  have a1 := showT_le r.low h.lo.1 h.lo.2
  have a2 := showT_le r.high h.hi.1 h.hi.2
  have a3 := h.nm
  have e1 : (⟨#[32, 32, 32, 32]⟩ : ByteArray).size = 4 := rfl
  have e2 : (⟨#[32]⟩ : ByteArray).size = 1 := rfl
  have e3 : (⟨#[10]⟩ : ByteArray).size = 1 := rfl
  unfold rngT
  simp only [ByteArray.size_append, e1, e2, e3]
  omega
theorem parHd_le {x : Par} (h : ParOk x) : (parHd x).size ≤ 60 := by
  have a1 := grpT_le x.grp
  have a2 := itT_le x.sl (by have := h.sl; omega) (by have := h.sl; omega)
  have a3 := h.nm
  have e1 : (⟨#[32, 32]⟩ : ByteArray).size = 2 := rfl
  have e2 : (⟨#[32]⟩ : ByteArray).size = 1 := rfl
  have e3 : (⟨#[32, 97, 116, 32]⟩ : ByteArray).size = 4 := rfl
  unfold parHd
  simp only [ByteArray.size_append, e1, e2, e3]
  omega
theorem fineA_le {x : Par} (h : ParOk x) (s : ByteArray) : (fineA x s).size ≤ s.size + 30 := by
  have a2 := itT_le x.fine (by have := h.fine; omega) (by have := h.fine; omega)
  have e1 : (⟨#[32, 102, 105, 110, 101, 32]⟩ : ByteArray).size = 6 := rfl
  unfold fineA
  split
  · simp only [ByteArray.size_append, e1]; omega
  · omega
theorem dfltA_le {x : Par} (h : ParOk x) (s : ByteArray) : (dfltA x s).size ≤ s.size + 20 := by
  have a2 := showT_le x.dflt h.dflt.1 h.dflt.2
  have e1 : (⟨#[32, 100, 101, 102, 97, 117, 108, 116, 32]⟩ : ByteArray).size = 9 := rfl
  unfold dfltA
  split
  · simp only [ByteArray.size_append, e1]; omega
  · omega
theorem snapA_le (x : Par) (s : ByteArray) : (snapA x s).size ≤ s.size + 5 := by
  have e1 : (⟨#[32, 115, 110, 97, 112]⟩ : ByteArray).size = 5 := rfl
  unfold snapA
  split
  · simp only [ByteArray.size_append, e1]; omega
  · omega
theorem nlA_le (s : ByteArray) : (nlA s).size ≤ s.size + 1 := by
  have e1 : (⟨#[10]⟩ : ByteArray).size = 1 := rfl
  unfold nlA
  simp only [ByteArray.size_append, e1]; omega
theorem lineA_le {x : Par} (h : ParOk x) (s : ByteArray) : (lineA x s).size ≤ s.size + 116 := by
  unfold lineA
  have h1 := parHd_le h
  have h2 := fineA_le h (s ++ parHd x)
  have h3 := dfltA_le h (fineA x (s ++ parHd x))
  have h4 := snapA_le x (dfltA x (fineA x (s ++ parHd x)))
  have h5 := nlA_le (snapA x (dfltA x (fineA x (s ++ parHd x))))
  rw [ByteArray.size_append] at h2
  omega
theorem rngA_le (s : ByteArray) (l : List Rng) (h : ∀ r ∈ l, RngOk r) : ∀ k, k ≤ l.length → (rngA s (l.take k)).size ≤ s.size + 40 * k := by
  intro k
  induction k with
  | zero => intro _; simp [rngA]
  | succ k ih =>
    intro hk
    rw [rngA_take s l k (by omega), ByteArray.size_append]
    have := ih (by omega)
    have := rngT_le (h _ (List.getElem_mem (show k < l.length by omega)))
    omega
theorem parA_le {x : Par} (h : ParOk x) (s : ByteArray) : (parA s x).size ≤ s.size + 1316 := by
  have h1 := lineA_le h s
  have h2 := rngA_le (lineA x s) x.rngs h.rngs x.rngs.length (Nat.le_refl _)
  rw [List.take_length] at h2
  have := h.len
  unfold parA
  omega
theorem parsA_le (s : ByteArray) (l : List Par) (h : ∀ x ∈ l, ParOk x) : ∀ k, k ≤ l.length → (parsA s (l.take k)).size ≤ s.size + 1316 * k := by
  intro k
  induction k with
  | zero => intro _; simp [parsA]
  | succ k ih =>
    intro hk
    rw [parsA_take s l k (by omega)]
    have h1 := ih (by omega)
    have h2 := parA_le (h _ (List.getElem_mem (show k < l.length by omega))) (parsA s (l.take k))
    rw [Nat.mul_succ, ← Nat.add_assoc]
    exact Nat.le_trans h2 (Nat.add_le_add_right h1 1316)
theorem prfHd_le {p : Prf} (h : PrfOk p) : (prfHd p).size ≤ 60 := by
  have a2 := itT_le p.size (by have := h.sz; omega) (by have := h.sz; omega)
  have a3 := h.nm
  have e1 : (⟨#[112, 114, 111, 102, 105, 108, 101, 32]⟩ : ByteArray).size = 8 := rfl
  have e2 : (⟨#[32]⟩ : ByteArray).size = 1 := rfl
  have e3 : (⟨#[10]⟩ : ByteArray).size = 1 := rfl
  unfold prfHd
  simp only [ByteArray.size_append, e1, e2, e3]
  omega
theorem prfA_le {p : Prf} (h : PrfOk p) (s : ByteArray) : (prfA s p).size ≤ s.size + 52700 := by
  have h1 := prfHd_le h
  have h2 := parsA_le (s ++ prfHd p) p.pars h.pars p.pars.length (Nat.le_refl _)
  rw [List.take_length, ByteArray.size_append] at h2
  have := h.len
  unfold prfA
  omega
theorem libB_le {l : List Prf} (h : LibOk l) : ∀ k, k ≤ l.length → (libB (l.take k)).size ≤ 52700 * k := by
  intro k
  induction k with
  | zero => intro _; exact Nat.zero_le _
  | succ k ih =>
    intro hk
    rw [libB_take l k (by omega)]
    have h1 := ih (by omega)
    have h2 := prfA_le (h.prfs _ (List.getElem_mem (show k < l.length by omega))) (libB (l.take k))
    rw [Nat.mul_succ]
    exact Nat.le_trans h2 (Nat.add_le_add_right h1 52700)
theorem parT_le {x : Par} (h : ParOk x) : (parT x).size ≤ 1316 := by
  have h1 := parA_le h ⟨#[]⟩
  rw [parA_eq, ByteArray.size_append] at h1
  have : (⟨#[]⟩ : ByteArray).size = 0 := rfl
  omega
/-- what Text answers -/
noncomputable def libT (l : List Prf) : ByteArray × Int := if chkLib l = 0 then (if 200000 < (libB l).size then (⟨#[]⟩, 2) else (libB l, 0)) else (⟨#[]⟩, chkLib l)
theorem libT_bad {l : List Prf} (h : ¬ chkLib l = 0) : libT l = (⟨#[]⟩, chkLib l) := if_neg h
theorem libT_long {l : List Prf} (h : chkLib l = 0) (h2 : 200000 < (libB l).size) : libT l = (⟨#[]⟩, 2) := by unfold libT; rw [if_pos h, if_pos h2]
theorem libT_ok {l : List Prf} (h : chkLib l = 0) (h2 : ¬ 200000 < (libB l).size) : libT l = (libB l, 0) := by unfold libT; rw [if_pos h, if_neg h2]
theorem cells_app (a b : ByteArray) : Lib.strCells (a ++ b) = Lib.strCells a ++ Lib.strCells b := by
  unfold Lib.strCells
  rw [ByteArray.data_append, Array.toList_append, List.map_append]
end Go.Proofs.YtabalicembhjmaaDoor
