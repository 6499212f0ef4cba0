/- The first free place. No walk in it. (printed by wip/gen/gen_room.py) A unit more, a unit less: what the rig is then; a rig with a further unit is right, and the same without it again. No walk in it. -/
import Derived.Test.YtabalicembhjmaaT45M18
import Derived.Test.YtabalicembhjmaaT45M12
import Derived.Test.YtabalicembhjmaaT45M13

namespace Go.Proofs.Ytabalicembhjmaa
open Go.RowKit
set_option linter.unusedVariables false
set_option linter.unusedSimpArgs false

def freeAt (us : List (Unt × Int)) (U a s : Int) : Bool := freeN (usedB us U) a s.toNat
def roomA (us : List (Unt × Int)) (U s : Int) : Nat → Int → Option Int
  | 0, _ => none
  | f + 1, a => if a + s - 1 ≤ 512 then (if freeAt us U a s then some a else roomA us U s f (a + 1)) else none
def roomRA (us : List (Unt × Int)) (U s a : Int) : Option Int := roomA us U s (513 - a).toNat a
def roomN (us : List (Unt × Int)) (s : Int) : Nat → Int → Option (Int × Int)
  | 0, _ => none
  | f + 1, n => match roomRA us n s 1 with
    | some a => some (n, a)
    | none => roomN us s f (n + 1)
def roomRN (us : List (Unt × Int)) (s n : Int) : Option (Int × Int) := roomN us s (65 - n).toNat n
def roomO (us : List (Unt × Int)) (s : Int) : Option (Int × Int) := roomRN us s 1
theorem roomRA_yes {us : List (Unt × Int)} {U s a : Int} (h1 : 1 ≤ s) (h2 : a + s - 1 ≤ 512) (hf : freeAt us U a s = true) : roomRA us U s a = some a := by
  unfold roomRA
  obtain ⟨f, hF⟩ : ∃ f, (513 - a).toNat = f + 1 := ⟨(513 - a).toNat - 1, by omega⟩
  rw [hF]
  simp [roomA, h2, hf]
theorem roomRA_no {us : List (Unt × Int)} {U s a : Int} (h1 : 1 ≤ s) (h2 : a + s - 1 ≤ 512) (hf : freeAt us U a s = false) : roomRA us U s a = roomRA us U s (a + 1) := by
  unfold roomRA
  obtain ⟨f, hF⟩ : ∃ f, (513 - a).toNat = f + 1 := ⟨(513 - a).toNat - 1, by omega⟩
  have hG : (513 - (a + 1)).toNat = f := by omega
  rw [hF, hG]
  simp [roomA, h2, hf]
theorem roomRA_end {us : List (Unt × Int)} {U s a : Int} (h2 : ¬ a + s - 1 ≤ 512) : roomRA us U s a = none := by
  unfold roomRA
  cases (513 - a).toNat with
  | zero => rfl
  | succ f => simp only [roomA, if_neg h2]
theorem roomRN_yes {us : List (Unt × Int)} {s n a : Int} (hn : n ≤ 64) (h : roomRA us n s 1 = some a) : roomRN us s n = some (n, a) := by
  unfold roomRN
  obtain ⟨f, hF⟩ : ∃ f, (65 - n).toNat = f + 1 := ⟨(65 - n).toNat - 1, by omega⟩
  rw [hF]
  simp only [roomN, h]
theorem roomRN_no {us : List (Unt × Int)} {s n : Int} (hn : n ≤ 64) (h : roomRA us n s 1 = none) : roomRN us s n = roomRN us s (n + 1) := by
  unfold roomRN
  obtain ⟨f, hF⟩ : ∃ f, (65 - n).toNat = f + 1 := ⟨(65 - n).toNat - 1, by omega⟩
  have hG : (65 - (n + 1)).toNat = f := by omega
  rw [hF, hG]
  simp only [roomN, h]
theorem roomRN_end {us : List (Unt × Int)} {s n : Int} (hn : 64 < n) : roomRN us s n = none := by
  unfold roomRN
  have hG : (65 - n).toNat = 0 := by omega
  rw [hG]; rfl
theorem freeAt_none {us : List (Unt × Int)} {U a s : Int} (h : ∀ x ∈ us, x.1.univ ≠ U) (hs : 0 ≤ s) (h2 : a + s - 1 ≤ 512) : freeAt us U a s = true := by
  unfold freeAt
  rw [freeN_iff]
  intro k h3 h4
  exact ⟨by omega, usedB_none us U k h⟩
/-- the used slots of a rig, without a unit -/
def usBut (x : Rig) (n : Int) : List (Unt × Int) := usOf x.lib (x.units.filter (fun u => decide (u.num ≠ n)))
end Go.Proofs.Ytabalicembhjmaa

namespace Go.Proofs.Ytabalicembhjmaa
open Go.RowKit
set_option linter.unusedVariables false
set_option linter.unusedSimpArgs false

def insU (l : List Unt) (p : Nat) (u : Unt) : List Unt := l.take p ++ u :: l.drop p
def delU (l : List Unt) (p : Nat) : List Unt := l.take p ++ l.drop (p + 1)
def noRig : Rig := ⟨[], []⟩
def placeF (x : Rig) (nm : ByteArray) (n : Int) : Int :=
  if chkRig x ≠ 0 then chkRig x else match profOf x.lib nm.data.toList with
    | none => 5
    | some p => if !inR n 1 9999 then 1 else if hasU x.units n then 6 else if x.units.length = 400 then 2 else if (roomO (usBut x 0) p.size).isNone then 13 else 0
def placeR (x : Rig) (nm : ByteArray) (n : Int) : Rig :=
  if placeF x nm n = 0 then match profOf x.lib nm.data.toList with
    | none => noRig
    | some p => match roomO (usBut x 0) p.size with
      | none => noRig
      | some r => ⟨x.lib, insU x.units (posU x.units n) ⟨n, nm, r.1, r.2⟩⟩
  else noRig
def remF (x : Rig) (n : Int) : Int := if chkRig x ≠ 0 then chkRig x else if hasU x.units n then 0 else 8
def remR (x : Rig) (n : Int) : Rig := if remF x n = 0 then ⟨x.lib, delU x.units (posU x.units n)⟩ else noRig
theorem placeF_bad {x : Rig} {nm : ByteArray} {n : Int} (h : ¬ chkRig x = 0) : placeF x nm n = chkRig x := by unfold placeF; rw [if_pos h]
theorem placeF_name {x : Rig} {nm : ByteArray} {n : Int} (h : chkRig x = 0) (hp : profOf x.lib nm.data.toList = none) : placeF x nm n = 5 := by
  unfold placeF; rw [if_neg (by simpa using h), hp]
theorem placeF_some {x : Rig} {nm : ByteArray} {n : Int} {p : Prf} (h : chkRig x = 0) (hp : profOf x.lib nm.data.toList = some p) :
    placeF x nm n = if !inR n 1 9999 then 1 else if hasU x.units n then 6 else if x.units.length = 400 then 2 else if (roomO (usBut x 0) p.size).isNone then 13 else 0 := by
  unfold placeF; rw [if_neg (by simpa using h), hp]
theorem placeR_bad {x : Rig} {nm : ByteArray} {n : Int} (h : ¬ placeF x nm n = 0) : placeR x nm n = noRig := by unfold placeR; rw [if_neg h]
theorem placeR_some {x : Rig} {nm : ByteArray} {n : Int} {p : Prf} {r : Int × Int} (h : placeF x nm n = 0) (hp : profOf x.lib nm.data.toList = some p) (hr : roomO (usBut x 0) p.size = some r) :
    placeR x nm n = ⟨x.lib, insU x.units (posU x.units n) ⟨n, nm, r.1, r.2⟩⟩ := by
  unfold placeR
  rw [if_pos h, hp]
  simp only
  rw [hr]
theorem placeF_zero {x : Rig} {nm : ByteArray} {n : Int} (h : placeF x nm n = 0) : chkRig x = 0 ∧ ∃ p r, profOf x.lib nm.data.toList = some p ∧ (1 ≤ n ∧ n ≤ 9999) ∧ hasU x.units n = false ∧ x.units.length ≠ 400 ∧ roomO (usBut x 0) p.size = some r := by
  by_cases h1 : chkRig x = 0
  · refine ⟨h1, ?_⟩
    cases hp : profOf x.lib nm.data.toList with
    | none => rw [placeF_name h1 hp] at h; cases h
    | some p =>
      rw [placeF_some h1 hp] at h
      cases h2 : inR n 1 9999
      · simp [h2] at h
      cases h3 : hasU x.units n
      rotate_left
      · simp [h2, h3] at h
      by_cases h4 : x.units.length = 400
      · rw [h2, h3, if_pos h4] at h; simp at h
      cases h5 : roomO (usBut x 0) p.size with
      | none => rw [h2, h3, if_neg h4, h5] at h; simp at h
      | some r => exact ⟨p, r, rfl, inR_true h2, rfl, h4, h5⟩
  · rw [placeF_bad h1] at h; exact absurd h h1
theorem remF_bad {x : Rig} {n : Int} (h : ¬ chkRig x = 0) : remF x n = chkRig x := by unfold remF; rw [if_pos h]
theorem remF_no {x : Rig} {n : Int} (h : chkRig x = 0) (k : hasU x.units n = false) : remF x n = 8 := by unfold remF; rw [if_neg (by simpa using h), k]; rfl
theorem remF_yes {x : Rig} {n : Int} (h : chkRig x = 0) (k : hasU x.units n = true) : remF x n = 0 := by unfold remF; rw [if_neg (by simpa using h), k]; rfl
theorem remR_bad {x : Rig} {n : Int} (h : ¬ remF x n = 0) : remR x n = noRig := by unfold remR; rw [if_neg h]
theorem remR_yes {x : Rig} {n : Int} (h : remF x n = 0) : remR x n = ⟨x.lib, delU x.units (posU x.units n)⟩ := by unfold remR; rw [if_pos h]

/-! ### right rigs -/
def OkU (lib : List Prf) (u : Unt) : Prop := (1 ≤ u.num ∧ u.num ≤ 9999) ∧ ∃ p, profOf lib u.nm = some p ∧ untBad u p.size = false
theorem scanF_all {α : Type} (f : List α → α → Int) (l : List α) (h : ∀ k (hk : k < l.length), f (l.take k) l[k] = 0) : scanF f l 0 = 0 := by
  have key : ∀ d k, k + d = l.length → scanF f l k = 0 := by
    intro d
    induction d with
    | zero => intro k hk; exact scanF_end f l k (by omega)
    | succ d ih => intro k hk; rw [scanF_good f l k (by omega) (h k (by omega))]; exact ih (k + 1) (by omega)
  exact key l.length 0 (by omega)
theorem clashU_comm (lib : List Prf) (u x : Unt) : clashU lib u x = clashU lib x u := by
  unfold clashU
  rw [Bool.eq_iff_iff]
  simp only [Bool.and_eq_true, decide_eq_true_eq]
  constructor
  · rintro ⟨⟨a, b⟩, c⟩; exact ⟨⟨a.symm, c⟩, b⟩
  · rintro ⟨⟨a, b⟩, c⟩; exact ⟨⟨a.symm, c⟩, b⟩
theorem untF_ok {lib : List Prf} {pre : List Unt} {u : Unt} (h : OkU lib u) (hl : untLow pre u = false) (hc : pre.any (clashU lib u) = false) : untF lib pre u = 0 := by
  obtain ⟨h1, p, hp, hb⟩ := h
  have e1 : inR u.num 1 9999 = true := decide_eq_true h1
  have e2 : sizeOf' lib u = p.size := by simp [sizeOf', hp]
  unfold untF
  rw [e1, hl, hp, e2, hb, hc]
  simp
def RightU (lib : List Prf) (l : List Unt) : Prop := (∀ u ∈ l, OkU lib u) ∧ l.Pairwise (fun x u => x.num < u.num ∧ clashU lib u x = false)
theorem chkRig_iff (r : Rig) : chkRig r = 0 ↔ chkLib r.lib = 0 ∧ r.units.length ≤ 400 ∧ RightU r.lib r.units := by
  constructor
  · intro h
    obtain ⟨h1, h2, h3⟩ := chkRig_zero h
    have hz := fun k (hk : k < r.units.length) => untF_zero (scanF_zero _ _ h3 k hk)
    refine ⟨h1, h2, fun u hu => ?_, List.pairwise_iff_getElem.2 fun i j hi hj hij => ⟨asc_units h i j hi hj hij, ?_⟩⟩
    · obtain ⟨k, hk, rfl⟩ := List.getElem_of_mem hu
      exact ⟨(hz k hk).1, (hz k hk).2.2.1⟩
    · have := List.any_eq_false.1 (hz j hj).2.2.2 r.units[i] (List.mem_take_iff_getElem.2 ⟨i, by omega, rfl⟩)
      simpa using this
  · rintro ⟨h1, h2, h3, h4⟩
    have hp := List.pairwise_iff_getElem.1 h4
    unfold chkRig
    rw [if_neg (by simpa using h1), if_neg (by omega)]
    refine scanF_all _ _ fun k hk => untF_ok (h3 _ (List.getElem_mem hk)) ?_ ?_
    · unfold untLow
      by_cases h0 : k = 0
      · subst h0; simp
      · rw [last_take r.units k hk (by omega)]
        have := (hp (k - 1) k (by omega) hk (by omega)).1
        simp
        exact this
    · rw [List.any_eq_false]
      intro x hx
      obtain ⟨i, hi, rfl⟩ := List.mem_take_iff_getElem.1 hx
      have := (hp i k (by omega) hk (by omega)).2
      simpa using this

/-! ### a place that room gives -/
theorem roomA_spec {us : List (Unt × Int)} {U s : Int} : ∀ (f : Nat) (a0 a : Int), roomA us U s f a0 = some a → a0 ≤ a ∧ a + s - 1 ≤ 512 ∧ freeAt us U a s = true
  | 0, _, _, h => by simp [roomA] at h
  | f + 1, a0, a, h => by
    unfold roomA at h
    by_cases c : a0 + s - 1 ≤ 512
    · rw [if_pos c] at h
      by_cases d : freeAt us U a0 s = true
      · rw [if_pos d] at h
        cases h
        exact ⟨Int.le_refl _, c, d⟩
      · rw [if_neg d] at h
        obtain ⟨h1, h2⟩ := roomA_spec f _ _ h
        exact ⟨by omega, h2⟩
    · rw [if_neg c] at h; cases h
theorem roomN_spec {us : List (Unt × Int)} {s : Int} : ∀ (f : Nat) (n0 : Int) (r : Int × Int), roomN us s f n0 = some r → n0 ≤ r.1 ∧ r.1 < n0 + f ∧ 1 ≤ r.2 ∧ r.2 + s - 1 ≤ 512 ∧ freeAt us r.1 r.2 s = true
  | 0, _, _, h => by simp [roomN] at h
  | f + 1, n0, r, h => by
    unfold roomN at h
    cases c : roomRA us n0 s 1 with
    | some a =>
      rw [c] at h
      cases h
      obtain ⟨h1, h2, h3⟩ := roomA_spec _ _ _ c
      exact ⟨Int.le_refl _, by simp only; omega, h1, h2, h3⟩
    | none =>
      rw [c] at h
      obtain ⟨h1, h2, h3⟩ := roomN_spec f _ _ h
      exact ⟨by omega, by omega, h3⟩
theorem room_spec {us : List (Unt × Int)} {s : Int} {r : Int × Int} (h : roomO us s = some r) : (1 ≤ r.1 ∧ r.1 ≤ 64) ∧ 1 ≤ r.2 ∧ r.2 + s - 1 ≤ 512 ∧ freeAt us r.1 r.2 s = true := by
  obtain ⟨h1, h2, h3⟩ := roomN_spec _ _ _ h
  exact ⟨⟨h1, by have h2' : r.1 < 1 + ((64 : Nat) : Int) := h2; omega⟩, h3⟩
theorem usBut_zero {x : Rig} (h : chkRig x = 0) : usBut x 0 = usOf x.lib x.units := by
  unfold usBut
  congr 1
  refine List.filter_eq_self.2 fun u hu => ?_
  have := (num_range h hu).1
  simp; omega

/-! ### a unit more -/
theorem pos_take {l : List Unt} (n : Int) {u : Unt} (hu : u ∈ l.take (posU l n)) : u.num < n := by
  obtain ⟨i, hi, rfl⟩ := List.mem_take_iff_getElem.1 hu
  exact posU_lt n l i (by omega) (by omega)
theorem pos_drop {l : List Unt} (h : AscU l) {n : Int} (hn : hasU l n = false) {u : Unt} (hu : u ∈ l.drop (posU l n)) : n < u.num := by
  obtain ⟨i, hi, rfl⟩ := List.getElem_of_mem hu
  rw [List.length_drop] at hi
  rw [List.getElem_drop]
  have h1 := posU_ge h n (posU l n + i) (by omega) (by omega)
  have h2 : (l[posU l n + i]'(by omega)).num ≠ n := by
    intro e
    have : hasU l n = true := List.any_eq_true.2 ⟨l[posU l n + i]'(by omega), List.getElem_mem _, by simpa using e⟩
    rw [this] at hn; cases hn
  omega
theorem insU_len (l : List Unt) {p : Nat} (hp : p ≤ l.length) (u : Unt) : (insU l p u).length = l.length + 1 := by
  unfold insU
  simp
  omega
theorem place_right {x : Rig} {nm : ByteArray} {n : Int} (h : placeF x nm n = 0) : chkRig (placeR x nm n) = 0 := by
  obtain ⟨h1, p, r, hp, hn, hh, h4, hr⟩ := placeF_zero h
  rw [placeR_some h hp hr]
  obtain ⟨k1, k2, k3, k4⟩ := (chkRig_iff x).1 h1
  obtain ⟨r1, r2, r3, r4⟩ := room_spec hr
  have hok : OkU x.lib ⟨n, nm, r.1, r.2⟩ := by
    refine ⟨hn, p, hp, ?_⟩
    have hs := size_pos k1 (u := ⟨n, nm, r.1, r.2⟩) hp
    unfold untBad
    have e1 : inR r.1 1 64 = true := decide_eq_true r1
    have e2 : inR r.2 1 512 = true := decide_eq_true ⟨r2, by omega⟩
    rw [e1, e2]
    simp
    omega
  obtain ⟨_, p', hp', hb'⟩ := hok
  obtain rfl : p' = p := by rw [show (⟨n, nm, r.1, r.2⟩ : Unt).nm = nm.data.toList from rfl, hp] at hp'; exact (Option.some.inj hp').symm
  have hok : OkU x.lib ⟨n, nm, r.1, r.2⟩ := ⟨hn, p', hp', hb'⟩
  have hcl : x.units.any (clashU x.lib ⟨n, nm, r.1, r.2⟩) = false := by
    rw [clash_free k1 x.units (fun u hu => by obtain ⟨_, q, hq, _⟩ := k3 u hu; exact ⟨q, hq⟩) ⟨n, nm, r.1, r.2⟩ p' hp' hb']
    rw [usBut_zero h1] at r4
    unfold freeAt at r4
    simp only
    rw [r4]; rfl
  have hc := List.any_eq_false.1 hcl
  rw [chkRig_iff]
  refine ⟨k1, by rw [insU_len _ (posU_le _ _)]; omega, ?_, ?_⟩
  · intro u hu
    rcases List.mem_append.1 hu with h' | h'
    · exact k3 u (List.mem_of_mem_take h')
    · rcases List.mem_cons.1 h' with rfl | h'
      · exact hok
      · exact k3 u (List.mem_of_mem_drop h')
  · show (insU x.units (posU x.units n) ⟨n, nm, r.1, r.2⟩).Pairwise _
    have hk := k4
    rw [← List.take_append_drop (posU x.units n) x.units] at hk
    obtain ⟨q1, q2, q3⟩ := List.pairwise_append.1 hk
    unfold insU
    refine List.pairwise_append.2 ⟨q1, List.pairwise_cons.2 ⟨fun y hy => ⟨pos_drop (asc_units h1) hh hy, ?_⟩, q2⟩, fun y hy z hz => ?_⟩
    · rw [clashU_comm]
      simpa using hc y (List.mem_of_mem_drop hy)
    · rcases List.mem_cons.1 hz with rfl | h'
      · exact ⟨pos_take n hy, by simpa using hc y (List.mem_of_mem_take hy)⟩
      · exact q3 y hy z h'
theorem takeWhile_all {α : Type} (p : α → Bool) : ∀ (l : List α), (∀ v ∈ l, p v = true) → l.takeWhile p = l
  | [], _ => rfl
  | a :: l, h => by rw [List.takeWhile_cons, if_pos (h a (by simp)), takeWhile_all p l (fun v hv => h v (by simp [hv]))]
theorem posU_ins (l : List Unt) (u : Unt) : posU (insU l (posU l u.num) u) u.num = posU l u.num := by
  have h1 : (l.take (posU l u.num)).takeWhile (fun v => decide (v.num < u.num)) = l.take (posU l u.num) := takeWhile_all _ _ fun v hv => by simpa using pos_take u.num hv
  have h2 : ∀ (a b : List Unt) (q : Unt → Bool), a.takeWhile q = a → (a ++ u :: b).takeWhile q = a ++ (u :: b).takeWhile q := by
    intro a b q
    induction a with
    | nil => intro _; rfl
    | cons c a ih =>
      intro h
      rw [List.takeWhile_cons] at h
      by_cases hc : q c = true
      · rw [if_pos hc] at h
        rw [List.cons_append, List.takeWhile_cons, if_pos hc, ih (List.cons.inj h).2, List.cons_append]
      · rw [if_neg hc] at h; cases h
  show ((insU l (posU l u.num) u).takeWhile (fun v => decide (v.num < u.num))).length = _
  unfold insU
  rw [h2 _ _ _ h1, List.takeWhile_cons, if_neg (by simp), List.append_nil, List.length_take]
  have := posU_le l u.num
  omega
theorem hasU_ins (l : List Unt) (p : Nat) (u : Unt) : hasU (insU l p u) u.num = true := List.any_eq_true.2 ⟨u, by simp [insU], by simp⟩
theorem del_ins (l : List Unt) (p : Nat) (hp : p ≤ l.length) (u : Unt) : delU (insU l p u) p = l := by
  unfold delU insU
  have h1 : (l.take p).length = p := by rw [List.length_take]; omega
  rw [List.take_append_of_le_length (by omega), List.take_take, Nat.min_self, List.drop_append, h1, List.drop_of_length_le (by omega), show p + 1 - p = 1 by omega]
  simp
theorem taken_back {x : Rig} {nm : ByteArray} {n : Int} (h : placeF x nm n = 0) : remF (placeR x nm n) n = 0 ∧ remR (placeR x nm n) n = x ∧ (placeR x nm n).units.length = x.units.length + 1 := by
  have h0 := place_right h
  obtain ⟨h1, p, r, hp, hn, hh, h4, hr⟩ := placeF_zero h
  rw [placeR_some h hp hr] at h0 ⊢
  have hf : remF ⟨x.lib, insU x.units (posU x.units n) ⟨n, nm, r.1, r.2⟩⟩ n = 0 := remF_yes h0 (hasU_ins _ _ ⟨n, nm, r.1, r.2⟩)
  refine ⟨hf, ?_, insU_len _ (posU_le _ _) _⟩
  rw [remR_yes hf]
  simp only
  rw [posU_ins x.units ⟨n, nm, r.1, r.2⟩, del_ins _ _ (posU_le _ _)]
/-- and it fits -/
theorem place_fit {x : Rig} (hf : RigFit x) {nm : ByteArray} (hnm : nm.size ≤ maxLen) {n : Int} (h : placeF x nm n = 0) : RigFit (placeR x nm n) := by
  obtain ⟨h1, p, r, hp, hn, hh, h4, hr⟩ := placeF_zero h
  rw [placeR_some h hp hr]
  obtain ⟨r1, r2, r3, r4⟩ := room_spec hr
  have hs := size_pos ((chkRig_iff x).1 h1).1 (u := ⟨n, nm, r.1, r.2⟩) hp
  refine ⟨hf.1, fun u hu => ?_⟩
  rcases List.mem_append.1 hu with h' | h'
  · exact hf.2 u (List.mem_of_mem_take h')
  · rcases List.mem_cons.1 h' with rfl | h'
    · refine ⟨?_, ?_, ?_, hnm⟩ <;> unfold I64 <;> simp only <;> omega
    · exact hf.2 u (List.mem_of_mem_drop h')
end Go.Proofs.Ytabalicembhjmaa
