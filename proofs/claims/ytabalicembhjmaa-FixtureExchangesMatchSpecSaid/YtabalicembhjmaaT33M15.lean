/- A unit more, a unit less: what the rig is then; a rig with a further unit is right, and the same without it again. No walk in it. Keys, settings as arguments. Frames of bytes, the settings that they have: plain data, rows of cells. No walk in it. (printed by wip/gen/gen_set.py) A stretch of slots is free: as marks and as no unit that meets it. No walk in it. (printed by wip/gen/gen_rfits.py) -/
import Derived.Test.YtabalicembhjmaaT33M14
import Derived.Test.YtabalicembhjmaaT33M05
import Derived.Test.YtabalicembhjmaaT33M04

namespace Go.Proofs.Ytabalicembhjmaa
open Go.RowKit
set_option linter.unusedVariables false
set_option linter.unusedSimpArgs false

def insU (l : List Unt) (p : Nat) (u : Unt) : List Unt := l.take p ++ u :: l.drop p
def delU (l : List Unt) (p : Nat) : List Unt := l.take p ++ l.drop (p + 1)
def noRig : Rig := ⟨[], []⟩
def placeF (x : Rig) (nm : ByteArray) (n : Int) : Int :=
  if chkRig x ≠ 0 then chkRig x else match profOf x.lib nm.data.toList with
    | none => 5
    | some p => if !inR n 1 9999 then 1 else if hasU x.units n then 6 else if x.units.length = 400 then 2 else if (roomO (usBut x 0) p.size).isNone then 13 else 0
def placeR (x : Rig) (nm : ByteArray) (n : Int) : Rig :=
  if placeF x nm n = 0 then match profOf x.lib nm.data.toList with
    | none => noRig
    | some p => match roomO (usBut x 0) p.size with
      | none => noRig
      | some r => ⟨x.lib, insU x.units (posU x.units n) ⟨n, nm, r.1, r.2⟩⟩
  else noRig
def remF (x : Rig) (n : Int) : Int := if chkRig x ≠ 0 then chkRig x else if hasU x.units n then 0 else 8
def remR (x : Rig) (n : Int) : Rig := if remF x n = 0 then ⟨x.lib, delU x.units (posU x.units n)⟩ else noRig
theorem placeF_bad {x : Rig} {nm : ByteArray} {n : Int} (h : ¬ chkRig x = 0) : placeF x nm n = chkRig x := by unfold placeF; rw [if_pos h]
theorem placeF_name {x : Rig} {nm : ByteArray} {n : Int} (h : chkRig x = 0) (hp : profOf x.lib nm.data.toList = none) : placeF x nm n = 5 := by
  unfold placeF; rw [if_neg (by simpa using h), hp]
theorem placeF_some {x : Rig} {nm : ByteArray} {n : Int} {p : Prf} (h : chkRig x = 0) (hp : profOf x.lib nm.data.toList = some p) :
    placeF x nm n = if !inR n 1 9999 then 1 else if hasU x.units n then 6 else if x.units.length = 400 then 2 else if (roomO (usBut x 0) p.size).isNone then 13 else 0 := by
  unfold placeF; rw [if_neg (by simpa using h), hp]
theorem placeR_bad {x : Rig} {nm : ByteArray} {n : Int} (h : ¬ placeF x nm n = 0) : placeR x nm n = noRig := by unfold placeR; rw [if_neg h]
theorem placeR_some {x : Rig} {nm : ByteArray} {n : Int} {p : Prf} {r : Int × Int} (h : placeF x nm n = 0) (hp : profOf x.lib nm.data.toList = some p) (hr : roomO (usBut x 0) p.size = some r) :
    placeR x nm n = ⟨x.lib, insU x.units (posU x.units n) ⟨n, nm, r.1, r.2⟩⟩ := by
  unfold placeR
  rw [if_pos h, hp]
  simp only
  rw [hr]
theorem placeF_zero {x : Rig} {nm : ByteArray} {n : Int} (h : placeF x nm n = 0) : chkRig x = 0 ∧ ∃ p r, profOf x.lib nm.data.toList = some p ∧ (1 ≤ n ∧ n ≤ 9999) ∧ hasU x.units n = false ∧ x.units.length ≠ 400 ∧ roomO (usBut x 0) p.size = some r := by
  by_cases h1 : chkRig x = 0
  · refine ⟨h1, ?_⟩
    cases hp : profOf x.lib nm.data.toList with
    | none => rw [placeF_name h1 hp] at h; cases h
    | some p =>
      rw [placeF_some h1 hp] at h
      cases h2 : inR n 1 9999
      · simp [h2] at h
      cases h3 : hasU x.units n
      rotate_left
      · simp [h2, h3] at h
      by_cases h4 : x.units.length = 400
      · rw [h2, h3, if_pos h4] at h; simp at h
      cases h5 : roomO (usBut x 0) p.size with
      | none => rw [h2, h3, if_neg h4, h5] at h; simp at h
      | some r => exact ⟨p, r, rfl, inR_true h2, rfl, h4, h5⟩
  · rw [placeF_bad h1] at h; exact absurd h h1
theorem remF_bad {x : Rig} {n : Int} (h : ¬ chkRig x = 0) : remF x n = chkRig x := by unfold remF; rw [if_pos h]
theorem remF_no {x : Rig} {n : Int} (h : chkRig x = 0) (k : hasU x.units n = false) : remF x n = 8 := by unfold remF; rw [if_neg (by simpa using h), k]; rfl
theorem remF_yes {x : Rig} {n : Int} (h : chkRig x = 0) (k : hasU x.units n = true) : remF x n = 0 := by unfold remF; rw [if_neg (by simpa using h), k]; rfl
theorem remR_bad {x : Rig} {n : Int} (h : ¬ remF x n = 0) : remR x n = noRig := by unfold remR; rw [if_neg h]
theorem remR_yes {x : Rig} {n : Int} (h : remF x n = 0) : remR x n = ⟨x.lib, delU x.units (posU x.units n)⟩ := by unfold remR; rw [if_pos h]

/-! ### right rigs -/
def OkU (lib : List Prf) (u : Unt) : Prop := (1 ≤ u.num ∧ u.num ≤ 9999) ∧ ∃ p, profOf lib u.nm = some p ∧ untBad u p.size = false
theorem scanF_all {α : Type} (f : List α → α → Int) (l : List α) (h : ∀ k (hk : k < l.length), f (l.take k) l[k] = 0) : scanF f l 0 = 0 := by
  have key : ∀ d k, k + d = l.length → scanF f l k = 0 := by
    intro d
    induction d with
    | zero => intro k hk; exact scanF_end f l k (by omega)
    | succ d ih => intro k hk; rw [scanF_good f l k (by omega) (h k (by omega))]; exact ih (k + 1) (by omega)
  exact key l.length 0 (by omega)
theorem clashU_comm (lib : List Prf) (u x : Unt) : clashU lib u x = clashU lib x u := by
  unfold clashU
  rw [Bool.eq_iff_iff]
  simp only [Bool.and_eq_true, decide_eq_true_eq]
  constructor
  · rintro ⟨⟨a, b⟩, c⟩; exact ⟨⟨a.symm, c⟩, b⟩
  · rintro ⟨⟨a, b⟩, c⟩; exact ⟨⟨a.symm, c⟩, b⟩
theorem untF_ok {lib : List Prf} {pre : List Unt} {u : Unt} (h : OkU lib u) (hl : untLow pre u = false) (hc : pre.any (clashU lib u) = false) : untF lib pre u = 0 := by
  obtain ⟨h1, p, hp, hb⟩ := h
  have e1 : inR u.num 1 9999 = true := decide_eq_true h1
  have e2 : sizeOf' lib u = p.size := by simp [sizeOf', hp]
  unfold untF
  rw [e1, hl, hp, e2, hb, hc]
  simp
def RightU (lib : List Prf) (l : List Unt) : Prop := (∀ u ∈ l, OkU lib u) ∧ l.Pairwise (fun x u => x.num < u.num ∧ clashU lib u x = false)
theorem chkRig_iff (r : Rig) : chkRig r = 0 ↔ chkLib r.lib = 0 ∧ r.units.length ≤ 400 ∧ RightU r.lib r.units := by
  constructor
  · intro h
    obtain ⟨h1, h2, h3⟩ := chkRig_zero h
    have hz := fun k (hk : k < r.units.length) => untF_zero (scanF_zero _ _ h3 k hk)
    refine ⟨h1, h2, fun u hu => ?_, List.pairwise_iff_getElem.2 fun i j hi hj hij => ⟨asc_units h i j hi hj hij, ?_⟩⟩
    · obtain ⟨k, hk, rfl⟩ := List.getElem_of_mem hu
      exact ⟨(hz k hk).1, (hz k hk).2.2.1⟩
    · have := List.any_eq_false.1 (hz j hj).2.2.2 r.units[i] (List.mem_take_iff_getElem.2 ⟨i, by omega, rfl⟩)
      simpa using this
  · rintro ⟨h1, h2, h3, h4⟩
    have hp := List.pairwise_iff_getElem.1 h4
    unfold chkRig
    rw [if_neg (by simpa using h1), if_neg (by omega)]
    refine scanF_all _ _ fun k hk => untF_ok (h3 _ (List.getElem_mem hk)) ?_ ?_
    · unfold untLow
      by_cases h0 : k = 0
      · subst h0; simp
      · rw [last_take r.units k hk (by omega)]
        have := (hp (k - 1) k (by omega) hk (by omega)).1
        simp
        exact this
    · rw [List.any_eq_false]
      intro x hx
      obtain ⟨i, hi, rfl⟩ := List.mem_take_iff_getElem.1 hx
      have := (hp i k (by omega) hk (by omega)).2
      simpa using this

/-! ### a place that room gives -/
theorem roomA_spec {us : List (Unt × Int)} {U s : Int} : ∀ (f : Nat) (a0 a : Int), roomA us U s f a0 = some a → a0 ≤ a ∧ a + s - 1 ≤ 512 ∧ freeAt us U a s = true
  | 0, _, _, h => by simp [roomA] at h
  | f + 1, a0, a, h => by
    unfold roomA at h
    by_cases c : a0 + s - 1 ≤ 512
    · rw [if_pos c] at h
      by_cases d : freeAt us U a0 s = true
      · rw [if_pos d] at h
        cases h
        exact ⟨Int.le_refl _, c, d⟩
      · rw [if_neg d] at h
        obtain ⟨h1, h2⟩ := roomA_spec f _ _ h
        exact ⟨by omega, h2⟩
    · rw [if_neg c] at h; cases h
theorem roomN_spec {us : List (Unt × Int)} {s : Int} : ∀ (f : Nat) (n0 : Int) (r : Int × Int), roomN us s f n0 = some r → n0 ≤ r.1 ∧ r.1 < n0 + f ∧ 1 ≤ r.2 ∧ r.2 + s - 1 ≤ 512 ∧ freeAt us r.1 r.2 s = true
  | 0, _, _, h => by simp [roomN] at h
  | f + 1, n0, r, h => by
    unfold roomN at h
    cases c : roomRA us n0 s 1 with
    | some a =>
      rw [c] at h
      cases h
      obtain ⟨h1, h2, h3⟩ := roomA_spec _ _ _ c
      exact ⟨Int.le_refl _, by simp only; omega, h1, h2, h3⟩
    | none =>
      rw [c] at h
      obtain ⟨h1, h2, h3⟩ := roomN_spec f _ _ h
      exact ⟨by omega, by omega, h3⟩
theorem room_spec {us : List (Unt × Int)} {s : Int} {r : Int × Int} (h : roomO us s = some r) : (1 ≤ r.1 ∧ r.1 ≤ 64) ∧ 1 ≤ r.2 ∧ r.2 + s - 1 ≤ 512 ∧ freeAt us r.1 r.2 s = true := by
  obtain ⟨h1, h2, h3⟩ := roomN_spec _ _ _ h
  exact ⟨⟨h1, by have h2' : r.1 < 1 + ((64 : Nat) : Int) := h2; omega⟩, h3⟩
theorem usBut_zero {x : Rig} (h : chkRig x = 0) : usBut x 0 = usOf x.lib x.units := by
  unfold usBut
  congr 1
  refine List.filter_eq_self.2 fun u hu => ?_
  have := (num_range h hu).1
  simp; omega

/-! ### a unit more -/
theorem pos_take {l : List Unt} (n : Int) {u : Unt} (hu : u ∈ l.take (posU l n)) : u.num < n := by
  obtain ⟨i, hi, rfl⟩ := List.mem_take_iff_getElem.1 hu
  exact posU_lt n l i (by omega) (by omega)
theorem pos_drop {l : List Unt} (h : AscU l) {n : Int} (hn : hasU l n = false) {u : Unt} (hu : u ∈ l.drop (posU l n)) : n < u.num := by
  obtain ⟨i, hi, rfl⟩ := List.getElem_of_mem hu
  rw [List.length_drop] at hi
  rw [List.getElem_drop]
  have h1 := posU_ge h n (posU l n + i) (by omega) (by omega)
  have h2 : (l[posU l n + i]'(by omega)).num ≠ n := by
    intro e
    have : hasU l n = true := List.any_eq_true.2 ⟨l[posU l n + i]'(by omega), List.getElem_mem _, by simpa using e⟩
    rw [this] at hn; cases hn
  omega
theorem insU_len (l : List Unt) {p : Nat} (hp : p ≤ l.length) (u : Unt) : (insU l p u).length = l.length + 1 := by
  unfold insU
  simp
  omega
theorem place_right {x : Rig} {nm : ByteArray} {n : Int} (h : placeF x nm n = 0) : chkRig (placeR x nm n) = 0 := by
  obtain ⟨h1, p, r, hp, hn, hh, h4, hr⟩ := placeF_zero h
  rw [placeR_some h hp hr]
  obtain ⟨k1, k2, k3, k4⟩ := (chkRig_iff x).1 h1
  obtain ⟨r1, r2, r3, r4⟩ := room_spec hr
  have hok : OkU x.lib ⟨n, nm, r.1, r.2⟩ := by
    refine ⟨hn, p, hp, ?_⟩
    have hs := size_pos k1 (u := ⟨n, nm, r.1, r.2⟩) hp
    unfold untBad
    have e1 : inR r.1 1 64 = true := decide_eq_true r1
    have e2 : inR r.2 1 512 = true := decide_eq_true ⟨r2, by omega⟩
    rw [e1, e2]
    simp
    omega
  obtain ⟨_, p', hp', hb'⟩ := hok
  obtain rfl : p' = p := by rw [show (⟨n, nm, r.1, r.2⟩ : Unt).nm = nm.data.toList from rfl, hp] at hp'; exact (Option.some.inj hp').symm
  have hok : OkU x.lib ⟨n, nm, r.1, r.2⟩ := ⟨hn, p', hp', hb'⟩
  have hcl : x.units.any (clashU x.lib ⟨n, nm, r.1, r.2⟩) = false := by
    rw [clash_free k1 x.units (fun u hu => by obtain ⟨_, q, hq, _⟩ := k3 u hu; exact ⟨q, hq⟩) ⟨n, nm, r.1, r.2⟩ p' hp' hb']
    rw [usBut_zero h1] at r4
    unfold freeAt at r4
    simp only
    rw [r4]; rfl
  have hc := List.any_eq_false.1 hcl
  rw [chkRig_iff]
  refine ⟨k1, by rw [insU_len _ (posU_le _ _)]; omega, ?_, ?_⟩
  · intro u hu
    rcases List.mem_append.1 hu with h' | h'
    · exact k3 u (List.mem_of_mem_take h')
    · rcases List.mem_cons.1 h' with rfl | h'
      · exact hok
      · exact k3 u (List.mem_of_mem_drop h')
  · show (insU x.units (posU x.units n) ⟨n, nm, r.1, r.2⟩).Pairwise _
    have hk := k4
    rw [← List.take_append_drop (posU x.units n) x.units] at hk
    obtain ⟨q1, q2, q3⟩ := List.pairwise_append.1 hk
    unfold insU
    refine List.pairwise_append.2 ⟨q1, List.pairwise_cons.2 ⟨fun y hy => ⟨pos_drop (asc_units h1) hh hy, ?_⟩, q2⟩, fun y hy z hz => ?_⟩
    · rw [clashU_comm]
      simpa using hc y (List.mem_of_mem_drop hy)
    · rcases List.mem_cons.1 hz with rfl | h'
      · exact ⟨pos_take n hy, by simpa using hc y (List.mem_of_mem_take hy)⟩
      · exact q3 y hy z h'
theorem takeWhile_all {α : Type} (p : α → Bool) : ∀ (l : List α), (∀ v ∈ l, p v = true) → l.takeWhile p = l
  | [], _ => rfl
  | a :: l, h => by rw [List.takeWhile_cons, if_pos (h a (by simp)), takeWhile_all p l (fun v hv => h v (by simp [hv]))]
theorem posU_ins (l : List Unt) (u : Unt) : posU (insU l (posU l u.num) u) u.num = posU l u.num := by
  have h1 : (l.take (posU l u.num)).takeWhile (fun v => decide (v.num < u.num)) = l.take (posU l u.num) := takeWhile_all _ _ fun v hv => by simpa using pos_take u.num hv
  have h2 : ∀ (a b : List Unt) (q : Unt → Bool), a.takeWhile q = a → (a ++ u :: b).takeWhile q = a ++ (u :: b).takeWhile q := by
    intro a b q
    induction a with
    | nil => intro _; rfl
    | cons c a ih =>
      intro h
      rw [List.takeWhile_cons] at h
      by_cases hc : q c = true
      · rw [if_pos hc] at h
        rw [List.cons_append, List.takeWhile_cons, if_pos hc, ih (List.cons.inj h).2, List.cons_append]
      · rw [if_neg hc] at h; cases h
  show ((insU l (posU l u.num) u).takeWhile (fun v => decide (v.num < u.num))).length = _
  unfold insU
  rw [h2 _ _ _ h1, List.takeWhile_cons, if_neg (by simp), List.append_nil, List.length_take]
  have := posU_le l u.num
  omega
theorem hasU_ins (l : List Unt) (p : Nat) (u : Unt) : hasU (insU l p u) u.num = true := List.any_eq_true.2 ⟨u, by simp [insU], by simp⟩
theorem del_ins (l : List Unt) (p : Nat) (hp : p ≤ l.length) (u : Unt) : delU (insU l p u) p = l := by
  unfold delU insU
  have h1 : (l.take p).length = p := by rw [List.length_take]; omega
  rw [List.take_append_of_le_length (by omega), List.take_take, Nat.min_self, List.drop_append, h1, List.drop_of_length_le (by omega), show p + 1 - p = 1 by omega]
  simp
theorem taken_back {x : Rig} {nm : ByteArray} {n : Int} (h : placeF x nm n = 0) : remF (placeR x nm n) n = 0 ∧ remR (placeR x nm n) n = x ∧ (placeR x nm n).units.length = x.units.length + 1 := by
  have h0 := place_right h
  obtain ⟨h1, p, r, hp, hn, hh, h4, hr⟩ := placeF_zero h
  rw [placeR_some h hp hr] at h0 ⊢
  have hf : remF ⟨x.lib, insU x.units (posU x.units n) ⟨n, nm, r.1, r.2⟩⟩ n = 0 := remF_yes h0 (hasU_ins _ _ ⟨n, nm, r.1, r.2⟩)
  refine ⟨hf, ?_, insU_len _ (posU_le _ _) _⟩
  rw [remR_yes hf]
  simp only
  rw [posU_ins x.units ⟨n, nm, r.1, r.2⟩, del_ins _ _ (posU_le _ _)]
/-- and it fits -/
theorem place_fit {x : Rig} (hf : RigFit x) {nm : ByteArray} (hnm : nm.size ≤ maxLen) {n : Int} (h : placeF x nm n = 0) : RigFit (placeR x nm n) := by
  obtain ⟨h1, p, r, hp, hn, hh, h4, hr⟩ := placeF_zero h
  rw [placeR_some h hp hr]
  obtain ⟨r1, r2, r3, r4⟩ := room_spec hr
  have hs := size_pos ((chkRig_iff x).1 h1).1 (u := ⟨n, nm, r.1, r.2⟩) hp
  refine ⟨hf.1, fun u hu => ?_⟩
  rcases List.mem_append.1 hu with h' | h'
  · exact hf.2 u (List.mem_of_mem_take h')
  · rcases List.mem_cons.1 h' with rfl | h'
    · refine ⟨?_, ?_, ?_, hnm⟩ <;> unfold I64 <;> simp only <;> omega
    · exact hf.2 u (List.mem_of_mem_drop h')
end Go.Proofs.Ytabalicembhjmaa

namespace Go.Proofs.Ytabalicembhjmaa
open Go.ChangeShapes Go.WideShapes Go.RowKit Go.Deep
set_option linter.unusedSimpArgs false
set_option linter.unusedVariables false

/-- a setting: a unit, a parameter, a level -/
structure Stg where
  unit : Int
  par : ByteArray
  lv : Int
instance : Inhabited Stg := ⟨⟨0, ByteArray.empty, 0⟩⟩
def stgC (s : Stg) : List Value := [.int .i64 s.unit, .string s.par, .int .i64 s.lv]
def StgS (B : Nat) (w : World) (v : Value) (l : List Stg) : Prop := CellsS B w v l.length (l.flatMap stgC)
def StgFit (s : Stg) : Prop := I64 s.unit ∧ s.par.size ≤ maxLen ∧ I64 s.lv
theorem StgS.below {B : Nat} {w w' : World} {v : Value} {l : List Stg} (h : StgS B w v l) (hb : Below B w w') : StgS B w' v l := CellsS.below h hb
theorem StgS.more {B B' : Nat} {w : World} {v : Value} {l : List Stg} (h : StgS B w v l) (hB : B ≤ B') : StgS B' w v l := CellsS.more h hB
theorem StgS.get {B : Nat} {w : World} {v : Value} {l : List Stg} (h : StgS B w v l) (hl : 0 < l.length) :
    ∃ b off cap, v = .slice (some ⟨b, off, none⟩) l.length cap ∧ b < B ∧ l.length ≤ maxLen ∧ ∀ k (hk : k < l.length) (W : World), Below B w W →
      W.cell? ⟨b, off + k * 3, none⟩ = some (.int .i64 l[k].unit) ∧ W.cell? ⟨b, off + k * 3 + 1, none⟩ = some (.string l[k].par) ∧ W.cell? ⟨b, off + k * 3 + 2, none⟩ = some (.int .i64 l[k].lv) := by
  obtain ⟨b, off, cap, rfl, h1, h2, h3⟩ := CellsS.rec h (n := 3) (fun _ => rfl) hl
  refine ⟨b, off, cap, rfl, h1, h2, fun k hk W hW => ?_⟩
  exact ⟨(hW.cell (p := ⟨b, off + k * 3, none⟩) h1).trans (h3 k hk 0 _ (by omega) rfl), (hW.cell (p := ⟨b, off + k * 3 + 1, none⟩) h1).trans (h3 k hk 1 _ (by omega) rfl), (hW.cell (p := ⟨b, off + k * 3 + 2, none⟩) h1).trans (h3 k hk 2 _ (by omega) rfl)⟩

section
variable {H : Type} {enc : TypeId × Value → H} {w : World} {held : Bool}
set_option maxRecDepth 100000 in
theorem read_keyC {fuel : Nat} {cs : List Value} {x : DataW H × List MemPlace} (h : DataW.trod enc Try.prog w 0 (fun _ => true) held fuel 33 cs = some x) :
    ∃ (n : Int) (s : ByteArray), cs = [.int .i64 n, .string s] ∧ I64 n ∧ s.size ≤ maxLen := by
  have hc : Try.prog.cellsOf 33 = 2 := by kernel_rfl
  obtain ⟨hl, n, hf⟩ := open_fields1 Try.underlying33 (by kernel_rfl) hc h
  obtain ⟨u0, u1, rfl⟩ := list2 hl
  obtain ⟨x0, y0, q0, k0⟩ := hf 0 _ rfl
  obtain ⟨x1, y1, q1, k1⟩ := hf 1 _ rfl
  simp at q0 q1
  subst q0 q1
  obtain ⟨a0, rfl, w0⟩ := field_int Try.underlying3 k0
  obtain ⟨a1, rfl, w1⟩ := field_string Try.underlying9 k1
  exact ⟨a0, a1, rfl, i64_of_wf w0, w1⟩
theorem fxInt_ : Try.prog.cellsOf 3 = 1 := by kernel_rfl
theorem fxKey_ : Try.prog.cellsOf 33 = 2 := by kernel_rfl
set_option maxRecDepth 100000 in
theorem read_setting {fuel : Nat} {cs : List Value} {x : DataW H × List MemPlace} (h : DataW.trod enc Try.prog w 0 (fun _ => true) held fuel 35 cs = some x) :
    ∃ y : Stg, cs = stgC y ∧ StgFit y := by
  have hc : Try.prog.cellsOf 35 = 3 := by kernel_rfl
  obtain ⟨hl, n, hf⟩ := open_fields Try.underlying35 h
  rw [hc] at hl
  obtain ⟨u0, u1, u2, rfl⟩ := list3' hl
  obtain ⟨y0, k0⟩ := hf 0 _ rfl
  obtain ⟨y1, k1⟩ := hf 1 _ rfl
  simp only [List.getElem_toArray, List.getElem_cons_zero, List.getElem_cons_succ, fxInt_, fxKey_, List.drop_zero, List.drop_succ_cons, List.take_succ_cons, List.take_zero] at k0 k1
  obtain ⟨a0, a1, e, f0, f1⟩ := read_keyC k0
  simp at e
  obtain ⟨rfl, rfl⟩ := e
  obtain ⟨a2, rfl, w2⟩ := field_int Try.underlying3 k1
  exact ⟨⟨a0, a1, a2⟩, rfl, f0, f1, i64_of_wf w2⟩
/-- settings as an argument -/
def StgW (w : World) (v : Value) : Prop := ∃ l : List Stg, StgS w.heap.size w v l ∧ ∀ p ∈ l, StgFit p
set_option maxRecDepth 100000 in
theorem open_settings {r : Reach} {b0 : Nat} {v : Value} {d : DataW H} {p : List MemPlace} (hv : Value.okWide Try.prog w r b0 27 v) (h : DataW.Trod enc Try.prog w 0 (fun _ => true) held 27 v d p) :
    ∃ a : Value, v = a ∧ StgW w a := by
  obtain ⟨ao, len, cap, rfl⟩ := okWide_slice Try.underlying27 hv
  obtain ⟨fuel, hf⟩ := h
  obtain ⟨v, l, e, hl⟩ := read_rows (n := 3) stgC StgFit (fun _ => rfl) (by omega) Try.underlying27 (by kernel_rfl) (fun _ _ _ h => read_setting h) hf
  simp [Value.cells] at e
  subst e
  exact ⟨_, rfl, l, hl⟩
end
end Go.Proofs.Ytabalicembhjmaa

namespace Go.Proofs.Ytabalicembhjmaa
open Go.RowKit
set_option linter.unusedVariables false
set_option linter.unusedSimpArgs false

/-- a frame: a universe and its bytes -/
structure Frm where
  univ : Int
  sl : List Int
instance : Inhabited Frm := ⟨⟨0, []⟩⟩
def bytC (b : Int) : List Value := [.int .u8 b]
def BytS (B : Nat) (w : World) (v : Value) (l : List Int) : Prop := CellsS B w v l.length (l.flatMap bytC)
def frmC (p : Frm × Value) : List Value := [.int .i64 p.1.univ, p.2]
def FrmS (B : Nat) (w : World) (v : Value) (l : List Frm) : Prop :=
  ∃ lv : List (Frm × Value), lv.map (·.1) = l ∧ CellsS B w v lv.length (lv.flatMap frmC) ∧ ∀ y ∈ lv, BytS B w y.2 y.1.sl
def FrmFit (f : Frm) : Prop := I64 f.univ ∧ ∀ b ∈ f.sl, 0 ≤ b ∧ b ≤ 255
theorem BytS.below {B : Nat} {w w' : World} {v : Value} {l : List Int} (h : BytS B w v l) (hb : Below B w w') : BytS B w' v l := CellsS.below h hb
theorem BytS.more {B B' : Nat} {w : World} {v : Value} {l : List Int} (h : BytS B w v l) (hB : B ≤ B') : BytS B' w v l := CellsS.more h hB
theorem FrmS.below {B : Nat} {w w' : World} {v : Value} {l : List Frm} (h : FrmS B w v l) (hb : Below B w w') : FrmS B w' v l := by
  obtain ⟨lv, h1, h2, h3⟩ := h
  exact ⟨lv, h1, h2.below hb, fun y hy => (h3 y hy).below hb⟩
theorem FrmS.more {B B' : Nat} {w : World} {v : Value} {l : List Frm} (h : FrmS B w v l) (hB : B ≤ B') : FrmS B' w v l := by
  obtain ⟨lv, h1, h2, h3⟩ := h
  exact ⟨lv, h1, h2.more hB, fun y hy => (h3 y hy).more hB⟩
/-- the bytes' cells -/
theorem BytS.get {B : Nat} {w : World} {v : Value} {l : List Int} (h : BytS B w v l) (hl : 0 < l.length) :
    ∃ b off cap, v = .slice (some ⟨b, off, none⟩) l.length cap ∧ b < B ∧ l.length ≤ maxLen ∧ ∀ k (hk : k < l.length) (W : World), Below B w W → W.cell? ⟨b, off + k, none⟩ = some (.int .u8 l[k]) := by
  obtain ⟨b, off, cap, rfl, h1, h2, h3⟩ := CellsS.rec h (n := 1) (fun _ => rfl) hl
  refine ⟨b, off, cap, rfl, h1, h2, fun k hk W hW => ?_⟩
  have h4 := h3 k hk 0 _ (by omega) rfl
  rw [Nat.mul_one, Nat.add_zero] at h4
  exact (hW.cell (p := ⟨b, off + k, none⟩) h1).trans h4
/-- a frame's cells -/
theorem FrmS.get {B : Nat} {w : World} {v : Value} {l : List Frm} (h : FrmS B w v l) (hl : 0 < l.length) :
    ∃ b off cap, v = .slice (some ⟨b, off, none⟩) l.length cap ∧ b < B ∧ l.length ≤ maxLen ∧ ∀ k (hk : k < l.length), ∃ sv, BytS B w sv l[k].sl ∧ ∀ (W : World), Below B w W →
      W.cell? ⟨b, off + k * 2, none⟩ = some (.int .i64 l[k].univ) ∧ W.cell? ⟨b, off + k * 2 + 1, none⟩ = some sv := by
  obtain ⟨lv, rfl, h1, h2⟩ := h
  obtain ⟨b, off, cap, rfl, h3, h4, h5⟩ := CellsS.rec h1 (n := 2) (fun _ => rfl) (by simpa using hl)
  refine ⟨b, off, cap, by simp, h3, by simpa using h4, fun k hk => ?_⟩
  have hk' : k < lv.length := by simpa using hk
  refine ⟨lv[k].2, by simpa using h2 _ (List.getElem_mem hk'), fun W hW => ?_⟩
  simp only [List.getElem_map]
  exact ⟨(hW.cell (p := ⟨b, off + k * 2, none⟩) h3).trans (h5 k hk' 0 _ (by omega) rfl), (hW.cell (p := ⟨b, off + k * 2 + 1, none⟩) h3).trans (h5 k hk' 1 _ (by omega) rfl)⟩
theorem frmS_shape {B : Nat} {w : World} {v : Value} {l : List Frm} (h : FrmS B w v l) : ∃ ao cap, v = .slice ao l.length cap := by
  obtain ⟨lv, rfl, h1, _⟩ := h
  obtain ⟨ao, cap, rfl, _⟩ := CellsS.shape h1
  exact ⟨ao, cap, by simp⟩
theorem frmS_len {B : Nat} {w : World} {v : Value} {l : List Frm} (h : FrmS B w v l) : l.length ≤ 9223372036854775807 := by
  obtain ⟨lv, rfl, h1, _⟩ := h
  have := CellsS.len h1
  unfold maxLen at this
  simpa using this
theorem bytS_shape {B : Nat} {w : World} {v : Value} {l : List Int} (h : BytS B w v l) : ∃ ao cap, v = .slice ao l.length cap := by
  obtain ⟨ao, cap, rfl, _⟩ := CellsS.shape h
  exact ⟨ao, cap, rfl⟩
theorem bytS_len {B : Nat} {w : World} {v : Value} {l : List Int} (h : BytS B w v l) : l.length ≤ 9223372036854775807 := by
  have := CellsS.len h
  unfold maxLen at this
  omega

/-! ### faults, settings -/
def frmLow (pre : List Frm) (f : Frm) : Bool := pre.getLast?.any (fun q => decide (f.univ ≤ q.univ))
def frmF (pre : List Frm) (f : Frm) : Int := if !inR f.univ 1 64 then 1 else if f.sl.length ≠ 512 then 3 else if frmLow pre f then 7 else 0
def chkFrms (l : List Frm) : Int := scanF frmF l 0
def chkSet (x : Rig) (l : List Frm) : Int := if chkRig x ≠ 0 then chkRig x else chkFrms l
def atF (f : Frm) (i : Int) : Int := f.sl.getD i.toNat 0
def lvO (u : Unt) (f : Frm) (x : Par) : Int := if x.fine = 0 then atF f (u.addr + x.sl - 2) * 257 else 256 * atF f (u.addr + x.sl - 2) + atF f (u.addr + x.fine - 2)
def setO (u : Unt) (f : Frm) (x : Par) : Stg := ⟨u.num, x.name, lvO u f x⟩
def parsOf (lib : List Prf) (u : Unt) : List Par := ((profOf lib u.nm).map Prf.pars).getD []
def isU (u : Unt) (f : Frm) : Bool := decide (f.univ = u.univ)
def setU (lib : List Prf) (l : List Frm) (u : Unt) : List Stg := match l.find? (isU u) with
  | none => []
  | some f => (parsOf lib u).map (setO u f)
def setV (lib : List Prf) (units : List Unt) (l : List Frm) : List Stg := units.flatMap (setU lib l)
def setsV (x : Rig) (l : List Frm) : List Stg := if chkSet x l = 0 then setV x.lib x.units l else []
/-- as the reference goes -/
def setR (lib : List Prf) (l : List Frm) (u : Unt) : List Stg := (l.filter (isU u)).flatMap (fun f => (parsOf lib u).map (setO u f))
theorem frmF_zero {pre : List Frm} {f : Frm} (h : frmF pre f = 0) : (1 ≤ f.univ ∧ f.univ ≤ 64) ∧ f.sl.length = 512 ∧ frmLow pre f = false := by
  unfold frmF at h
  cases h1 : inR f.univ 1 64
  · simp [h1] at h
  by_cases h2 : f.sl.length = 512
  · cases h3 : frmLow pre f
    · exact ⟨inR_true h1, h2, rfl⟩
    · simp [h1, h2, h3] at h
  · simp [h1, h2] at h
theorem frms_step {l : List Frm} (h : chkFrms l = 0) (k : Nat) (hk : k + 1 < l.length) : l[k].univ < l[k + 1].univ := by
  have h1 := (frmF_zero (scanF_zero _ _ h (k + 1) hk)).2.2
  unfold frmLow at h1
  rw [last_take l (k + 1) hk (by omega)] at h1
  simp at h1
  exact h1
theorem frms_less {l : List Frm} (h : chkFrms l = 0) (i : Nat) : ∀ d, ∀ hj : i + 1 + d < l.length, l[i].univ < (l[i + 1 + d]'hj).univ
  | 0, hj => frms_step h i hj
  | d + 1, hj => Int.lt_trans (frms_less h i d (by omega)) (frms_step h (i + 1 + d) hj)
theorem frms_pair {l : List Frm} (h : chkFrms l = 0) : l.Pairwise (fun a b => a.univ < b.univ) := by
  rw [List.pairwise_iff_getElem]
  intro i j hi hj hij
  obtain ⟨d, rfl⟩ : ∃ d, j = i + 1 + d := ⟨j - (i + 1), by omega⟩
  exact frms_less h i d hj
theorem filter_one (U : Int) : ∀ l : List Frm, l.Pairwise (fun a b => a.univ < b.univ) → l.filter (fun f => decide (f.univ = U)) = (l.find? (fun f => decide (f.univ = U))).toList
  | [], _ => rfl
  | f :: l, h => by
    rw [List.pairwise_cons] at h
    by_cases c : f.univ = U
    · have h1 : l.filter (fun f => decide (f.univ = U)) = [] := by
        rw [List.filter_eq_nil_iff]
        intro a ha
        have := h.1 a ha
        simp only [decide_eq_true_eq]
        omega
      simp [List.filter_cons, List.find?_cons, c, h1]
    · simp [List.filter_cons, List.find?_cons, c, filter_one U l h.2]
theorem setR_eq {l : List Frm} (h : chkFrms l = 0) (lib : List Prf) (u : Unt) : setR lib l u = setU lib l u := by
  unfold setR setU
  have h1 := filter_one u.univ l (frms_pair h)
  have h2 : isU u = fun f => decide (f.univ = u.univ) := rfl
  rw [h2, h1]
  cases l.find? (fun f => decide (f.univ = u.univ)) with
  | none => rfl
  | some f => simp
theorem frms_few {l : List Frm} (h : chkFrms l = 0) : l.length ≤ 64 := by
  have key : ∀ k, ∀ hk : k < l.length, (k : Int) + 1 ≤ l[k].univ := by
    intro k
    induction k with
    | zero => intro hk; have := (frmF_zero (scanF_zero _ _ h 0 hk)).1.1; simpa using this
    | succ k ih => intro hk; have := ih (by omega); have := frms_step h k hk; omega
  by_cases c : l.length ≤ 64
  · exact c
  · have h1 := key 64 (by omega)
    have h2 := (frmF_zero (scanF_zero _ _ h 64 (by omega))).1.2
    omega
theorem frm_long {l : List Frm} (h : chkFrms l = 0) {f : Frm} (hf : f ∈ l) : f.sl.length = 512 := by
  obtain ⟨k, hk, rfl⟩ := List.getElem_of_mem hf
  exact (frmF_zero (scanF_zero _ _ h k hk)).2.1
theorem chkSet_zero {x : Rig} {l : List Frm} (h : chkSet x l = 0) : chkRig x = 0 ∧ chkFrms l = 0 := by
  unfold chkSet at h
  by_cases c : chkRig x = 0
  · rw [if_neg (by simpa using c)] at h; exact ⟨c, h⟩
  · rw [if_pos c] at h; exact absurd h c
/-- the parameters of a unit of a right rig -/
theorem par_right {x : Rig} (h : chkRig x = 0) {u : Unt} (hu : u ∈ x.units) : ∃ p, profOf x.lib u.nm = some p ∧ p.pars.length ≤ 40 ∧ (1 ≤ u.addr ∧ u.addr + p.size - 1 ≤ 512) ∧ ∀ q ∈ p.pars, (1 ≤ q.sl ∧ q.sl ≤ p.size) ∧ (0 ≤ q.fine ∧ q.fine ≤ p.size) := by
  obtain ⟨h1, h2, h3⟩ := chkRig_zero h
  obtain ⟨k, hk, rfl⟩ := List.getElem_of_mem hu
  obtain ⟨_, _, ⟨p, h4, h5⟩, _⟩ := untF_zero (scanF_zero _ _ h3 k hk)
  have h6 := chkPrf_zero (chkLib_prf h1 (profOf_some h4).1)
  refine ⟨p, h4, h6.2.2.2.1, ⟨(untBad_false h5).2.1.1, (untBad_false h5).2.2⟩, fun q hq => ?_⟩
  obtain ⟨j, hj, rfl⟩ := List.getElem_of_mem hq
  have h7 := parBad_false (parF_zero (scanF_zero _ _ h6.2.2.2.2 j hj)).2.2.2.1
  exact ⟨h7.1, h7.2.1⟩
theorem setU_len {x : Rig} (h : chkRig x = 0) (l : List Frm) {u : Unt} (hu : u ∈ x.units) : (setU x.lib l u).length ≤ 40 := by
  obtain ⟨p, h1, h2, _⟩ := par_right h hu
  unfold setU
  split
  · simp
  · simp [parsOf, h1]; exact h2
theorem flat_le {α β : Type} (f : α → List β) (c : Nat) (l : List α) (h : ∀ x ∈ l, (f x).length ≤ c) : (l.flatMap f).length ≤ c * l.length := by
  induction l with
  | nil => simp
  | cons a l ih =>
    have h1 := h a (by simp)
    have h2 := ih (fun x hx => h x (by simp [hx]))
    simp only [List.flatMap_cons, List.length_append, List.length_cons, Nat.mul_add, Nat.mul_one]
    omega
theorem flat_snoc' {α β : Type} (f : α → List β) (l : List α) (k : Nat) (h : k < l.length) : (l.take (k + 1)).flatMap f = (l.take k).flatMap f ++ f l[k] := by
  rw [List.take_succ_eq_append_getElem h, List.flatMap_append]; simp
theorem map_snoc' {α β : Type} (f : α → β) (l : List α) (k : Nat) (h : k < l.length) : (l.take (k + 1)).map f = (l.take k).map f ++ [f l[k]] := by
  rw [List.take_succ_eq_append_getElem h, List.map_append]; rfl
end Go.Proofs.Ytabalicembhjmaa

namespace Go.Proofs.Ytabalicembhjmaa
open Go.RowKit
set_option linter.unusedVariables false
set_option linter.unusedSimpArgs false

def hitU (lib : List Prf) (U a s but : Int) (u : Unt) : Bool := decide (u.num ≠ but) && (decide (u.univ = U) && (decide (u.addr ≤ a + s - 1) && decide (a ≤ lastOf lib u)))
def fitsV (x : Rig) (U a s but : Int) : Bool := decide (a + s - 1 ≤ 512) && !(x.units.any (hitU x.lib U a s but))
theorem unit_sound {x : Rig} (hx : chkRig x = 0) {u : Unt} (hu : u ∈ x.units) : (1 ≤ u.addr ∧ u.addr ≤ 512) ∧ (1 ≤ sizeOf' x.lib u ∧ sizeOf' x.lib u ≤ 512) := by
  obtain ⟨h1, _, h3⟩ := chkRig_zero hx
  obtain ⟨k, hk, rfl⟩ := List.getElem_of_mem hu
  obtain ⟨_, _, ⟨p, h4, h5⟩, _⟩ := untF_zero (scanF_zero _ _ h3 k hk)
  exact ⟨(untBad_false h5).2.1, by rw [size_of h4]; exact size_pos h1 h4⟩
theorem usedB_but (x : Rig) (but U k : Int) : usedB (usBut x but) U k = true ↔ ∃ u ∈ x.units, u.num ≠ but ∧ u.univ = U ∧ u.addr ≤ k ∧ k < u.addr + sizeOf' x.lib u := by
  unfold usedB usBut usOf
  rw [List.any_eq_true]
  constructor
  · rintro ⟨y, hy, h⟩
    obtain ⟨u, hu, rfl⟩ := List.mem_map.1 hy
    rw [List.mem_filter] at hu
    simp only [Bool.and_eq_true, decide_eq_true_eq] at h hu
    exact ⟨u, hu.1, hu.2, h.1, h.2.1, h.2.2⟩
  · rintro ⟨u, hu, h1, h2, h3, h4⟩
    refine ⟨(u, sizeOf' x.lib u), List.mem_map.2 ⟨u, List.mem_filter.2 ⟨hu, by simpa using h1⟩, rfl⟩, ?_⟩
    simp only [Bool.and_eq_true, decide_eq_true_eq]
    exact ⟨h2, h3, h4⟩
theorem fits_free {x : Rig} (hx : chkRig x = 0) (U a s but : Int) (hs : 1 ≤ s) (h2 : a + s - 1 ≤ 512) : freeAt (usBut x but) U a s = fitsV x U a s but := by
  unfold fitsV
  rw [decide_eq_true h2, Bool.true_and, Bool.eq_iff_iff]
  unfold freeAt
  rw [freeN_iff]
  rw [Bool.not_eq_true', List.any_eq_false]
  constructor
  · intro h u hu hc
    simp only [hitU, Bool.and_eq_true, decide_eq_true_eq] at hc
    obtain ⟨h3, h4, h5, h6⟩ := hc
    obtain ⟨h7, h8⟩ := unit_sound hx hu
    unfold lastOf at h6
    have h9 : usedB (usBut x but) U (max a u.addr) = true := (usedB_but x but U _).2 ⟨u, hu, h3, h4, by omega, by omega⟩
    have h10 := (h (max a u.addr) (by omega) (by omega)).2
    rw [h9] at h10; cases h10
  · intro h k h3 h4
    refine ⟨by omega, ?_⟩
    cases c : usedB (usBut x but) U k
    · rfl
    · obtain ⟨u, hu, h5, h6, h7, h8⟩ := (usedB_but x but U k).1 c
      refine absurd ?_ (h u hu)
      simp only [hitU, Bool.and_eq_true, decide_eq_true_eq]
      refine ⟨h5, h6, by omega, ?_⟩
      unfold lastOf
      omega
theorem fits_ra {x : Rig} (hx : chkRig x = 0) {U a s but : Int} (hs : 1 ≤ s) : (fitsV x U a s but = true → roomRA (usBut x but) U s a = some a) ∧ (fitsV x U a s but = false → roomRA (usBut x but) U s a = roomRA (usBut x but) U s (a + 1)) := by
  by_cases h2 : a + s - 1 ≤ 512
  · have h3 := fits_free hx U a s but hs h2
    exact ⟨fun h => roomRA_yes hs h2 (by rw [h3, h]), fun h => roomRA_no hs h2 (by rw [h3, h])⟩
  · refine ⟨fun h => ?_, fun _ => by rw [roomRA_end h2, roomRA_end (by omega)]⟩
    unfold fitsV at h
    rw [decide_eq_false h2] at h
    cases h
end Go.Proofs.Ytabalicembhjmaa
