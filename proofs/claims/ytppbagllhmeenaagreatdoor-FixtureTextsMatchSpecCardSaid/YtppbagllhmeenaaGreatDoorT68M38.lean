/- The reference's Lines at any text. (printed by wip/gen/gen_rbook.py out of XLines) Clashes of units are marks that are taken. No walk in it. The index of the first element that passes a test. No program in it. -/
import Derived.Test.YtppbagllhmeenaaGreatDoorT68M13
import Derived.Test.YtppbagllhmeenaaGreatDoorT68M24
import Derived.Test.YtppbagllhmeenaaGreatDoorT68M16

namespace Go.Proofs.YtppbagllhmeenaaGreatDoor
open Go.RowKit
set_option linter.unusedVariables false
set_option linter.unusedSimpArgs false

theorem rlinesL (s : ByteArray) : linesL s = if ((wordsB 10 s).getLast?.map (·.size)) = some 0 then (wordsB 10 s).dropLast else wordsB 10 s := by
  by_cases h0 : s.size = 0
  · have he : s = ⟨#[]⟩ := ByteArray.ext (by apply Array.ext <;> simp_all)
    subst he
    rfl
  · exact if_neg h0
theorem rlinesW (s : ByteArray) : linesW s = decide (((wordsB 10 s).getLast?.map (·.size)) = some 0) := by
  by_cases h0 : s.size = 0
  · have he : s = ⟨#[]⟩ := ByteArray.ext (by apply Array.ext <;> simp_all)
    subst he
    rfl
  · unfold linesW
    rw [decide_eq_false h0]
    rfl

set_option maxHeartbeats 4000000 in
theorem rlines_any (s : ByteArray) (w : World) (hT : TextW w) (hs : s.size < 4294967281) :
    Calls Tryz.prog 26 #[.string s] w (LinesPost w s) := by
  by_cases hdummy : True
  · have CS := Lib.hid (split_any 10 s w hT hs)
    have HLL := Lib.hid (show linesL s = if ((wordsB 10 s).getLast?.map (·.size)) = some 0 then (wordsB 10 s).dropLast else wordsB 10 s from rlinesL s)
    have HLW := Lib.hid (rlinesW s)
    have hle := wordsB_le 10 s
    obtain ⟨L0, x, hL⟩ := words_snoc s
    have HPOST := Lib.hid (show ∀ e w', (∃ ao cap, e = .returned (.tuple #[.slice ao (linesL s).length cap, .bool (linesW s)]) ∧ (linesL s ≠ [] → ao = some ⟨w.heap.size, 0, none⟩ ∧ w.heap.size < w'.heap.size ∧ RowS w' w.heap.size 0 (linesL s)) ∧ Below w.heap.size w w') → LinesPost w s e w' from fun e w' h => h)
    rw [hL] at CS HLL HLW hle
    have hlast : (L0 ++ [x]).getLast? = some x := by simp
    have hdl : (L0 ++ [x]).dropLast = L0 := by simp
    rw [hlast, hdl] at HLL
    rw [hlast] at HLW
    simp only [Option.map_some, Option.some.injEq] at HLL HLW
    have hlen : (L0 ++ [x]).length = L0.length + 1 := by simp
    generalize linesL s = LL at *
    generalize linesW s = LW at *
    generalize LinesPost w s = PO at *
    clear hT hL hlast hdl
    go_enter Tryz.func26, Tryz.ntmps26
    go_wp2_with fail
    refine CS.out.mono ?_
    rintro e w1 ⟨rfl, hrow, hb, hlt⟩
    rw [hlen]
    have hc := hrow L0.length (by rw [hlen]; omega)
    rw [show (L0 ++ [x])[L0.length]'(by rw [hlen]; omega) = x by simp, Nat.zero_add] at hc
    have HR := Lib.hid hrow
    have HB := Lib.hid hb
    clear hrow hb
    have hsub : ((L0.length + 1 : Nat) : Int) - 1 = L0.length := by omega
    by_cases hx : x.size = 0
    · have he : x = ⟨#[]⟩ := ByteArray.ext (by apply Array.ext <;> simp_all)
      have HV1 := Lib.hid (show LL = L0 by rw [HLL.out, if_pos hx])
      have HV2 := Lib.hid (show LW = true by rw [HLW.out, decide_eq_true hx])
      subst he
      clear hx HLL HLW
      go_wp2_with fail
      refine HPOST.out _ _ ⟨_, _, by rw [HV1.out, HV2.out]; rfl, fun h => ⟨rfl, hlt, ?_⟩, HB.out⟩
      rw [HV1.out]
      intro j hj
      have := HR.out j (by rw [hlen]; omega)
      rwa [show (L0 ++ [(⟨#[]⟩ : ByteArray)])[j]'(by rw [hlen]; omega) = L0[j] from List.getElem_append_left hj] at this
    · have hx1 := bytes_some (s := x) (by omega)
      have hx2 := bytes_some' (s := x) (by omega)
      have HV1 := Lib.hid (show LL = L0 ++ [x] by rw [HLL.out, if_neg hx])
      have HV2 := Lib.hid (show LW = false by rw [HLW.out, decide_eq_false hx])
      clear hx HLL HLW
      go_wp2_with fail
      refine HPOST.out _ _ ⟨some ⟨w.heap.size, 0, none⟩, L0.length + 1, by rw [HV1.out, HV2.out, hlen]; rfl, fun h => ⟨rfl, hlt, ?_⟩, HB.out⟩
      rw [HV1.out]
      exact HR.out
  · exact absurd trivial hdummy
end Go.Proofs.YtppbagllhmeenaaGreatDoor

namespace Go.Proofs.YtppbagllhmeenaaGreatDoor
open Go.RowKit
set_option linter.unusedVariables false
set_option linter.unusedSimpArgs false

def usOf (lib : List Prf) (l : List Unt) : List (Unt × Int) := l.map (fun u => (u, sizeOf' lib u))
theorem usOf_snoc (lib : List Prf) (l : List Unt) (k : Nat) (h : k < l.length) : usOf lib (l.take (k + 1)) = usOf lib (l.take k) ++ [(l[k], sizeOf' lib l[k])] := by
  unfold usOf
  rw [List.take_succ_eq_append_getElem h, List.map_append]; rfl
theorem size_of {lib : List Prf} {u : Unt} {p : Prf} (h : profOf lib u.nm = some p) : sizeOf' lib u = p.size := by simp [sizeOf', h]
theorem size_pos {lib : List Prf} (hl : chkLib lib = 0) {u : Unt} {p : Prf} (h : profOf lib u.nm = some p) : 1 ≤ p.size ∧ p.size ≤ 512 := (chkPrf_zero (chkLib_prf hl (profOf_some h).1)).2.1
/-- units clash just where one's slots are taken already -/
theorem clash_free {lib : List Prf} (hl : chkLib lib = 0) (pre : List Unt) (hp : ∀ x ∈ pre, ∃ p, profOf lib x.nm = some p) (u : Unt) (p : Prf) (hu : profOf lib u.nm = some p) (hb : untBad u p.size = false) :
    pre.any (clashU lib u) = !freeN (usedB (usOf lib pre) u.univ) u.addr p.size.toNat := by
  obtain ⟨b1, b2, b3⟩ := untBad_false hb
  have hs := size_pos hl hu
  have hsu := size_of hu
  have key : pre.any (clashU lib u) = true ↔ ¬ freeN (usedB (usOf lib pre) u.univ) u.addr p.size.toNat = true := by
    rw [freeN_iff, List.any_eq_true]
    constructor
    · rintro ⟨x, hx, hc⟩ hf
      obtain ⟨q, hq⟩ := hp x hx
      have hsq := size_pos hl hq
      have hsx := size_of hq
      simp only [clashU, lastOf, hsu, hsx, Bool.and_eq_true, decide_eq_true_eq] at hc
      obtain ⟨⟨c1, c2⟩, c3⟩ := hc
      obtain ⟨m, hm1, hm2, hm3, hm4⟩ : ∃ m : Int, u.addr ≤ m ∧ m < u.addr + p.size ∧ x.addr ≤ m ∧ m < x.addr + q.size := by
        by_cases c : u.addr ≤ x.addr
        · exact ⟨x.addr, c, by omega, by omega, by omega⟩
        · exact ⟨u.addr, by omega, by omega, by omega, by omega⟩
      have := (hf m hm1 (by omega)).2
      have : usedB (usOf lib pre) u.univ m = true := by
        unfold usedB
        rw [List.any_eq_true]
        exact ⟨(x, sizeOf' lib x), List.mem_map.2 ⟨x, hx, rfl⟩, by simp only [hsx, Bool.and_eq_true, decide_eq_true_eq]; exact ⟨c1, hm3, hm4⟩⟩
      simp_all
    · intro hf
      by_cases c : ∃ x ∈ pre, clashU lib u x = true
      · exact c
      · refine absurd (fun m h1 h2 => ⟨by omega, ?_⟩) hf
        unfold usedB
        rw [List.any_eq_false]
        intro y hy
        obtain ⟨x, hx, rfl⟩ := List.mem_map.1 hy
        obtain ⟨q, hq⟩ := hp x hx
        have hsx := size_of hq
        intro hcon
        simp only [hsx, Bool.and_eq_true, decide_eq_true_eq] at hcon
        obtain ⟨c1, c2, c3⟩ := hcon
        refine c ⟨x, hx, ?_⟩
        simp only [clashU, lastOf, hsu, hsx, Bool.and_eq_true, decide_eq_true_eq]
        exact ⟨⟨c1, by omega⟩, by omega⟩
  cases h : freeN (usedB (usOf lib pre) u.univ) u.addr p.size.toNat <;> simp_all
theorem clash_none {lib : List Prf} (pre : List Unt) (u : Unt) (h : ∀ x ∈ usOf lib pre, x.1.univ ≠ u.univ) : pre.any (clashU lib u) = false := by
  rw [List.any_eq_false]
  intro x hx
  have := h (x, sizeOf' lib x) (List.mem_map.2 ⟨x, hx, rfl⟩)
  simp [clashU, this]
theorem pre_known {lib : List Prf} {units : List Unt} {k : Nat} (hk : k ≤ units.length) (h : ∀ j (hj : j < units.length), j < k → untF lib (units.take j) units[j] = 0) : ∀ x ∈ units.take k, ∃ p, profOf lib x.nm = some p := by
  intro x hx
  obtain ⟨j, hj, rfl⟩ := List.getElem_of_mem hx
  rw [List.length_take] at hj
  have h1 := h j (by omega) (by omega)
  obtain ⟨_, _, ⟨p, hp, _⟩, _⟩ := untF_zero h1
  exact ⟨p, by rw [List.getElem_take]; exact hp⟩
theorem parS_shape {B : Nat} {w : World} {v : Value} {l : List Par} (h : ParS B w v l) : ∃ ao cap, v = .slice ao l.length cap := by
  obtain ⟨lv, hlv, hcs, _⟩ := h
  obtain ⟨ao, cap, rfl, _⟩ := CellsS.shape hcs
  exact ⟨ao, cap, by rw [← hlv]; simp⟩
theorem prfS_shape {B : Nat} {w : World} {v : Value} {l : List Prf} (h : PrfS B w v l) : ∃ ao cap, v = .slice ao l.length cap := by
  obtain ⟨lv, hlv, hcs, _⟩ := h
  obtain ⟨ao, cap, rfl, _⟩ := CellsS.shape hcs
  exact ⟨ao, cap, by rw [← hlv]; simp⟩
theorem usOf_len (lib : List Prf) (l : List Unt) : (usOf lib l).length = l.length := by simp [usOf]
end Go.Proofs.YtppbagllhmeenaaGreatDoor

namespace Go.Proofs.YtppbagllhmeenaaGreatDoor
open Go.RowKit
set_option linter.unusedVariables false
set_option linter.unusedSimpArgs false

/-- the index, counted from i; -1: there is none -/
def idxF {α : Type} (t : α → Bool) : List α → Nat → Int
  | [], _ => -1
  | x :: l, i => if t x then (i : Int) else idxF t l (i + 1)
theorem idxF_step {α : Type} (t : α → Bool) (l : List α) (k : Nat) (h : k < l.length) : idxF t (l.drop k) k = if t l[k] then (k : Int) else idxF t (l.drop (k + 1)) (k + 1) := by
  rw [List.drop_eq_getElem_cons h]; rfl
theorem idxF_yes {α : Type} (t : α → Bool) (l : List α) (k : Nat) (h : k < l.length) (ht : t l[k] = true) : idxF t (l.drop k) k = (k : Int) := by rw [idxF_step t l k h, ht]; rfl
theorem idxF_no {α : Type} (t : α → Bool) (l : List α) (k : Nat) (h : k < l.length) (ht : t l[k] = false) : idxF t (l.drop k) k = idxF t (l.drop (k + 1)) (k + 1) := by rw [idxF_step t l k h, ht]; rfl
theorem idxF_end {α : Type} (t : α → Bool) (l : List α) (k : Nat) (h : l.length ≤ k) : idxF t (l.drop k) k = -1 := by rw [List.drop_of_length_le h]; rfl
theorem idxF_from {α : Type} (t : α → Bool) (l : List α) : ∀ i : Nat, (idxF t l i = -1 ∧ l.find? t = none) ∨ ∃ (k : Nat) (h : k < l.length), idxF t l i = ((i + k : Nat) : Int) ∧ l.find? t = some l[k] := by
  induction l with
  | nil => intro i; exact .inl ⟨rfl, rfl⟩
  | cons x l ih =>
    intro i
    cases hx : t x
    · rcases ih (i + 1) with ⟨h1, h2⟩ | ⟨k, hk, h1, h2⟩
      · exact .inl ⟨by simp only [idxF, hx]; simpa using h1, by rw [List.find?_cons, hx]; exact h2⟩
      · refine .inr ⟨k + 1, by simpa using hk, ?_, by rw [List.find?_cons, hx]; simpa using h2⟩
        simp only [idxF, hx]
        rw [show i + (k + 1) = i + 1 + k by omega]
        simpa using h1
    · exact .inr ⟨0, by simp, by simp [idxF, hx], by simp [hx]⟩
theorem idxF_spec {α : Type} (t : α → Bool) (l : List α) : (idxF t l 0 = -1 ∧ l.find? t = none) ∨ ∃ (k : Nat) (h : k < l.length), idxF t l 0 = (k : Int) ∧ l.find? t = some l[k] := by
  rcases idxF_from t l 0 with h | ⟨k, hk, h1, h2⟩
  · exact .inl h
  · exact .inr ⟨k, hk, by simpa using h1, h2⟩
end Go.Proofs.YtppbagllhmeenaaGreatDoor
