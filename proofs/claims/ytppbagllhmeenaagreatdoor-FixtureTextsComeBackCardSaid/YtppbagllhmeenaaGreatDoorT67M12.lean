/- The marked slots of universes: a map from numbers to rows of marks. (printed by wip/gen/gen_slots.py) Clashes of units are marks that are taken. No walk in it. The index of the first element that passes a test. No program in it. -/
import Derived.Test.YtppbagllhmeenaaGreatDoorT67M11
import Derived.Test.YtppbagllhmeenaaGreatDoorT67M07

namespace Go.Proofs.YtppbagllhmeenaaGreatDoor
open Go.RowKit
set_option linter.unusedVariables false
set_option linter.unusedSimpArgs false

/-- a row of 513 marks -/
def SlotsAt (w : World) (g : Nat) (m : Int → Bool) : Prop := ∀ j : Nat, j ≤ 512 → w.cell? ⟨g, j, none⟩ = some (.bool (m j)) ∧ w.frozen? ⟨g, j, none⟩ = false
theorem SlotsAt.same {w w' : World} {g : Nat} {m : Int → Bool} (h : SlotsAt w g m) (hb : w'.heap[g]? = w.heap[g]?) : SlotsAt w' g m := fun j hj =>
  ⟨(World.cell?_of_block (a := ⟨g, j, none⟩) hb).trans (h j hj).1, (World.frozen?_of_block (a := ⟨g, j, none⟩) hb).trans (h j hj).2⟩
theorem SlotsAt.cast {w : World} {g : Nat} {m m' : Int → Bool} (h : SlotsAt w g m) (hm : ∀ j, m' j = m j) : SlotsAt w g m' := fun j hj => by
  rw [hm]; exact h j hj
/-- are the slots from a on free, n of them? -/
def freeN (m : Int → Bool) : Int → Nat → Bool
  | _, 0 => true
  | a, n + 1 => decide (a ≤ 512) && (!m a && freeN m (a + 1) n)
theorem freeN_iff (m : Int → Bool) (n : Nat) : ∀ a : Int, freeN m a n = true ↔ ∀ k : Int, a ≤ k → k < a + n → k ≤ 512 ∧ m k = false := by
  induction n with
  | zero => intro a; simp only [freeN, true_iff]; intro k h1 h2; omega
  | succ n ih =>
    intro a
    simp only [freeN, Bool.and_eq_true, decide_eq_true_eq, Bool.not_eq_true', ih (a + 1)]
    constructor
    · rintro ⟨h1, h2, h3⟩ k h4 h5
      by_cases c : k = a
      · subst c; exact ⟨h1, h2⟩
      · exact h3 k (by omega) (by omega)
    · intro h
      have h1 := h a (by omega) (by omega)
      exact ⟨h1.1, h1.2, fun k h4 h5 => h k (by omega) (by omega)⟩
/-- the mark of slot k of universe U, by units and their sizes -/
def usedB (us : List (Unt × Int)) (U k : Int) : Bool := us.any (fun x => decide (x.1.univ = U) && (decide (x.1.addr ≤ k) && decide (k < x.1.addr + x.2)))
theorem usedB_other (us : List (Unt × Int)) (u : Unt) (s U k : Int) (h : u.univ ≠ U) : usedB (us ++ [(u, s)]) U k = usedB us U k := by
  simp [usedB, h]
theorem usedB_same (us : List (Unt × Int)) (u : Unt) (s k : Int) : usedB (us ++ [(u, s)]) u.univ k = (usedB us u.univ k || (decide (u.addr ≤ k) && decide (k < u.addr + s))) := by
  simp [usedB]
theorem usedB_none (us : List (Unt × Int)) (U k : Int) (h : ∀ x ∈ us, x.1.univ ≠ U) : usedB us U k = false := by
  unfold usedB
  rw [List.any_eq_false]
  intro x hx
  simp [h x hx]
def ptrV (g : Nat) : Value := .pointer (some ⟨g, 0, none⟩)
def UsedU (base : Nat) (w : World) (mb : Nat) (us : List (Unt × Int)) (f : Lit → Option Value) (U : Int) : Prop :=
  (f (.int .i64 U) = none ∧ ∀ x ∈ us, x.1.univ ≠ U) ∨ ∃ g, f (.int .i64 U) = some (ptrV g) ∧ base ≤ g ∧ g ≠ mb ∧ g < w.heap.size ∧ SlotsAt w g (usedB us U)
/-- block mb is a map from universes to their rows of marks, from block base on -/
def UsedS (base : Nat) (w : World) (mb : Nat) (us : List (Unt × Int)) : Prop :=
  ∃ n f, n ≤ us.length ∧ MapM w Tryz.prog 3 mb n f ∧ (∀ U, UsedU base w mb us f U) ∧ ∀ U V g, f (.int .i64 U) = some (ptrV g) → f (.int .i64 V) = some (ptrV g) → U = V
theorem ptrV_inj {g h : Nat} (e : ptrV g = ptrV h) : g = h := by unfold ptrV at e; simpa using e
theorem keyLitI_ (U : Int) : WideAt.IsKeyLit (.int .i64 U) := trivial
theorem litI_ne {U V : Int} (h : U ≠ V) : Lit.int .i64 U ≠ Lit.int .i64 V := fun e => h (by injection e)
theorem used_made (base : Nat) (w : World) : UsedS base (w.alloc (.map #[] 0)) w.heap.size [] :=
  ⟨0, fun _ => none, by simp, mapM_made w _ _, fun U => .inl ⟨rfl, by simp⟩, fun U V g h => by cases h⟩
theorem UsedS.keep {base mb : Nat} {w w' : World} {us : List (Unt × Int)} (h : UsedS base w mb us) (hs : w.heap.size ≤ w'.heap.size) (hb : ∀ b, (b = mb ∨ base ≤ b) → b < w.heap.size → w'.heap[b]? = w.heap[b]?) : UsedS base w' mb us := by
  obtain ⟨n, f, h1, h2, h3, h4⟩ := h
  refine ⟨n, f, h1, h2.same (hb _ (.inl rfl) h2.lt), fun U => ?_, h4⟩
  rcases h3 U with h | ⟨g, e1, e2, e3, e4, e5⟩
  · exact .inl h
  · exact .inr ⟨g, e1, e2, e3, by omega, e5.same (hb g (.inr e2) e4)⟩
theorem UsedS.below {base mb : Nat} {w w' : World} {us : List (Unt × Int)} (h : UsedS base w mb us) (hb : Below w.heap.size w w') : UsedS base w' mb us := h.keep hb.size (fun b _ hl => hb.block b hl)
theorem UsedS.alloc {base mb : Nat} {w : World} {us : List (Unt × Int)} (h : UsedS base w mb us) (o : Obj) : UsedS base (w.alloc o) mb us := h.below ((Below.refl _ _).alloc (Nat.le_refl _) o)
theorem UsedS.drewN {base mb : Nat} {w : World} {us : List (Unt × Int)} (h : UsedS base w mb us) (n : Nat) : UsedS base (w.drewN n) mb us := h.keep (Nat.le_refl _) (fun _ _ _ => rfl)
theorem UsedS.lt {base mb : Nat} {w : World} {us : List (Unt × Int)} (h : UsedS base w mb us) : mb < w.heap.size := by
  obtain ⟨n, f, h1, h2, _⟩ := h
  exact h2.lt
def markK (m : Int → Bool) (a k : Int) : Int → Bool := fun j => m j || (decide (a ≤ j) && decide (j < k))
theorem markK_start (m : Int → Bool) (a j : Int) : markK m a a j = m j := by
  unfold markK
  by_cases h1 : a ≤ j
  · have : ¬ j < a := by omega
    simp [h1, this]
  · simp [h1]
/-- a further unit, in a universe that has a row -/
theorem UsedS.more_old {base mb g : Nat} {w w' : World} {us : List (Unt × Int)} {u : Unt} {s : Int} {n : Nat} {f : Lit → Option Value} (hn : n ≤ us.length) (hM : MapM w Tryz.prog 3 mb n f) (hU : ∀ U, UsedU base w mb us f U)
    (hI : ∀ U V g, f (.int .i64 U) = some (ptrV g) → f (.int .i64 V) = some (ptrV g) → U = V) (hf : f (.int .i64 u.univ) = some (ptrV g)) (hsz : w.heap.size ≤ w'.heap.size) (hg : g ≠ mb) (hbg : base ≤ g) (hgl : g < w'.heap.size) (hb : ∀ b, b ≠ g → b < w.heap.size → w'.heap[b]? = w.heap[b]?)
    (hS : SlotsAt w' g (markK (usedB us u.univ) u.addr (u.addr + s))) : UsedS base w' mb (us ++ [(u, s)]) := by
  refine ⟨n, f, by simp; omega, hM.same (hb mb (Ne.symm hg) hM.lt), fun U => ?_, hI⟩
  by_cases c : U = u.univ
  · subst c
    exact .inr ⟨g, hf, hbg, hg, hgl, hS.cast (fun j => usedB_same us u s j)⟩
  · rcases hU U with ⟨h1, h2⟩ | ⟨g', e1, e2, e3, e4, e5⟩
    · refine .inl ⟨h1, fun x hx => ?_⟩
      simp only [List.mem_append, List.mem_singleton] at hx
      rcases hx with hx | rfl
      · exact h2 x hx
      · exact fun e => c e.symm
    · have hgg : g' ≠ g := fun e => c (hI U u.univ g (by rw [e1, e]) hf)
      exact .inr ⟨g', e1, e2, e3, by omega, (e5.same (hb g' hgg e4)).cast (fun j => usedB_other us u s U j (fun e => c e.symm))⟩
/-- a further unit, in a universe without a row: its row is block g, a new one -/
theorem UsedS.more_new {base mb g : Nat} {w w' : World} {us : List (Unt × Int)} {u : Unt} {s : Int} {n : Nat} {f : Lit → Option Value} (hn : n ≤ us.length) (hU : ∀ U, UsedU base w mb us f U)
    (hI : ∀ U V g, f (.int .i64 U) = some (ptrV g) → f (.int .i64 V) = some (ptrV g) → U = V) (hf : f (.int .i64 u.univ) = none) (hsz : w.heap.size ≤ w'.heap.size) (hg : g ≠ mb) (hbg : base ≤ g) (hnew : w.heap.size ≤ g) (hgl : g < w'.heap.size) (hb : ∀ b, b ≠ mb → b < w.heap.size → w'.heap[b]? = w.heap[b]?)
    (hM : MapM w' Tryz.prog 3 mb (n + 1) (putF f (.int .i64 u.univ) (ptrV g))) (hS : SlotsAt w' g (markK (fun _ => false) u.addr (u.addr + s))) : UsedS base w' mb (us ++ [(u, s)]) := by
  have hno : ∀ x ∈ us, x.1.univ ≠ u.univ := by
    rcases hU u.univ with ⟨_, h2⟩ | ⟨g', e1, _⟩
    · exact h2
    · rw [hf] at e1; cases e1
  refine ⟨n + 1, _, by simp; omega, hM, fun U => ?_, fun U V g1 h1 h2 => ?_⟩
  · by_cases c : U = u.univ
    · subst c
      refine .inr ⟨g, putF_same (keyLitI_ _), hbg, hg, hgl, hS.cast (fun j => ?_)⟩
      rw [usedB_same us u s j, usedB_none us _ j hno]
      rfl
    · rcases hU U with ⟨h1, h2⟩ | ⟨g', e1, e2, e3, e4, e5⟩
      · refine .inl ⟨(putF_other (litI_ne c)).trans h1, fun x hx => ?_⟩
        simp only [List.mem_append, List.mem_singleton] at hx
        rcases hx with hx | rfl
        · exact h2 x hx
        · exact fun e => c e.symm
      · exact .inr ⟨g', (putF_other (litI_ne c)).trans e1, e2, e3, by omega, (e5.same (hb g' e3 e4)).cast (fun j => usedB_other us u s U j (fun e => c e.symm))⟩
  · have old : ∀ U, f (.int .i64 U) = some (ptrV g1) → g1 < w.heap.size := fun U h => by
      rcases hU U with ⟨h1, _⟩ | ⟨g', e1, _, _, e4, _⟩
      · rw [h] at h1; cases h1
      · rw [h] at e1
        have := ptrV_inj (Option.some.inj e1)
        omega
    by_cases c : U = u.univ
    · by_cases d : V = u.univ
      · rw [c, d]
      · rw [putF_other (litI_ne d)] at h2
        rw [c, putF_same (keyLitI_ _)] at h1
        have := ptrV_inj (Option.some.inj h1)
        have := old V h2
        omega
    · rw [putF_other (litI_ne c)] at h1
      by_cases d : V = u.univ
      · rw [d, putF_same (keyLitI_ _)] at h2
        have := ptrV_inj (Option.some.inj h2)
        have := old U h1
        omega
      · rw [putF_other (litI_ne d)] at h2
        exact hI U V g1 h1 h2
/-- a row's cell is marked -/
theorem SlotsAt.mark {w : World} {g : Nat} {m : Int → Bool} {a : Int} {k : Nat} (h : SlotsAt w g (markK m a k)) (ha : a ≤ k) : SlotsAt (w.setCell ⟨g, k, none⟩ (.bool true)) g (markK m a ((k + 1 : Nat) : Int)) := by
  intro j hj
  obtain ⟨h1, h2⟩ := h j hj
  by_cases c : j = k
  · subst c
    refine ⟨?_, (World.frozen?_setCell _ _ _ _).trans h2⟩
    rw [World.cell?_setCell_same _ _ _ h1]
    have : markK m a ((j + 1 : Nat) : Int) (j : Int) = true := by
      unfold markK
      have e1 : decide (a ≤ (j : Int)) = true := by simpa using ha
      have e2 : decide ((j : Int) < ((j + 1 : Nat) : Int)) = true := by simp; omega
      rw [e1, e2]; simp
    rw [this]
  · refine ⟨?_, (World.frozen?_setCell _ _ _ _).trans h2⟩
    rw [World.cell?_setCell_other _ _ _ _ (by intro e; injection e with _ e; exact c e.symm)]
    rw [h1]
    have : markK m a ((k + 1 : Nat) : Int) (j : Int) = markK m a (k : Int) (j : Int) := by
      unfold markK
      congr 2
      simp only [decide_eq_decide]
      omega
    rw [this]
end Go.Proofs.YtppbagllhmeenaaGreatDoor

namespace Go.Proofs.YtppbagllhmeenaaGreatDoor
open Go.RowKit
set_option linter.unusedVariables false
set_option linter.unusedSimpArgs false

def usOf (lib : List Prf) (l : List Unt) : List (Unt × Int) := l.map (fun u => (u, sizeOf' lib u))
theorem usOf_snoc (lib : List Prf) (l : List Unt) (k : Nat) (h : k < l.length) : usOf lib (l.take (k + 1)) = usOf lib (l.take k) ++ [(l[k], sizeOf' lib l[k])] := by
  unfold usOf
  rw [List.take_succ_eq_append_getElem h, List.map_append]; rfl
theorem size_of {lib : List Prf} {u : Unt} {p : Prf} (h : profOf lib u.nm = some p) : sizeOf' lib u = p.size := by simp [sizeOf', h]
theorem size_pos {lib : List Prf} (hl : chkLib lib = 0) {u : Unt} {p : Prf} (h : profOf lib u.nm = some p) : 1 ≤ p.size ∧ p.size ≤ 512 := (chkPrf_zero (chkLib_prf hl (profOf_some h).1)).2.1
/-- units clash just where one's slots are taken already -/
theorem clash_free {lib : List Prf} (hl : chkLib lib = 0) (pre : List Unt) (hp : ∀ x ∈ pre, ∃ p, profOf lib x.nm = some p) (u : Unt) (p : Prf) (hu : profOf lib u.nm = some p) (hb : untBad u p.size = false) :
    pre.any (clashU lib u) = !freeN (usedB (usOf lib pre) u.univ) u.addr p.size.toNat := by
  obtain ⟨b1, b2, b3⟩ := untBad_false hb
  have hs := size_pos hl hu
  have hsu := size_of hu
  have key : pre.any (clashU lib u) = true ↔ ¬ freeN (usedB (usOf lib pre) u.univ) u.addr p.size.toNat = true := by
    rw [freeN_iff, List.any_eq_true]
    constructor
    · rintro ⟨x, hx, hc⟩ hf
      obtain ⟨q, hq⟩ := hp x hx
      have hsq := size_pos hl hq
      have hsx := size_of hq
      simp only [clashU, lastOf, hsu, hsx, Bool.and_eq_true, decide_eq_true_eq] at hc
      obtain ⟨⟨c1, c2⟩, c3⟩ := hc
      obtain ⟨m, hm1, hm2, hm3, hm4⟩ : ∃ m : Int, u.addr ≤ m ∧ m < u.addr + p.size ∧ x.addr ≤ m ∧ m < x.addr + q.size := by
        by_cases c : u.addr ≤ x.addr
        · exact ⟨x.addr, c, by omega, by omega, by omega⟩
        · exact ⟨u.addr, by omega, by omega, by omega, by omega⟩
      have := (hf m hm1 (by omega)).2
      have : usedB (usOf lib pre) u.univ m = true := by
        unfold usedB
        rw [List.any_eq_true]
        exact ⟨(x, sizeOf' lib x), List.mem_map.2 ⟨x, hx, rfl⟩, by simp only [hsx, Bool.and_eq_true, decide_eq_true_eq]; exact ⟨c1, hm3, hm4⟩⟩
      simp_all
    · intro hf
      by_cases c : ∃ x ∈ pre, clashU lib u x = true
      · exact c
      · refine absurd (fun m h1 h2 => ⟨by omega, ?_⟩) hf
        unfold usedB
        rw [List.any_eq_false]
        intro y hy
        obtain ⟨x, hx, rfl⟩ := List.mem_map.1 hy
        obtain ⟨q, hq⟩ := hp x hx
        have hsx := size_of hq
        intro hcon
        simp only [hsx, Bool.and_eq_true, decide_eq_true_eq] at hcon
        obtain ⟨c1, c2, c3⟩ := hcon
        refine c ⟨x, hx, ?_⟩
        simp only [clashU, lastOf, hsu, hsx, Bool.and_eq_true, decide_eq_true_eq]
        exact ⟨⟨c1, by omega⟩, by omega⟩
  cases h : freeN (usedB (usOf lib pre) u.univ) u.addr p.size.toNat <;> simp_all
theorem clash_none {lib : List Prf} (pre : List Unt) (u : Unt) (h : ∀ x ∈ usOf lib pre, x.1.univ ≠ u.univ) : pre.any (clashU lib u) = false := by
  rw [List.any_eq_false]
  intro x hx
  have := h (x, sizeOf' lib x) (List.mem_map.2 ⟨x, hx, rfl⟩)
  simp [clashU, this]
theorem pre_known {lib : List Prf} {units : List Unt} {k : Nat} (hk : k ≤ units.length) (h : ∀ j (hj : j < units.length), j < k → untF lib (units.take j) units[j] = 0) : ∀ x ∈ units.take k, ∃ p, profOf lib x.nm = some p := by
  intro x hx
  obtain ⟨j, hj, rfl⟩ := List.getElem_of_mem hx
  rw [List.length_take] at hj
  have h1 := h j (by omega) (by omega)
  obtain ⟨_, _, ⟨p, hp, _⟩, _⟩ := untF_zero h1
  exact ⟨p, by rw [List.getElem_take]; exact hp⟩
theorem parS_shape {B : Nat} {w : World} {v : Value} {l : List Par} (h : ParS B w v l) : ∃ ao cap, v = .slice ao l.length cap := by
  obtain ⟨lv, hlv, hcs, _⟩ := h
  obtain ⟨ao, cap, rfl, _⟩ := CellsS.shape hcs
  exact ⟨ao, cap, by rw [← hlv]; simp⟩
theorem prfS_shape {B : Nat} {w : World} {v : Value} {l : List Prf} (h : PrfS B w v l) : ∃ ao cap, v = .slice ao l.length cap := by
  obtain ⟨lv, hlv, hcs, _⟩ := h
  obtain ⟨ao, cap, rfl, _⟩ := CellsS.shape hcs
  exact ⟨ao, cap, by rw [← hlv]; simp⟩
theorem usOf_len (lib : List Prf) (l : List Unt) : (usOf lib l).length = l.length := by simp [usOf]
end Go.Proofs.YtppbagllhmeenaaGreatDoor

namespace Go.Proofs.YtppbagllhmeenaaGreatDoor
open Go.RowKit
set_option linter.unusedVariables false
set_option linter.unusedSimpArgs false

/-- the index, counted from i; -1: there is none -/
def idxF {α : Type} (t : α → Bool) : List α → Nat → Int
  | [], _ => -1
  | x :: l, i => if t x then (i : Int) else idxF t l (i + 1)
theorem idxF_step {α : Type} (t : α → Bool) (l : List α) (k : Nat) (h : k < l.length) : idxF t (l.drop k) k = if t l[k] then (k : Int) else idxF t (l.drop (k + 1)) (k + 1) := by
  rw [List.drop_eq_getElem_cons h]; rfl
theorem idxF_yes {α : Type} (t : α → Bool) (l : List α) (k : Nat) (h : k < l.length) (ht : t l[k] = true) : idxF t (l.drop k) k = (k : Int) := by rw [idxF_step t l k h, ht]; rfl
theorem idxF_no {α : Type} (t : α → Bool) (l : List α) (k : Nat) (h : k < l.length) (ht : t l[k] = false) : idxF t (l.drop k) k = idxF t (l.drop (k + 1)) (k + 1) := by rw [idxF_step t l k h, ht]; rfl
theorem idxF_end {α : Type} (t : α → Bool) (l : List α) (k : Nat) (h : l.length ≤ k) : idxF t (l.drop k) k = -1 := by rw [List.drop_of_length_le h]; rfl
theorem idxF_from {α : Type} (t : α → Bool) (l : List α) : ∀ i : Nat, (idxF t l i = -1 ∧ l.find? t = none) ∨ ∃ (k : Nat) (h : k < l.length), idxF t l i = ((i + k : Nat) : Int) ∧ l.find? t = some l[k] := by
  induction l with
  | nil => intro i; exact .inl ⟨rfl, rfl⟩
  | cons x l ih =>
    intro i
    cases hx : t x
    · rcases ih (i + 1) with ⟨h1, h2⟩ | ⟨k, hk, h1, h2⟩
      · exact .inl ⟨by simp only [idxF, hx]; simpa using h1, by rw [List.find?_cons, hx]; exact h2⟩
      · refine .inr ⟨k + 1, by simpa using hk, ?_, by rw [List.find?_cons, hx]; simpa using h2⟩
        simp only [idxF, hx]
        rw [show i + (k + 1) = i + 1 + k by omega]
        simpa using h1
    · exact .inr ⟨0, by simp, by simp [idxF, hx], by simp [hx]⟩
theorem idxF_spec {α : Type} (t : α → Bool) (l : List α) : (idxF t l 0 = -1 ∧ l.find? t = none) ∨ ∃ (k : Nat) (h : k < l.length), idxF t l 0 = (k : Int) ∧ l.find? t = some l[k] := by
  rcases idxF_from t l 0 with h | ⟨k, hk, h1, h2⟩
  · exact .inl h
  · exact .inr ⟨k, hk, by simpa using h1, h2⟩
end Go.Proofs.YtppbagllhmeenaaGreatDoor
