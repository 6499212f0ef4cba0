/- The marked slots of universes: a map from numbers to rows of marks. (printed by wip/gen/gen_slots.py) Clashes of units are marks that are taken. No walk in it. The index of the first element that passes a test. No program in it. fixture.profile: the profile with a name. (printed by wip/gen/gen_index.py) -/
import Derived.Test.YtopmdeefcjdadaaT43M04
import Derived.Test.YtopmdeefcjdadaaT43M01
import Derived.WalkSpells
import Derived.Deep.QuietTactic
import Derived.BigQuiet
import Derived.Lib.Bytes

namespace Go.Proofs.Ytopmdeefcjdadaa
open Go.RowKit
set_option linter.unusedVariables false
set_option linter.unusedSimpArgs false

/-- a row of 513 marks -/
def SlotsAt (w : World) (g : Nat) (m : Int → Bool) : Prop := ∀ j : Nat, j ≤ 512 → w.cell? ⟨g, j, none⟩ = some (.bool (m j)) ∧ w.frozen? ⟨g, j, none⟩ = false
theorem SlotsAt.same {w w' : World} {g : Nat} {m : Int → Bool} (h : SlotsAt w g m) (hb : w'.heap[g]? = w.heap[g]?) : SlotsAt w' g m := fun j hj =>
  ⟨(World.cell?_of_block (a := ⟨g, j, none⟩) hb).trans (h j hj).1, (World.frozen?_of_block (a := ⟨g, j, none⟩) hb).trans (h j hj).2⟩
theorem SlotsAt.cast {w : World} {g : Nat} {m m' : Int → Bool} (h : SlotsAt w g m) (hm : ∀ j, m' j = m j) : SlotsAt w g m' := fun j hj => by
  rw [hm]; exact h j hj
/-- are the slots from a on free, n of them? -/
def freeN (m : Int → Bool) : Int → Nat → Bool
  | _, 0 => true
  | a, n + 1 => decide (a ≤ 512) && (!m a && freeN m (a + 1) n)
theorem freeN_iff (m : Int → Bool) (n : Nat) : ∀ a : Int, freeN m a n = true ↔ ∀ k : Int, a ≤ k → k < a + n → k ≤ 512 ∧ m k = false := by
  induction n with
  | zero => intro a; simp only [freeN, true_iff]; intro k h1 h2; omega
  | succ n ih =>
    intro a
    simp only [freeN, Bool.and_eq_true, decide_eq_true_eq, Bool.not_eq_true', ih (a + 1)]
    constructor
    · rintro ⟨h1, h2, h3⟩ k h4 h5
      by_cases c : k = a
      · subst c; exact ⟨h1, h2⟩
      · exact h3 k (by omega) (by omega)
    · intro h
      have h1 := h a (by omega) (by omega)
      exact ⟨h1.1, h1.2, fun k h4 h5 => h k (by omega) (by omega)⟩
/-- the mark of slot k of universe U, by units and their sizes -/
def usedB (us : List (Unt × Int)) (U k : Int) : Bool := us.any (fun x => decide (x.1.univ = U) && (decide (x.1.addr ≤ k) && decide (k < x.1.addr + x.2)))
theorem usedB_other (us : List (Unt × Int)) (u : Unt) (s U k : Int) (h : u.univ ≠ U) : usedB (us ++ [(u, s)]) U k = usedB us U k := by
  simp [usedB, h]
theorem usedB_same (us : List (Unt × Int)) (u : Unt) (s k : Int) : usedB (us ++ [(u, s)]) u.univ k = (usedB us u.univ k || (decide (u.addr ≤ k) && decide (k < u.addr + s))) := by
  simp [usedB]
theorem usedB_none (us : List (Unt × Int)) (U k : Int) (h : ∀ x ∈ us, x.1.univ ≠ U) : usedB us U k = false := by
  unfold usedB
  rw [List.any_eq_false]
  intro x hx
  simp [h x hx]
def ptrV (g : Nat) : Value := .pointer (some ⟨g, 0, none⟩)
def UsedU (base : Nat) (w : World) (mb : Nat) (us : List (Unt × Int)) (f : Lit → Option Value) (U : Int) : Prop :=
  (f (.int .i64 U) = none ∧ ∀ x ∈ us, x.1.univ ≠ U) ∨ ∃ g, f (.int .i64 U) = some (ptrV g) ∧ base ≤ g ∧ g ≠ mb ∧ g < w.heap.size ∧ SlotsAt w g (usedB us U)
/-- block mb is a map from universes to their rows of marks, from block base on -/
def UsedS (base : Nat) (w : World) (mb : Nat) (us : List (Unt × Int)) : Prop :=
  ∃ n f, n ≤ us.length ∧ MapM w Try.prog 3 mb n f ∧ (∀ U, UsedU base w mb us f U) ∧ ∀ U V g, f (.int .i64 U) = some (ptrV g) → f (.int .i64 V) = some (ptrV g) → U = V
theorem ptrV_inj {g h : Nat} (e : ptrV g = ptrV h) : g = h := by unfold ptrV at e; simpa using e
theorem keyLitI_ (U : Int) : WideAt.IsKeyLit (.int .i64 U) := trivial
theorem litI_ne {U V : Int} (h : U ≠ V) : Lit.int .i64 U ≠ Lit.int .i64 V := fun e => h (by injection e)
theorem used_made (base : Nat) (w : World) : UsedS base (w.alloc (.map #[] 0)) w.heap.size [] :=
  ⟨0, fun _ => none, by simp, mapM_made w _ _, fun U => .inl ⟨rfl, by simp⟩, fun U V g h => by cases h⟩
theorem UsedS.keep {base mb : Nat} {w w' : World} {us : List (Unt × Int)} (h : UsedS base w mb us) (hs : w.heap.size ≤ w'.heap.size) (hb : ∀ b, (b = mb ∨ base ≤ b) → b < w.heap.size → w'.heap[b]? = w.heap[b]?) : UsedS base w' mb us := by
  obtain ⟨n, f, h1, h2, h3, h4⟩ := h
  refine ⟨n, f, h1, h2.same (hb _ (.inl rfl) h2.lt), fun U => ?_, h4⟩
  rcases h3 U with h | ⟨g, e1, e2, e3, e4, e5⟩
  · exact .inl h
  · exact .inr ⟨g, e1, e2, e3, by omega, e5.same (hb g (.inr e2) e4)⟩
theorem UsedS.below {base mb : Nat} {w w' : World} {us : List (Unt × Int)} (h : UsedS base w mb us) (hb : Below w.heap.size w w') : UsedS base w' mb us := h.keep hb.size (fun b _ hl => hb.block b hl)
theorem UsedS.alloc {base mb : Nat} {w : World} {us : List (Unt × Int)} (h : UsedS base w mb us) (o : Obj) : UsedS base (w.alloc o) mb us := h.below ((Below.refl _ _).alloc (Nat.le_refl _) o)
theorem UsedS.drewN {base mb : Nat} {w : World} {us : List (Unt × Int)} (h : UsedS base w mb us) (n : Nat) : UsedS base (w.drewN n) mb us := h.keep (Nat.le_refl _) (fun _ _ _ => rfl)
theorem UsedS.lt {base mb : Nat} {w : World} {us : List (Unt × Int)} (h : UsedS base w mb us) : mb < w.heap.size := by
  obtain ⟨n, f, h1, h2, _⟩ := h
  exact h2.lt
def markK (m : Int → Bool) (a k : Int) : Int → Bool := fun j => m j || (decide (a ≤ j) && decide (j < k))
theorem markK_start (m : Int → Bool) (a j : Int) : markK m a a j = m j := by
  unfold markK
  by_cases h1 : a ≤ j
  · have : ¬ j < a := by omega
    simp [h1, this]
  · simp [h1]
/-- a further unit, in a universe that has a row -/
theorem UsedS.more_old {base mb g : Nat} {w w' : World} {us : List (Unt × Int)} {u : Unt} {s : Int} {n : Nat} {f : Lit → Option Value} (hn : n ≤ us.length) (hM : MapM w Try.prog 3 mb n f) (hU : ∀ U, UsedU base w mb us f U)
    (hI : ∀ U V g, f (.int .i64 U) = some (ptrV g) → f (.int .i64 V) = some (ptrV g) → U = V) (hf : f (.int .i64 u.univ) = some (ptrV g)) (hsz : w.heap.size ≤ w'.heap.size) (hg : g ≠ mb) (hbg : base ≤ g) (hgl : g < w'.heap.size) (hb : ∀ b, b ≠ g → b < w.heap.size → w'.heap[b]? = w.heap[b]?)
    (hS : SlotsAt w' g (markK (usedB us u.univ) u.addr (u.addr + s))) : UsedS base w' mb (us ++ [(u, s)]) := by
  refine ⟨n, f, by simp; omega, hM.same (hb mb (Ne.symm hg) hM.lt), fun U => ?_, hI⟩
  by_cases c : U = u.univ
  · subst c
    exact .inr ⟨g, hf, hbg, hg, hgl, hS.cast (fun j => usedB_same us u s j)⟩
  · rcases hU U with ⟨h1, h2⟩ | ⟨g', e1, e2, e3, e4, e5⟩
    · refine .inl ⟨h1, fun x hx => ?_⟩
      simp only [List.mem_append, List.mem_singleton] at hx
      rcases hx with hx | rfl
      · exact h2 x hx
      · exact fun e => c e.symm
    · have hgg : g' ≠ g := fun e => c (hI U u.univ g (by rw [e1, e]) hf)
      exact .inr ⟨g', e1, e2, e3, by omega, (e5.same (hb g' hgg e4)).cast (fun j => usedB_other us u s U j (fun e => c e.symm))⟩
/-- a further unit, in a universe without a row: its row is block g, a new one -/
theorem UsedS.more_new {base mb g : Nat} {w w' : World} {us : List (Unt × Int)} {u : Unt} {s : Int} {n : Nat} {f : Lit → Option Value} (hn : n ≤ us.length) (hU : ∀ U, UsedU base w mb us f U)
    (hI : ∀ U V g, f (.int .i64 U) = some (ptrV g) → f (.int .i64 V) = some (ptrV g) → U = V) (hf : f (.int .i64 u.univ) = none) (hsz : w.heap.size ≤ w'.heap.size) (hg : g ≠ mb) (hbg : base ≤ g) (hnew : w.heap.size ≤ g) (hgl : g < w'.heap.size) (hb : ∀ b, b ≠ mb → b < w.heap.size → w'.heap[b]? = w.heap[b]?)
    (hM : MapM w' Try.prog 3 mb (n + 1) (putF f (.int .i64 u.univ) (ptrV g))) (hS : SlotsAt w' g (markK (fun _ => false) u.addr (u.addr + s))) : UsedS base w' mb (us ++ [(u, s)]) := by
  have hno : ∀ x ∈ us, x.1.univ ≠ u.univ := by
    rcases hU u.univ with ⟨_, h2⟩ | ⟨g', e1, _⟩
    · exact h2
    · rw [hf] at e1; cases e1
  refine ⟨n + 1, _, by simp; omega, hM, fun U => ?_, fun U V g1 h1 h2 => ?_⟩
  · by_cases c : U = u.univ
    · subst c
      refine .inr ⟨g, putF_same (keyLitI_ _), hbg, hg, hgl, hS.cast (fun j => ?_)⟩
      rw [usedB_same us u s j, usedB_none us _ j hno]
      rfl
    · rcases hU U with ⟨h1, h2⟩ | ⟨g', e1, e2, e3, e4, e5⟩
      · refine .inl ⟨(putF_other (litI_ne c)).trans h1, fun x hx => ?_⟩
        simp only [List.mem_append, List.mem_singleton] at hx
        rcases hx with hx | rfl
        · exact h2 x hx
        · exact fun e => c e.symm
      · exact .inr ⟨g', (putF_other (litI_ne c)).trans e1, e2, e3, by omega, (e5.same (hb g' e3 e4)).cast (fun j => usedB_other us u s U j (fun e => c e.symm))⟩
  · have old : ∀ U, f (.int .i64 U) = some (ptrV g1) → g1 < w.heap.size := fun U h => by
      rcases hU U with ⟨h1, _⟩ | ⟨g', e1, _, _, e4, _⟩
      · rw [h] at h1; cases h1
      · rw [h] at e1
        have := ptrV_inj (Option.some.inj e1)
        omega
    by_cases c : U = u.univ
    · by_cases d : V = u.univ
      · rw [c, d]
      · rw [putF_other (litI_ne d)] at h2
        rw [c, putF_same (keyLitI_ _)] at h1
        have := ptrV_inj (Option.some.inj h1)
        have := old V h2
        omega
    · rw [putF_other (litI_ne c)] at h1
      by_cases d : V = u.univ
      · rw [d, putF_same (keyLitI_ _)] at h2
        have := ptrV_inj (Option.some.inj h2)
        have := old U h1
        omega
      · rw [putF_other (litI_ne d)] at h2
        exact hI U V g1 h1 h2
/-- a row's cell is marked -/
theorem SlotsAt.mark {w : World} {g : Nat} {m : Int → Bool} {a : Int} {k : Nat} (h : SlotsAt w g (markK m a k)) (ha : a ≤ k) : SlotsAt (w.setCell ⟨g, k, none⟩ (.bool true)) g (markK m a ((k + 1 : Nat) : Int)) := by
  intro j hj
  obtain ⟨h1, h2⟩ := h j hj
  by_cases c : j = k
  · subst c
    refine ⟨?_, (World.frozen?_setCell _ _ _ _).trans h2⟩
    rw [World.cell?_setCell_same _ _ _ h1]
    have : markK m a ((j + 1 : Nat) : Int) (j : Int) = true := by
      unfold markK
      have e1 : decide (a ≤ (j : Int)) = true := by simpa using ha
      have e2 : decide ((j : Int) < ((j + 1 : Nat) : Int)) = true := by simp; omega
      rw [e1, e2]; simp
    rw [this]
  · refine ⟨?_, (World.frozen?_setCell _ _ _ _).trans h2⟩
    rw [World.cell?_setCell_other _ _ _ _ (by intro e; injection e with _ e; exact c e.symm)]
    rw [h1]
    have : markK m a ((k + 1 : Nat) : Int) (j : Int) = markK m a (k : Int) (j : Int) := by
      unfold markK
      congr 2
      simp only [decide_eq_decide]
      omega
    rw [this]
end Go.Proofs.Ytopmdeefcjdadaa

namespace Go.Proofs.Ytopmdeefcjdadaa
open Go.RowKit
set_option linter.unusedVariables false
set_option linter.unusedSimpArgs false

def usOf (lib : List Prf) (l : List Unt) : List (Unt × Int) := l.map (fun u => (u, sizeOf' lib u))
theorem usOf_snoc (lib : List Prf) (l : List Unt) (k : Nat) (h : k < l.length) : usOf lib (l.take (k + 1)) = usOf lib (l.take k) ++ [(l[k], sizeOf' lib l[k])] := by
  unfold usOf
  rw [List.take_succ_eq_append_getElem h, List.map_append]; rfl
theorem size_of {lib : List Prf} {u : Unt} {p : Prf} (h : profOf lib u.nm = some p) : sizeOf' lib u = p.size := by simp [sizeOf', h]
theorem size_pos {lib : List Prf} (hl : chkLib lib = 0) {u : Unt} {p : Prf} (h : profOf lib u.nm = some p) : 1 ≤ p.size ∧ p.size ≤ 512 := (chkPrf_zero (chkLib_prf hl (profOf_some h).1)).2.1
/-- units clash just where one's slots are taken already -/
theorem clash_free {lib : List Prf} (hl : chkLib lib = 0) (pre : List Unt) (hp : ∀ x ∈ pre, ∃ p, profOf lib x.nm = some p) (u : Unt) (p : Prf) (hu : profOf lib u.nm = some p) (hb : untBad u p.size = false) :
    pre.any (clashU lib u) = !freeN (usedB (usOf lib pre) u.univ) u.addr p.size.toNat := by
  obtain ⟨b1, b2, b3⟩ := untBad_false hb
  have hs := size_pos hl hu
  have hsu := size_of hu
  have key : pre.any (clashU lib u) = true ↔ ¬ freeN (usedB (usOf lib pre) u.univ) u.addr p.size.toNat = true := by
    rw [freeN_iff, List.any_eq_true]
    constructor
    · rintro ⟨x, hx, hc⟩ hf
      obtain ⟨q, hq⟩ := hp x hx
      have hsq := size_pos hl hq
      have hsx := size_of hq
      simp only [clashU, lastOf, hsu, hsx, Bool.and_eq_true, decide_eq_true_eq] at hc
      obtain ⟨⟨c1, c2⟩, c3⟩ := hc
      obtain ⟨m, hm1, hm2, hm3, hm4⟩ : ∃ m : Int, u.addr ≤ m ∧ m < u.addr + p.size ∧ x.addr ≤ m ∧ m < x.addr + q.size := by
        by_cases c : u.addr ≤ x.addr
        · exact ⟨x.addr, c, by omega, by omega, by omega⟩
        · exact ⟨u.addr, by omega, by omega, by omega, by omega⟩
      have := (hf m hm1 (by omega)).2
      have : usedB (usOf lib pre) u.univ m = true := by
        unfold usedB
        rw [List.any_eq_true]
        exact ⟨(x, sizeOf' lib x), List.mem_map.2 ⟨x, hx, rfl⟩, by simp only [hsx, Bool.and_eq_true, decide_eq_true_eq]; exact ⟨c1, hm3, hm4⟩⟩
      simp_all
    · intro hf
      by_cases c : ∃ x ∈ pre, clashU lib u x = true
      · exact c
      · refine absurd (fun m h1 h2 => ⟨by omega, ?_⟩) hf
        unfold usedB
        rw [List.any_eq_false]
        intro y hy
        obtain ⟨x, hx, rfl⟩ := List.mem_map.1 hy
        obtain ⟨q, hq⟩ := hp x hx
        have hsx := size_of hq
        intro hcon
        simp only [hsx, Bool.and_eq_true, decide_eq_true_eq] at hcon
        obtain ⟨c1, c2, c3⟩ := hcon
        refine c ⟨x, hx, ?_⟩
        simp only [clashU, lastOf, hsu, hsx, Bool.and_eq_true, decide_eq_true_eq]
        exact ⟨⟨c1, by omega⟩, by omega⟩
  cases h : freeN (usedB (usOf lib pre) u.univ) u.addr p.size.toNat <;> simp_all
theorem clash_none {lib : List Prf} (pre : List Unt) (u : Unt) (h : ∀ x ∈ usOf lib pre, x.1.univ ≠ u.univ) : pre.any (clashU lib u) = false := by
  rw [List.any_eq_false]
  intro x hx
  have := h (x, sizeOf' lib x) (List.mem_map.2 ⟨x, hx, rfl⟩)
  simp [clashU, this]
theorem pre_known {lib : List Prf} {units : List Unt} {k : Nat} (hk : k ≤ units.length) (h : ∀ j (hj : j < units.length), j < k → untF lib (units.take j) units[j] = 0) : ∀ x ∈ units.take k, ∃ p, profOf lib x.nm = some p := by
  intro x hx
  obtain ⟨j, hj, rfl⟩ := List.getElem_of_mem hx
  rw [List.length_take] at hj
  have h1 := h j (by omega) (by omega)
  obtain ⟨_, _, ⟨p, hp, _⟩, _⟩ := untF_zero h1
  exact ⟨p, by rw [List.getElem_take]; exact hp⟩
theorem parS_shape {B : Nat} {w : World} {v : Value} {l : List Par} (h : ParS B w v l) : ∃ ao cap, v = .slice ao l.length cap := by
  obtain ⟨lv, hlv, hcs, _⟩ := h
  obtain ⟨ao, cap, rfl, _⟩ := CellsS.shape hcs
  exact ⟨ao, cap, by rw [← hlv]; simp⟩
theorem prfS_shape {B : Nat} {w : World} {v : Value} {l : List Prf} (h : PrfS B w v l) : ∃ ao cap, v = .slice ao l.length cap := by
  obtain ⟨lv, hlv, hcs, _⟩ := h
  obtain ⟨ao, cap, rfl, _⟩ := CellsS.shape hcs
  exact ⟨ao, cap, by rw [← hlv]; simp⟩
theorem usOf_len (lib : List Prf) (l : List Unt) : (usOf lib l).length = l.length := by simp [usOf]
end Go.Proofs.Ytopmdeefcjdadaa

namespace Go.Proofs.Ytopmdeefcjdadaa
open Go.RowKit
set_option linter.unusedVariables false
set_option linter.unusedSimpArgs false

/-- the index, counted from i; -1: there is none -/
def idxF {α : Type} (t : α → Bool) : List α → Nat → Int
  | [], _ => -1
  | x :: l, i => if t x then (i : Int) else idxF t l (i + 1)
theorem idxF_step {α : Type} (t : α → Bool) (l : List α) (k : Nat) (h : k < l.length) : idxF t (l.drop k) k = if t l[k] then (k : Int) else idxF t (l.drop (k + 1)) (k + 1) := by
  rw [List.drop_eq_getElem_cons h]; rfl
theorem idxF_yes {α : Type} (t : α → Bool) (l : List α) (k : Nat) (h : k < l.length) (ht : t l[k] = true) : idxF t (l.drop k) k = (k : Int) := by rw [idxF_step t l k h, ht]; rfl
theorem idxF_no {α : Type} (t : α → Bool) (l : List α) (k : Nat) (h : k < l.length) (ht : t l[k] = false) : idxF t (l.drop k) k = idxF t (l.drop (k + 1)) (k + 1) := by rw [idxF_step t l k h, ht]; rfl
theorem idxF_end {α : Type} (t : α → Bool) (l : List α) (k : Nat) (h : l.length ≤ k) : idxF t (l.drop k) k = -1 := by rw [List.drop_of_length_le h]; rfl
theorem idxF_from {α : Type} (t : α → Bool) (l : List α) : ∀ i : Nat, (idxF t l i = -1 ∧ l.find? t = none) ∨ ∃ (k : Nat) (h : k < l.length), idxF t l i = ((i + k : Nat) : Int) ∧ l.find? t = some l[k] := by
  induction l with
  | nil => intro i; exact .inl ⟨rfl, rfl⟩
  | cons x l ih =>
    intro i
    cases hx : t x
    · rcases ih (i + 1) with ⟨h1, h2⟩ | ⟨k, hk, h1, h2⟩
      · exact .inl ⟨by simp only [idxF, hx]; simpa using h1, by rw [List.find?_cons, hx]; exact h2⟩
      · refine .inr ⟨k + 1, by simpa using hk, ?_, by rw [List.find?_cons, hx]; simpa using h2⟩
        simp only [idxF, hx]
        rw [show i + (k + 1) = i + 1 + k by omega]
        simpa using h1
    · exact .inr ⟨0, by simp, by simp [idxF, hx], by simp [hx]⟩
theorem idxF_spec {α : Type} (t : α → Bool) (l : List α) : (idxF t l 0 = -1 ∧ l.find? t = none) ∨ ∃ (k : Nat) (h : k < l.length), idxF t l 0 = (k : Int) ∧ l.find? t = some l[k] := by
  rcases idxF_from t l 0 with h | ⟨k, hk, h1, h2⟩
  · exact .inl h
  · exact .inr ⟨k, hk, by simpa using h1, h2⟩
end Go.Proofs.Ytopmdeefcjdadaa

namespace Go.Proofs.Ytopmdeefcjdadaa
open Go.RowKit
set_option linter.unusedVariables false
set_option linter.unusedSimpArgs false

/-- the function of profile: does a profile have the name in cell tb? -/
def prfFn (tb : Nat) : Value := .func (.func 112) #[] #[.pointer (some ⟨tb, 0, none⟩)]
def hasNm (nm : List UInt8) (p : Prf) : Bool := decide (p.nm = nm)
set_option maxHeartbeats 400000 in
theorem prfFn_any (pn : ByteArray) (pz : Int) (po : Option Addr) (pl pc : Nat) (nm : ByteArray) (tb : Nat) (w : World) (ht : w.cell? ⟨tb, 0, none⟩ = some (.string nm)) (hb : tb < w.heap.size) :
    Calls Try.prog 112 #[.agg #[.string pn, .int .i64 pz, .slice po pl pc], .pointer (some ⟨tb, 0, none⟩)] w fun e w' => e = .returned (.bool (decide (pn.data.toList = nm.data.toList))) ∧ Below w.heap.size w w' := by
  by_cases hc : pn.data.toList = nm.data.toList
  · have h2 : (pn.toList == nm.toList) = true := by rw [Lib.toList_data, Lib.toList_data]; simpa using hc
    have HV := Lib.hid (show decide (pn.data.toList = nm.data.toList) = true by simpa using hc)
    clear hc
    go_enter Try.func112, Try.ntmps112
    go_wp2
    go_ret
    exact ⟨by rw [HV.out] <;> rfl, (Below.refl _ _).alloc (Nat.le_refl _) _⟩
  · have h2 : (pn.toList == nm.toList) = false := by rw [Lib.toList_data, Lib.toList_data]; simpa using hc
    have HV := Lib.hid (show decide (pn.data.toList = nm.data.toList) = false by simpa using hc)
    go_enter Try.func112, Try.ntmps112
    go_wp2
    go_ret
    exact ⟨by rw [HV.out] <;> rfl, (Below.refl _ _).alloc (Nat.le_refl _) _⟩
theorem prfFn_call (args : Array Value) (W : World) : Sem.run Try.prog (callFunc 112 args) W = .ok (.enter 112 args) W := by simp [go_sem]
set_option maxRecDepth 100000 in
set_option maxHeartbeats 4000000 in
theorem prf_index (v : Value) (l : List Prf) (nm : ByteArray) (tb : Nat) (w : World) (h : PrfS w.heap.size w v l) (ht : w.cell? ⟨tb, 0, none⟩ = some (.string nm)) (hb : tb < w.heap.size) :
    Calls Try.prog 96 #[v, prfFn tb] w fun e w' => e = .returned (.int .i64 (idxF (hasNm nm.data.toList) l 0)) ∧ Below w.heap.size w w' := by
  have HG := Lib.hid (PrfS.get h)
  obtain ⟨lv, hlv, hcs, _⟩ := h
  obtain ⟨ao, cap, rfl, _⟩ := CellsS.shape hcs
  have hm := CellsS.len hcs
  rw [show lv.length = l.length by rw [← hlv]; simp] at *
  clear hcs hlv
  unfold maxLen at hm
  have CF := Lib.hid (fun (pn : ByteArray) (pz : Int) (po : Option Addr) (pl pc : Nat) W (hB : Below w.heap.size w W) => prfFn_any pn pz po pl pc nm tb W ((hB.cell (p := ⟨tb, 0, none⟩) hb).trans ht) (Nat.lt_of_lt_of_le hb hB.size))
  have hcf := prfFn_call
  have HC := Lib.hid (show idxF (hasNm nm.data.toList) l 0 = idxF (hasNm nm.data.toList) (l.drop 0) 0 by simp)
  generalize idxF (hasNm nm.data.toList) l 0 = RES at *
  clear ht
  unfold prfFn
  go_enter Try.func96, Try.ntmps96
  go_wp2_with fail
  go_loopw [8] (fun i wr => ∃ k : Nat, k ≤ l.length ∧ i = .int .i64 k ∧ Hid (RES = idxF (hasNm nm.data.toList) (l.drop k) k) ∧ Hid (Below w.heap.size w wr)) (fun i _ => l.length - (intOf i).toNat)
  case atStart => exact ⟨0, Nat.zero_le _, rfl, HC, Lib.hid (Below.refl _ _)⟩
  case round =>
    obtain ⟨k, hk, rfl, HR, HBW⟩ := hrel
    by_cases hlt : k < l.length
    · obtain ⟨b, off, cap', hsl, hbb, _, hc⟩ := HG.out (by omega)
      injection hsl with hs1 hs2 hs3
      subst hs1 hs3
      obtain ⟨pv, hpv, hcc⟩ := hc k hlt
      obtain ⟨d0, d1, d2⟩ := hcc wr HBW.out
      have hbr : b < wr.heap.size := by have := HBW.out.size; omega
      have HY := Lib.hid (idxF_yes (hasNm nm.data.toList) l k hlt)
      have HN := Lib.hid (idxF_no (hasNm nm.data.toList) l k hlt)
      have HT := Lib.hid (show hasNm nm.data.toList l[k] = decide (l[k].name.data.toList = nm.data.toList) from rfl)
      obtain ⟨lv, hlv, hcs, _⟩ := hpv
      obtain ⟨po, pcap, rfl, _⟩ := CellsS.shape hcs
      clear hc hcc hcs hlv
      generalize hasNm nm.data.toList l[k] = T at *
      generalize hrk : l[k] = rk at *
      clear hrk
      obtain ⟨pn, pz, pl⟩ := rk
      simp only at *
      have CX := Lib.hid (CF.out pn pz po lv.length pcap _ HBW.out)
      rw [← HT.out] at CX
      cases T
      · have HV := Lib.hid (HR.out.trans (HN.out rfl))
        go_wp2_with fail
        refine CX.out.mono ?_
        rintro e w1 ⟨rfl, hb1⟩
        have HB2 := Lib.hid (HBW.out.trans (hb1.mono HBW.out.size))
        clear hb1
        go_wp2_with fail
        go_roundw
        case rel => exact ⟨k + 1, by omega, by go_num, HV, HB2⟩
        case measure => simp [intOf]; omega
      · have HV := Lib.hid (HR.out.trans (HY.out rfl))
        go_wp2_with fail
        refine CX.out.mono ?_
        rintro e w1 ⟨rfl, hb1⟩
        have HB2 := Lib.hid (HBW.out.trans (hb1.mono HBW.out.size))
        clear hb1
        go_wp2_with fail
        go_ret
        exact ⟨by rw [HV.out] <;> rfl, HB2.out⟩
    · have HV := Lib.hid (show RES = -1 by rw [HR.out, idxF_end _ l k (by omega)])
      have hkk : k = l.length := by omega
      subst hkk
      go_wp2_with fail
      go_ret
      exact ⟨by rw [HV.out] <;> rfl, HBW.out⟩
/-- the value of a profile, or of none: its parameters' slice lies below block B -/
def PrfR (B : Nat) (w : World) (o : Option Prf) (v : Value) : Prop :=
  match o with
  | some p => ∃ pv, v = .agg #[.string p.name, .int .i64 p.size, pv] ∧ ParS B w pv p.pars
  | none => v = .agg #[.string ⟨#[]⟩, .int .i64 0, .slice none 0 0]
theorem PrfR.below {B : Nat} {w w' : World} {o : Option Prf} {v : Value} (h : PrfR B w o v) (hb : Below B w w') : PrfR B w' o v := by
  cases o with
  | none => exact h
  | some p =>
    obtain ⟨pv, h1, h2⟩ := h
    exact ⟨pv, h1, h2.below hb⟩
theorem PrfR.more {B B' : Nat} {w : World} {o : Option Prf} {v : Value} (h : PrfR B w o v) (hB : B ≤ B') : PrfR B' w o v := by
  cases o with
  | none => exact h
  | some p =>
    obtain ⟨pv, h1, h2⟩ := h
    exact ⟨pv, h1, h2.more hB⟩
def sizeO (o : Option Prf) : Int := (o.map Prf.size).getD 0
set_option maxRecDepth 100000 in
set_option maxHeartbeats 4000000 in
theorem profile_any (v : Value) (l : List Prf) (nm : ByteArray) (w : World) (h : PrfS w.heap.size w v l) :
    Calls Try.prog 93 #[v, .string nm] w fun e w' => ∃ pv, e = .returned (.tuple #[pv, .bool (profOf l nm.data.toList).isSome]) ∧ PrfR w.heap.size w' (profOf l nm.data.toList) pv ∧ Below w.heap.size w w' := by
  have HG := Lib.hid (PrfS.get h)
  have HSP := Lib.hid (idxF_spec (hasNm nm.data.toList) l)
  have HPO := Lib.hid (show profOf l nm.data.toList = l.find? (hasNm nm.data.toList) from rfl)
  have HCI := Lib.hid (fun W (hW : Below w.heap.size w W) tb (ht : W.cell? ⟨tb, 0, none⟩ = some (.string nm)) (hb : tb < W.heap.size) => prf_index v l nm tb W ((h.below hW).more hW.size) ht hb)
  obtain ⟨lv, hlv, hcs, _⟩ := h
  obtain ⟨ao, cap, rfl, _⟩ := CellsS.shape hcs
  have hm := CellsS.len hcs
  rw [show lv.length = l.length by rw [← hlv]; simp] at *
  clear hcs hlv
  unfold maxLen at hm
  generalize idxF (hasNm nm.data.toList) l 0 = IX at *
  rw [HPO.out]
  generalize l.find? (hasNm nm.data.toList) = RES at *
  have HX := Lib.hid (HCI.out ((w.alloc (.cells #[.string nm] 9)).alloc (.cells #[.string ⟨#[]⟩, .int .i64 0, .slice none 0 0] 137)) (((Below.refl _ _).alloc (Nat.le_refl _) _).alloc (by simp) _) w.heap.size (by simp [go_sem]) (by simp; omega))
  unfold prfFn at HX
  clear HCI HPO
  go_enter Try.func93, Try.ntmps93
  go_wp2_with fail
  refine HX.out.mono ?_
  rintro e w1 ⟨rfl, hb1⟩
  have HB1 := Lib.hid ((((Below.refl w.heap.size w).alloc (Nat.le_refl _) (.cells #[.string nm] 9)).alloc (by simp) (.cells #[.string ⟨#[]⟩, .int .i64 0, .slice none 0 0] 137)).trans (hb1.mono (by simp; omega)))
  have hz1 := hb1.size
  simp only [World.size_alloc] at hz1
  have c0 : w1.cell? ⟨w.heap.size + 1, 0, none⟩ = some (.string ⟨#[]⟩) := (hb1.cell (p := ⟨w.heap.size + 1, 0, none⟩) (by simp)).trans (by simp [go_sem])
  have c1 : w1.cell? ⟨w.heap.size + 1, 1, none⟩ = some (.int .i64 0) := (hb1.cell (p := ⟨w.heap.size + 1, 1, none⟩) (by simp)).trans (by simp [go_sem])
  have c2 : w1.cell? ⟨w.heap.size + 1, 2, none⟩ = some (.slice none 0 0) := (hb1.cell (p := ⟨w.heap.size + 1, 2, none⟩) (by simp)).trans (by simp [go_sem])
  have f0 : w1.frozen? ⟨w.heap.size + 1, 0, none⟩ = false := (hb1.frozen (p := ⟨w.heap.size + 1, 0, none⟩) (by simp)).trans (by simp [go_sem])
  have f1 : w1.frozen? ⟨w.heap.size + 1, 1, none⟩ = false := (hb1.frozen (p := ⟨w.heap.size + 1, 1, none⟩) (by simp)).trans (by simp [go_sem])
  have f2 : w1.frozen? ⟨w.heap.size + 1, 2, none⟩ = false := (hb1.frozen (p := ⟨w.heap.size + 1, 2, none⟩) (by simp)).trans (by simp [go_sem])
  have KSB := Lib.hid (show ∀ u0 u1 u2, Below w.heap.size w (((w1.setCell ⟨w.heap.size + 1, 0, none⟩ u0).setCell ⟨w.heap.size + 1, 1, none⟩ u1).setCell ⟨w.heap.size + 1, 2, none⟩ u2) from fun u0 u1 u2 => ((HB1.out.setCell (p := ⟨w.heap.size + 1, 0, none⟩) (by simp) u0).setCell (p := ⟨w.heap.size + 1, 1, none⟩) (by simp) u1).setCell (p := ⟨w.heap.size + 1, 2, none⟩) (by simp) u2)
  have KST := Lib.hid (show ∀ u0 u1 u2 {v : Value} {l : List Par}, ParS w.heap.size w1 v l → ParS w.heap.size (((w1.setCell ⟨w.heap.size + 1, 0, none⟩ u0).setCell ⟨w.heap.size + 1, 1, none⟩ u1).setCell ⟨w.heap.size + 1, 2, none⟩ u2) v l from fun u0 u1 u2 _ _ h => h.below ((((Below.refl w.heap.size w1).setCell (p := ⟨w.heap.size + 1, 0, none⟩) (by simp) u0).setCell (p := ⟨w.heap.size + 1, 1, none⟩) (by simp) u1).setCell (p := ⟨w.heap.size + 1, 2, none⟩) (by simp) u2))
  clear hb1 HX
  rcases HSP.out with ⟨rfl, rfl⟩ | ⟨k, hk, rfl, rfl⟩
  · go_wp2_with fail
    exact bodyPost_ret (v := .tuple #[.agg #[.string ⟨#[]⟩, .int .i64 0, .slice none 0 0], .bool false]) (by simp [results, Try.results93, go_sem, c0, c1, c2]) rfl ⟨_, rfl, rfl, KSB.out _ _ _⟩
  · obtain ⟨b, off, cap', hsl, hbb, _, hc⟩ := HG.out (by omega)
    injection hsl with hs1 hs2 hs3
    subst hs1 hs3
    obtain ⟨pv, hpv, hcc⟩ := hc k hk
    have HPV := Lib.hid (hpv.below HB1.out)
    obtain ⟨d0, d1, d2⟩ := hcc w1 HB1.out
    have hbr : b < w1.heap.size := by omega
    obtain ⟨lv, hlv, hcs, _⟩ := hpv
    obtain ⟨po, pcap, rfl, _⟩ := CellsS.shape hcs
    rw [show lv.length = l[k].pars.length by rw [← hlv]; simp] at *
    clear hc hcc hcs hlv HG HSP
    generalize hrk : l[k] = rk at *
    have HRK := Lib.hid hrk
    clear hrk
    obtain ⟨pn, pz, pl⟩ := rk
    simp only at *
    go_wp2_with fail
    exact bodyPost_ret (v := .tuple #[.agg #[.string pn, .int .i64 pz, .slice po pl.length pcap], .bool true]) (by simp [results, Try.results93, go_sem, c0, c1, c2]) rfl ⟨_, rfl, by rw [HRK.out]; exact ⟨_, rfl, KST.out _ _ _ HPV.out⟩, KSB.out _ _ _⟩
end Go.Proofs.Ytopmdeefcjdadaa
