/- The marked slots of universes: a map from numbers to rows of marks. (printed by wip/gen/gen_slots.py) Boxes known by their block: kept by calls, allocs, appends to own rows of another type. (printed by wip/gen/gen_tbox.py) -/
import Derived.Test.YtppbagllhmeenaaGreatDoorT68M23
import Derived.Test.YtppbagllhmeenaaGreatDoorT68M19

namespace Go.Proofs.YtppbagllhmeenaaGreatDoor
open Go.RowKit
set_option linter.unusedVariables false
set_option linter.unusedSimpArgs false

/-- a row of 513 marks -/
def SlotsAt (w : World) (g : Nat) (m : Int → Bool) : Prop := ∀ j : Nat, j ≤ 512 → w.cell? ⟨g, j, none⟩ = some (.bool (m j)) ∧ w.frozen? ⟨g, j, none⟩ = false
theorem SlotsAt.same {w w' : World} {g : Nat} {m : Int → Bool} (h : SlotsAt w g m) (hb : w'.heap[g]? = w.heap[g]?) : SlotsAt w' g m := fun j hj =>
  ⟨(World.cell?_of_block (a := ⟨g, j, none⟩) hb).trans (h j hj).1, (World.frozen?_of_block (a := ⟨g, j, none⟩) hb).trans (h j hj).2⟩
theorem SlotsAt.cast {w : World} {g : Nat} {m m' : Int → Bool} (h : SlotsAt w g m) (hm : ∀ j, m' j = m j) : SlotsAt w g m' := fun j hj => by
  rw [hm]; exact h j hj
/-- are the slots from a on free, n of them? -/
def freeN (m : Int → Bool) : Int → Nat → Bool
  | _, 0 => true
  | a, n + 1 => decide (a ≤ 512) && (!m a && freeN m (a + 1) n)
theorem freeN_iff (m : Int → Bool) (n : Nat) : ∀ a : Int, freeN m a n = true ↔ ∀ k : Int, a ≤ k → k < a + n → k ≤ 512 ∧ m k = false := by
  induction n with
  | zero => intro a; simp only [freeN, true_iff]; intro k h1 h2; omega
  | succ n ih =>
    intro a
    simp only [freeN, Bool.and_eq_true, decide_eq_true_eq, Bool.not_eq_true', ih (a + 1)]
    constructor
    · rintro ⟨h1, h2, h3⟩ k h4 h5
      by_cases c : k = a
      · subst c; exact ⟨h1, h2⟩
      · exact h3 k (by omega) (by omega)
    · intro h
      have h1 := h a (by omega) (by omega)
      exact ⟨h1.1, h1.2, fun k h4 h5 => h k (by omega) (by omega)⟩
/-- the mark of slot k of universe U, by units and their sizes -/
def usedB (us : List (Unt × Int)) (U k : Int) : Bool := us.any (fun x => decide (x.1.univ = U) && (decide (x.1.addr ≤ k) && decide (k < x.1.addr + x.2)))
theorem usedB_other (us : List (Unt × Int)) (u : Unt) (s U k : Int) (h : u.univ ≠ U) : usedB (us ++ [(u, s)]) U k = usedB us U k := by
  simp [usedB, h]
theorem usedB_same (us : List (Unt × Int)) (u : Unt) (s k : Int) : usedB (us ++ [(u, s)]) u.univ k = (usedB us u.univ k || (decide (u.addr ≤ k) && decide (k < u.addr + s))) := by
  simp [usedB]
theorem usedB_none (us : List (Unt × Int)) (U k : Int) (h : ∀ x ∈ us, x.1.univ ≠ U) : usedB us U k = false := by
  unfold usedB
  rw [List.any_eq_false]
  intro x hx
  simp [h x hx]
def ptrV (g : Nat) : Value := .pointer (some ⟨g, 0, none⟩)
def UsedU (base : Nat) (w : World) (mb : Nat) (us : List (Unt × Int)) (f : Lit → Option Value) (U : Int) : Prop :=
  (f (.int .i64 U) = none ∧ ∀ x ∈ us, x.1.univ ≠ U) ∨ ∃ g, f (.int .i64 U) = some (ptrV g) ∧ base ≤ g ∧ g ≠ mb ∧ g < w.heap.size ∧ SlotsAt w g (usedB us U)
/-- block mb is a map from universes to their rows of marks, from block base on -/
def UsedS (base : Nat) (w : World) (mb : Nat) (us : List (Unt × Int)) : Prop :=
  ∃ n f, n ≤ us.length ∧ MapM w Tryz.prog 3 mb n f ∧ (∀ U, UsedU base w mb us f U) ∧ ∀ U V g, f (.int .i64 U) = some (ptrV g) → f (.int .i64 V) = some (ptrV g) → U = V
theorem ptrV_inj {g h : Nat} (e : ptrV g = ptrV h) : g = h := by unfold ptrV at e; simpa using e
theorem keyLitI_ (U : Int) : WideAt.IsKeyLit (.int .i64 U) := trivial
theorem litI_ne {U V : Int} (h : U ≠ V) : Lit.int .i64 U ≠ Lit.int .i64 V := fun e => h (by injection e)
theorem used_made (base : Nat) (w : World) : UsedS base (w.alloc (.map #[] 0)) w.heap.size [] :=
  ⟨0, fun _ => none, by simp, mapM_made w _ _, fun U => .inl ⟨rfl, by simp⟩, fun U V g h => by cases h⟩
theorem UsedS.keep {base mb : Nat} {w w' : World} {us : List (Unt × Int)} (h : UsedS base w mb us) (hs : w.heap.size ≤ w'.heap.size) (hb : ∀ b, (b = mb ∨ base ≤ b) → b < w.heap.size → w'.heap[b]? = w.heap[b]?) : UsedS base w' mb us := by
  obtain ⟨n, f, h1, h2, h3, h4⟩ := h
  refine ⟨n, f, h1, h2.same (hb _ (.inl rfl) h2.lt), fun U => ?_, h4⟩
  rcases h3 U with h | ⟨g, e1, e2, e3, e4, e5⟩
  · exact .inl h
  · exact .inr ⟨g, e1, e2, e3, by omega, e5.same (hb g (.inr e2) e4)⟩
theorem UsedS.below {base mb : Nat} {w w' : World} {us : List (Unt × Int)} (h : UsedS base w mb us) (hb : Below w.heap.size w w') : UsedS base w' mb us := h.keep hb.size (fun b _ hl => hb.block b hl)
theorem UsedS.alloc {base mb : Nat} {w : World} {us : List (Unt × Int)} (h : UsedS base w mb us) (o : Obj) : UsedS base (w.alloc o) mb us := h.below ((Below.refl _ _).alloc (Nat.le_refl _) o)
theorem UsedS.drewN {base mb : Nat} {w : World} {us : List (Unt × Int)} (h : UsedS base w mb us) (n : Nat) : UsedS base (w.drewN n) mb us := h.keep (Nat.le_refl _) (fun _ _ _ => rfl)
theorem UsedS.lt {base mb : Nat} {w : World} {us : List (Unt × Int)} (h : UsedS base w mb us) : mb < w.heap.size := by
  obtain ⟨n, f, h1, h2, _⟩ := h
  exact h2.lt
def markK (m : Int → Bool) (a k : Int) : Int → Bool := fun j => m j || (decide (a ≤ j) && decide (j < k))
theorem markK_start (m : Int → Bool) (a j : Int) : markK m a a j = m j := by
  unfold markK
  by_cases h1 : a ≤ j
  · have : ¬ j < a := by omega
    simp [h1, this]
  · simp [h1]
/-- a further unit, in a universe that has a row -/
theorem UsedS.more_old {base mb g : Nat} {w w' : World} {us : List (Unt × Int)} {u : Unt} {s : Int} {n : Nat} {f : Lit → Option Value} (hn : n ≤ us.length) (hM : MapM w Tryz.prog 3 mb n f) (hU : ∀ U, UsedU base w mb us f U)
    (hI : ∀ U V g, f (.int .i64 U) = some (ptrV g) → f (.int .i64 V) = some (ptrV g) → U = V) (hf : f (.int .i64 u.univ) = some (ptrV g)) (hsz : w.heap.size ≤ w'.heap.size) (hg : g ≠ mb) (hbg : base ≤ g) (hgl : g < w'.heap.size) (hb : ∀ b, b ≠ g → b < w.heap.size → w'.heap[b]? = w.heap[b]?)
    (hS : SlotsAt w' g (markK (usedB us u.univ) u.addr (u.addr + s))) : UsedS base w' mb (us ++ [(u, s)]) := by
  refine ⟨n, f, by simp; omega, hM.same (hb mb (Ne.symm hg) hM.lt), fun U => ?_, hI⟩
  by_cases c : U = u.univ
  · subst c
    exact .inr ⟨g, hf, hbg, hg, hgl, hS.cast (fun j => usedB_same us u s j)⟩
  · rcases hU U with ⟨h1, h2⟩ | ⟨g', e1, e2, e3, e4, e5⟩
    · refine .inl ⟨h1, fun x hx => ?_⟩
      simp only [List.mem_append, List.mem_singleton] at hx
      rcases hx with hx | rfl
      · exact h2 x hx
      · exact fun e => c e.symm
    · have hgg : g' ≠ g := fun e => c (hI U u.univ g (by rw [e1, e]) hf)
      exact .inr ⟨g', e1, e2, e3, by omega, (e5.same (hb g' hgg e4)).cast (fun j => usedB_other us u s U j (fun e => c e.symm))⟩
/-- a further unit, in a universe without a row: its row is block g, a new one -/
theorem UsedS.more_new {base mb g : Nat} {w w' : World} {us : List (Unt × Int)} {u : Unt} {s : Int} {n : Nat} {f : Lit → Option Value} (hn : n ≤ us.length) (hU : ∀ U, UsedU base w mb us f U)
    (hI : ∀ U V g, f (.int .i64 U) = some (ptrV g) → f (.int .i64 V) = some (ptrV g) → U = V) (hf : f (.int .i64 u.univ) = none) (hsz : w.heap.size ≤ w'.heap.size) (hg : g ≠ mb) (hbg : base ≤ g) (hnew : w.heap.size ≤ g) (hgl : g < w'.heap.size) (hb : ∀ b, b ≠ mb → b < w.heap.size → w'.heap[b]? = w.heap[b]?)
    (hM : MapM w' Tryz.prog 3 mb (n + 1) (putF f (.int .i64 u.univ) (ptrV g))) (hS : SlotsAt w' g (markK (fun _ => false) u.addr (u.addr + s))) : UsedS base w' mb (us ++ [(u, s)]) := by
  have hno : ∀ x ∈ us, x.1.univ ≠ u.univ := by
    rcases hU u.univ with ⟨_, h2⟩ | ⟨g', e1, _⟩
    · exact h2
    · rw [hf] at e1; cases e1
  refine ⟨n + 1, _, by simp; omega, hM, fun U => ?_, fun U V g1 h1 h2 => ?_⟩
  · by_cases c : U = u.univ
    · subst c
      refine .inr ⟨g, putF_same (keyLitI_ _), hbg, hg, hgl, hS.cast (fun j => ?_)⟩
      rw [usedB_same us u s j, usedB_none us _ j hno]
      rfl
    · rcases hU U with ⟨h1, h2⟩ | ⟨g', e1, e2, e3, e4, e5⟩
      · refine .inl ⟨(putF_other (litI_ne c)).trans h1, fun x hx => ?_⟩
        simp only [List.mem_append, List.mem_singleton] at hx
        rcases hx with hx | rfl
        · exact h2 x hx
        · exact fun e => c e.symm
      · exact .inr ⟨g', (putF_other (litI_ne c)).trans e1, e2, e3, by omega, (e5.same (hb g' e3 e4)).cast (fun j => usedB_other us u s U j (fun e => c e.symm))⟩
  · have old : ∀ U, f (.int .i64 U) = some (ptrV g1) → g1 < w.heap.size := fun U h => by
      rcases hU U with ⟨h1, _⟩ | ⟨g', e1, _, _, e4, _⟩
      · rw [h] at h1; cases h1
      · rw [h] at e1
        have := ptrV_inj (Option.some.inj e1)
        omega
    by_cases c : U = u.univ
    · by_cases d : V = u.univ
      · rw [c, d]
      · rw [putF_other (litI_ne d)] at h2
        rw [c, putF_same (keyLitI_ _)] at h1
        have := ptrV_inj (Option.some.inj h1)
        have := old V h2
        omega
    · rw [putF_other (litI_ne c)] at h1
      by_cases d : V = u.univ
      · rw [d, putF_same (keyLitI_ _)] at h2
        have := ptrV_inj (Option.some.inj h2)
        have := old U h1
        omega
      · rw [putF_other (litI_ne d)] at h2
        exact hI U V g1 h1 h2
/-- a row's cell is marked -/
theorem SlotsAt.mark {w : World} {g : Nat} {m : Int → Bool} {a : Int} {k : Nat} (h : SlotsAt w g (markK m a k)) (ha : a ≤ k) : SlotsAt (w.setCell ⟨g, k, none⟩ (.bool true)) g (markK m a ((k + 1 : Nat) : Int)) := by
  intro j hj
  obtain ⟨h1, h2⟩ := h j hj
  by_cases c : j = k
  · subst c
    refine ⟨?_, (World.frozen?_setCell _ _ _ _).trans h2⟩
    rw [World.cell?_setCell_same _ _ _ h1]
    have : markK m a ((j + 1 : Nat) : Int) (j : Int) = true := by
      unfold markK
      have e1 : decide (a ≤ (j : Int)) = true := by simpa using ha
      have e2 : decide ((j : Int) < ((j + 1 : Nat) : Int)) = true := by simp; omega
      rw [e1, e2]; simp
    rw [this]
  · refine ⟨?_, (World.frozen?_setCell _ _ _ _).trans h2⟩
    rw [World.cell?_setCell_other _ _ _ _ (by intro e; injection e with _ e; exact c e.symm)]
    rw [h1]
    have : markK m a ((k + 1 : Nat) : Int) (j : Int) = markK m a (k : Int) (j : Int) := by
      unfold markK
      congr 2
      simp only [decide_eq_decide]
      omega
    rw [this]
end Go.Proofs.YtppbagllhmeenaaGreatDoor

namespace Go.Proofs.YtppbagllhmeenaaGreatDoor
open Go.RowKit
set_option linter.unusedVariables false
set_option linter.unusedSimpArgs false

theorem stgS_nil (B : Nat) (w : World) : StgS B w (.slice none 0 0) [] := CellsS.nil B w
theorem keyS_nil (B : Nat) (w : World) : KeyRS B w (.slice none 0 0) [] := CellsS.nil B w
theorem zeroBy_ (w : World) : (zeroValue 58).run Tryz.prog w = .ok (.slice none 0 0) w := by kernel_rfl
theorem frmC_get {B : Nat} {w : World} {v : Value} {lv : List (Frm × Value)} (h1 : CellsS B w v lv.length (lv.flatMap frmC)) (hl : 0 < lv.length) :
    ∃ b off cap, v = .slice (some ⟨b, off, none⟩) lv.length cap ∧ b < B ∧ lv.length ≤ maxLen ∧ ∀ k (hk : k < lv.length) (W : World), Below B w W →
      W.cell? ⟨b, off + k * 2, none⟩ = some (.int .i64 lv[k].1.univ) ∧ W.cell? ⟨b, off + k * 2 + 1, none⟩ = some lv[k].2 := by
  obtain ⟨b, off, cap, rfl, h3, h4, h5⟩ := CellsS.rec h1 (n := 2) (fun _ => rfl) hl
  refine ⟨b, off, cap, rfl, h3, h4, fun k hk W hW => ?_⟩
  exact ⟨(hW.cell (p := ⟨b, off + k * 2, none⟩) h3).trans (h5 k hk 0 _ (by omega) rfl), (hW.cell (p := ⟨b, off + k * 2 + 1, none⟩) h3).trans (h5 k hk 1 _ (by omega) rfl)⟩
theorem put_rev {fl : List (Frm × Value)} {k : Nat} (h : k < fl.length) {f : Lit → Option Value} (hf : ∀ U : Int, f (.int .i64 U) = ((fl.take k).reverse.find? (isF U)).map (·.2)) : ∀ U : Int, putF f (.int .i64 fl[k].1.univ) fl[k].2 (.int .i64 U) = ((fl.take (k + 1)).reverse.find? (isF U)).map (·.2) := by
  intro U
  rw [rev_snoc _ _ _ h]
  by_cases c : fl[k].1.univ = U
  · rw [← c, putF_same (keyLitI_ _), if_pos (by simp [isF])]; rfl
  · rw [putF_other (litI_ne (Ne.symm c)), if_neg (by simp [isF, c]), hf]
theorem setV_len {x : Rig} (h : chkRig x = 0) (l : List Frm) (k : Nat) : ((x.units.take k).flatMap (setU x.lib l)).length ≤ 16000 := by
  have h1 := flat_le (setU x.lib l) 40 (x.units.take k) (fun u hu => setU_len h l (List.mem_of_mem_take hu))
  have h2 := (chkRig_zero h).2.1
  rw [List.length_take] at h1
  omega
theorem setU_none {lib : List Prf} {l : List Frm} {u : Unt} (h : l.find? (isU u) = none) : setU lib l u = [] := by unfold setU; rw [h]
theorem setU_some {lib : List Prf} {l : List Frm} {u : Unt} {f : Frm} {p : Prf} (h : l.find? (isU u) = some f) (hp : profOf lib u.nm = some p) : setU lib l u = p.pars.map (setO u f) := by unfold setU parsOf; rw [h, hp]; rfl
theorem at_val {f : Frm} {b : Nat} (hb : b < f.sl.length) {i : Int} (hi : i = (b : Int)) : atF f i = f.sl[b] := by
  subst hi
  unfold atF
  rw [List.getD_eq_getElem?_getD, Int.toNat_natCast, List.getElem?_eq_getElem hb]; rfl
end Go.Proofs.YtppbagllhmeenaaGreatDoor
