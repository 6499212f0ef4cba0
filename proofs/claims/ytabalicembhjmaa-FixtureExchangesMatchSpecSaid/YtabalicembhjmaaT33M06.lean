/- A map of the call's own, whatever its elements, as a partial function from keys to values. No program in it. Words of fixtures' checks: levels, zero values, strings and ints as keys of maps. (printed by wip/gen/gen_ckrng.py) Look-ups and stores of a map of marks as run equations. No walk in it. The marked slots of universes: a map from numbers to rows of marks. (printed by wip/gen/gen_slots.py) Clashes of units are marks that are taken. No walk in it. -/
import Derived.Maps.OwnOps
import Derived.Maps.OwnSet
import Derived.Maps.Own
import Derived.Maps.Views
import Derived.Below
import Derived.Test.YtabalicembhjmaaT33M05
import Derived.Maps.Keyed
import Derived.StringKeys

namespace Go.Proofs.Ytabalicembhjmaa
open Go.Maps (Keyed IsMap atKey_put_same atKey_put_other)
open Go.ChangeShapes Go.WideShapes Go.RowKit
set_option linter.unusedVariables false

/-- an element stands for itself -/
def selfElem (v : Value) : Option (DataW Value × List MemPlace) := some (.held v, [])

/-- block b of w is a map of at most n entries: at key kl it holds f kl -/
structure MapM (w : World) (P : Program) (k : TypeId) (b n : Nat) (f : Lit → Option Value) : Prop where
  own : ∃ D : DataW Value, w.ownsMap P k selfElem b n D ∧ IsMap D ∧ ∀ kl, (f kl = none → ∀ z, D.atKey kl z = z) ∧ (∀ v, f kl = some v → ∀ z, D.atKey kl z = .held v)
def putF (f : Lit → Option Value) (kl : Lit) (v : Value) : Lit → Option Value := fun x => if x.sameKey kl then some v else f x
theorem putF_same {f : Lit → Option Value} {kl : Lit} {v : Value} (hk : WideAt.IsKeyLit kl) : putF f kl v kl = some v := by unfold putF; rw [WideAt.sameKey_self hk]; rfl
theorem putF_other {f : Lit → Option Value} {kl x : Lit} {v : Value} (h : x ≠ kl) : putF f kl v x = f x := by unfold putF; rw [Maps.sameKey_ne h]; rfl

section
variable {w : World} {P : Program} {k : TypeId} {b n : Nat} {f : Lit → Option Value}
theorem mapM_made (w : World) (P : Program) (k : TypeId) : MapM (w.alloc (.map #[] 0)) P k w.heap.size 0 (fun _ => none) :=
  ⟨.map [], World.ownsMap_made w P k _, ⟨_, rfl⟩, fun kl => ⟨fun _ z => WideAt.atKey_none _ (by simp), fun v h => by cases h⟩⟩
theorem MapM.kept {w' : World} {row : Option Nat} (h : MapM w P k b n f) (hg : w.grownBy w' row) (hne : some b ≠ row) : MapM w' P k b n f := by
  obtain ⟨D, h1, h2, h3⟩ := h.own
  exact ⟨D, h1.kept hg hne, h2, h3⟩
theorem MapM.below {B : Nat} {w' : World} (h : MapM w P k b n f) (hb : Below B w w') (hlt : b < B) : MapM w' P k b n f := by
  obtain ⟨D, ⟨es, clock, h1, h2, h3, h4⟩, h5, h6⟩ := h.own
  exact ⟨D, ⟨es, clock, (hb.block _ hlt).trans h1, h2, h3, h4⟩, h5, h6⟩
theorem MapM.same {w' : World} (h : MapM w P k b n f) (hb : w'.heap[b]? = w.heap[b]?) : MapM w' P k b n f := by
  obtain ⟨D, ⟨es, clock, h1, h2, h3, h4⟩, h5, h6⟩ := h.own
  exact ⟨D, ⟨es, clock, hb.trans h1, h2, h3, h4⟩, h5, h6⟩
theorem MapM.lt (h : MapM w P k b n f) : b < w.heap.size := by
  obtain ⟨D, h1, _⟩ := h.own
  exact h1.lt
theorem MapM.mono (h : MapM w P k b n f) {n' : Nat} (hn : n ≤ n') : MapM w P k b n' f := by
  obtain ⟨D, h1, h2⟩ := h.own
  exact ⟨D, h1.mono hn, h2⟩
theorem MapM.cast (h : MapM w P k b n f) {g : Lit → Option Value} (hg : ∀ kl, g kl = f kl) : MapM w P k b n g := by
  obtain rfl : g = f := funext hg
  exact h

/-- 'm[k]' and 'v, ok := m[k]' as runs -/
theorem MapM.look {t e : TypeId} (h : MapM w P k b n f) (c : Bool) (K : Keyed P k) (ht : P.underlying t = some (.map k e)) {z : Value} (hz : (zeroValue e).run P w = .ok z w) {key : Value} {kl : Lit} (hkey : keyOf P k key = some kl) :
    (Instr.lookup t (.map (some b)) key c).run P w = .ok (if c then .tuple #[(f kl).getD z, .bool (f kl).isSome] else (f kl).getD z) w := by
  obtain ⟨D, ⟨es, clock, hb, F, _, rfl⟩, h2, h3⟩ := h.own
  obtain ⟨h4, h5⟩ := h3 kl
  rcases Maps.fit_look c K ht hz hb F hkey with ⟨hrun, _, hat⟩ | ⟨e0, y, _, _, hrun, hRv, hat, _⟩
  · rw [hrun]
    cases hf : f kl with
    | none => simp
    | some v =>
      have := (hat .nil).symm.trans (h5 v hf .nil)
      cases this
  · rw [hrun]
    unfold selfElem at hRv
    simp only [Option.some.injEq] at hRv
    subst hRv
    cases hf : f kl with
    | none =>
      have := (hat .nil).symm.trans (h4 hf .nil)
      cases this
    | some v =>
      have := (hat .nil).symm.trans (h5 v hf .nil)
      simp only [DataW.held.injEq] at this
      rw [this]
      simp
/-- 'm[k] = v' as a run -/
theorem MapM.update {t e : TypeId} (h : MapM w P k b n f) (K : Keyed P k) (ht : P.underlying t = some (.map k e)) (hn : n < maxLen) {key val : Value} {kl : Lit} (hkey : keyOf P k key = some kl) :
    ∃ w', (Instr.mapUpdate t (.map (some b)) key val).run P w = .ok () w' ∧ MapM w' P k b (n + 1) (putF f kl val) ∧ w.grownBy w' (some b) := by
  obtain ⟨D, h1, h2, h3⟩ := h.own
  obtain ⟨w', hrun, r1, r2⟩ := h1.update K ht hn hkey (val := val) (d := .held val) (ps := []) rfl
  refine ⟨w', hrun, ⟨_, r1, h2.put _ _, fun kl' => ?_⟩, r2⟩
  by_cases c : kl' = kl
  · subst c
    rw [putF_same (K.key hkey)]
    refine ⟨by simp, fun v hv z => ?_⟩
    obtain rfl := Option.some.inj hv
    exact atKey_put_same h2 (K.key hkey) _ _
  · rw [putF_other c]
    exact ⟨fun h z => (atKey_put_other c _ _).trans ((h3 kl').1 h z), fun v hv z => (atKey_put_other c _ _).trans ((h3 kl').2 v hv z)⟩
end

section
variable {P : Program} (w : World) {ops : Array Oper} {rest : List Oper} {o : Oper} {a : Act} {Q : Exit → Act → World → Prop}
theorem wpList_mapM (hg : o.guard = none) (m x : Operand) (t : TypeId) (hop : o.op = Op.lookup t m x false)
    (k e : TypeId) (K : Keyed P k) (ht : P.underlying t = some (.map k e)) (z : Value) (hz : (zeroValue e).run P w = .ok z w) (b n : Nat) (f : Lit → Option Value)
    (hm : a.eval m = .map (some b)) (hown : MapM w P k b n f) (key : Value) (kl : Lit) (hx : a.eval x = key) (hkey : keyOf P k key = some kl) (v : Value) (hv : (f kl).getD z = v)
    (hK : wpList P ops Q rest (a.put o.dst v) w) :
    wpList P ops Q (o :: rest) a w := by
  refine wpList_plain hg fun K' hK' => ?_
  have hrun := hown.look false K ht hz hkey
  rw [hv] at hrun
  unfold Oper.wp
  simp [execOp, hop, hm, hx, hrun, Result.andThen]
  exact hK' _ _ hK
theorem wpList_mapM_ok (hg : o.guard = none) (m x : Operand) (t : TypeId) (hop : o.op = Op.lookup t m x true)
    (k e : TypeId) (K : Keyed P k) (ht : P.underlying t = some (.map k e)) (z : Value) (hz : (zeroValue e).run P w = .ok z w) (b n : Nat) (f : Lit → Option Value)
    (hm : a.eval m = .map (some b)) (hown : MapM w P k b n f) (key : Value) (kl : Lit) (hx : a.eval x = key) (hkey : keyOf P k key = some kl) (v : Value) (hv : (f kl).getD z = v) (c : Bool) (hc : (f kl).isSome = c)
    (hK : wpList P ops Q rest (a.put o.dst (.tuple #[v, .bool c])) w) :
    wpList P ops Q (o :: rest) a w := by
  refine wpList_plain hg fun K' hK' => ?_
  have hrun := hown.look true K ht hz hkey
  rw [hv, hc] at hrun
  unfold Oper.wp
  simp [execOp, hop, hm, hx, hrun, Result.andThen]
  exact hK' _ _ hK
theorem wpList_mapM_put (hg : o.guard = none) (m x v : Operand) (t : TypeId) (hop : o.op = Op.mapUpdate t m x v)
    (k e : TypeId) (K : Keyed P k) (ht : P.underlying t = some (.map k e)) (b n : Nat) (f : Lit → Option Value)
    (hm : a.eval m = .map (some b)) (hown : MapM w P k b n f) (hn : n < maxLen) (key val : Value) (kl : Lit) (hx : a.eval x = key) (hv : a.eval v = val) (hkey : keyOf P k key = some kl)
    (hK : ∀ w', MapM w' P k b (n + 1) (putF f kl val) → w.grownBy w' (some b) → wpList P ops Q rest (a.put o.dst undef) w') :
    wpList P ops Q (o :: rest) a w := by
  refine wpList_plain hg fun K' hK' => ?_
  obtain ⟨w', hrun, r1, r2⟩ := hown.update K ht hn hkey (val := val)
  unfold Oper.wp
  simp [execOp, hop, hm, hx, hv, hrun, Result.andThen]
  exact hK' _ _ (hK w' r1 r2)
end
end Go.Proofs.Ytabalicembhjmaa

namespace Go.Proofs.Ytabalicembhjmaa
open Go.RowKit
set_option linter.unusedVariables false
set_option linter.unusedSimpArgs false

set_option maxHeartbeats 400000 in
theorem fLevel_R (n : Int) (w : World) : Calls Try.prog 71 #[.int .i64 n] w fun e w' => e = .returned (.bool (inR n 0 65535)) ∧ w = w' := by
  go_enter Try.func71, Try.ntmps71
  go_wp2_with (go_at_call 29; refine (within_R _ _ _ _).mono ?_; rintro e w' ⟨rfl, rfl⟩)
  go_ret
  exact ⟨rfl, rfl⟩
theorem zeroI_ (w : World) : (zeroValue 3).run Try.prog w = .ok (.int .i64 0) w := by kernel_rfl
theorem zeroB_ (w : World) : (zeroValue 4).run Try.prog w = .ok (.bool false) w := by kernel_rfl
theorem keyS_ : Maps.Keyed Try.prog 9 := Maps.string_keyed Try.underlying9
theorem keyI_ : Maps.Keyed Try.prog 3 := Maps.int_keyed Try.underlying3
theorem keyOfS_ {s : ByteArray} (h : s.size ≤ maxLen) : keyOf Try.prog 9 (.string s) = some (.string s.data.toList) := WideMaps.keyOf_string_mk Try.underlying9 h
theorem i64wf_ {a : Int} (h : I64 a) : (Lit.int .i64 a).wf = true := by
  unfold I64 at h
  simp [Lit.wf, IntKind.min, IntKind.max, IntKind.signed, IntKind.bits]
  omega
theorem keyOfI_ {a : Int} (h : I64 a) : keyOf Try.prog 3 (.int .i64 a) = some (.int .i64 a) := Maps.keyOf_int_mk Try.underlying3 (i64wf_ h)
theorem mem_strs {α : Type} (f : α → List UInt8) (l : List α) (x : List UInt8) : Lit.string x ∈ l.map (fun y => Lit.string (f y)) ↔ x ∈ l.map f := by
  rw [List.mem_map, List.mem_map]
  constructor
  · rintro ⟨y, h1, h2⟩; injection h2 with h2; exact ⟨y, h1, h2⟩
  · rintro ⟨y, h1, h2⟩; exact ⟨y, h1, by rw [h2]⟩
theorem mem_ints (l : List Int) (x : Int) : Lit.int .i64 x ∈ l.map (Lit.int .i64) ↔ x ∈ l := by
  rw [List.mem_map]
  constructor
  · rintro ⟨y, h1, h2⟩; injection h2 with _ h2; subst h2; exact h1
  · intro h; exact ⟨x, h, rfl⟩
theorem strs_snoc {α : Type} (f : α → List UInt8) (l : List α) (k : Nat) (h : k < l.length) : (l.take (k + 1)).map (fun y => Lit.string (f y)) = (l.take k).map (fun y => Lit.string (f y)) ++ [Lit.string (f l[k])] := by
  rw [List.take_succ_eq_append_getElem h, List.map_append]; rfl
end Go.Proofs.Ytabalicembhjmaa

namespace Go.Proofs.Ytabalicembhjmaa
open Go.RowKit
set_option linter.unusedVariables false
set_option linter.unusedSimpArgs false

open Go.Maps (Keyed)
section
variable {w : World} {P : Program} {k e : TypeId} {b n : Nat} {S : List Lit}
theorem SeenM.mono (h : SeenM w P k e b n S) {m : Nat} (hm : n ≤ m) : SeenM w P k e b m S := by
  obtain ⟨D, h1, h2⟩ := h.own
  exact ⟨D, h1.mono hm, h2⟩
theorem SeenM.drew (h : SeenM w P k e b n S) : SeenM w.drew P k e b n S := by
  obtain ⟨D, h1, h2⟩ := h.own
  exact ⟨D, h1.drew, h2⟩
theorem SeenM.look (h : SeenM w P k e b n S) (K : Keyed P k) {t : TypeId} (ht : P.underlying t = some (.map k e)) (he : P.underlying e = some .bool) (hz : (zeroValue e).run P w = .ok (.bool false) w) {key : Value} {kl : Lit} (hkey : keyOf P k key = some kl) (c : Bool) (hc : c = true ↔ kl ∈ S) :
    (Instr.lookup t (.map (some b)) key false).run P w = .ok (.bool c) w := by
  obtain ⟨D, h1, h2, h3⟩ := h.own
  obtain ⟨v, ps, hrun, hv⟩ := h1.lookup K ht hz (plainElem_bool he false) hkey
  obtain ⟨x', rfl, hx'⟩ := plainElem_bool_inv he hv
  obtain ⟨c', h4, h5⟩ := h3 kl
  rw [h4] at hx'
  simp at hx'
  obtain ⟨hxe, rfl⟩ := hx'
  subst hxe
  rw [hrun]
  have : c = c' := by
    cases c <;> cases c' <;> simp_all
  rw [this]
theorem SeenM.look_in (h : SeenM w P k e b n S) (K : Keyed P k) {t : TypeId} (ht : P.underlying t = some (.map k e)) (he : P.underlying e = some .bool) (hz : (zeroValue e).run P w = .ok (.bool false) w) {key : Value} {kl : Lit} (hkey : keyOf P k key = some kl) (hc : kl ∈ S) :
    (Instr.lookup t (.map (some b)) key false).run P w = .ok (.bool true) w := h.look K ht he hz hkey true (by simp [hc])
theorem SeenM.look_out (h : SeenM w P k e b n S) (K : Keyed P k) {t : TypeId} (ht : P.underlying t = some (.map k e)) (he : P.underlying e = some .bool) (hz : (zeroValue e).run P w = .ok (.bool false) w) {key : Value} {kl : Lit} (hkey : keyOf P k key = some kl) (hc : kl ∉ S) :
    (Instr.lookup t (.map (some b)) key false).run P w = .ok (.bool false) w := h.look K ht he hz hkey false (by simp [hc])
theorem SeenM.update (h : SeenM w P k e b n S) (K : Keyed P k) {t : TypeId} (ht : P.underlying t = some (.map k e)) (he : P.underlying e = some .bool) (hn : n < maxLen) {key : Value} {kl : Lit} (hkey : keyOf P k key = some kl) :
    ∃ w', (Instr.mapUpdate t (.map (some b)) key (.bool true)).run P w = .ok () w' ∧ SeenM w' P k e b (n + 1) (S ++ [kl]) ∧ w.grownBy w' (some b) := by
  obtain ⟨D, h1, h2, h3⟩ := h.own
  obtain ⟨w', hrun, r1, r2⟩ := h1.update K ht hn hkey (plainElem_bool he true)
  exact ⟨w', hrun, SeenM.put h2 h3 (K.key hkey) r1, r2⟩
end
theorem grown_cell {w w' : World} {row b off : Nat} (h : w.grownBy w' (some row)) (hb : b < w.heap.size) (hne : b ≠ row) : w'.cell? ⟨b, off, none⟩ = w.cell? ⟨b, off, none⟩ :=
  World.cell?_of_block (h.block b hb (by intro e; injection e with e; exact hne e))
end Go.Proofs.Ytabalicembhjmaa

namespace Go.Proofs.Ytabalicembhjmaa
open Go.RowKit
set_option linter.unusedVariables false
set_option linter.unusedSimpArgs false

/-- a row of 513 marks -/
def SlotsAt (w : World) (g : Nat) (m : Int → Bool) : Prop := ∀ j : Nat, j ≤ 512 → w.cell? ⟨g, j, none⟩ = some (.bool (m j)) ∧ w.frozen? ⟨g, j, none⟩ = false
theorem SlotsAt.same {w w' : World} {g : Nat} {m : Int → Bool} (h : SlotsAt w g m) (hb : w'.heap[g]? = w.heap[g]?) : SlotsAt w' g m := fun j hj =>
  ⟨(World.cell?_of_block (a := ⟨g, j, none⟩) hb).trans (h j hj).1, (World.frozen?_of_block (a := ⟨g, j, none⟩) hb).trans (h j hj).2⟩
theorem SlotsAt.cast {w : World} {g : Nat} {m m' : Int → Bool} (h : SlotsAt w g m) (hm : ∀ j, m' j = m j) : SlotsAt w g m' := fun j hj => by
  rw [hm]; exact h j hj
/-- are the slots from a on free, n of them? -/
def freeN (m : Int → Bool) : Int → Nat → Bool
  | _, 0 => true
  | a, n + 1 => decide (a ≤ 512) && (!m a && freeN m (a + 1) n)
theorem freeN_iff (m : Int → Bool) (n : Nat) : ∀ a : Int, freeN m a n = true ↔ ∀ k : Int, a ≤ k → k < a + n → k ≤ 512 ∧ m k = false := by
  induction n with
  | zero => intro a; simp only [freeN, true_iff]; intro k h1 h2; omega
  | succ n ih =>
    intro a
    simp only [freeN, Bool.and_eq_true, decide_eq_true_eq, Bool.not_eq_true', ih (a + 1)]
    constructor
    · rintro ⟨h1, h2, h3⟩ k h4 h5
      by_cases c : k = a
      · subst c; exact ⟨h1, h2⟩
      · exact h3 k (by omega) (by omega)
    · intro h
      have h1 := h a (by omega) (by omega)
      exact ⟨h1.1, h1.2, fun k h4 h5 => h k (by omega) (by omega)⟩
/-- the mark of slot k of universe U, by units and their sizes -/
def usedB (us : List (Unt × Int)) (U k : Int) : Bool := us.any (fun x => decide (x.1.univ = U) && (decide (x.1.addr ≤ k) && decide (k < x.1.addr + x.2)))
theorem usedB_other (us : List (Unt × Int)) (u : Unt) (s U k : Int) (h : u.univ ≠ U) : usedB (us ++ [(u, s)]) U k = usedB us U k := by
  simp [usedB, h]
theorem usedB_same (us : List (Unt × Int)) (u : Unt) (s k : Int) : usedB (us ++ [(u, s)]) u.univ k = (usedB us u.univ k || (decide (u.addr ≤ k) && decide (k < u.addr + s))) := by
  simp [usedB]
theorem usedB_none (us : List (Unt × Int)) (U k : Int) (h : ∀ x ∈ us, x.1.univ ≠ U) : usedB us U k = false := by
  unfold usedB
  rw [List.any_eq_false]
  intro x hx
  simp [h x hx]
def ptrV (g : Nat) : Value := .pointer (some ⟨g, 0, none⟩)
def UsedU (base : Nat) (w : World) (mb : Nat) (us : List (Unt × Int)) (f : Lit → Option Value) (U : Int) : Prop :=
  (f (.int .i64 U) = none ∧ ∀ x ∈ us, x.1.univ ≠ U) ∨ ∃ g, f (.int .i64 U) = some (ptrV g) ∧ base ≤ g ∧ g ≠ mb ∧ g < w.heap.size ∧ SlotsAt w g (usedB us U)
/-- block mb is a map from universes to their rows of marks, from block base on -/
def UsedS (base : Nat) (w : World) (mb : Nat) (us : List (Unt × Int)) : Prop :=
  ∃ n f, n ≤ us.length ∧ MapM w Try.prog 3 mb n f ∧ (∀ U, UsedU base w mb us f U) ∧ ∀ U V g, f (.int .i64 U) = some (ptrV g) → f (.int .i64 V) = some (ptrV g) → U = V
theorem ptrV_inj {g h : Nat} (e : ptrV g = ptrV h) : g = h := by unfold ptrV at e; simpa using e
theorem keyLitI_ (U : Int) : WideAt.IsKeyLit (.int .i64 U) := trivial
theorem litI_ne {U V : Int} (h : U ≠ V) : Lit.int .i64 U ≠ Lit.int .i64 V := fun e => h (by injection e)
theorem used_made (base : Nat) (w : World) : UsedS base (w.alloc (.map #[] 0)) w.heap.size [] :=
  ⟨0, fun _ => none, by simp, mapM_made w _ _, fun U => .inl ⟨rfl, by simp⟩, fun U V g h => by cases h⟩
theorem UsedS.keep {base mb : Nat} {w w' : World} {us : List (Unt × Int)} (h : UsedS base w mb us) (hs : w.heap.size ≤ w'.heap.size) (hb : ∀ b, (b = mb ∨ base ≤ b) → b < w.heap.size → w'.heap[b]? = w.heap[b]?) : UsedS base w' mb us := by
  obtain ⟨n, f, h1, h2, h3, h4⟩ := h
  refine ⟨n, f, h1, h2.same (hb _ (.inl rfl) h2.lt), fun U => ?_, h4⟩
  rcases h3 U with h | ⟨g, e1, e2, e3, e4, e5⟩
  · exact .inl h
  · exact .inr ⟨g, e1, e2, e3, by omega, e5.same (hb g (.inr e2) e4)⟩
theorem UsedS.below {base mb : Nat} {w w' : World} {us : List (Unt × Int)} (h : UsedS base w mb us) (hb : Below w.heap.size w w') : UsedS base w' mb us := h.keep hb.size (fun b _ hl => hb.block b hl)
theorem UsedS.alloc {base mb : Nat} {w : World} {us : List (Unt × Int)} (h : UsedS base w mb us) (o : Obj) : UsedS base (w.alloc o) mb us := h.below ((Below.refl _ _).alloc (Nat.le_refl _) o)
theorem UsedS.drewN {base mb : Nat} {w : World} {us : List (Unt × Int)} (h : UsedS base w mb us) (n : Nat) : UsedS base (w.drewN n) mb us := h.keep (Nat.le_refl _) (fun _ _ _ => rfl)
theorem UsedS.lt {base mb : Nat} {w : World} {us : List (Unt × Int)} (h : UsedS base w mb us) : mb < w.heap.size := by
  obtain ⟨n, f, h1, h2, _⟩ := h
  exact h2.lt
def markK (m : Int → Bool) (a k : Int) : Int → Bool := fun j => m j || (decide (a ≤ j) && decide (j < k))
theorem markK_start (m : Int → Bool) (a j : Int) : markK m a a j = m j := by
  unfold markK
  by_cases h1 : a ≤ j
  · have : ¬ j < a := by omega
    simp [h1, this]
  · simp [h1]
/-- a further unit, in a universe that has a row -/
theorem UsedS.more_old {base mb g : Nat} {w w' : World} {us : List (Unt × Int)} {u : Unt} {s : Int} {n : Nat} {f : Lit → Option Value} (hn : n ≤ us.length) (hM : MapM w Try.prog 3 mb n f) (hU : ∀ U, UsedU base w mb us f U)
    (hI : ∀ U V g, f (.int .i64 U) = some (ptrV g) → f (.int .i64 V) = some (ptrV g) → U = V) (hf : f (.int .i64 u.univ) = some (ptrV g)) (hsz : w.heap.size ≤ w'.heap.size) (hg : g ≠ mb) (hbg : base ≤ g) (hgl : g < w'.heap.size) (hb : ∀ b, b ≠ g → b < w.heap.size → w'.heap[b]? = w.heap[b]?)
    (hS : SlotsAt w' g (markK (usedB us u.univ) u.addr (u.addr + s))) : UsedS base w' mb (us ++ [(u, s)]) := by
  refine ⟨n, f, by simp; omega, hM.same (hb mb (Ne.symm hg) hM.lt), fun U => ?_, hI⟩
  by_cases c : U = u.univ
  · subst c
    exact .inr ⟨g, hf, hbg, hg, hgl, hS.cast (fun j => usedB_same us u s j)⟩
  · rcases hU U with ⟨h1, h2⟩ | ⟨g', e1, e2, e3, e4, e5⟩
    · refine .inl ⟨h1, fun x hx => ?_⟩
      simp only [List.mem_append, List.mem_singleton] at hx
      rcases hx with hx | rfl
      · exact h2 x hx
      · exact fun e => c e.symm
    · have hgg : g' ≠ g := fun e => c (hI U u.univ g (by rw [e1, e]) hf)
      exact .inr ⟨g', e1, e2, e3, by omega, (e5.same (hb g' hgg e4)).cast (fun j => usedB_other us u s U j (fun e => c e.symm))⟩
/-- a further unit, in a universe without a row: its row is block g, a new one -/
theorem UsedS.more_new {base mb g : Nat} {w w' : World} {us : List (Unt × Int)} {u : Unt} {s : Int} {n : Nat} {f : Lit → Option Value} (hn : n ≤ us.length) (hU : ∀ U, UsedU base w mb us f U)
    (hI : ∀ U V g, f (.int .i64 U) = some (ptrV g) → f (.int .i64 V) = some (ptrV g) → U = V) (hf : f (.int .i64 u.univ) = none) (hsz : w.heap.size ≤ w'.heap.size) (hg : g ≠ mb) (hbg : base ≤ g) (hnew : w.heap.size ≤ g) (hgl : g < w'.heap.size) (hb : ∀ b, b ≠ mb → b < w.heap.size → w'.heap[b]? = w.heap[b]?)
    (hM : MapM w' Try.prog 3 mb (n + 1) (putF f (.int .i64 u.univ) (ptrV g))) (hS : SlotsAt w' g (markK (fun _ => false) u.addr (u.addr + s))) : UsedS base w' mb (us ++ [(u, s)]) := by
  have hno : ∀ x ∈ us, x.1.univ ≠ u.univ := by
    rcases hU u.univ with ⟨_, h2⟩ | ⟨g', e1, _⟩
    · exact h2
    · rw [hf] at e1; cases e1
  refine ⟨n + 1, _, by simp; omega, hM, fun U => ?_, fun U V g1 h1 h2 => ?_⟩
  · by_cases c : U = u.univ
    · subst c
      refine .inr ⟨g, putF_same (keyLitI_ _), hbg, hg, hgl, hS.cast (fun j => ?_)⟩
      rw [usedB_same us u s j, usedB_none us _ j hno]
      rfl
    · rcases hU U with ⟨h1, h2⟩ | ⟨g', e1, e2, e3, e4, e5⟩
      · refine .inl ⟨(putF_other (litI_ne c)).trans h1, fun x hx => ?_⟩
        simp only [List.mem_append, List.mem_singleton] at hx
        rcases hx with hx | rfl
        · exact h2 x hx
        · exact fun e => c e.symm
      · exact .inr ⟨g', (putF_other (litI_ne c)).trans e1, e2, e3, by omega, (e5.same (hb g' e3 e4)).cast (fun j => usedB_other us u s U j (fun e => c e.symm))⟩
  · have old : ∀ U, f (.int .i64 U) = some (ptrV g1) → g1 < w.heap.size := fun U h => by
      rcases hU U with ⟨h1, _⟩ | ⟨g', e1, _, _, e4, _⟩
      · rw [h] at h1; cases h1
      · rw [h] at e1
        have := ptrV_inj (Option.some.inj e1)
        omega
    by_cases c : U = u.univ
    · by_cases d : V = u.univ
      · rw [c, d]
      · rw [putF_other (litI_ne d)] at h2
        rw [c, putF_same (keyLitI_ _)] at h1
        have := ptrV_inj (Option.some.inj h1)
        have := old V h2
        omega
    · rw [putF_other (litI_ne c)] at h1
      by_cases d : V = u.univ
      · rw [d, putF_same (keyLitI_ _)] at h2
        have := ptrV_inj (Option.some.inj h2)
        have := old U h1
        omega
      · rw [putF_other (litI_ne d)] at h2
        exact hI U V g1 h1 h2
/-- a row's cell is marked -/
theorem SlotsAt.mark {w : World} {g : Nat} {m : Int → Bool} {a : Int} {k : Nat} (h : SlotsAt w g (markK m a k)) (ha : a ≤ k) : SlotsAt (w.setCell ⟨g, k, none⟩ (.bool true)) g (markK m a ((k + 1 : Nat) : Int)) := by
  intro j hj
  obtain ⟨h1, h2⟩ := h j hj
  by_cases c : j = k
  · subst c
    refine ⟨?_, (World.frozen?_setCell _ _ _ _).trans h2⟩
    rw [World.cell?_setCell_same _ _ _ h1]
    have : markK m a ((j + 1 : Nat) : Int) (j : Int) = true := by
      unfold markK
      have e1 : decide (a ≤ (j : Int)) = true := by simpa using ha
      have e2 : decide ((j : Int) < ((j + 1 : Nat) : Int)) = true := by simp; omega
      rw [e1, e2]; simp
    rw [this]
  · refine ⟨?_, (World.frozen?_setCell _ _ _ _).trans h2⟩
    rw [World.cell?_setCell_other _ _ _ _ (by intro e; injection e with _ e; exact c e.symm)]
    rw [h1]
    have : markK m a ((k + 1 : Nat) : Int) (j : Int) = markK m a (k : Int) (j : Int) := by
      unfold markK
      congr 2
      simp only [decide_eq_decide]
      omega
    rw [this]
end Go.Proofs.Ytabalicembhjmaa

namespace Go.Proofs.Ytabalicembhjmaa
open Go.RowKit
set_option linter.unusedVariables false
set_option linter.unusedSimpArgs false

def usOf (lib : List Prf) (l : List Unt) : List (Unt × Int) := l.map (fun u => (u, sizeOf' lib u))
theorem usOf_snoc (lib : List Prf) (l : List Unt) (k : Nat) (h : k < l.length) : usOf lib (l.take (k + 1)) = usOf lib (l.take k) ++ [(l[k], sizeOf' lib l[k])] := by
  unfold usOf
  rw [List.take_succ_eq_append_getElem h, List.map_append]; rfl
theorem size_of {lib : List Prf} {u : Unt} {p : Prf} (h : profOf lib u.nm = some p) : sizeOf' lib u = p.size := by simp [sizeOf', h]
theorem size_pos {lib : List Prf} (hl : chkLib lib = 0) {u : Unt} {p : Prf} (h : profOf lib u.nm = some p) : 1 ≤ p.size ∧ p.size ≤ 512 := (chkPrf_zero (chkLib_prf hl (profOf_some h).1)).2.1
/-- units clash just where one's slots are taken already -/
theorem clash_free {lib : List Prf} (hl : chkLib lib = 0) (pre : List Unt) (hp : ∀ x ∈ pre, ∃ p, profOf lib x.nm = some p) (u : Unt) (p : Prf) (hu : profOf lib u.nm = some p) (hb : untBad u p.size = false) :
    pre.any (clashU lib u) = !freeN (usedB (usOf lib pre) u.univ) u.addr p.size.toNat := by
  obtain ⟨b1, b2, b3⟩ := untBad_false hb
  have hs := size_pos hl hu
  have hsu := size_of hu
  have key : pre.any (clashU lib u) = true ↔ ¬ freeN (usedB (usOf lib pre) u.univ) u.addr p.size.toNat = true := by
    rw [freeN_iff, List.any_eq_true]
    constructor
    · rintro ⟨x, hx, hc⟩ hf
      obtain ⟨q, hq⟩ := hp x hx
      have hsq := size_pos hl hq
      have hsx := size_of hq
      simp only [clashU, lastOf, hsu, hsx, Bool.and_eq_true, decide_eq_true_eq] at hc
      obtain ⟨⟨c1, c2⟩, c3⟩ := hc
      obtain ⟨m, hm1, hm2, hm3, hm4⟩ : ∃ m : Int, u.addr ≤ m ∧ m < u.addr + p.size ∧ x.addr ≤ m ∧ m < x.addr + q.size := by
        by_cases c : u.addr ≤ x.addr
        · exact ⟨x.addr, c, by omega, by omega, by omega⟩
        · exact ⟨u.addr, by omega, by omega, by omega, by omega⟩
      have := (hf m hm1 (by omega)).2
      have : usedB (usOf lib pre) u.univ m = true := by
        unfold usedB
        rw [List.any_eq_true]
        exact ⟨(x, sizeOf' lib x), List.mem_map.2 ⟨x, hx, rfl⟩, by simp only [hsx, Bool.and_eq_true, decide_eq_true_eq]; exact ⟨c1, hm3, hm4⟩⟩
      simp_all
    · intro hf
      by_cases c : ∃ x ∈ pre, clashU lib u x = true
      · exact c
      · refine absurd (fun m h1 h2 => ⟨by omega, ?_⟩) hf
        unfold usedB
        rw [List.any_eq_false]
        intro y hy
        obtain ⟨x, hx, rfl⟩ := List.mem_map.1 hy
        obtain ⟨q, hq⟩ := hp x hx
        have hsx := size_of hq
        intro hcon
        simp only [hsx, Bool.and_eq_true, decide_eq_true_eq] at hcon
        obtain ⟨c1, c2, c3⟩ := hcon
        refine c ⟨x, hx, ?_⟩
        simp only [clashU, lastOf, hsu, hsx, Bool.and_eq_true, decide_eq_true_eq]
        exact ⟨⟨c1, by omega⟩, by omega⟩
  cases h : freeN (usedB (usOf lib pre) u.univ) u.addr p.size.toNat <;> simp_all
theorem clash_none {lib : List Prf} (pre : List Unt) (u : Unt) (h : ∀ x ∈ usOf lib pre, x.1.univ ≠ u.univ) : pre.any (clashU lib u) = false := by
  rw [List.any_eq_false]
  intro x hx
  have := h (x, sizeOf' lib x) (List.mem_map.2 ⟨x, hx, rfl⟩)
  simp [clashU, this]
theorem pre_known {lib : List Prf} {units : List Unt} {k : Nat} (hk : k ≤ units.length) (h : ∀ j (hj : j < units.length), j < k → untF lib (units.take j) units[j] = 0) : ∀ x ∈ units.take k, ∃ p, profOf lib x.nm = some p := by
  intro x hx
  obtain ⟨j, hj, rfl⟩ := List.getElem_of_mem hx
  rw [List.length_take] at hj
  have h1 := h j (by omega) (by omega)
  obtain ⟨_, _, ⟨p, hp, _⟩, _⟩ := untF_zero h1
  exact ⟨p, by rw [List.getElem_take]; exact hp⟩
theorem parS_shape {B : Nat} {w : World} {v : Value} {l : List Par} (h : ParS B w v l) : ∃ ao cap, v = .slice ao l.length cap := by
  obtain ⟨lv, hlv, hcs, _⟩ := h
  obtain ⟨ao, cap, rfl, _⟩ := CellsS.shape hcs
  exact ⟨ao, cap, by rw [← hlv]; simp⟩
theorem prfS_shape {B : Nat} {w : World} {v : Value} {l : List Prf} (h : PrfS B w v l) : ∃ ao cap, v = .slice ao l.length cap := by
  obtain ⟨lv, hlv, hcs, _⟩ := h
  obtain ⟨ao, cap, rfl, _⟩ := CellsS.shape hcs
  exact ⟨ao, cap, by rw [← hlv]; simp⟩
theorem usOf_len (lib : List Prf) (l : List Unt) : (usOf lib l).length = l.length := by simp [usOf]
end Go.Proofs.Ytabalicembhjmaa
