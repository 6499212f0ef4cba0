/- A map of the call's own whose elements are bools, as the list of the keys that are in it. No program in it. A map of the call's own, whatever its elements, as a partial function from keys to values. No program in it. Words of fixtures' checks: levels, zero values, strings and ints as keys of maps. (printed by wip/gen/gen_ckrng.py) -/
import Derived.Maps.OwnOps
import Derived.Maps.OwnSet
import Derived.Maps.Own
import Derived.Maps.Views
import Derived.Below
import Derived.Test.YtppbagllhmeenaaGreatDoorT68M19
import Derived.Maps.Keyed
import Derived.StringKeys

namespace Go.Proofs.YtppbagllhmeenaaGreatDoor
open Go.Maps (Keyed IsMap atKey_put_same atKey_put_other)
open Go.ChangeShapes Go.WideShapes Go.RowKit
set_option linter.unusedVariables false

section
variable {H : Type}
theorem plainElem_bool_inv {P : Program} {e : TypeId} (he : P.underlying e = some .bool) {v : Value} {z : DataW H × List MemPlace} (h : plainElem P e v = some z) : ∃ x, v = .bool x ∧ z = (.lit (.bool x), []) := by
  unfold plainElem at h
  rw [he] at h
  cases v <;> simp at h
  exact ⟨_, rfl, h.symm⟩

/-- block b of w is a map of at most n entries; just the keys of S are there, each with true -/
structure SeenM (w : World) (P : Program) (k e : TypeId) (b n : Nat) (S : List Lit) : Prop where
  own : ∃ D : DataW Unit, w.ownsMap P k (plainElem P e) b n D ∧ IsMap D ∧ ∀ kl, ∃ c : Bool, D.atKey kl (.lit (.bool false)) = .lit (.bool c) ∧ (c = true ↔ kl ∈ S)

theorem seen_made (w : World) (P : Program) (k e : TypeId) : SeenM (w.alloc (.map #[] 0)) P k e w.heap.size 0 [] :=
  ⟨.map [], World.ownsMap_made w P k _, ⟨_, rfl⟩, fun kl => ⟨false, by rw [WideAt.atKey_none _ (by simp)], by simp⟩⟩

theorem SeenM.kept {w w' : World} {P : Program} {k e : TypeId} {b n : Nat} {S : List Lit} {row : Option Nat} (h : SeenM w P k e b n S) (hg : w.grownBy w' row) (hne : some b ≠ row) : SeenM w' P k e b n S := by
  obtain ⟨D, h1, h2, h3⟩ := h.own
  exact ⟨D, h1.kept hg hne, h2, h3⟩
theorem SeenM.below {B : Nat} {w w' : World} {P : Program} {k e : TypeId} {b n : Nat} {S : List Lit} (h : SeenM w P k e b n S) (hb : Below B w w') (hlt : b < B) : SeenM w' P k e b n S := by
  obtain ⟨D, ⟨es, clock, h1, h2, h3, h4⟩, h5, h6⟩ := h.own
  exact ⟨D, ⟨es, clock, (hb.block _ hlt).trans h1, h2, h3, h4⟩, h5, h6⟩
theorem SeenM.lt {w : World} {P : Program} {k e : TypeId} {b n : Nat} {S : List Lit} (h : SeenM w P k e b n S) : b < w.heap.size := by
  obtain ⟨D, h1, h2, h3⟩ := h.own
  exact h1.lt

/-- the look-up: it is true just at a key that is there -/
theorem wpList_seen {P : Program} (w : World) {ops : Array Oper} {rest : List Oper} {o : Oper} {a : Act} {Q : Exit → Act → World → Prop}
    (hg : o.guard = none) (m x : Operand) (t : TypeId) (hop : o.op = Op.lookup t m x false)
    (k e : TypeId) (K : Keyed P k) (ht : P.underlying t = some (.map k e)) (he : P.underlying e = some .bool) (hz : (zeroValue e).run P w = .ok (.bool false) w) (b n : Nat) (S : List Lit)
    (hm : a.eval m = .map (some b)) (hown : SeenM w P k e b n S) (key : Value) (kl : Lit) (hx : a.eval x = key) (hkey : keyOf P k key = some kl)
    (hK : ∀ c : Bool, (c = true ↔ kl ∈ S) → wpList P ops Q rest (a.put o.dst (.bool c)) w) :
    wpList P ops Q (o :: rest) a w := by
  refine wpList_plain hg fun K' hK' => ?_
  obtain ⟨D, h1, h2, h3⟩ := hown.own
  obtain ⟨v, ps, hrun, hv⟩ := h1.lookup K ht hz (plainElem_bool he false) hkey
  obtain ⟨x', rfl, hx'⟩ := plainElem_bool_inv he hv
  obtain ⟨c, h4, h5⟩ := h3 kl
  rw [h4] at hx'
  simp at hx'
  obtain ⟨hxe, rfl⟩ := hx'
  subst hxe
  unfold Oper.wp
  simp [execOp, hop, hm, hx, hrun, Result.andThen]
  exact hK' _ _ (hK c h5)

/-- the look-up with 'ok' in a nil map -/
theorem wpList_nil_ok {P : Program} (w : World) {ops : Array Oper} {rest : List Oper} {o : Oper} {a : Act} {Q : Exit → Act → World → Prop}
    (hg : o.guard = none) (m x : Operand) (t : TypeId) (hop : o.op = Op.lookup t m x true)
    (k e : TypeId) (K : Keyed P k) (ht : P.underlying t = some (.map k e)) (z : Value) (hz : (zeroValue e).run P w = .ok z w)
    (hm : a.eval m = .map none) (key : Value) (kl : Lit) (hx : a.eval x = key) (hkey : keyOf P k key = some kl)
    (hK : wpList P ops Q rest (a.put o.dst (.tuple #[z, .bool false])) w) :
    wpList P ops Q (o :: rest) a w := by
  refine wpList_plain hg fun K' hK' => ?_
  have hrun := Maps.look_nil (w := w) true K ht hz hkey
  unfold Oper.wp
  simp [execOp, hop, hm, hx, hrun, Result.andThen]
  exact hK' _ _ hK

theorem SeenM.put {w' : World} {P : Program} {k e : TypeId} {b n : Nat} {S : List Lit} {D : DataW Unit} {kl : Lit} (hD : IsMap D) (h3 : ∀ kl, ∃ c : Bool, D.atKey kl (.lit (.bool false)) = .lit (.bool c) ∧ (c = true ↔ kl ∈ S)) (hk : WideAt.IsKeyLit kl)
    (h : w'.ownsMap P k (plainElem P e) b n (D.put kl (.lit (.bool true)))) : SeenM w' P k e b n (S ++ [kl]) := by
  refine ⟨_, h, hD.put _ _, fun kl' => ?_⟩
  by_cases c : kl' = kl
  · subst c
    exact ⟨true, atKey_put_same hD hk _ _, by simp⟩
  · obtain ⟨x, h4, h5⟩ := h3 kl'
    exact ⟨x, (atKey_put_other c _ _).trans h4, by rw [h5]; simp [c]⟩

/-- the store of true: the key is there from now on -/
theorem wpList_seen_put {P : Program} (w : World) {ops : Array Oper} {rest : List Oper} {o : Oper} {a : Act} {Q : Exit → Act → World → Prop}
    (hg : o.guard = none) (m x v : Operand) (t : TypeId) (hop : o.op = Op.mapUpdate t m x v)
    (k e : TypeId) (K : Keyed P k) (ht : P.underlying t = some (.map k e)) (he : P.underlying e = some .bool) (b n : Nat) (S : List Lit)
    (hm : a.eval m = .map (some b)) (hown : SeenM w P k e b n S) (hn : n < maxLen) (key : Value) (kl : Lit) (hx : a.eval x = key) (hv : a.eval v = .bool true) (hkey : keyOf P k key = some kl)
    (hK : ∀ w', SeenM w' P k e b (n + 1) (S ++ [kl]) → w.grownBy w' (some b) → wpList P ops Q rest (a.put o.dst undef) w') :
    wpList P ops Q (o :: rest) a w := by
  obtain ⟨D, h1, h2, h3⟩ := hown.own
  exact wpList_mapUpdate_own w hg m x v t hop k e K ht _ b n D hm h1 hn key _ kl hx hv hkey _ [] (plainElem_bool he true) fun w' r1 r2 => hK w' (SeenM.put h2 h3 (K.key hkey) r1) r2
end
end Go.Proofs.YtppbagllhmeenaaGreatDoor

namespace Go.Proofs.YtppbagllhmeenaaGreatDoor
open Go.Maps (Keyed IsMap atKey_put_same atKey_put_other)
open Go.ChangeShapes Go.WideShapes Go.RowKit
set_option linter.unusedVariables false

/-- an element stands for itself -/
def selfElem (v : Value) : Option (DataW Value × List MemPlace) := some (.held v, [])

/-- block b of w is a map of at most n entries: at key kl it holds f kl -/
structure MapM (w : World) (P : Program) (k : TypeId) (b n : Nat) (f : Lit → Option Value) : Prop where
  own : ∃ D : DataW Value, w.ownsMap P k selfElem b n D ∧ IsMap D ∧ ∀ kl, (f kl = none → ∀ z, D.atKey kl z = z) ∧ (∀ v, f kl = some v → ∀ z, D.atKey kl z = .held v)
def putF (f : Lit → Option Value) (kl : Lit) (v : Value) : Lit → Option Value := fun x => if x.sameKey kl then some v else f x
theorem putF_same {f : Lit → Option Value} {kl : Lit} {v : Value} (hk : WideAt.IsKeyLit kl) : putF f kl v kl = some v := by unfold putF; rw [WideAt.sameKey_self hk]; rfl
theorem putF_other {f : Lit → Option Value} {kl x : Lit} {v : Value} (h : x ≠ kl) : putF f kl v x = f x := by unfold putF; rw [Maps.sameKey_ne h]; rfl

section
variable {w : World} {P : Program} {k : TypeId} {b n : Nat} {f : Lit → Option Value}
theorem mapM_made (w : World) (P : Program) (k : TypeId) : MapM (w.alloc (.map #[] 0)) P k w.heap.size 0 (fun _ => none) :=
  ⟨.map [], World.ownsMap_made w P k _, ⟨_, rfl⟩, fun kl => ⟨fun _ z => WideAt.atKey_none _ (by simp), fun v h => by cases h⟩⟩
theorem MapM.kept {w' : World} {row : Option Nat} (h : MapM w P k b n f) (hg : w.grownBy w' row) (hne : some b ≠ row) : MapM w' P k b n f := by
  obtain ⟨D, h1, h2, h3⟩ := h.own
  exact ⟨D, h1.kept hg hne, h2, h3⟩
theorem MapM.below {B : Nat} {w' : World} (h : MapM w P k b n f) (hb : Below B w w') (hlt : b < B) : MapM w' P k b n f := by
  obtain ⟨D, ⟨es, clock, h1, h2, h3, h4⟩, h5, h6⟩ := h.own
  exact ⟨D, ⟨es, clock, (hb.block _ hlt).trans h1, h2, h3, h4⟩, h5, h6⟩
theorem MapM.same {w' : World} (h : MapM w P k b n f) (hb : w'.heap[b]? = w.heap[b]?) : MapM w' P k b n f := by
  obtain ⟨D, ⟨es, clock, h1, h2, h3, h4⟩, h5, h6⟩ := h.own
  exact ⟨D, ⟨es, clock, hb.trans h1, h2, h3, h4⟩, h5, h6⟩
theorem MapM.lt (h : MapM w P k b n f) : b < w.heap.size := by
  obtain ⟨D, h1, _⟩ := h.own
  exact h1.lt
theorem MapM.mono (h : MapM w P k b n f) {n' : Nat} (hn : n ≤ n') : MapM w P k b n' f := by
  obtain ⟨D, h1, h2⟩ := h.own
  exact ⟨D, h1.mono hn, h2⟩
theorem MapM.cast (h : MapM w P k b n f) {g : Lit → Option Value} (hg : ∀ kl, g kl = f kl) : MapM w P k b n g := by
  obtain rfl : g = f := funext hg
  exact h

/-- 'm[k]' and 'v, ok := m[k]' as runs -/
theorem MapM.look {t e : TypeId} (h : MapM w P k b n f) (c : Bool) (K : Keyed P k) (ht : P.underlying t = some (.map k e)) {z : Value} (hz : (zeroValue e).run P w = .ok z w) {key : Value} {kl : Lit} (hkey : keyOf P k key = some kl) :
    (Instr.lookup t (.map (some b)) key c).run P w = .ok (if c then .tuple #[(f kl).getD z, .bool (f kl).isSome] else (f kl).getD z) w := by
  obtain ⟨D, ⟨es, clock, hb, F, _, rfl⟩, h2, h3⟩ := h.own
  obtain ⟨h4, h5⟩ := h3 kl
  rcases Maps.fit_look c K ht hz hb F hkey with ⟨hrun, _, hat⟩ | ⟨e0, y, _, _, hrun, hRv, hat, _⟩
  · rw [hrun]
    cases hf : f kl with
    | none => simp
    | some v =>
      have := (hat .nil).symm.trans (h5 v hf .nil)
      cases this
  · rw [hrun]
    unfold selfElem at hRv
    simp only [Option.some.injEq] at hRv
    subst hRv
    cases hf : f kl with
    | none =>
      have := (hat .nil).symm.trans (h4 hf .nil)
      cases this
    | some v =>
      have := (hat .nil).symm.trans (h5 v hf .nil)
      simp only [DataW.held.injEq] at this
      rw [this]
      simp
/-- 'm[k] = v' as a run -/
theorem MapM.update {t e : TypeId} (h : MapM w P k b n f) (K : Keyed P k) (ht : P.underlying t = some (.map k e)) (hn : n < maxLen) {key val : Value} {kl : Lit} (hkey : keyOf P k key = some kl) :
    ∃ w', (Instr.mapUpdate t (.map (some b)) key val).run P w = .ok () w' ∧ MapM w' P k b (n + 1) (putF f kl val) ∧ w.grownBy w' (some b) := by
  obtain ⟨D, h1, h2, h3⟩ := h.own
  obtain ⟨w', hrun, r1, r2⟩ := h1.update K ht hn hkey (val := val) (d := .held val) (ps := []) rfl
  refine ⟨w', hrun, ⟨_, r1, h2.put _ _, fun kl' => ?_⟩, r2⟩
  by_cases c : kl' = kl
  · subst c
    rw [putF_same (K.key hkey)]
    refine ⟨by simp, fun v hv z => ?_⟩
    obtain rfl := Option.some.inj hv
    exact atKey_put_same h2 (K.key hkey) _ _
  · rw [putF_other c]
    exact ⟨fun h z => (atKey_put_other c _ _).trans ((h3 kl').1 h z), fun v hv z => (atKey_put_other c _ _).trans ((h3 kl').2 v hv z)⟩
end

section
variable {P : Program} (w : World) {ops : Array Oper} {rest : List Oper} {o : Oper} {a : Act} {Q : Exit → Act → World → Prop}
theorem wpList_mapM (hg : o.guard = none) (m x : Operand) (t : TypeId) (hop : o.op = Op.lookup t m x false)
    (k e : TypeId) (K : Keyed P k) (ht : P.underlying t = some (.map k e)) (z : Value) (hz : (zeroValue e).run P w = .ok z w) (b n : Nat) (f : Lit → Option Value)
    (hm : a.eval m = .map (some b)) (hown : MapM w P k b n f) (key : Value) (kl : Lit) (hx : a.eval x = key) (hkey : keyOf P k key = some kl) (v : Value) (hv : (f kl).getD z = v)
    (hK : wpList P ops Q rest (a.put o.dst v) w) :
    wpList P ops Q (o :: rest) a w := by
  refine wpList_plain hg fun K' hK' => ?_
  have hrun := hown.look false K ht hz hkey
  rw [hv] at hrun
  unfold Oper.wp
  simp [execOp, hop, hm, hx, hrun, Result.andThen]
  exact hK' _ _ hK
theorem wpList_mapM_ok (hg : o.guard = none) (m x : Operand) (t : TypeId) (hop : o.op = Op.lookup t m x true)
    (k e : TypeId) (K : Keyed P k) (ht : P.underlying t = some (.map k e)) (z : Value) (hz : (zeroValue e).run P w = .ok z w) (b n : Nat) (f : Lit → Option Value)
    (hm : a.eval m = .map (some b)) (hown : MapM w P k b n f) (key : Value) (kl : Lit) (hx : a.eval x = key) (hkey : keyOf P k key = some kl) (v : Value) (hv : (f kl).getD z = v) (c : Bool) (hc : (f kl).isSome = c)
    (hK : wpList P ops Q rest (a.put o.dst (.tuple #[v, .bool c])) w) :
    wpList P ops Q (o :: rest) a w := by
  refine wpList_plain hg fun K' hK' => ?_
  have hrun := hown.look true K ht hz hkey
  rw [hv, hc] at hrun
  unfold Oper.wp
  simp [execOp, hop, hm, hx, hrun, Result.andThen]
  exact hK' _ _ hK
theorem wpList_mapM_put (hg : o.guard = none) (m x v : Operand) (t : TypeId) (hop : o.op = Op.mapUpdate t m x v)
    (k e : TypeId) (K : Keyed P k) (ht : P.underlying t = some (.map k e)) (b n : Nat) (f : Lit → Option Value)
    (hm : a.eval m = .map (some b)) (hown : MapM w P k b n f) (hn : n < maxLen) (key val : Value) (kl : Lit) (hx : a.eval x = key) (hv : a.eval v = val) (hkey : keyOf P k key = some kl)
    (hK : ∀ w', MapM w' P k b (n + 1) (putF f kl val) → w.grownBy w' (some b) → wpList P ops Q rest (a.put o.dst undef) w') :
    wpList P ops Q (o :: rest) a w := by
  refine wpList_plain hg fun K' hK' => ?_
  obtain ⟨w', hrun, r1, r2⟩ := hown.update K ht hn hkey (val := val)
  unfold Oper.wp
  simp [execOp, hop, hm, hx, hv, hrun, Result.andThen]
  exact hK' _ _ (hK w' r1 r2)
end
end Go.Proofs.YtppbagllhmeenaaGreatDoor

namespace Go.Proofs.YtppbagllhmeenaaGreatDoor
open Go.RowKit
set_option linter.unusedVariables false
set_option linter.unusedSimpArgs false

set_option maxHeartbeats 400000 in
theorem fLevel_R (n : Int) (w : World) : Calls Tryz.prog 69 #[.int .i64 n] w fun e w' => e = .returned (.bool (inR n 0 65535)) ∧ w = w' := by
  go_enter Tryz.func69, Tryz.ntmps69
  go_wp2_with (go_at_call 46; refine (within_R _ _ _ _).mono ?_; rintro e w' ⟨rfl, rfl⟩)
  go_ret
  exact ⟨rfl, rfl⟩
theorem zeroI_ (w : World) : (zeroValue 3).run Tryz.prog w = .ok (.int .i64 0) w := by kernel_rfl
theorem zeroB_ (w : World) : (zeroValue 4).run Tryz.prog w = .ok (.bool false) w := by kernel_rfl
theorem keyS_ : Maps.Keyed Tryz.prog 9 := Maps.string_keyed Tryz.underlying9
theorem keyI_ : Maps.Keyed Tryz.prog 3 := Maps.int_keyed Tryz.underlying3
theorem keyOfS_ {s : ByteArray} (h : s.size ≤ maxLen) : keyOf Tryz.prog 9 (.string s) = some (.string s.data.toList) := WideMaps.keyOf_string_mk Tryz.underlying9 h
theorem i64wf_ {a : Int} (h : I64 a) : (Lit.int .i64 a).wf = true := by
  unfold I64 at h
  simp [Lit.wf, IntKind.min, IntKind.max, IntKind.signed, IntKind.bits]
  omega
theorem keyOfI_ {a : Int} (h : I64 a) : keyOf Tryz.prog 3 (.int .i64 a) = some (.int .i64 a) := Maps.keyOf_int_mk Tryz.underlying3 (i64wf_ h)
theorem mem_strs {α : Type} (f : α → List UInt8) (l : List α) (x : List UInt8) : Lit.string x ∈ l.map (fun y => Lit.string (f y)) ↔ x ∈ l.map f := by
  rw [List.mem_map, List.mem_map]
  constructor
  · rintro ⟨y, h1, h2⟩; injection h2 with h2; exact ⟨y, h1, h2⟩
  · rintro ⟨y, h1, h2⟩; exact ⟨y, h1, by rw [h2]⟩
theorem mem_ints (l : List Int) (x : Int) : Lit.int .i64 x ∈ l.map (Lit.int .i64) ↔ x ∈ l := by
  rw [List.mem_map]
  constructor
  · rintro ⟨y, h1, h2⟩; injection h2 with _ h2; subst h2; exact h1
  · intro h; exact ⟨x, h, rfl⟩
theorem strs_snoc {α : Type} (f : α → List UInt8) (l : List α) (k : Nat) (h : k < l.length) : (l.take (k + 1)).map (fun y => Lit.string (f y)) = (l.take k).map (fun y => Lit.string (f y)) ++ [Lit.string (f l[k])] := by
  rw [List.take_succ_eq_append_getElem h, List.map_append]; rfl
end Go.Proofs.YtppbagllhmeenaaGreatDoor
