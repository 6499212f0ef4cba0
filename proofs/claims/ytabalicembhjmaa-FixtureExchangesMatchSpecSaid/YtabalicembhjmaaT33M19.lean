/- The settings of a unit that gets another profile: carried over or lost. No walk in it. slices.Clone at ranges and at units. (printed by wip/gen/gen_fixclones.py) Own rows changed: an element taken out, one put in; rows of unlike types. No program in it. -/
import Derived.Test.YtabalicembhjmaaT33M18
import Derived.Lib.SliceRun
import Derived.OwnWalk
import Derived.Laws.AppendOwn
import Derived.Test.YtabalicembhjmaaT33M01
import Derived.Laws.IdiomCopy
import Derived.Lib.AppendZerosOnto
import Derived.Lib.Overlaps

namespace Go.Proofs.Ytabalicembhjmaa
open Go.RowKit
set_option linter.unusedVariables false
set_option linter.unusedSimpArgs false

theorem rnd_between {a b m d : Int} (hd : 0 < d) (h1 : a * d ≤ m) (h2 : m ≤ b * d) : a ≤ rnd m d ∧ rnd m d ≤ b := by
  unfold rnd
  constructor
  · rw [Int.le_ediv_iff_mul_le (by omega)]
    have : a * (2 * d) = 2 * (a * d) := by rw [← Int.mul_assoc, Int.mul_comm a 2, Int.mul_assoc]
    omega
  · have h3 : (2 * m + d) / (2 * d) < b + 1 := by
      rw [Int.ediv_lt_iff_lt_mul (by omega), Int.add_mul]
      have : b * (2 * d) = 2 * (b * d) := by rw [← Int.mul_assoc, Int.mul_comm b 2, Int.mul_assoc]
      omega
    omega
theorem carV_range {o q : List Rng} {n : Int} (ho : RngsOk o) (hq : RngsOk q) (n0 : 0 ≤ n) (n1 : n ≤ 65535) : 0 ≤ (carV o q n).1 ∧ (carV o q n).1 ≤ 65535 := by
  by_cases c : o.length = 0 ∨ q.length = 0
  · rw [carV_none c]; exact ⟨n0, n1⟩
  cases ha : o.find? (holds n) with
  | none => rw [carV_out ha]; exact ⟨n0, n1⟩
  | some a =>
    cases hb : q.find? (hasRn a.nm) with
    | none => rw [carV_lost c ha hb]; exact ⟨by decide, by decide⟩
    | some b =>
      have ga := ho a (List.mem_of_find?_eq_some ha)
      have gb := hq b (List.mem_of_find?_eq_some hb)
      have hh := List.find?_some ha
      simp only [holds, decide_eq_true_eq] at hh
      by_cases e : a.low = a.high
      · rw [carV_low c ha hb e]; exact gb.1
      · rw [carV_way c ha hb e]
        have h1 : 0 ≤ (n - a.low) * (b.high - b.low) := Int.mul_nonneg (by omega) (by omega)
        have h2 : (n - a.low) * (b.high - b.low) ≤ (a.high - a.low) * (b.high - b.low) := Int.mul_le_mul_of_nonneg_right (by omega) (by omega)
        have h3 : (a.high - a.low) * (b.high - b.low) = b.high * (a.high - a.low) - b.low * (a.high - a.low) := by rw [Int.mul_comm, Int.sub_mul]
        have h4 := rnd_between (a := b.low) (b := b.high) (m := b.low * (a.high - a.low) + (n - a.low) * (b.high - b.low)) (d := a.high - a.low) (by omega) (by omega) (by omega)
        exact ⟨by have := gb.1; omega, by have := gb.2.1; omega⟩
/-- the level that a setting has with another profile; none: it is lost -/
def carO (old p : Prf) (s : Stg) : Option Int :=
  match parOf p.pars s.par.data.toList with
  | none => none
  | some b => if (carV (((parOf old.pars s.par.data.toList).map Par.rngs).getD []) b.rngs s.lv).2 = true then some (carV (((parOf old.pars s.par.data.toList).map Par.rngs).getD []) b.rngs s.lv).1 else none
def keepS (n : Int) (old p : Prf) (s : Stg) : Option Stg := if s.unit = n then (carO old p s).map (fun v => ⟨s.unit, s.par, v⟩) else some s
def keptS (n : Int) (old p : Prf) (l : List Stg) : List Stg := l.filterMap (keepS n old p)
def lostS (n : Int) (old p : Prf) (l : List Stg) : List (Int × ByteArray) := (l.filter (fun s => (keepS n old p s).isNone)).map Stg.k
theorem kept_len (n : Int) (old p : Prf) (l : List Stg) : (keptS n old p l).length + (lostS n old p l).length = l.length := by
  unfold keptS lostS
  rw [List.length_map]
  induction l with
  | nil => rfl
  | cons s l ih =>
    cases h : keepS n old p s with
    | none => rw [List.filterMap_cons_none h, List.filter_cons_of_pos (by rw [h]; rfl)]; simp only [List.length_cons]; omega
    | some t => rw [List.filterMap_cons_some h, List.filter_cons_of_neg (by rw [h]; simp)]; simp only [List.length_cons]; omega
theorem keep_k {n : Int} {old p : Prf} {s t : Stg} (h : keepS n old p s = some t) : t.k = s.k := by
  unfold keepS at h
  split at h
  · cases hc : carO old p s with
    | none => rw [hc] at h; cases h
    | some v => rw [hc] at h; obtain rfl := Option.some.inj h; rfl
  · obtain rfl := Option.some.inj h; rfl
theorem find_set {α : Type} (f : α → Bool) (v : α) (hv : f v = false) : ∀ (l : List α) (k : Nat) (hk : k < l.length), f l[k] = false → (l.set k v).find? f = l.find? f
  | [], k, hk, _ => absurd hk (by simp)
  | a :: l, 0, _, h => by
    simp only [List.getElem_cons_zero] at h
    rw [List.set_cons_zero, List.find?_cons, List.find?_cons, hv, h]
  | a :: l, k + 1, hk, h => by
    simp only [List.length_cons] at hk
    simp only [List.getElem_cons_succ] at h
    rw [List.set_cons_succ, List.find?_cons, List.find?_cons, find_set f v hv l k (by omega) h]
theorem stgs_iff (x : Rig) (l : List Stg) : chkStgs x l = 0 ↔ (∀ s ∈ l, (findO x s.unit s.par.data.toList).isSome = true ∧ (0 ≤ s.lv ∧ s.lv ≤ 65535)) ∧ l.Pairwise (fun s t => s.k ≠ t.k) := by
  have key : ∀ (pre : List Stg) (s : Stg), stgF x pre s = 0 ↔ (findO x s.unit s.par.data.toList).isSome = true ∧ (0 ≤ s.lv ∧ s.lv ≤ 65535) ∧ ∀ t ∈ pre, t.k ≠ s.k := by
    intro pre s
    unfold stgF
    cases h1 : findO x s.unit s.par.data.toList with
    | none => simp
    | some q =>
      cases h2 : inR s.lv 0 65535
      · have := inR_false h2
        simp
        intro a b; omega
      · have h3 := inR_true h2
        cases h4 : pre.any (isK s.k)
        · have := List.any_eq_false.1 h4
          simp
          refine ⟨h3, fun t ht e => this t ht (by simp [isK, e])⟩
        · obtain ⟨t, ht, e⟩ := List.any_eq_true.1 h4
          simp
          intro _ _
          exact ⟨t, ht, by simpa [isK] using e⟩
  unfold chkStgs
  constructor
  · intro h
    have hz := fun k hk => (key _ _).1 (scanF_zero _ _ h k hk)
    refine ⟨fun s hs => ?_, List.pairwise_iff_getElem.2 fun i j hi hj hij => (hz j hj).2.2 _ (List.mem_take_iff_getElem.2 ⟨i, by omega, rfl⟩)⟩
    obtain ⟨k, hk, rfl⟩ := List.getElem_of_mem hs
    exact ⟨(hz k hk).1, (hz k hk).2.1⟩
  · rintro ⟨h1, h2⟩
    have hp := List.pairwise_iff_getElem.1 h2
    refine scanF_all _ _ fun k hk => (key _ _).2 ⟨(h1 _ (List.getElem_mem hk)).1, (h1 _ (List.getElem_mem hk)).2, fun t ht => ?_⟩
    obtain ⟨i, hi, rfl⟩ := List.mem_take_iff_getElem.1 ht
    exact hp i k (by omega) hk (by omega)
theorem set_find {x : Rig} (hx : chkRig x = 0) {n : Int} {v : Unt} (hv : v.num = n) (hk : posU x.units n < x.units.length) (hn : (x.units[posU x.units n]'hk).num = n) (hy : chkRig (setUn x n v) = 0) {p : Prf} (hp : profOf x.lib v.nm = some p) (m : Int) (q : List UInt8) :
    findO (setUn x n v) m q = if m = n then parOf p.pars q else findO x m q := by
  by_cases c : m = n
  · rw [if_pos c]
    subst c
    have hm : v ∈ (setUn x m v).units := by
      have h1 : ((x.units.set (posU x.units m) v)[posU x.units m]'(by simpa using hk)) = v := List.getElem_set_self ..
      have h2 : (x.units.set (posU x.units m) v)[posU x.units m]'(by simpa using hk) ∈ x.units.set (posU x.units m) v := List.getElem_mem _
      rw [h1] at h2
      exact h2
    have hh : hasU (setUn x m v).units m = true := List.any_eq_true.2 ⟨v, hm, by simpa using hv⟩
    obtain ⟨hq, p', g1, g2, g3⟩ := findO_yes hy hh q
    have e : (setUn x m v).units[posU (setUn x m v).units m]'hq = v := by
      obtain ⟨i, hi, e⟩ := List.getElem_of_mem hm
      have ha := asc_units hy
      have e2 : i = posU (setUn x m v).units m := by
        rcases Nat.lt_trichotomy i (posU (setUn x m v).units m) with h | h | h
        · have := ha _ _ hi hq h; rw [e] at this; omega
        · exact h
        · have := ha _ _ hq hi h; rw [e] at this; omega
      subst e2
      exact e
    rw [e] at g2
    rw [show (setUn x m v).lib = x.lib from rfl, hp] at g2
    rw [g3, ← Option.some.inj g2]
  · rw [if_neg c]
    have h1 : (setUn x n v).units.find? (isNo m) = x.units.find? (isNo m) := find_set (isNo m) v (by simp [isNo]; omega) x.units _ hk (by simp [isNo]; omega)
    unfold findO
    rw [h1]
    rfl
theorem kept_right {x : Rig} (hx : chkRig x = 0) {n : Int} {v : Unt} (hv : v.num = n) (hk : posU x.units n < x.units.length) (hn : (x.units[posU x.units n]'hk).num = n) (hy : chkRig (setUn x n v) = 0) {p old : Prf} (hp : profOf x.lib v.nm = some p) (ho : chkPrf old = 0) {l : List Stg} (hl : chkStgs x l = 0) :
    chkStgs (setUn x n v) (keptS n old p l) = 0 := by
  obtain ⟨h1, h2⟩ := (stgs_iff x l).1 hl
  have hpp := chkLib_prf (chkRig_zero hx).1 (profOf_some hp).1
  rw [stgs_iff]
  constructor
  · intro t ht
    obtain ⟨s, hs, e⟩ := List.mem_filterMap.1 ht
    obtain ⟨g1, g2⟩ := h1 s hs
    have hkey := keep_k e
    have eu : t.unit = s.unit := congrArg Prod.fst hkey
    have ep : t.par = s.par := congrArg Prod.snd hkey
    rw [set_find hx hv hk hn hy hp, eu, ep]
    unfold keepS at e
    by_cases c : s.unit = n
    · rw [if_pos c] at e ⊢
      cases hc : carO old p s with
      | none => rw [hc] at e; cases e
      | some u =>
        rw [hc] at e
        obtain rfl := Option.some.inj e
        unfold carO at hc
        cases hb : parOf p.pars s.par.data.toList with
        | none => rw [hb] at hc; cases hc
        | some b =>
          rw [hb] at hc
          simp only at hc
          split at hc
          · obtain rfl := Option.some.inj hc
            refine ⟨rfl, carV_range ?_ (rngsOk_of (par_chk hpp (parOf_mem hb)).2.2.2.2.2) g2.1 g2.2⟩
            cases ha : parOf old.pars s.par.data.toList with
            | none => intro r hr; exact absurd hr (by simp)
            | some a => exact rngsOk_of (par_chk ho (parOf_mem ha)).2.2.2.2.2
          · cases hc
    · rw [if_neg c] at e ⊢
      obtain rfl := Option.some.inj e
      exact ⟨g1, g2⟩
  · exact List.Pairwise.filterMap _ (fun a b hab c hc d hd => by rw [keep_k hc, keep_k hd]; exact hab) h2
end Go.Proofs.Ytabalicembhjmaa

namespace Go.Proofs.Ytabalicembhjmaa
open Go.RowKit
open Go (info_parts)
set_option linter.unusedVariables false
set_option linter.unusedSimpArgs false

/-- a slice of n elements, its cells xs below block B -/
def RowC (B : Nat) (w : World) (v : Value) (n : Nat) (xs : List Value) : Prop :=
  ∃ ao cap, v = .slice ao n cap ∧ (0 < n → ∃ b off, ao = some ⟨b, off, none⟩ ∧ b < B ∧ ∀ j u, xs[j]? = some u → w.cell? ⟨b, off + j, none⟩ = some u)
def CloneO (T : TypeId) (m : Nat) (w : World) (n : Nat) (xs : List Value) (e : Ending) (w' : World) : Prop :=
  ∃ v', e = .returned v' ∧ w'.ownsRow w.heap.size T m v' n xs ∧ Below w.heap.size w w'
theorem ranges_info : (Try.prog.info? 86).map (fun i => (i.zero, i.size, i.bytes)) = some (some (.agg #[.int .i64 0, .int .i64 0, .string ⟨#[]⟩]), 3, 32) := by kernel_rfl
set_option maxHeartbeats 2000000 in
theorem ranges_clone (B : Nat) (v : Value) (n : Nat) (xs : List Value) (w : World) (hB : B ≤ w.heap.size) (hl : n ≤ 1000) (hxl : xs.length = n * 3) (hone : ∀ u ∈ xs, u.oneCell' = true) (h1 : RowC B w v n xs) :
    Calls Try.prog 41 #[v] w (CloneO 86 3 w n xs) := by
  obtain ⟨i0, hi, hz0, hz1, hz2⟩ := info_parts ranges_info
  have q22 : ∀ (w : World) (a : Option Addr) (n c n' c' : Nat), (binOp .eql 40 (.slice a n c) (.slice none n' c')).run Try.prog w = .ok (.bool a.isNone) w := fun w a n c n' c' => Lib.run_eql_slice_nil w _ _ a n c n' c' Try.underlying40
  obtain ⟨ao, cap, rfl, h4⟩ := h1
  cases ao with
  | none =>
    have hl0 : n = 0 := by
      rcases Nat.eq_zero_or_pos n with h | h
      · exact h
      · obtain ⟨b, off, e, _⟩ := h4 h; cases e
    subst hl0
    have hx0 : xs = [] := List.eq_nil_of_length_eq_zero (by omega)
    subst hx0
    go_enter Try.func41, Try.ntmps41
    go_wp2
    go_ret
    exact ⟨_, rfl, World.ownsRow_nil _ _ _ _, Below.refl _ _⟩
  | some a =>
    have hc := Lib.hid (show ∀ j u, xs[j]? = some u → (w.alloc (.cells #[] 86)).cell? (a.add j) = some u by
      intro j u hu
      have hn : 0 < n := by
        rcases Nat.eq_zero_or_pos n with h | h
        · subst h
          obtain rfl : xs = [] := List.eq_nil_of_length_eq_zero (by omega)
          simp at hu
        · exact h
      obtain ⟨b, off, e, hb, hc⟩ := h4 hn
      obtain rfl := Option.some.inj e
      rw [addr_plus]
      exact (World.cell?_alloc_lt w _ _ (show b < w.heap.size by omega)).trans (hc j u hu))
    have HX := Lib.hid hxl
    have HO := Lib.hid hone
    clear h4 hxl hone
    go_enter Try.func41, Try.ntmps41
    go_wp2_with (at_builtin; refine wpList_append_own _ rfl _ _ 40 rfl w.heap.size 86 i0 (.agg #[.int .i64 0, .int .i64 0, .string ⟨#[]⟩]) 3 32 Try.underlying40 hi hz0 hz1 hz2 rfl (by omega) _ _ _ rfl (World.ownsRow_made w #[] 0 (Nat.le_refl _) (Nat.zero_le _) (by simp)) a n cap xs rfl HX.out hc.out HO.out (by unfold maxLen; omega) (by omega) (by simp) ?_; intro v' w1 hown hgrow0 _)
    have hgrow : World.grownBy (w.alloc (.cells #[] 86)) w1 (some w.heap.size) := hgrow0
    go_ret
    rw [List.nil_append, Nat.zero_add] at hown
    exact ⟨v', rfl, hown, ((Below.refl _ w).alloc (Nat.le_refl _) _).grown hgrow (by simp) (by intro k hk; injection hk with hk; omega)⟩
theorem units_info : (Try.prog.info? 67).map (fun i => (i.zero, i.size, i.bytes)) = some (some (.agg #[.int .i64 0, .string ⟨#[]⟩, .int .i64 0, .int .i64 0]), 4, 40) := by kernel_rfl
set_option maxHeartbeats 2000000 in
theorem units_clone (B : Nat) (v : Value) (n : Nat) (xs : List Value) (w : World) (hB : B ≤ w.heap.size) (hl : n ≤ 1000) (hxl : xs.length = n * 4) (hone : ∀ u ∈ xs, u.oneCell' = true) (h1 : RowC B w v n xs) :
    Calls Try.prog 55 #[v] w (CloneO 67 4 w n xs) := by
  obtain ⟨i0, hi, hz0, hz1, hz2⟩ := info_parts units_info
  have q22 : ∀ (w : World) (a : Option Addr) (n c n' c' : Nat), (binOp .eql 23 (.slice a n c) (.slice none n' c')).run Try.prog w = .ok (.bool a.isNone) w := fun w a n c n' c' => Lib.run_eql_slice_nil w _ _ a n c n' c' Try.underlying23
  obtain ⟨ao, cap, rfl, h4⟩ := h1
  cases ao with
  | none =>
    have hl0 : n = 0 := by
      rcases Nat.eq_zero_or_pos n with h | h
      · exact h
      · obtain ⟨b, off, e, _⟩ := h4 h; cases e
    subst hl0
    have hx0 : xs = [] := List.eq_nil_of_length_eq_zero (by omega)
    subst hx0
    go_enter Try.func55, Try.ntmps55
    go_wp2
    go_ret
    exact ⟨_, rfl, World.ownsRow_nil _ _ _ _, Below.refl _ _⟩
  | some a =>
    have hc := Lib.hid (show ∀ j u, xs[j]? = some u → (w.alloc (.cells #[] 67)).cell? (a.add j) = some u by
      intro j u hu
      have hn : 0 < n := by
        rcases Nat.eq_zero_or_pos n with h | h
        · subst h
          obtain rfl : xs = [] := List.eq_nil_of_length_eq_zero (by omega)
          simp at hu
        · exact h
      obtain ⟨b, off, e, hb, hc⟩ := h4 hn
      obtain rfl := Option.some.inj e
      rw [addr_plus]
      exact (World.cell?_alloc_lt w _ _ (show b < w.heap.size by omega)).trans (hc j u hu))
    have HX := Lib.hid hxl
    have HO := Lib.hid hone
    clear h4 hxl hone
    go_enter Try.func55, Try.ntmps55
    go_wp2_with (at_builtin; refine wpList_append_own _ rfl _ _ 23 rfl w.heap.size 67 i0 (.agg #[.int .i64 0, .string ⟨#[]⟩, .int .i64 0, .int .i64 0]) 4 40 Try.underlying23 hi hz0 hz1 hz2 rfl (by omega) _ _ _ rfl (World.ownsRow_made w #[] 0 (Nat.le_refl _) (Nat.zero_le _) (by simp)) a n cap xs rfl HX.out hc.out HO.out (by unfold maxLen; omega) (by omega) (by simp) ?_; intro v' w1 hown hgrow0 _)
    have hgrow : World.grownBy (w.alloc (.cells #[] 67)) w1 (some w.heap.size) := hgrow0
    go_ret
    rw [List.nil_append, Nat.zero_add] at hown
    exact ⟨v', rfl, hown, ((Below.refl _ w).alloc (Nat.le_refl _) _).grown hgrow (by simp) (by intro k hk; injection hk with hk; omega)⟩
end Go.Proofs.Ytabalicembhjmaa

namespace Go.Proofs.Ytabalicembhjmaa
open Go.RowKit
set_option linter.unusedVariables false
set_option linter.unusedSimpArgs false

/-- a row of another type stays while a row grows -/
theorem own_type {w w' : World} {base base' : Nat} {T T' : TypeId} {s s' : Nat} {v v' : Value} {n n' : Nat} {xs xs' : List Value} (h : w.ownsRow base T s v n xs) (h' : w.ownsRow base' T' s' v' n' xs') (hT : T ≠ T') (hg : w.grownBy w' v'.ownBlock) : w'.ownsRow base T s v n xs := by
  refine h.kept hg ?_
  rcases h.2 with ⟨rfl, _⟩ | ⟨g, cap, cur, rfl, _, h1, _⟩
  · exact .inl rfl
  · refine .inr ?_
    rcases h'.2 with ⟨rfl, _⟩ | ⟨g', cap', cur', rfl, _, h2, _⟩
    · simp [Value.ownBlock]
    · simp only [Value.ownBlock, ne_eq, Option.some.injEq]
      intro e
      subst e
      rw [h1] at h2
      injection h2 with h2
      injection h2 with _ h3
      exact hT h3
theorem own_below2 {w w' : World} {base : Nat} {T : TypeId} {s : Nat} {v : Value} {n : Nat} {xs : List Value} (h : w.ownsRow base T s v n xs) (hb : Below w.heap.size w w') : w'.ownsRow base T s v n xs := by
  refine ⟨h.1, ?_⟩
  rcases h.2 with h' | ⟨g, cap, cur, e1, h1, h2, h3⟩
  · exact .inl h'
  · exact .inr ⟨g, cap, cur, e1, h1, (hb.block g (World.ownsRow.lt h g (by rw [e1]; rfl)).2).trans h2, h3⟩
theorem own_base {w : World} {base base' : Nat} {T : TypeId} {s : Nat} {v : Value} {n : Nat} {xs : List Value} (h : w.ownsRow base T s v n xs) (hb : base' ≤ base) : w.ownsRow base' T s v n xs := by
  refine ⟨h.1, ?_⟩
  rcases h.2 with h' | ⟨g, cap, cur, e1, h1, h2, h3⟩
  · exact .inl h'
  · exact .inr ⟨g, cap, cur, e1, Nat.le_trans hb h1, h2, h3⟩
theorem own_shape2 {w : World} {base : Nat} {T : TypeId} {s : Nat} {v : Value} {n : Nat} {xs : List Value} (h : w.ownsRow base T s v n xs) : ∃ ao cap, v = .slice ao n cap := by
  rcases h.2 with h' | ⟨g, cap, cur, e1, _⟩
  · exact ⟨none, 0, by rw [h'.1, h'.2]⟩
  · exact ⟨_, cap, e1⟩
theorem own_keeps {B base : Nat} {a w w' : World} {T : TypeId} {s : Nat} {v : Value} {n : Nat} {xs : List Value} (ho : w.ownsRow base T s v n xs) (h : Below B a w) (g : w.grownBy w' v.ownBlock) (hB : B ≤ base) (hs : B ≤ w.heap.size) : Below B a w' :=
  h.grown g hs (fun k hk => by have := (World.ownsRow.lt ho k hk).1; omega)
/-- cells stored into a row, one after the other -/
theorem setCells_row (g : Nat) (T : TypeId) : ∀ (Z : List Value) (o : Nat) (w : World) (cur : Array Value), w.heap[g]? = some (.cells cur T (0, 0)) → o + Z.length ≤ cur.size →
    ∃ cur', (w.setCells g o Z).heap[g]? = some (.cells cur' T (0, 0)) ∧ cur'.toList = cur.toList.take o ++ Z ++ cur.toList.drop (o + Z.length)
  | [], o, w, cur, h, hl => ⟨cur, h, by simp⟩
  | v :: r, o, w, cur, h, hl => by
    simp only [List.length_cons] at hl
    obtain ⟨c, h1, h2⟩ := setCells_row g T r (o + 1) (w.setCell ⟨g, o, none⟩ v) (cur.setIfInBounds o v) (heap_setCell_same w g o cur T v h) (by simp; omega)
    refine ⟨c, h1, ?_⟩
    have ho : o < cur.toList.length := by simp; omega
    have e1 : (cur.toList.set o v).take (o + 1) = cur.toList.take o ++ [v] := by
      rw [List.take_succ_eq_append_getElem (by simpa using ho), List.take_set_of_le (Nat.le_refl o)]
      simp
    have e2 : (cur.toList.set o v).drop (o + 1 + r.length) = cur.toList.drop (o + 1 + r.length) := List.drop_set_of_lt (by omega)
    rw [h2, Array.toList_setIfInBounds, e1, e2]
    simp only [List.length_cons, List.append_assoc, List.cons_append, List.nil_append]
    rw [show o + 1 + r.length = o + (r.length + 1) by omega]
theorem setCells_grown2 (g : Nat) : ∀ (Z : List Value) (o : Nat) (w : World), w.grownBy (w.setCells g o Z) (some g)
  | [], o, w => ⟨rfl, rfl, rfl, Nat.le_refl _, fun _ _ _ => rfl⟩
  | v :: r, o, w => by
    have h1 := setCells_grown2 g r (o + 1) (w.setCell ⟨g, o, none⟩ v)
    exact ⟨h1.os.trans rfl, h1.tape.trans rfl, h1.output.trans rfl, Nat.le_trans (by simp) h1.size, fun k hk hne => (h1.block k (by simpa using hk) hne).trans (heap_setCell_other w ⟨g, o, none⟩ k v (fun e => hne (by simp [e])))⟩
theorem grown_trans {w w1 w2 : World} {r : Option Nat} (h1 : w.grownBy w1 r) (h2 : w1.grownBy w2 r) : w.grownBy w2 r :=
  ⟨h2.os.trans h1.os, h2.tape.trans h1.tape, h2.output.trans h1.output, Nat.le_trans h1.size h2.size, fun k hk hne => (h2.block k (Nat.lt_of_lt_of_le hk h1.size) hne).trans (h1.block k hk hne)⟩
theorem grown_drew (w : World) (r : Option Nat) : w.grownBy w.drew r := ⟨rfl, rfl, rfl, Nat.le_refl _, fun _ _ _ => rfl⟩
theorem grown_weak {w w1 : World} {r : Option Nat} (h1 : w.grownBy w1 none) : w.grownBy w1 r := ⟨h1.os, h1.tape, h1.output, h1.size, fun k hk _ => h1.block k hk (by simp)⟩
theorem grown_of_below2 {w w' : World} {row : Option Nat} (h : Below w.heap.size w w') : w.grownBy w' row := ⟨h.os, h.tape, h.output, h.size, fun k hk _ => h.block k hk⟩
/-- what was made anew may be written: nothing older is -/
theorem grown_new {w w1 w2 : World} {g : Nat} {r : Option Nat} (h1 : w.grownBy w1 r) (h2 : w1.grownBy w2 (some g)) (hg : w.heap.size ≤ g) : w.grownBy w2 r :=
  ⟨h2.os.trans h1.os, h2.tape.trans h1.tape, h2.output.trans h1.output, Nat.le_trans h1.size h2.size, fun k hk hne => (h2.block k (Nat.lt_of_lt_of_le hk h1.size) (by intro e; injection e with e; omega)).trans (h1.block k hk hne)⟩
theorem row_isSome2 {w : World} {g j : Nat} {cur : Array Value} {T : TypeId} (h : w.heap[g]? = some (.cells cur T (0, 0))) (hj : j < cur.size) : (w.cell? ⟨g, j, none⟩).isSome = true := by
  simp [World.cell?, h, hj]
theorem row_cell2 {w : World} {g j : Nat} {cur : Array Value} {T : TypeId} (h : w.heap[g]? = some (.cells cur T (0, 0))) : w.cell? ⟨g, j, none⟩ = cur[j]? := by
  simp [World.cell?, h]
/-- copy at elements of any size: all is read before anything is written -/
theorem run_copy_size {P : Program} (w : World) (dT sT ty elem : TypeId) (size : Nat) (b o dLen dCap : Nat) (a : Addr) (sLen sCap m : Nat) (cs : List Value)
    (hu : P.underlying dT = some (.slice elem)) (hs : (P.info? elem).map (·.size) = some size) (hm : m = Nat.min sLen dLen) (hn : cs.length = m * size)
    (hsrc : ∀ j v, cs[j]? = some v → w.cell? (a.add j) = some v) (hc : ∀ j, j < cs.length → (w.cell? ⟨b, o + j, none⟩).isSome = true) (hf : ∀ j, j < cs.length → w.frozen? ⟨b, o + j, none⟩ = false) (h1 : ∀ v ∈ cs, v.oneCell' = true) :
    (Builtin.copy_ #[dT, sT] ty #[.slice (some ⟨b, o, none⟩) dLen dCap, .slice (some a) sLen sCap]).run P w = .ok (goInt m) (w.setCells b o cs) := by
  have hl := run_loadCells_list (P := P) w a cs hsrc
  have hst := run_storeCells_cells (P := P) b o cs 0 w (by simpa using hc) (by simpa using hf) h1
  cases hq : P.info? elem with
  | none => simp [hq] at hs
  | some i =>
    have hi : i.size = size := by simpa [hq] using hs
    rw [hn] at hl
    simp only [Nat.add_zero] at hst
    simp [Builtin.copy_, run_underlying hu, Builtin.lenOf, Builtin.firstCells, sizeOf, typeInfo, hq, hi, ← hm, hl, hst]
/-- clear at elements of any size -/
theorem run_clear_any {P : Program} (w : World) (t e : TypeId) (z : Value) (m : Nat) (ht : P.underlying t = some (.slice e)) (hv : ∀ w, (zeroValue e).run P w = .ok z w) (hz : z.cells.size = m) (h1 : ∀ u ∈ z.cells, u.oneCell' = true) (b o n c : Nat) (hn : 0 < n)
    (hc : ∀ j, j < n * m → (w.cell? ⟨b, o + j, none⟩).isSome = true) (hf : ∀ j, j < n * m → w.frozen? ⟨b, o + j, none⟩ = false) :
    ∃ Z : List Value, Z.length = n * m ∧ ∀ ty, (Builtin.clear_ #[t] ty #[.slice (some ⟨b, o, none⟩) n c]).run P w = .ok (.tuple #[]) (w.setCells b o Z) := by
  have hlen : (Builtin.zeroCells z.cells n).toList.length = n * m := by
    simp [Builtin.zeroCells, hz, Nat.mul_comm]
  have hone : ∀ v ∈ (Builtin.zeroCells z.cells n).toList, v.oneCell' = true := by
    intro v hv'
    simp [Builtin.zeroCells] at hv'
    obtain ⟨i, hi, rfl⟩ := hv'
    have hpos : 0 < z.cells.size := by
      rcases Nat.eq_zero_or_pos z.cells.size with h | h
      · rw [h] at hi; simp at hi
      · exact h
    have hlt := Nat.mod_lt i hpos
    rw [getElem!_pos z.cells _ hlt]
    exact h1 _ (Array.getElem_mem _)
  have hst := run_storeCells_cells (P := P) b o (Builtin.zeroCells z.cells n).toList 0 w (by rw [hlen]; simpa using hc) (by rw [hlen]; simpa using hf) hone
  simp only [Nat.add_zero] at hst
  obtain ⟨k, rfl⟩ : ∃ k, n = k + 1 := ⟨n - 1, by omega⟩
  refine ⟨_, hlen, fun ty => ?_⟩
  simp [Builtin.clear_, run_underlying ht, hv, hst]
/-- a row behind an element's leaving: the cells moved, the last ones written over -/
theorem row_del {w : World} {g n cap i size : Nat} {cur : Array Value} {T : TypeId} (hg : w.heap[g]? = some (.cells cur T (0, 0))) (hi : i < n) (hn : n ≤ cap) (hc : cur.size = cap * size) (Z : List Value) (hZ : Z.length = size) :
    ∃ cur', ((w.setCells g (i * size) ((cur.toList.take (n * size)).drop ((i + 1) * size))).setCells g ((n - 1) * size) Z).heap[g]? = some (.cells cur' T (0, 0)) ∧ cur'.size = cap * size ∧
      cur'.toList.take ((n - 1) * size) = (cur.toList.take (n * size)).take (i * size) ++ (cur.toList.take (n * size)).drop ((i + 1) * size) := by
  have h1 : n * size ≤ cap * size := Nat.mul_le_mul_right _ hn
  have h2 : (i + 1) * size ≤ n * size := Nat.mul_le_mul_right _ hi
  have h3 : (n - 1) * size + size = n * size := by
    obtain ⟨k, rfl⟩ : ∃ k, n = k + 1 := ⟨n - 1, by omega⟩
    rw [Nat.add_sub_cancel, Nat.succ_mul]
  have h4 : (i + 1) * size = i * size + size := Nat.succ_mul _ _
  have hL : (cur.toList.take (n * size)).length = n * size := by rw [List.length_take]; simp; omega
  have hD : ((cur.toList.take (n * size)).drop ((i + 1) * size)).length = n * size - (i + 1) * size := by rw [List.length_drop, hL]
  obtain ⟨c1, e1, e2⟩ := setCells_row g T ((cur.toList.take (n * size)).drop ((i + 1) * size)) (i * size) w cur hg (by rw [hD]; omega)
  have s1 : c1.size = cur.size := by
    have := congrArg List.length e2
    simp only [List.length_append, hD, List.length_take, List.length_drop, Array.length_toList] at this
    omega
  obtain ⟨c2, f1, f2⟩ := setCells_row g T Z ((n - 1) * size) _ c1 e1 (by rw [hZ]; omega)
  have s2 : c2.size = c1.size := by
    have := congrArg List.length f2
    simp only [List.length_append, List.length_take, List.length_drop, Array.length_toList] at this
    omega
  refine ⟨c2, f1, by omega, ?_⟩
  rw [f2, List.append_assoc, List.take_append_of_le_length (by simp; omega), List.take_take, Nat.min_self, e2, List.take_append_of_le_length (by rw [List.length_append, hD, List.length_take, Array.length_toList]; omega),
    List.take_of_length_le (by rw [List.length_append, hD, List.length_take, Array.length_toList]; omega), List.take_take, Nat.min_eq_left (by omega)]
/-- a row behind an element's coming, in place: the cells behind it moved on first -/
theorem row_ins {w : World} {g n cap i size : Nat} {cur : Array Value} {T : TypeId} (hg : w.heap[g]? = some (.cells cur T (0, 0))) (hi : i ≤ n) (hn : n + 1 ≤ cap) (hc : cur.size = cap * size) (ys : List Value) (hy : ys.length = size) :
    ∃ cur', ((w.setCells g ((i + 1) * size) ((cur.toList.take (n * size)).drop (i * size))).setCells g (i * size) ys).heap[g]? = some (.cells cur' T (0, 0)) ∧ cur'.size = cap * size ∧
      cur'.toList.take ((n + 1) * size) = (cur.toList.take (n * size)).take (i * size) ++ ys ++ (cur.toList.take (n * size)).drop (i * size) := by
  have h1 : (n + 1) * size ≤ cap * size := Nat.mul_le_mul_right _ hn
  have h2 : i * size ≤ n * size := Nat.mul_le_mul_right _ hi
  have h3 : (n + 1) * size = n * size + size := Nat.succ_mul _ _
  have h4 : (i + 1) * size = i * size + size := Nat.succ_mul _ _
  have hL : (cur.toList.take (n * size)).length = n * size := by rw [List.length_take]; simp; omega
  have hD : ((cur.toList.take (n * size)).drop (i * size)).length = n * size - i * size := by rw [List.length_drop, hL]
  obtain ⟨c1, e1, e2⟩ := setCells_row g T ((cur.toList.take (n * size)).drop (i * size)) ((i + 1) * size) w cur hg (by rw [hD]; omega)
  have s1 : c1.size = cur.size := by
    have := congrArg List.length e2
    simp only [List.length_append, hD, List.length_take, List.length_drop, Array.length_toList] at this
    omega
  obtain ⟨c2, f1, f2⟩ := setCells_row g T ys (i * size) _ c1 e1 (by rw [hy]; omega)
  have s2 : c2.size = c1.size := by
    have := congrArg List.length f2
    simp only [List.length_append, List.length_take, List.length_drop, Array.length_toList] at this
    omega
  refine ⟨c2, f1, by omega, ?_⟩
  have d1 : c1.toList.take (i * size) = (cur.toList.take (n * size)).take (i * size) := by
    rw [e2, List.append_assoc, List.take_append_of_le_length (by simp; omega), List.take_take, Nat.min_eq_left (by omega), List.take_take, Nat.min_eq_left (by omega)]
  have d2 : (c1.toList.drop (i * size + ys.length)).take (n * size - i * size) = (cur.toList.take (n * size)).drop (i * size) := by
    rw [hy, ← h4, e2, List.append_assoc, List.drop_append_of_le_length (by simp; omega), List.drop_of_length_le (by simp; omega), List.nil_append, List.take_append_of_le_length (by rw [hD]; omega), List.take_of_length_le (by rw [hD]; omega)]
  rw [f2, d1, List.take_append, ← d2]
  have l1 : ((cur.toList.take (n * size)).take (i * size) ++ ys).length = i * size + size := by rw [List.length_append, hy, List.length_take, hL]; omega
  rw [List.take_of_length_le (by rw [l1]; omega), l1]
  congr 2
  omega
/-- a row written twice, one stretch behind the other -/
theorem row_two {w : World} {g p : Nat} {cur : Array Value} {T : TypeId} (hg : w.heap[g]? = some (.cells cur T (0, 0))) (vs ds : List Value) (h : p + vs.length + ds.length ≤ cur.size) :
    ∃ cur', ((w.setCells g p vs).setCells g (p + vs.length) ds).heap[g]? = some (.cells cur' T (0, 0)) ∧ cur'.size = cur.size ∧ cur'.toList.take (p + vs.length + ds.length) = cur.toList.take p ++ vs ++ ds := by
  obtain ⟨c1, e1, e2⟩ := setCells_row g T vs p w cur hg (by omega)
  have s1 : c1.size = cur.size := by
    have := congrArg List.length e2
    simp only [List.length_append, List.length_take, List.length_drop, Array.length_toList] at this
    omega
  obtain ⟨c2, f1, f2⟩ := setCells_row g T ds (p + vs.length) _ c1 e1 (by omega)
  have s2 : c2.size = c1.size := by
    have := congrArg List.length f2
    simp only [List.length_append, List.length_take, List.length_drop, Array.length_toList] at this
    omega
  refine ⟨c2, f1, by omega, ?_⟩
  have d1 : c1.toList.take (p + vs.length) = cur.toList.take p ++ vs := by
    rw [e2, List.take_append_of_le_length (by simp; omega), List.take_of_length_le (by simp; omega)]
  rw [f2, d1, List.take_append_of_le_length (by simp; omega), List.take_of_length_le (by simp; omega)]
end Go.Proofs.Ytabalicembhjmaa
