/- The frames of settings that are read back and made again. No walk in it. -/
import Derived.Test.YtabalicembhjmaaT45M29
import Derived.Test.YtabalicembhjmaaT45M20

namespace Go.Proofs.Ytabalicembhjmaa
open Go.RowKit
set_option linter.unusedVariables false
set_option linter.unusedSimpArgs false

/-- the writes of a parameter: places and bytes -/
def wrP (l : List Stg) (u : Unt) (q : Par) : List (Nat × Int) :=
  if q.fine = 0 then [((u.addr + q.sl - 2).toNat, rnd (lvOf l u.num q * 255) 65535)]
  else [((u.addr + q.sl - 2).toNat, lvOf l u.num q / 256), ((u.addr + q.fine - 2).toNat, lvOf l u.num q % 256)]
def setW (b : List Int) (p : Nat × Int) : List Int := b.set p.1 p.2
theorem putP_wr (l : List Stg) (u : Unt) (b : List Int) (q : Par) : putP l u b q = (wrP l u q).foldl setW b := by
  unfold putP wrP
  split <;> rfl
def wrU (lib : List Prf) (l : List Stg) (u : Unt) : List (Nat × Int) := (parsOf lib u).flatMap (wrP l u)
theorem fold_flat {α β γ : Type} (f : α → List β) (g : γ → β → γ) : ∀ (l : List α) (b : γ), (l.flatMap f).foldl g b = l.foldl (fun b x => (f x).foldl g b) b
  | [], b => rfl
  | x :: l, b => by rw [List.flatMap_cons, List.foldl_append, fold_flat f g l]; rfl
theorem putU_wr (lib : List Prf) (l : List Stg) (b : List Int) (u : Unt) : putU lib l b u = (wrU lib l u).foldl setW b := by
  unfold putU wrU
  rw [fold_flat]
  congr 1
  funext b q
  exact putP_wr l u b q
def wrs (lib : List Prf) (l : List Stg) (us : List Unt) (U : Int) : List (Nat × Int) := (us.filter (fun u => decide (u.univ = U))).flatMap (wrU lib l)
theorem uniO_gen (lib : List Prf) (l : List Stg) (U : Int) : ∀ (us : List Unt) (o : Option (List Int)),
    us.foldl (fun o u => if u.univ = U then some (putU lib l (o.getD noB) u) else o) o = if us.any (fun u => decide (u.univ = U)) = true then some ((wrs lib l us U).foldl setW (o.getD noB)) else o
  | [], o => by simp
  | u :: us, o => by
    rw [List.foldl_cons, uniO_gen lib l U us]
    by_cases c : u.univ = U
    · rw [if_pos c, putU_wr]
      have e : wrs lib l (u :: us) U = wrU lib l u ++ wrs lib l us U := by simp [wrs, c]
      rw [e, List.foldl_append]
      by_cases d : us.any (fun u => decide (u.univ = U)) = true
      · simp [c, d]
      · have d' : us.any (fun u => decide (u.univ = U)) = false := by simpa using d
        have : us.filter (fun u => decide (u.univ = U)) = [] := List.filter_eq_nil_iff.2 (List.any_eq_false.1 d')
        rw [if_neg d, if_pos (by simp [c])]
        simp [wrs, this]
    · rw [if_neg c]
      simp [c, wrs]
theorem uniO_wr (lib : List Prf) (l : List Stg) (us : List Unt) (U : Int) : uniO lib l us U = if us.any (fun u => decide (u.univ = U)) = true then some ((wrs lib l us U).foldl setW noB) else none := uniO_gen lib l U us none
theorem setW_len (W : List (Nat × Int)) : ∀ b : List Int, (W.foldl setW b).length = b.length := by
  induction W with
  | nil => intro b; rfl
  | cons p W ih => intro b; rw [List.foldl_cons, ih]; exact List.length_set ..
theorem setW_off (i : Nat) : ∀ (W : List (Nat × Int)) (b : List Int), (∀ p ∈ W, p.1 ≠ i) → (W.foldl setW b)[i]? = b[i]?
  | [], b, _ => rfl
  | p :: W, b, h => by
    rw [List.foldl_cons, setW_off i W _ (fun q hq => h q (List.mem_cons_of_mem _ hq))]
    unfold setW
    exact List.getElem?_set_ne (h p (by simp))
theorem setW_at : ∀ (W : List (Nat × Int)) (b : List Int), W.Pairwise (fun p q => p.1 ≠ q.1) → ∀ p ∈ W, p.1 < b.length → (W.foldl setW b)[p.1]? = some p.2
  | p :: W, b, h, q, hq, hl => by
    rw [List.pairwise_cons] at h
    rw [List.foldl_cons]
    rcases List.mem_cons.1 hq with rfl | hq
    · rw [setW_off _ _ _ (fun r hr => (h.1 r hr).symm)]
      unfold setW
      simp [hl]
    · exact setW_at W _ h.2 q hq (by unfold setW; rwa [List.length_set])
theorem setW_mem : ∀ (W : List (Nat × Int)) (b : List Int), ∀ v ∈ W.foldl setW b, v ∈ b ∨ ∃ p ∈ W, v = p.2
  | [], b, v, h => .inl h
  | p :: W, b, v, h => by
    rw [List.foldl_cons] at h
    rcases setW_mem W _ v h with h | ⟨q, hq, e⟩
    · rcases List.mem_or_eq_of_mem_set h with h | h
      · exact .inl h
      · exact .inr ⟨p, by simp, h⟩
    · exact .inr ⟨q, List.mem_cons_of_mem _ hq, e⟩
/-! ### the places lie apart -/
theorem unit_apart {x : Rig} (hx : chkRig x = 0) : x.units.Pairwise (fun u v => u.univ = v.univ → lastOf x.lib u < v.addr ∨ lastOf x.lib v < u.addr) := by
  rw [List.pairwise_iff_getElem]
  intro i j hi hj hij he
  have h := (untF_zero (scanF_zero _ _ (chkRig_zero hx).2.2 j hj)).2.2.2
  have h2 := List.any_eq_false.1 h _ (List.mem_take_iff_getElem.2 ⟨i, by omega, rfl⟩)
  simp only [clashU, Bool.and_eq_true, decide_eq_true_eq, not_and] at h2
  by_cases c : lastOf x.lib x.units[i] < x.units[j].addr
  · exact .inl c
  · refine .inr ?_
    by_cases d : x.units[i].addr ≤ lastOf x.lib x.units[j]
    · exact absurd (by omega) (h2 ⟨he, d⟩)
    · omega
theorem par_apart {p : Prf} (h : chkPrf p = 0) : p.pars.Pairwise (fun q r => ∀ s ∈ slotsP q, ∀ t ∈ slotsP r, s ≠ t) := by
  rw [List.pairwise_iff_getElem]
  intro i j hi hj hij s hs t ht e
  subst e
  have h5 := (parF_zero (scanF_zero _ _ (chkPrf_zero h).2.2.2.2 j hj)).2.2.2.2.1
  have hu : s ∈ usedS (p.pars.take j) := List.mem_flatMap.2 ⟨_, List.mem_take_iff_getElem.2 ⟨i, by omega, rfl⟩, hs⟩
  unfold parClash at h5
  simp only [Bool.or_eq_false_iff, decide_eq_false_iff_not, Bool.and_eq_false_iff] at h5
  unfold slotsP at ht
  by_cases c : 0 < p.pars[j].fine
  · rw [if_pos c] at ht
    simp at ht
    rcases ht with rfl | rfl
    · exact h5.1.2 hu
    · rcases h5.2 with k | k
      · exact k c
      · exact k hu
  · rw [if_neg c] at ht
    simp at ht
    subst ht
    exact h5.1.2 hu
theorem par_names {p : Prf} (h : chkPrf p = 0) : p.pars.Pairwise (fun q r => q.nm ≠ r.nm) := by
  rw [List.pairwise_iff_getElem]
  intro i j hi hj hij e
  have h5 := (parF_zero (scanF_zero _ _ (chkPrf_zero h).2.2.2.2 j hj)).2.1
  exact h5 (List.mem_map.2 ⟨_, List.mem_take_iff_getElem.2 ⟨i, by omega, rfl⟩, e⟩)
theorem unit_nums {x : Rig} (hx : chkRig x = 0) : x.units.Pairwise (fun u v => u.num ≠ v.num) := by
  rw [List.pairwise_iff_getElem]
  intro i j hi hj hij
  have := asc_units hx i j hi hj hij
  omega
theorem pair_only {α β : Type} (f : α → β) {l : List α} (h : l.Pairwise (fun a b => f a ≠ f b)) {a b : α} (ha : a ∈ l) (hb : b ∈ l) (e : f a = f b) : a = b := by
  obtain ⟨i, hi, rfl⟩ := List.getElem_of_mem ha
  obtain ⟨j, hj, rfl⟩ := List.getElem_of_mem hb
  have hp := List.pairwise_iff_getElem.1 h
  rcases Nat.lt_trichotomy i j with c | c | c
  · exact absurd e (hp i j hi hj c)
  · subst c; rfl
  · exact absurd e.symm (hp j i hj hi c)
theorem find_only {α : Type} (p : α → Bool) {l : List α} {a : α} (ha : a ∈ l) (hp : p a = true) (h : ∀ b ∈ l, p b = true → b = a) : l.find? p = some a := by
  cases e : l.find? p with
  | none => exact absurd hp (List.find?_eq_none.1 e a ha)
  | some b => rw [h b (List.mem_of_find?_eq_some e) (List.find?_some e)]
/-- what is known of a parameter of a unit of a right rig -/
theorem unit_par {x : Rig} (hx : chkRig x = 0) {u : Unt} (hu : u ∈ x.units) : ∃ p, profOf x.lib u.nm = some p ∧ parsOf x.lib u = p.pars ∧ chkPrf p = 0 ∧ (1 ≤ u.addr ∧ u.addr + p.size - 1 ≤ 512) ∧ (∀ q ∈ p.pars, (1 ≤ q.sl ∧ q.sl ≤ p.size) ∧ (0 ≤ q.fine ∧ q.fine ≤ p.size)) ∧ lastOf x.lib u = u.addr + p.size - 1 := by
  obtain ⟨p, h1, h2, h3, h4⟩ := par_right hx hu
  exact ⟨p, h1, by simp [parsOf, h1], chkLib_prf (chkRig_zero hx).1 (profOf_some h1).1, h3, h4, by unfold lastOf; rw [size_of h1]⟩
theorem slots_range {q : Par} {m : Int} (h : (1 ≤ q.sl ∧ q.sl ≤ m) ∧ (0 ≤ q.fine ∧ q.fine ≤ m)) : ∀ s ∈ slotsP q, 1 ≤ s ∧ s ≤ m := by
  intro s hs
  unfold slotsP at hs
  split at hs
  · simp at hs
    rcases hs with rfl | rfl <;> omega
  · simp at hs
    omega
theorem wrP_place {l : List Stg} {u : Unt} {q : Par} (hf : 0 ≤ q.fine) : ∀ p ∈ wrP l u q, ∃ s ∈ slotsP q, p.1 = (u.addr + s - 2).toNat := by
  intro p hp
  unfold wrP at hp
  unfold slotsP
  by_cases c : q.fine = 0
  · rw [if_pos c] at hp
    rw [if_neg (by omega)]
    simp at hp
    exact ⟨q.sl, by simp, by rw [hp]⟩
  · rw [if_neg c] at hp
    rw [if_pos (by omega)]
    simp at hp
    rcases hp with rfl | rfl
    · exact ⟨q.sl, by simp, rfl⟩
    · exact ⟨q.fine, by simp, rfl⟩
theorem wrs_apart {x : Rig} (hx : chkRig x = 0) (l : List Stg) (U : Int) : (wrs x.lib l x.units U).Pairwise (fun p q => p.1 ≠ q.1) ∧ ∀ p ∈ wrs x.lib l x.units U, p.1 < 512 := by
  have inU : ∀ u ∈ x.units, ∀ p ∈ wrU x.lib l u, ∃ m : Int, 1 ≤ u.addr ∧ lastOf x.lib u ≤ 512 ∧ u.addr ≤ m ∧ m ≤ lastOf x.lib u ∧ p.1 = (m - 1).toNat := by
    intro u hu p hp
    obtain ⟨f, h1, h2, h3, h4, h5, h6⟩ := unit_par hx hu
    unfold wrU at hp
    rw [h2] at hp
    obtain ⟨q, hq, hp⟩ := List.mem_flatMap.1 hp
    obtain ⟨s, hs, e⟩ := wrP_place (h5 q hq).2.1 p hp
    have := slots_range (h5 q hq) s hs
    exact ⟨u.addr + s - 1, h4.1, by omega, by omega, by omega, by rw [e]; congr 1; omega⟩
  unfold wrs
  refine ⟨List.pairwise_flatMap.2 ⟨fun u hu => ?_, ((unit_apart hx).filter _).imp_of_mem fun {u v} hu hv h p hp q hq => ?_⟩, fun p hp => ?_⟩
  · have hu := (List.mem_filter.1 hu).1
    obtain ⟨f, h1, h2, h3, h4, h5, h6⟩ := unit_par hx hu
    unfold wrU
    rw [h2]
    refine List.pairwise_flatMap.2 ⟨fun q hq => ?_, (par_apart h3).imp_of_mem fun {q r} hq hr h p hp p' hp' e => ?_⟩
    · have hne := par_ne h3 hq
      have := h5 q hq
      unfold wrP
      split
      · simp
      · simp; omega
    · obtain ⟨s, hs, e1⟩ := wrP_place (h5 q hq).2.1 p hp
      obtain ⟨t, ht, e2⟩ := wrP_place (h5 r hr).2.1 p' hp'
      have := h s hs t ht
      have := slots_range (h5 q hq) s hs
      have := slots_range (h5 r hr) t ht
      omega
  · obtain ⟨hu, eu⟩ := List.mem_filter.1 hu
    obtain ⟨hv, ev⟩ := List.mem_filter.1 hv
    simp only [decide_eq_true_eq] at eu ev
    obtain ⟨m, _, _, _, _, e1⟩ := inU u hu p hp
    obtain ⟨n, _, _, _, _, e2⟩ := inU v hv q hq
    have := h (by omega)
    omega
  · obtain ⟨u, hu, hp⟩ := List.mem_flatMap.1 hp
    obtain ⟨m, _, _, _, _, e1⟩ := inU u (List.mem_filter.1 hu).1 p hp
    omega
/-! ### the frames -/
theorem mem_frames {x : Rig} {l : List Stg} {f : Frm} : f ∈ framesV x l ↔ (∃ k : Nat, k < 64 ∧ f.univ = (k : Int) + 1) ∧ uniO x.lib l x.units f.univ = some f.sl := by
  unfold framesV
  rw [List.mem_filterMap]
  constructor
  · rintro ⟨k, hk, e⟩
    rw [Option.map_eq_some_iff] at e
    obtain ⟨b, hb, rfl⟩ := e
    exact ⟨⟨k, by simpa using hk, rfl⟩, hb⟩
  · rintro ⟨⟨k, hk, e⟩, hb⟩
    refine ⟨k, by simpa using hk, ?_⟩
    rw [← e, hb]
    rfl
theorem frames_pair (x : Rig) (l : List Stg) : (framesV x l).Pairwise (fun f g => f.univ < g.univ) := by
  unfold framesV
  refine List.Pairwise.filterMap _ ?_ (List.pairwise_lt_range (n := 64))
  intro a a' h b hb b' hb'
  rw [Option.map_eq_some_iff] at hb hb'
  obtain ⟨_, _, rfl⟩ := hb
  obtain ⟨_, _, rfl⟩ := hb'
  simp only
  omega
theorem frames_chk (x : Rig) (l : List Stg) : chkFrms (framesV x l) = 0 := by
  refine scanF_all _ _ fun k hk => ?_
  obtain ⟨⟨n, hn, e⟩, hb⟩ := mem_frames.1 (List.getElem_mem hk)
  have hlen := uniO_len _ _ _ _ _ hb
  have hR : inR (framesV x l)[k].univ 1 64 = true := decide_eq_true (by omega)
  have hL : frmLow ((framesV x l).take k) (framesV x l)[k] = false := by
    unfold frmLow
    by_cases c : 0 < k
    · rw [last_take _ k hk c]
      have := List.pairwise_iff_getElem.1 (frames_pair x l) (k - 1) k (by omega) hk (by omega)
      simp
      omega
    · obtain rfl : k = 0 := by omega
      simp
  unfold frmF
  rw [hR, hL, if_neg (by simp), if_neg (by simpa using hlen), if_neg (by simp)]
theorem flat_congr {α β : Type} {f g : α → List β} : ∀ {l : List α}, (∀ a ∈ l, f a = g a) → l.flatMap f = l.flatMap g
  | [], _ => rfl
  | a :: l, h => by rw [List.flatMap_cons, List.flatMap_cons, h a (by simp), flat_congr (fun b hb => h b (List.mem_cons_of_mem _ hb))]
section
variable {x : Rig} (hx : chkRig x = 0) {l : List Stg} (hl : chkStgs x l = 0)
include hx
theorem uniO_has {u : Unt} (hu : u ∈ x.units) (l : List Stg) : ∃ b, uniO x.lib l x.units u.univ = some b ∧ b = (wrs x.lib l x.units u.univ).foldl setW noB := by
  have hx1 := hx
  rw [uniO_wr, if_pos (List.any_eq_true.2 ⟨u, hu, by simp⟩)]
  exact ⟨_, rfl, rfl⟩
theorem unit_univ {u : Unt} (hu : u ∈ x.units) : 1 ≤ u.univ ∧ u.univ ≤ 64 := by
  obtain ⟨k, hk, rfl⟩ := List.getElem_of_mem hu
  obtain ⟨_, _, ⟨p, _, h⟩, _⟩ := untF_zero (scanF_zero _ _ (chkRig_zero hx).2.2 k hk)
  exact (untBad_false h).1
theorem frame_at {u : Unt} (hu : u ∈ x.units) (l : List Stg) : ∃ b, uniO x.lib l x.units u.univ = some b ∧ (framesV x l).find? (isU u) = some ⟨u.univ, b⟩ ∧ (⟨u.univ, b⟩ : Frm) ∈ framesV x l := by
  obtain ⟨b, hb, _⟩ := uniO_has hx hu l
  have hr := unit_univ hx hu
  have hm : (⟨u.univ, b⟩ : Frm) ∈ framesV x l := mem_frames.2 ⟨⟨(u.univ - 1).toNat, by omega, by simp only; omega⟩, hb⟩
  refine ⟨b, hb, find_only _ hm (by simp [isU]) fun f hf e => ?_, hm⟩
  have e : f.univ = u.univ := by simpa [isU] using e
  have h2 := (mem_frames.1 hf).2
  rw [e, hb] at h2
  cases f
  simp only at e
  subst e
  rw [Option.some.inj h2]
theorem findO_at {u : Unt} (hu : u ∈ x.units) {q : Par} (hq : q ∈ parsOf x.lib u) : findO x u.num q.nm = some q := by
  obtain ⟨p, h1, h2, h3, _⟩ := unit_par hx hu
  unfold findO
  rw [find_only (isNo u.num) hu (by simp [isNo]) (fun v hv e => pair_only Unt.num (unit_nums hx) hv hu (by simpa [isNo] using e))]
  simp only
  unfold parOf
  rw [h2] at hq ⊢
  exact find_only _ hq (by simp [hasPn]) (fun r hr e => pair_only Par.nm (par_names h3) hr hq (by simpa [hasPn] using e))
theorem findO_of {n : Int} {nm : List UInt8} {q : Par} (h : findO x n nm = some q) : ∃ u ∈ x.units, u.num = n ∧ q ∈ parsOf x.lib u ∧ q.nm = nm := by
  have hx1 := hx
  unfold findO at h
  cases hu : x.units.find? (isNo n) with
  | none => rw [hu] at h; cases h
  | some u =>
    rw [hu] at h
    simp only at h
    refine ⟨u, List.mem_of_find?_eq_some hu, by simpa [isNo] using List.find?_some hu, List.mem_of_find?_eq_some h, by simpa [hasPn] using List.find?_some h⟩
theorem back_mem {l : List Stg} {s : Stg} : s ∈ setV x.lib x.units (framesV x l) ↔ ∃ u ∈ x.units, ∃ b, uniO x.lib l x.units u.univ = some b ∧ ∃ q ∈ parsOf x.lib u, s = setO u ⟨u.univ, b⟩ q := by
  unfold setV
  rw [List.mem_flatMap]
  constructor
  · rintro ⟨u, hu, hs⟩
    obtain ⟨b, h1, h2, _⟩ := frame_at hx hu l
    unfold setU at hs
    rw [h2] at hs
    obtain ⟨q, hq, rfl⟩ := List.mem_map.1 hs
    exact ⟨u, hu, b, h1, q, hq, rfl⟩
  · rintro ⟨u, hu, b, hb, q, hq, rfl⟩
    obtain ⟨b', h1, h2, _⟩ := frame_at hx hu l
    rw [hb] at h1
    obtain rfl := Option.some.inj h1
    refine ⟨u, hu, ?_⟩
    unfold setU
    rw [h2]
    exact List.mem_map.2 ⟨q, hq, rfl⟩
theorem back_keys (l : List Stg) : (setV x.lib x.units (framesV x l)).Pairwise (fun s t => s.k ≠ t.k) := by
  unfold setV
  refine List.pairwise_flatMap.2 ⟨fun u hu => ?_, (unit_nums hx).imp_of_mem fun {u v} hu hv h s hs t ht e => ?_⟩
  · obtain ⟨b, h1, h2, _⟩ := frame_at hx hu l
    obtain ⟨p, _, k2, k3, _⟩ := unit_par hx hu
    unfold setU
    rw [h2, k2]
    simp only
    rw [List.pairwise_map]
    refine (par_names k3).imp fun h e => h ?_
    unfold Stg.k setO at e
    simp only [Prod.mk.injEq] at e
    unfold Par.nm
    rw [e.2]
  · have num : ∀ u : Unt, ∀ s ∈ setU x.lib (framesV x l) u, s.unit = u.num := by
      intro u s hs
      unfold setU at hs
      split at hs
      · simp at hs
      · obtain ⟨q, _, rfl⟩ := List.mem_map.1 hs
        rfl
    have e1 : s.unit = t.unit := congrArg Prod.fst e
    rw [num u s hs, num v t ht] at e1
    exact h e1
include hl
theorem lvOf_in {u : Unt} (hu : u ∈ x.units) {q : Par} (hq : q ∈ parsOf x.lib u) : 0 ≤ lvOf l u.num q ∧ lvOf l u.num q ≤ 65535 := by
  obtain ⟨p, h1, h2, h3, _⟩ := unit_par hx hu
  rw [h2] at hq
  exact lvOf_range (x := x) (fun s hs => (((stgs_iff x l).1 hl).1 s hs).2) u.num (par_chk h3 hq).2.2.2.1
theorem wrP_in {u : Unt} (hu : u ∈ x.units) {q : Par} (hq : q ∈ parsOf x.lib u) : ∀ p ∈ wrP l u q, 0 ≤ p.2 ∧ p.2 ≤ 255 := by
  intro p hp
  have h := lvOf_in hx hl hu hq
  unfold wrP at hp
  split at hp
  · simp at hp
    subst hp
    simp only
    exact rnd_between (by omega) (by omega) (by omega)
  · simp at hp
    rcases hp with rfl | rfl <;> simp only <;> omega
theorem uniO_bytes {U : Int} {b : List Int} (h : uniO x.lib l x.units U = some b) : ∀ v ∈ b, 0 ≤ v ∧ v ≤ 255 := by
  rw [uniO_wr] at h
  split at h
  · obtain rfl := Option.some.inj h
    intro v hv
    rcases setW_mem _ _ v hv with h | ⟨p, hp, rfl⟩
    · unfold noB at h
      rw [List.mem_replicate] at h
      omega
    · obtain ⟨u, hu, hp⟩ := List.mem_flatMap.1 hp
      obtain ⟨q, hq, hp⟩ := List.mem_flatMap.1 hp
      exact wrP_in hx hl (List.mem_filter.1 hu).1 hq p hp
  · cases h
/-- a byte of a frame is the one that its parameter wrote -/
theorem uniO_at {u : Unt} (hu : u ∈ x.units) {q : Par} (hq : q ∈ parsOf x.lib u) {b : List Int} (h : uniO x.lib l x.units u.univ = some b) : ∀ p ∈ wrP l u q, b[p.1]? = some p.2 := by
  have hl1 := hl
  intro p hp
  obtain ⟨b', h1, h2⟩ := uniO_has hx hu l
  rw [h] at h1
  obtain rfl := Option.some.inj h1
  obtain ⟨ha, hb⟩ := wrs_apart hx l u.univ
  have hm : p ∈ wrs x.lib l x.units u.univ := List.mem_flatMap.2 ⟨u, List.mem_filter.2 ⟨hu, by simp⟩, List.mem_flatMap.2 ⟨q, hq, hp⟩⟩
  rw [h2]
  exact setW_at _ _ ha p hm (by unfold noB; rw [List.length_replicate]; exact hb p hm)
theorem atF_in {U : Int} {b : List Int} (h : uniO x.lib l x.units U = some b) (i : Int) : 0 ≤ atF ⟨U, b⟩ i ∧ atF ⟨U, b⟩ i ≤ 255 := by
  unfold atF
  simp only [List.getD_eq_getElem?_getD]
  cases e : b[i.toNat]? with
  | none => simp
  | some v => simpa using uniO_bytes hx hl h v (List.mem_of_getElem? e)
theorem lvO_in {u : Unt} {b : List Int} (h : uniO x.lib l x.units u.univ = some b) (q : Par) : 0 ≤ lvO u ⟨u.univ, b⟩ q ∧ lvO u ⟨u.univ, b⟩ q ≤ 65535 := by
  have h1 := atF_in hx hl h (u.addr + q.sl - 2)
  have h2 := atF_in hx hl h (u.addr + q.fine - 2)
  unfold lvO
  split <;> omega
/-- levels of parameters with a fine slot come back -/
theorem lvO_fine {u : Unt} (hu : u ∈ x.units) {q : Par} (hq : q ∈ parsOf x.lib u) {b : List Int} (h : uniO x.lib l x.units u.univ = some b) (hf : ¬ q.fine = 0) : lvO u ⟨u.univ, b⟩ q = lvOf l u.num q := by
  have h1 := uniO_at hx hl hu hq h
  unfold wrP at h1
  rw [if_neg hf] at h1
  have h2 := h1 _ (List.mem_cons_self ..)
  have h3 := h1 _ (List.mem_cons_of_mem _ (List.mem_cons_self ..))
  unfold lvO atF
  rw [if_neg hf]
  simp only [List.getD_eq_getElem?_getD] at *
  rw [h2, h3]
  simp only [Option.getD_some]
  omega
theorem lvO_coarse {u : Unt} (hu : u ∈ x.units) {q : Par} (hq : q ∈ parsOf x.lib u) {b : List Int} (h : uniO x.lib l x.units u.univ = some b) (hf : q.fine = 0) : lvO u ⟨u.univ, b⟩ q = rnd (lvOf l u.num q * 255) 65535 * 257 := by
  have h1 := uniO_at hx hl hu hq h
  unfold wrP at h1
  rw [if_pos hf] at h1
  have h2 := h1 _ (List.mem_cons_self ..)
  unfold lvO atF
  rw [if_pos hf]
  simp only [List.getD_eq_getElem?_getD] at *
  rw [h2]
  rfl
theorem back_chk : chkStgs x (setV x.lib x.units (framesV x l)) = 0 := by
  refine (stgs_iff _ _).2 ⟨fun s hs => ?_, back_keys hx l⟩
  obtain ⟨u, hu, b, hb, q, hq, rfl⟩ := (back_mem hx).1 hs
  refine ⟨?_, lvO_in hx hl hb q⟩
  have := findO_at hx hu hq
  unfold Par.nm at this
  unfold setO
  rw [this]
  rfl
theorem lvOf_back {u : Unt} (hu : u ∈ x.units) {q : Par} (hq : q ∈ parsOf x.lib u) {b : List Int} (h : uniO x.lib l x.units u.univ = some b) : lvOf (setV x.lib x.units (framesV x l)) u.num q = lvO u ⟨u.univ, b⟩ q := by
  have hl1 := hl
  have hm : setO u ⟨u.univ, b⟩ q ∈ setV x.lib x.units (framesV x l) := (back_mem hx).2 ⟨u, hu, b, h, q, hq, rfl⟩
  unfold lvOf
  rw [find_only (isK (u.num, q.name)) (List.mem_reverse.2 hm) (by simp [isK, Stg.k, setO]) (fun t ht e => pair_only Stg.k (back_keys hx l) (List.mem_reverse.1 ht) hm (by simpa [isK, Stg.k, setO] using e))]
  rfl
theorem wrP_back {u : Unt} (hu : u ∈ x.units) {q : Par} (hq : q ∈ parsOf x.lib u) : wrP (setV x.lib x.units (framesV x l)) u q = wrP l u q := by
  obtain ⟨b, hb, _⟩ := uniO_has hx hu l
  have h1 := lvOf_back hx hl hu hq hb
  by_cases c : q.fine = 0
  · rw [lvO_coarse hx hl hu hq hb c] at h1
    unfold wrP
    rw [if_pos c, if_pos c, h1]
    have := rnd_whole (rnd (lvOf l u.num q * 255) 65535) 65535 (by omega)
    rw [show rnd (lvOf l u.num q * 255) 65535 * 257 * 255 = rnd (lvOf l u.num q * 255) 65535 * 65535 by omega, this]
  · rw [lvO_fine hx hl hu hq hb c] at h1
    unfold wrP
    rw [if_neg c, if_neg c, h1]
theorem uniO_back (U : Int) : uniO x.lib (setV x.lib x.units (framesV x l)) x.units U = uniO x.lib l x.units U := by
  rw [uniO_wr, uniO_wr]
  have : wrs x.lib (setV x.lib x.units (framesV x l)) x.units U = wrs x.lib l x.units U := by
    unfold wrs
    refine flat_congr fun u hu => flat_congr fun q hq => wrP_back hx hl (List.mem_filter.1 hu).1 hq
  rw [this]
theorem frames_back : framesV x (setV x.lib x.units (framesV x l)) = framesV x l := by
  unfold framesV
  congr 1
  funext k
  have := uniO_back hx hl ((k : Int) + 1)
  unfold framesV at this
  rw [this]
theorem frames_some (h : 0 < l.length) : 0 < (framesV x l).length := by
  have h1 := (((stgs_iff x l).1 hl).1 _ (List.getElem_mem h)).1
  obtain ⟨q, hq⟩ := Option.isSome_iff_exists.1 h1
  obtain ⟨u, hu, _⟩ := findO_of hx hq
  obtain ⟨b, _, _, hm⟩ := frame_at hx hu l
  exact List.length_pos_of_mem hm
theorem back_has {s : Stg} (hs : s ∈ l) : ∃ q, findO x s.unit s.par.data.toList = some q ∧ (¬ q.fine = 0 → s ∈ setV x.lib x.units (framesV x l)) := by
  obtain ⟨q, hq⟩ := Option.isSome_iff_exists.1 (((stgs_iff x l).1 hl).1 s hs).1
  refine ⟨q, hq, fun hf => ?_⟩
  obtain ⟨u, hu, e1, hp, e2⟩ := findO_of hx hq
  obtain ⟨b, hb, _⟩ := uniO_has hx hu l
  refine (back_mem hx).2 ⟨u, hu, b, hb, q, hp, ?_⟩
  unfold setO
  rw [lvO_fine hx hl hu hp hb hf]
  have en : q.name = s.par := ByteArray.ext (Array.toList_inj.1 e2)
  have ek : s.k = (u.num, q.name) := by unfold Stg.k; rw [e1, en]
  have : lvOf l u.num q = s.lv := by
    unfold lvOf
    rw [find_only (isK (u.num, q.name)) (List.mem_reverse.2 hs) (by simp [isK, ek]) (fun t ht e => pair_only Stg.k ((stgs_iff x l).1 hl).2 (List.mem_reverse.1 ht) hs (by rw [ek]; simpa [isK] using e))]
    rfl
  rw [this, e1, en]
theorem frames_fit : ∀ f ∈ framesV x l, FrmFit f := by
  intro f hf
  obtain ⟨⟨k, hk, e⟩, hb⟩ := mem_frames.1 hf
  refine ⟨?_, uniO_bytes hx hl hb⟩
  unfold I64
  omega
theorem back_fit (hf : RigFit x) : ∀ s ∈ setV x.lib x.units (framesV x l), StgFit s := by
  intro s hs
  obtain ⟨u, hu, b, hb, q, hq, rfl⟩ := (back_mem hx).1 hs
  obtain ⟨p, h1, h2, _⟩ := unit_par hx hu
  rw [h2] at hq
  have := lvO_in hx hl hb q
  refine ⟨(hf.2 u hu).1, ((hf.1 p (profOf_some h1).1).2.2 q hq).2.2.2.2.1, ?_⟩
  unfold setO I64
  simp only
  omega
end
end Go.Proofs.Ytabalicembhjmaa
