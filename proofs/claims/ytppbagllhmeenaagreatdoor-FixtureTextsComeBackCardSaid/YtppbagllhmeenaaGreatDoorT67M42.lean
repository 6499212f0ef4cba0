/- What Text writes of a library says the same library. No walk in it. -/
import Derived.Test.YtppbagllhmeenaaGreatDoorT67M31
import Derived.Test.YtppbagllhmeenaaGreatDoorT67M20

namespace Go.Proofs.YtppbagllhmeenaaGreatDoor
open Go.RowKit Go.Lib
open Classical
set_option linter.unusedVariables false
set_option linter.unusedSimpArgs false

/-- neither blanks nor ends of lines -/
def Vis (b : ByteArray) : Prop := ∀ c ∈ b.data.toList, c ≠ 32 ∧ c ≠ 10
theorem dig_vis {c : UInt8} (h : IsDig c) : c ≠ 32 ∧ c ≠ 10 := ⟨dig_ne h 32 (.inl (by decide)), dig_ne h 10 (.inl (by decide))⟩
theorem vis_it {n : Int} (h : 0 ≤ n) : Vis (itT n) := by
  intro c hc
  rw [itT_list n h] at hc
  exact dig_vis (dd_digits _ c hc)
theorem vis_row {b : ByteArray} (h : rowB b.data.toList = true) : Vis b := by
  intro c hc
  unfold rowB at h
  simp only [Bool.and_eq_true, List.all_eq_true] at h
  have h1 := h.1 c hc
  constructor
  · rintro rfl
    revert h1
    decide
  · rintro rfl
    revert h1
    decide
theorem vis_show (n : Int) : Vis (showT n) := by
  unfold showT
  split
  · unfold Vis; decide
  split
  · unfold Vis; decide
  split
  · intro c hc
    have hc : c ∈ decDigits (rnd (100 * n) 65535).toNat ++ [37] := by simpa using hc
    rcases List.mem_append.1 hc with h | h
    · exact dig_vis (dd_digits _ c h)
    · obtain rfl := List.mem_singleton.1 h
      decide
  · intro c hc
    have hc : c ∈ 35 :: decDigits n.toNat := by simpa using hc
    rcases List.mem_cons.1 hc with rfl | h
    · decide
    · exact dig_vis (dd_digits _ c h)
theorem vis_grp (k : Int) : Vis (grpT k) := by
  unfold grpT
  repeat' split
  all_goals (unfold Vis; decide)
theorem nameB_row {b : ByteArray} (h : nameB b.data.toList = true) : rowB b.data.toList = true := by
  unfold nameB at h
  simp only [Bool.and_eq_true] at h
  exact h.1.1.1
theorem map_inj_list {a b : List ByteArray} (h : a.map (·.data.toList) = b.map (·.data.toList)) : a = b := by
  induction a generalizing b with
  | nil =>
    cases b with
    | nil => rfl
    | cons y t => simp at h
  | cons x s ih =>
    cases b with
    | nil => simp at h
    | cons y t =>
      simp only [List.map_cons, List.cons.injEq] at h
      rw [data_eq h.1, ih h.2]
theorem words_of {s : ByteArray} {L : List ByteArray} (hL : L ≠ []) (h : s.data.toList = joinW 32 (L.map (·.data.toList))) (hv : ∀ a ∈ L, Vis a) : wordsB 32 s = L := by
  apply map_inj_list
  rw [wordsB_spl, h, spl_join _ _ (by simpa using hL)]
  intro a ha x hx
  obtain ⟨b, hb, rfl⟩ := List.mem_map.1 ha
  exact (hv b hb x hx).1
theorem joinW_app (c : UInt8) : ∀ (A B : List (List UInt8)), A ≠ [] → joinW c (A ++ B) = joinW c A ++ B.flatMap fun v => c :: v
  | [], _, h => absurd rfl h
  | [a], [], _ => by simp
  | [a], [b], _ => by simp [joinW]
  | [a], b :: b2 :: B, _ => by
    have := joinW_app c [b] (b2 :: B) (by simp)
    show a ++ c :: joinW c ([b] ++ b2 :: B) = _
    rw [this]
    simp [joinW]
  | a :: a2 :: A, B, _ => by
    have := joinW_app c (a2 :: A) B (by simp)
    show a ++ c :: joinW c ((a2 :: A) ++ B) = (a ++ c :: joinW c (a2 :: A)) ++ _
    rw [this]
    simp
/-! ### the lines -/
def catW (L : List ByteArray) : List UInt8 := joinW 32 (L.map (·.data.toList))
noncomputable def rngWs (r : Rng) : List ByteArray := [showT r.low, showT r.high, r.name]
noncomputable def parWs (x : Par) : List ByteArray := [grpT x.grp, x.name, sAt, itT x.sl] ++ ((if 0 < x.fine then [sFine, itT x.fine] else []) ++ ((if 0 < x.dflt then [sDflt, showT x.dflt] else []) ++ (if x.snap = true then [sSnap] else [])))
def prfWs (p : Prf) : List ByteArray := [sProf, p.name, itT p.size]
noncomputable def rngL (r : Rng) : ByteArray := ⟨([32, 32, 32, 32] ++ catW (rngWs r)).toArray⟩
noncomputable def parL (x : Par) : ByteArray := ⟨([32, 32] ++ catW (parWs x)).toArray⟩
def prfL (p : Prf) : ByteArray := ⟨(catW (prfWs p)).toArray⟩
noncomputable def parLs (x : Par) : List ByteArray := parL x :: x.rngs.map rngL
noncomputable def prfLs (p : Prf) : List ByteArray := prfL p :: p.pars.flatMap parLs
noncomputable def libLs (l : List Prf) : List ByteArray := l.flatMap prfLs
def endsL (L : List ByteArray) : List UInt8 := L.flatMap fun x => x.data.toList ++ [10]
theorem endsL_cons (x : ByteArray) (L : List ByteArray) : endsL (x :: L) = x.data.toList ++ 10 :: endsL L := by simp [endsL]
theorem endsL_app (A B : List ByteArray) : endsL (A ++ B) = endsL A ++ endsL B := by simp [endsL]
theorem rngT_list (r : Rng) : (rngT r).data.toList = (rngL r).data.toList ++ [10] := by
  unfold rngT rngL catW rngWs
  simp only [app_list, joinW, List.map_cons, List.map_nil]
  simp
theorem rngA_list (l : List Rng) : ∀ s : ByteArray, (rngA s l).data.toList = s.data.toList ++ endsL (l.map rngL) := by
  induction l with
  | nil => intro s; simp [rngA, endsL]
  | cons r l ih =>
    intro s
    show (rngA (s ++ rngT r) l).data.toList = _
    rw [ih, app_list, rngT_list, List.map_cons, endsL_cons]
    simp
theorem parHd_list (x : Par) : (parHd x).data.toList = [32, 32] ++ catW [grpT x.grp, x.name, sAt, itT x.sl] := by
  unfold parHd catW sAt
  simp only [app_list, joinW, List.map_cons, List.map_nil]
  simp
theorem catW_app (A B : List ByteArray) (h : A ≠ []) : catW (A ++ B) = catW A ++ B.flatMap fun v => 32 :: v.data.toList := by
  unfold catW
  rw [List.map_append, joinW_app _ _ _ (by simpa using h)]
  rw [List.flatMap_map]
theorem fineA_list (x : Par) (s : ByteArray) : (fineA x s).data.toList = s.data.toList ++ (if 0 < x.fine then [sFine, itT x.fine] else []).flatMap fun v => 32 :: v.data.toList := by
  unfold fineA sFine
  split
  · simp only [app_list]; simp
  · simp
theorem dfltA_list (x : Par) (s : ByteArray) : (dfltA x s).data.toList = s.data.toList ++ (if 0 < x.dflt then [sDflt, showT x.dflt] else []).flatMap fun v => 32 :: v.data.toList := by
  unfold dfltA sDflt
  split
  · simp only [app_list]; simp
  · simp
theorem snapA_list (x : Par) (s : ByteArray) : (snapA x s).data.toList = s.data.toList ++ (if x.snap = true then [sSnap] else []).flatMap fun v => 32 :: v.data.toList := by
  unfold snapA sSnap
  split
  · simp only [app_list]; simp
  · simp
theorem parL_list (x : Par) : (snapA x (dfltA x (fineA x (parHd x)))).data.toList = (parL x).data.toList := by
  rw [snapA_list, dfltA_list, fineA_list, parHd_list]
  unfold parL parWs
  rw [catW_app _ _ (by simp)]
  simp only [List.flatMap_append, List.append_assoc]
theorem parT_list (x : Par) : (parT x).data.toList = endsL (parLs x) := by
  unfold parT parLs
  rw [rngA_list, endsL_cons]
  unfold nlA
  rw [app_list, parL_list]
  simp
theorem parsA_list (l : List Par) : ∀ s : ByteArray, (parsA s l).data.toList = s.data.toList ++ endsL (l.flatMap parLs) := by
  induction l with
  | nil => intro s; simp [parsA, endsL]
  | cons x l ih =>
    intro s
    show (parsA (parA s x) l).data.toList = _
    rw [ih, parA_eq, app_list, parT_list, List.flatMap_cons, endsL_app, List.append_assoc]
theorem prfHd_list (p : Prf) : (prfHd p).data.toList = (prfL p).data.toList ++ [10] := by
  unfold prfHd prfL catW prfWs sProf
  simp only [app_list, joinW, List.map_cons, List.map_nil]
  simp
theorem libB_list (l : List Prf) : (libB l).data.toList = endsL (libLs l) := by
  have key : ∀ (l : List Prf) (s : ByteArray), (l.foldl prfA s).data.toList = s.data.toList ++ endsL (libLs l) := by
    intro l
    induction l with
    | nil => intro s; simp [libLs, endsL]
    | cons p l ih =>
      intro s
      rw [List.foldl_cons, ih]
      unfold prfA libLs prfLs
      rw [parsA_list, app_list, prfHd_list, List.flatMap_cons, endsL_app, endsL_cons]
      simp
  have := key l ⟨#[]⟩
  unfold libB
  rw [this]
  simp
theorem spl_ends : ∀ (L : List ByteArray), (∀ x ∈ L, ∀ c ∈ x.data.toList, c ≠ 10) → spl 10 (endsL L) = L.map (·.data.toList) ++ [[]] := by
  intro L
  induction L with
  | nil => intro _; rfl
  | cons a t ih =>
    intro h
    rw [endsL_cons, spl_at (h a (by simp)), ih (fun x hx => h x (by simp [hx]))]
    rfl
theorem lines_ends {s : ByteArray} {L : List ByteArray} (hs : s.data.toList = endsL L) (h : ∀ x ∈ L, ∀ c ∈ x.data.toList, c ≠ 10) : linesL s = L ∧ linesW s = true := by
  by_cases hl : L = []
  · subst hl
    have hz : s.size = 0 := by rw [size_eq, hs]; rfl
    unfold linesL linesW
    rw [if_pos hz, decide_eq_true hz]
    exact ⟨rfl, rfl⟩
  have hz : ¬ s.size = 0 := by
    rw [size_eq, hs]
    cases L with
    | nil => exact absurd rfl hl
    | cons a t => rw [endsL_cons]; simp
  have hw : wordsB 10 s = L ++ [⟨#[]⟩] := by
    apply map_inj_list
    rw [wordsB_spl, hs, spl_ends _ h]
    simp
  unfold linesL linesW
  rw [if_neg hz, hw]
  have hlast : ((L ++ [(⟨#[]⟩ : ByteArray)]).getLast?.map (·.size)) = some 0 := by rw [List.getLast?_concat]; rfl
  rw [hlast]
  refine ⟨?_, by simp⟩
  rw [if_pos rfl]
  exact List.dropLast_concat
/-! ### the lines read -/
structure RngOk2 (r : Rng) : Prop where
  lo : 0 ≤ r.low ∧ r.low ≤ 65535
  hi : 0 ≤ r.high ∧ r.high ≤ 65535
  nm : rowB r.name.data.toList = true
structure ParOk2 (x : Par) : Prop where
  nm : rowB x.name.data.toList = true
  grp : 1 ≤ x.grp ∧ x.grp ≤ 4
  fine : 0 ≤ x.fine ∧ x.fine ≤ 512
  dflt : 0 ≤ x.dflt ∧ x.dflt ≤ 65535
  sl : 1 ≤ x.sl ∧ x.sl ≤ 512
  rngs : ∀ r ∈ x.rngs, RngOk2 r
structure PrfOk2 (p : Prf) : Prop where
  nm : rowB p.name.data.toList = true
  sz : 1 ≤ p.size ∧ p.size ≤ 512
  pars : ∀ x ∈ p.pars, ParOk2 x
theorem prfOk2_of {p : Prf} (h : chkPrf p = 0) : PrfOk2 p := by
  obtain ⟨h1, h2, h3, h4, h5⟩ := chkPrf_zero h
  refine ⟨nameB_row h1, h2, fun x hx => ?_⟩
  obtain ⟨g1, g2, g3, g4, g5, g6⟩ := par_chk h hx
  obtain ⟨r1, r2⟩ := rng_chk g6
  exact ⟨nameB_row g1, g2, g3, g4, g5, fun r hr => ⟨(r2 r hr).1, (r2 r hr).2.1, nameB_row (r2 r hr).2.2⟩⟩
theorem vis_const {b : ByteArray} (h : b = sFine ∨ b = sDflt ∨ b = sSnap ∨ b = sAt ∨ b = sProf) : Vis b := by
  rcases h with rfl | rfl | rfl | rfl | rfl <;> (unfold Vis; decide)
theorem rngWs_vis {r : Rng} (h : RngOk2 r) : ∀ a ∈ rngWs r, Vis a := by
  intro a ha
  simp only [rngWs, List.mem_cons, List.not_mem_nil, or_false] at ha
  rcases ha with rfl | rfl | rfl
  · exact vis_show _
  · exact vis_show _
  · exact vis_row h.nm
theorem parWs_vis {x : Par} (h : ParOk2 x) : ∀ a ∈ parWs x, Vis a := by
  intro a ha
  unfold parWs at ha
  rcases List.mem_append.1 ha with ha | ha
  · simp only [List.mem_cons, List.not_mem_nil, or_false] at ha
    rcases ha with rfl | rfl | rfl | rfl
    · exact vis_grp _
    · exact vis_row h.nm
    · exact vis_const (by simp)
    · exact vis_it (by have := h.sl; omega)
  rcases List.mem_append.1 ha with ha | ha
  · split at ha
    · simp only [List.mem_cons, List.not_mem_nil, or_false] at ha
      rcases ha with rfl | rfl
      · exact vis_const (by simp)
      · exact vis_it h.fine.1
    · simp at ha
  rcases List.mem_append.1 ha with ha | ha
  · split at ha
    · simp only [List.mem_cons, List.not_mem_nil, or_false] at ha
      rcases ha with rfl | rfl
      · exact vis_const (by simp)
      · exact vis_show _
    · simp at ha
  · split at ha
    · simp only [List.mem_cons, List.not_mem_nil, or_false] at ha
      subst ha
      exact vis_const (by simp)
    · simp at ha
theorem prfWs_vis {p : Prf} (h : PrfOk2 p) : ∀ a ∈ prfWs p, Vis a := by
  intro a ha
  simp only [prfWs, List.mem_cons, List.not_mem_nil, or_false] at ha
  rcases ha with rfl | rfl | rfl
  · exact vis_const (by simp)
  · exact vis_row h.nm
  · exact vis_it (by have := h.sz; omega)
theorem catW_no {L : List ByteArray} (h : ∀ a ∈ L, Vis a) : ∀ c ∈ catW L, c ≠ 10 := by
  unfold catW
  induction L with
  | nil => intro c hc; simp [joinW] at hc
  | cons a t ih =>
    intro c hc
    cases t with
    | nil =>
      have hc : c ∈ a.data.toList := hc
      exact (h a (by simp) c hc).2
    | cons b r =>
      have hc : c ∈ a.data.toList ++ 32 :: joinW 32 ((b :: r).map (·.data.toList)) := hc
      rcases List.mem_append.1 hc with hc | hc
      · exact (h a (by simp) c hc).2
      rcases List.mem_cons.1 hc with rfl | hc
      · decide
      · exact ih (fun x hx => h x (by simp [hx])) c hc
theorem rngL_no {r : Rng} (h : RngOk2 r) : ∀ c ∈ (rngL r).data.toList, c ≠ 10 := by
  intro c hc
  have hc : c ∈ [32, 32, 32, 32] ++ catW (rngWs r) := by simpa [rngL] using hc
  rcases List.mem_append.1 hc with hc | hc
  · simp at hc; subst hc; decide
  · exact catW_no (rngWs_vis h) c hc
theorem parL_no {x : Par} (h : ParOk2 x) : ∀ c ∈ (parL x).data.toList, c ≠ 10 := by
  intro c hc
  have hc : c ∈ [32, 32] ++ catW (parWs x) := by simpa [parL] using hc
  rcases List.mem_append.1 hc with hc | hc
  · simp at hc; subst hc; decide
  · exact catW_no (parWs_vis h) c hc
theorem prfL_no {p : Prf} (h : PrfOk2 p) : ∀ c ∈ (prfL p).data.toList, c ≠ 10 := by
  intro c hc
  have hc : c ∈ catW (prfWs p) := by simpa [prfL] using hc
  exact catW_no (prfWs_vis h) c hc
theorem libLs_no {l : List Prf} (h : ∀ p ∈ l, PrfOk2 p) : ∀ x ∈ libLs l, ∀ c ∈ x.data.toList, c ≠ 10 := by
  intro x hx
  obtain ⟨p, hp, hx⟩ := List.mem_flatMap.1 hx
  unfold prfLs at hx
  rcases List.mem_cons.1 hx with rfl | hx
  · exact prfL_no (h p hp)
  obtain ⟨y, hy, hx⟩ := List.mem_flatMap.1 hx
  unfold parLs at hx
  rcases List.mem_cons.1 hx with rfl | hx
  · exact parL_no ((h p hp).pars y hy)
  obtain ⟨r, hr, rfl⟩ := List.mem_map.1 hx
  exact rngL_no (((h p hp).pars y hy).rngs r hr)
theorem cut_app {s : ByteArray} {A B : List UInt8} (h : s.data.toList = A ++ B) : (cutN A.length s).data.toList = B := by
  unfold cutN
  have h2 : s.size = (A ++ B).length := by rw [size_eq, h]
  rw [ByteArray.data_extract, Array.toList_extract, h, h2]
  simp [List.extract_eq_take_drop]
theorem cut_at4 {s : ByteArray} {A B : List UInt8} (k : Nat) (hk : A.length = k) (h : s.data.toList = A ++ B) : (cutN k s).data.toList = B := by
  subst hk
  exact cut_app h
theorem rng_read {r : Rng} (h : RngOk2 r) : four (rngL r) = true ∧ rngW (wordsB 32 (cutN 4 (rngL r))) = some r := by
  have e : (rngL r).data.toList = [32, 32, 32, 32] ++ catW (rngWs r) := rfl
  refine ⟨by unfold four; rw [e]; simp [hasPrefix, List.isPrefixOf], ?_⟩
  rw [words_of (s := cutN 4 (rngL r)) (L := rngWs r) (by simp [rngWs]) (cut_at4 4 rfl e) (rngWs_vis h)]
  unfold rngWs rngW
  simp only
  rw [if_pos h.nm, lv_show _ h.lo.1 h.lo.2, lv_show _ h.hi.1 h.hi.2]
  rfl
theorem grp_read {k : Int} (h : 1 ≤ k ∧ k ≤ 4) : grpW (grpT k) = k := by
  obtain rfl | rfl | rfl | rfl : k = 1 ∨ k = 2 ∨ k = 3 ∨ k = 4 := by omega
  all_goals decide
theorem par_read {x : Par} (h : ParOk2 x) (hr : x.rngs = []) : four (parL x) = false ∧ two (parL x) = true ∧ parW (wordsB 32 (cutN 2 (parL x))) = some x := by
  have e : (parL x).data.toList = [32, 32] ++ catW (parWs x) := rfl
  have hd : ∃ c t, catW (parWs x) = c :: t ∧ c ≠ 32 := by
    have : ∃ c t, (grpT x.grp).data.toList = c :: t := by
      obtain h1 | h1 | h1 | h1 : x.grp = 1 ∨ x.grp = 2 ∨ x.grp = 3 ∨ x.grp = 4 := by have := h.grp; omega
      all_goals (rw [h1]; exact ⟨_, _, rfl⟩)
    obtain ⟨c, t, hc⟩ := this
    have hv := vis_grp x.grp c (by rw [hc]; simp)
    refine ⟨c, t ++ 32 :: catW ((parWs x).drop 1), ?_, hv.1⟩
    unfold catW parWs
    show (grpT x.grp).data.toList ++ 32 :: _ = _
    rw [hc]
    rfl
  obtain ⟨c, t, hc, hc2⟩ := hd
  refine ⟨?_, by unfold two; rw [e]; simp [hasPrefix, List.isPrefixOf], ?_⟩
  · unfold four
    rw [e, hc]
    simp [hasPrefix, List.isPrefixOf]
    intro h; exact absurd h.symm hc2
  rw [words_of (s := cutN 2 (parL x)) (L := parWs x) (by simp [parWs]) (cut_at4 2 rfl e) (parWs_vis h)]
  obtain ⟨n, g, sl, fi, df, sn, rs⟩ := x
  obtain ⟨h1, h2, h3, h4, h5, _⟩ := h
  simp only at h1 h2 h3 h4 h5 hr
  subst hr
  unfold parWs parW
  simp only [List.cons_append, List.nil_append]
  rw [if_pos ⟨h1, trivial, by rw [grp_read h2]; omega⟩, nb_it sl (by omega) (by omega), grp_read h2]
  show tailW g n sl _ = _
  have f1 : ∀ R, (R = [] ∨ R = [sSnap] ∨ ∃ b R', R = sDflt :: b :: R') → optW sFine nzN ((if 0 < fi then [sFine, itT fi] else []) ++ R) = some (fi, R) := by
    intro R hR
    by_cases c : 0 < fi
    · rw [if_pos c]
      unfold optW
      simp only [List.cons_append, List.nil_append]
      rw [if_pos trivial]
      unfold nzN
      rw [nb_it fi (by omega) (by omega)]
      simp only [Option.bind_some]
      rw [if_neg (by omega)]
      rfl
    · rw [if_neg c, List.nil_append, show fi = 0 by omega]
      rcases hR with rfl | rfl | ⟨b, R', rfl⟩
      · rfl
      · rfl
      · unfold optW
        simp only
        rw [if_neg (by decide)]
  have f2 : ∀ R, (R = [] ∨ R = [sSnap]) → optW sDflt nzL ((if 0 < df then [sDflt, showT df] else []) ++ R) = some (df, R) := by
    intro R hR
    by_cases c : 0 < df
    · rw [if_pos c]
      unfold optW
      simp only [List.cons_append, List.nil_append]
      rw [if_pos trivial]
      unfold nzL
      rw [lv_show df (by omega) (by omega)]
      simp only [Option.bind_some]
      rw [if_neg (by omega)]
      rfl
    · rw [if_neg c, List.nil_append, show df = 0 by omega]
      rcases hR with rfl | rfl
      · rfl
      · rfl
  unfold tailW
  rw [f1 _ (by
    by_cases c : 0 < df
    · rw [if_pos c]; exact .inr (.inr ⟨_, _, rfl⟩)
    · rw [if_neg c]
      cases sn
      · exact .inl rfl
      · exact .inr (.inl rfl))]
  simp only [Option.bind_some]
  rw [f2 _ (by cases sn; exact .inl rfl; exact .inr rfl)]
  simp only [Option.bind_some]
  cases sn
  · rfl
  · show (snapW [sSnap]).map _ = _
    unfold snapW
    simp only
    rw [if_pos trivial]
    rfl
theorem prf_read {p : Prf} (h : PrfOk2 p) : four (prfL p) = false ∧ two (prfL p) = false ∧ prfW (wordsB 32 (prfL p)) = some ⟨p.name, p.size, []⟩ := by
  have e : (prfL p).data.toList = catW (prfWs p) := rfl
  have e2 : catW (prfWs p) = 112 :: (([114, 111, 102, 105, 108, 101] : List UInt8) ++ 32 :: catW [p.name, itT p.size]) := rfl
  refine ⟨by unfold four; rw [e, e2]; simp [hasPrefix, List.isPrefixOf], by unfold two; rw [e, e2]; simp [hasPrefix, List.isPrefixOf], ?_⟩
  rw [words_of (L := prfWs p) (by simp [prfWs]) e (prfWs_vis h)]
  unfold prfWs prfW
  simp only
  rw [if_pos ⟨trivial, h.nm⟩, nb_it p.size (by have := h.sz; omega) (by have := h.sz; omega)]
  rfl
/-- lines that add to a library -/
noncomputable def goL : List ByteArray → List Prf → Option (List Prf)
  | [], l => some l
  | x :: r, l => (addL l x).bind (goL r)
theorem goL_app (A : List ByteArray) : ∀ (B : List ByteArray) (l : List Prf), goL (A ++ B) l = (goL A l).bind (goL B) := by
  induction A with
  | nil => intro B l; rfl
  | cons a t ih =>
    intro B l
    show (addL l a).bind (goL (t ++ B)) = ((addL l a).bind (goL t)).bind (goL B)
    cases addL l a with
    | none => rfl
    | some m => exact ih B m
theorem rdGo_good : ∀ (L : List ByteArray) (k : Nat) (l m : List Prf), goL L l = some m → rdGo true k L l = (0, m) := by
  intro L
  induction L with
  | nil => intro k l m h; injection h with h; subst h; rfl
  | cons a t ih =>
    intro k l m h
    unfold goL at h
    obtain ⟨q, h1, h2⟩ := Option.bind_eq_some_iff.1 h
    unfold rdGo
    rw [if_neg (by simp), h1]
    exact ih _ _ _ h2
theorem go_rngs : ∀ (rs : List Rng) (l0 : List Prf) (nm : ByteArray) (sz : Int) (ps : List Par) (x : Par), (∀ r ∈ rs, RngOk2 r) →
    goL (rs.map rngL) (l0 ++ [⟨nm, sz, ps ++ [x]⟩]) = some (l0 ++ [⟨nm, sz, ps ++ [⟨x.name, x.grp, x.sl, x.fine, x.dflt, x.snap, x.rngs ++ rs⟩]⟩]) := by
  intro rs
  induction rs with
  | nil => intro l0 nm sz ps x _; simp [goL]
  | cons r t ih =>
    intro l0 nm sz ps x h
    obtain ⟨h1, h2⟩ := rng_read (h r (by simp))
    have ha : addL (l0 ++ [⟨nm, sz, ps ++ [x]⟩]) (rngL r) = some (l0 ++ [⟨nm, sz, ps ++ [addR r x]⟩]) := by
      unfold addL
      rw [if_pos h1, h2]
      simp only [Option.bind_some]
      rw [onLast_snoc]
      unfold addRP
      rw [onLast_snoc]
      rfl
    rw [List.map_cons]
    unfold goL
    rw [ha]
    simp only [Option.bind_some]
    rw [ih l0 nm sz ps (addR r x) (fun r hr => h r (by simp [hr]))]
    unfold addR
    simp
theorem go_par {x : Par} (h : ParOk2 x) (l0 : List Prf) (nm : ByteArray) (sz : Int) (ps : List Par) : goL (parLs x) (l0 ++ [⟨nm, sz, ps⟩]) = some (l0 ++ [⟨nm, sz, ps ++ [x]⟩]) := by
  have ex : parL x = parL ⟨x.name, x.grp, x.sl, x.fine, x.dflt, x.snap, []⟩ := rfl
  obtain ⟨h1, h2, h3⟩ := par_read (x := ⟨x.name, x.grp, x.sl, x.fine, x.dflt, x.snap, []⟩) ⟨h.nm, h.grp, h.fine, h.dflt, h.sl, by simp⟩ rfl
  have ha : addL (l0 ++ [⟨nm, sz, ps⟩]) (parL x) = some (l0 ++ [⟨nm, sz, ps ++ [⟨x.name, x.grp, x.sl, x.fine, x.dflt, x.snap, []⟩]⟩]) := by
    rw [ex]
    unfold addL
    rw [if_neg (by rw [h1]; decide), if_pos h2, h3]
    simp only [Option.bind_some]
    rw [onLast_snoc]
    rfl
  unfold parLs goL
  rw [ha]
  simp only [Option.bind_some]
  rw [go_rngs _ _ _ _ _ _ h.rngs]
  simp
theorem go_pars : ∀ (xs : List Par) (l0 : List Prf) (nm : ByteArray) (sz : Int) (ps : List Par), (∀ x ∈ xs, ParOk2 x) → goL (xs.flatMap parLs) (l0 ++ [⟨nm, sz, ps⟩]) = some (l0 ++ [⟨nm, sz, ps ++ xs⟩]) := by
  intro xs
  induction xs with
  | nil => intro l0 nm sz ps _; simp [goL]
  | cons x t ih =>
    intro l0 nm sz ps h
    rw [List.flatMap_cons, goL_app, go_par (h x (by simp))]
    simp only [Option.bind_some]
    rw [ih _ _ _ _ (fun y hy => h y (by simp [hy]))]
    simp
theorem go_prfs : ∀ (l l0 : List Prf), (∀ p ∈ l, PrfOk2 p) → goL (libLs l) l0 = some (l0 ++ l) := by
  intro l
  induction l with
  | nil => intro l0 _; simp [libLs, goL]
  | cons p t ih =>
    intro l0 h
    have hp := h p (by simp)
    obtain ⟨h1, h2, h3⟩ := prf_read hp
    have ha : addL l0 (prfL p) = some (l0 ++ [⟨p.name, p.size, []⟩]) := by
      unfold addL
      rw [if_neg (by rw [h1]; decide), if_neg (by rw [h2]; decide), h3]
      rfl
    unfold libLs prfLs
    rw [List.flatMap_cons, List.cons_append]
    unfold goL
    rw [ha]
    simp only [Option.bind_some]
    rw [goL_app, go_pars _ _ _ _ _ hp.pars]
    simp only [Option.bind_some]
    have := ih (l0 ++ [⟨p.name, p.size, [] ++ p.pars⟩]) (fun q hq => h q (by simp [hq]))
    unfold libLs prfLs at this
    rw [this]
    simp
theorem lib_back {l : List Prf} (h : chkLib l = 0) (hs : ¬ 200000 < (libB l).size) : rdX (libB l) = (0, 0, l) := by
  have hok : ∀ p ∈ l, PrfOk2 p := fun p hp => prfOk2_of (chkLib_prf h hp)
  obtain ⟨h1, h2⟩ := lines_ends (libB_list l) (libLs_no hok)
  rw [rdX_ok hs, h1, h2, rdGo_good _ 0 [] l (by rw [go_prfs l [] hok]; rfl)]
  unfold rdF
  rw [if_neg (by simp), if_pos h]
theorem rd_cases (s : ByteArray) : ((rdX s).1 ≠ 0 ∧ (rdX s).2.2 = []) ∨ ∃ l, rdX s = (0, 0, l) ∧ chkLib l = 0 := by
  unfold rdX rdF
  by_cases h1 : 200000 < s.size
  · rw [if_pos h1]; exact .inl ⟨by decide, rfl⟩
  rw [if_neg h1]
  generalize rdGo (linesW s) 0 (linesL s) [] = r
  by_cases h2 : r.1 ≠ 0
  · rw [if_pos h2]; exact .inl ⟨by show (9 : Int) ≠ 0; decide, rfl⟩
  rw [if_neg h2]
  by_cases h3 : chkLib r.2 = 0
  · rw [if_pos h3]; exact .inr ⟨_, rfl, h3⟩
  · rw [if_neg h3]; exact .inl ⟨h3, rfl⟩
end Go.Proofs.YtppbagllhmeenaaGreatDoor
