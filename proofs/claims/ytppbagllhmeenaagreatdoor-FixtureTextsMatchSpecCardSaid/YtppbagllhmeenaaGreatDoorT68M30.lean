/- What one line adds to a library: the cases. Plain Lean. The reference's way of reading a line: by its leading blanks. Plain Lean. strings.TrimLeft at a blank. (printed by wip/gen/gen_rlibadd.py) slices.Clone at ranges and at units. (printed by wip/gen/gen_fixclones.py) -/
import Derived.Test.YtppbagllhmeenaaGreatDoorT68M18
import Derived.Lib.TrimByte
import Derived.Test.YtppbagllhmeenaaGreatDoorShelf
import Derived.Deep.DeepCutAuto
import Derived.Test.YtppbagllhmeenaaGreatDoorT68M24
import Derived.Lib.SliceRun
import Derived.OwnWalk
import Derived.Laws.AppendOwn

namespace Go.Proofs.YtppbagllhmeenaaGreatDoor
open Go.RowKit
set_option linter.unusedVariables false
set_option linter.unusedSimpArgs false

theorem add4_nil {s : ByteArray} (h : four s = true) : addL [] s = none := by
  unfold addL
  rw [if_pos h]
  cases rngW (wordsB 32 (cutN 4 s)) <;> rfl
theorem add4_none {s : ByteArray} {l : List Prf} (h : four s = true) (h2 : rngW (wordsB 32 (cutN 4 s)) = none) : addL l s = none := by
  unfold addL
  rw [if_pos h, h2]
  rfl
theorem add4_bare {s : ByteArray} {l0 : List Prf} {nm : ByteArray} {sz : Int} (h : four s = true) : addL (l0 ++ [⟨nm, sz, []⟩]) s = none := by
  unfold addL
  rw [if_pos h]
  cases rngW (wordsB 32 (cutN 4 s)) with
  | none => rfl
  | some r =>
    simp only [Option.bind_some]
    rw [onLast_snoc]
    rfl
theorem add4_some {s : ByteArray} {l0 : List Prf} {nm : ByteArray} {sz : Int} {ps : List Par} {x : Par} {r : Rng} (h : four s = true) (h2 : rngW (wordsB 32 (cutN 4 s)) = some r) :
    addL (l0 ++ [⟨nm, sz, ps ++ [x]⟩]) s = some (l0 ++ [⟨nm, sz, ps ++ [⟨x.name, x.grp, x.sl, x.fine, x.dflt, x.snap, x.rngs ++ [r]⟩]⟩]) := by
  unfold addL
  rw [if_pos h, h2]
  simp only [Option.bind_some]
  rw [onLast_snoc]
  unfold addRP
  rw [onLast_snoc]
  rfl
theorem add2_nil {s : ByteArray} (h : four s = false) (h2 : two s = true) : addL [] s = none := by
  unfold addL
  rw [if_neg (by rw [h]; decide), if_pos h2]
  cases parW (wordsB 32 (cutN 2 s)) <;> rfl
theorem add2_none {s : ByteArray} {l : List Prf} (h : four s = false) (h2 : two s = true) (h3 : parW (wordsB 32 (cutN 2 s)) = none) : addL l s = none := by
  unfold addL
  rw [if_neg (by rw [h]; decide), if_pos h2, h3]
  rfl
theorem add2_some {s : ByteArray} {l0 : List Prf} {nm : ByteArray} {sz : Int} {ps : List Par} {x : Par} (h : four s = false) (h2 : two s = true) (h3 : parW (wordsB 32 (cutN 2 s)) = some x) :
    addL (l0 ++ [⟨nm, sz, ps⟩]) s = some (l0 ++ [⟨nm, sz, ps ++ [x]⟩]) := by
  unfold addL
  rw [if_neg (by rw [h]; decide), if_pos h2, h3]
  simp only [Option.bind_some]
  rw [onLast_snoc]
  rfl
theorem add0_none {s : ByteArray} {l : List Prf} (h : four s = false) (h2 : two s = false) (h3 : prfW (wordsB 32 s) = none) : addL l s = none := by
  unfold addL
  rw [if_neg (by rw [h]; decide), if_neg (by rw [h2]; decide), h3]
  rfl
theorem add0_some {s : ByteArray} {l : List Prf} {p : Prf} (h : four s = false) (h2 : two s = false) (h3 : prfW (wordsB 32 s) = some p) : addL l s = some (l ++ [p]) := by
  unfold addL
  rw [if_neg (by rw [h]; decide), if_neg (by rw [h2]; decide), h3]
  rfl
theorem prfW_no {L : List ByteArray} (h : L.length ≠ 3) : prfW L = none := by
  unfold prfW
  split
  · simp at h
  · rfl
theorem prfW_three (a n s : ByteArray) : prfW [a, n, s] = if a = sProf ∧ rowB n.data.toList = true then (nbW s).map fun k => ⟨n, k, []⟩ else none := rfl
theorem parW_rngs {L : List ByteArray} {x : Par} (h : parW L = some x) : x.rngs = [] := by
  unfold parW at h
  split at h
  · split at h
    · obtain ⟨k, h1, h2⟩ := Option.bind_eq_some_iff.1 h
      unfold tailW at h2
      obtain ⟨a, _, h2⟩ := Option.bind_eq_some_iff.1 h2
      obtain ⟨b, _, h2⟩ := Option.bind_eq_some_iff.1 h2
      obtain ⟨c, _, h2⟩ := Option.map_eq_some_iff.1 h2
      subst h2
      rfl
    · cases h
  · cases h
theorem has_len {s : ByteArray} {p : List UInt8} (h : Lib.hasPrefix s.data.toList p = true) : p.length ≤ s.size := by
  rw [Lib.size_eq]
  unfold Lib.hasPrefix at h
  exact (List.isPrefixOf_iff_prefix.1 h).length_le
theorem four_len {s : ByteArray} (h : four s = true) : 4 ≤ s.size := has_len h
theorem two_len {s : ByteArray} (h : two s = true) : 2 ≤ s.size := has_len h
end Go.Proofs.YtppbagllhmeenaaGreatDoor

namespace Go.Proofs.YtppbagllhmeenaaGreatDoor
open Go.RowKit Go.Lib
set_option linter.unusedVariables false
set_option linter.unusedSimpArgs false

/-- a line without its leading blanks; how many these are -/
def restB (s : ByteArray) : ByteArray := ⟨(trimLeftB s.data.toList 32).toArray⟩
def leadN (s : ByteArray) : Nat := s.size - (restB s).size
theorem drop_rep : ∀ (l : List UInt8), ∃ n r, l = List.replicate n 32 ++ r ∧ trimLeftB l 32 = r ∧ ∀ c t, r = c :: t → c ≠ 32
  | [] => ⟨0, [], rfl, rfl, fun c t h => by cases h⟩
  | c :: t => by
    by_cases h : c = 32
    · obtain ⟨n, r, h1, h2, h3⟩ := drop_rep t
      refine ⟨n + 1, r, ?_, ?_, h3⟩
      · rw [h, h1]; rfl
      · rw [← h2]
        unfold trimLeftB
        rw [List.dropWhile_cons_of_pos (by simpa using h)]
    · refine ⟨0, c :: t, rfl, ?_, fun c' t' e => by injection e with e _; rw [← e]; exact h⟩
      unfold trimLeftB
      rw [List.dropWhile_cons_of_neg (by simpa using h)]
theorem rest_list (s : ByteArray) : (restB s).data.toList = trimLeftB s.data.toList 32 := by unfold restB; simp
theorem rest_le (s : ByteArray) : (restB s).size ≤ s.size := by
  rw [size_eq, size_eq, rest_list]
  obtain ⟨n, r, h1, h2, _⟩ := drop_rep s.data.toList
  rw [h2]
  conv => rhs; rw [h1]
  simp
theorem words_blank {s : ByteArray} {r : List UInt8} (h : s.data.toList = 32 :: r) : ∃ L, wordsB 32 s = ⟨#[]⟩ :: L := by
  have e := wordsB_spl 32 s
  rw [h, show spl 32 (32 :: r) = [] :: spl 32 r from by rw [spl_cons, if_pos rfl]] at e
  cases hw : wordsB 32 s with
  | nil => rw [hw] at e; cases e
  | cons a L =>
    rw [hw] at e
    simp only [List.map_cons, List.cons.injEq] at e
    exact ⟨L, by rw [data_eq (t := ⟨#[]⟩) e.1]⟩
theorem lvW_empty : lvW ⟨#[]⟩ = none := by
  unfold lvW
  rw [if_neg (by rw [toList_of (l := []) rfl]; decide), if_neg (by rw [toList_of (l := []) rfl]; decide), dif_neg]
  rintro ⟨v, h | h⟩
  · have := h.1; revert this; decide
  · have := h.2.1; revert this; decide
theorem rngW_blank (L : List ByteArray) : rngW (⟨#[]⟩ :: L) = none := by
  rcases L with _ | ⟨a, _ | ⟨b, _ | ⟨c, L⟩⟩⟩
  · rfl
  · rfl
  · show (if rowB b.data.toList = true then (lvW ⟨#[]⟩).bind fun l => (lvW a).map fun h => (⟨l, h, b⟩ : Rng) else none) = none
    rw [lvW_empty]
    simp
  · rfl
theorem grpW_empty : grpW ⟨#[]⟩ = 0 := by decide
theorem parW_blank (L : List ByteArray) : parW (⟨#[]⟩ :: L) = none := by
  rcases L with _ | ⟨a, _ | ⟨b, _ | ⟨c, L⟩⟩⟩
  · rfl
  · rfl
  · rfl
  · show (if rowB a.data.toList = true ∧ b = sAt ∧ grpW ⟨#[]⟩ ≠ 0 then (nbW c).bind fun k => tailW (grpW ⟨#[]⟩) a k L else none) = none
    rw [if_neg (fun h => h.2.2 grpW_empty)]
theorem prfW_blank (L : List ByteArray) : prfW (⟨#[]⟩ :: L) = none := by
  rcases L with _ | ⟨a, _ | ⟨b, _ | ⟨c, L⟩⟩⟩
  · rfl
  · rfl
  · show (if (⟨#[]⟩ : ByteArray) = sProf ∧ rowB a.data.toList = true then (nbW b).map fun k => (⟨a, k, []⟩ : Prf) else none) = none
    rw [if_neg (fun h => by have := h.1; revert this; decide)]
  · rfl
theorem cut_list (s : ByteArray) (n : Nat) : (cutN n s).data.toList = s.data.toList.drop n := by
  unfold cutN
  rw [ByteArray.data_extract, Array.toList_extract, List.extract_eq_take_drop, List.take_of_length_le (by rw [List.length_drop, size_eq]; exact Nat.le_refl _)]
/-- the same, by the leading blanks -/
noncomputable def addR' (l : List Prf) (s : ByteArray) : Option (List Prf) :=
  if leadN s = 0 then (prfW (wordsB 32 (restB s))).map fun p => l ++ [p]
  else if leadN s = 2 then (parW (wordsB 32 (restB s))).bind fun x => onLast (fun p => some (addP x p)) l
  else if leadN s = 4 then (rngW (wordsB 32 (restB s))).bind fun r => onLast (addRP r) l
  else none
theorem lead_of {s : ByteArray} {n : Nat} {r : List UInt8} (h1 : s.data.toList = List.replicate n 32 ++ r) (h2 : trimLeftB s.data.toList 32 = r) : leadN s = n := by
  unfold leadN
  rw [size_eq, size_eq, rest_list, h2, h1]
  simp
theorem pre_no {r : List UInt8} (h : ∀ c t, r = c :: t → c ≠ 32) (k : Nat) : hasPrefix r (List.replicate (k + 1) 32) = false := by
  unfold hasPrefix
  cases r with
  | nil => rfl
  | cons c t =>
    have := h c t rfl
    rw [List.replicate_succ]
    simp [List.isPrefixOf]
    intro e
    exact absurd e.symm this
theorem add_eq (l : List Prf) (s : ByteArray) : addL l s = addR' l s := by
  obtain ⟨n, r, h1, h2, h3⟩ := drop_rep s.data.toList
  have hl := lead_of h1 h2
  have p1 := pre_no h3 0
  have p2 := pre_no h3 1
  have p3 := pre_no h3 2
  have p4 := pre_no h3 3
  unfold addR'
  rw [hl]
  have hr : (restB s).data.toList = r := by rw [rest_list, h2]
  match n, h1 with
  | 0, h1 =>
    have e : restB s = s := data_eq (by rw [hr, h1]; rfl)
    have f4 : four s = false := by unfold four; rw [h1]; exact p4
    have f2 : two s = false := by unfold two; rw [h1]; exact p2
    unfold addL
    rw [if_neg (by rw [f4]; decide), if_neg (by rw [f2]; decide), if_pos rfl, e]
  | 1, h1 =>
    have f4 : four s = false := by unfold four; rw [h1]; exact p3
    have f2 : two s = false := by unfold two; rw [h1]; exact p1
    obtain ⟨L, hL⟩ := words_blank (s := s) (r := r) (by rw [h1]; rfl)
    rw [add0_none f4 f2 (by rw [hL]; exact prfW_blank L)]
    simp
  | 2, h1 =>
    have f4 : four s = false := by unfold four; rw [h1]; exact p2
    have f2 : two s = true := by unfold two; rw [h1]; rfl
    have e : cutN 2 s = restB s := data_eq (by rw [cut_list, hr, h1]; rfl)
    unfold addL
    rw [if_neg (by rw [f4]; decide), if_pos f2, if_neg (by decide), if_pos rfl, e]
  | 3, h1 =>
    have f4 : four s = false := by unfold four; rw [h1]; exact p1
    have f2 : two s = true := by unfold two; rw [h1]; rfl
    obtain ⟨L, hL⟩ := words_blank (s := cutN 2 s) (r := r) (by rw [cut_list, h1]; rfl)
    rw [add2_none f4 f2 (by rw [hL]; exact parW_blank L)]
    simp
  | 4, h1 =>
    have f4 : four s = true := by unfold four; rw [h1]; rfl
    have e : cutN 4 s = restB s := data_eq (by rw [cut_list, hr, h1]; rfl)
    unfold addL
    rw [if_pos f4, if_neg (by decide), if_neg (by decide), if_pos rfl, e]
  | k + 5, h1 =>
    have f4 : four s = true := by unfold four; rw [h1]; rfl
    obtain ⟨L, hL⟩ := words_blank (s := cutN 4 s) (r := List.replicate k 32 ++ r) (by rw [cut_list, h1]; rfl)
    rw [add4_none f4 (by rw [hL]; exact rngW_blank L), if_neg (by omega), if_neg (by omega), if_neg (by omega)]
end Go.Proofs.YtppbagllhmeenaaGreatDoor

namespace Go.Proofs.YtppbagllhmeenaaGreatDoor
open Go.RowKit
set_option linter.unusedVariables false
set_option linter.unusedSimpArgs false

set_option maxRecDepth 100000 in
set_option maxHeartbeats 4000000 in
theorem rtrim_any (s : ByteArray) (w : World) (hn : s.size ≤ 9223372036854775807) :
    Calls Tryz.prog 65 #[.string s, .string ⟨#[32]⟩] w fun e w' => e = .returned (.string (restB s)) ∧ w = w' := by
  by_cases h0 : s.size = 0
  · have he : s = ⟨#[]⟩ := ByteArray.ext (by apply Array.ext <;> simp_all)
    subst he
    have HR : restB ⟨#[]⟩ = ⟨#[]⟩ := rfl
    rw [HR]
    go_enter Tryz.func65, Tryz.ntmps65
    go_wp2
    go_ret
    exact ⟨rfl, rfl⟩
  · have hl := bytes_some (s := s) (by omega)
    have hl2 := bytes_some' (s := s) (by omega)
    have CB := Lib.hid (fun W => (show Calls Tryz.prog 89 #[.string s, .int .u8 32] W fun e w' => e = .returned (.string (restB s)) ∧ w' = W from Tryz.strings_trimLeftByte s 32 W))
    generalize restB s = r at *
    clear h0
    go_enter Tryz.func65, Tryz.ntmps65
    go_wp2_with fail
    refine (CB.out _).mono ?_
    rintro e w' ⟨rfl, rfl⟩
    go_wp2_with fail
    go_ret
    exact ⟨rfl, rfl⟩
end Go.Proofs.YtppbagllhmeenaaGreatDoor

namespace Go.Proofs.YtppbagllhmeenaaGreatDoor
open Go.RowKit
open Go (info_parts)
set_option linter.unusedVariables false
set_option linter.unusedSimpArgs false

/-- a slice of n elements, its cells xs below block B -/
def RowC (B : Nat) (w : World) (v : Value) (n : Nat) (xs : List Value) : Prop :=
  ∃ ao cap, v = .slice ao n cap ∧ (0 < n → ∃ b off, ao = some ⟨b, off, none⟩ ∧ b < B ∧ ∀ j u, xs[j]? = some u → w.cell? ⟨b, off + j, none⟩ = some u)
def CloneO (T : TypeId) (m : Nat) (w : World) (n : Nat) (xs : List Value) (e : Ending) (w' : World) : Prop :=
  ∃ v', e = .returned v' ∧ w'.ownsRow w.heap.size T m v' n xs ∧ Below w.heap.size w w'
theorem ranges_info : (Tryz.prog.info? 75).map (fun i => (i.zero, i.size, i.bytes)) = some (some (.agg #[.int .i64 0, .int .i64 0, .string ⟨#[]⟩]), 3, 32) := by kernel_rfl
set_option maxHeartbeats 2000000 in
theorem ranges_clone (B : Nat) (v : Value) (n : Nat) (xs : List Value) (w : World) (hB : B ≤ w.heap.size) (hl : n ≤ 1000) (hxl : xs.length = n * 3) (hone : ∀ u ∈ xs, u.oneCell' = true) (h1 : RowC B w v n xs) :
    Calls Tryz.prog 51 #[v] w (CloneO 75 3 w n xs) := by
  obtain ⟨i0, hi, hz0, hz1, hz2⟩ := info_parts ranges_info
  have q22 : ∀ (w : World) (a : Option Addr) (n c n' c' : Nat), (binOp .eql 71 (.slice a n c) (.slice none n' c')).run Tryz.prog w = .ok (.bool a.isNone) w := fun w a n c n' c' => Lib.run_eql_slice_nil w _ _ a n c n' c' Tryz.underlying71
  obtain ⟨ao, cap, rfl, h4⟩ := h1
  cases ao with
  | none =>
    have hl0 : n = 0 := by
      rcases Nat.eq_zero_or_pos n with h | h
      · exact h
      · obtain ⟨b, off, e, _⟩ := h4 h; cases e
    subst hl0
    have hx0 : xs = [] := List.eq_nil_of_length_eq_zero (by omega)
    subst hx0
    go_enter Tryz.func51, Tryz.ntmps51
    go_wp2
    go_ret
    exact ⟨_, rfl, World.ownsRow_nil _ _ _ _, Below.refl _ _⟩
  | some a =>
    have hc := Lib.hid (show ∀ j u, xs[j]? = some u → (w.alloc (.cells #[] 75)).cell? (a.add j) = some u by
      intro j u hu
      have hn : 0 < n := by
        rcases Nat.eq_zero_or_pos n with h | h
        · subst h
          obtain rfl : xs = [] := List.eq_nil_of_length_eq_zero (by omega)
          simp at hu
        · exact h
      obtain ⟨b, off, e, hb, hc⟩ := h4 hn
      obtain rfl := Option.some.inj e
      rw [addr_plus]
      exact (World.cell?_alloc_lt w _ _ (show b < w.heap.size by omega)).trans (hc j u hu))
    have HX := Lib.hid hxl
    have HO := Lib.hid hone
    clear h4 hxl hone
    go_enter Tryz.func51, Tryz.ntmps51
    go_wp2_with (at_builtin; refine wpList_append_own _ rfl _ _ 71 rfl w.heap.size 75 i0 (.agg #[.int .i64 0, .int .i64 0, .string ⟨#[]⟩]) 3 32 Tryz.underlying71 hi hz0 hz1 hz2 rfl (by omega) _ _ _ rfl (World.ownsRow_made w #[] 0 (Nat.le_refl _) (Nat.zero_le _) (by simp)) a n cap xs rfl HX.out hc.out HO.out (by unfold maxLen; omega) (by omega) (by simp) ?_; intro v' w1 hown hgrow0 _)
    have hgrow : World.grownBy (w.alloc (.cells #[] 75)) w1 (some w.heap.size) := hgrow0
    go_ret
    rw [List.nil_append, Nat.zero_add] at hown
    exact ⟨v', rfl, hown, ((Below.refl _ w).alloc (Nat.le_refl _) _).grown hgrow (by simp) (by intro k hk; injection hk with hk; omega)⟩
theorem units_info : (Tryz.prog.info? 51).map (fun i => (i.zero, i.size, i.bytes)) = some (some (.agg #[.int .i64 0, .string ⟨#[]⟩, .int .i64 0, .int .i64 0]), 4, 40) := by kernel_rfl
set_option maxHeartbeats 2000000 in
theorem units_clone (B : Nat) (v : Value) (n : Nat) (xs : List Value) (w : World) (hB : B ≤ w.heap.size) (hl : n ≤ 1000) (hxl : xs.length = n * 4) (hone : ∀ u ∈ xs, u.oneCell' = true) (h1 : RowC B w v n xs) :
    Calls Tryz.prog 50 #[v] w (CloneO 51 4 w n xs) := by
  obtain ⟨i0, hi, hz0, hz1, hz2⟩ := info_parts units_info
  have q22 : ∀ (w : World) (a : Option Addr) (n c n' c' : Nat), (binOp .eql 23 (.slice a n c) (.slice none n' c')).run Tryz.prog w = .ok (.bool a.isNone) w := fun w a n c n' c' => Lib.run_eql_slice_nil w _ _ a n c n' c' Tryz.underlying23
  obtain ⟨ao, cap, rfl, h4⟩ := h1
  cases ao with
  | none =>
    have hl0 : n = 0 := by
      rcases Nat.eq_zero_or_pos n with h | h
      · exact h
      · obtain ⟨b, off, e, _⟩ := h4 h; cases e
    subst hl0
    have hx0 : xs = [] := List.eq_nil_of_length_eq_zero (by omega)
    subst hx0
    go_enter Tryz.func50, Tryz.ntmps50
    go_wp2
    go_ret
    exact ⟨_, rfl, World.ownsRow_nil _ _ _ _, Below.refl _ _⟩
  | some a =>
    have hc := Lib.hid (show ∀ j u, xs[j]? = some u → (w.alloc (.cells #[] 51)).cell? (a.add j) = some u by
      intro j u hu
      have hn : 0 < n := by
        rcases Nat.eq_zero_or_pos n with h | h
        · subst h
          obtain rfl : xs = [] := List.eq_nil_of_length_eq_zero (by omega)
          simp at hu
        · exact h
      obtain ⟨b, off, e, hb, hc⟩ := h4 hn
      obtain rfl := Option.some.inj e
      rw [addr_plus]
      exact (World.cell?_alloc_lt w _ _ (show b < w.heap.size by omega)).trans (hc j u hu))
    have HX := Lib.hid hxl
    have HO := Lib.hid hone
    clear h4 hxl hone
    go_enter Tryz.func50, Tryz.ntmps50
    go_wp2_with (at_builtin; refine wpList_append_own _ rfl _ _ 23 rfl w.heap.size 51 i0 (.agg #[.int .i64 0, .string ⟨#[]⟩, .int .i64 0, .int .i64 0]) 4 40 Tryz.underlying23 hi hz0 hz1 hz2 rfl (by omega) _ _ _ rfl (World.ownsRow_made w #[] 0 (Nat.le_refl _) (Nat.zero_le _) (by simp)) a n cap xs rfl HX.out hc.out HO.out (by unfold maxLen; omega) (by omega) (by simp) ?_; intro v' w1 hown hgrow0 _)
    have hgrow : World.grownBy (w.alloc (.cells #[] 51)) w1 (some w.heap.size) := hgrow0
    go_ret
    rw [List.nil_append, Nat.zero_add] at hown
    exact ⟨v', rfl, hown, ((Below.refl _ w).alloc (Nat.le_refl _) _).grown hgrow (by simp) (by intro k hk; injection hk with hk; omega)⟩
end Go.Proofs.YtppbagllhmeenaaGreatDoor
