/- Boxes known by their block: kept by calls, allocs, appends to own rows of another type. (printed by wip/gen/gen_tbox.py) slices.Clone at ranges and at units. (printed by wip/gen/gen_fixclones.py) -/
import Derived.Test.YtabalicembhjmaaT38M12
import Derived.Test.YtabalicembhjmaaT38M13
import Derived.Lib.SliceRun
import Derived.OwnWalk
import Derived.Laws.AppendOwn

namespace Go.Proofs.Ytabalicembhjmaa
open Go.RowKit
set_option linter.unusedVariables false
set_option linter.unusedSimpArgs false

/-- block b of W holds these cells, of this type -/
def TBox (W : World) (b : Nat) (T : TypeId) (cs : Array Value) : Prop := W.heap[b]? = some (.cells cs T)
theorem TBox.new (w : World) (cs : Array Value) (T : TypeId) : TBox (w.alloc (.cells cs T)) w.heap.size T cs := heap_alloc_new w _
theorem TBox.lt {W : World} {b : Nat} {T : TypeId} {cs : Array Value} (h : TBox W b T cs) : b < W.heap.size := by
  unfold TBox at h
  by_cases c : b < W.heap.size
  · exact c
  · rw [Array.getElem?_eq_none (by omega)] at h; cases h
theorem TBox.below {W W' : World} {b : Nat} {T : TypeId} {cs : Array Value} (h : TBox W b T cs) (hb : Below W.heap.size W W') : TBox W' b T cs := (hb.block b h.lt).trans h
theorem TBox.alloc {W : World} {b : Nat} {T : TypeId} {cs : Array Value} (h : TBox W b T cs) (o : Obj) : TBox (W.alloc o) b T cs := h.below ((Below.refl _ _).alloc (Nat.le_refl _) o)
theorem TBox.cell {W : World} {b i : Nat} {T : TypeId} {cs : Array Value} {v : Value} (h : TBox W b T cs) (hi : cs[i]? = some v) : W.cell? ⟨b, i, none⟩ = some v := by
  unfold TBox at h
  simp [World.cell?, h, hi]
theorem TBox.grownS {base : Nat} {W W' : World} {b : Nat} {T : TypeId} {cs : Array Value} {v : Value} {l : List Stg} (h : TBox W b T cs) (ho : OwnS base W v l) (hg : W.grownBy W' v.ownBlock) (hT : T ≠ 35) : TBox W' b T cs := by
  refine (hg.block b h.lt fun e => ?_).trans h
  rcases ho.2 with h' | ⟨g, cap, cur, e1, _, h2, _⟩
  · rw [h'.1] at e; simp [Value.ownBlock] at e
  · rw [e1] at e
    simp [Value.ownBlock] at e
    subst e
    unfold TBox at h
    rw [h2] at h
    injection h with h
    injection h with _ h3
    exact hT h3.symm
theorem TBox.grownK {base : Nat} {W W' : World} {b : Nat} {T : TypeId} {cs : Array Value} {v : Value} {l : List KeyR} (h : TBox W b T cs) (ho : OwnK base W v l) (hg : W.grownBy W' v.ownBlock) (hT : T ≠ 33) : TBox W' b T cs := by
  refine (hg.block b h.lt fun e => ?_).trans h
  rcases ho.2 with h' | ⟨g, cap, cur, e1, _, h2, _⟩
  · rw [h'.1] at e; simp [Value.ownBlock] at e
  · rw [e1] at e
    simp [Value.ownBlock] at e
    subst e
    unfold TBox at h
    rw [h2] at h
    injection h with h
    injection h with _ h3
    exact hT h3.symm
theorem stgS_nil (B : Nat) (w : World) : StgS B w (.slice none 0 0) [] := CellsS.nil B w
theorem keyS_nil (B : Nat) (w : World) : KeyRS B w (.slice none 0 0) [] := CellsS.nil B w
theorem zeroBy_ (w : World) : (zeroValue 62).run Try.prog w = .ok (.slice none 0 0) w := by kernel_rfl
theorem frmC_get {B : Nat} {w : World} {v : Value} {lv : List (Frm × Value)} (h1 : CellsS B w v lv.length (lv.flatMap frmC)) (hl : 0 < lv.length) :
    ∃ b off cap, v = .slice (some ⟨b, off, none⟩) lv.length cap ∧ b < B ∧ lv.length ≤ maxLen ∧ ∀ k (hk : k < lv.length) (W : World), Below B w W →
      W.cell? ⟨b, off + k * 2, none⟩ = some (.int .i64 lv[k].1.univ) ∧ W.cell? ⟨b, off + k * 2 + 1, none⟩ = some lv[k].2 := by
  obtain ⟨b, off, cap, rfl, h3, h4, h5⟩ := CellsS.rec h1 (n := 2) (fun _ => rfl) hl
  refine ⟨b, off, cap, rfl, h3, h4, fun k hk W hW => ?_⟩
  exact ⟨(hW.cell (p := ⟨b, off + k * 2, none⟩) h3).trans (h5 k hk 0 _ (by omega) rfl), (hW.cell (p := ⟨b, off + k * 2 + 1, none⟩) h3).trans (h5 k hk 1 _ (by omega) rfl)⟩
theorem put_rev {fl : List (Frm × Value)} {k : Nat} (h : k < fl.length) {f : Lit → Option Value} (hf : ∀ U : Int, f (.int .i64 U) = ((fl.take k).reverse.find? (isF U)).map (·.2)) : ∀ U : Int, putF f (.int .i64 fl[k].1.univ) fl[k].2 (.int .i64 U) = ((fl.take (k + 1)).reverse.find? (isF U)).map (·.2) := by
  intro U
  rw [rev_snoc _ _ _ h]
  by_cases c : fl[k].1.univ = U
  · rw [← c, putF_same (keyLitI_ _), if_pos (by simp [isF])]; rfl
  · rw [putF_other (litI_ne (Ne.symm c)), if_neg (by simp [isF, c]), hf]
theorem setV_len {x : Rig} (h : chkRig x = 0) (l : List Frm) (k : Nat) : ((x.units.take k).flatMap (setU x.lib l)).length ≤ 16000 := by
  have h1 := flat_le (setU x.lib l) 40 (x.units.take k) (fun u hu => setU_len h l (List.mem_of_mem_take hu))
  have h2 := (chkRig_zero h).2.1
  rw [List.length_take] at h1
  omega
theorem setU_none {lib : List Prf} {l : List Frm} {u : Unt} (h : l.find? (isU u) = none) : setU lib l u = [] := by unfold setU; rw [h]
theorem setU_some {lib : List Prf} {l : List Frm} {u : Unt} {f : Frm} {p : Prf} (h : l.find? (isU u) = some f) (hp : profOf lib u.nm = some p) : setU lib l u = p.pars.map (setO u f) := by unfold setU parsOf; rw [h, hp]; rfl
theorem at_val {f : Frm} {b : Nat} (hb : b < f.sl.length) {i : Int} (hi : i = (b : Int)) : atF f i = f.sl[b] := by
  subst hi
  unfold atF
  rw [List.getD_eq_getElem?_getD, Int.toNat_natCast, List.getElem?_eq_getElem hb]; rfl
end Go.Proofs.Ytabalicembhjmaa

namespace Go.Proofs.Ytabalicembhjmaa
open Go.RowKit
open Go (info_parts)
set_option linter.unusedVariables false
set_option linter.unusedSimpArgs false

/-- a slice of n elements, its cells xs below block B -/
def RowC (B : Nat) (w : World) (v : Value) (n : Nat) (xs : List Value) : Prop :=
  ∃ ao cap, v = .slice ao n cap ∧ (0 < n → ∃ b off, ao = some ⟨b, off, none⟩ ∧ b < B ∧ ∀ j u, xs[j]? = some u → w.cell? ⟨b, off + j, none⟩ = some u)
def CloneO (T : TypeId) (m : Nat) (w : World) (n : Nat) (xs : List Value) (e : Ending) (w' : World) : Prop :=
  ∃ v', e = .returned v' ∧ w'.ownsRow w.heap.size T m v' n xs ∧ Below w.heap.size w w'
theorem ranges_info : (Try.prog.info? 86).map (fun i => (i.zero, i.size, i.bytes)) = some (some (.agg #[.int .i64 0, .int .i64 0, .string ⟨#[]⟩]), 3, 32) := by kernel_rfl
set_option maxHeartbeats 2000000 in
theorem ranges_clone (B : Nat) (v : Value) (n : Nat) (xs : List Value) (w : World) (hB : B ≤ w.heap.size) (hl : n ≤ 1000) (hxl : xs.length = n * 3) (hone : ∀ u ∈ xs, u.oneCell' = true) (h1 : RowC B w v n xs) :
    Calls Try.prog 41 #[v] w (CloneO 86 3 w n xs) := by
  obtain ⟨i0, hi, hz0, hz1, hz2⟩ := info_parts ranges_info
  have q22 : ∀ (w : World) (a : Option Addr) (n c n' c' : Nat), (binOp .eql 40 (.slice a n c) (.slice none n' c')).run Try.prog w = .ok (.bool a.isNone) w := fun w a n c n' c' => Lib.run_eql_slice_nil w _ _ a n c n' c' Try.underlying40
  obtain ⟨ao, cap, rfl, h4⟩ := h1
  cases ao with
  | none =>
    have hl0 : n = 0 := by
      rcases Nat.eq_zero_or_pos n with h | h
      · exact h
      · obtain ⟨b, off, e, _⟩ := h4 h; cases e
    subst hl0
    have hx0 : xs = [] := List.eq_nil_of_length_eq_zero (by omega)
    subst hx0
    go_enter Try.func41, Try.ntmps41
    go_wp2
    go_ret
    exact ⟨_, rfl, World.ownsRow_nil _ _ _ _, Below.refl _ _⟩
  | some a =>
    have hc := Lib.hid (show ∀ j u, xs[j]? = some u → (w.alloc (.cells #[] 86)).cell? (a.add j) = some u by
      intro j u hu
      have hn : 0 < n := by
        rcases Nat.eq_zero_or_pos n with h | h
        · subst h
          obtain rfl : xs = [] := List.eq_nil_of_length_eq_zero (by omega)
          simp at hu
        · exact h
      obtain ⟨b, off, e, hb, hc⟩ := h4 hn
      obtain rfl := Option.some.inj e
      rw [addr_plus]
      exact (World.cell?_alloc_lt w _ _ (show b < w.heap.size by omega)).trans (hc j u hu))
    have HX := Lib.hid hxl
    have HO := Lib.hid hone
    clear h4 hxl hone
    go_enter Try.func41, Try.ntmps41
    go_wp2_with (at_builtin; refine wpList_append_own _ rfl _ _ 40 rfl w.heap.size 86 i0 (.agg #[.int .i64 0, .int .i64 0, .string ⟨#[]⟩]) 3 32 Try.underlying40 hi hz0 hz1 hz2 rfl (by omega) _ _ _ rfl (World.ownsRow_made w #[] 0 (Nat.le_refl _) (Nat.zero_le _) (by simp)) a n cap xs rfl HX.out hc.out HO.out (by unfold maxLen; omega) (by omega) (by simp) ?_; intro v' w1 hown hgrow0 _)
    have hgrow : World.grownBy (w.alloc (.cells #[] 86)) w1 (some w.heap.size) := hgrow0
    go_ret
    rw [List.nil_append, Nat.zero_add] at hown
    exact ⟨v', rfl, hown, ((Below.refl _ w).alloc (Nat.le_refl _) _).grown hgrow (by simp) (by intro k hk; injection hk with hk; omega)⟩
theorem units_info : (Try.prog.info? 67).map (fun i => (i.zero, i.size, i.bytes)) = some (some (.agg #[.int .i64 0, .string ⟨#[]⟩, .int .i64 0, .int .i64 0]), 4, 40) := by kernel_rfl
set_option maxHeartbeats 2000000 in
theorem units_clone (B : Nat) (v : Value) (n : Nat) (xs : List Value) (w : World) (hB : B ≤ w.heap.size) (hl : n ≤ 1000) (hxl : xs.length = n * 4) (hone : ∀ u ∈ xs, u.oneCell' = true) (h1 : RowC B w v n xs) :
    Calls Try.prog 55 #[v] w (CloneO 67 4 w n xs) := by
  obtain ⟨i0, hi, hz0, hz1, hz2⟩ := info_parts units_info
  have q22 : ∀ (w : World) (a : Option Addr) (n c n' c' : Nat), (binOp .eql 23 (.slice a n c) (.slice none n' c')).run Try.prog w = .ok (.bool a.isNone) w := fun w a n c n' c' => Lib.run_eql_slice_nil w _ _ a n c n' c' Try.underlying23
  obtain ⟨ao, cap, rfl, h4⟩ := h1
  cases ao with
  | none =>
    have hl0 : n = 0 := by
      rcases Nat.eq_zero_or_pos n with h | h
      · exact h
      · obtain ⟨b, off, e, _⟩ := h4 h; cases e
    subst hl0
    have hx0 : xs = [] := List.eq_nil_of_length_eq_zero (by omega)
    subst hx0
    go_enter Try.func55, Try.ntmps55
    go_wp2
    go_ret
    exact ⟨_, rfl, World.ownsRow_nil _ _ _ _, Below.refl _ _⟩
  | some a =>
    have hc := Lib.hid (show ∀ j u, xs[j]? = some u → (w.alloc (.cells #[] 67)).cell? (a.add j) = some u by
      intro j u hu
      have hn : 0 < n := by
        rcases Nat.eq_zero_or_pos n with h | h
        · subst h
          obtain rfl : xs = [] := List.eq_nil_of_length_eq_zero (by omega)
          simp at hu
        · exact h
      obtain ⟨b, off, e, hb, hc⟩ := h4 hn
      obtain rfl := Option.some.inj e
      rw [addr_plus]
      exact (World.cell?_alloc_lt w _ _ (show b < w.heap.size by omega)).trans (hc j u hu))
    have HX := Lib.hid hxl
    have HO := Lib.hid hone
    clear h4 hxl hone
    go_enter Try.func55, Try.ntmps55
    go_wp2_with (at_builtin; refine wpList_append_own _ rfl _ _ 23 rfl w.heap.size 67 i0 (.agg #[.int .i64 0, .string ⟨#[]⟩, .int .i64 0, .int .i64 0]) 4 40 Try.underlying23 hi hz0 hz1 hz2 rfl (by omega) _ _ _ rfl (World.ownsRow_made w #[] 0 (Nat.le_refl _) (Nat.zero_le _) (by simp)) a n cap xs rfl HX.out hc.out HO.out (by unfold maxLen; omega) (by omega) (by simp) ?_; intro v' w1 hown hgrow0 _)
    have hgrow : World.grownBy (w.alloc (.cells #[] 67)) w1 (some w.heap.size) := hgrow0
    go_ret
    rw [List.nil_append, Nat.zero_add] at hown
    exact ⟨v', rfl, hown, ((Below.refl _ w).alloc (Nat.le_refl _) _).grown hgrow (by simp) (by intro k hk; injection hk with hk; omega)⟩
end Go.Proofs.Ytabalicembhjmaa
