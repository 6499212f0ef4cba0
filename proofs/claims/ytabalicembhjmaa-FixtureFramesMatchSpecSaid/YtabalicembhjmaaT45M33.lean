/- Slices of whole numbers: as arguments, as own rows; slices.Equal; the test of levels. The box of a rig that is an argument. (printed by wip/gen/gen_placewalk.py) The reference's Universes. (printed by wip/gen/gen_rframes.py) The contract of the reference's plus. -/
import Derived.Test.YtabalicembhjmaaT45M32
import Derived.Test.YtabalicembhjmaaT45M03
import Derived.ProofKit
import Derived.OpenShut
import Derived.Below
import Derived.Lib.AppendZeros
import Derived.RegionTactic
import Derived.Deep.QuietTactic
import Derived.BigQuiet
import Derived.Test.YtabalicembhjmaaT45M15
import Derived.Test.YtabalicembhjmaaT45M06
import Derived.Test.YtabalicembhjmaaT45M05
import Derived.Test.YtabalicembhjmaaT45M31
import Derived.Test.YtabalicembhjmaaShelf
import Derived.Test.YtabalicembhjmaaT45M28
import Derived.Sort.OwnSortedInts

namespace Go.Proofs.Ytabalicembhjmaa
open Go.ChangeShapes Go.WideShapes Go.RowKit
set_option linter.unusedVariables false
set_option linter.unusedSimpArgs false

/-- a slice of these numbers, its cells below block B -/
def IntS (B : Nat) (w : World) (v : Value) (zs : List Int) : Prop :=
  ∃ ao cap, v = .slice ao zs.length cap ∧ zs.length ≤ cap ∧ cap ≤ 9223372036854775807 ∧ (0 < zs.length → ∃ b off, ao = some ⟨b, off, none⟩ ∧ b < B ∧ RowAt .i64 w b off zs)
theorem IntS.below {B : Nat} {w w' : World} {v : Value} {zs : List Int} (h : IntS B w v zs) (hb : Below B w w') : IntS B w' v zs := by
  obtain ⟨ao, cap, rfl, h1, h2, h3⟩ := h
  refine ⟨ao, cap, rfl, h1, h2, fun hl => ?_⟩
  obtain ⟨b, off, rfl, h4, h5⟩ := h3 hl
  exact ⟨b, off, rfl, h4, fun i hi => (hb.cell (p := ⟨b, off + i, none⟩) h4).trans (h5 i hi)⟩
theorem IntS.more {B B' : Nat} {w : World} {v : Value} {zs : List Int} (h : IntS B w v zs) (hB : B ≤ B') : IntS B' w v zs := by
  obtain ⟨ao, cap, rfl, h1, h2, h3⟩ := h
  refine ⟨ao, cap, rfl, h1, h2, fun hl => ?_⟩
  obtain ⟨b, off, rfl, h4, h5⟩ := h3 hl
  exact ⟨b, off, rfl, by omega, h5⟩
def icells (zs : List Int) : List Value := zs.map (Value.int .i64)
theorem icells_len (zs : List Int) : (icells zs).length = zs.length := by simp [icells]
theorem icells_snoc (zs : List Int) (z : Int) : icells (zs ++ [z]) = icells zs ++ [.int .i64 z] := by simp [icells]
/-- an own row of numbers -/
def OwnI (base : Nat) (w : World) (v : Value) (zs : List Int) : Prop := w.ownsRow base 3 1 v zs.length (icells zs)
theorem OwnI.ints {base : Nat} {w : World} {v : Value} {zs : List Int} (h : OwnI base w v zs) : IntS w.heap.size w v zs := by
  rcases h.2 with ⟨rfl, h0⟩ | ⟨g, cap, cur, rfl, hb, hg, h1, h2, h3, h4⟩
  · have : zs = [] := List.eq_nil_of_length_eq_zero h0
    subst this
    exact ⟨none, 0, rfl, Nat.le_refl _, by omega, fun h => absurd h (Nat.lt_irrefl _)⟩
  · refine ⟨some ⟨g, 0, none⟩, cap, rfl, h1, by unfold maxLen at h2; omega, fun _ => ⟨g, 0, rfl, (Array.getElem?_eq_some_iff.1 hg).1, fun i hi => ?_⟩⟩
    have := h.cells (g := g) rfl i (.int .i64 zs[i]) (by simp [icells, hi])
    have e : (⟨g, 0, none⟩ : Addr).add i = ⟨g, 0 + i, none⟩ := by unfold Addr.add; split <;> simp_all
    rw [e] at this
    exact this
theorem OwnI.nil (w : World) (base : Nat) : OwnI base w (.slice none 0 0) [] := World.ownsRow_nil _ _ _ _
theorem OwnI.alloc {base : Nat} {w : World} {v : Value} {zs : List Int} (h : OwnI base w v zs) (o : Obj) : OwnI base (w.alloc o) v zs := World.ownsRow.alloc h o
theorem OwnI.shape {base : Nat} {w : World} {v : Value} {zs : List Int} (h : OwnI base w v zs) : ∃ ao cap, v = .slice ao zs.length cap := own_shape1 h
theorem OwnI.below {base : Nat} {w w' : World} {v : Value} {zs : List Int} (h : OwnI base w v zs) (hb : Below w.heap.size w w') : OwnI base w' v zs := by
  refine ⟨h.1, ?_⟩
  rcases h.2 with h' | ⟨g, cap, cur, rfl, h1, h2, h3⟩
  · exact .inl h'
  · exact .inr ⟨g, cap, cur, rfl, h1, (hb.block g (World.ownsRow.lt h g rfl).2).trans h2, h3⟩

theorem wp_int {w : World} {o : Oper} {a : Act} {K : Act → World → Prop} {Q : Exit → Act → World → Prop} (s x : Operand)
    (hop : o.op = .call { callee := .builtin .append, args := #[s, x], argTypes := #[125, 125] })
    (base c : Nat) (v : Value) (zs : List Int) (z : Int) (ad : Addr) (hs : a.eval s = v) (hx : a.eval x = .slice (some ad) 1 c)
    (ho : OwnI base w v zs) (hc : ∀ (j : Nat) u, [Value.int .i64 z][j]? = some u → w.cell? (ad.add j) = some u) (hl : zs.length ≤ 100000) (hb : base ≤ w.heap.size)
    (h : ∀ v' w', OwnI base w' v' (zs ++ [z]) → w.grownBy w' v.ownBlock → K (a.put o.dst v') w') : o.wp Try.prog a w K Q := by
  obtain ⟨i0, hi, hz0, hz1, hz2⟩ := info_parts int_info
  refine wp_append_own w s x 125 hop base 3 i0 (.int .i64 0) 1 8 Try.underlying125 hi hz0 hz1 hz2 rfl (by decide) v zs.length (icells zs) hs ho ad 1 c [.int .i64 z] hx rfl hc (int_one z) (by unfold maxLen; omega) (by omega) hb ?_
  intro v' w' h1 h2 _
  refine h v' w' ?_ h2
  unfold OwnI
  rw [icells_snoc, List.length_append]
  exact h1
theorem wpList_int {w : World} {ops : Array Oper} {rest : List Oper} {o : Oper} {a : Act} {Q : Exit → Act → World → Prop} (hgd : o.guard = none) (s x : Operand)
    (hop : o.op = .call { callee := .builtin .append, args := #[s, x], argTypes := #[125, 125] })
    (base c : Nat) (v : Value) (zs : List Int) (z : Int) (ad : Addr) (hs : a.eval s = v) (hx : a.eval x = .slice (some ad) 1 c)
    (ho : OwnI base w v zs) (hc : ∀ (j : Nat) u, [Value.int .i64 z][j]? = some u → w.cell? (ad.add j) = some u) (hl : zs.length ≤ 100000) (hb : base ≤ w.heap.size)
    (h : ∀ v' w', OwnI base w' v' (zs ++ [z]) → w.grownBy w' v.ownBlock → wpList Try.prog ops Q rest (a.put o.dst v') w') : wpList Try.prog ops Q (o :: rest) a w :=
  wpList_plain hgd fun _ hK => wp_int s x hop base c v zs z ad hs hx ho hc hl hb fun v' w' h1 h2 => hK _ _ (h v' w' h1 h2)
theorem step_int {w : World} {ops : Array Oper} {o : Oper} {a : Act} {K : Act → World → Prop} {Q : Exit → Act → World → Prop} {E : Prop} (hgd : o.guard = none) (s x : Operand)
    (hop : o.op = .call { callee := .builtin .append, args := #[s, x], argTypes := #[125, 125] })
    (base c : Nat) (v : Value) (zs : List Int) (z : Int) (ad : Addr) (hs : a.eval s = v) (hx : a.eval x = .slice (some ad) 1 c)
    (ho : OwnI base w v zs) (hc : ∀ (j : Nat) u, [Value.int .i64 z][j]? = some u → w.cell? (ad.add j) = some u) (hl : zs.length ≤ 100000) (hb : base ≤ w.heap.size)
    (h : ∀ v' w', OwnI base w' v' (zs ++ [z]) → w.grownBy w' v.ownBlock → K (a.put o.dst v') w') :
    if Region.wanted o (yielded ops a.tmps) = true then Oper.wp Try.prog o a w K Q else E := by
  rw [if_pos (by simp [Region.wanted, hgd])]
  exact wp_int s x hop base c v zs z ad hs hx ho hc hl hb h

section
variable {H : Type} {enc : TypeId × Value → H} {w : World} {held : Bool}
set_option maxRecDepth 100000 in
theorem read_ints {fuel : Nat} {cs : List Value} {x : DataW H × List MemPlace} (h : DataW.trod enc Try.prog w 0 (fun _ => true) held fuel 125 cs = some x) :
    ∃ v zs, cs = [v] ∧ IntS w.heap.size w v zs := by
  rcases open_ints Try.underlying125 Try.underlying3 (by kernel_rfl) h with ⟨rfl, _⟩ | ⟨a, len, cap, zs, rfl, _, hl, hm, hz, _, hcell, hwz⟩
  · exact ⟨_, [], rfl, none, 0, rfl, Nat.le_refl _, by omega, fun h => absurd h (Nat.lt_irrefl _)⟩
  · simp only [if_true] at hz
    have hz' : zs.length = cap := by simpa using hz
    have hlen : (zs.take len).length = len := by simp; omega
    refine ⟨_, zs.take len, rfl, some a, cap, by rw [hlen], by omega, by unfold maxLen at hm; omega, fun h0 => ?_⟩
    obtain ⟨b, off, rfl, hc⟩ := ints_at hcell (by omega)
    have hb : b < w.heap.size := World.block_lt_of_cell? w _ (hc 0 (by omega))
    refine ⟨b, off, rfl, hb, fun i hi => ?_⟩
    have h1 := hc i (by omega)
    rw [h1]
    simp only [List.getElem_take]
    rw [List.getD_eq_getElem?_getD, List.getElem?_eq_getElem (by omega)]
    rfl
set_option maxRecDepth 100000 in
theorem open_intS {r : Reach} {b0 : Nat} {v : Value} {d : DataW H} {p : List MemPlace} (_hv : Value.okWide Try.prog w r b0 125 v) (h : DataW.Trod enc Try.prog w 0 (fun _ => true) held 125 v d p) :
    ∃ a : Value, v = a ∧ ∃ zs, IntS w.heap.size w a zs := by
  obtain ⟨ao, len, cap, rfl⟩ := okWide_slice Try.underlying125 _hv
  obtain ⟨fuel, hf⟩ := h
  obtain ⟨v, l, e, hl⟩ := read_ints hf
  simp [Value.cells] at e
  subst e
  exact ⟨_, rfl, l, hl⟩
end

def maxL (zs : List Int) : Int := zs.foldl max 0
theorem maxL_snoc (zs : List Int) (k : Nat) (h : k < zs.length) : maxL (zs.take (k + 1)) = max (maxL (zs.take k)) zs[k] := by
  unfold maxL
  rw [List.take_succ_eq_append_getElem h, List.foldl_append]
  rfl
theorem maxL_lv {zs : List Int} : ∀ (k : Nat), (∀ i (h : i < zs.length), i < k → 0 ≤ zs[i] ∧ zs[i] ≤ 65535) → 0 ≤ maxL (zs.take k) ∧ maxL (zs.take k) ≤ 65535 := by
  intro k
  induction k with
  | zero => intro _; simp [maxL]
  | succ k ih =>
    intro h
    have h1 := ih fun i hi hk => h i hi (by omega)
    by_cases hk : k < zs.length
    · rw [maxL_snoc zs k hk]
      have h2 := h k hk (by omega)
      omega
    · rw [List.take_of_length_le (by omega)] at h1 ⊢
      exact h1

end Go.Proofs.Ytabalicembhjmaa

namespace Go.Proofs.Ytabalicembhjmaa
open Go.RowKit
set_option linter.unusedVariables false
set_option linter.unusedSimpArgs false
/-- the box of a rig's argument -/
def RBox (w : World) (lv uv : Value) (W : World) : Prop := Below (w.heap.size + 1) (w.alloc (.cells #[lv, uv] 25)) W
theorem RBox.start (w : World) (lv uv : Value) : RBox w lv uv (w.alloc (.cells #[lv, uv] 25)) := Below.refl _ _
theorem RBox.size {w W : World} {lv uv : Value} (h : RBox w lv uv W) : w.heap.size + 1 ≤ W.heap.size := by
  have := Below.size h
  simp at this
  omega
theorem RBox.bel {w W : World} {lv uv : Value} (h : RBox w lv uv W) : Below w.heap.size w W := ((Below.refl _ _).alloc (Nat.le_refl _) _).trans (Below.mono h (by omega))
theorem RBox.next {w W W1 : World} {lv uv : Value} (h : RBox w lv uv W) (hb : Below W.heap.size W W1) : RBox w lv uv W1 := Below.trans h (hb.mono h.size)
theorem RBox.par {w W : World} {lv uv : Value} (h : RBox w lv uv W) : TBox W w.heap.size 25 #[lv, uv] := (Below.block h w.heap.size (by omega)).trans (TBox.new w #[lv, uv] 25)
theorem RBox.set {w W : World} {lv uv : Value} (h : RBox w lv uv W) {b : Nat} (hb : w.heap.size + 1 ≤ b) (i : Nat) (u : Value) : RBox w lv uv (W.setCell ⟨b, i, none⟩ u) := Below.setCell h (p := ⟨b, i, none⟩) hb u
theorem rig_shape {B : Nat} {w : World} {x : Rig} {lv uv : Value} (h : RigAt B w x lv uv) : ∃ lo lcap uo ucap, lv = .slice lo x.lib.length lcap ∧ uv = .slice uo x.units.length ucap := by
  obtain ⟨uo, ucap, e1, _⟩ := CellsS.shape h.units
  obtain ⟨lo, lcap, e2⟩ := prfS_shape h.lib
  exact ⟨lo, lcap, uo, ucap, e2, e1⟩
end Go.Proofs.Ytabalicembhjmaa

namespace Go.Proofs.Ytabalicembhjmaa
open Go.RowKit
set_option linter.unusedVariables false
set_option linter.unusedSimpArgs false

theorem ints_alloc (w : World) (z : Int) (T : TypeId) : ∀ (j : Nat) u, [Value.int .i64 z][j]? = some u → (w.alloc (.cells #[.int .i64 z] T)).cell? ((⟨w.heap.size, 0, none⟩ : Addr).add j) = some u := by
  intro j u hu
  match j, hu with
  | 0, hu => simp at hu; subst hu; simp [Addr.add, go_sem]
  | j + 1, hu => simp at hu
set_option maxRecDepth 100000 in
set_option maxHeartbeats 8000000 in
theorem runis_any (x : Rig) (lv uv : Value) (l : List Stg) (w : World) (h : RigAt w.heap.size w x lv uv) (hx : chkRig x = 0) :
    Calls Try.prog 93 #[rigV lv uv] w fun e w' => ∃ v, e = .returned v ∧ IntS w'.heap.size w' v (unisL x l) ∧ Below w.heap.size w w' := by
  have HGU := Lib.hid (UntS.get h.units)
  have HUL := Lib.hid ((chkRig_zero hx).2.1)
  have HC := Lib.hid (unis_compact hx l)
  obtain ⟨lo, lcap, uo, ucap, rfl, rfl⟩ := rig_shape h
  have hcp := untS_cap h.units
  have hul := HUL.out
  clear h hx
  unfold rigV
  have HB0 := Lib.hid (RBox.start w (.slice lo x.lib.length lcap) (.slice uo x.units.length ucap))
  have HZ := Lib.hid (show List.map Unt.univ (x.units.take 0) = [] from rfl)
  have HS := Lib.hid (fun k (h : k < x.units.length) => map_snoc' Unt.univ x.units k h)
  have HL := Lib.hid (show ∀ k, k ≤ x.units.length → (List.map Unt.univ (x.units.take k)).length = k from fun k hk => by simp; omega)
  have HE := Lib.hid (show List.map Unt.univ (x.units.take x.units.length) = List.map Unt.univ x.units by rw [List.take_length])
  generalize unisL x l = RES at *
  go_enter Try.func93, Try.ntmps93
  go_upto_region 2 with fail
  obtain ⟨w1, hw1⟩ : ∃ w1 : World, w1 = w.alloc (.cells #[.slice lo x.lib.length lcap, .slice uo x.units.length ucap] 25) := ⟨_, rfl⟩
  rw [← hw1] at HB0 ⊢
  clear hw1
  have p1 := HB0.out.par.cell (i := 1) rfl
  have hz1 := HB0.out.size
  have hz1' : w.heap.size ≤ w1.heap.size := by omega
  go_wp2_with fail
  go_loopw [9, 3] (fun i v wx => ∃ (k : Nat) (vv : Value), k ≤ x.units.length ∧ i = .int .i64 k ∧ vv = v ∧ Hid (OwnI w1.heap.size wx vv ((x.units.take k).map Unt.univ)) ∧ Hid (Below w1.heap.size w1 wx)) (fun i _ _ => x.units.length - (intOf i).toNat)
  case atStart => exact ⟨0, _, Nat.zero_le _, rfl, rfl, Lib.hid (by rw [HZ.out]; exact OwnI.nil _ _), Lib.hid (Below.refl _ _)⟩
  case round =>
    obtain ⟨k, vv, hk, rfl, rfl, HO, HBR⟩ := hrel
    have hzr := HBR.out.size
    by_cases hlt : k < x.units.length
    · obtain ⟨b, off, cap', hsl, hbb, _, hc⟩ := HGU.out (by omega)
      injection hsl with hs1 hs2 hs3
      subst hs1
      subst hs3
      obtain ⟨d0, d1, d2, d3⟩ := hc k hlt wr (HB0.out.next HBR.out).bel
      have hbr : b < wr.heap.size := by omega
      have HSK := Lib.hid (HS.out k hlt)
      have hlk := HL.out k hk
      clear hc
      generalize hKL : List.map Unt.univ (x.units.take k) = KL at *
      clear hKL
      generalize hrk : x.units[k] = rk at *
      clear hrk
      obtain ⟨un, up, uu, ua⟩ := rk
      simp only at *
      have hAB := (Below.refl wr.heap.size wr).alloc (Nat.le_refl _) (.cells #[.int .i64 un, .string up, .int .i64 uu, .int .i64 ua] 67)
      have HTU := Lib.hid (TBox.new wr #[.int .i64 un, .string up, .int .i64 uu, .int .i64 ua] 67)
      have HOA := Lib.hid (HO.out.below hAB)
      have HBA := Lib.hid (HBR.out.trans (hAB.mono hzr))
      clear hAB
      go_upto_region 5 with fail
      clear d0 d1 d2 d3
      obtain ⟨w2, hw2⟩ : ∃ w2 : World, w2 = wr.alloc (.cells #[.int .i64 un, .string up, .int .i64 uu, .int .i64 ua] 67) := ⟨_, rfl⟩
      rw [← hw2] at HTU HOA HBA ⊢
      clear hw2 HO HBR
      have t2 := HTU.out.cell (i := 2) rfl
      have tl := HTU.out.lt
      have hz2 := HBA.out.size
      obtain ⟨oo, oc, hvs⟩ := HOA.out.shape
      subst hvs
      have HOB := Lib.hid (HOA.out.below ((Below.refl w2.heap.size w2).alloc (Nat.le_refl _) (.cells #[.int .i64 uu] 3)))
      have HBB := Lib.hid (HBA.out.alloc hz2 (.cells #[.int .i64 uu] 3))
      clear HOA HBA
      go_wp2_with (first | (at_builtin; refine wpList_int rfl _ _ rfl w1.heap.size 1 _ _ uu ⟨w2.heap.size, 0, none⟩ rfl rfl HOB.out (ints_alloc w2 uu _) (by omega) (by simp; omega) ?_; intro v' w' hown hgrow) | fail)
      have HV := Lib.hid (show OwnI w1.heap.size w' v' (List.map Unt.univ (x.units.take (k + 1))) from by rw [HSK.out]; exact hown)
      have HBV := Lib.hid (HBB.out.grown hgrow (by simp; omega) (fun q hq => (World.ownsRow.lt HOB.out q hq).1))
      clear hown hgrow
      go_wp2_with fail
      go_roundw
      case rel => exact ⟨k + 1, _, by omega, by first | rfl | go_num, rfl, HV, HBV⟩
      case measure => simp [intOf]; omega
    · have hkk : k = x.units.length := by omega
      subst hkk
      have hlk := HL.out _ (Nat.le_refl x.units.length)
      have HFULL := Lib.hid HE.out
      rw [HE.out] at HO hlk
      clear HGU HS HL HZ HE HFULL
      generalize List.map Unt.univ x.units = KL at *
      have hK4 : KL.length ≤ 400 := by omega
      have HK0 := Lib.hid (show x.units.length = 0 → KL = [] from fun h => List.eq_nil_of_length_eq_zero (by omega))
      have HK1 := Lib.hid (show ¬ x.units.length = 0 → ¬ KL.length = 0 from fun h => by omega)
      clear hlk
      have HBB := Lib.hid HB0.out.bel
      by_cases h0 : x.units.length = 0
      · have hk0 : KL = [] := HK0.out h0
        subst hk0
        have HR0 := Lib.hid (show RES = [] by rw [← HC.out]; simp [Lib.compact, Lib.compactUpTo])
        obtain ⟨oo, oc, hvs⟩ := HO.out.shape
        rw [List.length_nil] at hvs
        subst hvs
        have HOC := Lib.hid HO.out.ints
        clear HO HC HK0 HK1 hK4 hcp
        go_wp2_with fail
        refine (Try.slices_Sort_int_none oo oc wr).mono ?_
        rintro e w2 ⟨rfl, rfl⟩
        go_wp2_with fail
        refine (Try.slices_Compact_int_empty oo oc _).mono ?_
        rintro e w3 ⟨rfl, rfl⟩
        go_wp2_with fail
        go_ret
        exact ⟨_, rfl, by rw [HR0.out]; exact HOC.out, HBB.out.trans (HBR.out.mono hz1')⟩
      · obtain ⟨hxs, hro⟩ := HO.out
        rcases hro with ⟨rfl, h1⟩ | ⟨g, cap, cur, rfl, hbase, hg, h1, h2, h3, h4⟩
        · exact absurd h1 (HK1.out h0)
        have hgl : g < wr.heap.size := (Array.getElem?_eq_some_iff.1 hg).1
        have CS := Lib.hid (Try.slices_Sort_int g 0 cap KL wr (holds_of_blockI hg (by rw [Nat.mul_one] at h4; exact h4)) hgl (by omega))
        have HRW := Lib.hid (fun n os => ownsRow_sortedI (base := w1.heap.size) (n := n) (os := os) (e := 3) (ts := KL.mergeSort fun a b => decide (a ≤ b)) (by rw [List.length_mergeSort]) hbase hg h1 h2 h3)
        have HGR := Lib.hid (fun n os => grownBy_sortedI (w := wr) (g := g) (n := n) (os := os) (KL.mergeSort fun a b => decide (a ≤ b)).toArray)
        have HMS := Lib.hid (show (KL.mergeSort fun a b => decide (a ≤ b)).length = KL.length from List.length_mergeSort ..)
        generalize (KL.mergeSort fun a b => decide (a ≤ b)) = MS at *
        have HCAP := Lib.hid (And.intro h1 h2)
        clear hxs h1 h2 h3 h4 hg HO HK0 HK1
        go_wp2_with fail
        refine CS.out.mono ?_
        rintro e w2 ⟨rfl, nn, os, hw2⟩
        have HO2 := Lib.hid (HRW.out nn os)
        have HG2 := Lib.hid (HGR.out nn os)
        rw [← hw2] at HO2 HG2
        have HB2 := Lib.hid (HBR.out.grown HG2.out hzr (fun q hq => by injection hq with hq; omega))
        have hz2 := HB2.out.size
        clear hw2 HRW HGR CS
        obtain ⟨hxs, hro⟩ := HO2.out
        rcases hro with ⟨hbad, _⟩ | ⟨g', cap', cur', hv, hbase', hg', k1, k2, k3, k4⟩
        · cases hbad
        injection hv with hv1 hv2 hv3
        injection hv1 with hv1
        injection hv1 with hv1
        subst hv1
        subst hv3
        have hg2 : g < w2.heap.size := (Array.getElem?_eq_some_iff.1 hg').1
        have HH := Lib.hid (holds_of_blockI (ss := MS) hg' (by rw [Nat.mul_one] at k4; rw [HMS.out]; exact k4))
        have CC := Lib.hid (Try.slices_Compact_int g 0 cap MS w2 HH.out (by have := HMS.out; omega) (by have := HMS.out; have := HCAP.out.1; omega))
        rw [HMS.out] at CC
        clear HO2 hxs k1 k2 k3 k4 hg'
        go_wp2_with fail
        refine CC.out.mono ?_
        rintro e w3 ⟨rfl, q, hw3⟩
        have hcl : (Lib.compact MS).length ≤ KL.length := by have := Lib.compact_length_le MS; have := HMS.out; omega
        have HBE := Lib.hid (show Below w1.heap.size w1 w3 from by
          rw [hw3]
          refine bel_grown3 (g := g) HB2.out ⟨rfl, rfl, rfl, by simp [Sort.ahead], fun k hk hne => ?_⟩ hz2 hbase
          have : g ≠ k := fun e => hne (by rw [e])
          simp [Sort.putRow, Sort.mapBlock, Sort.ahead, Array.getElem?_modify, this])
        have HIN := Lib.hid (show IntS w3.heap.size w3 (.slice (some ⟨g, 0, none⟩) (Lib.compact MS).length cap) (Lib.compact MS) from by
          refine ⟨_, cap, rfl, by have := HCAP.out.1; omega, by have := HCAP.out.2; unfold maxLen at this; omega, fun hl0 => ⟨g, 0, rfl, by rw [hw3]; simp [Sort.ahead]; exact hg2, fun i hi => ?_⟩⟩
          rw [hw3]
          have := Sort.cell?_putRow (Value.int .i64) (Sort.ahead w2 q) g 0 MS.toArray (Lib.compact MS ++ List.replicate (KL.length - (Lib.compact MS).length) 0).toArray (fun j hj => HH.out j hj) (by simp; have := HMS.out; omega) i (by simp; omega)
          rw [this]
          have e : (Lib.compact MS ++ List.replicate (KL.length - (Lib.compact MS).length) 0)[i]? = some (Lib.compact MS)[i] := by rw [List.getElem?_append_left hi, List.getElem?_eq_getElem hi]
          simp [e])
        rw [HC.out] at HIN
        clear hw3 HH CC
        go_wp2_with fail
        go_ret
        exact ⟨_, by rw [HC.out]; rfl, HIN.out, HBB.out.trans (HBE.out.mono (by omega))⟩
end Go.Proofs.Ytabalicembhjmaa

namespace Go.Proofs.Ytabalicembhjmaa
open Go.RowKit
set_option linter.unusedVariables false
set_option linter.unusedSimpArgs false

/-- a number of at most 20 digits -/
def Fit (n : Nat) : Prop := n < BB ^ 20
theorem Fit.len {n L : Nat} (h : Fit n) (hl : LenOf n L) : L ≤ 20 := lenOf_le hl h
theorem Fit.le {n m : Nat} (h : Fit m) (hl : n ≤ m) : Fit n := Nat.lt_of_le_of_lt hl h
theorem carry_end {n m k : Nat} (h1 : n < BB ^ k) (h2 : m < BB ^ k) : carryP n m (k + 1) = 0 := by
  unfold carryP
  have e : BB ^ (k + 1) = BB * BB ^ k := Nat.pow_succ'
  have h3 : 2 * BB ^ k ≤ BB * BB ^ k := Nat.mul_le_mul_right _ (by decide)
  have a1 : n % BB ^ (k + 1) ≤ n := Nat.mod_le _ _
  have a2 : m % BB ^ (k + 1) ≤ m := Nat.mod_le _ _
  exact Nat.div_eq_of_lt (by omega)
theorem plus_all {n m k : Nat} (h1 : n < BB ^ k) (h2 : m < BB ^ k) (h : carryP n m k = 0) : n + m < BB ^ k := by
  have := plus_div n m k
  rw [h, Nat.div_eq_of_lt h1, Nat.div_eq_of_lt h2] at this
  exact (Nat.div_eq_zero_iff_lt (BBp k)).1 (by omega)
theorem lt_pow {n L k : Nat} (h : n < BB ^ L) (hk : L ≤ k) : n < BB ^ k := Nat.lt_of_lt_of_le h (pow_mono hk)
/-- what a round computes out of s: the digit and the carry -/
theorem digit_val {s d : Nat} {x : Int} (hx : x = (s : Nat)) (h : d = s % BB) : Value.int .i64 (x % 1000000000) = Value.int .i64 (d : Nat) := by
  subst hx h
  unfold BB
  exact congrArg _ (by omega)
theorem carry_val {s c : Nat} {x : Int} (hx : x = (s : Nat)) (h : c = s / BB) : Value.int .i64 (x / 1000000000) = Value.int .i64 (c : Nat) := by
  subst hx h
  unfold BB
  exact congrArg _ (by omega)
theorem carry_valw {s c : Nat} {x : Int} (hx : x = (s : Nat)) (h : c = s / BB) (hs : s ≤ 9223372036854775807) : Value.int .i64 (wrap64 (x / 1000000000)) = Value.int .i64 (c : Nat) := by
  subst hx
  rw [div_wrap hs]
  exact carry_val rfl h
theorem cells_snoc {n k : Nat} {u : Value} (h : u = .int .i64 (dg n k : Nat)) : dcells n k ++ [u] = dcells n (k + 1) := by rw [dcells_succ, h]
theorem below_own2 {B : Nat} {w wr w2 : World} {v : Value} {e n : Nat} {xs : List Value} {o : Obj} (hb : Below B w wr) (ho : wr.ownsRow B e 1 v n xs) (hg : (wr.alloc o).grownBy w2 v.ownBlock) (hs : B ≤ wr.heap.size) : Below B w w2 :=
  (hb.alloc hs o).grown hg (by simp; omega) fun k hk => (ho.lt k hk).1
theorem dg_le9 (n i : Nat) : ((dg n i : Nat) : Int) ≤ 999999999 := by
  have := dg_lt n i
  unfold BB at this
  omega

/-- the first rounds of plus: how far -/
def PlusR (n m L M k : Nat) : Prop := k ≤ L ∨ k ≤ M ∨ (k ≤ max L M + 1 ∧ carryP n m k = 0)

set_option maxHeartbeats 4000000 in
set_option maxRecDepth 100000 in
theorem nplus_any (B n m : Nat) (v u : Value) (w : World) (hB : B ≤ w.heap.size) (fn : Fit n) (fm : Fit m) (hv : IsN B w v n) (hu : IsN B w u m) : Calls Try.prog 100 #[v, u] w (NewO w.heap.size (n + m) w) := by
  obtain ⟨L, hL, ao, cap, rfl, c1, c2, hn, hx⟩ := hv
  obtain ⟨M, hM, bo, dap, rfl, d1, d2, hm, hy⟩ := hu
  have hl := fn.len hL
  have hml := fm.len hM
  have HX := Lib.hid hx
  have HY := Lib.hid hy
  have Hn := Lib.hid hn
  have Hm := Lib.hid hm
  clear hx hy hn hm hL hM fn fm
  obtain ⟨i0, hi, hz0, hz1, hz2⟩ := info_parts int_info
  have Hi := Lib.hid hi
  have Hz0 := Lib.hid hz0
  have Hz1 := Lib.hid hz1
  have Hz2 := Lib.hid hz2
  clear hi hz0 hz1 hz2
  go_enter Try.func100, Try.ntmps100
  go_wp2
  go_loopw [5, 6, 7] (fun o c i wr => ∃ k : Nat, k ≤ max L M + 1 ∧ i = .int .i64 k ∧ c = .int .i64 (carryP n m k : Nat) ∧ wr.ownsRow w.heap.size 3 1 o k (dcells (n + m) k) ∧ Below w.heap.size w wr) (fun _ _ i _ => max L M + 2 - (intOf i).toNat)
  case atStart => exact ⟨0, by omega, rfl, by rw [carryP_zero]; rfl, by simpa [dcells] using World.ownsRow_nil _ _ _ _, Below.refl _ _⟩
  case round =>
    rename_i wr
    obtain ⟨k, hk, rfl, rfl, hown, hb⟩ := hrel
    have HO := Lib.hid hown
    have HB := Lib.hid hb
    have hsz := hb.size
    have HD := Lib.hid (plus_dg n m k)
    have HC := Lib.hid (plus_carry n m k)
    have HE := Lib.hid (fun (h1 : L ≤ k) (h2 : M ≤ k) (h : carryP n m k = 0) => plus_all (lt_pow Hn.out h1) (lt_pow Hm.out h2) h)
    have HF := Lib.hid (fun e : k = max L M + 1 => (show carryP n m k = 0 by rw [e]; exact carry_end (lt_pow Hn.out (Nat.le_max_left _ _)) (lt_pow Hm.out (Nat.le_max_right _ _))))
    have HN0 := Lib.hid (fun h : L ≤ k => dg_zero_of_lt (lt_pow Hn.out h))
    have HM0 := Lib.hid (fun h : M ≤ k => dg_zero_of_lt (lt_pow Hm.out h))
    have hc1 := carryP_le n m k
    have hx9 := dg_le9 n k
    have hy9 := dg_le9 m k
    obtain ⟨ao2, cap2, rfl⟩ := own_shape1 hown
    generalize hcn : carryP n m (k + 1) = cn at *
    have HCN := Lib.hid hcn
    generalize carryP n m k = c at *
    clear hown hb hcn
    by_cases hkL : k < L
    · obtain ⟨b, off, rfl, hbb, hcx⟩ := HX.out (by omega)
      have hcx' := (HB.out.cell (p := ⟨b, off + k, none⟩) (Nat.lt_of_lt_of_le hbb hB)).trans (hcx k hkL)
      clear hcx
      generalize dg n k = x at *
      by_cases hkM : k < M
      · obtain ⟨b', off', rfl, hbb', hcy⟩ := HY.out (by omega)
        have hcy' := (HB.out.cell (p := ⟨b', off' + k, none⟩) (Nat.lt_of_lt_of_le hbb' hB)).trans (hcy k hkM)
        clear hcy
        generalize dg m k = y at *
        clear HE HF HN0 HM0
        have HD2 := Lib.hid (show Value.int .i64 (((c : Int) + (x : Int) + (y : Int)) % 1000000000) = .int .i64 (dg (n + m) k : Nat) from digit_val (s := c + x + y) (by omega) HD.out)
        have HC2 := Lib.hid (show Value.int .i64 (((c : Int) + (x : Int) + (y : Int)) / 1000000000) = .int .i64 (cn : Nat) from carry_val (s := c + x + y) (by omega) HC.out)
        clear HD HC
        go_wp2_with (at_builtin; refine wpList_append_own _ rfl _ _ 126 rfl w.heap.size 3 i0 (.int .i64 0) 1 8 Try.underlying126 Hi.out Hz0.out Hz1.out Hz2.out rfl (by decide) _ _ _ rfl (HO.out.alloc _) ⟨wr.heap.size, 0, none⟩ 1 1 [.int .i64 (((c : Int) + (x : Int) + (y : Int)) % 1000000000)] rfl rfl (one_int _ _ _ _) (int_one _) (by unfold maxLen; omega) (by omega) (by simp; omega) ?_)
        all_goals intro v' w2 hown2 hgrow _
        all_goals rw [cells_snoc HD2.out] at hown2
        all_goals have HB2 := Lib.hid (below_own2 HB.out HO.out hgrow hsz)
        all_goals obtain ⟨ao3, cap3, rfl⟩ := own_shape1 hown2
        all_goals have HO2 := Lib.hid hown2
        all_goals clear hown2 hgrow HO HB HD2
        all_goals go_wp2
        all_goals go_roundw
        all_goals (first | exact ⟨k + 1, by omega, by go_num, by rw [HCN.out]; exact HC2.out, HO2.out, HB2.out⟩ | (simp [intOf]; omega))
      · have hy0 := HM0.out (by omega)
        rw [hy0] at HD HC
        clear HE HF HN0 HM0 hy0 hy9
        have HD2 := Lib.hid (show Value.int .i64 (((c : Int) + (x : Int)) % 1000000000) = .int .i64 (dg (n + m) k : Nat) from digit_val (s := c + x + 0) (by omega) HD.out)
        have HC2 := Lib.hid (show Value.int .i64 (((c : Int) + (x : Int)) / 1000000000) = .int .i64 (cn : Nat) from carry_val (s := c + x + 0) (by omega) HC.out)
        clear HD HC
        go_wp2_with (at_builtin; refine wpList_append_own _ rfl _ _ 126 rfl w.heap.size 3 i0 (.int .i64 0) 1 8 Try.underlying126 Hi.out Hz0.out Hz1.out Hz2.out rfl (by decide) _ _ _ rfl (HO.out.alloc _) ⟨wr.heap.size, 0, none⟩ 1 1 [.int .i64 (((c : Int) + (x : Int)) % 1000000000)] rfl rfl (one_int _ _ _ _) (int_one _) (by unfold maxLen; omega) (by omega) (by simp; omega) ?_)
        all_goals intro v' w2 hown2 hgrow _
        all_goals rw [cells_snoc HD2.out] at hown2
        all_goals have HB2 := Lib.hid (below_own2 HB.out HO.out hgrow hsz)
        all_goals obtain ⟨ao3, cap3, rfl⟩ := own_shape1 hown2
        all_goals have HO2 := Lib.hid hown2
        all_goals clear hown2 hgrow HO HB HD2
        all_goals go_wp2
        all_goals go_roundw
        all_goals (first | exact ⟨k + 1, by omega, by go_num, by rw [HCN.out]; exact HC2.out, HO2.out, HB2.out⟩ | (simp [intOf]; omega))
    · have hx0 := HN0.out (by omega)
      rw [hx0] at HD HC
      clear hx9
      by_cases hkM : k < M
      · obtain ⟨b', off', rfl, hbb', hcy⟩ := HY.out (by omega)
        have hcy' := (HB.out.cell (p := ⟨b', off' + k, none⟩) (Nat.lt_of_lt_of_le hbb' hB)).trans (hcy k hkM)
        clear hcy
        generalize dg m k = y at *
        clear HE HF HN0 HM0 hx0
        have HD2 := Lib.hid (show Value.int .i64 (((c : Int) + (y : Int)) % 1000000000) = .int .i64 (dg (n + m) k : Nat) from digit_val (s := c + 0 + y) (by omega) HD.out)
        have HC2 := Lib.hid (show Value.int .i64 (((c : Int) + (y : Int)) / 1000000000) = .int .i64 (cn : Nat) from carry_val (s := c + 0 + y) (by omega) HC.out)
        clear HD HC
        go_wp2_with (at_builtin; refine wpList_append_own _ rfl _ _ 126 rfl w.heap.size 3 i0 (.int .i64 0) 1 8 Try.underlying126 Hi.out Hz0.out Hz1.out Hz2.out rfl (by decide) _ _ _ rfl (HO.out.alloc _) ⟨wr.heap.size, 0, none⟩ 1 1 [.int .i64 (((c : Int) + (y : Int)) % 1000000000)] rfl rfl (one_int _ _ _ _) (int_one _) (by unfold maxLen; omega) (by omega) (by simp; omega) ?_)
        all_goals intro v' w2 hown2 hgrow _
        all_goals rw [cells_snoc HD2.out] at hown2
        all_goals have HB2 := Lib.hid (below_own2 HB.out HO.out hgrow hsz)
        all_goals obtain ⟨ao3, cap3, rfl⟩ := own_shape1 hown2
        all_goals have HO2 := Lib.hid hown2
        all_goals clear hown2 hgrow HO HB HD2
        all_goals go_wp2
        all_goals go_roundw
        all_goals (first | exact ⟨k + 1, by omega, by go_num, by rw [HCN.out]; exact HC2.out, HO2.out, HB2.out⟩ | (simp [intOf]; omega))
      · have hy0 := HM0.out (by omega)
        rw [hy0] at HD HC
        clear hy9
        by_cases hc0 : c = 0
        · have HL := Lib.hid (HE.out (by omega) (by omega) hc0)
          subst hc0
          clear HE HF HN0 HM0 hx0 hy0 HD HC HCN
          go_wp2_with (go_at_call 114; refine (trim_own _ _ _ _ _ HO.out HL.out).mono ?_; rintro e w' ⟨⟨v', L', rfl, hl', ho'⟩, rfl⟩)
          all_goals
            have HO' := Lib.hid ho'
            have HL' := Lib.hid hl'
            clear ho' hl'
            go_wp2
            go_ret
            exact ⟨_, _, rfl, HL'.out, HO'.out, HB.out⟩
        · have hk1 : k ≤ max L M := by
            by_cases e : k = max L M + 1
            · exact absurd (HF.out e) hc0
            · omega
          obtain rfl : c = 1 := by omega
          clear HE HF HN0 HM0 hx0 hy0 hc0
          have HD2 := Lib.hid (show Value.int .i64 1 = .int .i64 (dg (n + m) k : Nat) from by rw [HD.out]; rfl)
          have HC2 := Lib.hid (show Value.int .i64 0 = .int .i64 (cn : Nat) from by rw [HC.out]; rfl)
          clear HD HC
          go_wp2_with (at_builtin; refine wpList_append_own _ rfl _ _ 126 rfl w.heap.size 3 i0 (.int .i64 0) 1 8 Try.underlying126 Hi.out Hz0.out Hz1.out Hz2.out rfl (by decide) _ _ _ rfl (HO.out.alloc _) ⟨wr.heap.size, 0, none⟩ 1 1 [.int .i64 1] rfl rfl (one_int _ _ _ _) (int_one _) (by unfold maxLen; omega) (by omega) (by simp; omega) ?_)
          all_goals intro v' w2 hown2 hgrow _
          all_goals rw [cells_snoc HD2.out] at hown2
          all_goals have HB2 := Lib.hid (below_own2 HB.out HO.out hgrow hsz)
          all_goals obtain ⟨ao3, cap3, rfl⟩ := own_shape1 hown2
          all_goals have HO2 := Lib.hid hown2
          all_goals clear hown2 hgrow HO HB HD2
          all_goals go_wp2
          all_goals go_roundw
          all_goals (first | exact ⟨k + 1, by omega, by go_num, by rw [HCN.out]; exact HC2.out, HO2.out, HB2.out⟩ | (simp [intOf]; omega))
end Go.Proofs.Ytabalicembhjmaa
