/- FromOctet of both sides; slices.Equal at alike settings, keys, units, ranges. (printed by wip/gen/gen_setfns.py) Own rows of settings and of keys, an append of one as one step; the frames of a map. (printed by wip/gen/gen_setown.py) Boxes known by their block: kept by calls, allocs, appends to own rows of another type. (printed by wip/gen/gen_tbox.py) The parameter of a key. No walk in it. (printed by wip/gen/gen_find.py) api.Key as a key of maps. (printed by wip/gen/gen_keylaw.py) The faults of settings. No walk in it. (printed by wip/gen/gen_ckstg.py) -/
import Derived.Test.YtabalicembhjmaaT45M14
import Derived.Test.YtabalicembhjmaaT45M07
import Derived.OwnWalk
import Derived.Laws.AppendOwn
import Derived.Test.YtabalicembhjmaaT45M06
import Derived.Test.YtabalicembhjmaaT45M12
import Derived.MapViews
import Derived.DeepKeys4
import Derived.Maps.Keyed

namespace Go.Proofs.Ytabalicembhjmaa
open Go.RowKit
set_option linter.unusedVariables false
set_option linter.unusedSimpArgs false

structure KeyR where
  unit : Int
  par : ByteArray
instance : Inhabited KeyR := ⟨⟨0, ByteArray.empty⟩⟩
def keyC (s : KeyR) : List Value := [.int .i64 s.unit, .string s.par]
def KeyRS (B : Nat) (w : World) (v : Value) (l : List KeyR) : Prop := CellsS B w v l.length (l.flatMap keyC)
theorem KeyRS.below {B : Nat} {w w' : World} {v : Value} {l : List KeyR} (h : KeyRS B w v l) (hb : Below B w w') : KeyRS B w' v l := CellsS.below h hb
theorem KeyRS.more {B B' : Nat} {w : World} {v : Value} {l : List KeyR} (h : KeyRS B w v l) (hB : B ≤ B') : KeyRS B' w v l := CellsS.more h hB
theorem KeyRS.get {B : Nat} {w : World} {v : Value} {l : List KeyR} (h : KeyRS B w v l) (hl : 0 < l.length) :
    ∃ b off cap, v = .slice (some ⟨b, off, none⟩) l.length cap ∧ b < B ∧ l.length ≤ maxLen ∧ ∀ k (hk : k < l.length) (W : World), Below B w W →
      W.cell? ⟨b, off + k * 2, none⟩ = some (.int .i64 l[k].unit) ∧ W.cell? ⟨b, off + k * 2 + 1, none⟩ = some (.string l[k].par) := by
  obtain ⟨b, off, cap, rfl, h1, h2, h3⟩ := CellsS.rec h (n := 2) (fun _ => rfl) hl
  refine ⟨b, off, cap, rfl, h1, h2, fun k hk W hW => ?_⟩
  exact ⟨(hW.cell (p := ⟨b, off + k * 2, none⟩) h1).trans (h3 k hk 0 _ (by omega) rfl), (hW.cell (p := ⟨b, off + k * 2 + 1, none⟩) h1).trans (h3 k hk 1 _ (by omega) rfl)⟩
set_option maxHeartbeats 400000 in
theorem fromOct_any (b : Int) (h0 : 0 ≤ b) (h1 : b ≤ 255) (w : World) : Calls Try.prog 31 #[.int .u8 b] w fun e w' => e = .returned (.int .i64 (b * 257)) ∧ w = w' := by
  have e1 : IntKind.i64.wrap b = b := IntWalk.i64_in _ (by omega)
  have e2 : IntKind.i64.wrap (b * 257) = b * 257 := IntWalk.i64_in _ (by omega)
  have e3 : wrap64 (b * 257) = b * 257 := IntWalk.wrap64_in _ (by omega)
  go_enter Try.func31, Try.ntmps31
  go_wp2_with fail
  go_ret
  exact ⟨rfl, rfl⟩
set_option maxHeartbeats 400000 in
theorem rfromOct_any (b : Int) (h0 : 0 ≤ b) (h1 : b ≤ 255) (w : World) : Calls Try.prog 35 #[.int .u8 b] w fun e w' => e = .returned (.int .i64 (b * 257)) ∧ w = w' := by
  have e1 : IntKind.i64.wrap b = b := IntWalk.i64_in _ (by omega)
  have e2 : IntKind.i64.wrap (b * 257) = b * 257 := IntWalk.i64_in _ (by omega)
  have e3 : wrap64 (b * 257) = b * 257 := IntWalk.wrap64_in _ (by omega)
  go_enter Try.func35, Try.ntmps35
  go_wp2_with fail
  go_ret
  exact ⟨rfl, rfl⟩
set_option maxHeartbeats 2000000 in
theorem settings_equal (v u : Value) (l : List Stg) (w : World) (hv : StgS w.heap.size w v l) (hu : StgS w.heap.size w u l) :
    Calls Try.prog 12 #[v, u] w fun e w' => e = .returned (.bool true) ∧ Below w.heap.size w w' := by
  have HX := Lib.hid (StgS.get hv)
  have HY := Lib.hid (StgS.get hu)
  have hl : l.length ≤ 9223372036854775807 := by
    have h := CellsS.len hv
    unfold maxLen at h
    omega
  obtain ⟨ao, cap, rfl, _⟩ := CellsS.shape hv
  obtain ⟨bo, cap2, rfl, _⟩ := CellsS.shape hu
  clear hv hu
  go_enter Try.func12, Try.ntmps12
  go_wp2
  go_loopw [13] (fun i wr => ∃ k : Nat, k ≤ l.length ∧ i = .int .i64 k ∧ ∃ n, wr = w.drewN n) (fun i _ => l.length - (intOf i).toNat)
  case atStart => exact ⟨0, Nat.zero_le _, rfl, 0, rfl⟩
  case round =>
    obtain ⟨k, hk, rfl, n, rfl⟩ := hrel
    by_cases hlt : k < l.length
    · obtain ⟨b, off, _, e0, hbb, _, hc⟩ := HX.out (by omega)
      injection e0 with e1 _ e3
      subst e1 e3
      obtain ⟨b', off', _, e0, hbb', _, hc'⟩ := HY.out (by omega)
      injection e0 with e1 _ e3
      subst e1 e3
      obtain ⟨c0, c1, c2⟩ := hc k hlt w (Below.refl _ _)
      obtain ⟨d0, d1, d2⟩ := hc' k hlt w (Below.refl _ _)
      clear hc hc' HX HY
      generalize l[k].unit = z0 at *
      generalize l[k].par = z1 at *
      generalize l[k].lv = z2 at *
      go_wp2
      go_quiet (fail)
      go_wp2
      go_roundw
      case rel => exact ⟨k + 1, by omega, by go_num, _, rfl⟩
      case measure => simp [intOf]; omega
    · obtain rfl : k = l.length := by omega
      go_wp2
      go_ret
      exact ⟨rfl, bel_drewF (Below.refl _ _) _⟩
set_option maxHeartbeats 2000000 in
theorem keys_equal (v u : Value) (l : List KeyR) (w : World) (hv : KeyRS w.heap.size w v l) (hu : KeyRS w.heap.size w u l) :
    Calls Try.prog 20 #[v, u] w fun e w' => e = .returned (.bool true) ∧ Below w.heap.size w w' := by
  have HX := Lib.hid (KeyRS.get hv)
  have HY := Lib.hid (KeyRS.get hu)
  have hl : l.length ≤ 9223372036854775807 := by
    have h := CellsS.len hv
    unfold maxLen at h
    omega
  obtain ⟨ao, cap, rfl, _⟩ := CellsS.shape hv
  obtain ⟨bo, cap2, rfl, _⟩ := CellsS.shape hu
  clear hv hu
  go_enter Try.func20, Try.ntmps20
  go_wp2
  go_loopw [13] (fun i wr => ∃ k : Nat, k ≤ l.length ∧ i = .int .i64 k ∧ ∃ n, wr = w.drewN n) (fun i _ => l.length - (intOf i).toNat)
  case atStart => exact ⟨0, Nat.zero_le _, rfl, 0, rfl⟩
  case round =>
    obtain ⟨k, hk, rfl, n, rfl⟩ := hrel
    by_cases hlt : k < l.length
    · obtain ⟨b, off, _, e0, hbb, _, hc⟩ := HX.out (by omega)
      injection e0 with e1 _ e3
      subst e1 e3
      obtain ⟨b', off', _, e0, hbb', _, hc'⟩ := HY.out (by omega)
      injection e0 with e1 _ e3
      subst e1 e3
      obtain ⟨c0, c1⟩ := hc k hlt w (Below.refl _ _)
      obtain ⟨d0, d1⟩ := hc' k hlt w (Below.refl _ _)
      clear hc hc' HX HY
      generalize l[k].unit = z0 at *
      generalize l[k].par = z1 at *
      go_wp2
      go_quiet (fail)
      go_wp2
      go_roundw
      case rel => exact ⟨k + 1, by omega, by go_num, _, rfl⟩
      case measure => simp [intOf]; omega
    · obtain rfl : k = l.length := by omega
      go_wp2
      go_ret
      exact ⟨rfl, bel_drewF (Below.refl _ _) _⟩
set_option maxHeartbeats 2000000 in
theorem units_equal (v u : Value) (l : List Unt) (w : World) (hv : UntS w.heap.size w v l) (hu : UntS w.heap.size w u l) :
    Calls Try.prog 59 #[v, u] w fun e w' => e = .returned (.bool true) ∧ Below w.heap.size w w' := by
  have HX := Lib.hid (UntS.get hv)
  have HY := Lib.hid (UntS.get hu)
  have hl : l.length ≤ 9223372036854775807 := by
    have h := CellsS.len hv
    unfold maxLen at h
    omega
  obtain ⟨ao, cap, rfl, _⟩ := CellsS.shape hv
  obtain ⟨bo, cap2, rfl, _⟩ := CellsS.shape hu
  clear hv hu
  go_enter Try.func59, Try.ntmps59
  go_wp2
  go_loopw [13] (fun i wr => ∃ k : Nat, k ≤ l.length ∧ i = .int .i64 k ∧ ∃ n, wr = w.drewN n) (fun i _ => l.length - (intOf i).toNat)
  case atStart => exact ⟨0, Nat.zero_le _, rfl, 0, rfl⟩
  case round =>
    obtain ⟨k, hk, rfl, n, rfl⟩ := hrel
    by_cases hlt : k < l.length
    · obtain ⟨b, off, _, e0, hbb, _, hc⟩ := HX.out (by omega)
      injection e0 with e1 _ e3
      subst e1 e3
      obtain ⟨b', off', _, e0, hbb', _, hc'⟩ := HY.out (by omega)
      injection e0 with e1 _ e3
      subst e1 e3
      obtain ⟨c0, c1, c2, c3⟩ := hc k hlt w (Below.refl _ _)
      obtain ⟨d0, d1, d2, d3⟩ := hc' k hlt w (Below.refl _ _)
      clear hc hc' HX HY
      generalize l[k].num = z0 at *
      generalize l[k].prof = z1 at *
      generalize l[k].univ = z2 at *
      generalize l[k].addr = z3 at *
      go_wp2
      go_quiet (fail)
      go_wp2
      go_roundw
      case rel => exact ⟨k + 1, by omega, by go_num, _, rfl⟩
      case measure => simp [intOf]; omega
    · obtain rfl : k = l.length := by omega
      go_wp2
      go_ret
      exact ⟨rfl, bel_drewF (Below.refl _ _) _⟩
set_option maxHeartbeats 2000000 in
theorem ranges_equal (v u : Value) (l : List Rng) (w : World) (hv : RngS w.heap.size w v l) (hu : RngS w.heap.size w u l) :
    Calls Try.prog 118 #[v, u] w fun e w' => e = .returned (.bool true) ∧ Below w.heap.size w w' := by
  have HX := Lib.hid (RngS.get hv)
  have HY := Lib.hid (RngS.get hu)
  have hl : l.length ≤ 9223372036854775807 := by
    have h := CellsS.len hv
    unfold maxLen at h
    omega
  obtain ⟨ao, cap, rfl, _⟩ := CellsS.shape hv
  obtain ⟨bo, cap2, rfl, _⟩ := CellsS.shape hu
  clear hv hu
  go_enter Try.func118, Try.ntmps118
  go_wp2
  go_loopw [13] (fun i wr => ∃ k : Nat, k ≤ l.length ∧ i = .int .i64 k ∧ ∃ n, wr = w.drewN n) (fun i _ => l.length - (intOf i).toNat)
  case atStart => exact ⟨0, Nat.zero_le _, rfl, 0, rfl⟩
  case round =>
    obtain ⟨k, hk, rfl, n, rfl⟩ := hrel
    by_cases hlt : k < l.length
    · obtain ⟨b, off, _, e0, hbb, _, hc⟩ := HX.out (by omega)
      injection e0 with e1 _ e3
      subst e1 e3
      obtain ⟨b', off', _, e0, hbb', _, hc'⟩ := HY.out (by omega)
      injection e0 with e1 _ e3
      subst e1 e3
      obtain ⟨c0, c1, c2⟩ := hc k hlt w (Below.refl _ _)
      obtain ⟨d0, d1, d2⟩ := hc' k hlt w (Below.refl _ _)
      clear hc hc' HX HY
      generalize l[k].low = z0 at *
      generalize l[k].high = z1 at *
      generalize l[k].name = z2 at *
      go_wp2
      go_quiet (fail)
      go_wp2
      go_roundw
      case rel => exact ⟨k + 1, by omega, by go_num, _, rfl⟩
      case measure => simp [intOf]; omega
    · obtain rfl : k = l.length := by omega
      go_wp2
      go_ret
      exact ⟨rfl, bel_drewF (Below.refl _ _) _⟩
end Go.Proofs.Ytabalicembhjmaa

namespace Go.Proofs.Ytabalicembhjmaa
open Go.RowKit
open Go (info_parts)
set_option linter.unusedVariables false
set_option linter.unusedSimpArgs false

def OwnS (base : Nat) (w : World) (v : Value) (l : List Stg) : Prop := w.ownsRow base 35 3 v l.length (l.flatMap stgC)
theorem OwnS.nil (base : Nat) (w : World) : OwnS base w (.slice none 0 0) [] := World.ownsRow_nil w base _ _
theorem OwnS.shape {base : Nat} {w : World} {v : Value} {l : List Stg} (h : OwnS base w v l) : ∃ ao cap, v = .slice ao l.length cap := by
  rcases h.2 with h' | ⟨g, cap, cur, e1, _⟩
  · exact ⟨none, 0, by rw [h'.1, h'.2]⟩
  · exact ⟨_, cap, e1⟩
theorem OwnS.below {base : Nat} {w w' : World} {v : Value} {l : List Stg} (h : OwnS base w v l) (hb : Below w.heap.size w w') : OwnS base w' v l := by
  refine ⟨h.1, ?_⟩
  rcases h.2 with h' | ⟨g, cap, cur, e1, h1, h2, h3⟩
  · exact .inl h'
  · exact .inr ⟨g, cap, cur, e1, h1, (hb.block g (World.ownsRow.lt h g (by rw [e1]; rfl)).2).trans h2, h3⟩
theorem OwnS.keeps {B base : Nat} {a w w' : World} {v : Value} {l : List Stg} (ho : OwnS base w v l) (h : Below B a w) (g : w.grownBy w' v.ownBlock) (hB : B ≤ base) (hs : B ≤ w.heap.size) : Below B a w' :=
  h.grown g hs (fun k hk => by have := (World.ownsRow.lt ho k hk).1; omega)
theorem infoOwnS : (Try.prog.info? 35).map (fun i => (i.zero, i.size, i.bytes)) = some (some (.agg #[.int .i64 0, .string ⟨#[]⟩, .int .i64 0]), 3, 32) := by kernel_rfl
theorem wpList_ownS {w : World} {ops : Array Oper} {rest : List Oper} {o : Oper} {a : Act} {Q : Exit → Act → World → Prop} (hgd : o.guard = none) (s x : Operand)
    (hop : o.op = .call { callee := .builtin .append, args := #[s, x], argTypes := #[27, 27] })
    (base c : Nat) (v : Value) (l : List Stg) (y : Stg) (ad : Addr) (hs : a.eval s = v) (hx : a.eval x = .slice (some ad) 1 c)
    (ho : OwnS base w v l) (hc : ∀ (j : Nat) u, (stgC y)[j]? = some u → w.cell? (ad.add j) = some u) (hl : l.length ≤ 10000000) (hb : base ≤ w.heap.size)
    (h : ∀ v' w', OwnS base w' v' (l ++ [y]) → w.grownBy w' v.ownBlock → wpList Try.prog ops Q rest (a.put o.dst v') w') : wpList Try.prog ops Q (o :: rest) a w := by
  obtain ⟨i0, hi, hz0, hz1, hz2⟩ := info_parts infoOwnS
  refine wpList_append_own w hgd s x 27 hop base 35 i0 (.agg #[.int .i64 0, .string ⟨#[]⟩, .int .i64 0]) 3 32 Try.underlying27 hi hz0 hz1 hz2 rfl (by decide) v l.length (l.flatMap stgC) hs ho ad 1 c (stgC y) hx rfl hc (by intro u hu; simp [stgC] at hu; rcases hu with rfl | rfl | rfl <;> rfl) (by unfold maxLen; omega) (by omega) hb ?_
  intro v' w' h1 h2 _
  refine h v' w' ?_ h2
  unfold OwnS
  rw [List.flatMap_append, List.length_append]
  simpa using h1
theorem ownS_new (w : World) (y : Stg) (T : TypeId) : ∀ (j : Nat) u, (stgC y)[j]? = some u → (w.alloc (.cells #[.int .i64 y.unit, .string y.par, .int .i64 y.lv] T)).cell? ((⟨w.heap.size, 0, none⟩ : Addr).add j) = some u := by
  intro j u hu
  match j, hu with
  | 0, hu => simp [stgC] at hu; subst hu; simp [Addr.add, go_sem]
  | 1, hu => simp [stgC] at hu; subst hu; simp [Addr.add, go_sem]
  | 2, hu => simp [stgC] at hu; subst hu; simp [Addr.add, go_sem]
  | j + 3, hu => simp [stgC] at hu
def OwnK (base : Nat) (w : World) (v : Value) (l : List KeyR) : Prop := w.ownsRow base 33 2 v l.length (l.flatMap keyC)
theorem OwnK.nil (base : Nat) (w : World) : OwnK base w (.slice none 0 0) [] := World.ownsRow_nil w base _ _
theorem OwnK.shape {base : Nat} {w : World} {v : Value} {l : List KeyR} (h : OwnK base w v l) : ∃ ao cap, v = .slice ao l.length cap := by
  rcases h.2 with h' | ⟨g, cap, cur, e1, _⟩
  · exact ⟨none, 0, by rw [h'.1, h'.2]⟩
  · exact ⟨_, cap, e1⟩
theorem OwnK.below {base : Nat} {w w' : World} {v : Value} {l : List KeyR} (h : OwnK base w v l) (hb : Below w.heap.size w w') : OwnK base w' v l := by
  refine ⟨h.1, ?_⟩
  rcases h.2 with h' | ⟨g, cap, cur, e1, h1, h2, h3⟩
  · exact .inl h'
  · exact .inr ⟨g, cap, cur, e1, h1, (hb.block g (World.ownsRow.lt h g (by rw [e1]; rfl)).2).trans h2, h3⟩
theorem OwnK.keeps {B base : Nat} {a w w' : World} {v : Value} {l : List KeyR} (ho : OwnK base w v l) (h : Below B a w) (g : w.grownBy w' v.ownBlock) (hB : B ≤ base) (hs : B ≤ w.heap.size) : Below B a w' :=
  h.grown g hs (fun k hk => by have := (World.ownsRow.lt ho k hk).1; omega)
theorem infoOwnK : (Try.prog.info? 33).map (fun i => (i.zero, i.size, i.bytes)) = some (some (.agg #[.int .i64 0, .string ⟨#[]⟩]), 2, 24) := by kernel_rfl
theorem wpList_ownK {w : World} {ops : Array Oper} {rest : List Oper} {o : Oper} {a : Act} {Q : Exit → Act → World → Prop} (hgd : o.guard = none) (s x : Operand)
    (hop : o.op = .call { callee := .builtin .append, args := #[s, x], argTypes := #[47, 47] })
    (base c : Nat) (v : Value) (l : List KeyR) (y : KeyR) (ad : Addr) (hs : a.eval s = v) (hx : a.eval x = .slice (some ad) 1 c)
    (ho : OwnK base w v l) (hc : ∀ (j : Nat) u, (keyC y)[j]? = some u → w.cell? (ad.add j) = some u) (hl : l.length ≤ 10000000) (hb : base ≤ w.heap.size)
    (h : ∀ v' w', OwnK base w' v' (l ++ [y]) → w.grownBy w' v.ownBlock → wpList Try.prog ops Q rest (a.put o.dst v') w') : wpList Try.prog ops Q (o :: rest) a w := by
  obtain ⟨i0, hi, hz0, hz1, hz2⟩ := info_parts infoOwnK
  refine wpList_append_own w hgd s x 47 hop base 33 i0 (.agg #[.int .i64 0, .string ⟨#[]⟩]) 2 24 Try.underlying47 hi hz0 hz1 hz2 rfl (by decide) v l.length (l.flatMap keyC) hs ho ad 1 c (keyC y) hx rfl hc (by intro u hu; simp [keyC] at hu; rcases hu with rfl | rfl <;> rfl) (by unfold maxLen; omega) (by omega) hb ?_
  intro v' w' h1 h2 _
  refine h v' w' ?_ h2
  unfold OwnK
  rw [List.flatMap_append, List.length_append]
  simpa using h1
theorem ownK_new (w : World) (y : KeyR) (T : TypeId) : ∀ (j : Nat) u, (keyC y)[j]? = some u → (w.alloc (.cells #[.int .i64 y.unit, .string y.par] T)).cell? ((⟨w.heap.size, 0, none⟩ : Addr).add j) = some u := by
  intro j u hu
  match j, hu with
  | 0, hu => simp [keyC] at hu; subst hu; simp [Addr.add, go_sem]
  | 1, hu => simp [keyC] at hu; subst hu; simp [Addr.add, go_sem]
  | j + 2, hu => simp [keyC] at hu
theorem OwnS.stgS {base : Nat} {w : World} {v : Value} {l : List Stg} (h : OwnS base w v l) : StgS w.heap.size w v l := CellsS.of_own h
theorem OwnK.keyS {base : Nat} {w : World} {v : Value} {l : List KeyR} (h : OwnK base w v l) : KeyRS w.heap.size w v l := CellsS.of_own h

/-! ### frames kept in a map: what the map says is what a search says -/
def isF (U : Int) (y : Frm × Value) : Bool := decide (y.1.univ = U)
theorem rev_snoc {α : Type} (p : α → Bool) (l : List α) (k : Nat) (h : k < l.length) : (l.take (k + 1)).reverse.find? p = if p l[k] then some l[k] else (l.take k).reverse.find? p := by
  rw [List.take_succ_eq_append_getElem h, List.reverse_append]
  simp [List.find?_cons]
  cases p l[k] <;> simp
theorem find_rev {l : List Frm} (h : chkFrms l = 0) (U : Int) : l.reverse.find? (fun f => decide (f.univ = U)) = l.find? (fun f => decide (f.univ = U)) := by
  rw [← List.head?_filter, List.filter_reverse, filter_one U l (frms_pair h), ]
  cases l.find? (fun f => decide (f.univ = U)) <;> rfl
theorem rev_none {lv : List (Frm × Value)} (h : chkFrms (lv.map (·.1)) = 0) (U : Int) (hn : lv.reverse.find? (isF U) = none) : (lv.map (·.1)).find? (fun f => decide (f.univ = U)) = none := by
  rw [← find_rev h, ← List.map_reverse, List.find?_map]
  have : (fun f : Frm => decide (f.univ = U)) ∘ (·.1) = isF U := rfl
  rw [this, hn]; rfl
theorem rev_some {lv : List (Frm × Value)} (h : chkFrms (lv.map (·.1)) = 0) (U : Int) {y : Frm × Value} (hn : lv.reverse.find? (isF U) = some y) : (lv.map (·.1)).find? (fun f => decide (f.univ = U)) = some y.1 ∧ y ∈ lv := by
  refine ⟨?_, List.mem_reverse.1 (List.mem_of_find?_eq_some hn)⟩
  rw [← find_rev h, ← List.map_reverse, List.find?_map]
  have : (fun f : Frm => decide (f.univ = U)) ∘ (·.1) = isF U := rfl
  rw [this, hn]; rfl
end Go.Proofs.Ytabalicembhjmaa

namespace Go.Proofs.Ytabalicembhjmaa
open Go.RowKit
set_option linter.unusedVariables false
set_option linter.unusedSimpArgs false

theorem TBox.grownS {base : Nat} {W W' : World} {b : Nat} {T : TypeId} {cs : Array Value} {v : Value} {l : List Stg} (h : TBox W b T cs) (ho : OwnS base W v l) (hg : W.grownBy W' v.ownBlock) (hT : T ≠ 35) : TBox W' b T cs := by
  refine (hg.block b h.lt fun e => ?_).trans h
  rcases ho.2 with h' | ⟨g, cap, cur, e1, _, h2, _⟩
  · rw [h'.1] at e; simp [Value.ownBlock] at e
  · rw [e1] at e
    simp [Value.ownBlock] at e
    subst e
    unfold TBox at h
    rw [h2] at h
    injection h with h
    injection h with _ h3
    exact hT h3.symm
theorem TBox.grownK {base : Nat} {W W' : World} {b : Nat} {T : TypeId} {cs : Array Value} {v : Value} {l : List KeyR} (h : TBox W b T cs) (ho : OwnK base W v l) (hg : W.grownBy W' v.ownBlock) (hT : T ≠ 33) : TBox W' b T cs := by
  refine (hg.block b h.lt fun e => ?_).trans h
  rcases ho.2 with h' | ⟨g, cap, cur, e1, _, h2, _⟩
  · rw [h'.1] at e; simp [Value.ownBlock] at e
  · rw [e1] at e
    simp [Value.ownBlock] at e
    subst e
    unfold TBox at h
    rw [h2] at h
    injection h with h
    injection h with _ h3
    exact hT h3.symm
theorem stgS_nil (B : Nat) (w : World) : StgS B w (.slice none 0 0) [] := CellsS.nil B w
theorem keyS_nil (B : Nat) (w : World) : KeyRS B w (.slice none 0 0) [] := CellsS.nil B w
theorem zeroBy_ (w : World) : (zeroValue 62).run Try.prog w = .ok (.slice none 0 0) w := by kernel_rfl
theorem frmC_get {B : Nat} {w : World} {v : Value} {lv : List (Frm × Value)} (h1 : CellsS B w v lv.length (lv.flatMap frmC)) (hl : 0 < lv.length) :
    ∃ b off cap, v = .slice (some ⟨b, off, none⟩) lv.length cap ∧ b < B ∧ lv.length ≤ maxLen ∧ ∀ k (hk : k < lv.length) (W : World), Below B w W →
      W.cell? ⟨b, off + k * 2, none⟩ = some (.int .i64 lv[k].1.univ) ∧ W.cell? ⟨b, off + k * 2 + 1, none⟩ = some lv[k].2 := by
  obtain ⟨b, off, cap, rfl, h3, h4, h5⟩ := CellsS.rec h1 (n := 2) (fun _ => rfl) hl
  refine ⟨b, off, cap, rfl, h3, h4, fun k hk W hW => ?_⟩
  exact ⟨(hW.cell (p := ⟨b, off + k * 2, none⟩) h3).trans (h5 k hk 0 _ (by omega) rfl), (hW.cell (p := ⟨b, off + k * 2 + 1, none⟩) h3).trans (h5 k hk 1 _ (by omega) rfl)⟩
theorem put_rev {fl : List (Frm × Value)} {k : Nat} (h : k < fl.length) {f : Lit → Option Value} (hf : ∀ U : Int, f (.int .i64 U) = ((fl.take k).reverse.find? (isF U)).map (·.2)) : ∀ U : Int, putF f (.int .i64 fl[k].1.univ) fl[k].2 (.int .i64 U) = ((fl.take (k + 1)).reverse.find? (isF U)).map (·.2) := by
  intro U
  rw [rev_snoc _ _ _ h]
  by_cases c : fl[k].1.univ = U
  · rw [← c, putF_same (keyLitI_ _), if_pos (by simp [isF])]; rfl
  · rw [putF_other (litI_ne (Ne.symm c)), if_neg (by simp [isF, c]), hf]
theorem setV_len {x : Rig} (h : chkRig x = 0) (l : List Frm) (k : Nat) : ((x.units.take k).flatMap (setU x.lib l)).length ≤ 16000 := by
  have h1 := flat_le (setU x.lib l) 40 (x.units.take k) (fun u hu => setU_len h l (List.mem_of_mem_take hu))
  have h2 := (chkRig_zero h).2.1
  rw [List.length_take] at h1
  omega
theorem setU_none {lib : List Prf} {l : List Frm} {u : Unt} (h : l.find? (isU u) = none) : setU lib l u = [] := by unfold setU; rw [h]
theorem setU_some {lib : List Prf} {l : List Frm} {u : Unt} {f : Frm} {p : Prf} (h : l.find? (isU u) = some f) (hp : profOf lib u.nm = some p) : setU lib l u = p.pars.map (setO u f) := by unfold setU parsOf; rw [h, hp]; rfl
theorem at_val {f : Frm} {b : Nat} (hb : b < f.sl.length) {i : Int} (hi : i = (b : Int)) : atF f i = f.sl[b] := by
  subst hi
  unfold atF
  rw [List.getD_eq_getElem?_getD, Int.toNat_natCast, List.getElem?_eq_getElem hb]; rfl
end Go.Proofs.Ytabalicembhjmaa

namespace Go.Proofs.Ytabalicembhjmaa
open Go.RowKit
set_option linter.unusedVariables false
set_option linter.unusedSimpArgs false

theorem TBox.set3 {W : World} {g : Nat} {T : TypeId} {a b c u0 u1 u2 : Value} (h : TBox W g T #[a, b, c]) : TBox (((W.setCell ⟨g, 0, none⟩ u0).setCell ⟨g, 1, none⟩ u1).setCell ⟨g, 2, none⟩ u2) g T #[u0, u1, u2] := by
  have hl := h.lt
  unfold TBox at *
  have k1 := heap_setCell_same _ _ 0 _ _ u0 h
  have k2 := heap_setCell_same _ _ 1 _ _ u1 k1
  have k3 := heap_setCell_same _ _ 2 _ _ u2 k2
  simpa using k3
theorem TBox.drew {W : World} {g : Nat} {T : TypeId} {cs : Array Value} (h : TBox W g T cs) : TBox W.drew g T cs := h
def findO (x : Rig) (n : Int) (nm : List UInt8) : Option Par := match x.units.find? (isNo n) with
  | none => none
  | some u => parOf (parsOf x.lib u) nm
theorem find_no {l : List Unt} {n : Int} (h : hasU l n = false) : l.find? (isNo n) = none := by
  rw [List.find?_eq_none]
  intro u hu c
  have : hasU l n = true := List.any_eq_true.2 ⟨u, hu, c⟩
  rw [this] at h; cases h
theorem find_pos {l : List Unt} (ha : AscU l) {n : Int} (h : hasU l n = true) : ∃ hp : posU l n < l.length, l.find? (isNo n) = some (l[posU l n]'hp) ∧ (l[posU l n]'hp).num = n := by
  obtain ⟨hp, h1⟩ := (hasU_at ha n).1 h
  refine ⟨hp, ?_, h1⟩
  have h2 := (idxU_has ha n).1 h
  rcases idxF_spec (isNo n) l with ⟨h3, _⟩ | ⟨k, hk, h3, h4⟩
  · unfold idxU at h2; rw [h3] at h2; omega
  · unfold idxU at h2
    rw [h3] at h2
    have : k = posU l n := by omega
    subst this
    exact h4
theorem findO_no {x : Rig} {n : Int} (h : hasU x.units n = false) (nm : List UInt8) : findO x n nm = none := by unfold findO; rw [find_no h]
theorem findO_yes {x : Rig} (hx : chkRig x = 0) {n : Int} (h : hasU x.units n = true) (nm : List UInt8) : ∃ (hp : posU x.units n < x.units.length) (p : Prf), (x.units[posU x.units n]'hp).num = n ∧ profOf x.lib (x.units[posU x.units n]'hp).nm = some p ∧ findO x n nm = parOf p.pars nm := by
  obtain ⟨hp, h1, h2⟩ := find_pos (asc_units hx) h
  obtain ⟨p, h3, _⟩ := par_right hx (List.getElem_mem hp)
  refine ⟨hp, p, h2, h3, ?_⟩
  unfold findO parsOf
  rw [h1]
  simp only [h3]
  rfl
end Go.Proofs.Ytabalicembhjmaa

namespace Go.Proofs.Ytabalicembhjmaa
open Go.ChangeShapes Go.WideShapes Go.RowKit Go.Deep
set_option linter.unusedSimpArgs false
set_option linter.unusedVariables false

def KeyFit (k : Int × ByteArray) : Prop := I64 k.1 ∧ k.2.size ≤ maxLen
def keyL (k : Int × ByteArray) : Lit := .string (keyBytes [.int .i64 k.1, .string k.2.data.toList])
def keyV (k : Int × ByteArray) : Value := .agg #[.int .i64 k.1, .string k.2]

theorem cellsInt_ : Try.prog.cellsOf 3 = 1 := by kernel_rfl
theorem cellsString_ : Try.prog.cellsOf 9 = 1 := by kernel_rfl
/-! ### keys of maps -/
theorem laidOut_ : laidOutB Try.prog = true := by kernel_rfl
theorem keyRow_ : (33 : TypeId) < Try.prog.types.size := of_decide_eq_true (by kernel_rfl)
theorem keyAt2_ : Try.prog.keyTypeAt 2 33 = true := by kernel_rfl
theorem keyWide_ : (match Try.prog.underlying 33 with | some (.array _ _) | some (.struct _) => true | _ => false) = true := by kernel_rfl
set_option maxRecDepth 100000 in
theorem keyLaw_ : WideMaps.KeyLaw Try.prog 33 := deep_law_laid laidOut_ (m := 2) (by omega) keyRow_ keyAt2_ keyWide_
theorem keyed_ : Maps.Keyed Try.prog 33 := Maps.Keyed.of_law keyLaw_
theorem keyType_ : Try.prog.keyType 33 = true := by kernel_rfl
theorem keyCells_ : Try.prog.cellsOf 33 = 2 := by kernel_rfl
theorem i64_wf {a : Int} (h : I64 a) : (Lit.int .i64 a).wf = true := by
  unfold I64 at h
  simp [Lit.wf, IntKind.min, IntKind.max, IntKind.signed, IntKind.bits]
  omega
theorem keyLits_ (d : Nat) {k : Int × ByteArray} (h : KeyFit k) : Try.prog.keyLits (d + 2) 33 [.int .i64 k.1, .string k.2] = some [.int .i64 k.1, .string k.2.data.toList] := by
  obtain ⟨h1, h2⟩ := h
  have hw := i64_wf h1
  unfold Program.keyLits
  rw [Try.underlying33]
  simp [keyCells_, cellsInt_, Program.keyLits, Try.underlying3, Try.underlying9, hw, h2, cellsString_]
theorem keyFormed_ (k : Int × ByteArray) : (keyV k).formed Try.prog 33 = true := by
  unfold keyV Value.formed
  rw [Try.underlying33]
  simp [keyCells_]
theorem keyOf_key {k : Int × ByteArray} (h : KeyFit k) : keyOf Try.prog 33 (keyV k) = some (keyL k) := by
  unfold keyOf
  rw [Try.underlying33]
  simp only [keyType_, keyFormed_, Bool.and_self, if_true]
  obtain ⟨d, hd⟩ : ∃ d, Try.prog.types.size + 1 = d + 2 := by
    have h0 : (33 : Nat) < Try.prog.types.size := keyRow_
    generalize Try.prog.types.size = n at h0 ⊢
    exact ⟨n - 1, by omega⟩
  rw [hd, show (keyV k).cells.toList = [.int .i64 k.1, .string k.2] from rfl, keyLits_ d h]
  rfl
theorem keyL_inj {a b : Int × ByteArray} (ha : KeyFit a) (hb : KeyFit b) (h : keyL a = keyL b) : a = b := by
  have h1 := keyOf_key ha
  have h2 := keyOf_key hb
  rw [← h] at h2
  have h3 := keyed_.inj h1 h2
  unfold keyV at h3
  simp at h3
  obtain ⟨x, y⟩ := a
  obtain ⟨z, u⟩ := b
  obtain ⟨h4, h5⟩ := h3
  simp at h4 h5
  rw [h4, h5]
end Go.Proofs.Ytabalicembhjmaa

namespace Go.Proofs.Ytabalicembhjmaa
open Go.RowKit
set_option linter.unusedVariables false
set_option linter.unusedSimpArgs false

instance decBytes : DecidableEq ByteArray := fun a b => if h : a.data = b.data then isTrue (ByteArray.ext h) else isFalse (fun e => h (by rw [e]))
def Stg.k (s : Stg) : Int × ByteArray := (s.unit, s.par)
def isK (k : Int × ByteArray) (s : Stg) : Bool := decide (s.k = k)
def stgF (x : Rig) (pre : List Stg) (s : Stg) : Int :=
  if (findO x s.unit s.par.data.toList).isNone then 8 else if !inR s.lv 0 65535 then 1 else if pre.any (isK s.k) then 6 else 0
def chkStgs (x : Rig) (l : List Stg) : Int := scanF (stgF x) l 0
def lvV (s : Stg) : Value := .int .i64 s.lv
theorem rev_some_iff (l : List Stg) (k : Int × ByteArray) : (l.reverse.find? (isK k)).isSome = l.any (isK k) := by
  rw [Bool.eq_iff_iff, List.find?_isSome, List.any_eq_true]
  constructor
  · rintro ⟨s, hs, h⟩
    exact ⟨s, List.mem_reverse.1 hs, h⟩
  · rintro ⟨s, hs, h⟩
    exact ⟨s, List.mem_reverse.2 hs, h⟩
theorem keyS_fit {s : Stg} (h : StgFit s) : KeyFit s.k := ⟨h.1, h.2.1⟩
theorem put_key {l : List Stg} {j : Nat} (h : j < l.length) (hf : ∀ s ∈ l, StgFit s) {f : Lit → Option Value} (hr : ∀ k, KeyFit k → f (keyL k) = ((l.take j).reverse.find? (isK k)).map lvV) :
    ∀ k, KeyFit k → putF f (keyL l[j].k) (lvV l[j]) (keyL k) = ((l.take (j + 1)).reverse.find? (isK k)).map lvV := by
  intro k hk
  rw [rev_snoc _ _ _ h]
  have hfj := keyS_fit (hf _ (List.getElem_mem h))
  by_cases c : l[j].k = k
  · rw [← c, putF_same (keyed_.key (keyOf_key hfj)), if_pos (by simp [isK])]; rfl
  · rw [putF_other (fun e => c (keyL_inj hk hfj e).symm), if_neg (by simp [isK, c]), hr k hk]
end Go.Proofs.Ytabalicembhjmaa
