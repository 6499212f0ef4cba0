/- FromOctet of both sides; slices.Equal at alike settings, keys, units, ranges. (printed by wip/gen/gen_setfns.py) Own rows of settings and of keys, an append of one as one step; the frames of a map. (printed by wip/gen/gen_setown.py) -/
import Derived.Test.YtabalicembhjmaaT32M17
import Derived.Test.YtabalicembhjmaaT32M09
import Derived.OwnWalk
import Derived.Laws.AppendOwn

namespace Go.Proofs.Ytabalicembhjmaa
open Go.RowKit
set_option linter.unusedVariables false
set_option linter.unusedSimpArgs false

structure KeyR where
  unit : Int
  par : ByteArray
instance : Inhabited KeyR := ⟨⟨0, ByteArray.empty⟩⟩
def keyC (s : KeyR) : List Value := [.int .i64 s.unit, .string s.par]
def KeyRS (B : Nat) (w : World) (v : Value) (l : List KeyR) : Prop := CellsS B w v l.length (l.flatMap keyC)
theorem KeyRS.below {B : Nat} {w w' : World} {v : Value} {l : List KeyR} (h : KeyRS B w v l) (hb : Below B w w') : KeyRS B w' v l := CellsS.below h hb
theorem KeyRS.more {B B' : Nat} {w : World} {v : Value} {l : List KeyR} (h : KeyRS B w v l) (hB : B ≤ B') : KeyRS B' w v l := CellsS.more h hB
theorem KeyRS.get {B : Nat} {w : World} {v : Value} {l : List KeyR} (h : KeyRS B w v l) (hl : 0 < l.length) :
    ∃ b off cap, v = .slice (some ⟨b, off, none⟩) l.length cap ∧ b < B ∧ l.length ≤ maxLen ∧ ∀ k (hk : k < l.length) (W : World), Below B w W →
      W.cell? ⟨b, off + k * 2, none⟩ = some (.int .i64 l[k].unit) ∧ W.cell? ⟨b, off + k * 2 + 1, none⟩ = some (.string l[k].par) := by
  obtain ⟨b, off, cap, rfl, h1, h2, h3⟩ := CellsS.rec h (n := 2) (fun _ => rfl) hl
  refine ⟨b, off, cap, rfl, h1, h2, fun k hk W hW => ?_⟩
  exact ⟨(hW.cell (p := ⟨b, off + k * 2, none⟩) h1).trans (h3 k hk 0 _ (by omega) rfl), (hW.cell (p := ⟨b, off + k * 2 + 1, none⟩) h1).trans (h3 k hk 1 _ (by omega) rfl)⟩
set_option maxHeartbeats 400000 in
theorem fromOct_any (b : Int) (h0 : 0 ≤ b) (h1 : b ≤ 255) (w : World) : Calls Try.prog 31 #[.int .u8 b] w fun e w' => e = .returned (.int .i64 (b * 257)) ∧ w = w' := by
  have e1 : IntKind.i64.wrap b = b := IntWalk.i64_in _ (by omega)
  have e2 : IntKind.i64.wrap (b * 257) = b * 257 := IntWalk.i64_in _ (by omega)
  have e3 : wrap64 (b * 257) = b * 257 := IntWalk.wrap64_in _ (by omega)
  go_enter Try.func31, Try.ntmps31
  go_wp2_with fail
  go_ret
  exact ⟨rfl, rfl⟩
set_option maxHeartbeats 400000 in
theorem rfromOct_any (b : Int) (h0 : 0 ≤ b) (h1 : b ≤ 255) (w : World) : Calls Try.prog 35 #[.int .u8 b] w fun e w' => e = .returned (.int .i64 (b * 257)) ∧ w = w' := by
  have e1 : IntKind.i64.wrap b = b := IntWalk.i64_in _ (by omega)
  have e2 : IntKind.i64.wrap (b * 257) = b * 257 := IntWalk.i64_in _ (by omega)
  have e3 : wrap64 (b * 257) = b * 257 := IntWalk.wrap64_in _ (by omega)
  go_enter Try.func35, Try.ntmps35
  go_wp2_with fail
  go_ret
  exact ⟨rfl, rfl⟩
set_option maxHeartbeats 2000000 in
theorem settings_equal (v u : Value) (l : List Stg) (w : World) (hv : StgS w.heap.size w v l) (hu : StgS w.heap.size w u l) :
    Calls Try.prog 12 #[v, u] w fun e w' => e = .returned (.bool true) ∧ Below w.heap.size w w' := by
  have HX := Lib.hid (StgS.get hv)
  have HY := Lib.hid (StgS.get hu)
  have hl : l.length ≤ 9223372036854775807 := by
    have h := CellsS.len hv
    unfold maxLen at h
    omega
  obtain ⟨ao, cap, rfl, _⟩ := CellsS.shape hv
  obtain ⟨bo, cap2, rfl, _⟩ := CellsS.shape hu
  clear hv hu
  go_enter Try.func12, Try.ntmps12
  go_wp2
  go_loopw [13] (fun i wr => ∃ k : Nat, k ≤ l.length ∧ i = .int .i64 k ∧ ∃ n, wr = w.drewN n) (fun i _ => l.length - (intOf i).toNat)
  case atStart => exact ⟨0, Nat.zero_le _, rfl, 0, rfl⟩
  case round =>
    obtain ⟨k, hk, rfl, n, rfl⟩ := hrel
    by_cases hlt : k < l.length
    · obtain ⟨b, off, _, e0, hbb, _, hc⟩ := HX.out (by omega)
      injection e0 with e1 _ e3
      subst e1 e3
      obtain ⟨b', off', _, e0, hbb', _, hc'⟩ := HY.out (by omega)
      injection e0 with e1 _ e3
      subst e1 e3
      obtain ⟨c0, c1, c2⟩ := hc k hlt w (Below.refl _ _)
      obtain ⟨d0, d1, d2⟩ := hc' k hlt w (Below.refl _ _)
      clear hc hc' HX HY
      generalize l[k].unit = z0 at *
      generalize l[k].par = z1 at *
      generalize l[k].lv = z2 at *
      go_wp2
      go_quiet (fail)
      go_wp2
      go_roundw
      case rel => exact ⟨k + 1, by omega, by go_num, _, rfl⟩
      case measure => simp [intOf]; omega
    · obtain rfl : k = l.length := by omega
      go_wp2
      go_ret
      exact ⟨rfl, bel_drewF (Below.refl _ _) _⟩
set_option maxHeartbeats 2000000 in
theorem keys_equal (v u : Value) (l : List KeyR) (w : World) (hv : KeyRS w.heap.size w v l) (hu : KeyRS w.heap.size w u l) :
    Calls Try.prog 20 #[v, u] w fun e w' => e = .returned (.bool true) ∧ Below w.heap.size w w' := by
  have HX := Lib.hid (KeyRS.get hv)
  have HY := Lib.hid (KeyRS.get hu)
  have hl : l.length ≤ 9223372036854775807 := by
    have h := CellsS.len hv
    unfold maxLen at h
    omega
  obtain ⟨ao, cap, rfl, _⟩ := CellsS.shape hv
  obtain ⟨bo, cap2, rfl, _⟩ := CellsS.shape hu
  clear hv hu
  go_enter Try.func20, Try.ntmps20
  go_wp2
  go_loopw [13] (fun i wr => ∃ k : Nat, k ≤ l.length ∧ i = .int .i64 k ∧ ∃ n, wr = w.drewN n) (fun i _ => l.length - (intOf i).toNat)
  case atStart => exact ⟨0, Nat.zero_le _, rfl, 0, rfl⟩
  case round =>
    obtain ⟨k, hk, rfl, n, rfl⟩ := hrel
    by_cases hlt : k < l.length
    · obtain ⟨b, off, _, e0, hbb, _, hc⟩ := HX.out (by omega)
      injection e0 with e1 _ e3
      subst e1 e3
      obtain ⟨b', off', _, e0, hbb', _, hc'⟩ := HY.out (by omega)
      injection e0 with e1 _ e3
      subst e1 e3
      obtain ⟨c0, c1⟩ := hc k hlt w (Below.refl _ _)
      obtain ⟨d0, d1⟩ := hc' k hlt w (Below.refl _ _)
      clear hc hc' HX HY
      generalize l[k].unit = z0 at *
      generalize l[k].par = z1 at *
      go_wp2
      go_quiet (fail)
      go_wp2
      go_roundw
      case rel => exact ⟨k + 1, by omega, by go_num, _, rfl⟩
      case measure => simp [intOf]; omega
    · obtain rfl : k = l.length := by omega
      go_wp2
      go_ret
      exact ⟨rfl, bel_drewF (Below.refl _ _) _⟩
set_option maxHeartbeats 2000000 in
theorem units_equal (v u : Value) (l : List Unt) (w : World) (hv : UntS w.heap.size w v l) (hu : UntS w.heap.size w u l) :
    Calls Try.prog 59 #[v, u] w fun e w' => e = .returned (.bool true) ∧ Below w.heap.size w w' := by
  have HX := Lib.hid (UntS.get hv)
  have HY := Lib.hid (UntS.get hu)
  have hl : l.length ≤ 9223372036854775807 := by
    have h := CellsS.len hv
    unfold maxLen at h
    omega
  obtain ⟨ao, cap, rfl, _⟩ := CellsS.shape hv
  obtain ⟨bo, cap2, rfl, _⟩ := CellsS.shape hu
  clear hv hu
  go_enter Try.func59, Try.ntmps59
  go_wp2
  go_loopw [13] (fun i wr => ∃ k : Nat, k ≤ l.length ∧ i = .int .i64 k ∧ ∃ n, wr = w.drewN n) (fun i _ => l.length - (intOf i).toNat)
  case atStart => exact ⟨0, Nat.zero_le _, rfl, 0, rfl⟩
  case round =>
    obtain ⟨k, hk, rfl, n, rfl⟩ := hrel
    by_cases hlt : k < l.length
    · obtain ⟨b, off, _, e0, hbb, _, hc⟩ := HX.out (by omega)
      injection e0 with e1 _ e3
      subst e1 e3
      obtain ⟨b', off', _, e0, hbb', _, hc'⟩ := HY.out (by omega)
      injection e0 with e1 _ e3
      subst e1 e3
      obtain ⟨c0, c1, c2, c3⟩ := hc k hlt w (Below.refl _ _)
      obtain ⟨d0, d1, d2, d3⟩ := hc' k hlt w (Below.refl _ _)
      clear hc hc' HX HY
      generalize l[k].num = z0 at *
      generalize l[k].prof = z1 at *
      generalize l[k].univ = z2 at *
      generalize l[k].addr = z3 at *
      go_wp2
      go_quiet (fail)
      go_wp2
      go_roundw
      case rel => exact ⟨k + 1, by omega, by go_num, _, rfl⟩
      case measure => simp [intOf]; omega
    · obtain rfl : k = l.length := by omega
      go_wp2
      go_ret
      exact ⟨rfl, bel_drewF (Below.refl _ _) _⟩
set_option maxHeartbeats 2000000 in
theorem ranges_equal (v u : Value) (l : List Rng) (w : World) (hv : RngS w.heap.size w v l) (hu : RngS w.heap.size w u l) :
    Calls Try.prog 118 #[v, u] w fun e w' => e = .returned (.bool true) ∧ Below w.heap.size w w' := by
  have HX := Lib.hid (RngS.get hv)
  have HY := Lib.hid (RngS.get hu)
  have hl : l.length ≤ 9223372036854775807 := by
    have h := CellsS.len hv
    unfold maxLen at h
    omega
  obtain ⟨ao, cap, rfl, _⟩ := CellsS.shape hv
  obtain ⟨bo, cap2, rfl, _⟩ := CellsS.shape hu
  clear hv hu
  go_enter Try.func118, Try.ntmps118
  go_wp2
  go_loopw [13] (fun i wr => ∃ k : Nat, k ≤ l.length ∧ i = .int .i64 k ∧ ∃ n, wr = w.drewN n) (fun i _ => l.length - (intOf i).toNat)
  case atStart => exact ⟨0, Nat.zero_le _, rfl, 0, rfl⟩
  case round =>
    obtain ⟨k, hk, rfl, n, rfl⟩ := hrel
    by_cases hlt : k < l.length
    · obtain ⟨b, off, _, e0, hbb, _, hc⟩ := HX.out (by omega)
      injection e0 with e1 _ e3
      subst e1 e3
      obtain ⟨b', off', _, e0, hbb', _, hc'⟩ := HY.out (by omega)
      injection e0 with e1 _ e3
      subst e1 e3
      obtain ⟨c0, c1, c2⟩ := hc k hlt w (Below.refl _ _)
      obtain ⟨d0, d1, d2⟩ := hc' k hlt w (Below.refl _ _)
      clear hc hc' HX HY
      generalize l[k].low = z0 at *
      generalize l[k].high = z1 at *
      generalize l[k].name = z2 at *
      go_wp2
      go_quiet (fail)
      go_wp2
      go_roundw
      case rel => exact ⟨k + 1, by omega, by go_num, _, rfl⟩
      case measure => simp [intOf]; omega
    · obtain rfl : k = l.length := by omega
      go_wp2
      go_ret
      exact ⟨rfl, bel_drewF (Below.refl _ _) _⟩
end Go.Proofs.Ytabalicembhjmaa

namespace Go.Proofs.Ytabalicembhjmaa
open Go.RowKit
open Go (info_parts)
set_option linter.unusedVariables false
set_option linter.unusedSimpArgs false

def OwnS (base : Nat) (w : World) (v : Value) (l : List Stg) : Prop := w.ownsRow base 35 3 v l.length (l.flatMap stgC)
theorem OwnS.nil (base : Nat) (w : World) : OwnS base w (.slice none 0 0) [] := World.ownsRow_nil w base _ _
theorem OwnS.shape {base : Nat} {w : World} {v : Value} {l : List Stg} (h : OwnS base w v l) : ∃ ao cap, v = .slice ao l.length cap := by
  rcases h.2 with h' | ⟨g, cap, cur, e1, _⟩
  · exact ⟨none, 0, by rw [h'.1, h'.2]⟩
  · exact ⟨_, cap, e1⟩
theorem OwnS.below {base : Nat} {w w' : World} {v : Value} {l : List Stg} (h : OwnS base w v l) (hb : Below w.heap.size w w') : OwnS base w' v l := by
  refine ⟨h.1, ?_⟩
  rcases h.2 with h' | ⟨g, cap, cur, e1, h1, h2, h3⟩
  · exact .inl h'
  · exact .inr ⟨g, cap, cur, e1, h1, (hb.block g (World.ownsRow.lt h g (by rw [e1]; rfl)).2).trans h2, h3⟩
theorem OwnS.keeps {B base : Nat} {a w w' : World} {v : Value} {l : List Stg} (ho : OwnS base w v l) (h : Below B a w) (g : w.grownBy w' v.ownBlock) (hB : B ≤ base) (hs : B ≤ w.heap.size) : Below B a w' :=
  h.grown g hs (fun k hk => by have := (World.ownsRow.lt ho k hk).1; omega)
theorem infoOwnS : (Try.prog.info? 35).map (fun i => (i.zero, i.size, i.bytes)) = some (some (.agg #[.int .i64 0, .string ⟨#[]⟩, .int .i64 0]), 3, 32) := by kernel_rfl
theorem wpList_ownS {w : World} {ops : Array Oper} {rest : List Oper} {o : Oper} {a : Act} {Q : Exit → Act → World → Prop} (hgd : o.guard = none) (s x : Operand)
    (hop : o.op = .call { callee := .builtin .append, args := #[s, x], argTypes := #[27, 27] })
    (base c : Nat) (v : Value) (l : List Stg) (y : Stg) (ad : Addr) (hs : a.eval s = v) (hx : a.eval x = .slice (some ad) 1 c)
    (ho : OwnS base w v l) (hc : ∀ (j : Nat) u, (stgC y)[j]? = some u → w.cell? (ad.add j) = some u) (hl : l.length ≤ 10000000) (hb : base ≤ w.heap.size)
    (h : ∀ v' w', OwnS base w' v' (l ++ [y]) → w.grownBy w' v.ownBlock → wpList Try.prog ops Q rest (a.put o.dst v') w') : wpList Try.prog ops Q (o :: rest) a w := by
  obtain ⟨i0, hi, hz0, hz1, hz2⟩ := info_parts infoOwnS
  refine wpList_append_own w hgd s x 27 hop base 35 i0 (.agg #[.int .i64 0, .string ⟨#[]⟩, .int .i64 0]) 3 32 Try.underlying27 hi hz0 hz1 hz2 rfl (by decide) v l.length (l.flatMap stgC) hs ho ad 1 c (stgC y) hx rfl hc (by intro u hu; simp [stgC] at hu; rcases hu with rfl | rfl | rfl <;> rfl) (by unfold maxLen; omega) (by omega) hb ?_
  intro v' w' h1 h2 _
  refine h v' w' ?_ h2
  unfold OwnS
  rw [List.flatMap_append, List.length_append]
  simpa using h1
theorem ownS_new (w : World) (y : Stg) (T : TypeId) : ∀ (j : Nat) u, (stgC y)[j]? = some u → (w.alloc (.cells #[.int .i64 y.unit, .string y.par, .int .i64 y.lv] T)).cell? ((⟨w.heap.size, 0, none⟩ : Addr).add j) = some u := by
  intro j u hu
  match j, hu with
  | 0, hu => simp [stgC] at hu; subst hu; simp [Addr.add, go_sem]
  | 1, hu => simp [stgC] at hu; subst hu; simp [Addr.add, go_sem]
  | 2, hu => simp [stgC] at hu; subst hu; simp [Addr.add, go_sem]
  | j + 3, hu => simp [stgC] at hu
def OwnK (base : Nat) (w : World) (v : Value) (l : List KeyR) : Prop := w.ownsRow base 33 2 v l.length (l.flatMap keyC)
theorem OwnK.nil (base : Nat) (w : World) : OwnK base w (.slice none 0 0) [] := World.ownsRow_nil w base _ _
theorem OwnK.shape {base : Nat} {w : World} {v : Value} {l : List KeyR} (h : OwnK base w v l) : ∃ ao cap, v = .slice ao l.length cap := by
  rcases h.2 with h' | ⟨g, cap, cur, e1, _⟩
  · exact ⟨none, 0, by rw [h'.1, h'.2]⟩
  · exact ⟨_, cap, e1⟩
theorem OwnK.below {base : Nat} {w w' : World} {v : Value} {l : List KeyR} (h : OwnK base w v l) (hb : Below w.heap.size w w') : OwnK base w' v l := by
  refine ⟨h.1, ?_⟩
  rcases h.2 with h' | ⟨g, cap, cur, e1, h1, h2, h3⟩
  · exact .inl h'
  · exact .inr ⟨g, cap, cur, e1, h1, (hb.block g (World.ownsRow.lt h g (by rw [e1]; rfl)).2).trans h2, h3⟩
theorem OwnK.keeps {B base : Nat} {a w w' : World} {v : Value} {l : List KeyR} (ho : OwnK base w v l) (h : Below B a w) (g : w.grownBy w' v.ownBlock) (hB : B ≤ base) (hs : B ≤ w.heap.size) : Below B a w' :=
  h.grown g hs (fun k hk => by have := (World.ownsRow.lt ho k hk).1; omega)
theorem infoOwnK : (Try.prog.info? 33).map (fun i => (i.zero, i.size, i.bytes)) = some (some (.agg #[.int .i64 0, .string ⟨#[]⟩]), 2, 24) := by kernel_rfl
theorem wpList_ownK {w : World} {ops : Array Oper} {rest : List Oper} {o : Oper} {a : Act} {Q : Exit → Act → World → Prop} (hgd : o.guard = none) (s x : Operand)
    (hop : o.op = .call { callee := .builtin .append, args := #[s, x], argTypes := #[47, 47] })
    (base c : Nat) (v : Value) (l : List KeyR) (y : KeyR) (ad : Addr) (hs : a.eval s = v) (hx : a.eval x = .slice (some ad) 1 c)
    (ho : OwnK base w v l) (hc : ∀ (j : Nat) u, (keyC y)[j]? = some u → w.cell? (ad.add j) = some u) (hl : l.length ≤ 10000000) (hb : base ≤ w.heap.size)
    (h : ∀ v' w', OwnK base w' v' (l ++ [y]) → w.grownBy w' v.ownBlock → wpList Try.prog ops Q rest (a.put o.dst v') w') : wpList Try.prog ops Q (o :: rest) a w := by
  obtain ⟨i0, hi, hz0, hz1, hz2⟩ := info_parts infoOwnK
  refine wpList_append_own w hgd s x 47 hop base 33 i0 (.agg #[.int .i64 0, .string ⟨#[]⟩]) 2 24 Try.underlying47 hi hz0 hz1 hz2 rfl (by decide) v l.length (l.flatMap keyC) hs ho ad 1 c (keyC y) hx rfl hc (by intro u hu; simp [keyC] at hu; rcases hu with rfl | rfl <;> rfl) (by unfold maxLen; omega) (by omega) hb ?_
  intro v' w' h1 h2 _
  refine h v' w' ?_ h2
  unfold OwnK
  rw [List.flatMap_append, List.length_append]
  simpa using h1
theorem ownK_new (w : World) (y : KeyR) (T : TypeId) : ∀ (j : Nat) u, (keyC y)[j]? = some u → (w.alloc (.cells #[.int .i64 y.unit, .string y.par] T)).cell? ((⟨w.heap.size, 0, none⟩ : Addr).add j) = some u := by
  intro j u hu
  match j, hu with
  | 0, hu => simp [keyC] at hu; subst hu; simp [Addr.add, go_sem]
  | 1, hu => simp [keyC] at hu; subst hu; simp [Addr.add, go_sem]
  | j + 2, hu => simp [keyC] at hu
theorem OwnS.stgS {base : Nat} {w : World} {v : Value} {l : List Stg} (h : OwnS base w v l) : StgS w.heap.size w v l := CellsS.of_own h
theorem OwnK.keyS {base : Nat} {w : World} {v : Value} {l : List KeyR} (h : OwnK base w v l) : KeyRS w.heap.size w v l := CellsS.of_own h

/-! ### frames kept in a map: what the map says is what a search says -/
def isF (U : Int) (y : Frm × Value) : Bool := decide (y.1.univ = U)
theorem rev_snoc {α : Type} (p : α → Bool) (l : List α) (k : Nat) (h : k < l.length) : (l.take (k + 1)).reverse.find? p = if p l[k] then some l[k] else (l.take k).reverse.find? p := by
  rw [List.take_succ_eq_append_getElem h, List.reverse_append]
  simp [List.find?_cons]
  cases p l[k] <;> simp
theorem find_rev {l : List Frm} (h : chkFrms l = 0) (U : Int) : l.reverse.find? (fun f => decide (f.univ = U)) = l.find? (fun f => decide (f.univ = U)) := by
  rw [← List.head?_filter, List.filter_reverse, filter_one U l (frms_pair h), ]
  cases l.find? (fun f => decide (f.univ = U)) <;> rfl
theorem rev_none {lv : List (Frm × Value)} (h : chkFrms (lv.map (·.1)) = 0) (U : Int) (hn : lv.reverse.find? (isF U) = none) : (lv.map (·.1)).find? (fun f => decide (f.univ = U)) = none := by
  rw [← find_rev h, ← List.map_reverse, List.find?_map]
  have : (fun f : Frm => decide (f.univ = U)) ∘ (·.1) = isF U := rfl
  rw [this, hn]; rfl
theorem rev_some {lv : List (Frm × Value)} (h : chkFrms (lv.map (·.1)) = 0) (U : Int) {y : Frm × Value} (hn : lv.reverse.find? (isF U) = some y) : (lv.map (·.1)).find? (fun f => decide (f.univ = U)) = some y.1 ∧ y ∈ lv := by
  refine ⟨?_, List.mem_reverse.1 (List.mem_of_find?_eq_some hn)⟩
  rw [← find_rev h, ← List.map_reverse, List.find?_map]
  have : (fun f : Frm => decide (f.univ = U)) ∘ (·.1) = isF U := rfl
  rw [this, hn]; rfl
end Go.Proofs.Ytabalicembhjmaa
