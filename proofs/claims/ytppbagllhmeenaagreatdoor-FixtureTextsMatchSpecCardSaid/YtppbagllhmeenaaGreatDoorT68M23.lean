/- FromOctet of both sides; slices.Equal at alike settings, keys, units, ranges. (printed by wip/gen/gen_setfns.py) Own rows of settings and of keys, an append of one as one step; the frames of a map. (printed by wip/gen/gen_setown.py) Look-ups and stores of a map of marks as run equations. No walk in it. -/
import Derived.Test.YtppbagllhmeenaaGreatDoorT68M20
import Derived.Test.YtppbagllhmeenaaGreatDoorT68M22
import Derived.OwnWalk
import Derived.Laws.AppendOwn
import Derived.Test.YtppbagllhmeenaaGreatDoorT68M21

namespace Go.Proofs.YtppbagllhmeenaaGreatDoor
open Go.RowKit
set_option linter.unusedVariables false
set_option linter.unusedSimpArgs false

structure KeyR where
  unit : Int
  par : ByteArray
instance : Inhabited KeyR := ⟨⟨0, ByteArray.empty⟩⟩
def keyC (s : KeyR) : List Value := [.int .i64 s.unit, .string s.par]
def KeyRS (B : Nat) (w : World) (v : Value) (l : List KeyR) : Prop := CellsS B w v l.length (l.flatMap keyC)
theorem KeyRS.below {B : Nat} {w w' : World} {v : Value} {l : List KeyR} (h : KeyRS B w v l) (hb : Below B w w') : KeyRS B w' v l := CellsS.below h hb
theorem KeyRS.more {B B' : Nat} {w : World} {v : Value} {l : List KeyR} (h : KeyRS B w v l) (hB : B ≤ B') : KeyRS B' w v l := CellsS.more h hB
theorem KeyRS.get {B : Nat} {w : World} {v : Value} {l : List KeyR} (h : KeyRS B w v l) (hl : 0 < l.length) :
    ∃ b off cap, v = .slice (some ⟨b, off, none⟩) l.length cap ∧ b < B ∧ l.length ≤ maxLen ∧ ∀ k (hk : k < l.length) (W : World), Below B w W →
      W.cell? ⟨b, off + k * 2, none⟩ = some (.int .i64 l[k].unit) ∧ W.cell? ⟨b, off + k * 2 + 1, none⟩ = some (.string l[k].par) := by
  obtain ⟨b, off, cap, rfl, h1, h2, h3⟩ := CellsS.rec h (n := 2) (fun _ => rfl) hl
  refine ⟨b, off, cap, rfl, h1, h2, fun k hk W hW => ?_⟩
  exact ⟨(hW.cell (p := ⟨b, off + k * 2, none⟩) h1).trans (h3 k hk 0 _ (by omega) rfl), (hW.cell (p := ⟨b, off + k * 2 + 1, none⟩) h1).trans (h3 k hk 1 _ (by omega) rfl)⟩
set_option maxHeartbeats 2000000 in
theorem units_equal (v u : Value) (l : List Unt) (w : World) (hv : UntS w.heap.size w v l) (hu : UntS w.heap.size w u l) :
    Calls Tryz.prog 29 #[v, u] w fun e w' => e = .returned (.bool true) ∧ Below w.heap.size w w' := by
  have HX := Lib.hid (UntS.get hv)
  have HY := Lib.hid (UntS.get hu)
  have hl : l.length ≤ 9223372036854775807 := by
    have h := CellsS.len hv
    unfold maxLen at h
    omega
  obtain ⟨ao, cap, rfl, _⟩ := CellsS.shape hv
  obtain ⟨bo, cap2, rfl, _⟩ := CellsS.shape hu
  clear hv hu
  go_enter Tryz.func29, Tryz.ntmps29
  go_wp2
  go_loopw [13] (fun i wr => ∃ k : Nat, k ≤ l.length ∧ i = .int .i64 k ∧ ∃ n, wr = w.drewN n) (fun i _ => l.length - (intOf i).toNat)
  case atStart => exact ⟨0, Nat.zero_le _, rfl, 0, rfl⟩
  case round =>
    obtain ⟨k, hk, rfl, n, rfl⟩ := hrel
    by_cases hlt : k < l.length
    · obtain ⟨b, off, _, e0, hbb, _, hc⟩ := HX.out (by omega)
      injection e0 with e1 _ e3
      subst e1 e3
      obtain ⟨b', off', _, e0, hbb', _, hc'⟩ := HY.out (by omega)
      injection e0 with e1 _ e3
      subst e1 e3
      obtain ⟨c0, c1, c2, c3⟩ := hc k hlt w (Below.refl _ _)
      obtain ⟨d0, d1, d2, d3⟩ := hc' k hlt w (Below.refl _ _)
      clear hc hc' HX HY
      generalize l[k].num = z0 at *
      generalize l[k].prof = z1 at *
      generalize l[k].univ = z2 at *
      generalize l[k].addr = z3 at *
      go_wp2
      go_quiet (fail)
      go_wp2
      go_roundw
      case rel => exact ⟨k + 1, by omega, by go_num, _, rfl⟩
      case measure => simp [intOf]; omega
    · obtain rfl : k = l.length := by omega
      go_wp2
      go_ret
      exact ⟨rfl, bel_drewF (Below.refl _ _) _⟩
set_option maxHeartbeats 2000000 in
theorem ranges_equal (v u : Value) (l : List Rng) (w : World) (hv : RngS w.heap.size w v l) (hu : RngS w.heap.size w u l) :
    Calls Tryz.prog 88 #[v, u] w fun e w' => e = .returned (.bool true) ∧ Below w.heap.size w w' := by
  have HX := Lib.hid (RngS.get hv)
  have HY := Lib.hid (RngS.get hu)
  have hl : l.length ≤ 9223372036854775807 := by
    have h := CellsS.len hv
    unfold maxLen at h
    omega
  obtain ⟨ao, cap, rfl, _⟩ := CellsS.shape hv
  obtain ⟨bo, cap2, rfl, _⟩ := CellsS.shape hu
  clear hv hu
  go_enter Tryz.func88, Tryz.ntmps88
  go_wp2
  go_loopw [13] (fun i wr => ∃ k : Nat, k ≤ l.length ∧ i = .int .i64 k ∧ ∃ n, wr = w.drewN n) (fun i _ => l.length - (intOf i).toNat)
  case atStart => exact ⟨0, Nat.zero_le _, rfl, 0, rfl⟩
  case round =>
    obtain ⟨k, hk, rfl, n, rfl⟩ := hrel
    by_cases hlt : k < l.length
    · obtain ⟨b, off, _, e0, hbb, _, hc⟩ := HX.out (by omega)
      injection e0 with e1 _ e3
      subst e1 e3
      obtain ⟨b', off', _, e0, hbb', _, hc'⟩ := HY.out (by omega)
      injection e0 with e1 _ e3
      subst e1 e3
      obtain ⟨c0, c1, c2⟩ := hc k hlt w (Below.refl _ _)
      obtain ⟨d0, d1, d2⟩ := hc' k hlt w (Below.refl _ _)
      clear hc hc' HX HY
      generalize l[k].low = z0 at *
      generalize l[k].high = z1 at *
      generalize l[k].name = z2 at *
      go_wp2
      go_quiet (fail)
      go_wp2
      go_roundw
      case rel => exact ⟨k + 1, by omega, by go_num, _, rfl⟩
      case measure => simp [intOf]; omega
    · obtain rfl : k = l.length := by omega
      go_wp2
      go_ret
      exact ⟨rfl, bel_drewF (Below.refl _ _) _⟩
end Go.Proofs.YtppbagllhmeenaaGreatDoor

namespace Go.Proofs.YtppbagllhmeenaaGreatDoor
open Go.RowKit
open Go (info_parts)
set_option linter.unusedVariables false
set_option linter.unusedSimpArgs false

theorem ownS_new (w : World) (y : Stg) (T : TypeId) : ∀ (j : Nat) u, (stgC y)[j]? = some u → (w.alloc (.cells #[.int .i64 y.unit, .string y.par, .int .i64 y.lv] T)).cell? ((⟨w.heap.size, 0, none⟩ : Addr).add j) = some u := by
  intro j u hu
  match j, hu with
  | 0, hu => simp [stgC] at hu; subst hu; simp [Addr.add, go_sem]
  | 1, hu => simp [stgC] at hu; subst hu; simp [Addr.add, go_sem]
  | 2, hu => simp [stgC] at hu; subst hu; simp [Addr.add, go_sem]
  | j + 3, hu => simp [stgC] at hu
theorem ownK_new (w : World) (y : KeyR) (T : TypeId) : ∀ (j : Nat) u, (keyC y)[j]? = some u → (w.alloc (.cells #[.int .i64 y.unit, .string y.par] T)).cell? ((⟨w.heap.size, 0, none⟩ : Addr).add j) = some u := by
  intro j u hu
  match j, hu with
  | 0, hu => simp [keyC] at hu; subst hu; simp [Addr.add, go_sem]
  | 1, hu => simp [keyC] at hu; subst hu; simp [Addr.add, go_sem]
  | j + 2, hu => simp [keyC] at hu
def isF (U : Int) (y : Frm × Value) : Bool := decide (y.1.univ = U)
theorem rev_snoc {α : Type} (p : α → Bool) (l : List α) (k : Nat) (h : k < l.length) : (l.take (k + 1)).reverse.find? p = if p l[k] then some l[k] else (l.take k).reverse.find? p := by
  rw [List.take_succ_eq_append_getElem h, List.reverse_append]
  simp [List.find?_cons]
  cases p l[k] <;> simp
theorem find_rev {l : List Frm} (h : chkFrms l = 0) (U : Int) : l.reverse.find? (fun f => decide (f.univ = U)) = l.find? (fun f => decide (f.univ = U)) := by
  rw [← List.head?_filter, List.filter_reverse, filter_one U l (frms_pair h), ]
  cases l.find? (fun f => decide (f.univ = U)) <;> rfl
theorem rev_none {lv : List (Frm × Value)} (h : chkFrms (lv.map (·.1)) = 0) (U : Int) (hn : lv.reverse.find? (isF U) = none) : (lv.map (·.1)).find? (fun f => decide (f.univ = U)) = none := by
  rw [← find_rev h, ← List.map_reverse, List.find?_map]
  have : (fun f : Frm => decide (f.univ = U)) ∘ (·.1) = isF U := rfl
  rw [this, hn]; rfl
theorem rev_some {lv : List (Frm × Value)} (h : chkFrms (lv.map (·.1)) = 0) (U : Int) {y : Frm × Value} (hn : lv.reverse.find? (isF U) = some y) : (lv.map (·.1)).find? (fun f => decide (f.univ = U)) = some y.1 ∧ y ∈ lv := by
  refine ⟨?_, List.mem_reverse.1 (List.mem_of_find?_eq_some hn)⟩
  rw [← find_rev h, ← List.map_reverse, List.find?_map]
  have : (fun f : Frm => decide (f.univ = U)) ∘ (·.1) = isF U := rfl
  rw [this, hn]; rfl
end Go.Proofs.YtppbagllhmeenaaGreatDoor

namespace Go.Proofs.YtppbagllhmeenaaGreatDoor
open Go.RowKit
set_option linter.unusedVariables false
set_option linter.unusedSimpArgs false

open Go.Maps (Keyed)
section
variable {w : World} {P : Program} {k e : TypeId} {b n : Nat} {S : List Lit}
theorem SeenM.mono (h : SeenM w P k e b n S) {m : Nat} (hm : n ≤ m) : SeenM w P k e b m S := by
  obtain ⟨D, h1, h2⟩ := h.own
  exact ⟨D, h1.mono hm, h2⟩
theorem SeenM.drew (h : SeenM w P k e b n S) : SeenM w.drew P k e b n S := by
  obtain ⟨D, h1, h2⟩ := h.own
  exact ⟨D, h1.drew, h2⟩
theorem SeenM.look (h : SeenM w P k e b n S) (K : Keyed P k) {t : TypeId} (ht : P.underlying t = some (.map k e)) (he : P.underlying e = some .bool) (hz : (zeroValue e).run P w = .ok (.bool false) w) {key : Value} {kl : Lit} (hkey : keyOf P k key = some kl) (c : Bool) (hc : c = true ↔ kl ∈ S) :
    (Instr.lookup t (.map (some b)) key false).run P w = .ok (.bool c) w := by
  obtain ⟨D, h1, h2, h3⟩ := h.own
  obtain ⟨v, ps, hrun, hv⟩ := h1.lookup K ht hz (plainElem_bool he false) hkey
  obtain ⟨x', rfl, hx'⟩ := plainElem_bool_inv he hv
  obtain ⟨c', h4, h5⟩ := h3 kl
  rw [h4] at hx'
  simp at hx'
  obtain ⟨hxe, rfl⟩ := hx'
  subst hxe
  rw [hrun]
  have : c = c' := by
    cases c <;> cases c' <;> simp_all
  rw [this]
theorem SeenM.look_in (h : SeenM w P k e b n S) (K : Keyed P k) {t : TypeId} (ht : P.underlying t = some (.map k e)) (he : P.underlying e = some .bool) (hz : (zeroValue e).run P w = .ok (.bool false) w) {key : Value} {kl : Lit} (hkey : keyOf P k key = some kl) (hc : kl ∈ S) :
    (Instr.lookup t (.map (some b)) key false).run P w = .ok (.bool true) w := h.look K ht he hz hkey true (by simp [hc])
theorem SeenM.look_out (h : SeenM w P k e b n S) (K : Keyed P k) {t : TypeId} (ht : P.underlying t = some (.map k e)) (he : P.underlying e = some .bool) (hz : (zeroValue e).run P w = .ok (.bool false) w) {key : Value} {kl : Lit} (hkey : keyOf P k key = some kl) (hc : kl ∉ S) :
    (Instr.lookup t (.map (some b)) key false).run P w = .ok (.bool false) w := h.look K ht he hz hkey false (by simp [hc])
theorem SeenM.update (h : SeenM w P k e b n S) (K : Keyed P k) {t : TypeId} (ht : P.underlying t = some (.map k e)) (he : P.underlying e = some .bool) (hn : n < maxLen) {key : Value} {kl : Lit} (hkey : keyOf P k key = some kl) :
    ∃ w', (Instr.mapUpdate t (.map (some b)) key (.bool true)).run P w = .ok () w' ∧ SeenM w' P k e b (n + 1) (S ++ [kl]) ∧ w.grownBy w' (some b) := by
  obtain ⟨D, h1, h2, h3⟩ := h.own
  obtain ⟨w', hrun, r1, r2⟩ := h1.update K ht hn hkey (plainElem_bool he true)
  exact ⟨w', hrun, SeenM.put h2 h3 (K.key hkey) r1, r2⟩
end
theorem grown_cell {w w' : World} {row b off : Nat} (h : w.grownBy w' (some row)) (hb : b < w.heap.size) (hne : b ≠ row) : w'.cell? ⟨b, off, none⟩ = w.cell? ⟨b, off, none⟩ :=
  World.cell?_of_block (h.block b hb (by intro e; injection e with e; exact hne e))
end Go.Proofs.YtppbagllhmeenaaGreatDoor
