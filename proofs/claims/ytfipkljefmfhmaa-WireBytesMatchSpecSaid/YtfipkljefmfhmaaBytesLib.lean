/- Slices of bytes, nil and empty ones too; the contracts of bytes.Equal, bytes.HasPrefix, bytes.Clone and slices.Clone at them. -/
import Derived.Test.YtfipkljefmfhmaaBytes
import Derived.Laws.BytesArg
import Derived.Laws.OwnMore
import Derived.Handy
namespace Go.Proofs.Ytfipkljefmfhmaa
open Go.RowKit

/-- a slice of these bytes, whose cells lie below block B -/
def ByS (B : Nat) (w : World) (v : Value) (l : List UInt8) : Prop :=
  ∃ ao cap, v = .slice ao l.length cap ∧ l.length ≤ cap ∧ cap ≤ 9223372036854775807 ∧ (l ≠ [] → ∃ b off, ao = some ⟨b, off, none⟩ ∧ b < B ∧ BytesAt w b off l)

section
variable {B B' : Nat} {w w' : World} {v : Value} {l : List UInt8}
theorem ByS.keep (h : ByS B w v l) (hk : ∀ b o, b < B → w'.cell? ⟨b, o, none⟩ = w.cell? ⟨b, o, none⟩) : ByS B w' v l := by
  obtain ⟨ao, cap, e, h1, h2, h3⟩ := h
  refine ⟨ao, cap, e, h1, h2, fun hl => ?_⟩
  obtain ⟨b, off, e2, hb, hc⟩ := h3 hl
  exact ⟨b, off, e2, hb, fun i hi => (hk _ _ hb).trans (hc i hi)⟩
theorem ByS.below (h : ByS B w v l) (hb : Below B w w') : ByS B w' v l := h.keep fun _ _ hp => hb.cell hp
theorem ByS.more (h : ByS B w v l) (hB : B ≤ B') : ByS B' w v l := by
  obtain ⟨ao, cap, e, h1, h2, h3⟩ := h
  refine ⟨ao, cap, e, h1, h2, fun hl => ?_⟩
  obtain ⟨b, off, e2, hb, hc⟩ := h3 hl
  exact ⟨b, off, e2, by omega, hc⟩
/-- the two shapes -/
theorem ByS.cases (h : ByS B w v l) : (l = [] ∧ ∃ ao cap, v = .slice ao 0 cap ∧ cap ≤ 9223372036854775807) ∨
    (∃ b off cap, v = .slice (some ⟨b, off, none⟩) l.length cap ∧ l.length ≤ cap ∧ cap ≤ 9223372036854775807 ∧ 0 < l.length ∧ b < B ∧ BytesAt w b off l) := by
  obtain ⟨ao, cap, e, h1, h2, h3⟩ := h
  by_cases hl : l = []
  · subst hl
    exact .inl ⟨rfl, ao, cap, e, h2⟩
  · obtain ⟨b, off, e2, hb, hc⟩ := h3 hl
    subst e2
    exact .inr ⟨b, off, cap, e, h1, h2, by have := List.length_pos_iff.2 hl; omega, hb, hc⟩
theorem ByS.bytesV (h : ByS B w v l) (hB : B ≤ w.heap.size) : BytesV w v l := by
  rcases h.cases with ⟨h, ao, cap, e, _⟩ | ⟨b, off, cap, e, h1, h2, h3, h4, h5⟩
  · exact .inl ⟨h, ao, cap, e⟩
  · exact .inr ⟨by rintro rfl; simp at h3, by omega, b, off, cap, e, by omega, h5⟩
end

/-- the cells of a row of bytes, as numbers -/
theorem bytes_nums {w : World} {b off : Nat} {l : List UInt8} (h : BytesAt w b off l) : ∀ i, i < l.length → w.cell? ⟨b, off + i, none⟩ = some (.int .u8 ((l.map fun x => (x.toNat : Int)).getD i 0)) := by
  intro i hi
  rw [h i hi, List.getD_eq_getElem?_getD, List.getElem?_eq_getElem (by simpa using hi)]
  simp
theorem strOfNums_bytes (l : List UInt8) : strOfNums (l.map fun x => (x.toNat : Int)) = ⟨l.toArray⟩ := by
  simp [strOfNums, List.map_map]
  congr 1
  apply List.ext_getElem
  · simp
  · intro i h1 h2; simp

/-- 'string(b)' -/
theorem conv_bytes {B : Nat} {w : World} {v : Value} {l : List UInt8} (h : ByS B w v l) : (convert 22 9 v).run Try.prog w = .ok (.string ⟨l.toArray⟩) w := by
  rcases h.cases with ⟨rfl, ao, cap, rfl, _⟩ | ⟨b, off, cap, rfl, h1, h2, h3, h4, h5⟩
  · rw [run_convert_bytes_string w _ _ _ ao 0 cap Try.underlying22 Try.underlying5 Try.underlying9]
    cases ao <;> simp [Conv.bytesToString, loadCells]
    all_goals rfl
  · have := run_convert_bytes_arg (P := Try.prog) w _ _ Try.underlying22 Try.underlying5 b off l.length cap (l.map fun x => (x.toNat : Int)) (by simp) (bytes_nums h5) _ Try.underlying9
    rw [strOfNums_bytes] at this
    exact this

set_option maxHeartbeats 1000000 in
theorem bEqual_any (B : Nat) (v u : Value) (l m : List UInt8) (w : World) (h1 : ByS B w v l) (h2 : ByS B w u m) :
    Calls Try.prog 22 #[v, u] w fun e w' => e = .returned (.bool (l == m)) ∧ w = w' := by
  have c1 := conv_bytes h1
  have c2 := conv_bytes h2
  clear h1 h2
  go_enter Try.func22, Try.ntmps22
  go_wp2
  go_ret
  exact ⟨rfl, rfl⟩

theorem ByS.front {B : Nat} {w : World} {l : List UInt8} {ao : Option Addr} {cap n : Nat} (h : ByS B w (.slice ao l.length cap) l) (hn : n ≤ l.length) : ByS B w (.slice ao n cap) (l.take n) := by
  obtain ⟨ao', cap', e, h1, h2, h3⟩ := h
  injection e with e1 e2 e3
  subst e1 e3
  refine ⟨ao, cap, by rw [List.length_take, Nat.min_eq_left hn], by rw [List.length_take]; omega, h2, fun hl => ?_⟩
  obtain ⟨b, off, e2, hb, hc⟩ := h3 (by rintro rfl; simp at hl)
  exact ⟨b, off, e2, hb, fun i hi => by rw [List.getElem_take]; exact hc i (by simp at hi; omega)⟩
theorem ByS.back {B : Nat} {w : World} {l : List UInt8} {ao : Option Addr} {cap n : Nat} (h : ByS B w (.slice ao l.length cap) l) (hn : n ≤ l.length) : ByS B w (.slice (if cap = n then ao else ao.map (·.add n)) (l.length - n) (cap - n)) (l.drop n) := by
  obtain ⟨ao', cap', e, h1, h2, h3⟩ := h
  injection e with e1 e2 e3
  subst e1 e3
  refine ⟨_, _, by rw [List.length_drop], by rw [List.length_drop]; omega, by omega, fun hl => ?_⟩
  have hlt : n < l.length := by
    rcases Nat.lt_or_ge n l.length with h | h
    · exact h
    · exact absurd (List.drop_eq_nil_of_le h) hl
  obtain ⟨b, off, e2, hb, hc⟩ := h3 (by rintro rfl; simp at hlt)
  subst e2
  rw [if_neg (by omega)]
  refine ⟨b, off + n, ?_, hb, fun i hi => ?_⟩
  · simp only [Option.map_some]
    unfold Addr.add
    split <;> simp_all
  · rw [List.getElem_drop, Nat.add_assoc]
    exact hc (n + i) (by simp at hi; omega)

set_option maxHeartbeats 1000000 in
theorem hasPrefix_yes (B : Nat) (v u : Value) (l m : List UInt8) (w : World) (h1 : ByS B w v l) (h2 : ByS B w u m) (hm : m.length ≤ l.length) (h3 : l.take m.length = m) :
    Calls Try.prog 112 #[v, u] w fun e w' => e = .returned (.bool true) ∧ w = w' := by
  obtain ⟨ao, cap, rfl, g1, g2, _⟩ := id h1
  obtain ⟨bo, cap2, rfl, _, _, _⟩ := id h2
  have hE := Lib.hid (bEqual_any B _ _ _ _ w (h1.front hm) h2)
  rw [h3, beq_self_eq_true] at hE
  have d : decide ((m.length : Int) ≤ (l.length : Int)) = true := by simp; omega
  have d2 : m.length ≤ cap := by omega
  clear h1 h2 h3
  generalize m.length = k at *
  generalize l.length = n at *
  go_enter Try.func112, Try.ntmps112
  go_wp2_with fail
  refine hE.out.mono ?_; rintro e w' ⟨rfl, rfl⟩
  go_wp2
  go_ret
  exact ⟨rfl, rfl⟩
set_option maxHeartbeats 1000000 in
theorem hasPrefix_no (B : Nat) (v u : Value) (l m : List UInt8) (w : World) (h1 : ByS B w v l) (h2 : ByS B w u m) (h3 : l.take m.length ≠ m) :
    Calls Try.prog 112 #[v, u] w fun e w' => e = .returned (.bool false) ∧ w = w' := by
  obtain ⟨ao, cap, rfl, g1, g2, _⟩ := id h1
  obtain ⟨bo, cap2, rfl, _, _, _⟩ := id h2
  by_cases hm : m.length ≤ l.length
  · have hE := Lib.hid (bEqual_any B _ _ _ _ w (h1.front hm) h2)
    rw [beq_eq_false_iff_ne.2 h3] at hE
    have d : decide ((m.length : Int) ≤ (l.length : Int)) = true := by simp; omega
    have d2 : m.length ≤ cap := by omega
    clear h1 h2 h3
    generalize m.length = k at *
    generalize l.length = n at *
    go_enter Try.func112, Try.ntmps112
    go_wp2_with fail
    refine hE.out.mono ?_; rintro e w' ⟨rfl, rfl⟩
    go_wp2
    go_ret
    exact ⟨rfl, rfl⟩
  · have d : decide ((m.length : Int) ≤ (l.length : Int)) = false := by simp; omega
    clear h1 h2 h3
    generalize m.length = k at *
    generalize l.length = n at *
    go_enter Try.func112, Try.ntmps112
    go_wp2
    go_ret
    exact ⟨rfl, rfl⟩
theorem addr_add (b off j : Nat) : (⟨b, off, none⟩ : Addr).add j = ⟨b, off + j, none⟩ := by unfold Addr.add; split <;> simp_all
/-- bytes as cells -/
def bcells (l : List UInt8) : List Value := l.map fun x => .int .u8 (x.toNat : Int)
theorem bcells_len (l : List UInt8) : (bcells l).length = l.length := by simp [bcells]
theorem bcells_append (l m : List UInt8) : bcells (l ++ m) = bcells l ++ bcells m := by simp [bcells]
theorem bcells_one (l : List UInt8) : ∀ u ∈ bcells l, u.oneCell' = true := by
  intro u hu
  simp only [bcells, List.mem_map] at hu
  obtain ⟨x, _, rfl⟩ := hu
  rfl
theorem bcells_at {w : World} {b off : Nat} {l : List UInt8} (h : BytesAt w b off l) : ∀ j u, (bcells l)[j]? = some u → w.cell? ⟨b, off + j, none⟩ = some u := by
  intro j u hu
  have hj : j < l.length := by
    rcases Nat.lt_or_ge j l.length with h | h
    · exact h
    · rw [List.getElem?_eq_none (by rw [bcells_len]; exact h)] at hu; cases hu
  rw [h j hj, ← hu]
  simp [bcells, List.getElem?_eq_getElem hj]
theorem ByS.of_own {w : World} {base e : Nat} {v : Value} {n : Nat} {l : List UInt8} (h : w.ownsRow base e 1 v n (bcells l)) : ByS w.heap.size w v l := by
  have hn : l.length = n := by have := h.1; rw [bcells_len] at this; omega
  rcases h.2 with ⟨rfl, rfl⟩ | ⟨g, cap, cur, rfl, hb, hg, h1, h2, h3, h4⟩
  · have : l = [] := List.eq_nil_of_length_eq_zero hn
    subst this
    exact ⟨none, 0, rfl, Nat.le_refl _, by omega, fun h => absurd rfl h⟩
  · refine ⟨some ⟨g, 0, none⟩, cap, by rw [hn], by omega, by unfold maxLen at h2; omega, fun _ => ⟨g, 0, rfl, ?_, fun i hi => ?_⟩⟩
    · exact (Array.getElem?_eq_some_iff.1 hg).1
    · have := h.cells (g := g) rfl i (.int .u8 (l[i].toNat : Int)) (by simp [bcells, List.getElem?_eq_getElem hi])
      have e : (⟨g, 0, none⟩ : Addr).add i = ⟨g, 0 + i, none⟩ := by unfold Addr.add; split <;> simp_all
      rw [e] at this
      exact this

/-- a new copy -/
def CloneP (w : World) (l : List UInt8) (e : Ending) (w' : World) : Prop := ∃ v', e = .returned v' ∧ w'.ownsRow w.heap.size 5 1 v' l.length (bcells l) ∧ Below w.heap.size w w'
theorem byte_info : (Try.prog.info? 5).map (fun i => (i.zero, i.size, i.bytes)) = some (some (.int .u8 0), 1, 1) := by kernel_rfl

set_option maxHeartbeats 2000000 in
theorem bClone_any (B : Nat) (v : Value) (l : List UInt8) (w : World) (hB : B ≤ w.heap.size) (hl : l.length ≤ 140737488351232) (h1 : ByS B w v l) :
    Calls Try.prog 72 #[v] w (CloneP w l) := by
  obtain ⟨i0, hi, hz0, hz1, hz2⟩ := info_parts byte_info
  have q22 : ∀ (w : World) (a : Option Addr) (n c n' c' : Nat), (binOp .eql 22 (.slice a n c) (.slice none n' c')).run Try.prog w = .ok (.bool a.isNone) w := fun w a n c n' c' => Lib.run_eql_slice_nil w _ _ a n c n' c' Try.underlying22
  obtain ⟨ao, cap, rfl, h2, h3, h4⟩ := h1
  cases ao with
  | none =>
    have hl0 : l = [] := by
      by_cases hl : l = []
      · exact hl
      · obtain ⟨b, off, e, _⟩ := h4 hl; cases e
    subst hl0
    go_enter Try.func72, Try.ntmps72
    go_wp2
    go_ret
    exact ⟨_, rfl, World.ownsRow_nil _ _ _ _, Below.refl _ _⟩
  | some a =>
    have hc := Lib.hid (show ∀ j u, (bcells l)[j]? = some u → (w.alloc (.cells #[] 5)).cell? (a.add j) = some u by
      intro j u hu
      by_cases hl : l = []
      · subst hl; simp [bcells] at hu
      · obtain ⟨b, off, e, hb, hc⟩ := h4 hl
        obtain rfl := Option.some.inj e
        rw [addr_add]
        exact (World.cell?_alloc_lt w _ _ (show b < w.heap.size by omega)).trans (bcells_at hc j u hu))
    clear h4
    go_enter Try.func72, Try.ntmps72
    go_wp2_with (at_builtin; refine wpList_append_own _ rfl _ _ 22 rfl w.heap.size 5 i0 (.int .u8 0) 1 1 Try.underlying22 hi hz0 hz1 hz2 rfl (by omega) _ _ _ rfl (World.ownsRow_made w #[] 0 (Nat.le_refl _) (Nat.zero_le _) (by simp)) a l.length cap (bcells l) rfl (by rw [bcells_len]; omega) hc.out (bcells_one l) (by unfold maxLen; omega) (by omega) (by simp) ?_; intro v' w1 hown hgrow0 _)
    have hgrow : World.grownBy (w.alloc (.cells #[] 5)) w1 (some w.heap.size) := hgrow0
    go_ret
    rw [List.nil_append, Nat.zero_add] at hown
    exact ⟨v', rfl, hown, ((Below.refl _ w).alloc (Nat.le_refl _) _).grown hgrow (by simp) (by intro k hk; injection hk with hk; omega)⟩
end Go.Proofs.Ytfipkljefmfhmaa
