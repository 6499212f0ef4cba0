/- The text of a patch. No walk in it. (printed by wip/gen/gen_patch.py) (*strings.Builder).WriteString (walks after the kit's; the shelf's own do not fit where copyCheck's panic is cut off). -/
import Derived.Test.YtppbagllhmeenaaGreatDoorT64M04
import Derived.Test.YtppbagllhmeenaaGreatDoorT64M16
import Derived.Test.YtppbagllhmeenaaGreatDoorT64M21
import Derived.Test.YtppbagllhmeenaaGreatDoorT64M10
import Derived.Test.YtppbagllhmeenaaGreatDoorShelf
import Derived.Shelf.Strings.Builder1

namespace Go.Proofs.YtppbagllhmeenaaGreatDoor
open Go.RowKit
set_option linter.unusedVariables false
set_option linter.unusedSimpArgs false

def lineB (u : Unt) : ByteArray := (((((((itT u.num ++ (⟨#[32]⟩ : ByteArray)) ++ u.prof) ++ (⟨#[32]⟩ : ByteArray)) ++ itT u.univ) ++ (⟨#[47]⟩ : ByteArray)) ++ itT u.addr) ++ (⟨#[10]⟩ : ByteArray))
def patchB (l : List Unt) : ByteArray := l.foldl (fun s u => s ++ lineB u) ⟨#[]⟩
theorem patchB_take (l : List Unt) (k : Nat) (h : k < l.length) : patchB (l.take (k + 1)) = patchB (l.take k) ++ lineB l[k] := by
  unfold patchB
  rw [List.take_succ_eq_append_getElem h, List.foldl_append]
  rfl
theorem lineB_le (u : Unt) (h1 : I64 u.num) (h2 : I64 u.univ) (h3 : I64 u.addr) (h4 : u.prof.size ≤ 20) : (lineB u).size ≤ 90 := by
  have a1 := itT_le u.num h1.1 h1.2
  have a2 := itT_le u.univ h2.1 h2.2
  have a3 := itT_le u.addr h3.1 h3.2
  have e1 : (⟨#[32]⟩ : ByteArray).size = 1 := rfl
  have e2 : (⟨#[47]⟩ : ByteArray).size = 1 := rfl
  have e3 : (⟨#[10]⟩ : ByteArray).size = 1 := rfl
  unfold lineB
  simp only [ByteArray.size_append, e1, e2, e3]
  omega
theorem nameB_le {b : ByteArray} (h : nameB b.data.toList = true) : b.size ≤ 20 := by
  unfold nameB at h
  simp only [Bool.and_eq_true, decide_eq_true_eq] at h
  have := h.1.1.2
  rwa [← Lib.size_eq] at this
theorem unt_name {x : Rig} (h : chkRig x = 0) {u : Unt} (hu : u ∈ x.units) : u.prof.size ≤ 20 := by
  obtain ⟨p, hp, _⟩ := par_right h hu
  obtain ⟨hm, hn⟩ := profOf_some hp
  have h1 := (chkPrf_zero (chkLib_prf (chkRig_zero h).1 hm)).1
  rw [hn] at h1
  exact nameB_le h1
theorem patchB_le {x : Rig} (h : chkRig x = 0) (hf : ∀ u ∈ x.units, UntFit u) : ∀ k, k ≤ x.units.length → (patchB (x.units.take k)).size ≤ 90 * k := by
  intro k
  induction k with
  | zero => intro _; exact Nat.zero_le _
  | succ k ih =>
    intro hk
    rw [patchB_take _ k (by omega), ByteArray.size_append]
    have h1 := ih (by omega)
    have hm : x.units[k] ∈ x.units := List.getElem_mem _
    obtain ⟨f1, f2, f3, _⟩ := hf _ hm
    have h2 := lineB_le x.units[k] f1 f2 f3 (unt_name h hm)
    omega
/-- what PatchText writes -/
def patchT (x : Rig) : ByteArray := if chkRig x = 0 then patchB x.units else ⟨#[]⟩
theorem patchT_ok {x : Rig} (h : chkRig x = 0) : patchT x = patchB x.units := if_pos h
theorem patchT_bad {x : Rig} (h : ¬ chkRig x = 0) : patchT x = ⟨#[]⟩ := if_neg h
theorem cells_app (a b : ByteArray) : Lib.strCells (a ++ b) = Lib.strCells a ++ Lib.strCells b := by
  unfold Lib.strCells
  rw [ByteArray.data_append, Array.toList_append, List.map_append]
end Go.Proofs.YtppbagllhmeenaaGreatDoor

namespace Go.Proofs.YtppbagllhmeenaaGreatDoor
open Go.RowKit Go.Lib
open Go (info_parts)
set_option linter.unusedVariables false
set_option linter.unusedSimpArgs false

theorem bSize : (Tryz.prog.info? 60).map (·.size) = some 2 := by kernel_rfl
theorem bLies : liesAt Tryz.prog Tryz.prog.depth 60 (2 / Tryz.prog.cellsOf 60) 0 60 1 = true := by kernel_rfl
theorem bByte : (Tryz.prog.info? 5).map (fun i => (i.zero, i.size, i.bytes)) = some (some (.int .u8 0), 1, 1) := by kernel_rfl
set_option maxHeartbeats 1000000 in
set_option maxRecDepth 100000 in
theorem copyCheck_used (b : Nat) (w : World) (h0 : w.cell? ⟨b, 0, none⟩ = some (.pointer (some ⟨b, 0, none⟩))) :
    Calls Tryz.prog 58 #[.pointer (some ⟨b, 0, none⟩)] w fun e w' => e = .returned (.tuple #[]) ∧ w' = w := by
  obtain ⟨j, hj, _⟩ := Option.map_eq_some_iff.1 bSize
  go_enter Tryz.func58, Tryz.ntmps58
  go_wp2
  rw [Lib.run_neq_ptr_same w _ Tryz.underlying57 hj]
  go_wp2
  go_end0
  exact ⟨rfl, rfl⟩
set_option maxHeartbeats 1000000 in
set_option maxRecDepth 100000 in
theorem copyCheck_fresh (b : Nat) (w : World) (h0 : w.cell? ⟨b, 0, none⟩ = some (.pointer none)) (hsh : w.shape? b = some (60, 2)) (hfz : w.frozen? ⟨b, 0, none⟩ = false) :
    Calls Tryz.prog 58 #[.pointer (some ⟨b, 0, none⟩)] w fun e w' => e = .returned (.tuple #[]) ∧ w' = w.setCell ⟨b, 0, none⟩ (.pointer (some ⟨b, 0, none⟩)) := by
  obtain ⟨j, hj, hjs⟩ := Option.map_eq_some_iff.1 bSize
  go_enter Tryz.func58, Tryz.ntmps58
  go_wp2
  rw [Lib.run_to_unsafe w ⟨b, 0, none⟩ Tryz.underlying57 Tryz.underlying123 hj (by rw [hjs]; decide) hsh (Nat.zero_lt_succ 1)]
  simp only [Result.andThen]
  rw [Oper.upon_value]
  go_wp2
  rw [run_callFunc_extern Tryz.func81 (by kernel_rfl) (by kernel_rfl) (by kernel_rfl) (e := Extern.AbiNoEscape.same) (by kernel_rfl)]
  rw [Lib.run_noEscape]
  simp only [Result.andThen]
  rw [Oper.upon_value]
  go_wp2
  rw [Lib.run_from_unsafe w ⟨b, 0, none⟩ Tryz.underlying123 Tryz.underlying57 hj hsh bLies]
  simp only [Result.andThen]
  rw [Oper.upon_value]
  go_wp2
  go_end0
  exact ⟨rfl, rfl⟩
theorem copyCheck_any (B b : Nat) (bs : List Value) (w : World) (h : Lib.IsBuilder 60 5 B b bs w) :
    Calls Tryz.prog 58 #[.pointer (some ⟨b, 0, none⟩)] w fun e w' => e = .returned (.tuple #[]) ∧ (Lib.BuilderAt 60 5 B b (.pointer (some ⟨b, 0, none⟩)) bs w' ∧ Below B w w' ∧ Other w w' 60) := by
  rcases h with h | h
  · refine (copyCheck_fresh b w h.cell0 h.shape h.frozen0).mono ?_
    rintro e w' ⟨rfl, rfl⟩
    obtain ⟨h1, v, hb, _⟩ := id h
    exact ⟨rfl, h.used _, (Below.refl B w).setCell (p := ⟨b, 0, none⟩) h.1 _, Other.box (cs := #[.pointer none, v]) hb _⟩
  · refine (copyCheck_used b w h.cell0).mono ?_
    rintro e w' ⟨rfl, rfl⟩
    exact ⟨rfl, h, Below.refl B _, Other.refl _ _⟩
/-- a builder stays while older blocks do -/
theorem isB_below {B b : Nat} {bs : List Value} {w W : World} (h : Lib.IsBuilder 60 5 B b bs w) (hb : Below w.heap.size w W) : Lib.IsBuilder 60 5 B b bs W := by
  have key : ∀ p, Lib.BuilderAt 60 5 B b p bs w → Lib.BuilderAt 60 5 B b p bs W := by
    rintro p ⟨h1, v, h2, h3, h4⟩
    have hl : b < w.heap.size := (Array.getElem?_eq_some_iff.1 h2).1
    refine ⟨h1, v, (hb.block b hl).trans h2, h3.kept ⟨hb.os, hb.tape, hb.output, hb.size, fun k hk _ => hb.block k hk⟩ (row := none) ?_, h4⟩
    cases hv : v.ownBlock <;> simp
  rcases h with h | h
  · exact .inl (key _ h)
  · exact .inr (key _ h)
/-- a new builder -/
theorem isB_new (w : World) (B : Nat) (hB : B ≤ w.heap.size) : Lib.IsBuilder 60 5 B w.heap.size [] (w.alloc (.cells #[.pointer none, .slice none 0 0] 60)) :=
  .inl ⟨hB, .slice none 0 0, heap_alloc_new w _, World.ownsRow_nil _ _ _ _, by simp [Value.ownBlock]⟩
set_option maxHeartbeats 2000000 in
set_option maxRecDepth 100000 in
theorem writeString_any (B b : Nat) (bs : List Value) (s : ByteArray) (w : World) (h : Lib.IsBuilder 60 5 B b bs w) (hlen : bs.length + s.size ≤ 140737488355328) (hBw : B ≤ w.heap.size) :
    Calls Tryz.prog 30 #[.pointer (some ⟨b, 0, none⟩), .string s] w fun e w' => e = .returned (.tuple #[.int .i64 s.size, .nilIface]) ∧ Lib.IsBuilder 60 5 B b (bs ++ Lib.strCells s) w' ∧ Below B w w' ∧ (∀ ub T cs, T ≠ 60 → T ≠ 5 → TBox w ub T cs → TBox w' ub T cs) := by
  obtain ⟨i0, hi, hz0, hz1, hz2⟩ := info_parts bByte
  go_enter Tryz.func30, Tryz.ntmps30
  go_wp2_with (go_at_call 58; refine (copyCheck_any B b bs _ h).mono ?_)
  rintro e w1 ⟨rfl, h1, hb1, ho1⟩
  obtain ⟨hB, v, hbk, hown, hne⟩ := h1
  have HO1 := Lib.hid ho1
  clear ho1
  have c0 : w1.cell? ⟨b, 0, none⟩ = some (.pointer (some ⟨b, 0, none⟩)) := by rw [Lib.cell_of_heap hbk]; rfl
  have c1 : w1.cell? ⟨b, 1, none⟩ = some v := by rw [Lib.cell_of_heap hbk]; rfl
  go_wp2_with (at_builtin; refine Lib.wpList_append_own_string _ rfl _ _ 58 9 rfl B 5 i0 Tryz.underlying58 Tryz.underlying9 hi hz0 hz1 hz2 _ _ _ rfl hown s rfl ?c3 ?c4 ?c5 ?_)
  case c3 => unfold maxLen; omega
  case c4 => omega
  case c5 => have := hb1.size; omega
  intro v' w2 hown' hgrow _
  have HO2 := Lib.hid (Other.row hown hgrow)
  have hlt : b < w1.heap.size := by
    rcases Nat.lt_or_ge b w1.heap.size with h' | h'
    · exact h'
    · simp [Array.getElem?_eq_none h'] at hbk
  have hb2 : w2.heap[b]? = some (.cells #[.pointer (some ⟨b, 0, none⟩), v] 60 (0, 0)) := by
    rw [hgrow.block b hlt (fun e => hne e.symm)]
    exact hbk
  have d0 : w2.cell? ⟨b, 0, none⟩ = some (.pointer (some ⟨b, 0, none⟩)) := by rw [Lib.cell_of_heap hb2]; rfl
  have d1 : w2.cell? ⟨b, 1, none⟩ = some v := by rw [Lib.cell_of_heap hb2]; rfl
  have f1 : w2.frozen? ⟨b, 1, none⟩ = false := Lib.frozen_of_heap hb2 1
  obtain ⟨ao, n', cap, rfl⟩ : ∃ ao n' cap, v' = .slice ao n' cap := by
    rcases hown'.2 with ⟨hv, _⟩ | ⟨g, cap, cur, hv, _⟩
    · exact ⟨_, _, _, hv⟩
    · exact ⟨_, _, _, hv⟩
  go_wp2
  go_ret2
  refine ⟨rfl, .inr ?_, ?_, ?_⟩
  · exact Lib.BuilderAt.put (T := 60) (e := 5) hB hb2 (bs' := bs ++ Lib.strCells s) (by simpa [Lib.strCells_length] using hown') (by decide)
  · exact (hb1.grown hgrow (by have := hb1.size; omega) (fun k hk => (hown.lt k hk).1)).setCell (p := ⟨b, 1, none⟩) hB _
  · intro ub T cs h1 h2 h3
    exact (Other.box (T' := 60) (b := b) (i := 1) hb2 _).tbox (HO2.out.tbox (HO1.out.tbox h3 h1) h2) h1
end Go.Proofs.YtppbagllhmeenaaGreatDoor
