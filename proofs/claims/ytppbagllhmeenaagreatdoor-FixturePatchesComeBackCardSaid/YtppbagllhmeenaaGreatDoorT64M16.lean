/- Boxes known by their block: kept by calls, allocs, appends to own rows of another type. (printed by wip/gen/gen_tbox.py) Clashes of units are marks that are taken. No walk in it. The box of a rig that is an argument. (printed by wip/gen/gen_placewalk.py) -/
import Derived.Test.YtppbagllhmeenaaGreatDoorT64M04
import Derived.Test.YtppbagllhmeenaaGreatDoorT64M14
import Derived.Test.YtppbagllhmeenaaGreatDoorT64M15
import Derived.Test.YtppbagllhmeenaaGreatDoorT64M09

namespace Go.Proofs.YtppbagllhmeenaaGreatDoor
open Go.RowKit
set_option linter.unusedVariables false
set_option linter.unusedSimpArgs false

theorem stgS_nil (B : Nat) (w : World) : StgS B w (.slice none 0 0) [] := CellsS.nil B w
theorem keyS_nil (B : Nat) (w : World) : KeyRS B w (.slice none 0 0) [] := CellsS.nil B w
theorem zeroBy_ (w : World) : (zeroValue 58).run Tryz.prog w = .ok (.slice none 0 0) w := by kernel_rfl
theorem frmC_get {B : Nat} {w : World} {v : Value} {lv : List (Frm × Value)} (h1 : CellsS B w v lv.length (lv.flatMap frmC)) (hl : 0 < lv.length) :
    ∃ b off cap, v = .slice (some ⟨b, off, none⟩) lv.length cap ∧ b < B ∧ lv.length ≤ maxLen ∧ ∀ k (hk : k < lv.length) (W : World), Below B w W →
      W.cell? ⟨b, off + k * 2, none⟩ = some (.int .i64 lv[k].1.univ) ∧ W.cell? ⟨b, off + k * 2 + 1, none⟩ = some lv[k].2 := by
  obtain ⟨b, off, cap, rfl, h3, h4, h5⟩ := CellsS.rec h1 (n := 2) (fun _ => rfl) hl
  refine ⟨b, off, cap, rfl, h3, h4, fun k hk W hW => ?_⟩
  exact ⟨(hW.cell (p := ⟨b, off + k * 2, none⟩) h3).trans (h5 k hk 0 _ (by omega) rfl), (hW.cell (p := ⟨b, off + k * 2 + 1, none⟩) h3).trans (h5 k hk 1 _ (by omega) rfl)⟩
theorem put_rev {fl : List (Frm × Value)} {k : Nat} (h : k < fl.length) {f : Lit → Option Value} (hf : ∀ U : Int, f (.int .i64 U) = ((fl.take k).reverse.find? (isF U)).map (·.2)) : ∀ U : Int, putF f (.int .i64 fl[k].1.univ) fl[k].2 (.int .i64 U) = ((fl.take (k + 1)).reverse.find? (isF U)).map (·.2) := by
  intro U
  rw [rev_snoc _ _ _ h]
  by_cases c : fl[k].1.univ = U
  · rw [← c, putF_same (keyLitI_ _), if_pos (by simp [isF])]; rfl
  · rw [putF_other (litI_ne (Ne.symm c)), if_neg (by simp [isF, c]), hf]
theorem setV_len {x : Rig} (h : chkRig x = 0) (l : List Frm) (k : Nat) : ((x.units.take k).flatMap (setU x.lib l)).length ≤ 16000 := by
  have h1 := flat_le (setU x.lib l) 40 (x.units.take k) (fun u hu => setU_len h l (List.mem_of_mem_take hu))
  have h2 := (chkRig_zero h).2.1
  rw [List.length_take] at h1
  omega
theorem setU_none {lib : List Prf} {l : List Frm} {u : Unt} (h : l.find? (isU u) = none) : setU lib l u = [] := by unfold setU; rw [h]
theorem setU_some {lib : List Prf} {l : List Frm} {u : Unt} {f : Frm} {p : Prf} (h : l.find? (isU u) = some f) (hp : profOf lib u.nm = some p) : setU lib l u = p.pars.map (setO u f) := by unfold setU parsOf; rw [h, hp]; rfl
theorem at_val {f : Frm} {b : Nat} (hb : b < f.sl.length) {i : Int} (hi : i = (b : Int)) : atF f i = f.sl[b] := by
  subst hi
  unfold atF
  rw [List.getD_eq_getElem?_getD, Int.toNat_natCast, List.getElem?_eq_getElem hb]; rfl
end Go.Proofs.YtppbagllhmeenaaGreatDoor

namespace Go.Proofs.YtppbagllhmeenaaGreatDoor
open Go.RowKit
set_option linter.unusedVariables false
set_option linter.unusedSimpArgs false

def usOf (lib : List Prf) (l : List Unt) : List (Unt × Int) := l.map (fun u => (u, sizeOf' lib u))
theorem usOf_snoc (lib : List Prf) (l : List Unt) (k : Nat) (h : k < l.length) : usOf lib (l.take (k + 1)) = usOf lib (l.take k) ++ [(l[k], sizeOf' lib l[k])] := by
  unfold usOf
  rw [List.take_succ_eq_append_getElem h, List.map_append]; rfl
theorem size_of {lib : List Prf} {u : Unt} {p : Prf} (h : profOf lib u.nm = some p) : sizeOf' lib u = p.size := by simp [sizeOf', h]
theorem size_pos {lib : List Prf} (hl : chkLib lib = 0) {u : Unt} {p : Prf} (h : profOf lib u.nm = some p) : 1 ≤ p.size ∧ p.size ≤ 512 := (chkPrf_zero (chkLib_prf hl (profOf_some h).1)).2.1
/-- units clash just where one's slots are taken already -/
theorem clash_free {lib : List Prf} (hl : chkLib lib = 0) (pre : List Unt) (hp : ∀ x ∈ pre, ∃ p, profOf lib x.nm = some p) (u : Unt) (p : Prf) (hu : profOf lib u.nm = some p) (hb : untBad u p.size = false) :
    pre.any (clashU lib u) = !freeN (usedB (usOf lib pre) u.univ) u.addr p.size.toNat := by
  obtain ⟨b1, b2, b3⟩ := untBad_false hb
  have hs := size_pos hl hu
  have hsu := size_of hu
  have key : pre.any (clashU lib u) = true ↔ ¬ freeN (usedB (usOf lib pre) u.univ) u.addr p.size.toNat = true := by
    rw [freeN_iff, List.any_eq_true]
    constructor
    · rintro ⟨x, hx, hc⟩ hf
      obtain ⟨q, hq⟩ := hp x hx
      have hsq := size_pos hl hq
      have hsx := size_of hq
      simp only [clashU, lastOf, hsu, hsx, Bool.and_eq_true, decide_eq_true_eq] at hc
      obtain ⟨⟨c1, c2⟩, c3⟩ := hc
      obtain ⟨m, hm1, hm2, hm3, hm4⟩ : ∃ m : Int, u.addr ≤ m ∧ m < u.addr + p.size ∧ x.addr ≤ m ∧ m < x.addr + q.size := by
        by_cases c : u.addr ≤ x.addr
        · exact ⟨x.addr, c, by omega, by omega, by omega⟩
        · exact ⟨u.addr, by omega, by omega, by omega, by omega⟩
      have := (hf m hm1 (by omega)).2
      have : usedB (usOf lib pre) u.univ m = true := by
        unfold usedB
        rw [List.any_eq_true]
        exact ⟨(x, sizeOf' lib x), List.mem_map.2 ⟨x, hx, rfl⟩, by simp only [hsx, Bool.and_eq_true, decide_eq_true_eq]; exact ⟨c1, hm3, hm4⟩⟩
      simp_all
    · intro hf
      by_cases c : ∃ x ∈ pre, clashU lib u x = true
      · exact c
      · refine absurd (fun m h1 h2 => ⟨by omega, ?_⟩) hf
        unfold usedB
        rw [List.any_eq_false]
        intro y hy
        obtain ⟨x, hx, rfl⟩ := List.mem_map.1 hy
        obtain ⟨q, hq⟩ := hp x hx
        have hsx := size_of hq
        intro hcon
        simp only [hsx, Bool.and_eq_true, decide_eq_true_eq] at hcon
        obtain ⟨c1, c2, c3⟩ := hcon
        refine c ⟨x, hx, ?_⟩
        simp only [clashU, lastOf, hsu, hsx, Bool.and_eq_true, decide_eq_true_eq]
        exact ⟨⟨c1, by omega⟩, by omega⟩
  cases h : freeN (usedB (usOf lib pre) u.univ) u.addr p.size.toNat <;> simp_all
theorem clash_none {lib : List Prf} (pre : List Unt) (u : Unt) (h : ∀ x ∈ usOf lib pre, x.1.univ ≠ u.univ) : pre.any (clashU lib u) = false := by
  rw [List.any_eq_false]
  intro x hx
  have := h (x, sizeOf' lib x) (List.mem_map.2 ⟨x, hx, rfl⟩)
  simp [clashU, this]
theorem pre_known {lib : List Prf} {units : List Unt} {k : Nat} (hk : k ≤ units.length) (h : ∀ j (hj : j < units.length), j < k → untF lib (units.take j) units[j] = 0) : ∀ x ∈ units.take k, ∃ p, profOf lib x.nm = some p := by
  intro x hx
  obtain ⟨j, hj, rfl⟩ := List.getElem_of_mem hx
  rw [List.length_take] at hj
  have h1 := h j (by omega) (by omega)
  obtain ⟨_, _, ⟨p, hp, _⟩, _⟩ := untF_zero h1
  exact ⟨p, by rw [List.getElem_take]; exact hp⟩
theorem parS_shape {B : Nat} {w : World} {v : Value} {l : List Par} (h : ParS B w v l) : ∃ ao cap, v = .slice ao l.length cap := by
  obtain ⟨lv, hlv, hcs, _⟩ := h
  obtain ⟨ao, cap, rfl, _⟩ := CellsS.shape hcs
  exact ⟨ao, cap, by rw [← hlv]; simp⟩
theorem prfS_shape {B : Nat} {w : World} {v : Value} {l : List Prf} (h : PrfS B w v l) : ∃ ao cap, v = .slice ao l.length cap := by
  obtain ⟨lv, hlv, hcs, _⟩ := h
  obtain ⟨ao, cap, rfl, _⟩ := CellsS.shape hcs
  exact ⟨ao, cap, by rw [← hlv]; simp⟩
theorem usOf_len (lib : List Prf) (l : List Unt) : (usOf lib l).length = l.length := by simp [usOf]
end Go.Proofs.YtppbagllhmeenaaGreatDoor

namespace Go.Proofs.YtppbagllhmeenaaGreatDoor
open Go.RowKit
set_option linter.unusedVariables false
set_option linter.unusedSimpArgs false
/-- the box of a rig's argument -/
def RBox (w : World) (lv uv : Value) (W : World) : Prop := Below (w.heap.size + 1) (w.alloc (.cells #[lv, uv] 25)) W
theorem RBox.start (w : World) (lv uv : Value) : RBox w lv uv (w.alloc (.cells #[lv, uv] 25)) := Below.refl _ _
theorem RBox.size {w W : World} {lv uv : Value} (h : RBox w lv uv W) : w.heap.size + 1 ≤ W.heap.size := by
  have := Below.size h
  simp at this
  omega
theorem RBox.bel {w W : World} {lv uv : Value} (h : RBox w lv uv W) : Below w.heap.size w W := ((Below.refl _ _).alloc (Nat.le_refl _) _).trans (Below.mono h (by omega))
theorem RBox.next {w W W1 : World} {lv uv : Value} (h : RBox w lv uv W) (hb : Below W.heap.size W W1) : RBox w lv uv W1 := Below.trans h (hb.mono h.size)
theorem RBox.par {w W : World} {lv uv : Value} (h : RBox w lv uv W) : TBox W w.heap.size 25 #[lv, uv] := (Below.block h w.heap.size (by omega)).trans (TBox.new w #[lv, uv] 25)
theorem RBox.set {w W : World} {lv uv : Value} (h : RBox w lv uv W) {b : Nat} (hb : w.heap.size + 1 ≤ b) (i : Nat) (u : Value) : RBox w lv uv (W.setCell ⟨b, i, none⟩ u) := Below.setCell h (p := ⟨b, i, none⟩) hb u
theorem rig_shape {B : Nat} {w : World} {x : Rig} {lv uv : Value} (h : RigAt B w x lv uv) : ∃ lo lcap uo ucap, lv = .slice lo x.lib.length lcap ∧ uv = .slice uo x.units.length ucap := by
  obtain ⟨uo, ucap, e1, _⟩ := CellsS.shape h.units
  obtain ⟨lo, lcap, e2⟩ := prfS_shape h.lib
  exact ⟨lo, lcap, uo, ucap, e2, e1⟩
end Go.Proofs.YtppbagllhmeenaaGreatDoor
