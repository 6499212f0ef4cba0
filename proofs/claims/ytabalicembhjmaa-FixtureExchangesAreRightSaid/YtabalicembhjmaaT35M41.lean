/- What an exchange gives is right and fits. No walk in it. The frames that settings make: as plain data. No walk in it. Frames as an argument. (printed by wip/gen/gen_set.py) -/
import Derived.Test.YtabalicembhjmaaT35M37
import Derived.Test.YtabalicembhjmaaT35M24
import Derived.Test.YtabalicembhjmaaT35M02
import Derived.Test.YtabalicembhjmaaT35M19

namespace Go.Proofs.Ytabalicembhjmaa
open Go.RowKit
set_option linter.unusedVariables false
set_option linter.unusedSimpArgs false

theorem exF_zero {x : Rig} {n : Int} {nm : ByteArray} {l : List Stg} (h : exF x n nm l = 0) : chkRig x = 0 ∧ chkStgs x l = 0 := by
  by_cases h1 : chkRig x = 0
  rotate_left
  · rw [exF_bad h1] at h; exact absurd h h1
  refine ⟨h1, ?_⟩
  cases hu : x.units.find? (isNo n) with
  | none => rw [exF_none h1 hu] at h; exact absurd h (by decide)
  | some u =>
    cases hp : profOf x.lib nm.data.toList with
    | none => rw [exF_name h1 hu hp] at h; exact absurd h (by decide)
    | some p =>
      rw [exF_some h1 hu hp] at h
      by_cases h2 : chkStgs x l = 0
      · exact h2
      · rw [if_pos h2] at h; exact absurd h h2
theorem ex_fit {x : Rig} (hf : RigFit x) (hx : chkRig x = 0) {n : Int} {nm : ByteArray} (hnm : nm.size ≤ maxLen) {p : Prf} {r : Int × Int} (hk : posU x.units n < x.units.length) (hn : (x.units[posU x.units n]'hk).num = n) (hp : profOf x.lib nm.data.toList = some p) (hr : exAt x n p.size (x.units[posU x.units n]'hk) = some r) :
    RigFit (setUn x n ⟨n, nm, r.1, r.2⟩) := by
  refine ⟨hf.1, fun v hv => ?_⟩
  have hu := List.getElem_mem hk
  have hs := size_pos (chkRig_zero hx).1 (u := ⟨n, nm, r.1, r.2⟩) hp
  obtain ⟨r1, r2, r3, _⟩ := exAt_spec hx hu hs.1 hr
  have hn9 := num_range hx hu
  rw [hn] at hn9
  rcases List.mem_or_eq_of_mem_set hv with h | rfl
  · exact hf.2 v h
  · refine ⟨?_, ?_, ?_, hnm⟩ <;> unfold I64 <;> simp only <;> omega
theorem kept_fit {x : Rig} {n : Int} {old p : Prf} {l : List Stg} (hs : ∀ s ∈ l, StgFit s) {y : Rig} (hc : chkStgs y (keptS n old p l) = 0) : ∀ t ∈ keptS n old p l, StgFit t := by
  intro t ht
  have hl := (((stgs_iff y _).1 hc).1 t ht).2
  obtain ⟨s, hs', e⟩ := List.mem_filterMap.1 ht
  have hk := keep_k e
  have eu : t.unit = s.unit := congrArg Prod.fst hk
  have ep : t.par = s.par := congrArg Prod.snd hk
  obtain ⟨f1, f2, _⟩ := hs s hs'
  refine ⟨by rw [eu]; exact f1, by rw [ep]; exact f2, ?_⟩
  unfold I64
  omega
end Go.Proofs.Ytabalicembhjmaa

namespace Go.Proofs.Ytabalicembhjmaa
open Go.RowKit
set_option linter.unusedVariables false
set_option linter.unusedSimpArgs false

/-- the level of a parameter: that of its setting, or its own -/
def lvOf (l : List Stg) (num : Int) (x : Par) : Int := ((l.reverse.find? (isK (num, x.name))).map Stg.lv).getD x.dflt
/-- a unit's bytes, a parameter's put there -/
def putP (l : List Stg) (u : Unt) (b : List Int) (x : Par) : List Int :=
  if x.fine = 0 then b.set (u.addr + x.sl - 2).toNat (rnd (lvOf l u.num x * 255) 65535)
  else (b.set (u.addr + x.sl - 2).toNat (lvOf l u.num x / 256)).set (u.addr + x.fine - 2).toNat (lvOf l u.num x % 256)
def putU (lib : List Prf) (l : List Stg) (b : List Int) (u : Unt) : List Int := (parsOf lib u).foldl (putP l u) b
def noB : List Int := List.replicate 512 0
/-- the bytes of a universe behind some units; none: no unit lies there -/
def uniO (lib : List Prf) (l : List Stg) (us : List Unt) (U : Int) : Option (List Int) :=
  us.foldl (fun o u => if u.univ = U then some (putU lib l (o.getD noB) u) else o) none
theorem uniO_take (lib : List Prf) (l : List Stg) (us : List Unt) (U : Int) (k : Nat) (h : k < us.length) :
    uniO lib l (us.take (k + 1)) U = if us[k].univ = U then some (putU lib l ((uniO lib l (us.take k) U).getD noB) us[k]) else uniO lib l (us.take k) U := by
  unfold uniO
  rw [List.take_succ_eq_append_getElem h, List.foldl_append]
  rfl
theorem uniO_same (lib : List Prf) (l : List Stg) (us : List Unt) (k : Nat) (h : k < us.length) : uniO lib l (us.take (k + 1)) us[k].univ = some (putU lib l ((uniO lib l (us.take k) us[k].univ).getD noB) us[k]) := by
  rw [uniO_take _ _ _ _ _ h, if_pos rfl]
theorem uniO_other (lib : List Prf) (l : List Stg) (us : List Unt) {U : Int} (k : Nat) (h : k < us.length) (hU : us[k].univ ≠ U) : uniO lib l (us.take (k + 1)) U = uniO lib l (us.take k) U := by
  rw [uniO_take _ _ _ _ _ h, if_neg hU]
theorem putU_take (l : List Stg) (u : Unt) (b : List Int) (ps : List Par) (k : Nat) (h : k < ps.length) : (ps.take (k + 1)).foldl (putP l u) b = putP l u ((ps.take k).foldl (putP l u) b) ps[k] := by
  rw [List.take_succ_eq_append_getElem h, List.foldl_append]
  rfl
theorem putP_len (l : List Stg) (u : Unt) (b : List Int) (x : Par) : (putP l u b x).length = b.length := by
  unfold putP
  split <;> simp
theorem fold_len (l : List Stg) (u : Unt) (ps : List Par) : ∀ b : List Int, (ps.foldl (putP l u) b).length = b.length := by
  induction ps with
  | nil => intro b; rfl
  | cons x ps ih => intro b; rw [List.foldl_cons, ih, putP_len]
theorem putU_len (lib : List Prf) (l : List Stg) (b : List Int) (u : Unt) : (putU lib l b u).length = b.length := fold_len l u _ b
theorem uniO_len (lib : List Prf) (l : List Stg) (us : List Unt) (U : Int) : ∀ b, uniO lib l us U = some b → b.length = 512 := by
  have key : ∀ (us : List Unt) (o : Option (List Int)), (∀ b, o = some b → b.length = 512) → ∀ b, us.foldl (fun o u => if u.univ = U then some (putU lib l (o.getD noB) u) else o) o = some b → b.length = 512 := by
    intro us
    induction us with
    | nil => intro o h b hb; exact h b hb
    | cons u us ih =>
      intro o h b hb
      rw [List.foldl_cons] at hb
      refine ih _ ?_ b hb
      intro c hc
      split at hc
      · obtain rfl := Option.some.inj hc
        rw [putU_len]
        cases o with
        | none => exact List.length_replicate
        | some d => exact h d rfl
      · exact h c hc
  exact key us none (by simp)
/-- the frames -/
def framesV (x : Rig) (l : List Stg) : List Frm := (List.range 64).filterMap (fun k : Nat => (uniO x.lib l x.units ((k : Int) + 1)).map (fun b => ⟨(k : Int) + 1, b⟩))
/-- .. of the universes up to k -/
def framesTo (x : Rig) (l : List Stg) (k : Nat) : List Frm := (List.range k).filterMap (fun k : Nat => (uniO x.lib l x.units ((k : Int) + 1)).map (fun b => ⟨(k : Int) + 1, b⟩))
theorem framesTo_some {x : Rig} {l : List Stg} {k : Nat} {b : List Int} (h : uniO x.lib l x.units ((k : Int) + 1) = some b) : framesTo x l (k + 1) = framesTo x l k ++ [⟨(k : Int) + 1, b⟩] := by
  unfold framesTo
  rw [List.range_succ, List.filterMap_append, List.filterMap_cons_some (by rw [h]; rfl)]
  rfl
theorem framesTo_none {x : Rig} {l : List Stg} {k : Nat} (h : uniO x.lib l x.units ((k : Int) + 1) = none) : framesTo x l (k + 1) = framesTo x l k := by
  unfold framesTo
  rw [List.range_succ, List.filterMap_append, List.filterMap_cons_none (by rw [h]; rfl)]
  simp
theorem framesTo_len (x : Rig) (l : List Stg) (k : Nat) : (framesTo x l k).length ≤ k := by
  have := List.length_filterMap_le (fun k : Nat => (uniO x.lib l x.units ((k : Int) + 1)).map (fun b => (⟨(k : Int) + 1, b⟩ : Frm))) (List.range k)
  unfold framesTo
  simpa using this
/-! ### what is known of the places and levels -/
theorem lvOf_range {x : Rig} {l : List Stg} (hl : ∀ s ∈ l, 0 ≤ s.lv ∧ s.lv ≤ 65535) (num : Int) {q : Par} (hq : 0 ≤ q.dflt ∧ q.dflt ≤ 65535) : 0 ≤ lvOf l num q ∧ lvOf l num q ≤ 65535 := by
  unfold lvOf
  cases h : l.reverse.find? (isK (num, q.name)) with
  | none => exact hq
  | some s => exact hl s (List.mem_reverse.1 (List.mem_of_find?_eq_some h))
def framesF (x : Rig) (l : List Stg) : Int := if chkRig x ≠ 0 then chkRig x else chkStgs x l
theorem framesF_bad {x : Rig} {l : List Stg} (h : ¬ chkRig x = 0) : framesF x l = chkRig x := by unfold framesF; rw [if_pos h]
theorem framesF_ok {x : Rig} {l : List Stg} (h : chkRig x = 0) : framesF x l = chkStgs x l := by unfold framesF; rw [if_neg (by simpa using h)]
end Go.Proofs.Ytabalicembhjmaa

namespace Go.Proofs.Ytabalicembhjmaa
open Go.ChangeShapes Go.WideShapes Go.RowKit Go.Deep
set_option linter.unusedSimpArgs false
set_option linter.unusedVariables false

section
variable {H : Type} {enc : TypeId × Value → H} {w : World} {held : Bool}
set_option maxRecDepth 100000 in
theorem read_byte {fuel : Nat} {cs : List Value} {x : DataW H × List MemPlace} (h : DataW.trod enc Try.prog w 0 (fun _ => true) held fuel 5 cs = some x) : ∃ y : Int, cs = bytC y ∧ 0 ≤ y ∧ y ≤ 255 := by
  have hl : ∃ u, cs = [u] := by
    cases fuel with
    | zero => simp [DataW.trod] at h
    | succ n =>
      match cs, h with
      | [u], _ => exact ⟨u, rfl⟩
      | [], h => simp [DataW.trod, Try.underlying5] at h
      | _ :: _ :: _, h => simp [DataW.trod, Try.underlying5] at h
  obtain ⟨u, rfl⟩ := hl
  obtain ⟨a, rfl, hw⟩ := field_int Try.underlying5 h
  refine ⟨a, rfl, ?_⟩
  simp [Lit.wf, IntKind.min, IntKind.max, IntKind.signed, IntKind.bits] at hw
  exact hw
set_option maxRecDepth 100000 in
theorem read_frame {fuel : Nat} {cs : List Value} {x : DataW H × List MemPlace} (h : DataW.trod enc Try.prog w 0 (fun _ => true) held fuel 64 cs = some x) :
    ∃ y : Frm × Value, cs = frmC y ∧ BytS w.heap.size w y.2 y.1.sl ∧ FrmFit y.1 := by
  have hc : Try.prog.cellsOf 64 = 2 := by kernel_rfl
  obtain ⟨hl, n, hf⟩ := open_fields1 Try.underlying64 (by kernel_rfl) hc h
  obtain ⟨u0, u1, rfl⟩ := list2 hl
  obtain ⟨x0, y0, q0, k0⟩ := hf 0 _ rfl
  obtain ⟨x1, y1, q1, k1⟩ := hf 1 _ rfl
  simp at q0 q1
  subst q0 q1
  obtain ⟨a0, rfl, w0⟩ := field_int Try.underlying3 k0
  obtain ⟨v, l, e, h1, h2⟩ := read_rows (n := 1) bytC (fun b => 0 ≤ b ∧ b ≤ 255) (fun _ => rfl) (by omega) Try.underlying62 (by kernel_rfl) (fun _ _ _ h => read_byte h) k1
  simp at e
  subst e
  exact ⟨(⟨a0, l⟩, _), rfl, h1, i64_of_wf w0, h2⟩
/-- frames as an argument -/
def FrmW (w : World) (v : Value) : Prop := ∃ l : List Frm, FrmS w.heap.size w v l ∧ ∀ p ∈ l, FrmFit p
set_option maxRecDepth 100000 in
theorem open_frames {r : Reach} {b0 : Nat} {v : Value} {d : DataW H} {p : List MemPlace} (hv : Value.okWide Try.prog w r b0 26 v) (h : DataW.Trod enc Try.prog w 0 (fun _ => true) held 26 v d p) :
    ∃ a : Value, v = a ∧ FrmW w a := by
  obtain ⟨ao, len, cap, rfl⟩ := okWide_slice Try.underlying26 hv
  obtain ⟨fuel, hf⟩ := h
  obtain ⟨v, l, e, h1, h2⟩ := read_rows (n := 2) frmC (fun y => BytS w.heap.size w y.2 y.1.sl ∧ FrmFit y.1) (fun _ => rfl) (by omega) Try.underlying26 (by kernel_rfl) (fun _ _ _ h => read_frame h) hf
  simp [Value.cells] at e
  subst e
  refine ⟨_, rfl, l.map (·.1), ⟨l, rfl, h1, fun y hy => (h2 y hy).1⟩, fun y hy => ?_⟩
  obtain ⟨z, hz, rfl⟩ := List.mem_map.1 hy
  exact (h2 z hz).2
end
end Go.Proofs.Ytabalicembhjmaa
