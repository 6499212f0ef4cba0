/- The reference's checkParam. (printed by wip/gen/gen_rckpar.py) The reference's CheckProfile, CheckLibrary. (printed by wip/gen/gen_rckprf.py) Units in order of their numbers: where a number stands. No walk in it. (printed by wip/gen/gen_unitfn.py) The search for a unit by its number, of both sides. (printed by wip/gen/gen_unitfn.py) The profile with a name, of both sides, the library below any block. (printed by wip/gen/gen_profb.py) fixture.parameter. (printed by wip/gen/gen_param.py) The reference's param. (printed by wip/gen/gen_param.py) Boxes known by their block and type; what changes rows and boxes of one type leaves those of others. No program in it. Keys, settings as arguments. -/
import Derived.Test.YtopmdeefcjdadaaT43M06
import Derived.Test.YtopmdeefcjdadaaT43M07
import Derived.Test.YtopmdeefcjdadaaT43M05
import Derived.Test.YtopmdeefcjdadaaT43M01
import Derived.Laws.AppendOwn
import Derived.Test.YtopmdeefcjdadaaT43M04

namespace Go.Proofs.Ytopmdeefcjdadaa
open Go.RowKit
set_option linter.unusedVariables false
set_option linter.unusedSimpArgs false

theorem slotsP_len (p : Par) : (slotsP p).length ≤ 2 := by unfold slotsP; split <;> simp
theorem not_used_snoc (SL : List Int) (l : List Par) (k : Nat) (h : k < l.length) (h1 : ∀ s ∈ SL, s ∉ usedS (l.take k)) (h2 : ∀ s ∈ SL, s ∉ slotsP l[k]) : ∀ s ∈ SL, s ∉ usedS (l.take (k + 1)) := by
  intro s hs
  rw [used_snoc l k h, List.mem_append]
  rintro (h3 | h3)
  · exact h1 s hs h3
  · exact h2 s hs h3
theorem mem_take_at {α : Type} (f : α → List UInt8) (l : List α) (k j : Nat) (h : j < l.length) (hj : j < k) (x : List UInt8) (h2 : f l[j] = x) : x ∈ (l.take k).map f := by
  refine List.mem_map.2 ⟨l[j], ?_, h2⟩
  have h3 : j < (l.take k).length := by rw [List.length_take]; omega
  have h4 : (l.take k)[j] = l[j] := List.getElem_take
  rw [← h4]; exact List.getElem_mem h3
theorem used_at (l : List Par) (k : Nat) (h : k < l.length) (s : Int) (hs : s ∈ slotsP l[k]) : s ∈ usedS l := List.mem_flatMap.2 ⟨_, List.getElem_mem h, hs⟩
end Go.Proofs.Ytopmdeefcjdadaa

namespace Go.Proofs.Ytopmdeefcjdadaa
open Go.RowKit
set_option linter.unusedVariables false
set_option linter.unusedSimpArgs false

theorem rngS_cap {B : Nat} {w : World} {ao : Option Addr} {cap : Nat} {l : List Rng} (h : RngS B w (.slice ao l.length cap) l) : l.length ≤ cap ∧ cap ≤ 9223372036854775807 := by
  obtain ⟨ao', cap', e, h1, h2, _⟩ := h
  injection e with _ _ e3
  subst e3
  unfold maxLen at h2
  exact ⟨h1, by omega⟩
theorem untS_cap {B : Nat} {w : World} {ao : Option Addr} {cap : Nat} {l : List Unt} (h : UntS B w (.slice ao l.length cap) l) : l.length ≤ cap ∧ cap ≤ 9223372036854775807 := by
  obtain ⟨ao', cap', e, h1, h2, _⟩ := h
  injection e with _ _ e3
  subst e3
  unfold maxLen at h2
  exact ⟨h1, by omega⟩
theorem parS_cap {B : Nat} {w : World} {ao : Option Addr} {cap : Nat} {l : List Par} (h : ParS B w (.slice ao l.length cap) l) : l.length ≤ cap ∧ cap ≤ 9223372036854775807 := by
  obtain ⟨lv, rfl, h, _⟩ := h
  obtain ⟨ao', cap', e, h1, h2, _⟩ := h
  injection e with _ _ e3
  subst e3
  unfold maxLen at h2
  exact ⟨by simpa using h1, by omega⟩
theorem prfS_cap {B : Nat} {w : World} {ao : Option Addr} {cap : Nat} {l : List Prf} (h : PrfS B w (.slice ao l.length cap) l) : l.length ≤ cap ∧ cap ≤ 9223372036854775807 := by
  obtain ⟨lv, rfl, h, _⟩ := h
  obtain ⟨ao', cap', e, h1, h2, _⟩ := h
  injection e with _ _ e3
  subst e3
  unfold maxLen at h2
  exact ⟨by simpa using h1, by omega⟩
theorem take_good {size : Int} {l : List Par} {k : Nat} (h : ∀ j (hj : j < l.length), j < k → parF size (l.take j) l[j] = 0) (hf : ∀ x ∈ l, ParFit x) : ∀ q ∈ l.take k, 0 ≤ q.fine ∧ q.name.size ≤ maxLen := by
  intro q hq
  obtain ⟨j, hj, rfl⟩ := List.getElem_of_mem hq
  rw [List.length_take] at hj
  rw [List.getElem_take]
  have h1 := h j (by omega) (by omega)
  exact ⟨(parBad_false (parF_zero h1).2.2.2.1).2.1.1, (hf _ (List.getElem_mem _)).2.2.2.2.1⟩
end Go.Proofs.Ytopmdeefcjdadaa

namespace Go.Proofs.Ytopmdeefcjdadaa
open Go.RowKit
set_option linter.unusedVariables false
set_option linter.unusedSimpArgs false

def posU (l : List Unt) (n : Int) : Nat := (l.takeWhile (fun u => decide (u.num < n))).length
def hasU (l : List Unt) (n : Int) : Bool := l.any (fun u => decide (u.num = n))
def isNo (n : Int) (u : Unt) : Bool := decide (u.num = n)
def idxU (l : List Unt) (n : Int) : Int := idxF (isNo n) l 0
def AscU (l : List Unt) : Prop := ∀ i j (hi : i < l.length) (hj : j < l.length), i < j → l[i].num < l[j].num
theorem posU_le (l : List Unt) (n : Int) : posU l n ≤ l.length := List.Sublist.length_le (List.takeWhile_sublist _)
theorem posU_lt (n : Int) : ∀ (l : List Unt) (i : Nat) (h : i < l.length), i < posU l n → l[i].num < n
  | [], i, h, _ => absurd h (by simp)
  | u :: l, i, h, hp => by
    by_cases c : u.num < n
    · have h1 : posU (u :: l) n = posU l n + 1 := by simp [posU, List.takeWhile_cons, c]
      cases i with
      | zero => exact c
      | succ i => exact posU_lt n l i (by simpa using h) (by omega)
    · have h1 : posU (u :: l) n = 0 := by simp [posU, List.takeWhile_cons, c]
      omega
theorem posU_at (n : Int) : ∀ (l : List Unt) (h : posU l n < l.length), n ≤ (l[posU l n]'h).num
  | [], h => absurd h (by simp)
  | u :: l, h => by
    by_cases c : u.num < n
    · have h1 : posU (u :: l) n = posU l n + 1 := by simp [posU, List.takeWhile_cons, c]
      have h2 : posU l n < l.length := by rw [h1] at h; simpa using h
      have h3 := posU_at n l h2
      simp only [h1, List.getElem_cons_succ]
      exact h3
    · have h1 : posU (u :: l) n = 0 := by simp [posU, List.takeWhile_cons, c]
      simp only [h1, List.getElem_cons_zero]
      omega
theorem posU_ge {l : List Unt} (h : AscU l) (n : Int) (i : Nat) (hi : i < l.length) (hp : posU l n ≤ i) : n ≤ l[i].num := by
  have h1 := posU_at n l (by omega)
  by_cases c : posU l n = i
  · subst c; exact h1
  · have := h (posU l n) i (by omega) hi (by omega)
    omega
theorem hasU_at {l : List Unt} (h : AscU l) (n : Int) : hasU l n = true ↔ ∃ hp : posU l n < l.length, (l[posU l n]'hp).num = n := by
  constructor
  · intro h1
    obtain ⟨u, hu, h2⟩ := List.any_eq_true.1 h1
    simp at h2
    obtain ⟨i, hi, rfl⟩ := List.getElem_of_mem hu
    have h3 : ¬ i < posU l n := fun c => by have := posU_lt n l i hi c; omega
    have h4 : ¬ posU l n < i := fun c => by
      have h5 := posU_at n l (by omega)
      have := h (posU l n) i (by omega) hi c
      omega
    have h6 : posU l n = i := by omega
    subst h6
    exact ⟨hi, h2⟩
  · rintro ⟨hp, h1⟩
    exact List.any_eq_true.2 ⟨_, List.getElem_mem hp, by simpa using h1⟩
theorem hasU_end {l : List Unt} (h : AscU l) (n : Int) (hp : l.length ≤ posU l n) : hasU l n = false := by
  cases c : hasU l n
  · rfl
  · obtain ⟨h1, _⟩ := (hasU_at h n).1 c
    omega
theorem hasU_val {l : List Unt} (h : AscU l) (n : Int) (hp : posU l n < l.length) : hasU l n = decide ((l[posU l n]'hp).num = n) := by
  by_cases c : (l[posU l n]'hp).num = n
  · rw [(hasU_at h n).2 ⟨hp, c⟩]; simpa using c
  · cases d : hasU l n
    · simpa using c
    · obtain ⟨_, h1⟩ := (hasU_at h n).1 d
      exact absurd h1 c
theorem idxU_has {l : List Unt} (h : AscU l) (n : Int) : (hasU l n = true → idxU l n = (posU l n : Int)) ∧ (hasU l n = false → idxU l n = -1) := by
  rcases idxF_spec (isNo n) l with ⟨h1, h2⟩ | ⟨k, hk, h1, h2⟩
  · refine ⟨fun c => ?_, fun _ => h1⟩
    obtain ⟨hp, h3⟩ := (hasU_at h n).1 c
    have := List.find?_eq_none.1 h2 _ (List.getElem_mem hp)
    simp [isNo] at this
    exact absurd h3 this
  · have h3 : l[k].num = n := by simpa [isNo] using List.find?_some h2
    refine ⟨fun _ => ?_, fun c => ?_⟩
    · have h4 : ¬ k < posU l n := fun d => by have := posU_lt n l k hk d; omega
      have h5 : ¬ posU l n < k := fun d => by
        have h6 := posU_at n l (by omega)
        have := h (posU l n) k (by omega) hk d
        omega
      have h7 : posU l n = k := by omega
      rw [h7]; exact h1
    · have : hasU l n = true := List.any_eq_true.2 ⟨_, List.getElem_mem hk, by simpa using h3⟩
      rw [this] at c; cases c
theorem asc_units {r : Rig} (h : chkRig r = 0) : AscU r.units := by
  obtain ⟨_, _, h3⟩ := chkRig_zero h
  have step : ∀ k, ∀ hk : k + 1 < r.units.length, r.units[k].num < r.units[k + 1].num := by
    intro k hk
    have h4 := (untF_zero (scanF_zero _ _ h3 (k + 1) hk)).2.1
    unfold untLow at h4
    rw [last_take r.units (k + 1) hk (by omega)] at h4
    simp at h4
    exact h4
  have less : ∀ i d, ∀ hj : i + 1 + d < r.units.length, r.units[i].num < (r.units[i + 1 + d]'hj).num := by
    intro i d
    induction d with
    | zero => intro hj; exact step i hj
    | succ d ih => intro hj; exact Int.lt_trans (ih (by omega)) (step (i + 1 + d) hj)
  intro i j hi hj hij
  obtain ⟨d, rfl⟩ : ∃ d, j = i + 1 + d := ⟨j - (i + 1), by omega⟩
  exact less i d hj
theorem num_range {r : Rig} (h : chkRig r = 0) {u : Unt} (hu : u ∈ r.units) : 1 ≤ u.num ∧ u.num ≤ 9999 := by
  obtain ⟨_, _, h3⟩ := chkRig_zero h
  obtain ⟨k, hk, rfl⟩ := List.getElem_of_mem hu
  exact (untF_zero (scanF_zero _ _ h3 k hk)).1
end Go.Proofs.Ytopmdeefcjdadaa

namespace Go.Proofs.Ytopmdeefcjdadaa
open Go.RowKit
set_option linter.unusedVariables false
set_option linter.unusedSimpArgs false

set_option maxRecDepth 100000 in
set_option maxHeartbeats 4000000 in
theorem runit_any (x : Rig) (lv uv : Value) (n : Int) (w : World) (h : RigAt w.heap.size w x lv uv) :
    Calls Try.prog 118 #[rigV lv uv, .int .i64 n] w fun e w' => e = .returned (.int .i64 (idxU x.units n)) ∧ Below w.heap.size w w' := by
  have HG := Lib.hid (UntS.get h.units)
  obtain ⟨uo, ucap, rfl, _⟩ := CellsS.shape h.units
  obtain ⟨lo, lcap, rfl⟩ := prfS_shape h.lib
  have hm := untS_cap h.units
  have HC := Lib.hid (show idxU x.units n = idxF (isNo n) (x.units.drop 0) 0 by simp [idxU])
  unfold rigV
  clear h
  generalize idxU x.units n = RES at *
  obtain ⟨lib, units⟩ := x
  simp only at *
  go_enter Try.func118, Try.ntmps118
  go_wp2_with fail
  go_loopw [10] (fun i wx => ∃ k : Nat, k ≤ units.length ∧ i = .int .i64 k ∧ Hid (RES = idxF (isNo n) (units.drop k) k) ∧ Hid (Below w.heap.size w wx)) (fun i _ => units.length - (intOf i).toNat)
  case atStart => exact ⟨0, Nat.zero_le _, rfl, HC, Lib.hid ((Below.refl _ _).alloc (Nat.le_refl _) _)⟩
  case round =>
    obtain ⟨k, hk, rfl, HR, HBW⟩ := hrel
    by_cases hlt : k < units.length
    · obtain ⟨b, off, cap', hsl, hb, _, hc⟩ := HG.out (by omega)
      injection hsl with hs1 hs2 hs3
      subst hs1 hs3
      obtain ⟨d0, d1, d2, d3⟩ := hc k hlt wr HBW.out
      have hbr : b < wr.heap.size := by have := HBW.out.size; omega
      have HY := Lib.hid (idxF_yes (isNo n) units k hlt)
      have HN := Lib.hid (idxF_no (isNo n) units k hlt)
      have HT := Lib.hid (show isNo n units[k] = decide (units[k].num = n) from rfl)
      clear hc
      generalize isNo n units[k] = T at *
      generalize hrk : units[k] = rk at *
      clear hrk
      obtain ⟨un, up, uu, ua⟩ := rk
      simp only at *
      have HBX := Lib.hid (HBW.out.alloc (HBW.out.size) (.cells #[.int .i64 un, .string up, .int .i64 uu, .int .i64 ua] 134))
      by_cases he : un = n
      · have h2 : (un == n) = true := by simpa using he
        have HV := Lib.hid (HR.out.trans (HY.out (by rw [HT.out]; simpa using he)))
        clear HT HN he
        go_wp2_with fail
        go_ret
        exact ⟨by rw [HV.out] <;> rfl, HBX.out⟩
      · have h2 : (un == n) = false := by simpa using he
        have HV := Lib.hid (HR.out.trans (HN.out (by rw [HT.out]; simpa using he)))
        clear HT HY he
        go_wp2_with fail
        go_roundw
        case rel => exact ⟨k + 1, by omega, by go_num, HV, HBX⟩
        case measure => simp [intOf]; omega
    · have HV := Lib.hid (show RES = -1 by rw [HR.out, idxF_end _ units k (by omega)])
      have hkk : k = units.length := by omega
      subst hkk
      go_wp2_with fail
      go_ret
      exact ⟨by rw [HV.out] <;> rfl, HBW.out⟩
end Go.Proofs.Ytopmdeefcjdadaa

namespace Go.Proofs.Ytopmdeefcjdadaa
open Go.RowKit
set_option linter.unusedVariables false
set_option linter.unusedSimpArgs false

set_option maxRecDepth 100000 in
set_option maxHeartbeats 4000000 in
theorem profile_base (B : Nat) (v : Value) (l : List Prf) (nm : ByteArray) (w : World) (hBw : B ≤ w.heap.size) (h : PrfS B w v l) :
    Calls Try.prog 93 #[v, .string nm] w fun e w' => ∃ pv, e = .returned (.tuple #[pv, .bool (profOf l nm.data.toList).isSome]) ∧ PrfR B w' (profOf l nm.data.toList) pv ∧ Below w.heap.size w w' := by
  have HG := Lib.hid (PrfS.get h)
  have HSP := Lib.hid (idxF_spec (hasNm nm.data.toList) l)
  have HPO := Lib.hid (show profOf l nm.data.toList = l.find? (hasNm nm.data.toList) from rfl)
  have HCI := Lib.hid (fun W (hW : Below w.heap.size w W) tb (ht : W.cell? ⟨tb, 0, none⟩ = some (.string nm)) (hb : tb < W.heap.size) => prf_index v l nm tb W ((h.below (hW.mono hBw)).more (Nat.le_trans hBw hW.size)) ht hb)
  obtain ⟨lv, hlv, hcs, _⟩ := h
  obtain ⟨ao, cap, rfl, _⟩ := CellsS.shape hcs
  have hm := CellsS.len hcs
  rw [show lv.length = l.length by rw [← hlv]; simp] at *
  clear hcs hlv
  unfold maxLen at hm
  generalize idxF (hasNm nm.data.toList) l 0 = IX at *
  rw [HPO.out]
  generalize l.find? (hasNm nm.data.toList) = RES at *
  have HX := Lib.hid (HCI.out ((w.alloc (.cells #[.string nm] 9)).alloc (.cells #[.string ⟨#[]⟩, .int .i64 0, .slice none 0 0] 137)) (((Below.refl _ _).alloc (Nat.le_refl _) _).alloc (by simp) _) w.heap.size (by simp [go_sem]) (by simp; omega))
  unfold prfFn at HX
  clear HCI HPO
  go_enter Try.func93, Try.ntmps93
  go_wp2_with fail
  refine HX.out.mono ?_
  rintro e w1 ⟨rfl, hb1⟩
  have HB1 := Lib.hid ((((Below.refl w.heap.size w).alloc (Nat.le_refl _) (.cells #[.string nm] 9)).alloc (by simp) (.cells #[.string ⟨#[]⟩, .int .i64 0, .slice none 0 0] 137)).trans (hb1.mono (by simp; omega)))
  have hz1 := hb1.size
  simp only [World.size_alloc] at hz1
  have c0 : w1.cell? ⟨w.heap.size + 1, 0, none⟩ = some (.string ⟨#[]⟩) := (hb1.cell (p := ⟨w.heap.size + 1, 0, none⟩) (by simp)).trans (by simp [go_sem])
  have c1 : w1.cell? ⟨w.heap.size + 1, 1, none⟩ = some (.int .i64 0) := (hb1.cell (p := ⟨w.heap.size + 1, 1, none⟩) (by simp)).trans (by simp [go_sem])
  have c2 : w1.cell? ⟨w.heap.size + 1, 2, none⟩ = some (.slice none 0 0) := (hb1.cell (p := ⟨w.heap.size + 1, 2, none⟩) (by simp)).trans (by simp [go_sem])
  have f0 : w1.frozen? ⟨w.heap.size + 1, 0, none⟩ = false := (hb1.frozen (p := ⟨w.heap.size + 1, 0, none⟩) (by simp)).trans (by simp [go_sem])
  have f1 : w1.frozen? ⟨w.heap.size + 1, 1, none⟩ = false := (hb1.frozen (p := ⟨w.heap.size + 1, 1, none⟩) (by simp)).trans (by simp [go_sem])
  have f2 : w1.frozen? ⟨w.heap.size + 1, 2, none⟩ = false := (hb1.frozen (p := ⟨w.heap.size + 1, 2, none⟩) (by simp)).trans (by simp [go_sem])
  have KSB := Lib.hid (show ∀ u0 u1 u2, Below w.heap.size w (((w1.setCell ⟨w.heap.size + 1, 0, none⟩ u0).setCell ⟨w.heap.size + 1, 1, none⟩ u1).setCell ⟨w.heap.size + 1, 2, none⟩ u2) from fun u0 u1 u2 => ((HB1.out.setCell (p := ⟨w.heap.size + 1, 0, none⟩) (by simp) u0).setCell (p := ⟨w.heap.size + 1, 1, none⟩) (by simp) u1).setCell (p := ⟨w.heap.size + 1, 2, none⟩) (by simp) u2)
  have KST := Lib.hid (show ∀ u0 u1 u2 {v : Value} {l : List Par}, ParS B w1 v l → ParS B (((w1.setCell ⟨w.heap.size + 1, 0, none⟩ u0).setCell ⟨w.heap.size + 1, 1, none⟩ u1).setCell ⟨w.heap.size + 1, 2, none⟩ u2) v l from fun u0 u1 u2 _ _ h => h.below ((((Below.refl B w1).setCell (p := ⟨w.heap.size + 1, 0, none⟩) (by show B ≤ w.heap.size + 1; omega) u0).setCell (p := ⟨w.heap.size + 1, 1, none⟩) (by show B ≤ w.heap.size + 1; omega) u1).setCell (p := ⟨w.heap.size + 1, 2, none⟩) (by show B ≤ w.heap.size + 1; omega) u2))
  clear hb1 HX
  rcases HSP.out with ⟨rfl, rfl⟩ | ⟨k, hk, rfl, rfl⟩
  · go_wp2_with fail
    exact bodyPost_ret (v := .tuple #[.agg #[.string ⟨#[]⟩, .int .i64 0, .slice none 0 0], .bool false]) (by simp [results, Try.results93, go_sem, c0, c1, c2]) rfl ⟨_, rfl, rfl, KSB.out _ _ _⟩
  · obtain ⟨b, off, cap', hsl, hbb, _, hc⟩ := HG.out (by omega)
    injection hsl with hs1 hs2 hs3
    subst hs1 hs3
    obtain ⟨pv, hpv, hcc⟩ := hc k hk
    have HPV := Lib.hid (hpv.below (HB1.out.mono hBw))
    obtain ⟨d0, d1, d2⟩ := hcc w1 (HB1.out.mono hBw)
    have hbr : b < w1.heap.size := by omega
    obtain ⟨lv, hlv, hcs, _⟩ := hpv
    obtain ⟨po, pcap, rfl, _⟩ := CellsS.shape hcs
    rw [show lv.length = l[k].pars.length by rw [← hlv]; simp] at *
    clear hc hcc hcs hlv HG HSP
    generalize hrk : l[k] = rk at *
    have HRK := Lib.hid hrk
    clear hrk
    obtain ⟨pn, pz, pl⟩ := rk
    simp only at *
    go_wp2_with fail
    exact bodyPost_ret (v := .tuple #[.agg #[.string pn, .int .i64 pz, .slice po pl.length pcap], .bool true]) (by simp [results, Try.results93, go_sem, c0, c1, c2]) rfl ⟨_, rfl, by rw [HRK.out]; exact ⟨_, rfl, KST.out _ _ _ HPV.out⟩, KSB.out _ _ _⟩
set_option maxRecDepth 100000 in
set_option maxHeartbeats 8000000 in
theorem rprofile_base (B : Nat) (v : Value) (l : List Prf) (nm : ByteArray) (w : World) (hBw : B ≤ w.heap.size) (h : PrfS B w v l) :
    Calls Try.prog 119 #[v, .string nm] w fun e w' => ∃ pv, e = .returned (.tuple #[pv, .bool (profOf l nm.data.toList).isSome]) ∧ PrfR B w' (profOf l nm.data.toList) pv ∧ Below w.heap.size w w' := by
  have HG := Lib.hid (PrfS.get h)
  obtain ⟨ao, cap, rfl⟩ := prfS_shape h
  have hm : l.length ≤ 9223372036854775807 := by
    by_cases c : 0 < l.length
    · obtain ⟨_, _, _, _, _, hm, _⟩ := PrfS.get h c
      unfold maxLen at hm; exact hm
    · omega
  have HS := Lib.hid (idxF_spec (hasNm nm.data.toList) l)
  have HSP := Lib.hid (show (idxF (hasNm nm.data.toList) l 0 = -1 → profOf l nm.data.toList = none) ∧ ∀ (k : Nat) (h : k < l.length), idxF (hasNm nm.data.toList) l 0 = (k : Int) → profOf l nm.data.toList = some l[k] from by
    rcases HS.out with ⟨h1, h2⟩ | ⟨k, hk, h1, h2⟩
    · exact ⟨fun _ => h2, fun k hk h => by rw [h1] at h; omega⟩
    · refine ⟨fun h => by rw [h1] at h; omega, fun j hj h => ?_⟩
      rw [h1] at h
      have : j = k := by omega
      subst this
      exact h2)
  have HC := Lib.hid (show idxF (hasNm nm.data.toList) l 0 = idxF (hasNm nm.data.toList) (l.drop 0) 0 by simp)
  generalize idxF (hasNm nm.data.toList) l 0 = IX at *
  generalize hPO : profOf l nm.data.toList = PO at *
  clear hPO HS h
  go_enter Try.func119, Try.ntmps119
  go_wp2_with fail
  go_loopw [10] (fun i wr => ∃ k : Nat, k ≤ l.length ∧ i = .int .i64 k ∧ Hid (IX = idxF (hasNm nm.data.toList) (l.drop k) k) ∧ Hid (Below (w.heap.size + 1) (w.alloc (.cells #[.string ⟨#[]⟩, .int .i64 0, .slice none 0 0] 137)) wr)) (fun i _ => l.length - (intOf i).toNat)
  case atStart => exact ⟨0, Nat.zero_le _, rfl, HC, Lib.hid (Below.refl _ _)⟩
  case round =>
    obtain ⟨k, hk, rfl, HR, HBW⟩ := hrel
    have hzr := HBW.out.size
    simp only [World.size_alloc] at hzr
    have hBB : Below w.heap.size w wr := ((Below.refl _ _).alloc (Nat.le_refl _) _).trans (HBW.out.mono (by omega))
    have z0 : wr.cell? ⟨w.heap.size, 0, none⟩ = some (.string ⟨#[]⟩) := (HBW.out.cell (p := ⟨w.heap.size, 0, none⟩) (by simp)).trans (by simp [go_sem])
    have z1 : wr.cell? ⟨w.heap.size, 1, none⟩ = some (.int .i64 0) := (HBW.out.cell (p := ⟨w.heap.size, 1, none⟩) (by simp)).trans (by simp [go_sem])
    have z2 : wr.cell? ⟨w.heap.size, 2, none⟩ = some (.slice none 0 0) := (HBW.out.cell (p := ⟨w.heap.size, 2, none⟩) (by simp)).trans (by simp [go_sem])
    have y0 : wr.frozen? ⟨w.heap.size, 0, none⟩ = false := (HBW.out.frozen (p := ⟨w.heap.size, 0, none⟩) (by simp)).trans (by simp [go_sem])
    have y1 : wr.frozen? ⟨w.heap.size, 1, none⟩ = false := (HBW.out.frozen (p := ⟨w.heap.size, 1, none⟩) (by simp)).trans (by simp [go_sem])
    have y2 : wr.frozen? ⟨w.heap.size, 2, none⟩ = false := (HBW.out.frozen (p := ⟨w.heap.size, 2, none⟩) (by simp)).trans (by simp [go_sem])
    have hwr : w.heap.size < wr.heap.size := by omega
    have KSB := Lib.hid (show ∀ W, Below w.heap.size w W → ∀ u0 u1 u2, Below w.heap.size w (((W.setCell ⟨w.heap.size, 0, none⟩ u0).setCell ⟨w.heap.size, 1, none⟩ u1).setCell ⟨w.heap.size, 2, none⟩ u2) from fun W hW u0 u1 u2 => ((hW.setCell (p := ⟨w.heap.size, 0, none⟩) (by simp) u0).setCell (p := ⟨w.heap.size, 1, none⟩) (by simp) u1).setCell (p := ⟨w.heap.size, 2, none⟩) (by simp) u2)
    by_cases hlt : k < l.length
    · obtain ⟨b, off, cap', hsl, hbb, _, hc⟩ := HG.out (by omega)
      injection hsl with hs1 hs2 hs3
      subst hs1 hs3
      obtain ⟨pv, hpv, hcc⟩ := hc k hlt
      obtain ⟨d0, d1, d2⟩ := hcc wr (hBB.mono hBw)
      have HPV := Lib.hid hpv
      have hbr : b < wr.heap.size := by omega
      have HY := Lib.hid (idxF_yes (hasNm nm.data.toList) l k hlt)
      have HN := Lib.hid (idxF_no (hasNm nm.data.toList) l k hlt)
      have HT := Lib.hid (show hasNm nm.data.toList l[k] = decide (l[k].name.data.toList = nm.data.toList) from rfl)
      have HPS := Lib.hid (HSP.out.2 k hlt)
      obtain ⟨po, pcap, rfl⟩ := parS_shape hpv
      have HBB := Lib.hid hBB
      clear hc hcc hpv HSP hBB
      generalize hasNm nm.data.toList l[k] = T at *
      generalize hrk : l[k] = rk at *
      clear hrk
      obtain ⟨pn, pz, pl⟩ := rk
      simp only at *
      by_cases he : pn.data.toList = nm.data.toList
      · have h2 : (pn.toList == nm.toList) = true := by rw [Lib.toList_data, Lib.toList_data]; simpa using he
        have HV := Lib.hid (HPS.out (HR.out.trans (HY.out (by rw [HT.out]; simpa using he))))
        clear he
        have HV1 : PO = some ⟨pn, pz, pl⟩ := HV.out
        go_wp2_with fail
        exact bodyPost_ret (v := .tuple #[.agg #[.string pn, .int .i64 pz, .slice po pl.length pcap], .bool true]) (by simp [results, Try.results119, go_sem, z0, z1, z2, hwr]) rfl ⟨_, by rw [HV.out] <;> rfl, by rw [HV.out]; exact ⟨_, rfl, HPV.out.below (((KSB.out _ HBB.out _ _ _).alloc (by simp; omega) _).mono hBw)⟩, (KSB.out _ HBB.out _ _ _).alloc (by simp; omega) _⟩
      · have h2 : (pn.toList == nm.toList) = false := by rw [Lib.toList_data, Lib.toList_data]; simpa using he
        have HV := Lib.hid (HR.out.trans (HN.out (by rw [HT.out]; simpa using he)))
        clear he
        have HBW2 := Lib.hid (HBW.out.alloc (by omega) (.cells #[.string pn, .int .i64 pz, .slice po pl.length pcap] 137))
        go_wp2_with fail
        go_roundw
        case rel => exact ⟨k + 1, by omega, by go_num, HV, HBW2⟩
        case measure => simp [intOf]; omega
    · have HV := Lib.hid (HSP.out.1 (by rw [HR.out, idxF_end _ l k (by omega)]))
      have HBB := Lib.hid hBB
      clear hBB
      have hkk : k = l.length := by omega
      subst hkk
      go_wp2_with fail
      exact bodyPost_ret (v := .tuple #[.agg #[.string ⟨#[]⟩, .int .i64 0, .slice none 0 0], .bool false]) (by simp [results, Try.results119, go_sem, z0, z1, z2]) rfl ⟨_, by rw [HV.out] <;> rfl, by rw [HV.out]; rfl, KSB.out _ HBB.out _ _ _⟩
end Go.Proofs.Ytopmdeefcjdadaa

namespace Go.Proofs.Ytopmdeefcjdadaa
open Go.RowKit
set_option linter.unusedVariables false
set_option linter.unusedSimpArgs false

def hasPn (nm : List UInt8) (p : Par) : Bool := decide (p.nm = nm)
def parOf (l : List Par) (nm : List UInt8) : Option Par := l.find? (hasPn nm)
/-- the value of a parameter, or of none: its ranges' slice lies below block B -/
def ParR (B : Nat) (w : World) (o : Option Par) (v : Value) : Prop :=
  match o with
  | some p => ∃ rv, v = .agg #[.string p.name, .int .i64 p.grp, .int .i64 p.sl, .int .i64 p.fine, .int .i64 p.dflt, .bool p.snap, rv] ∧ RngS B w rv p.rngs
  | none => v = .agg #[.string ⟨#[]⟩, .int .i64 0, .int .i64 0, .int .i64 0, .int .i64 0, .bool false, .slice none 0 0]
theorem ParR.below {B : Nat} {w w' : World} {o : Option Par} {v : Value} (h : ParR B w o v) (hb : Below B w w') : ParR B w' o v := by
  cases o with
  | none => exact h
  | some p =>
    obtain ⟨pv, h1, h2⟩ := h
    exact ⟨pv, h1, h2.below hb⟩
theorem rngS_shape {B : Nat} {w : World} {v : Value} {l : List Rng} (h : RngS B w v l) : ∃ ao cap, v = .slice ao l.length cap := by
  obtain ⟨ao, cap, rfl, _⟩ := CellsS.shape h
  exact ⟨ao, cap, rfl⟩
theorem parR_shape {B : Nat} {w : World} {o : Option Par} {v : Value} (h : ParR B w o v) : ∃ qn qg qs qf qd qb qo ql qc, v = .agg #[.string qn, .int .i64 qg, .int .i64 qs, .int .i64 qf, .int .i64 qd, .bool qb, .slice qo ql qc] := by
  cases o with
  | none => exact ⟨_, _, _, _, _, _, _, _, _, h⟩
  | some p =>
    obtain ⟨pv, rfl, hp⟩ := h
    obtain ⟨ao, cap, rfl⟩ := rngS_shape hp
    exact ⟨_, _, _, _, _, _, _, _, _, rfl⟩
end Go.Proofs.Ytopmdeefcjdadaa

namespace Go.Proofs.Ytopmdeefcjdadaa
open Go.RowKit
set_option linter.unusedVariables false
set_option linter.unusedSimpArgs false

set_option maxRecDepth 100000 in
set_option maxHeartbeats 8000000 in
theorem rparam_any (B : Nat) (pn : ByteArray) (pz : Int) (pv : Value) (l : List Par) (nm : ByteArray) (w : World) (hBw : B ≤ w.heap.size) (h : ParS B w pv l) :
    Calls Try.prog 120 #[.agg #[.string pn, .int .i64 pz, pv], .string nm] w fun e w' => ∃ xv, e = .returned (.tuple #[xv, .bool (parOf l nm.data.toList).isSome]) ∧ ParR B w' (parOf l nm.data.toList) xv ∧ Below w.heap.size w w' := by
  have HG := Lib.hid (ParS.get h)
  have HS := Lib.hid (idxF_spec (hasPn nm.data.toList) l)
  have HSP := Lib.hid (show (idxF (hasPn nm.data.toList) l 0 = -1 → parOf l nm.data.toList = none) ∧ ∀ (k : Nat) (h : k < l.length), idxF (hasPn nm.data.toList) l 0 = (k : Int) → parOf l nm.data.toList = some l[k] from by
    rcases HS.out with ⟨h1, h2⟩ | ⟨k, hk, h1, h2⟩
    · exact ⟨fun _ => h2, fun k hk h => by rw [h1] at h; omega⟩
    · refine ⟨fun h => by rw [h1] at h; omega, fun j hj h => ?_⟩
      rw [h1] at h
      have : j = k := by omega
      subst this
      exact h2)
  have HC := Lib.hid (show idxF (hasPn nm.data.toList) l 0 = idxF (hasPn nm.data.toList) (l.drop 0) 0 by simp)
  obtain ⟨po, pcap, rfl⟩ := parS_shape h
  have hm := parS_cap h
  generalize idxF (hasPn nm.data.toList) l 0 = IX at *
  generalize hPO : parOf l nm.data.toList = PO at *
  clear hPO HS h
  go_enter Try.func120, Try.ntmps120
  go_wp2_with fail
  go_loopw [11] (fun i wr => ∃ k : Nat, k ≤ l.length ∧ i = .int .i64 k ∧ Hid (IX = idxF (hasPn nm.data.toList) (l.drop k) k) ∧ Hid (Below (w.heap.size + 1 + 1) ((w.alloc (.cells #[.string pn, .int .i64 pz, .slice po l.length pcap] 137)).alloc (.cells #[.string ⟨#[]⟩, .int .i64 0, .int .i64 0, .int .i64 0, .int .i64 0, .bool false, .slice none 0 0] 147)) wr)) (fun i _ => l.length - (intOf i).toNat)
  case atStart => exact ⟨0, Nat.zero_le _, rfl, HC, Lib.hid (Below.refl _ _)⟩
  case round =>
    obtain ⟨k, hk, rfl, HR, HBW⟩ := hrel
    have hzr := HBW.out.size
    simp only [World.size_alloc] at hzr
    have hBB : Below w.heap.size w wr := (((Below.refl _ _).alloc (Nat.le_refl _) _).alloc (by simp) _).trans (HBW.out.mono (by omega))
    have z0 : wr.cell? ⟨w.heap.size + 1, 0, none⟩ = some (.string ⟨#[]⟩) := (HBW.out.cell (p := ⟨w.heap.size + 1, 0, none⟩) (by simp)).trans (by simp [go_sem])
    have z1 : wr.cell? ⟨w.heap.size + 1, 1, none⟩ = some (.int .i64 0) := (HBW.out.cell (p := ⟨w.heap.size + 1, 1, none⟩) (by simp)).trans (by simp [go_sem])
    have z2 : wr.cell? ⟨w.heap.size + 1, 2, none⟩ = some (.int .i64 0) := (HBW.out.cell (p := ⟨w.heap.size + 1, 2, none⟩) (by simp)).trans (by simp [go_sem])
    have z3 : wr.cell? ⟨w.heap.size + 1, 3, none⟩ = some (.int .i64 0) := (HBW.out.cell (p := ⟨w.heap.size + 1, 3, none⟩) (by simp)).trans (by simp [go_sem])
    have z4 : wr.cell? ⟨w.heap.size + 1, 4, none⟩ = some (.int .i64 0) := (HBW.out.cell (p := ⟨w.heap.size + 1, 4, none⟩) (by simp)).trans (by simp [go_sem])
    have z5 : wr.cell? ⟨w.heap.size + 1, 5, none⟩ = some (.bool false) := (HBW.out.cell (p := ⟨w.heap.size + 1, 5, none⟩) (by simp)).trans (by simp [go_sem])
    have z6 : wr.cell? ⟨w.heap.size + 1, 6, none⟩ = some (.slice none 0 0) := (HBW.out.cell (p := ⟨w.heap.size + 1, 6, none⟩) (by simp)).trans (by simp [go_sem])
    have y0 : wr.frozen? ⟨w.heap.size + 1, 0, none⟩ = false := (HBW.out.frozen (p := ⟨w.heap.size + 1, 0, none⟩) (by simp)).trans (by simp [go_sem])
    have y1 : wr.frozen? ⟨w.heap.size + 1, 1, none⟩ = false := (HBW.out.frozen (p := ⟨w.heap.size + 1, 1, none⟩) (by simp)).trans (by simp [go_sem])
    have y2 : wr.frozen? ⟨w.heap.size + 1, 2, none⟩ = false := (HBW.out.frozen (p := ⟨w.heap.size + 1, 2, none⟩) (by simp)).trans (by simp [go_sem])
    have y3 : wr.frozen? ⟨w.heap.size + 1, 3, none⟩ = false := (HBW.out.frozen (p := ⟨w.heap.size + 1, 3, none⟩) (by simp)).trans (by simp [go_sem])
    have y4 : wr.frozen? ⟨w.heap.size + 1, 4, none⟩ = false := (HBW.out.frozen (p := ⟨w.heap.size + 1, 4, none⟩) (by simp)).trans (by simp [go_sem])
    have y5 : wr.frozen? ⟨w.heap.size + 1, 5, none⟩ = false := (HBW.out.frozen (p := ⟨w.heap.size + 1, 5, none⟩) (by simp)).trans (by simp [go_sem])
    have y6 : wr.frozen? ⟨w.heap.size + 1, 6, none⟩ = false := (HBW.out.frozen (p := ⟨w.heap.size + 1, 6, none⟩) (by simp)).trans (by simp [go_sem])
    have hwr : w.heap.size + 1 < wr.heap.size := by omega
    have KSB := Lib.hid (show ∀ W, Below w.heap.size w W → ∀ u0 u1 u2 u3 u4 u5 u6, Below w.heap.size w (((((((W.setCell ⟨w.heap.size + 1, 0, none⟩ u0).setCell ⟨w.heap.size + 1, 1, none⟩ u1).setCell ⟨w.heap.size + 1, 2, none⟩ u2).setCell ⟨w.heap.size + 1, 3, none⟩ u3).setCell ⟨w.heap.size + 1, 4, none⟩ u4).setCell ⟨w.heap.size + 1, 5, none⟩ u5).setCell ⟨w.heap.size + 1, 6, none⟩ u6) from fun W hW u0 u1 u2 u3 u4 u5 u6 => (((((((hW.setCell (p := ⟨w.heap.size + 1, 0, none⟩) (by simp; try omega) u0).setCell (p := ⟨w.heap.size + 1, 1, none⟩) (by simp; try omega) u1).setCell (p := ⟨w.heap.size + 1, 2, none⟩) (by simp; try omega) u2).setCell (p := ⟨w.heap.size + 1, 3, none⟩) (by simp; try omega) u3).setCell (p := ⟨w.heap.size + 1, 4, none⟩) (by simp; try omega) u4).setCell (p := ⟨w.heap.size + 1, 5, none⟩) (by simp; try omega) u5).setCell (p := ⟨w.heap.size + 1, 6, none⟩) (by simp; try omega) u6))
    by_cases hlt : k < l.length
    · obtain ⟨b, off, cap', hsl, hbb, _, hc⟩ := HG.out (by omega)
      injection hsl with hs1 hs2 hs3
      subst hs1 hs3
      obtain ⟨rv, hrv, hcc⟩ := hc k hlt
      obtain ⟨d0, d1, d2, d3, d4, d5, d6⟩ := hcc wr (hBB.mono hBw)
      have HPV := Lib.hid hrv
      have hbr : b < wr.heap.size := by omega
      have HY := Lib.hid (idxF_yes (hasPn nm.data.toList) l k hlt)
      have HN := Lib.hid (idxF_no (hasPn nm.data.toList) l k hlt)
      have HT := Lib.hid (show hasPn nm.data.toList l[k] = decide (l[k].name.data.toList = nm.data.toList) from rfl)
      have HPS := Lib.hid (HSP.out.2 k hlt)
      obtain ⟨ro, rcap, rfl⟩ := rngS_shape hrv
      have HBB := Lib.hid hBB
      clear hc hcc hrv HSP hBB
      generalize hasPn nm.data.toList l[k] = T at *
      generalize hrk : l[k] = rk at *
      clear hrk
      obtain ⟨xn, xg, xs, xf, xd, xb, xl⟩ := rk
      simp only at *
      by_cases he : xn.data.toList = nm.data.toList
      · have h2 : (xn.toList == nm.toList) = true := by rw [Lib.toList_data, Lib.toList_data]; simpa using he
        have HV := Lib.hid (HPS.out (HR.out.trans (HY.out (by rw [HT.out]; simpa using he))))
        clear he
        go_wp2_with fail
        exact bodyPost_ret (v := .tuple #[.agg #[.string xn, .int .i64 xg, .int .i64 xs, .int .i64 xf, .int .i64 xd, .bool xb, .slice ro xl.length rcap], .bool true]) (by simp [results, Try.results120, go_sem, z0, z1, z2, z3, z4, z5, z6, hwr]) rfl ⟨_, by rw [HV.out] <;> rfl, by rw [HV.out]; exact ⟨_, rfl, HPV.out.below (((KSB.out _ HBB.out _ _ _ _ _ _ _).alloc (by simp; omega) _).mono hBw)⟩, (KSB.out _ HBB.out _ _ _ _ _ _ _).alloc (by simp; omega) _⟩
      · have h2 : (xn.toList == nm.toList) = false := by rw [Lib.toList_data, Lib.toList_data]; simpa using he
        have HV := Lib.hid (HR.out.trans (HN.out (by rw [HT.out]; simpa using he)))
        clear he
        have HBW2 := Lib.hid (HBW.out.alloc (by omega) (.cells #[.string xn, .int .i64 xg, .int .i64 xs, .int .i64 xf, .int .i64 xd, .bool xb, .slice ro xl.length rcap] 147))
        go_wp2_with fail
        go_roundw
        case rel => exact ⟨k + 1, by omega, by go_num, HV, HBW2⟩
        case measure => simp [intOf]; omega
    · have HV := Lib.hid (HSP.out.1 (by rw [HR.out, idxF_end _ l k (by omega)]))
      have HBB := Lib.hid hBB
      clear hBB
      have hkk : k = l.length := by omega
      subst hkk
      go_wp2_with fail
      exact bodyPost_ret (v := .tuple #[.agg #[.string ⟨#[]⟩, .int .i64 0, .int .i64 0, .int .i64 0, .int .i64 0, .bool false, .slice none 0 0], .bool false]) (by simp [results, Try.results120, go_sem, z0, z1, z2, z3, z4, z5, z6]) rfl ⟨_, by rw [HV.out] <;> rfl, by rw [HV.out]; rfl, KSB.out _ HBB.out _ _ _ _ _ _ _⟩
end Go.Proofs.Ytopmdeefcjdadaa

namespace Go.Proofs.Ytopmdeefcjdadaa
open Go.RowKit
set_option linter.unusedVariables false
set_option linter.unusedSimpArgs false

/-- block b of W holds these cells, of this type -/
def TBox (W : World) (b : Nat) (T : TypeId) (cs : Array Value) : Prop := W.heap[b]? = some (.cells cs T)
theorem TBox.new (w : World) (cs : Array Value) (T : TypeId) : TBox (w.alloc (.cells cs T)) w.heap.size T cs := heap_alloc_new w _
theorem TBox.lt {W : World} {b : Nat} {T : TypeId} {cs : Array Value} (h : TBox W b T cs) : b < W.heap.size := by
  unfold TBox at h
  by_cases c : b < W.heap.size
  · exact c
  · rw [Array.getElem?_eq_none (by omega)] at h; cases h
theorem TBox.below {W W' : World} {b : Nat} {T : TypeId} {cs : Array Value} (h : TBox W b T cs) (hb : Below W.heap.size W W') : TBox W' b T cs := (hb.block b h.lt).trans h
theorem TBox.alloc {W : World} {b : Nat} {T : TypeId} {cs : Array Value} (h : TBox W b T cs) (o : Obj) : TBox (W.alloc o) b T cs := h.below ((Below.refl _ _).alloc (Nat.le_refl _) o)
theorem TBox.cell {W : World} {b i : Nat} {T : TypeId} {cs : Array Value} {v : Value} (h : TBox W b T cs) (hi : cs[i]? = some v) : W.cell? ⟨b, i, none⟩ = some v := by
  unfold TBox at h
  simp [World.cell?, h, hi]
theorem TBox.set {W : World} {b : Nat} {T : TypeId} {cs : Array Value} (h : TBox W b T cs) (i : Nat) (v : Value) : TBox (W.setCell ⟨b, i, none⟩ v) b T (cs.setIfInBounds i v) := by
  unfold TBox at *
  exact heap_setCell_same W b i cs T v h
theorem TBox.frozen {W : World} {b : Nat} {T : TypeId} {cs : Array Value} (h : TBox W b T cs) (i : Nat) : W.frozen? ⟨b, i, none⟩ = false := frozen_of_row W b i cs T h
/-- rows of other types grow, or boxes of other types are written: these rows stay -/
def Other (w w' : World) (T' : TypeId) : Prop := ∃ r, w.grownBy w' r ∧ ∀ g, r = some g → ∃ cs fz, w.heap[g]? = some (.cells cs T' fz)
theorem Other.row {w w' : World} {T' : TypeId} {base s n : Nat} {v : Value} {xs : List Value} (h : w.ownsRow base T' s v n xs) (hg : w.grownBy w' v.ownBlock) : Other w w' T' := by
  refine ⟨_, hg, fun g hgg => ?_⟩
  rcases h.2 with ⟨rfl, _⟩ | ⟨g', cap, cur, rfl, _, h1, _⟩
  · simp [Value.ownBlock] at hgg
  · simp [Value.ownBlock] at hgg
    subst hgg
    exact ⟨_, _, h1⟩
theorem Other.box {w : World} {T' : TypeId} {b i : Nat} {cs : Array Value} (h : TBox w b T' cs) (v : Value) : Other w (w.setCell ⟨b, i, none⟩ v) T' :=
  ⟨some b, ⟨rfl, rfl, rfl, by simp, fun k _ hne => heap_setCell_other w ⟨b, i, none⟩ k v (fun e => hne (by simp [e]))⟩, fun g hg => by cases hg; exact ⟨_, _, h⟩⟩
theorem Other.own {w w' : World} {T' : TypeId} (h : Other w w' T') {base s n : Nat} {T : TypeId} {v : Value} {xs : List Value} (ho : w.ownsRow base T s v n xs) (hT : T ≠ T') : w'.ownsRow base T s v n xs := by
  obtain ⟨r, hg, hr⟩ := h
  refine ho.kept hg ?_
  rcases ho.2 with ⟨rfl, _⟩ | ⟨g, cap, cur, rfl, _, h1, _⟩
  · exact .inl rfl
  · refine .inr ?_
    cases r with
    | none => simp [Value.ownBlock]
    | some g' =>
      obtain ⟨cs, fz, h2⟩ := hr g' rfl
      simp only [Value.ownBlock, ne_eq, Option.some.injEq]
      intro e
      subst e
      rw [h1] at h2
      injection h2 with h2
      injection h2 with _ h3
      exact hT h3
theorem Other.tbox {w w' : World} {T' T : TypeId} (h : Other w w' T') {b : Nat} {cs : Array Value} (ho : TBox w b T cs) (hT : T ≠ T') : TBox w' b T cs := by
  obtain ⟨r, hg, hr⟩ := h
  refine (hg.block b ho.lt ?_).trans ho
  intro e
  obtain ⟨cs', fz, h2⟩ := hr b e.symm
  unfold TBox at ho
  rw [ho] at h2
  injection h2 with h2
  injection h2 with _ h3
  exact hT h3
theorem Other.size {w w' : World} {T' : TypeId} (h : Other w w' T') : w.heap.size ≤ w'.heap.size := by
  obtain ⟨r, hg, _⟩ := h
  exact hg.size
theorem Other.refl (w : World) (T : TypeId) : Other w w T := ⟨none, ⟨rfl, rfl, rfl, Nat.le_refl _, fun _ _ _ => rfl⟩, by simp⟩
theorem TBox.setOther {W : World} {b b' i : Nat} {T : TypeId} {cs : Array Value} (h : TBox W b T cs) (hb : b ≠ b') (v : Value) : TBox (W.setCell ⟨b', i, none⟩ v) b T cs := (Below.heap_setCell W ⟨b', i, none⟩ v b (by simpa using hb)).trans h
end Go.Proofs.Ytopmdeefcjdadaa

namespace Go.Proofs.Ytopmdeefcjdadaa
open Go.ChangeShapes Go.WideShapes Go.RowKit Go.Deep
set_option linter.unusedSimpArgs false
set_option linter.unusedVariables false

/-- a setting: a unit, a parameter, a level -/
structure Stg where
  unit : Int
  par : ByteArray
  lv : Int
instance : Inhabited Stg := ⟨⟨0, ByteArray.empty, 0⟩⟩
def stgC (s : Stg) : List Value := [.int .i64 s.unit, .string s.par, .int .i64 s.lv]
def StgS (B : Nat) (w : World) (v : Value) (l : List Stg) : Prop := CellsS B w v l.length (l.flatMap stgC)
def StgFit (s : Stg) : Prop := I64 s.unit ∧ s.par.size ≤ maxLen ∧ I64 s.lv
theorem StgS.below {B : Nat} {w w' : World} {v : Value} {l : List Stg} (h : StgS B w v l) (hb : Below B w w') : StgS B w' v l := CellsS.below h hb
theorem StgS.more {B B' : Nat} {w : World} {v : Value} {l : List Stg} (h : StgS B w v l) (hB : B ≤ B') : StgS B' w v l := CellsS.more h hB
theorem StgS.get {B : Nat} {w : World} {v : Value} {l : List Stg} (h : StgS B w v l) (hl : 0 < l.length) :
    ∃ b off cap, v = .slice (some ⟨b, off, none⟩) l.length cap ∧ b < B ∧ l.length ≤ maxLen ∧ ∀ k (hk : k < l.length) (W : World), Below B w W →
      W.cell? ⟨b, off + k * 3, none⟩ = some (.int .i64 l[k].unit) ∧ W.cell? ⟨b, off + k * 3 + 1, none⟩ = some (.string l[k].par) ∧ W.cell? ⟨b, off + k * 3 + 2, none⟩ = some (.int .i64 l[k].lv) := by
  obtain ⟨b, off, cap, rfl, h1, h2, h3⟩ := CellsS.rec h (n := 3) (fun _ => rfl) hl
  refine ⟨b, off, cap, rfl, h1, h2, fun k hk W hW => ?_⟩
  exact ⟨(hW.cell (p := ⟨b, off + k * 3, none⟩) h1).trans (h3 k hk 0 _ (by omega) rfl), (hW.cell (p := ⟨b, off + k * 3 + 1, none⟩) h1).trans (h3 k hk 1 _ (by omega) rfl), (hW.cell (p := ⟨b, off + k * 3 + 2, none⟩) h1).trans (h3 k hk 2 _ (by omega) rfl)⟩

section
variable {H : Type} {enc : TypeId × Value → H} {w : World} {held : Bool}
set_option maxRecDepth 100000 in
theorem read_keyC {fuel : Nat} {cs : List Value} {x : DataW H × List MemPlace} (h : DataW.trod enc Try.prog w 0 (fun _ => true) held fuel 47 cs = some x) :
    ∃ (n : Int) (s : ByteArray), cs = [.int .i64 n, .string s] ∧ I64 n ∧ s.size ≤ maxLen := by
  have hc : Try.prog.cellsOf 47 = 2 := by kernel_rfl
  obtain ⟨hl, n, hf⟩ := open_fields1 Try.underlying47 (by kernel_rfl) hc h
  obtain ⟨u0, u1, rfl⟩ := list2 hl
  obtain ⟨x0, y0, q0, k0⟩ := hf 0 _ rfl
  obtain ⟨x1, y1, q1, k1⟩ := hf 1 _ rfl
  simp at q0 q1
  subst q0 q1
  obtain ⟨a0, rfl, w0⟩ := field_int Try.underlying3 k0
  obtain ⟨a1, rfl, w1⟩ := field_string Try.underlying9 k1
  exact ⟨a0, a1, rfl, i64_of_wf w0, w1⟩
theorem fxInt_ : Try.prog.cellsOf 3 = 1 := by kernel_rfl
theorem fxKey_ : Try.prog.cellsOf 47 = 2 := by kernel_rfl
set_option maxRecDepth 100000 in
theorem read_setting {fuel : Nat} {cs : List Value} {x : DataW H × List MemPlace} (h : DataW.trod enc Try.prog w 0 (fun _ => true) held fuel 49 cs = some x) :
    ∃ y : Stg, cs = stgC y ∧ StgFit y := by
  have hc : Try.prog.cellsOf 49 = 3 := by kernel_rfl
  obtain ⟨hl, n, hf⟩ := open_fields Try.underlying49 h
  rw [hc] at hl
  obtain ⟨u0, u1, u2, rfl⟩ := list3' hl
  obtain ⟨y0, k0⟩ := hf 0 _ rfl
  obtain ⟨y1, k1⟩ := hf 1 _ rfl
  simp only [List.getElem_toArray, List.getElem_cons_zero, List.getElem_cons_succ, fxInt_, fxKey_, List.drop_zero, List.drop_succ_cons, List.take_succ_cons, List.take_zero] at k0 k1
  obtain ⟨a0, a1, e, f0, f1⟩ := read_keyC k0
  simp at e
  obtain ⟨rfl, rfl⟩ := e
  obtain ⟨a2, rfl, w2⟩ := field_int Try.underlying3 k1
  exact ⟨⟨a0, a1, a2⟩, rfl, f0, f1, i64_of_wf w2⟩
/-- settings as an argument -/
def StgW (w : World) (v : Value) : Prop := ∃ l : List Stg, StgS w.heap.size w v l ∧ ∀ p ∈ l, StgFit p
set_option maxRecDepth 100000 in
theorem open_settings {r : Reach} {b0 : Nat} {v : Value} {d : DataW H} {p : List MemPlace} (hv : Value.okWide Try.prog w r b0 43 v) (h : DataW.Trod enc Try.prog w 0 (fun _ => true) held 43 v d p) :
    ∃ a : Value, v = a ∧ StgW w a := by
  obtain ⟨ao, len, cap, rfl⟩ := okWide_slice Try.underlying43 hv
  obtain ⟨fuel, hf⟩ := h
  obtain ⟨v, l, e, hl⟩ := read_rows (n := 3) stgC StgFit (fun _ => rfl) (by omega) Try.underlying43 (by kernel_rfl) (fun _ _ _ h => read_setting h) hf
  simp [Value.cells] at e
  subst e
  exact ⟨_, rfl, l, hl⟩
end
end Go.Proofs.Ytopmdeefcjdadaa
