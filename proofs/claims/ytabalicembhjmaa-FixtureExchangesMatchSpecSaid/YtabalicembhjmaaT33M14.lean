/- Units in order of their numbers: where a number stands. No walk in it. (printed by wip/gen/gen_unitfn.py) The profile with a name, of both sides, the library below any block. (printed by wip/gen/gen_profb.py) The first free place. No walk in it. (printed by wip/gen/gen_room.py) -/
import Derived.Test.YtabalicembhjmaaT33M13
import Derived.Test.YtabalicembhjmaaT33M09
import Derived.Test.YtabalicembhjmaaT33M11
import Derived.Test.YtabalicembhjmaaT33M10

namespace Go.Proofs.Ytabalicembhjmaa
open Go.RowKit
set_option linter.unusedVariables false
set_option linter.unusedSimpArgs false

def posU (l : List Unt) (n : Int) : Nat := (l.takeWhile (fun u => decide (u.num < n))).length
def hasU (l : List Unt) (n : Int) : Bool := l.any (fun u => decide (u.num = n))
def isNo (n : Int) (u : Unt) : Bool := decide (u.num = n)
def idxU (l : List Unt) (n : Int) : Int := idxF (isNo n) l 0
def AscU (l : List Unt) : Prop := ∀ i j (hi : i < l.length) (hj : j < l.length), i < j → l[i].num < l[j].num
theorem posU_le (l : List Unt) (n : Int) : posU l n ≤ l.length := List.Sublist.length_le (List.takeWhile_sublist _)
theorem posU_lt (n : Int) : ∀ (l : List Unt) (i : Nat) (h : i < l.length), i < posU l n → l[i].num < n
  | [], i, h, _ => absurd h (by simp)
  | u :: l, i, h, hp => by
    by_cases c : u.num < n
    · have h1 : posU (u :: l) n = posU l n + 1 := by simp [posU, List.takeWhile_cons, c]
      cases i with
      | zero => exact c
      | succ i => exact posU_lt n l i (by simpa using h) (by omega)
    · have h1 : posU (u :: l) n = 0 := by simp [posU, List.takeWhile_cons, c]
      omega
theorem posU_at (n : Int) : ∀ (l : List Unt) (h : posU l n < l.length), n ≤ (l[posU l n]'h).num
  | [], h => absurd h (by simp)
  | u :: l, h => by
    by_cases c : u.num < n
    · have h1 : posU (u :: l) n = posU l n + 1 := by simp [posU, List.takeWhile_cons, c]
      have h2 : posU l n < l.length := by rw [h1] at h; simpa using h
      have h3 := posU_at n l h2
      simp only [h1, List.getElem_cons_succ]
      exact h3
    · have h1 : posU (u :: l) n = 0 := by simp [posU, List.takeWhile_cons, c]
      simp only [h1, List.getElem_cons_zero]
      omega
theorem posU_ge {l : List Unt} (h : AscU l) (n : Int) (i : Nat) (hi : i < l.length) (hp : posU l n ≤ i) : n ≤ l[i].num := by
  have h1 := posU_at n l (by omega)
  by_cases c : posU l n = i
  · subst c; exact h1
  · have := h (posU l n) i (by omega) hi (by omega)
    omega
theorem hasU_at {l : List Unt} (h : AscU l) (n : Int) : hasU l n = true ↔ ∃ hp : posU l n < l.length, (l[posU l n]'hp).num = n := by
  constructor
  · intro h1
    obtain ⟨u, hu, h2⟩ := List.any_eq_true.1 h1
    simp at h2
    obtain ⟨i, hi, rfl⟩ := List.getElem_of_mem hu
    have h3 : ¬ i < posU l n := fun c => by have := posU_lt n l i hi c; omega
    have h4 : ¬ posU l n < i := fun c => by
      have h5 := posU_at n l (by omega)
      have := h (posU l n) i (by omega) hi c
      omega
    have h6 : posU l n = i := by omega
    subst h6
    exact ⟨hi, h2⟩
  · rintro ⟨hp, h1⟩
    exact List.any_eq_true.2 ⟨_, List.getElem_mem hp, by simpa using h1⟩
theorem hasU_end {l : List Unt} (h : AscU l) (n : Int) (hp : l.length ≤ posU l n) : hasU l n = false := by
  cases c : hasU l n
  · rfl
  · obtain ⟨h1, _⟩ := (hasU_at h n).1 c
    omega
theorem hasU_val {l : List Unt} (h : AscU l) (n : Int) (hp : posU l n < l.length) : hasU l n = decide ((l[posU l n]'hp).num = n) := by
  by_cases c : (l[posU l n]'hp).num = n
  · rw [(hasU_at h n).2 ⟨hp, c⟩]; simpa using c
  · cases d : hasU l n
    · simpa using c
    · obtain ⟨_, h1⟩ := (hasU_at h n).1 d
      exact absurd h1 c
theorem idxU_has {l : List Unt} (h : AscU l) (n : Int) : (hasU l n = true → idxU l n = (posU l n : Int)) ∧ (hasU l n = false → idxU l n = -1) := by
  rcases idxF_spec (isNo n) l with ⟨h1, h2⟩ | ⟨k, hk, h1, h2⟩
  · refine ⟨fun c => ?_, fun _ => h1⟩
    obtain ⟨hp, h3⟩ := (hasU_at h n).1 c
    have := List.find?_eq_none.1 h2 _ (List.getElem_mem hp)
    simp [isNo] at this
    exact absurd h3 this
  · have h3 : l[k].num = n := by simpa [isNo] using List.find?_some h2
    refine ⟨fun _ => ?_, fun c => ?_⟩
    · have h4 : ¬ k < posU l n := fun d => by have := posU_lt n l k hk d; omega
      have h5 : ¬ posU l n < k := fun d => by
        have h6 := posU_at n l (by omega)
        have := h (posU l n) k (by omega) hk d
        omega
      have h7 : posU l n = k := by omega
      rw [h7]; exact h1
    · have : hasU l n = true := List.any_eq_true.2 ⟨_, List.getElem_mem hk, by simpa using h3⟩
      rw [this] at c; cases c
theorem asc_units {r : Rig} (h : chkRig r = 0) : AscU r.units := by
  obtain ⟨_, _, h3⟩ := chkRig_zero h
  have step : ∀ k, ∀ hk : k + 1 < r.units.length, r.units[k].num < r.units[k + 1].num := by
    intro k hk
    have h4 := (untF_zero (scanF_zero _ _ h3 (k + 1) hk)).2.1
    unfold untLow at h4
    rw [last_take r.units (k + 1) hk (by omega)] at h4
    simp at h4
    exact h4
  have less : ∀ i d, ∀ hj : i + 1 + d < r.units.length, r.units[i].num < (r.units[i + 1 + d]'hj).num := by
    intro i d
    induction d with
    | zero => intro hj; exact step i hj
    | succ d ih => intro hj; exact Int.lt_trans (ih (by omega)) (step (i + 1 + d) hj)
  intro i j hi hj hij
  obtain ⟨d, rfl⟩ : ∃ d, j = i + 1 + d := ⟨j - (i + 1), by omega⟩
  exact less i d hj
theorem num_range {r : Rig} (h : chkRig r = 0) {u : Unt} (hu : u ∈ r.units) : 1 ≤ u.num ∧ u.num ≤ 9999 := by
  obtain ⟨_, _, h3⟩ := chkRig_zero h
  obtain ⟨k, hk, rfl⟩ := List.getElem_of_mem hu
  exact (untF_zero (scanF_zero _ _ h3 k hk)).1
end Go.Proofs.Ytabalicembhjmaa

namespace Go.Proofs.Ytabalicembhjmaa
open Go.RowKit
set_option linter.unusedVariables false
set_option linter.unusedSimpArgs false

set_option maxRecDepth 100000 in
set_option maxHeartbeats 4000000 in
theorem profile_base (B : Nat) (v : Value) (l : List Prf) (nm : ByteArray) (w : World) (hBw : B ≤ w.heap.size) (h : PrfS B w v l) :
    Calls Try.prog 30 #[v, .string nm] w fun e w' => ∃ pv, e = .returned (.tuple #[pv, .bool (profOf l nm.data.toList).isSome]) ∧ PrfR B w' (profOf l nm.data.toList) pv ∧ Below w.heap.size w w' := by
  have HG := Lib.hid (PrfS.get h)
  have HSP := Lib.hid (idxF_spec (hasNm nm.data.toList) l)
  have HPO := Lib.hid (show profOf l nm.data.toList = l.find? (hasNm nm.data.toList) from rfl)
  have HCI := Lib.hid (fun W (hW : Below w.heap.size w W) tb (ht : W.cell? ⟨tb, 0, none⟩ = some (.string nm)) (hb : tb < W.heap.size) => prf_index v l nm tb W ((h.below (hW.mono hBw)).more (Nat.le_trans hBw hW.size)) ht hb)
  obtain ⟨lv, hlv, hcs, _⟩ := h
  obtain ⟨ao, cap, rfl, _⟩ := CellsS.shape hcs
  have hm := CellsS.len hcs
  rw [show lv.length = l.length by rw [← hlv]; simp] at *
  clear hcs hlv
  unfold maxLen at hm
  generalize idxF (hasNm nm.data.toList) l 0 = IX at *
  rw [HPO.out]
  generalize l.find? (hasNm nm.data.toList) = RES at *
  have HX := Lib.hid (HCI.out ((w.alloc (.cells #[.string nm] 9)).alloc (.cells #[.string ⟨#[]⟩, .int .i64 0, .slice none 0 0] 70)) (((Below.refl _ _).alloc (Nat.le_refl _) _).alloc (by simp) _) w.heap.size (by simp [go_sem]) (by simp; omega))
  unfold prfFn at HX
  clear HCI HPO
  go_enter Try.func30, Try.ntmps30
  go_wp2_with fail
  refine HX.out.mono ?_
  rintro e w1 ⟨rfl, hb1⟩
  have HB1 := Lib.hid ((((Below.refl w.heap.size w).alloc (Nat.le_refl _) (.cells #[.string nm] 9)).alloc (by simp) (.cells #[.string ⟨#[]⟩, .int .i64 0, .slice none 0 0] 70)).trans (hb1.mono (by simp; omega)))
  have hz1 := hb1.size
  simp only [World.size_alloc] at hz1
  have c0 : w1.cell? ⟨w.heap.size + 1, 0, none⟩ = some (.string ⟨#[]⟩) := (hb1.cell (p := ⟨w.heap.size + 1, 0, none⟩) (by simp)).trans (by simp [go_sem])
  have c1 : w1.cell? ⟨w.heap.size + 1, 1, none⟩ = some (.int .i64 0) := (hb1.cell (p := ⟨w.heap.size + 1, 1, none⟩) (by simp)).trans (by simp [go_sem])
  have c2 : w1.cell? ⟨w.heap.size + 1, 2, none⟩ = some (.slice none 0 0) := (hb1.cell (p := ⟨w.heap.size + 1, 2, none⟩) (by simp)).trans (by simp [go_sem])
  have f0 : w1.frozen? ⟨w.heap.size + 1, 0, none⟩ = false := (hb1.frozen (p := ⟨w.heap.size + 1, 0, none⟩) (by simp)).trans (by simp [go_sem])
  have f1 : w1.frozen? ⟨w.heap.size + 1, 1, none⟩ = false := (hb1.frozen (p := ⟨w.heap.size + 1, 1, none⟩) (by simp)).trans (by simp [go_sem])
  have f2 : w1.frozen? ⟨w.heap.size + 1, 2, none⟩ = false := (hb1.frozen (p := ⟨w.heap.size + 1, 2, none⟩) (by simp)).trans (by simp [go_sem])
  have KSB := Lib.hid (show ∀ u0 u1 u2, Below w.heap.size w (((w1.setCell ⟨w.heap.size + 1, 0, none⟩ u0).setCell ⟨w.heap.size + 1, 1, none⟩ u1).setCell ⟨w.heap.size + 1, 2, none⟩ u2) from fun u0 u1 u2 => ((HB1.out.setCell (p := ⟨w.heap.size + 1, 0, none⟩) (by simp) u0).setCell (p := ⟨w.heap.size + 1, 1, none⟩) (by simp) u1).setCell (p := ⟨w.heap.size + 1, 2, none⟩) (by simp) u2)
  have KST := Lib.hid (show ∀ u0 u1 u2 {v : Value} {l : List Par}, ParS B w1 v l → ParS B (((w1.setCell ⟨w.heap.size + 1, 0, none⟩ u0).setCell ⟨w.heap.size + 1, 1, none⟩ u1).setCell ⟨w.heap.size + 1, 2, none⟩ u2) v l from fun u0 u1 u2 _ _ h => h.below ((((Below.refl B w1).setCell (p := ⟨w.heap.size + 1, 0, none⟩) (by show B ≤ w.heap.size + 1; omega) u0).setCell (p := ⟨w.heap.size + 1, 1, none⟩) (by show B ≤ w.heap.size + 1; omega) u1).setCell (p := ⟨w.heap.size + 1, 2, none⟩) (by show B ≤ w.heap.size + 1; omega) u2))
  clear hb1 HX
  rcases HSP.out with ⟨rfl, rfl⟩ | ⟨k, hk, rfl, rfl⟩
  · go_wp2_with fail
    exact bodyPost_ret (v := .tuple #[.agg #[.string ⟨#[]⟩, .int .i64 0, .slice none 0 0], .bool false]) (by simp [results, Try.results30, go_sem, c0, c1, c2]) rfl ⟨_, rfl, rfl, KSB.out _ _ _⟩
  · obtain ⟨b, off, cap', hsl, hbb, _, hc⟩ := HG.out (by omega)
    injection hsl with hs1 hs2 hs3
    subst hs1 hs3
    obtain ⟨pv, hpv, hcc⟩ := hc k hk
    have HPV := Lib.hid (hpv.below (HB1.out.mono hBw))
    obtain ⟨d0, d1, d2⟩ := hcc w1 (HB1.out.mono hBw)
    have hbr : b < w1.heap.size := by omega
    obtain ⟨lv, hlv, hcs, _⟩ := hpv
    obtain ⟨po, pcap, rfl, _⟩ := CellsS.shape hcs
    rw [show lv.length = l[k].pars.length by rw [← hlv]; simp] at *
    clear hc hcc hcs hlv HG HSP
    generalize hrk : l[k] = rk at *
    have HRK := Lib.hid hrk
    clear hrk
    obtain ⟨pn, pz, pl⟩ := rk
    simp only at *
    go_wp2_with fail
    exact bodyPost_ret (v := .tuple #[.agg #[.string pn, .int .i64 pz, .slice po pl.length pcap], .bool true]) (by simp [results, Try.results30, go_sem, c0, c1, c2]) rfl ⟨_, rfl, by rw [HRK.out]; exact ⟨_, rfl, KST.out _ _ _ HPV.out⟩, KSB.out _ _ _⟩
set_option maxRecDepth 100000 in
set_option maxHeartbeats 8000000 in
theorem rprofile_base (B : Nat) (v : Value) (l : List Prf) (nm : ByteArray) (w : World) (hBw : B ≤ w.heap.size) (h : PrfS B w v l) :
    Calls Try.prog 34 #[v, .string nm] w fun e w' => ∃ pv, e = .returned (.tuple #[pv, .bool (profOf l nm.data.toList).isSome]) ∧ PrfR B w' (profOf l nm.data.toList) pv ∧ Below w.heap.size w w' := by
  have HG := Lib.hid (PrfS.get h)
  obtain ⟨ao, cap, rfl⟩ := prfS_shape h
  have hm : l.length ≤ 9223372036854775807 := by
    by_cases c : 0 < l.length
    · obtain ⟨_, _, _, _, _, hm, _⟩ := PrfS.get h c
      unfold maxLen at hm; exact hm
    · omega
  have HS := Lib.hid (idxF_spec (hasNm nm.data.toList) l)
  have HSP := Lib.hid (show (idxF (hasNm nm.data.toList) l 0 = -1 → profOf l nm.data.toList = none) ∧ ∀ (k : Nat) (h : k < l.length), idxF (hasNm nm.data.toList) l 0 = (k : Int) → profOf l nm.data.toList = some l[k] from by
    rcases HS.out with ⟨h1, h2⟩ | ⟨k, hk, h1, h2⟩
    · exact ⟨fun _ => h2, fun k hk h => by rw [h1] at h; omega⟩
    · refine ⟨fun h => by rw [h1] at h; omega, fun j hj h => ?_⟩
      rw [h1] at h
      have : j = k := by omega
      subst this
      exact h2)
  have HC := Lib.hid (show idxF (hasNm nm.data.toList) l 0 = idxF (hasNm nm.data.toList) (l.drop 0) 0 by simp)
  generalize idxF (hasNm nm.data.toList) l 0 = IX at *
  generalize hPO : profOf l nm.data.toList = PO at *
  clear hPO HS h
  go_enter Try.func34, Try.ntmps34
  go_wp2_with fail
  go_loopw [10] (fun i wr => ∃ k : Nat, k ≤ l.length ∧ i = .int .i64 k ∧ Hid (IX = idxF (hasNm nm.data.toList) (l.drop k) k) ∧ Hid (Below (w.heap.size + 1) (w.alloc (.cells #[.string ⟨#[]⟩, .int .i64 0, .slice none 0 0] 70)) wr)) (fun i _ => l.length - (intOf i).toNat)
  case atStart => exact ⟨0, Nat.zero_le _, rfl, HC, Lib.hid (Below.refl _ _)⟩
  case round =>
    obtain ⟨k, hk, rfl, HR, HBW⟩ := hrel
    have hzr := HBW.out.size
    simp only [World.size_alloc] at hzr
    have hBB : Below w.heap.size w wr := ((Below.refl _ _).alloc (Nat.le_refl _) _).trans (HBW.out.mono (by omega))
    have z0 : wr.cell? ⟨w.heap.size, 0, none⟩ = some (.string ⟨#[]⟩) := (HBW.out.cell (p := ⟨w.heap.size, 0, none⟩) (by simp)).trans (by simp [go_sem])
    have z1 : wr.cell? ⟨w.heap.size, 1, none⟩ = some (.int .i64 0) := (HBW.out.cell (p := ⟨w.heap.size, 1, none⟩) (by simp)).trans (by simp [go_sem])
    have z2 : wr.cell? ⟨w.heap.size, 2, none⟩ = some (.slice none 0 0) := (HBW.out.cell (p := ⟨w.heap.size, 2, none⟩) (by simp)).trans (by simp [go_sem])
    have y0 : wr.frozen? ⟨w.heap.size, 0, none⟩ = false := (HBW.out.frozen (p := ⟨w.heap.size, 0, none⟩) (by simp)).trans (by simp [go_sem])
    have y1 : wr.frozen? ⟨w.heap.size, 1, none⟩ = false := (HBW.out.frozen (p := ⟨w.heap.size, 1, none⟩) (by simp)).trans (by simp [go_sem])
    have y2 : wr.frozen? ⟨w.heap.size, 2, none⟩ = false := (HBW.out.frozen (p := ⟨w.heap.size, 2, none⟩) (by simp)).trans (by simp [go_sem])
    have hwr : w.heap.size < wr.heap.size := by omega
    have KSB := Lib.hid (show ∀ W, Below w.heap.size w W → ∀ u0 u1 u2, Below w.heap.size w (((W.setCell ⟨w.heap.size, 0, none⟩ u0).setCell ⟨w.heap.size, 1, none⟩ u1).setCell ⟨w.heap.size, 2, none⟩ u2) from fun W hW u0 u1 u2 => ((hW.setCell (p := ⟨w.heap.size, 0, none⟩) (by simp) u0).setCell (p := ⟨w.heap.size, 1, none⟩) (by simp) u1).setCell (p := ⟨w.heap.size, 2, none⟩) (by simp) u2)
    by_cases hlt : k < l.length
    · obtain ⟨b, off, cap', hsl, hbb, _, hc⟩ := HG.out (by omega)
      injection hsl with hs1 hs2 hs3
      subst hs1 hs3
      obtain ⟨pv, hpv, hcc⟩ := hc k hlt
      obtain ⟨d0, d1, d2⟩ := hcc wr (hBB.mono hBw)
      have HPV := Lib.hid hpv
      have hbr : b < wr.heap.size := by omega
      have HY := Lib.hid (idxF_yes (hasNm nm.data.toList) l k hlt)
      have HN := Lib.hid (idxF_no (hasNm nm.data.toList) l k hlt)
      have HT := Lib.hid (show hasNm nm.data.toList l[k] = decide (l[k].name.data.toList = nm.data.toList) from rfl)
      have HPS := Lib.hid (HSP.out.2 k hlt)
      obtain ⟨po, pcap, rfl⟩ := parS_shape hpv
      have HBB := Lib.hid hBB
      clear hc hcc hpv HSP hBB
      generalize hasNm nm.data.toList l[k] = T at *
      generalize hrk : l[k] = rk at *
      clear hrk
      obtain ⟨pn, pz, pl⟩ := rk
      simp only at *
      by_cases he : pn.data.toList = nm.data.toList
      · have h2 : (pn.toList == nm.toList) = true := by rw [Lib.toList_data, Lib.toList_data]; simpa using he
        have HV := Lib.hid (HPS.out (HR.out.trans (HY.out (by rw [HT.out]; simpa using he))))
        clear he
        have HV1 : PO = some ⟨pn, pz, pl⟩ := HV.out
        go_wp2_with fail
        exact bodyPost_ret (v := .tuple #[.agg #[.string pn, .int .i64 pz, .slice po pl.length pcap], .bool true]) (by simp [results, Try.results34, go_sem, z0, z1, z2, hwr]) rfl ⟨_, by rw [HV.out] <;> rfl, by rw [HV.out]; exact ⟨_, rfl, HPV.out.below (((KSB.out _ HBB.out _ _ _).alloc (by simp; omega) _).mono hBw)⟩, (KSB.out _ HBB.out _ _ _).alloc (by simp; omega) _⟩
      · have h2 : (pn.toList == nm.toList) = false := by rw [Lib.toList_data, Lib.toList_data]; simpa using he
        have HV := Lib.hid (HR.out.trans (HN.out (by rw [HT.out]; simpa using he)))
        clear he
        have HBW2 := Lib.hid (HBW.out.alloc (by omega) (.cells #[.string pn, .int .i64 pz, .slice po pl.length pcap] 70))
        go_wp2_with fail
        go_roundw
        case rel => exact ⟨k + 1, by omega, by go_num, HV, HBW2⟩
        case measure => simp [intOf]; omega
    · have HV := Lib.hid (HSP.out.1 (by rw [HR.out, idxF_end _ l k (by omega)]))
      have HBB := Lib.hid hBB
      clear hBB
      have hkk : k = l.length := by omega
      subst hkk
      go_wp2_with fail
      exact bodyPost_ret (v := .tuple #[.agg #[.string ⟨#[]⟩, .int .i64 0, .slice none 0 0], .bool false]) (by simp [results, Try.results34, go_sem, z0, z1, z2]) rfl ⟨_, by rw [HV.out] <;> rfl, by rw [HV.out]; rfl, KSB.out _ HBB.out _ _ _⟩
end Go.Proofs.Ytabalicembhjmaa

namespace Go.Proofs.Ytabalicembhjmaa
open Go.RowKit
set_option linter.unusedVariables false
set_option linter.unusedSimpArgs false

def freeAt (us : List (Unt × Int)) (U a s : Int) : Bool := freeN (usedB us U) a s.toNat
def roomA (us : List (Unt × Int)) (U s : Int) : Nat → Int → Option Int
  | 0, _ => none
  | f + 1, a => if a + s - 1 ≤ 512 then (if freeAt us U a s then some a else roomA us U s f (a + 1)) else none
def roomRA (us : List (Unt × Int)) (U s a : Int) : Option Int := roomA us U s (513 - a).toNat a
def roomN (us : List (Unt × Int)) (s : Int) : Nat → Int → Option (Int × Int)
  | 0, _ => none
  | f + 1, n => match roomRA us n s 1 with
    | some a => some (n, a)
    | none => roomN us s f (n + 1)
def roomRN (us : List (Unt × Int)) (s n : Int) : Option (Int × Int) := roomN us s (65 - n).toNat n
def roomO (us : List (Unt × Int)) (s : Int) : Option (Int × Int) := roomRN us s 1
theorem roomRA_yes {us : List (Unt × Int)} {U s a : Int} (h1 : 1 ≤ s) (h2 : a + s - 1 ≤ 512) (hf : freeAt us U a s = true) : roomRA us U s a = some a := by
  unfold roomRA
  obtain ⟨f, hF⟩ : ∃ f, (513 - a).toNat = f + 1 := ⟨(513 - a).toNat - 1, by omega⟩
  rw [hF]
  simp [roomA, h2, hf]
theorem roomRA_no {us : List (Unt × Int)} {U s a : Int} (h1 : 1 ≤ s) (h2 : a + s - 1 ≤ 512) (hf : freeAt us U a s = false) : roomRA us U s a = roomRA us U s (a + 1) := by
  unfold roomRA
  obtain ⟨f, hF⟩ : ∃ f, (513 - a).toNat = f + 1 := ⟨(513 - a).toNat - 1, by omega⟩
  have hG : (513 - (a + 1)).toNat = f := by omega
  rw [hF, hG]
  simp [roomA, h2, hf]
theorem roomRA_end {us : List (Unt × Int)} {U s a : Int} (h2 : ¬ a + s - 1 ≤ 512) : roomRA us U s a = none := by
  unfold roomRA
  cases (513 - a).toNat with
  | zero => rfl
  | succ f => simp only [roomA, if_neg h2]
theorem roomRN_yes {us : List (Unt × Int)} {s n a : Int} (hn : n ≤ 64) (h : roomRA us n s 1 = some a) : roomRN us s n = some (n, a) := by
  unfold roomRN
  obtain ⟨f, hF⟩ : ∃ f, (65 - n).toNat = f + 1 := ⟨(65 - n).toNat - 1, by omega⟩
  rw [hF]
  simp only [roomN, h]
theorem roomRN_no {us : List (Unt × Int)} {s n : Int} (hn : n ≤ 64) (h : roomRA us n s 1 = none) : roomRN us s n = roomRN us s (n + 1) := by
  unfold roomRN
  obtain ⟨f, hF⟩ : ∃ f, (65 - n).toNat = f + 1 := ⟨(65 - n).toNat - 1, by omega⟩
  have hG : (65 - (n + 1)).toNat = f := by omega
  rw [hF, hG]
  simp only [roomN, h]
theorem roomRN_end {us : List (Unt × Int)} {s n : Int} (hn : 64 < n) : roomRN us s n = none := by
  unfold roomRN
  have hG : (65 - n).toNat = 0 := by omega
  rw [hG]; rfl
theorem freeAt_none {us : List (Unt × Int)} {U a s : Int} (h : ∀ x ∈ us, x.1.univ ≠ U) (hs : 0 ≤ s) (h2 : a + s - 1 ≤ 512) : freeAt us U a s = true := by
  unfold freeAt
  rw [freeN_iff]
  intro k h3 h4
  exact ⟨by omega, usedB_none us U k h⟩
/-- the used slots of a rig, without a unit -/
def usBut (x : Rig) (n : Int) : List (Unt × Int) := usOf x.lib (x.units.filter (fun u => decide (u.num ≠ n)))
end Go.Proofs.Ytabalicembhjmaa
