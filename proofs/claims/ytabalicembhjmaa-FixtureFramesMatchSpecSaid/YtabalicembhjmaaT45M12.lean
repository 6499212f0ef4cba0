/- Units in order of their numbers: where a number stands. No walk in it. (printed by wip/gen/gen_unitfn.py) The search for a unit by its number, of both sides. (printed by wip/gen/gen_unitfn.py) -/
import Derived.Test.YtabalicembhjmaaT45M11
import Derived.Test.YtabalicembhjmaaT45M06

namespace Go.Proofs.Ytabalicembhjmaa
open Go.RowKit
set_option linter.unusedVariables false
set_option linter.unusedSimpArgs false

def posU (l : List Unt) (n : Int) : Nat := (l.takeWhile (fun u => decide (u.num < n))).length
def hasU (l : List Unt) (n : Int) : Bool := l.any (fun u => decide (u.num = n))
def isNo (n : Int) (u : Unt) : Bool := decide (u.num = n)
def idxU (l : List Unt) (n : Int) : Int := idxF (isNo n) l 0
def AscU (l : List Unt) : Prop := ∀ i j (hi : i < l.length) (hj : j < l.length), i < j → l[i].num < l[j].num
theorem posU_le (l : List Unt) (n : Int) : posU l n ≤ l.length := List.Sublist.length_le (List.takeWhile_sublist _)
theorem posU_lt (n : Int) : ∀ (l : List Unt) (i : Nat) (h : i < l.length), i < posU l n → l[i].num < n
  | [], i, h, _ => absurd h (by simp)
  | u :: l, i, h, hp => by
    by_cases c : u.num < n
    · have h1 : posU (u :: l) n = posU l n + 1 := by simp [posU, List.takeWhile_cons, c]
      cases i with
      | zero => exact c
      | succ i => exact posU_lt n l i (by simpa using h) (by omega)
    · have h1 : posU (u :: l) n = 0 := by simp [posU, List.takeWhile_cons, c]
      omega
theorem posU_at (n : Int) : ∀ (l : List Unt) (h : posU l n < l.length), n ≤ (l[posU l n]'h).num
  | [], h => absurd h (by simp)
  | u :: l, h => by
    by_cases c : u.num < n
    · have h1 : posU (u :: l) n = posU l n + 1 := by simp [posU, List.takeWhile_cons, c]
      have h2 : posU l n < l.length := by rw [h1] at h; simpa using h
      have h3 := posU_at n l h2
      simp only [h1, List.getElem_cons_succ]
      exact h3
    · have h1 : posU (u :: l) n = 0 := by simp [posU, List.takeWhile_cons, c]
      simp only [h1, List.getElem_cons_zero]
      omega
theorem posU_ge {l : List Unt} (h : AscU l) (n : Int) (i : Nat) (hi : i < l.length) (hp : posU l n ≤ i) : n ≤ l[i].num := by
  have h1 := posU_at n l (by omega)
  by_cases c : posU l n = i
  · subst c; exact h1
  · have := h (posU l n) i (by omega) hi (by omega)
    omega
theorem hasU_at {l : List Unt} (h : AscU l) (n : Int) : hasU l n = true ↔ ∃ hp : posU l n < l.length, (l[posU l n]'hp).num = n := by
  constructor
  · intro h1
    obtain ⟨u, hu, h2⟩ := List.any_eq_true.1 h1
    simp at h2
    obtain ⟨i, hi, rfl⟩ := List.getElem_of_mem hu
    have h3 : ¬ i < posU l n := fun c => by have := posU_lt n l i hi c; omega
    have h4 : ¬ posU l n < i := fun c => by
      have h5 := posU_at n l (by omega)
      have := h (posU l n) i (by omega) hi c
      omega
    have h6 : posU l n = i := by omega
    subst h6
    exact ⟨hi, h2⟩
  · rintro ⟨hp, h1⟩
    exact List.any_eq_true.2 ⟨_, List.getElem_mem hp, by simpa using h1⟩
theorem hasU_end {l : List Unt} (h : AscU l) (n : Int) (hp : l.length ≤ posU l n) : hasU l n = false := by
  cases c : hasU l n
  · rfl
  · obtain ⟨h1, _⟩ := (hasU_at h n).1 c
    omega
theorem hasU_val {l : List Unt} (h : AscU l) (n : Int) (hp : posU l n < l.length) : hasU l n = decide ((l[posU l n]'hp).num = n) := by
  by_cases c : (l[posU l n]'hp).num = n
  · rw [(hasU_at h n).2 ⟨hp, c⟩]; simpa using c
  · cases d : hasU l n
    · simpa using c
    · obtain ⟨_, h1⟩ := (hasU_at h n).1 d
      exact absurd h1 c
theorem idxU_has {l : List Unt} (h : AscU l) (n : Int) : (hasU l n = true → idxU l n = (posU l n : Int)) ∧ (hasU l n = false → idxU l n = -1) := by
  rcases idxF_spec (isNo n) l with ⟨h1, h2⟩ | ⟨k, hk, h1, h2⟩
  · refine ⟨fun c => ?_, fun _ => h1⟩
    obtain ⟨hp, h3⟩ := (hasU_at h n).1 c
    have := List.find?_eq_none.1 h2 _ (List.getElem_mem hp)
    simp [isNo] at this
    exact absurd h3 this
  · have h3 : l[k].num = n := by simpa [isNo] using List.find?_some h2
    refine ⟨fun _ => ?_, fun c => ?_⟩
    · have h4 : ¬ k < posU l n := fun d => by have := posU_lt n l k hk d; omega
      have h5 : ¬ posU l n < k := fun d => by
        have h6 := posU_at n l (by omega)
        have := h (posU l n) k (by omega) hk d
        omega
      have h7 : posU l n = k := by omega
      rw [h7]; exact h1
    · have : hasU l n = true := List.any_eq_true.2 ⟨_, List.getElem_mem hk, by simpa using h3⟩
      rw [this] at c; cases c
theorem asc_units {r : Rig} (h : chkRig r = 0) : AscU r.units := by
  obtain ⟨_, _, h3⟩ := chkRig_zero h
  have step : ∀ k, ∀ hk : k + 1 < r.units.length, r.units[k].num < r.units[k + 1].num := by
    intro k hk
    have h4 := (untF_zero (scanF_zero _ _ h3 (k + 1) hk)).2.1
    unfold untLow at h4
    rw [last_take r.units (k + 1) hk (by omega)] at h4
    simp at h4
    exact h4
  have less : ∀ i d, ∀ hj : i + 1 + d < r.units.length, r.units[i].num < (r.units[i + 1 + d]'hj).num := by
    intro i d
    induction d with
    | zero => intro hj; exact step i hj
    | succ d ih => intro hj; exact Int.lt_trans (ih (by omega)) (step (i + 1 + d) hj)
  intro i j hi hj hij
  obtain ⟨d, rfl⟩ : ∃ d, j = i + 1 + d := ⟨j - (i + 1), by omega⟩
  exact less i d hj
theorem num_range {r : Rig} (h : chkRig r = 0) {u : Unt} (hu : u ∈ r.units) : 1 ≤ u.num ∧ u.num ≤ 9999 := by
  obtain ⟨_, _, h3⟩ := chkRig_zero h
  obtain ⟨k, hk, rfl⟩ := List.getElem_of_mem hu
  exact (untF_zero (scanF_zero _ _ h3 k hk)).1
end Go.Proofs.Ytabalicembhjmaa

namespace Go.Proofs.Ytabalicembhjmaa
open Go.RowKit
set_option linter.unusedVariables false
set_option linter.unusedSimpArgs false

theorem unitFn_call (args : Array Value) (W : World) : Sem.run Try.prog (callFunc 76 args) W = .ok (.enter 76 args) W := by simp [go_sem]
set_option maxHeartbeats 400000 in
theorem unitFn_any (un uu ua n : Int) (up : ByteArray) (w : World) (h1 : 1 ≤ un) (h2 : un ≤ 9999) (hn : I64 n) :
    Calls Try.prog 76 #[.agg #[.int .i64 un, .string up, .int .i64 uu, .int .i64 ua], .int .i64 n] w fun e w' => e = .returned (.int .i64 (wrap64 (un - n))) ∧ Below w.heap.size w w' := by
  go_enter Try.func76, Try.ntmps76
  go_wp2
  go_ret
  exact ⟨rfl, (Below.refl _ _).alloc (Nat.le_refl _) _⟩
set_option maxRecDepth 100000 in
set_option maxHeartbeats 4000000 in
theorem unit_search (v : Value) (l : List Unt) (n : Int) (w : World) (h : UntS w.heap.size w v l) (hl : l.length ≤ 400) (ha : AscU l) (hr : ∀ u ∈ l, 1 ≤ u.num ∧ u.num ≤ 9999) (hn : I64 n) :
    Calls Try.prog 75 #[v, .int .i64 n, .func (.func 76) #[] #[]] w fun e w' => ∃ p : Nat, e = .returned (.tuple #[.int .i64 p, .bool (hasU l n)]) ∧ p ≤ l.length ∧ (1 ≤ n → n ≤ 9999 → p = posU l n) ∧ Below w.heap.size w w' := by
  have HG := Lib.hid (UntS.get h)
  obtain ⟨ao, cap, rfl, _⟩ := CellsS.shape h
  have hcf := unitFn_call
  clear h
  go_enter Try.func75, Try.ntmps75
  go_wp2_with fail
  go_loopw [9, 10] (fun s9 s10 wx => ∃ (a b : Nat), s9 = .int .i64 a ∧ s10 = .int .i64 b ∧ a ≤ b ∧ b ≤ l.length ∧ Hid (-4611686018427387904 ≤ n → n ≤ 4611686018427387904 → a ≤ posU l n ∧ posU l n ≤ b) ∧ Hid (Below w.heap.size w wx)) (fun s9 s10 _ => (intOf s10).toNat - (intOf s9).toNat)
  case atStart => exact ⟨0, l.length, rfl, rfl, by omega, by omega, Lib.hid (fun _ _ => ⟨by omega, posU_le _ _⟩), Lib.hid (Below.refl _ _)⟩
  case round =>
    obtain ⟨a, b, rfl, rfl, hab, hbl, HP, HBW⟩ := hrel
    by_cases hlt : a < b
    · obtain ⟨m, hm⟩ : ∃ m : Nat, ((a : Int) + b) / 2 = (m : Int) := ⟨(a + b) / 2, by omega⟩
      have hm1 : a ≤ m := by omega
      have hm2 : m < b := by omega
      have hml : m < l.length := by omega
      have hmi : (m : Int) < (l.length : Int) := by omega
      have HN := Lib.hid (show l[m].num < n → ¬ posU l n ≤ m from fun h1 h2 => by have := posU_ge ha n m hml h2; omega)
      have HM := Lib.hid (show ¬ l[m].num < n → posU l n ≤ m from fun h1 => by
        by_cases c : m < posU l n
        · exact absurd (posU_lt n l m hml c) h1
        · omega)
      obtain ⟨b1, off, cap', hsl, hb1, _, hc⟩ := HG.out (by omega)
      injection hsl with hs1 hs2 hs3
      subst hs1 hs3
      obtain ⟨d0, d1, d2, d3⟩ := hc m hml wr HBW.out
      have hbr : b1 < wr.heap.size := by have := HBW.out.size; omega
      obtain ⟨r1, r2⟩ := hr _ (List.getElem_mem hml)
      clear hc
      generalize hrk : l[m] = rk at *
      clear hrk
      obtain ⟨un, up, uu, ua⟩ := rk
      simp only at *
      have CX := Lib.hid (unitFn_any un uu ua n up wr r1 r2 hn)
      have HVG := Lib.hid (show -4611686018427387904 ≤ n → n ≤ 4611686018427387904 → wrap64 (un - n) = un - n from fun h1 h2 => IntWalk.wrap64_in _ (by omega))
      generalize wrap64 (un - n) = V at *
      go_wp2_with fail
      refine CX.out.mono ?_
      rintro e w1 ⟨rfl, hb⟩
      have HB1 := Lib.hid (HBW.out.trans (hb.mono HBW.out.size))
      clear hb CX d0 d1 d2 d3
      by_cases hv : V < 0
      · have HX := Lib.hid (show -4611686018427387904 ≤ n → n ≤ 4611686018427387904 → m + 1 ≤ posU l n ∧ posU l n ≤ b from fun h1 h2 => by
          have h3 := HVG.out h1 h2
          have h4 := HN.out (by omega)
          exact ⟨by omega, (HP.out h1 h2).2⟩)
        clear HP HN HM HVG hm
        go_wp2_with fail
        go_roundw
        case rel => exact ⟨m + 1, b, by go_num, rfl, by omega, hbl, HX, HB1⟩
        case measure => simp [intOf]; omega
      · have HX := Lib.hid (show -4611686018427387904 ≤ n → n ≤ 4611686018427387904 → a ≤ posU l n ∧ posU l n ≤ m from fun h1 h2 => by
          have h3 := HVG.out h1 h2
          have h4 := HM.out (by omega)
          exact ⟨(HP.out h1 h2).1, h4⟩)
        have hv2 : decide (V < 0) = false := by simpa using hv
        clear HP HN HM HVG hm
        go_wp2_with fail
        go_roundw
        case rel => exact ⟨a, m, rfl, rfl, hm1, by omega, HX, HB1⟩
        case measure => simp [intOf]; omega
    · have hab2 : a = b := by omega
      subst hab2
      have HPX := Lib.hid (show 1 ≤ n → n ≤ 9999 → a = posU l n from fun h1 h2 => by have := HP.out (by omega) (by omega); omega)
      have HNG := Lib.hid (show ¬ (1 ≤ n ∧ n ≤ 9999) → hasU l n = false from fun h1 => by
        cases c : hasU l n
        · rfl
        · obtain ⟨u, hu, h2⟩ := List.any_eq_true.1 c
          simp at h2
          have := hr u hu
          omega)
      by_cases hal : a < l.length
      · have hai : (a : Int) < (l.length : Int) := by omega
        have HVL := Lib.hid (show hasU l n = decide (l[a].num = n) by
          by_cases c : 1 ≤ n ∧ n ≤ 9999
          · have h1 := HPX.out c.1 c.2
            subst h1
            exact hasU_val ha n hal
          · rw [HNG.out c]
            have := hr _ (List.getElem_mem hal)
            symm
            simp only [decide_eq_false_iff_not]
            omega)
        obtain ⟨b1, off, cap', hsl, hb1, _, hc⟩ := HG.out (by omega)
        injection hsl with hs1 hs2 hs3
        subst hs1 hs3
        obtain ⟨d0, d1, d2, d3⟩ := hc a hal wr HBW.out
        have hbr : b1 < wr.heap.size := by have := HBW.out.size; omega
        obtain ⟨r1, r2⟩ := hr _ (List.getElem_mem hal)
        clear hc
        generalize hrk : l[a] = rk at *
        clear hrk
        obtain ⟨un, up, uu, ua⟩ := rk
        simp only at *
        have CX := Lib.hid (unitFn_any un uu ua n up wr r1 r2 hn)
        have HVE := Lib.hid (show wrap64 (un - n) = 0 ↔ un = n by
          unfold I64 at hn
          constructor
          · intro h1
            unfold wrap64 at h1
            omega
          · intro h1
            subst h1
            simp [wrap64])
        generalize wrap64 (un - n) = V at *
        go_wp2_with fail
        refine CX.out.mono ?_
        rintro e w1 ⟨rfl, hb⟩
        have HB1 := Lib.hid (HBW.out.trans (hb.mono HBW.out.size))
        clear hb CX d0 d1 d2 d3
        by_cases hv : V = 0
        · have HZ := Lib.hid (show hasU l n = true by rw [HVL.out]; simpa using HVE.out.1 hv)
          have hv2 : (V == 0) = true := by simpa using hv
          clear HVE HVL
          go_wp2_with fail
          exact bodyPost_ret (v := .tuple #[.int .i64 a, .bool true]) (by simp [results, Try.results75, go_sem]) rfl ⟨a, by rw [HZ.out] <;> rfl, by omega, HPX.out, HB1.out⟩
        · have HZ := Lib.hid (show hasU l n = false by
            rw [HVL.out]
            simp only [decide_eq_false_iff_not]
            exact fun h1 => hv (HVE.out.2 h1))
          have hv2 : (V == 0) = false := by simpa using hv
          clear HVE HVL
          go_wp2_with fail
          exact bodyPost_ret (v := .tuple #[.int .i64 a, .bool false]) (by simp [results, Try.results75, go_sem]) rfl ⟨a, by rw [HZ.out] <;> rfl, by omega, HPX.out, HB1.out⟩
      · have hae : a = l.length := by omega
        subst hae
        have HZ := Lib.hid (show hasU l n = false by
          by_cases c : 1 ≤ n ∧ n ≤ 9999
          · exact hasU_end ha n (by rw [← HPX.out c.1 c.2]; omega)
          · exact HNG.out c)
        go_wp2_with fail
        exact bodyPost_ret (v := .tuple #[.int .i64 l.length, .bool false]) (by simp [results, Try.results75, go_sem]) rfl ⟨l.length, by rw [HZ.out] <;> rfl, by omega, HPX.out, HBW.out⟩
set_option maxHeartbeats 4000000 in
theorem unit_any (x : Rig) (lv uv : Value) (n : Int) (w : World) (h : RigAt w.heap.size w x lv uv) (hx : chkRig x = 0) (hn : I64 n) :
    Calls Try.prog 44 #[rigV lv uv, .int .i64 n] w fun e w' => ∃ p : Nat, e = .returned (.tuple #[.int .i64 p, .bool (hasU x.units n)]) ∧ p ≤ x.units.length ∧ (1 ≤ n → n ≤ 9999 → p = posU x.units n) ∧ Below w.heap.size w w' := by
  have CS := Lib.hid (fun W (hb : Below w.heap.size w W) => unit_search uv x.units n W ((h.units.below hb).more hb.size) (chkRig_zero hx).2.1 (asc_units hx) (fun u hu => num_range hx hu) hn)
  obtain ⟨uo, ucap, rfl, _⟩ := CellsS.shape h.units
  obtain ⟨lo, lcap, rfl⟩ := prfS_shape h.lib
  have CS1 := Lib.hid (CS.out (w.alloc (.cells #[.slice lo x.lib.length lcap, .slice uo x.units.length ucap] 25)) ((Below.refl _ _).alloc (Nat.le_refl _) _))
  unfold rigV
  clear CS h hx
  generalize hasU x.units n = HH at *
  go_enter Try.func44, Try.ntmps44
  go_wp2_with fail
  refine CS1.out.mono ?_
  rintro e w1 ⟨p, rfl, hp, hq, hb⟩
  have HB := Lib.hid (((Below.refl w.heap.size w).alloc (Nat.le_refl _) (.cells #[.slice lo x.lib.length lcap, .slice uo x.units.length ucap] 25)).trans (hb.mono (by simp)))
  clear hb CS1
  go_wp2_with fail
  exact bodyPost_ret (v := .tuple #[.int .i64 p, .bool HH]) (by simp [results, Try.results44, go_sem]) rfl ⟨p, rfl, hp, hq, HB.out⟩
set_option maxRecDepth 100000 in
set_option maxHeartbeats 4000000 in
theorem runit_any (x : Rig) (lv uv : Value) (n : Int) (w : World) (h : RigAt w.heap.size w x lv uv) :
    Calls Try.prog 51 #[rigV lv uv, .int .i64 n] w fun e w' => e = .returned (.int .i64 (idxU x.units n)) ∧ Below w.heap.size w w' := by
  have HG := Lib.hid (UntS.get h.units)
  obtain ⟨uo, ucap, rfl, _⟩ := CellsS.shape h.units
  obtain ⟨lo, lcap, rfl⟩ := prfS_shape h.lib
  have hm := untS_cap h.units
  have HC := Lib.hid (show idxU x.units n = idxF (isNo n) (x.units.drop 0) 0 by simp [idxU])
  unfold rigV
  clear h
  generalize idxU x.units n = RES at *
  obtain ⟨lib, units⟩ := x
  simp only at *
  go_enter Try.func51, Try.ntmps51
  go_wp2_with fail
  go_loopw [10] (fun i wx => ∃ k : Nat, k ≤ units.length ∧ i = .int .i64 k ∧ Hid (RES = idxF (isNo n) (units.drop k) k) ∧ Hid (Below w.heap.size w wx)) (fun i _ => units.length - (intOf i).toNat)
  case atStart => exact ⟨0, Nat.zero_le _, rfl, HC, Lib.hid ((Below.refl _ _).alloc (Nat.le_refl _) _)⟩
  case round =>
    obtain ⟨k, hk, rfl, HR, HBW⟩ := hrel
    by_cases hlt : k < units.length
    · obtain ⟨b, off, cap', hsl, hb, _, hc⟩ := HG.out (by omega)
      injection hsl with hs1 hs2 hs3
      subst hs1 hs3
      obtain ⟨d0, d1, d2, d3⟩ := hc k hlt wr HBW.out
      have hbr : b < wr.heap.size := by have := HBW.out.size; omega
      have HY := Lib.hid (idxF_yes (isNo n) units k hlt)
      have HN := Lib.hid (idxF_no (isNo n) units k hlt)
      have HT := Lib.hid (show isNo n units[k] = decide (units[k].num = n) from rfl)
      clear hc
      generalize isNo n units[k] = T at *
      generalize hrk : units[k] = rk at *
      clear hrk
      obtain ⟨un, up, uu, ua⟩ := rk
      simp only at *
      have HBX := Lib.hid (HBW.out.alloc (HBW.out.size) (.cells #[.int .i64 un, .string up, .int .i64 uu, .int .i64 ua] 67))
      by_cases he : un = n
      · have h2 : (un == n) = true := by simpa using he
        have HV := Lib.hid (HR.out.trans (HY.out (by rw [HT.out]; simpa using he)))
        clear HT HN he
        go_wp2_with fail
        go_ret
        exact ⟨by rw [HV.out] <;> rfl, HBX.out⟩
      · have h2 : (un == n) = false := by simpa using he
        have HV := Lib.hid (HR.out.trans (HN.out (by rw [HT.out]; simpa using he)))
        clear HT HY he
        go_wp2_with fail
        go_roundw
        case rel => exact ⟨k + 1, by omega, by go_num, HV, HBX⟩
        case measure => simp [intOf]; omega
    · have HV := Lib.hid (show RES = -1 by rw [HR.out, idxF_end _ units k (by omega)])
      have hkk : k = units.length := by omega
      subst hkk
      go_wp2_with fail
      go_ret
      exact ⟨by rw [HV.out] <;> rfl, HBW.out⟩
end Go.Proofs.Ytabalicembhjmaa
