/- The search for a unit by its number, of both sides. (printed by wip/gen/gen_unitfn.py) fixture.parameter. (printed by wip/gen/gen_param.py) -/
import Derived.Test.YtabalicembhjmaaT33M14
import Derived.Test.YtabalicembhjmaaT33M13

namespace Go.Proofs.Ytabalicembhjmaa
open Go.RowKit
set_option linter.unusedVariables false
set_option linter.unusedSimpArgs false

theorem unitFn_call (args : Array Value) (W : World) : Sem.run Try.prog (callFunc 76 args) W = .ok (.enter 76 args) W := by simp [go_sem]
set_option maxHeartbeats 400000 in
theorem unitFn_any (un uu ua n : Int) (up : ByteArray) (w : World) (h1 : 1 ≤ un) (h2 : un ≤ 9999) (hn : I64 n) :
    Calls Try.prog 76 #[.agg #[.int .i64 un, .string up, .int .i64 uu, .int .i64 ua], .int .i64 n] w fun e w' => e = .returned (.int .i64 (wrap64 (un - n))) ∧ Below w.heap.size w w' := by
  go_enter Try.func76, Try.ntmps76
  go_wp2
  go_ret
  exact ⟨rfl, (Below.refl _ _).alloc (Nat.le_refl _) _⟩
set_option maxRecDepth 100000 in
set_option maxHeartbeats 4000000 in
theorem unit_search (v : Value) (l : List Unt) (n : Int) (w : World) (h : UntS w.heap.size w v l) (hl : l.length ≤ 400) (ha : AscU l) (hr : ∀ u ∈ l, 1 ≤ u.num ∧ u.num ≤ 9999) (hn : I64 n) :
    Calls Try.prog 75 #[v, .int .i64 n, .func (.func 76) #[] #[]] w fun e w' => ∃ p : Nat, e = .returned (.tuple #[.int .i64 p, .bool (hasU l n)]) ∧ p ≤ l.length ∧ (1 ≤ n → n ≤ 9999 → p = posU l n) ∧ Below w.heap.size w w' := by
  have HG := Lib.hid (UntS.get h)
  obtain ⟨ao, cap, rfl, _⟩ := CellsS.shape h
  have hcf := unitFn_call
  clear h
  go_enter Try.func75, Try.ntmps75
  go_wp2_with fail
  go_loopw [9, 10] (fun s9 s10 wx => ∃ (a b : Nat), s9 = .int .i64 a ∧ s10 = .int .i64 b ∧ a ≤ b ∧ b ≤ l.length ∧ Hid (-4611686018427387904 ≤ n → n ≤ 4611686018427387904 → a ≤ posU l n ∧ posU l n ≤ b) ∧ Hid (Below w.heap.size w wx)) (fun s9 s10 _ => (intOf s10).toNat - (intOf s9).toNat)
  case atStart => exact ⟨0, l.length, rfl, rfl, by omega, by omega, Lib.hid (fun _ _ => ⟨by omega, posU_le _ _⟩), Lib.hid (Below.refl _ _)⟩
  case round =>
    obtain ⟨a, b, rfl, rfl, hab, hbl, HP, HBW⟩ := hrel
    by_cases hlt : a < b
    · obtain ⟨m, hm⟩ : ∃ m : Nat, ((a : Int) + b) / 2 = (m : Int) := ⟨(a + b) / 2, by omega⟩
      have hm1 : a ≤ m := by omega
      have hm2 : m < b := by omega
      have hml : m < l.length := by omega
      have hmi : (m : Int) < (l.length : Int) := by omega
      have HN := Lib.hid (show l[m].num < n → ¬ posU l n ≤ m from fun h1 h2 => by have := posU_ge ha n m hml h2; omega)
      have HM := Lib.hid (show ¬ l[m].num < n → posU l n ≤ m from fun h1 => by
        by_cases c : m < posU l n
        · exact absurd (posU_lt n l m hml c) h1
        · omega)
      obtain ⟨b1, off, cap', hsl, hb1, _, hc⟩ := HG.out (by omega)
      injection hsl with hs1 hs2 hs3
      subst hs1 hs3
      obtain ⟨d0, d1, d2, d3⟩ := hc m hml wr HBW.out
      have hbr : b1 < wr.heap.size := by have := HBW.out.size; omega
      obtain ⟨r1, r2⟩ := hr _ (List.getElem_mem hml)
      clear hc
      generalize hrk : l[m] = rk at *
      clear hrk
      obtain ⟨un, up, uu, ua⟩ := rk
      simp only at *
      have CX := Lib.hid (unitFn_any un uu ua n up wr r1 r2 hn)
      have HVG := Lib.hid (show -4611686018427387904 ≤ n → n ≤ 4611686018427387904 → wrap64 (un - n) = un - n from fun h1 h2 => IntWalk.wrap64_in _ (by omega))
      generalize wrap64 (un - n) = V at *
      go_wp2_with fail
      refine CX.out.mono ?_
      rintro e w1 ⟨rfl, hb⟩
      have HB1 := Lib.hid (HBW.out.trans (hb.mono HBW.out.size))
      clear hb CX d0 d1 d2 d3
      by_cases hv : V < 0
      · have HX := Lib.hid (show -4611686018427387904 ≤ n → n ≤ 4611686018427387904 → m + 1 ≤ posU l n ∧ posU l n ≤ b from fun h1 h2 => by
          have h3 := HVG.out h1 h2
          have h4 := HN.out (by omega)
          exact ⟨by omega, (HP.out h1 h2).2⟩)
        clear HP HN HM HVG hm
        go_wp2_with fail
        go_roundw
        case rel => exact ⟨m + 1, b, by go_num, rfl, by omega, hbl, HX, HB1⟩
        case measure => simp [intOf]; omega
      · have HX := Lib.hid (show -4611686018427387904 ≤ n → n ≤ 4611686018427387904 → a ≤ posU l n ∧ posU l n ≤ m from fun h1 h2 => by
          have h3 := HVG.out h1 h2
          have h4 := HM.out (by omega)
          exact ⟨(HP.out h1 h2).1, h4⟩)
        have hv2 : decide (V < 0) = false := by simpa using hv
        clear HP HN HM HVG hm
        go_wp2_with fail
        go_roundw
        case rel => exact ⟨a, m, rfl, rfl, hm1, by omega, HX, HB1⟩
        case measure => simp [intOf]; omega
    · have hab2 : a = b := by omega
      subst hab2
      have HPX := Lib.hid (show 1 ≤ n → n ≤ 9999 → a = posU l n from fun h1 h2 => by have := HP.out (by omega) (by omega); omega)
      have HNG := Lib.hid (show ¬ (1 ≤ n ∧ n ≤ 9999) → hasU l n = false from fun h1 => by
        cases c : hasU l n
        · rfl
        · obtain ⟨u, hu, h2⟩ := List.any_eq_true.1 c
          simp at h2
          have := hr u hu
          omega)
      by_cases hal : a < l.length
      · have hai : (a : Int) < (l.length : Int) := by omega
        have HVL := Lib.hid (show hasU l n = decide (l[a].num = n) by
          by_cases c : 1 ≤ n ∧ n ≤ 9999
          · have h1 := HPX.out c.1 c.2
            subst h1
            exact hasU_val ha n hal
          · rw [HNG.out c]
            have := hr _ (List.getElem_mem hal)
            symm
            simp only [decide_eq_false_iff_not]
            omega)
        obtain ⟨b1, off, cap', hsl, hb1, _, hc⟩ := HG.out (by omega)
        injection hsl with hs1 hs2 hs3
        subst hs1 hs3
        obtain ⟨d0, d1, d2, d3⟩ := hc a hal wr HBW.out
        have hbr : b1 < wr.heap.size := by have := HBW.out.size; omega
        obtain ⟨r1, r2⟩ := hr _ (List.getElem_mem hal)
        clear hc
        generalize hrk : l[a] = rk at *
        clear hrk
        obtain ⟨un, up, uu, ua⟩ := rk
        simp only at *
        have CX := Lib.hid (unitFn_any un uu ua n up wr r1 r2 hn)
        have HVE := Lib.hid (show wrap64 (un - n) = 0 ↔ un = n by
          unfold I64 at hn
          constructor
          · intro h1
            unfold wrap64 at h1
            omega
          · intro h1
            subst h1
            simp [wrap64])
        generalize wrap64 (un - n) = V at *
        go_wp2_with fail
        refine CX.out.mono ?_
        rintro e w1 ⟨rfl, hb⟩
        have HB1 := Lib.hid (HBW.out.trans (hb.mono HBW.out.size))
        clear hb CX d0 d1 d2 d3
        by_cases hv : V = 0
        · have HZ := Lib.hid (show hasU l n = true by rw [HVL.out]; simpa using HVE.out.1 hv)
          have hv2 : (V == 0) = true := by simpa using hv
          clear HVE HVL
          go_wp2_with fail
          exact bodyPost_ret (v := .tuple #[.int .i64 a, .bool true]) (by simp [results, Try.results75, go_sem]) rfl ⟨a, by rw [HZ.out] <;> rfl, by omega, HPX.out, HB1.out⟩
        · have HZ := Lib.hid (show hasU l n = false by
            rw [HVL.out]
            simp only [decide_eq_false_iff_not]
            exact fun h1 => hv (HVE.out.2 h1))
          have hv2 : (V == 0) = false := by simpa using hv
          clear HVE HVL
          go_wp2_with fail
          exact bodyPost_ret (v := .tuple #[.int .i64 a, .bool false]) (by simp [results, Try.results75, go_sem]) rfl ⟨a, by rw [HZ.out] <;> rfl, by omega, HPX.out, HB1.out⟩
      · have hae : a = l.length := by omega
        subst hae
        have HZ := Lib.hid (show hasU l n = false by
          by_cases c : 1 ≤ n ∧ n ≤ 9999
          · exact hasU_end ha n (by rw [← HPX.out c.1 c.2]; omega)
          · exact HNG.out c)
        go_wp2_with fail
        exact bodyPost_ret (v := .tuple #[.int .i64 l.length, .bool false]) (by simp [results, Try.results75, go_sem]) rfl ⟨l.length, by rw [HZ.out] <;> rfl, by omega, HPX.out, HBW.out⟩
set_option maxHeartbeats 4000000 in
theorem unit_any (x : Rig) (lv uv : Value) (n : Int) (w : World) (h : RigAt w.heap.size w x lv uv) (hx : chkRig x = 0) (hn : I64 n) :
    Calls Try.prog 44 #[rigV lv uv, .int .i64 n] w fun e w' => ∃ p : Nat, e = .returned (.tuple #[.int .i64 p, .bool (hasU x.units n)]) ∧ p ≤ x.units.length ∧ (1 ≤ n → n ≤ 9999 → p = posU x.units n) ∧ Below w.heap.size w w' := by
  have CS := Lib.hid (fun W (hb : Below w.heap.size w W) => unit_search uv x.units n W ((h.units.below hb).more hb.size) (chkRig_zero hx).2.1 (asc_units hx) (fun u hu => num_range hx hu) hn)
  obtain ⟨uo, ucap, rfl, _⟩ := CellsS.shape h.units
  obtain ⟨lo, lcap, rfl⟩ := prfS_shape h.lib
  have CS1 := Lib.hid (CS.out (w.alloc (.cells #[.slice lo x.lib.length lcap, .slice uo x.units.length ucap] 25)) ((Below.refl _ _).alloc (Nat.le_refl _) _))
  unfold rigV
  clear CS h hx
  generalize hasU x.units n = HH at *
  go_enter Try.func44, Try.ntmps44
  go_wp2_with fail
  refine CS1.out.mono ?_
  rintro e w1 ⟨p, rfl, hp, hq, hb⟩
  have HB := Lib.hid (((Below.refl w.heap.size w).alloc (Nat.le_refl _) (.cells #[.slice lo x.lib.length lcap, .slice uo x.units.length ucap] 25)).trans (hb.mono (by simp)))
  clear hb CS1
  go_wp2_with fail
  exact bodyPost_ret (v := .tuple #[.int .i64 p, .bool HH]) (by simp [results, Try.results44, go_sem]) rfl ⟨p, rfl, hp, hq, HB.out⟩
set_option maxRecDepth 100000 in
set_option maxHeartbeats 4000000 in
theorem runit_any (x : Rig) (lv uv : Value) (n : Int) (w : World) (h : RigAt w.heap.size w x lv uv) :
    Calls Try.prog 51 #[rigV lv uv, .int .i64 n] w fun e w' => e = .returned (.int .i64 (idxU x.units n)) ∧ Below w.heap.size w w' := by
  have HG := Lib.hid (UntS.get h.units)
  obtain ⟨uo, ucap, rfl, _⟩ := CellsS.shape h.units
  obtain ⟨lo, lcap, rfl⟩ := prfS_shape h.lib
  have hm := untS_cap h.units
  have HC := Lib.hid (show idxU x.units n = idxF (isNo n) (x.units.drop 0) 0 by simp [idxU])
  unfold rigV
  clear h
  generalize idxU x.units n = RES at *
  obtain ⟨lib, units⟩ := x
  simp only at *
  go_enter Try.func51, Try.ntmps51
  go_wp2_with fail
  go_loopw [10] (fun i wx => ∃ k : Nat, k ≤ units.length ∧ i = .int .i64 k ∧ Hid (RES = idxF (isNo n) (units.drop k) k) ∧ Hid (Below w.heap.size w wx)) (fun i _ => units.length - (intOf i).toNat)
  case atStart => exact ⟨0, Nat.zero_le _, rfl, HC, Lib.hid ((Below.refl _ _).alloc (Nat.le_refl _) _)⟩
  case round =>
    obtain ⟨k, hk, rfl, HR, HBW⟩ := hrel
    by_cases hlt : k < units.length
    · obtain ⟨b, off, cap', hsl, hb, _, hc⟩ := HG.out (by omega)
      injection hsl with hs1 hs2 hs3
      subst hs1 hs3
      obtain ⟨d0, d1, d2, d3⟩ := hc k hlt wr HBW.out
      have hbr : b < wr.heap.size := by have := HBW.out.size; omega
      have HY := Lib.hid (idxF_yes (isNo n) units k hlt)
      have HN := Lib.hid (idxF_no (isNo n) units k hlt)
      have HT := Lib.hid (show isNo n units[k] = decide (units[k].num = n) from rfl)
      clear hc
      generalize isNo n units[k] = T at *
      generalize hrk : units[k] = rk at *
      clear hrk
      obtain ⟨un, up, uu, ua⟩ := rk
      simp only at *
      have HBX := Lib.hid (HBW.out.alloc (HBW.out.size) (.cells #[.int .i64 un, .string up, .int .i64 uu, .int .i64 ua] 67))
      by_cases he : un = n
      · have h2 : (un == n) = true := by simpa using he
        have HV := Lib.hid (HR.out.trans (HY.out (by rw [HT.out]; simpa using he)))
        clear HT HN he
        go_wp2_with fail
        go_ret
        exact ⟨by rw [HV.out] <;> rfl, HBX.out⟩
      · have h2 : (un == n) = false := by simpa using he
        have HV := Lib.hid (HR.out.trans (HN.out (by rw [HT.out]; simpa using he)))
        clear HT HY he
        go_wp2_with fail
        go_roundw
        case rel => exact ⟨k + 1, by omega, by go_num, HV, HBX⟩
        case measure => simp [intOf]; omega
    · have HV := Lib.hid (show RES = -1 by rw [HR.out, idxF_end _ units k (by omega)])
      have hkk : k = units.length := by omega
      subst hkk
      go_wp2_with fail
      go_ret
      exact ⟨by rw [HV.out] <;> rfl, HBW.out⟩
end Go.Proofs.Ytabalicembhjmaa

namespace Go.Proofs.Ytabalicembhjmaa
open Go.RowKit
set_option linter.unusedVariables false
set_option linter.unusedSimpArgs false

def hasPn (nm : List UInt8) (p : Par) : Bool := decide (p.nm = nm)
def parOf (l : List Par) (nm : List UInt8) : Option Par := l.find? (hasPn nm)
/-- the value of a parameter, or of none: its ranges' slice lies below block B -/
def ParR (B : Nat) (w : World) (o : Option Par) (v : Value) : Prop :=
  match o with
  | some p => ∃ rv, v = .agg #[.string p.name, .int .i64 p.grp, .int .i64 p.sl, .int .i64 p.fine, .int .i64 p.dflt, .bool p.snap, rv] ∧ RngS B w rv p.rngs
  | none => v = .agg #[.string ⟨#[]⟩, .int .i64 0, .int .i64 0, .int .i64 0, .int .i64 0, .bool false, .slice none 0 0]
theorem ParR.below {B : Nat} {w w' : World} {o : Option Par} {v : Value} (h : ParR B w o v) (hb : Below B w w') : ParR B w' o v := by
  cases o with
  | none => exact h
  | some p =>
    obtain ⟨pv, h1, h2⟩ := h
    exact ⟨pv, h1, h2.below hb⟩
theorem rngS_shape {B : Nat} {w : World} {v : Value} {l : List Rng} (h : RngS B w v l) : ∃ ao cap, v = .slice ao l.length cap := by
  obtain ⟨ao, cap, rfl, _⟩ := CellsS.shape h
  exact ⟨ao, cap, rfl⟩
theorem parR_shape {B : Nat} {w : World} {o : Option Par} {v : Value} (h : ParR B w o v) : ∃ qn qg qs qf qd qb qo ql qc, v = .agg #[.string qn, .int .i64 qg, .int .i64 qs, .int .i64 qf, .int .i64 qd, .bool qb, .slice qo ql qc] := by
  cases o with
  | none => exact ⟨_, _, _, _, _, _, _, _, _, h⟩
  | some p =>
    obtain ⟨pv, rfl, hp⟩ := h
    obtain ⟨ao, cap, rfl⟩ := rngS_shape hp
    exact ⟨_, _, _, _, _, _, _, _, _, rfl⟩
def prmFn (tb : Nat) : Value := .func (.func 78) #[] #[.pointer (some ⟨tb, 0, none⟩)]
set_option maxHeartbeats 400000 in
theorem prmFn_any (xn : ByteArray) (xg xs xf xd : Int) (xb : Bool) (ro : Option Addr) (rl rcap : Nat) (nm : ByteArray) (tb : Nat) (w : World) (ht : w.cell? ⟨tb, 0, none⟩ = some (.string nm)) (hb : tb < w.heap.size) :
    Calls Try.prog 78 #[.agg #[.string xn, .int .i64 xg, .int .i64 xs, .int .i64 xf, .int .i64 xd, .bool xb, .slice ro rl rcap], .pointer (some ⟨tb, 0, none⟩)] w fun e w' => e = .returned (.bool (decide (xn.data.toList = nm.data.toList))) ∧ Below w.heap.size w w' := by
  by_cases hc : xn.data.toList = nm.data.toList
  · have h2 : (xn.toList == nm.toList) = true := by rw [Lib.toList_data, Lib.toList_data]; simpa using hc
    have HV := Lib.hid (show decide (xn.data.toList = nm.data.toList) = true by simpa using hc)
    clear hc
    go_enter Try.func78, Try.ntmps78
    go_wp2
    go_ret
    exact ⟨by rw [HV.out] <;> rfl, (Below.refl _ _).alloc (Nat.le_refl _) _⟩
  · have h2 : (xn.toList == nm.toList) = false := by rw [Lib.toList_data, Lib.toList_data]; simpa using hc
    have HV := Lib.hid (show decide (xn.data.toList = nm.data.toList) = false by simpa using hc)
    go_enter Try.func78, Try.ntmps78
    go_wp2
    go_ret
    exact ⟨by rw [HV.out] <;> rfl, (Below.refl _ _).alloc (Nat.le_refl _) _⟩
theorem prmFn_call (args : Array Value) (W : World) : Sem.run Try.prog (callFunc 78 args) W = .ok (.enter 78 args) W := by simp [go_sem]
set_option maxRecDepth 100000 in
set_option maxHeartbeats 4000000 in
theorem prm_index (v : Value) (l : List Par) (nm : ByteArray) (tb : Nat) (w : World) (h : ParS w.heap.size w v l) (ht : w.cell? ⟨tb, 0, none⟩ = some (.string nm)) (hb : tb < w.heap.size) :
    Calls Try.prog 77 #[v, prmFn tb] w fun e w' => e = .returned (.int .i64 (idxF (hasPn nm.data.toList) l 0)) ∧ Below w.heap.size w w' := by
  have HG := Lib.hid (ParS.get h)
  obtain ⟨ao, cap, rfl⟩ := parS_shape h
  have hm := parS_cap h
  clear h
  have CF := Lib.hid (fun (xn : ByteArray) (xg xs xf xd : Int) (xb : Bool) (ro : Option Addr) (rl rcap : Nat) W (hB : Below w.heap.size w W) => prmFn_any xn xg xs xf xd xb ro rl rcap nm tb W ((hB.cell (p := ⟨tb, 0, none⟩) hb).trans ht) (Nat.lt_of_lt_of_le hb hB.size))
  have hcf := prmFn_call
  have HC := Lib.hid (show idxF (hasPn nm.data.toList) l 0 = idxF (hasPn nm.data.toList) (l.drop 0) 0 by simp)
  generalize idxF (hasPn nm.data.toList) l 0 = RES at *
  clear ht
  unfold prmFn
  go_enter Try.func77, Try.ntmps77
  go_wp2_with fail
  go_loopw [8] (fun i wr => ∃ k : Nat, k ≤ l.length ∧ i = .int .i64 k ∧ Hid (RES = idxF (hasPn nm.data.toList) (l.drop k) k) ∧ Hid (Below w.heap.size w wr)) (fun i _ => l.length - (intOf i).toNat)
  case atStart => exact ⟨0, Nat.zero_le _, rfl, HC, Lib.hid (Below.refl _ _)⟩
  case round =>
    obtain ⟨k, hk, rfl, HR, HBW⟩ := hrel
    by_cases hlt : k < l.length
    · obtain ⟨b, off, cap', hsl, hbb, _, hc⟩ := HG.out (by omega)
      injection hsl with hs1 hs2 hs3
      subst hs1 hs3
      obtain ⟨pv, hpv, hcc⟩ := hc k hlt
      obtain ⟨d0, d1, d2, d3, d4, d5, d6⟩ := hcc wr HBW.out
      have hbr : b < wr.heap.size := by have := HBW.out.size; omega
      have HY := Lib.hid (idxF_yes (hasPn nm.data.toList) l k hlt)
      have HN := Lib.hid (idxF_no (hasPn nm.data.toList) l k hlt)
      have HT := Lib.hid (show hasPn nm.data.toList l[k] = decide (l[k].name.data.toList = nm.data.toList) from rfl)
      obtain ⟨ro, rcap, rfl⟩ := rngS_shape hpv
      clear hc hcc hpv
      generalize hasPn nm.data.toList l[k] = T at *
      generalize hrk : l[k] = rk at *
      clear hrk
      obtain ⟨xn, xg, xs, xf, xd, xb, xl⟩ := rk
      simp only at *
      have CX := Lib.hid (CF.out xn xg xs xf xd xb ro xl.length rcap _ HBW.out)
      rw [← HT.out] at CX
      cases T
      · have HV := Lib.hid (HR.out.trans (HN.out rfl))
        go_wp2_with fail
        refine CX.out.mono ?_
        rintro e w1 ⟨rfl, hb1⟩
        have HB2 := Lib.hid (HBW.out.trans (hb1.mono HBW.out.size))
        clear hb1
        go_wp2_with fail
        go_roundw
        case rel => exact ⟨k + 1, by omega, by go_num, HV, HB2⟩
        case measure => simp [intOf]; omega
      · have HV := Lib.hid (HR.out.trans (HY.out rfl))
        go_wp2_with fail
        refine CX.out.mono ?_
        rintro e w1 ⟨rfl, hb1⟩
        have HB2 := Lib.hid (HBW.out.trans (hb1.mono HBW.out.size))
        clear hb1
        go_wp2_with fail
        go_ret
        exact ⟨by rw [HV.out] <;> rfl, HB2.out⟩
    · have HV := Lib.hid (show RES = -1 by rw [HR.out, idxF_end _ l k (by omega)])
      have hkk : k = l.length := by omega
      subst hkk
      go_wp2_with fail
      go_ret
      exact ⟨by rw [HV.out] <;> rfl, HBW.out⟩
set_option maxRecDepth 100000 in
set_option maxHeartbeats 8000000 in
theorem parameter_any (B : Nat) (pn : ByteArray) (pz : Int) (pv : Value) (l : List Par) (nm : ByteArray) (w : World) (hBw : B ≤ w.heap.size) (h : ParS B w pv l) :
    Calls Try.prog 49 #[.agg #[.string pn, .int .i64 pz, pv], .string nm] w fun e w' => ∃ xv, e = .returned (.tuple #[xv, .bool (parOf l nm.data.toList).isSome]) ∧ ParR B w' (parOf l nm.data.toList) xv ∧ Below w.heap.size w w' := by
  have HG := Lib.hid (ParS.get h)
  have HSP := Lib.hid (idxF_spec (hasPn nm.data.toList) l)
  have HPO := Lib.hid (show parOf l nm.data.toList = l.find? (hasPn nm.data.toList) from rfl)
  have HCI := Lib.hid (fun W (hW : Below w.heap.size w W) tb (ht : W.cell? ⟨tb, 0, none⟩ = some (.string nm)) (hb : tb < W.heap.size) => prm_index pv l nm tb W ((h.below (hW.mono hBw)).more (Nat.le_trans hBw hW.size)) ht hb)
  obtain ⟨po, pcap, rfl⟩ := parS_shape h
  have hm := parS_cap h
  clear h
  generalize idxF (hasPn nm.data.toList) l 0 = IX at *
  rw [HPO.out]
  generalize l.find? (hasPn nm.data.toList) = RES at *
  have HX := Lib.hid (HCI.out (((w.alloc (.cells #[.string pn, .int .i64 pz, .slice po l.length pcap] 70)).alloc (.cells #[.string nm] 9)).alloc (.cells #[.string ⟨#[]⟩, .int .i64 0, .int .i64 0, .int .i64 0, .int .i64 0, .bool false, .slice none 0 0] 42)) ((((Below.refl _ _).alloc (Nat.le_refl _) _).alloc (by simp) _).alloc (by simp; try omega) _) (w.heap.size + 1) (by simp [go_sem]) (by simp; try omega))
  unfold prmFn at HX
  clear HCI HPO
  go_enter Try.func49, Try.ntmps49
  go_wp2_with fail
  refine HX.out.mono ?_
  rintro e w1 ⟨rfl, hb1⟩
  have HB1 := Lib.hid (((((Below.refl w.heap.size w).alloc (Nat.le_refl _) (.cells #[.string pn, .int .i64 pz, .slice po l.length pcap] 70)).alloc (by simp) (.cells #[.string nm] 9)).alloc (by simp; try omega) (.cells #[.string ⟨#[]⟩, .int .i64 0, .int .i64 0, .int .i64 0, .int .i64 0, .bool false, .slice none 0 0] 42)).trans (hb1.mono (by simp; try omega)))
  have hz1 := hb1.size
  simp only [World.size_alloc] at hz1
  have q2 : w1.cell? ⟨w.heap.size, 2, none⟩ = some (.slice po l.length pcap) := (hb1.cell (p := ⟨w.heap.size, 2, none⟩) (by simp; omega)).trans (by simp [go_sem, World.cell?_alloc_past])
  have c0 : w1.cell? ⟨w.heap.size + 1 + 1, 0, none⟩ = some (.string ⟨#[]⟩) := (hb1.cell (p := ⟨w.heap.size + 1 + 1, 0, none⟩) (by simp)).trans (by simp [go_sem])
  have c1 : w1.cell? ⟨w.heap.size + 1 + 1, 1, none⟩ = some (.int .i64 0) := (hb1.cell (p := ⟨w.heap.size + 1 + 1, 1, none⟩) (by simp)).trans (by simp [go_sem])
  have c2 : w1.cell? ⟨w.heap.size + 1 + 1, 2, none⟩ = some (.int .i64 0) := (hb1.cell (p := ⟨w.heap.size + 1 + 1, 2, none⟩) (by simp)).trans (by simp [go_sem])
  have c3 : w1.cell? ⟨w.heap.size + 1 + 1, 3, none⟩ = some (.int .i64 0) := (hb1.cell (p := ⟨w.heap.size + 1 + 1, 3, none⟩) (by simp)).trans (by simp [go_sem])
  have c4 : w1.cell? ⟨w.heap.size + 1 + 1, 4, none⟩ = some (.int .i64 0) := (hb1.cell (p := ⟨w.heap.size + 1 + 1, 4, none⟩) (by simp)).trans (by simp [go_sem])
  have c5 : w1.cell? ⟨w.heap.size + 1 + 1, 5, none⟩ = some (.bool false) := (hb1.cell (p := ⟨w.heap.size + 1 + 1, 5, none⟩) (by simp)).trans (by simp [go_sem])
  have c6 : w1.cell? ⟨w.heap.size + 1 + 1, 6, none⟩ = some (.slice none 0 0) := (hb1.cell (p := ⟨w.heap.size + 1 + 1, 6, none⟩) (by simp)).trans (by simp [go_sem])
  have f0 : w1.frozen? ⟨w.heap.size + 1 + 1, 0, none⟩ = false := (hb1.frozen (p := ⟨w.heap.size + 1 + 1, 0, none⟩) (by simp)).trans (by simp [go_sem])
  have f1 : w1.frozen? ⟨w.heap.size + 1 + 1, 1, none⟩ = false := (hb1.frozen (p := ⟨w.heap.size + 1 + 1, 1, none⟩) (by simp)).trans (by simp [go_sem])
  have f2 : w1.frozen? ⟨w.heap.size + 1 + 1, 2, none⟩ = false := (hb1.frozen (p := ⟨w.heap.size + 1 + 1, 2, none⟩) (by simp)).trans (by simp [go_sem])
  have f3 : w1.frozen? ⟨w.heap.size + 1 + 1, 3, none⟩ = false := (hb1.frozen (p := ⟨w.heap.size + 1 + 1, 3, none⟩) (by simp)).trans (by simp [go_sem])
  have f4 : w1.frozen? ⟨w.heap.size + 1 + 1, 4, none⟩ = false := (hb1.frozen (p := ⟨w.heap.size + 1 + 1, 4, none⟩) (by simp)).trans (by simp [go_sem])
  have f5 : w1.frozen? ⟨w.heap.size + 1 + 1, 5, none⟩ = false := (hb1.frozen (p := ⟨w.heap.size + 1 + 1, 5, none⟩) (by simp)).trans (by simp [go_sem])
  have f6 : w1.frozen? ⟨w.heap.size + 1 + 1, 6, none⟩ = false := (hb1.frozen (p := ⟨w.heap.size + 1 + 1, 6, none⟩) (by simp)).trans (by simp [go_sem])
  have KSB := Lib.hid (show ∀ u0 u1 u2 u3 u4 u5 u6, Below w.heap.size w (((((((w1.setCell ⟨w.heap.size + 1 + 1, 0, none⟩ u0).setCell ⟨w.heap.size + 1 + 1, 1, none⟩ u1).setCell ⟨w.heap.size + 1 + 1, 2, none⟩ u2).setCell ⟨w.heap.size + 1 + 1, 3, none⟩ u3).setCell ⟨w.heap.size + 1 + 1, 4, none⟩ u4).setCell ⟨w.heap.size + 1 + 1, 5, none⟩ u5).setCell ⟨w.heap.size + 1 + 1, 6, none⟩ u6) from fun u0 u1 u2 u3 u4 u5 u6 => (((((((HB1.out.setCell (p := ⟨w.heap.size + 1 + 1, 0, none⟩) (by simp; try omega) u0).setCell (p := ⟨w.heap.size + 1 + 1, 1, none⟩) (by simp; try omega) u1).setCell (p := ⟨w.heap.size + 1 + 1, 2, none⟩) (by simp; try omega) u2).setCell (p := ⟨w.heap.size + 1 + 1, 3, none⟩) (by simp; try omega) u3).setCell (p := ⟨w.heap.size + 1 + 1, 4, none⟩) (by simp; try omega) u4).setCell (p := ⟨w.heap.size + 1 + 1, 5, none⟩) (by simp; try omega) u5).setCell (p := ⟨w.heap.size + 1 + 1, 6, none⟩) (by simp; try omega) u6))
  have KST := Lib.hid (show ∀ u0 u1 u2 u3 u4 u5 u6 {v : Value} {l : List Rng}, RngS B w1 v l → RngS B (((((((w1.setCell ⟨w.heap.size + 1 + 1, 0, none⟩ u0).setCell ⟨w.heap.size + 1 + 1, 1, none⟩ u1).setCell ⟨w.heap.size + 1 + 1, 2, none⟩ u2).setCell ⟨w.heap.size + 1 + 1, 3, none⟩ u3).setCell ⟨w.heap.size + 1 + 1, 4, none⟩ u4).setCell ⟨w.heap.size + 1 + 1, 5, none⟩ u5).setCell ⟨w.heap.size + 1 + 1, 6, none⟩ u6) v l from fun u0 u1 u2 u3 u4 u5 u6 _ _ h => h.below ((((((((Below.refl B w1).setCell (p := ⟨w.heap.size + 1 + 1, 0, none⟩) (by show B ≤ w.heap.size + 1 + 1; omega) u0).setCell (p := ⟨w.heap.size + 1 + 1, 1, none⟩) (by show B ≤ w.heap.size + 1 + 1; omega) u1).setCell (p := ⟨w.heap.size + 1 + 1, 2, none⟩) (by show B ≤ w.heap.size + 1 + 1; omega) u2).setCell (p := ⟨w.heap.size + 1 + 1, 3, none⟩) (by show B ≤ w.heap.size + 1 + 1; omega) u3).setCell (p := ⟨w.heap.size + 1 + 1, 4, none⟩) (by show B ≤ w.heap.size + 1 + 1; omega) u4).setCell (p := ⟨w.heap.size + 1 + 1, 5, none⟩) (by show B ≤ w.heap.size + 1 + 1; omega) u5).setCell (p := ⟨w.heap.size + 1 + 1, 6, none⟩) (by show B ≤ w.heap.size + 1 + 1; omega) u6))
  clear hb1 HX
  rcases HSP.out with ⟨rfl, rfl⟩ | ⟨k, hk, rfl, rfl⟩
  · go_wp2_with fail
    exact bodyPost_ret (v := .tuple #[.agg #[.string ⟨#[]⟩, .int .i64 0, .int .i64 0, .int .i64 0, .int .i64 0, .bool false, .slice none 0 0], .bool false]) (by simp [results, Try.results49, go_sem, c0, c1, c2, c3, c4, c5, c6]) rfl ⟨_, rfl, rfl, KSB.out _ _ _ _ _ _ _⟩
  · obtain ⟨b, off, cap', hsl, hbb, _, hc⟩ := HG.out (by omega)
    injection hsl with hs1 hs2 hs3
    subst hs1 hs3
    obtain ⟨rv, hrv, hcc⟩ := hc k hk
    have HPV := Lib.hid (hrv.below (HB1.out.mono hBw))
    obtain ⟨d0, d1, d2, d3, d4, d5, d6⟩ := hcc w1 (HB1.out.mono hBw)
    have hbr : b < w1.heap.size := by omega
    obtain ⟨ro, rcap, rfl⟩ := rngS_shape hrv
    clear hc hcc hrv HG HSP
    generalize hrk : l[k] = rk at *
    have HRK := Lib.hid hrk
    clear hrk
    obtain ⟨xn, xg, xs, xf, xd, xb, xl⟩ := rk
    simp only at *
    go_wp2_with fail
    exact bodyPost_ret (v := .tuple #[.agg #[.string xn, .int .i64 xg, .int .i64 xs, .int .i64 xf, .int .i64 xd, .bool xb, .slice ro xl.length rcap], .bool true]) (by simp [results, Try.results49, go_sem, c0, c1, c2, c3, c4, c5, c6]) rfl ⟨_, rfl, by rw [HRK.out]; exact ⟨_, rfl, KST.out _ _ _ _ _ _ _ HPV.out⟩, KSB.out _ _ _ _ _ _ _⟩
end Go.Proofs.Ytabalicembhjmaa
