/- fixture.parameter. (printed by wip/gen/gen_param.py) The reference's param. (printed by wip/gen/gen_param.py) Boxes known by their block and type; what changes rows and boxes of one type leaves those of others. No program in it. Keys, settings as arguments. -/
import Derived.Test.YtopmdeefcjdadaaT40M08
import Derived.Test.YtopmdeefcjdadaaT40M01
import Derived.Laws.AppendOwn
import Derived.Test.YtopmdeefcjdadaaT40M04

namespace Go.Proofs.Ytopmdeefcjdadaa
open Go.RowKit
set_option linter.unusedVariables false
set_option linter.unusedSimpArgs false

def hasPn (nm : List UInt8) (p : Par) : Bool := decide (p.nm = nm)
def parOf (l : List Par) (nm : List UInt8) : Option Par := l.find? (hasPn nm)
/-- the value of a parameter, or of none: its ranges' slice lies below block B -/
def ParR (B : Nat) (w : World) (o : Option Par) (v : Value) : Prop :=
  match o with
  | some p => ∃ rv, v = .agg #[.string p.name, .int .i64 p.grp, .int .i64 p.sl, .int .i64 p.fine, .int .i64 p.dflt, .bool p.snap, rv] ∧ RngS B w rv p.rngs
  | none => v = .agg #[.string ⟨#[]⟩, .int .i64 0, .int .i64 0, .int .i64 0, .int .i64 0, .bool false, .slice none 0 0]
theorem ParR.below {B : Nat} {w w' : World} {o : Option Par} {v : Value} (h : ParR B w o v) (hb : Below B w w') : ParR B w' o v := by
  cases o with
  | none => exact h
  | some p =>
    obtain ⟨pv, h1, h2⟩ := h
    exact ⟨pv, h1, h2.below hb⟩
theorem rngS_shape {B : Nat} {w : World} {v : Value} {l : List Rng} (h : RngS B w v l) : ∃ ao cap, v = .slice ao l.length cap := by
  obtain ⟨ao, cap, rfl, _⟩ := CellsS.shape h
  exact ⟨ao, cap, rfl⟩
theorem parR_shape {B : Nat} {w : World} {o : Option Par} {v : Value} (h : ParR B w o v) : ∃ qn qg qs qf qd qb qo ql qc, v = .agg #[.string qn, .int .i64 qg, .int .i64 qs, .int .i64 qf, .int .i64 qd, .bool qb, .slice qo ql qc] := by
  cases o with
  | none => exact ⟨_, _, _, _, _, _, _, _, _, h⟩
  | some p =>
    obtain ⟨pv, rfl, hp⟩ := h
    obtain ⟨ao, cap, rfl⟩ := rngS_shape hp
    exact ⟨_, _, _, _, _, _, _, _, _, rfl⟩
end Go.Proofs.Ytopmdeefcjdadaa

namespace Go.Proofs.Ytopmdeefcjdadaa
open Go.RowKit
set_option linter.unusedVariables false
set_option linter.unusedSimpArgs false

set_option maxRecDepth 100000 in
set_option maxHeartbeats 8000000 in
theorem rparam_any (B : Nat) (pn : ByteArray) (pz : Int) (pv : Value) (l : List Par) (nm : ByteArray) (w : World) (hBw : B ≤ w.heap.size) (h : ParS B w pv l) :
    Calls Try.prog 120 #[.agg #[.string pn, .int .i64 pz, pv], .string nm] w fun e w' => ∃ xv, e = .returned (.tuple #[xv, .bool (parOf l nm.data.toList).isSome]) ∧ ParR B w' (parOf l nm.data.toList) xv ∧ Below w.heap.size w w' := by
  have HG := Lib.hid (ParS.get h)
  have HS := Lib.hid (idxF_spec (hasPn nm.data.toList) l)
  have HSP := Lib.hid (show (idxF (hasPn nm.data.toList) l 0 = -1 → parOf l nm.data.toList = none) ∧ ∀ (k : Nat) (h : k < l.length), idxF (hasPn nm.data.toList) l 0 = (k : Int) → parOf l nm.data.toList = some l[k] from by
    rcases HS.out with ⟨h1, h2⟩ | ⟨k, hk, h1, h2⟩
    · exact ⟨fun _ => h2, fun k hk h => by rw [h1] at h; omega⟩
    · refine ⟨fun h => by rw [h1] at h; omega, fun j hj h => ?_⟩
      rw [h1] at h
      have : j = k := by omega
      subst this
      exact h2)
  have HC := Lib.hid (show idxF (hasPn nm.data.toList) l 0 = idxF (hasPn nm.data.toList) (l.drop 0) 0 by simp)
  obtain ⟨po, pcap, rfl⟩ := parS_shape h
  have hm := parS_cap h
  generalize idxF (hasPn nm.data.toList) l 0 = IX at *
  generalize hPO : parOf l nm.data.toList = PO at *
  clear hPO HS h
  go_enter Try.func120, Try.ntmps120
  go_wp2_with fail
  go_loopw [11] (fun i wr => ∃ k : Nat, k ≤ l.length ∧ i = .int .i64 k ∧ Hid (IX = idxF (hasPn nm.data.toList) (l.drop k) k) ∧ Hid (Below (w.heap.size + 1 + 1) ((w.alloc (.cells #[.string pn, .int .i64 pz, .slice po l.length pcap] 137)).alloc (.cells #[.string ⟨#[]⟩, .int .i64 0, .int .i64 0, .int .i64 0, .int .i64 0, .bool false, .slice none 0 0] 147)) wr)) (fun i _ => l.length - (intOf i).toNat)
  case atStart => exact ⟨0, Nat.zero_le _, rfl, HC, Lib.hid (Below.refl _ _)⟩
  case round =>
    obtain ⟨k, hk, rfl, HR, HBW⟩ := hrel
    have hzr := HBW.out.size
    simp only [World.size_alloc] at hzr
    have hBB : Below w.heap.size w wr := (((Below.refl _ _).alloc (Nat.le_refl _) _).alloc (by simp) _).trans (HBW.out.mono (by omega))
    have z0 : wr.cell? ⟨w.heap.size + 1, 0, none⟩ = some (.string ⟨#[]⟩) := (HBW.out.cell (p := ⟨w.heap.size + 1, 0, none⟩) (by simp)).trans (by simp [go_sem])
    have z1 : wr.cell? ⟨w.heap.size + 1, 1, none⟩ = some (.int .i64 0) := (HBW.out.cell (p := ⟨w.heap.size + 1, 1, none⟩) (by simp)).trans (by simp [go_sem])
    have z2 : wr.cell? ⟨w.heap.size + 1, 2, none⟩ = some (.int .i64 0) := (HBW.out.cell (p := ⟨w.heap.size + 1, 2, none⟩) (by simp)).trans (by simp [go_sem])
    have z3 : wr.cell? ⟨w.heap.size + 1, 3, none⟩ = some (.int .i64 0) := (HBW.out.cell (p := ⟨w.heap.size + 1, 3, none⟩) (by simp)).trans (by simp [go_sem])
    have z4 : wr.cell? ⟨w.heap.size + 1, 4, none⟩ = some (.int .i64 0) := (HBW.out.cell (p := ⟨w.heap.size + 1, 4, none⟩) (by simp)).trans (by simp [go_sem])
    have z5 : wr.cell? ⟨w.heap.size + 1, 5, none⟩ = some (.bool false) := (HBW.out.cell (p := ⟨w.heap.size + 1, 5, none⟩) (by simp)).trans (by simp [go_sem])
    have z6 : wr.cell? ⟨w.heap.size + 1, 6, none⟩ = some (.slice none 0 0) := (HBW.out.cell (p := ⟨w.heap.size + 1, 6, none⟩) (by simp)).trans (by simp [go_sem])
    have y0 : wr.frozen? ⟨w.heap.size + 1, 0, none⟩ = false := (HBW.out.frozen (p := ⟨w.heap.size + 1, 0, none⟩) (by simp)).trans (by simp [go_sem])
    have y1 : wr.frozen? ⟨w.heap.size + 1, 1, none⟩ = false := (HBW.out.frozen (p := ⟨w.heap.size + 1, 1, none⟩) (by simp)).trans (by simp [go_sem])
    have y2 : wr.frozen? ⟨w.heap.size + 1, 2, none⟩ = false := (HBW.out.frozen (p := ⟨w.heap.size + 1, 2, none⟩) (by simp)).trans (by simp [go_sem])
    have y3 : wr.frozen? ⟨w.heap.size + 1, 3, none⟩ = false := (HBW.out.frozen (p := ⟨w.heap.size + 1, 3, none⟩) (by simp)).trans (by simp [go_sem])
    have y4 : wr.frozen? ⟨w.heap.size + 1, 4, none⟩ = false := (HBW.out.frozen (p := ⟨w.heap.size + 1, 4, none⟩) (by simp)).trans (by simp [go_sem])
    have y5 : wr.frozen? ⟨w.heap.size + 1, 5, none⟩ = false := (HBW.out.frozen (p := ⟨w.heap.size + 1, 5, none⟩) (by simp)).trans (by simp [go_sem])
    have y6 : wr.frozen? ⟨w.heap.size + 1, 6, none⟩ = false := (HBW.out.frozen (p := ⟨w.heap.size + 1, 6, none⟩) (by simp)).trans (by simp [go_sem])
    have hwr : w.heap.size + 1 < wr.heap.size := by omega
    have KSB := Lib.hid (show ∀ W, Below w.heap.size w W → ∀ u0 u1 u2 u3 u4 u5 u6, Below w.heap.size w (((((((W.setCell ⟨w.heap.size + 1, 0, none⟩ u0).setCell ⟨w.heap.size + 1, 1, none⟩ u1).setCell ⟨w.heap.size + 1, 2, none⟩ u2).setCell ⟨w.heap.size + 1, 3, none⟩ u3).setCell ⟨w.heap.size + 1, 4, none⟩ u4).setCell ⟨w.heap.size + 1, 5, none⟩ u5).setCell ⟨w.heap.size + 1, 6, none⟩ u6) from fun W hW u0 u1 u2 u3 u4 u5 u6 => (((((((hW.setCell (p := ⟨w.heap.size + 1, 0, none⟩) (by simp; try omega) u0).setCell (p := ⟨w.heap.size + 1, 1, none⟩) (by simp; try omega) u1).setCell (p := ⟨w.heap.size + 1, 2, none⟩) (by simp; try omega) u2).setCell (p := ⟨w.heap.size + 1, 3, none⟩) (by simp; try omega) u3).setCell (p := ⟨w.heap.size + 1, 4, none⟩) (by simp; try omega) u4).setCell (p := ⟨w.heap.size + 1, 5, none⟩) (by simp; try omega) u5).setCell (p := ⟨w.heap.size + 1, 6, none⟩) (by simp; try omega) u6))
    by_cases hlt : k < l.length
    · obtain ⟨b, off, cap', hsl, hbb, _, hc⟩ := HG.out (by omega)
      injection hsl with hs1 hs2 hs3
      subst hs1 hs3
      obtain ⟨rv, hrv, hcc⟩ := hc k hlt
      obtain ⟨d0, d1, d2, d3, d4, d5, d6⟩ := hcc wr (hBB.mono hBw)
      have HPV := Lib.hid hrv
      have hbr : b < wr.heap.size := by omega
      have HY := Lib.hid (idxF_yes (hasPn nm.data.toList) l k hlt)
      have HN := Lib.hid (idxF_no (hasPn nm.data.toList) l k hlt)
      have HT := Lib.hid (show hasPn nm.data.toList l[k] = decide (l[k].name.data.toList = nm.data.toList) from rfl)
      have HPS := Lib.hid (HSP.out.2 k hlt)
      obtain ⟨ro, rcap, rfl⟩ := rngS_shape hrv
      have HBB := Lib.hid hBB
      clear hc hcc hrv HSP hBB
      generalize hasPn nm.data.toList l[k] = T at *
      generalize hrk : l[k] = rk at *
      clear hrk
      obtain ⟨xn, xg, xs, xf, xd, xb, xl⟩ := rk
      simp only at *
      by_cases he : xn.data.toList = nm.data.toList
      · have h2 : (xn.toList == nm.toList) = true := by rw [Lib.toList_data, Lib.toList_data]; simpa using he
        have HV := Lib.hid (HPS.out (HR.out.trans (HY.out (by rw [HT.out]; simpa using he))))
        clear he
        go_wp2_with fail
        exact bodyPost_ret (v := .tuple #[.agg #[.string xn, .int .i64 xg, .int .i64 xs, .int .i64 xf, .int .i64 xd, .bool xb, .slice ro xl.length rcap], .bool true]) (by simp [results, Try.results120, go_sem, z0, z1, z2, z3, z4, z5, z6, hwr]) rfl ⟨_, by rw [HV.out] <;> rfl, by rw [HV.out]; exact ⟨_, rfl, HPV.out.below (((KSB.out _ HBB.out _ _ _ _ _ _ _).alloc (by simp; omega) _).mono hBw)⟩, (KSB.out _ HBB.out _ _ _ _ _ _ _).alloc (by simp; omega) _⟩
      · have h2 : (xn.toList == nm.toList) = false := by rw [Lib.toList_data, Lib.toList_data]; simpa using he
        have HV := Lib.hid (HR.out.trans (HN.out (by rw [HT.out]; simpa using he)))
        clear he
        have HBW2 := Lib.hid (HBW.out.alloc (by omega) (.cells #[.string xn, .int .i64 xg, .int .i64 xs, .int .i64 xf, .int .i64 xd, .bool xb, .slice ro xl.length rcap] 147))
        go_wp2_with fail
        go_roundw
        case rel => exact ⟨k + 1, by omega, by go_num, HV, HBW2⟩
        case measure => simp [intOf]; omega
    · have HV := Lib.hid (HSP.out.1 (by rw [HR.out, idxF_end _ l k (by omega)]))
      have HBB := Lib.hid hBB
      clear hBB
      have hkk : k = l.length := by omega
      subst hkk
      go_wp2_with fail
      exact bodyPost_ret (v := .tuple #[.agg #[.string ⟨#[]⟩, .int .i64 0, .int .i64 0, .int .i64 0, .int .i64 0, .bool false, .slice none 0 0], .bool false]) (by simp [results, Try.results120, go_sem, z0, z1, z2, z3, z4, z5, z6]) rfl ⟨_, by rw [HV.out] <;> rfl, by rw [HV.out]; rfl, KSB.out _ HBB.out _ _ _ _ _ _ _⟩
end Go.Proofs.Ytopmdeefcjdadaa

namespace Go.Proofs.Ytopmdeefcjdadaa
open Go.RowKit
set_option linter.unusedVariables false
set_option linter.unusedSimpArgs false

/-- block b of W holds these cells, of this type -/
def TBox (W : World) (b : Nat) (T : TypeId) (cs : Array Value) : Prop := W.heap[b]? = some (.cells cs T)
theorem TBox.new (w : World) (cs : Array Value) (T : TypeId) : TBox (w.alloc (.cells cs T)) w.heap.size T cs := heap_alloc_new w _
theorem TBox.lt {W : World} {b : Nat} {T : TypeId} {cs : Array Value} (h : TBox W b T cs) : b < W.heap.size := by
  unfold TBox at h
  by_cases c : b < W.heap.size
  · exact c
  · rw [Array.getElem?_eq_none (by omega)] at h; cases h
theorem TBox.below {W W' : World} {b : Nat} {T : TypeId} {cs : Array Value} (h : TBox W b T cs) (hb : Below W.heap.size W W') : TBox W' b T cs := (hb.block b h.lt).trans h
theorem TBox.alloc {W : World} {b : Nat} {T : TypeId} {cs : Array Value} (h : TBox W b T cs) (o : Obj) : TBox (W.alloc o) b T cs := h.below ((Below.refl _ _).alloc (Nat.le_refl _) o)
theorem TBox.cell {W : World} {b i : Nat} {T : TypeId} {cs : Array Value} {v : Value} (h : TBox W b T cs) (hi : cs[i]? = some v) : W.cell? ⟨b, i, none⟩ = some v := by
  unfold TBox at h
  simp [World.cell?, h, hi]
theorem TBox.set {W : World} {b : Nat} {T : TypeId} {cs : Array Value} (h : TBox W b T cs) (i : Nat) (v : Value) : TBox (W.setCell ⟨b, i, none⟩ v) b T (cs.setIfInBounds i v) := by
  unfold TBox at *
  exact heap_setCell_same W b i cs T v h
theorem TBox.frozen {W : World} {b : Nat} {T : TypeId} {cs : Array Value} (h : TBox W b T cs) (i : Nat) : W.frozen? ⟨b, i, none⟩ = false := frozen_of_row W b i cs T h
/-- rows of other types grow, or boxes of other types are written: these rows stay -/
def Other (w w' : World) (T' : TypeId) : Prop := ∃ r, w.grownBy w' r ∧ ∀ g, r = some g → ∃ cs fz, w.heap[g]? = some (.cells cs T' fz)
theorem Other.row {w w' : World} {T' : TypeId} {base s n : Nat} {v : Value} {xs : List Value} (h : w.ownsRow base T' s v n xs) (hg : w.grownBy w' v.ownBlock) : Other w w' T' := by
  refine ⟨_, hg, fun g hgg => ?_⟩
  rcases h.2 with ⟨rfl, _⟩ | ⟨g', cap, cur, rfl, _, h1, _⟩
  · simp [Value.ownBlock] at hgg
  · simp [Value.ownBlock] at hgg
    subst hgg
    exact ⟨_, _, h1⟩
theorem Other.box {w : World} {T' : TypeId} {b i : Nat} {cs : Array Value} (h : TBox w b T' cs) (v : Value) : Other w (w.setCell ⟨b, i, none⟩ v) T' :=
  ⟨some b, ⟨rfl, rfl, rfl, by simp, fun k _ hne => heap_setCell_other w ⟨b, i, none⟩ k v (fun e => hne (by simp [e]))⟩, fun g hg => by cases hg; exact ⟨_, _, h⟩⟩
theorem Other.own {w w' : World} {T' : TypeId} (h : Other w w' T') {base s n : Nat} {T : TypeId} {v : Value} {xs : List Value} (ho : w.ownsRow base T s v n xs) (hT : T ≠ T') : w'.ownsRow base T s v n xs := by
  obtain ⟨r, hg, hr⟩ := h
  refine ho.kept hg ?_
  rcases ho.2 with ⟨rfl, _⟩ | ⟨g, cap, cur, rfl, _, h1, _⟩
  · exact .inl rfl
  · refine .inr ?_
    cases r with
    | none => simp [Value.ownBlock]
    | some g' =>
      obtain ⟨cs, fz, h2⟩ := hr g' rfl
      simp only [Value.ownBlock, ne_eq, Option.some.injEq]
      intro e
      subst e
      rw [h1] at h2
      injection h2 with h2
      injection h2 with _ h3
      exact hT h3
theorem Other.tbox {w w' : World} {T' T : TypeId} (h : Other w w' T') {b : Nat} {cs : Array Value} (ho : TBox w b T cs) (hT : T ≠ T') : TBox w' b T cs := by
  obtain ⟨r, hg, hr⟩ := h
  refine (hg.block b ho.lt ?_).trans ho
  intro e
  obtain ⟨cs', fz, h2⟩ := hr b e.symm
  unfold TBox at ho
  rw [ho] at h2
  injection h2 with h2
  injection h2 with _ h3
  exact hT h3
theorem Other.size {w w' : World} {T' : TypeId} (h : Other w w' T') : w.heap.size ≤ w'.heap.size := by
  obtain ⟨r, hg, _⟩ := h
  exact hg.size
theorem Other.refl (w : World) (T : TypeId) : Other w w T := ⟨none, ⟨rfl, rfl, rfl, Nat.le_refl _, fun _ _ _ => rfl⟩, by simp⟩
theorem TBox.setOther {W : World} {b b' i : Nat} {T : TypeId} {cs : Array Value} (h : TBox W b T cs) (hb : b ≠ b') (v : Value) : TBox (W.setCell ⟨b', i, none⟩ v) b T cs := (Below.heap_setCell W ⟨b', i, none⟩ v b (by simpa using hb)).trans h
end Go.Proofs.Ytopmdeefcjdadaa

namespace Go.Proofs.Ytopmdeefcjdadaa
open Go.ChangeShapes Go.WideShapes Go.RowKit Go.Deep
set_option linter.unusedSimpArgs false
set_option linter.unusedVariables false

/-- a setting: a unit, a parameter, a level -/
structure Stg where
  unit : Int
  par : ByteArray
  lv : Int
instance : Inhabited Stg := ⟨⟨0, ByteArray.empty, 0⟩⟩
def stgC (s : Stg) : List Value := [.int .i64 s.unit, .string s.par, .int .i64 s.lv]
def StgS (B : Nat) (w : World) (v : Value) (l : List Stg) : Prop := CellsS B w v l.length (l.flatMap stgC)
def StgFit (s : Stg) : Prop := I64 s.unit ∧ s.par.size ≤ maxLen ∧ I64 s.lv
theorem StgS.below {B : Nat} {w w' : World} {v : Value} {l : List Stg} (h : StgS B w v l) (hb : Below B w w') : StgS B w' v l := CellsS.below h hb
theorem StgS.more {B B' : Nat} {w : World} {v : Value} {l : List Stg} (h : StgS B w v l) (hB : B ≤ B') : StgS B' w v l := CellsS.more h hB
theorem StgS.get {B : Nat} {w : World} {v : Value} {l : List Stg} (h : StgS B w v l) (hl : 0 < l.length) :
    ∃ b off cap, v = .slice (some ⟨b, off, none⟩) l.length cap ∧ b < B ∧ l.length ≤ maxLen ∧ ∀ k (hk : k < l.length) (W : World), Below B w W →
      W.cell? ⟨b, off + k * 3, none⟩ = some (.int .i64 l[k].unit) ∧ W.cell? ⟨b, off + k * 3 + 1, none⟩ = some (.string l[k].par) ∧ W.cell? ⟨b, off + k * 3 + 2, none⟩ = some (.int .i64 l[k].lv) := by
  obtain ⟨b, off, cap, rfl, h1, h2, h3⟩ := CellsS.rec h (n := 3) (fun _ => rfl) hl
  refine ⟨b, off, cap, rfl, h1, h2, fun k hk W hW => ?_⟩
  exact ⟨(hW.cell (p := ⟨b, off + k * 3, none⟩) h1).trans (h3 k hk 0 _ (by omega) rfl), (hW.cell (p := ⟨b, off + k * 3 + 1, none⟩) h1).trans (h3 k hk 1 _ (by omega) rfl), (hW.cell (p := ⟨b, off + k * 3 + 2, none⟩) h1).trans (h3 k hk 2 _ (by omega) rfl)⟩

section
variable {H : Type} {enc : TypeId × Value → H} {w : World} {held : Bool}
set_option maxRecDepth 100000 in
theorem read_keyC {fuel : Nat} {cs : List Value} {x : DataW H × List MemPlace} (h : DataW.trod enc Try.prog w 0 (fun _ => true) held fuel 47 cs = some x) :
    ∃ (n : Int) (s : ByteArray), cs = [.int .i64 n, .string s] ∧ I64 n ∧ s.size ≤ maxLen := by
  have hc : Try.prog.cellsOf 47 = 2 := by kernel_rfl
  obtain ⟨hl, n, hf⟩ := open_fields1 Try.underlying47 (by kernel_rfl) hc h
  obtain ⟨u0, u1, rfl⟩ := list2 hl
  obtain ⟨x0, y0, q0, k0⟩ := hf 0 _ rfl
  obtain ⟨x1, y1, q1, k1⟩ := hf 1 _ rfl
  simp at q0 q1
  subst q0 q1
  obtain ⟨a0, rfl, w0⟩ := field_int Try.underlying3 k0
  obtain ⟨a1, rfl, w1⟩ := field_string Try.underlying9 k1
  exact ⟨a0, a1, rfl, i64_of_wf w0, w1⟩
theorem fxInt_ : Try.prog.cellsOf 3 = 1 := by kernel_rfl
theorem fxKey_ : Try.prog.cellsOf 47 = 2 := by kernel_rfl
set_option maxRecDepth 100000 in
theorem read_setting {fuel : Nat} {cs : List Value} {x : DataW H × List MemPlace} (h : DataW.trod enc Try.prog w 0 (fun _ => true) held fuel 49 cs = some x) :
    ∃ y : Stg, cs = stgC y ∧ StgFit y := by
  have hc : Try.prog.cellsOf 49 = 3 := by kernel_rfl
  obtain ⟨hl, n, hf⟩ := open_fields Try.underlying49 h
  rw [hc] at hl
  obtain ⟨u0, u1, u2, rfl⟩ := list3' hl
  obtain ⟨y0, k0⟩ := hf 0 _ rfl
  obtain ⟨y1, k1⟩ := hf 1 _ rfl
  simp only [List.getElem_toArray, List.getElem_cons_zero, List.getElem_cons_succ, fxInt_, fxKey_, List.drop_zero, List.drop_succ_cons, List.take_succ_cons, List.take_zero] at k0 k1
  obtain ⟨a0, a1, e, f0, f1⟩ := read_keyC k0
  simp at e
  obtain ⟨rfl, rfl⟩ := e
  obtain ⟨a2, rfl, w2⟩ := field_int Try.underlying3 k1
  exact ⟨⟨a0, a1, a2⟩, rfl, f0, f1, i64_of_wf w2⟩
/-- settings as an argument -/
def StgW (w : World) (v : Value) : Prop := ∃ l : List Stg, StgS w.heap.size w v l ∧ ∀ p ∈ l, StgFit p
set_option maxRecDepth 100000 in
theorem open_settings {r : Reach} {b0 : Nat} {v : Value} {d : DataW H} {p : List MemPlace} (hv : Value.okWide Try.prog w r b0 43 v) (h : DataW.Trod enc Try.prog w 0 (fun _ => true) held 43 v d p) :
    ∃ a : Value, v = a ∧ StgW w a := by
  obtain ⟨ao, len, cap, rfl⟩ := okWide_slice Try.underlying43 hv
  obtain ⟨fuel, hf⟩ := h
  obtain ⟨v, l, e, hl⟩ := read_rows (n := 3) stgC StgFit (fun _ => rfl) (by omega) Try.underlying43 (by kernel_rfl) (fun _ _ _ h => read_setting h) hf
  simp [Value.cells] at e
  subst e
  exact ⟨_, rfl, l, hl⟩
end
end Go.Proofs.Ytopmdeefcjdadaa
