/- The reference's Room. (printed by wip/gen/gen_roomtop.py) Functions that take a rig and give a rig: their box of the argument and that of the result. The searches of fixture.carried. (printed by wip/gen/gen_carried.py) -/
import Derived.Test.YtabalicembhjmaaT33M24
import Derived.Test.YtabalicembhjmaaT33M21
import Derived.Test.YtabalicembhjmaaT33M22
import Derived.Test.YtabalicembhjmaaT33M16
import Derived.Test.YtabalicembhjmaaT33M18

namespace Go.Proofs.Ytabalicembhjmaa
open Go.RowKit
set_option linter.unusedVariables false
set_option linter.unusedSimpArgs false

set_option maxRecDepth 100000 in
set_option maxHeartbeats 4000000 in
theorem rroomTop_any (x : Rig) (lv uv : Value) (s : Int) (w : World) (h : RigAt w.heap.size w x lv uv) (hf : RigFit x) :
    Calls Try.prog 25 #[rigV lv uv, .int .i64 s] w fun e w' => e = .returned (roomT x s) ∧ Below w.heap.size w w' := by
  have CC := Lib.hid (fun W (hb : Below w.heap.size w W) => rckRig_any x lv uv W ((h.below hb).more hb.size) hf)
  have CT := Lib.hid (fun (hx : chkRig x = 0) (h3 : 1 ≤ s) (h4 : s ≤ 512) W (hb : Below w.heap.size w W) => rroom_any x lv uv s 0 W ((h.below hb).more hb.size) hx h3 h4)
  obtain ⟨uo, ucap, rfl, _⟩ := CellsS.shape h.units
  obtain ⟨lo, lcap, rfl⟩ := prfS_shape h.lib
  unfold rigV at *
  clear h hf
  have HR1 := Lib.hid (@roomT_bad x s)
  have HR2 := Lib.hid (@roomT_range x s)
  have HR3 := Lib.hid (fun (h : chkRig x = 0) (k : inR s 1 512 = true) (hr : roomO (usBut x 0) s = none) => roomT_none h k hr)
  have HR4 := Lib.hid (fun (n a : Int) (h : chkRig x = 0) (k : inR s 1 512 = true) (hr : roomO (usBut x 0) s = some (n, a)) => roomT_some h k hr)
  generalize roomT x s = RES at *
  have KC := Lib.hid (show ∀ W, Below (w.heap.size + 1) (w.alloc (.cells #[.slice lo x.lib.length lcap, .slice uo x.units.length ucap] 25)) W → (Below w.heap.size w W ∧ w.heap.size < W.heap.size ∧ W.cell? ⟨w.heap.size, 0, none⟩ = some (.slice lo x.lib.length lcap) ∧ W.cell? ⟨w.heap.size, 1, none⟩ = some (.slice uo x.units.length ucap)) from fun W hW => by
    have hz := hW.size
    simp at hz
    exact ⟨((Below.refl _ _).alloc (Nat.le_refl _) _).trans (hW.mono (by omega)), by omega, (hW.cell (p := ⟨w.heap.size, 0, none⟩) (by simp)).trans (by simp [go_sem]), (hW.cell (p := ⟨w.heap.size, 1, none⟩) (by simp)).trans (by simp [go_sem])⟩)
  have KM := Lib.hid (show ∀ W W1, Below (w.heap.size + 1) (w.alloc (.cells #[.slice lo x.lib.length lcap, .slice uo x.units.length ucap] 25)) W → Below W.heap.size W W1 → Below (w.heap.size + 1) (w.alloc (.cells #[.slice lo x.lib.length lcap, .slice uo x.units.length ucap] 25)) W1 from fun W W1 h1 h2 => h1.trans (h2.mono (by have := h1.size; simp at this; omega)))
  have KA := Lib.hid (show ∀ W o, Below (w.heap.size + 1) (w.alloc (.cells #[.slice lo x.lib.length lcap, .slice uo x.units.length ucap] 25)) W → Below (w.heap.size + 1) (w.alloc (.cells #[.slice lo x.lib.length lcap, .slice uo x.units.length ucap] 25)) (W.alloc o) from fun W o h => h.alloc (by have := h.size; simp at this; omega) o)
  have HB0 := Lib.hid (Below.refl (w.heap.size + 1) (w.alloc (.cells #[.slice lo x.lib.length lcap, .slice uo x.units.length ucap] 25)))
  have C1 := Lib.hid (CC.out _ (KC.out _ HB0.out).1)
  clear CC
  go_enter Try.func25, Try.ntmps25
  go_wp2_with fail
  refine C1.out.mono ?_
  rintro e w1 ⟨rfl, hb⟩
  have HB1 := Lib.hid (KM.out _ _ HB0.out hb)
  clear hb C1
  obtain ⟨hB, hz, p0, p1⟩ := KC.out _ HB1.out
  have HBB := Lib.hid hB
  by_cases hE : chkRig x = 0
  rotate_left
  · have HV := Lib.hid (show RES = .tuple #[.int .i64 0, .int .i64 0, .int .i64 (chkRig x)] from HR1.out hE)
    clear hB
    generalize chkRig x = E at *
    go_wp2_with fail
    exact bodyPost_ret (v := .tuple #[.int .i64 0, .int .i64 0, .int .i64 E]) (by simp [results, Try.results25, go_sem]) rfl ⟨by rw [HV.out], HBB.out⟩
  rw [hE]
  rcases Bool.eq_false_or_eq_true (inR s 1 512) with k0 | k0
  rotate_left
  · have HV := Lib.hid (show RES = .tuple #[.int .i64 0, .int .i64 0, .int .i64 1] from HR2.out hE k0)
    clear hB
    go_wp2_with (first | (go_at_call 33; ((with_reducible refine (rwithin_R _ _ _ _).mono ?_); rintro e w' ⟨rfl, rfl⟩)) | fail)
    exact bodyPost_ret (v := .tuple #[.int .i64 0, .int .i64 0, .int .i64 1]) (by simp [results, Try.results25, go_sem]) rfl ⟨by rw [HV.out], HBB.out⟩
  have HR5 := Lib.hid (HR3.out hE k0)
  have HR6 := Lib.hid (fun n a => HR4.out n a hE k0)
  obtain ⟨j1, j2⟩ := inR_true k0
  have CR := Lib.hid (CT.out hE j1 j2 _ hB)
  clear hB CT hE HR1 HR2 HR3 HR4
  generalize roomO (usBut x 0) s = RO at *
  cases RO with
  | none =>
    have HV := Lib.hid (HR5.out rfl)
    have CR0 := Lib.hid (show Calls Try.prog 54 _ w1 fun e w' => e = .returned (.tuple #[.int .i64 0, .int .i64 0, .bool false]) ∧ Below w1.heap.size w1 w' from CR.out)
    clear CR HR5 HR6
    go_wp2_with (first | (go_at_call 33; ((with_reducible refine (rwithin_R _ _ _ _).mono ?_); rintro e w' ⟨rfl, rfl⟩)) | fail)
    refine CR0.out.mono ?_
    rintro e w' ⟨rfl, hb⟩
    have HB3 := Lib.hid (HBB.out.trans (hb.mono HBB.out.size))
    clear CR0 hb
    go_wp2_with fail
    exact bodyPost_ret (v := .tuple #[.int .i64 0, .int .i64 0, .int .i64 13]) (by simp [results, Try.results25, go_sem]) rfl ⟨by rw [HV.out], HB3.out⟩
  | some r =>
    obtain ⟨n, a⟩ := r
    have HV := Lib.hid (HR6.out n a rfl)
    have CR0 := Lib.hid (show Calls Try.prog 54 _ w1 fun e w' => e = .returned (.tuple #[.int .i64 n, .int .i64 a, .bool true]) ∧ Below w1.heap.size w1 w' from CR.out)
    clear CR HR5 HR6
    go_wp2_with (first | (go_at_call 33; ((with_reducible refine (rwithin_R _ _ _ _).mono ?_); rintro e w' ⟨rfl, rfl⟩)) | fail)
    refine CR0.out.mono ?_
    rintro e w' ⟨rfl, hb⟩
    have HB3 := Lib.hid (HBB.out.trans (hb.mono HBB.out.size))
    clear CR0 hb
    go_wp2_with fail
    exact bodyPost_ret (v := .tuple #[.int .i64 n, .int .i64 a, .int .i64 0]) (by simp [results, Try.results25, go_sem]) rfl ⟨by rw [HV.out], HB3.out⟩
end Go.Proofs.Ytabalicembhjmaa

namespace Go.Proofs.Ytabalicembhjmaa
open Go.RowKit
set_option linter.unusedVariables false
set_option linter.unusedSimpArgs false

def RigBox (w : World) (lv uv : Value) (W : World) : Prop := Below (w.heap.size + 2) ((w.alloc (.cells #[lv, uv] 25)).alloc (.cells #[.slice none 0 0, .slice none 0 0] 25)) W
theorem RigBox.start (w : World) (lv uv : Value) : RigBox w lv uv ((w.alloc (.cells #[lv, uv] 25)).alloc (.cells #[.slice none 0 0, .slice none 0 0] 25)) := Below.refl _ _
theorem RigBox.size {w W : World} {lv uv : Value} (h : RigBox w lv uv W) : w.heap.size + 2 ≤ W.heap.size := by
  have := Below.size h
  simp at this
  omega
theorem RigBox.bel {w W : World} {lv uv : Value} (h : RigBox w lv uv W) : Below w.heap.size w W := (((Below.refl _ _).alloc (Nat.le_refl _) _).alloc (by simp) _).trans (Below.mono h (by omega))
theorem RigBox.next {w W W1 : World} {lv uv : Value} (h : RigBox w lv uv W) (hb : Below W.heap.size W W1) : RigBox w lv uv W1 := Below.trans h (hb.mono h.size)
theorem RigBox.alloc {w W : World} {lv uv : Value} (h : RigBox w lv uv W) (o : Obj) : RigBox w lv uv (W.alloc o) := Below.alloc h h.size o
theorem RigBox.drew {w W : World} {lv uv : Value} (h : RigBox w lv uv W) : RigBox w lv uv W.drew := Below.drew h
theorem RigBox.grown {w W W1 : World} {lv uv : Value} (h : RigBox w lv uv W) {base s n : Nat} {T : TypeId} {v : Value} {xs : List Value} (ho : W.ownsRow base T s v n xs) (hg : W.grownBy W1 v.ownBlock) (hb : w.heap.size + 2 ≤ base) : RigBox w lv uv W1 :=
  Below.grown h hg h.size (fun k hk => by have := (World.ownsRow.lt ho k hk).1; omega)
theorem RigBox.set {w W : World} {lv uv : Value} (h : RigBox w lv uv W) {b : Nat} (hb : w.heap.size + 2 ≤ b) (i : Nat) (u : Value) : RigBox w lv uv (W.setCell ⟨b, i, none⟩ u) := Below.setCell h (p := ⟨b, i, none⟩) hb u
theorem RigBox.par {w W : World} {lv uv : Value} (h : RigBox w lv uv W) : TBox W w.heap.size 25 #[lv, uv] :=
  (Below.block h w.heap.size (by omega)).trans ((TBox.new w #[lv, uv] 25).alloc _)
theorem RigBox.res {w W : World} {lv uv : Value} (h : RigBox w lv uv W) : TBox W (w.heap.size + 1) 25 #[.slice none 0 0, .slice none 0 0] := by
  have h1 := TBox.new (w.alloc (.cells #[lv, uv] 25)) #[.slice none 0 0, .slice none 0 0] 25
  simp only [World.size_alloc] at h1
  exact (Below.block h (w.heap.size + 1) (by omega)).trans h1
theorem RigBox.done {w W : World} {lv uv : Value} (h : RigBox w lv uv W) (a b : Value) : Below w.heap.size w ((W.setCell ⟨w.heap.size + 1, 0, none⟩ a).setCell ⟨w.heap.size + 1, 1, none⟩ b) :=
  (h.bel.setCell (p := ⟨w.heap.size + 1, 0, none⟩) (by simp) a).setCell (p := ⟨w.heap.size + 1, 1, none⟩) (by simp) b
theorem noRig_at (B : Nat) (w : World) : RigAt B w noRig (.slice none 0 0) (.slice none 0 0) := ⟨⟨[], rfl, CellsS.nil _ _, by simp⟩, CellsS.nil _ _⟩
/-- own rows behind the store of a result -/
theorem OwnU.res {W : World} {rb base : Nat} {cs : Array Value} {v : Value} {l : List Unt} (h : OwnU base W v l) (hr : TBox W rb 25 cs) (a b : Value) : OwnU base ((W.setCell ⟨rb, 0, none⟩ a).setCell ⟨rb, 1, none⟩ b) v l :=
  (h.other (Other.box hr a) (by decide)).other (Other.box (hr.set 0 a) b) (by decide)
theorem OwnL.res {W : World} {rb base : Nat} {cs : Array Value} {v : Value} {l : List Prf} (h : OwnL base W v l) (hr : TBox W rb 25 cs) (a b : Value) : OwnL base ((W.setCell ⟨rb, 0, none⟩ a).setCell ⟨rb, 1, none⟩ b) v l :=
  (h.other (Other.box hr a) (by decide) (by decide) (by decide)).other (Other.box (hr.set 0 a) b) (by decide) (by decide) (by decide)
theorem rig_sizes {x : Rig} (h : chkRig x = 0) : (x.lib.length ≤ 60 ∧ ∀ p ∈ x.lib, p.pars.length ≤ 40 ∧ ∀ q ∈ p.pars, q.rngs.length ≤ 30) ∧ x.units.length ≤ 1000 := by
  obtain ⟨h1, h2, _⟩ := chkRig_zero h
  exact ⟨lib_sizes h1, by omega⟩
theorem has_pos {x : Rig} (h : chkRig x = 0) {n : Int} (hn : hasU x.units n = true) : posU x.units n < x.units.length ∧ 1 ≤ n ∧ n ≤ 9999 := by
  obtain ⟨hp, he⟩ := (hasU_at (asc_units h) n).1 hn
  have := num_range h (List.getElem_mem hp)
  rw [he] at this
  exact ⟨hp, this⟩
/-! ### what lies in blocks from B on stays while those do -/
theorem own_agree {w W : World} {base s n : Nat} {T : TypeId} {v : Value} {xs : List Value} (h : w.ownsRow base T s v n xs) (hk : ∀ k, base ≤ k → k < w.heap.size → W.heap[k]? = w.heap[k]?) : W.ownsRow base T s v n xs := by
  refine ⟨h.1, ?_⟩
  rcases h.2 with h' | ⟨g, cap, cur, e1, h1, h2, h3⟩
  · exact .inl h'
  · exact .inr ⟨g, cap, cur, e1, h1, (hk g h1 (Array.getElem?_eq_some_iff.1 h2).1).trans h2, h3⟩
theorem OwnU.agree {w W : World} {base : Nat} {v : Value} {l : List Unt} (h : OwnU base w v l) (hk : ∀ k, base ≤ k → k < w.heap.size → W.heap[k]? = w.heap[k]?) : OwnU base W v l := own_agree h hk
theorem OwnP.agree {w W : World} {base : Nat} {v : Value} {l : List Par} (h : OwnP base w v l) (hk : ∀ k, base ≤ k → k < w.heap.size → W.heap[k]? = w.heap[k]?) : OwnP base W v l := by
  obtain ⟨lv, h1, h2, h3⟩ := h
  exact ⟨lv, h1, own_agree h2 hk, fun y hy => own_agree (h3 y hy) hk⟩
theorem OwnL.agree {w W : World} {base : Nat} {v : Value} {l : List Prf} (h : OwnL base w v l) (hk : ∀ k, base ≤ k → k < w.heap.size → W.heap[k]? = w.heap[k]?) : OwnL base W v l := by
  obtain ⟨lv, h1, h2, h3⟩ := h
  exact ⟨lv, h1, own_agree h2 hk, fun y hy => (h3 y hy).agree hk⟩
/-- a rig that lies in blocks below B0 and from B on -/
def RigNew (B0 B : Nat) (w : World) (x : Rig) (lv uv : Value) : Prop := ∀ W, Below B0 w W → (∀ k, B ≤ k → k < w.heap.size → W.heap[k]? = w.heap[k]?) → RigAt W.heap.size W x lv uv
theorem RigNew.at {B0 B : Nat} {w : World} {x : Rig} {lv uv : Value} (h : RigNew B0 B w x lv uv) : RigAt w.heap.size w x lv uv := h w (Below.refl _ _) (fun _ _ _ => rfl)
end Go.Proofs.Ytabalicembhjmaa

namespace Go.Proofs.Ytabalicembhjmaa
open Go.RowKit
set_option linter.unusedVariables false
set_option linter.unusedSimpArgs false
def carFn1 (tb : Nat) : Value := .func (.func 80) #[] #[.pointer (some ⟨tb, 0, none⟩)]
theorem carFn1_call (args : Array Value) (W : World) : Sem.run Try.prog (callFunc 80 args) W = .ok (.enter 80 args) W := by simp [go_sem]
set_option maxHeartbeats 400000 in
theorem carFn1_any (xl xh : Int) (xn : ByteArray) (n : Int) (tb : Nat) (w : World) (ht : w.cell? ⟨tb, 0, none⟩ = some (.int .i64 n)) (hb : tb < w.heap.size) :
    Calls Try.prog 80 #[.agg #[.int .i64 xl, .int .i64 xh, .string xn], .pointer (some ⟨tb, 0, none⟩)] w fun e w' => e = .returned (.bool (decide (xl ≤ n ∧ n ≤ xh))) ∧ Below w.heap.size w w' := by
  by_cases h1 : xl ≤ n
  · have d1 : decide (xl ≤ n) = true := by simpa using h1
    by_cases h2 : n ≤ xh
    · have d2 : decide (n ≤ xh) = true := by simpa using h2
      have HV := Lib.hid (show decide (xl ≤ n ∧ n ≤ xh) = true by simp [h1, h2])
      clear h1 h2
      go_enter Try.func80, Try.ntmps80
      go_wp2
      go_ret
      exact ⟨by first | rfl | (rw [HV.out] <;> rfl), (Below.refl _ _).alloc (Nat.le_refl _) _⟩
    · have d2 : decide (n ≤ xh) = false := by simpa using h2
      have HV := Lib.hid (show decide (xl ≤ n ∧ n ≤ xh) = false by simp [h2])
      clear h1
      go_enter Try.func80, Try.ntmps80
      go_wp2
      go_ret
      exact ⟨by first | rfl | (rw [HV.out] <;> rfl), (Below.refl _ _).alloc (Nat.le_refl _) _⟩
  · have d1 : decide (xl ≤ n) = false := by simpa using h1
    have HV := Lib.hid (show decide (xl ≤ n ∧ n ≤ xh) = false by simp [h1])
    go_enter Try.func80, Try.ntmps80
    go_wp2
    go_ret
    exact ⟨by first | rfl | (rw [HV.out] <;> rfl), (Below.refl _ _).alloc (Nat.le_refl _) _⟩
set_option maxRecDepth 100000 in
set_option maxHeartbeats 4000000 in
theorem car_index1 (v : Value) (l : List Rng) (n : Int) (tb : Nat) (w : World) (h : RngS w.heap.size w v l) (ht : w.cell? ⟨tb, 0, none⟩ = some (.int .i64 n)) (hb : tb < w.heap.size) :
    Calls Try.prog 79 #[v, carFn1 tb] w fun e w' => e = .returned (.int .i64 (idxF (holds n) l 0)) ∧ Below w.heap.size w w' := by
  have HG := Lib.hid (RngS.get h)
  have hm := CellsS.len h
  unfold maxLen at hm
  obtain ⟨ao, cap, rfl⟩ := rngS_shape h
  clear h
  have CF := Lib.hid (fun (xl xh : Int) (xn : ByteArray) W (hB : Below w.heap.size w W) => carFn1_any xl xh xn n tb W ((hB.cell (p := ⟨tb, 0, none⟩) hb).trans ht) (Nat.lt_of_lt_of_le hb hB.size))
  have hcf := carFn1_call
  have HC := Lib.hid (show idxF (holds n) l 0 = idxF (holds n) (l.drop 0) 0 by simp)
  generalize idxF (holds n) l 0 = RES at *
  clear ht
  unfold carFn1
  go_enter Try.func79, Try.ntmps79
  go_wp2_with fail
  go_loopw [8] (fun i wr => ∃ k : Nat, k ≤ l.length ∧ i = .int .i64 k ∧ Hid (RES = idxF (holds n) (l.drop k) k) ∧ Hid (Below w.heap.size w wr)) (fun i _ => l.length - (intOf i).toNat)
  case atStart => exact ⟨0, Nat.zero_le _, rfl, HC, Lib.hid (Below.refl _ _)⟩
  case round =>
    obtain ⟨k, hk, rfl, HR, HBW⟩ := hrel
    by_cases hlt : k < l.length
    · obtain ⟨b, off, cap', hsl, hbb, _, hc⟩ := HG.out (by omega)
      injection hsl with hs1 hs2 hs3
      subst hs1 hs3
      obtain ⟨d0, d1, d2⟩ := hc k hlt wr HBW.out
      have hbr : b < wr.heap.size := by have := HBW.out.size; omega
      have HY := Lib.hid (idxF_yes (holds n) l k hlt)
      have HN := Lib.hid (idxF_no (holds n) l k hlt)
      have HT := Lib.hid (show holds n l[k] = decide (l[k].low ≤ n ∧ n ≤ l[k].high) from rfl)
      clear hc
      generalize holds n l[k] = T at *
      generalize hrk : l[k] = rk at *
      clear hrk
      obtain ⟨xl, xh, xn⟩ := rk
      simp only at *
      have CX := Lib.hid (CF.out xl xh xn _ HBW.out)
      rw [← HT.out] at CX
      cases T
      · have HV := Lib.hid (HR.out.trans (HN.out rfl))
        go_wp2_with fail
        refine CX.out.mono ?_
        rintro e w1 ⟨rfl, hb1⟩
        have HB2 := Lib.hid (HBW.out.trans (hb1.mono HBW.out.size))
        clear hb1
        go_wp2_with fail
        go_roundw
        case rel => exact ⟨k + 1, by omega, by go_num, HV, HB2⟩
        case measure => simp [intOf]; omega
      · have HV := Lib.hid (HR.out.trans (HY.out rfl))
        go_wp2_with fail
        refine CX.out.mono ?_
        rintro e w1 ⟨rfl, hb1⟩
        have HB2 := Lib.hid (HBW.out.trans (hb1.mono HBW.out.size))
        clear hb1
        go_wp2_with fail
        go_ret
        exact ⟨by rw [HV.out] <;> rfl, HB2.out⟩
    · have HV := Lib.hid (show RES = -1 by rw [HR.out, idxF_end _ l k (by omega)])
      have hkk : k = l.length := by omega
      subst hkk
      go_wp2_with fail
      go_ret
      exact ⟨by rw [HV.out] <;> rfl, HBW.out⟩
def carFn2 (tb : Nat) : Value := .func (.func 81) #[] #[.pointer (some ⟨tb, 0, none⟩)]
theorem carFn2_call (args : Array Value) (W : World) : Sem.run Try.prog (callFunc 81 args) W = .ok (.enter 81 args) W := by simp [go_sem]
set_option maxHeartbeats 400000 in
theorem carFn2_any (xl xh : Int) (xn : ByteArray) (nm : ByteArray) (tb : Nat) (w : World) (ht : w.cell? ⟨tb, 2, none⟩ = some (.string nm)) (hb : tb < w.heap.size) :
    Calls Try.prog 81 #[.agg #[.int .i64 xl, .int .i64 xh, .string xn], .pointer (some ⟨tb, 0, none⟩)] w fun e w' => e = .returned (.bool (decide (xn.data.toList = nm.data.toList))) ∧ Below w.heap.size w w' := by
  by_cases hc : xn.data.toList = nm.data.toList
  · have h2 : (xn.toList == nm.toList) = true := by rw [Lib.toList_data, Lib.toList_data]; simpa using hc
    have HV := Lib.hid (show decide (xn.data.toList = nm.data.toList) = true by simpa using hc)
    clear hc
    go_enter Try.func81, Try.ntmps81
    go_wp2
    go_ret
    exact ⟨by first | rfl | (rw [HV.out] <;> rfl), (Below.refl _ _).alloc (Nat.le_refl _) _⟩
  · have h2 : (xn.toList == nm.toList) = false := by rw [Lib.toList_data, Lib.toList_data]; simpa using hc
    have HV := Lib.hid (show decide (xn.data.toList = nm.data.toList) = false by simpa using hc)
    go_enter Try.func81, Try.ntmps81
    go_wp2
    go_ret
    exact ⟨by first | rfl | (rw [HV.out] <;> rfl), (Below.refl _ _).alloc (Nat.le_refl _) _⟩
set_option maxRecDepth 100000 in
set_option maxHeartbeats 4000000 in
theorem car_index2 (v : Value) (l : List Rng) (nm : ByteArray) (tb : Nat) (w : World) (h : RngS w.heap.size w v l) (ht : w.cell? ⟨tb, 2, none⟩ = some (.string nm)) (hb : tb < w.heap.size) :
    Calls Try.prog 79 #[v, carFn2 tb] w fun e w' => e = .returned (.int .i64 (idxF (hasRn nm.data.toList) l 0)) ∧ Below w.heap.size w w' := by
  have HG := Lib.hid (RngS.get h)
  have hm := CellsS.len h
  unfold maxLen at hm
  obtain ⟨ao, cap, rfl⟩ := rngS_shape h
  clear h
  have CF := Lib.hid (fun (xl xh : Int) (xn : ByteArray) W (hB : Below w.heap.size w W) => carFn2_any xl xh xn nm tb W ((hB.cell (p := ⟨tb, 2, none⟩) hb).trans ht) (Nat.lt_of_lt_of_le hb hB.size))
  have hcf := carFn2_call
  have HC := Lib.hid (show idxF (hasRn nm.data.toList) l 0 = idxF (hasRn nm.data.toList) (l.drop 0) 0 by simp)
  generalize idxF (hasRn nm.data.toList) l 0 = RES at *
  clear ht
  unfold carFn2
  go_enter Try.func79, Try.ntmps79
  go_wp2_with fail
  go_loopw [8] (fun i wr => ∃ k : Nat, k ≤ l.length ∧ i = .int .i64 k ∧ Hid (RES = idxF (hasRn nm.data.toList) (l.drop k) k) ∧ Hid (Below w.heap.size w wr)) (fun i _ => l.length - (intOf i).toNat)
  case atStart => exact ⟨0, Nat.zero_le _, rfl, HC, Lib.hid (Below.refl _ _)⟩
  case round =>
    obtain ⟨k, hk, rfl, HR, HBW⟩ := hrel
    by_cases hlt : k < l.length
    · obtain ⟨b, off, cap', hsl, hbb, _, hc⟩ := HG.out (by omega)
      injection hsl with hs1 hs2 hs3
      subst hs1 hs3
      obtain ⟨d0, d1, d2⟩ := hc k hlt wr HBW.out
      have hbr : b < wr.heap.size := by have := HBW.out.size; omega
      have HY := Lib.hid (idxF_yes (hasRn nm.data.toList) l k hlt)
      have HN := Lib.hid (idxF_no (hasRn nm.data.toList) l k hlt)
      have HT := Lib.hid (show hasRn nm.data.toList l[k] = decide (l[k].name.data.toList = nm.data.toList) from rfl)
      clear hc
      generalize hasRn nm.data.toList l[k] = T at *
      generalize hrk : l[k] = rk at *
      clear hrk
      obtain ⟨xl, xh, xn⟩ := rk
      simp only at *
      have CX := Lib.hid (CF.out xl xh xn _ HBW.out)
      rw [← HT.out] at CX
      cases T
      · have HV := Lib.hid (HR.out.trans (HN.out rfl))
        go_wp2_with fail
        refine CX.out.mono ?_
        rintro e w1 ⟨rfl, hb1⟩
        have HB2 := Lib.hid (HBW.out.trans (hb1.mono HBW.out.size))
        clear hb1
        go_wp2_with fail
        go_roundw
        case rel => exact ⟨k + 1, by omega, by go_num, HV, HB2⟩
        case measure => simp [intOf]; omega
      · have HV := Lib.hid (HR.out.trans (HY.out rfl))
        go_wp2_with fail
        refine CX.out.mono ?_
        rintro e w1 ⟨rfl, hb1⟩
        have HB2 := Lib.hid (HBW.out.trans (hb1.mono HBW.out.size))
        clear hb1
        go_wp2_with fail
        go_ret
        exact ⟨by rw [HV.out] <;> rfl, HB2.out⟩
    · have HV := Lib.hid (show RES = -1 by rw [HR.out, idxF_end _ l k (by omega)])
      have hkk : k = l.length := by omega
      subst hkk
      go_wp2_with fail
      go_ret
      exact ⟨by rw [HV.out] <;> rfl, HBW.out⟩
end Go.Proofs.Ytabalicembhjmaa
