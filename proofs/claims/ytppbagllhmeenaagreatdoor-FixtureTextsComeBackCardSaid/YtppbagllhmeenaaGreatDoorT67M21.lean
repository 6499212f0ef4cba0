/- Boxes known by their block and type; what changes rows and boxes of one type leaves those of others. No program in it. (*strings.Builder).WriteString (walks after the kit's; the shelf's own do not fit where copyCheck's panic is cut off). fixture.CheckLibrary. (printed by wip/gen/gen_ckprf.py) -/
import Derived.Test.YtppbagllhmeenaaGreatDoorT67M06
import Derived.Laws.AppendOwn
import Derived.Test.YtppbagllhmeenaaGreatDoorShelf
import Derived.Shelf.Strings.Builder1
import Derived.Test.YtppbagllhmeenaaGreatDoorT67M17

namespace Go.Proofs.YtppbagllhmeenaaGreatDoor
open Go.RowKit
set_option linter.unusedVariables false
set_option linter.unusedSimpArgs false

/-- block b of W holds these cells, of this type -/
def TBox (W : World) (b : Nat) (T : TypeId) (cs : Array Value) : Prop := W.heap[b]? = some (.cells cs T)
theorem TBox.new (w : World) (cs : Array Value) (T : TypeId) : TBox (w.alloc (.cells cs T)) w.heap.size T cs := heap_alloc_new w _
theorem TBox.lt {W : World} {b : Nat} {T : TypeId} {cs : Array Value} (h : TBox W b T cs) : b < W.heap.size := by
  unfold TBox at h
  by_cases c : b < W.heap.size
  · exact c
  · rw [Array.getElem?_eq_none (by omega)] at h; cases h
theorem TBox.below {W W' : World} {b : Nat} {T : TypeId} {cs : Array Value} (h : TBox W b T cs) (hb : Below W.heap.size W W') : TBox W' b T cs := (hb.block b h.lt).trans h
theorem TBox.alloc {W : World} {b : Nat} {T : TypeId} {cs : Array Value} (h : TBox W b T cs) (o : Obj) : TBox (W.alloc o) b T cs := h.below ((Below.refl _ _).alloc (Nat.le_refl _) o)
theorem TBox.cell {W : World} {b i : Nat} {T : TypeId} {cs : Array Value} {v : Value} (h : TBox W b T cs) (hi : cs[i]? = some v) : W.cell? ⟨b, i, none⟩ = some v := by
  unfold TBox at h
  simp [World.cell?, h, hi]
theorem TBox.set {W : World} {b : Nat} {T : TypeId} {cs : Array Value} (h : TBox W b T cs) (i : Nat) (v : Value) : TBox (W.setCell ⟨b, i, none⟩ v) b T (cs.setIfInBounds i v) := by
  unfold TBox at *
  exact heap_setCell_same W b i cs T v h
theorem TBox.frozen {W : World} {b : Nat} {T : TypeId} {cs : Array Value} (h : TBox W b T cs) (i : Nat) : W.frozen? ⟨b, i, none⟩ = false := frozen_of_row W b i cs T h
/-- rows of other types grow, or boxes of other types are written: these rows stay -/
def Other (w w' : World) (T' : TypeId) : Prop := ∃ r, w.grownBy w' r ∧ ∀ g, r = some g → ∃ cs fz, w.heap[g]? = some (.cells cs T' fz)
theorem Other.row {w w' : World} {T' : TypeId} {base s n : Nat} {v : Value} {xs : List Value} (h : w.ownsRow base T' s v n xs) (hg : w.grownBy w' v.ownBlock) : Other w w' T' := by
  refine ⟨_, hg, fun g hgg => ?_⟩
  rcases h.2 with ⟨rfl, _⟩ | ⟨g', cap, cur, rfl, _, h1, _⟩
  · simp [Value.ownBlock] at hgg
  · simp [Value.ownBlock] at hgg
    subst hgg
    exact ⟨_, _, h1⟩
theorem Other.box {w : World} {T' : TypeId} {b i : Nat} {cs : Array Value} (h : TBox w b T' cs) (v : Value) : Other w (w.setCell ⟨b, i, none⟩ v) T' :=
  ⟨some b, ⟨rfl, rfl, rfl, by simp, fun k _ hne => heap_setCell_other w ⟨b, i, none⟩ k v (fun e => hne (by simp [e]))⟩, fun g hg => by cases hg; exact ⟨_, _, h⟩⟩
theorem Other.own {w w' : World} {T' : TypeId} (h : Other w w' T') {base s n : Nat} {T : TypeId} {v : Value} {xs : List Value} (ho : w.ownsRow base T s v n xs) (hT : T ≠ T') : w'.ownsRow base T s v n xs := by
  obtain ⟨r, hg, hr⟩ := h
  refine ho.kept hg ?_
  rcases ho.2 with ⟨rfl, _⟩ | ⟨g, cap, cur, rfl, _, h1, _⟩
  · exact .inl rfl
  · refine .inr ?_
    cases r with
    | none => simp [Value.ownBlock]
    | some g' =>
      obtain ⟨cs, fz, h2⟩ := hr g' rfl
      simp only [Value.ownBlock, ne_eq, Option.some.injEq]
      intro e
      subst e
      rw [h1] at h2
      injection h2 with h2
      injection h2 with _ h3
      exact hT h3
theorem Other.tbox {w w' : World} {T' T : TypeId} (h : Other w w' T') {b : Nat} {cs : Array Value} (ho : TBox w b T cs) (hT : T ≠ T') : TBox w' b T cs := by
  obtain ⟨r, hg, hr⟩ := h
  refine (hg.block b ho.lt ?_).trans ho
  intro e
  obtain ⟨cs', fz, h2⟩ := hr b e.symm
  unfold TBox at ho
  rw [ho] at h2
  injection h2 with h2
  injection h2 with _ h3
  exact hT h3
theorem Other.size {w w' : World} {T' : TypeId} (h : Other w w' T') : w.heap.size ≤ w'.heap.size := by
  obtain ⟨r, hg, _⟩ := h
  exact hg.size
theorem Other.refl (w : World) (T : TypeId) : Other w w T := ⟨none, ⟨rfl, rfl, rfl, Nat.le_refl _, fun _ _ _ => rfl⟩, by simp⟩
theorem TBox.setOther {W : World} {b b' i : Nat} {T : TypeId} {cs : Array Value} (h : TBox W b T cs) (hb : b ≠ b') (v : Value) : TBox (W.setCell ⟨b', i, none⟩ v) b T cs := (Below.heap_setCell W ⟨b', i, none⟩ v b (by simpa using hb)).trans h
end Go.Proofs.YtppbagllhmeenaaGreatDoor

namespace Go.Proofs.YtppbagllhmeenaaGreatDoor
open Go.RowKit Go.Lib
open Go (info_parts)
set_option linter.unusedVariables false
set_option linter.unusedSimpArgs false

theorem bSize : (Tryz.prog.info? 60).map (·.size) = some 2 := by kernel_rfl
theorem bLies : liesAt Tryz.prog Tryz.prog.depth 60 (2 / Tryz.prog.cellsOf 60) 0 60 1 = true := by kernel_rfl
theorem bByte : (Tryz.prog.info? 5).map (fun i => (i.zero, i.size, i.bytes)) = some (some (.int .u8 0), 1, 1) := by kernel_rfl
set_option maxHeartbeats 1000000 in
set_option maxRecDepth 100000 in
theorem copyCheck_used (b : Nat) (w : World) (h0 : w.cell? ⟨b, 0, none⟩ = some (.pointer (some ⟨b, 0, none⟩))) :
    Calls Tryz.prog 58 #[.pointer (some ⟨b, 0, none⟩)] w fun e w' => e = .returned (.tuple #[]) ∧ w' = w := by
  obtain ⟨j, hj, _⟩ := Option.map_eq_some_iff.1 bSize
  go_enter Tryz.func58, Tryz.ntmps58
  go_wp2
  rw [Lib.run_neq_ptr_same w _ Tryz.underlying57 hj]
  go_wp2
  go_end0
  exact ⟨rfl, rfl⟩
set_option maxHeartbeats 1000000 in
set_option maxRecDepth 100000 in
theorem copyCheck_fresh (b : Nat) (w : World) (h0 : w.cell? ⟨b, 0, none⟩ = some (.pointer none)) (hsh : w.shape? b = some (60, 2)) (hfz : w.frozen? ⟨b, 0, none⟩ = false) :
    Calls Tryz.prog 58 #[.pointer (some ⟨b, 0, none⟩)] w fun e w' => e = .returned (.tuple #[]) ∧ w' = w.setCell ⟨b, 0, none⟩ (.pointer (some ⟨b, 0, none⟩)) := by
  obtain ⟨j, hj, hjs⟩ := Option.map_eq_some_iff.1 bSize
  go_enter Tryz.func58, Tryz.ntmps58
  go_wp2
  rw [Lib.run_to_unsafe w ⟨b, 0, none⟩ Tryz.underlying57 Tryz.underlying123 hj (by rw [hjs]; decide) hsh (Nat.zero_lt_succ 1)]
  simp only [Result.andThen]
  rw [Oper.upon_value]
  go_wp2
  rw [run_callFunc_extern Tryz.func81 (by kernel_rfl) (by kernel_rfl) (by kernel_rfl) (e := Extern.AbiNoEscape.same) (by kernel_rfl)]
  rw [Lib.run_noEscape]
  simp only [Result.andThen]
  rw [Oper.upon_value]
  go_wp2
  rw [Lib.run_from_unsafe w ⟨b, 0, none⟩ Tryz.underlying123 Tryz.underlying57 hj hsh bLies]
  simp only [Result.andThen]
  rw [Oper.upon_value]
  go_wp2
  go_end0
  exact ⟨rfl, rfl⟩
theorem copyCheck_any (B b : Nat) (bs : List Value) (w : World) (h : Lib.IsBuilder 60 5 B b bs w) :
    Calls Tryz.prog 58 #[.pointer (some ⟨b, 0, none⟩)] w fun e w' => e = .returned (.tuple #[]) ∧ (Lib.BuilderAt 60 5 B b (.pointer (some ⟨b, 0, none⟩)) bs w' ∧ Below B w w' ∧ Other w w' 60) := by
  rcases h with h | h
  · refine (copyCheck_fresh b w h.cell0 h.shape h.frozen0).mono ?_
    rintro e w' ⟨rfl, rfl⟩
    obtain ⟨h1, v, hb, _⟩ := id h
    exact ⟨rfl, h.used _, (Below.refl B w).setCell (p := ⟨b, 0, none⟩) h.1 _, Other.box (cs := #[.pointer none, v]) hb _⟩
  · refine (copyCheck_used b w h.cell0).mono ?_
    rintro e w' ⟨rfl, rfl⟩
    exact ⟨rfl, h, Below.refl B _, Other.refl _ _⟩
/-- a builder stays while older blocks do -/
theorem isB_below {B b : Nat} {bs : List Value} {w W : World} (h : Lib.IsBuilder 60 5 B b bs w) (hb : Below w.heap.size w W) : Lib.IsBuilder 60 5 B b bs W := by
  have key : ∀ p, Lib.BuilderAt 60 5 B b p bs w → Lib.BuilderAt 60 5 B b p bs W := by
    rintro p ⟨h1, v, h2, h3, h4⟩
    have hl : b < w.heap.size := (Array.getElem?_eq_some_iff.1 h2).1
    refine ⟨h1, v, (hb.block b hl).trans h2, h3.kept ⟨hb.os, hb.tape, hb.output, hb.size, fun k hk _ => hb.block k hk⟩ (row := none) ?_, h4⟩
    cases hv : v.ownBlock <;> simp
  rcases h with h | h
  · exact .inl (key _ h)
  · exact .inr (key _ h)
/-- a new builder -/
theorem isB_new (w : World) (B : Nat) (hB : B ≤ w.heap.size) : Lib.IsBuilder 60 5 B w.heap.size [] (w.alloc (.cells #[.pointer none, .slice none 0 0] 60)) :=
  .inl ⟨hB, .slice none 0 0, heap_alloc_new w _, World.ownsRow_nil _ _ _ _, by simp [Value.ownBlock]⟩
set_option maxHeartbeats 2000000 in
set_option maxRecDepth 100000 in
theorem writeString_any (B b : Nat) (bs : List Value) (s : ByteArray) (w : World) (h : Lib.IsBuilder 60 5 B b bs w) (hlen : bs.length + s.size ≤ 140737488355328) (hBw : B ≤ w.heap.size) :
    Calls Tryz.prog 30 #[.pointer (some ⟨b, 0, none⟩), .string s] w fun e w' => e = .returned (.tuple #[.int .i64 s.size, .nilIface]) ∧ Lib.IsBuilder 60 5 B b (bs ++ Lib.strCells s) w' ∧ Below B w w' ∧ (∀ ub T cs, T ≠ 60 → T ≠ 5 → TBox w ub T cs → TBox w' ub T cs) := by
  obtain ⟨i0, hi, hz0, hz1, hz2⟩ := info_parts bByte
  go_enter Tryz.func30, Tryz.ntmps30
  go_wp2_with (go_at_call 58; refine (copyCheck_any B b bs _ h).mono ?_)
  rintro e w1 ⟨rfl, h1, hb1, ho1⟩
  obtain ⟨hB, v, hbk, hown, hne⟩ := h1
  have HO1 := Lib.hid ho1
  clear ho1
  have c0 : w1.cell? ⟨b, 0, none⟩ = some (.pointer (some ⟨b, 0, none⟩)) := by rw [Lib.cell_of_heap hbk]; rfl
  have c1 : w1.cell? ⟨b, 1, none⟩ = some v := by rw [Lib.cell_of_heap hbk]; rfl
  go_wp2_with (at_builtin; refine Lib.wpList_append_own_string _ rfl _ _ 58 9 rfl B 5 i0 Tryz.underlying58 Tryz.underlying9 hi hz0 hz1 hz2 _ _ _ rfl hown s rfl ?c3 ?c4 ?c5 ?_)
  case c3 => unfold maxLen; omega
  case c4 => omega
  case c5 => have := hb1.size; omega
  intro v' w2 hown' hgrow _
  have HO2 := Lib.hid (Other.row hown hgrow)
  have hlt : b < w1.heap.size := by
    rcases Nat.lt_or_ge b w1.heap.size with h' | h'
    · exact h'
    · simp [Array.getElem?_eq_none h'] at hbk
  have hb2 : w2.heap[b]? = some (.cells #[.pointer (some ⟨b, 0, none⟩), v] 60 (0, 0)) := by
    rw [hgrow.block b hlt (fun e => hne e.symm)]
    exact hbk
  have d0 : w2.cell? ⟨b, 0, none⟩ = some (.pointer (some ⟨b, 0, none⟩)) := by rw [Lib.cell_of_heap hb2]; rfl
  have d1 : w2.cell? ⟨b, 1, none⟩ = some v := by rw [Lib.cell_of_heap hb2]; rfl
  have f1 : w2.frozen? ⟨b, 1, none⟩ = false := Lib.frozen_of_heap hb2 1
  obtain ⟨ao, n', cap, rfl⟩ : ∃ ao n' cap, v' = .slice ao n' cap := by
    rcases hown'.2 with ⟨hv, _⟩ | ⟨g, cap, cur, hv, _⟩
    · exact ⟨_, _, _, hv⟩
    · exact ⟨_, _, _, hv⟩
  go_wp2
  go_ret2
  refine ⟨rfl, .inr ?_, ?_, ?_⟩
  · exact Lib.BuilderAt.put (T := 60) (e := 5) hB hb2 (bs' := bs ++ Lib.strCells s) (by simpa [Lib.strCells_length] using hown') (by decide)
  · exact (hb1.grown hgrow (by have := hb1.size; omega) (fun k hk => (hown.lt k hk).1)).setCell (p := ⟨b, 1, none⟩) hB _
  · intro ub T cs h1 h2 h3
    exact (Other.box (T' := 60) (b := b) (i := 1) hb2 _).tbox (HO2.out.tbox (HO1.out.tbox h3 h1) h2) h1
end Go.Proofs.YtppbagllhmeenaaGreatDoor

namespace Go.Proofs.YtppbagllhmeenaaGreatDoor
open Go.RowKit
set_option linter.unusedVariables false
set_option linter.unusedSimpArgs false

set_option maxRecDepth 100000 in
set_option maxHeartbeats 16000000 in
theorem ckLibrary_any (v : Value) (l : List Prf) (w : World) (h : PrfS w.heap.size w v l) (hf : ∀ p ∈ l, PrfFit p) :
    Calls Tryz.prog 16 #[v] w fun e w' => e = .returned (.int .i64 (chkLib l)) ∧ Below w.heap.size w w' := by
  have HG := Lib.hid (PrfS.get h)
  have HF := Lib.hid hf
  obtain ⟨lv, hlv, hcs, _⟩ := h
  obtain ⟨ao, cap, rfl, _⟩ := CellsS.shape hcs
  have hm := CellsS.len hcs
  rw [show lv.length = l.length by rw [← hlv]; simp] at *
  clear hcs hlv hf
  unfold maxLen at hm
  have HC0 := Lib.hid (show chkLib l = if 60 < l.length then 2 else scanF prfF l 0 from rfl)
  generalize chkLib l = RES at *
  go_enter Tryz.func16, Tryz.ntmps16
  by_cases h30 : 60 < l.length
  · have HV := Lib.hid (show RES = 2 by rw [HC0.out, if_pos h30])
    go_wp2_with fail
    go_ret
    exact ⟨by rw [HV.out] <;> rfl, Below.refl _ _⟩
  have HC := Lib.hid (show RES = scanF prfF l 0 by rw [HC0.out, if_neg h30])
  have h31 : l.length ≤ 60 := by omega
  clear HC0 h30
  have hmm := @run_makeMap Tryz.prog
  go_wp2_with fail
  clear hmm
  go_loopw [13] (fun i wx => ∃ k : Nat, k ≤ l.length ∧ i = .int .i64 k ∧ Hid (RES = scanF prfF l k) ∧ Hid (Below w.heap.size w wx) ∧ Hid (SeenM wx Tryz.prog 9 4 w.heap.size k ((l.take k).map (fun y => Lit.string y.nm))) ∧ w.heap.size < wx.heap.size) (fun i _ => l.length - (intOf i).toNat)
  case atStart => exact ⟨0, Nat.zero_le _, rfl, HC, Lib.hid ((Below.refl _ _).alloc (Nat.le_refl _) _), Lib.hid (by simpa using seen_made w _ _ _), by simp⟩
  case round =>
    obtain ⟨k, hk, rfl, HRF, HBW, HSE, hlw⟩ := hrel
    by_cases hlt : k < l.length
    · obtain ⟨b, off, cap', hsl, hb, _, hc⟩ := HG.out (by omega)
      injection hsl with hs1 hs2 hs3
      subst hs1 hs3
      obtain ⟨pv, hpv, hcc⟩ := hc k hlt
      obtain ⟨d0, d1, d2⟩ := hcc wr HBW.out
      have hbr : b < wr.heap.size := by have := HBW.out.size; omega
      have hfit := HF.out _ (List.getElem_mem hlt)
      have HKN := Lib.hid (keyOfS_ hfit.2.1)
      have HCP := Lib.hid (fun W (hW : Below w.heap.size w W) => ckProfile_any l[k] pv W ((hpv.below hW).more hW.size) hfit)
      have HSG := Lib.hid (scanF_good prfF l k hlt)
      have HSB := Lib.hid (scanF_bad prfF l k hlt)
      have HFD := Lib.hid (show prfF (l.take k) l[k] = if chkPrf l[k] ≠ 0 then chkPrf l[k] else if l[k].nm ∈ (l.take k).map Prf.nm then 6 else 0 from rfl)
      have HIN := Lib.hid (mem_strs Prf.nm (l.take k) l[k].nm)
      have HTK := Lib.hid (strs_snoc Prf.nm l k hlt)
      generalize prfF (l.take k) l[k] = FF at *
      generalize chkPrf l[k] = E at *
      have hnm : l[k].nm = l[k].name.data.toList := rfl
      rw [hnm] at HFD HIN HTK
      obtain ⟨lv, hlv, hcs, _⟩ := hpv
      obtain ⟨po, pcap, rfl, _⟩ := CellsS.shape hcs
      rw [show lv.length = l[k].pars.length by rw [← hlv]; simp] at *
      clear hnm hc hcc hfit hcs hlv
      generalize (l.take k).map Prf.nm = SN at *
      generalize (l.take k).map (fun y => Lit.string y.nm) = S at *
      generalize hrk : l[k] = rk at *
      clear hrk
      obtain ⟨pn, pz, pl⟩ := rk
      simp only at *
      have HBX := Lib.hid (HBW.out.alloc (Nat.le_of_lt hlw) (.cells #[.string pn, .int .i64 pz, .slice po pl.length pcap] 70))
      have HSX := Lib.hid (HSE.out.kept (World.grownBy_alloc wr (.cells #[.string pn, .int .i64 pz, .slice po pl.length pcap] 70) none) (by simp))
      have HCX := Lib.hid (HCP.out _ HBX.out)
      clear HCP HSE
      go_wp2_with fail
      refine HCX.out.mono ?_
      rintro e wc ⟨rfl, hbc⟩
      simp only [World.size_alloc] at hbc
      have hzc := hbc.size
      simp only [World.size_alloc] at hzc
      have HBC := Lib.hid (HBX.out.trans (hbc.mono (by omega)))
      have HSC := Lib.hid (HSX.out.below hbc (by omega))
      have e0 : wc.cell? ⟨wr.heap.size, 0, none⟩ = some (.string pn) := (hbc.cell (p := ⟨wr.heap.size, 0, none⟩) (by simp)).trans (by simp [go_sem])
      have hw6 : w.heap.size < wc.heap.size := by omega
      clear hbc HCX d0 d1 d2 HSX HBX HBW
      by_cases hE : E = 0
      rotate_left
      · skip
        have HE : FF = E := by rw [HFD.out]; simp [hE]
        have HV := Lib.hid (show RES = E by rw [HRF.out, HSB.out (by rw [HE]; first | decide | exact hE), HE])
        clear HE
        go_wp2_with fail
        go_ret
        exact ⟨by rw [HV.out] <;> rfl, HBC.out⟩
      by_cases hin : pn.data.toList ∈ SN
      · have hq1 := HSC.out.look_in keyS_ (t := 88) Tryz.underlying88 Tryz.underlying4 (zeroB_ _) HKN.out (HIN.out.2 hin)
        have HE : FF = 6 := by rw [HFD.out]; simp [hE, hin]
        have HV := Lib.hid (show RES = 6 by rw [HRF.out, HSB.out (by rw [HE]; first | decide | exact hE), HE])
        clear HE
        go_wp2_with fail
        go_ret
        exact ⟨by rw [HV.out] <;> rfl, HBC.out⟩
      have hq1 := HSC.out.look_out keyS_ (t := 88) Tryz.underlying88 Tryz.underlying4 (zeroB_ _) HKN.out (fun h => hin (HIN.out.1 h))
      have HV := Lib.hid (show RES = scanF prfF l (k + 1) by rw [HRF.out, HSG.out (by rw [HFD.out]; simp [hE, hin])])
      subst hE
      obtain ⟨wz, rz, sz, gz⟩ := HSC.out.update keyS_ (t := 88) Tryz.underlying88 Tryz.underlying4 (by unfold maxLen; omega) HKN.out
      have HB7 := Lib.hid (HBC.out.grown gz (by omega) (fun j hj => by cases hj; omega))
      have HZ := Lib.hid sz
      have hz7 := gz.size
      clear gz sz HSC
      go_wp2_with fail
      go_roundw
      case rel => exact ⟨k + 1, by omega, by first | rfl | go_num, HV, HB7, Lib.hid (by rw [HTK.out]; exact HZ.out), by omega⟩
      case measure => simp [intOf]; omega
    · have HV := Lib.hid (show RES = 0 by rw [HRF.out, scanF_end prfF l k (by omega)])
      have hkk : k = l.length := by omega
      subst hkk
      go_wp2_with fail
      go_ret
      exact ⟨by rw [HV.out] <;> rfl, HBW.out⟩
end Go.Proofs.YtppbagllhmeenaaGreatDoor
