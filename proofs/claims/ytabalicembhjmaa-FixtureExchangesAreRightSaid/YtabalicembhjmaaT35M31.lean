/- fixture.taken. (printed by wip/gen/gen_room.py) -/
import Derived.Test.YtabalicembhjmaaT35M17
import Derived.Test.YtabalicembhjmaaT35M23

namespace Go.Proofs.Ytabalicembhjmaa
open Go.RowKit
set_option linter.unusedVariables false
set_option linter.unusedSimpArgs false

theorem filt_snoc {α : Type} (p : α → Bool) (l : List α) (k : Nat) (h : k < l.length) : (l.take (k + 1)).filter p = if p l[k] then (l.take k).filter p ++ [l[k]] else (l.take k).filter p := by
  rw [List.take_succ_eq_append_getElem h, List.filter_append]
  by_cases c : p l[k] = true
  · rw [if_pos c]; simp [c]
  · rw [if_neg c]; simp [c]
def notNo (n : Int) (u : Unt) : Bool := decide (u.num ≠ n)
set_option maxRecDepth 100000 in
set_option maxHeartbeats 16000000 in
theorem taken_any (x : Rig) (lv uv : Value) (n : Int) (w : World) (h : RigAt w.heap.size w x lv uv) (hx : chkRig x = 0) (hf : RigFit x) :
    Calls Try.prog 45 #[rigV lv uv, .int .i64 n] w fun e w' => e = .returned (.map (some (w.heap.size + 1))) ∧ w.heap.size + 1 < w'.heap.size ∧ UsedS (w.heap.size + 1) w' (w.heap.size + 1) (usBut x n) ∧ Below w.heap.size w w' := by
  have CP := Lib.hid (fun (nm : ByteArray) W (hb : Below w.heap.size w W) => profile_base w.heap.size lv x.lib nm W hb.size (h.lib.below hb))
  have HG := Lib.hid (UntS.get h.units)
  have HUF := Lib.hid hf.2
  obtain ⟨uo, ucap, rfl, _⟩ := CellsS.shape h.units
  obtain ⟨lo, lcap, rfl⟩ := prfS_shape h.lib
  have hcp := untS_cap h.units
  have hun : x.units.length ≤ 400 := (chkRig_zero hx).2.1
  have HPR := Lib.hid (fun u (hu : u ∈ x.units) => par_right hx hu)
  have HPS := Lib.hid (fun (u : Unt) (p : Prf) (hp : profOf x.lib u.nm = some p) => (⟨size_of hp, size_pos (chkRig_zero hx).1 hp⟩ : sizeOf' x.lib u = p.size ∧ (1 ≤ p.size ∧ p.size ≤ 512)))
  have HUB := Lib.hid (show usOf x.lib ((x.units.take x.units.length).filter (notNo n)) = usBut x n by rw [List.take_length]; rfl)
  have HLN := Lib.hid (show ∀ k, (usOf x.lib ((x.units.take k).filter (notNo n))).length ≤ 100000 from fun k => by
    rw [usOf_len]
    have h1 := List.length_filter_le (notNo n) (x.units.take k)
    rw [List.length_take] at h1
    omega)
  have HSN := Lib.hid (fun k (hk : k < x.units.length) => filt_snoc (notNo n) x.units k hk)
  unfold rigV at *
  clear h hf hx
  generalize usBut x n = UBN at *
  have KC := Lib.hid (show ∀ W, Below (w.heap.size + 1) (w.alloc (.cells #[.slice lo x.lib.length lcap, .slice uo x.units.length ucap] 25)) W → (Below w.heap.size w W ∧ w.heap.size < W.heap.size ∧ W.cell? ⟨w.heap.size, 0, none⟩ = some (.slice lo x.lib.length lcap) ∧ W.cell? ⟨w.heap.size, 1, none⟩ = some (.slice uo x.units.length ucap)) from fun W hW => by
    have hz := hW.size
    simp at hz
    exact ⟨((Below.refl _ _).alloc (Nat.le_refl _) _).trans (hW.mono (by omega)), by omega, (hW.cell (p := ⟨w.heap.size, 0, none⟩) (by simp)).trans (by simp [go_sem]), (hW.cell (p := ⟨w.heap.size, 1, none⟩) (by simp)).trans (by simp [go_sem])⟩)
  have KM := Lib.hid (show ∀ W W1, Below (w.heap.size + 1) (w.alloc (.cells #[.slice lo x.lib.length lcap, .slice uo x.units.length ucap] 25)) W → Below W.heap.size W W1 → Below (w.heap.size + 1) (w.alloc (.cells #[.slice lo x.lib.length lcap, .slice uo x.units.length ucap] 25)) W1 from fun W W1 h1 h2 => h1.trans (h2.mono (by have := h1.size; simp at this; omega)))
  have KA := Lib.hid (show ∀ W o, Below (w.heap.size + 1) (w.alloc (.cells #[.slice lo x.lib.length lcap, .slice uo x.units.length ucap] 25)) W → Below (w.heap.size + 1) (w.alloc (.cells #[.slice lo x.lib.length lcap, .slice uo x.units.length ucap] 25)) (W.alloc o) from fun W o h => h.alloc (by have := h.size; simp at this; omega) o)
  have HBM := Lib.hid (KA.out _ (.map #[] 0) (Below.refl (w.heap.size + 1) (w.alloc (.cells #[.slice lo x.lib.length lcap, .slice uo x.units.length ucap] 25))))
  have HU0 := Lib.hid (show UsedS (w.heap.size + 1) ((w.alloc (.cells #[.slice lo x.lib.length lcap, .slice uo x.units.length ucap] 25)).alloc (.map #[] 0)) (w.heap.size + 1) [] by simpa using used_made (w.heap.size + 1) (w.alloc (.cells #[.slice lo x.lib.length lcap, .slice uo x.units.length ucap] 25)))
  have hmm := @run_makeMap Try.prog
  go_enter Try.func45, Try.ntmps45
  go_wp2_with fail
  clear hmm
  go_loopw [14] (fun i wx => ∃ k : Nat, k ≤ x.units.length ∧ i = .int .i64 k ∧ Hid (Below (w.heap.size + 1) (w.alloc (.cells #[.slice lo x.lib.length lcap, .slice uo x.units.length ucap] 25)) wx) ∧ Hid (UsedS (w.heap.size + 1) wx (w.heap.size + 1) (usOf x.lib ((x.units.take k).filter (notNo n)))) ∧ w.heap.size + 1 < wx.heap.size) (fun i _ => x.units.length - (intOf i).toNat)
  case atStart => exact ⟨0, Nat.zero_le _, rfl, HBM, Lib.hid (by simpa [usOf] using HU0.out), by simp⟩
  case round =>
    clear HBM HU0
    obtain ⟨k, hk, rfl, HBW, HUS, hlw⟩ := hrel
    obtain ⟨hB, hz, p0, p1⟩ := KC.out wr HBW.out
    by_cases hlt : k < x.units.length
    · obtain ⟨b, off, cap', hsl, hb, _, hc⟩ := HG.out (by omega)
      injection hsl with hs1 hs2 hs3
      subst hs1 hs3
      obtain ⟨d0, d1, d2, d3⟩ := hc k hlt wr hB
      have hbr : b < wr.heap.size := by have := hB.size; omega
      have HUI := Lib.hid (HUF.out _ (List.getElem_mem hlt)).2.1
      obtain ⟨p, hpo, _, ⟨ha1, ha2⟩, _⟩ := HPR.out _ (List.getElem_mem hlt)
      obtain ⟨hsz, hsp1, hsp2⟩ := HPS.out _ _ hpo
      have HSZ := Lib.hid hsz
      have HFS := Lib.hid (HSN.out k hlt)
      have HNO := Lib.hid (show notNo n x.units[k] = decide (x.units[k].num ≠ n) from rfl)
      have HLK := Lib.hid (HLN.out k)
      have HUX2 := Lib.hid (show ∀ L : List Unt, usOf x.lib (L ++ [x.units[k]]) = usOf x.lib L ++ [(x.units[k], sizeOf' x.lib x.units[k])] from fun L => by simp [usOf])
      have hnm : x.units[k].nm = x.units[k].prof.data.toList := rfl
      rw [hnm] at hpo
      rw [hsz] at HUX2
      have CP1 := Lib.hid (fun W (hb : Below w.heap.size w W) => by have := CP.out x.units[k].prof W hb; rw [hpo] at this; exact this)
      clear hc hnm hsz hpo hB HSZ
      generalize hrk : x.units[k] = rk at *
      clear hrk
      obtain ⟨un, up, uu, ua⟩ := rk
      obtain ⟨pn, pz, pl⟩ := p
      simp only at *
      have HBX := Lib.hid (KA.out _ (.cells #[.int .i64 un, .string up, .int .i64 uu, .int .i64 ua] 67) HBW.out)
      have HUX := Lib.hid (HUS.out.alloc (.cells #[.int .i64 un, .string up, .int .i64 uu, .int .i64 ua] 67))
      have CX := Lib.hid (CP1.out _ (KC.out _ HBX.out).1)
      clear HUS HBW
      go_wp2_with fail
      refine CX.out.mono ?_
      rintro e w5 ⟨pv0, rfl, ⟨qv, rfl, hps⟩, hb5⟩
      obtain ⟨po, pcap, rfl⟩ := parS_shape hps
      have hz5 := hb5.size
      simp only [World.size_alloc] at hz5
      have hwr5 : wr.heap.size < w5.heap.size := by omega
      have HB6 := Lib.hid (KA.out _ (.cells #[.string pn, .int .i64 pz, .slice po pl.length pcap] 70) (KM.out _ _ HBX.out hb5))
      have HU6 := Lib.hid ((HUX.out.below hb5).alloc (.cells #[.string pn, .int .i64 pz, .slice po pl.length pcap] 70))
      have f0 : w5.cell? ⟨wr.heap.size, 0, none⟩ = some (.int .i64 un) := (hb5.cell (p := ⟨wr.heap.size, 0, none⟩) (by simp)).trans (by simp [go_sem])
      have f1 : w5.cell? ⟨wr.heap.size, 1, none⟩ = some (.string up) := (hb5.cell (p := ⟨wr.heap.size, 1, none⟩) (by simp)).trans (by simp [go_sem])
      have f2 : w5.cell? ⟨wr.heap.size, 2, none⟩ = some (.int .i64 uu) := (hb5.cell (p := ⟨wr.heap.size, 2, none⟩) (by simp)).trans (by simp [go_sem])
      have f3 : w5.cell? ⟨wr.heap.size, 3, none⟩ = some (.int .i64 ua) := (hb5.cell (p := ⟨wr.heap.size, 3, none⟩) (by simp)).trans (by simp [go_sem])
      clear hb5 hps CX HBX HUX p0 p1 d0 d1 d2 d3 hz
      by_cases hno : un = n
      · have h2 : (un == n) = true := by simpa using hno
        have HV := Lib.hid (show UsedS (w.heap.size + 1) (w5.alloc (.cells #[.string pn, .int .i64 pz, .slice po pl.length pcap] 70)) (w.heap.size + 1) (usOf x.lib ((x.units.take (k + 1)).filter (notNo n))) by rw [HFS.out, if_neg (by rw [HNO.out]; simpa using hno)]; exact HU6.out)
        have h2' := Eq.symm hno
        clear hno h2
        subst h2'
        go_wp2_with fail
        go_roundw
        case rel => exact ⟨k + 1, by omega, by first | rfl | go_num, HB6, HV, by simp; omega⟩
        case measure => simp [intOf]; omega
      · have h2 : (un == n) = false := by simpa using hno
        have HTK := Lib.hid (take_any (w.heap.size + 1) (w.heap.size + 1) _ ⟨un, up, uu, ua⟩ pz _ HU6.out HLK.out (Nat.le_refl _) HUI.out (by simpa using ha1) (by omega) (by simpa using ha2))
        simp only at HTK
        have HFX := Lib.hid (show usOf x.lib ((x.units.take (k + 1)).filter (notNo n)) = usOf x.lib ((x.units.take k).filter (notNo n)) ++ [(⟨un, up, uu, ua⟩, pz)] by rw [HFS.out, if_pos (by rw [HNO.out]; simpa using hno), HUX2.out])
        clear HU6
        go_wp2_with fail
        refine HTK.out.mono ?_
        rintro e w7 ⟨rfl, hu7, hb7⟩
        have HB7 := Lib.hid (HB6.out.trans hb7)
        have HU7 := Lib.hid (show UsedS (w.heap.size + 1) w7 (w.heap.size + 1) (usOf x.lib ((x.units.take (k + 1)).filter (notNo n))) by rw [HFX.out]; exact hu7)
        have hz7 := hb7.size
        simp only [World.size_alloc] at hz7
        clear hu7 hb7 HTK f0 f1 f2 f3 hno
        go_wp2_with fail
        go_roundw
        case rel => exact ⟨k + 1, by omega, by first | rfl | go_num, HB7, HU7, by omega⟩
        case measure => simp [intOf]; omega
    · have HBO := Lib.hid hB
      have hkk : k = x.units.length := by omega
      clear hB
      subst hkk
      have HUE := Lib.hid (show UsedS (w.heap.size + 1) wr (w.heap.size + 1) UBN by have h := HUS.out; rwa [HUB.out] at h)
      go_wp2_with fail
      go_ret
      exact ⟨rfl, hlw, HUE.out, HBO.out⟩
end Go.Proofs.Ytabalicembhjmaa
