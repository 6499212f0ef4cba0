/- The contract of level.Inverse. -/
import Derived.Test.YtdicoggpcobbpaaDoorEase
import Derived.OwnWalk
import Derived.Laws.OwnMore
namespace Go.Proofs.YtdicoggpcobbpaaDoor
open Go.RowKit
open Go (info_parts)

def ptCells (l : List (Int × Int)) : List Value := l.flatMap fun y => [Value.int .i64 y.1, Value.int .i64 y.2]
theorem ptCells_snoc (l : List (Int × Int)) (y : Int × Int) : ptCells (l ++ [y]) = ptCells l ++ [Value.int .i64 y.1, Value.int .i64 y.2] := by simp [ptCells]
theorem ptCells_length (l : List (Int × Int)) : (ptCells l).length = l.length * 2 := by
  induction l with
  | nil => rfl
  | cons a l ih => simp [ptCells] at *; omega
theorem ptCells_get (l : List (Int × Int)) (i : Nat) (h : i < l.length) : (ptCells l)[i * 2]? = some (.int .i64 l[i].1) ∧ (ptCells l)[i * 2 + 1]? = some (.int .i64 l[i].2) := by
  induction l generalizing i with
  | nil => simp at h
  | cons a l ih =>
    match i with
    | 0 => simp [ptCells]
    | i + 1 =>
      have := ih i (by simpa using h)
      have e1 : (i + 1) * 2 = i * 2 + 2 := by omega
      have e2 : (i + 1) * 2 + 1 = i * 2 + 1 + 2 := by omega
      rw [e1, show i * 2 + 2 + 1 = i * 2 + 1 + 2 by omega]
      simp only [ptCells, List.flatMap_cons, List.cons_append, List.nil_append, List.getElem?_cons_succ, List.getElem_cons_succ] at *
      exact this

theorem invPts_take (ps : List (Int × Int)) (k : Nat) (h : k < ps.length) : (invPts ps).take (k + 1) = (invPts ps).take k ++ [flip (ps[ps.length - 1 - k]'(by omega))] := by
  have hl : k < (invPts ps).length := by rw [invPts_length]; exact h
  rw [List.take_succ_eq_append_getElem hl]
  congr 2
  have := invPts_get ps k h
  rw [List.getElem?_eq_getElem hl, List.getElem?_eq_getElem (by omega)] at this
  simpa using this

theorem inv_step (ps : List (Int × Int)) (j : Nat) (hj : j < ps.length) :
    ptCells ((invPts ps).take (ps.length - 1 - j + 1)) = ptCells ((invPts ps).take (ps.length - 1 - j)) ++ [Value.int .i64 (1000 - ps[j].1), Value.int .i64 (1000 - ps[j].2)] := by
  have : ∀ (m : Nat) (hm : m < ps.length), m = j → ps[m] = ps[j] := by intro m hm e; subst e; rfl
  rw [invPts_take ps _ (by omega), ptCells_snoc, this _ _ (by omega)]
  rfl

theorem own_shape {w : World} {base : Nat} {e : TypeId} {size : Nat} {v : Value} {n : Nat} {xs : List Value} (h : w.ownsRow base e size v n xs) : ∃ ao cap, v = .slice ao n cap := by
  rcases h.2 with ⟨rfl, rfl⟩ | ⟨g, cap, cur, rfl, _⟩
  · exact ⟨_, _, rfl⟩
  · exact ⟨_, _, rfl⟩

/-- an owned row of points is a slice of points -/
theorem ptsV_of_own {w : World} {base : Nat} {v : Value} {n : Nat} {l : List (Int × Int)} (h : w.ownsRow base 63 2 v n (ptCells l)) (hm : l.length ≤ 9223372036854775807) : PtsV w v l := by
  have hn : n = l.length := by
    have := h.1; rw [ptCells_length] at this; omega
  subst hn
  by_cases h0 : l = []
  · subst h0
    rcases h.2 with ⟨rfl, _⟩ | ⟨g, cap, cur, rfl, _⟩
    · exact .inl ⟨rfl, _, _, rfl⟩
    · exact .inl ⟨rfl, _, _, rfl⟩
  · have hpos : 0 < l.length := List.length_pos_iff.2 h0
    have hx := h.2
    rcases hx with ⟨rfl, hz⟩ | ⟨g, cap, cur, rfl, hb, hg, _⟩
    · omega
    · refine .inr ⟨h0, hm, g, 0, cap, rfl, ?_, ?_⟩
      · exact (Array.getElem?_eq_some_iff.1 hg).1
      · intro i hi
        have c1 := h.cellAt (i * 2) (by omega)
        have c2 := h.cellAt (i * 2 + 1) (by omega)
        have := ptCells_get l i hi
        rw [this.1] at c1
        rw [this.2] at c2
        simpa using ⟨c1, c2⟩

theorem infoPoint : (Tryd.prog.info? 63).map (fun i => (i.zero, i.size, i.bytes)) = some (some (.agg #[.int .i64 0, .int .i64 0]), 2, 16) := by kernel_rfl

def InvPost (w : World) (c : Cv) (F : Int) (e : Ending) (w' : World) : Prop := ∃ vr, e = .returned (.tuple #[vr, .int .i64 F]) ∧ CvV w' vr c ∧ Below w.heap.size w w'

set_option maxHeartbeats 2000000 in
theorem inv_table (K : Int) (b off cap : Nat) (ps : List (Int × Int)) (w : World) (hb : b < w.heap.size) (hp : PtsAt w b off ps) (h2 : 0 < ps.length) (h20 : ps.length ≤ 20) (k5 : K ≠ 5) (k2 : K ≠ 2) (k3 : K ≠ 3)
    (hr : ∀ x ∈ ps, 0 ≤ x.1 ∧ x.1 ≤ 1000 ∧ 0 ≤ x.2 ∧ x.2 ≤ 1000) (hck : checkC ⟨K, ps⟩ = 0) :
    Calls Tryd.prog 19 #[.agg #[.int .i64 K, .slice (some ⟨b, off, none⟩) ps.length cap]] w (InvPost w ⟨K, invPts ps⟩ 0) := by
  have CF := Lib.hid (fun W (hW : Below w.heap.size w W) => checkCurve_any (.agg #[.int .i64 K, .slice (some ⟨b, off, none⟩) ps.length cap]) ⟨K, ps⟩ W ⟨_, rfl, ptsV_below (.inr ⟨by intro (h : ps = []); rw [h] at h2; simp at h2, show ps.length ≤ _ by omega, b, off, cap, rfl, hb, hp⟩) hW⟩)
  rw [hck] at CF
  have HR := Lib.hid hr
  have HP := Lib.hid hp
  have b5 : (K == 5) = false := by simpa using k5
  have b2 : (K == 2) = false := by simpa using k2
  have b3 : (K == 3) = false := by simpa using k3
  obtain ⟨i0, hi, hz0, hz1, hz2⟩ := info_parts infoPoint
  clear hr hp hck k5 k2 k3
  go_enter Tryd.func19, Tryd.ntmps19
  go_wp2_with fail
  refine (CF.out _ below2).mono ?_
  rintro e w1 ⟨rfl, hb1⟩
  have hs1 : w.heap.size + 1 < w1.heap.size := by have := hb1.size; simp at this; omega
  have hs0 : w.heap.size < w1.heap.size := by omega
  have hbw := bt below2 hb1
  have e0 : w1.cell? ⟨w.heap.size, 0, none⟩ = some (.int .i64 K) := (hb1.cell (by first | (simp; done) | (simp; omega))).trans (by simp [go_sem])
  have e1 : w1.cell? ⟨w.heap.size, 1, none⟩ = some (.slice (some ⟨b, off, none⟩) ps.length cap) := (hb1.cell (by first | (simp; done) | (simp; omega))).trans (by simp [go_sem])
  have r0 : w1.cell? ⟨w.heap.size + 1, 0, none⟩ = some (.int .i64 0) := (hb1.cell (by first | (simp; done) | (simp; omega))).trans (by simp [go_sem])
  have r1 : w1.cell? ⟨w.heap.size + 1, 1, none⟩ = some (.slice none 0 0) := (hb1.cell (by first | (simp; done) | (simp; omega))).trans (by simp [go_sem])
  have q0 : w1.frozen? ⟨w.heap.size + 1, 0, none⟩ = false := (hb1.frozen (by first | (simp; done) | (simp; omega))).trans (by simp [go_sem])
  have q1 : w1.frozen? ⟨w.heap.size + 1, 1, none⟩ = false := (hb1.frozen (by first | (simp; done) | (simp; omega))).trans (by simp [go_sem])
  clear hb1
  go_wp2
  go_loopw [6] (fun i wr => ∃ (n : Int) (v : Value), -1 ≤ n ∧ n < ps.length ∧ i = .int .i64 n ∧ wr.cell? ⟨w1.heap.size, 0, none⟩ = some (.int .i64 K) ∧ wr.cell? ⟨w1.heap.size, 1, none⟩ = some v ∧ wr.frozen? ⟨w1.heap.size, 1, none⟩ = false ∧
      wr.ownsRow (w1.heap.size + 1) 63 2 v (ps.length - 1 - n).toNat (ptCells ((invPts ps).take (ps.length - 1 - n).toNat)) ∧ Below w1.heap.size w1 wr ∧ w1.heap.size < wr.heap.size) (fun i _ => (intOf i + 1).toNat)
  case atStart =>
    refine ⟨(ps.length : Int) - 1, .slice none 0 0, by omega, by omega, rfl, by simp [go_sem], by simp [go_sem], by simp [go_sem], ?_, below1, by simp⟩
    have e : ((ps.length : Int) - 1 - ((ps.length : Int) - 1)).toNat = 0 := by omega
    rw [e]
    exact World.ownsRow_nil _ _ _ _
  case round =>
    obtain ⟨n, v, n1, n2, rfl, f0, f1, f2, hown, hbr, hz⟩ := hrel
    obtain ⟨ao, vc, rfl⟩ := own_shape hown
    have OWN := Lib.hid hown
    have hcs : wr.cell? ⟨w.heap.size, 1, none⟩ = some (.slice (some ⟨b, off, none⟩) ps.length cap) := (hbr.cell (by exact hs0)).trans e1
    by_cases hn : 0 ≤ n
    · obtain ⟨j, rfl⟩ := Int.eq_ofNat_of_zero_le hn
      have hj : j < ps.length := by omega
      have hbwr := hbw.trans (hbr.mono hbw.size)
      have hp1 : wr.cell? ⟨b, off + j * 2, none⟩ = some (.int .i64 ps[j].1) := (hbwr.cell hb).trans (HP.out j hj).1
      have hp2 : wr.cell? ⟨b, off + j * 2 + 1, none⟩ = some (.int .i64 ps[j].2) := (hbwr.cell hb).trans (HP.out j hj).2
      obtain ⟨a1, a2, a3, a4⟩ := HR.out ps[j] (List.getElem_mem _)
      have hk : ((ps.length : Int) - 1 - (j : Int)).toNat = ps.length - 1 - j := by omega
      rw [hk] at OWN hown f1
      have HT := Lib.hid (inv_step ps j hj)
      clear hk hown
      have hown := OWN.out
      have hsz1 : w1.heap.size < wr.heap.size + 1 := by omega
      go_wp2_with (first
        | (at_builtin; refine wpList_append_own _ rfl _ _ 29 rfl (w1.heap.size + 1) 63 i0 (.agg #[.int .i64 0, .int .i64 0]) 2 16 Tryd.underlying29 hi hz0 hz1 hz2 rfl (by decide) _ _ _ rfl ((hown.alloc _).alloc _) ⟨wr.heap.size + 1, 0, none⟩ 1 1 [.int .i64 (1000 - ps[j].1), .int .i64 (1000 - ps[j].2)] rfl rfl ?c1 ?c2 ?c3 ?c4 ?c5 ?_))
      case c1 =>
        intro q u hq
        match q, hq with
        | 0, hq => simp at hq; subst hq; simp [Addr.add, go_sem]
        | 1, hq => simp at hq; subst hq; simp [Addr.add, go_sem]
      case c2 => intro u hu; simp at hu; rcases hu with rfl | rfl <;> rfl
      case c3 => unfold maxLen; omega
      case c4 => omega
      case c5 => simp; omega
      · intro v' w2 hown2 hgrow _
        have hlt := hown.lt
        have hne : some w1.heap.size ≠ (Value.slice ao (ps.length - 1 - j) vc).ownBlock := fun e => by have := (hlt _ e.symm).1; omega
        have g0 : w2.cell? ⟨w1.heap.size, 0, none⟩ = some (.int .i64 K) := hgrow.cell (by simp [go_sem, f0, hz, hsz1]) hne
        have g1 : w2.cell? ⟨w1.heap.size, 1, none⟩ = some (.slice ao (ps.length - 1 - j) vc) := hgrow.cell (by simp [go_sem, f1, hz, hsz1]) hne
        have g2 : w2.frozen? ⟨w1.heap.size, 1, none⟩ = false := by
          refine (World.frozen?_of_block (hgrow.block w1.heap.size (by simp; omega) hne)).trans ?_
          simp [go_sem, f2, hz, hsz1]
        have hb2 : Below w1.heap.size w1 w2 := ((hbr.alloc (by omega) _).alloc (by simp; omega) _).grown hgrow (by simp; omega) (fun k e => by have := (hlt _ e).1; omega)
        have hz2' : w1.heap.size < w2.heap.size := by have := hgrow.size; simp at this; omega
        rw [← HT.out] at hown2
        obtain ⟨ao2, vc2, hv2⟩ := own_shape hown2
        rw [hv2] at hown2 ⊢
        have HO2 := Lib.hid hown2
        clear hv2
        have HLT := Lib.hid hlt
        have HNE := Lib.hid hne
        clear hown2 hown hgrow hlt hne f0 f1 f2 hcs hp1 hp2 OWN
        go_wp2
        go_roundw
        case rel =>
          refine ⟨(j : Int) - 1, .slice ao2 (ps.length - 1 - j + 1) vc2, by omega, by omega, by go_num, by simp [go_sem, g0], by simp [go_sem, g1], by simp [go_sem, g2], ?_, hb2.setCell (Nat.le_refl _) _, by simpa [World.setCell] using hz2'⟩
          have e : ((ps.length : Int) - 1 - ((j : Int) - 1)).toNat = ps.length - 1 - j + 1 := by omega
          rw [e]
          exact ownsRow_setCell_below HO2.out (by show w1.heap.size < _; omega) _
        case measure => simp [intOf]
    · obtain rfl : n = -1 := by omega
      have e : ((ps.length : Int) - 1 - (-1)).toNat = ps.length := by omega
      rw [e] at OWN f1
      have hR : (invPts ps).take ps.length = invPts ps := List.take_of_length_le (by rw [invPts_length]; exact Nat.le_refl _)
      rw [hR] at OWN
      have PV := Lib.hid (ptsV_of_own OWN.out (by rw [invPts_length]; omega))
      have r0' := (hbr.cell (p := ⟨w.heap.size + 1, 0, none⟩) hs1).trans r0
      have r1' := (hbr.cell (p := ⟨w.heap.size + 1, 1, none⟩) hs1).trans r1
      have q0' := (hbr.frozen (p := ⟨w.heap.size + 1, 0, none⟩) hs1).trans q0
      have q1' := (hbr.frozen (p := ⟨w.heap.size + 1, 1, none⟩) hs1).trans q1
      have hbwr := hbw.trans (hbr.mono hbw.size)
      have HOWN := Lib.hid OWN.out
      clear hown e hR r0 r1 q0 q1 e0 e1 OWN
      go_wp2
      refine bodyPost_ret (v := .tuple #[.agg #[.int .i64 K, .slice ao ps.length vc], .int .i64 0]) (by simp [results, Tryd.results19, go_sem, *]) rfl ⟨_, rfl, ⟨_, rfl, ?_⟩, ?_⟩
      · exact ptsV_of_own (ownsRow_setCell_below (ownsRow_setCell_below HOWN.out (by show w.heap.size + 1 < _; omega) _) (by show w.heap.size + 1 < _; omega) _) (by rw [invPts_length]; omega)
      · exact (hbwr.setCell (by simp) _).setCell (by simp) _

set_option maxHeartbeats 1000000 in
theorem inv_bad (K : Int) (pv : Value) (c : Cv) (w : World) (hv : CvV w (.agg #[.int .i64 K, pv]) c) (hck : checkC c ≠ 0) :
    Calls Tryd.prog 19 #[(.agg #[.int .i64 K, pv])] w (InvPost w ⟨0, []⟩ (checkC c)) := by
  have CF := Lib.hid (fun W (hW : Below w.heap.size w W) => checkCurve_any (.agg #[.int .i64 K, pv]) c W (cvV_below hv hW))
  generalize checkC c = k at *
  have hkb : (k != 0) = true := by simpa using hck
  clear hck hv
  go_enter Tryd.func19, Tryd.ntmps19
  go_wp2_with fail
  refine (CF.out _ below2).mono ?_
  rintro e w1 ⟨rfl, hb1⟩
  have hs1 : w.heap.size + 1 < w1.heap.size := by have := hb1.size; simp at this; omega
  have hs0 : w.heap.size < w1.heap.size := by omega
  have hbw := bt below2 hb1
  have e0 : w1.cell? ⟨w.heap.size, 0, none⟩ = some (.int .i64 K) := (hb1.cell (by first | (simp; done) | (simp; omega))).trans (by simp [go_sem])
  have e1 : w1.cell? ⟨w.heap.size, 1, none⟩ = some pv := (hb1.cell (by first | (simp; done) | (simp; omega))).trans (by simp [go_sem])
  have r0 : w1.cell? ⟨w.heap.size + 1, 0, none⟩ = some (.int .i64 0) := (hb1.cell (by first | (simp; done) | (simp; omega))).trans (by simp [go_sem])
  have r1 : w1.cell? ⟨w.heap.size + 1, 1, none⟩ = some (.slice none 0 0) := (hb1.cell (by first | (simp; done) | (simp; omega))).trans (by simp [go_sem])
  have q0 : w1.frozen? ⟨w.heap.size + 1, 0, none⟩ = false := (hb1.frozen (by first | (simp; done) | (simp; omega))).trans (by simp [go_sem])
  have q1 : w1.frozen? ⟨w.heap.size + 1, 1, none⟩ = false := (hb1.frozen (by first | (simp; done) | (simp; omega))).trans (by simp [go_sem])
  clear hb1
  go_wp2
  refine bodyPost_ret (v := .tuple #[.agg #[.int .i64 0, .slice none 0 0], .int .i64 k]) (by simp [results, Tryd.results19, go_sem, *]) rfl ⟨_, rfl, ⟨_, rfl, .inl ⟨rfl, none, 0, rfl⟩⟩, ?_⟩
  exact (hbw.setCell (by simp) _).setCell (by simp) _

set_option maxHeartbeats 1000000 in
theorem inv_5 (pv : Value) (c : Cv) (w : World) (hv : CvV w (.agg #[.int .i64 5, pv]) c) (hck : checkC c = 0) :
    Calls Tryd.prog 19 #[(.agg #[.int .i64 5, pv])] w (InvPost w ⟨0, []⟩ 3) := by
  have CF := Lib.hid (fun W (hW : Below w.heap.size w W) => checkCurve_any (.agg #[.int .i64 5, pv]) c W (cvV_below hv hW))
  rw [hck] at CF
  clear hck hv
  go_enter Tryd.func19, Tryd.ntmps19
  go_wp2_with fail
  refine (CF.out _ below2).mono ?_
  rintro e w1 ⟨rfl, hb1⟩
  have hs1 : w.heap.size + 1 < w1.heap.size := by have := hb1.size; simp at this; omega
  have hs0 : w.heap.size < w1.heap.size := by omega
  have hbw := bt below2 hb1
  have e0 : w1.cell? ⟨w.heap.size, 0, none⟩ = some (.int .i64 5) := (hb1.cell (by first | (simp; done) | (simp; omega))).trans (by simp [go_sem])
  have e1 : w1.cell? ⟨w.heap.size, 1, none⟩ = some pv := (hb1.cell (by first | (simp; done) | (simp; omega))).trans (by simp [go_sem])
  have r0 : w1.cell? ⟨w.heap.size + 1, 0, none⟩ = some (.int .i64 0) := (hb1.cell (by first | (simp; done) | (simp; omega))).trans (by simp [go_sem])
  have r1 : w1.cell? ⟨w.heap.size + 1, 1, none⟩ = some (.slice none 0 0) := (hb1.cell (by first | (simp; done) | (simp; omega))).trans (by simp [go_sem])
  have q0 : w1.frozen? ⟨w.heap.size + 1, 0, none⟩ = false := (hb1.frozen (by first | (simp; done) | (simp; omega))).trans (by simp [go_sem])
  have q1 : w1.frozen? ⟨w.heap.size + 1, 1, none⟩ = false := (hb1.frozen (by first | (simp; done) | (simp; omega))).trans (by simp [go_sem])
  clear hb1
  go_wp2
  refine bodyPost_ret (v := .tuple #[.agg #[.int .i64 0, .slice none 0 0], .int .i64 3]) (by simp [results, Tryd.results19, go_sem, *]) rfl ⟨_, rfl, ⟨_, rfl, .inl ⟨rfl, none, 0, rfl⟩⟩, ?_⟩
  exact (hbw.setCell (by simp) _).setCell (by simp) _

set_option maxHeartbeats 1000000 in
theorem inv_2 (pv : Value) (c : Cv) (w : World) (hv : CvV w (.agg #[.int .i64 2, pv]) c) (hck : checkC c = 0) :
    Calls Tryd.prog 19 #[(.agg #[.int .i64 2, pv])] w (InvPost w ⟨3, []⟩ 0) := by
  have CF := Lib.hid (fun W (hW : Below w.heap.size w W) => checkCurve_any (.agg #[.int .i64 2, pv]) c W (cvV_below hv hW))
  rw [hck] at CF
  clear hck hv
  go_enter Tryd.func19, Tryd.ntmps19
  go_wp2_with fail
  refine (CF.out _ below2).mono ?_
  rintro e w1 ⟨rfl, hb1⟩
  have hs1 : w.heap.size + 1 < w1.heap.size := by have := hb1.size; simp at this; omega
  have hs0 : w.heap.size < w1.heap.size := by omega
  have hbw := bt below2 hb1
  have e0 : w1.cell? ⟨w.heap.size, 0, none⟩ = some (.int .i64 2) := (hb1.cell (by first | (simp; done) | (simp; omega))).trans (by simp [go_sem])
  have e1 : w1.cell? ⟨w.heap.size, 1, none⟩ = some pv := (hb1.cell (by first | (simp; done) | (simp; omega))).trans (by simp [go_sem])
  have r0 : w1.cell? ⟨w.heap.size + 1, 0, none⟩ = some (.int .i64 0) := (hb1.cell (by first | (simp; done) | (simp; omega))).trans (by simp [go_sem])
  have r1 : w1.cell? ⟨w.heap.size + 1, 1, none⟩ = some (.slice none 0 0) := (hb1.cell (by first | (simp; done) | (simp; omega))).trans (by simp [go_sem])
  have q0 : w1.frozen? ⟨w.heap.size + 1, 0, none⟩ = false := (hb1.frozen (by first | (simp; done) | (simp; omega))).trans (by simp [go_sem])
  have q1 : w1.frozen? ⟨w.heap.size + 1, 1, none⟩ = false := (hb1.frozen (by first | (simp; done) | (simp; omega))).trans (by simp [go_sem])
  clear hb1
  go_wp2
  refine bodyPost_ret (v := .tuple #[.agg #[.int .i64 3, .slice none 0 0], .int .i64 0]) (by simp [results, Tryd.results19, go_sem, *]) rfl ⟨_, rfl, ⟨_, rfl, .inl ⟨rfl, none, 0, rfl⟩⟩, ?_⟩
  exact (hbw.setCell (by simp) _).setCell (by simp) _

set_option maxHeartbeats 1000000 in
theorem inv_3 (pv : Value) (c : Cv) (w : World) (hv : CvV w (.agg #[.int .i64 3, pv]) c) (hck : checkC c = 0) :
    Calls Tryd.prog 19 #[(.agg #[.int .i64 3, pv])] w (InvPost w ⟨2, []⟩ 0) := by
  have CF := Lib.hid (fun W (hW : Below w.heap.size w W) => checkCurve_any (.agg #[.int .i64 3, pv]) c W (cvV_below hv hW))
  rw [hck] at CF
  clear hck hv
  go_enter Tryd.func19, Tryd.ntmps19
  go_wp2_with fail
  refine (CF.out _ below2).mono ?_
  rintro e w1 ⟨rfl, hb1⟩
  have hs1 : w.heap.size + 1 < w1.heap.size := by have := hb1.size; simp at this; omega
  have hs0 : w.heap.size < w1.heap.size := by omega
  have hbw := bt below2 hb1
  have e0 : w1.cell? ⟨w.heap.size, 0, none⟩ = some (.int .i64 3) := (hb1.cell (by first | (simp; done) | (simp; omega))).trans (by simp [go_sem])
  have e1 : w1.cell? ⟨w.heap.size, 1, none⟩ = some pv := (hb1.cell (by first | (simp; done) | (simp; omega))).trans (by simp [go_sem])
  have r0 : w1.cell? ⟨w.heap.size + 1, 0, none⟩ = some (.int .i64 0) := (hb1.cell (by first | (simp; done) | (simp; omega))).trans (by simp [go_sem])
  have r1 : w1.cell? ⟨w.heap.size + 1, 1, none⟩ = some (.slice none 0 0) := (hb1.cell (by first | (simp; done) | (simp; omega))).trans (by simp [go_sem])
  have q0 : w1.frozen? ⟨w.heap.size + 1, 0, none⟩ = false := (hb1.frozen (by first | (simp; done) | (simp; omega))).trans (by simp [go_sem])
  have q1 : w1.frozen? ⟨w.heap.size + 1, 1, none⟩ = false := (hb1.frozen (by first | (simp; done) | (simp; omega))).trans (by simp [go_sem])
  clear hb1
  go_wp2
  refine bodyPost_ret (v := .tuple #[.agg #[.int .i64 2, .slice none 0 0], .int .i64 0]) (by simp [results, Tryd.results19, go_sem, *]) rfl ⟨_, rfl, ⟨_, rfl, .inl ⟨rfl, none, 0, rfl⟩⟩, ?_⟩
  exact (hbw.setCell (by simp) _).setCell (by simp) _

set_option maxHeartbeats 1000000 in
theorem inv_empty (K : Int) (ao : Option Addr) (cap : Nat) (c : Cv) (w : World) (hv : CvV w (.agg #[.int .i64 K, .slice ao 0 cap]) c) (hck : checkC c = 0) (k5 : K ≠ 5) (k2 : K ≠ 2) (k3 : K ≠ 3) :
    Calls Tryd.prog 19 #[(.agg #[.int .i64 K, .slice ao 0 cap])] w (InvPost w ⟨K, []⟩ 0) := by
  have CF := Lib.hid (fun W (hW : Below w.heap.size w W) => checkCurve_any (.agg #[.int .i64 K, .slice ao 0 cap]) c W (cvV_below hv hW))
  rw [hck] at CF
  have b5 : (K == 5) = false := by simpa using k5
  have b2 : (K == 2) = false := by simpa using k2
  have b3 : (K == 3) = false := by simpa using k3
  clear hck hv k5 k2 k3
  go_enter Tryd.func19, Tryd.ntmps19
  go_wp2_with fail
  refine (CF.out _ below2).mono ?_
  rintro e w1 ⟨rfl, hb1⟩
  have hs1 : w.heap.size + 1 < w1.heap.size := by have := hb1.size; simp at this; omega
  have hs0 : w.heap.size < w1.heap.size := by omega
  have hbw := bt below2 hb1
  have e0 : w1.cell? ⟨w.heap.size, 0, none⟩ = some (.int .i64 K) := (hb1.cell (by first | (simp; done) | (simp; omega))).trans (by simp [go_sem])
  have e1 : w1.cell? ⟨w.heap.size, 1, none⟩ = some (.slice ao 0 cap) := (hb1.cell (by first | (simp; done) | (simp; omega))).trans (by simp [go_sem])
  have r0 : w1.cell? ⟨w.heap.size + 1, 0, none⟩ = some (.int .i64 0) := (hb1.cell (by first | (simp; done) | (simp; omega))).trans (by simp [go_sem])
  have r1 : w1.cell? ⟨w.heap.size + 1, 1, none⟩ = some (.slice none 0 0) := (hb1.cell (by first | (simp; done) | (simp; omega))).trans (by simp [go_sem])
  have q0 : w1.frozen? ⟨w.heap.size + 1, 0, none⟩ = false := (hb1.frozen (by first | (simp; done) | (simp; omega))).trans (by simp [go_sem])
  have q1 : w1.frozen? ⟨w.heap.size + 1, 1, none⟩ = false := (hb1.frozen (by first | (simp; done) | (simp; omega))).trans (by simp [go_sem])
  clear hb1
  go_wp2
  refine wp_loop_rounds 1 ?_; rw [rounds_succ]
  go_wp2
  refine bodyPost_ret (v := .tuple #[.agg #[.int .i64 K, .slice none 0 0], .int .i64 0]) (by simp [results, Tryd.results19, go_sem, *]) rfl ⟨_, rfl, ⟨_, rfl, .inl ⟨rfl, none, 0, rfl⟩⟩, ?_⟩
  exact ((hbw.setCell (by simp) _).setCell (by simp) _).alloc (by simpa [World.setCell] using hbw.size) _

noncomputable def invR (c : Cv) : Cv := if checkC c ≠ 0 then ⟨0, []⟩ else if c.kind = 5 then ⟨0, []⟩ else invC c
noncomputable def invE (c : Cv) : Int := if checkC c ≠ 0 then checkC c else if c.kind = 5 then 3 else 0

theorem Inverse_any (v : Value) (c : Cv) (w : World) (hv : CvV w v c) : Calls Tryd.prog 19 #[v] w (InvPost w (invR c) (invE c)) := by
  have hv' := hv
  obtain ⟨p, rfl, hp⟩ := hv
  by_cases hck : checkC c = 0
  · have hr := (checkC_right c).1 hck
    by_cases h5 : c.kind = 5
    · have eR : invR c = ⟨0, []⟩ := by unfold invR; rw [if_neg (fun k => k hck), if_pos h5]
      have eE : invE c = 3 := by unfold invE; rw [if_neg (fun k => k hck), if_pos h5]
      rw [eR, eE, h5]
      rw [h5] at hv'
      exact inv_5 p c w hv' hck
    · have eR : invR c = invC c := by unfold invR; rw [if_neg (fun k => k hck), if_neg h5]
      have eE : invE c = 0 := by unfold invE; rw [if_neg (fun k => k hck), if_neg h5]
      rw [eR, eE]
      unfold invC
      by_cases h2 : c.kind = 2
      · rw [if_pos h2, hr.2.2.1 (by omega)]
        rw [h2] at hv' ⊢
        exact inv_2 p c w hv' hck
      · rw [if_neg h2]
        by_cases h3 : c.kind = 3
        · rw [if_pos h3, hr.2.2.1 (by omega)]
          rw [h3] at hv' ⊢
          exact inv_3 p c w hv' hck
        · rw [if_neg h3]
          rcases hp with ⟨h, ao, cap, rfl⟩ | ⟨h, hm, b, off, cap, rfl, hb, hp⟩
          · rw [h]
            exact inv_empty c.kind ao cap c w hv' hck h5 h2 h3
          · have h6 : c.kind = 6 := Classical.byContradiction fun k => h (hr.2.2.1 k)
            obtain ⟨_, l20, lr, _⟩ := hr.2.2.2 h6
            exact inv_table c.kind b off cap c.pts w hb hp (List.length_pos_iff.2 h) l20 h5 h2 h3 lr hck
  · have eR : invR c = ⟨0, []⟩ := by unfold invR; rw [if_pos hck]
    have eE : invE c = checkC c := by unfold invE; rw [if_pos hck]
    rw [eR, eE]
    exact inv_bad c.kind p c w hv' hck
end Go.Proofs.YtdicoggpcobbpaaDoor
