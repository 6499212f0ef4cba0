/- The reference's Inverse (printed by gen/gen_rinverse.py). -/
import Derived.Test.YtdicoggpcobbpaaDoorRCheck
import Derived.Test.YtdicoggpcobbpaaDoorInverse
import Derived.StillTailTactics
import Derived.Deep.RegionLaw
import Derived.Lib.AppendZeros
import Derived.RegionTactic
namespace Go.Proofs.YtdicoggpcobbpaaDoor
open Go.RowKit
open Classical
set_option linter.unusedVariables false
set_option linter.unusedSimpArgs false

theorem step_pt {w : World} {ops : Array Oper} {o : Oper} {a : Act} {K : Act → World → Prop} {Q : Exit → Act → World → Prop} {E : Prop} (hgd : o.guard = none) (s x : Operand)
    (hop : o.op = .call { callee := .builtin .append, args := #[s, x], argTypes := #[29, 29] }) (hty : o.type = 29)
    (base n : Nat) (v : Value) (xs : List Value) (ad : Addr) (p q : Int) (hs : a.eval s = v) (hx : a.eval x = .slice (some ad) 1 1)
    (ho : w.ownsRow base 63 2 v n xs) (c0 : w.cell? (ad.add 0) = some (.int .i64 p)) (c1 : w.cell? (ad.add 1) = some (.int .i64 q)) (hl : n ≤ 100000) (hb : base ≤ w.heap.size)
    (h : ∀ v' w', w'.ownsRow base 63 2 v' (n + 1) (xs ++ [.int .i64 p, .int .i64 q]) → w.grownBy w' v.ownBlock → K (a.put o.dst v') w') :
    if Region.wanted o (yielded ops a.tmps) = true then Oper.wp Tryd.prog o a w K Q else E := by
  rw [if_pos (by simp [Region.wanted, hgd])]
  obtain ⟨i0, hi, hz0, hz1, hz2⟩ := info_parts infoPoint
  obtain ⟨v', w', hr, h1, h2, _⟩ := run_append_own (P := Tryd.prog) w base 29 29 63 i0 (.agg #[.int .i64 0, .int .i64 0]) 2 16 Tryd.underlying29 hi hz0 hz1 hz2 rfl (by omega) v n xs ho ad 1 1 [.int .i64 p, .int .i64 q] rfl (by
    intro j u hu
    match j, hu with
    | 0, hu => simp at hu; subst hu; exact c0
    | 1, hu => simp at hu; subst hu; exact c1) (by intro u hu; simp at hu; rcases hu with rfl | rfl <;> rfl) (by unfold maxLen; omega) (by omega) hb
  exact Lib.wp_append_run w s x _ _ hop v _ hs hx v' w' (by rw [hty]; exact hr) (h v' w' h1 h2)

set_option maxHeartbeats 1000000 in
theorem rinv_bad (K : Int) (pv : Value) (c : Cv) (w : World) (hv : CvV w (.agg #[.int .i64 K, pv]) c) (hck : checkC c ≠ 0) :
    Calls Tryd.prog 24 #[(.agg #[.int .i64 K, pv])] w (InvPost w ⟨0, []⟩ (checkC c)) := by
  have CF := Lib.hid (fun W (hW : Below w.heap.size w W) => rcheckCurve_any (.agg #[.int .i64 K, pv]) c W (cvV_below hv hW))
  generalize checkC c = k at *
  have hkb : (k != 0) = true := by simpa using hck
  clear hck hv
  go_enter Tryd.func24, Tryd.ntmps24
  go_wp2_with fail
  refine (CF.out _ below2).mono ?_
  rintro e w1 ⟨rfl, hb1⟩
  have hs1 : w.heap.size + 1 < w1.heap.size := by have := hb1.size; simp at this; omega
  have hs0 : w.heap.size < w1.heap.size := by omega
  have hbw := bt below2 hb1
  have e0 : w1.cell? ⟨w.heap.size, 0, none⟩ = some (.int .i64 K) := (hb1.cell (by first | (simp; done) | (simp; omega))).trans (by simp [go_sem])
  have e1 : w1.cell? ⟨w.heap.size, 1, none⟩ = some pv := (hb1.cell (by first | (simp; done) | (simp; omega))).trans (by simp [go_sem])
  have r0 : w1.cell? ⟨w.heap.size + 1, 0, none⟩ = some (.int .i64 0) := (hb1.cell (by first | (simp; done) | (simp; omega))).trans (by simp [go_sem])
  have r1 : w1.cell? ⟨w.heap.size + 1, 1, none⟩ = some (.slice none 0 0) := (hb1.cell (by first | (simp; done) | (simp; omega))).trans (by simp [go_sem])
  have q0 : w1.frozen? ⟨w.heap.size + 1, 0, none⟩ = false := (hb1.frozen (by first | (simp; done) | (simp; omega))).trans (by simp [go_sem])
  have q1 : w1.frozen? ⟨w.heap.size + 1, 1, none⟩ = false := (hb1.frozen (by first | (simp; done) | (simp; omega))).trans (by simp [go_sem])
  have m0 : w1.frozen? ⟨w.heap.size, 0, none⟩ = false := (hb1.frozen (by first | (simp; done) | (simp; omega))).trans (by simp [go_sem])
  have m1 : w1.frozen? ⟨w.heap.size, 1, none⟩ = false := (hb1.frozen (by first | (simp; done) | (simp; omega))).trans (by simp [go_sem])
  clear hb1
  go_wp2
  refine bodyPost_ret (v := .tuple #[.agg #[.int .i64 0, .slice none 0 0], .int .i64 k]) (by simp [results, Tryd.results24, go_sem, *]) rfl ⟨_, rfl, ⟨_, rfl, .inl ⟨rfl, none, 0, rfl⟩⟩, ?_⟩
  exact (hbw.setCell (by simp) _).setCell (by simp) _

set_option maxHeartbeats 1000000 in
theorem rinv_5 (pv : Value) (c : Cv) (w : World) (hv : CvV w (.agg #[.int .i64 5, pv]) c) (hck : checkC c = 0) :
    Calls Tryd.prog 24 #[(.agg #[.int .i64 5, pv])] w (InvPost w ⟨0, []⟩ 3) := by
  have CF := Lib.hid (fun W (hW : Below w.heap.size w W) => rcheckCurve_any (.agg #[.int .i64 5, pv]) c W (cvV_below hv hW))
  rw [hck] at CF
  clear hck hv
  go_enter Tryd.func24, Tryd.ntmps24
  go_wp2_with fail
  refine (CF.out _ below2).mono ?_
  rintro e w1 ⟨rfl, hb1⟩
  have hs1 : w.heap.size + 1 < w1.heap.size := by have := hb1.size; simp at this; omega
  have hs0 : w.heap.size < w1.heap.size := by omega
  have hbw := bt below2 hb1
  have e0 : w1.cell? ⟨w.heap.size, 0, none⟩ = some (.int .i64 5) := (hb1.cell (by first | (simp; done) | (simp; omega))).trans (by simp [go_sem])
  have e1 : w1.cell? ⟨w.heap.size, 1, none⟩ = some pv := (hb1.cell (by first | (simp; done) | (simp; omega))).trans (by simp [go_sem])
  have r0 : w1.cell? ⟨w.heap.size + 1, 0, none⟩ = some (.int .i64 0) := (hb1.cell (by first | (simp; done) | (simp; omega))).trans (by simp [go_sem])
  have r1 : w1.cell? ⟨w.heap.size + 1, 1, none⟩ = some (.slice none 0 0) := (hb1.cell (by first | (simp; done) | (simp; omega))).trans (by simp [go_sem])
  have q0 : w1.frozen? ⟨w.heap.size + 1, 0, none⟩ = false := (hb1.frozen (by first | (simp; done) | (simp; omega))).trans (by simp [go_sem])
  have q1 : w1.frozen? ⟨w.heap.size + 1, 1, none⟩ = false := (hb1.frozen (by first | (simp; done) | (simp; omega))).trans (by simp [go_sem])
  have m0 : w1.frozen? ⟨w.heap.size, 0, none⟩ = false := (hb1.frozen (by first | (simp; done) | (simp; omega))).trans (by simp [go_sem])
  have m1 : w1.frozen? ⟨w.heap.size, 1, none⟩ = false := (hb1.frozen (by first | (simp; done) | (simp; omega))).trans (by simp [go_sem])
  clear hb1
  go_wp2
  refine bodyPost_ret (v := .tuple #[.agg #[.int .i64 0, .slice none 0 0], .int .i64 3]) (by simp [results, Tryd.results24, go_sem, *]) rfl ⟨_, rfl, ⟨_, rfl, .inl ⟨rfl, none, 0, rfl⟩⟩, ?_⟩
  exact (hbw.setCell (by simp) _).setCell (by simp) _

set_option maxHeartbeats 1000000 in
theorem rinv_2 (ao : Option Addr) (cap : Nat) (c : Cv) (w : World) (hv : CvV w (.agg #[.int .i64 2, .slice ao 0 cap]) c) (hck : checkC c = 0) :
    Calls Tryd.prog 24 #[(.agg #[.int .i64 2, .slice ao 0 cap])] w (InvPost w ⟨3, []⟩ 0) := by
  have CF := Lib.hid (fun W (hW : Below w.heap.size w W) => rcheckCurve_any (.agg #[.int .i64 2, .slice ao 0 cap]) c W (cvV_below hv hW))
  rw [hck] at CF
  clear hck hv
  go_enter Tryd.func24, Tryd.ntmps24
  go_wp2_with fail
  refine (CF.out _ below2).mono ?_
  rintro e w1 ⟨rfl, hb1⟩
  have hs1 : w.heap.size + 1 < w1.heap.size := by have := hb1.size; simp at this; omega
  have hs0 : w.heap.size < w1.heap.size := by omega
  have hbw := bt below2 hb1
  have e0 : w1.cell? ⟨w.heap.size, 0, none⟩ = some (.int .i64 2) := (hb1.cell (by first | (simp; done) | (simp; omega))).trans (by simp [go_sem])
  have e1 : w1.cell? ⟨w.heap.size, 1, none⟩ = some (.slice ao 0 cap) := (hb1.cell (by first | (simp; done) | (simp; omega))).trans (by simp [go_sem])
  have r0 : w1.cell? ⟨w.heap.size + 1, 0, none⟩ = some (.int .i64 0) := (hb1.cell (by first | (simp; done) | (simp; omega))).trans (by simp [go_sem])
  have r1 : w1.cell? ⟨w.heap.size + 1, 1, none⟩ = some (.slice none 0 0) := (hb1.cell (by first | (simp; done) | (simp; omega))).trans (by simp [go_sem])
  have q0 : w1.frozen? ⟨w.heap.size + 1, 0, none⟩ = false := (hb1.frozen (by first | (simp; done) | (simp; omega))).trans (by simp [go_sem])
  have q1 : w1.frozen? ⟨w.heap.size + 1, 1, none⟩ = false := (hb1.frozen (by first | (simp; done) | (simp; omega))).trans (by simp [go_sem])
  have m0 : w1.frozen? ⟨w.heap.size, 0, none⟩ = false := (hb1.frozen (by first | (simp; done) | (simp; omega))).trans (by simp [go_sem])
  have m1 : w1.frozen? ⟨w.heap.size, 1, none⟩ = false := (hb1.frozen (by first | (simp; done) | (simp; omega))).trans (by simp [go_sem])
  clear hb1
  go_wp2
  refine wp_loop_rounds 1 ?_; rw [rounds_succ]
  go_wp2
  refine bodyPost_ret (v := .tuple #[.agg #[.int .i64 3, .slice none 0 0], .int .i64 0]) (by simp [results, Tryd.results24, go_sem, *]) rfl ⟨_, rfl, ⟨_, rfl, .inl ⟨rfl, none, 0, rfl⟩⟩, ?_⟩
  exact (((hbw.setCell (by simp) _).setCell (by simp) _).setCell (by simp) _).setCell (by simp) _

set_option maxHeartbeats 1000000 in
theorem rinv_3 (ao : Option Addr) (cap : Nat) (c : Cv) (w : World) (hv : CvV w (.agg #[.int .i64 3, .slice ao 0 cap]) c) (hck : checkC c = 0) :
    Calls Tryd.prog 24 #[(.agg #[.int .i64 3, .slice ao 0 cap])] w (InvPost w ⟨2, []⟩ 0) := by
  have CF := Lib.hid (fun W (hW : Below w.heap.size w W) => rcheckCurve_any (.agg #[.int .i64 3, .slice ao 0 cap]) c W (cvV_below hv hW))
  rw [hck] at CF
  clear hck hv
  go_enter Tryd.func24, Tryd.ntmps24
  go_wp2_with fail
  refine (CF.out _ below2).mono ?_
  rintro e w1 ⟨rfl, hb1⟩
  have hs1 : w.heap.size + 1 < w1.heap.size := by have := hb1.size; simp at this; omega
  have hs0 : w.heap.size < w1.heap.size := by omega
  have hbw := bt below2 hb1
  have e0 : w1.cell? ⟨w.heap.size, 0, none⟩ = some (.int .i64 3) := (hb1.cell (by first | (simp; done) | (simp; omega))).trans (by simp [go_sem])
  have e1 : w1.cell? ⟨w.heap.size, 1, none⟩ = some (.slice ao 0 cap) := (hb1.cell (by first | (simp; done) | (simp; omega))).trans (by simp [go_sem])
  have r0 : w1.cell? ⟨w.heap.size + 1, 0, none⟩ = some (.int .i64 0) := (hb1.cell (by first | (simp; done) | (simp; omega))).trans (by simp [go_sem])
  have r1 : w1.cell? ⟨w.heap.size + 1, 1, none⟩ = some (.slice none 0 0) := (hb1.cell (by first | (simp; done) | (simp; omega))).trans (by simp [go_sem])
  have q0 : w1.frozen? ⟨w.heap.size + 1, 0, none⟩ = false := (hb1.frozen (by first | (simp; done) | (simp; omega))).trans (by simp [go_sem])
  have q1 : w1.frozen? ⟨w.heap.size + 1, 1, none⟩ = false := (hb1.frozen (by first | (simp; done) | (simp; omega))).trans (by simp [go_sem])
  have m0 : w1.frozen? ⟨w.heap.size, 0, none⟩ = false := (hb1.frozen (by first | (simp; done) | (simp; omega))).trans (by simp [go_sem])
  have m1 : w1.frozen? ⟨w.heap.size, 1, none⟩ = false := (hb1.frozen (by first | (simp; done) | (simp; omega))).trans (by simp [go_sem])
  clear hb1
  go_wp2
  refine wp_loop_rounds 1 ?_; rw [rounds_succ]
  go_wp2
  refine bodyPost_ret (v := .tuple #[.agg #[.int .i64 2, .slice none 0 0], .int .i64 0]) (by simp [results, Tryd.results24, go_sem, *]) rfl ⟨_, rfl, ⟨_, rfl, .inl ⟨rfl, none, 0, rfl⟩⟩, ?_⟩
  exact (((hbw.setCell (by simp) _).setCell (by simp) _).setCell (by simp) _).setCell (by simp) _

set_option maxHeartbeats 1000000 in
theorem rinv_empty (K : Int) (ao : Option Addr) (cap : Nat) (c : Cv) (w : World) (hv : CvV w (.agg #[.int .i64 K, .slice ao 0 cap]) c) (hck : checkC c = 0) (k5 : K ≠ 5) (k2 : K ≠ 2) (k3 : K ≠ 3) :
    Calls Tryd.prog 24 #[(.agg #[.int .i64 K, .slice ao 0 cap])] w (InvPost w ⟨K, []⟩ 0) := by
  have CF := Lib.hid (fun W (hW : Below w.heap.size w W) => rcheckCurve_any (.agg #[.int .i64 K, .slice ao 0 cap]) c W (cvV_below hv hW))
  rw [hck] at CF
  have b5 : (K == 5) = false := by simpa using k5
  have b2 : (K == 2) = false := by simpa using k2
  have b3 : (K == 3) = false := by simpa using k3
  clear hck hv k5 k2 k3
  go_enter Tryd.func24, Tryd.ntmps24
  go_wp2_with fail
  refine (CF.out _ below2).mono ?_
  rintro e w1 ⟨rfl, hb1⟩
  have hs1 : w.heap.size + 1 < w1.heap.size := by have := hb1.size; simp at this; omega
  have hs0 : w.heap.size < w1.heap.size := by omega
  have hbw := bt below2 hb1
  have e0 : w1.cell? ⟨w.heap.size, 0, none⟩ = some (.int .i64 K) := (hb1.cell (by first | (simp; done) | (simp; omega))).trans (by simp [go_sem])
  have e1 : w1.cell? ⟨w.heap.size, 1, none⟩ = some (.slice ao 0 cap) := (hb1.cell (by first | (simp; done) | (simp; omega))).trans (by simp [go_sem])
  have r0 : w1.cell? ⟨w.heap.size + 1, 0, none⟩ = some (.int .i64 0) := (hb1.cell (by first | (simp; done) | (simp; omega))).trans (by simp [go_sem])
  have r1 : w1.cell? ⟨w.heap.size + 1, 1, none⟩ = some (.slice none 0 0) := (hb1.cell (by first | (simp; done) | (simp; omega))).trans (by simp [go_sem])
  have q0 : w1.frozen? ⟨w.heap.size + 1, 0, none⟩ = false := (hb1.frozen (by first | (simp; done) | (simp; omega))).trans (by simp [go_sem])
  have q1 : w1.frozen? ⟨w.heap.size + 1, 1, none⟩ = false := (hb1.frozen (by first | (simp; done) | (simp; omega))).trans (by simp [go_sem])
  have m0 : w1.frozen? ⟨w.heap.size, 0, none⟩ = false := (hb1.frozen (by first | (simp; done) | (simp; omega))).trans (by simp [go_sem])
  have m1 : w1.frozen? ⟨w.heap.size, 1, none⟩ = false := (hb1.frozen (by first | (simp; done) | (simp; omega))).trans (by simp [go_sem])
  clear hb1
  go_wp2
  refine wp_loop_rounds 1 ?_; rw [rounds_succ]
  go_wp2
  refine bodyPost_ret (v := .tuple #[.agg #[.int .i64 K, .slice none 0 0], .int .i64 0]) (by simp [results, Tryd.results24, go_sem, *]) rfl ⟨_, rfl, ⟨_, rfl, .inl ⟨rfl, none, 0, rfl⟩⟩, ?_⟩
  exact ((hbw.setCell (by simp) _).setCell (by simp) _).setCell (by simp) _


set_option maxHeartbeats 4000000 in
set_option maxRecDepth 100000 in
theorem rinv_table (K : Int) (b off cap : Nat) (ps : List (Int × Int)) (w : World) (hb : b < w.heap.size) (hp : PtsAt w b off ps) (h2 : 0 < ps.length) (h20 : ps.length ≤ 20) (k5 : K ≠ 5) (k2 : K ≠ 2) (k3 : K ≠ 3)
    (hr : ∀ x ∈ ps, 0 ≤ x.1 ∧ x.1 ≤ 1000 ∧ 0 ≤ x.2 ∧ x.2 ≤ 1000) (hck : checkC ⟨K, ps⟩ = 0) :
    Calls Tryd.prog 24 #[.agg #[.int .i64 K, .slice (some ⟨b, off, none⟩) ps.length cap]] w (InvPost w ⟨K, invPts ps⟩ 0) := by
  have CF := Lib.hid (fun W (hW : Below w.heap.size w W) => rcheckCurve_any (.agg #[.int .i64 K, .slice (some ⟨b, off, none⟩) ps.length cap]) ⟨K, ps⟩ W ⟨_, rfl, ptsV_below (.inr ⟨by intro (h : ps = []); rw [h] at h2; simp at h2, show ps.length ≤ _ by omega, b, off, cap, rfl, hb, hp⟩) hW⟩)
  rw [hck] at CF
  have HR := Lib.hid hr
  have HP := Lib.hid hp
  have b5 : (K == 5) = false := by simpa using k5
  have b2 : (K == 2) = false := by simpa using k2
  have b3 : (K == 3) = false := by simpa using k3
  obtain ⟨i0, hi, hz0, hz1, hz2⟩ := info_parts infoPoint
  clear hr hp hck k5 k2 k3
  go_enter Tryd.func24, Tryd.ntmps24
  go_wp2_with fail
  refine (CF.out _ below2).mono ?_
  rintro e w1 ⟨rfl, hb1⟩
  have hs1 : w.heap.size + 1 < w1.heap.size := by have := hb1.size; simp at this; omega
  have hs0 : w.heap.size < w1.heap.size := by omega
  have hbw := bt below2 hb1
  have e0 : w1.cell? ⟨w.heap.size, 0, none⟩ = some (.int .i64 K) := (hb1.cell (by first | (simp; done) | (simp; omega))).trans (by simp [go_sem])
  have e1 : w1.cell? ⟨w.heap.size, 1, none⟩ = some (.slice (some ⟨b, off, none⟩) ps.length cap) := (hb1.cell (by first | (simp; done) | (simp; omega))).trans (by simp [go_sem])
  have r0 : w1.cell? ⟨w.heap.size + 1, 0, none⟩ = some (.int .i64 0) := (hb1.cell (by first | (simp; done) | (simp; omega))).trans (by simp [go_sem])
  have r1 : w1.cell? ⟨w.heap.size + 1, 1, none⟩ = some (.slice none 0 0) := (hb1.cell (by first | (simp; done) | (simp; omega))).trans (by simp [go_sem])
  have q0 : w1.frozen? ⟨w.heap.size + 1, 0, none⟩ = false := (hb1.frozen (by first | (simp; done) | (simp; omega))).trans (by simp [go_sem])
  have q1 : w1.frozen? ⟨w.heap.size + 1, 1, none⟩ = false := (hb1.frozen (by first | (simp; done) | (simp; omega))).trans (by simp [go_sem])
  have m0 : w1.frozen? ⟨w.heap.size, 0, none⟩ = false := (hb1.frozen (by first | (simp; done) | (simp; omega))).trans (by simp [go_sem])
  have m1 : w1.frozen? ⟨w.heap.size, 1, none⟩ = false := (hb1.frozen (by first | (simp; done) | (simp; omega))).trans (by simp [go_sem])
  clear hb1
  go_wp2_with fail
  go_loopw [5, 6] (fun v i wr => ∃ n : Int, -1 ≤ n ∧ n < ps.length ∧ i = .int .i64 n ∧
      wr.ownsRow w1.heap.size 63 2 v (ps.length - 1 - n).toNat (ptCells ((invPts ps).take (ps.length - 1 - n).toNat)) ∧ Below w1.heap.size w1 wr) (fun _ i _ => (intOf i + 1).toNat)
  case atStart =>
    refine ⟨(ps.length : Int) - 1, by omega, by omega, rfl, ?_, Below.refl _ _⟩
    have e : ((ps.length : Int) - 1 - ((ps.length : Int) - 1)).toNat = 0 := by omega
    rw [e]
    exact World.ownsRow_nil _ _ _ _
  case round =>
    obtain ⟨n, n1, n2, rfl, hown, hbr⟩ := hrel
    obtain ⟨ao, vc, rfl⟩ := own_shape hown
    have OWN := Lib.hid hown
    have hcs : wr.cell? ⟨w.heap.size, 1, none⟩ = some (.slice (some ⟨b, off, none⟩) ps.length cap) := (hbr.cell (by exact hs0)).trans e1
    by_cases hn : 0 ≤ n
    · obtain ⟨j, rfl⟩ := Int.eq_ofNat_of_zero_le hn
      have hj : j < ps.length := by omega
      have hj' : (j : Int) < (ps.length : Int) := by omega
      have hbwr := hbw.trans (hbr.mono hbw.size)
      have hp1 : wr.cell? ⟨b, off + j * 2, none⟩ = some (.int .i64 ps[j].1) := (hbwr.cell hb).trans (HP.out j hj).1
      have hp2 : wr.cell? ⟨b, off + j * 2 + 1, none⟩ = some (.int .i64 ps[j].2) := (hbwr.cell hb).trans (HP.out j hj).2
      obtain ⟨a1, a2, a3, a4⟩ := HR.out ps[j] (List.getElem_mem _)
      have hk : ((ps.length : Int) - 1 - (j : Int)).toNat = ps.length - 1 - j := by omega
      rw [hk] at OWN hown
      have HT := Lib.hid (inv_step ps j hj)
      generalize ps[j] = pj at *
      obtain ⟨x, y⟩ := pj
      simp only at a1 a2 a3 a4 hp1 hp2
      have hwx : IntKind.i64.wrap (1000 - x) = 1000 - x := IntWalk.i64_in _ (by omega)
      have hwy : IntKind.i64.wrap (1000 - y) = 1000 - y := IntWalk.i64_in _ (by omega)
      clear hk hown hbwr
      have hown := OWN.out.drew
      have HBR := Lib.hid hbr
      have hsz1 := hbr.size
      go_wp2_with fail
      have OW1 := Lib.hid (OWN.out.drew.alloc (.cells #[.int .i64 (1000 - x), .int .i64 (1000 - y)] 63))
      have OW2 := Lib.hid ((OWN.out.alloc (.cells #[.int .i64 (1000 - x), .int .i64 (1000 - y)] 63)).drew)
      clear hown
      go_region_law (first
        | (refine step_pt rfl _ _ rfl rfl w1.heap.size (ps.length - 1 - j) _ _ ⟨wr.heap.size, 0, none⟩ (1000 - x) (1000 - y) rfl rfl (by first | exact OW1.out | exact OW2.out) (by simp [Addr.add, go_sem]) (by simp [Addr.add, go_sem]) (by omega) (by simp; omega) ?_; intro v' w2 hown2 hgrow)
        | fail)
      all_goals
        have hlt4 := OW1.out.lt
        have hne : ∀ k, (Value.slice ao (ps.length - 1 - j) vc).ownBlock = some k → w1.heap.size ≤ k := fun k e => (hlt4 _ e).1
        have hb2 : Below w1.heap.size w1 w2 := by
          first
            | exact ((HBR.out.drew).alloc (by simp; omega) _).grown hgrow (by simp; omega) hne
            | exact ((HBR.out.alloc (by omega) _).drew).grown hgrow (by simp; omega) hne
        rw [← HT.out] at hown2
        obtain ⟨ao2, vc2, hv2⟩ := own_shape hown2
        rw [hv2] at hown2 ⊢
        have HO2 := Lib.hid hown2
        have HB2 := Lib.hid hb2
        clear hv2 hown2 hgrow hlt4 hne hb2 hcs hp1 hp2 OWN OW1 OW2 hwx hwy
        go_wp2
        go_roundw
        case rel =>
          have e : ((ps.length : Int) - 1 - ((j : Int) - 1)).toNat = ps.length - 1 - j + 1 := by omega
          first
            | exact ⟨(j : Int) - 1, by omega, by omega, by go_num, by rw [e]; exact HO2.out, HB2.out⟩
            | ((repeat apply Exists.intro); refine ⟨⟨(j : Int) - 1, by omega, by omega, by go_num, by rw [e]; exact HO2.out, HB2.out⟩, ?_⟩; (first | exact rfl | (repeat (first | exact rfl | refine ⟨rfl, ?_⟩))))
        case measure => simp [intOf]
    · obtain rfl : n = -1 := by omega
      have e : ((ps.length : Int) - 1 - (-1)).toNat = ps.length := by omega
      rw [e] at OWN
      have hR : (invPts ps).take ps.length = invPts ps := List.take_of_length_le (by rw [invPts_length]; exact Nat.le_refl _)
      rw [hR] at OWN
      have c0 := (hbr.cell (p := ⟨w.heap.size, 0, none⟩) hs0).trans e0
      have d0 := (hbr.frozen (p := ⟨w.heap.size, 0, none⟩) hs0).trans m0
      have d1 := (hbr.frozen (p := ⟨w.heap.size, 1, none⟩) hs0).trans m1
      have r0' := (hbr.cell (p := ⟨w.heap.size + 1, 0, none⟩) hs1).trans r0
      have r1' := (hbr.cell (p := ⟨w.heap.size + 1, 1, none⟩) hs1).trans r1
      have q0' := (hbr.frozen (p := ⟨w.heap.size + 1, 0, none⟩) hs1).trans q0
      have q1' := (hbr.frozen (p := ⟨w.heap.size + 1, 1, none⟩) hs1).trans q1
      have hsw : w1.heap.size ≤ wr.heap.size := hbr.size
      have HBW := Lib.hid (hbw.trans (hbr.mono hbw.size))
      have HOWN := Lib.hid OWN.out
      clear hown e hR r0 r1 q0 q1 m0 m1 e0 e1 OWN hbr hbw
      go_wp2
      refine bodyPost_ret (v := .tuple #[.agg #[.int .i64 K, .slice ao ps.length vc], .int .i64 0]) (by simp [results, Tryd.results24, go_sem, *]) rfl ⟨_, rfl, ⟨_, rfl, ?_⟩, ?_⟩
      · exact ptsV_of_own (ownsRow_setCell_below (ownsRow_setCell_below (ownsRow_setCell_below HOWN.out (by show w.heap.size < _; omega) _) (by show w.heap.size + 1 < _; omega) _) (by show w.heap.size + 1 < _; omega) _) (by rw [invPts_length]; omega)
      · exact ((HBW.out.setCell (by simp) _).setCell (by simp) _).setCell (by simp) _

theorem rInverse_any (v : Value) (c : Cv) (w : World) (hv : CvV w v c) : Calls Tryd.prog 24 #[v] w (InvPost w (invR c) (invE c)) := by
  have hv' := hv
  obtain ⟨p, rfl, hp⟩ := hv
  by_cases hck : checkC c = 0
  · have hr := (checkC_right c).1 hck
    by_cases h5 : c.kind = 5
    · have eR : invR c = ⟨0, []⟩ := by unfold invR; rw [if_neg (fun k => k hck), if_pos h5]
      have eE : invE c = 3 := by unfold invE; rw [if_neg (fun k => k hck), if_pos h5]
      rw [eR, eE, h5]
      rw [h5] at hv'
      exact rinv_5 p c w hv' hck
    · have eR : invR c = invC c := by unfold invR; rw [if_neg (fun k => k hck), if_neg h5]
      have eE : invE c = 0 := by unfold invE; rw [if_neg (fun k => k hck), if_neg h5]
      rw [eR, eE]
      unfold invC
      by_cases h2 : c.kind = 2
      · rw [if_pos h2, hr.2.2.1 (by omega)]
        rw [h2] at hv' ⊢
        rcases hp with ⟨_, ao, cap, rfl⟩ | ⟨h, _⟩
        · exact rinv_2 ao cap c w hv' hck
        · exact absurd (hr.2.2.1 (by omega)) h
      · rw [if_neg h2]
        by_cases h3 : c.kind = 3
        · rw [if_pos h3, hr.2.2.1 (by omega)]
          rw [h3] at hv' ⊢
          rcases hp with ⟨_, ao, cap, rfl⟩ | ⟨h, _⟩
          · exact rinv_3 ao cap c w hv' hck
          · exact absurd (hr.2.2.1 (by omega)) h
        · rw [if_neg h3]
          rcases hp with ⟨h, ao, cap, rfl⟩ | ⟨h, hm, b, off, cap, rfl, hb, hp⟩
          · rw [h]
            exact rinv_empty c.kind ao cap c w hv' hck h5 h2 h3
          · have h6 : c.kind = 6 := Classical.byContradiction fun k => h (hr.2.2.1 k)
            obtain ⟨_, l20, lr, _⟩ := hr.2.2.2 h6
            exact rinv_table c.kind b off cap c.pts w hb hp (List.length_pos_iff.2 h) l20 h5 h2 h3 lr hck
  · have eR : invR c = ⟨0, []⟩ := by unfold invR; rw [if_pos hck]
    have eE : invE c = checkC c := by unfold invE; rw [if_pos hck]
    rw [eR, eE]
    exact rinv_bad c.kind p c w hv' hck
end Go.Proofs.YtdicoggpcobbpaaDoor
