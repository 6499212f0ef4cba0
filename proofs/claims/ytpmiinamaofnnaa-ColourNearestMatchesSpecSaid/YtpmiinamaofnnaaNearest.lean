/- colour.Distance and colour.Nearest. -/
import Derived.Test.YtpmiinamaofnnaaNearKit
import Derived.Test.YtpmiinamaofnnaaRColCheck
namespace Go.Proofs.Ytpmiinamaofnnaa
open Go.RowKit
set_option linter.unusedVariables false
set_option linter.unusedSimpArgs false

/-- what is wrong with Nearest's arguments -/
def nearF (l : List Gel) (r g b n : Int) : Int := firstF [chkBook l, chkC r g b, whenV (!inB n 0 500) 1]
/-- the gels that are nearest -/
def nearL (l : List Gel) (r g b n : Int) : List Gel := (stb (nearKey r g b) l).take n.toNat
theorem nearF_ok {l : List Gel} {r g b n : Int} (h : nearF l r g b n = 0) : chkBook l = 0 ∧ (LvOkC r ∧ LvOkC g ∧ LvOkC b) ∧ 0 ≤ n ∧ n ≤ 500 := by
  obtain ⟨h1, h2, h3⟩ := firstF3_zero h
  refine ⟨h1, ?_, ?_⟩
  · unfold chkC at h2
    by_cases c : LvOkC r ∧ LvOkC g ∧ LvOkC b
    · exact c
    · rw [if_neg c] at h2; omega
  · by_cases c : 0 ≤ n ∧ n ≤ 500
    · exact c
    · rw [show inB n 0 500 = false from decide_eq_false c] at h3
      simp [whenV] at h3
/-- the end of Nearest -/
def NearP (l : List Gel) (r g b n : Int) (w : World) (e : Ending) (w' : World) : Prop :=
  Below w.heap.size w w' ∧ ∃ v, e = .returned (.tuple #[v, .int .i64 (nearF l r g b n)]) ∧ (nearF l r g b n ≠ 0 → v = .slice none 0 0) ∧ (nearF l r g b n = 0 → GelS w'.heap.size w' v (nearL l r g b n))
set_option maxRecDepth 100000 in
set_option maxHeartbeats 8000000 in
theorem near_sort (base : Nat) (v : Value) (l : List Gel) (q : Nat) (r g b : Int) (w : World) (hO : OwnG base w v l) (hl : l.length ≤ 1000) (c0 : w.cell? ⟨q, 0, none⟩ = some (.int .i64 r)) (c1 : w.cell? ⟨q, 1, none⟩ = some (.int .i64 g)) (c2 : w.cell? ⟨q, 2, none⟩ = some (.int .i64 b)) (hq : q < base) (hb : base ≤ w.heap.size) :
    Calls Try.prog 17 #[v, .func (.func 18) #[] #[.pointer (some ⟨q, 0, none⟩)]] w fun e w' => e = .returned (.tuple #[]) ∧ Below base w w' ∧ ∃ ao cap, v = .slice ao l.length cap ∧ l.length ≤ cap ∧ cap ≤ maxLen ∧ ∀ m W, m ≤ l.length → Below w'.heap.size w' W → GelS W.heap.size W (.slice ao m m) ((stb (nearKey r g b) l).take m) := by
  obtain ⟨ao, cap, rfl⟩ := hO.shape
  rcases hO.2 with ⟨h0, hl0⟩ | ⟨g0, cap', cur, e1, hbg, hg, h1, h2, h3, h4⟩
  · simp only [Value.slice.injEq] at h0
    obtain ⟨rfl, _, rfl⟩ := h0
    have hl0 : l = [] := List.eq_nil_of_length_eq_zero hl0
    subst hl0
    refine (sort_none none 0 _ w).mono ?_
    rintro e w' ⟨rfl, rfl⟩
    refine ⟨rfl, Below.refl _ _, none, 0, rfl, by simp, by unfold maxLen; omega, fun m W hm hW => ?_⟩
    obtain rfl : m = 0 := by simpa using hm
    exact GelS.nil _ _
  · simp only [Value.slice.injEq] at e1
    obtain ⟨rfl, _, rfl⟩ := e1
    obtain ⟨hR, _, _, _⟩ := rowF_own hO
    have hgr : w.grownBy w (some g0) := ⟨rfl, rfl, rfl, Nat.le_refl _, fun _ _ _ => rfl⟩
    refine (sortStable_any g0 l.length cap _ _ _ (nearKey r g b) w w (near_cmp q g0 r g b w c0 c1 c2 (by omega) (by omega)) hgr hR (by omega)).mono ?_
    rintro e w' ⟨rfl, E, hE, hS, hG⟩
    rw [sgm_list] at hS
    refine ⟨rfl, ⟨hG.os, hG.tape, hG.output, hG.size, fun k hk => hG.block k (by omega) (by intro e; injection e with e; omega)⟩, some ⟨g0, 0, none⟩, cap, rfl, h1, h2, fun m W hm hW => ?_⟩
    rw [← hS]
    exact gelS_row (hE.below hW) h1 h2 m hm
set_option maxRecDepth 100000 in
set_option maxHeartbeats 16000000 in
theorem nearest_any (v : Value) (l : List Gel) (r g b n : Int) (w : World) (hv : GelS w.heap.size w v l) (hfit : ∀ x ∈ l, GelFit x) (hn : I64 n) :
    Calls Try.prog 5 #[v, .agg #[.int .i64 r, .int .i64 g, .int .i64 b], .int .i64 n] w (NearP l r g b n w) := by
  have hfit' : ∀ x ∈ l, x.name.size ≤ 9223372036854775807 := fun x hx => by have := (hfit x hx).1; unfold maxLen at this; omega
  have CB := Lib.hid (fun W (hb : Below w.heap.size w W) => chkBook_any v l W ((hv.below hb).more hb.size) hfit')
  have HV := Lib.hid (fun W (hb : Below w.heap.size w W) => (hv.below hb).more hb.size)
  have CC := Lib.hid (pcheck_any r g b)
  have HOK := Lib.hid (show nearF l r g b n = 0 → l.length ≤ 500 ∧ 0 ≤ n ∧ n ≤ 500 from fun h => by
    obtain ⟨h1, _, h3⟩ := nearF_ok h
    exact ⟨(chkBook_ok h1).1, h3⟩)
  have HPO := Lib.hid (show ∀ e w', NearP l r g b n w e w' ↔ (Below w.heap.size w w' ∧ ∃ v, e = .returned (.tuple #[v, .int .i64 (nearF l r g b n)]) ∧ (nearF l r g b n ≠ 0 → v = .slice none 0 0) ∧ (nearF l r g b n = 0 → GelS w'.heap.size w' v ((stb (nearKey r g b) l).take n.toNat))) from fun e w' => Iff.rfl)
  have HFE := Lib.hid (show nearF l r g b n = firstF [chkBook l, chkC r g b, whenV (!inB n 0 500) 1] from rfl)
  generalize nearF l r g b n = E at *
  obtain ⟨ao, cap, rfl, hcap, hmax⟩ : ∃ ao cap, v = .slice ao l.length cap ∧ l.length ≤ cap ∧ cap ≤ maxLen := by
    obtain ⟨ao, cap, e, h1, _⟩ := hv
    exact ⟨ao, cap, e, h1.1, h1.2⟩
  unfold maxLen at hmax
  have KC := Lib.hid (show ∀ W, Below (w.heap.size + 1) (w.alloc (.cells #[.int .i64 r, .int .i64 g, .int .i64 b] 24)) W → (Below w.heap.size w W ∧ w.heap.size < W.heap.size ∧ (W.cell? ⟨w.heap.size, 0, none⟩ = some (.int .i64 r) ∧ W.cell? ⟨w.heap.size, 1, none⟩ = some (.int .i64 g) ∧ W.cell? ⟨w.heap.size, 2, none⟩ = some (.int .i64 b))) from fun W hW => by
    have hz := hW.size
    simp at hz
    refine ⟨((Below.refl _ _).alloc (Nat.le_refl _) _).trans (hW.mono (by omega)), by omega, ?_, ?_, ?_⟩
    · exact (hW.cell (p := ⟨w.heap.size, 0, none⟩) (by simp)).trans (by simp [go_sem, World.cell?_alloc_past])
    · exact (hW.cell (p := ⟨w.heap.size, 1, none⟩) (by simp)).trans (by simp [go_sem, World.cell?_alloc_past])
    · exact (hW.cell (p := ⟨w.heap.size, 2, none⟩) (by simp)).trans (by simp [go_sem, World.cell?_alloc_past]))
  have KA := Lib.hid (show ∀ W o, Below (w.heap.size + 1) (w.alloc (.cells #[.int .i64 r, .int .i64 g, .int .i64 b] 24)) W → Below (w.heap.size + 1) (w.alloc (.cells #[.int .i64 r, .int .i64 g, .int .i64 b] 24)) (W.alloc o) from fun W o h => h.alloc (by have := h.size; simp at this; omega) o)
  have KM := Lib.hid (show ∀ W W', Below (w.heap.size + 1) (w.alloc (.cells #[.int .i64 r, .int .i64 g, .int .i64 b] 24)) W → Below W.heap.size W W' → Below (w.heap.size + 1) (w.alloc (.cells #[.int .i64 r, .int .i64 g, .int .i64 b] 24)) W' from fun W W' h1 h2 => h1.trans (h2.mono (by have := h1.size; simp at this; omega)))
  generalize hce : chkBook l = ce at *
  generalize chkC r g b = cc at *
  generalize hwt : inB n 0 500 = wt at *
  have HCE := Lib.hid hce
  have HWT := Lib.hid hwt
  clear hce hwt hv hfit hfit'
  have CL := Lib.hid (fun W (hb : Below w.heap.size w W) (h500 : l.length ≤ 500) => gels_clone _ l W (by omega) (HV.out W hb))
  go_enter Try.func5, Try.ntmps5
  go_upto_region 1 with fail
  go_cut [8] (fun s8 wx => s8 = .int .i64 E ∧ Below (w.heap.size + 1) (w.alloc (.cells #[.int .i64 r, .int .i64 g, .int .i64 b] 24)) wx)
  case first =>
    have hw0 : Below (w.heap.size + 1) (w.alloc (.cells #[.int .i64 r, .int .i64 g, .int .i64 b] 24)) (w.alloc (.cells #[.int .i64 r, .int .i64 g, .int .i64 b] 24)) := Below.refl _ _
    have hw1 : Below (w.heap.size + 1) (w.alloc (.cells #[.int .i64 r, .int .i64 g, .int .i64 b] 24)) (World.drew (w.alloc (.cells #[.int .i64 r, .int .i64 g, .int .i64 b] 24))) := (Below.refl _ _).drew
    go_region_held3 (fun W' => W'.cell? ⟨w.heap.size, 0, none⟩ = some (.int .i64 r) ∧ W'.cell? ⟨w.heap.size, 1, none⟩ = some (.int .i64 g) ∧ W'.cell? ⟨w.heap.size, 2, none⟩ = some (.int .i64 b))
      (with_reducible first | exact (KC.out _ (by assumption)).2.2 | exact (KC.out _ (KA.out _ _ (by assumption))).2.2)
      (first
        | (go_at_call 12; (with_reducible refine (CB.out _ (KC.out _ (by assumption)).1).mono ?_); rintro e WC ⟨rfl, hbC⟩; have hwC := KM.out _ _ (by assumption) hbC; clear hbC)
        | (go_at_call 13; (with_reducible refine (CC.out _).mono ?_); rintro e WD ⟨rfl, hbD⟩; have hwD := KM.out _ _ (by assumption) hbD; clear hbD)
        | (go_at_call 15; (with_reducible refine (within_B n 0 500 _).mono ?_); rw [HWT.out]; rintro e w' ⟨rfl, rfl⟩)
        | (go_at_call 14; (with_reducible refine (when_B _ 1 _).mono ?_); rintro e w' ⟨rfl, rfl⟩)
        | (go_at_call 11; refine (first3d _ ce cc (whenV (!wt) 1) _ (by simp [go_sem]) (by simp [go_sem]) (by simp [go_sem])).mono ?_; rw [← HFE.out]; rintro e w' ⟨rfl, rfl⟩)
        | fail)
    all_goals go_wp2_with fail
    all_goals go_meet
    all_goals exact ⟨rfl, by with_reducible first | assumption | exact KA.out _ _ (by assumption)⟩
  case rest =>
    obtain ⟨rfl, hb2⟩ := hcut
    obtain ⟨w2, rfl⟩ : ∃ x, x = wc := ⟨wc, rfl⟩
    obtain ⟨hB2, hz2, e0, e1, e2⟩ := KC.out w2 hb2
    have HB2 := Lib.hid hB2
    by_cases hE : E = 0
    rotate_left
    · have hb0 : (E != 0) = true := by simp [hE]
      have HNE := Lib.hid hE
      clear hE hb2 CB CC hB2 KA KM KC
      go_wp2
      refine bodyPost_ret (v := .tuple #[.slice none 0 0, .int .i64 E]) (by simp [results, Try.results5, go_sem, *]) rfl ((HPO.out _ _).2 ⟨HB2.out, _, rfl, fun _ => rfl, fun h => absurd h HNE.out⟩)
    obtain ⟨h500, hn0, hn5⟩ := HOK.out hE
    subst hE
    have CL2 := Lib.hid (CL.out w2 hB2 h500)
    have HZ2 := Lib.hid hz2
    clear hb2 CB CC hB2 KA KM KC CL HV hz2
    go_wp2_with fail
    refine CL2.out.mono ?_
    rintro e w3 ⟨v3, rfl, hO, hB3⟩
    have q0 := Lib.hid ((hB3.cell (p := ⟨w.heap.size, 0, none⟩) HZ2.out).trans e0)
    have q1 := Lib.hid ((hB3.cell (p := ⟨w.heap.size, 1, none⟩) HZ2.out).trans e1)
    have q2 := Lib.hid ((hB3.cell (p := ⟨w.heap.size, 2, none⟩) HZ2.out).trans e2)
    have CS := Lib.hid (near_sort w2.heap.size v3 l w.heap.size r g b w3 hO (by omega) q0.out q1.out q2.out HZ2.out hB3.size)
    have HB3 := Lib.hid hB3
    obtain ⟨ao3, cap3, rfl⟩ := hO.shape
    clear hO hB3 e0 e1 e2 q0 q1 q2 CL2
    go_wp2_with fail
    refine CS.out.mono ?_
    rintro e w4 ⟨rfl, hB4, ao4, cap4, hv4, hc4, hm4, hG⟩
    simp only [Value.slice.injEq, true_and] at hv4
    obtain ⟨rfl, rfl⟩ := hv4
    have HG := Lib.hid hG
    have HB4 := Lib.hid (show Below w.heap.size w w4 from HB2.out.trans ((HB3.out.mono (Nat.le_of_lt HZ2.out)).trans (hB4.mono (Nat.le_of_lt HZ2.out))))
    clear hG hB4 CS HB3 HB2
    unfold maxLen at hm4
    obtain ⟨n', rfl⟩ : ∃ n' : Nat, n = n' := ⟨n.toNat, by omega⟩
    have HT := Lib.hid (show ∀ m, (n' ≤ l.length ∧ m = n') ∨ (l.length < n' ∧ m = l.length) → (stb (nearKey r g b) l).take (n' : Int).toNat = (stb (nearKey r g b) l).take m from fun m hm => by
      rw [Int.toNat_natCast]
      rcases hm with ⟨_, rfl⟩ | ⟨h, rfl⟩
      · rfl
      · have : (stb (nearKey r g b) l).length = l.length := stb_len l
        rw [List.take_of_length_le (by omega), List.take_of_length_le (by omega)])
    by_cases hnl : n' ≤ l.length
    · have mm1 : min (n' : Int) l.length = n' := by omega
      have mm2 : (n' : Int) ≤ (l.length : Int) := by omega
      have mm3 : ¬ ((l.length : Int) < n') := by omega
      have hnc : n' ≤ cap3 := by omega
      have HM := Lib.hid (HT.out n' (.inl ⟨hnl, rfl⟩))
      have HGS := Lib.hid (fun W (hW : Below w4.heap.size w4 W) => HG.out n' W hnl hW)
      clear HT HG
      go_wp2_with (go_at_call 21; refine (gels_clip _ _ _ _ hnc (by omega)).mono ?_; rintro e w' ⟨rfl, rfl⟩)
      refine bodyPost_ret (v := .tuple #[.slice ao3 n' n', .int .i64 0]) (by simp [results, Try.results5, go_sem, *]) rfl ((HPO.out _ _).2 ⟨HB4.out, _, rfl, fun h => absurd rfl h, fun _ => by rw [HM.out]; exact HGS.out _ (Below.refl _ _)⟩)
    · have mm1 : min (n' : Int) l.length = l.length := by omega
      have mm2 : ¬ ((n' : Int) ≤ (l.length : Int)) := by omega
      have mm3 : ((l.length : Int) < n') := by omega
      have mm4 : ¬ ((n' : Int) < (l.length : Int)) := by omega
      have HM := Lib.hid (HT.out l.length (.inr ⟨by omega, rfl⟩))
      have HGS := Lib.hid (fun W (hW : Below w4.heap.size w4 W) => HG.out l.length W (Nat.le_refl _) hW)
      clear HT HG
      go_wp2_with (go_at_call 21; refine (gels_clip _ _ _ _ hc4 (by omega)).mono ?_; rintro e w' ⟨rfl, rfl⟩)
      refine bodyPost_ret (v := .tuple #[.slice ao3 l.length l.length, .int .i64 0]) (by simp [results, Try.results5, go_sem, *]) rfl ((HPO.out _ _).2 ⟨HB4.out, _, rfl, fun h => absurd rfl h, fun _ => by rw [HM.out]; exact HGS.out _ (Below.refl _ _)⟩)
end Go.Proofs.Ytpmiinamaofnnaa
